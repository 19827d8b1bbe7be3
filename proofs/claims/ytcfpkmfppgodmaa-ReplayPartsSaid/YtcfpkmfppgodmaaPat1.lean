/- ref16.proc, Append, Reduce and make.with, for patterns that grow: written by gen_pat1.py. -/
import Derived.Test.YtcfpkmfppgodmaaPatS
import Derived.Test.YtcfpkmfppgodmaaBx
set_option linter.unusedVariables false
set_option linter.unusedSimpArgs false
set_option maxRecDepth 100000
namespace Go.Proofs.Ytcfpkmfppgodmaa
open Go.RowKit Go.Proofs

theorem info_Arc : (Try.prog.info? 62).map (fun i => (i.zero, i.size, i.bytes)) = some (some (.agg #[.int .i64 0, .int .i64 0, .int .i64 0, .int .i64 0]), 4, 32) := by kernel_rfl
section
variable {P : Program} {ops : Array Oper} {o : Oper} {a : Act} {w : World} {K : Act → World → Prop} {Q : Exit → Act → World → Prop} {E : Prop}
/-- append(nil, xs...): a row of the call's own. -/
theorem step_clone (hgd : o.guard = none) (x : Operand) (t : TypeId) (ho : o.op = .call { callee := .builtin .append, args := #[.const (.slice none 0 0), x], argTypes := #[t, t] })
    (e : TypeId) (i : TypeInfo) (z : Value) (size bytes : Nat) (ht : P.underlying t = some (.slice e)) (hi : P.info? e = some i) (hz : i.zero = some z)
    (hsize : i.size = size) (hby : i.bytes = bytes) (hzs : z.cells.size = size) (hsz : 0 < size)
    (S : Nat → Prop) (A : Option Addr) (m c : Nat) (news : List Value) (hx : a.eval x = .slice A m c) (hr : Reads w S size A m news) (h1 : ∀ u ∈ news, u.oneCell' = true)
    (h63 : m ≤ maxLen) (hbytes : m * bytes ≤ 140737488355328)
    (h : ∀ A' c' w', w'.ownsRow w.heap.size e size (.slice A' m c') m news → Keep w w' → (∀ b, (Value.slice A' m c').ownBlock = some b → b = w.heap.size) → K (a.put o.dst (.slice A' m c')) w') :
    if Region.wanted o (yielded ops a.tmps) = true then Oper.wp P o a w K Q else E := by
  refine step_append_any w hgd (.const (.slice none 0 0)) x t ho w.heap.size e i z size bytes ht hi hz hsize hby hzs hsz (.slice none 0 0) 0 [] rfl (World.ownsRow_nil _ _ _ _) S A m c news hx hr h1 (by rw [Nat.zero_add]; exact h63) (by rw [Nat.zero_add]; exact hbytes) (Nat.le_refl _) ?_
  intro v' w' how hg hat
  rw [Nat.zero_add, List.nil_append] at how
  obtain ⟨A', c', rfl, -, -⟩ := own_form how
  refine h A' c' w' how (Same.append (Same.refl _ _) (World.ownsRow_nil w w.heap.size e size) hg (fun i hi => hi) (Nat.le_refl _)) (fun b hb => ?_)
  rcases hat with h | h
  · rw [h] at hb; cases hb
  · rw [h] at hb; injection hb with hb; exact hb.symm
end
theorem own_low {w : World} {base base' n size : Nat} {e : TypeId} {v : Value} {xs : List Value} (h : w.ownsRow base e size v n xs) (hb : base' ≤ base) : w.ownsRow base' e size v n xs := by
  refine ⟨h.1, ?_⟩
  rcases h.2 with hn | ⟨g, cap, cur, e1, hbg, rest⟩
  · exact .inl hn
  · exact .inr ⟨g, cap, cur, e1, Nat.le_trans hb hbg, rest⟩
def ApX (w : World) (V : Value) (wx : World) : Prop := Same (fun i => i < w.heap.size ∧ V.ownBlock ≠ some i) w wx
theorem apx_keep {w wx : World} {V : Value} (h : Keep w wx) : ApX w V wx := h.mono (fun i hi => hi.1)
def TruePost (w : World) (e : Ending) (w' : World) : Prop := e = .returned (.bool true) ∧ Keep w w'
set_option maxHeartbeats 4000000 in
theorem proc_ok (w : World) (A1 : Option Addr) (n c1 q : Nat) (VC VA : Value) (a2 a3 : Option Addr) (m2 k2 m3 k3 : Nat) (hq : q < n) (e2 : VC = .slice a2 m2 k2) (e3 : VA = .slice a3 m3 k3) : Calls Try.prog 45 #[.agg #[.slice A1 n c1, VC, VA], .int .i64 q] w (TruePost w) := by
  subst e2 e3
  generalize hW : w.alloc (.cells #[.slice A1 n c1, .slice a2 m2 k2, .slice a3 m3 k3] 32) = W
  have hkW : Keep w W := hW ▸ Keep.new w _
  have hb : Blk W w.heap.size 32 #[.slice A1 n c1, .slice a2 m2 k2, .slice a3 m3 k3] := hW ▸ Blk.new w _ _
  have c0 : W.cell? ⟨w.heap.size, 0, none⟩ = some (.slice A1 n c1) := by rw [hb.cell]; rfl
  have t0 : decide ((0 : Int) ≤ (q : Int)) = true := by simp
  have t1 : decide ((q : Int) < (n : Int)) = true := by simp; exact hq
  have t2 : decide (q < n) = true := by simpa using hq
  have HKW := Lib.hid hkW
  have HB := Lib.hid hb
  clear hkW hb
  go_enter Try.func45, Try.ntmps45
  go_upto_region 1 with fail
  clear hW
  go_wp2_with fail
  go_ret
  exact ⟨rfl, HKW.out⟩
/-- A pattern's value: lengths and messages in rows of the call's own. -/
def PatPost (VC : Value) (n : Nat) (ls : List Nat) (arcs : List Arc) (w : World) (V : Value) (w' : World) : Prop :=
  ∃ (A1 A3 : Option Addr) (c1 c3 : Nat), V = .agg #[.slice A1 n c1, VC, .slice A3 arcs.length c3] ∧ w'.ownsRow w.heap.size 3 1 (.slice A1 n c1) n ((intsN ls).flatMap encI) ∧ w'.ownsRow w.heap.size 62 4 (.slice A3 arcs.length c3) arcs.length (arcs.flatMap encArc) ∧ (∀ b, (Value.slice A1 n c1).ownBlock = some b → (Value.slice A3 arcs.length c3).ownBlock ≠ some b) ∧ Keep w w'
def ApdPost (VC : Value) (n : Nat) (ls : List Nat) (arcs : List Arc) (w : World) (e : Ending) (w' : World) : Prop := ∃ V, e = .returned (.tuple #[V, .bool true]) ∧ PatPost VC n ls arcs w V w'
/-- Behind the literal 'out': lengths and messages cloned, out in block g. -/
def ApC (w : World) (VC : Value) (n m : Nat) (ls : List Nat) (arcs : List Arc) (p : Value) (wx : World) : Prop :=
  ∃ (g : Nat) (A1 A3 : Option Addr) (c1 c3 : Nat), p = .pointer (some ⟨g, 0, none⟩) ∧ w.heap.size ≤ g ∧ Blk wx g 32 #[.slice A1 n c1, VC, .slice A3 m c3] ∧ wx.ownsRow w.heap.size 3 1 (.slice A1 n c1) n ((intsN ls).flatMap encI) ∧ wx.ownsRow w.heap.size 62 4 (.slice A3 m c3) m (arcs.flatMap encArc) ∧
    (∀ b, (Value.slice A1 n c1).ownBlock = some b → (Value.slice A3 m c3).ownBlock ≠ some b ∧ b ≠ g) ∧ (∀ b, (Value.slice A3 m c3).ownBlock = some b → b ≠ g) ∧ Keep w wx
theorem bld_pat0 : Try.prog.built 32 [] = some #[.slice none 0 0, .slice none 0 0, .slice none 0 0] := by kernel_rfl
theorem bld_pat3 (A1 A2 A3 : Option Addr) (n1 c1 n2 c2 n3 c3 : Nat) : Try.prog.built 32 [(0, .slice A1 n1 c1), (1, .slice A2 n2 c2), (2, .slice A3 n3 c3)] = some #[.slice A1 n1 c1, .slice A2 n2 c2, .slice A3 n3 c3] := by kernel_rfl
theorem bld_arc (a b c d : Int) : Try.prog.built 62 [(0, .int .i64 a), (1, .int .i64 b), (2, .int .i64 c), (3, .int .i64 d)] = some #[.int .i64 a, .int .i64 b, .int .i64 c, .int .i64 d] := by kernel_rfl
theorem builtS_arc (a b c d : Int) : builtS Try.prog 62 1 [(0, .agg #[.int .i64 a, .int .i64 b, .int .i64 c, .int .i64 d])] = some #[.int .i64 a, .int .i64 b, .int .i64 c, .int .i64 d] := by kernel_rfl
theorem ints_one (l : List Int) : ∀ u ∈ l.flatMap encI, u.oneCell' = true := by
  intro u hu
  obtain ⟨a, -, ha⟩ := List.mem_flatMap.1 hu
  exact encI_one a u ha
theorem arcs_one (l : List Arc) : ∀ u ∈ l.flatMap encArc, u.oneCell' = true := by
  intro u hu
  obtain ⟨a, -, ha⟩ := List.mem_flatMap.1 hu
  exact encArc_one a u ha
set_option maxHeartbeats 16000000 in
theorem append_tick (w : World) (S : Nat → Prop) (A1 A2 A3 : Option Addr) (n c1 n2 c2 c3 q : Nat) (ls : List Nat) (arcs : List Arc) (hS : ∀ i, S i → i < w.heap.size) (hl : Sl encI 1 w S A1 n c1 (intsN ls)) (ha : Sl encArc 4 w S A3 arcs.length c3 arcs) (hn : n ≤ 1000) (hq : q < n) (h64 : ls.getD q 0 < 64) (hm : arcs.length < 256) :
    Calls Try.prog 46 #[.agg #[.slice A1 n c1, .slice A2 n2 c2, .slice A3 arcs.length c3], .int .i64 q, .int .i64 (-1), .int .i64 0] w (ApdPost (.slice A2 n2 c2) n (upN ls q) arcs w) := by
  obtain ⟨iI, hi0, iz0, is0, ib0⟩ := info_of info_Int
  obtain ⟨iA, hj0, jz0, js0, jb0⟩ := info_of info_Arc
  have hnl := hl.1
  rw [intsN_len] at hnl
  generalize hW : (w.alloc (.cells #[.slice A1 n c1, .slice A2 n2 c2, .slice A3 arcs.length c3] 32)).alloc (.cells #[.slice none 0 0, .slice none 0 0, .slice none 0 0] 32) = W
  have hkW : Keep w W := hW ▸ Keep.alloc (Keep.new w _) _
  have hb4 : Blk W w.heap.size 32 #[.slice A1 n c1, .slice A2 n2 c2, .slice A3 arcs.length c3] := hW ▸ (Blk.new w _ _).alloc _
  have hb8 : Blk W (w.heap.size + 1) 32 #[.slice none 0 0, .slice none 0 0, .slice none 0 0] := hW ▸ (by simpa using Blk.new (w.alloc _) _ _)
  have hzW := hb8.lt
  obtain ⟨bl, ol, lv, hAl, hSl, hlv, hcl⟩ := hl.at_ encI_len hq
  have hlv2 : lv = ((ls.getD q 0 : Nat) : Int) := by rw [intsN_get (by omega)] at hlv; injection hlv with h; exact h.symm
  subst hlv2
  subst hAl
  generalize hm9 : arcs.length = m at *
  obtain ⟨x, hx⟩ : ∃ x, x = ls.getD q 0 := ⟨_, rfl⟩
  rw [← hx] at h64 hcl
  have c0 : W.cell? ⟨w.heap.size, 0, none⟩ = some (.slice (some ⟨bl, ol, none⟩) n c1) := by rw [hb4.cell]; rfl
  have hbl := hS _ hSl
  have q0 : (0 : Int) ≤ q := by omega
  have q1 : (q : Int) < n := by omega
  have x1 : ∀ wx, Keep w wx → wx.cell? ⟨bl, ol + q, none⟩ = some (.int .i64 x) := fun wx hx => (hx.cell (p := ⟨bl, ol + q, none⟩) hbl).trans (by have := hcl 0 _ rfl; simpa using this)
  have t64 : decide ((64 : Int) ≤ (x : Int)) = false := by simp; omega
  have t64' : decide (64 ≤ x) = false := by simp; omega
  clear hcl hlv
  have HKW := Lib.hid hkW
  have HB4 := Lib.hid hb4
  have HB8 := Lib.hid hb8
  have HL := Lib.hid hl
  have HA := Lib.hid ha
  have HS := Lib.hid hS
  have HNL := Lib.hid hnl
  have HI0 := Lib.hid hi0
  have IZ0 := Lib.hid iz0
  have IS0 := Lib.hid is0
  have IB0 := Lib.hid ib0
  have HJ0 := Lib.hid hj0
  have JZ0 := Lib.hid jz0
  have JS0 := Lib.hid js0
  have JB0 := Lib.hid jb0
  have X1 := Lib.hid x1
  have HX := Lib.hid hx
  have HM9 := Lib.hid hm9
  clear hkW hb4 hb8 hl ha hS hnl hi0 iz0 is0 ib0 hj0 jz0 js0 jb0 x1 hx hm9
  go_enter Try.func46, Try.ntmps46
  go_upto_region 1 with fail
  clear hW
  go_wp2_with (refine wpList_load_all rfl _ (.tmp 4) rfl w.heap.size 32 [.slice (some ⟨bl, ol, none⟩) n c1, .slice A2 n2 c2, .slice A3 m c3] _ rfl HB4.out Try.underlying32 rfl (by kernel_rfl) ?_)
  refine (proc_ok W _ n c1 q _ _ A2 A3 n2 c2 m c3 hq rfl rfl).mono ?_
  rintro e w2 ⟨rfl, hk12⟩
  have hk2 := Keep.trans HKW.out hk12
  have hz12 := hk12.size
  have hb42 := hk12.blk HB4.out (by omega)
  have hb82 := hk12.blk HB8.out hzW
  have c02 : w2.cell? ⟨w.heap.size, 0, none⟩ = some (.slice (some ⟨bl, ol, none⟩) n c1) := by rw [hb42.cell]; rfl
  have x2 := X1.out w2 hk2
  clear c0
  have HB42 := Lib.hid hb42
  have HB82 := Lib.hid hb82
  clear hb42 hb82
  go_upto_region 3 with fail
  clear c02 x2
  go_cut [10] from 24 to 32 (fun p wx => ApC w2 (.slice A2 n2 c2) n m ls arcs p wx)
  case first =>
    have hb4' := HB42.out
    have hl4 := hb4'.lt
    have y0 : ∀ wx, Keep w2 wx → wx.cell? ⟨w.heap.size, 0, none⟩ = some (.slice (some ⟨bl, ol, none⟩) n c1) := fun wx hx => by rw [(hx.blk hb4' hl4).cell]; rfl
    have y1 : ∀ wx, Keep w2 wx → wx.cell? ⟨w.heap.size, 1, none⟩ = some (.slice A2 n2 c2) := fun wx hx => by rw [(hx.blk hb4' hl4).cell]; rfl
    have y2 : ∀ wx, Keep w2 wx → wx.cell? ⟨w.heap.size, 2, none⟩ = some (.slice A3 m c3) := fun wx hx => by rw [(hx.blk hb4' hl4).cell]; rfl
    have hL : ∀ u, Keep w2 u → Reads u S 1 (some ⟨bl, ol, none⟩) n ((intsN ls).flatMap encI) := fun u hu => (HL.out.keep ((Keep.trans hk2 hu).mono HS.out)).2.2.2
    have hA9 : ∀ u, Keep w2 u → Reads u S 4 A3 m (arcs.flatMap encArc) := fun u hu => (HA.out.keep ((Keep.trans hk2 hu).mono HS.out)).2.2.2
    have hk2' := Same.refl (· < w2.heap.size) w2
    have HK2 := Lib.hid hk2
    clear hk2
    refine wp_region_L 99 (fun _ => True) (fun wx => Keep w2 wx) (by kernel_rfl) trivial (Same.drew (Same.refl _ _)) (fun hA hB => ?_)
    generalize hu0 : w2.drew = u0 at hB ⊢
    clear hu0
    have hz0 := hB.size
    refine wpL_takeB (i := 0) (v := ?_) rfl (by kernel_rfl) (by kernel_rfl) (by kernel_rfl) (by decide) (fun _ _ _ h => h) (Or.inl ⟨by rfl, ?_⟩) (SAB.both hA hB) ?_
    rotate_left
    · intro wx hBx
      (try dsimp only at hBx)
      go_simp
      try with_reducible rfl
    try simp only [Act.put, List.setIfInBounds_toArray, List.set_cons_zero, List.set_cons_succ]
    refine wpL_takeB (i := 1) (v := ?_) rfl (by kernel_rfl) (by kernel_rfl) (by kernel_rfl) (by decide) (fun _ _ _ h => h) (Or.inl ⟨by rfl, ?_⟩) (SAB.both hA hB) ?_
    rotate_left
    · intro wx hBx
      (try dsimp only at hBx)
      go_simp
      try with_reducible rfl
    try simp only [Act.put, List.setIfInBounds_toArray, List.set_cons_zero, List.set_cons_succ]
    refine wpL_takeB (i := 3) (v := ?_) rfl (by kernel_rfl) (by kernel_rfl) (by kernel_rfl) (by decide) (fun _ _ _ h => h) (Or.inl ⟨by rfl, ?_⟩) (SAB.both hA hB) ?_
    rotate_left
    · intro wx hBx
      (try dsimp only at hBx)
      go_simp
      try with_reducible rfl
    try simp only [Act.put, List.setIfInBounds_toArray, List.set_cons_zero, List.set_cons_succ]
    refine wpL_takeB (i := 4) (v := ?_) rfl (by kernel_rfl) (by kernel_rfl) (by kernel_rfl) (by decide) (fun _ _ _ h => h) (Or.inl ⟨by rfl, ?_⟩) (SAB.both hA hB) ?_
    rotate_left
    · intro wx hBx
      (try dsimp only at hBx)
      go_simp
      try with_reducible rfl
    try simp only [Act.put, List.setIfInBounds_toArray, List.set_cons_zero, List.set_cons_succ]
    refine wpL_takeB (i := 5) (v := ?_) rfl (by kernel_rfl) (by kernel_rfl) (by kernel_rfl) (by decide) (fun _ _ _ h => h) (Or.inl ⟨by rfl, ?_⟩) (SAB.both hA hB) ?_
    rotate_left
    · intro wx hBx
      (try dsimp only at hBx)
      go_simp
      try with_reducible rfl
    try simp only [Act.put, List.setIfInBounds_toArray, List.set_cons_zero, List.set_cons_succ]
    refine wpL_takeB (i := 6) (v := ?_) rfl (by kernel_rfl) (by kernel_rfl) (by kernel_rfl) (by decide) (fun _ _ _ h => h) (Or.inl ⟨by rfl, ?_⟩) (SAB.both hA hB) ?_
    rotate_left
    · intro wx hBx
      (try dsimp only at hBx)
      go_simp
      try with_reducible rfl
    try simp only [Act.put, List.setIfInBounds_toArray, List.set_cons_zero, List.set_cons_succ]
    clear y0 y1 y2
    refine wpL_two (i := 2) (j := 9) (by kernel_rfl) (StepL.mk rfl (fun K hK => ?_)) (StepL.mk rfl (fun K hK => ?_))
    · refine step_clone rfl (.tmp 25) 23 rfl 3 iI _ 1 8 Try.underlying23 HI0.out IZ0.out IS0.out IB0.out rfl (by omega) _ (some ⟨bl, ol, none⟩) n c1 ((intsN ls).flatMap encI) rfl (hL u0 hB) (ints_one _) (by simp [maxLen]; omega) (by omega) ?_
      intro L1 lc1 u1 hlo hlk hlb
      have hlt := fun b hb => (hlo.lt b hb).2
      have hz1 := hlk.size
      have hB9 := Keep.trans hB hlk
      refine hK.out _ _ (SAB.both trivial hB9) (fun hSS => ?_)
      clear hK K hA hB
      have hB := hSS.2
      have hA := hSS.1 (by kernel_rfl)
      (try dsimp only at hB); (try dsimp only at hA); clear hSS
      try simp only [Act.put, List.setIfInBounds_toArray, List.set_cons_zero, List.set_cons_succ]
      clear hB9
      refine wpL_two (i := 7) (j := 9) (by kernel_rfl) (StepL.mk rfl (fun K hK => ?_)) (StepL.mk rfl (fun K hK => ?_))
      · refine step_clone rfl (.tmp 30) 30 rfl 62 iA _ 4 32 Try.underlying30 HJ0.out JZ0.out JS0.out JB0.out rfl (by omega) _ A3 m c3 (arcs.flatMap encArc) rfl (hA9 u1 hB) (arcs_one _) (by simp [maxLen]; omega) (by omega) ?_
        intro R1 rc1 u2 hro hrk hrb
        have hrt := fun b hb => (hro.lt b hb).2
        have hz2 := hrk.size
        have hlo := ownsRow_same hlo hrk (fun i hi => hi.2)
        have hB9 := Keep.trans hB hrk
        refine hK.out _ _ (SAB.both trivial hB9) (fun hSS => ?_)
        clear hK K hA hB
        have hB := hSS.2
        have hA := hSS.1 (by kernel_rfl)
        (try dsimp only at hB); (try dsimp only at hA); clear hSS
        try simp only [Act.put, List.setIfInBounds_toArray, List.set_cons_zero, List.set_cons_succ]
        clear hB9
        refine wpL_takeB (i := 8) rfl (by kernel_rfl) (by kernel_rfl) (by kernel_rfl) (by decide) (fun _ _ _ h => h) (yieldsIf_bld (by rfl) 32 _ rfl _ [(0, .slice L1 n lc1), (1, .slice A2 n2 c2), (2, .slice R1 m rc1)] rfl (bld_pat3 _ _ _ _ _ _ _ _ _)) (SAB.both hA hB) ?_
        try simp only [Act.put, List.setIfInBounds_toArray, List.set_cons_zero, List.set_cons_succ]
        refine wpL_one (i := 9) (by kernel_rfl) (StepL.mk rfl (fun K hK => ?_))
        go_simp
        have hgk : Keep u2 (u2.alloc (.cells #[.slice none 0 0, .slice none 0 0, .slice none 0 0] 32)) := Keep.new _ _
        have hgb : Blk (u2.alloc (.cells #[.slice none 0 0, .slice none 0 0, .slice none 0 0] 32)) u2.heap.size 32 #[.slice none 0 0, .slice none 0 0, .slice none 0 0] := Blk.new _ _ _
        have hgl := hgb.lt
        generalize u2.alloc (.cells #[.slice none 0 0, .slice none 0 0, .slice none 0 0] 32) = u3 at hgk hgb hgl ⊢
        obtain ⟨g, hg⟩ : ∃ g, g = u2.heap.size := ⟨_, rfl⟩
        rw [← hg] at hgb hgl
        have hgl0 := hgl
        rw [← hg]
        have hz3 := hgk.size
        have hlo := ownsRow_same hlo hgk (fun i hi => hi.2)
        have hro := ownsRow_same hro hgk (fun i hi => hi.2)
        have hB9 := Keep.trans hB hgk
        refine hK.out _ _ (SAB.both trivial hB9) (fun hSS => ?_)
        clear hK K hA hB
        have hB := hSS.2
        have hA := hSS.1 (by kernel_rfl)
        (try dsimp only at hB); (try dsimp only at hA); clear hSS
        try simp only [Act.put, List.setIfInBounds_toArray, List.set_cons_zero, List.set_cons_succ]
        clear hB9
        refine wpL_one (i := 10) (by kernel_rfl) (StepL.mk rfl (fun K hK => ?_))
        refine step_store_blk rfl _ _ _ rfl g 0 32 _ [.slice L1 n lc1, .slice A2 n2 c2, .slice R1 m rc1] rfl rfl hgb (by simp) (by kernel_rfl) rfl ?_
        intro v5 hv5 hs5
        rw [splice_all [.slice L1 n lc1, .slice A2 n2 c2, .slice R1 m rc1] #[.slice none 0 0, .slice none 0 0, .slice none 0 0] rfl] at hv5
        have hzB := hB.size
        have q1 : ∀ b, (Value.slice L1 n lc1).ownBlock = some b → (Value.slice R1 m rc1).ownBlock ≠ some b ∧ b ≠ g := fun b hb => ⟨fun hb2 => (by have h1 := hlb b hb; have h2 := hrb b hb2; have h3 := hlt b hb; omega), fun hb2 => (by have h1 := hlb b hb; have h3 := hlt b hb; omega)⟩
        have q2 : ∀ b, (Value.slice R1 m rc1).ownBlock = some b → b ≠ g := fun b hb hb2 => by have h1 := hrb b hb; have h3 := hrt b hb; omega
        have hfin : ApC w2 (.slice A2 n2 c2) n m ls arcs (.pointer (some ⟨g, 0, none⟩)) v5 := ⟨g, L1, R1, lc1, rc1, rfl, by omega, hv5, own_low (ownsRow_own hlo hs5 (fun b hb => (q1 b hb).2)) (by omega), own_low (ownsRow_own hro hs5 (fun b hb => q2 b hb)) (by omega), q1, q2, Keep.write hB hs5 (by omega)⟩
        have hk95 : Keep w2 v5 := Keep.write hB hs5 (by omega)
        refine hK.out _ _ (SAB.both trivial hk95) (fun hSS => ?_)
        clear hK K hA hB
        have hB := hSS.2
        have hA : True := trivial
        (try dsimp only at hB); (try dsimp only at hA); clear hSS
        try simp only [Act.put, List.setIfInBounds_toArray, List.set_cons_zero, List.set_cons_succ]
        refine wpL_done (by kernel_rfl) ?_
        have HFIN := Lib.hid hfin
        clear hfin
        clear hv5 hs5 hgb hlo hro hA hB hk95
        go_wp2_with fail
        go_meet
        exact HFIN.out
      · go_simp
        have hgk : Keep u1 (u1.alloc (.cells #[.slice none 0 0, .slice none 0 0, .slice none 0 0] 32)) := Keep.new _ _
        have hgb : Blk (u1.alloc (.cells #[.slice none 0 0, .slice none 0 0, .slice none 0 0] 32)) u1.heap.size 32 #[.slice none 0 0, .slice none 0 0, .slice none 0 0] := Blk.new _ _ _
        have hgl := hgb.lt
        generalize u1.alloc (.cells #[.slice none 0 0, .slice none 0 0, .slice none 0 0] 32) = u2 at hgk hgb hgl ⊢
        obtain ⟨g, hg⟩ : ∃ g, g = u1.heap.size := ⟨_, rfl⟩
        rw [← hg] at hgb hgl
        have hgl0 := hgl
        rw [← hg]
        have hz2 := hgk.size
        have hlo := ownsRow_same hlo hgk (fun i hi => hi.2)
        have hB9 := Keep.trans hB hgk
        refine hK.out _ _ (SAB.both trivial hB9) (fun hSS => ?_)
        clear hK K hA hB
        have hB := hSS.2
        have hA := hSS.1 (by kernel_rfl)
        (try dsimp only at hB); (try dsimp only at hA); clear hSS
        try simp only [Act.put, List.setIfInBounds_toArray, List.set_cons_zero, List.set_cons_succ]
        clear hB9
        refine wpL_one (i := 7) (by kernel_rfl) (StepL.mk rfl (fun K hK => ?_))
        refine step_clone rfl (.tmp 30) 30 rfl 62 iA _ 4 32 Try.underlying30 HJ0.out JZ0.out JS0.out JB0.out rfl (by omega) _ A3 m c3 (arcs.flatMap encArc) rfl (hA9 u2 hB) (arcs_one _) (by simp [maxLen]; omega) (by omega) ?_
        intro R1 rc1 u3 hro hrk hrb
        have hrt := fun b hb => (hro.lt b hb).2
        have hz3 := hrk.size
        have hlo := ownsRow_same hlo hrk (fun i hi => hi.2)
        have hgb := hrk.blk hgb hgl
        have hgl := hgb.lt
        have hB9 := Keep.trans hB hrk
        refine hK.out _ _ (SAB.both trivial hB9) (fun hSS => ?_)
        clear hK K hA hB
        have hB := hSS.2
        have hA := hSS.1 (by kernel_rfl)
        (try dsimp only at hB); (try dsimp only at hA); clear hSS
        try simp only [Act.put, List.setIfInBounds_toArray, List.set_cons_zero, List.set_cons_succ]
        clear hB9
        refine wpL_takeB (i := 8) rfl (by kernel_rfl) (by kernel_rfl) (by kernel_rfl) (by decide) (fun _ _ _ h => h) (yieldsIf_bld (by rfl) 32 _ rfl _ [(0, .slice L1 n lc1), (1, .slice A2 n2 c2), (2, .slice R1 m rc1)] rfl (bld_pat3 _ _ _ _ _ _ _ _ _)) (SAB.both hA hB) ?_
        try simp only [Act.put, List.setIfInBounds_toArray, List.set_cons_zero, List.set_cons_succ]
        refine wpL_one (i := 10) (by kernel_rfl) (StepL.mk rfl (fun K hK => ?_))
        refine step_store_blk rfl _ _ _ rfl g 0 32 _ [.slice L1 n lc1, .slice A2 n2 c2, .slice R1 m rc1] rfl rfl hgb (by simp) (by kernel_rfl) rfl ?_
        intro v5 hv5 hs5
        rw [splice_all [.slice L1 n lc1, .slice A2 n2 c2, .slice R1 m rc1] #[.slice none 0 0, .slice none 0 0, .slice none 0 0] rfl] at hv5
        have hzB := hB.size
        have q1 : ∀ b, (Value.slice L1 n lc1).ownBlock = some b → (Value.slice R1 m rc1).ownBlock ≠ some b ∧ b ≠ g := fun b hb => ⟨fun hb2 => (by have h1 := hlb b hb; have h2 := hrb b hb2; have h3 := hlt b hb; omega), fun hb2 => (by have h1 := hlb b hb; have h3 := hlt b hb; omega)⟩
        have q2 : ∀ b, (Value.slice R1 m rc1).ownBlock = some b → b ≠ g := fun b hb hb2 => by have h1 := hrb b hb; have h3 := hgl0; omega
        have hfin : ApC w2 (.slice A2 n2 c2) n m ls arcs (.pointer (some ⟨g, 0, none⟩)) v5 := ⟨g, L1, R1, lc1, rc1, rfl, by omega, hv5, own_low (ownsRow_own hlo hs5 (fun b hb => (q1 b hb).2)) (by omega), own_low (ownsRow_own hro hs5 (fun b hb => q2 b hb)) (by omega), q1, q2, Keep.write hB hs5 (by omega)⟩
        have hk95 : Keep w2 v5 := Keep.write hB hs5 (by omega)
        refine hK.out _ _ (SAB.both trivial hk95) (fun hSS => ?_)
        clear hK K hA hB
        have hB := hSS.2
        have hA : True := trivial
        (try dsimp only at hB); (try dsimp only at hA); clear hSS
        try simp only [Act.put, List.setIfInBounds_toArray, List.set_cons_zero, List.set_cons_succ]
        refine wpL_done (by kernel_rfl) ?_
        have HFIN := Lib.hid hfin
        clear hfin
        clear hv5 hs5 hgb hlo hro hA hB hk95
        go_wp2_with fail
        go_meet
        exact HFIN.out
    · go_simp
      have hgk : Keep u0 (u0.alloc (.cells #[.slice none 0 0, .slice none 0 0, .slice none 0 0] 32)) := Keep.new _ _
      have hgb : Blk (u0.alloc (.cells #[.slice none 0 0, .slice none 0 0, .slice none 0 0] 32)) u0.heap.size 32 #[.slice none 0 0, .slice none 0 0, .slice none 0 0] := Blk.new _ _ _
      have hgl := hgb.lt
      generalize u0.alloc (.cells #[.slice none 0 0, .slice none 0 0, .slice none 0 0] 32) = u1 at hgk hgb hgl ⊢
      obtain ⟨g, hg⟩ : ∃ g, g = u0.heap.size := ⟨_, rfl⟩
      rw [← hg] at hgb hgl
      have hgl0 := hgl
      rw [← hg]
      have hz1 := hgk.size
      have hB9 := Keep.trans hB hgk
      refine hK.out _ _ (SAB.both trivial hB9) (fun hSS => ?_)
      clear hK K hA hB
      have hB := hSS.2
      have hA := hSS.1 (by kernel_rfl)
      (try dsimp only at hB); (try dsimp only at hA); clear hSS
      try simp only [Act.put, List.setIfInBounds_toArray, List.set_cons_zero, List.set_cons_succ]
      clear hB9
      refine wpL_one (i := 2) (by kernel_rfl) (StepL.mk rfl (fun K hK => ?_))
      refine step_clone rfl (.tmp 25) 23 rfl 3 iI _ 1 8 Try.underlying23 HI0.out IZ0.out IS0.out IB0.out rfl (by omega) _ (some ⟨bl, ol, none⟩) n c1 ((intsN ls).flatMap encI) rfl (hL u1 hB) (ints_one _) (by simp [maxLen]; omega) (by omega) ?_
      intro L1 lc1 u2 hlo hlk hlb
      have hlt := fun b hb => (hlo.lt b hb).2
      have hz2 := hlk.size
      have hgb := hlk.blk hgb hgl
      have hgl := hgb.lt
      have hB9 := Keep.trans hB hlk
      refine hK.out _ _ (SAB.both trivial hB9) (fun hSS => ?_)
      clear hK K hA hB
      have hB := hSS.2
      have hA := hSS.1 (by kernel_rfl)
      (try dsimp only at hB); (try dsimp only at hA); clear hSS
      try simp only [Act.put, List.setIfInBounds_toArray, List.set_cons_zero, List.set_cons_succ]
      clear hB9
      refine wpL_one (i := 7) (by kernel_rfl) (StepL.mk rfl (fun K hK => ?_))
      refine step_clone rfl (.tmp 30) 30 rfl 62 iA _ 4 32 Try.underlying30 HJ0.out JZ0.out JS0.out JB0.out rfl (by omega) _ A3 m c3 (arcs.flatMap encArc) rfl (hA9 u2 hB) (arcs_one _) (by simp [maxLen]; omega) (by omega) ?_
      intro R1 rc1 u3 hro hrk hrb
      have hrt := fun b hb => (hro.lt b hb).2
      have hz3 := hrk.size
      have hgb := hrk.blk hgb hgl
      have hgl := hgb.lt
      have hlo := ownsRow_same hlo hrk (fun i hi => hi.2)
      have hB9 := Keep.trans hB hrk
      refine hK.out _ _ (SAB.both trivial hB9) (fun hSS => ?_)
      clear hK K hA hB
      have hB := hSS.2
      have hA := hSS.1 (by kernel_rfl)
      (try dsimp only at hB); (try dsimp only at hA); clear hSS
      try simp only [Act.put, List.setIfInBounds_toArray, List.set_cons_zero, List.set_cons_succ]
      clear hB9
      refine wpL_takeB (i := 8) rfl (by kernel_rfl) (by kernel_rfl) (by kernel_rfl) (by decide) (fun _ _ _ h => h) (yieldsIf_bld (by rfl) 32 _ rfl _ [(0, .slice L1 n lc1), (1, .slice A2 n2 c2), (2, .slice R1 m rc1)] rfl (bld_pat3 _ _ _ _ _ _ _ _ _)) (SAB.both hA hB) ?_
      try simp only [Act.put, List.setIfInBounds_toArray, List.set_cons_zero, List.set_cons_succ]
      refine wpL_one (i := 10) (by kernel_rfl) (StepL.mk rfl (fun K hK => ?_))
      refine step_store_blk rfl _ _ _ rfl g 0 32 _ [.slice L1 n lc1, .slice A2 n2 c2, .slice R1 m rc1] rfl rfl hgb (by simp) (by kernel_rfl) rfl ?_
      intro v5 hv5 hs5
      rw [splice_all [.slice L1 n lc1, .slice A2 n2 c2, .slice R1 m rc1] #[.slice none 0 0, .slice none 0 0, .slice none 0 0] rfl] at hv5
      have hzB := hB.size
      have q1 : ∀ b, (Value.slice L1 n lc1).ownBlock = some b → (Value.slice R1 m rc1).ownBlock ≠ some b ∧ b ≠ g := fun b hb => ⟨fun hb2 => (by have h1 := hlb b hb; have h2 := hrb b hb2; have h3 := hlt b hb; omega), fun hb2 => (by have h1 := hlb b hb; have h3 := hgl0; omega)⟩
      have q2 : ∀ b, (Value.slice R1 m rc1).ownBlock = some b → b ≠ g := fun b hb hb2 => by have h1 := hrb b hb; have h3 := hgl0; omega
      have hfin : ApC w2 (.slice A2 n2 c2) n m ls arcs (.pointer (some ⟨g, 0, none⟩)) v5 := ⟨g, L1, R1, lc1, rc1, rfl, by omega, hv5, own_low (ownsRow_own hlo hs5 (fun b hb => (q1 b hb).2)) (by omega), own_low (ownsRow_own hro hs5 (fun b hb => q2 b hb)) (by omega), q1, q2, Keep.write hB hs5 (by omega)⟩
      have hk95 : Keep w2 v5 := Keep.write hB hs5 (by omega)
      refine hK.out _ _ (SAB.both trivial hk95) (fun hSS => ?_)
      clear hK K hA hB
      have hB := hSS.2
      have hA : True := trivial
      (try dsimp only at hB); (try dsimp only at hA); clear hSS
      try simp only [Act.put, List.setIfInBounds_toArray, List.set_cons_zero, List.set_cons_succ]
      refine wpL_done (by kernel_rfl) ?_
      have HFIN := Lib.hid hfin
      clear hfin
      clear hv5 hs5 hgb hlo hro hA hB hk95
      go_wp2_with fail
      go_meet
      exact HFIN.out
  case rest =>
    obtain ⟨g, L1, R1, lc1, rc1, rfl, hgw, hgb, hlo, hro, hq1, hq2, hkc⟩ := hcut
    obtain ⟨gl, cur, rfl, hbg, hbk, hcs, hnc, hcm, htk⟩ := own_open hlo (by omega)
    obtain ⟨gx, ox, av, haa, -, hav, hca⟩ := (own_ints hlo).at_ encI_len hq
    simp only [Option.some.injEq, Addr.mk.injEq, and_true] at haa
    obtain ⟨rfl, rfl⟩ := haa
    have hav2 : av = (x : Int) := by rw [intsN_get (by have := HNL.out; omega)] at hav; injection hav with h; rw [← h, HX.out]
    subst hav2
    have hq1' := hq1 gl rfl
    have hzc := hkc.size
    have hgl := hbk.lt
    have hgg := hgb.lt
    have p0 : wc.cell? ⟨g, 0, none⟩ = some (.slice (some ⟨gl, 0, none⟩) n lc1) := by rw [hgb.cell]; rfl
    have p1 : wc.cell? ⟨gl, q, none⟩ = some (.int .i64 x) := by have := hca 0 _ rfl; simpa using this
    have hqc : q < cur.size := by rcases Nat.lt_or_ge q cur.size with h | h; · exact h
                                  · rw [hbk.cell, Array.getElem?_eq_none h] at p1; cases p1
    have hlen : (intsN ls).length = n := by rw [intsN_len]; exact HNL.out.symm
    have HGB := Lib.hid hgb
    have HLO := Lib.hid hlo
    have HRO := Lib.hid hro
    have HQ1 := Lib.hid hq1
    have HQ2 := Lib.hid hq2
    have HKC := Lib.hid hkc
    have HBK := Lib.hid hbk
    have HCS := Lib.hid hcs
    have HTK := Lib.hid htk
    have HAV := Lib.hid hav
    have HLEN := Lib.hid hlen
    clear hgb hlo hro hq1 hq2 hkc hbk hcs htk hav hlen
    clear hca
    go_upto_region 5 with (refine wpList_store_one rfl _ (.tmp 39) (.tmp 38) rfl gl q 3 cur (.int .i64 (x + 1)) rfl rfl HBK.out hqc (by kernel_rfl) rfl rfl ?_; intro w9 hb9 hs9)
    have hrow : w9.ownsRow w2.heap.size 3 1 (.slice (some ⟨gl, 0, none⟩) n lc1) n ((intsN (upN ls q)).flatMap encI) := by
      have := row_put (k := q) (o := 0) (e' := (x : Int) + 1) encI_len hbg (by simpa using hb9) HCS.out hnc hcm HTK.out HLEN.out HAV.out (by omega) rfl
      have e : (intsN ls).set q ((x : Int) + 1) = intsN (upN ls q) := by
        unfold upN
        rw [← intsN_set, ← HX.out]
        rfl
      rwa [e] at this
    have hro9 := ownsRow_own HRO.out hs9 (fun b hb e => hq1'.1 (e ▸ hb))
    have hgb9 := hs9.blk HGB.out (fun e => hq1'.2 e.symm)
    have hk29 : Keep w2 w9 := Keep.write HKC.out hs9 hbg
    have hz9 := hk29.size
    have hb49 := hk29.blk HB42.out HB42.out.lt
    have hb89 := hk29.blk HB82.out HB82.out.lt
    have hl4 := hb49.lt
    have hl8 := HB82.out.lt
    have hzw := hk2.size
    have HROW := Lib.hid hrow
    have HRO9 := Lib.hid hro9
    have HGB9 := Lib.hid hgb9
    have HK29 := Lib.hid hk29
    have HB49 := Lib.hid hb49
    have HB89 := Lib.hid hb89
    have HK2 := Lib.hid hk2
    clear hrow hro9 hgb9 hk29 hb49 hb89 hk2
    clear p0 p1 hb9 hs9 HGB HLO HRO HKC HBK HCS HTK HAV
    go_wp2_with (first
      | (refine wpList_load_all rfl _ (.tmp 10) rfl g 32 [.slice (some ⟨gl, 0, none⟩) n lc1, .slice A2 n2 c2, .slice R1 m rc1] _ rfl HGB9.out Try.underlying32 rfl (by kernel_rfl) ?_)
      | (refine wpList_store_all rfl _ (.tmp 8) (.tmp 42) rfl (w.heap.size + 1) 32 _ [.slice (some ⟨gl, 0, none⟩) n lc1, .slice A2 n2 c2, .slice R1 m rc1] rfl rfl HB89.out rfl (by kernel_rfl) rfl ?_; intro v6 hv6 hs6))
    have hro6 := own_low (base' := w.heap.size) (ownsRow_own HRO9.out hs6 (fun b hb e => by have := (HRO9.out.lt b hb).1; omega)) (by omega)
    rw [← HM9.out] at hro6
    refine bodyPost_ret (results_cell_tmp' Try.results46 _ _ _ ⟨w.heap.size + 1, 0, none⟩ _ _ rfl rfl (loadVar_blk [.slice (some ⟨gl, 0, none⟩) n lc1, .slice A2 n2 c2, .slice R1 m rc1] _ hv6 (fun j v hv => by simpa using hv) Try.underlying32 rfl (by kernel_rfl))) rfl ?_
    exact ⟨_, rfl, _, R1, lc1, rc1, by rw [HM9.out], own_low (ownsRow_own HROW.out hs6 (fun b hb e => by have := (HROW.out.lt b hb).1; omega)) (by omega), hro6, by rw [HM9.out]; exact fun b hb => (HQ1.out b hb).1, Keep.write (Keep.trans HK2.out HK29.out) hs6 (by omega)⟩

set_option maxHeartbeats 16000000 in
theorem append_recv (w : World) (S : Nat → Prop) (A1 A2 A3 : Option Addr) (n c1 n2 c2 c3 q s i : Nat) (ls : List Nat) (arcs : List Arc) (hS : ∀ i, S i → i < w.heap.size) (hl : Sl encI 1 w S A1 n c1 (intsN ls)) (ha : Sl encArc 4 w S A3 arcs.length c3 arcs) (hn : n ≤ 1000) (hq : q < n) (h64 : ls.getD q 0 < 64) (hm : arcs.length < 256) (hs : s < n) (hsq : s ≠ q) (hi : i ≤ ls.getD s 0) :
    Calls Try.prog 46 #[.agg #[.slice A1 n c1, .slice A2 n2 c2, .slice A3 arcs.length c3], .int .i64 q, .int .i64 s, .int .i64 i] w (ApdPost (.slice A2 n2 c2) n (upN ls q) (arcs ++ [⟨s, i, q, ls.getD q 0 + 1⟩]) w) := by
  obtain ⟨iI, hi0, iz0, is0, ib0⟩ := info_of info_Int
  obtain ⟨iA, hj0, jz0, js0, jb0⟩ := info_of info_Arc
  have hnl := hl.1
  rw [intsN_len] at hnl
  generalize hW : (w.alloc (.cells #[.slice A1 n c1, .slice A2 n2 c2, .slice A3 arcs.length c3] 32)).alloc (.cells #[.slice none 0 0, .slice none 0 0, .slice none 0 0] 32) = W
  have hkW : Keep w W := hW ▸ Keep.alloc (Keep.new w _) _
  have hb4 : Blk W w.heap.size 32 #[.slice A1 n c1, .slice A2 n2 c2, .slice A3 arcs.length c3] := hW ▸ (Blk.new w _ _).alloc _
  have hb8 : Blk W (w.heap.size + 1) 32 #[.slice none 0 0, .slice none 0 0, .slice none 0 0] := hW ▸ (by simpa using Blk.new (w.alloc _) _ _)
  have hzW := hb8.lt
  obtain ⟨bl, ol, lv, hAl, hSl, hlv, hcl⟩ := hl.at_ encI_len hq
  have hlv2 : lv = ((ls.getD q 0 : Nat) : Int) := by rw [intsN_get (by omega)] at hlv; injection hlv with h; exact h.symm
  subst hlv2
  subst hAl
  generalize hm9 : arcs.length = m at *
  obtain ⟨x, hx⟩ : ∃ x, x = ls.getD q 0 := ⟨_, rfl⟩
  rw [← hx] at h64 hcl
  have c0 : W.cell? ⟨w.heap.size, 0, none⟩ = some (.slice (some ⟨bl, ol, none⟩) n c1) := by rw [hb4.cell]; rfl
  have hbl := hS _ hSl
  have q0 : (0 : Int) ≤ q := by omega
  have q1 : (q : Int) < n := by omega
  have x1 : ∀ wx, Keep w wx → wx.cell? ⟨bl, ol + q, none⟩ = some (.int .i64 x) := fun wx hx => (hx.cell (p := ⟨bl, ol + q, none⟩) hbl).trans (by have := hcl 0 _ rfl; simpa using this)
  have t64 : decide ((64 : Int) ≤ (x : Int)) = false := by simp; omega
  have t64' : decide (64 ≤ x) = false := by simp; omega
  clear hcl hlv
  have HKW := Lib.hid hkW
  have HB4 := Lib.hid hb4
  have HB8 := Lib.hid hb8
  have HL := Lib.hid hl
  have HA := Lib.hid ha
  have HS := Lib.hid hS
  have HNL := Lib.hid hnl
  have HI0 := Lib.hid hi0
  have IZ0 := Lib.hid iz0
  have IS0 := Lib.hid is0
  have IB0 := Lib.hid ib0
  have HJ0 := Lib.hid hj0
  have JZ0 := Lib.hid jz0
  have JS0 := Lib.hid js0
  have JB0 := Lib.hid jb0
  have X1 := Lib.hid x1
  have HX := Lib.hid hx
  have HM9 := Lib.hid hm9
  clear hkW hb4 hb8 hl ha hS hnl hi0 iz0 is0 ib0 hj0 jz0 js0 jb0 x1 hx hm9
  go_enter Try.func46, Try.ntmps46
  go_upto_region 1 with fail
  clear hW
  go_wp2_with (refine wpList_load_all rfl _ (.tmp 4) rfl w.heap.size 32 [.slice (some ⟨bl, ol, none⟩) n c1, .slice A2 n2 c2, .slice A3 m c3] _ rfl HB4.out Try.underlying32 rfl (by kernel_rfl) ?_)
  refine (proc_ok W _ n c1 q _ _ A2 A3 n2 c2 m c3 hq rfl rfl).mono ?_
  rintro e w2 ⟨rfl, hk12⟩
  have hk2 := Keep.trans HKW.out hk12
  have hz12 := hk12.size
  have hb42 := hk12.blk HB4.out (by omega)
  have hb82 := hk12.blk HB8.out hzW
  have c02 : w2.cell? ⟨w.heap.size, 0, none⟩ = some (.slice (some ⟨bl, ol, none⟩) n c1) := by rw [hb42.cell]; rfl
  have x2 := X1.out w2 hk2
  clear c0
  have HB42 := Lib.hid hb42
  have HB82 := Lib.hid hb82
  clear hb42 hb82
  go_upto_region 3 with fail
  clear c02 x2
  go_cut [10] from 24 to 32 (fun p wx => ApC w2 (.slice A2 n2 c2) n m ls arcs p wx)
  case first =>
    have hb4' := HB42.out
    have hl4 := hb4'.lt
    have y0 : ∀ wx, Keep w2 wx → wx.cell? ⟨w.heap.size, 0, none⟩ = some (.slice (some ⟨bl, ol, none⟩) n c1) := fun wx hx => by rw [(hx.blk hb4' hl4).cell]; rfl
    have y1 : ∀ wx, Keep w2 wx → wx.cell? ⟨w.heap.size, 1, none⟩ = some (.slice A2 n2 c2) := fun wx hx => by rw [(hx.blk hb4' hl4).cell]; rfl
    have y2 : ∀ wx, Keep w2 wx → wx.cell? ⟨w.heap.size, 2, none⟩ = some (.slice A3 m c3) := fun wx hx => by rw [(hx.blk hb4' hl4).cell]; rfl
    have hL : ∀ u, Keep w2 u → Reads u S 1 (some ⟨bl, ol, none⟩) n ((intsN ls).flatMap encI) := fun u hu => (HL.out.keep ((Keep.trans hk2 hu).mono HS.out)).2.2.2
    have hA9 : ∀ u, Keep w2 u → Reads u S 4 A3 m (arcs.flatMap encArc) := fun u hu => (HA.out.keep ((Keep.trans hk2 hu).mono HS.out)).2.2.2
    have hk2' := Same.refl (· < w2.heap.size) w2
    have HK2 := Lib.hid hk2
    clear hk2
    refine wp_region_L 99 (fun _ => True) (fun wx => Keep w2 wx) (by kernel_rfl) trivial (Same.drew (Same.refl _ _)) (fun hA hB => ?_)
    generalize hu0 : w2.drew = u0 at hB ⊢
    clear hu0
    have hz0 := hB.size
    refine wpL_takeB (i := 0) (v := ?_) rfl (by kernel_rfl) (by kernel_rfl) (by kernel_rfl) (by decide) (fun _ _ _ h => h) (Or.inl ⟨by rfl, ?_⟩) (SAB.both hA hB) ?_
    rotate_left
    · intro wx hBx
      (try dsimp only at hBx)
      go_simp
      try with_reducible rfl
    try simp only [Act.put, List.setIfInBounds_toArray, List.set_cons_zero, List.set_cons_succ]
    refine wpL_takeB (i := 1) (v := ?_) rfl (by kernel_rfl) (by kernel_rfl) (by kernel_rfl) (by decide) (fun _ _ _ h => h) (Or.inl ⟨by rfl, ?_⟩) (SAB.both hA hB) ?_
    rotate_left
    · intro wx hBx
      (try dsimp only at hBx)
      go_simp
      try with_reducible rfl
    try simp only [Act.put, List.setIfInBounds_toArray, List.set_cons_zero, List.set_cons_succ]
    refine wpL_takeB (i := 3) (v := ?_) rfl (by kernel_rfl) (by kernel_rfl) (by kernel_rfl) (by decide) (fun _ _ _ h => h) (Or.inl ⟨by rfl, ?_⟩) (SAB.both hA hB) ?_
    rotate_left
    · intro wx hBx
      (try dsimp only at hBx)
      go_simp
      try with_reducible rfl
    try simp only [Act.put, List.setIfInBounds_toArray, List.set_cons_zero, List.set_cons_succ]
    refine wpL_takeB (i := 4) (v := ?_) rfl (by kernel_rfl) (by kernel_rfl) (by kernel_rfl) (by decide) (fun _ _ _ h => h) (Or.inl ⟨by rfl, ?_⟩) (SAB.both hA hB) ?_
    rotate_left
    · intro wx hBx
      (try dsimp only at hBx)
      go_simp
      try with_reducible rfl
    try simp only [Act.put, List.setIfInBounds_toArray, List.set_cons_zero, List.set_cons_succ]
    refine wpL_takeB (i := 5) (v := ?_) rfl (by kernel_rfl) (by kernel_rfl) (by kernel_rfl) (by decide) (fun _ _ _ h => h) (Or.inl ⟨by rfl, ?_⟩) (SAB.both hA hB) ?_
    rotate_left
    · intro wx hBx
      (try dsimp only at hBx)
      go_simp
      try with_reducible rfl
    try simp only [Act.put, List.setIfInBounds_toArray, List.set_cons_zero, List.set_cons_succ]
    refine wpL_takeB (i := 6) (v := ?_) rfl (by kernel_rfl) (by kernel_rfl) (by kernel_rfl) (by decide) (fun _ _ _ h => h) (Or.inl ⟨by rfl, ?_⟩) (SAB.both hA hB) ?_
    rotate_left
    · intro wx hBx
      (try dsimp only at hBx)
      go_simp
      try with_reducible rfl
    try simp only [Act.put, List.setIfInBounds_toArray, List.set_cons_zero, List.set_cons_succ]
    clear y0 y1 y2
    refine wpL_two (i := 2) (j := 9) (by kernel_rfl) (StepL.mk rfl (fun K hK => ?_)) (StepL.mk rfl (fun K hK => ?_))
    · refine step_clone rfl (.tmp 25) 23 rfl 3 iI _ 1 8 Try.underlying23 HI0.out IZ0.out IS0.out IB0.out rfl (by omega) _ (some ⟨bl, ol, none⟩) n c1 ((intsN ls).flatMap encI) rfl (hL u0 hB) (ints_one _) (by simp [maxLen]; omega) (by omega) ?_
      intro L1 lc1 u1 hlo hlk hlb
      have hlt := fun b hb => (hlo.lt b hb).2
      have hz1 := hlk.size
      have hB9 := Keep.trans hB hlk
      refine hK.out _ _ (SAB.both trivial hB9) (fun hSS => ?_)
      clear hK K hA hB
      have hB := hSS.2
      have hA := hSS.1 (by kernel_rfl)
      (try dsimp only at hB); (try dsimp only at hA); clear hSS
      try simp only [Act.put, List.setIfInBounds_toArray, List.set_cons_zero, List.set_cons_succ]
      clear hB9
      refine wpL_two (i := 7) (j := 9) (by kernel_rfl) (StepL.mk rfl (fun K hK => ?_)) (StepL.mk rfl (fun K hK => ?_))
      · refine step_clone rfl (.tmp 30) 30 rfl 62 iA _ 4 32 Try.underlying30 HJ0.out JZ0.out JS0.out JB0.out rfl (by omega) _ A3 m c3 (arcs.flatMap encArc) rfl (hA9 u1 hB) (arcs_one _) (by simp [maxLen]; omega) (by omega) ?_
        intro R1 rc1 u2 hro hrk hrb
        have hrt := fun b hb => (hro.lt b hb).2
        have hz2 := hrk.size
        have hlo := ownsRow_same hlo hrk (fun i hi => hi.2)
        have hB9 := Keep.trans hB hrk
        refine hK.out _ _ (SAB.both trivial hB9) (fun hSS => ?_)
        clear hK K hA hB
        have hB := hSS.2
        have hA := hSS.1 (by kernel_rfl)
        (try dsimp only at hB); (try dsimp only at hA); clear hSS
        try simp only [Act.put, List.setIfInBounds_toArray, List.set_cons_zero, List.set_cons_succ]
        clear hB9
        refine wpL_takeB (i := 8) rfl (by kernel_rfl) (by kernel_rfl) (by kernel_rfl) (by decide) (fun _ _ _ h => h) (yieldsIf_bld (by rfl) 32 _ rfl _ [(0, .slice L1 n lc1), (1, .slice A2 n2 c2), (2, .slice R1 m rc1)] rfl (bld_pat3 _ _ _ _ _ _ _ _ _)) (SAB.both hA hB) ?_
        try simp only [Act.put, List.setIfInBounds_toArray, List.set_cons_zero, List.set_cons_succ]
        refine wpL_one (i := 9) (by kernel_rfl) (StepL.mk rfl (fun K hK => ?_))
        go_simp
        have hgk : Keep u2 (u2.alloc (.cells #[.slice none 0 0, .slice none 0 0, .slice none 0 0] 32)) := Keep.new _ _
        have hgb : Blk (u2.alloc (.cells #[.slice none 0 0, .slice none 0 0, .slice none 0 0] 32)) u2.heap.size 32 #[.slice none 0 0, .slice none 0 0, .slice none 0 0] := Blk.new _ _ _
        have hgl := hgb.lt
        generalize u2.alloc (.cells #[.slice none 0 0, .slice none 0 0, .slice none 0 0] 32) = u3 at hgk hgb hgl ⊢
        obtain ⟨g, hg⟩ : ∃ g, g = u2.heap.size := ⟨_, rfl⟩
        rw [← hg] at hgb hgl
        have hgl0 := hgl
        rw [← hg]
        have hz3 := hgk.size
        have hlo := ownsRow_same hlo hgk (fun i hi => hi.2)
        have hro := ownsRow_same hro hgk (fun i hi => hi.2)
        have hB9 := Keep.trans hB hgk
        refine hK.out _ _ (SAB.both trivial hB9) (fun hSS => ?_)
        clear hK K hA hB
        have hB := hSS.2
        have hA := hSS.1 (by kernel_rfl)
        (try dsimp only at hB); (try dsimp only at hA); clear hSS
        try simp only [Act.put, List.setIfInBounds_toArray, List.set_cons_zero, List.set_cons_succ]
        clear hB9
        refine wpL_one (i := 10) (by kernel_rfl) (StepL.mk rfl (fun K hK => ?_))
        refine step_store_blk rfl _ _ _ rfl g 0 32 _ [.slice L1 n lc1, .slice A2 n2 c2, .slice R1 m rc1] rfl rfl hgb (by simp) (by kernel_rfl) rfl ?_
        intro v5 hv5 hs5
        rw [splice_all [.slice L1 n lc1, .slice A2 n2 c2, .slice R1 m rc1] #[.slice none 0 0, .slice none 0 0, .slice none 0 0] rfl] at hv5
        have hzB := hB.size
        have q1 : ∀ b, (Value.slice L1 n lc1).ownBlock = some b → (Value.slice R1 m rc1).ownBlock ≠ some b ∧ b ≠ g := fun b hb => ⟨fun hb2 => (by have h1 := hlb b hb; have h2 := hrb b hb2; have h3 := hlt b hb; omega), fun hb2 => (by have h1 := hlb b hb; have h3 := hlt b hb; omega)⟩
        have q2 : ∀ b, (Value.slice R1 m rc1).ownBlock = some b → b ≠ g := fun b hb hb2 => by have h1 := hrb b hb; have h3 := hrt b hb; omega
        have hfin : ApC w2 (.slice A2 n2 c2) n m ls arcs (.pointer (some ⟨g, 0, none⟩)) v5 := ⟨g, L1, R1, lc1, rc1, rfl, by omega, hv5, own_low (ownsRow_own hlo hs5 (fun b hb => (q1 b hb).2)) (by omega), own_low (ownsRow_own hro hs5 (fun b hb => q2 b hb)) (by omega), q1, q2, Keep.write hB hs5 (by omega)⟩
        have hk95 : Keep w2 v5 := Keep.write hB hs5 (by omega)
        refine hK.out _ _ (SAB.both trivial hk95) (fun hSS => ?_)
        clear hK K hA hB
        have hB := hSS.2
        have hA : True := trivial
        (try dsimp only at hB); (try dsimp only at hA); clear hSS
        try simp only [Act.put, List.setIfInBounds_toArray, List.set_cons_zero, List.set_cons_succ]
        refine wpL_done (by kernel_rfl) ?_
        have HFIN := Lib.hid hfin
        clear hfin
        clear hv5 hs5 hgb hlo hro hA hB hk95
        go_wp2_with fail
        go_meet
        exact HFIN.out
      · go_simp
        have hgk : Keep u1 (u1.alloc (.cells #[.slice none 0 0, .slice none 0 0, .slice none 0 0] 32)) := Keep.new _ _
        have hgb : Blk (u1.alloc (.cells #[.slice none 0 0, .slice none 0 0, .slice none 0 0] 32)) u1.heap.size 32 #[.slice none 0 0, .slice none 0 0, .slice none 0 0] := Blk.new _ _ _
        have hgl := hgb.lt
        generalize u1.alloc (.cells #[.slice none 0 0, .slice none 0 0, .slice none 0 0] 32) = u2 at hgk hgb hgl ⊢
        obtain ⟨g, hg⟩ : ∃ g, g = u1.heap.size := ⟨_, rfl⟩
        rw [← hg] at hgb hgl
        have hgl0 := hgl
        rw [← hg]
        have hz2 := hgk.size
        have hlo := ownsRow_same hlo hgk (fun i hi => hi.2)
        have hB9 := Keep.trans hB hgk
        refine hK.out _ _ (SAB.both trivial hB9) (fun hSS => ?_)
        clear hK K hA hB
        have hB := hSS.2
        have hA := hSS.1 (by kernel_rfl)
        (try dsimp only at hB); (try dsimp only at hA); clear hSS
        try simp only [Act.put, List.setIfInBounds_toArray, List.set_cons_zero, List.set_cons_succ]
        clear hB9
        refine wpL_one (i := 7) (by kernel_rfl) (StepL.mk rfl (fun K hK => ?_))
        refine step_clone rfl (.tmp 30) 30 rfl 62 iA _ 4 32 Try.underlying30 HJ0.out JZ0.out JS0.out JB0.out rfl (by omega) _ A3 m c3 (arcs.flatMap encArc) rfl (hA9 u2 hB) (arcs_one _) (by simp [maxLen]; omega) (by omega) ?_
        intro R1 rc1 u3 hro hrk hrb
        have hrt := fun b hb => (hro.lt b hb).2
        have hz3 := hrk.size
        have hlo := ownsRow_same hlo hrk (fun i hi => hi.2)
        have hgb := hrk.blk hgb hgl
        have hgl := hgb.lt
        have hB9 := Keep.trans hB hrk
        refine hK.out _ _ (SAB.both trivial hB9) (fun hSS => ?_)
        clear hK K hA hB
        have hB := hSS.2
        have hA := hSS.1 (by kernel_rfl)
        (try dsimp only at hB); (try dsimp only at hA); clear hSS
        try simp only [Act.put, List.setIfInBounds_toArray, List.set_cons_zero, List.set_cons_succ]
        clear hB9
        refine wpL_takeB (i := 8) rfl (by kernel_rfl) (by kernel_rfl) (by kernel_rfl) (by decide) (fun _ _ _ h => h) (yieldsIf_bld (by rfl) 32 _ rfl _ [(0, .slice L1 n lc1), (1, .slice A2 n2 c2), (2, .slice R1 m rc1)] rfl (bld_pat3 _ _ _ _ _ _ _ _ _)) (SAB.both hA hB) ?_
        try simp only [Act.put, List.setIfInBounds_toArray, List.set_cons_zero, List.set_cons_succ]
        refine wpL_one (i := 10) (by kernel_rfl) (StepL.mk rfl (fun K hK => ?_))
        refine step_store_blk rfl _ _ _ rfl g 0 32 _ [.slice L1 n lc1, .slice A2 n2 c2, .slice R1 m rc1] rfl rfl hgb (by simp) (by kernel_rfl) rfl ?_
        intro v5 hv5 hs5
        rw [splice_all [.slice L1 n lc1, .slice A2 n2 c2, .slice R1 m rc1] #[.slice none 0 0, .slice none 0 0, .slice none 0 0] rfl] at hv5
        have hzB := hB.size
        have q1 : ∀ b, (Value.slice L1 n lc1).ownBlock = some b → (Value.slice R1 m rc1).ownBlock ≠ some b ∧ b ≠ g := fun b hb => ⟨fun hb2 => (by have h1 := hlb b hb; have h2 := hrb b hb2; have h3 := hlt b hb; omega), fun hb2 => (by have h1 := hlb b hb; have h3 := hlt b hb; omega)⟩
        have q2 : ∀ b, (Value.slice R1 m rc1).ownBlock = some b → b ≠ g := fun b hb hb2 => by have h1 := hrb b hb; have h3 := hgl0; omega
        have hfin : ApC w2 (.slice A2 n2 c2) n m ls arcs (.pointer (some ⟨g, 0, none⟩)) v5 := ⟨g, L1, R1, lc1, rc1, rfl, by omega, hv5, own_low (ownsRow_own hlo hs5 (fun b hb => (q1 b hb).2)) (by omega), own_low (ownsRow_own hro hs5 (fun b hb => q2 b hb)) (by omega), q1, q2, Keep.write hB hs5 (by omega)⟩
        have hk95 : Keep w2 v5 := Keep.write hB hs5 (by omega)
        refine hK.out _ _ (SAB.both trivial hk95) (fun hSS => ?_)
        clear hK K hA hB
        have hB := hSS.2
        have hA : True := trivial
        (try dsimp only at hB); (try dsimp only at hA); clear hSS
        try simp only [Act.put, List.setIfInBounds_toArray, List.set_cons_zero, List.set_cons_succ]
        refine wpL_done (by kernel_rfl) ?_
        have HFIN := Lib.hid hfin
        clear hfin
        clear hv5 hs5 hgb hlo hro hA hB hk95
        go_wp2_with fail
        go_meet
        exact HFIN.out
    · go_simp
      have hgk : Keep u0 (u0.alloc (.cells #[.slice none 0 0, .slice none 0 0, .slice none 0 0] 32)) := Keep.new _ _
      have hgb : Blk (u0.alloc (.cells #[.slice none 0 0, .slice none 0 0, .slice none 0 0] 32)) u0.heap.size 32 #[.slice none 0 0, .slice none 0 0, .slice none 0 0] := Blk.new _ _ _
      have hgl := hgb.lt
      generalize u0.alloc (.cells #[.slice none 0 0, .slice none 0 0, .slice none 0 0] 32) = u1 at hgk hgb hgl ⊢
      obtain ⟨g, hg⟩ : ∃ g, g = u0.heap.size := ⟨_, rfl⟩
      rw [← hg] at hgb hgl
      have hgl0 := hgl
      rw [← hg]
      have hz1 := hgk.size
      have hB9 := Keep.trans hB hgk
      refine hK.out _ _ (SAB.both trivial hB9) (fun hSS => ?_)
      clear hK K hA hB
      have hB := hSS.2
      have hA := hSS.1 (by kernel_rfl)
      (try dsimp only at hB); (try dsimp only at hA); clear hSS
      try simp only [Act.put, List.setIfInBounds_toArray, List.set_cons_zero, List.set_cons_succ]
      clear hB9
      refine wpL_one (i := 2) (by kernel_rfl) (StepL.mk rfl (fun K hK => ?_))
      refine step_clone rfl (.tmp 25) 23 rfl 3 iI _ 1 8 Try.underlying23 HI0.out IZ0.out IS0.out IB0.out rfl (by omega) _ (some ⟨bl, ol, none⟩) n c1 ((intsN ls).flatMap encI) rfl (hL u1 hB) (ints_one _) (by simp [maxLen]; omega) (by omega) ?_
      intro L1 lc1 u2 hlo hlk hlb
      have hlt := fun b hb => (hlo.lt b hb).2
      have hz2 := hlk.size
      have hgb := hlk.blk hgb hgl
      have hgl := hgb.lt
      have hB9 := Keep.trans hB hlk
      refine hK.out _ _ (SAB.both trivial hB9) (fun hSS => ?_)
      clear hK K hA hB
      have hB := hSS.2
      have hA := hSS.1 (by kernel_rfl)
      (try dsimp only at hB); (try dsimp only at hA); clear hSS
      try simp only [Act.put, List.setIfInBounds_toArray, List.set_cons_zero, List.set_cons_succ]
      clear hB9
      refine wpL_one (i := 7) (by kernel_rfl) (StepL.mk rfl (fun K hK => ?_))
      refine step_clone rfl (.tmp 30) 30 rfl 62 iA _ 4 32 Try.underlying30 HJ0.out JZ0.out JS0.out JB0.out rfl (by omega) _ A3 m c3 (arcs.flatMap encArc) rfl (hA9 u2 hB) (arcs_one _) (by simp [maxLen]; omega) (by omega) ?_
      intro R1 rc1 u3 hro hrk hrb
      have hrt := fun b hb => (hro.lt b hb).2
      have hz3 := hrk.size
      have hgb := hrk.blk hgb hgl
      have hgl := hgb.lt
      have hlo := ownsRow_same hlo hrk (fun i hi => hi.2)
      have hB9 := Keep.trans hB hrk
      refine hK.out _ _ (SAB.both trivial hB9) (fun hSS => ?_)
      clear hK K hA hB
      have hB := hSS.2
      have hA := hSS.1 (by kernel_rfl)
      (try dsimp only at hB); (try dsimp only at hA); clear hSS
      try simp only [Act.put, List.setIfInBounds_toArray, List.set_cons_zero, List.set_cons_succ]
      clear hB9
      refine wpL_takeB (i := 8) rfl (by kernel_rfl) (by kernel_rfl) (by kernel_rfl) (by decide) (fun _ _ _ h => h) (yieldsIf_bld (by rfl) 32 _ rfl _ [(0, .slice L1 n lc1), (1, .slice A2 n2 c2), (2, .slice R1 m rc1)] rfl (bld_pat3 _ _ _ _ _ _ _ _ _)) (SAB.both hA hB) ?_
      try simp only [Act.put, List.setIfInBounds_toArray, List.set_cons_zero, List.set_cons_succ]
      refine wpL_one (i := 10) (by kernel_rfl) (StepL.mk rfl (fun K hK => ?_))
      refine step_store_blk rfl _ _ _ rfl g 0 32 _ [.slice L1 n lc1, .slice A2 n2 c2, .slice R1 m rc1] rfl rfl hgb (by simp) (by kernel_rfl) rfl ?_
      intro v5 hv5 hs5
      rw [splice_all [.slice L1 n lc1, .slice A2 n2 c2, .slice R1 m rc1] #[.slice none 0 0, .slice none 0 0, .slice none 0 0] rfl] at hv5
      have hzB := hB.size
      have q1 : ∀ b, (Value.slice L1 n lc1).ownBlock = some b → (Value.slice R1 m rc1).ownBlock ≠ some b ∧ b ≠ g := fun b hb => ⟨fun hb2 => (by have h1 := hlb b hb; have h2 := hrb b hb2; have h3 := hlt b hb; omega), fun hb2 => (by have h1 := hlb b hb; have h3 := hgl0; omega)⟩
      have q2 : ∀ b, (Value.slice R1 m rc1).ownBlock = some b → b ≠ g := fun b hb hb2 => by have h1 := hrb b hb; have h3 := hgl0; omega
      have hfin : ApC w2 (.slice A2 n2 c2) n m ls arcs (.pointer (some ⟨g, 0, none⟩)) v5 := ⟨g, L1, R1, lc1, rc1, rfl, by omega, hv5, own_low (ownsRow_own hlo hs5 (fun b hb => (q1 b hb).2)) (by omega), own_low (ownsRow_own hro hs5 (fun b hb => q2 b hb)) (by omega), q1, q2, Keep.write hB hs5 (by omega)⟩
      have hk95 : Keep w2 v5 := Keep.write hB hs5 (by omega)
      refine hK.out _ _ (SAB.both trivial hk95) (fun hSS => ?_)
      clear hK K hA hB
      have hB := hSS.2
      have hA : True := trivial
      (try dsimp only at hB); (try dsimp only at hA); clear hSS
      try simp only [Act.put, List.setIfInBounds_toArray, List.set_cons_zero, List.set_cons_succ]
      refine wpL_done (by kernel_rfl) ?_
      have HFIN := Lib.hid hfin
      clear hfin
      clear hv5 hs5 hgb hlo hro hA hB hk95
      go_wp2_with fail
      go_meet
      exact HFIN.out
  case rest =>
    obtain ⟨g, L1, R1, lc1, rc1, rfl, hgw, hgb, hlo, hro, hq1, hq2, hkc⟩ := hcut
    obtain ⟨gl, cur, rfl, hbg, hbk, hcs, hnc, hcm, htk⟩ := own_open hlo (by omega)
    obtain ⟨gx, ox, av, haa, -, hav, hca⟩ := (own_ints hlo).at_ encI_len hq
    simp only [Option.some.injEq, Addr.mk.injEq, and_true] at haa
    obtain ⟨rfl, rfl⟩ := haa
    have hav2 : av = (x : Int) := by rw [intsN_get (by have := HNL.out; omega)] at hav; injection hav with h; rw [← h, HX.out]
    subst hav2
    have hq1' := hq1 gl rfl
    have hzc := hkc.size
    have hgl := hbk.lt
    have hgg := hgb.lt
    have p0 : wc.cell? ⟨g, 0, none⟩ = some (.slice (some ⟨gl, 0, none⟩) n lc1) := by rw [hgb.cell]; rfl
    have p1 : wc.cell? ⟨gl, q, none⟩ = some (.int .i64 x) := by have := hca 0 _ rfl; simpa using this
    have hqc : q < cur.size := by rcases Nat.lt_or_ge q cur.size with h | h; · exact h
                                  · rw [hbk.cell, Array.getElem?_eq_none h] at p1; cases p1
    have hlen : (intsN ls).length = n := by rw [intsN_len]; exact HNL.out.symm
    have HGB := Lib.hid hgb
    have HLO := Lib.hid hlo
    have HRO := Lib.hid hro
    have HQ1 := Lib.hid hq1
    have HQ2 := Lib.hid hq2
    have HKC := Lib.hid hkc
    have HBK := Lib.hid hbk
    have HCS := Lib.hid hcs
    have HTK := Lib.hid htk
    have HAV := Lib.hid hav
    have HLEN := Lib.hid hlen
    clear hgb hlo hro hq1 hq2 hkc hbk hcs htk hav hlen
    clear hca
    go_upto_region 5 with (refine wpList_store_one rfl _ (.tmp 39) (.tmp 38) rfl gl q 3 cur (.int .i64 (x + 1)) rfl rfl HBK.out hqc (by kernel_rfl) rfl rfl ?_; intro w9 hb9 hs9)
    have hrow : w9.ownsRow w2.heap.size 3 1 (.slice (some ⟨gl, 0, none⟩) n lc1) n ((intsN (upN ls q)).flatMap encI) := by
      have := row_put (k := q) (o := 0) (e' := (x : Int) + 1) encI_len hbg (by simpa using hb9) HCS.out hnc hcm HTK.out HLEN.out HAV.out (by omega) rfl
      have e : (intsN ls).set q ((x : Int) + 1) = intsN (upN ls q) := by
        unfold upN
        rw [← intsN_set, ← HX.out]
        rfl
      rwa [e] at this
    have hro9 := ownsRow_own HRO.out hs9 (fun b hb e => hq1'.1 (e ▸ hb))
    have hgb9 := hs9.blk HGB.out (fun e => hq1'.2 e.symm)
    have hk29 : Keep w2 w9 := Keep.write HKC.out hs9 hbg
    have hz9 := hk29.size
    have hb49 := hk29.blk HB42.out HB42.out.lt
    have hb89 := hk29.blk HB82.out HB82.out.lt
    have hl4 := hb49.lt
    have hl8 := HB82.out.lt
    have hzw := hk2.size
    have HROW := Lib.hid hrow
    have HRO9 := Lib.hid hro9
    have HGB9 := Lib.hid hgb9
    have HK29 := Lib.hid hk29
    have HB49 := Lib.hid hb49
    have HB89 := Lib.hid hb89
    have HK2 := Lib.hid hk2
    clear hrow hro9 hgb9 hk29 hb49 hb89 hk2
    clear p0 p1 hb9 hs9 HGB HLO HRO HKC HBK HCS HTK HAV
    have t5 : ((s : Int) == -1) = false := by simp
    go_wp2_with (refine wpList_load_all rfl _ (.tmp 4) rfl w.heap.size 32 [.slice (some ⟨bl, ol, none⟩) n c1, .slice A2 n2 c2, .slice A3 m c3] _ rfl HB49.out Try.underlying32 rfl (by kernel_rfl) ?_)
    refine (proc_ok w9 _ n c1 s _ _ A2 A3 n2 c2 m c3 hs rfl rfl).mono ?_
    rintro e w3 ⟨rfl, hk93⟩
    have hz93 := hk93.size
    have hk23 := Keep.trans HK29.out hk93
    have hkw3 := Keep.trans HK2.out hk23
    have hb43 := hk93.blk HB49.out hl4
    have hb83 := hk93.blk HB89.out HB89.out.lt
    have hgb3 := hk93.blk HGB9.out HGB9.out.lt
    have hrow3 := ownsRow_same HROW.out hk93 (fun i hi => hi.2)
    have hro3 := ownsRow_same HRO9.out hk93 (fun i hi => hi.2)
    have hsl : s < ls.length := by have := HNL.out; omega
    obtain ⟨bs, os, sv, hAs, hSs, hsv, hcs3⟩ := (HL.out.keep (hkw3.mono HS.out)).at_ encI_len hs
    simp only [Option.some.injEq, Addr.mk.injEq, and_true] at hAs
    obtain ⟨rfl, rfl⟩ := hAs
    have hsv2 : sv = ((ls.getD s 0 : Nat) : Int) := by rw [intsN_get hsl] at hsv; injection hsv with h; exact h.symm
    subst hsv2
    obtain ⟨y, hy⟩ : ∃ y, y = ls.getD s 0 := ⟨_, rfl⟩
    rw [← hy] at hi hcs3
    have c0 : w3.cell? ⟨w.heap.size, 0, none⟩ = some (.slice (some ⟨bl, ol, none⟩) n c1) := by rw [hb43.cell]; rfl
    have c2' : w3.cell? ⟨w.heap.size, 2, none⟩ = some (.slice A3 m c3) := by rw [hb43.cell]; rfl
    have x3 : w3.cell? ⟨bl, ol + s, none⟩ = some (.int .i64 y) := by have := hcs3 0 _ rfl; simpa using this
    have s0 : (0 : Int) ≤ s := by omega
    have s1 : (s : Int) < n := by omega
    have u1 : ((s : Int) == (q : Int)) = false := by simp; omega
    have u1' : (s == q) = false := by simp; exact hsq
    have u2 : decide ((i : Int) < 0) = false := decide_eq_false (by omega)
    have u3 : decide ((y : Int) < (i : Int)) = false := by simp; omega
    have u3' : decide (y < i) = false := by simp; omega
    have u4 : decide ((256 : Int) ≤ (m : Int)) = false := by simp; omega
    have u4' : decide (256 ≤ m) = false := by simp; omega
    have HB43 := Lib.hid hb43
    have HB83 := Lib.hid hb83
    have HGB3 := Lib.hid hgb3
    have HROW3 := Lib.hid hrow3
    have HRO3 := Lib.hid hro3
    have HK23 := Lib.hid hk23
    have HKW3 := Lib.hid hkw3
    have HY := Lib.hid hy
    clear hb43 hb83 hgb3 hrow3 hro3 hk23 hkw3 hy
    clear hk93 hsv hcs3 HROW HRO9 HGB9 HK29 HB49 HB89
    go_upto_region 9 with fail
    clear c0 c2' x3
    have hg3 := HGB3.out
    have hg3l := hg3.lt
    have hr3 := HROW3.out
    have hl3 := (own_ints hr3)
    obtain ⟨gx, ox, av, haa, -, hav, hca⟩ := hl3.at_ encI_len hq
    simp only [Option.some.injEq, Addr.mk.injEq, and_true] at haa
    obtain ⟨rfl, rfl⟩ := haa
    have hav2 : av = (x : Int) + 1 := by
      rw [intsN_get (by rw [upN_len]; have := HNL.out; omega), upN_self (by have := HNL.out; omega), ← HX.out] at hav
      injection hav with h
      rw [← h]
      rfl
    subst hav2
    have hlg : gl < w3.heap.size := (hr3.lt gl rfl).2
    have hgx0 : (Value.slice R1 m rc1).ownBlock ≠ some g := fun e => HQ2.out g e rfl
    have hgl0 : (Value.slice R1 m rc1).ownBlock ≠ some gl := hq1'.1
    have y0 : ∀ wx, ApX w3 (.slice R1 m rc1) wx → wx.cell? ⟨g, 0, none⟩ = some (.slice (some ⟨gl, 0, none⟩) n lc1) := fun wx hx => by rw [(Same.blk hx hg3 ⟨hg3l, hgx0⟩).cell]; rfl
    have y2 : ∀ wx, ApX w3 (.slice R1 m rc1) wx → wx.cell? ⟨g, 2, none⟩ = some (.slice R1 m rc1) := fun wx hx => by rw [(Same.blk hx hg3 ⟨hg3l, hgx0⟩).cell]; rfl
    have y3 : ∀ wx, ApX w3 (.slice R1 m rc1) wx → wx.cell? ⟨gl, q, none⟩ = some (.int .i64 ((x : Int) + 1)) := fun wx hx => (Same.cell hx (p := ⟨gl, q, none⟩) ⟨hlg, hgl0⟩).trans (by have := hca 0 _ rfl; simpa using this)
    have HGX0 := Lib.hid hgx0
    have HGL0 := Lib.hid hgl0
    clear hgx0 hgl0
    have HG3 := Lib.hid hg3
    have HR3 := Lib.hid hr3
    clear hg3 hr3
    clear hl3 hav hca
    refine wp_region_L 14 (fun wx => ApX w3 (.slice R1 m rc1) wx) (fun _ => True) (by kernel_rfl) (Same.drew (Same.refl _ _)) trivial (fun hA hB => ?_)
    have hku : Keep w3 w3.drew := Same.drew (Same.refl _ _)
    generalize hu0 : w3.drew = u0 at hA hku ⊢
    clear hu0
    refine wpL_takeA (i := 0) (v := ?_) rfl (by kernel_rfl) (by kernel_rfl) (by kernel_rfl) (by kernel_rfl) (by decide) (fun _ _ _ h => h) (Or.inl ⟨by rfl, ?_⟩) hA hB ?_
    rotate_left
    · rintro wx ⟨hAx, hBx⟩
      (try dsimp only at hBx); (try dsimp only at hAx)
      go_simp
      try with_reducible rfl
    try simp only [Act.put, List.setIfInBounds_toArray, List.set_cons_zero, List.set_cons_succ]
    refine wpL_takeA (i := 1) (v := ?_) rfl (by kernel_rfl) (by kernel_rfl) (by kernel_rfl) (by kernel_rfl) (by decide) (fun _ _ _ h => h) (Or.inl ⟨by rfl, ?_⟩) hA hB ?_
    rotate_left
    · rintro wx ⟨hAx, hBx⟩
      (try dsimp only at hBx); (try dsimp only at hAx)
      go_simp
      try with_reducible rfl
    try simp only [Act.put, List.setIfInBounds_toArray, List.set_cons_zero, List.set_cons_succ]
    refine wpL_takeA (i := 2) (v := ?_) rfl (by kernel_rfl) (by kernel_rfl) (by kernel_rfl) (by kernel_rfl) (by decide) (fun _ _ _ h => h) (Or.inl ⟨by rfl, ?_⟩) hA hB ?_
    rotate_left
    · rintro wx ⟨hAx, hBx⟩
      (try dsimp only at hBx); (try dsimp only at hAx)
      go_simp
      try with_reducible rfl
    try simp only [Act.put, List.setIfInBounds_toArray, List.set_cons_zero, List.set_cons_succ]
    refine wpL_takeA (i := 3) (v := ?_) rfl (by kernel_rfl) (by kernel_rfl) (by kernel_rfl) (by kernel_rfl) (by decide) (fun _ _ _ h => h) (Or.inl ⟨by rfl, ?_⟩) hA hB ?_
    rotate_left
    · rintro wx ⟨hAx, hBx⟩
      (try dsimp only at hBx); (try dsimp only at hAx)
      go_simp
      try with_reducible rfl
    try simp only [Act.put, List.setIfInBounds_toArray, List.set_cons_zero, List.set_cons_succ]
    refine wpL_takeA (i := 4) (v := ?_) rfl (by kernel_rfl) (by kernel_rfl) (by kernel_rfl) (by kernel_rfl) (by decide) (fun _ _ _ h => h) (Or.inl ⟨by rfl, ?_⟩) hA hB ?_
    rotate_left
    · rintro wx ⟨hAx, hBx⟩
      (try dsimp only at hBx); (try dsimp only at hAx)
      go_simp
      try with_reducible rfl
    try simp only [Act.put, List.setIfInBounds_toArray, List.set_cons_zero, List.set_cons_succ]
    refine wpL_takeA (i := 5) (v := ?_) rfl (by kernel_rfl) (by kernel_rfl) (by kernel_rfl) (by kernel_rfl) (by decide) (fun _ _ _ h => h) (Or.inl ⟨by rfl, ?_⟩) hA hB ?_
    rotate_left
    · rintro wx ⟨hAx, hBx⟩
      (try dsimp only at hBx); (try dsimp only at hAx)
      go_simp
      try with_reducible rfl
    try simp only [Act.put, List.setIfInBounds_toArray, List.set_cons_zero, List.set_cons_succ]
    refine wpL_takeA (i := 6) (v := ?_) rfl (by kernel_rfl) (by kernel_rfl) (by kernel_rfl) (by kernel_rfl) (by decide) (fun _ _ _ h => h) (Or.inl ⟨by rfl, ?_⟩) hA hB ?_
    rotate_left
    · rintro wx ⟨hAx, hBx⟩
      (try dsimp only at hBx); (try dsimp only at hAx)
      go_simp
      try with_reducible rfl
    try simp only [Act.put, List.setIfInBounds_toArray, List.set_cons_zero, List.set_cons_succ]
    refine wpL_takeA (i := 7) (v := ?_) rfl (by kernel_rfl) (by kernel_rfl) (by kernel_rfl) (by kernel_rfl) (by decide) (fun _ _ _ h => h) (Or.inl ⟨by rfl, ?_⟩) hA hB ?_
    rotate_left
    · rintro wx ⟨hAx, hBx⟩
      (try dsimp only at hBx); (try dsimp only at hAx)
      go_simp
      try with_reducible rfl
    try simp only [Act.put, List.setIfInBounds_toArray, List.set_cons_zero, List.set_cons_succ]
    refine wpL_takeA (i := 8) (v := ?_) rfl (by kernel_rfl) (by kernel_rfl) (by kernel_rfl) (by kernel_rfl) (by decide) (fun _ _ _ h => h) (Or.inl ⟨by rfl, ?_⟩) hA hB ?_
    rotate_left
    · rintro wx ⟨hAx, hBx⟩
      (try dsimp only at hBx); (try dsimp only at hAx)
      go_simp
      try with_reducible rfl
    try simp only [Act.put, List.setIfInBounds_toArray, List.set_cons_zero, List.set_cons_succ]
    refine wpL_takeA (i := 9) (v := ?_) rfl (by kernel_rfl) (by kernel_rfl) (by kernel_rfl) (by kernel_rfl) (by decide) (fun _ _ _ h => h) (Or.inl ⟨by rfl, ?_⟩) hA hB ?_
    rotate_left
    · rintro wx ⟨hAx, hBx⟩
      (try dsimp only at hBx); (try dsimp only at hAx)
      go_simp
      try with_reducible rfl
    try simp only [Act.put, List.setIfInBounds_toArray, List.set_cons_zero, List.set_cons_succ]
    refine wpL_takeA (i := 10) rfl (by kernel_rfl) (by kernel_rfl) (by kernel_rfl) (by kernel_rfl) (by decide) (fun _ _ _ h => h) (yieldsIf_bld (by rfl) 62 _ rfl _ [(0, .int .i64 s), (1, .int .i64 i), (2, .int .i64 q), (3, .int .i64 ((x : Int) + 1))] rfl (bld_arc _ _ _ _)) hA hB ?_
    try simp only [Act.put, List.setIfInBounds_toArray, List.set_cons_zero, List.set_cons_succ]
    refine wpL_one (i := 11) (by kernel_rfl) (StepL.mk rfl (fun K hK => ?_))
    refine step_buildS rfl _ _ _ _ rfl Try.underlying30 _ [(0, .agg #[.int .i64 s, .int .i64 i, .int .i64 q, .int .i64 ((x : Int) + 1)])] rfl (builtS_arc _ _ _ _) ?_
    have henc : encArc ⟨s, i, q, x + 1⟩ = [.int .i64 s, .int .i64 i, .int .i64 q, .int .i64 ((x : Int) + 1)] := by simp [encArc]
    have hkb : Keep u0 (u0.alloc (.cells #[.int .i64 s, .int .i64 i, .int .i64 q, .int .i64 ((x : Int) + 1)] 62)) := Keep.new _ _
    have hrd := Reads.new (w := u0) (e := 62) (cs := [.int .i64 s, .int .i64 i, .int .i64 q, .int .i64 ((x : Int) + 1)]) (size := 4) (n := 1) rfl
    have hA9 := Keep.trans hku hkb
    refine hK.out _ _ (SAB.both (apx_keep hA9) trivial) (fun hSS => ?_)
    clear hK K hA hB
    have hB := hSS.2
    have hA := hSS.1 (by kernel_rfl)
    (try dsimp only at hB); (try dsimp only at hA); clear hSS
    try simp only [Act.put, List.setIfInBounds_toArray, List.set_cons_zero, List.set_cons_succ]
    generalize hu2 : u0.alloc (.cells #[.int .i64 s, .int .i64 i, .int .i64 q, .int .i64 ((x : Int) + 1)] 62) = u2 at *
    have hzu := hA9.size
    have hro2 := ownsRow_same HRO3.out hA9 (fun i hi => hi.2)
    refine wpL_one (i := 12) (by kernel_rfl) (StepL.mk rfl (fun K hK => ?_))
    refine step_append_any _ (by rfl) (.tmp 73) (.tmp 83) _ (by rfl) w2.heap.size 62 iA _ 4 32 Try.underlying30 HJ0.out JZ0.out JS0.out JB0.out rfl (by omega) (.slice R1 m rc1) m (arcs.flatMap encArc) (by rfl) hro2 _ (some ⟨u0.heap.size, 0, none⟩) 1 1 [.int .i64 s, .int .i64 i, .int .i64 q, .int .i64 ((x : Int) + 1)] (by rfl) hrd (by rw [← henc]; exact encArc_one _) (by simp [maxLen]; omega) (by omega) (by omega) ?_
    intro vb wb hownb hgb' hatb
    have hA3 : Same (fun i => i < u2.heap.size ∧ (Value.slice R1 m rc1).ownBlock ≠ some i) u2 wb := Same.grown (Same.refl _ _) hgb' (fun i hi => hi.1) (fun k hk hh => hh.2 hk)
    have hgx : (Value.slice R1 m rc1).ownBlock ≠ some g := fun e => HQ2.out g e rfl
    have hglx : (Value.slice R1 m rc1).ownBlock ≠ some gl := hq1'.1
    have hgbb := hA3.blk (hA9.blk HG3.out hg3l) ⟨by omega, hgx⟩
    have hrowb := ownsRow_own (ownsRow_same HR3.out hA9 (fun i hi => hi.2)) hA3 (fun b hb => ⟨by have := (HR3.out.lt b hb).2; omega, (HQ1.out b hb).1⟩)
    have hkb3 : Keep w2 wb := Same.append (Keep.trans HK23.out hA9) hro2 hgb' (fun i hi => hi) (by omega)
    have hvg : ∀ b, vb.ownBlock = some b → b ≠ g ∧ b ≠ gl := fun b hb => by
      rcases hatb with h | h
      · rw [h] at hb; exact ⟨HQ2.out b hb, fun e => hglx (e ▸ hb)⟩
      · rw [h] at hb; injection hb with hb; omega
    obtain ⟨Ab, cb, hvb, hnb, hcb⟩ := own_form hownb
    subst hvb
    rw [← henc] at hownb
    have hzb := hkb3.size
    have hApx : ApX w3 (.slice R1 m rc1) wb := Same.trans (apx_keep hA9) hA3 (fun i hi => ⟨by have := hi.1; omega, hi.2⟩)
    clear hkb hrd hgb' hatb hA3 y0 y2 y3 hA9 hku
    refine hK.out _ _ (SAB.both hApx trivial) (fun hSS => ?_)
    clear hK K hA hB
    have hB := hSS.2
    have hA := hSS.1 (by kernel_rfl)
    (try dsimp only at hB); (try dsimp only at hA); clear hSS
    try simp only [Act.put, List.setIfInBounds_toArray, List.set_cons_zero, List.set_cons_succ]
    refine wpL_takeA (i := 13) (v := ?_) rfl (by kernel_rfl) (by kernel_rfl) (by kernel_rfl) (by kernel_rfl) (by decide) (fun _ _ _ h => h) (Or.inl ⟨by rfl, ?_⟩) hA hB ?_
    rotate_left
    · rintro wx ⟨hAx, hBx⟩
      (try dsimp only at hBx); (try dsimp only at hAx)
      go_simp
      try with_reducible rfl
    try simp only [Act.put, List.setIfInBounds_toArray, List.set_cons_zero, List.set_cons_succ]
    refine wpL_one (i := 14) (by kernel_rfl) (StepL.mk rfl (fun K hK => ?_))
    refine step_store_one rfl _ _ _ rfl g 2 32 _ (.slice Ab (m + 1) cb) rfl rfl hgbb (by simp) (by kernel_rfl) rfl rfl ?_
    intro w6 hb6 hs6
    have hk26 : Keep w2 w6 := Keep.write hkb3 hs6 hgw
    have hz6 := hk26.size
    have hrow6 := ownsRow_own hrowb hs6 (fun b hb e => (HQ1.out b hb).2 e)
    have hro6 := ownsRow_own hownb hs6 (fun b hb e => (hvg b hb).1 e)
    have hb86 := hk26.blk HB82.out hl8
    have hb6' : Blk w6 g 32 #[.slice (some ⟨gl, 0, none⟩) n lc1, .slice A2 n2 c2, .slice Ab (m + 1) cb] := by simpa using hb6
    refine hK.out _ _ (SAB.past (by kernel_rfl) trivial) (fun hSS => ?_)
    clear hK K hA hB
    have hB := hSS.2
    have hA : True := trivial
    (try dsimp only at hB); (try dsimp only at hA); clear hSS
    try simp only [Act.put, List.setIfInBounds_toArray, List.set_cons_zero, List.set_cons_succ]
    refine wpL_done (by kernel_rfl) ?_
    have HK26 := Lib.hid hk26
    have HROW6 := Lib.hid hrow6
    have HRO6 := Lib.hid hro6
    have HB86 := Lib.hid hb86
    have HB6' := Lib.hid hb6'
    have HVG := Lib.hid hvg
    clear hk26 hrow6 hro6 hb86 hb6' hvg
    clear hb6 hs6 hkb3 hrowb hownb hgbb
    go_wp2_with (first
      | (refine wpList_load_all rfl _ (.tmp 10) rfl g 32 [.slice (some ⟨gl, 0, none⟩) n lc1, .slice A2 n2 c2, .slice Ab (m + 1) cb] _ rfl HB6'.out Try.underlying32 rfl (by kernel_rfl) ?_)
      | (refine wpList_store_all rfl _ (.tmp 8) (.tmp 86) rfl (w.heap.size + 1) 32 _ [.slice (some ⟨gl, 0, none⟩) n lc1, .slice A2 n2 c2, .slice Ab (m + 1) cb] rfl rfl HB86.out rfl (by kernel_rfl) rfl ?_; intro v6 hv6 hs7))
    refine bodyPost_ret (results_cell_tmp' Try.results46 _ _ _ ⟨w.heap.size + 1, 0, none⟩ _ _ rfl rfl (loadVar_blk [.slice (some ⟨gl, 0, none⟩) n lc1, .slice A2 n2 c2, .slice Ab (m + 1) cb] _ hv6 (fun j v hv => by simpa using hv) Try.underlying32 rfl (by kernel_rfl))) rfl ?_
    have hlen2 : (arcs ++ [⟨s, i, q, ls.getD q 0 + 1⟩] : List Arc).length = m + 1 := by rw [List.length_append, HM9.out]; rfl
    have hfl : (arcs ++ [⟨s, i, q, ls.getD q 0 + 1⟩] : List Arc).flatMap encArc = arcs.flatMap encArc ++ encArc ⟨s, i, q, x + 1⟩ := by rw [List.flatMap_append, ← HX.out]; simp
    unfold ApdPost PatPost
    rw [hlen2, hfl]
    exact ⟨_, rfl, _, Ab, lc1, cb, rfl, own_low (ownsRow_own HROW6.out hs7 (fun b hb e => by have := (HROW6.out.lt b hb).1; omega)) (by omega), own_low (ownsRow_own HRO6.out hs7 (fun b hb e => by have := (HRO6.out.lt b hb).1; omega)) (by omega), fun b hb hb2 => (HVG.out b hb2).2 (by have h9 : some gl = some b := hb; injection h9 with h9; exact h9.symm), Keep.write (Keep.trans HK2.out HK26.out) hs7 (by omega)⟩

end Go.Proofs.Ytcfpkmfppgodmaa
