/- make.Codes.Cut. -/
import Derived.Test.YtcfpkmfppgodmaaPatT
set_option linter.unusedVariables false
set_option linter.unusedSimpArgs false
set_option maxRecDepth 100000
namespace Go.Proofs.Ytcfpkmfppgodmaa
open Go.RowKit Go.Proofs

def CutPost (B : Nat → Prop) (gc n : Nat) (ls : List Nat) (w : World) (e : Ending) (w' : World) : Prop :=
  ∃ (A : Option Addr) (c : Nat) (xs : List Nat), e = .returned (.slice A n c) ∧ xs.length = n ∧ (∀ q, xs.getD q 0 ≤ ls.getD q 0) ∧ Sl encI 1 w' (New w' w.heap.size) A n c (intsN xs) ∧ (∃ r', Cod w' B gc r') ∧ Only gc w w'
def CtR (B : Nat → Prop) (gc n : Nat) (ls : List Nat) (W : World) (v i : Value) (wr : World) : Prop :=
  ∃ (k : Nat) (xs : List Nat), i = .int .i64 k ∧ k ≤ n ∧ xs.length = k ∧ (∀ q, xs.getD q 0 ≤ ls.getD q 0) ∧ wr.ownsRow W.heap.size 3 1 v k ((intsN xs).flatMap encI) ∧ (∃ r', Cod wr B gc r') ∧ Only gc W wr
theorem intsN_snoc (xs : List Nat) (a : Nat) : (intsN (xs ++ [a])).flatMap encI = (intsN xs).flatMap encI ++ [.int .i64 a] := by simp [intsN, encI]
theorem snoc_le {xs ls : List Nat} {a : Nat} (h : ∀ q, xs.getD q 0 ≤ ls.getD q 0) (ha : a ≤ ls.getD xs.length 0) : ∀ q, (xs ++ [a]).getD q 0 ≤ ls.getD q 0 := fun q => by
  rcases Nat.lt_trichotomy q xs.length with h1 | h1 | h1
  · have : (xs ++ [a]).getD q 0 = xs.getD q 0 := by simp [List.getD, List.getElem?_append_left h1]
    rw [this]; exact h q
  · subst h1
    have : (xs ++ [a]).getD xs.length 0 = a := by simp [List.getD]
    rw [this]; exact ha
  · have : (xs ++ [a]).getD q 0 = 0 := by
      have h2 : (xs ++ [a])[q]? = none := List.getElem?_eq_none (by simp; omega)
      simp [List.getD, h2]
    rw [this]; exact Nat.zero_le _
set_option maxHeartbeats 8000000 in
theorem cut_any (w : World) (B : Nat → Prop) (gc r : Nat) (S : Nat → Prop) (A1 A2 A3 : Option Addr) (n c1 n2 c2 n3 c3 : Nat) (ls : List Nat) (hcod : Cod w B gc r) (hS : ∀ i, S i → i < w.heap.size ∧ i ≠ gc) (hl : Sl encI 1 w S A1 n c1 (intsN ls)) (hle : ∀ q, ls.getD q 0 ≤ 60) (hn : n ≤ 1000) :
    Calls Try.prog 11 #[.pointer (some ⟨gc, 0, none⟩), .agg #[.slice A1 n c1, .slice A2 n2 c2, .slice A3 n3 c3]] w (CutPost B gc n ls w) := by
  obtain ⟨iI, hi0, iz0, is0, ib0⟩ := info_of info_Int
  have hnl := hl.1
  rw [intsN_len] at hnl
  have hBw := hcod.2.1
  have hgw := hcod.lt
  generalize hW : w.alloc (.cells #[.slice A1 n c1, .slice A2 n2 c2, .slice A3 n3 c3] 32) = W
  have hkW : Keep w W := hW ▸ Keep.new w _
  have hb : Blk W w.heap.size 32 #[.slice A1 n c1, .slice A2 n2 c2, .slice A3 n3 c3] := hW ▸ Blk.new w _ _
  have hz := hb.lt
  have hcW := hcod.keep hkW
  have hlW := hl.keep (hkW.mono (fun i hi => (hS i hi).1))
  have hrel0 : CtR B gc n ls W (.slice none 0 0) (.int .i64 0) W := ⟨0, [], rfl, Nat.zero_le _, rfl, fun q => by simp, World.ownsRow_nil _ _ _ _, ⟨_, hcW⟩, Same.refl _ _⟩
  have HKW := Lib.hid hkW
  have HB := Lib.hid hb
  have HLW := Lib.hid hlW
  have HBW := Lib.hid hBw
  have HS := Lib.hid hS
  have HI0 := Lib.hid hi0
  have IZ0 := Lib.hid iz0
  have IS0 := Lib.hid is0
  have IB0 := Lib.hid ib0
  have HREL0 := Lib.hid hrel0
  have HNL := Lib.hid hnl
  have HLE := Lib.hid hle
  clear hkW hb hlW hBw hS hi0 iz0 is0 ib0 hrel0 hnl hle
  clear hcod hl hcW
  go_enter Try.func11, Try.ntmps11
  go_upto_region 1 with fail
  clear hW
  go_wp2_with fail
  go_loopw [5, 6] (fun v i wr => CtR B gc n ls W v i wr) (fun v i _ => n - (intOf i).toNat)
  case atStart => exact HREL0.out
  case round =>
    clear HREL0
    obtain ⟨k, xs, rfl, hkn', hxl, hxs, hrow, ⟨r2, hcr⟩, how⟩ := hrel
    have hzr := how.size
    have hbr := how.blk HB.out ⟨hz, by omega⟩
    obtain ⟨Av, cv, rfl, hv1, hv2⟩ := own_form hrow
    by_cases hkn : k < n
    · obtain ⟨bl, ol, lv, rfl, hSl, hlv, hcl⟩ := HLW.out.at_ encI_len hkn
      obtain ⟨x, hx⟩ : ∃ x, x = ls.getD k 0 := ⟨_, rfl⟩
      have hlv2 : lv = (x : Int) := by rw [intsN_get (by have := HNL.out; omega), ← hx] at hlv; injection hlv with h; exact h.symm
      subst hlv2
      have hx60 : x ≤ 60 := by have := HLE.out k; omega
      have t0 : decide (k < n) = true := by simpa using hkn
      have t0' : decide ((k : Int) < (n : Int)) = true := by simp; omega
      have i0 : (0 : Int) ≤ k := by omega
      have i1 : (k : Int) < n := by omega
      have hwr : IntKind.i64.wrap ((x : Int) + 1) = (x : Int) + 1 := IntWalk.i64_in _ (by omega)
      have hSb := HS.out _ hSl
      have hzW := HKW.out.size
      have c0 : wr.cell? ⟨w.heap.size, 0, none⟩ = some (.slice (some ⟨bl, ol, none⟩) n c1) := by rw [hbr.cell]; rfl
      have hnr : ∀ b, b < W.heap.size → (Value.slice Av k cv).ownBlock ≠ some b := fun b hb e => by have := (hrow.lt b e).1; omega
      have hblr := hbr.lt
      have y0 : ∀ wx, TrX wr gc (.slice Av k cv) wx → wx.cell? ⟨w.heap.size, 0, none⟩ = some (.slice (some ⟨bl, ol, none⟩) n c1) := fun wx hx => by rw [(Same.blk hx hbr ⟨hblr, by omega, hnr _ hz⟩).cell]; rfl
      have y1 : ∀ wx, TrX wr gc (.slice Av k cv) wx → wx.cell? ⟨bl, ol + k, none⟩ = some (.int .i64 x) := fun wx hx => (Same.cell hx (p := ⟨bl, ol + k, none⟩) ⟨by show bl < _; omega, hSb.2, hnr _ (by show bl < _; omega)⟩).trans ((how.cell (p := ⟨bl, ol + k, none⟩) ⟨by show bl < _; omega, hSb.2⟩).trans (by have := hcl 0 _ rfl; simpa using this))
      have HROW := Lib.hid hrow
      have HCR := Lib.hid hcr
      have HOW := Lib.hid how
      have HXS := Lib.hid hxs
      have HX := Lib.hid hx
      have HBR := Lib.hid hbr
      have HNR := Lib.hid hnr
      have HSB := Lib.hid hSb
      clear hrow hcr how hxs hx hbr hnr hSb
      clear hcl hlv hSl
      go_upto_region 5 with fail
      clear c0
      refine wp_region_L 99 (fun _ => True) (fun wx => TrX wr gc (.slice Av k cv) wx) (by kernel_rfl) trivial (Same.drew (Same.refl _ _)) (fun hA hB => ?_)
      have hku : Keep wr wr.drew := Same.drew (Same.refl _ _)
      generalize hu0 : wr.drew = u0 at hB hku ⊢
      clear hu0
      refine wpL_takeB (i := 0) (v := ?_) rfl (by kernel_rfl) (by kernel_rfl) (by kernel_rfl) (by decide) (fun _ _ _ h => h) (Or.inl ⟨by rfl, ?_⟩) (SAB.both hA hB) ?_
      rotate_left
      · intro wx hBx
        (try dsimp only at hBx)
        go_simp
        try with_reducible rfl
      try simp only [Act.put, List.setIfInBounds_toArray, List.set_cons_zero, List.set_cons_succ]
      refine wpL_takeB (i := 1) (v := ?_) rfl (by kernel_rfl) (by kernel_rfl) (by kernel_rfl) (by decide) (fun _ _ _ h => h) (Or.inl ⟨by rfl, ?_⟩) (SAB.both hA hB) ?_
      rotate_left
      · intro wx hBx
        (try dsimp only at hBx)
        go_simp
        try with_reducible rfl
      try simp only [Act.put, List.setIfInBounds_toArray, List.set_cons_zero, List.set_cons_succ]
      refine wpL_takeB (i := 2) (v := ?_) rfl (by kernel_rfl) (by kernel_rfl) (by kernel_rfl) (by decide) (fun _ _ _ h => h) (Or.inl ⟨by rfl, ?_⟩) (SAB.both hA hB) ?_
      rotate_left
      · intro wx hBx
        (try dsimp only at hBx)
        go_simp
        try with_reducible rfl
      try simp only [Act.put, List.setIfInBounds_toArray, List.set_cons_zero, List.set_cons_succ]
      refine wpL_takeB (i := 3) (v := ?_) rfl (by kernel_rfl) (by kernel_rfl) (by kernel_rfl) (by decide) (fun _ _ _ h => h) (Or.inl ⟨by rfl, ?_⟩) (SAB.both hA hB) ?_
      rotate_left
      · intro wx hBx
        (try dsimp only at hBx)
        go_simp
        try with_reducible rfl
      try simp only [Act.put, List.setIfInBounds_toArray, List.set_cons_zero, List.set_cons_succ]
      refine wpL_takeB (i := 4) (v := ?_) rfl (by kernel_rfl) (by kernel_rfl) (by kernel_rfl) (by decide) (fun _ _ _ h => h) (Or.inl ⟨by rfl, ?_⟩) (SAB.both hA hB) ?_
      rotate_left
      · intro wx hBx
        (try dsimp only at hBx)
        go_simp
        try with_reducible rfl
      try simp only [Act.put, List.setIfInBounds_toArray, List.set_cons_zero, List.set_cons_succ]
      refine wpL_takeB (i := 5) (v := ?_) rfl (by kernel_rfl) (by kernel_rfl) (by kernel_rfl) (by decide) (fun _ _ _ h => h) (Or.inl ⟨by rfl, ?_⟩) (SAB.both hA hB) ?_
      rotate_left
      · intro wx hBx
        (try dsimp only at hBx)
        go_simp
        try with_reducible rfl
      try simp only [Act.put, List.setIfInBounds_toArray, List.set_cons_zero, List.set_cons_succ]
      refine wpL_takeB (i := 6) (v := ?_) rfl (by kernel_rfl) (by kernel_rfl) (by kernel_rfl) (by decide) (fun _ _ _ h => h) (Or.inl ⟨by rfl, ?_⟩) (SAB.both hA hB) ?_
      rotate_left
      · intro wx hBx
        (try dsimp only at hBx)
        go_simp
        try with_reducible rfl
      try simp only [Act.put, List.setIfInBounds_toArray, List.set_cons_zero, List.set_cons_succ]
      refine wpL_takeB (i := 7) (v := ?_) rfl (by kernel_rfl) (by kernel_rfl) (by kernel_rfl) (by decide) (fun _ _ _ h => h) (Or.inl ⟨by rfl, ?_⟩) (SAB.both hA hB) ?_
      rotate_left
      · intro wx hBx
        (try dsimp only at hBx)
        go_simp
        try with_reducible rfl
      try simp only [Act.put, List.setIfInBounds_toArray, List.set_cons_zero, List.set_cons_succ]
      refine wpL_takeB (i := 8) (v := ?_) rfl (by kernel_rfl) (by kernel_rfl) (by kernel_rfl) (by decide) (fun _ _ _ h => h) (Or.inl ⟨by rfl, ?_⟩) (SAB.both hA hB) ?_
      rotate_left
      · intro wx hBx
        (try dsimp only at hBx)
        go_simp
        try with_reducible rfl
      try simp only [Act.put, List.setIfInBounds_toArray, List.set_cons_zero, List.set_cons_succ]
      refine wpL_takeB (i := 9) (v := ?_) rfl (by kernel_rfl) (by kernel_rfl) (by kernel_rfl) (by decide) (fun _ _ _ h => h) (Or.inl ⟨by rfl, ?_⟩) (SAB.both hA hB) ?_
      rotate_left
      · intro wx hBx
        (try dsimp only at hBx)
        go_simp
        try with_reducible rfl
      try simp only [Act.put, List.setIfInBounds_toArray, List.set_cons_zero, List.set_cons_succ]
      refine wpL_takeB (i := 10) (v := ?_) rfl (by kernel_rfl) (by kernel_rfl) (by kernel_rfl) (by decide) (fun _ _ _ h => h) (Or.inl ⟨by rfl, ?_⟩) (SAB.both hA hB) ?_
      rotate_left
      · intro wx hBx
        (try dsimp only at hBx)
        go_simp
        try with_reducible rfl
      try simp only [Act.put, List.setIfInBounds_toArray, List.set_cons_zero, List.set_cons_succ]
      refine wpL_takeB (i := 11) (v := ?_) rfl (by kernel_rfl) (by kernel_rfl) (by kernel_rfl) (by decide) (fun _ _ _ h => h) (Or.inl ⟨by rfl, ?_⟩) (SAB.both hA hB) ?_
      rotate_left
      · intro wx hBx
        (try dsimp only at hBx)
        go_simp
        try with_reducible rfl
      try simp only [Act.put, List.setIfInBounds_toArray, List.set_cons_zero, List.set_cons_succ]
      refine wpL_takeB (i := 12) (v := ?_) rfl (by kernel_rfl) (by kernel_rfl) (by kernel_rfl) (by decide) (fun _ _ _ h => h) (Or.inl ⟨by rfl, ?_⟩) (SAB.both hA hB) ?_
      rotate_left
      · intro wx hBx
        (try dsimp only at hBx)
        go_simp
        try with_reducible rfl
      try simp only [Act.put, List.setIfInBounds_toArray, List.set_cons_zero, List.set_cons_succ]
      clear y0 y1
      refine wpL_one (i := 13) (by kernel_rfl) (StepL.mk rfl (fun K hK => ?_))
      go_simp
      refine (next_any u0 B gc _ ((x : Int) + 1) (HCR.out.keep hku) (by omega) (by omega)).mono ?_
      rintro e u1 ⟨v2, hw0, hw1, rfl, hc8, ho8⟩
      obtain ⟨ix, hix⟩ : ∃ ix : Nat, (x : Int) - v2 = ix := ⟨((x : Int) - v2).toNat, by omega⟩
      have hixx : ix ≤ x := by omega
      have hwr2 : IntKind.i64.wrap (ix : Int) = (ix : Int) := IntWalk.i64_in _ (by omega)
      have hzu := hku.size
      have hz8 := ho8.size
      have hA8 : TrX wr gc (.slice Av k cv) u1 := Same.trans (hku.mono (fun i hi => hi.1)) ho8 (fun i hi => ⟨by have := hi.1; omega, hi.2.1⟩)
      have hown8 := ownsRow_same (ownsRow_same HROW.out hku (fun i hi => hi.2)) ho8 (fun i hi => ⟨hi.2, by have := hi.1; omega⟩)
      have how8 : Only gc W u1 := Only.trans (Only.keep HOW.out hku) ho8
      refine hK.out _ _ (SAB.both trivial hA8) (fun hSS => ?_)
      clear hK K hA hB
      have hB := hSS.2
      have hA := hSS.1 (by kernel_rfl)
      (try dsimp only at hB); (try dsimp only at hA); clear hSS
      try simp only [Act.put, List.setIfInBounds_toArray, List.set_cons_zero, List.set_cons_succ]
      refine wpL_takeB (i := 14) (v := ?_) rfl (by kernel_rfl) (by kernel_rfl) (by kernel_rfl) (by decide) (fun _ _ _ h => h) (Or.inl ⟨by rfl, ?_⟩) (SAB.both hA hB) ?_
      rotate_left
      · intro wx hBx
        (try dsimp only at hBx)
        go_simp
        try with_reducible rfl
      try simp only [Act.put, List.setIfInBounds_toArray, List.set_cons_zero, List.set_cons_succ]
      refine wpL_one (i := 15) (by kernel_rfl) (StepL.mk rfl (fun K hK => ?_))
      refine step_buildS rfl _ _ _ _ rfl Try.underlying23 _ [(0, .int .i64 ix)] rfl (builtS_int _) ?_
      have hkb : Keep u1 (u1.alloc (.cells #[.int .i64 ix] 3)) := Keep.new _ _
      have hrd := Reads.new (w := u1) (e := 3) (cs := [.int .i64 ix]) (size := 1) (n := 1) rfl
      have hA9 : TrX wr gc (.slice Av k cv) (u1.alloc (.cells #[.int .i64 ix] 3)) := Same.trans hA8 hkb (fun i hi => by have := hi.1; omega)
      refine hK.out _ _ (SAB.both trivial hA9) (fun hSS => ?_)
      clear hK K hA hB
      have hB := hSS.2
      have hA := hSS.1 (by kernel_rfl)
      (try dsimp only at hB); (try dsimp only at hA); clear hSS
      try simp only [Act.put, List.setIfInBounds_toArray, List.set_cons_zero, List.set_cons_succ]
      generalize hu2 : u1.alloc (.cells #[.int .i64 ix] 3) = u2 at *
      have hz9 := hkb.size
      have hown9 := ownsRow_same hown8 hkb (fun i hi => hi.2)
      have hc9 := hc8.keep hkb
      have how9 := Only.keep how8 hkb
      refine wpL_one (i := 16) (by kernel_rfl) (StepL.mk rfl (fun K hK => ?_))
      refine step_append_any _ (by rfl) (.tmp 14) (.tmp 29) _ (by rfl) W.heap.size 3 iI _ 1 8 Try.underlying23 HI0.out IZ0.out IS0.out IB0.out rfl (by omega) (.slice Av k cv) k ((intsN xs).flatMap encI) (by rfl) hown9 _ (some ⟨u1.heap.size, 0, none⟩) 1 1 [.int .i64 ix] (by rfl) hrd (by intro u hu; simp at hu; subst hu; rfl) (by simp [maxLen]; omega) (by omega) (by omega) ?_
      intro vb wb hownb hgb' hatb
      have hG : Same (fun i => i < u2.heap.size ∧ (Value.slice Av k cv).ownBlock ≠ some i) u2 wb := Same.grown (Same.refl _ _) hgb' (fun i hi => hi.1) (fun k hk hh => hh.2 hk)
      have hAb : TrX wr gc (.slice Av k cv) wb := Same.trans hA9 hG (fun i hi => ⟨by have := hi.1; omega, hi.2.2⟩)
      have hcb9 := hc9.same (hG.mono (fun i hi => ⟨by have := HBW.out i hi; omega, HNR.out i (by have := HBW.out i hi; omega)⟩))
      have hob9 : Only gc W wb := Same.trans how9 hG (fun i hi => ⟨by have := hi.1; omega, HNR.out i hi.1⟩)
      refine hK.out _ _ (SAB.both trivial hAb) (fun hSS => ?_)
      clear hK K hA hB
      have hB := hSS.2
      have hA := hSS.1 (by kernel_rfl)
      (try dsimp only at hB); (try dsimp only at hA); clear hSS
      try simp only [Act.put, List.setIfInBounds_toArray, List.set_cons_zero, List.set_cons_succ]
      refine wpL_takeB (i := 17) (v := ?_) rfl (by kernel_rfl) (by kernel_rfl) (by kernel_rfl) (by decide) (fun _ _ _ h => h) (Or.inl ⟨by rfl, ?_⟩) (SAB.both hA hB) ?_
      rotate_left
      · intro wx hBx
        (try dsimp only at hBx)
        go_simp
        try with_reducible rfl
      try simp only [Act.put, List.setIfInBounds_toArray, List.set_cons_zero, List.set_cons_succ]
      refine wpL_done (by kernel_rfl) ?_
      have hfin : CtR B gc n ls W vb (.int .i64 ((k : Int) + 1)) wb := ⟨k + 1, xs ++ [ix], by go_num, by omega, by simp [hxl], snoc_le HXS.out (by rw [hxl, ← HX.out]; exact hixx), by rw [intsN_snoc]; exact hownb, ⟨_, hcb9⟩, hob9⟩
      have HFIN := Lib.hid hfin
      clear hfin
      clear hA hB hu2 hG hAb hcb9 hob9 hownb hgb' hatb how9 hc9 hown9 hA9 hrd hkb how8 hown8 hA8 hc8 ho8 hku hix
      go_wp2_with fail
      go_roundw
      case rel => exact HFIN.out
      case measure => simp [intOf]; omega
    · have t0 : decide (k < n) = false := by simpa using hkn
      have t0' : decide ((k : Int) < (n : Int)) = false := by simp; omega
      obtain rfl : k = n := by omega
      have c0 : wr.cell? ⟨w.heap.size, 0, none⟩ = some (.slice A1 k c1) := by rw [hbr.cell]; rfl
      have hzW := HKW.out.size
      have hfin : CutPost B gc k ls w (.returned (.slice Av k cv)) wr := ⟨Av, cv, xs, rfl, hxl, hxs, (own_sl hrow).more (fun i hi => ⟨by have := hi.2.1; omega, hi.2.2⟩), ⟨_, hcr⟩, Only.trans (HKW.out.only gc) how⟩
      have HFIN := Lib.hid hfin
      clear hfin
      clear hrow hcr how hxs hbr
      go_wp2_with fail
      go_ret
      exact HFIN.out
end Go.Proofs.Ytcfpkmfppgodmaa
