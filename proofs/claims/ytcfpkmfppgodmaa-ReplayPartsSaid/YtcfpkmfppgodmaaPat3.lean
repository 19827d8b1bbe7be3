/- ref16.Mark. -/
import Derived.Test.YtcfpkmfppgodmaaPat2
import Derived.Test.YtcfpkmfppgodmaaIdealM
import Derived.Test.YtcfpkmfppgodmaaRs2
set_option linter.unusedVariables false
set_option linter.unusedSimpArgs false
set_option maxRecDepth 100000
namespace Go.Proofs.Ytcfpkmfppgodmaa
open Go.RowKit Go.Proofs

/-- One cell that leads to numbers. -/
def IntsR (w : World) (S : Nat → Prop) (cs : List Value) (l : List Int) : Prop := ∃ (A : Option Addr) (n c : Nat), cs = [.slice A n c] ∧ Sl encI 1 w S A n c l
theorem IntsR.keep {w w' : World} {S : Nat → Prop} (hk : Same S w w') (cs : List Value) (l : List Int) (h : IntsR w S cs l) : IntsR w' S cs l := by
  obtain ⟨A, n, c, e, h⟩ := h
  exact ⟨A, n, c, e, h.keep hk⟩
theorem IntsR.more {w : World} {S T : Nat → Prop} (hk : ∀ i, S i → T i) (cs : List Value) (l : List Int) (h : IntsR w S cs l) : IntsR w T cs l := by
  obtain ⟨A, n, c, e, h⟩ := h
  exact ⟨A, n, c, e, h.more hk⟩
theorem info_Ints : (Try.prog.info? 23).map (fun i => (i.zero, i.size, i.bytes)) = some (some (.slice none 0 0), 1, 24) := by kernel_rfl
/-- The checkpoints of n processes. -/
def CkR (w : World) (S : Nat → Prop) (A : Option Addr) (n c : Nat) (L : Nat) : Prop := ∃ cks : List (List Int), SlR w S 1 (IntsR w S) A n c cks ∧ ∀ x ∈ cks, x ≠ [] ∧ x.length ≤ L
theorem CkR.keep {w w' : World} {S : Nat → Prop} {A : Option Addr} {n c L : Nat} (h : CkR w S A n c L) (hk : Same S w w') : CkR w' S A n c L := by
  obtain ⟨cks, h1, h2⟩ := h
  exact ⟨cks, h1.keep hk (IntsR.keep hk), h2⟩
theorem CkR.more {w : World} {S T : Nat → Prop} {A : Option Addr} {n c L : Nat} (h : CkR w S A n c L) (hk : ∀ i, S i → T i) : CkR w T A n c L := by
  obtain ⟨cks, h1, h2⟩ := h
  exact ⟨cks, h1.more hk (IntsR.more hk), h2⟩
theorem CkR.le {w : World} {S : Nat → Prop} {A : Option Addr} {n c L L' : Nat} (h : CkR w S A n c L) (hL : L ≤ L') : CkR w S A n c L' := by
  obtain ⟨cks, h1, h2⟩ := h
  exact ⟨cks, h1, fun x hx => ⟨(h2 x hx).1, Nat.le_trans (h2 x hx).2 hL⟩⟩
def MarkPost (A1 : Option Addr) (n c1 : Nat) (VA : Value) (S : Nat → Prop) (L : Nat) (w : World) (e : Ending) (w' : World) : Prop :=
  ∃ (A2 : Option Addr) (c2 : Nat), e = .returned (.agg #[.slice A1 n c1, .slice A2 n c2, VA]) ∧ CkR w' (fun i => S i ∨ New w' w.heap.size i) A2 n c2 (L + 1) ∧ Keep w w'
def MkC (w : World) (A1 : Option Addr) (n c1 : Nat) (VA : Value) (xs : List Value) (p : Value) (wx : World) : Prop :=
  ∃ (g : Nat) (A2 : Option Addr) (c2 : Nat), p = .pointer (some ⟨g, 0, none⟩) ∧ w.heap.size ≤ g ∧ Blk wx g 32 #[.slice A1 n c1, .slice A2 n c2, VA] ∧ wx.ownsRow w.heap.size 23 1 (.slice A2 n c2) n xs ∧ (∀ b, (Value.slice A2 n c2).ownBlock = some b → b ≠ g) ∧ Keep w wx
/-- The checkpoints, one list made longer. -/
theorem ckr_set {w w' : World} {S T : Nat → Prop} {n L q g c' : Nat} {ty : TypeId} {cks : List (List Int)} {css : List (List Value)} {cur : Array Value} {l : List Int} {Av : Option Addr} {kv cv : Nat}
    (hk : Same S w w') (h1 : n = cks.length) (h2 : css.length = n) (h3 : ∀ cs ∈ css, cs.length = 1) (h4 : ∀ (k : Nat) (cs : List Value) (a : List Int), css[k]? = some cs → cks[k]? = some a → IntsR w S cs a) (hne : ∀ x ∈ cks, x ≠ [] ∧ x.length ≤ L) (hq : q < n)
    (hb : Blk w' g ty (cur.setIfInBounds q (.slice Av kv cv))) (htk : cur.toList.take (n * 1) = css.flatten) (hcs : cur.size = c' * 1) (hnc : n ≤ c') (hcm : c' ≤ maxLen) (hg : T g) (hST : ∀ i, S i → T i) (hv : Sl encI 1 w' T Av kv cv l) (hl0 : l ≠ []) (hlL : l.length ≤ L + 1) :
    CkR w' T (some ⟨g, 0, none⟩) n c' (L + 1) := by
  refine ⟨cks.set q l, ⟨by simp [h1], hnc, hcm, css.set q [.slice Av kv cv], by simp [h2], ?_, ⟨?_, fun _ => ⟨g, 0, rfl, hg, fun j u hu => ?_⟩⟩, fun k cs a e1 e2 => ?_⟩, fun x hx => ?_⟩
  · intro cs hc
    rcases List.mem_or_eq_of_mem_set hc with h | h
    · exact h3 cs h
    · rw [h]; rfl
  · rw [cells_len (size := 1)]
    · simp [h2]
    · intro cs hc
      rcases List.mem_or_eq_of_mem_set hc with h | h
      · exact h3 cs h
      · rw [h]; rfl
  · rw [hb.cell, Nat.zero_add]
    rw [flatten_set (size := 1) css q [.slice Av kv cv] h3 rfl (by omega)] at hu
    rw [Array.getElem?_setIfInBounds]
    by_cases hj : q = j
    · subst hj
      rw [if_pos (by omega)] at hu
      have h0 : q - q * 1 = 0 := by omega
      rw [h0] at hu
      rw [if_pos rfl, if_pos (by omega)]
      simpa using hu
    · rw [if_neg (by omega)] at hu
      rw [if_neg hj]
      have hjn : j < n * 1 := by
        have := (List.getElem?_eq_some_iff.1 hu).1
        rw [cells_len css h3, h2] at this
        omega
      rw [← htk, List.getElem?_take, if_pos hjn] at hu
      simpa using hu
  · rw [List.getElem?_set] at e1 e2
    by_cases hj : q = k
    · rw [if_pos hj] at e1 e2
      split at e1
      · split at e2
        · injection e1 with e1
          injection e2 with e2
          rw [← e1, ← e2]
          exact ⟨Av, kv, cv, rfl, hv⟩
        · cases e2
      · cases e1
    · rw [if_neg hj] at e1 e2
      exact IntsR.more hST _ _ (IntsR.keep hk _ _ (h4 k cs a e1 e2))
  · rcases List.mem_or_eq_of_mem_set hx with h | h
    · have := hne x h
      exact ⟨this.1, by omega⟩
    · rw [h]; exact ⟨hl0, hlL⟩
set_option maxHeartbeats 16000000 in
theorem mark_any (w : World) (S : Nat → Prop) (A1 A2 A3 : Option Addr) (n c1 c2 m c3 q L : Nat) (ls : List Nat) (hS : ∀ i, S i → i < w.heap.size) (hl : Sl encI 1 w S A1 n c1 (intsN ls)) (hc : CkR w S A2 n c2 L) (hL : L ≤ 1000) (hn : n ≤ 1000) (hq : q < n) :
    Calls Try.prog 37 #[.agg #[.slice A1 n c1, .slice A2 n c2, .slice A3 m c3], .int .i64 q] w (MarkPost A1 n c1 (.slice A3 m c3) S L w) := by
  obtain ⟨iI, hi0, iz0, is0, ib0⟩ := info_of info_Int
  obtain ⟨iL, hj0, jz0, js0, jb0⟩ := info_of info_Ints
  have hnl := hl.1
  rw [intsN_len] at hnl
  generalize hW : (w.alloc (.cells #[.slice A1 n c1, .slice A2 n c2, .slice A3 m c3] 32)).alloc (.cells #[.slice none 0 0, .slice none 0 0, .slice none 0 0] 32) = W
  have hkW : Keep w W := hW ▸ Keep.alloc (Keep.new w _) _
  have hb4 : Blk W w.heap.size 32 #[.slice A1 n c1, .slice A2 n c2, .slice A3 m c3] := hW ▸ (Blk.new w _ _).alloc _
  have hb8 : Blk W (w.heap.size + 1) 32 #[.slice none 0 0, .slice none 0 0, .slice none 0 0] := hW ▸ (by simpa using Blk.new (w.alloc _) _ _)
  have hzW := hb8.lt
  obtain ⟨bl, ol, lv, hAl, hSl, hlv, hcl⟩ := hl.at_ encI_len hq
  subst hAl
  obtain ⟨cks, hck, hckn⟩ := id hc
  obtain ⟨bc, oc, cs, ck, hAc, hSc, hck2, ⟨Ak, k0, ck0, rfl, hsk⟩, -, hcc⟩ := hck.at_ hq
  subst hAc
  have hk0 := hsk.1
  have hknl := hckn _ (List.mem_of_getElem? hck2)
  obtain ⟨k, rfl⟩ : ∃ k, k0 = k + 1 := by
    rcases k0 with _ | k
    · exact absurd (List.length_eq_zero_iff.1 hk0.symm) hknl.1
    · exact ⟨k, rfl⟩
  obtain ⟨bk, ok, xv, hAk, hSk, hxv, hcx⟩ := hsk.at_ encI_len (k := k) (by omega)
  subst hAk
  have q0 : (0 : Int) ≤ q := by omega
  have q1 : (q : Int) < n := by omega
  have i1 : (k : Int) + 1 - 1 = k := by omega
  have i2 : (0 : Int) ≤ k := by omega
  have i3 : (k : Int) < (k : Int) + 1 := by omega
  have x1 : ∀ wx, Keep w wx → wx.cell? ⟨bl, ol + q, none⟩ = some (.int .i64 lv) := fun wx hx => (hx.cell (p := ⟨bl, ol + q, none⟩) (hS _ hSl)).trans (by have := hcl 0 _ rfl; simpa using this)
  have x2 : ∀ wx, Keep w wx → wx.cell? ⟨bc, oc + q, none⟩ = some (.slice (some ⟨bk, ok, none⟩) (k + 1) ck0) := fun wx hx => (hx.cell (p := ⟨bc, oc + q, none⟩) (hS _ hSc)).trans (by have := hcc 0 _ rfl; simpa using this)
  have x3 : ∀ wx, Keep w wx → wx.cell? ⟨bk, ok + k, none⟩ = some (.int .i64 xv) := fun wx hx => (hx.cell (p := ⟨bk, ok + k, none⟩) (hS _ hSk)).trans (by have := hcx 0 _ rfl; simpa using this)
  obtain ⟨-, hc2n, hc2m, css, g1, g2, g3, g4⟩ := id hck
  have hckl := hck.1
  clear hcl hcc hcx hlv hxv
  have hk11 : k ≤ 1000 := by omega
  have HKW := Lib.hid hkW
  have HB4 := Lib.hid hb4
  have HB8 := Lib.hid hb8
  have HL := Lib.hid hl
  have HC := Lib.hid hc
  have HS := Lib.hid hS
  have HNL := Lib.hid hnl
  have HI0 := Lib.hid hi0
  have IZ0 := Lib.hid iz0
  have IS0 := Lib.hid is0
  have IB0 := Lib.hid ib0
  have HJ0 := Lib.hid hj0
  have JZ0 := Lib.hid jz0
  have JS0 := Lib.hid js0
  have JB0 := Lib.hid jb0
  have X1 := Lib.hid x1
  have X2 := Lib.hid x2
  have X3 := Lib.hid x3
  have G1 := Lib.hid g1
  have G2 := Lib.hid g2
  have G3 := Lib.hid g3
  have G4 := Lib.hid g4
  have HCKN := Lib.hid hckn
  have HSK := Lib.hid hsk
  have HKNL := Lib.hid hknl
  have HCK2 := Lib.hid hck2
  have HCKL := Lib.hid hckl
  have HK0 := Lib.hid hk0
  clear hkW hb4 hb8 hl hc hS hnl hi0 iz0 is0 ib0 hj0 jz0 js0 jb0 x1 x2 x3 g1 g2 g3 g4 hckn hsk hknl hck2 hckl hk0
  clear hck
  go_enter Try.func37, Try.ntmps37
  go_upto_region 1 with fail
  clear hW
  go_wp2_with (refine wpList_load_all rfl _ (.tmp 2) rfl w.heap.size 32 [.slice (some ⟨bl, ol, none⟩) n c1, .slice (some ⟨bc, oc, none⟩) n c2, .slice A3 m c3] _ rfl HB4.out Try.underlying32 rfl (by kernel_rfl) ?_)
  refine (proc_ok W _ n c1 q _ _ (some ⟨bc, oc, none⟩) A3 n c2 m c3 hq rfl rfl).mono ?_
  rintro e w2 ⟨rfl, hk12⟩
  have hk2 := Keep.trans HKW.out hk12
  have hz2 := hk2.size
  have hz12 := hk12.size
  have hb42 := hk12.blk HB4.out (by omega)
  have hb82 := hk12.blk HB8.out hzW
  have c0 : w2.cell? ⟨w.heap.size, 0, none⟩ = some (.slice (some ⟨bl, ol, none⟩) n c1) := by rw [hb42.cell]; rfl
  have c1' : w2.cell? ⟨w.heap.size, 1, none⟩ = some (.slice (some ⟨bc, oc, none⟩) n c2) := by rw [hb42.cell]; rfl
  have x22 := X2.out w2 hk2
  have x12 := X1.out w2 hk2
  have x32 := X3.out w2 hk2
  have HB42 := Lib.hid hb42
  have HB82 := Lib.hid hb82
  have HK2 := Lib.hid hk2
  clear hb42 hb82 hk2
  clear hk12
  go_upto_region 4 with fail
  by_cases heq : xv = lv
  · have t0 : (xv == lv) = true := by simpa using heq
    clear heq
    go_quiet (fail)
    go_upto_region 5 with fail
    have hkq : Keep w2 (w2.drewN nq) := Keep.draws w2 nq
    have hb43 := hkq.blk HB42.out HB42.out.lt
    have hb83 := hkq.blk HB82.out HB82.out.lt
    generalize hwq : w2.drewN nq = w3 at hkq hb43 hb83 ⊢
    have HB43 := Lib.hid hb43
    have HB83 := Lib.hid hb83
    have HKQ := Lib.hid hkq
    clear hb43 hb83 hkq
    clear hwq c0 c1' x12 x22 x32
    go_wp2_with (first
      | (refine wpList_load_all rfl _ (.tmp 2) rfl w.heap.size 32 [.slice (some ⟨bl, ol, none⟩) n c1, .slice (some ⟨bc, oc, none⟩) n c2, .slice A3 m c3] _ rfl HB43.out Try.underlying32 rfl (by kernel_rfl) ?_)
      | (refine wpList_store_all rfl _ (.tmp 4) (.tmp 29) rfl (w.heap.size + 1) 32 _ [.slice (some ⟨bl, ol, none⟩) n c1, .slice (some ⟨bc, oc, none⟩) n c2, .slice A3 m c3] rfl rfl HB83.out rfl (by kernel_rfl) rfl ?_; intro v6 hv6 hs6))
    refine bodyPost_ret (results_cell1 Try.results37 _ _ _ ⟨w.heap.size + 1, 0, none⟩ _ rfl (loadVar_blk [.slice (some ⟨bl, ol, none⟩) n c1, .slice (some ⟨bc, oc, none⟩) n c2, .slice A3 m c3] _ hv6 (fun j v hv => by simpa using hv) Try.underlying32 rfl (by kernel_rfl))) rfl ?_
    have hkf : Keep w v6 := Keep.write (Keep.trans HK2.out HKQ.out) hs6 (by omega)
    exact ⟨_, c2, rfl, ((HC.out.keep (hkf.mono HS.out)).more (fun i hi => .inl hi)).le (by omega), hkf⟩
  · have t0 : (xv == lv) = false := by simpa using heq
    clear heq
    go_quiet (fail)
    go_upto_region 6 with fail
    have hkq : Keep w2 (w2.drewN nq) := Keep.draws w2 nq
    have hk3 := Keep.trans HK2.out hkq
    have hb43 := hkq.blk HB42.out HB42.out.lt
    have hb83 := hkq.blk HB82.out HB82.out.lt
    have hz3 := hkq.size
    generalize hwq : w2.drewN nq = w3 at hkq hb43 hb83 hk3 hz3 ⊢
    have HB43 := Lib.hid hb43
    have HB83 := Lib.hid hb83
    have HK3 := Lib.hid hk3
    clear hb43 hb83 hk3
    clear hwq c0 c1' x12 x22 x32 hkq
    try simp only [Act.put, List.setIfInBounds_toArray, List.set_cons_zero, List.set_cons_succ]
    go_cut [6] from 30 to 37 (fun p wx => MkC w3 (some ⟨bl, ol, none⟩) n c1 (.slice A3 m c3) css.flatten p wx)
    case first =>
      have hb4' := HB43.out
      have hl4 := hb4'.lt
      have y0 : ∀ wx, Keep w3 wx → wx.cell? ⟨w.heap.size, 0, none⟩ = some (.slice (some ⟨bl, ol, none⟩) n c1) := fun wx hx => by rw [(hx.blk hb4' hl4).cell]; rfl
      have y1 : ∀ wx, Keep w3 wx → wx.cell? ⟨w.heap.size, 1, none⟩ = some (.slice (some ⟨bc, oc, none⟩) n c2) := fun wx hx => by rw [(hx.blk hb4' hl4).cell]; rfl
      have y2 : ∀ wx, Keep w3 wx → wx.cell? ⟨w.heap.size, 2, none⟩ = some (.slice A3 m c3) := fun wx hx => by rw [(hx.blk hb4' hl4).cell]; rfl
      have hrd : ∀ u, Keep w3 u → Reads u S 1 (some ⟨bc, oc, none⟩) n css.flatten := fun u hu => G3.out.keep ((Keep.trans HK3.out hu).mono HS.out)
      have hone : ∀ u ∈ css.flatten, u.oneCell' = true := by
        intro u hu
        obtain ⟨cs, hcs, huc⟩ := List.mem_flatten.1 hu
        obtain ⟨j, hj⟩ := List.mem_iff_getElem?.1 hcs
        have hjl := (List.getElem?_eq_some_iff.1 hj).1
        obtain ⟨a, ha⟩ : ∃ a, cks[j]? = some a := ⟨_, List.getElem?_eq_getElem (by have := G1.out; have := HCKL.out; omega)⟩
        obtain ⟨B, b1, b2, e1, -⟩ := G4.out j cs a hj ha
        rw [e1] at huc
        simp at huc
        rw [huc]
        rfl
      refine wp_region_L 99 (fun _ => True) (fun wx => Keep w3 wx) (by kernel_rfl) trivial (Same.drew (Same.refl _ _)) (fun hA hB => ?_)
      generalize hu0 : w3.drew = u0 at hB ⊢
      clear hu0
      have hz0 := hB.size
      refine wpL_takeB (i := 0) (v := ?_) rfl (by kernel_rfl) (by kernel_rfl) (by kernel_rfl) (by decide) (fun _ _ _ h => h) (Or.inl ⟨by rfl, ?_⟩) (SAB.both hA hB) ?_
      rotate_left
      · intro wx hBx
        (try dsimp only at hBx)
        go_simp
        try with_reducible rfl
      try simp only [Act.put, List.setIfInBounds_toArray, List.set_cons_zero, List.set_cons_succ]
      refine wpL_takeB (i := 1) (v := ?_) rfl (by kernel_rfl) (by kernel_rfl) (by kernel_rfl) (by decide) (fun _ _ _ h => h) (Or.inl ⟨by rfl, ?_⟩) (SAB.both hA hB) ?_
      rotate_left
      · intro wx hBx
        (try dsimp only at hBx)
        go_simp
        try with_reducible rfl
      try simp only [Act.put, List.setIfInBounds_toArray, List.set_cons_zero, List.set_cons_succ]
      refine wpL_takeB (i := 2) (v := ?_) rfl (by kernel_rfl) (by kernel_rfl) (by kernel_rfl) (by decide) (fun _ _ _ h => h) (Or.inl ⟨by rfl, ?_⟩) (SAB.both hA hB) ?_
      rotate_left
      · intro wx hBx
        (try dsimp only at hBx)
        go_simp
        try with_reducible rfl
      try simp only [Act.put, List.setIfInBounds_toArray, List.set_cons_zero, List.set_cons_succ]
      refine wpL_takeB (i := 3) (v := ?_) rfl (by kernel_rfl) (by kernel_rfl) (by kernel_rfl) (by decide) (fun _ _ _ h => h) (Or.inl ⟨by rfl, ?_⟩) (SAB.both hA hB) ?_
      rotate_left
      · intro wx hBx
        (try dsimp only at hBx)
        go_simp
        try with_reducible rfl
      try simp only [Act.put, List.setIfInBounds_toArray, List.set_cons_zero, List.set_cons_succ]
      refine wpL_takeB (i := 5) (v := ?_) rfl (by kernel_rfl) (by kernel_rfl) (by kernel_rfl) (by decide) (fun _ _ _ h => h) (Or.inl ⟨by rfl, ?_⟩) (SAB.both hA hB) ?_
      rotate_left
      · intro wx hBx
        (try dsimp only at hBx)
        go_simp
        try with_reducible rfl
      try simp only [Act.put, List.setIfInBounds_toArray, List.set_cons_zero, List.set_cons_succ]
      refine wpL_takeB (i := 6) (v := ?_) rfl (by kernel_rfl) (by kernel_rfl) (by kernel_rfl) (by decide) (fun _ _ _ h => h) (Or.inl ⟨by rfl, ?_⟩) (SAB.both hA hB) ?_
      rotate_left
      · intro wx hBx
        (try dsimp only at hBx)
        go_simp
        try with_reducible rfl
      try simp only [Act.put, List.setIfInBounds_toArray, List.set_cons_zero, List.set_cons_succ]
      clear y0 y1 y2
      refine wpL_two (i := 4) (j := 8) (by kernel_rfl) (StepL.mk rfl (fun K hK => ?_)) (StepL.mk rfl (fun K hK => ?_))
      · refine step_clone rfl (.tmp 33) 29 rfl 23 iL _ 1 24 Try.underlying29 HJ0.out JZ0.out JS0.out JB0.out rfl (by omega) _ (some ⟨bc, oc, none⟩) n c2 css.flatten rfl (hrd u0 hB) hone (by simp [maxLen]; omega) (by omega) ?_
        intro R1 rc1 u1 hro hrk hrb
        have hrt := fun b hb => (hro.lt b hb).2
        have hz4 := hrk.size
        have hB9 := Keep.trans hB hrk
        refine hK.out _ _ (SAB.both trivial hB9) (fun hSS => ?_)
        clear hK K hA hB
        have hB := hSS.2
        have hA := hSS.1 (by kernel_rfl)
        (try dsimp only at hB); (try dsimp only at hA); clear hSS
        try simp only [Act.put, List.setIfInBounds_toArray, List.set_cons_zero, List.set_cons_succ]
        clear hB9
        refine wpL_takeB (i := 7) rfl (by kernel_rfl) (by kernel_rfl) (by kernel_rfl) (by decide) (fun _ _ _ h => h) (yieldsIf_bld (by rfl) 32 _ rfl _ [(0, .slice (some ⟨bl, ol, none⟩) n c1), (1, .slice R1 n rc1), (2, .slice A3 m c3)] rfl (bld_pat3 _ _ _ _ _ _ _ _ _)) (SAB.both hA hB) ?_
        try simp only [Act.put, List.setIfInBounds_toArray, List.set_cons_zero, List.set_cons_succ]
        refine wpL_one (i := 8) (by kernel_rfl) (StepL.mk rfl (fun K hK => ?_))
        go_simp
        have hgk : Keep u1 (u1.alloc (.cells #[.slice none 0 0, .slice none 0 0, .slice none 0 0] 32)) := Keep.new _ _
        have hgb : Blk (u1.alloc (.cells #[.slice none 0 0, .slice none 0 0, .slice none 0 0] 32)) u1.heap.size 32 #[.slice none 0 0, .slice none 0 0, .slice none 0 0] := Blk.new _ _ _
        have hgl := hgb.lt
        generalize u1.alloc (.cells #[.slice none 0 0, .slice none 0 0, .slice none 0 0] 32) = u2 at hgk hgb hgl ⊢
        obtain ⟨g, hg⟩ : ∃ g, g = u1.heap.size := ⟨_, rfl⟩
        rw [← hg] at hgb hgl
        have hgl0 := hgl
        rw [← hg]
        have hz5 := hgk.size
        have hro := ownsRow_same hro hgk (fun i hi => hi.2)
        have hB9 := Keep.trans hB hgk
        refine hK.out _ _ (SAB.both trivial hB9) (fun hSS => ?_)
        clear hK K hA hB
        have hB := hSS.2
        have hA := hSS.1 (by kernel_rfl)
        (try dsimp only at hB); (try dsimp only at hA); clear hSS
        try simp only [Act.put, List.setIfInBounds_toArray, List.set_cons_zero, List.set_cons_succ]
        clear hB9
        refine wpL_one (i := 9) (by kernel_rfl) (StepL.mk rfl (fun K hK => ?_))
        refine step_store_blk rfl _ _ _ rfl g 0 32 _ [.slice (some ⟨bl, ol, none⟩) n c1, .slice R1 n rc1, .slice A3 m c3] rfl rfl hgb (by simp) (by kernel_rfl) rfl ?_
        intro v5 hv5 hs5
        rw [splice_all [.slice (some ⟨bl, ol, none⟩) n c1, .slice R1 n rc1, .slice A3 m c3] #[.slice none 0 0, .slice none 0 0, .slice none 0 0] rfl] at hv5
        have hzB := hB.size
        have q2 : ∀ b, (Value.slice R1 n rc1).ownBlock = some b → b ≠ g := fun b hb hb2 => by have h1 := hrb b hb; have h3 := hrt b hb; omega
        have hk95 : Keep w3 v5 := Keep.write hB hs5 (by omega)
        have hfin : MkC w3 (some ⟨bl, ol, none⟩) n c1 (.slice A3 m c3) css.flatten (.pointer (some ⟨g, 0, none⟩)) v5 := ⟨g, R1, rc1, rfl, by omega, hv5, own_low (ownsRow_own hro hs5 (fun b hb => q2 b hb)) (by omega), q2, hk95⟩
        refine hK.out _ _ (SAB.both trivial hk95) (fun hSS => ?_)
        clear hK K hA hB
        have hB := hSS.2
        have hA : True := trivial
        (try dsimp only at hB); (try dsimp only at hA); clear hSS
        try simp only [Act.put, List.setIfInBounds_toArray, List.set_cons_zero, List.set_cons_succ]
        refine wpL_done (by kernel_rfl) ?_
        have HFIN := Lib.hid hfin
        clear hfin
        clear hv5 hs5 hgb hro hA hB hk95
        go_wp2_with fail
        go_meet
        exact HFIN.out
      · go_simp
        have hgk : Keep u0 (u0.alloc (.cells #[.slice none 0 0, .slice none 0 0, .slice none 0 0] 32)) := Keep.new _ _
        have hgb : Blk (u0.alloc (.cells #[.slice none 0 0, .slice none 0 0, .slice none 0 0] 32)) u0.heap.size 32 #[.slice none 0 0, .slice none 0 0, .slice none 0 0] := Blk.new _ _ _
        have hgl := hgb.lt
        generalize u0.alloc (.cells #[.slice none 0 0, .slice none 0 0, .slice none 0 0] 32) = u1 at hgk hgb hgl ⊢
        obtain ⟨g, hg⟩ : ∃ g, g = u0.heap.size := ⟨_, rfl⟩
        rw [← hg] at hgb hgl
        have hgl0 := hgl
        rw [← hg]
        have hz4 := hgk.size
        have hB9 := Keep.trans hB hgk
        refine hK.out _ _ (SAB.both trivial hB9) (fun hSS => ?_)
        clear hK K hA hB
        have hB := hSS.2
        have hA := hSS.1 (by kernel_rfl)
        (try dsimp only at hB); (try dsimp only at hA); clear hSS
        try simp only [Act.put, List.setIfInBounds_toArray, List.set_cons_zero, List.set_cons_succ]
        clear hB9
        refine wpL_one (i := 4) (by kernel_rfl) (StepL.mk rfl (fun K hK => ?_))
        refine step_clone rfl (.tmp 33) 29 rfl 23 iL _ 1 24 Try.underlying29 HJ0.out JZ0.out JS0.out JB0.out rfl (by omega) _ (some ⟨bc, oc, none⟩) n c2 css.flatten rfl (hrd u1 hB) hone (by simp [maxLen]; omega) (by omega) ?_
        intro R1 rc1 u2 hro hrk hrb
        have hrt := fun b hb => (hro.lt b hb).2
        have hz5 := hrk.size
        have hgb := hrk.blk hgb hgl
        have hgl := hgb.lt
        have hB9 := Keep.trans hB hrk
        refine hK.out _ _ (SAB.both trivial hB9) (fun hSS => ?_)
        clear hK K hA hB
        have hB := hSS.2
        have hA := hSS.1 (by kernel_rfl)
        (try dsimp only at hB); (try dsimp only at hA); clear hSS
        try simp only [Act.put, List.setIfInBounds_toArray, List.set_cons_zero, List.set_cons_succ]
        clear hB9
        refine wpL_takeB (i := 7) rfl (by kernel_rfl) (by kernel_rfl) (by kernel_rfl) (by decide) (fun _ _ _ h => h) (yieldsIf_bld (by rfl) 32 _ rfl _ [(0, .slice (some ⟨bl, ol, none⟩) n c1), (1, .slice R1 n rc1), (2, .slice A3 m c3)] rfl (bld_pat3 _ _ _ _ _ _ _ _ _)) (SAB.both hA hB) ?_
        try simp only [Act.put, List.setIfInBounds_toArray, List.set_cons_zero, List.set_cons_succ]
        refine wpL_one (i := 9) (by kernel_rfl) (StepL.mk rfl (fun K hK => ?_))
        refine step_store_blk rfl _ _ _ rfl g 0 32 _ [.slice (some ⟨bl, ol, none⟩) n c1, .slice R1 n rc1, .slice A3 m c3] rfl rfl hgb (by simp) (by kernel_rfl) rfl ?_
        intro v5 hv5 hs5
        rw [splice_all [.slice (some ⟨bl, ol, none⟩) n c1, .slice R1 n rc1, .slice A3 m c3] #[.slice none 0 0, .slice none 0 0, .slice none 0 0] rfl] at hv5
        have hzB := hB.size
        have q2 : ∀ b, (Value.slice R1 n rc1).ownBlock = some b → b ≠ g := fun b hb hb2 => by have h1 := hrb b hb; have h3 := hgl0; omega
        have hk95 : Keep w3 v5 := Keep.write hB hs5 (by omega)
        have hfin : MkC w3 (some ⟨bl, ol, none⟩) n c1 (.slice A3 m c3) css.flatten (.pointer (some ⟨g, 0, none⟩)) v5 := ⟨g, R1, rc1, rfl, by omega, hv5, own_low (ownsRow_own hro hs5 (fun b hb => q2 b hb)) (by omega), q2, hk95⟩
        refine hK.out _ _ (SAB.both trivial hk95) (fun hSS => ?_)
        clear hK K hA hB
        have hB := hSS.2
        have hA : True := trivial
        (try dsimp only at hB); (try dsimp only at hA); clear hSS
        try simp only [Act.put, List.setIfInBounds_toArray, List.set_cons_zero, List.set_cons_succ]
        refine wpL_done (by kernel_rfl) ?_
        have HFIN := Lib.hid hfin
        clear hfin
        clear hv5 hs5 hgb hro hA hB hk95
        go_wp2_with fail
        go_meet
        exact HFIN.out
    case rest =>
      obtain ⟨g, R1, rc1, rfl, hgw, hgb, hro, hq2, hkc⟩ := hcut
      obtain ⟨gk, cur, rfl, hbg, hbk, hcs, hnc, hcm, htk⟩ := own_open hro (by omega)
      have hgl := hbk.lt
      have hgbl9 := hgb.lt
      have hzc := hkc.size
      have hqc : q < cur.size := by omega
      have hk3c := Keep.trans HK3.out hkc
      have hb44 := hkc.blk HB43.out HB43.out.lt
      have hb84 := hkc.blk HB83.out HB83.out.lt
      have hl44 := hb44.lt
      have y1 : ∀ wx, Keep wc wx → wx.cell? ⟨g, 1, none⟩ = some (.slice (some ⟨gk, 0, none⟩) n rc1) := fun wx hx => by rw [(hx.blk hgb hgbl9).cell]; rfl
      have z0 : ∀ wx, Keep wc wx → wx.cell? ⟨w.heap.size, 0, none⟩ = some (.slice (some ⟨bl, ol, none⟩) n c1) := fun wx hx => by rw [(hx.blk hb44 hl44).cell]; rfl
      have z2 : ∀ wx, Keep wc wx → wx.cell? ⟨bl, ol + q, none⟩ = some (.int .i64 lv) := fun wx hx => X1.out wx (Keep.trans hk3c hx)
      have hrk : ∀ u, Keep wc u → Reads u S 1 (some ⟨bk, ok, none⟩) (k + 1) (ck.flatMap encI) := fun u hu => (HSK.out.keep ((Keep.trans hk3c hu).mono HS.out)).2.2.2
      have hzw : w.heap.size + 1 < w3.heap.size := by have := HB83.out.lt; omega
      have last : ∀ (w6 v6 : World) (Ab : Option Addr) (cb : Nat), Keep w3 w6 → Same (· ≠ w.heap.size + 1) w6 v6 → Blk w6 gk 23 (cur.setIfInBounds q (.slice Ab (k + 2) cb)) → w6.ownsRow wc.heap.size 3 1 (.slice Ab (k + 2) cb) (k + 1 + 1) (ck.flatMap encI ++ [.int .i64 lv]) → MarkPost (some ⟨bl, ol, none⟩) n c1 (.slice A3 m c3) S L w (.returned (.agg #[.slice (some ⟨bl, ol, none⟩) n c1, .slice (some ⟨gk, 0, none⟩) n rc1, .slice A3 m c3])) v6 := by
        intro w6 v6 Ab cb h1 h2 h3 h4
        have hkf : Keep w v6 := Keep.write (Keep.trans HK3.out h1) h2 (by omega)
        have hgk6 := h3.lt
        have hz6 := h2.size
        have e5 : ck.flatMap encI ++ [.int .i64 lv] = (ck ++ [lv]).flatMap encI := by simp [encI]
        rw [e5] at h4
        have h5 := own_ints h4
        have h6 : Sl encI 1 v6 (fun i => S i ∨ New v6 w.heap.size i) Ab (k + 2) cb (ck ++ [lv]) := (h5.keep (h2.mono (fun i hi => by have := hi.1; show i ≠ _; omega))).more (fun i hi => .inr ⟨by have := hi.1; omega, by have := hi.2; omega⟩)
        refine ⟨_, rc1, rfl, ckr_set (hkf.mono HS.out) HCKL.out G1.out G2.out G4.out HCKN.out hq (h2.blk h3 (by omega)) htk hcs hnc hcm (.inr ⟨by omega, by omega⟩) (fun i hi => .inl hi) h6 (by simp) (by have := HKNL.out.2; simp; omega), hkf⟩
      have HB44 := Lib.hid hb44
      have HB84 := Lib.hid hb84
      have HK3C := Lib.hid hk3c
      have LAST := Lib.hid last
      clear hb44 hb84 hk3c last
      clear hro
      go_upto_region 7 with fail
      refine wp_region_L 13 (fun wx => Keep wc wx) (fun _ => True) (by kernel_rfl) (Same.drew (Same.refl _ _)) trivial (fun hA hB => ?_)
      have hku : Keep wc wc.drew := Same.drew (Same.refl _ _)
      generalize hu0 : wc.drew = u0 at hA hku ⊢
      clear hu0
      refine wpL_takeA (i := 0) (v := ?_) rfl (by kernel_rfl) (by kernel_rfl) (by kernel_rfl) (by kernel_rfl) (by decide) (fun _ _ _ h => h) (Or.inl ⟨by rfl, ?_⟩) hA hB ?_
      rotate_left
      · rintro wx ⟨hAx, hBx⟩
        (try dsimp only at hBx); (try dsimp only at hAx)
        go_simp
        try with_reducible rfl
      try simp only [Act.put, List.setIfInBounds_toArray, List.set_cons_zero, List.set_cons_succ]
      refine wpL_takeA (i := 1) (v := ?_) rfl (by kernel_rfl) (by kernel_rfl) (by kernel_rfl) (by kernel_rfl) (by decide) (fun _ _ _ h => h) (Or.inl ⟨by rfl, ?_⟩) hA hB ?_
      rotate_left
      · rintro wx ⟨hAx, hBx⟩
        (try dsimp only at hBx); (try dsimp only at hAx)
        go_simp
        try with_reducible rfl
      try simp only [Act.put, List.setIfInBounds_toArray, List.set_cons_zero, List.set_cons_succ]
      refine wpL_takeA (i := 2) (v := ?_) rfl (by kernel_rfl) (by kernel_rfl) (by kernel_rfl) (by kernel_rfl) (by decide) (fun _ _ _ h => h) (Or.inl ⟨by rfl, ?_⟩) hA hB ?_
      rotate_left
      · rintro wx ⟨hAx, hBx⟩
        (try dsimp only at hBx); (try dsimp only at hAx)
        go_simp
        try with_reducible rfl
      try simp only [Act.put, List.setIfInBounds_toArray, List.set_cons_zero, List.set_cons_succ]
      refine wpL_takeA (i := 3) (v := ?_) rfl (by kernel_rfl) (by kernel_rfl) (by kernel_rfl) (by kernel_rfl) (by decide) (fun _ _ _ h => h) (Or.inl ⟨by rfl, ?_⟩) hA hB ?_
      rotate_left
      · rintro wx ⟨hAx, hBx⟩
        (try dsimp only at hBx); (try dsimp only at hAx)
        go_simp
        try with_reducible rfl
      try simp only [Act.put, List.setIfInBounds_toArray, List.set_cons_zero, List.set_cons_succ]
      refine wpL_takeA (i := 5) (v := ?_) rfl (by kernel_rfl) (by kernel_rfl) (by kernel_rfl) (by kernel_rfl) (by decide) (fun _ _ _ h => h) (Or.inl ⟨by rfl, ?_⟩) hA hB ?_
      rotate_left
      · rintro wx ⟨hAx, hBx⟩
        (try dsimp only at hBx); (try dsimp only at hAx)
        go_simp
        try with_reducible rfl
      try simp only [Act.put, List.setIfInBounds_toArray, List.set_cons_zero, List.set_cons_succ]
      refine wpL_takeA (i := 6) (v := ?_) rfl (by kernel_rfl) (by kernel_rfl) (by kernel_rfl) (by kernel_rfl) (by decide) (fun _ _ _ h => h) (Or.inl ⟨by rfl, ?_⟩) hA hB ?_
      rotate_left
      · rintro wx ⟨hAx, hBx⟩
        (try dsimp only at hBx); (try dsimp only at hAx)
        go_simp
        try with_reducible rfl
      try simp only [Act.put, List.setIfInBounds_toArray, List.set_cons_zero, List.set_cons_succ]
      refine wpL_takeA (i := 7) (v := ?_) rfl (by kernel_rfl) (by kernel_rfl) (by kernel_rfl) (by kernel_rfl) (by decide) (fun _ _ _ h => h) (Or.inl ⟨by rfl, ?_⟩) hA hB ?_
      rotate_left
      · rintro wx ⟨hAx, hBx⟩
        (try dsimp only at hBx); (try dsimp only at hAx)
        go_simp
        try with_reducible rfl
      try simp only [Act.put, List.setIfInBounds_toArray, List.set_cons_zero, List.set_cons_succ]
      refine wpL_takeA (i := 8) (v := ?_) rfl (by kernel_rfl) (by kernel_rfl) (by kernel_rfl) (by kernel_rfl) (by decide) (fun _ _ _ h => h) (Or.inl ⟨by rfl, ?_⟩) hA hB ?_
      rotate_left
      · rintro wx ⟨hAx, hBx⟩
        (try dsimp only at hBx); (try dsimp only at hAx)
        go_simp
        try with_reducible rfl
      try simp only [Act.put, List.setIfInBounds_toArray, List.set_cons_zero, List.set_cons_succ]
      refine wpL_takeA (i := 9) (v := ?_) rfl (by kernel_rfl) (by kernel_rfl) (by kernel_rfl) (by kernel_rfl) (by decide) (fun _ _ _ h => h) (Or.inl ⟨by rfl, ?_⟩) hA hB ?_
      rotate_left
      · rintro wx ⟨hAx, hBx⟩
        (try dsimp only at hBx); (try dsimp only at hAx)
        go_simp
        try with_reducible rfl
      try simp only [Act.put, List.setIfInBounds_toArray, List.set_cons_zero, List.set_cons_succ]
      refine wpL_two (i := 4) (j := 10) (by kernel_rfl) (StepL.mk rfl (fun K hK => ?_)) (StepL.mk rfl (fun K hK => ?_))
      · refine step_clone rfl (.tmp 41) 23 rfl 3 iI _ 1 8 Try.underlying23 HI0.out IZ0.out IS0.out IB0.out rfl (by omega) _ (some ⟨bk, ok, none⟩) (k + 1) ck0 (ck.flatMap encI) rfl (hrk u0 hku) (ints_one _) (by simp [maxLen]; omega) (by omega) ?_
        intro V1 vc1 u1 hvo hvk hvb
        have hz7 := hvk.size
        have hK9 := Keep.trans hku hvk
        refine hK.out _ _ (SAB.both hK9 trivial) (fun hSS => ?_)
        clear hK K hA hB
        have hB := hSS.2
        have hA := hSS.1 (by kernel_rfl)
        (try dsimp only at hB); (try dsimp only at hA); clear hSS
        try simp only [Act.put, List.setIfInBounds_toArray, List.set_cons_zero, List.set_cons_succ]
        refine wpL_one (i := 10) (by kernel_rfl) (StepL.mk rfl (fun K hK => ?_))
        refine step_buildS rfl _ _ _ _ rfl Try.underlying23 _ [(0, .int .i64 lv)] rfl (builtS_int _) ?_
        have hbk1 : Keep u1 (u1.alloc (.cells #[.int .i64 lv] 3)) := Keep.new _ _
        have hrd := Reads.new (w := u1) (e := 3) (cs := [.int .i64 lv]) (size := 1) (n := 1) rfl
        generalize hgen1 : u1.alloc (.cells #[.int .i64 lv] 3) = u2 at *
        obtain ⟨gb, hgb9⟩ : ∃ gb, gb = u1.heap.size := ⟨_, rfl⟩
        rw [← hgb9] at hrd
        rw [← hgb9]
        have hgbl : gb < u2.heap.size := by rw [← hgen1, hgb9]; simp
        have hz8 := hbk1.size
        have hvo := ownsRow_same hvo hbk1 (fun i hi => hi.2)
        have hK9 := Keep.trans hK9 hbk1
        refine hK.out _ _ (SAB.both hK9 trivial) (fun hSS => ?_)
        clear hK K hA hB
        have hB := hSS.2
        have hA := hSS.1 (by kernel_rfl)
        (try dsimp only at hB); (try dsimp only at hA); clear hSS
        try simp only [Act.put, List.setIfInBounds_toArray, List.set_cons_zero, List.set_cons_succ]
        refine wpL_one (i := 11) (by kernel_rfl) (StepL.mk rfl (fun K hK => ?_))
        have hvo2 := own_low (base' := wc.heap.size) hvo (by have := hku.size; omega)
        refine step_append_any _ (by rfl) (.tmp 42) (.tmp 48) _ (by rfl) wc.heap.size 3 iI _ 1 8 Try.underlying23 HI0.out IZ0.out IS0.out IB0.out rfl (by omega) (.slice V1 (k + 1) vc1) (k + 1) (ck.flatMap encI) (by rfl) hvo2 _ (some ⟨gb, 0, none⟩) 1 1 [.int .i64 lv] (by rfl) hrd (by intro u hu; simp at hu; subst hu; rfl) (by simp [maxLen]; omega) (by omega) (by have := hku.size; omega) ?_
        intro vb wb hownb hgb' hatb
        have hKb : Keep wc wb := Same.append hK9 hvo2 hgb' (fun i hi => hi) (by have := hku.size; omega)
        obtain ⟨Ab, cb, hvb, hnb, hcb⟩ := own_form hownb
        subst hvb
        refine hK.out _ _ (SAB.both hKb trivial) (fun hSS => ?_)
        clear hK K hA hB
        have hB := hSS.2
        have hA := hSS.1 (by kernel_rfl)
        (try dsimp only at hB); (try dsimp only at hA); clear hSS
        try simp only [Act.put, List.setIfInBounds_toArray, List.set_cons_zero, List.set_cons_succ]
        clear hvo hvo2 hgb' hatb hK9 hrd
        refine wpL_takeA (i := 12) (v := ?_) rfl (by kernel_rfl) (by kernel_rfl) (by kernel_rfl) (by kernel_rfl) (by decide) (fun _ _ _ h => h) (Or.inl ⟨by rfl, ?_⟩) hA hB ?_
        rotate_left
        · rintro wx ⟨hAx, hBx⟩
          (try dsimp only at hBx); (try dsimp only at hAx)
          go_simp
          try with_reducible rfl
        try simp only [Act.put, List.setIfInBounds_toArray, List.set_cons_zero, List.set_cons_succ]
        refine wpL_one (i := 13) (by kernel_rfl) (StepL.mk rfl (fun K hK => ?_))
        refine step_store_one rfl _ _ _ rfl gk q 23 cur (.slice Ab (k + 2) cb) rfl rfl (hKb.blk hbk hgl) hqc (by kernel_rfl) rfl rfl ?_
        intro w6 hb6 hs6
        have hown6 := ownsRow_own hownb hs6 (fun b hb e => by have := (hownb.lt b hb).1; omega)
        have hgb6 := hs6.blk (hKb.blk hgb hgbl9) (fun e => hq2 gk rfl e.symm)
        have hb86 := hs6.blk (hKb.blk HB84.out HB84.out.lt) (by have := HB84.out.lt; omega)
        have hk36 : Keep w3 w6 := Keep.write (Keep.trans hkc hKb) hs6 hbg
        refine hK.out _ _ (SAB.past (by kernel_rfl) trivial) (fun hSS => ?_)
        clear hK K hA hB
        have hB := hSS.2
        have hA : True := trivial
        (try dsimp only at hB); (try dsimp only at hA); clear hSS
        try simp only [Act.put, List.setIfInBounds_toArray, List.set_cons_zero, List.set_cons_succ]
        refine wpL_done (by kernel_rfl) ?_
        have HOWN6 := Lib.hid hown6
        have HGB6 := Lib.hid hgb6
        have HB86 := Lib.hid hb86
        have HB6 := Lib.hid hb6
        have HK36 := Lib.hid hk36
        have HKC := Lib.hid hkc
        clear hown6 hgb6 hb86 hb6 hk36 hkc
        clear hs6 hKb hownb y1 z0 z2
        go_wp2_with (first
          | (refine wpList_load_all rfl _ (.tmp 6) rfl g 32 [.slice (some ⟨bl, ol, none⟩) n c1, .slice (some ⟨gk, 0, none⟩) n rc1, .slice A3 m c3] _ rfl HGB6.out Try.underlying32 rfl (by kernel_rfl) ?_)
          | (refine wpList_store_all rfl _ (.tmp 4) (.tmp 51) rfl (w.heap.size + 1) 32 _ [.slice (some ⟨bl, ol, none⟩) n c1, .slice (some ⟨gk, 0, none⟩) n rc1, .slice A3 m c3] rfl rfl HB86.out rfl (by kernel_rfl) rfl ?_; intro v6 hv6 hs7))
        refine bodyPost_ret (results_cell1 Try.results37 _ _ _ ⟨w.heap.size + 1, 0, none⟩ _ rfl (loadVar_blk [.slice (some ⟨bl, ol, none⟩) n c1, .slice (some ⟨gk, 0, none⟩) n rc1, .slice A3 m c3] _ hv6 (fun j v hv => by simpa using hv) Try.underlying32 rfl (by kernel_rfl))) rfl ?_
        exact LAST.out w6 v6 Ab cb HK36.out hs7 HB6.out HOWN6.out
      · refine step_buildS rfl _ _ _ _ rfl Try.underlying23 _ [(0, .int .i64 lv)] rfl (builtS_int _) ?_
        have hbk1 : Keep u0 (u0.alloc (.cells #[.int .i64 lv] 3)) := Keep.new _ _
        have hrd := Reads.new (w := u0) (e := 3) (cs := [.int .i64 lv]) (size := 1) (n := 1) rfl
        generalize hgen0 : u0.alloc (.cells #[.int .i64 lv] 3) = u1 at *
        obtain ⟨gb, hgb9⟩ : ∃ gb, gb = u0.heap.size := ⟨_, rfl⟩
        rw [← hgb9] at hrd
        rw [← hgb9]
        have hgbl : gb < u1.heap.size := by rw [← hgen0, hgb9]; simp
        have hz7 := hbk1.size
        have hK9 := Keep.trans hku hbk1
        refine hK.out _ _ (SAB.both hK9 trivial) (fun hSS => ?_)
        clear hK K hA hB
        have hB := hSS.2
        have hA := hSS.1 (by kernel_rfl)
        (try dsimp only at hB); (try dsimp only at hA); clear hSS
        try simp only [Act.put, List.setIfInBounds_toArray, List.set_cons_zero, List.set_cons_succ]
        refine wpL_one (i := 4) (by kernel_rfl) (StepL.mk rfl (fun K hK => ?_))
        refine step_clone rfl (.tmp 41) 23 rfl 3 iI _ 1 8 Try.underlying23 HI0.out IZ0.out IS0.out IB0.out rfl (by omega) _ (some ⟨bk, ok, none⟩) (k + 1) ck0 (ck.flatMap encI) rfl (hrk u1 hK9) (ints_one _) (by simp [maxLen]; omega) (by omega) ?_
        intro V1 vc1 u2 hvo hvk hvb
        have hz8 := hvk.size
        have hrd := hrd.keep (hvk.mono (fun i hi => by omega))
        have hK9 := Keep.trans hK9 hvk
        refine hK.out _ _ (SAB.both hK9 trivial) (fun hSS => ?_)
        clear hK K hA hB
        have hB := hSS.2
        have hA := hSS.1 (by kernel_rfl)
        (try dsimp only at hB); (try dsimp only at hA); clear hSS
        try simp only [Act.put, List.setIfInBounds_toArray, List.set_cons_zero, List.set_cons_succ]
        refine wpL_one (i := 11) (by kernel_rfl) (StepL.mk rfl (fun K hK => ?_))
        have hvo2 := own_low (base' := wc.heap.size) hvo (by have := hku.size; omega)
        refine step_append_any _ (by rfl) (.tmp 42) (.tmp 48) _ (by rfl) wc.heap.size 3 iI _ 1 8 Try.underlying23 HI0.out IZ0.out IS0.out IB0.out rfl (by omega) (.slice V1 (k + 1) vc1) (k + 1) (ck.flatMap encI) (by rfl) hvo2 _ (some ⟨gb, 0, none⟩) 1 1 [.int .i64 lv] (by rfl) hrd (by intro u hu; simp at hu; subst hu; rfl) (by simp [maxLen]; omega) (by omega) (by have := hku.size; omega) ?_
        intro vb wb hownb hgb' hatb
        have hKb : Keep wc wb := Same.append hK9 hvo2 hgb' (fun i hi => hi) (by have := hku.size; omega)
        obtain ⟨Ab, cb, hvb, hnb, hcb⟩ := own_form hownb
        subst hvb
        refine hK.out _ _ (SAB.both hKb trivial) (fun hSS => ?_)
        clear hK K hA hB
        have hB := hSS.2
        have hA := hSS.1 (by kernel_rfl)
        (try dsimp only at hB); (try dsimp only at hA); clear hSS
        try simp only [Act.put, List.setIfInBounds_toArray, List.set_cons_zero, List.set_cons_succ]
        clear hvo hvo2 hgb' hatb hK9 hrd
        refine wpL_takeA (i := 12) (v := ?_) rfl (by kernel_rfl) (by kernel_rfl) (by kernel_rfl) (by kernel_rfl) (by decide) (fun _ _ _ h => h) (Or.inl ⟨by rfl, ?_⟩) hA hB ?_
        rotate_left
        · rintro wx ⟨hAx, hBx⟩
          (try dsimp only at hBx); (try dsimp only at hAx)
          go_simp
          try with_reducible rfl
        try simp only [Act.put, List.setIfInBounds_toArray, List.set_cons_zero, List.set_cons_succ]
        refine wpL_one (i := 13) (by kernel_rfl) (StepL.mk rfl (fun K hK => ?_))
        refine step_store_one rfl _ _ _ rfl gk q 23 cur (.slice Ab (k + 2) cb) rfl rfl (hKb.blk hbk hgl) hqc (by kernel_rfl) rfl rfl ?_
        intro w6 hb6 hs6
        have hown6 := ownsRow_own hownb hs6 (fun b hb e => by have := (hownb.lt b hb).1; omega)
        have hgb6 := hs6.blk (hKb.blk hgb hgbl9) (fun e => hq2 gk rfl e.symm)
        have hb86 := hs6.blk (hKb.blk HB84.out HB84.out.lt) (by have := HB84.out.lt; omega)
        have hk36 : Keep w3 w6 := Keep.write (Keep.trans hkc hKb) hs6 hbg
        refine hK.out _ _ (SAB.past (by kernel_rfl) trivial) (fun hSS => ?_)
        clear hK K hA hB
        have hB := hSS.2
        have hA : True := trivial
        (try dsimp only at hB); (try dsimp only at hA); clear hSS
        try simp only [Act.put, List.setIfInBounds_toArray, List.set_cons_zero, List.set_cons_succ]
        refine wpL_done (by kernel_rfl) ?_
        have HOWN6 := Lib.hid hown6
        have HGB6 := Lib.hid hgb6
        have HB86 := Lib.hid hb86
        have HB6 := Lib.hid hb6
        have HK36 := Lib.hid hk36
        have HKC := Lib.hid hkc
        clear hown6 hgb6 hb86 hb6 hk36 hkc
        clear hs6 hKb hownb y1 z0 z2
        go_wp2_with (first
          | (refine wpList_load_all rfl _ (.tmp 6) rfl g 32 [.slice (some ⟨bl, ol, none⟩) n c1, .slice (some ⟨gk, 0, none⟩) n rc1, .slice A3 m c3] _ rfl HGB6.out Try.underlying32 rfl (by kernel_rfl) ?_)
          | (refine wpList_store_all rfl _ (.tmp 4) (.tmp 51) rfl (w.heap.size + 1) 32 _ [.slice (some ⟨bl, ol, none⟩) n c1, .slice (some ⟨gk, 0, none⟩) n rc1, .slice A3 m c3] rfl rfl HB86.out rfl (by kernel_rfl) rfl ?_; intro v6 hv6 hs7))
        refine bodyPost_ret (results_cell1 Try.results37 _ _ _ ⟨w.heap.size + 1, 0, none⟩ _ rfl (loadVar_blk [.slice (some ⟨bl, ol, none⟩) n c1, .slice (some ⟨gk, 0, none⟩) n rc1, .slice A3 m c3] _ hv6 (fun j v hv => by simpa using hv) Try.underlying32 rfl (by kernel_rfl))) rfl ?_
        exact LAST.out w6 v6 Ab cb HK36.out hs7 HB6.out HOWN6.out
end Go.Proofs.Ytcfpkmfppgodmaa
