/- The law ReplayRecovers: written by gen_law34v.py. -/
import Derived.Test.YtecckbkobkfnmaaGreatDoorRecR
import Derived.Test.YtecckbkobkfnmaaGreatDoorGR
import Derived.Test.YtecckbkobkfnmaaGreatDoorMkEv2
import Derived.Test.YtecckbkobkfnmaaGreatDoorG34
import Derived.Test.YtecckbkobkfnmaaGreatDoorEval2
import Derived.Test.YtecckbkobkfnmaaGreatDoorGP
import Derived.Test.YtecckbkobkfnmaaGreatDoorGM
set_option linter.unusedVariables false
set_option linter.unusedSimpArgs false
set_option maxRecDepth 100000
namespace Go.Proofs.YtecckbkobkfnmaaGreatDoor
open Go.RowKit Go.Proofs

/-- The state that is recovered from, at a block of its own. -/
def CutS (B : Nat → Prop) (gc b2 : Nat) (cd : Cd) (me : Int) (W : World) (p : Value) (wx : World) : Prop :=
  ∃ (g : Nat) (cs : List Value) (l : List Ev) (r : Nat), p = .pointer (some ⟨g, 0, none⟩) ∧ Blk wx g 37 cs.toArray ∧ StR wx (fun i => b2 ≤ i ∧ i < wx.heap.size) cs (replayS cd me 3 l) ∧ l.length ≤ 4 ∧ W.heap.size ≤ g ∧ Cod wx B gc r ∧ Only gc W wx
theorem rc_fine {S : Nat → Prop} {s t : St} {m : Nat} (h1 : t.cells.length = s.cells.length) (h2 : t.sent.length ≤ s.sent.length + 8 * m) (h3 : t.outs.length ≤ s.outs.length + 8 * m) (h4 : t.events.length ≤ s.events.length + m) (hm : m ≤ 1000)
    (c1 : s.cells.length ≤ 1000000) (c2 : s.sent.length ≤ 900000) (c3 : s.outs.length ≤ 900000) (c4 : s.events.length ≤ 900000) : Fine t := ⟨by omega, by omega, by omega, by omega⟩
set_option maxHeartbeats 32000000 in
theorem replayRecovers_walk (w : World) (A : Option Addr) (n c : Nat) (zs : List Int) (A2 : Option Addr) (n2 c2 : Nat) (stock : List Dt) (x1 : Int) (hx1 : I64 x1) (hg : Glob w) (hz : Sl encB 1 w (· < w.heap.size) A n c zs) (hz8 : ∀ y ∈ zs, 0 ≤ y ∧ y < 256) (hs : Sl encDt 9 w (· < w.heap.size) A2 n2 c2 stock) (hsi : ∀ d ∈ stock, I64 d.idx) :
    Calls Tryz.prog 3 #[.slice A n c, .slice A2 n2 c2, .int .i64 x1] w (Aw34Post w) := by
  obtain ⟨iD, hj0, jz0, jz1, jz2⟩ := info_of info_Det
  have hn2l := hs.1
  have HG := Lib.hid hg
  have HZ := Lib.hid hz
  have HZ8 := Lib.hid hz8
  have HJ0 := Lib.hid hj0
  have JZ0 := Lib.hid jz0
  have JZ1 := Lib.hid jz1
  have JZ2 := Lib.hid jz2
  have HX1 := Lib.hid hx1
  have HS := Lib.hid hs
  have HSI := Lib.hid hsi
  have HN2L := Lib.hid hn2l
  clear hg hz hz8 hj0 jz0 jz1 jz2 hx1 hs hsi hn2l
  go_enter Tryz.func3, Tryz.ntmps3
  go_wp2_with fail
  refine (awake34_any w).mono ?_
  rintro e w1 ⟨rfl, hk1⟩
  have hz1 := hk1.size
  have HK1 := Lib.hid hk1
  clear hk1
  by_cases h60 : 60 < n2
  · have t0 : decide ((60 : Int) < n2) = true := by simp; omega
    go_wp2_with fail
    go_ret
    exact ⟨rfl, HK1.out⟩
  have t0 : decide ((60 : Int) < n2) = false := by simp; omega
  have hn60 : n2 ≤ 60 := by omega
  go_wp2_with fail
  refine (new_any w1 A n c 250 zs (fun i => i < w.heap.size) (fun i hi => by omega) (HZ.out.keep HK1.out) HZ8.out (by omega)).mono ?_
  rintro e w2 ⟨r, hr, rfl, hc2, hk2⟩
  have hz2 := hk2.size
  have hk2' := Keep.trans HK1.out hk2
  have hg2 := HG.out.keep hk2'
  have hgc := hc2.lt
  generalize hgce : w1.heap.size = gc at *
  have HK2' := Lib.hid hk2'
  have HG2 := Lib.hid hg2
  have HC2 := Lib.hid hc2
  clear hk2' hg2 hc2
  clear hk2 t0 h60
  go_wp2_with fail
  refine (chatter_any w2 _ gc r HC2.out HG2.out).mono ?_
  rintro e w3 ⟨cs3, cd, r3, rfl, hcd, hc3, ho3⟩
  have hz3 := ho3.size
  obtain ⟨B0, B1, B2, B3, B4, p0, q0, p1, q1, p2, q2, p3, q3, p4, q4, rfl, hcx⟩ := cd_open hcd
  have hk3 : Keep w w3 := Same.trans HK2'.out ho3 (fun i hi => by omega)
  have hci : cd.init.length ≤ 1000000 := by obtain ⟨_, _, _, _, _, _, _, _, _, _, _, _, _, _, _, _, _, _, _, _, _, h⟩ := hcx; exact h
  have HCX := Lib.hid hcx
  have HC3 := Lib.hid hc3
  have HK3 := Lib.hid hk3
  have HCI := Lib.hid hci
  clear hcx hc3 hk3 hci
  clear hcd ho3
  go_wp2_with fail
  refine (mod_any x1 3 w3 HX1.out (by omega) (by omega)).mono ?_
  rintro e w4 ⟨rfl, hq⟩
  subst hq
  generalize modS x1 3 = me at *
  go_upto_region 5 with (refine wpList_store_all rfl _ (.tmp 8) (.tmp 25) rfl w3.heap.size 30 _ [.slice B0 p0 q0, .slice B1 p1 q1, .slice B2 p2 q2, .slice B3 p3 q3, .slice B4 p4 q4] rfl rfl (Blk.new _ _ _) rfl (by kernel_rfl) rfl ?_; intro w5 hb5 hs5)
  have hk35 : Keep w3 w5 := Keep.write (Keep.new _ _) hs5 (Nat.le_refl _)
  have hz5 : w3.heap.size < w5.heap.size := hb5.lt
  have hcx5 : CdR w5 (fun i => w2.heap.size ≤ i ∧ i < w5.heap.size) [.slice B0 p0 q0, .slice B1 p1 q1, .slice B2 p2 q2, .slice B3 p3 q3, .slice B4 p4 q4] cd := (HCX.out.keep (Same.mono hk35 (fun i (hi : New w3 w2.heap.size i) => hi.2))).more (fun i hi => ⟨hi.1, by have := hi.2; omega⟩)
  have hc5 := HC3.out.keep hk35
  have hk5 := Keep.trans HK3.out hk35
  have hBw := HC2.out.2.1
  have HB5 := Lib.hid hb5
  have HCX5 := Lib.hid hcx5
  have HC5 := Lib.hid hc5
  have HK5 := Lib.hid hk5
  have HBW := Lib.hid hBw
  clear hb5 hcx5 hc5 hk5 hBw
  clear hs5 hk35 HC3 HK3 HCX
  try simp only [Act.put]
  go_cut [10] from 28 to 32 (fun p wx => CutS (fun i => i < w.heap.size ∨ i = gc) gc w2.heap.size cd me w5 p wx)
  case first =>
    refine wp_region_L 99 (fun _ => True) (fun wx => Only gc w5 wx) (by kernel_rfl) trivial (Same.drew (Same.refl _ _)) (fun hA hB => ?_)
    have hq0 : Cod w5.drew (fun i => i < w.heap.size ∨ i = gc) gc r3 := HC5.out.keep (Same.drew (Same.refl _ _))
    generalize hu0 : w5.drew = u0 at hB hq0 ⊢
    clear hu0
    have y0 := hB.size
    refine wpL_takeB (i := 0) rfl (by kernel_rfl) (by kernel_rfl) (by kernel_rfl) (by decide) (fun _ _ _ h => h) (yieldsIf_blk (by rfl) _ _ rfl w3.heap.size 0 30 _ [.slice B0 p0 q0, .slice B1 p1 q1, .slice B2 p2 q2, .slice B3 p3 q3, .slice B4 p4 q4] _ rfl (fun wx hx => hx.blk HB5.out ⟨HB5.out.lt, by omega⟩) (fun j u hu => by simpa using hu) Tryz.underlying30 rfl (by kernel_rfl)) (SAB.both hA hB) ?_
    try simp only [Act.put, List.setIfInBounds_toArray, List.set_cons_zero, List.set_cons_succ]
    refine wpL_takeB (i := 1) (v := ?_) rfl (by kernel_rfl) (by kernel_rfl) (by kernel_rfl) (by decide) (fun _ _ _ h => h) (Or.inl ⟨by rfl, ?_⟩) (SAB.both hA hB) ?_
    rotate_left
    · intro wx hBx
      (try dsimp only at hBx)
      go_simp
      try with_reducible rfl
    try simp only [Act.put, List.setIfInBounds_toArray, List.set_cons_zero, List.set_cons_succ]
    refine wpL_takeB (i := 2) (v := ?_) rfl (by kernel_rfl) (by kernel_rfl) (by kernel_rfl) (by decide) (fun _ _ _ h => h) (Or.inl ⟨by rfl, ?_⟩) (SAB.both hA hB) ?_
    rotate_left
    · intro wx hBx
      (try dsimp only at hBx)
      go_simp
      try with_reducible rfl
    try simp only [Act.put, List.setIfInBounds_toArray, List.set_cons_zero, List.set_cons_succ]
    refine wpL_two (i := 3) (j := 5) (by kernel_rfl) (StepL.mk rfl (fun K hK => ?_)) (StepL.mk rfl (fun K hK => ?_))
    · go_simp
      refine (events_any u0 _ gc _ 4 (by omega) hq0).mono ?_
      rintro e u1 ⟨AE, ne, ce, l, rfl, hle, hne, ⟨rq, hq1⟩, ho11⟩
      have z1 := ho11.size
      have ha := Only.trans hB ho11
      refine hK.out _ _ (SAB.both trivial ha) (fun hSS => ?_)
      clear hK K hA hB
      have hB := hSS.2
      have hA := hSS.1 (by kernel_rfl)
      (try dsimp only at hB); (try dsimp only at hA); clear hSS
      try simp only [Act.put, List.setIfInBounds_toArray, List.set_cons_zero, List.set_cons_succ]
      clear ha
      refine wpL_two (i := 4) (j := 5) (by kernel_rfl) (StepL.mk rfl (fun K hK => ?_)) (StepL.mk rfl (fun K hK => ?_))
      · go_simp
        have zb := hB.size
        have kq : Keep u1 u1 := Same.refl _ _
        have zq := kq.size
        have zc := ho11.size
        refine (rreplay_any u1 (fun i => (w2.heap.size ≤ i ∧ i < w5.heap.size) ∨ (u0.heap.size ≤ i ∧ i < u1.heap.size)) [.slice B0 p0 q0, .slice B1 p1 q1, .slice B2 p2 q2, .slice B3 p3 q3, .slice B4 p4 q4] cd me 3 AE ne ce l (fun i hi => hi.elim (fun h => by have := h.2; omega) (fun h => by have := h.2; omega)) ((HCX5.out.keep (hB.mono (fun i hi => ⟨hi.2, by have := hi.1; omega⟩))).more (fun i hi => .inl hi)) ((hle.keep (Same.mono kq (fun i hi => hi.2))).more (fun i hi => .inr hi)) (by have := hle.1; omega)).mono ?_
        rintro e u2 ⟨cs4, rfl, hr4', hk12⟩
        obtain ⟨X1, X2, X3, X4, xn1, xc1, xn2, xc2, xn3, xc3, xn4, xc4, rfl, hr4⟩ := st_open hr4'
        clear hr4'
        have z2 := hk12.size
        have hlt4 : ∀ i, Sn (fun i => (w2.heap.size ≤ i ∧ i < w5.heap.size) ∨ (u0.heap.size ≤ i ∧ i < u1.heap.size)) u1 u2 i → w2.heap.size ≤ i ∧ i < u2.heap.size := fun i hi => hi.elim (fun h => h.elim (fun h => by have h1 := h.1; have h2 := h.2; omega) (fun h => by have h1 := h.1; have h2 := h.2; omega)) (fun h => by have h1 := h.1; have h2 := h.2; omega)
        have hne4 : ∀ i, Sn (fun i => (w2.heap.size ≤ i ∧ i < w5.heap.size) ∨ (u0.heap.size ≤ i ∧ i < u1.heap.size)) u1 u2 i → ∀ g, (w5.heap.size ≤ g ∧ (g < u1.heap.size ∨ u2.heap.size ≤ g) ∧ (g < u0.heap.size ∨ u1.heap.size ≤ g)) → i ≠ g := fun i hi g hg => hi.elim (fun h => h.elim (fun h => by have h1 := h.2; omega) (fun h => by have h1 := h.1; have h2 := h.2; omega)) (fun h => by have h1 := h.1; have h2 := h.2; omega)
        have ho12 := hk12.only gc
        have hq2 := hq1.keep hk12
        have ha := Only.trans hB ho12
        refine hK.out _ _ (SAB.both trivial ha) (fun hSS => ?_)
        clear hK K hA hB
        have hB := hSS.2
        have hA := hSS.1 (by kernel_rfl)
        (try dsimp only at hB); (try dsimp only at hA); clear hSS
        try simp only [Act.put, List.setIfInBounds_toArray, List.set_cons_zero, List.set_cons_succ]
        clear ha
        refine wpL_one (i := 5) (by kernel_rfl) (StepL.mk rfl (fun K hK => ?_))
        go_simp
        generalize hq : u2.alloc (.cells #[.slice none 0 0, .slice none 0 0, .slice none 0 0, .slice none 0 0] 37) = u3
        have hb5a : Blk u3 u2.heap.size 37 #[.slice none 0 0, .slice none 0 0, .slice none 0 0, .slice none 0 0] := hq ▸ Blk.new _ _ _
        have hk13 : Keep u2 u3 := hq ▸ Keep.new _ _
        clear hq
        have y5a := hb5a.lt
        have ho13 := hk13.only gc
        have hq3 := hq2.keep hk13
        have z3 := hk13.size
        have ha := Only.trans hB ho13
        refine hK.out _ _ (SAB.both trivial ha) (fun hSS => ?_)
        clear hK K hA hB
        have hB := hSS.2
        have hA := hSS.1 (by kernel_rfl)
        (try dsimp only at hB); (try dsimp only at hA); clear hSS
        try simp only [Act.put, List.setIfInBounds_toArray, List.set_cons_zero, List.set_cons_succ]
        clear ha
        have ok3 : Only gc u3 u3 := Same.refl _ _
        have ok2 : Only gc u2 u3 := Only.trans ho13 ok3
        have ok1 : Only gc u1 u3 := Only.trans ho12 ok2
        have zB := hB.size
        have b9 := ok3.blk hb5a ⟨y5a, by omega⟩
        have rr := hr4.keep (ok2.mono (fun i hi => ⟨(hlt4 i hi).2, by have := (hlt4 i hi).1; omega⟩))
        have oa := hB
        refine wpL_one (i := 6) (by kernel_rfl) (StepL.mk rfl (fun K hK => ?_))
        refine step_store_blk rfl _ _ _ rfl (u2.heap.size) 0 37 _ [.slice X1 xn1 xc1, .slice X2 xn2 xc2, .slice X3 xn3 xc3, .slice X4 xn4 xc4] rfl rfl b9 (by simp) (by kernel_rfl) rfl ?_
        intro v5 hv5 hs5
        rw [splice_all [.slice X1 xn1 xc1, .slice X2 xn2 xc2, .slice X3 xn3 xc3, .slice X4 xn4 xc4] #[.slice none 0 0, .slice none 0 0, .slice none 0 0, .slice none 0 0] rfl] at hv5
        have zv := hs5.size
        have zx := ok2.size
        have kv := Only.write oa hs5 (by omega)
        have hqv := hq3.write hs5 (fun hh => by rcases hh with h | h <;> omega)
        have hfin : CutS (fun i => i < w.heap.size ∨ i = gc) gc w2.heap.size cd me w5 (.pointer (some ⟨u2.heap.size, 0, none⟩)) v5 := ⟨_, _, l, _, rfl, hv5, (rr.keep (hs5.mono (fun i hi => hne4 i hi (u2.heap.size) (by omega)))).more (fun i hi => by have := hlt4 i hi; omega), (by have := hle.1; omega), by omega, hqv, kv⟩
        refine hK.out _ _ (SAB.both trivial kv) (fun hSS => ?_)
        clear hK K hA hB
        have hB := hSS.2
        have hA := hSS.1 (by kernel_rfl)
        (try dsimp only at hB); (try dsimp only at hA); clear hSS
        try simp only [Act.put, List.setIfInBounds_toArray, List.set_cons_zero, List.set_cons_succ]
        refine wpL_done (by kernel_rfl) ?_
        have HFIN := Lib.hid hfin
        clear hfin
        clear hv5 hs5 rr b9 hA hB oa kv hqv ok1 ok2 ok3
        go_wp2_with fail
        go_meet
        exact HFIN.out
      · go_simp
        generalize hq : u1.alloc (.cells #[.slice none 0 0, .slice none 0 0, .slice none 0 0, .slice none 0 0] 37) = u2
        have hb5a : Blk u2 u1.heap.size 37 #[.slice none 0 0, .slice none 0 0, .slice none 0 0, .slice none 0 0] := hq ▸ Blk.new _ _ _
        have hk12 : Keep u1 u2 := hq ▸ Keep.new _ _
        clear hq
        have y5a := hb5a.lt
        have ho12 := hk12.only gc
        have hq2 := hq1.keep hk12
        have z2 := hk12.size
        have ha := Only.trans hB ho12
        refine hK.out _ _ (SAB.both trivial ha) (fun hSS => ?_)
        clear hK K hA hB
        have hB := hSS.2
        have hA := hSS.1 (by kernel_rfl)
        (try dsimp only at hB); (try dsimp only at hA); clear hSS
        try simp only [Act.put, List.setIfInBounds_toArray, List.set_cons_zero, List.set_cons_succ]
        clear ha
        refine wpL_one (i := 4) (by kernel_rfl) (StepL.mk rfl (fun K hK => ?_))
        go_simp
        have zb := hB.size
        have kq : Keep u1 u2 := hk12
        have zq := kq.size
        have zc := ho11.size
        refine (rreplay_any u2 (fun i => (w2.heap.size ≤ i ∧ i < w5.heap.size) ∨ (u0.heap.size ≤ i ∧ i < u1.heap.size)) [.slice B0 p0 q0, .slice B1 p1 q1, .slice B2 p2 q2, .slice B3 p3 q3, .slice B4 p4 q4] cd me 3 AE ne ce l (fun i hi => hi.elim (fun h => by have := h.2; omega) (fun h => by have := h.2; omega)) ((HCX5.out.keep (hB.mono (fun i hi => ⟨hi.2, by have := hi.1; omega⟩))).more (fun i hi => .inl hi)) ((hle.keep (Same.mono kq (fun i hi => hi.2))).more (fun i hi => .inr hi)) (by have := hle.1; omega)).mono ?_
        rintro e u3 ⟨cs4, rfl, hr4', hk13⟩
        obtain ⟨X1, X2, X3, X4, xn1, xc1, xn2, xc2, xn3, xc3, xn4, xc4, rfl, hr4⟩ := st_open hr4'
        clear hr4'
        have z3 := hk13.size
        have hlt4 : ∀ i, Sn (fun i => (w2.heap.size ≤ i ∧ i < w5.heap.size) ∨ (u0.heap.size ≤ i ∧ i < u1.heap.size)) u2 u3 i → w2.heap.size ≤ i ∧ i < u3.heap.size := fun i hi => hi.elim (fun h => h.elim (fun h => by have h1 := h.1; have h2 := h.2; omega) (fun h => by have h1 := h.1; have h2 := h.2; omega)) (fun h => by have h1 := h.1; have h2 := h.2; omega)
        have hne4 : ∀ i, Sn (fun i => (w2.heap.size ≤ i ∧ i < w5.heap.size) ∨ (u0.heap.size ≤ i ∧ i < u1.heap.size)) u2 u3 i → ∀ g, (w5.heap.size ≤ g ∧ (g < u2.heap.size ∨ u3.heap.size ≤ g) ∧ (g < u0.heap.size ∨ u1.heap.size ≤ g)) → i ≠ g := fun i hi g hg => hi.elim (fun h => h.elim (fun h => by have h1 := h.2; omega) (fun h => by have h1 := h.1; have h2 := h.2; omega)) (fun h => by have h1 := h.1; have h2 := h.2; omega)
        have ho13 := hk13.only gc
        have hq3 := hq2.keep hk13
        have ha := Only.trans hB ho13
        refine hK.out _ _ (SAB.both trivial ha) (fun hSS => ?_)
        clear hK K hA hB
        have hB := hSS.2
        have hA := hSS.1 (by kernel_rfl)
        (try dsimp only at hB); (try dsimp only at hA); clear hSS
        try simp only [Act.put, List.setIfInBounds_toArray, List.set_cons_zero, List.set_cons_succ]
        clear ha
        have ok3 : Only gc u3 u3 := Same.refl _ _
        have ok2 : Only gc u2 u3 := Only.trans ho13 ok3
        have ok1 : Only gc u1 u3 := Only.trans ho12 ok2
        have zB := hB.size
        have b9 := ok2.blk hb5a ⟨y5a, by omega⟩
        have rr := hr4.keep (ok3.mono (fun i hi => ⟨(hlt4 i hi).2, by have := (hlt4 i hi).1; omega⟩))
        have oa := hB
        refine wpL_one (i := 6) (by kernel_rfl) (StepL.mk rfl (fun K hK => ?_))
        refine step_store_blk rfl _ _ _ rfl (u1.heap.size) 0 37 _ [.slice X1 xn1 xc1, .slice X2 xn2 xc2, .slice X3 xn3 xc3, .slice X4 xn4 xc4] rfl rfl b9 (by simp) (by kernel_rfl) rfl ?_
        intro v5 hv5 hs5
        rw [splice_all [.slice X1 xn1 xc1, .slice X2 xn2 xc2, .slice X3 xn3 xc3, .slice X4 xn4 xc4] #[.slice none 0 0, .slice none 0 0, .slice none 0 0, .slice none 0 0] rfl] at hv5
        have zv := hs5.size
        have zx := ok3.size
        have kv := Only.write oa hs5 (by omega)
        have hqv := hq3.write hs5 (fun hh => by rcases hh with h | h <;> omega)
        have hfin : CutS (fun i => i < w.heap.size ∨ i = gc) gc w2.heap.size cd me w5 (.pointer (some ⟨u1.heap.size, 0, none⟩)) v5 := ⟨_, _, l, _, rfl, hv5, (rr.keep (hs5.mono (fun i hi => hne4 i hi (u1.heap.size) (by omega)))).more (fun i hi => by have := hlt4 i hi; omega), (by have := hle.1; omega), by omega, hqv, kv⟩
        refine hK.out _ _ (SAB.both trivial kv) (fun hSS => ?_)
        clear hK K hA hB
        have hB := hSS.2
        have hA := hSS.1 (by kernel_rfl)
        (try dsimp only at hB); (try dsimp only at hA); clear hSS
        try simp only [Act.put, List.setIfInBounds_toArray, List.set_cons_zero, List.set_cons_succ]
        refine wpL_done (by kernel_rfl) ?_
        have HFIN := Lib.hid hfin
        clear hfin
        clear hv5 hs5 rr b9 hA hB oa kv hqv ok1 ok2 ok3
        go_wp2_with fail
        go_meet
        exact HFIN.out
    · go_simp
      generalize hq : u0.alloc (.cells #[.slice none 0 0, .slice none 0 0, .slice none 0 0, .slice none 0 0] 37) = u1
      have hb5a : Blk u1 u0.heap.size 37 #[.slice none 0 0, .slice none 0 0, .slice none 0 0, .slice none 0 0] := hq ▸ Blk.new _ _ _
      have hk11 : Keep u0 u1 := hq ▸ Keep.new _ _
      clear hq
      have y5a := hb5a.lt
      have ho11 := hk11.only gc
      have hq1 := hq0.keep hk11
      have z1 := hk11.size
      have ha := Only.trans hB ho11
      refine hK.out _ _ (SAB.both trivial ha) (fun hSS => ?_)
      clear hK K hA hB
      have hB := hSS.2
      have hA := hSS.1 (by kernel_rfl)
      (try dsimp only at hB); (try dsimp only at hA); clear hSS
      try simp only [Act.put, List.setIfInBounds_toArray, List.set_cons_zero, List.set_cons_succ]
      clear ha
      refine wpL_one (i := 3) (by kernel_rfl) (StepL.mk rfl (fun K hK => ?_))
      go_simp
      refine (events_any u1 _ gc _ 4 (by omega) hq1).mono ?_
      rintro e u2 ⟨AE, ne, ce, l, rfl, hle, hne, ⟨rq, hq2⟩, ho12⟩
      have z2 := ho12.size
      have ha := Only.trans hB ho12
      refine hK.out _ _ (SAB.both trivial ha) (fun hSS => ?_)
      clear hK K hA hB
      have hB := hSS.2
      have hA := hSS.1 (by kernel_rfl)
      (try dsimp only at hB); (try dsimp only at hA); clear hSS
      try simp only [Act.put, List.setIfInBounds_toArray, List.set_cons_zero, List.set_cons_succ]
      clear ha
      refine wpL_one (i := 4) (by kernel_rfl) (StepL.mk rfl (fun K hK => ?_))
      go_simp
      have zb := hB.size
      have kq : Keep u2 u2 := Same.refl _ _
      have zq := kq.size
      have zc := ho12.size
      refine (rreplay_any u2 (fun i => (w2.heap.size ≤ i ∧ i < w5.heap.size) ∨ (u1.heap.size ≤ i ∧ i < u2.heap.size)) [.slice B0 p0 q0, .slice B1 p1 q1, .slice B2 p2 q2, .slice B3 p3 q3, .slice B4 p4 q4] cd me 3 AE ne ce l (fun i hi => hi.elim (fun h => by have := h.2; omega) (fun h => by have := h.2; omega)) ((HCX5.out.keep (hB.mono (fun i hi => ⟨hi.2, by have := hi.1; omega⟩))).more (fun i hi => .inl hi)) ((hle.keep (Same.mono kq (fun i hi => hi.2))).more (fun i hi => .inr hi)) (by have := hle.1; omega)).mono ?_
      rintro e u3 ⟨cs4, rfl, hr4', hk13⟩
      obtain ⟨X1, X2, X3, X4, xn1, xc1, xn2, xc2, xn3, xc3, xn4, xc4, rfl, hr4⟩ := st_open hr4'
      clear hr4'
      have z3 := hk13.size
      have hlt4 : ∀ i, Sn (fun i => (w2.heap.size ≤ i ∧ i < w5.heap.size) ∨ (u1.heap.size ≤ i ∧ i < u2.heap.size)) u2 u3 i → w2.heap.size ≤ i ∧ i < u3.heap.size := fun i hi => hi.elim (fun h => h.elim (fun h => by have h1 := h.1; have h2 := h.2; omega) (fun h => by have h1 := h.1; have h2 := h.2; omega)) (fun h => by have h1 := h.1; have h2 := h.2; omega)
      have hne4 : ∀ i, Sn (fun i => (w2.heap.size ≤ i ∧ i < w5.heap.size) ∨ (u1.heap.size ≤ i ∧ i < u2.heap.size)) u2 u3 i → ∀ g, (w5.heap.size ≤ g ∧ (g < u2.heap.size ∨ u3.heap.size ≤ g) ∧ (g < u1.heap.size ∨ u2.heap.size ≤ g)) → i ≠ g := fun i hi g hg => hi.elim (fun h => h.elim (fun h => by have h1 := h.2; omega) (fun h => by have h1 := h.1; have h2 := h.2; omega)) (fun h => by have h1 := h.1; have h2 := h.2; omega)
      have ho13 := hk13.only gc
      have hq3 := hq2.keep hk13
      have ha := Only.trans hB ho13
      refine hK.out _ _ (SAB.both trivial ha) (fun hSS => ?_)
      clear hK K hA hB
      have hB := hSS.2
      have hA := hSS.1 (by kernel_rfl)
      (try dsimp only at hB); (try dsimp only at hA); clear hSS
      try simp only [Act.put, List.setIfInBounds_toArray, List.set_cons_zero, List.set_cons_succ]
      clear ha
      have ok3 : Only gc u3 u3 := Same.refl _ _
      have ok2 : Only gc u2 u3 := Only.trans ho13 ok3
      have ok1 : Only gc u1 u3 := Only.trans ho12 ok2
      have zB := hB.size
      have b9 := ok1.blk hb5a ⟨y5a, by omega⟩
      have rr := hr4.keep (ok3.mono (fun i hi => ⟨(hlt4 i hi).2, by have := (hlt4 i hi).1; omega⟩))
      have oa := hB
      refine wpL_one (i := 6) (by kernel_rfl) (StepL.mk rfl (fun K hK => ?_))
      refine step_store_blk rfl _ _ _ rfl (u0.heap.size) 0 37 _ [.slice X1 xn1 xc1, .slice X2 xn2 xc2, .slice X3 xn3 xc3, .slice X4 xn4 xc4] rfl rfl b9 (by simp) (by kernel_rfl) rfl ?_
      intro v5 hv5 hs5
      rw [splice_all [.slice X1 xn1 xc1, .slice X2 xn2 xc2, .slice X3 xn3 xc3, .slice X4 xn4 xc4] #[.slice none 0 0, .slice none 0 0, .slice none 0 0, .slice none 0 0] rfl] at hv5
      have zv := hs5.size
      have zx := ok3.size
      have kv := Only.write oa hs5 (by omega)
      have hqv := hq3.write hs5 (fun hh => by rcases hh with h | h <;> omega)
      have hfin : CutS (fun i => i < w.heap.size ∨ i = gc) gc w2.heap.size cd me w5 (.pointer (some ⟨u0.heap.size, 0, none⟩)) v5 := ⟨_, _, l, _, rfl, hv5, (rr.keep (hs5.mono (fun i hi => hne4 i hi (u0.heap.size) (by omega)))).more (fun i hi => by have := hlt4 i hi; omega), (by have := hle.1; omega), by omega, hqv, kv⟩
      refine hK.out _ _ (SAB.both trivial kv) (fun hSS => ?_)
      clear hK K hA hB
      have hB := hSS.2
      have hA := hSS.1 (by kernel_rfl)
      (try dsimp only at hB); (try dsimp only at hA); clear hSS
      try simp only [Act.put, List.setIfInBounds_toArray, List.set_cons_zero, List.set_cons_succ]
      refine wpL_done (by kernel_rfl) ?_
      have HFIN := Lib.hid hfin
      clear hfin
      clear hv5 hs5 rr b9 hA hB oa kv hqv ok1 ok2 ok3
      go_wp2_with fail
      go_meet
      exact HFIN.out
  case rest =>
    obtain ⟨w6, rfl⟩ : ∃ w6 : World, w6 = wc := ⟨_, rfl⟩
    obtain ⟨g, csx, l, r6, rfl, hbx, hrx', hl4, hgw, hc6, ho6⟩ := hcut
    obtain ⟨X1, X2, X3, X4, xn1, xc1, xn2, xc2, xn3, xc3, xn4, xc4, rfl, hrx⟩ := st_open hrx'
    have hz6 := ho6.size
    have hgl := hbx.lt
    have hxn : xn2 = l.length := by have h1 := (st_sl hrx).2.1.1; have h2 := replayS_events cd me 3 l; rw [h2] at h1; exact h1
    have hxn4 : xn2 ≤ 4 := by omega
    have hb6 := ho6.blk HB5.out ⟨HB5.out.lt, by omega⟩
    have hcx6 : CdR w6 (fun i => w2.heap.size ≤ i ∧ i < w6.heap.size) [.slice B0 p0 q0, .slice B1 p1 q1, .slice B2 p2 q2, .slice B3 p3 q3, .slice B4 p4 q4] cd := (HCX5.out.keep (ho6.mono (fun i hi => ⟨hi.2, by have := hi.1; omega⟩))).more (fun i hi => ⟨hi.1, by have := hi.2; omega⟩)
    have hk6 : Keep w w6 := Same.trans HK5.out ho6 (fun i hi => by omega)
    have e1 : ∀ wx, Only gc w6 wx → wx.cell? ⟨g, 1, none⟩ = some (.slice X2 xn2 xc2) := fun wx hx => by rw [(hx.blk hbx ⟨hgl, by omega⟩).cell]; rfl
    have HBX := Lib.hid hbx
    have HRX := Lib.hid hrx
    have HC6 := Lib.hid hc6
    have HB6 := Lib.hid hb6
    have HCX6 := Lib.hid hcx6
    have HK6 := Lib.hid hk6
    clear hbx hrx hc6 hb6 hcx6 hk6
    clear ho6 hrx' HB5 HCX5 HK5 HC5 hxn
    go_upto_region 6 with fail
    refine wp_region_L 99 (fun _ => True) (fun wx => Only gc w6 wx) (by kernel_rfl) trivial (Same.drew (Same.refl _ _)) (fun hA hB => ?_)
    have hq0 : Cod w6.drew (fun i => i < w.heap.size ∨ i = gc) gc r6 := HC6.out.keep (Same.drew (Same.refl _ _))
    generalize hu0 : w6.drew = u0 at hB hq0 ⊢
    clear hu0
    have y0 := hB.size
    refine wpL_takeB (i := 0) (v := ?_) rfl (by kernel_rfl) (by kernel_rfl) (by kernel_rfl) (by decide) (fun _ _ _ h => h) (Or.inl ⟨by rfl, ?_⟩) (SAB.both hA hB) ?_
    rotate_left
    · intro wx hBx
      (try dsimp only at hBx)
      go_simp
      try with_reducible rfl
    try simp only [Act.put, List.setIfInBounds_toArray, List.set_cons_zero, List.set_cons_succ]
    refine wpL_takeB (i := 2) (v := ?_) rfl (by kernel_rfl) (by kernel_rfl) (by kernel_rfl) (by decide) (fun _ _ _ h => h) (Or.inl ⟨by rfl, ?_⟩) (SAB.both hA hB) ?_
    rotate_left
    · intro wx hBx
      (try dsimp only at hBx)
      go_simp
      try with_reducible rfl
    try simp only [Act.put, List.setIfInBounds_toArray, List.set_cons_zero, List.set_cons_succ]
    refine wpL_takeB (i := 3) (v := ?_) rfl (by kernel_rfl) (by kernel_rfl) (by kernel_rfl) (by decide) (fun _ _ _ h => h) (Or.inl ⟨by rfl, ?_⟩) (SAB.both hA hB) ?_
    rotate_left
    · intro wx hBx
      (try dsimp only at hBx)
      go_simp
      try with_reducible rfl
    try simp only [Act.put, List.setIfInBounds_toArray, List.set_cons_zero, List.set_cons_succ]
    refine wpL_takeB (i := 4) (v := ?_) rfl (by kernel_rfl) (by kernel_rfl) (by kernel_rfl) (by decide) (fun _ _ _ h => h) (Or.inl ⟨by rfl, ?_⟩) (SAB.both hA hB) ?_
    rotate_left
    · intro wx hBx
      (try dsimp only at hBx)
      go_simp
      try with_reducible rfl
    try simp only [Act.put, List.setIfInBounds_toArray, List.set_cons_zero, List.set_cons_succ]
    refine wpL_takeB (i := 5) (v := ?_) rfl (by kernel_rfl) (by kernel_rfl) (by kernel_rfl) (by decide) (fun _ _ _ h => h) (Or.inl ⟨by rfl, ?_⟩) (SAB.both hA hB) ?_
    rotate_left
    · intro wx hBx
      (try dsimp only at hBx)
      go_simp
      try with_reducible rfl
    try simp only [Act.put, List.setIfInBounds_toArray, List.set_cons_zero, List.set_cons_succ]
    refine wpL_takeB (i := 6) (v := ?_) rfl (by kernel_rfl) (by kernel_rfl) (by kernel_rfl) (by decide) (fun _ _ _ h => h) (Or.inl ⟨by rfl, ?_⟩) (SAB.both hA hB) ?_
    rotate_left
    · intro wx hBx
      (try dsimp only at hBx)
      go_simp
      try with_reducible rfl
    try simp only [Act.put, List.setIfInBounds_toArray, List.set_cons_zero, List.set_cons_succ]
    clear e1
    refine wpL_one (i := 1) (by kernel_rfl) (StepL.mk rfl (fun K hK => ?_))
    go_simp
    refine (dets_own u0 _ gc _ 6 (by omega) hq0).mono ?_
    rintro e u1 ⟨AD, cD, ld, rfl, hownD, hld, hid, ⟨rD, hq1⟩, ho1⟩
    have y1 := ho1.size
    have ha := Only.trans hB ho1
    clear hq0
    refine hK.out _ _ (SAB.both trivial ha) (fun hSS => ?_)
    clear hK K hA hB
    have hB := hSS.2
    have hA := hSS.1 (by kernel_rfl)
    (try dsimp only at hB); (try dsimp only at hA); clear hSS
    try simp only [Act.put, List.setIfInBounds_toArray, List.set_cons_zero, List.set_cons_succ]
    clear ha
    refine wpL_one (i := 7) (by kernel_rfl) (StepL.mk rfl (fun K hK => ?_))
    go_simp
    refine (events_any u1 _ gc _ 6 (by omega) hq1).mono ?_
    rintro e u2 ⟨AE, ne, ce, le, rfl, hle, hne, -, ho2⟩
    have y2 := ho2.size
    have hown2 := ownsRow_own hownD ho2 (fun b hb => ⟨(hownD.lt b hb).2, by have := (hownD.lt b hb).1; omega⟩)
    have ha := Only.trans hB ho2
    clear hq1 hownD
    refine hK.out _ _ (SAB.both trivial ha) (fun hSS => ?_)
    clear hK K hA hB
    have hB := hSS.2
    have hA := hSS.1 (by kernel_rfl)
    (try dsimp only at hB); (try dsimp only at hA); clear hSS
    try simp only [Act.put, List.setIfInBounds_toArray, List.set_cons_zero, List.set_cons_succ]
    clear ha
    refine wpL_one (i := 8) (by kernel_rfl) (StepL.mk rfl (fun K hK => ?_))
    go_simp
    refine (following_any u2 (fun i => u1.heap.size ≤ i ∧ i < u2.heap.size) AE ne ce le me xn2 (fun i hi => hi.2) hle (by omega) (by omega) (by omega)).mono ?_
    rintro e u3 ⟨AF, nf, cf, rfl, hlf, hk3'⟩
    have y3 := hk3'.size
    have hown3 := ownsRow_same hown2 hk3' (fun i hi => hi.2)
    have hnf : nf ≤ 6 := by have h1 := hlf.1; rw [linS_len] at h1; have h2 := hle.1; omega
    have ha := Only.keep hB hk3'
    clear hown2
    refine hK.out _ _ (SAB.both trivial ha) (fun hSS => ?_)
    clear hK K hA hB
    have hB := hSS.2
    have hA := hSS.1 (by kernel_rfl)
    (try dsimp only at hB); (try dsimp only at hA); clear hSS
    try simp only [Act.put, List.setIfInBounds_toArray, List.set_cons_zero, List.set_cons_succ]
    clear ha
    refine wpL_one (i := 9) (by kernel_rfl) (StepL.mk rfl (fun K hK => ?_))
    refine step_append_any _ rfl _ _ 23 rfl u0.heap.size 76 iD _ 9 72 Tryz.underlying23 HJ0.out JZ0.out JZ1.out JZ2.out rfl (by omega) (.slice AD ld.length cD) ld.length _ rfl hown3 _ AF nf cf _ rfl hlf.2.2.2 (fun u hu => by obtain ⟨x, _, hx⟩ := List.mem_flatMap.1 hu; exact encDt_one x u hx) (by simp [maxLen]; omega) (by omega) (by omega) ?_
    intro vm w7 hownm hgm hatm
    obtain ⟨AM, cM, hvm, hnm, hcm⟩ := own_form hownm
    subst hvm
    have ha : Only gc w6 w7 := Same.append hB hown3 hgm (fun i hi => by have := hi.1; omega) (by omega)
    have y7 := ha.size
    have hslm : Sl encDt 9 w7 (· < w7.heap.size) AM (ld.length + nf) cM (ld ++ linS me ((xn2 : Int) + 1) le) := ⟨by rw [List.length_append, hlf.1], hnm, hcm, by rw [List.flatMap_append]; exact (Reads.of_own hownm).more (fun i hi => hi.2)⟩
    have hidm : ∀ d ∈ ld ++ linS me ((xn2 : Int) + 1) le, I64 d.idx := fun d hd => (List.mem_append.1 hd).elim (fun h => by have := hid d h; exact ⟨by omega, by omega⟩) (fun h => by
      obtain ⟨i, ev, hi, rfl⟩ := linS_mem h
      obtain ⟨hil, _⟩ := List.getElem?_eq_some_iff.1 hi
      have h2 := hle.1
      refine ⟨?_, ?_⟩ <;> simp only <;> omega)
    have hml : (ld ++ linS me ((xn2 : Int) + 1) le).length = ld.length + nf := hslm.1.symm
    have hml12 : (ld ++ linS me ((xn2 : Int) + 1) le).length ≤ 12 := by omega
    generalize hmm : ld ++ linS me ((xn2 : Int) + 1) le = mm at *
    generalize hmn : ld.length + nf = mn at *
    have hb7 := ha.blk HB6.out ⟨HB6.out.lt, by omega⟩
    have hbx7 := ha.blk HBX.out ⟨hgl, by omega⟩
    have hcx7 : CdR w7 (· < w7.heap.size) [.slice B0 p0 q0, .slice B1 p1 q1, .slice B2 p2 q2, .slice B3 p3 q3, .slice B4 p4 q4] cd := (HCX6.out.keep (ha.mono (fun i hi => ⟨hi.2, by have := hi.1; omega⟩))).more (fun i hi => by have := hi.2; omega)
    have hrx7 : StR w7 (· < w7.heap.size) [.slice X1 xn1 xc1, .slice X2 xn2 xc2, .slice X3 xn3 xc3, .slice X4 xn4 xc4] (replayS cd me 3 l) := (HRX.out.keep (ha.mono (fun i hi => ⟨hi.2, by have := hi.1; omega⟩))).more (fun i hi => by have := hi.2; omega)
    have hk7 : Keep w w7 := Same.trans HK6.out ha (fun i hi => by omega)
    have hs7 : Sl encDt 9 w7 (· < w7.heap.size) A2 n2 c2 stock := (HS.out.keep hk7).more (fun i hi => Nat.lt_of_lt_of_le hi hk7.size)
    refine hK.out _ _ (SAB.both trivial ha) (fun hSS => ?_)
    clear hK K hA hB
    have hB := hSS.2
    have hA := hSS.1 (by kernel_rfl)
    (try dsimp only at hB); (try dsimp only at hA); clear hSS
    try simp only [Act.put, List.setIfInBounds_toArray, List.set_cons_zero, List.set_cons_succ]
    refine wpL_takeB (i := 10) (v := ?_) rfl (by kernel_rfl) (by kernel_rfl) (by kernel_rfl) (by decide) (fun _ _ _ h => h) (Or.inl ⟨by rfl, ?_⟩) (SAB.both hA hB) ?_
    rotate_left
    · intro wx hBx
      (try dsimp only at hBx)
      go_simp
      try with_reducible rfl
    try simp only [Act.put, List.setIfInBounds_toArray, List.set_cons_zero, List.set_cons_succ]
    refine wpL_done (by kernel_rfl) ?_
    have lk := replayS_len cd me 3 l
    have c1' : (replayS cd me 3 l).cells.length ≤ 1000000 := by rw [lk.1]; exact HCI.out
    have c2' : (replayS cd me 3 l).sent.length ≤ 900000 := by omega
    have c3' : (replayS cd me 3 l).outs.length ≤ 900000 := by omega
    have c4' : (replayS cd me 3 l).events.length ≤ 900000 := by omega
    have hst60 : stock.length ≤ 1000 := by have := HN2L.out; omega
    have HSLM := Lib.hid hslm
    have HIDM := Lib.hid hidm
    have HB7 := Lib.hid hb7
    have HBX7 := Lib.hid hbx7
    have HCX7 := Lib.hid hcx7
    have HRX7 := Lib.hid hrx7
    have HK7 := Lib.hid hk7
    have HS7 := Lib.hid hs7
    have C1' := Lib.hid c1'
    have C2' := Lib.hid c2'
    have C3' := Lib.hid c3'
    have C4' := Lib.hid c4'
    have HML := Lib.hid hml
    have HMM := Lib.hid hmm
    have HMN := Lib.hid hmn
    clear hslm hidm hb7 hbx7 hcx7 hrx7 hk7 hs7 c1' c2' c3' c4' hml hmm hmn
    clear hA hB ha hownm hgm hatm hown3 hlf hk3' hle hid ho1 ho2 lk HB6 HBX HCX6 HRX HK6 HC6
    go_upto_region 7 with fail
    refine wp_region_L 99 (fun _ => True) (fun wx => Keep w7 wx) (by kernel_rfl) trivial (Same.drew (Same.refl _ _)) (fun hA hB => ?_)
    generalize hu0 : w7.drew = v0 at hB ⊢
    clear hu0
    have z0 := hB.size
    refine wpL_takeB (i := 0) rfl (by kernel_rfl) (by kernel_rfl) (by kernel_rfl) (by decide) (fun _ _ _ h => h) (yieldsIf_blk (by rfl) _ _ rfl w3.heap.size 0 30 _ [.slice B0 p0 q0, .slice B1 p1 q1, .slice B2 p2 q2, .slice B3 p3 q3, .slice B4 p4 q4] _ rfl (fun wx hx => hx.blk HB7.out HB7.out.lt) (fun j u hu => by simpa using hu) Tryz.underlying30 rfl (by kernel_rfl)) (SAB.both hA hB) ?_
    try simp only [Act.put, List.setIfInBounds_toArray, List.set_cons_zero, List.set_cons_succ]
    refine wpL_takeB (i := 2) rfl (by kernel_rfl) (by kernel_rfl) (by kernel_rfl) (by decide) (fun _ _ _ h => h) (yieldsIf_blk (by rfl) _ _ rfl g 0 37 _ [.slice X1 xn1 xc1, .slice X2 xn2 xc2, .slice X3 xn3 xc3, .slice X4 xn4 xc4] _ rfl (fun wx hx => hx.blk HBX7.out HBX7.out.lt) (fun j u hu => by simpa using hu) Tryz.underlying37 rfl (by kernel_rfl)) (SAB.both hA hB) ?_
    try simp only [Act.put, List.setIfInBounds_toArray, List.set_cons_zero, List.set_cons_succ]
    refine wpL_takeB (i := 5) rfl (by kernel_rfl) (by kernel_rfl) (by kernel_rfl) (by decide) (fun _ _ _ h => h) (yieldsIf_blk (by rfl) _ _ rfl w3.heap.size 0 30 _ [.slice B0 p0 q0, .slice B1 p1 q1, .slice B2 p2 q2, .slice B3 p3 q3, .slice B4 p4 q4] _ rfl (fun wx hx => hx.blk HB7.out HB7.out.lt) (fun j u hu => by simpa using hu) Tryz.underlying30 rfl (by kernel_rfl)) (SAB.both hA hB) ?_
    try simp only [Act.put, List.setIfInBounds_toArray, List.set_cons_zero, List.set_cons_succ]
    refine wpL_takeB (i := 7) rfl (by kernel_rfl) (by kernel_rfl) (by kernel_rfl) (by decide) (fun _ _ _ h => h) (yieldsIf_blk (by rfl) _ _ rfl g 0 37 _ [.slice X1 xn1 xc1, .slice X2 xn2 xc2, .slice X3 xn3 xc3, .slice X4 xn4 xc4] _ rfl (fun wx hx => hx.blk HBX7.out HBX7.out.lt) (fun j u hu => by simpa using hu) Tryz.underlying37 rfl (by kernel_rfl)) (SAB.both hA hB) ?_
    try simp only [Act.put, List.setIfInBounds_toArray, List.set_cons_zero, List.set_cons_succ]
    refine wpL_takeB (i := 1) (v := ?_) rfl (by kernel_rfl) (by kernel_rfl) (by kernel_rfl) (by decide) (fun _ _ _ h => h) (Or.inl ⟨by rfl, ?_⟩) (SAB.both hA hB) ?_
    rotate_left
    · intro wx hBx
      (try dsimp only at hBx)
      go_simp
      try with_reducible rfl
    try simp only [Act.put, List.setIfInBounds_toArray, List.set_cons_zero, List.set_cons_succ]
    refine wpL_takeB (i := 3) (v := ?_) rfl (by kernel_rfl) (by kernel_rfl) (by kernel_rfl) (by decide) (fun _ _ _ h => h) (Or.inl ⟨by rfl, ?_⟩) (SAB.both hA hB) ?_
    rotate_left
    · intro wx hBx
      (try dsimp only at hBx)
      go_simp
      try with_reducible rfl
    try simp only [Act.put, List.setIfInBounds_toArray, List.set_cons_zero, List.set_cons_succ]
    refine wpL_takeB (i := 6) (v := ?_) rfl (by kernel_rfl) (by kernel_rfl) (by kernel_rfl) (by decide) (fun _ _ _ h => h) (Or.inl ⟨by rfl, ?_⟩) (SAB.both hA hB) ?_
    rotate_left
    · intro wx hBx
      (try dsimp only at hBx)
      go_simp
      try with_reducible rfl
    try simp only [Act.put, List.setIfInBounds_toArray, List.set_cons_zero, List.set_cons_succ]
    refine wpL_takeB (i := 8) (v := ?_) rfl (by kernel_rfl) (by kernel_rfl) (by kernel_rfl) (by decide) (fun _ _ _ h => h) (Or.inl ⟨by rfl, ?_⟩) (SAB.both hA hB) ?_
    rotate_left
    · intro wx hBx
      (try dsimp only at hBx)
      go_simp
      try with_reducible rfl
    try simp only [Act.put, List.setIfInBounds_toArray, List.set_cons_zero, List.set_cons_succ]
    refine wpL_one (i := 4) (by kernel_rfl) (StepL.mk rfl (fun K hK => ?_))
    go_simp
    refine (precover_any v0 (fun i => i < w7.heap.size) [.slice B0 p0 q0, .slice B1 p1 q1, .slice B2 p2 q2, .slice B3 p3 q3, .slice B4 p4 q4] [.slice X1 xn1 xc1, .slice X2 xn2 xc2, .slice X3 xn3 xc3, .slice X4 xn4 xc4] cd (replayS cd me 3 l) me 3 A2 n2 c2 stock (fun i hi => by omega) (HCX7.out.keep hB) (HRX7.out.keep hB) (HS7.out.keep hB) hst60 HSI.out C1'.out C2'.out C3'.out C4'.out).mono ?_
    rintro e v1 ⟨cs1, t1, rfl, ht1, a1, a2, a3, a4, hr1', k1⟩
    obtain ⟨Y1, Y2, Y3, Y4, yn1, yc1, yn2, yc2, yn3, yc3, yn4, yc4, rfl, hr1⟩ := st_open hr1'
    have z1 := k1.size
    have ha := Keep.trans hB k1
    have ft1 := rc_fine (S := fun _ => True) a1 a2 a3 a4 hst60 C1'.out C2'.out C3'.out C4'.out
    have f1 := hr1.more (T := fun i => i < v1.heap.size) (fun i hi => hi.elim (fun h => by have h : i < w7.heap.size := h; omega) (fun h => h.2))
    clear hr1' hr1 a1 a2 a3 a4
    refine hK.out _ _ (SAB.both trivial ha) (fun hSS => ?_)
    clear hK K hA hB
    have hB := hSS.2
    have hA := hSS.1 (by kernel_rfl)
    (try dsimp only at hB); (try dsimp only at hA); clear hSS
    try simp only [Act.put, List.setIfInBounds_toArray, List.set_cons_zero, List.set_cons_succ]
    clear ha
    refine wpL_one (i := 9) (by kernel_rfl) (StepL.mk rfl (fun K hK => ?_))
    go_simp
    refine (rrecover_any v1 (fun i => i < w7.heap.size) [.slice B0 p0 q0, .slice B1 p1 q1, .slice B2 p2 q2, .slice B3 p3 q3, .slice B4 p4 q4] [.slice X1 xn1 xc1, .slice X2 xn2 xc2, .slice X3 xn3 xc3, .slice X4 xn4 xc4] cd (replayS cd me 3 l) me 3 A2 n2 c2 stock (fun i hi => by omega) (HCX7.out.keep hB) (HRX7.out.keep hB) (HS7.out.keep hB) hst60 C1'.out C2'.out C3'.out C4'.out).mono ?_
    rintro e v2 ⟨cs2, t2, rfl, ht2, a1, a2, a3, a4, hr2', k2⟩
    obtain rfl : t2 = t1 := RecS.det ht2 ht1
    obtain ⟨Z1, Z2, Z3, Z4, zn1, zc1, zn2, zc2, zn3, zc3, zn4, zc4, rfl, hr2⟩ := st_open hr2'
    have z2 := k2.size
    have ha := Keep.trans hB k2
    have f2 := hr2.more (T := fun i => i < v2.heap.size) (fun i hi => hi.elim (fun h => by have h : i < w7.heap.size := h; omega) (fun h => h.2))
    have f1' := (f1.keep k2).more (T := fun i => i < v2.heap.size) (fun i hi => Nat.lt_of_lt_of_le hi z2)
    clear hr2' hr2 a1 a2 a3 a4 ht1 ht2 f1
    refine hK.out _ _ (SAB.both trivial ha) (fun hSS => ?_)
    clear hK K hA hB
    have hB := hSS.2
    have hA := hSS.1 (by kernel_rfl)
    (try dsimp only at hB); (try dsimp only at hA); clear hSS
    try simp only [Act.put, List.setIfInBounds_toArray, List.set_cons_zero, List.set_cons_succ]
    clear ha
    refine wpL_one (i := 10) (by kernel_rfl) (StepL.mk rfl (fun K hK => ?_))
    go_simp
    refine (rsame_any v2 (fun i => i < v2.heap.size) [.slice Y1 yn1 yc1, .slice Y2 yn2 yc2, .slice Y3 yn3 yc3, .slice Y4 yn4 yc4] [.slice Z1 zn1 zc1, .slice Z2 zn2 zc2, .slice Z3 zn3 zc3, .slice Z4 zn4 zc4] t2 t2 (fun i hi => hi) f1' f2 ft1 ft1).mono ?_
    rintro e v3 ⟨b3, hb3, rfl, k3⟩
    obtain rfl : b3 = true := hb3.2 rfl
    have z3 := k3.size
    have ha := Keep.trans hB k3
    clear hb3 f1' f2 ft1
    refine hK.out _ _ (SAB.both trivial ha) (fun hSS => ?_)
    clear hK K hA hB
    have hB := hSS.2
    have hA := hSS.1 (by kernel_rfl)
    (try dsimp only at hB); (try dsimp only at hA); clear hSS
    try simp only [Act.put, List.setIfInBounds_toArray, List.set_cons_zero, List.set_cons_succ]
    clear ha
    refine wpL_takeB (i := 11) (v := ?_) rfl (by kernel_rfl) (by kernel_rfl) (by kernel_rfl) (by decide) (fun _ _ _ h => h) (Or.inl ⟨by rfl, ?_⟩) (SAB.both hA hB) ?_
    rotate_left
    · intro wx hBx
      (try dsimp only at hBx)
      go_simp
      try with_reducible rfl
    try simp only [Act.put, List.setIfInBounds_toArray, List.set_cons_zero, List.set_cons_succ]
    refine wpL_takeB (i := 12) rfl (by kernel_rfl) (by kernel_rfl) (by kernel_rfl) (by decide) (fun _ _ _ h => h) (yieldsIf_blk (by rfl) _ _ rfl w3.heap.size 0 30 _ [.slice B0 p0 q0, .slice B1 p1 q1, .slice B2 p2 q2, .slice B3 p3 q3, .slice B4 p4 q4] _ rfl (fun wx hx => hx.blk HB7.out HB7.out.lt) (fun j u hu => by simpa using hu) Tryz.underlying30 rfl (by kernel_rfl)) (SAB.both hA hB) ?_
    try simp only [Act.put, List.setIfInBounds_toArray, List.set_cons_zero, List.set_cons_succ]
    refine wpL_takeB (i := 14) rfl (by kernel_rfl) (by kernel_rfl) (by kernel_rfl) (by decide) (fun _ _ _ h => h) (yieldsIf_blk (by rfl) _ _ rfl g 0 37 _ [.slice X1 xn1 xc1, .slice X2 xn2 xc2, .slice X3 xn3 xc3, .slice X4 xn4 xc4] _ rfl (fun wx hx => hx.blk HBX7.out HBX7.out.lt) (fun j u hu => by simpa using hu) Tryz.underlying37 rfl (by kernel_rfl)) (SAB.both hA hB) ?_
    try simp only [Act.put, List.setIfInBounds_toArray, List.set_cons_zero, List.set_cons_succ]
    refine wpL_takeB (i := 17) rfl (by kernel_rfl) (by kernel_rfl) (by kernel_rfl) (by decide) (fun _ _ _ h => h) (yieldsIf_blk (by rfl) _ _ rfl w3.heap.size 0 30 _ [.slice B0 p0 q0, .slice B1 p1 q1, .slice B2 p2 q2, .slice B3 p3 q3, .slice B4 p4 q4] _ rfl (fun wx hx => hx.blk HB7.out HB7.out.lt) (fun j u hu => by simpa using hu) Tryz.underlying30 rfl (by kernel_rfl)) (SAB.both hA hB) ?_
    try simp only [Act.put, List.setIfInBounds_toArray, List.set_cons_zero, List.set_cons_succ]
    refine wpL_takeB (i := 19) rfl (by kernel_rfl) (by kernel_rfl) (by kernel_rfl) (by decide) (fun _ _ _ h => h) (yieldsIf_blk (by rfl) _ _ rfl g 0 37 _ [.slice X1 xn1 xc1, .slice X2 xn2 xc2, .slice X3 xn3 xc3, .slice X4 xn4 xc4] _ rfl (fun wx hx => hx.blk HBX7.out HBX7.out.lt) (fun j u hu => by simpa using hu) Tryz.underlying37 rfl (by kernel_rfl)) (SAB.both hA hB) ?_
    try simp only [Act.put, List.setIfInBounds_toArray, List.set_cons_zero, List.set_cons_succ]
    refine wpL_takeB (i := 13) (v := ?_) rfl (by kernel_rfl) (by kernel_rfl) (by kernel_rfl) (by decide) (fun _ _ _ h => h) (Or.inl ⟨by rfl, ?_⟩) (SAB.both hA hB) ?_
    rotate_left
    · intro wx hBx
      (try dsimp only at hBx)
      go_simp
      try with_reducible rfl
    try simp only [Act.put, List.setIfInBounds_toArray, List.set_cons_zero, List.set_cons_succ]
    refine wpL_takeB (i := 15) (v := ?_) rfl (by kernel_rfl) (by kernel_rfl) (by kernel_rfl) (by decide) (fun _ _ _ h => h) (Or.inl ⟨by rfl, ?_⟩) (SAB.both hA hB) ?_
    rotate_left
    · intro wx hBx
      (try dsimp only at hBx)
      go_simp
      try with_reducible rfl
    try simp only [Act.put, List.setIfInBounds_toArray, List.set_cons_zero, List.set_cons_succ]
    refine wpL_takeB (i := 18) (v := ?_) rfl (by kernel_rfl) (by kernel_rfl) (by kernel_rfl) (by decide) (fun _ _ _ h => h) (Or.inl ⟨by rfl, ?_⟩) (SAB.both hA hB) ?_
    rotate_left
    · intro wx hBx
      (try dsimp only at hBx)
      go_simp
      try with_reducible rfl
    try simp only [Act.put, List.setIfInBounds_toArray, List.set_cons_zero, List.set_cons_succ]
    refine wpL_takeB (i := 20) (v := ?_) rfl (by kernel_rfl) (by kernel_rfl) (by kernel_rfl) (by decide) (fun _ _ _ h => h) (Or.inl ⟨by rfl, ?_⟩) (SAB.both hA hB) ?_
    rotate_left
    · intro wx hBx
      (try dsimp only at hBx)
      go_simp
      try with_reducible rfl
    try simp only [Act.put, List.setIfInBounds_toArray, List.set_cons_zero, List.set_cons_succ]
    refine wpL_one (i := 16) (by kernel_rfl) (StepL.mk rfl (fun K hK => ?_))
    go_simp
    refine (precover_any v3 (fun i => i < w7.heap.size) [.slice B0 p0 q0, .slice B1 p1 q1, .slice B2 p2 q2, .slice B3 p3 q3, .slice B4 p4 q4] [.slice X1 xn1 xc1, .slice X2 xn2 xc2, .slice X3 xn3 xc3, .slice X4 xn4 xc4] cd (replayS cd me 3 l) me 3 AM mn cM mm (fun i hi => by omega) (HCX7.out.keep hB) (HRX7.out.keep hB) (HSLM.out.keep hB) (by omega) HIDM.out C1'.out C2'.out C3'.out C4'.out).mono ?_
    rintro e v4 ⟨cs4, t4, rfl, ht4, a1, a2, a3, a4, hr4', k4⟩
    obtain ⟨P1, P2, P3, P4, pn1, pc1, pn2, pc2, pn3, pc3, pn4, pc4, rfl, hr4⟩ := st_open hr4'
    have z4 := k4.size
    have ha := Keep.trans hB k4
    have ft4 := rc_fine (S := fun _ => True) a1 a2 a3 a4 (by omega) C1'.out C2'.out C3'.out C4'.out
    have f4 := hr4.more (T := fun i => i < v4.heap.size) (fun i hi => hi.elim (fun h => by have h : i < w7.heap.size := h; omega) (fun h => h.2))
    clear hr4' hr4 a1 a2 a3 a4
    refine hK.out _ _ (SAB.both trivial ha) (fun hSS => ?_)
    clear hK K hA hB
    have hB := hSS.2
    have hA := hSS.1 (by kernel_rfl)
    (try dsimp only at hB); (try dsimp only at hA); clear hSS
    try simp only [Act.put, List.setIfInBounds_toArray, List.set_cons_zero, List.set_cons_succ]
    clear ha
    refine wpL_one (i := 21) (by kernel_rfl) (StepL.mk rfl (fun K hK => ?_))
    go_simp
    refine (rrecover_any v4 (fun i => i < w7.heap.size) [.slice B0 p0 q0, .slice B1 p1 q1, .slice B2 p2 q2, .slice B3 p3 q3, .slice B4 p4 q4] [.slice X1 xn1 xc1, .slice X2 xn2 xc2, .slice X3 xn3 xc3, .slice X4 xn4 xc4] cd (replayS cd me 3 l) me 3 AM mn cM mm (fun i hi => by omega) (HCX7.out.keep hB) (HRX7.out.keep hB) (HSLM.out.keep hB) (by omega) C1'.out C2'.out C3'.out C4'.out).mono ?_
    rintro e v5 ⟨cs5, t5, rfl, ht5, a1, a2, a3, a4, hr5', k5⟩
    obtain rfl : t5 = t4 := RecS.det ht5 ht4
    obtain ⟨Q1, Q2, Q3, Q4, qn1, qc1, qn2, qc2, qn3, qc3, qn4, qc4, rfl, hr5⟩ := st_open hr5'
    have z5 := k5.size
    have ha := Keep.trans hB k5
    have f5 := hr5.more (T := fun i => i < v5.heap.size) (fun i hi => hi.elim (fun h => by have h : i < w7.heap.size := h; omega) (fun h => h.2))
    have f4' := (f4.keep k5).more (T := fun i => i < v5.heap.size) (fun i hi => Nat.lt_of_lt_of_le hi z5)
    clear hr5' hr5 a1 a2 a3 a4 ht4 ht5 f4
    refine hK.out _ _ (SAB.both trivial ha) (fun hSS => ?_)
    clear hK K hA hB
    have hB := hSS.2
    have hA := hSS.1 (by kernel_rfl)
    (try dsimp only at hB); (try dsimp only at hA); clear hSS
    try simp only [Act.put, List.setIfInBounds_toArray, List.set_cons_zero, List.set_cons_succ]
    clear ha
    refine wpL_one (i := 22) (by kernel_rfl) (StepL.mk rfl (fun K hK => ?_))
    go_simp
    refine (rsame_any v5 (fun i => i < v5.heap.size) [.slice P1 pn1 pc1, .slice P2 pn2 pc2, .slice P3 pn3 pc3, .slice P4 pn4 pc4] [.slice Q1 qn1 qc1, .slice Q2 qn2 qc2, .slice Q3 qn3 qc3, .slice Q4 qn4 qc4] t5 t5 (fun i hi => hi) f4' f5 ft4 ft4).mono ?_
    rintro e v6 ⟨b6, hb6, rfl, k6⟩
    obtain rfl : b6 = true := hb6.2 rfl
    have ha := Keep.trans hB k6
    clear hb6 f4' f5 ft4
    refine hK.out _ _ (SAB.both trivial ha) (fun hSS => ?_)
    clear hK K hA hB
    have hB := hSS.2
    have hA := hSS.1 (by kernel_rfl)
    (try dsimp only at hB); (try dsimp only at hA); clear hSS
    try simp only [Act.put, List.setIfInBounds_toArray, List.set_cons_zero, List.set_cons_succ]
    clear ha
    have hfin : Aw34Post w (.returned (.bool true)) v6 := ⟨rfl, Keep.trans HK7.out hB⟩
    have HFIN := Lib.hid hfin
    clear hfin
    refine wpL_takeB (i := 23) (v := ?_) rfl (by kernel_rfl) (by kernel_rfl) (by kernel_rfl) (by decide) (fun _ _ _ h => h) (Or.inl ⟨by rfl, ?_⟩) (SAB.both hA hB) ?_
    rotate_left
    · intro wx hBx
      (try dsimp only at hBx)
      go_simp
      try with_reducible rfl
    try simp only [Act.put, List.setIfInBounds_toArray, List.set_cons_zero, List.set_cons_succ]
    refine wpL_takeB (i := 24) (v := ?_) rfl (by kernel_rfl) (by kernel_rfl) (by kernel_rfl) (by decide) (fun _ _ _ h => h) (Or.inl ⟨by rfl, ?_⟩) (SAB.both hA hB) ?_
    rotate_left
    · intro wx hBx
      (try dsimp only at hBx)
      go_simp
      try with_reducible rfl
    try simp only [Act.put, List.setIfInBounds_toArray, List.set_cons_zero, List.set_cons_succ]
    refine wpL_done (by kernel_rfl) ?_
    clear hA hB
    go_wp2_with fail
    go_ret
    exact HFIN.out
end Go.Proofs.YtecckbkobkfnmaaGreatDoor
