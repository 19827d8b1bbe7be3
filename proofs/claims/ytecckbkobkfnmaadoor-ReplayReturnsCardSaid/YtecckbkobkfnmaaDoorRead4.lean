/- Readers of programs, said weakly: Depth. -/
import Derived.Test.YtecckbkobkfnmaaDoorRead3
set_option linter.unusedVariables false
set_option linter.unusedSimpArgs false
set_option maxRecDepth 100000
namespace Go.Proofs.YtecckbkobkfnmaaDoor
open Go.RowKit Go.Proofs

set_option maxHeartbeats 4000000 in
theorem depth_any (w : World) (S : Nat → Prop) (A A1 A2 A3 A4 : Option Addr) (m c m1 c1 m2 c2 m3 c3 m4 c4 : Nat) (l1 l2 l3 l4 : List Stm) (hS : ∀ i, S i → i < w.heap.size) (h1 : StmsR w S A1 m1 c1 l1) (h2 : StmsR w S A2 m2 c2 l2) (h3 : StmsR w S A3 m3 c3 l3) (h4 : StmsR w S A4 m4 c4 l4) :
    Calls Tryd.prog 78 #[.agg #[.slice A m c, .slice A1 m1 c1, .slice A2 m2 c2, .slice A3 m3 c3, .slice A4 m4 c4]] w (SomeI 0 8 w) := by
  have HS := Lib.hid hS
  have H1 := Lib.hid h1
  have H2 := Lib.hid h2
  have H3 := Lib.hid h3
  have H4 := Lib.hid h4
  clear hS h1 h2 h3 h4
  go_enter Tryd.func78, Tryd.ntmps78
  go_upto_region 1 with fail
  generalize hW : w.alloc (.cells #[.slice A m c, .slice A1 m1 c1, .slice A2 m2 c2, .slice A3 m3 c3, .slice A4 m4 c4] 91) = W
  have hkW : Keep w W := hW ▸ Keep.new w _
  have hb : Blk W w.heap.size 91 #[.slice A m c, .slice A1 m1 c1, .slice A2 m2 c2, .slice A3 m3 c3, .slice A4 m4 c4] := hW ▸ Blk.new w _ _
  have hzW := hb.lt
  clear hW
  have e1 : ∀ wx, Keep W wx → wx.cell? ⟨w.heap.size, 1, none⟩ = some (.slice A1 m1 c1) := fun wx hx => (hx.cell (p := ⟨w.heap.size, 1, none⟩) (by simp; omega)).trans (by rw [hb.cell]; rfl)
  have e2 : ∀ wx, Keep W wx → wx.cell? ⟨w.heap.size, 2, none⟩ = some (.slice A2 m2 c2) := fun wx hx => (hx.cell (p := ⟨w.heap.size, 2, none⟩) (by simp; omega)).trans (by rw [hb.cell]; rfl)
  have e3 : ∀ wx, Keep W wx → wx.cell? ⟨w.heap.size, 3, none⟩ = some (.slice A3 m3 c3) := fun wx hx => (hx.cell (p := ⟨w.heap.size, 3, none⟩) (by simp; omega)).trans (by rw [hb.cell]; rfl)
  have e4 : ∀ wx, Keep W wx → wx.cell? ⟨w.heap.size, 4, none⟩ = some (.slice A4 m4 c4) := fun wx hx => (hx.cell (p := ⟨w.heap.size, 4, none⟩) (by simp; omega)).trans (by rw [hb.cell]; rfl)
  have key : ∀ (A : Option Addr) (m c : Nat) (l : List Stm) (wx : World), StmsR w S A m c l → Keep W wx → Calls Tryd.prog 87 #[.slice A m c] wx (SomeI 0 8 wx) := fun A m c l wx h hx => by
    have hk := Keep.trans hkW hx
    have hs := h.keep (Same.mono hk HS.out)
    have := nest_all 3 (by omega) wx S A m c l (fun i hi => Nat.lt_of_lt_of_le (HS.out i hi) hk.size) hs.1 (by have := hs.2.1; omega) hs.2.2
    exact this
  have hA : True := trivial
  clear hb
  have HKW := Lib.hid hkW
  have KEY := Lib.hid key
  clear hkW key
  refine wp_region_L 99 (fun _ => True) (fun wx => Keep W wx) (by kernel_rfl) trivial (Same.drew (Same.refl _ _)) (fun _ hB => ?_)
  refine wpL_takeB (i := 0) (v := ?_) rfl (by kernel_rfl) (by kernel_rfl) (by kernel_rfl) (by decide) (fun _ _ _ h => h) (Or.inl ⟨by rfl, ?_⟩) (SAB.both hA hB) ?_
  rotate_left
  · intro wx hBx
    (try dsimp only at hBx)
    go_simp
    try with_reducible rfl
  try simp only [Act.put, List.setIfInBounds_toArray, List.set_cons_zero, List.set_cons_succ]
  refine wpL_takeB (i := 1) (v := ?_) rfl (by kernel_rfl) (by kernel_rfl) (by kernel_rfl) (by decide) (fun _ _ _ h => h) (Or.inl ⟨by rfl, ?_⟩) (SAB.both hA hB) ?_
  rotate_left
  · intro wx hBx
    (try dsimp only at hBx)
    go_simp
    try with_reducible rfl
  try simp only [Act.put, List.setIfInBounds_toArray, List.set_cons_zero, List.set_cons_succ]
  refine wpL_takeB (i := 3) (v := ?_) rfl (by kernel_rfl) (by kernel_rfl) (by kernel_rfl) (by decide) (fun _ _ _ h => h) (Or.inl ⟨by rfl, ?_⟩) (SAB.both hA hB) ?_
  rotate_left
  · intro wx hBx
    (try dsimp only at hBx)
    go_simp
    try with_reducible rfl
  try simp only [Act.put, List.setIfInBounds_toArray, List.set_cons_zero, List.set_cons_succ]
  refine wpL_takeB (i := 4) (v := ?_) rfl (by kernel_rfl) (by kernel_rfl) (by kernel_rfl) (by decide) (fun _ _ _ h => h) (Or.inl ⟨by rfl, ?_⟩) (SAB.both hA hB) ?_
  rotate_left
  · intro wx hBx
    (try dsimp only at hBx)
    go_simp
    try with_reducible rfl
  try simp only [Act.put, List.setIfInBounds_toArray, List.set_cons_zero, List.set_cons_succ]
  refine wpL_takeB (i := 6) (v := ?_) rfl (by kernel_rfl) (by kernel_rfl) (by kernel_rfl) (by decide) (fun _ _ _ h => h) (Or.inl ⟨by rfl, ?_⟩) (SAB.both hA hB) ?_
  rotate_left
  · intro wx hBx
    (try dsimp only at hBx)
    go_simp
    try with_reducible rfl
  try simp only [Act.put, List.setIfInBounds_toArray, List.set_cons_zero, List.set_cons_succ]
  refine wpL_takeB (i := 7) (v := ?_) rfl (by kernel_rfl) (by kernel_rfl) (by kernel_rfl) (by decide) (fun _ _ _ h => h) (Or.inl ⟨by rfl, ?_⟩) (SAB.both hA hB) ?_
  rotate_left
  · intro wx hBx
    (try dsimp only at hBx)
    go_simp
    try with_reducible rfl
  try simp only [Act.put, List.setIfInBounds_toArray, List.set_cons_zero, List.set_cons_succ]
  refine wpL_takeB (i := 9) (v := ?_) rfl (by kernel_rfl) (by kernel_rfl) (by kernel_rfl) (by decide) (fun _ _ _ h => h) (Or.inl ⟨by rfl, ?_⟩) (SAB.both hA hB) ?_
  rotate_left
  · intro wx hBx
    (try dsimp only at hBx)
    go_simp
    try with_reducible rfl
  try simp only [Act.put, List.setIfInBounds_toArray, List.set_cons_zero, List.set_cons_succ]
  refine wpL_takeB (i := 10) (v := ?_) rfl (by kernel_rfl) (by kernel_rfl) (by kernel_rfl) (by decide) (fun _ _ _ h => h) (Or.inl ⟨by rfl, ?_⟩) (SAB.both hA hB) ?_
  rotate_left
  · intro wx hBx
    (try dsimp only at hBx)
    go_simp
    try with_reducible rfl
  try simp only [Act.put, List.setIfInBounds_toArray, List.set_cons_zero, List.set_cons_succ]
  clear e1 e2 e3 e4
  refine wpL_one (i := 2) (by kernel_rfl) (StepL.mk rfl (fun K hK => ?_))
  go_simp
  refine (KEY.out A1 m1 c1 l1 W.drew H1.out hB).mono ?_
  rintro e w1 ⟨y1, hy1, rfl, hk1⟩
  have hk1' : Keep W w1 := Keep.trans hB hk1
  refine hK.out _ _ (SAB.both trivial hk1') (fun hSS => ?_)
  clear hK K hA hB
  have hB := hSS.2
  have hA := hSS.1 (by kernel_rfl)
  (try dsimp only at hB); (try dsimp only at hA); clear hSS
  try simp only [Act.put, List.setIfInBounds_toArray, List.set_cons_zero, List.set_cons_succ]
  refine wpL_one (i := 5) (by kernel_rfl) (StepL.mk rfl (fun K hK => ?_))
  go_simp
  refine (KEY.out A2 m2 c2 l2 w1 H2.out hk1').mono ?_
  rintro e w2 ⟨y2, hy2, rfl, hk2⟩
  have hk2' : Keep W w2 := Keep.trans hk1' hk2
  refine hK.out _ _ (SAB.both trivial hk2') (fun hSS => ?_)
  clear hK K hA hB
  have hB := hSS.2
  have hA := hSS.1 (by kernel_rfl)
  (try dsimp only at hB); (try dsimp only at hA); clear hSS
  try simp only [Act.put, List.setIfInBounds_toArray, List.set_cons_zero, List.set_cons_succ]
  refine wpL_one (i := 8) (by kernel_rfl) (StepL.mk rfl (fun K hK => ?_))
  go_simp
  refine (KEY.out A3 m3 c3 l3 w2 H3.out hk2').mono ?_
  rintro e w3 ⟨y3, hy3, rfl, hk3⟩
  have hk3' : Keep W w3 := Keep.trans hk2' hk3
  refine hK.out _ _ (SAB.both trivial hk3') (fun hSS => ?_)
  clear hK K hA hB
  have hB := hSS.2
  have hA := hSS.1 (by kernel_rfl)
  (try dsimp only at hB); (try dsimp only at hA); clear hSS
  try simp only [Act.put, List.setIfInBounds_toArray, List.set_cons_zero, List.set_cons_succ]
  refine wpL_one (i := 11) (by kernel_rfl) (StepL.mk rfl (fun K hK => ?_))
  go_simp
  refine (KEY.out A4 m4 c4 l4 w3 H4.out hk3').mono ?_
  rintro e w4 ⟨y4, hy4, rfl, hk4⟩
  have hk4' : Keep W w4 := Keep.trans hk3' hk4
  refine hK.out _ _ (SAB.both trivial hk4') (fun hSS => ?_)
  clear hK K hA hB
  have hB := hSS.2
  have hA := hSS.1 (by kernel_rfl)
  (try dsimp only at hB); (try dsimp only at hA); clear hSS
  try simp only [Act.put, List.setIfInBounds_toArray, List.set_cons_zero, List.set_cons_succ]
  refine wpL_takeB (i := 12) rfl (by kernel_rfl) (by kernel_rfl) (by kernel_rfl) (by decide) (fun _ _ _ h => h) (yieldsIf_of (by rfl) (.int .i64 (max2 (max2 (max2 y1 y2) y3) y4)) (fun wx _ => by go_simp; rw [run_max4]; rfl)) (SAB.both hA hB) ?_
  try simp only [Act.put, List.setIfInBounds_toArray, List.set_cons_zero, List.set_cons_succ]
  have hM : 0 ≤ max2 (max2 (max2 y1 y2) y3) y4 ∧ max2 (max2 (max2 y1 y2) y3) y4 ≤ 8 := by
    obtain ⟨a1, b1⟩ := hy1
    obtain ⟨a2, b2⟩ := hy2
    obtain ⟨a3, b3⟩ := hy3
    obtain ⟨a4, b4⟩ := hy4
    unfold max2
    split <;> split <;> split <;> omega
  generalize max2 (max2 (max2 y1 y2) y3) y4 = M at *
  refine wpL_takeB (i := 13) (v := ?_) rfl (by kernel_rfl) (by kernel_rfl) (by kernel_rfl) (by decide) (fun _ _ _ h => h) (Or.inl ⟨by rfl, ?_⟩) (SAB.both hA hB) ?_
  rotate_left
  · intro wx hBx
    (try dsimp only at hBx)
    go_simp
    try with_reducible rfl
  try simp only [Act.put, List.setIfInBounds_toArray, List.set_cons_zero, List.set_cons_succ]
  refine wpL_done (by kernel_rfl) ?_
  have hfin := Keep.trans HKW.out hk4'
  have HFIN := Lib.hid hfin
  clear hfin
  clear hk1 hk1' hk2 hk2' hk3 hk3' hk4 hk4' hA hB
  go_wp2_with fail
  go_ret
  exact ⟨M, hM, rfl, HFIN.out⟩
end Go.Proofs.YtecckbkobkfnmaaDoor
