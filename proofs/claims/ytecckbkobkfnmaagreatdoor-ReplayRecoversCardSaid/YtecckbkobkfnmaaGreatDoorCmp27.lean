/- The document's comparison of determinants (written by gen_cmp27: see NOTES). -/
import Derived.Test.YtecckbkobkfnmaaGreatDoorGS
set_option linter.unusedVariables false
set_option linter.unusedSimpArgs false
set_option maxRecDepth 100000
namespace Go.Proofs.YtecckbkobkfnmaaGreatDoor
open Go.RowKit Go.Proofs

theorem less_any (w : World) (x y : Int) : Calls Tryz.prog 44 #[.int .i64 x, .int .i64 y] w (CmpIs (cmpI x y) w) := by
  by_cases h1 : x < y
  · have hr : cmpI x y = -1 := by unfold cmpI; rw [if_pos h1]
    have t1 : decide (x < y) = true := by simpa using h1
    have HR := Lib.hid hr
    clear hr
    go_enter Tryz.func44, Tryz.ntmps44
    go_wp2_with fail
    go_ret
    exact ⟨by rw [HR.out]; rfl, rfl⟩
  have t1 : decide (x < y) = false := by simpa using h1
  by_cases h2 : y < x
  · have hr : cmpI x y = 1 := by unfold cmpI; rw [if_neg h1, if_neg (by omega)]
    have t2 : decide (y < x) = true := by simpa using h2
    have HR := Lib.hid hr
    clear hr
    go_enter Tryz.func44, Tryz.ntmps44
    go_wp2_with fail
    go_ret
    exact ⟨by rw [HR.out]; rfl, rfl⟩
  have hr : cmpI x y = 0 := by unfold cmpI; rw [if_neg h1, if_pos (by omega)]
  have t2 : decide (y < x) = false := by simpa using h2
  have HR := Lib.hid hr
  clear hr
  go_enter Tryz.func44, Tryz.ntmps44
  go_wp2_with fail
  go_ret
  exact ⟨by rw [HR.out]; rfl, rfl⟩
def fieldsD (d : Dt) : List Int := [d.proc, d.idx, d.ev.inc, d.ev.kind, d.ev.frm, d.ev.sInc, d.ev.sIdx, d.ev.ord, d.ev.val]
theorem cmpDt_zip (a b : Dt) : cmpDt a b = firstNZ (List.zipWith cmpI (fieldsD a) (fieldsD b)) := rfl
def CqRel (a b : Dt) (W : World) (i : Value) (wr : World) : Prop := ∃ k : Nat, i = .int .i64 k ∧ k ≤ 9 ∧ Keep W wr ∧ firstNZ ((List.zipWith cmpI (fieldsD a) (fieldsD b)).drop k) = firstNZ (List.zipWith cmpI (fieldsD a) (fieldsD b))
theorem zip_drop {a b : Dt} {k : Nat} {x y : Int} (hx : (fieldsD a)[k]? = some x) (hy : (fieldsD b)[k]? = some y) : (List.zipWith cmpI (fieldsD a) (fieldsD b)).drop k = cmpI x y :: (List.zipWith cmpI (fieldsD a) (fieldsD b)).drop (k + 1) := by
  have hk : k < (List.zipWith cmpI (fieldsD a) (fieldsD b)).length := by
    have := (List.getElem?_eq_some_iff.1 hx).1
    simpa [fieldsD] using this
  rw [List.drop_eq_getElem_cons hk, List.getElem_zipWith]
  obtain ⟨h1, rfl⟩ := List.getElem?_eq_some_iff.1 hx
  obtain ⟨h2, rfl⟩ := List.getElem?_eq_some_iff.1 hy
  rfl
theorem bld_arr9 (a b c d e f g h i : Int) : Tryz.prog.built 111 [(0, .int .i64 a), (1, .int .i64 b), (2, .int .i64 c), (3, .int .i64 d), (4, .int .i64 e), (5, .int .i64 f), (6, .int .i64 g), (7, .int .i64 h), (8, .int .i64 i)] = some #[.int .i64 a, .int .i64 b, .int .i64 c, .int .i64 d, .int .i64 e, .int .i64 f, .int .i64 g, .int .i64 h, .int .i64 i] := by kernel_rfl
theorem fields_at (d : Dt) (k : Nat) (hk : k < 9) : ∃ x, (fieldsD d)[k]? = some x ∧ ((fieldsD d).map (fun x => Value.int .i64 x)).toArray[k]? = some (.int .i64 x) := by
  have h : k < (fieldsD d).length := by simpa [fieldsD] using hk
  exact ⟨(fieldsD d)[k], List.getElem?_eq_getElem h, by simp [List.getElem?_eq_getElem h]⟩
set_option maxHeartbeats 8000000 in
theorem cmp27_any (w : World) (a b : Dt) : Calls Tryz.prog 28 #[.agg (encDt a).toArray, .agg (encDt b).toArray] w (CevPost (cmpDt a b) w) := by
  show Calls Tryz.prog 28 #[.agg #[.int .i64 a.proc, .int .i64 a.idx, .int .i64 a.ev.kind, .int .i64 a.ev.inc, .int .i64 a.ev.frm, .int .i64 a.ev.sInc, .int .i64 a.ev.sIdx, .int .i64 a.ev.ord, .int .i64 a.ev.val], .agg #[.int .i64 b.proc, .int .i64 b.idx, .int .i64 b.ev.kind, .int .i64 b.ev.inc, .int .i64 b.ev.frm, .int .i64 b.ev.sInc, .int .i64 b.ev.sIdx, .int .i64 b.ev.ord, .int .i64 b.ev.val]] w _
  generalize hW : (w.alloc (.cells #[.int .i64 a.proc, .int .i64 a.idx, .int .i64 a.ev.kind, .int .i64 a.ev.inc, .int .i64 a.ev.frm, .int .i64 a.ev.sInc, .int .i64 a.ev.sIdx, .int .i64 a.ev.ord, .int .i64 a.ev.val] 76)).alloc (.cells #[.int .i64 b.proc, .int .i64 b.idx, .int .i64 b.ev.kind, .int .i64 b.ev.inc, .int .i64 b.ev.frm, .int .i64 b.ev.sInc, .int .i64 b.ev.sIdx, .int .i64 b.ev.ord, .int .i64 b.ev.val] 76) = W
  have hkW : Keep w W := hW ▸ Keep.alloc (Keep.new w _) _
  have hb2 : Blk W w.heap.size 76 #[.int .i64 a.proc, .int .i64 a.idx, .int .i64 a.ev.kind, .int .i64 a.ev.inc, .int .i64 a.ev.frm, .int .i64 a.ev.sInc, .int .i64 a.ev.sIdx, .int .i64 a.ev.ord, .int .i64 a.ev.val] := hW ▸ (Blk.new w _ _).alloc _
  have hb3 : Blk W (w.heap.size + 1) 76 #[.int .i64 b.proc, .int .i64 b.idx, .int .i64 b.ev.kind, .int .i64 b.ev.inc, .int .i64 b.ev.frm, .int .i64 b.ev.sInc, .int .i64 b.ev.sIdx, .int .i64 b.ev.ord, .int .i64 b.ev.val] := hW ▸ (by simpa using Blk.new (w.alloc _) _ _)
  have hz := hb3.lt
  have a0 : W.cell? ⟨w.heap.size, 0, none⟩ = some (.int .i64 a.proc) := by rw [hb2.cell]; rfl
  have a1 : W.cell? ⟨w.heap.size, 1, none⟩ = some (.int .i64 a.idx) := by rw [hb2.cell]; rfl
  have a2 : W.cell? ⟨w.heap.size, 2, none⟩ = some (.int .i64 a.ev.kind) := by rw [hb2.cell]; rfl
  have a3 : W.cell? ⟨w.heap.size, 3, none⟩ = some (.int .i64 a.ev.inc) := by rw [hb2.cell]; rfl
  have a4 : W.cell? ⟨w.heap.size, 4, none⟩ = some (.int .i64 a.ev.frm) := by rw [hb2.cell]; rfl
  have a5 : W.cell? ⟨w.heap.size, 5, none⟩ = some (.int .i64 a.ev.sInc) := by rw [hb2.cell]; rfl
  have a6 : W.cell? ⟨w.heap.size, 6, none⟩ = some (.int .i64 a.ev.sIdx) := by rw [hb2.cell]; rfl
  have a7 : W.cell? ⟨w.heap.size, 7, none⟩ = some (.int .i64 a.ev.ord) := by rw [hb2.cell]; rfl
  have a8 : W.cell? ⟨w.heap.size, 8, none⟩ = some (.int .i64 a.ev.val) := by rw [hb2.cell]; rfl
  have b0 : W.cell? ⟨w.heap.size + 1, 0, none⟩ = some (.int .i64 b.proc) := by rw [hb3.cell]; rfl
  have b1 : W.cell? ⟨w.heap.size + 1, 1, none⟩ = some (.int .i64 b.idx) := by rw [hb3.cell]; rfl
  have b2 : W.cell? ⟨w.heap.size + 1, 2, none⟩ = some (.int .i64 b.ev.kind) := by rw [hb3.cell]; rfl
  have b3 : W.cell? ⟨w.heap.size + 1, 3, none⟩ = some (.int .i64 b.ev.inc) := by rw [hb3.cell]; rfl
  have b4 : W.cell? ⟨w.heap.size + 1, 4, none⟩ = some (.int .i64 b.ev.frm) := by rw [hb3.cell]; rfl
  have b5 : W.cell? ⟨w.heap.size + 1, 5, none⟩ = some (.int .i64 b.ev.sInc) := by rw [hb3.cell]; rfl
  have b6 : W.cell? ⟨w.heap.size + 1, 6, none⟩ = some (.int .i64 b.ev.sIdx) := by rw [hb3.cell]; rfl
  have b7 : W.cell? ⟨w.heap.size + 1, 7, none⟩ = some (.int .i64 b.ev.ord) := by rw [hb3.cell]; rfl
  have b8 : W.cell? ⟨w.heap.size + 1, 8, none⟩ = some (.int .i64 b.ev.val) := by rw [hb3.cell]; rfl
  have HKW := Lib.hid hkW
  have HB2 := Lib.hid hb2
  have HB3 := Lib.hid hb3
  clear hkW hb2 hb3
  go_enter Tryz.func28, Tryz.ntmps28
  go_upto_region 1 with fail
  clear hW
  go_upto_region 2 with (first
    | (refine wpList_bld rfl 111 _ rfl _ [(0, .int .i64 a.proc), (1, .int .i64 a.idx), (2, .int .i64 a.ev.inc), (3, .int .i64 a.ev.kind), (4, .int .i64 a.ev.frm), (5, .int .i64 a.ev.sInc), (6, .int .i64 a.ev.sIdx), (7, .int .i64 a.ev.ord), (8, .int .i64 a.ev.val)] rfl (bld_arr9 _ _ _ _ _ _ _ _ _) ?_)
    | (refine wpList_store_all rfl _ (.tmp 5) (.tmp 36) rfl W.heap.size 111 _ [.int .i64 a.proc, .int .i64 a.idx, .int .i64 a.ev.inc, .int .i64 a.ev.kind, .int .i64 a.ev.frm, .int .i64 a.ev.sInc, .int .i64 a.ev.sIdx, .int .i64 a.ev.ord, .int .i64 a.ev.val] rfl rfl (Blk.new _ _ _) rfl (by kernel_rfl) rfl ?_; intro w1 hb5 hs5; have HB5 := Lib.hid hb5; have HS5 := Lib.hid hs5; clear hb5 hs5; refine Hid.out ?_))
  refine Lib.hid ?_
  have hk1 : Keep W w1 := Keep.write (Keep.new _ _) HS5.out (Nat.le_refl _)
  have hz1 : W.heap.size < w1.heap.size := HB5.out.lt
  have c0 := (hk1.cell (p := ⟨w.heap.size + 1, 0, none⟩) hz).trans b0
  have c1 := (hk1.cell (p := ⟨w.heap.size + 1, 1, none⟩) hz).trans b1
  have c2 := (hk1.cell (p := ⟨w.heap.size + 1, 2, none⟩) hz).trans b2
  have c3 := (hk1.cell (p := ⟨w.heap.size + 1, 3, none⟩) hz).trans b3
  have c4 := (hk1.cell (p := ⟨w.heap.size + 1, 4, none⟩) hz).trans b4
  have c5 := (hk1.cell (p := ⟨w.heap.size + 1, 5, none⟩) hz).trans b5
  have c6 := (hk1.cell (p := ⟨w.heap.size + 1, 6, none⟩) hz).trans b6
  have c7 := (hk1.cell (p := ⟨w.heap.size + 1, 7, none⟩) hz).trans b7
  have c8 := (hk1.cell (p := ⟨w.heap.size + 1, 8, none⟩) hz).trans b8
  clear a0 b0 a1 b1 a2 b2 a3 b3 a4 b4 a5 b5 a6 b6 a7 b7 a8 b8 HS5
  have HK1 := Lib.hid hk1
  clear hk1
  go_upto_region 3 with (first
    | (refine wpList_bld rfl 111 _ rfl _ [(0, .int .i64 b.proc), (1, .int .i64 b.idx), (2, .int .i64 b.ev.inc), (3, .int .i64 b.ev.kind), (4, .int .i64 b.ev.frm), (5, .int .i64 b.ev.sInc), (6, .int .i64 b.ev.sIdx), (7, .int .i64 b.ev.ord), (8, .int .i64 b.ev.val)] rfl (bld_arr9 _ _ _ _ _ _ _ _ _) ?_)
    | (refine wpList_store_all rfl _ (.tmp 6) (.tmp 64) rfl w1.heap.size 111 _ [.int .i64 b.proc, .int .i64 b.idx, .int .i64 b.ev.inc, .int .i64 b.ev.kind, .int .i64 b.ev.frm, .int .i64 b.ev.sInc, .int .i64 b.ev.sIdx, .int .i64 b.ev.ord, .int .i64 b.ev.val] rfl rfl (Blk.new _ _ _) rfl (by kernel_rfl) rfl ?_; intro w2 hb6 hs6; have HB6 := Lib.hid hb6; have HS6 := Lib.hid hs6; clear hb6 hs6; refine Hid.out ?_))
  refine Lib.hid ?_
  have hk2 : Keep w1 w2 := Keep.write (Keep.new _ _) HS6.out (Nat.le_refl _)
  have hz2 : w1.heap.size < w2.heap.size := HB6.out.lt
  have hba : Blk w2 W.heap.size 111 ((fieldsD a).map (fun x => Value.int .i64 x)).toArray := hk2.blk HB5.out HB5.out.lt
  have hbb : Blk w2 w1.heap.size 111 ((fieldsD b).map (fun x => Value.int .i64 x)).toArray := HB6.out
  have hkw' := Keep.trans (Keep.trans HKW.out HK1.out) hk2
  have HBA := Lib.hid hba
  have HBB := Lib.hid hbb
  have HKW' := Lib.hid hkw'
  clear hba hbb hkw'
  clear c0 c1 c2 c3 c4 c5 c6 c7 c8 HB5 HB6 HS6 hk2 HK1
  go_wp2_with fail
  go_loopw [7] (fun i wr => CqRel a b w2 i wr) (fun i _ => 9 - (intOf i).toNat)
  case atStart => exact ⟨0, rfl, by omega, Same.refl _ _, rfl⟩
  case round =>
    obtain ⟨k, rfl, hk9, hkr, hfr⟩ := hrel
    have hzr := hkr.size
    by_cases hk : k < 9
    · obtain ⟨x, hx, hxc⟩ := fields_at a k hk
      obtain ⟨y, hy, hyc⟩ := fields_at b k hk
      have hd1 : decide ((k : Int) < 9) = true := by simp; omega
      have hd2 : (0 : Int) ≤ k := by omega
      have hd3 : (k : Int) < 9 := by omega
      rw [zip_drop hx hy] at hfr
      have ex : ∀ wx, Keep wr wx → wx.cell? ⟨W.heap.size, k, none⟩ = some (.int .i64 x) := fun wx hw => by rw [((Keep.trans hkr hw).blk HBA.out HBA.out.lt).cell]; exact hxc
      have ey : ∀ wx, Keep wr wx → wx.cell? ⟨w1.heap.size, k, none⟩ = some (.int .i64 y) := fun wx hw => by rw [((Keep.trans hkr hw).blk HBB.out HBB.out.lt).cell]; exact hyc
      have HFR := Lib.hid hfr
      have HKR := Lib.hid hkr
      clear hfr hkr
      clear hx hxc hy hyc
      go_upto_region 6 with fail
      refine wp_region_L 99 (fun _ => True) (fun wx => Keep wr wx) (by kernel_rfl) trivial (Same.drew (Same.refl _ _)) (fun hA hB => ?_)
      generalize hu0 : wr.drew = u0 at hB ⊢
      clear hu0
      refine wpL_takeB (i := 0) (v := ?_) rfl (by kernel_rfl) (by kernel_rfl) (by kernel_rfl) (by decide) (fun _ _ _ h => h) (Or.inl ⟨by rfl, ?_⟩) (SAB.both hA hB) ?_
      rotate_left
      · intro wx hBx
        (try dsimp only at hBx)
        go_simp
        try with_reducible rfl
      try simp only [Act.put, List.setIfInBounds_toArray, List.set_cons_zero, List.set_cons_succ]
      refine wpL_takeB (i := 1) (v := ?_) rfl (by kernel_rfl) (by kernel_rfl) (by kernel_rfl) (by decide) (fun _ _ _ h => h) (Or.inl ⟨by rfl, ?_⟩) (SAB.both hA hB) ?_
      rotate_left
      · intro wx hBx
        (try dsimp only at hBx)
        go_simp
        try with_reducible rfl
      try simp only [Act.put, List.setIfInBounds_toArray, List.set_cons_zero, List.set_cons_succ]
      refine wpL_takeB (i := 2) (v := ?_) rfl (by kernel_rfl) (by kernel_rfl) (by kernel_rfl) (by decide) (fun _ _ _ h => h) (Or.inl ⟨by rfl, ?_⟩) (SAB.both hA hB) ?_
      rotate_left
      · intro wx hBx
        (try dsimp only at hBx)
        go_simp
        try with_reducible rfl
      try simp only [Act.put, List.setIfInBounds_toArray, List.set_cons_zero, List.set_cons_succ]
      refine wpL_takeB (i := 3) (v := ?_) rfl (by kernel_rfl) (by kernel_rfl) (by kernel_rfl) (by decide) (fun _ _ _ h => h) (Or.inl ⟨by rfl, ?_⟩) (SAB.both hA hB) ?_
      rotate_left
      · intro wx hBx
        (try dsimp only at hBx)
        go_simp
        try with_reducible rfl
      try simp only [Act.put, List.setIfInBounds_toArray, List.set_cons_zero, List.set_cons_succ]
      refine wpL_takeB (i := 4) (v := ?_) rfl (by kernel_rfl) (by kernel_rfl) (by kernel_rfl) (by decide) (fun _ _ _ h => h) (Or.inl ⟨by rfl, ?_⟩) (SAB.both hA hB) ?_
      rotate_left
      · intro wx hBx
        (try dsimp only at hBx)
        go_simp
        try with_reducible rfl
      try simp only [Act.put, List.setIfInBounds_toArray, List.set_cons_zero, List.set_cons_succ]
      refine wpL_takeB (i := 5) (v := ?_) rfl (by kernel_rfl) (by kernel_rfl) (by kernel_rfl) (by decide) (fun _ _ _ h => h) (Or.inl ⟨by rfl, ?_⟩) (SAB.both hA hB) ?_
      rotate_left
      · intro wx hBx
        (try dsimp only at hBx)
        go_simp
        try with_reducible rfl
      try simp only [Act.put, List.setIfInBounds_toArray, List.set_cons_zero, List.set_cons_succ]
      clear ex ey
      refine wpL_one (i := 6) (by kernel_rfl) (StepL.mk rfl (fun K hK => ?_))
      go_simp
      refine (less_any _ x y).mono ?_
      rintro e u1 ⟨rfl, hq⟩
      replace hq := hq.symm
      subst hq
      have ha := hB
      refine hK.out _ _ (SAB.both trivial ha) (fun hSS => ?_)
      clear hK K hA hB
      have hB := hSS.2
      have hA := hSS.1 (by kernel_rfl)
      (try dsimp only at hB); (try dsimp only at hA); clear hSS
      try simp only [Act.put, List.setIfInBounds_toArray, List.set_cons_zero, List.set_cons_succ]
      have hke := Keep.trans HKR.out ha
      refine wpL_takeB (i := 7) (v := ?_) rfl (by kernel_rfl) (by kernel_rfl) (by kernel_rfl) (by decide) (fun _ _ _ h => h) (Or.inl ⟨by rfl, ?_⟩) (SAB.both hA hB) ?_
      rotate_left
      · intro wx hBx
        (try dsimp only at hBx)
        go_simp
        try with_reducible rfl
      try simp only [Act.put, List.setIfInBounds_toArray, List.set_cons_zero, List.set_cons_succ]
      refine wpL_done (by kernel_rfl) ?_
      clear hA hB ha
      cases q : (cmpI x y != 0)
      · have hx0 : cmpI x y = 0 := by simpa using q
        have hr2 : firstNZ ((List.zipWith cmpI (fieldsD a) (fieldsD b)).drop (k + 1)) = firstNZ (List.zipWith cmpI (fieldsD a) (fieldsD b)) := by rw [← HFR.out, firstNZ, if_pos hx0]
        have HR2 := Lib.hid hr2
        have HX0 := Lib.hid hx0
        have HKE := Lib.hid hke
        clear hr2 hx0 hke
        go_wp2_with fail
        go_roundw
        case rel => exact ⟨k + 1, by simp, by omega, HKE.out, HR2.out⟩
        case measure => simp [intOf]; omega
      · have hx0 : ¬ cmpI x y = 0 := by simpa using q
        have hr2 : cmpDt a b = cmpI x y := by rw [cmpDt_zip, ← HFR.out, firstNZ, if_neg hx0]
        have HX0 := Lib.hid hx0
        have HR2 := Lib.hid hr2
        have HKE := Lib.hid hke
        clear hx0 hr2 hke
        go_wp2_with fail
        go_ret
        exact ⟨by rw [HR2.out]; rfl, Keep.trans HKW'.out HKE.out⟩
    · have hd1 : decide ((k : Int) < 9) = false := by simp; omega
      have hr2 : cmpDt a b = 0 := by
        have : (List.zipWith cmpI (fieldsD a) (fieldsD b)).drop k = [] := List.drop_eq_nil_of_le (by simp [fieldsD]; omega)
        rw [cmpDt_zip, ← hfr, this]; rfl
      have HFR := Lib.hid hfr
      have HR2 := Lib.hid hr2
      have HKR := Lib.hid hkr
      clear hfr hr2 hkr
      go_wp2_with fail
      go_ret
      exact ⟨by rw [HR2.out]; rfl, Keep.trans HKW'.out HKR.out⟩
end Go.Proofs.YtecckbkobkfnmaaGreatDoor
