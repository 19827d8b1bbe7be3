/- process.At. -/
import Derived.Test.YtecckbkobkfnmaaDoorGP
import Derived.Test.YtecckbkobkfnmaaDoorAid6
set_option linter.unusedVariables false
set_option linter.unusedSimpArgs false
set_option maxRecDepth 100000
namespace Go.Proofs.YtecckbkobkfnmaaDoor
open Go.RowKit Go.Proofs

def AtPost (S : Nat → Prop) (c : Cd) (self procs k : Int) (s : St) (w : World) (e : Ending) (w' : World) : Prop :=
  ∃ (cs : List Value) (b : Bool) (t : St), e = .returned (.tuple #[.agg cs.toArray, .bool b]) ∧ (b = true ↔ 0 ≤ k ∧ k ≤ s.events.length) ∧ (b = true → t = replayS c self procs (s.events.take k.toNat)) ∧ (b = false → t = ⟨[], [], [], []⟩) ∧ StR w' (Sn S w w') cs t ∧ Keep w w'
theorem bld_st0 : Tryd.prog.built 27 [] = some #[.slice none 0 0, .slice none 0 0, .slice none 0 0, .slice none 0 0] := by kernel_rfl
theorem StR.nil_ {w : World} {S : Nat → Prop} : StR w S [.slice none 0 0, .slice none 0 0, .slice none 0 0, .slice none 0 0] ⟨[], [], [], []⟩ := st_mk Sl.nil_ Sl.nil_ Sl.nil_ Sl.nil_
set_option maxHeartbeats 8000000 in
theorem pat_any (w : World) (S : Nat → Prop) (cs ss : List Value) (c : Cd) (s : St) (self procs k : Int) (hS : ∀ i, S i → i < w.heap.size) (hc : CdR w S cs c) (hs : StR w S ss s) (h4 : s.events.length ≤ 100000) :
    Calls Tryd.prog 29 #[.agg cs.toArray, .int .i64 self, .int .i64 procs, .agg ss.toArray, .int .i64 k] w (AtPost S c self procs k s w) := by
  obtain ⟨A0, A1, A2, A3, A4, m0, c0, m1, c1, m2, c2, m3, c3, m4, c4, rfl, hcd⟩ := cd_open2 hc
  obtain ⟨B1, B2, B3, B4, p1, q1, p2, q2, p3, q3, p4, q4, rfl, hst⟩ := st_open hs
  obtain ⟨-, g2, -, -⟩ := st_sl hst
  have hp2 : p2 ≤ 100000 := by have := g2.1; omega
  have hq2 := g2.2.1
  show Calls Tryd.prog 29 #[.agg #[.slice A0 m0 c0, .slice A1 m1 c1, .slice A2 m2 c2, .slice A3 m3 c3, .slice A4 m4 c4], .int .i64 self, .int .i64 procs, .agg #[.slice B1 p1 q1, .slice B2 p2 q2, .slice B3 p3 q3, .slice B4 p4 q4], .int .i64 k] w _
  generalize hW : ((w.alloc (.cells #[.slice A0 m0 c0, .slice A1 m1 c1, .slice A2 m2 c2, .slice A3 m3 c3, .slice A4 m4 c4] 38)).alloc (.cells #[.slice B1 p1 q1, .slice B2 p2 q2, .slice B3 p3 q3, .slice B4 p4 q4] 27)).alloc (.cells #[.slice none 0 0, .slice none 0 0, .slice none 0 0, .slice none 0 0] 27) = W
  have hkW : Keep w W := hW ▸ Keep.alloc (Keep.alloc (Keep.new w _) _) _
  have hb5 : Blk W w.heap.size 38 #[.slice A0 m0 c0, .slice A1 m1 c1, .slice A2 m2 c2, .slice A3 m3 c3, .slice A4 m4 c4] := hW ▸ ((Blk.new w _ _).alloc _).alloc _
  have hb8 : Blk W (w.heap.size + 1) 27 #[.slice B1 p1 q1, .slice B2 p2 q2, .slice B3 p3 q3, .slice B4 p4 q4] := hW ▸ blkM w _ _ _ _
  have hb10 : Blk W (w.heap.size + 2) 27 #[.slice none 0 0, .slice none 0 0, .slice none 0 0, .slice none 0 0] := hW ▸ blkL w _ _ _ _
  have hz : w.heap.size + 2 < W.heap.size := hb10.lt
  have hpl : p2 = s.events.length := g2.1
  have e1 : W.cell? ⟨w.heap.size + 1, 1, none⟩ = some (.slice B2 p2 q2) := by rw [hb8.cell]; rfl
  by_cases hin : 0 ≤ k ∧ k ≤ p2
  · obtain ⟨hk0, hk1⟩ := hin
    have t1 : decide (k < 0) = false := by simpa using hk0
    have t2 : decide ((p2 : Int) < k) = false := by simpa using hk1
    have hcW := (hcd.keep (Same.mono hkW hS))
    have hsl := (g2.keep (Same.mono hkW hS)).to_ encEv_len (k := k.toNat) (by omega)
    have HS := Lib.hid hS
    have HKW := Lib.hid hkW
    have HB5 := Lib.hid hb5
    have HB8 := Lib.hid hb8
    have HB10 := Lib.hid hb10
    have HCW := Lib.hid hcW
    have HSL := Lib.hid hsl
    have HPL := Lib.hid hpl
    have E1 := Lib.hid e1
    clear hS hkW hb5 hb8 hb10 hcW hsl hpl e1
    clear hcd hst hc hs g2
    go_enter Tryd.func29, Tryd.ntmps29
    go_upto_region 1 with fail
    clear hW
    have e1 := E1.out
    go_upto_region 3 with fail
    have e1 : ∀ wx, Keep W wx → wx.cell? ⟨w.heap.size + 1, 1, none⟩ = some (.slice B2 p2 q2) := fun wx hx => (hx.cell (p := ⟨w.heap.size + 1, 1, none⟩) HB8.out.lt).trans E1.out
    have hk2 : k ≤ (q2 : Int) := by omega
    refine wp_region_L 8 (fun wx => Keep W wx) (fun _ => True) (by kernel_rfl) (Same.drew (Same.refl _ _)) trivial (fun hA hB => ?_)
    have z0 : W.heap.size ≤ W.drew.heap.size := Nat.le_refl _
    generalize hu0 : W.drew = u0 at hA z0 ⊢
    clear hu0
    refine wpL_takeA (i := 0) rfl (by kernel_rfl) (by kernel_rfl) (by kernel_rfl) (by kernel_rfl) (by decide) (fun _ _ _ h => h) (yieldsIf_blk (by rfl) _ _ rfl w.heap.size 0 38 _ [.slice A0 m0 c0, .slice A1 m1 c1, .slice A2 m2 c2, .slice A3 m3 c3, .slice A4 m4 c4] _ rfl (fun wx hx => hx.1.blk HB5.out HB5.out.lt) (fun j u hu => by simpa using hu) Tryd.underlying38 rfl (by kernel_rfl)) hA hB ?_
    try simp only [Act.put, List.setIfInBounds_toArray, List.set_cons_zero, List.set_cons_succ]
    refine wpL_takeA (i := 1) (v := ?_) rfl (by kernel_rfl) (by kernel_rfl) (by kernel_rfl) (by kernel_rfl) (by decide) (fun _ _ _ h => h) (Or.inl ⟨by rfl, ?_⟩) hA hB ?_
    rotate_left
    · rintro wx ⟨hAx, hBx⟩
      (try dsimp only at hBx); (try dsimp only at hAx)
      go_simp
      try with_reducible rfl
    try simp only [Act.put, List.setIfInBounds_toArray, List.set_cons_zero, List.set_cons_succ]
    refine wpL_takeA (i := 2) (v := ?_) rfl (by kernel_rfl) (by kernel_rfl) (by kernel_rfl) (by kernel_rfl) (by decide) (fun _ _ _ h => h) (Or.inl ⟨by rfl, ?_⟩) hA hB ?_
    rotate_left
    · rintro wx ⟨hAx, hBx⟩
      (try dsimp only at hBx); (try dsimp only at hAx)
      go_simp
      try with_reducible rfl
    try simp only [Act.put, List.setIfInBounds_toArray, List.set_cons_zero, List.set_cons_succ]
    refine wpL_takeA (i := 3) (v := ?_) rfl (by kernel_rfl) (by kernel_rfl) (by kernel_rfl) (by kernel_rfl) (by decide) (fun _ _ _ h => h) (Or.inl ⟨by rfl, ?_⟩) hA hB ?_
    rotate_left
    · rintro wx ⟨hAx, hBx⟩
      (try dsimp only at hBx); (try dsimp only at hAx)
      go_simp
      try with_reducible rfl
    try simp only [Act.put, List.setIfInBounds_toArray, List.set_cons_zero, List.set_cons_succ]
    refine wpL_takeA (i := 4) (v := ?_) rfl (by kernel_rfl) (by kernel_rfl) (by kernel_rfl) (by kernel_rfl) (by decide) (fun _ _ _ h => h) (Or.inl ⟨by rfl, ?_⟩) hA hB ?_
    rotate_left
    · rintro wx ⟨hAx, hBx⟩
      (try dsimp only at hBx); (try dsimp only at hAx)
      go_simp
      try with_reducible rfl
    try simp only [Act.put, List.setIfInBounds_toArray, List.set_cons_zero, List.set_cons_succ]
    refine wpL_takeA (i := 5) (v := ?_) rfl (by kernel_rfl) (by kernel_rfl) (by kernel_rfl) (by kernel_rfl) (by decide) (fun _ _ _ h => h) (Or.inl ⟨by rfl, ?_⟩) hA hB ?_
    rotate_left
    · rintro wx ⟨hAx, hBx⟩
      (try dsimp only at hBx); (try dsimp only at hAx)
      go_simp
      try with_reducible rfl
    try simp only [Act.put, List.setIfInBounds_toArray, List.set_cons_zero, List.set_cons_succ]
    refine wpL_takeA (i := 6) (v := ?_) rfl (by kernel_rfl) (by kernel_rfl) (by kernel_rfl) (by kernel_rfl) (by decide) (fun _ _ _ h => h) (Or.inl ⟨by rfl, ?_⟩) hA hB ?_
    rotate_left
    · rintro wx ⟨hAx, hBx⟩
      (try dsimp only at hBx); (try dsimp only at hAx)
      go_simp
      try with_reducible rfl
    try simp only [Act.put, List.setIfInBounds_toArray, List.set_cons_zero, List.set_cons_succ]
    clear e1
    refine wpL_one (i := 7) (by kernel_rfl) (StepL.mk rfl (fun K hK => ?_))
    go_simp
    refine (preplay_any u0 S [.slice A0 m0 c0, .slice A1 m1 c1, .slice A2 m2 c2, .slice A3 m3 c3, .slice A4 m4 c4] c self procs B2 k.toNat q2 (s.events.take k.toNat) (fun i hi => by have := HS.out i hi; omega) (HCW.out.keep (Same.mono hA (fun i hi => by have := HS.out i hi; omega))) (HSL.out.keep (Same.mono hA (fun i hi => by have := HS.out i hi; omega))) (by rw [List.length_take]; omega)).mono ?_
    rintro e u1 ⟨cs1, rfl, r1', k1⟩
    obtain ⟨E1', E2', E3', E4', en1, ec1, en2, ec2, en3, ec3, en4, ec4, rfl, r1⟩ := st_open r1'
    clear r1'
    have z1 := k1.size
    have ha := Keep.trans hA k1
    refine hK.out _ _ (SAB.both ha trivial) (fun hSS => ?_)
    clear hK K hA hB
    have hB := hSS.2
    have hA := hSS.1 (by kernel_rfl)
    (try dsimp only at hB); (try dsimp only at hA); clear hSS
    try simp only [Act.put, List.setIfInBounds_toArray, List.set_cons_zero, List.set_cons_succ]
    clear ha
    refine wpL_one (i := 8) (by kernel_rfl) (StepL.mk rfl (fun K hK => ?_))
    refine step_store_blk rfl _ _ _ rfl (w.heap.size + 2) 0 27 _ [.slice E1' en1 ec1, .slice E2' en2 ec2, .slice E3' en3 ec3, .slice E4' en4 ec4] rfl rfl (hA.blk HB10.out HB10.out.lt) (by simp) (by kernel_rfl) rfl ?_
    intro v6 hv6 hs6
    rw [splice_all [.slice E1' en1 ec1, .slice E2' en2 ec2, .slice E3' en3 ec3, .slice E4' en4 ec4] #[.slice none 0 0, .slice none 0 0, .slice none 0 0, .slice none 0 0] rfl] at hv6
    have z6 := hs6.size
    have hfin : AtPost S c self procs k s w (.returned (.tuple #[.agg #[.slice E1' en1 ec1, .slice E2' en2 ec2, .slice E3' en3 ec3, .slice E4' en4 ec4], .bool true])) v6 :=
      ⟨[.slice E1' en1 ec1, .slice E2' en2 ec2, .slice E3' en3 ec3, .slice E4' en4 ec4], true, _, rfl, by simp; have := HPL.out; omega, fun _ => rfl, (fun h => by cases h),
        (r1.keep (hs6.mono (fun i hi => hi.elim (fun h => by have := HS.out i h; show i ≠ _; omega) (fun h => by have := h.1; show i ≠ _; omega)))).more (fun i hi => hi.elim (fun h => .inl h) (fun h => .inr ⟨by have := h.1; omega, by have := h.2; omega⟩)), Keep.write (Keep.trans HKW.out hA) hs6 (by omega)⟩
    refine hK.out _ _ (SAB.past (by kernel_rfl) trivial) (fun hSS => ?_)
    clear hK K hA hB
    have hB := hSS.2
    have hA : True := trivial
    (try dsimp only at hB); (try dsimp only at hA); clear hSS
    try simp only [Act.put, List.setIfInBounds_toArray, List.set_cons_zero, List.set_cons_succ]
    have HFIN := Lib.hid hfin
    have HV6 := Lib.hid hv6
    clear hfin hv6
    clear hs6 r1 k1 hA hB
    have hA : True := trivial
    have hB : True := trivial
    refine wpL_one (i := 9) (by kernel_rfl) (StepL.mk rfl (fun K hK => ?_))
    go_simp
    refine hK.out _ _ (SAB.past (by kernel_rfl) trivial) (fun hSS => ?_)
    clear hK K hA hB
    have hB := hSS.2
    have hA : True := trivial
    (try dsimp only at hB); (try dsimp only at hA); clear hSS
    try simp only [Act.put, List.setIfInBounds_toArray, List.set_cons_zero, List.set_cons_succ]
    refine wpL_done (by kernel_rfl) ?_
    go_wp2_with fail
    refine bodyPost_ret (results_cell_tmp' Tryd.results29 _ _ _ ⟨w.heap.size + 2, 0, none⟩ _ _ rfl rfl (loadVar_blk [.slice E1' en1 ec1, .slice E2' en2 ec2, .slice E3' en3 ec3, .slice E4' en4 ec4] _ HV6.out (fun j v hv => by simpa using hv) Tryd.underlying27 rfl (by kernel_rfl))) rfl HFIN.out
  · have hb : ∀ w', Same (· ≠ w.heap.size + 2) W w' → AtPost S c self procs k s w (.returned (.tuple #[.agg #[.slice none 0 0, .slice none 0 0, .slice none 0 0, .slice none 0 0], .bool false])) w' := fun w' hk =>
      ⟨[.slice none 0 0, .slice none 0 0, .slice none 0 0, .slice none 0 0], false, ⟨[], [], [], []⟩, rfl, by simp; omega, (fun h => by cases h), fun _ => rfl, StR.nil_, Keep.write hkW hk (by omega)⟩
    have HB := Lib.hid hb
    have HB10 := Lib.hid hb10
    clear hb hb10
    clear hcd hst hc hs g2 hkW hb5 hS hpl
    by_cases hk0 : k < 0
    · have t1 : decide (k < 0) = true := by simpa using hk0
      clear hin hk0
      go_enter Tryd.func29, Tryd.ntmps29
      go_upto_region 1 with fail
      clear hW
      go_wp2_with (first
        | (refine wpList_bld rfl 27 _ rfl _ [] rfl bld_st0 ?_)
        | (refine wpList_store_all rfl _ (.tmp 10) (.tmp 21) rfl (w.heap.size + 2) 27 _ [.slice none 0 0, .slice none 0 0, .slice none 0 0, .slice none 0 0] rfl rfl HB10.out rfl (by kernel_rfl) rfl ?_; intro v6 hv6 hs6))
      exact bodyPost_ret (results_cell_tmp' Tryd.results29 _ _ _ ⟨w.heap.size + 2, 0, none⟩ _ _ rfl rfl (loadVar_blk [.slice none 0 0, .slice none 0 0, .slice none 0 0, .slice none 0 0] _ hv6 (fun j v hv => by simpa using hv) Tryd.underlying27 rfl (by kernel_rfl))) rfl (HB.out v6 hs6)
    · have t1 : decide (k < 0) = false := by simpa using hk0
      have t2 : decide ((p2 : Int) < k) = true := by simp; omega
      clear hin hk0
      go_enter Tryd.func29, Tryd.ntmps29
      go_upto_region 1 with fail
      clear hW
      go_wp2_with (first
        | (refine wpList_bld rfl 27 _ rfl _ [] rfl bld_st0 ?_)
        | (refine wpList_store_all rfl _ (.tmp 10) (.tmp 21) rfl (w.heap.size + 2) 27 _ [.slice none 0 0, .slice none 0 0, .slice none 0 0, .slice none 0 0] rfl rfl HB10.out rfl (by kernel_rfl) rfl ?_; intro v6 hv6 hs6))
      exact bodyPost_ret (results_cell_tmp' Tryd.results29 _ _ _ ⟨w.heap.size + 2, 0, none⟩ _ _ rfl rfl (loadVar_blk [.slice none 0 0, .slice none 0 0, .slice none 0 0, .slice none 0 0] _ hv6 (fun j v hv => by simpa using hv) Tryd.underlying27 rfl (by kernel_rfl))) rfl (HB.out v6 hs6)
end Go.Proofs.YtecckbkobkfnmaaDoor
