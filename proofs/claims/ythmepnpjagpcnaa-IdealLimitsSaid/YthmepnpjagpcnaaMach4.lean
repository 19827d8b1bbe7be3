/- The interpreter's machine: effect. -/
import Derived.Test.YthmepnpjagpcnaaMach3
set_option linter.unusedVariables false
set_option linter.unusedSimpArgs false
set_option maxRecDepth 100000
namespace Go.Proofs.Ythmepnpjagpcnaa
open Go.RowKit Go.Proofs

theorem info_Eff : (Try.prog.info? 151).map (fun i => (i.zero, i.size, i.bytes)) = some (some (.agg #[.int .i64 0, .int .i64 0, .int .i64 0]), 3, 24) := by kernel_rfl
theorem built_eff (a b c : Int) : builtS Try.prog 151 1 [(0, .agg #[.int .i64 a, .int .i64 b, .int .i64 c])] = some #[.int .i64 a, .int .i64 b, .int .i64 c] := by kernel_rfl
set_option maxHeartbeats 4000000 in
theorem effect_any (w : World) (base g : Nat) (v : EnvS) (st : Ms) (x : Eff) (hm : Mach w base g v st) (h8 : st.effs.length ≤ 8) : Calls Try.prog 75 #[.pointer (some ⟨g, 0, none⟩), .agg #[.int .i64 x.kind, .int .i64 x.dst, .int .i64 x.val]] w (UnitPost base g v (st.eff x) w) := by
  have hmk := hm.keep (Keep.new w (.cells #[.int .i64 x.kind, .int .i64 x.dst, .int .i64 x.val] 151))
  obtain ⟨i0, hi0, iz0, iz1, iz2⟩ := info_of info_Eff
  by_cases hl : st.effs.length < 8
  · have hs : st.eff x = { st with effs := st.effs ++ [x] } := if_pos hl
    rw [hs]
    obtain ⟨C, E, hbw, hcw, hEw, h1, h2, h3, h4⟩ := hm
    have hgw := hbw.lt
    have hEl := hEw.lt
    generalize hW : w.alloc (.cells #[.int .i64 x.kind, .int .i64 x.dst, .int .i64 x.val] 151) = W at *
    have hkW : Keep w W := hW ▸ Keep.new w _
    have hbx : Blk W w.heap.size 151 #[.int .i64 x.kind, .int .i64 x.dst, .int .i64 x.val] := hW ▸ Blk.new w _ _
    have hzx := hbx.lt
    have hb := hkW.blk hbw hgw
    have hc := ownsRow_same hcw hkW (fun i hi => hi.2)
    have hE := ownsRow_same hEw hkW (fun i hi => hi.2)
    obtain ⟨A, c, hCe, hnc, hcm⟩ := own_form hE
    have hcm' : c ≤ 9223372036854775807 := hcm
    subst hCe
    have hgl := hb.lt
    have hbase : base ≤ W.heap.size := by omega
    have c1 : W.cell? ⟨g, 1, none⟩ = some (.slice A st.effs.length c) := by rw [hb.cell]; rfl
    have d1 : decide ((st.effs.length : Int) < 8) = true := by simp; omega
    have c1a : ∀ wx, Same (fun i => i = g ∨ i = w.heap.size) W wx → wx.cell? ⟨g, 1, none⟩ = some (.slice A st.effs.length c) := fun wx hx => (hx.cell (p := ⟨g, 1, none⟩) (.inl rfl)).trans c1
    have hxa : ∀ wx, Same (fun i => i = g ∨ i = w.heap.size) W wx → Blk wx w.heap.size 151 #[.int .i64 x.kind, .int .i64 x.dst, .int .i64 x.val] := fun wx hx => hx.blk hbx (.inr rfl)
    have hne : ∀ i, i = g ∨ i = w.heap.size → i < W.heap.size ∧ Value.ownBlock (.slice A st.effs.length c) ≠ some i := by
      rintro i (rfl | rfl)
      · exact ⟨hgl, h3⟩
      · exact ⟨hzx, fun hh => by have := (hEl _ hh).2; omega⟩
    have HB := Lib.hid hb
    have HC := Lib.hid hc
    have HE := Lib.hid hE
    have H4 := Lib.hid h4
    have HKW := Lib.hid hkW
    have HI0 := Lib.hid hi0
    have IZ0 := Lib.hid iz0
    have IZ1 := Lib.hid iz1
    have IZ2 := Lib.hid iz2
    have HBX := Lib.hid hbx
    have HXA := Lib.hid hxa
    have HNE := Lib.hid hne
    have HEL := Lib.hid hEl
    clear hb hc hE h4 hkW hi0 iz0 iz1 iz2 hbx hxa hne hEl
    clear hs h8 hbw hcw hEw hmk
    go_enter Try.func75, Try.ntmps75
    go_upto_region 1 with fail
    clear hW
    go_upto_region 2 with fail
    refine wp_region_L 10 (fun wx => Same (fun i => i = g ∨ i = w.heap.size) W wx) (fun wx => True) (by kernel_rfl) (Same.drew (Same.refl _ _)) trivial (fun hA hB => ?_)
    refine wpL_takeB (i := 0) (v := ?_) rfl (by kernel_rfl) (by kernel_rfl) (by kernel_rfl) (by decide) (fun _ _ _ h => h) (Or.inl ⟨by rfl, ?_⟩) (SAB.both hA hB) ?_
    rotate_left
    · intro wx hBx
      (try dsimp only at hBx)
      go_simp
      try with_reducible rfl
    try simp only [Act.put, List.setIfInBounds_toArray, List.set_cons_zero, List.set_cons_succ]
    refine wpL_takeB (i := 1) (v := ?_) rfl (by kernel_rfl) (by kernel_rfl) (by kernel_rfl) (by decide) (fun _ _ _ h => h) (Or.inl ⟨by rfl, ?_⟩) (SAB.both hA hB) ?_
    rotate_left
    · intro wx hBx
      (try dsimp only at hBx)
      go_simp
      try with_reducible rfl
    try simp only [Act.put, List.setIfInBounds_toArray, List.set_cons_zero, List.set_cons_succ]
    refine wpL_takeB (i := 2) (v := ?_) rfl (by kernel_rfl) (by kernel_rfl) (by kernel_rfl) (by decide) (fun _ _ _ h => h) (Or.inl ⟨by rfl, ?_⟩) (SAB.both hA hB) ?_
    rotate_left
    · intro wx hBx
      (try dsimp only at hBx)
      go_simp
      try with_reducible rfl
    try simp only [Act.put, List.setIfInBounds_toArray, List.set_cons_zero, List.set_cons_succ]
    refine wpL_takeB (i := 3) (v := ?_) rfl (by kernel_rfl) (by kernel_rfl) (by kernel_rfl) (by decide) (fun _ _ _ h => h) (Or.inl ⟨by rfl, ?_⟩) (SAB.both hA hB) ?_
    rotate_left
    · intro wx hBx
      (try dsimp only at hBx)
      go_simp
      try with_reducible rfl
    try simp only [Act.put, List.setIfInBounds_toArray, List.set_cons_zero, List.set_cons_succ]
    refine wpL_takeA (i := 4) (v := ?_) rfl (by kernel_rfl) (by kernel_rfl) (by kernel_rfl) (by kernel_rfl) (by decide) (fun _ _ _ h => h) (Or.inl ⟨by rfl, ?_⟩) hA hB ?_
    rotate_left
    · rintro wx ⟨hAx, hBx⟩
      (try dsimp only at hBx); (try dsimp only at hAx)
      go_simp
      try with_reducible rfl
    try simp only [Act.put, List.setIfInBounds_toArray, List.set_cons_zero, List.set_cons_succ]
    refine wpL_takeA (i := 5) rfl (by kernel_rfl) (by kernel_rfl) (by kernel_rfl) (by kernel_rfl) (by decide) (fun _ _ _ h => h) (yieldsIf_blk (by rfl) _ _ rfl w.heap.size 0 151 _ [.int .i64 x.kind, .int .i64 x.dst, .int .i64 x.val] _ rfl (fun wx hx => HXA.out wx hx.1) (fun j u hu => by match j, hu with | 0, hu | 1, hu | 2, hu => exact hu) Try.underlying151 rfl (by kernel_rfl)) hA hB ?_
    try simp only [Act.put, List.setIfInBounds_toArray, List.set_cons_zero, List.set_cons_succ]
    refine wpL_one (i := 6) (by kernel_rfl) (StepL.mk rfl (fun K hK => ?_))
    refine step_buildS rfl _ _ _ _ rfl Try.underlying147 _ [(0, .agg #[.int .i64 x.kind, .int .i64 x.dst, .int .i64 x.val])] rfl (built_eff _ _ _) ?_
    have hk1 : Keep W (W.drew.alloc (.cells #[.int .i64 x.kind, .int .i64 x.dst, .int .i64 x.val] 151)) := Keep.alloc (Same.drew (Same.refl _ _)) _
    refine hK.out _ _ (SAB.both (hk1.mono (fun i hi => (HNE.out i hi).1)) trivial) (fun hSS => ?_)
    clear hK K hA hB
    have hB := hSS.2
    have hA := hSS.1 (by kernel_rfl)
    (try dsimp only at hB); (try dsimp only at hA); clear hSS
    try simp only [Act.put, List.setIfInBounds_toArray, List.set_cons_zero, List.set_cons_succ]
    refine wpL_one (i := 7) (by kernel_rfl) (StepL.mk rfl (fun K hK => ?_))
    refine step_append_any _ (by rfl) (.tmp 14) (.tmp 16) _ (by rfl) base 151 i0 _ 3 24 Try.underlying147 HI0.out IZ0.out IZ1.out IZ2.out rfl (by omega) (.slice A st.effs.length c) st.effs.length (st.effs.flatMap encEff) (by rfl) (ownsRow_same HE.out hk1 (fun i hi => hi.2)) _ (some ⟨W.heap.size, 0, none⟩) 1 1 (encEff x) (by rfl) (Reads.new (w := W.drew) rfl) (encEff_one _) (by simp [maxLen]; omega) (by omega) (by have := hk1.size; omega) ?_
    intro v2 w2 hown2 hg2 hat2
    have hs2 : Same (fun i => i < W.heap.size ∧ Value.ownBlock (.slice A st.effs.length c) ≠ some i) W w2 := Same.grown (hk1.mono (fun i hi => hi.1)) hg2 (fun i hi => Nat.lt_of_lt_of_le hi.1 hk1.size) (fun k hk hh => hh.2 hk)
    have hk1z := hk1.size
    refine hK.out _ _ (SAB.both (hs2.mono HNE.out) trivial) (fun hSS => ?_)
    clear hK K hA hB
    have hB := hSS.2
    have hA := hSS.1 (by kernel_rfl)
    (try dsimp only at hB); (try dsimp only at hA); clear hSS
    try simp only [Act.put, List.setIfInBounds_toArray, List.set_cons_zero, List.set_cons_succ]
    obtain ⟨A2, c2, hv2, hnc2, hcm2⟩ := own_form hown2
    subst hv2
    have hb2 := hs2.blk HB.out ⟨hgl, h3⟩
    refine wpL_takeB (i := 8) (v := ?_) rfl (by kernel_rfl) (by kernel_rfl) (by kernel_rfl) (by decide) (fun _ _ _ h => h) (Or.inl ⟨by rfl, ?_⟩) (SAB.both hA hB) ?_
    rotate_left
    · intro wx hBx
      (try dsimp only at hBx)
      go_simp
      try with_reducible rfl
    try simp only [Act.put, List.setIfInBounds_toArray, List.set_cons_zero, List.set_cons_succ]
    refine wpL_takeB (i := 9) (v := ?_) rfl (by kernel_rfl) (by kernel_rfl) (by kernel_rfl) (by decide) (fun _ _ _ h => h) (Or.inl ⟨by rfl, ?_⟩) (SAB.both hA hB) ?_
    rotate_left
    · intro wx hBx
      (try dsimp only at hBx)
      go_simp
      try with_reducible rfl
    try simp only [Act.put, List.setIfInBounds_toArray, List.set_cons_zero, List.set_cons_succ]
    refine wpL_one (i := 10) (by kernel_rfl) (StepL.mk rfl (fun K hK => ?_))
    refine step_store_one rfl _ _ _ rfl g 1 154 _ (.slice A2 (st.effs.length + 1) c2) rfl rfl hb2 (by simp [machCells]) (by kernel_rfl) rfl rfl ?_
    intro w3 hb3 hs3
    refine hK.out _ _ (SAB.past (by kernel_rfl) trivial) (fun hSS => ?_)
    clear hK K hA hB
    have hB := hSS.2
    have hA : True := trivial
    (try dsimp only at hB); (try dsimp only at hA); clear hSS
    try simp only [Act.put, List.setIfInBounds_toArray, List.set_cons_zero, List.set_cons_succ]
    refine wpL_done (by kernel_rfl) ?_
    have hz2 := hs2.size
    have hown : ∀ b, Value.ownBlock (.slice A2 (st.effs.length + 1) c2) = some b → b ≠ g ∧ (∀ b', C.ownBlock = some b' → b ≠ b') := fun b hb => by
      have hcl := HC.out.lt
      rcases hat2 with h | h
      · rw [h] at hb
        exact ⟨fun e => h3 (by rw [← e]; exact hb), fun b' hb' e => H4.out b' hb' (by rw [← e]; exact hb)⟩
      · rw [h] at hb
        injection hb with hb
        have hz : W.heap.size ≤ b := by rw [← hb]; simp
        exact ⟨fun e => by omega, fun b' hb' e => by have := (hcl b' hb').2; omega⟩
    have hfin : Mach w3 base g v { st with effs := st.effs ++ [x] } := by
      refine ⟨C, .slice A2 (st.effs.length + 1) c2, ?_, ?_, ?_, h1, h2, fun hh => (hown g hh).1 rfl, fun b hb hh => (hown b hh).2 b hb rfl⟩
      · simpa [machCells] using hb3
      · have hcl := HC.out.lt
        exact ownsRow_own (ownsRow_own HC.out hs2 (fun b hb => ⟨(hcl b hb).2, H4.out b hb⟩)) hs3 (fun b hb e => h2 (by rw [← e]; exact hb))
      · have := ownsRow_own hown2 hs3 (fun b hb => (hown b hb).1)
        simpa using this
    have hsame : Same (· < base) w w3 := by
      refine Same.trans (Same.mono HKW.out (fun i hi => by omega)) (Same.trans (hs2.mono (T := (· < base)) (fun i hi => ⟨by omega, fun hh => ?_⟩)) hs3 (fun i hi => by omega)) (fun i hi => hi)
      have := (HEL.out i hh).1
      omega
    have HFIN := Lib.hid hfin
    have HSAME := Lib.hid hsame
    clear hfin hsame
    clear hs2 hs3 hb3 hb2 hown hown2 hg2 hat2 hk1
    go_wp2_with fail
    exact bodyPost_end (results_none Try.results75 _ _ _) rfl ⟨rfl, HFIN.out, HSAME.out⟩
  · have hs : st.eff x = st := if_neg hl
    rw [hs]
    have hm2 := hmk
    obtain ⟨C, E, hb, hc, hE, h1, h2, h3, h4⟩ := hm
    obtain ⟨A, c, hCe, hnc, hcm⟩ := own_form hE
    subst hCe
    have c1 : (w.alloc (.cells #[.int .i64 x.kind, .int .i64 x.dst, .int .i64 x.val] 151)).cell? ⟨g, 1, none⟩ = some (.slice A st.effs.length c) := by rw [(hb.alloc _).cell]; rfl
    have d1 : decide ((st.effs.length : Int) < 8) = false := by simp; omega
    have hbl := hb.lt
    have hkb : base ≤ w.heap.size := by omega
    have HM2 := Lib.hid hm2
    clear hm2
    clear hmk hb hc hE h4 hs
    go_enter Try.func75, Try.ntmps75
    go_wp2_with fail
    exact bodyPost_end (results_none Try.results75 _ _ _) rfl ⟨rfl, HM2.out, Same.mono (Keep.new w _) (fun i hi => by omega)⟩
end Go.Proofs.Ythmepnpjagpcnaa
