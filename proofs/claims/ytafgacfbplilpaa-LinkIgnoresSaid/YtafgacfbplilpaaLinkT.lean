/- The contract of the step (written by gen_step.py). -/
import Derived.Test.YtafgacfbplilpaaLinkS
set_option linter.unusedVariables false
set_option linter.unusedSimpArgs false
namespace Go.Proofs.Ytafgacfbplilpaa
open Go.RowKit Go.Proofs

set_option maxHeartbeats 16000000 in
set_option maxRecDepth 100000 in
theorem step_any (w : World) (L : Nat → Nat) (g gc : Nat) (st : Ws) (r : Nat) (check : Bool) (h : WS w L g gc st r) (ok : Ok st) :
    Calls Try.prog 20 #[.pointer (some ⟨g, 0, none⟩), .pointer (some ⟨gc, 0, none⟩), .bool check] w (StepPost L g gc st r w) := by
  obtain ⟨hLg, ⟨C, hp⟩, hcod⟩ := h
  have hg := hp.blk.lt
  have hgc := hcod.lt
  have hLc : L gc = 6 := hcod.1.2
  have hgg : g ≠ gc := fun e => by subst e; omega
  have hn : ∀ a, a ≠ 6 → ∀ w1 : World, w.heap.size ≤ w1.heap.size → ∀ i, Lab w L a i → i < w1.heap.size ∧ i ≠ gc := fun a ha w1 hz i hi => ⟨Nat.lt_of_lt_of_le hi.1 hz, fun e => ha (by rw [← hi.2, e, hLc])⟩
  have OK := Lib.hid ok
  have HLG := Lib.hid hLg
  have HP := Lib.hid hp
  have HCOD := Lib.hid hcod
  have HN := Lib.hid hn
  have HLC := Lib.hid hLc
  clear hLg hp hcod hn hLc
  clear ok
  go_enter Try.func20, Try.ntmps20
  go_wp2_with fail
  refine (next_any w (Lab w L 6) gc r 8 HCOD.out (by omega) (by omega)).mono ?_
  rintro e w1 ⟨v, hv0, hv1, rfl, hc1, ho1⟩
  have HC1 := Lib.hid hc1
  have HO1 := Lib.hid ho1
  clear hc1 ho1
  have hp1 := HP.out.same HO1.out ⟨hg, hgg⟩ (HN.out 0 (by decide) w (Nat.le_refl _)) (HN.out 1 (by decide) w (Nat.le_refl _)) (HN.out 2 (by decide) w (Nat.le_refl _)) (HN.out 3 (by decide) w (Nat.le_refl _)) (HN.out 4 (by decide) w (Nat.le_refl _))
  have hz1 := HO1.out.size
  have HP1 := Lib.hid hp1
  clear hp1
  have hv : (v = 0 ∨ v = 1) ∨ v = 2 ∨ (v = 3 ∨ v = 4 ∨ v = 5) ∨ v = 6 ∨ v = 7 := by omega
  clear hv0 hv1
  rcases hv with h01 | rfl | h345 | rfl | rfl
  · as_aux_lemma =>
      have H01 := Lib.hid h01
      clear h01
      go_upto_if 40 with fail
      go_cut [40] from 41 to 42 (fun s40 wx => CutT w1 s40 wx)
      case first =>
        as_aux_lemma =>
          rcases H01.out with rfl | rfl
          · go_wp2_with fail
            go_meet
            exact ⟨rfl, rfl⟩
          · go_wp2_with fail
            go_meet
            exact ⟨rfl, rfl⟩
      case rest =>
        as_aux_lemma =>
          obtain ⟨rfl, rfl⟩ := hcut

          go_wp2_with fail
          refine (int_any w1 (Lab w L 6) gc (r - 1) HC1.out).mono ?_
          rintro e w2 ⟨x, hx, rfl, ⟨r2, hr2, hc2⟩, ho2⟩
          have HC2 := Lib.hid hc2
          have HO2 := Lib.hid ho2
          clear hc2 ho2
          have hp2 := HP1.out.same HO2.out ⟨by omega, hgg⟩ (HN.out 0 (by decide) w1 hz1) (HN.out 1 (by decide) w1 hz1) (HN.out 2 (by decide) w1 hz1) (HN.out 3 (by decide) w1 hz1) (HN.out 4 (by decide) w1 hz1)
          have hz2 := HO2.out.size
          have q7 : ∀ wx, Keep w2 wx → wx.cell? ⟨g, 7, none⟩ = some (.slice C.A3 C.n3 C.c3) := fun wx hx => (hx.cell (p := ⟨g, 7, none⟩) (show g < w2.heap.size by omega)).trans (by rw [hp2.blk.cell]; rfl)
          have HP2 := Lib.hid hp2
          have Q7 := Lib.hid q7
          clear hp2 q7
          go_wp2_with (refine wpList_load_blk rfl _ (.tmp 48) rfl g 0 41 _ (C.k st.k) _ rfl HP2.out.blk (C.sub st.k) Try.underlying35 rfl (by kernel_rfl) ?_)
          refine (offer_any w2 (Lab w L 0) (C.k st.k) st.k x (fun i hi => by have := hi.1; omega) HP2.out.lk (by have := OK.out.kept; omega)).mono ?_
          rintro e w3 ⟨cs3, rfl, hr3, hk3⟩
          have HR3 := Lib.hid hr3
          have HK3 := Lib.hid hk3
          clear hr3 hk3
          have hz3 := HK3.out.size
          go_wp2_with (first
            | (refine wpList_store_all rfl _ (.tmp 8) (.tmp 52) rfl w3.heap.size 35 _ cs3 rfl rfl (Blk.new _ _ _) (by rw [HR3.out.len]; rfl) (info_lk HR3.out.len) HR3.out.one ?_; intro w4 hb4 hs4; have HB4 := Lib.hid hb4; have HS4 := Lib.hid hs4; have HK4 : Hid (Keep w2 w4) := Lib.hid (Keep.write (Keep.alloc HK3.out _) hs4 hz3); have hz4 := HK4.out.size; have hz34 : w3.heap.size < w4.heap.size := hb4.lt; clear hb4 hs4)
            | (refine wpList_load_blk rfl _ (.tmp 57) rfl g 0 41 _ (C.k st.k) _ rfl (HP2.out.same HK4.out (show g < w2.heap.size by omega) (fun i hi => by have := hi.1; omega) (fun i hi => by have := hi.1; omega) (fun i hi => by have := hi.1; omega) (fun i hi => by have := hi.1; omega) (fun i hi => by have := hi.1; omega)).blk (C.sub st.k) Try.underlying35 rfl (by kernel_rfl) ?_))
          refine (roffer_any w4 (Lab w L 0) (C.k st.k) st.k x (fun i hi => by have := hi.1; omega) (HP2.out.lk.keep (Same.mono HK4.out (fun i hi => by have := hi.1; omega))) (by have := OK.out.kept; omega)).mono ?_
          rintro e w5 ⟨cs5, rfl, hr5, hk5⟩
          have HR5 := Lib.hid hr5
          have HK5 := Lib.hid hk5
          clear hr5 hk5
          have hz5 := HK5.out.size
          have hlt3 : ∀ i, (Lab w L 0 i ∨ (w2.heap.size ≤ i ∧ i < w3.heap.size)) → i < w3.heap.size := fun i hi => hi.elim (fun h => by have := h.1; omega) (fun h => h.2)
          have hr3' : ∀ wx, Keep w4 wx → LkR wx (fun i => Lab w L 0 i ∨ (w2.heap.size ≤ i ∧ i < w3.heap.size)) cs3 (offerS st.k x) := fun wx hx => ((HR3.out.keep (Same.mono (Keep.new w3 _) hlt3)).keep (Same.mono HS4.out (fun i hi => by have := hlt3 i hi; omega))).keep (Same.mono hx (fun i hi => by have := hlt3 i hi; omega))
          have HR3' := Lib.hid hr3'
          clear hr3'
          have okx : (offerS st.k x).kept.length ≤ 1000 ∧ (offerS st.k x).early.length ≤ 1000 := by
            have h1 := OK.out.kept
            have h2 := OK.out.early
            unfold offerS
            split
            · simp [zeroLk]
            · simp; omega
          have OKX := Lib.hid okx
          clear okx

          go_upto_region 9 with (refine wpList_store_all rfl _ (.tmp 10) (.tmp 61) rfl w5.heap.size 35 _ cs5 rfl rfl (Blk.new _ _ _) (by rw [HR5.out.len]; rfl) (info_lk HR5.out.len) HR5.out.one ?_; intro w6 hb6 hs6; have HB6 := Lib.hid hb6; have HS6 := Lib.hid hs6; have HK6 : Hid (Keep w4 w6) := Lib.hid (Keep.write (Keep.alloc HK5.out _) hs6 hz5); have hz6 := HK6.out.size; have hz56 : w5.heap.size < w6.heap.size := hb6.lt; clear hb6 hs6)
          go_cut [74] from 63 to 73 (fun s74 wx => CutF w6 s74 wx)
          case first =>
            as_aux_lemma =>
              cases check with
              | false =>
                go_wp2_with fail
                go_meet
                exact ⟨rfl, Same.refl _ _⟩
              | true =>
                have hne : (offerErr st.k != offerErr st.k) = false := by simp
                go_wp2_with (first
                  | (refine wpList_load_allg (by rfl) _ (.tmp 8) rfl w3.heap.size 35 cs3 _ rfl (HK6.out.blk HB4.out (by omega)) Try.underlying35 rfl (info_lk HR3.out.len) ?_)
                  | (refine wpList_load_allg (by rfl) _ (.tmp 10) rfl w5.heap.size 35 cs5 _ rfl HB6.out Try.underlying35 rfl (info_lk HR5.out.len) ?_))
                have hlt5 : ∀ i, (Lab w L 0 i ∨ (w4.heap.size ≤ i ∧ i < w5.heap.size)) → i < w5.heap.size := fun i hi => hi.elim (fun h => by have := h.1; omega) (fun h => h.2)
                refine (sameLk_any w6 _ _ cs3 cs5 (offerS st.k x) (fun i hi => by have := hlt3 i hi; omega) (fun i hi => by have := hlt5 i hi; omega) (HR3'.out w6 HK6.out) ((HR5.out.keep (Same.mono (Keep.new w5 _) hlt5)).keep (Same.mono HS6.out (fun i hi => by have := hlt5 i hi; omega))) (by have := OKX.out.1; omega) (by have := OKX.out.2; omega)).mono ?_
                rintro e w7 ⟨rfl, hk7⟩
                have HK7 := Lib.hid hk7
                clear hk7
                go_wp2_with fail
                go_meet
                exact ⟨rfl, HK7.out⟩
          case rest =>
            as_aux_lemma =>
              obtain ⟨rfl, hkc⟩ := hcut
              have hk2c := Keep.trans HK4.out (Keep.trans HK6.out hkc)
              have hzc := hk2c.size
              have hz6c := hkc.size
              have hpc := HP2.out.same hk2c (show g < w2.heap.size by omega) (fun i hi => by have := hi.1; omega) (fun i hi => by have := hi.1; omega) (fun i hi => by have := hi.1; omega) (fun i hi => by have := hi.1; omega) (fun i hi => by have := hi.1; omega)
              have hcc := HC2.out.keep hk2c
              have hlc := HR3'.out wc (Keep.trans HK6.out hkc)
              have hb8 := hkc.blk (HK6.out.blk HB4.out (by omega)) (by omega)
              have hframe : Same (fun i => i < w.heap.size ∧ i ≠ gc) w wc := Same.trans (Same.trans HO1.out HO2.out (fun i hi => ⟨by omega, hi.2⟩)) hk2c (fun i hi => by omega)
              by_cases hfull : st.k.win ≤ st.k.kept.length
              · have he : offerErr st.k = 15 := if_pos hfull
                have hed : (offerErr st.k == 0) = false := by rw [he]; rfl
                clear he
                have HKC := Lib.hid hkc
                have HK2C := Lib.hid hk2c
                have HPC := Lib.hid hpc
                have HCC := Lib.hid hcc
                have HLC := Lib.hid hlc
                have HB8 := Lib.hid hb8
                have HFRAME := Lib.hid hframe
                clear hkc hk2c hpc hcc hlc hb8 hframe
                go_wp2_with fail
                go_ret
                exact StepPost.mk' (fun _ => 0) (StepR.same st) (by omega) (by omega) hg HLG.out HPC.out HCC.out (fun i hi => ⟨by have := hi.1; omega, by rw [ext_old hi.1]; exact hi.2⟩) (fun i hi _ => by rw [ext_old hi.1]; exact hi.2) (fun i hi _ => by rw [ext_old hi.1]; exact hi.2) (fun i hi _ => by rw [ext_old hi.1]; exact hi.2) (fun i hi _ => by rw [ext_old hi.1]; exact hi.2) (HFRAME.out.mono (fun i hi => ⟨hi.1, hi.2.2⟩))
              · have he : offerErr st.k = 0 := if_neg hfull
                have hed : (offerErr st.k == 0) = true := by rw [he]; rfl
                have hes : offerS st.k x = { st.k with kept := st.k.kept ++ [x] } := if_neg hfull
                rw [hes] at hlc
                clear he hes
                obtain ⟨i0, hi0, iz0, iz1, iz2⟩ := info_of info_int'
                obtain ⟨X1, X2, p1, e1, p2, e2, hcs3, k1, k2⟩ := hlc
                simp only at hcs3 k1 k2
                have hLg' := HLG.out
                have hgc3 : ¬ Lab w L 3 g := fun hh => by have := hh.2; omega
                have hln := OK.out.inn
                have hl3 : C.n3 ≤ 100000 := by rw [hpc.linn]; exact hln
                have HL3 := Lib.hid hpc.linn
                have A7 : ∀ wx : World, wx.cell? ⟨g, 7, none⟩ = some (.slice C.A3 C.n3 C.c3) → wx.cell? ⟨g, 7, none⟩ = some (.slice C.A3 C.n3 C.c3) := fun _ h => h
                have hA : wc.cell? ⟨g, 7, none⟩ = some (.slice C.A3 C.n3 C.c3) := by rw [hpc.blk.cell]; rfl
                have LW3 : ¬ Lab w L 3 w3.heap.size := fun hh => by have := hh.1; omega
                have g3 : g ≠ w3.heap.size := by omega
                clear A7
                have HKC := Lib.hid hkc
                have HK2C := Lib.hid hk2c
                have HPC := Lib.hid hpc
                have HCC := Lib.hid hcc
                have HB8 := Lib.hid hb8
                have HFRAME := Lib.hid hframe
                have HCS3 := Lib.hid hcs3
                have K1 := Lib.hid k1
                have K2 := Lib.hid k2
                have HI0 := Lib.hid hi0
                have IZ0 := Lib.hid iz0
                have IZ1 := Lib.hid iz1
                have IZ2 := Lib.hid iz2
                have HFULL := Lib.hid hfull
                have HLW3 := Lib.hid LW3
                have HGC3 := Lib.hid hgc3
                clear hkc hk2c hpc hcc hb8 hframe hcs3 k1 k2 hi0 iz0 iz1 iz2 hfull LW3 hgc3
                clear hln
                go_wp2_with fail
                refine wp_region_L 12 (fun wx => wx.cell? ⟨g, 7, none⟩ = some (.slice C.A3 C.n3 C.c3)) (fun wx => Same (fun i => i < wc.heap.size ∧ i ≠ g ∧ ¬ Lab w L 3 i) wc wx) (by kernel_rfl) hA (Same.drew (Same.refl _ _)) (fun hA hB => ?_)
                refine wpL_takeB (i := 0) (v := ?_) rfl (by kernel_rfl) (by kernel_rfl) (by kernel_rfl) (by decide) (fun _ _ _ h => h) (Or.inl ⟨by rfl, ?_⟩) (SAB.both hA hB) ?_
                rotate_left
                · intro wx hBx
                  (try dsimp only at hBx)
                  go_simp
                  try with_reducible rfl
                try simp only [Act.put, List.setIfInBounds_toArray, List.set_cons_zero, List.set_cons_succ]
                refine wpL_takeB (i := 1) (v := ?_) rfl (by kernel_rfl) (by kernel_rfl) (by kernel_rfl) (by decide) (fun _ _ _ h => h) (Or.inl ⟨by rfl, ?_⟩) (SAB.both hA hB) ?_
                rotate_left
                · intro wx hBx
                  (try dsimp only at hBx)
                  go_simp
                  try with_reducible rfl
                try simp only [Act.put, List.setIfInBounds_toArray, List.set_cons_zero, List.set_cons_succ]
                refine wpL_takeB (i := 2) rfl (by kernel_rfl) (by kernel_rfl) (by kernel_rfl) (by decide) (fun _ _ _ h => h) (yieldsIf_blk (by rfl) _ _ rfl w3.heap.size 0 35 _ cs3 _ rfl (fun wx hx => hx.blk HB8.out ⟨by omega, fun h => g3 h.symm, HLW3.out⟩) (fun j v hv => by simpa using hv) Try.underlying35 rfl (info_lk HR3.out.len)) (SAB.both hA hB) ?_
                try simp only [Act.put, List.setIfInBounds_toArray, List.set_cons_zero, List.set_cons_succ]
                refine wpL_takeB (i := 3) (v := ?_) rfl (by kernel_rfl) (by kernel_rfl) (by kernel_rfl) (by decide) (fun _ _ _ h => h) (Or.inl ⟨by rfl, ?_⟩) (SAB.both hA hB) ?_
                rotate_left
                · intro wx hBx
                  (try dsimp only at hBx)
                  go_simp
                  try with_reducible rfl
                try simp only [Act.put, List.setIfInBounds_toArray, List.set_cons_zero, List.set_cons_succ]
                refine wpL_takeB (i := 4) (v := ?_) rfl (by kernel_rfl) (by kernel_rfl) (by kernel_rfl) (by decide) (fun _ _ _ h => h) (Or.inl ⟨by rfl, ?_⟩) (SAB.both hA hB) ?_
                rotate_left
                · intro wx hBx
                  (try dsimp only at hBx)
                  go_simp
                  try with_reducible rfl
                try simp only [Act.put, List.setIfInBounds_toArray, List.set_cons_zero, List.set_cons_succ]
                refine wpL_takeB (i := 5) (v := ?_) rfl (by kernel_rfl) (by kernel_rfl) (by kernel_rfl) (by decide) (fun _ _ _ h => h) (Or.inl ⟨by rfl, ?_⟩) (SAB.both hA hB) ?_
                rotate_left
                · intro wx hBx
                  (try dsimp only at hBx)
                  go_simp
                  try with_reducible rfl
                try simp only [Act.put, List.setIfInBounds_toArray, List.set_cons_zero, List.set_cons_succ]
                refine wpL_takeA (i := 6) (v := ?_) rfl (by kernel_rfl) (by kernel_rfl) (by kernel_rfl) (by kernel_rfl) (by decide) (fun _ _ _ h => h) (Or.inl ⟨by rfl, ?_⟩) hA hB ?_
                rotate_left
                · rintro wx ⟨hAx, hBx⟩
                  (try dsimp only at hBx); (try dsimp only at hAx)
                  go_simp
                  try with_reducible rfl
                try simp only [Act.put, List.setIfInBounds_toArray, List.set_cons_zero, List.set_cons_succ]
                refine wpL_takeB (i := 7) (v := ?_) rfl (by kernel_rfl) (by kernel_rfl) (by kernel_rfl) (by decide) (fun _ _ _ h => h) (Or.inl ⟨by rfl, ?_⟩) (SAB.both hA hB) ?_
                rotate_left
                · intro wx hBx
                  (try dsimp only at hBx)
                  go_simp
                  try with_reducible rfl
                try simp only [Act.put, List.setIfInBounds_toArray, List.set_cons_zero, List.set_cons_succ]
                refine wpL_one (i := 8) (by kernel_rfl) (StepL.mk rfl (fun K hK => ?_))
                go_simp
                refine hK.out _ _ (SAB.both (show (wc.alloc _).cell? ⟨g, 7, none⟩ = _ from by rw [(HPC.out.blk.alloc _).cell]; rfl) (Same.alloc hB (fun i hi => by simpa using hi.1) _)) (fun hSS => ?_)
                clear hK K hA hB
                have hB := hSS.2
                have hA := hSS.1 (by kernel_rfl)
                (try dsimp only at hB); (try dsimp only at hA); clear hSS
                try simp only [Act.put, List.setIfInBounds_toArray, List.set_cons_zero, List.set_cons_succ]
                refine wpL_one (i := 9) (by kernel_rfl) (StepL.mk rfl (fun K hK => ?_))
                refine step_append_ap _ (by rfl) (.tmp 83) (.tmp 85) _ (by rfl) 3 i0 _ 1 8 Try.underlying23 HI0.out IZ0.out IZ1.out IZ2.out rfl (by omega) (Lab w L 3) C.A3 C.n3 C.c3 (st.inn.flatMap encI) (by rfl) (HPC.out.inn.keep (Same.mono (Keep.alloc (Same.drew (Same.refl _ wc)) _) (fun i hi => by have := hi.1; omega))) _ (some ⟨wc.heap.size, 0, none⟩) 1 1 (encI x) (by rfl) (Reads.new rfl) (encI_one _) (by simp [maxLen]; omega) (by omega) ?_
                intro A' c' w8 hap8 hs8
                have hz8 := hs8.size
                simp at hz8
                have hB8 : Same (fun i => i < wc.heap.size ∧ i ≠ g ∧ ¬ Lab w L 3 i) wc w8 := Same.trans hB hs8 (fun i hi => ⟨by simp; omega, hi.2.2⟩)
                have hg8 : Blk w8 g 41 (C.all st.k).toArray := hs8.blk ((HPC.out.blk.drewN 1).alloc _) ⟨by simp; omega, HGC3.out⟩
                refine hK.out _ _ (SAB.both (by rw [hg8.cell]; rfl) hB8) (fun hSS => ?_)
                clear hK K hA hB
                have hB := hSS.2
                have hA := hSS.1 (by kernel_rfl)
                (try dsimp only at hB); (try dsimp only at hA); clear hSS
                try simp only [Act.put, List.setIfInBounds_toArray, List.set_cons_zero, List.set_cons_succ]
                refine wpL_takeB (i := 10) (v := ?_) rfl (by kernel_rfl) (by kernel_rfl) (by kernel_rfl) (by decide) (fun _ _ _ h => h) (Or.inl ⟨by rfl, ?_⟩) (SAB.both hA hB) ?_
                rotate_left
                · intro wx hBx
                  (try dsimp only at hBx)
                  go_simp
                  try with_reducible rfl
                try simp only [Act.put, List.setIfInBounds_toArray, List.set_cons_zero, List.set_cons_succ]
                refine wpL_takeB (i := 11) (v := ?_) rfl (by kernel_rfl) (by kernel_rfl) (by kernel_rfl) (by decide) (fun _ _ _ h => h) (Or.inl ⟨by rfl, ?_⟩) (SAB.both hA hB) ?_
                rotate_left
                · intro wx hBx
                  (try dsimp only at hBx)
                  go_simp
                  try with_reducible rfl
                try simp only [Act.put, List.setIfInBounds_toArray, List.set_cons_zero, List.set_cons_succ]
                refine wpL_one (i := 12) (by kernel_rfl) (StepL.mk rfl (fun K hK => ?_))
                refine step_store_blk rfl _ _ _ rfl g 0 41 _ cs3 rfl rfl hg8 (by rw [HR3.out.len]; simp [Cls.all]) (info_lk HR3.out.len) HR3.out.one ?_
                intro w9 hb9 hs9
                have hB9 : Same (fun i => i < wc.heap.size ∧ i ≠ g ∧ ¬ Lab w L 3 i) wc w9 := Same.trans hB8 hs9 (fun i hi => hi.2.1)
                refine hK.out _ _ (SAB.past (by kernel_rfl) hB9) (fun hSS => ?_)
                clear hK K hA hB
                have hB := hSS.2
                have hA : True := trivial
                (try dsimp only at hB); (try dsimp only at hA); clear hSS
                try simp only [Act.put, List.setIfInBounds_toArray, List.set_cons_zero, List.set_cons_succ]
                refine wpL_takeB (i := 13) (v := ?_) rfl (by kernel_rfl) (by kernel_rfl) (by kernel_rfl) (by decide) (fun _ _ _ h => h) (Or.inl ⟨by rfl, ?_⟩) (SAB.past (by kernel_rfl) hB) ?_
                rotate_left
                · intro wx hBx
                  (try dsimp only at hBx)
                  go_simp
                  try with_reducible rfl
                try simp only [Act.put, List.setIfInBounds_toArray, List.set_cons_zero, List.set_cons_succ]
                refine wpL_takeB (i := 14) (v := ?_) rfl (by kernel_rfl) (by kernel_rfl) (by kernel_rfl) (by decide) (fun _ _ _ h => h) (Or.inl ⟨by rfl, ?_⟩) (SAB.past (by kernel_rfl) hB) ?_
                rotate_left
                · intro wx hBx
                  (try dsimp only at hBx)
                  go_simp
                  try with_reducible rfl
                try simp only [Act.put, List.setIfInBounds_toArray, List.set_cons_zero, List.set_cons_succ]
                refine wpL_one (i := 15) (by kernel_rfl) (StepL.mk rfl (fun K hK => ?_))
                refine step_store_one rfl _ _ _ rfl g 7 41 _ (.slice A' (C.n3 + 1) c') rfl rfl hb9 (by rw [splice_size]; simp [Cls.all]) (by kernel_rfl) rfl rfl ?_
                intro w10 hb10 hs10
                have hB10 : Same (fun i => i < wc.heap.size ∧ i ≠ g ∧ ¬ Lab w L 3 i) wc w10 := Same.trans hB9 hs10 (fun i hi => hi.2.1)
                refine hK.out _ _ (SAB.past (by kernel_rfl) hB10) (fun hSS => ?_)
                clear hK K hA hB
                have hB := hSS.2
                have hA : True := trivial
                (try dsimp only at hB); (try dsimp only at hA); clear hSS
                try simp only [Act.put, List.setIfInBounds_toArray, List.set_cons_zero, List.set_cons_succ]
                refine wpL_done (by kernel_rfl) ?_
                have hcs := HCS3.out
                rw [hcs] at hb10
                have hz9 := hs9.size
                have hz10 := hs10.size
                have hcell : Blk w10 g 41 (({ C with B1 := X1, m1 := p1, d1 := e1, B2 := X2, m2 := p2, d2 := e2, A3 := A', n3 := C.n3 + 1, c3 := c' } : Cls).all { st.k with kept := st.k.kept ++ [x] }).toArray := by
                  simpa [splice, Cls.all] using hb10
                have hap10 : Ap w10 (fun k => Lab w L 3 k ∨ (wc.heap.size + 1 ≤ k ∧ k < w8.heap.size)) 3 1 A' (C.n3 + 1) c' ((st.inn ++ [x]).flatMap encI) := by
                  have e : (st.inn ++ [x]).flatMap encI = st.inn.flatMap encI ++ encI x := by simp
                  rw [e]
                  refine ((hap8.keep (Same.mono hs9 (fun i hi => ?_))).keep (Same.mono hs10 (fun i hi => ?_))).more (fun i hi _ => ?_)
                  · intro e; subst e; rcases hi with hi | hi
                    · exact HGC3.out hi
                    · simp at hi; omega
                  · intro e; subst e; rcases hi with hi | hi
                    · exact HGC3.out hi
                    · simp at hi; omega
                  · rcases hi with hi | hi
                    · exact .inl hi
                    · simp at hi; exact .inr hi
                have far : ∀ a, a ≠ 5 → a ≠ 3 → ∀ i, Lab w L a i → i < wc.heap.size ∧ i ≠ g ∧ ¬ Lab w L 3 i := fun a ha ha3 i hi => ⟨by have := hi.1; omega, fun e => ha (by rw [← hi.2, e, HLG.out]), fun hh => ha3 (by rw [← hi.2, hh.2])⟩
                have hz0 : ∀ i, (Lab w L 0 i ∨ (w2.heap.size ≤ i ∧ i < w3.heap.size)) → i < wc.heap.size ∧ i ≠ g ∧ ¬ Lab w L 3 i := fun i hi => hi.elim (far 0 (by decide) (by decide) i) (fun h => ⟨by omega, by omega, fun hh => by have := hh.1; omega⟩)
                have hpf : Pcs (fun i => Lab w L 0 i ∨ (w2.heap.size ≤ i ∧ i < w3.heap.size)) (Lab w L 1) (Lab w L 2) (fun k => Lab w L 3 k ∨ (wc.heap.size + 1 ≤ k ∧ k < w8.heap.size)) (Lab w L 4) g { C with B1 := X1, m1 := p1, d1 := e1, B2 := X2, m2 := p2, d2 := e2, A3 := A', n3 := C.n3 + 1, c3 := c' } { st with k := { st.k with kept := st.k.kept ++ [x] }, inn := st.inn ++ [x] } w10 :=
                  ⟨hcell, K1.out.keep (hB10.mono hz0), K2.out.keep (hB10.mono hz0), HPC.out.data.keep (hB10.mono (far 1 (by decide) (by decide))), HPC.out.ack.keep (hB10.mono (far 2 (by decide) (by decide))), hap10, HPC.out.out.keep (hB10.mono (far 4 (by decide) (by decide))), HPC.out.ldata, HPC.out.lack, by rw [HL3.out]; simp, HPC.out.lout⟩
                have hcf := HCC.out.same (hB10.mono (far 6 (by decide) (by decide)))
                have hfr : Same (fun i => i < w.heap.size ∧ (L i = 0 ∨ L i = 6) ∧ i ≠ gc) w w10 := Same.trans (HFRAME.out.mono (fun i hi => ⟨hi.1, hi.2.2⟩)) hB10 (fun i hi => hi.2.1.elim (fun h => far 0 (by decide) (by decide) i ⟨hi.1, h⟩) (fun h => far 6 (by decide) (by decide) i ⟨hi.1, h⟩))
                have HPF := Lib.hid hpf
                have HCF := Lib.hid hcf
                have HFR := Lib.hid hfr
                clear hpf hcf hfr
                clear hcell hap10 far hz0 hb10 hs10 hb9 hs9 hap8 hs8 hB8 hB9 hB10 hg8 hcs hA hB
                go_wp2_with fail
                go_ret
                refine StepPost.mk' (fun i => if wc.heap.size + 1 ≤ i ∧ i < w8.heap.size then 3 else 0) (StepR.offer st x (by have := HFULL.out; omega)) (by omega) (by omega) hg HLG.out HPF.out HCF.out (fun i hi => ?_) (fun i hi _ => by rw [ext_old hi.1]; exact hi.2) (fun i hi _ => by rw [ext_old hi.1]; exact hi.2) (fun i hi hl => ?_) (fun i hi _ => by rw [ext_old hi.1]; exact hi.2) HFR.out
                · rcases hi with hi | hi
                  · exact ⟨by have := hi.1; omega, by rw [ext_old hi.1]; exact hi.2⟩
                  · exact ⟨by omega, by rw [ext_new (by omega), if_neg (by omega)]⟩
                · rcases hi with hi | hi
                  · rw [ext_old hi.1]; exact hi.2
                  · rw [ext_new (by omega), if_pos hi]
  · as_aux_lemma =>
      obtain ⟨i0, hi0, iz0, iz1, iz2⟩ := info_of info_Pk
      have HI0 := Lib.hid hi0
      have IZ0 := Lib.hid iz0
      have IZ1 := Lib.hid iz1
      have IZ2 := Lib.hid iz2
      clear hi0 iz0 iz1 iz2
      go_wp2_with (refine wpList_load_blk rfl _ (.tmp 95) rfl g 0 41 _ (C.k st.k) _ rfl HP1.out.blk (C.sub st.k) Try.underlying35 rfl (by kernel_rfl) ?_)
      refine (packets_any w1 (Lab w L 0) (C.k st.k) st.k (fun i hi => by have := hi.1; omega) HP1.out.lk (by have := OK.out.kept; omega) OK.out.base0 (by have := OK.out.base1; omega)).mono ?_
      rintro e w2 ⟨B, nb, cb, rfl, hsl2, hk2⟩
      have HSL2 := Lib.hid hsl2
      have HK2 := Lib.hid hk2
      clear hsl2 hk2
      have hz2 := HK2.out.size
      have hnb : nb ≤ 8 := by rw [HSL2.out.1, packetsS, packetsTo_len]; exact OK.out.kept
      go_upto_region 15 with fail
      go_cut [108] from 98 to 107 (fun s108 wx => CutF w2 s108 wx)
      case first =>
        as_aux_lemma =>
          cases check with
          | false =>
            go_wp2_with fail
            go_meet
            exact ⟨rfl, Same.refl _ _⟩
          | true =>
            go_wp2_with (refine wpList_load_blkg (by rfl) _ (.tmp 103) rfl g 0 41 _ (C.k st.k) _ rfl (HP1.out.same HK2.out (show g < w1.heap.size by omega) (fun i hi => by have := hi.1; omega) (fun i hi => by have := hi.1; omega) (fun i hi => by have := hi.1; omega) (fun i hi => by have := hi.1; omega) (fun i hi => by have := hi.1; omega) ).blk (C.sub st.k) Try.underlying35 rfl (by kernel_rfl) ?_)
            refine (rpackets_any w2 (Lab w L 0) (C.k st.k) st.k (fun i hi => by have := hi.1; omega) (HP1.out.lk.keep (Same.mono HK2.out (fun i hi => by have := hi.1; omega))) (by have := OK.out.kept; omega) OK.out.base0 (by have := OK.out.base1; omega)).mono ?_
            rintro e w3 ⟨B3, nb3, cb3, rfl, hsl3, hk3⟩
            have HSL3 := Lib.hid hsl3
            have HK3 := Lib.hid hk3
            clear hsl3 hk3
            go_wp2_with fail
            refine (samePks_any w3 _ _ B B3 nb nb3 cb cb3 (packetsS st.k) (HSL2.out.keep (Same.mono HK3.out (fun i hi => hi.2))) HSL3.out (by omega)).mono ?_
            rintro e w4 ⟨rfl, m4, rfl⟩
            go_wp2_with fail
            go_meet
            exact ⟨rfl, Same.drewN HK3.out _⟩
      case rest =>
        as_aux_lemma =>
          obtain ⟨rfl, hkc⟩ := hcut
          have hk1c := Keep.trans HK2.out hkc
          have hzc := hk1c.size
          have hz2c := hkc.size
          have hpc := HP1.out.same hk1c (show g < w1.heap.size by omega) (fun i hi => by have := hi.1; omega) (fun i hi => by have := hi.1; omega) (fun i hi => by have := hi.1; omega) (fun i hi => by have := hi.1; omega) (fun i hi => by have := hi.1; omega) 
          have hcc := HC1.out.keep hk1c
          have hb5 : wc.cell? ⟨g, 5, none⟩ = some (.slice C.A1 C.n1 C.c1) := by rw [hpc.blk.cell]; rfl
          have hframe : Same (fun i => i < w.heap.size ∧ i ≠ gc) w wc := Same.trans HO1.out hk1c (fun i hi => by omega)
          have hl1 : C.n1 ≤ 100000 := by rw [hpc.ldata]; exact OK.out.data
          have hgc1 : ¬ Lab w L 1 g := fun hh => by have := hh.2; have := HLG.out; omega
          have one : ∀ u ∈ (packetsS st.k).flatMap encPk, u.oneCell' = true := fun u hu => by
            obtain ⟨q, _, hm⟩ := List.mem_flatMap.1 hu
            exact encPk_one q u hm
          have HKC := Lib.hid hkc
          have HK1C := Lib.hid hk1c
          have HPC := Lib.hid hpc
          have HCC := Lib.hid hcc
          have HFRAME := Lib.hid hframe
          have HGC1 := Lib.hid hgc1
          have ONE := Lib.hid one
          clear hkc hk1c hpc hcc hframe hgc1 one
          go_wp2_with (first
            | (at_builtin; refine wpList_append_ap _ rfl (.tmp 113) (.tmp 114) _ rfl 48 i0 _ 3 24 Try.underlying33 HI0.out IZ0.out IZ1.out IZ2.out rfl (by omega) (Lab w L 1) C.A1 C.n1 C.c1 (st.data.flatMap encPk) rfl HPC.out.data _ B nb cb ((packetsS st.k).flatMap encPk) rfl (HSL2.out.keep (Same.mono HKC.out (fun i hi => hi.2))).2.2.2 ONE.out (by simp [maxLen]; omega) (by omega) ?_; intro A' c' w5 hap5 hs5; have HAP5 := Lib.hid hap5; have HS5 := Lib.hid hs5; have HB5 := Lib.hid (hs5.blk HPC.out.blk ⟨by omega, HGC1.out⟩); clear hap5 hs5)
            | (refine wpList_store_one rfl _ (.tmp 117) (.tmp 115) rfl g 5 41 _ (.slice A' (C.n1 + nb) c') rfl rfl HB5.out (by simp [Cls.all]) (by kernel_rfl) rfl rfl ?_; intro w6 hb6 hs6; have HB6 := Lib.hid hb6; have HS6 := Lib.hid hs6; clear hb6 hs6))
          have hz5 := HS5.out.size
          have hz6 := HS6.out.size
          have hB6 : Same (fun i => i < wc.heap.size ∧ i ≠ g ∧ ¬ Lab w L 1 i) wc w6 := Same.trans (HS5.out.mono (fun i hi => ⟨hi.1, hi.2.2⟩)) HS6.out (fun i hi => hi.2.1)
          have far : ∀ a, a ≠ 5 → a ≠ 1 → ∀ i, Lab w L a i → i < wc.heap.size ∧ i ≠ g ∧ ¬ Lab w L 1 i := fun a ha ha3 i hi => ⟨by have := hi.1; omega, fun e => ha (by rw [← hi.2, e, HLG.out]), fun hh => ha3 (by rw [← hi.2, hh.2])⟩
          have hap6 : Ap w6 (fun k => Lab w L 1 k ∨ (wc.heap.size ≤ k ∧ k < w5.heap.size)) 48 3 A' (C.n1 + nb) c' ((st.data ++ packetsS st.k).flatMap encPk) := by
            rw [List.flatMap_append]
            refine HAP5.out.keep (Same.mono HS6.out (fun i hi => ?_))
            intro e; subst e; rcases hi with hi | hi
            · exact HGC1.out hi
            · omega
          have hpf : Pcs (Lab w L 0) (fun k => Lab w L 1 k ∨ (wc.heap.size ≤ k ∧ k < w5.heap.size)) (Lab w L 2) (Lab w L 3) (Lab w L 4) g { C with A1 := A', n1 := C.n1 + nb, c1 := c' } { st with data := st.data ++ packetsS st.k } w6 :=
            ⟨by simpa [Cls.all] using HB6.out, HPC.out.kept.keep (hB6.mono (far 0 (by decide) (by decide))), HPC.out.early.keep (hB6.mono (far 0 (by decide) (by decide))), hap6, HPC.out.ack.keep (hB6.mono (far 2 (by decide) (by decide))), HPC.out.inn.keep (hB6.mono (far 3 (by decide) (by decide))), HPC.out.out.keep (hB6.mono (far 4 (by decide) (by decide))), by simp only; rw [HPC.out.ldata, HSL2.out.1, List.length_append], HPC.out.lack, HPC.out.linn, HPC.out.lout⟩
          have hcf := HCC.out.same (hB6.mono (far 6 (by decide) (by decide)))
          have hfr : Same (fun i => i < w.heap.size ∧ (L i = 0 ∨ L i = 6) ∧ i ≠ gc) w w6 := Same.trans (HFRAME.out.mono (fun i hi => ⟨hi.1, hi.2.2⟩)) hB6 (fun i hi => hi.2.1.elim (fun h => far 0 (by decide) (by decide) i ⟨hi.1, h⟩) (fun h => far 6 (by decide) (by decide) i ⟨hi.1, h⟩))
          have HPF := Lib.hid hpf
          have HCF := Lib.hid hcf
          have HFR := Lib.hid hfr
          clear hpf hcf hfr
          clear hap6 far hB6
          go_ret
          refine StepPost.mk' (fun i => if wc.heap.size ≤ i ∧ i < w5.heap.size then 1 else 0) (StepR.packets st) (by omega) (by omega) hg HLG.out HPF.out HCF.out (fun i hi => ⟨by have := hi.1; omega, by rw [ext_old hi.1]; exact hi.2⟩) (fun i hi hl => ?_) (fun i hi _ => by rw [ext_old hi.1]; exact hi.2) (fun i hi _ => by rw [ext_old hi.1]; exact hi.2) (fun i hi _ => by rw [ext_old hi.1]; exact hi.2) HFR.out
          rcases hi with hi | hi
          · rw [ext_old hi.1]; exact hi.2
          · rw [ext_new (by omega), if_pos hi]
  · as_aux_lemma =>
      have v0 : (v == 0) = false := by rcases h345 with rfl | rfl | rfl <;> rfl
      have v1 : (v == 1) = false := by rcases h345 with rfl | rfl | rfl <;> rfl
      have v2 : (v == 2) = false := by rcases h345 with rfl | rfl | rfl <;> rfl
      have H345 := Lib.hid h345
      clear h345
      go_upto_if 118 with fail
      go_cut [118] from 119 to 121 (fun s118 wx => CutT w1 s118 wx)
      case first =>
        as_aux_lemma =>
          rcases H345.out with rfl | rfl | rfl
          · go_wp2_with fail
            go_meet
            exact ⟨rfl, rfl⟩
          · go_wp2_with fail
            go_meet
            exact ⟨rfl, rfl⟩
          · go_wp2_with fail
            go_meet
            exact ⟨rfl, rfl⟩
      case rest =>
        as_aux_lemma =>
          obtain ⟨rfl, rfl⟩ := hcut
          have hb5 : w1.cell? ⟨g, 5, none⟩ = some (.slice C.A1 C.n1 C.c1) := by rw [HP1.out.blk.cell]; rfl
          have hcm : C.c1 ≤ 9223372036854775807 := HP1.out.data.2.2.1
          have hnc : C.n1 ≤ C.c1 := HP1.out.data.2.1
          have hl2 : C.n1 ≤ 100000 := by rw [HP1.out.ldata]; exact OK.out.data
          have hframe : Same (fun i => i < w.heap.size ∧ i ≠ gc) w w1 := HO1.out
          have HFRAME := Lib.hid hframe
          clear hframe
          by_cases h0 : C.n1 = 0
          · have hd : ((C.n1 : Int) == 0) = true := by simp [h0]
            clear h0
            go_wp2_with fail
            go_ret
            refine StepPost.mk' (fun _ => 0) (StepR.same st) (by omega) (by omega) hg HLG.out HP1.out HC1.out (fun i hi => ⟨by have := hi.1; omega, by rw [ext_old hi.1]; exact hi.2⟩) (fun i hi _ => by rw [ext_old hi.1]; exact hi.2) (fun i hi _ => by rw [ext_old hi.1]; exact hi.2) (fun i hi _ => by rw [ext_old hi.1]; exact hi.2) (fun i hi _ => by rw [ext_old hi.1]; exact hi.2) (HFRAME.out.mono (fun i hi => ⟨hi.1, hi.2.2⟩))
          · have hd : ((C.n1 : Int) == 0) = false := by simp; omega
            have hn0 : 0 < C.n1 := by omega
            clear h0
            go_upto_region 23 with fail
            go_cut [13] from 128 to 135 (fun s13 wx => CutN w1 (Lab w L 6) gc (r - 1) C.n1 s13 wx)
            case first =>
              as_aux_lemma =>
                go_wp2_with fail
                all_goals
                  refine (next_any w1 (Lab w L 6) gc (r - 1) _ HC1.out (by omega) (by omega)).mono ?_
                  rintro e w2 ⟨n, hn0, hn1, rfl, hc2, ho2⟩
                  have HC2 := Lib.hid hc2
                  have HO2 := Lib.hid ho2
                  clear hc2 ho2
                  obtain ⟨n, rfl⟩ := Int.eq_ofNat_of_zero_le hn0
                  go_wp2_with fail
                  go_meet
                  exact ⟨n, _, by omega, rfl, by omega, HC2.out, HO2.out⟩
            case rest =>
              as_aux_lemma =>
                obtain ⟨n, r2, hn, rfl, hr2, hc2, ho2⟩ := hcut
                obtain ⟨w2, rfl⟩ : ∃ w2 : World, w2 = wc := ⟨_, rfl⟩
                have hz2 := ho2.size
                have hp2 := HP1.out.same ho2 ⟨by omega, hgg⟩ (HN.out 0 (by decide) w1 hz1) (HN.out 1 (by decide) w1 hz1) (HN.out 2 (by decide) w1 hz1) (HN.out 3 (by decide) w1 hz1) (HN.out 4 (by decide) w1 hz1)
                have hsl := hp2.data.sl hp2.ldata
                obtain ⟨b, off, q, hA1, hSb, hq, hqc⟩ := hsl.at_ encPk_len hn
                have hbl : b < w.heap.size := hSb.1
                have hb5 : w2.cell? ⟨g, 5, none⟩ = some (.slice (some ⟨b, off, none⟩) C.n1 C.c1) := by rw [hp2.blk.cell, ← hA1]; rfl
                have q0 := hqc 0 _ rfl
                have q1 := hqc 1 _ rfl
                have q2 := hqc 2 _ rfl
                simp only [Nat.add_zero] at q0
                have i0 : (0 : Int) ≤ n := by omega
                have i1 : (n : Int) < C.n1 := by omega
                have hfr2 : Same (fun i => i < w.heap.size ∧ i ≠ gc) w w2 := Same.trans HO1.out ho2 (fun i hi => ⟨by omega, hi.2⟩)
                have HC2 := Lib.hid hc2
                have HO2 := Lib.hid ho2
                have HP2 := Lib.hid hp2
                have HSL := Lib.hid hsl
                have HA1 := Lib.hid hA1
                have HQ := Lib.hid hq
                have HQC := Lib.hid hqc
                have HFR2 := Lib.hid hfr2
                clear hc2 ho2 hp2 hsl hA1 hq hqc hfr2
                go_upto_region 25 with (refine wpList_store_all rfl _ (.tmp 14) (.tmp 142) rfl w2.heap.size 48 _ (encPk q) rfl rfl (Blk.new _ _ _) rfl (by kernel_rfl) rfl ?_; intro w3 hb3 hs3; have HB3 := Lib.hid hb3; have HK3 : Hid (Keep w2 w3) := Lib.hid (Keep.write (Keep.new w2 _) hs3 (Nat.le_refl _)); have hz3 : w2.heap.size < w3.heap.size := hb3.lt; clear hb3 hs3)
                have hp3 := HP2.out.same HK3.out (show g < w2.heap.size by omega) (fun i hi => by have := hi.1; omega) (fun i hi => by have := hi.1; omega) (fun i hi => by have := hi.1; omega) (fun i hi => by have := hi.1; omega) (fun i hi => by have := hi.1; omega) 
                have HP3 := Lib.hid hp3
                clear hp3
                clear hb5 q0 q1 q2
                go_wp2_with fail
                refine (next_any w3 (Lab w L 6) gc r2 3 (HC2.out.keep HK3.out) (by omega) (by omega)).mono ?_
                rintro e w4 ⟨v3, hv30, hv31, rfl, hc4, ho4⟩
                have HC4 := Lib.hid hc4
                have HO4 := Lib.hid ho4
                clear hc4 ho4
                have hz4 := HO4.out.size
                have hp4 := HP3.out.same HO4.out ⟨by omega, hgg⟩ (HN.out 0 (by decide) w3 (by omega)) (HN.out 1 (by decide) w3 (by omega)) (HN.out 2 (by decide) w3 (by omega)) (HN.out 3 (by decide) w3 (by omega)) (HN.out 4 (by decide) w3 (by omega))
                have hA : w4.cell? ⟨g, 5, none⟩ = some (.slice C.A1 C.n1 C.c1) := by rw [hp4.blk.cell]; rfl
                have hfr4 : Same (fun i => i < w.heap.size ∧ i ≠ gc) w w4 := Same.trans (Same.trans HFR2.out HK3.out (fun i hi => by omega)) HO4.out (fun i hi => ⟨by omega, hi.2⟩)
                have hb14 : Blk w4 w2.heap.size 48 (encPk q).toArray := HO4.out.blk HB3.out ⟨by omega, by omega⟩
                obtain ⟨iP, hi0, iz0, iz1, iz2⟩ := info_of info_Pk
                obtain ⟨iI, ji0, jz0, jz1, jz2⟩ := info_of info_int'
                have one : ∀ l' : List Pk, ∀ u ∈ l'.flatMap encPk, u.oneCell' = true := fun l' u hu => by
                  obtain ⟨q, _, hm⟩ := List.mem_flatMap.1 hu
                  exact encPk_one q u hm
                have t1 : (n : Int) ≤ C.c1 := by omega
                have t2 : (0 : Int) ≤ (n : Int) + 1 := by omega
                have t3 : (n : Int) + 1 ≤ C.n1 := by omega
                have t4 : ((n : Int) + 1).toNat = n + 1 := by omega
                have t5 : IntKind.i64.wrap ((n : Int) + 1) = n + 1 := IntWalk.i64_in _ (by omega)
                have HP4 := Lib.hid hp4
                have HI0 := Lib.hid hi0
                have IZ0 := Lib.hid iz0
                have IZ1 := Lib.hid iz1
                have IZ2 := Lib.hid iz2
                have JI0 := Lib.hid ji0
                have JZ0 := Lib.hid jz0
                have JZ1 := Lib.hid jz1
                have JZ2 := Lib.hid jz2
                have ONE := Lib.hid one
                have HFR4 := Lib.hid hfr4
                have HB14 := Lib.hid hb14
                clear hp4 hi0 iz0 iz1 iz2 ji0 jz0 jz1 jz2 one hfr4 hb14
                go_upto_if 145 with fail
                go_cut [] from 145 to 163 (fun wx => CutA w4 g st C (Lab w L 1) n wx)
                case first =>
                  as_aux_lemma =>
                    by_cases hv3 : 0 < v3
                    · have hd3 : decide (0 < v3) = true := by simpa using hv3
                      go_upto_region 26 with fail
                      refine wp_region_L 18 (fun wx => wx.cell? ⟨g, 5, none⟩ = some (.slice C.A1 C.n1 C.c1)) (fun wx => Same (fun i => i < w4.heap.size ∧ i ≠ g) w4 wx) (by kernel_rfl) hA (Same.drew (Same.refl _ _)) (fun hA hB => ?_)
                      refine wpL_takeB (i := 0) (v := ?_) rfl (by kernel_rfl) (by kernel_rfl) (by kernel_rfl) (by decide) (fun _ _ _ h => h) (Or.inl ⟨by rfl, ?_⟩) (SAB.both hA hB) ?_
                      rotate_left
                      · intro wx hBx
                        (try dsimp only at hBx)
                        go_simp
                        try with_reducible rfl
                      try simp only [Act.put, List.setIfInBounds_toArray, List.set_cons_zero, List.set_cons_succ]
                      refine wpL_takeB (i := 1) (v := ?_) rfl (by kernel_rfl) (by kernel_rfl) (by kernel_rfl) (by decide) (fun _ _ _ h => h) (Or.inl ⟨by rfl, ?_⟩) (SAB.both hA hB) ?_
                      rotate_left
                      · intro wx hBx
                        (try dsimp only at hBx)
                        go_simp
                        try with_reducible rfl
                      try simp only [Act.put, List.setIfInBounds_toArray, List.set_cons_zero, List.set_cons_succ]
                      refine wpL_takeB (i := 2) (v := ?_) rfl (by kernel_rfl) (by kernel_rfl) (by kernel_rfl) (by decide) (fun _ _ _ h => h) (Or.inl ⟨by rfl, ?_⟩) (SAB.both hA hB) ?_
                      rotate_left
                      · intro wx hBx
                        (try dsimp only at hBx)
                        go_simp
                        try with_reducible rfl
                      try simp only [Act.put, List.setIfInBounds_toArray, List.set_cons_zero, List.set_cons_succ]
                      refine wpL_takeB (i := 3) (v := ?_) rfl (by kernel_rfl) (by kernel_rfl) (by kernel_rfl) (by decide) (fun _ _ _ h => h) (Or.inl ⟨by rfl, ?_⟩) (SAB.both hA hB) ?_
                      rotate_left
                      · intro wx hBx
                        (try dsimp only at hBx)
                        go_simp
                        try with_reducible rfl
                      try simp only [Act.put, List.setIfInBounds_toArray, List.set_cons_zero, List.set_cons_succ]
                      refine wpL_takeA (i := 4) (v := ?_) rfl (by kernel_rfl) (by kernel_rfl) (by kernel_rfl) (by kernel_rfl) (by decide) (fun _ _ _ h => h) (Or.inl ⟨by rfl, ?_⟩) hA hB ?_
                      rotate_left
                      · rintro wx ⟨hAx, hBx⟩
                        (try dsimp only at hBx); (try dsimp only at hAx)
                        go_simp
                        try with_reducible rfl
                      try simp only [Act.put, List.setIfInBounds_toArray, List.set_cons_zero, List.set_cons_succ]
                      refine wpL_takeB (i := 5) (v := ?_) rfl (by kernel_rfl) (by kernel_rfl) (by kernel_rfl) (by decide) (fun _ _ _ h => h) (Or.inl ⟨by rfl, ?_⟩) (SAB.both hA hB) ?_
                      rotate_left
                      · intro wx hBx
                        (try dsimp only at hBx)
                        go_simp
                        try with_reducible rfl
                      try simp only [Act.put, List.setIfInBounds_toArray, List.set_cons_zero, List.set_cons_succ]
                      refine wpL_takeB (i := 6) (v := ?_) rfl (by kernel_rfl) (by kernel_rfl) (by kernel_rfl) (by decide) (fun _ _ _ h => h) (Or.inl ⟨by rfl, ?_⟩) (SAB.both hA hB) ?_
                      rotate_left
                      · intro wx hBx
                        (try dsimp only at hBx)
                        go_simp
                        try with_reducible rfl
                      try simp only [Act.put, List.setIfInBounds_toArray, List.set_cons_zero, List.set_cons_succ]
                      refine wpL_takeB (i := 8) (v := ?_) rfl (by kernel_rfl) (by kernel_rfl) (by kernel_rfl) (by decide) (fun _ _ _ h => h) (Or.inl ⟨by rfl, ?_⟩) (SAB.both hA hB) ?_
                      rotate_left
                      · intro wx hBx
                        (try dsimp only at hBx)
                        go_simp
                        try with_reducible rfl
                      try simp only [Act.put, List.setIfInBounds_toArray, List.set_cons_zero, List.set_cons_succ]
                      refine wpL_takeB (i := 9) (v := ?_) rfl (by kernel_rfl) (by kernel_rfl) (by kernel_rfl) (by decide) (fun _ _ _ h => h) (Or.inl ⟨by rfl, ?_⟩) (SAB.both hA hB) ?_
                      rotate_left
                      · intro wx hBx
                        (try dsimp only at hBx)
                        go_simp
                        try with_reducible rfl
                      try simp only [Act.put, List.setIfInBounds_toArray, List.set_cons_zero, List.set_cons_succ]
                      refine wpL_takeB (i := 10) (v := ?_) rfl (by kernel_rfl) (by kernel_rfl) (by kernel_rfl) (by decide) (fun _ _ _ h => h) (Or.inl ⟨by rfl, ?_⟩) (SAB.both hA hB) ?_
                      rotate_left
                      · intro wx hBx
                        (try dsimp only at hBx)
                        go_simp
                        try with_reducible rfl
                      try simp only [Act.put, List.setIfInBounds_toArray, List.set_cons_zero, List.set_cons_succ]
                      refine wpL_takeA (i := 11) (v := ?_) rfl (by kernel_rfl) (by kernel_rfl) (by kernel_rfl) (by kernel_rfl) (by decide) (fun _ _ _ h => h) (Or.inl ⟨by rfl, ?_⟩) hA hB ?_
                      rotate_left
                      · rintro wx ⟨hAx, hBx⟩
                        (try dsimp only at hBx); (try dsimp only at hAx)
                        go_simp
                        try with_reducible rfl
                      try simp only [Act.put, List.setIfInBounds_toArray, List.set_cons_zero, List.set_cons_succ]
                      refine wpL_takeB (i := 12) (v := ?_) rfl (by kernel_rfl) (by kernel_rfl) (by kernel_rfl) (by decide) (fun _ _ _ h => h) (Or.inl ⟨by rfl, ?_⟩) (SAB.both hA hB) ?_
                      rotate_left
                      · intro wx hBx
                        (try dsimp only at hBx)
                        go_simp
                        try with_reducible rfl
                      try simp only [Act.put, List.setIfInBounds_toArray, List.set_cons_zero, List.set_cons_succ]
                      refine wpL_takeB (i := 13) (v := ?_) rfl (by kernel_rfl) (by kernel_rfl) (by kernel_rfl) (by decide) (fun _ _ _ h => h) (Or.inl ⟨by rfl, ?_⟩) (SAB.both hA hB) ?_
                      rotate_left
                      · intro wx hBx
                        (try dsimp only at hBx)
                        go_simp
                        try with_reducible rfl
                      try simp only [Act.put, List.setIfInBounds_toArray, List.set_cons_zero, List.set_cons_succ]
                      refine wpL_takeB (i := 14) rfl (by kernel_rfl) (by kernel_rfl) (by kernel_rfl) (by decide) (fun _ _ _ h => h) (yieldsIf_of (by rfl) (.slice (cutA C.A1 C.c1 (n + 1) 3) (C.n1 - (n + 1)) (C.c1 - (n + 1))) (fun wx hBx => by go_simp; rfl)) (SAB.both hA hB) ?_
                      try simp only [Act.put, List.setIfInBounds_toArray, List.set_cons_zero, List.set_cons_succ]
                      refine wpL_one (i := 7) (by kernel_rfl) (StepL.mk rfl (fun K hK => ?_))
                      refine step_append_any _ (by rfl) (.const (.slice none 0 0)) (.tmp 152) _ (by rfl) w4.heap.size 48 iP _ 3 24 Try.underlying33 HI0.out IZ0.out IZ1.out IZ2.out rfl (by omega) (.slice none 0 0) 0 [] (by rfl) (World.ownsRow_nil _ _ _ _) _ C.A1 n C.c1 ((st.data.take n).flatMap encPk) (by rfl) ((HP4.out.data.sl HP4.out.ldata).to_ encPk_len (by omega)).2.2.2 (ONE.out _) (by simp [maxLen]; omega) (by omega) (by simp) ?_
                      intro v5 w5 hown5 hg5 hat5
                      have hk5 : Keep w4 w5 := Same.append (Same.drew (Same.refl _ w4)) (World.ownsRow_nil _ w4.heap.size 48 3) hg5 (fun i hi => hi) (by simp)
                      have hz5 := hk5.size
                      refine hK.out _ _ (SAB.both ((hk5.cell (p := ⟨g, 5, none⟩) (show g < w4.heap.size by omega)).trans hA) (hk5.mono (fun i hi => hi.1))) (fun hSS => ?_)
                      clear hK K hA hB
                      have hB := hSS.2
                      have hA := hSS.1 (by kernel_rfl)
                      (try dsimp only at hB); (try dsimp only at hA); clear hSS
                      try simp only [Act.put, List.setIfInBounds_toArray, List.set_cons_zero, List.set_cons_succ]
                      refine wpL_one (i := 15) (by kernel_rfl) (StepL.mk rfl (fun K hK => ?_))
                      refine step_append_any _ (by rfl) (.tmp 153) (.tmp 160) _ (by rfl) w4.heap.size 48 iP _ 3 24 Try.underlying33 HI0.out IZ0.out IZ1.out IZ2.out rfl (by omega) v5 (0 + n) _ (by rfl) hown5 _ (cutA C.A1 C.c1 (n + 1) 3) (C.n1 - (n + 1)) (C.c1 - (n + 1)) ((st.data.drop (n + 1)).flatMap encPk) (by rfl) (((HP4.out.data.sl HP4.out.ldata).from_ encPk_len (k := n + 1) (by omega)).keep (Same.mono hk5 (fun i hi => by have := hi.1; omega))).2.2.2 (ONE.out _) (by simp [maxLen]; omega) (by omega) hk5.size ?_
                      intro v6 w6 hown6 hg6 hat6
                      have hk6 : Keep w4 w6 := Same.append hk5 hown5 hg6 (fun i hi => hi) hk5.size
                      have hz6 := hk6.size
                      have hown7 : w6.ownsRow w4.heap.size 48 3 v6 (C.n1 - 1) ((st.data.take n ++ st.data.drop (n + 1)).flatMap encPk) := by
                        rw [show C.n1 - 1 = 0 + n + (C.n1 - (n + 1)) by omega, List.flatMap_append]
                        simpa using hown6
                      obtain ⟨A', c', rfl, hap⟩ := Ap.of_own hown7
                      refine hK.out _ _ (SAB.both ((hk6.cell (p := ⟨g, 5, none⟩) (show g < w4.heap.size by omega)).trans (by rw [HP4.out.blk.cell]; rfl)) (hk6.mono (fun i hi => hi.1))) (fun hSS => ?_)
                      clear hK K hA hB
                      have hB := hSS.2
                      have hA := hSS.1 (by kernel_rfl)
                      (try dsimp only at hB); (try dsimp only at hA); clear hSS
                      try simp only [Act.put, List.setIfInBounds_toArray, List.set_cons_zero, List.set_cons_succ]
                      refine wpL_takeB (i := 16) (v := ?_) rfl (by kernel_rfl) (by kernel_rfl) (by kernel_rfl) (by decide) (fun _ _ _ h => h) (Or.inl ⟨by rfl, ?_⟩) (SAB.both hA hB) ?_
                      rotate_left
                      · intro wx hBx
                        (try dsimp only at hBx)
                        go_simp
                        try with_reducible rfl
                      try simp only [Act.put, List.setIfInBounds_toArray, List.set_cons_zero, List.set_cons_succ]
                      refine wpL_takeB (i := 17) (v := ?_) rfl (by kernel_rfl) (by kernel_rfl) (by kernel_rfl) (by decide) (fun _ _ _ h => h) (Or.inl ⟨by rfl, ?_⟩) (SAB.both hA hB) ?_
                      rotate_left
                      · intro wx hBx
                        (try dsimp only at hBx)
                        go_simp
                        try with_reducible rfl
                      try simp only [Act.put, List.setIfInBounds_toArray, List.set_cons_zero, List.set_cons_succ]
                      refine wpL_one (i := 18) (by kernel_rfl) (StepL.mk rfl (fun K hK => ?_))
                      refine step_store_one rfl _ _ _ rfl g 5 41 _ (.slice A' (C.n1 - 1) c') rfl rfl (hk6.blk HP4.out.blk (by omega)) (by simp [Cls.all]) (by kernel_rfl) rfl rfl ?_
                      intro w7 hb7 hs7
                      refine hK.out _ _ (SAB.past (by kernel_rfl) (Same.trans (hk6.mono (fun i hi => hi.1)) hs7 (fun i hi => hi.2))) (fun hSS => ?_)
                      clear hK K hA hB
                      have hB := hSS.2
                      have hA : True := trivial
                      (try dsimp only at hB); (try dsimp only at hA); clear hSS
                      try simp only [Act.put, List.setIfInBounds_toArray, List.set_cons_zero, List.set_cons_succ]
                      refine wpL_done (by kernel_rfl) ?_
                      have hz7 := hs7.size
                      have hfin : CutA w4 g st C (Lab w L 1) n w7 := ⟨_, A', C.n1 - 1, c', .inr rfl, by have := HP4.out.ldata; simp only [List.length_append, List.length_take, List.length_drop]; omega, by simpa [Cls.all] using hb7, (hap.keep (hs7.mono (fun i hi => by omega))).more (fun i hi hl => .inr ⟨hi.1, hl⟩), hB⟩
                      have HFIN := Lib.hid hfin
                      clear hfin
                      clear hb7 hs7 hap hown6 hown7 hg6 hat6 hk6 hk5 hown5 hg5 hat5 hA hB t4 t5
                      go_wp2_with fail
                      go_meet
                      exact HFIN.out
                    · have hd3 : decide (0 < v3) = false := by simpa using hv3
                      go_wp2_with fail
                      go_meet
                      exact ⟨st.data, C.A1, C.n1, C.c1, .inl rfl, HP4.out.ldata, HP4.out.blk, HP4.out.data.more (fun i hi _ => .inl hi), Same.refl _ _⟩
                case rest =>
                  as_aux_lemma =>
                    obtain ⟨data', A', n', c', hdat, hn', hbX, hapX, hsX⟩ := hcut
                    obtain ⟨w5, rfl⟩ : ∃ w5 : World, w5 = wc := ⟨_, rfl⟩
                    have far : ∀ a, a ≠ 5 → ∀ i, Lab w L a i → i < w4.heap.size ∧ i ≠ g := fun a ha i hi => ⟨by have := hi.1; omega, fun e => ha (by rw [← hi.2, e, HLG.out])⟩
                    have hz5 := hsX.size
                    have hb14' : Blk w5 w2.heap.size 48 (encPk q).toArray := hsX.blk HB14.out ⟨by omega, by omega⟩
                    have hlk : LkR w5 (Lab w L 0) (C.k st.k) st.k := HP4.out.lk.keep (hsX.mono (far 0 (by decide)))
                    have hiq : I64 q.seq := OK.out.dseq q (List.mem_of_getElem? HQ.out)
                    have hkl := OK.out.kept
                    have hw0 := OK.out.want0
                    have hw1 := OK.out.want1
                    have he0 := OK.out.early
                    have hwi0 := OK.out.win0
                    have hwi1 := OK.out.win1
                    have hasc := OK.out.asc
                    have hdl := OK.out.delivered q (List.mem_of_getElem? HQ.out)
                    have hcl : (arriveS st.k q).kept.length ≤ 1000 ∧ (arriveS st.k q).early.length ≤ 1000 := by
                      unfold arriveS
                      split
                      · exact ⟨by simp; omega, by simp; omega⟩
                      · split
                        · exact ⟨by simp; omega, by have := insertS_len st.k.early ⟨q.seq, 0, q.val⟩; simp; omega⟩
                        · exact ⟨by omega, by omega⟩
                    obtain ⟨hcl1, hcl2⟩ := hcl
                    have ho4 : C.n4 ≤ 100000 := by rw [HP4.out.lout]; exact OK.out.out
                    have ho2 : C.n2 ≤ 100000 := by rw [HP4.out.lack]; exact OK.out.ack
                    clear t1 t2 t3 t4 t5 hA
                    have HBX := Lib.hid hbX
                    have HAPX := Lib.hid hapX
                    have HSX := Lib.hid hsX
                    have FAR := Lib.hid far
                    have HB14' := Lib.hid hb14'
                    have HLK := Lib.hid hlk
                    have HIQ := Lib.hid hiq
                    have HASC := Lib.hid hasc
                    have HDAT := Lib.hid hdat
                    have HN' := Lib.hid hn'
                    clear hbX hapX hsX far hb14' hlk hiq hasc hdat hn'
                    go_upto_region 27 with fail
                    go_cut [15, 16, 17] from 164 to 173 (fun sa sb sc wx => CutR w5 (Lab w L 0) (arriveS st.k q) (arriveD st.k q) sa sb sc wx)
                    case first =>
                      as_aux_lemma =>
                        have hA : True := trivial
                        refine wp_region_L 99 (fun _ => True) (fun wx => Keep w5 wx) (by kernel_rfl) trivial (Same.drew (Same.refl _ _)) (fun _ hB => ?_)
                        refine wpL_takeB (i := 0) (v := ?_) rfl (by kernel_rfl) (by kernel_rfl) (by kernel_rfl) (by decide) (fun _ _ _ h => h) (Or.inl ⟨by rfl, ?_⟩) (SAB.both hA hB) ?_
                        rotate_left
                        · intro wx hBx
                          (try dsimp only at hBx)
                          go_simp
                          try with_reducible rfl
                        try simp only [Act.put, List.setIfInBounds_toArray, List.set_cons_zero, List.set_cons_succ]
                        refine wpL_takeB (i := 1) (v := ?_) rfl (by kernel_rfl) (by kernel_rfl) (by kernel_rfl) (by decide) (fun _ _ _ h => h) (Or.inl ⟨by rfl, ?_⟩) (SAB.both hA hB) ?_
                        rotate_left
                        · intro wx hBx
                          (try dsimp only at hBx)
                          go_simp
                          try with_reducible rfl
                        try simp only [Act.put, List.setIfInBounds_toArray, List.set_cons_zero, List.set_cons_succ]
                        refine wpL_takeB (i := 2) (v := ?_) rfl (by kernel_rfl) (by kernel_rfl) (by kernel_rfl) (by decide) (fun _ _ _ h => h) (Or.inl ⟨by rfl, ?_⟩) (SAB.both hA hB) ?_
                        rotate_left
                        · intro wx hBx
                          (try dsimp only at hBx)
                          go_simp
                          try with_reducible rfl
                        try simp only [Act.put, List.setIfInBounds_toArray, List.set_cons_zero, List.set_cons_succ]
                        refine wpL_takeB (i := 3) rfl (by kernel_rfl) (by kernel_rfl) (by kernel_rfl) (by decide) (fun _ _ _ h => h) (yieldsIf_blk (by rfl) _ _ rfl g 0 41 _ (C.k st.k) _ rfl (fun wx hx => hx.blk HBX.out (by omega)) (({ C with A1 := A', n1 := n', c1 := c' } : Cls).sub st.k) Try.underlying35 rfl (by kernel_rfl)) (SAB.both hA hB) ?_
                        try simp only [Act.put, List.setIfInBounds_toArray, List.set_cons_zero, List.set_cons_succ]
                        refine wpL_takeB (i := 4) rfl (by kernel_rfl) (by kernel_rfl) (by kernel_rfl) (by decide) (fun _ _ _ h => h) (yieldsIf_blk (by rfl) _ _ rfl w2.heap.size 0 48 _ (encPk q) _ rfl (fun wx hx => hx.blk HB14'.out (by omega)) (fun j v hv => by simpa using hv) Try.underlying48 rfl (by kernel_rfl)) (SAB.both hA hB) ?_
                        try simp only [Act.put, List.setIfInBounds_toArray, List.set_cons_zero, List.set_cons_succ]
                        have key : ∀ (wa : World), Keep w5 wa → Calls Try.prog 25 #[.agg (C.k st.k).toArray, .agg (encPk q).toArray] wa (ArrPost (arriveS st.k q) (arriveD st.k q) (Lab w L 0) wa) := fun wa ha => arrive_any wa (Lab w L 0) (C.k st.k) st.k q (fun i hi => by have := hi.1; have := ha.size; omega) (LkR.keep HLK.out (ha.mono (fun i hi => by have := hi.1; omega))) (by omega) hw0 (by omega) HIQ.out
                        have fin : ∀ (wa wb wf : World) (b15 b17 : Nat) (cs6 : List Value) (A : Option Addr) (n6 c6 : Nat), Keep w5 wa → LkR wb (fun i => Lab w L 0 i ∨ (wa.heap.size ≤ i ∧ i < wb.heap.size)) cs6 (arriveS st.k q) → Sl encI 1 wb (fun i => wa.heap.size ≤ i ∧ i < wb.heap.size) A n6 c6 (arriveD st.k q) → Keep wa wb → w5.heap.size ≤ b15 → w5.heap.size ≤ b17 → (b15 < wa.heap.size ∨ wb.heap.size ≤ b15) → (b17 < wa.heap.size ∨ wb.heap.size ≤ b17) → Same (fun i => i < wb.heap.size ∧ i ≠ b15 ∧ i ≠ b17) wb wf → Blk wf b15 35 cs6.toArray → Blk wf b17 48 #[.int .i64 0, .int .i64 ((arriveS st.k q).want - 1), .int .i64 0] → CutR w5 (Lab w L 0) (arriveS st.k q) (arriveD st.k q) (.pointer (some ⟨b15, 0, none⟩)) (.slice A n6 c6) (.pointer (some ⟨b17, 0, none⟩)) wf := fun wa wb wf b15 b17 cs6 A n6 c6 ha hr hsl hk h15 h17 d15 d17 hs hb15 hb17 => by
                          have h1 := ha.size
                          have h2 := hk.size
                          have h3 := hs.size
                          have hlt : ∀ i, (Lab w L 0 i ∨ (wa.heap.size ≤ i ∧ i < wb.heap.size)) → i < wb.heap.size ∧ i ≠ b15 ∧ i ≠ b17 := fun i hi => hi.elim (fun h => by have := h.1; omega) (fun h => by omega)
                          refine ⟨b15, b17, cs6, A, n6, c6, rfl, rfl, rfl, h15, h17, hb15, hb17, (hr.keep (hs.mono hlt)).more (fun i hi => ?_), (hsl.keep (hs.mono (fun i hi => hlt i (.inr hi)))).more (fun i hi => ?_), Same.trans (Keep.trans ha hk) hs (fun i hi => by omega)⟩
                          · have := hlt i hi
                            rcases hi with hi | hi
                            · exact .inl hi
                            · exact .inr ⟨by omega, by omega, by omega⟩
                          · have := hlt i (.inr hi)
                            exact ⟨by omega, by omega, by omega⟩
                        have KEY := Lib.hid key
                        have FIN := Lib.hid fin
                        clear key fin
                        refine wpL_three (i := 5) (j := 10) (m := 11) (by kernel_rfl) (StepL.mk rfl (fun K hK => ?_)) (StepL.mk rfl (fun K hK => ?_)) (StepL.mk rfl (fun K hK => ?_))
                        · go_simp
                          refine (KEY.out _ hB).mono ?_
                          rintro e w6 ⟨cs6, A6, n6, c6, rfl, hr6, hd6, hk6⟩
                          have hz6 := hk6.size
                          simp at hz6
                          refine hK.out _ _ (SAB.both trivial (Keep.trans hB hk6)) (fun hSS => ?_)
                          clear hK K hA hB
                          have hB := hSS.2
                          have hA := hSS.1 (by kernel_rfl)
                          (try dsimp only at hB); (try dsimp only at hA); clear hSS
                          try simp only [Act.put, List.setIfInBounds_toArray, List.set_cons_zero, List.set_cons_succ]
                          refine wpL_takeB (i := 6) (v := ?_) rfl (by kernel_rfl) (by kernel_rfl) (by kernel_rfl) (by decide) (fun _ _ _ h => h) (Or.inl ⟨by rfl, ?_⟩) (SAB.both hA hB) ?_
                          rotate_left
                          · intro wx hBx
                            (try dsimp only at hBx)
                            go_simp
                            try with_reducible rfl
                          try simp only [Act.put, List.setIfInBounds_toArray, List.set_cons_zero, List.set_cons_succ]
                          refine wpL_takeB (i := 7) (v := ?_) rfl (by kernel_rfl) (by kernel_rfl) (by kernel_rfl) (by decide) (fun _ _ _ h => h) (Or.inl ⟨by rfl, ?_⟩) (SAB.both hA hB) ?_
                          rotate_left
                          · intro wx hBx
                            (try dsimp only at hBx)
                            go_simp
                            try with_reducible rfl
                          try simp only [Act.put, List.setIfInBounds_toArray, List.set_cons_zero, List.set_cons_succ]
                          refine wpL_takeB (i := 8) (v := ?_) rfl (by kernel_rfl) (by kernel_rfl) (by kernel_rfl) (by decide) (fun _ _ _ h => h) (Or.inl ⟨by rfl, ?_⟩) (SAB.both hA hB) ?_
                          rotate_left
                          · intro wx hBx
                            (try dsimp only at hBx)
                            go_simp
                            try with_reducible rfl
                          try simp only [Act.put, List.setIfInBounds_toArray, List.set_cons_zero, List.set_cons_succ]
                          refine wpL_takeB (i := 9) (v := ?_) rfl (by kernel_rfl) (by kernel_rfl) (by kernel_rfl) (by decide) (fun _ _ _ h => h) (Or.inl ⟨by rfl, ?_⟩) (SAB.both hA hB) ?_
                          rotate_left
                          · intro wx hBx
                            (try dsimp only at hBx)
                            go_simp
                            try with_reducible rfl
                          try simp only [Act.put, List.setIfInBounds_toArray, List.set_cons_zero, List.set_cons_succ]
                          refine wpL_two (i := 10) (j := 11) (by kernel_rfl) (StepL.mk rfl (fun K hK => ?_)) (StepL.mk rfl (fun K hK => ?_))
                          · go_simp
                            refine hK.out _ _ (SAB.both trivial (Keep.alloc hB _)) (fun hSS => ?_)
                            clear hK K hA hB
                            have hB := hSS.2
                            have hA := hSS.1 (by kernel_rfl)
                            (try dsimp only at hB); (try dsimp only at hA); clear hSS
                            try simp only [Act.put, List.setIfInBounds_toArray, List.set_cons_zero, List.set_cons_succ]
                            refine wpL_one (i := 11) (by kernel_rfl) (StepL.mk rfl (fun K hK => ?_))
                            go_simp
                            refine hK.out _ _ (SAB.both trivial (Keep.alloc hB _)) (fun hSS => ?_)
                            clear hK K hA hB
                            have hB := hSS.2
                            have hA := hSS.1 (by kernel_rfl)
                            (try dsimp only at hB); (try dsimp only at hA); clear hSS
                            try simp only [Act.put, List.setIfInBounds_toArray, List.set_cons_zero, List.set_cons_succ]
                            refine wpL_one (i := 12) (by kernel_rfl) (StepL.mk rfl (fun K hK => ?_))
                            refine step_store_blk rfl _ _ _ rfl (w6.heap.size) 0 35 _ cs6 rfl rfl ((Blk.new w6 _ _).alloc _) (by rw [hr6.len]; simp) (info_lk hr6.len) hr6.one ?_
                            intro w8 hb8 hs8
                            rw [splice_all cs6 _ (by rw [hr6.len]; rfl)] at hb8
                            have hB8 := Keep.write hB hs8 (by omega)
                            refine hK.out _ _ (SAB.both trivial hB8) (fun hSS => ?_)
                            clear hK K hA hB
                            have hB := hSS.2
                            have hA := hSS.1 (by kernel_rfl)
                            (try dsimp only at hB); (try dsimp only at hA); clear hSS
                            try simp only [Act.put, List.setIfInBounds_toArray, List.set_cons_zero, List.set_cons_succ]
                            refine wpL_takeB (i := 13) (v := ?_) rfl (by kernel_rfl) (by kernel_rfl) (by kernel_rfl) (by decide) (fun _ _ _ h => h) (Or.inl ⟨by rfl, ?_⟩) (SAB.both hA hB) ?_
                            rotate_left
                            · intro wx hBx
                              (try dsimp only at hBx)
                              go_simp
                              try with_reducible rfl
                            try simp only [Act.put, List.setIfInBounds_toArray, List.set_cons_zero, List.set_cons_succ]
                            refine wpL_one (i := 14) (by kernel_rfl) (StepL.mk rfl (fun K hK => ?_))
                            refine step_store_blk rfl _ _ _ rfl (w6.heap.size + 1) 0 48 _ [.int .i64 0, .int .i64 ((arriveS st.k q).want - 1), .int .i64 0] rfl rfl (hs8.blk (Blk.snd w6 _ _ _) (by omega)) (by simp) (by kernel_rfl) rfl ?_
                            intro w9 hb9 hs9
                            rw [splice_all [.int .i64 0, .int .i64 ((arriveS st.k q).want - 1), .int .i64 0] #[.int .i64 0, .int .i64 0, .int .i64 0] rfl] at hb9
                            have hfin := FIN.out _ w6 w9 (w6.heap.size) (w6.heap.size + 1) cs6 A6 n6 c6 (Same.drew (Same.refl _ _)) hr6 hd6 hk6 (by omega) (by omega) (by simp <;> omega) (by simp <;> omega) (Same.trans (Same.trans (Same.mono (Keep.alloc (Keep.new w6 _) _) (fun i hi => hi.1)) hs8 (fun i hi => by omega)) hs9 (fun i hi => by omega)) (hs9.blk hb8 (by omega)) hb9
                            refine hK.out _ _ (SAB.both trivial (Keep.write hB hs9 (by omega))) (fun hSS => ?_)
                            clear hK K hA hB
                            have hB := hSS.2
                            have hA := hSS.1 (by kernel_rfl)
                            (try dsimp only at hB); (try dsimp only at hA); clear hSS
                            try simp only [Act.put, List.setIfInBounds_toArray, List.set_cons_zero, List.set_cons_succ]
                            refine wpL_done (by kernel_rfl) ?_
                            have HFIN := Lib.hid hfin
                            clear hfin
                            clear hb8 hs8 hb9 hs9 hr6 hd6 hk6 hA hB hB8
                            go_wp2_with fail
                            go_meet
                            exact HFIN.out
                          · go_simp
                            refine hK.out _ _ (SAB.both trivial (Keep.alloc hB _)) (fun hSS => ?_)
                            clear hK K hA hB
                            have hB := hSS.2
                            have hA := hSS.1 (by kernel_rfl)
                            (try dsimp only at hB); (try dsimp only at hA); clear hSS
                            try simp only [Act.put, List.setIfInBounds_toArray, List.set_cons_zero, List.set_cons_succ]
                            refine wpL_one (i := 10) (by kernel_rfl) (StepL.mk rfl (fun K hK => ?_))
                            go_simp
                            refine hK.out _ _ (SAB.both trivial (Keep.alloc hB _)) (fun hSS => ?_)
                            clear hK K hA hB
                            have hB := hSS.2
                            have hA := hSS.1 (by kernel_rfl)
                            (try dsimp only at hB); (try dsimp only at hA); clear hSS
                            try simp only [Act.put, List.setIfInBounds_toArray, List.set_cons_zero, List.set_cons_succ]
                            refine wpL_one (i := 12) (by kernel_rfl) (StepL.mk rfl (fun K hK => ?_))
                            refine step_store_blk rfl _ _ _ rfl (w6.heap.size + 1) 0 35 _ cs6 rfl rfl (Blk.snd w6 _ _ _) (by rw [hr6.len]; simp) (info_lk hr6.len) hr6.one ?_
                            intro w8 hb8 hs8
                            rw [splice_all cs6 _ (by rw [hr6.len]; rfl)] at hb8
                            have hB8 := Keep.write hB hs8 (by omega)
                            refine hK.out _ _ (SAB.both trivial hB8) (fun hSS => ?_)
                            clear hK K hA hB
                            have hB := hSS.2
                            have hA := hSS.1 (by kernel_rfl)
                            (try dsimp only at hB); (try dsimp only at hA); clear hSS
                            try simp only [Act.put, List.setIfInBounds_toArray, List.set_cons_zero, List.set_cons_succ]
                            refine wpL_takeB (i := 13) (v := ?_) rfl (by kernel_rfl) (by kernel_rfl) (by kernel_rfl) (by decide) (fun _ _ _ h => h) (Or.inl ⟨by rfl, ?_⟩) (SAB.both hA hB) ?_
                            rotate_left
                            · intro wx hBx
                              (try dsimp only at hBx)
                              go_simp
                              try with_reducible rfl
                            try simp only [Act.put, List.setIfInBounds_toArray, List.set_cons_zero, List.set_cons_succ]
                            refine wpL_one (i := 14) (by kernel_rfl) (StepL.mk rfl (fun K hK => ?_))
                            refine step_store_blk rfl _ _ _ rfl (w6.heap.size) 0 48 _ [.int .i64 0, .int .i64 ((arriveS st.k q).want - 1), .int .i64 0] rfl rfl (hs8.blk ((Blk.new w6 _ _).alloc _) (by omega)) (by simp) (by kernel_rfl) rfl ?_
                            intro w9 hb9 hs9
                            rw [splice_all [.int .i64 0, .int .i64 ((arriveS st.k q).want - 1), .int .i64 0] #[.int .i64 0, .int .i64 0, .int .i64 0] rfl] at hb9
                            have hfin := FIN.out _ w6 w9 (w6.heap.size + 1) (w6.heap.size) cs6 A6 n6 c6 (Same.drew (Same.refl _ _)) hr6 hd6 hk6 (by omega) (by omega) (by simp <;> omega) (by simp <;> omega) (Same.trans (Same.trans (Same.mono (Keep.alloc (Keep.new w6 _) _) (fun i hi => hi.1)) hs8 (fun i hi => by omega)) hs9 (fun i hi => by omega)) (hs9.blk hb8 (by omega)) hb9
                            refine hK.out _ _ (SAB.both trivial (Keep.write hB hs9 (by omega))) (fun hSS => ?_)
                            clear hK K hA hB
                            have hB := hSS.2
                            have hA := hSS.1 (by kernel_rfl)
                            (try dsimp only at hB); (try dsimp only at hA); clear hSS
                            try simp only [Act.put, List.setIfInBounds_toArray, List.set_cons_zero, List.set_cons_succ]
                            refine wpL_done (by kernel_rfl) ?_
                            have HFIN := Lib.hid hfin
                            clear hfin
                            clear hb8 hs8 hb9 hs9 hr6 hd6 hk6 hA hB hB8
                            go_wp2_with fail
                            go_meet
                            exact HFIN.out
                        · go_simp
                          refine hK.out _ _ (SAB.both trivial (Same.drew (Keep.new w5 _))) (fun hSS => ?_)
                          clear hK K hA hB
                          have hB := hSS.2
                          have hA := hSS.1 (by kernel_rfl)
                          (try dsimp only at hB); (try dsimp only at hA); clear hSS
                          try simp only [Act.put, List.setIfInBounds_toArray, List.set_cons_zero, List.set_cons_succ]
                          refine wpL_two (i := 5) (j := 11) (by kernel_rfl) (StepL.mk rfl (fun K hK => ?_)) (StepL.mk rfl (fun K hK => ?_))
                          · go_simp
                            refine (KEY.out _ hB).mono ?_
                            rintro e w6 ⟨cs6, A6, n6, c6, rfl, hr6, hd6, hk6⟩
                            have hz6 := hk6.size
                            simp at hz6
                            refine hK.out _ _ (SAB.both trivial (Keep.trans hB hk6)) (fun hSS => ?_)
                            clear hK K hA hB
                            have hB := hSS.2
                            have hA := hSS.1 (by kernel_rfl)
                            (try dsimp only at hB); (try dsimp only at hA); clear hSS
                            try simp only [Act.put, List.setIfInBounds_toArray, List.set_cons_zero, List.set_cons_succ]
                            refine wpL_takeB (i := 6) (v := ?_) rfl (by kernel_rfl) (by kernel_rfl) (by kernel_rfl) (by decide) (fun _ _ _ h => h) (Or.inl ⟨by rfl, ?_⟩) (SAB.both hA hB) ?_
                            rotate_left
                            · intro wx hBx
                              (try dsimp only at hBx)
                              go_simp
                              try with_reducible rfl
                            try simp only [Act.put, List.setIfInBounds_toArray, List.set_cons_zero, List.set_cons_succ]
                            refine wpL_takeB (i := 7) (v := ?_) rfl (by kernel_rfl) (by kernel_rfl) (by kernel_rfl) (by decide) (fun _ _ _ h => h) (Or.inl ⟨by rfl, ?_⟩) (SAB.both hA hB) ?_
                            rotate_left
                            · intro wx hBx
                              (try dsimp only at hBx)
                              go_simp
                              try with_reducible rfl
                            try simp only [Act.put, List.setIfInBounds_toArray, List.set_cons_zero, List.set_cons_succ]
                            refine wpL_takeB (i := 8) (v := ?_) rfl (by kernel_rfl) (by kernel_rfl) (by kernel_rfl) (by decide) (fun _ _ _ h => h) (Or.inl ⟨by rfl, ?_⟩) (SAB.both hA hB) ?_
                            rotate_left
                            · intro wx hBx
                              (try dsimp only at hBx)
                              go_simp
                              try with_reducible rfl
                            try simp only [Act.put, List.setIfInBounds_toArray, List.set_cons_zero, List.set_cons_succ]
                            refine wpL_takeB (i := 9) (v := ?_) rfl (by kernel_rfl) (by kernel_rfl) (by kernel_rfl) (by decide) (fun _ _ _ h => h) (Or.inl ⟨by rfl, ?_⟩) (SAB.both hA hB) ?_
                            rotate_left
                            · intro wx hBx
                              (try dsimp only at hBx)
                              go_simp
                              try with_reducible rfl
                            try simp only [Act.put, List.setIfInBounds_toArray, List.set_cons_zero, List.set_cons_succ]
                            refine wpL_one (i := 11) (by kernel_rfl) (StepL.mk rfl (fun K hK => ?_))
                            go_simp
                            refine hK.out _ _ (SAB.both trivial (Keep.alloc hB _)) (fun hSS => ?_)
                            clear hK K hA hB
                            have hB := hSS.2
                            have hA := hSS.1 (by kernel_rfl)
                            (try dsimp only at hB); (try dsimp only at hA); clear hSS
                            try simp only [Act.put, List.setIfInBounds_toArray, List.set_cons_zero, List.set_cons_succ]
                            refine wpL_one (i := 12) (by kernel_rfl) (StepL.mk rfl (fun K hK => ?_))
                            refine step_store_blk rfl _ _ _ rfl (w5.heap.size) 0 35 _ cs6 rfl rfl ((hk6.blk ((Blk.new w5 _ _).drewN 1) (by simp; try omega)).alloc _) (by rw [hr6.len]; simp) (info_lk hr6.len) hr6.one ?_
                            intro w8 hb8 hs8
                            rw [splice_all cs6 _ (by rw [hr6.len]; rfl)] at hb8
                            have hB8 := Keep.write hB hs8 (by omega)
                            refine hK.out _ _ (SAB.both trivial hB8) (fun hSS => ?_)
                            clear hK K hA hB
                            have hB := hSS.2
                            have hA := hSS.1 (by kernel_rfl)
                            (try dsimp only at hB); (try dsimp only at hA); clear hSS
                            try simp only [Act.put, List.setIfInBounds_toArray, List.set_cons_zero, List.set_cons_succ]
                            refine wpL_takeB (i := 13) (v := ?_) rfl (by kernel_rfl) (by kernel_rfl) (by kernel_rfl) (by decide) (fun _ _ _ h => h) (Or.inl ⟨by rfl, ?_⟩) (SAB.both hA hB) ?_
                            rotate_left
                            · intro wx hBx
                              (try dsimp only at hBx)
                              go_simp
                              try with_reducible rfl
                            try simp only [Act.put, List.setIfInBounds_toArray, List.set_cons_zero, List.set_cons_succ]
                            refine wpL_one (i := 14) (by kernel_rfl) (StepL.mk rfl (fun K hK => ?_))
                            refine step_store_blk rfl _ _ _ rfl (w6.heap.size) 0 48 _ [.int .i64 0, .int .i64 ((arriveS st.k q).want - 1), .int .i64 0] rfl rfl (hs8.blk (Blk.new w6 _ _) (by omega)) (by simp) (by kernel_rfl) rfl ?_
                            intro w9 hb9 hs9
                            rw [splice_all [.int .i64 0, .int .i64 ((arriveS st.k q).want - 1), .int .i64 0] #[.int .i64 0, .int .i64 0, .int .i64 0] rfl] at hb9
                            have hfin := FIN.out _ w6 w9 (w5.heap.size) (w6.heap.size) cs6 A6 n6 c6 (Same.drew (Keep.new w5 _)) hr6 hd6 hk6 (by omega) (by omega) (by simp <;> omega) (by simp <;> omega) (Same.trans (Same.trans (Same.mono (Keep.new w6 _) (fun i hi => hi.1)) hs8 (fun i hi => by omega)) hs9 (fun i hi => by omega)) (hs9.blk hb8 (by omega)) hb9
                            refine hK.out _ _ (SAB.both trivial (Keep.write hB hs9 (by omega))) (fun hSS => ?_)
                            clear hK K hA hB
                            have hB := hSS.2
                            have hA := hSS.1 (by kernel_rfl)
                            (try dsimp only at hB); (try dsimp only at hA); clear hSS
                            try simp only [Act.put, List.setIfInBounds_toArray, List.set_cons_zero, List.set_cons_succ]
                            refine wpL_done (by kernel_rfl) ?_
                            have HFIN := Lib.hid hfin
                            clear hfin
                            clear hb8 hs8 hb9 hs9 hr6 hd6 hk6 hA hB hB8
                            go_wp2_with fail
                            go_meet
                            exact HFIN.out
                          · go_simp
                            refine hK.out _ _ (SAB.both trivial (Same.drew (Keep.alloc (Keep.new w5 _) _))) (fun hSS => ?_)
                            clear hK K hA hB
                            have hB := hSS.2
                            have hA := hSS.1 (by kernel_rfl)
                            (try dsimp only at hB); (try dsimp only at hA); clear hSS
                            try simp only [Act.put, List.setIfInBounds_toArray, List.set_cons_zero, List.set_cons_succ]
                            refine wpL_one (i := 5) (by kernel_rfl) (StepL.mk rfl (fun K hK => ?_))
                            go_simp
                            refine (KEY.out _ hB).mono ?_
                            rintro e w6 ⟨cs6, A6, n6, c6, rfl, hr6, hd6, hk6⟩
                            have hz6 := hk6.size
                            simp at hz6
                            refine hK.out _ _ (SAB.both trivial (Keep.trans hB hk6)) (fun hSS => ?_)
                            clear hK K hA hB
                            have hB := hSS.2
                            have hA := hSS.1 (by kernel_rfl)
                            (try dsimp only at hB); (try dsimp only at hA); clear hSS
                            try simp only [Act.put, List.setIfInBounds_toArray, List.set_cons_zero, List.set_cons_succ]
                            refine wpL_takeB (i := 6) (v := ?_) rfl (by kernel_rfl) (by kernel_rfl) (by kernel_rfl) (by decide) (fun _ _ _ h => h) (Or.inl ⟨by rfl, ?_⟩) (SAB.both hA hB) ?_
                            rotate_left
                            · intro wx hBx
                              (try dsimp only at hBx)
                              go_simp
                              try with_reducible rfl
                            try simp only [Act.put, List.setIfInBounds_toArray, List.set_cons_zero, List.set_cons_succ]
                            refine wpL_takeB (i := 7) (v := ?_) rfl (by kernel_rfl) (by kernel_rfl) (by kernel_rfl) (by decide) (fun _ _ _ h => h) (Or.inl ⟨by rfl, ?_⟩) (SAB.both hA hB) ?_
                            rotate_left
                            · intro wx hBx
                              (try dsimp only at hBx)
                              go_simp
                              try with_reducible rfl
                            try simp only [Act.put, List.setIfInBounds_toArray, List.set_cons_zero, List.set_cons_succ]
                            refine wpL_takeB (i := 8) (v := ?_) rfl (by kernel_rfl) (by kernel_rfl) (by kernel_rfl) (by decide) (fun _ _ _ h => h) (Or.inl ⟨by rfl, ?_⟩) (SAB.both hA hB) ?_
                            rotate_left
                            · intro wx hBx
                              (try dsimp only at hBx)
                              go_simp
                              try with_reducible rfl
                            try simp only [Act.put, List.setIfInBounds_toArray, List.set_cons_zero, List.set_cons_succ]
                            refine wpL_takeB (i := 9) (v := ?_) rfl (by kernel_rfl) (by kernel_rfl) (by kernel_rfl) (by decide) (fun _ _ _ h => h) (Or.inl ⟨by rfl, ?_⟩) (SAB.both hA hB) ?_
                            rotate_left
                            · intro wx hBx
                              (try dsimp only at hBx)
                              go_simp
                              try with_reducible rfl
                            try simp only [Act.put, List.setIfInBounds_toArray, List.set_cons_zero, List.set_cons_succ]
                            refine wpL_one (i := 12) (by kernel_rfl) (StepL.mk rfl (fun K hK => ?_))
                            refine step_store_blk rfl _ _ _ rfl (w5.heap.size) 0 35 _ cs6 rfl rfl (hk6.blk (((Blk.new w5 _ _).alloc _).drewN 1) (by simp; try omega)) (by rw [hr6.len]; simp) (info_lk hr6.len) hr6.one ?_
                            intro w8 hb8 hs8
                            rw [splice_all cs6 _ (by rw [hr6.len]; rfl)] at hb8
                            have hB8 := Keep.write hB hs8 (by omega)
                            refine hK.out _ _ (SAB.both trivial hB8) (fun hSS => ?_)
                            clear hK K hA hB
                            have hB := hSS.2
                            have hA := hSS.1 (by kernel_rfl)
                            (try dsimp only at hB); (try dsimp only at hA); clear hSS
                            try simp only [Act.put, List.setIfInBounds_toArray, List.set_cons_zero, List.set_cons_succ]
                            refine wpL_takeB (i := 13) (v := ?_) rfl (by kernel_rfl) (by kernel_rfl) (by kernel_rfl) (by decide) (fun _ _ _ h => h) (Or.inl ⟨by rfl, ?_⟩) (SAB.both hA hB) ?_
                            rotate_left
                            · intro wx hBx
                              (try dsimp only at hBx)
                              go_simp
                              try with_reducible rfl
                            try simp only [Act.put, List.setIfInBounds_toArray, List.set_cons_zero, List.set_cons_succ]
                            refine wpL_one (i := 14) (by kernel_rfl) (StepL.mk rfl (fun K hK => ?_))
                            refine step_store_blk rfl _ _ _ rfl (w5.heap.size + 1) 0 48 _ [.int .i64 0, .int .i64 ((arriveS st.k q).want - 1), .int .i64 0] rfl rfl (hs8.blk (hk6.blk ((Blk.snd w5 _ _ _).drewN 1) (by simp; try omega)) (by omega)) (by simp) (by kernel_rfl) rfl ?_
                            intro w9 hb9 hs9
                            rw [splice_all [.int .i64 0, .int .i64 ((arriveS st.k q).want - 1), .int .i64 0] #[.int .i64 0, .int .i64 0, .int .i64 0] rfl] at hb9
                            have hfin := FIN.out _ w6 w9 (w5.heap.size) (w5.heap.size + 1) cs6 A6 n6 c6 (Same.drew (Keep.alloc (Keep.new w5 _) _)) hr6 hd6 hk6 (by omega) (by omega) (by simp <;> omega) (by simp <;> omega) (Same.trans (Same.trans (Same.refl _ _) hs8 (fun i hi => by omega)) hs9 (fun i hi => by omega)) (hs9.blk hb8 (by omega)) hb9
                            refine hK.out _ _ (SAB.both trivial (Keep.write hB hs9 (by omega))) (fun hSS => ?_)
                            clear hK K hA hB
                            have hB := hSS.2
                            have hA := hSS.1 (by kernel_rfl)
                            (try dsimp only at hB); (try dsimp only at hA); clear hSS
                            try simp only [Act.put, List.setIfInBounds_toArray, List.set_cons_zero, List.set_cons_succ]
                            refine wpL_done (by kernel_rfl) ?_
                            have HFIN := Lib.hid hfin
                            clear hfin
                            clear hb8 hs8 hb9 hs9 hr6 hd6 hk6 hA hB hB8
                            go_wp2_with fail
                            go_meet
                            exact HFIN.out
                        · go_simp
                          refine hK.out _ _ (SAB.both trivial (Same.drew (Keep.new w5 _))) (fun hSS => ?_)
                          clear hK K hA hB
                          have hB := hSS.2
                          have hA := hSS.1 (by kernel_rfl)
                          (try dsimp only at hB); (try dsimp only at hA); clear hSS
                          try simp only [Act.put, List.setIfInBounds_toArray, List.set_cons_zero, List.set_cons_succ]
                          refine wpL_two (i := 5) (j := 10) (by kernel_rfl) (StepL.mk rfl (fun K hK => ?_)) (StepL.mk rfl (fun K hK => ?_))
                          · go_simp
                            refine (KEY.out _ hB).mono ?_
                            rintro e w6 ⟨cs6, A6, n6, c6, rfl, hr6, hd6, hk6⟩
                            have hz6 := hk6.size
                            simp at hz6
                            refine hK.out _ _ (SAB.both trivial (Keep.trans hB hk6)) (fun hSS => ?_)
                            clear hK K hA hB
                            have hB := hSS.2
                            have hA := hSS.1 (by kernel_rfl)
                            (try dsimp only at hB); (try dsimp only at hA); clear hSS
                            try simp only [Act.put, List.setIfInBounds_toArray, List.set_cons_zero, List.set_cons_succ]
                            refine wpL_takeB (i := 6) (v := ?_) rfl (by kernel_rfl) (by kernel_rfl) (by kernel_rfl) (by decide) (fun _ _ _ h => h) (Or.inl ⟨by rfl, ?_⟩) (SAB.both hA hB) ?_
                            rotate_left
                            · intro wx hBx
                              (try dsimp only at hBx)
                              go_simp
                              try with_reducible rfl
                            try simp only [Act.put, List.setIfInBounds_toArray, List.set_cons_zero, List.set_cons_succ]
                            refine wpL_takeB (i := 7) (v := ?_) rfl (by kernel_rfl) (by kernel_rfl) (by kernel_rfl) (by decide) (fun _ _ _ h => h) (Or.inl ⟨by rfl, ?_⟩) (SAB.both hA hB) ?_
                            rotate_left
                            · intro wx hBx
                              (try dsimp only at hBx)
                              go_simp
                              try with_reducible rfl
                            try simp only [Act.put, List.setIfInBounds_toArray, List.set_cons_zero, List.set_cons_succ]
                            refine wpL_takeB (i := 8) (v := ?_) rfl (by kernel_rfl) (by kernel_rfl) (by kernel_rfl) (by decide) (fun _ _ _ h => h) (Or.inl ⟨by rfl, ?_⟩) (SAB.both hA hB) ?_
                            rotate_left
                            · intro wx hBx
                              (try dsimp only at hBx)
                              go_simp
                              try with_reducible rfl
                            try simp only [Act.put, List.setIfInBounds_toArray, List.set_cons_zero, List.set_cons_succ]
                            refine wpL_takeB (i := 9) (v := ?_) rfl (by kernel_rfl) (by kernel_rfl) (by kernel_rfl) (by decide) (fun _ _ _ h => h) (Or.inl ⟨by rfl, ?_⟩) (SAB.both hA hB) ?_
                            rotate_left
                            · intro wx hBx
                              (try dsimp only at hBx)
                              go_simp
                              try with_reducible rfl
                            try simp only [Act.put, List.setIfInBounds_toArray, List.set_cons_zero, List.set_cons_succ]
                            refine wpL_one (i := 10) (by kernel_rfl) (StepL.mk rfl (fun K hK => ?_))
                            go_simp
                            refine hK.out _ _ (SAB.both trivial (Keep.alloc hB _)) (fun hSS => ?_)
                            clear hK K hA hB
                            have hB := hSS.2
                            have hA := hSS.1 (by kernel_rfl)
                            (try dsimp only at hB); (try dsimp only at hA); clear hSS
                            try simp only [Act.put, List.setIfInBounds_toArray, List.set_cons_zero, List.set_cons_succ]
                            refine wpL_one (i := 12) (by kernel_rfl) (StepL.mk rfl (fun K hK => ?_))
                            refine step_store_blk rfl _ _ _ rfl (w6.heap.size) 0 35 _ cs6 rfl rfl (Blk.new w6 _ _) (by rw [hr6.len]; simp) (info_lk hr6.len) hr6.one ?_
                            intro w8 hb8 hs8
                            rw [splice_all cs6 _ (by rw [hr6.len]; rfl)] at hb8
                            have hB8 := Keep.write hB hs8 (by omega)
                            refine hK.out _ _ (SAB.both trivial hB8) (fun hSS => ?_)
                            clear hK K hA hB
                            have hB := hSS.2
                            have hA := hSS.1 (by kernel_rfl)
                            (try dsimp only at hB); (try dsimp only at hA); clear hSS
                            try simp only [Act.put, List.setIfInBounds_toArray, List.set_cons_zero, List.set_cons_succ]
                            refine wpL_takeB (i := 13) (v := ?_) rfl (by kernel_rfl) (by kernel_rfl) (by kernel_rfl) (by decide) (fun _ _ _ h => h) (Or.inl ⟨by rfl, ?_⟩) (SAB.both hA hB) ?_
                            rotate_left
                            · intro wx hBx
                              (try dsimp only at hBx)
                              go_simp
                              try with_reducible rfl
                            try simp only [Act.put, List.setIfInBounds_toArray, List.set_cons_zero, List.set_cons_succ]
                            refine wpL_one (i := 14) (by kernel_rfl) (StepL.mk rfl (fun K hK => ?_))
                            refine step_store_blk rfl _ _ _ rfl (w5.heap.size) 0 48 _ [.int .i64 0, .int .i64 ((arriveS st.k q).want - 1), .int .i64 0] rfl rfl (hs8.blk ((hk6.blk ((Blk.new w5 _ _).drewN 1) (by simp; try omega)).alloc _) (by omega)) (by simp) (by kernel_rfl) rfl ?_
                            intro w9 hb9 hs9
                            rw [splice_all [.int .i64 0, .int .i64 ((arriveS st.k q).want - 1), .int .i64 0] #[.int .i64 0, .int .i64 0, .int .i64 0] rfl] at hb9
                            have hfin := FIN.out _ w6 w9 (w6.heap.size) (w5.heap.size) cs6 A6 n6 c6 (Same.drew (Keep.new w5 _)) hr6 hd6 hk6 (by omega) (by omega) (by simp <;> omega) (by simp <;> omega) (Same.trans (Same.trans (Same.mono (Keep.new w6 _) (fun i hi => hi.1)) hs8 (fun i hi => by omega)) hs9 (fun i hi => by omega)) (hs9.blk hb8 (by omega)) hb9
                            refine hK.out _ _ (SAB.both trivial (Keep.write hB hs9 (by omega))) (fun hSS => ?_)
                            clear hK K hA hB
                            have hB := hSS.2
                            have hA := hSS.1 (by kernel_rfl)
                            (try dsimp only at hB); (try dsimp only at hA); clear hSS
                            try simp only [Act.put, List.setIfInBounds_toArray, List.set_cons_zero, List.set_cons_succ]
                            refine wpL_done (by kernel_rfl) ?_
                            have HFIN := Lib.hid hfin
                            clear hfin
                            clear hb8 hs8 hb9 hs9 hr6 hd6 hk6 hA hB hB8
                            go_wp2_with fail
                            go_meet
                            exact HFIN.out
                          · go_simp
                            refine hK.out _ _ (SAB.both trivial (Same.drew (Keep.alloc (Keep.new w5 _) _))) (fun hSS => ?_)
                            clear hK K hA hB
                            have hB := hSS.2
                            have hA := hSS.1 (by kernel_rfl)
                            (try dsimp only at hB); (try dsimp only at hA); clear hSS
                            try simp only [Act.put, List.setIfInBounds_toArray, List.set_cons_zero, List.set_cons_succ]
                            refine wpL_one (i := 5) (by kernel_rfl) (StepL.mk rfl (fun K hK => ?_))
                            go_simp
                            refine (KEY.out _ hB).mono ?_
                            rintro e w6 ⟨cs6, A6, n6, c6, rfl, hr6, hd6, hk6⟩
                            have hz6 := hk6.size
                            simp at hz6
                            refine hK.out _ _ (SAB.both trivial (Keep.trans hB hk6)) (fun hSS => ?_)
                            clear hK K hA hB
                            have hB := hSS.2
                            have hA := hSS.1 (by kernel_rfl)
                            (try dsimp only at hB); (try dsimp only at hA); clear hSS
                            try simp only [Act.put, List.setIfInBounds_toArray, List.set_cons_zero, List.set_cons_succ]
                            refine wpL_takeB (i := 6) (v := ?_) rfl (by kernel_rfl) (by kernel_rfl) (by kernel_rfl) (by decide) (fun _ _ _ h => h) (Or.inl ⟨by rfl, ?_⟩) (SAB.both hA hB) ?_
                            rotate_left
                            · intro wx hBx
                              (try dsimp only at hBx)
                              go_simp
                              try with_reducible rfl
                            try simp only [Act.put, List.setIfInBounds_toArray, List.set_cons_zero, List.set_cons_succ]
                            refine wpL_takeB (i := 7) (v := ?_) rfl (by kernel_rfl) (by kernel_rfl) (by kernel_rfl) (by decide) (fun _ _ _ h => h) (Or.inl ⟨by rfl, ?_⟩) (SAB.both hA hB) ?_
                            rotate_left
                            · intro wx hBx
                              (try dsimp only at hBx)
                              go_simp
                              try with_reducible rfl
                            try simp only [Act.put, List.setIfInBounds_toArray, List.set_cons_zero, List.set_cons_succ]
                            refine wpL_takeB (i := 8) (v := ?_) rfl (by kernel_rfl) (by kernel_rfl) (by kernel_rfl) (by decide) (fun _ _ _ h => h) (Or.inl ⟨by rfl, ?_⟩) (SAB.both hA hB) ?_
                            rotate_left
                            · intro wx hBx
                              (try dsimp only at hBx)
                              go_simp
                              try with_reducible rfl
                            try simp only [Act.put, List.setIfInBounds_toArray, List.set_cons_zero, List.set_cons_succ]
                            refine wpL_takeB (i := 9) (v := ?_) rfl (by kernel_rfl) (by kernel_rfl) (by kernel_rfl) (by decide) (fun _ _ _ h => h) (Or.inl ⟨by rfl, ?_⟩) (SAB.both hA hB) ?_
                            rotate_left
                            · intro wx hBx
                              (try dsimp only at hBx)
                              go_simp
                              try with_reducible rfl
                            try simp only [Act.put, List.setIfInBounds_toArray, List.set_cons_zero, List.set_cons_succ]
                            refine wpL_one (i := 12) (by kernel_rfl) (StepL.mk rfl (fun K hK => ?_))
                            refine step_store_blk rfl _ _ _ rfl (w5.heap.size + 1) 0 35 _ cs6 rfl rfl (hk6.blk ((Blk.snd w5 _ _ _).drewN 1) (by simp; try omega)) (by rw [hr6.len]; simp) (info_lk hr6.len) hr6.one ?_
                            intro w8 hb8 hs8
                            rw [splice_all cs6 _ (by rw [hr6.len]; rfl)] at hb8
                            have hB8 := Keep.write hB hs8 (by omega)
                            refine hK.out _ _ (SAB.both trivial hB8) (fun hSS => ?_)
                            clear hK K hA hB
                            have hB := hSS.2
                            have hA := hSS.1 (by kernel_rfl)
                            (try dsimp only at hB); (try dsimp only at hA); clear hSS
                            try simp only [Act.put, List.setIfInBounds_toArray, List.set_cons_zero, List.set_cons_succ]
                            refine wpL_takeB (i := 13) (v := ?_) rfl (by kernel_rfl) (by kernel_rfl) (by kernel_rfl) (by decide) (fun _ _ _ h => h) (Or.inl ⟨by rfl, ?_⟩) (SAB.both hA hB) ?_
                            rotate_left
                            · intro wx hBx
                              (try dsimp only at hBx)
                              go_simp
                              try with_reducible rfl
                            try simp only [Act.put, List.setIfInBounds_toArray, List.set_cons_zero, List.set_cons_succ]
                            refine wpL_one (i := 14) (by kernel_rfl) (StepL.mk rfl (fun K hK => ?_))
                            refine step_store_blk rfl _ _ _ rfl (w5.heap.size) 0 48 _ [.int .i64 0, .int .i64 ((arriveS st.k q).want - 1), .int .i64 0] rfl rfl (hs8.blk (hk6.blk (((Blk.new w5 _ _).alloc _).drewN 1) (by simp; try omega)) (by omega)) (by simp) (by kernel_rfl) rfl ?_
                            intro w9 hb9 hs9
                            rw [splice_all [.int .i64 0, .int .i64 ((arriveS st.k q).want - 1), .int .i64 0] #[.int .i64 0, .int .i64 0, .int .i64 0] rfl] at hb9
                            have hfin := FIN.out _ w6 w9 (w5.heap.size + 1) (w5.heap.size) cs6 A6 n6 c6 (Same.drew (Keep.alloc (Keep.new w5 _) _)) hr6 hd6 hk6 (by omega) (by omega) (by simp <;> omega) (by simp <;> omega) (Same.trans (Same.trans (Same.refl _ _) hs8 (fun i hi => by omega)) hs9 (fun i hi => by omega)) (hs9.blk hb8 (by omega)) hb9
                            refine hK.out _ _ (SAB.both trivial (Keep.write hB hs9 (by omega))) (fun hSS => ?_)
                            clear hK K hA hB
                            have hB := hSS.2
                            have hA := hSS.1 (by kernel_rfl)
                            (try dsimp only at hB); (try dsimp only at hA); clear hSS
                            try simp only [Act.put, List.setIfInBounds_toArray, List.set_cons_zero, List.set_cons_succ]
                            refine wpL_done (by kernel_rfl) ?_
                            have HFIN := Lib.hid hfin
                            clear hfin
                            clear hb8 hs8 hb9 hs9 hr6 hd6 hk6 hA hB hB8
                            go_wp2_with fail
                            go_meet
                            exact HFIN.out
                    case rest =>
                      as_aux_lemma =>
                        obtain ⟨b15, b17, cs15, A16, n16, c16, rfl, rfl, rfl, h15, h17, hB15, hB17, hR15, hD16, hK10⟩ := hcut
                        obtain ⟨w10, rfl⟩ : ∃ w10 : World, w10 = wc := ⟨_, rfl⟩
                        have hz10 := hK10.size
                        have l15 : b15 < w10.heap.size := hB15.lt
                        have l17 : b17 < w10.heap.size := hB17.lt
                        have hn16 : n16 ≤ 1000 := by rw [hD16.1]; exact hdl
                        have lt15 : ∀ i, (Lab w L 0 i ∨ (w5.heap.size ≤ i ∧ i < w10.heap.size ∧ i ≠ b15 ∧ i ≠ b17)) → i < w10.heap.size ∧ i ≠ b15 ∧ i ≠ b17 := fun i hi => hi.elim (fun h => by have := h.1; omega) (fun h => h.2)
                        have HB15 := Lib.hid hB15
                        have HB17 := Lib.hid hB17
                        have HR15 := Lib.hid hR15
                        have HD16 := Lib.hid hD16
                        have HK10 := Lib.hid hK10
                        have LT15 := Lib.hid lt15
                        clear hB15 hB17 hR15 hD16 hK10 lt15
                        go_upto_region 28 with fail
                        go_cut [18, 19, 20] from 174 to 183 (fun sa sb sc wx => CutR w10 (Lab w L 0) (arriveS st.k q) (arriveD st.k q) sa sb sc wx)
                        case first =>
                          as_aux_lemma =>
                            have hA : True := trivial
                            refine wp_region_L 99 (fun _ => True) (fun wx => Keep w10 wx) (by kernel_rfl) trivial (Same.drew (Same.refl _ _)) (fun _ hB => ?_)
                            refine wpL_takeB (i := 0) (v := ?_) rfl (by kernel_rfl) (by kernel_rfl) (by kernel_rfl) (by decide) (fun _ _ _ h => h) (Or.inl ⟨by rfl, ?_⟩) (SAB.both hA hB) ?_
                            rotate_left
                            · intro wx hBx
                              (try dsimp only at hBx)
                              go_simp
                              try with_reducible rfl
                            try simp only [Act.put, List.setIfInBounds_toArray, List.set_cons_zero, List.set_cons_succ]
                            refine wpL_takeB (i := 1) (v := ?_) rfl (by kernel_rfl) (by kernel_rfl) (by kernel_rfl) (by decide) (fun _ _ _ h => h) (Or.inl ⟨by rfl, ?_⟩) (SAB.both hA hB) ?_
                            rotate_left
                            · intro wx hBx
                              (try dsimp only at hBx)
                              go_simp
                              try with_reducible rfl
                            try simp only [Act.put, List.setIfInBounds_toArray, List.set_cons_zero, List.set_cons_succ]
                            refine wpL_takeB (i := 2) (v := ?_) rfl (by kernel_rfl) (by kernel_rfl) (by kernel_rfl) (by decide) (fun _ _ _ h => h) (Or.inl ⟨by rfl, ?_⟩) (SAB.both hA hB) ?_
                            rotate_left
                            · intro wx hBx
                              (try dsimp only at hBx)
                              go_simp
                              try with_reducible rfl
                            try simp only [Act.put, List.setIfInBounds_toArray, List.set_cons_zero, List.set_cons_succ]
                            refine wpL_takeB (i := 3) rfl (by kernel_rfl) (by kernel_rfl) (by kernel_rfl) (by decide) (fun _ _ _ h => h) (yieldsIf_blk (by rfl) _ _ rfl g 0 41 _ (C.k st.k) _ rfl (fun wx hx => hx.blk (HK10.out.blk HBX.out (by omega)) (by omega)) (({ C with A1 := A', n1 := n', c1 := c' } : Cls).sub st.k) Try.underlying35 rfl (by kernel_rfl)) (SAB.both hA hB) ?_
                            try simp only [Act.put, List.setIfInBounds_toArray, List.set_cons_zero, List.set_cons_succ]
                            refine wpL_takeB (i := 4) rfl (by kernel_rfl) (by kernel_rfl) (by kernel_rfl) (by decide) (fun _ _ _ h => h) (yieldsIf_blk (by rfl) _ _ rfl w2.heap.size 0 48 _ (encPk q) _ rfl (fun wx hx => hx.blk (HK10.out.blk HB14'.out (by omega)) (by omega)) (fun j v hv => by simpa using hv) Try.underlying48 rfl (by kernel_rfl)) (SAB.both hA hB) ?_
                            try simp only [Act.put, List.setIfInBounds_toArray, List.set_cons_zero, List.set_cons_succ]
                            have key : ∀ (wa : World), Keep w10 wa → Calls Try.prog 38 #[.agg (C.k st.k).toArray, .agg (encPk q).toArray] wa (ArrPost (arriveS st.k q) (arriveD st.k q) (Lab w L 0) wa) := fun wa ha => rarrive_any wa (Lab w L 0) (C.k st.k) st.k q (fun i hi => by have := hi.1; have := ha.size; omega) (LkR.keep (HLK.out.keep (HK10.out.mono (fun i hi => by have := hi.1; omega))) (ha.mono (fun i hi => by have := hi.1; omega))) (by omega) hw0 (by omega) HIQ.out (by omega) (by omega) HASC.out
                            have fin : ∀ (wa wb wf : World) (b15 b17 : Nat) (cs6 : List Value) (A : Option Addr) (n6 c6 : Nat), Keep w10 wa → LkR wb (fun i => Lab w L 0 i ∨ (wa.heap.size ≤ i ∧ i < wb.heap.size)) cs6 (arriveS st.k q) → Sl encI 1 wb (fun i => wa.heap.size ≤ i ∧ i < wb.heap.size) A n6 c6 (arriveD st.k q) → Keep wa wb → w10.heap.size ≤ b15 → w10.heap.size ≤ b17 → (b15 < wa.heap.size ∨ wb.heap.size ≤ b15) → (b17 < wa.heap.size ∨ wb.heap.size ≤ b17) → Same (fun i => i < wb.heap.size ∧ i ≠ b15 ∧ i ≠ b17) wb wf → Blk wf b15 35 cs6.toArray → Blk wf b17 48 #[.int .i64 0, .int .i64 ((arriveS st.k q).want - 1), .int .i64 0] → CutR w10 (Lab w L 0) (arriveS st.k q) (arriveD st.k q) (.pointer (some ⟨b15, 0, none⟩)) (.slice A n6 c6) (.pointer (some ⟨b17, 0, none⟩)) wf := fun wa wb wf b15 b17 cs6 A n6 c6 ha hr hsl hk h15 h17 d15 d17 hs hb15 hb17 => by
                              have h1 := ha.size
                              have h2 := hk.size
                              have h3 := hs.size
                              have hlt : ∀ i, (Lab w L 0 i ∨ (wa.heap.size ≤ i ∧ i < wb.heap.size)) → i < wb.heap.size ∧ i ≠ b15 ∧ i ≠ b17 := fun i hi => hi.elim (fun h => by have := h.1; omega) (fun h => by omega)
                              refine ⟨b15, b17, cs6, A, n6, c6, rfl, rfl, rfl, h15, h17, hb15, hb17, (hr.keep (hs.mono hlt)).more (fun i hi => ?_), (hsl.keep (hs.mono (fun i hi => hlt i (.inr hi)))).more (fun i hi => ?_), Same.trans (Keep.trans ha hk) hs (fun i hi => by omega)⟩
                              · have := hlt i hi
                                rcases hi with hi | hi
                                · exact .inl hi
                                · exact .inr ⟨by omega, by omega, by omega⟩
                              · have := hlt i (.inr hi)
                                exact ⟨by omega, by omega, by omega⟩
                            have KEY := Lib.hid key
                            have FIN := Lib.hid fin
                            clear key fin
                            refine wpL_three (i := 5) (j := 10) (m := 11) (by kernel_rfl) (StepL.mk rfl (fun K hK => ?_)) (StepL.mk rfl (fun K hK => ?_)) (StepL.mk rfl (fun K hK => ?_))
                            · go_simp
                              refine (KEY.out _ hB).mono ?_
                              rintro e w6 ⟨cs6, A6, n6, c6, rfl, hr6, hd6, hk6⟩
                              have hz6 := hk6.size
                              simp at hz6
                              refine hK.out _ _ (SAB.both trivial (Keep.trans hB hk6)) (fun hSS => ?_)
                              clear hK K hA hB
                              have hB := hSS.2
                              have hA := hSS.1 (by kernel_rfl)
                              (try dsimp only at hB); (try dsimp only at hA); clear hSS
                              try simp only [Act.put, List.setIfInBounds_toArray, List.set_cons_zero, List.set_cons_succ]
                              refine wpL_takeB (i := 6) (v := ?_) rfl (by kernel_rfl) (by kernel_rfl) (by kernel_rfl) (by decide) (fun _ _ _ h => h) (Or.inl ⟨by rfl, ?_⟩) (SAB.both hA hB) ?_
                              rotate_left
                              · intro wx hBx
                                (try dsimp only at hBx)
                                go_simp
                                try with_reducible rfl
                              try simp only [Act.put, List.setIfInBounds_toArray, List.set_cons_zero, List.set_cons_succ]
                              refine wpL_takeB (i := 7) (v := ?_) rfl (by kernel_rfl) (by kernel_rfl) (by kernel_rfl) (by decide) (fun _ _ _ h => h) (Or.inl ⟨by rfl, ?_⟩) (SAB.both hA hB) ?_
                              rotate_left
                              · intro wx hBx
                                (try dsimp only at hBx)
                                go_simp
                                try with_reducible rfl
                              try simp only [Act.put, List.setIfInBounds_toArray, List.set_cons_zero, List.set_cons_succ]
                              refine wpL_takeB (i := 8) (v := ?_) rfl (by kernel_rfl) (by kernel_rfl) (by kernel_rfl) (by decide) (fun _ _ _ h => h) (Or.inl ⟨by rfl, ?_⟩) (SAB.both hA hB) ?_
                              rotate_left
                              · intro wx hBx
                                (try dsimp only at hBx)
                                go_simp
                                try with_reducible rfl
                              try simp only [Act.put, List.setIfInBounds_toArray, List.set_cons_zero, List.set_cons_succ]
                              refine wpL_takeB (i := 9) (v := ?_) rfl (by kernel_rfl) (by kernel_rfl) (by kernel_rfl) (by decide) (fun _ _ _ h => h) (Or.inl ⟨by rfl, ?_⟩) (SAB.both hA hB) ?_
                              rotate_left
                              · intro wx hBx
                                (try dsimp only at hBx)
                                go_simp
                                try with_reducible rfl
                              try simp only [Act.put, List.setIfInBounds_toArray, List.set_cons_zero, List.set_cons_succ]
                              refine wpL_two (i := 10) (j := 11) (by kernel_rfl) (StepL.mk rfl (fun K hK => ?_)) (StepL.mk rfl (fun K hK => ?_))
                              · go_simp
                                refine hK.out _ _ (SAB.both trivial (Keep.alloc hB _)) (fun hSS => ?_)
                                clear hK K hA hB
                                have hB := hSS.2
                                have hA := hSS.1 (by kernel_rfl)
                                (try dsimp only at hB); (try dsimp only at hA); clear hSS
                                try simp only [Act.put, List.setIfInBounds_toArray, List.set_cons_zero, List.set_cons_succ]
                                refine wpL_one (i := 11) (by kernel_rfl) (StepL.mk rfl (fun K hK => ?_))
                                go_simp
                                refine hK.out _ _ (SAB.both trivial (Keep.alloc hB _)) (fun hSS => ?_)
                                clear hK K hA hB
                                have hB := hSS.2
                                have hA := hSS.1 (by kernel_rfl)
                                (try dsimp only at hB); (try dsimp only at hA); clear hSS
                                try simp only [Act.put, List.setIfInBounds_toArray, List.set_cons_zero, List.set_cons_succ]
                                refine wpL_one (i := 12) (by kernel_rfl) (StepL.mk rfl (fun K hK => ?_))
                                refine step_store_blk rfl _ _ _ rfl (w6.heap.size) 0 35 _ cs6 rfl rfl ((Blk.new w6 _ _).alloc _) (by rw [hr6.len]; simp) (info_lk hr6.len) hr6.one ?_
                                intro w8 hb8 hs8
                                rw [splice_all cs6 _ (by rw [hr6.len]; rfl)] at hb8
                                have hB8 := Keep.write hB hs8 (by omega)
                                refine hK.out _ _ (SAB.both trivial hB8) (fun hSS => ?_)
                                clear hK K hA hB
                                have hB := hSS.2
                                have hA := hSS.1 (by kernel_rfl)
                                (try dsimp only at hB); (try dsimp only at hA); clear hSS
                                try simp only [Act.put, List.setIfInBounds_toArray, List.set_cons_zero, List.set_cons_succ]
                                refine wpL_takeB (i := 13) (v := ?_) rfl (by kernel_rfl) (by kernel_rfl) (by kernel_rfl) (by decide) (fun _ _ _ h => h) (Or.inl ⟨by rfl, ?_⟩) (SAB.both hA hB) ?_
                                rotate_left
                                · intro wx hBx
                                  (try dsimp only at hBx)
                                  go_simp
                                  try with_reducible rfl
                                try simp only [Act.put, List.setIfInBounds_toArray, List.set_cons_zero, List.set_cons_succ]
                                refine wpL_one (i := 14) (by kernel_rfl) (StepL.mk rfl (fun K hK => ?_))
                                refine step_store_blk rfl _ _ _ rfl (w6.heap.size + 1) 0 48 _ [.int .i64 0, .int .i64 ((arriveS st.k q).want - 1), .int .i64 0] rfl rfl (hs8.blk (Blk.snd w6 _ _ _) (by omega)) (by simp) (by kernel_rfl) rfl ?_
                                intro w9 hb9 hs9
                                rw [splice_all [.int .i64 0, .int .i64 ((arriveS st.k q).want - 1), .int .i64 0] #[.int .i64 0, .int .i64 0, .int .i64 0] rfl] at hb9
                                have hfin := FIN.out _ w6 w9 (w6.heap.size) (w6.heap.size + 1) cs6 A6 n6 c6 (Same.drew (Same.refl _ _)) hr6 hd6 hk6 (by omega) (by omega) (by simp <;> omega) (by simp <;> omega) (Same.trans (Same.trans (Same.mono (Keep.alloc (Keep.new w6 _) _) (fun i hi => hi.1)) hs8 (fun i hi => by omega)) hs9 (fun i hi => by omega)) (hs9.blk hb8 (by omega)) hb9
                                refine hK.out _ _ (SAB.both trivial (Keep.write hB hs9 (by omega))) (fun hSS => ?_)
                                clear hK K hA hB
                                have hB := hSS.2
                                have hA := hSS.1 (by kernel_rfl)
                                (try dsimp only at hB); (try dsimp only at hA); clear hSS
                                try simp only [Act.put, List.setIfInBounds_toArray, List.set_cons_zero, List.set_cons_succ]
                                refine wpL_done (by kernel_rfl) ?_
                                have HFIN := Lib.hid hfin
                                clear hfin
                                clear hb8 hs8 hb9 hs9 hr6 hd6 hk6 hA hB hB8
                                go_wp2_with fail
                                go_meet
                                exact HFIN.out
                              · go_simp
                                refine hK.out _ _ (SAB.both trivial (Keep.alloc hB _)) (fun hSS => ?_)
                                clear hK K hA hB
                                have hB := hSS.2
                                have hA := hSS.1 (by kernel_rfl)
                                (try dsimp only at hB); (try dsimp only at hA); clear hSS
                                try simp only [Act.put, List.setIfInBounds_toArray, List.set_cons_zero, List.set_cons_succ]
                                refine wpL_one (i := 10) (by kernel_rfl) (StepL.mk rfl (fun K hK => ?_))
                                go_simp
                                refine hK.out _ _ (SAB.both trivial (Keep.alloc hB _)) (fun hSS => ?_)
                                clear hK K hA hB
                                have hB := hSS.2
                                have hA := hSS.1 (by kernel_rfl)
                                (try dsimp only at hB); (try dsimp only at hA); clear hSS
                                try simp only [Act.put, List.setIfInBounds_toArray, List.set_cons_zero, List.set_cons_succ]
                                refine wpL_one (i := 12) (by kernel_rfl) (StepL.mk rfl (fun K hK => ?_))
                                refine step_store_blk rfl _ _ _ rfl (w6.heap.size + 1) 0 35 _ cs6 rfl rfl (Blk.snd w6 _ _ _) (by rw [hr6.len]; simp) (info_lk hr6.len) hr6.one ?_
                                intro w8 hb8 hs8
                                rw [splice_all cs6 _ (by rw [hr6.len]; rfl)] at hb8
                                have hB8 := Keep.write hB hs8 (by omega)
                                refine hK.out _ _ (SAB.both trivial hB8) (fun hSS => ?_)
                                clear hK K hA hB
                                have hB := hSS.2
                                have hA := hSS.1 (by kernel_rfl)
                                (try dsimp only at hB); (try dsimp only at hA); clear hSS
                                try simp only [Act.put, List.setIfInBounds_toArray, List.set_cons_zero, List.set_cons_succ]
                                refine wpL_takeB (i := 13) (v := ?_) rfl (by kernel_rfl) (by kernel_rfl) (by kernel_rfl) (by decide) (fun _ _ _ h => h) (Or.inl ⟨by rfl, ?_⟩) (SAB.both hA hB) ?_
                                rotate_left
                                · intro wx hBx
                                  (try dsimp only at hBx)
                                  go_simp
                                  try with_reducible rfl
                                try simp only [Act.put, List.setIfInBounds_toArray, List.set_cons_zero, List.set_cons_succ]
                                refine wpL_one (i := 14) (by kernel_rfl) (StepL.mk rfl (fun K hK => ?_))
                                refine step_store_blk rfl _ _ _ rfl (w6.heap.size) 0 48 _ [.int .i64 0, .int .i64 ((arriveS st.k q).want - 1), .int .i64 0] rfl rfl (hs8.blk ((Blk.new w6 _ _).alloc _) (by omega)) (by simp) (by kernel_rfl) rfl ?_
                                intro w9 hb9 hs9
                                rw [splice_all [.int .i64 0, .int .i64 ((arriveS st.k q).want - 1), .int .i64 0] #[.int .i64 0, .int .i64 0, .int .i64 0] rfl] at hb9
                                have hfin := FIN.out _ w6 w9 (w6.heap.size + 1) (w6.heap.size) cs6 A6 n6 c6 (Same.drew (Same.refl _ _)) hr6 hd6 hk6 (by omega) (by omega) (by simp <;> omega) (by simp <;> omega) (Same.trans (Same.trans (Same.mono (Keep.alloc (Keep.new w6 _) _) (fun i hi => hi.1)) hs8 (fun i hi => by omega)) hs9 (fun i hi => by omega)) (hs9.blk hb8 (by omega)) hb9
                                refine hK.out _ _ (SAB.both trivial (Keep.write hB hs9 (by omega))) (fun hSS => ?_)
                                clear hK K hA hB
                                have hB := hSS.2
                                have hA := hSS.1 (by kernel_rfl)
                                (try dsimp only at hB); (try dsimp only at hA); clear hSS
                                try simp only [Act.put, List.setIfInBounds_toArray, List.set_cons_zero, List.set_cons_succ]
                                refine wpL_done (by kernel_rfl) ?_
                                have HFIN := Lib.hid hfin
                                clear hfin
                                clear hb8 hs8 hb9 hs9 hr6 hd6 hk6 hA hB hB8
                                go_wp2_with fail
                                go_meet
                                exact HFIN.out
                            · go_simp
                              refine hK.out _ _ (SAB.both trivial (Same.drew (Keep.new w10 _))) (fun hSS => ?_)
                              clear hK K hA hB
                              have hB := hSS.2
                              have hA := hSS.1 (by kernel_rfl)
                              (try dsimp only at hB); (try dsimp only at hA); clear hSS
                              try simp only [Act.put, List.setIfInBounds_toArray, List.set_cons_zero, List.set_cons_succ]
                              refine wpL_two (i := 5) (j := 11) (by kernel_rfl) (StepL.mk rfl (fun K hK => ?_)) (StepL.mk rfl (fun K hK => ?_))
                              · go_simp
                                refine (KEY.out _ hB).mono ?_
                                rintro e w6 ⟨cs6, A6, n6, c6, rfl, hr6, hd6, hk6⟩
                                have hz6 := hk6.size
                                simp at hz6
                                refine hK.out _ _ (SAB.both trivial (Keep.trans hB hk6)) (fun hSS => ?_)
                                clear hK K hA hB
                                have hB := hSS.2
                                have hA := hSS.1 (by kernel_rfl)
                                (try dsimp only at hB); (try dsimp only at hA); clear hSS
                                try simp only [Act.put, List.setIfInBounds_toArray, List.set_cons_zero, List.set_cons_succ]
                                refine wpL_takeB (i := 6) (v := ?_) rfl (by kernel_rfl) (by kernel_rfl) (by kernel_rfl) (by decide) (fun _ _ _ h => h) (Or.inl ⟨by rfl, ?_⟩) (SAB.both hA hB) ?_
                                rotate_left
                                · intro wx hBx
                                  (try dsimp only at hBx)
                                  go_simp
                                  try with_reducible rfl
                                try simp only [Act.put, List.setIfInBounds_toArray, List.set_cons_zero, List.set_cons_succ]
                                refine wpL_takeB (i := 7) (v := ?_) rfl (by kernel_rfl) (by kernel_rfl) (by kernel_rfl) (by decide) (fun _ _ _ h => h) (Or.inl ⟨by rfl, ?_⟩) (SAB.both hA hB) ?_
                                rotate_left
                                · intro wx hBx
                                  (try dsimp only at hBx)
                                  go_simp
                                  try with_reducible rfl
                                try simp only [Act.put, List.setIfInBounds_toArray, List.set_cons_zero, List.set_cons_succ]
                                refine wpL_takeB (i := 8) (v := ?_) rfl (by kernel_rfl) (by kernel_rfl) (by kernel_rfl) (by decide) (fun _ _ _ h => h) (Or.inl ⟨by rfl, ?_⟩) (SAB.both hA hB) ?_
                                rotate_left
                                · intro wx hBx
                                  (try dsimp only at hBx)
                                  go_simp
                                  try with_reducible rfl
                                try simp only [Act.put, List.setIfInBounds_toArray, List.set_cons_zero, List.set_cons_succ]
                                refine wpL_takeB (i := 9) (v := ?_) rfl (by kernel_rfl) (by kernel_rfl) (by kernel_rfl) (by decide) (fun _ _ _ h => h) (Or.inl ⟨by rfl, ?_⟩) (SAB.both hA hB) ?_
                                rotate_left
                                · intro wx hBx
                                  (try dsimp only at hBx)
                                  go_simp
                                  try with_reducible rfl
                                try simp only [Act.put, List.setIfInBounds_toArray, List.set_cons_zero, List.set_cons_succ]
                                refine wpL_one (i := 11) (by kernel_rfl) (StepL.mk rfl (fun K hK => ?_))
                                go_simp
                                refine hK.out _ _ (SAB.both trivial (Keep.alloc hB _)) (fun hSS => ?_)
                                clear hK K hA hB
                                have hB := hSS.2
                                have hA := hSS.1 (by kernel_rfl)
                                (try dsimp only at hB); (try dsimp only at hA); clear hSS
                                try simp only [Act.put, List.setIfInBounds_toArray, List.set_cons_zero, List.set_cons_succ]
                                refine wpL_one (i := 12) (by kernel_rfl) (StepL.mk rfl (fun K hK => ?_))
                                refine step_store_blk rfl _ _ _ rfl (w10.heap.size) 0 35 _ cs6 rfl rfl ((hk6.blk ((Blk.new w10 _ _).drewN 1) (by simp; try omega)).alloc _) (by rw [hr6.len]; simp) (info_lk hr6.len) hr6.one ?_
                                intro w8 hb8 hs8
                                rw [splice_all cs6 _ (by rw [hr6.len]; rfl)] at hb8
                                have hB8 := Keep.write hB hs8 (by omega)
                                refine hK.out _ _ (SAB.both trivial hB8) (fun hSS => ?_)
                                clear hK K hA hB
                                have hB := hSS.2
                                have hA := hSS.1 (by kernel_rfl)
                                (try dsimp only at hB); (try dsimp only at hA); clear hSS
                                try simp only [Act.put, List.setIfInBounds_toArray, List.set_cons_zero, List.set_cons_succ]
                                refine wpL_takeB (i := 13) (v := ?_) rfl (by kernel_rfl) (by kernel_rfl) (by kernel_rfl) (by decide) (fun _ _ _ h => h) (Or.inl ⟨by rfl, ?_⟩) (SAB.both hA hB) ?_
                                rotate_left
                                · intro wx hBx
                                  (try dsimp only at hBx)
                                  go_simp
                                  try with_reducible rfl
                                try simp only [Act.put, List.setIfInBounds_toArray, List.set_cons_zero, List.set_cons_succ]
                                refine wpL_one (i := 14) (by kernel_rfl) (StepL.mk rfl (fun K hK => ?_))
                                refine step_store_blk rfl _ _ _ rfl (w6.heap.size) 0 48 _ [.int .i64 0, .int .i64 ((arriveS st.k q).want - 1), .int .i64 0] rfl rfl (hs8.blk (Blk.new w6 _ _) (by omega)) (by simp) (by kernel_rfl) rfl ?_
                                intro w9 hb9 hs9
                                rw [splice_all [.int .i64 0, .int .i64 ((arriveS st.k q).want - 1), .int .i64 0] #[.int .i64 0, .int .i64 0, .int .i64 0] rfl] at hb9
                                have hfin := FIN.out _ w6 w9 (w10.heap.size) (w6.heap.size) cs6 A6 n6 c6 (Same.drew (Keep.new w10 _)) hr6 hd6 hk6 (by omega) (by omega) (by simp <;> omega) (by simp <;> omega) (Same.trans (Same.trans (Same.mono (Keep.new w6 _) (fun i hi => hi.1)) hs8 (fun i hi => by omega)) hs9 (fun i hi => by omega)) (hs9.blk hb8 (by omega)) hb9
                                refine hK.out _ _ (SAB.both trivial (Keep.write hB hs9 (by omega))) (fun hSS => ?_)
                                clear hK K hA hB
                                have hB := hSS.2
                                have hA := hSS.1 (by kernel_rfl)
                                (try dsimp only at hB); (try dsimp only at hA); clear hSS
                                try simp only [Act.put, List.setIfInBounds_toArray, List.set_cons_zero, List.set_cons_succ]
                                refine wpL_done (by kernel_rfl) ?_
                                have HFIN := Lib.hid hfin
                                clear hfin
                                clear hb8 hs8 hb9 hs9 hr6 hd6 hk6 hA hB hB8
                                go_wp2_with fail
                                go_meet
                                exact HFIN.out
                              · go_simp
                                refine hK.out _ _ (SAB.both trivial (Same.drew (Keep.alloc (Keep.new w10 _) _))) (fun hSS => ?_)
                                clear hK K hA hB
                                have hB := hSS.2
                                have hA := hSS.1 (by kernel_rfl)
                                (try dsimp only at hB); (try dsimp only at hA); clear hSS
                                try simp only [Act.put, List.setIfInBounds_toArray, List.set_cons_zero, List.set_cons_succ]
                                refine wpL_one (i := 5) (by kernel_rfl) (StepL.mk rfl (fun K hK => ?_))
                                go_simp
                                refine (KEY.out _ hB).mono ?_
                                rintro e w6 ⟨cs6, A6, n6, c6, rfl, hr6, hd6, hk6⟩
                                have hz6 := hk6.size
                                simp at hz6
                                refine hK.out _ _ (SAB.both trivial (Keep.trans hB hk6)) (fun hSS => ?_)
                                clear hK K hA hB
                                have hB := hSS.2
                                have hA := hSS.1 (by kernel_rfl)
                                (try dsimp only at hB); (try dsimp only at hA); clear hSS
                                try simp only [Act.put, List.setIfInBounds_toArray, List.set_cons_zero, List.set_cons_succ]
                                refine wpL_takeB (i := 6) (v := ?_) rfl (by kernel_rfl) (by kernel_rfl) (by kernel_rfl) (by decide) (fun _ _ _ h => h) (Or.inl ⟨by rfl, ?_⟩) (SAB.both hA hB) ?_
                                rotate_left
                                · intro wx hBx
                                  (try dsimp only at hBx)
                                  go_simp
                                  try with_reducible rfl
                                try simp only [Act.put, List.setIfInBounds_toArray, List.set_cons_zero, List.set_cons_succ]
                                refine wpL_takeB (i := 7) (v := ?_) rfl (by kernel_rfl) (by kernel_rfl) (by kernel_rfl) (by decide) (fun _ _ _ h => h) (Or.inl ⟨by rfl, ?_⟩) (SAB.both hA hB) ?_
                                rotate_left
                                · intro wx hBx
                                  (try dsimp only at hBx)
                                  go_simp
                                  try with_reducible rfl
                                try simp only [Act.put, List.setIfInBounds_toArray, List.set_cons_zero, List.set_cons_succ]
                                refine wpL_takeB (i := 8) (v := ?_) rfl (by kernel_rfl) (by kernel_rfl) (by kernel_rfl) (by decide) (fun _ _ _ h => h) (Or.inl ⟨by rfl, ?_⟩) (SAB.both hA hB) ?_
                                rotate_left
                                · intro wx hBx
                                  (try dsimp only at hBx)
                                  go_simp
                                  try with_reducible rfl
                                try simp only [Act.put, List.setIfInBounds_toArray, List.set_cons_zero, List.set_cons_succ]
                                refine wpL_takeB (i := 9) (v := ?_) rfl (by kernel_rfl) (by kernel_rfl) (by kernel_rfl) (by decide) (fun _ _ _ h => h) (Or.inl ⟨by rfl, ?_⟩) (SAB.both hA hB) ?_
                                rotate_left
                                · intro wx hBx
                                  (try dsimp only at hBx)
                                  go_simp
                                  try with_reducible rfl
                                try simp only [Act.put, List.setIfInBounds_toArray, List.set_cons_zero, List.set_cons_succ]
                                refine wpL_one (i := 12) (by kernel_rfl) (StepL.mk rfl (fun K hK => ?_))
                                refine step_store_blk rfl _ _ _ rfl (w10.heap.size) 0 35 _ cs6 rfl rfl (hk6.blk (((Blk.new w10 _ _).alloc _).drewN 1) (by simp; try omega)) (by rw [hr6.len]; simp) (info_lk hr6.len) hr6.one ?_
                                intro w8 hb8 hs8
                                rw [splice_all cs6 _ (by rw [hr6.len]; rfl)] at hb8
                                have hB8 := Keep.write hB hs8 (by omega)
                                refine hK.out _ _ (SAB.both trivial hB8) (fun hSS => ?_)
                                clear hK K hA hB
                                have hB := hSS.2
                                have hA := hSS.1 (by kernel_rfl)
                                (try dsimp only at hB); (try dsimp only at hA); clear hSS
                                try simp only [Act.put, List.setIfInBounds_toArray, List.set_cons_zero, List.set_cons_succ]
                                refine wpL_takeB (i := 13) (v := ?_) rfl (by kernel_rfl) (by kernel_rfl) (by kernel_rfl) (by decide) (fun _ _ _ h => h) (Or.inl ⟨by rfl, ?_⟩) (SAB.both hA hB) ?_
                                rotate_left
                                · intro wx hBx
                                  (try dsimp only at hBx)
                                  go_simp
                                  try with_reducible rfl
                                try simp only [Act.put, List.setIfInBounds_toArray, List.set_cons_zero, List.set_cons_succ]
                                refine wpL_one (i := 14) (by kernel_rfl) (StepL.mk rfl (fun K hK => ?_))
                                refine step_store_blk rfl _ _ _ rfl (w10.heap.size + 1) 0 48 _ [.int .i64 0, .int .i64 ((arriveS st.k q).want - 1), .int .i64 0] rfl rfl (hs8.blk (hk6.blk ((Blk.snd w10 _ _ _).drewN 1) (by simp; try omega)) (by omega)) (by simp) (by kernel_rfl) rfl ?_
                                intro w9 hb9 hs9
                                rw [splice_all [.int .i64 0, .int .i64 ((arriveS st.k q).want - 1), .int .i64 0] #[.int .i64 0, .int .i64 0, .int .i64 0] rfl] at hb9
                                have hfin := FIN.out _ w6 w9 (w10.heap.size) (w10.heap.size + 1) cs6 A6 n6 c6 (Same.drew (Keep.alloc (Keep.new w10 _) _)) hr6 hd6 hk6 (by omega) (by omega) (by simp <;> omega) (by simp <;> omega) (Same.trans (Same.trans (Same.refl _ _) hs8 (fun i hi => by omega)) hs9 (fun i hi => by omega)) (hs9.blk hb8 (by omega)) hb9
                                refine hK.out _ _ (SAB.both trivial (Keep.write hB hs9 (by omega))) (fun hSS => ?_)
                                clear hK K hA hB
                                have hB := hSS.2
                                have hA := hSS.1 (by kernel_rfl)
                                (try dsimp only at hB); (try dsimp only at hA); clear hSS
                                try simp only [Act.put, List.setIfInBounds_toArray, List.set_cons_zero, List.set_cons_succ]
                                refine wpL_done (by kernel_rfl) ?_
                                have HFIN := Lib.hid hfin
                                clear hfin
                                clear hb8 hs8 hb9 hs9 hr6 hd6 hk6 hA hB hB8
                                go_wp2_with fail
                                go_meet
                                exact HFIN.out
                            · go_simp
                              refine hK.out _ _ (SAB.both trivial (Same.drew (Keep.new w10 _))) (fun hSS => ?_)
                              clear hK K hA hB
                              have hB := hSS.2
                              have hA := hSS.1 (by kernel_rfl)
                              (try dsimp only at hB); (try dsimp only at hA); clear hSS
                              try simp only [Act.put, List.setIfInBounds_toArray, List.set_cons_zero, List.set_cons_succ]
                              refine wpL_two (i := 5) (j := 10) (by kernel_rfl) (StepL.mk rfl (fun K hK => ?_)) (StepL.mk rfl (fun K hK => ?_))
                              · go_simp
                                refine (KEY.out _ hB).mono ?_
                                rintro e w6 ⟨cs6, A6, n6, c6, rfl, hr6, hd6, hk6⟩
                                have hz6 := hk6.size
                                simp at hz6
                                refine hK.out _ _ (SAB.both trivial (Keep.trans hB hk6)) (fun hSS => ?_)
                                clear hK K hA hB
                                have hB := hSS.2
                                have hA := hSS.1 (by kernel_rfl)
                                (try dsimp only at hB); (try dsimp only at hA); clear hSS
                                try simp only [Act.put, List.setIfInBounds_toArray, List.set_cons_zero, List.set_cons_succ]
                                refine wpL_takeB (i := 6) (v := ?_) rfl (by kernel_rfl) (by kernel_rfl) (by kernel_rfl) (by decide) (fun _ _ _ h => h) (Or.inl ⟨by rfl, ?_⟩) (SAB.both hA hB) ?_
                                rotate_left
                                · intro wx hBx
                                  (try dsimp only at hBx)
                                  go_simp
                                  try with_reducible rfl
                                try simp only [Act.put, List.setIfInBounds_toArray, List.set_cons_zero, List.set_cons_succ]
                                refine wpL_takeB (i := 7) (v := ?_) rfl (by kernel_rfl) (by kernel_rfl) (by kernel_rfl) (by decide) (fun _ _ _ h => h) (Or.inl ⟨by rfl, ?_⟩) (SAB.both hA hB) ?_
                                rotate_left
                                · intro wx hBx
                                  (try dsimp only at hBx)
                                  go_simp
                                  try with_reducible rfl
                                try simp only [Act.put, List.setIfInBounds_toArray, List.set_cons_zero, List.set_cons_succ]
                                refine wpL_takeB (i := 8) (v := ?_) rfl (by kernel_rfl) (by kernel_rfl) (by kernel_rfl) (by decide) (fun _ _ _ h => h) (Or.inl ⟨by rfl, ?_⟩) (SAB.both hA hB) ?_
                                rotate_left
                                · intro wx hBx
                                  (try dsimp only at hBx)
                                  go_simp
                                  try with_reducible rfl
                                try simp only [Act.put, List.setIfInBounds_toArray, List.set_cons_zero, List.set_cons_succ]
                                refine wpL_takeB (i := 9) (v := ?_) rfl (by kernel_rfl) (by kernel_rfl) (by kernel_rfl) (by decide) (fun _ _ _ h => h) (Or.inl ⟨by rfl, ?_⟩) (SAB.both hA hB) ?_
                                rotate_left
                                · intro wx hBx
                                  (try dsimp only at hBx)
                                  go_simp
                                  try with_reducible rfl
                                try simp only [Act.put, List.setIfInBounds_toArray, List.set_cons_zero, List.set_cons_succ]
                                refine wpL_one (i := 10) (by kernel_rfl) (StepL.mk rfl (fun K hK => ?_))
                                go_simp
                                refine hK.out _ _ (SAB.both trivial (Keep.alloc hB _)) (fun hSS => ?_)
                                clear hK K hA hB
                                have hB := hSS.2
                                have hA := hSS.1 (by kernel_rfl)
                                (try dsimp only at hB); (try dsimp only at hA); clear hSS
                                try simp only [Act.put, List.setIfInBounds_toArray, List.set_cons_zero, List.set_cons_succ]
                                refine wpL_one (i := 12) (by kernel_rfl) (StepL.mk rfl (fun K hK => ?_))
                                refine step_store_blk rfl _ _ _ rfl (w6.heap.size) 0 35 _ cs6 rfl rfl (Blk.new w6 _ _) (by rw [hr6.len]; simp) (info_lk hr6.len) hr6.one ?_
                                intro w8 hb8 hs8
                                rw [splice_all cs6 _ (by rw [hr6.len]; rfl)] at hb8
                                have hB8 := Keep.write hB hs8 (by omega)
                                refine hK.out _ _ (SAB.both trivial hB8) (fun hSS => ?_)
                                clear hK K hA hB
                                have hB := hSS.2
                                have hA := hSS.1 (by kernel_rfl)
                                (try dsimp only at hB); (try dsimp only at hA); clear hSS
                                try simp only [Act.put, List.setIfInBounds_toArray, List.set_cons_zero, List.set_cons_succ]
                                refine wpL_takeB (i := 13) (v := ?_) rfl (by kernel_rfl) (by kernel_rfl) (by kernel_rfl) (by decide) (fun _ _ _ h => h) (Or.inl ⟨by rfl, ?_⟩) (SAB.both hA hB) ?_
                                rotate_left
                                · intro wx hBx
                                  (try dsimp only at hBx)
                                  go_simp
                                  try with_reducible rfl
                                try simp only [Act.put, List.setIfInBounds_toArray, List.set_cons_zero, List.set_cons_succ]
                                refine wpL_one (i := 14) (by kernel_rfl) (StepL.mk rfl (fun K hK => ?_))
                                refine step_store_blk rfl _ _ _ rfl (w10.heap.size) 0 48 _ [.int .i64 0, .int .i64 ((arriveS st.k q).want - 1), .int .i64 0] rfl rfl (hs8.blk ((hk6.blk ((Blk.new w10 _ _).drewN 1) (by simp; try omega)).alloc _) (by omega)) (by simp) (by kernel_rfl) rfl ?_
                                intro w9 hb9 hs9
                                rw [splice_all [.int .i64 0, .int .i64 ((arriveS st.k q).want - 1), .int .i64 0] #[.int .i64 0, .int .i64 0, .int .i64 0] rfl] at hb9
                                have hfin := FIN.out _ w6 w9 (w6.heap.size) (w10.heap.size) cs6 A6 n6 c6 (Same.drew (Keep.new w10 _)) hr6 hd6 hk6 (by omega) (by omega) (by simp <;> omega) (by simp <;> omega) (Same.trans (Same.trans (Same.mono (Keep.new w6 _) (fun i hi => hi.1)) hs8 (fun i hi => by omega)) hs9 (fun i hi => by omega)) (hs9.blk hb8 (by omega)) hb9
                                refine hK.out _ _ (SAB.both trivial (Keep.write hB hs9 (by omega))) (fun hSS => ?_)
                                clear hK K hA hB
                                have hB := hSS.2
                                have hA := hSS.1 (by kernel_rfl)
                                (try dsimp only at hB); (try dsimp only at hA); clear hSS
                                try simp only [Act.put, List.setIfInBounds_toArray, List.set_cons_zero, List.set_cons_succ]
                                refine wpL_done (by kernel_rfl) ?_
                                have HFIN := Lib.hid hfin
                                clear hfin
                                clear hb8 hs8 hb9 hs9 hr6 hd6 hk6 hA hB hB8
                                go_wp2_with fail
                                go_meet
                                exact HFIN.out
                              · go_simp
                                refine hK.out _ _ (SAB.both trivial (Same.drew (Keep.alloc (Keep.new w10 _) _))) (fun hSS => ?_)
                                clear hK K hA hB
                                have hB := hSS.2
                                have hA := hSS.1 (by kernel_rfl)
                                (try dsimp only at hB); (try dsimp only at hA); clear hSS
                                try simp only [Act.put, List.setIfInBounds_toArray, List.set_cons_zero, List.set_cons_succ]
                                refine wpL_one (i := 5) (by kernel_rfl) (StepL.mk rfl (fun K hK => ?_))
                                go_simp
                                refine (KEY.out _ hB).mono ?_
                                rintro e w6 ⟨cs6, A6, n6, c6, rfl, hr6, hd6, hk6⟩
                                have hz6 := hk6.size
                                simp at hz6
                                refine hK.out _ _ (SAB.both trivial (Keep.trans hB hk6)) (fun hSS => ?_)
                                clear hK K hA hB
                                have hB := hSS.2
                                have hA := hSS.1 (by kernel_rfl)
                                (try dsimp only at hB); (try dsimp only at hA); clear hSS
                                try simp only [Act.put, List.setIfInBounds_toArray, List.set_cons_zero, List.set_cons_succ]
                                refine wpL_takeB (i := 6) (v := ?_) rfl (by kernel_rfl) (by kernel_rfl) (by kernel_rfl) (by decide) (fun _ _ _ h => h) (Or.inl ⟨by rfl, ?_⟩) (SAB.both hA hB) ?_
                                rotate_left
                                · intro wx hBx
                                  (try dsimp only at hBx)
                                  go_simp
                                  try with_reducible rfl
                                try simp only [Act.put, List.setIfInBounds_toArray, List.set_cons_zero, List.set_cons_succ]
                                refine wpL_takeB (i := 7) (v := ?_) rfl (by kernel_rfl) (by kernel_rfl) (by kernel_rfl) (by decide) (fun _ _ _ h => h) (Or.inl ⟨by rfl, ?_⟩) (SAB.both hA hB) ?_
                                rotate_left
                                · intro wx hBx
                                  (try dsimp only at hBx)
                                  go_simp
                                  try with_reducible rfl
                                try simp only [Act.put, List.setIfInBounds_toArray, List.set_cons_zero, List.set_cons_succ]
                                refine wpL_takeB (i := 8) (v := ?_) rfl (by kernel_rfl) (by kernel_rfl) (by kernel_rfl) (by decide) (fun _ _ _ h => h) (Or.inl ⟨by rfl, ?_⟩) (SAB.both hA hB) ?_
                                rotate_left
                                · intro wx hBx
                                  (try dsimp only at hBx)
                                  go_simp
                                  try with_reducible rfl
                                try simp only [Act.put, List.setIfInBounds_toArray, List.set_cons_zero, List.set_cons_succ]
                                refine wpL_takeB (i := 9) (v := ?_) rfl (by kernel_rfl) (by kernel_rfl) (by kernel_rfl) (by decide) (fun _ _ _ h => h) (Or.inl ⟨by rfl, ?_⟩) (SAB.both hA hB) ?_
                                rotate_left
                                · intro wx hBx
                                  (try dsimp only at hBx)
                                  go_simp
                                  try with_reducible rfl
                                try simp only [Act.put, List.setIfInBounds_toArray, List.set_cons_zero, List.set_cons_succ]
                                refine wpL_one (i := 12) (by kernel_rfl) (StepL.mk rfl (fun K hK => ?_))
                                refine step_store_blk rfl _ _ _ rfl (w10.heap.size + 1) 0 35 _ cs6 rfl rfl (hk6.blk ((Blk.snd w10 _ _ _).drewN 1) (by simp; try omega)) (by rw [hr6.len]; simp) (info_lk hr6.len) hr6.one ?_
                                intro w8 hb8 hs8
                                rw [splice_all cs6 _ (by rw [hr6.len]; rfl)] at hb8
                                have hB8 := Keep.write hB hs8 (by omega)
                                refine hK.out _ _ (SAB.both trivial hB8) (fun hSS => ?_)
                                clear hK K hA hB
                                have hB := hSS.2
                                have hA := hSS.1 (by kernel_rfl)
                                (try dsimp only at hB); (try dsimp only at hA); clear hSS
                                try simp only [Act.put, List.setIfInBounds_toArray, List.set_cons_zero, List.set_cons_succ]
                                refine wpL_takeB (i := 13) (v := ?_) rfl (by kernel_rfl) (by kernel_rfl) (by kernel_rfl) (by decide) (fun _ _ _ h => h) (Or.inl ⟨by rfl, ?_⟩) (SAB.both hA hB) ?_
                                rotate_left
                                · intro wx hBx
                                  (try dsimp only at hBx)
                                  go_simp
                                  try with_reducible rfl
                                try simp only [Act.put, List.setIfInBounds_toArray, List.set_cons_zero, List.set_cons_succ]
                                refine wpL_one (i := 14) (by kernel_rfl) (StepL.mk rfl (fun K hK => ?_))
                                refine step_store_blk rfl _ _ _ rfl (w10.heap.size) 0 48 _ [.int .i64 0, .int .i64 ((arriveS st.k q).want - 1), .int .i64 0] rfl rfl (hs8.blk (hk6.blk (((Blk.new w10 _ _).alloc _).drewN 1) (by simp; try omega)) (by omega)) (by simp) (by kernel_rfl) rfl ?_
                                intro w9 hb9 hs9
                                rw [splice_all [.int .i64 0, .int .i64 ((arriveS st.k q).want - 1), .int .i64 0] #[.int .i64 0, .int .i64 0, .int .i64 0] rfl] at hb9
                                have hfin := FIN.out _ w6 w9 (w10.heap.size + 1) (w10.heap.size) cs6 A6 n6 c6 (Same.drew (Keep.alloc (Keep.new w10 _) _)) hr6 hd6 hk6 (by omega) (by omega) (by simp <;> omega) (by simp <;> omega) (Same.trans (Same.trans (Same.refl _ _) hs8 (fun i hi => by omega)) hs9 (fun i hi => by omega)) (hs9.blk hb8 (by omega)) hb9
                                refine hK.out _ _ (SAB.both trivial (Keep.write hB hs9 (by omega))) (fun hSS => ?_)
                                clear hK K hA hB
                                have hB := hSS.2
                                have hA := hSS.1 (by kernel_rfl)
                                (try dsimp only at hB); (try dsimp only at hA); clear hSS
                                try simp only [Act.put, List.setIfInBounds_toArray, List.set_cons_zero, List.set_cons_succ]
                                refine wpL_done (by kernel_rfl) ?_
                                have HFIN := Lib.hid hfin
                                clear hfin
                                clear hb8 hs8 hb9 hs9 hr6 hd6 hk6 hA hB hB8
                                go_wp2_with fail
                                go_meet
                                exact HFIN.out
                        case rest =>
                          as_aux_lemma =>
                            obtain ⟨b18, b20, cs18, A19, n19, c19, rfl, rfl, rfl, h18, h20, hB18, hB20, hR18, hD19, hK11⟩ := hcut
                            obtain ⟨w11, rfl⟩ : ∃ w11 : World, w11 = wc := ⟨_, rfl⟩
                            have hz11 := hK11.size
                            have l18 : b18 < w11.heap.size := hB18.lt
                            have l20 : b20 < w11.heap.size := hB20.lt
                            have HB18 := Lib.hid hB18
                            have HB20 := Lib.hid hB20
                            have HR18 := Lib.hid hR18
                            have HD19 := Lib.hid hD19
                            have HK11 := Lib.hid hK11
                            clear hB18 hB20 hR18 hD19 hK11
                            go_upto_region 29 with fail
                            go_cut [201] from 184 to 200 (fun s201 wx => CutF w11 s201 wx)
                            case first =>
                              as_aux_lemma =>
                                cases check with
                                | false =>
                                  go_wp2_with fail
                                  go_meet
                                  exact ⟨rfl, Same.refl _ _⟩
                                | true =>
                                  have neq : (((arriveS st.k q).want - 1 : Int) != (arriveS st.k q).want - 1) = false := by simp
                                  go_wp2_with (first
                                    | (refine wpList_load_allg (by rfl) _ (.tmp 17) rfl b17 48 [.int .i64 0, .int .i64 ((arriveS st.k q).want - 1), .int .i64 0] _ rfl (HK11.out.blk HB17.out l17) Try.underlying48 rfl (by kernel_rfl) ?_)
                                    | (refine wpList_load_allg (by rfl) _ (.tmp 20) rfl b20 48 [.int .i64 0, .int .i64 ((arriveS st.k q).want - 1), .int .i64 0] _ rfl HB20.out Try.underlying48 rfl (by kernel_rfl) ?_)
                                    | (refine wpList_load_allg (by rfl) _ (.tmp 15) rfl b15 35 cs15 _ rfl (HK11.out.blk HB15.out l15) Try.underlying35 rfl (info_lk HR15.out.len) ?_)
                                    | (refine wpList_load_allg (by rfl) _ (.tmp 18) rfl b18 35 cs18 _ rfl HB18.out Try.underlying35 rfl (info_lk HR18.out.len) ?_))
                                  have lt18 : ∀ i, (Lab w L 0 i ∨ (w10.heap.size ≤ i ∧ i < w11.heap.size ∧ i ≠ b18 ∧ i ≠ b20)) → i < w11.heap.size := fun i hi => hi.elim (fun h => by have := h.1; omega) (fun h => h.2.1)
                                  refine (sameLk_any w11 _ _ cs15 cs18 (arriveS st.k q) (fun i hi => by have := (LT15.out i hi).1; omega) lt18 (HR15.out.keep (HK11.out.mono (fun i hi => (LT15.out i hi).1))) HR18.out (by omega) (by omega)).mono ?_
                                  rintro e w12 ⟨rfl, hk12⟩
                                  have HK12 := Lib.hid hk12
                                  clear hk12
                                  go_wp2_with fail
                                  refine (sameInts_any w12 _ _ A16 A19 n16 n19 c16 c19 (arriveD st.k q) ((HD16.out.keep (HK11.out.mono (fun i hi => hi.2.1))).keep (HK12.out.mono (fun i hi => by omega))) (HD19.out.keep (HK12.out.mono (fun i hi => hi.2.1))) (by omega)).mono ?_
                                  rintro e w13 ⟨rfl, m13, rfl⟩
                                  go_wp2_with fail
                                  go_meet
                                  exact ⟨rfl, Same.drewN HK12.out _⟩
                            case rest =>
                              as_aux_lemma =>
                                obtain ⟨rfl, hk12⟩ := hcut
                                obtain ⟨w12, rfl⟩ : ∃ w12 : World, w12 = wc := ⟨_, rfl⟩
                                have hz12 := hk12.size
                                have hk512 : Keep w5 w12 := Keep.trans HK10.out (Keep.trans HK11.out hk12)
                                have hk1012 : Keep w10 w12 := Keep.trans HK11.out hk12
                                have hbg : Blk w12 g 41 (({ C with A1 := A', n1 := n', c1 := c' } : Cls).all st.k).toArray := hk512.blk HBX.out (by omega)
                                have hb15x : Blk w12 b15 35 cs15.toArray := hk1012.blk HB15.out l15
                                have hb17x := hk1012.blk HB17.out l17
                                have hd16x : Sl encI 1 w12 (fun i => w5.heap.size ≤ i ∧ i < w10.heap.size ∧ i ≠ b15 ∧ i ≠ b17) A16 n16 c16 (arriveD st.k q) := HD16.out.keep (hk1012.mono (fun i hi => hi.2.1))
                                have hox : Ap w12 (Lab w L 4) 3 1 C.A4 C.n4 C.c4 (st.out.flatMap encI) := (HP4.out.out.keep (HSX.out.mono (FAR.out 4 (by decide)))).keep (hk512.mono (fun i hi => by have := hi.1; omega))
                                have hax : Ap w12 (Lab w L 2) 48 3 C.A2 C.n2 C.c2 (st.ack.flatMap encPk) := (HP4.out.ack.keep (HSX.out.mono (FAR.out 2 (by decide)))).keep (hk512.mono (fun i hi => by have := hi.1; omega))
                                have hg2 : ¬ Lab w L 2 g := fun hh => by have := hh.2; have := HLG.out; omega
                                have hg4 : ¬ Lab w L 4 g := fun hh => by have := hh.2; have := HLG.out; omega
                                have n24 : ∀ i, Lab w L 2 i → Lab w L 4 i → False := fun i h1 h2 => by have := h1.2; have := h2.2; omega
                                have onei : ∀ u ∈ (arriveD st.k q).flatMap encI, u.oneCell' = true := fun u hu => by
                                  obtain ⟨q, _, hm⟩ := List.mem_flatMap.1 hu
                                  exact encI_one q u hm
                                have hlab : ∀ a i, Lab w L a i → i < w.heap.size := fun a i hi => hi.1
                                have finz : ∀ w13, CutZ w12 g (Lab w L 2) (Lab w L 4) cs15 { C with A1 := A', n1 := n', c1 := c' } (st.ack ++ [⟨0, (arriveS st.k q).want - 1, 0⟩]) (st.out ++ arriveD st.k q) n16 w13 → StepPost L g gc st r w (.returned (.bool true)) w13 := fun w13 hcut => by
                                  obtain ⟨A2, A4, c2, c4, lo4, hi4, lo2, hi2, z1, z2, z3, z4, hbZ, hapA, hapO, hsZ⟩ := hcut
                                  have hz13 := hsZ.size
                                  obtain ⟨X1, X2, p1, e1, p2, e2, hcs15, k1, k2⟩ := HR15.out
                                  have far5 : ∀ a, a ≠ 5 → a ≠ 2 → a ≠ 4 → ∀ i, Lab w L a i → i < w12.heap.size ∧ i ≠ g ∧ ¬ Lab w L 2 i ∧ ¬ Lab w L 4 i := fun a ha h2 h4 i hi => ⟨by have := hi.1; omega, fun e => ha (by rw [← hi.2, e, HLG.out]), fun hh => h2 (by rw [← hi.2, hh.2]), fun hh => h4 (by rw [← hi.2, hh.2])⟩
                                  have new5 : ∀ i, w4.heap.size ≤ i → i < w12.heap.size → i < w12.heap.size ∧ i ≠ g ∧ ¬ Lab w L 2 i ∧ ¬ Lab w L 4 i := fun i h1 h2 => ⟨h2, by omega, fun hh => by have := hh.1; omega, fun hh => by have := hh.1; omega⟩
                                  have h0 : ∀ i, (Lab w L 0 i ∨ (w5.heap.size ≤ i ∧ i < w10.heap.size ∧ i ≠ b15 ∧ i ≠ b17)) → i < w12.heap.size ∧ i ≠ g ∧ ¬ Lab w L 2 i ∧ ¬ Lab w L 4 i := fun i hi => hi.elim (far5 0 (by decide) (by decide) (by decide) i) (fun h => new5 i (by omega) (by omega))
                                  have h1 : ∀ i, (Lab w L 1 i ∨ (w4.heap.size ≤ i ∧ i < w5.heap.size)) → i < w12.heap.size ∧ i ≠ g ∧ ¬ Lab w L 2 i ∧ ¬ Lab w L 4 i := fun i hi => hi.elim (far5 1 (by decide) (by decide) (by decide) i) (fun h => new5 i (by omega) (by omega))
                                  have hinn := (HP4.out.inn.keep (HSX.out.mono (FAR.out 3 (by decide)))).keep (hk512.mono (fun i hi => by have := hi.1; omega))
                                  have hpf : Pcs (fun i => Lab w L 0 i ∨ (w5.heap.size ≤ i ∧ i < w10.heap.size ∧ i ≠ b15 ∧ i ≠ b17)) (fun i => Lab w L 1 i ∨ (w4.heap.size ≤ i ∧ i < w5.heap.size)) (fun i => Lab w L 2 i ∨ (lo2 ≤ i ∧ i < hi2)) (Lab w L 3) (fun i => Lab w L 4 i ∨ (lo4 ≤ i ∧ i < hi4)) g { C with B1 := X1, m1 := p1, d1 := e1, B2 := X2, m2 := p2, d2 := e2, A1 := A', n1 := n', c1 := c', A2 := A2, n2 := C.n2 + 1, c2 := c2, A4 := A4, n4 := C.n4 + n16, c4 := c4 } { st with data := data', k := arriveS st.k q, out := st.out ++ arriveD st.k q, ack := st.ack ++ [⟨0, (arriveS st.k q).want - 1, 0⟩] } w13 :=
                                    ⟨by rw [hcs15] at hbZ; exact hbZ, (k1.keep (hk1012.mono (fun i hi => (LT15.out i hi).1))).keep (hsZ.mono h0), (k2.keep (hk1012.mono (fun i hi => (LT15.out i hi).1))).keep (hsZ.mono h0), (HAPX.out.keep (hk512.mono (fun i hi => hi.elim (fun h => by have := h.1; omega) (fun h => h.2)))).keep (hsZ.mono h1), hapA, hinn.keep (hsZ.mono (far5 3 (by decide) (by decide) (by decide))), hapO, HN'.out, by have := HP4.out.lack; simp; omega, HP4.out.linn, by have := HP4.out.lout; have := hd16x.1; simp only [List.length_append]; omega⟩
                                  have hcf := ((HC4.out.same (HSX.out.mono (FAR.out 6 (by decide)))).keep hk512).same (hsZ.mono (far5 6 (by decide) (by decide) (by decide)))
                                  have hfr : Same (fun i => i < w.heap.size ∧ (L i = 0 ∨ L i = 6) ∧ i ≠ gc) w w13 := Same.trans (Same.trans (Same.trans (HFR4.out.mono (fun i hi => ⟨hi.1, hi.2.2⟩)) HSX.out (fun i hi => hi.2.1.elim (fun h => FAR.out 0 (by decide) i ⟨hi.1, h⟩) (fun h => FAR.out 6 (by decide) i ⟨hi.1, h⟩))) hk512 (fun i hi => by omega)) hsZ (fun i hi => hi.2.1.elim (fun h => far5 0 (by decide) (by decide) (by decide) i ⟨hi.1, h⟩) (fun h => far5 6 (by decide) (by decide) (by decide) i ⟨hi.1, h⟩))
                                  have hstep : StepR st { st with data := data', k := arriveS st.k q, out := st.out ++ arriveD st.k q, ack := st.ack ++ [⟨0, (arriveS st.k q).want - 1, 0⟩] } := by
                                    rcases HDAT.out with e | e
                                    · rw [e]; exact StepR.arriveKeep st n q HQ.out
                                    · rw [e]; exact StepR.arrive st n q HQ.out
                                  refine StepPost.mk' (fun i => if w4.heap.size ≤ i ∧ i < w5.heap.size then 1 else if lo4 ≤ i ∧ i < hi4 then 4 else if lo2 ≤ i ∧ i < hi2 then 2 else 0) hstep (by omega) (by omega) hg HLG.out hpf hcf (fun i hi => ?_) (fun i hi hl => ?_) (fun i hi hl => ?_) (fun i hi _ => by rw [ext_old hi.1]; exact hi.2) (fun i hi hl => ?_) hfr
                                  · rcases hi with hi | hi
                                    · exact ⟨by have := hi.1; omega, by rw [ext_old hi.1]; exact hi.2⟩
                                    · exact ⟨by omega, by rw [ext_new (by omega), if_neg (by omega), if_neg (by omega), if_neg (by omega)]⟩
                                  · rcases hi with hi | hi
                                    · rw [ext_old hi.1]; exact hi.2
                                    · rw [ext_new (by omega), if_pos hi]
                                  · rcases hi with hi | hi
                                    · rw [ext_old hi.1]; exact hi.2
                                    · rw [ext_new (by omega), if_neg (by omega), if_neg (by omega), if_pos hi]
                                  · rcases hi with hi | hi
                                    · rw [ext_old hi.1]; exact hi.2
                                    · rw [ext_new (by omega), if_neg (by omega), if_pos hi]
                                have hA : w12.cell? ⟨g, 8, none⟩ = some (.slice C.A4 C.n4 C.c4) ∧ w12.cell? ⟨g, 6, none⟩ = some (.slice C.A2 C.n2 C.c2) := ⟨by rw [hbg.cell]; rfl, by rw [hbg.cell]; rfl⟩
                                have HK12 := Lib.hid hk12
                                have HK512 := Lib.hid hk512
                                have HK1012 := Lib.hid hk1012
                                have HBG := Lib.hid hbg
                                have HB15X := Lib.hid hb15x
                                have HB17X := Lib.hid hb17x
                                have HD16X := Lib.hid hd16x
                                have HOX := Lib.hid hox
                                have HAX := Lib.hid hax
                                have HG2 := Lib.hid hg2
                                have HG4 := Lib.hid hg4
                                have N24 := Lib.hid n24
                                have ONEI := Lib.hid onei
                                have HLAB := Lib.hid hlab
                                have FINZ := Lib.hid finz
                                clear hk12 hk512 hk1012 hbg hb15x hb17x hd16x hox hax hg2 hg4 n24 onei hlab finz
                                go_upto_region 31 with fail
                                refine wp_region_L 19 (fun wx => wx.cell? ⟨g, 8, none⟩ = some (.slice C.A4 C.n4 C.c4) ∧ wx.cell? ⟨g, 6, none⟩ = some (.slice C.A2 C.n2 C.c2)) (fun wx => Same (fun i => i < w12.heap.size ∧ i ≠ g ∧ ¬ Lab w L 2 i ∧ ¬ Lab w L 4 i) w12 wx) (by kernel_rfl) hA (Same.drew (Same.refl _ _)) (fun hA hB => ?_)
                                refine wpL_takeB (i := 0) (v := ?_) rfl (by kernel_rfl) (by kernel_rfl) (by kernel_rfl) (by decide) (fun _ _ _ h => h) (Or.inl ⟨by rfl, ?_⟩) (SAB.both hA hB) ?_
                                rotate_left
                                · intro wx hBx
                                  (try dsimp only at hBx)
                                  go_simp
                                  try with_reducible rfl
                                try simp only [Act.put, List.setIfInBounds_toArray, List.set_cons_zero, List.set_cons_succ]
                                refine wpL_takeB (i := 1) (v := ?_) rfl (by kernel_rfl) (by kernel_rfl) (by kernel_rfl) (by decide) (fun _ _ _ h => h) (Or.inl ⟨by rfl, ?_⟩) (SAB.both hA hB) ?_
                                rotate_left
                                · intro wx hBx
                                  (try dsimp only at hBx)
                                  go_simp
                                  try with_reducible rfl
                                try simp only [Act.put, List.setIfInBounds_toArray, List.set_cons_zero, List.set_cons_succ]
                                refine wpL_takeB (i := 2) (v := ?_) rfl (by kernel_rfl) (by kernel_rfl) (by kernel_rfl) (by decide) (fun _ _ _ h => h) (Or.inl ⟨by rfl, ?_⟩) (SAB.both hA hB) ?_
                                rotate_left
                                · intro wx hBx
                                  (try dsimp only at hBx)
                                  go_simp
                                  try with_reducible rfl
                                try simp only [Act.put, List.setIfInBounds_toArray, List.set_cons_zero, List.set_cons_succ]
                                refine wpL_takeB (i := 3) rfl (by kernel_rfl) (by kernel_rfl) (by kernel_rfl) (by decide) (fun _ _ _ h => h) (yieldsIf_blk (by rfl) _ _ rfl b15 0 35 _ cs15 _ rfl (fun wx hx => hx.blk HB15X.out ⟨by omega, by omega, fun hh => by have := HLAB.out _ _ hh; omega, fun hh => by have := HLAB.out _ _ hh; omega⟩) (fun j v hv => by simpa using hv) Try.underlying35 rfl (info_lk HR15.out.len)) (SAB.both hA hB) ?_
                                try simp only [Act.put, List.setIfInBounds_toArray, List.set_cons_zero, List.set_cons_succ]
                                refine wpL_takeB (i := 4) (v := ?_) rfl (by kernel_rfl) (by kernel_rfl) (by kernel_rfl) (by decide) (fun _ _ _ h => h) (Or.inl ⟨by rfl, ?_⟩) (SAB.both hA hB) ?_
                                rotate_left
                                · intro wx hBx
                                  (try dsimp only at hBx)
                                  go_simp
                                  try with_reducible rfl
                                try simp only [Act.put, List.setIfInBounds_toArray, List.set_cons_zero, List.set_cons_succ]
                                refine wpL_takeB (i := 5) (v := ?_) rfl (by kernel_rfl) (by kernel_rfl) (by kernel_rfl) (by decide) (fun _ _ _ h => h) (Or.inl ⟨by rfl, ?_⟩) (SAB.both hA hB) ?_
                                rotate_left
                                · intro wx hBx
                                  (try dsimp only at hBx)
                                  go_simp
                                  try with_reducible rfl
                                try simp only [Act.put, List.setIfInBounds_toArray, List.set_cons_zero, List.set_cons_succ]
                                refine wpL_takeB (i := 6) (v := ?_) rfl (by kernel_rfl) (by kernel_rfl) (by kernel_rfl) (by decide) (fun _ _ _ h => h) (Or.inl ⟨by rfl, ?_⟩) (SAB.both hA hB) ?_
                                rotate_left
                                · intro wx hBx
                                  (try dsimp only at hBx)
                                  go_simp
                                  try with_reducible rfl
                                try simp only [Act.put, List.setIfInBounds_toArray, List.set_cons_zero, List.set_cons_succ]
                                refine wpL_takeA (i := 7) (v := ?_) rfl (by kernel_rfl) (by kernel_rfl) (by kernel_rfl) (by kernel_rfl) (by decide) (fun _ _ _ h => h) (Or.inl ⟨by rfl, ?_⟩) hA hB ?_
                                rotate_left
                                · rintro wx ⟨hAx, hBx⟩
                                  (try dsimp only at hBx); (try dsimp only at hAx)
                                  go_simp
                                  try with_reducible rfl
                                try simp only [Act.put, List.setIfInBounds_toArray, List.set_cons_zero, List.set_cons_succ]
                                refine wpL_takeB (i := 8) (v := ?_) rfl (by kernel_rfl) (by kernel_rfl) (by kernel_rfl) (by decide) (fun _ _ _ h => h) (Or.inl ⟨by rfl, ?_⟩) (SAB.both hA hB) ?_
                                rotate_left
                                · intro wx hBx
                                  (try dsimp only at hBx)
                                  go_simp
                                  try with_reducible rfl
                                try simp only [Act.put, List.setIfInBounds_toArray, List.set_cons_zero, List.set_cons_succ]
                                refine wpL_takeB (i := 10) (v := ?_) rfl (by kernel_rfl) (by kernel_rfl) (by kernel_rfl) (by decide) (fun _ _ _ h => h) (Or.inl ⟨by rfl, ?_⟩) (SAB.both hA hB) ?_
                                rotate_left
                                · intro wx hBx
                                  (try dsimp only at hBx)
                                  go_simp
                                  try with_reducible rfl
                                try simp only [Act.put, List.setIfInBounds_toArray, List.set_cons_zero, List.set_cons_succ]
                                refine wpL_takeB (i := 11) (v := ?_) rfl (by kernel_rfl) (by kernel_rfl) (by kernel_rfl) (by decide) (fun _ _ _ h => h) (Or.inl ⟨by rfl, ?_⟩) (SAB.both hA hB) ?_
                                rotate_left
                                · intro wx hBx
                                  (try dsimp only at hBx)
                                  go_simp
                                  try with_reducible rfl
                                try simp only [Act.put, List.setIfInBounds_toArray, List.set_cons_zero, List.set_cons_succ]
                                refine wpL_takeB (i := 12) (v := ?_) rfl (by kernel_rfl) (by kernel_rfl) (by kernel_rfl) (by decide) (fun _ _ _ h => h) (Or.inl ⟨by rfl, ?_⟩) (SAB.both hA hB) ?_
                                rotate_left
                                · intro wx hBx
                                  (try dsimp only at hBx)
                                  go_simp
                                  try with_reducible rfl
                                try simp only [Act.put, List.setIfInBounds_toArray, List.set_cons_zero, List.set_cons_succ]
                                refine wpL_takeA (i := 13) (v := ?_) rfl (by kernel_rfl) (by kernel_rfl) (by kernel_rfl) (by kernel_rfl) (by decide) (fun _ _ _ h => h) (Or.inl ⟨by rfl, ?_⟩) hA hB ?_
                                rotate_left
                                · rintro wx ⟨hAx, hBx⟩
                                  (try dsimp only at hBx); (try dsimp only at hAx)
                                  go_simp
                                  try with_reducible rfl
                                try simp only [Act.put, List.setIfInBounds_toArray, List.set_cons_zero, List.set_cons_succ]
                                refine wpL_takeB (i := 14) rfl (by kernel_rfl) (by kernel_rfl) (by kernel_rfl) (by decide) (fun _ _ _ h => h) (yieldsIf_blk (by rfl) _ _ rfl b17 0 48 _ [.int .i64 0, .int .i64 ((arriveS st.k q).want - 1), .int .i64 0] _ rfl (fun wx hx => hx.blk HB17X.out ⟨by omega, by omega, fun hh => by have := HLAB.out _ _ hh; omega, fun hh => by have := HLAB.out _ _ hh; omega⟩) (by simp) Try.underlying48 rfl (by kernel_rfl)) (SAB.both hA hB) ?_
                                try simp only [Act.put, List.setIfInBounds_toArray, List.set_cons_zero, List.set_cons_succ]
                                refine wpL_two (i := 9) (j := 15) (by kernel_rfl) (StepL.mk rfl (fun K hK => ?_)) (StepL.mk rfl (fun K hK => ?_))
                                · refine step_append_ap _ (by rfl) (.tmp 209) (.tmp 210) _ (by rfl) 3 iI _ 1 8 Try.underlying23 JI0.out JZ0.out JZ1.out JZ2.out rfl (by omega) (Lab w L 4) C.A4 C.n4 C.c4 (st.out.flatMap encI) (by rfl) (HOX.out.keep (Same.drew (Same.refl _ _))) _ A16 n16 c16 ((arriveD st.k q).flatMap encI) (by rfl) (HD16X.out.keep (Same.drew (Same.refl _ _))).2.2.2 ONEI.out (by simp [maxLen]; omega) (by omega) ?_
                                  intro A4 c4 w15 hap15 hs15
                                  have hz15 := hs15.size
                                  simp at hz15
                                  have hB15' : Same (fun i => i < w12.heap.size ∧ i ≠ g ∧ ¬ Lab w L 2 i ∧ ¬ Lab w L 4 i) w12 w15 := Same.trans hB hs15 (fun i hi => ⟨hi.1, hi.2.2.2⟩)
                                  have hg15 := hs15.blk (HBG.out.drewN 1) ⟨show g < w12.heap.size by omega, HG4.out⟩
                                  have ha15 : Ap w15 (Lab w L 2) 48 3 C.A2 C.n2 C.c2 (st.ack.flatMap encPk) := (HAX.out.keep (Same.drew (Same.refl _ _))).keep (hs15.mono (fun i hi => ⟨show i < w12.heap.size by have := hi.1; omega, fun hh => N24.out i hi hh⟩))
                                  refine hK.out _ _ (SAB.both ⟨by rw [hg15.cell]; rfl, by rw [hg15.cell]; rfl⟩ hB15') (fun hSS => ?_)
                                  clear hK K hA hB
                                  have hB := hSS.2
                                  have hA := hSS.1 (by kernel_rfl)
                                  (try dsimp only at hB); (try dsimp only at hA); clear hSS
                                  try simp only [Act.put, List.setIfInBounds_toArray, List.set_cons_zero, List.set_cons_succ]
                                  refine wpL_one (i := 15) (by kernel_rfl) (StepL.mk rfl (fun K hK => ?_))
                                  go_simp
                                  have hg15' := hg15.alloc (.cells #[.int .i64 0, .int .i64 ((arriveS st.k q).want - 1), .int .i64 0] 48)
                                  refine hK.out _ _ (SAB.both ⟨by rw [hg15'.cell]; rfl, by rw [hg15'.cell]; rfl⟩ (Same.alloc hB15' (fun i hi => by omega) _)) (fun hSS => ?_)
                                  clear hK K hA hB
                                  have hB := hSS.2
                                  have hA := hSS.1 (by kernel_rfl)
                                  (try dsimp only at hB); (try dsimp only at hA); clear hSS
                                  try simp only [Act.put, List.setIfInBounds_toArray, List.set_cons_zero, List.set_cons_succ]
                                  refine wpL_one (i := 16) (by kernel_rfl) (StepL.mk rfl (fun K hK => ?_))
                                  refine step_append_ap _ (by rfl) (.tmp 215) (.tmp 217) _ (by rfl) 48 iP _ 3 24 Try.underlying33 HI0.out IZ0.out IZ1.out IZ2.out rfl (by omega) (Lab w L 2) C.A2 C.n2 C.c2 (st.ack.flatMap encPk) (by rfl) (ha15.keep (Same.mono (Keep.new w15 _) (fun i hi => by have := hi.1; omega))) _ (some ⟨w15.heap.size, 0, none⟩) 1 1 (encPk ⟨0, (arriveS st.k q).want - 1, 0⟩) (by rfl) (Reads.new rfl) (encPk_one _) (by simp [maxLen]; omega) (by omega) ?_
                                  intro A2 c2 w16 hap16 hs16
                                  have hz16 := hs16.size
                                  simp at hz16
                                  have hB16 : Same (fun i => i < w12.heap.size ∧ i ≠ g ∧ ¬ Lab w L 2 i ∧ ¬ Lab w L 4 i) w12 w16 := Same.trans hB hs16 (fun i hi => ⟨by simp; omega, hi.2.2.1⟩)
                                  have hg16 := hs16.blk hg15' ⟨by simp; omega, HG2.out⟩
                                  have hapO : Ap w16 (fun i => Lab w L 4 i ∨ (w12.heap.size ≤ i ∧ i < w15.heap.size)) 3 1 A4 (C.n4 + n16) c4 ((st.out ++ arriveD st.k q).flatMap encI) := by
                                    rw [List.flatMap_append]
                                    have h16 : Same (fun i => i < w15.heap.size ∧ ¬ Lab w L 2 i) w15 w16 := Same.trans (Same.mono (Keep.new w15 _) (fun i hi => hi.1)) hs16 (fun i hi => ⟨by simp; omega, hi.2⟩)
                                    refine (hap15.keep (h16.mono (fun i hi => ?_))).more (fun i hi hl => ?_)
                                    · rcases hi with hi | hi
                                      · exact ⟨by have := hi.1; omega, fun hh => N24.out i hh hi⟩
                                      · exact ⟨by simp at hi; omega, fun hh => by have := hh.1; simp at hi; omega⟩
                                    · rcases hi with hi | hi
                                      · exact .inl hi
                                      · exact .inr (by simp at hi; omega)
                                  have hapA : Ap w16 (fun i => Lab w L 2 i ∨ (w15.heap.size + 1 ≤ i ∧ i < w16.heap.size)) 48 3 A2 (C.n2 + 1) c2 ((st.ack ++ [(⟨0, (arriveS st.k q).want - 1, 0⟩ : Pk)]).flatMap encPk) := by
                                    have e : (st.ack ++ [(⟨0, (arriveS st.k q).want - 1, 0⟩ : Pk)]).flatMap encPk = st.ack.flatMap encPk ++ encPk ⟨0, (arriveS st.k q).want - 1, 0⟩ := by simp
                                    rw [e]
                                    exact hap16.more (fun i hi hl => hi.elim .inl (fun h => .inr (by simp at h; omega)))
                                  refine hK.out _ _ (SAB.both ⟨by rw [hg16.cell]; rfl, by rw [hg16.cell]; rfl⟩ hB16) (fun hSS => ?_)
                                  clear hK K hA hB
                                  have hB := hSS.2
                                  have hA := hSS.1 (by kernel_rfl)
                                  (try dsimp only at hB); (try dsimp only at hA); clear hSS
                                  try simp only [Act.put, List.setIfInBounds_toArray, List.set_cons_zero, List.set_cons_succ]
                                  refine wpL_takeB (i := 17) (v := ?_) rfl (by kernel_rfl) (by kernel_rfl) (by kernel_rfl) (by decide) (fun _ _ _ h => h) (Or.inl ⟨by rfl, ?_⟩) (SAB.both hA hB) ?_
                                  rotate_left
                                  · intro wx hBx
                                    (try dsimp only at hBx)
                                    go_simp
                                    try with_reducible rfl
                                  try simp only [Act.put, List.setIfInBounds_toArray, List.set_cons_zero, List.set_cons_succ]
                                  refine wpL_takeB (i := 18) (v := ?_) rfl (by kernel_rfl) (by kernel_rfl) (by kernel_rfl) (by decide) (fun _ _ _ h => h) (Or.inl ⟨by rfl, ?_⟩) (SAB.both hA hB) ?_
                                  rotate_left
                                  · intro wx hBx
                                    (try dsimp only at hBx)
                                    go_simp
                                    try with_reducible rfl
                                  try simp only [Act.put, List.setIfInBounds_toArray, List.set_cons_zero, List.set_cons_succ]
                                  refine wpL_one (i := 19) (by kernel_rfl) (StepL.mk rfl (fun K hK => ?_))
                                  refine step_store_blk rfl _ _ _ rfl g 0 41 _ cs15 rfl rfl hg16 (by rw [HR15.out.len]; simp [Cls.all]) (info_lk HR15.out.len) HR15.out.one ?_
                                  intro w19 hb19 hs19
                                  have hB19 := Same.trans hB16 hs19 (fun i hi => hi.2.1)
                                  refine hK.out _ _ (SAB.past (by kernel_rfl) hB19) (fun hSS => ?_)
                                  clear hK K hA hB
                                  have hB := hSS.2
                                  have hA : True := trivial
                                  (try dsimp only at hB); (try dsimp only at hA); clear hSS
                                  try simp only [Act.put, List.setIfInBounds_toArray, List.set_cons_zero, List.set_cons_succ]
                                  refine wpL_takeB (i := 20) (v := ?_) rfl (by kernel_rfl) (by kernel_rfl) (by kernel_rfl) (by decide) (fun _ _ _ h => h) (Or.inl ⟨by rfl, ?_⟩) (SAB.past (by kernel_rfl) hB) ?_
                                  rotate_left
                                  · intro wx hBx
                                    (try dsimp only at hBx)
                                    go_simp
                                    try with_reducible rfl
                                  try simp only [Act.put, List.setIfInBounds_toArray, List.set_cons_zero, List.set_cons_succ]
                                  refine wpL_takeB (i := 21) (v := ?_) rfl (by kernel_rfl) (by kernel_rfl) (by kernel_rfl) (by decide) (fun _ _ _ h => h) (Or.inl ⟨by rfl, ?_⟩) (SAB.past (by kernel_rfl) hB) ?_
                                  rotate_left
                                  · intro wx hBx
                                    (try dsimp only at hBx)
                                    go_simp
                                    try with_reducible rfl
                                  try simp only [Act.put, List.setIfInBounds_toArray, List.set_cons_zero, List.set_cons_succ]
                                  refine wpL_one (i := 22) (by kernel_rfl) (StepL.mk rfl (fun K hK => ?_))
                                  refine step_store_one rfl _ _ _ rfl g 8 41 _ (.slice A4 (C.n4 + n16) c4) rfl rfl hb19 (by rw [splice_size]; simp [Cls.all]) (by kernel_rfl) rfl rfl ?_
                                  intro w22 hb22 hs22
                                  have hB22 := Same.trans hB19 hs22 (fun i hi => hi.2.1)
                                  refine hK.out _ _ (SAB.past (by kernel_rfl) hB22) (fun hSS => ?_)
                                  clear hK K hA hB
                                  have hB := hSS.2
                                  have hA : True := trivial
                                  (try dsimp only at hB); (try dsimp only at hA); clear hSS
                                  try simp only [Act.put, List.setIfInBounds_toArray, List.set_cons_zero, List.set_cons_succ]
                                  refine wpL_takeB (i := 23) (v := ?_) rfl (by kernel_rfl) (by kernel_rfl) (by kernel_rfl) (by decide) (fun _ _ _ h => h) (Or.inl ⟨by rfl, ?_⟩) (SAB.past (by kernel_rfl) hB) ?_
                                  rotate_left
                                  · intro wx hBx
                                    (try dsimp only at hBx)
                                    go_simp
                                    try with_reducible rfl
                                  try simp only [Act.put, List.setIfInBounds_toArray, List.set_cons_zero, List.set_cons_succ]
                                  refine wpL_takeB (i := 24) (v := ?_) rfl (by kernel_rfl) (by kernel_rfl) (by kernel_rfl) (by decide) (fun _ _ _ h => h) (Or.inl ⟨by rfl, ?_⟩) (SAB.past (by kernel_rfl) hB) ?_
                                  rotate_left
                                  · intro wx hBx
                                    (try dsimp only at hBx)
                                    go_simp
                                    try with_reducible rfl
                                  try simp only [Act.put, List.setIfInBounds_toArray, List.set_cons_zero, List.set_cons_succ]
                                  refine wpL_one (i := 25) (by kernel_rfl) (StepL.mk rfl (fun K hK => ?_))
                                  refine step_store_one rfl _ _ _ rfl g 6 41 _ (.slice A2 (C.n2 + 1) c2) rfl rfl hb22 (by simp [splice_size, Cls.all]) (by kernel_rfl) rfl rfl ?_
                                  intro w25 hb25 hs25
                                  have hB25 := Same.trans hB22 hs25 (fun i hi => hi.2.1)
                                  refine hK.out _ _ (SAB.past (by kernel_rfl) hB25) (fun hSS => ?_)
                                  clear hK K hA hB
                                  have hB := hSS.2
                                  have hA : True := trivial
                                  (try dsimp only at hB); (try dsimp only at hA); clear hSS
                                  try simp only [Act.put, List.setIfInBounds_toArray, List.set_cons_zero, List.set_cons_succ]
                                  refine wpL_done (by kernel_rfl) ?_
                                  have hz19 := hs19.size
                                  have hz22 := hs22.size
                                  have hz25 := hs25.size
                                  have hs1625 : Same (· ≠ g) w16 w25 := Same.trans (Same.trans hs19 hs22 (fun i hi => hi)) hs25 (fun i hi => hi)
                                  obtain ⟨X1, X2, p1, e1, p2, e2, hcs15, _, _⟩ := HR15.out
                                  have hfin : CutZ w12 g (Lab w L 2) (Lab w L 4) cs15 { C with A1 := A', n1 := n', c1 := c' } (st.ack ++ [⟨0, (arriveS st.k q).want - 1, 0⟩]) (st.out ++ arriveD st.k q) n16 w25 := by
                                    refine ⟨A2, A4, c2, c4, w12.heap.size, w15.heap.size, w15.heap.size + 1, w16.heap.size, by omega, by omega, by omega, by omega, ?_, hapA.keep (hs1625.mono (fun i hi => ?_)), hapO.keep (hs1625.mono (fun i hi => ?_)), hB25⟩
                                    · rw [hcs15] at hb25 ⊢
                                      simpa [splice, Cls.all] using hb25
                                    · intro e; subst e; rcases hi with hi | hi
                                      · exact HG2.out hi
                                      · omega
                                    · intro e; subst e; rcases hi with hi | hi
                                      · exact HG4.out hi
                                      · omega
                                  have HFIN := Lib.hid hfin
                                  clear hfin
                                  clear hcs15 hs1625 hb25 hs25 hb22 hs22 hb19 hs19 hB25 hB22 hB19 hapA hapO hg16 hB16 hap16 hs16 ha15 hg15 hB15' hap15 hs15 hA hB
                                  go_wp2_with fail
                                  go_ret
                                  exact FINZ.out _ HFIN.out
                                · go_simp
                                  have hg0' := (HBG.out.alloc (.cells #[.int .i64 0, .int .i64 ((arriveS st.k q).want - 1), .int .i64 0] 48)).drewN 1
                                  refine hK.out _ _ (SAB.both ⟨by have := hg0'.cell 8; exact this, by have := hg0'.cell 6; exact this⟩ (Same.alloc hB (fun i hi => by simpa using hi.1) _)) (fun hSS => ?_)
                                  clear hK K hA hB
                                  have hB := hSS.2
                                  have hA := hSS.1 (by kernel_rfl)
                                  (try dsimp only at hB); (try dsimp only at hA); clear hSS
                                  try simp only [Act.put, List.setIfInBounds_toArray, List.set_cons_zero, List.set_cons_succ]
                                  refine wpL_one (i := 9) (by kernel_rfl) (StepL.mk rfl (fun K hK => ?_))
                                  refine step_append_ap _ (by rfl) (.tmp 209) (.tmp 210) _ (by rfl) 3 iI _ 1 8 Try.underlying23 JI0.out JZ0.out JZ1.out JZ2.out rfl (by omega) (Lab w L 4) C.A4 C.n4 C.c4 (st.out.flatMap encI) (by rfl) (HOX.out.keep (Same.drew (Same.mono (Keep.new w12 _) (fun i hi => by have := hi.1; omega)))) _ A16 n16 c16 ((arriveD st.k q).flatMap encI) (by rfl) (HD16X.out.keep (Same.drew (Same.mono (Keep.new w12 _) (fun i hi => by omega)))).2.2.2 ONEI.out (by simp [maxLen]; omega) (by omega) ?_
                                  intro A4 c4 w15 hap15 hs15
                                  have hz15 := hs15.size
                                  simp at hz15
                                  have hB15' : Same (fun i => i < w12.heap.size ∧ i ≠ g ∧ ¬ Lab w L 2 i ∧ ¬ Lab w L 4 i) w12 w15 := Same.trans hB hs15 (fun i hi => ⟨by simp; omega, hi.2.2.2⟩)
                                  have hg15 := hs15.blk hg0' ⟨by simp; omega, HG4.out⟩
                                  have ha15 : Ap w15 (Lab w L 2) 48 3 C.A2 C.n2 C.c2 (st.ack.flatMap encPk) := (HAX.out.keep (Same.drew (Same.mono (Keep.new w12 (.cells #[.int .i64 0, .int .i64 ((arriveS st.k q).want - 1), .int .i64 0] 48)) (fun i hi => by have := hi.1; omega)))).keep (hs15.mono (fun i hi => ⟨by have := hi.1; simp; omega, fun hh => N24.out i hi hh⟩))
                                  have hrd : Reads w15 (fun i => i = w12.heap.size) 3 (some ⟨w12.heap.size, 0, none⟩) 1 (encPk ⟨0, (arriveS st.k q).want - 1, 0⟩) := (Reads.keep (w := (w12.alloc (.cells (encPk ⟨0, (arriveS st.k q).want - 1, 0⟩).toArray 48)).drew) (Reads.new rfl) (hs15.mono (fun i hi => ⟨by simp; omega, fun hh => by have := HLAB.out _ _ hh; omega⟩)))
                                  refine hK.out _ _ (SAB.both ⟨by rw [hg15.cell]; rfl, by rw [hg15.cell]; rfl⟩ hB15') (fun hSS => ?_)
                                  clear hK K hA hB
                                  have hB := hSS.2
                                  have hA := hSS.1 (by kernel_rfl)
                                  (try dsimp only at hB); (try dsimp only at hA); clear hSS
                                  try simp only [Act.put, List.setIfInBounds_toArray, List.set_cons_zero, List.set_cons_succ]
                                  refine wpL_one (i := 16) (by kernel_rfl) (StepL.mk rfl (fun K hK => ?_))
                                  refine step_append_ap _ (by rfl) (.tmp 215) (.tmp 217) _ (by rfl) 48 iP _ 3 24 Try.underlying33 HI0.out IZ0.out IZ1.out IZ2.out rfl (by omega) (Lab w L 2) C.A2 C.n2 C.c2 (st.ack.flatMap encPk) (by rfl) ha15 _ (some ⟨w12.heap.size, 0, none⟩) 1 1 (encPk ⟨0, (arriveS st.k q).want - 1, 0⟩) (by rfl) hrd (encPk_one _) (by simp [maxLen]; omega) (by omega) ?_
                                  intro A2 c2 w16 hap16 hs16
                                  have hz16 := hs16.size
                                  have hB16 : Same (fun i => i < w12.heap.size ∧ i ≠ g ∧ ¬ Lab w L 2 i ∧ ¬ Lab w L 4 i) w12 w16 := Same.trans hB hs16 (fun i hi => ⟨by omega, hi.2.2.1⟩)
                                  have hg16 := hs16.blk hg15 ⟨by omega, HG2.out⟩
                                  have hapO : Ap w16 (fun i => Lab w L 4 i ∨ (w12.heap.size + 1 ≤ i ∧ i < w15.heap.size)) 3 1 A4 (C.n4 + n16) c4 ((st.out ++ arriveD st.k q).flatMap encI) := by
                                    rw [List.flatMap_append]
                                    refine (hap15.keep (hs16.mono (fun i hi => ?_))).more (fun i hi hl => ?_)
                                    · rcases hi with hi | hi
                                      · exact ⟨by have := hi.1; omega, fun hh => N24.out i hh hi⟩
                                      · exact ⟨by simp at hi; omega, fun hh => by have := hh.1; simp at hi; omega⟩
                                    · rcases hi with hi | hi
                                      · exact .inl hi
                                      · exact .inr (by simp at hi; omega)
                                  have hapA : Ap w16 (fun i => Lab w L 2 i ∨ (w15.heap.size ≤ i ∧ i < w16.heap.size)) 48 3 A2 (C.n2 + 1) c2 ((st.ack ++ [(⟨0, (arriveS st.k q).want - 1, 0⟩ : Pk)]).flatMap encPk) := by
                                    have e : (st.ack ++ [(⟨0, (arriveS st.k q).want - 1, 0⟩ : Pk)]).flatMap encPk = st.ack.flatMap encPk ++ encPk ⟨0, (arriveS st.k q).want - 1, 0⟩ := by simp
                                    rw [e]
                                    exact hap16
                                  refine hK.out _ _ (SAB.both ⟨by rw [hg16.cell]; rfl, by rw [hg16.cell]; rfl⟩ hB16) (fun hSS => ?_)
                                  clear hK K hA hB
                                  have hB := hSS.2
                                  have hA := hSS.1 (by kernel_rfl)
                                  (try dsimp only at hB); (try dsimp only at hA); clear hSS
                                  try simp only [Act.put, List.setIfInBounds_toArray, List.set_cons_zero, List.set_cons_succ]
                                  refine wpL_takeB (i := 17) (v := ?_) rfl (by kernel_rfl) (by kernel_rfl) (by kernel_rfl) (by decide) (fun _ _ _ h => h) (Or.inl ⟨by rfl, ?_⟩) (SAB.both hA hB) ?_
                                  rotate_left
                                  · intro wx hBx
                                    (try dsimp only at hBx)
                                    go_simp
                                    try with_reducible rfl
                                  try simp only [Act.put, List.setIfInBounds_toArray, List.set_cons_zero, List.set_cons_succ]
                                  refine wpL_takeB (i := 18) (v := ?_) rfl (by kernel_rfl) (by kernel_rfl) (by kernel_rfl) (by decide) (fun _ _ _ h => h) (Or.inl ⟨by rfl, ?_⟩) (SAB.both hA hB) ?_
                                  rotate_left
                                  · intro wx hBx
                                    (try dsimp only at hBx)
                                    go_simp
                                    try with_reducible rfl
                                  try simp only [Act.put, List.setIfInBounds_toArray, List.set_cons_zero, List.set_cons_succ]
                                  refine wpL_one (i := 19) (by kernel_rfl) (StepL.mk rfl (fun K hK => ?_))
                                  refine step_store_blk rfl _ _ _ rfl g 0 41 _ cs15 rfl rfl hg16 (by rw [HR15.out.len]; simp [Cls.all]) (info_lk HR15.out.len) HR15.out.one ?_
                                  intro w19 hb19 hs19
                                  have hB19 := Same.trans hB16 hs19 (fun i hi => hi.2.1)
                                  refine hK.out _ _ (SAB.past (by kernel_rfl) hB19) (fun hSS => ?_)
                                  clear hK K hA hB
                                  have hB := hSS.2
                                  have hA : True := trivial
                                  (try dsimp only at hB); (try dsimp only at hA); clear hSS
                                  try simp only [Act.put, List.setIfInBounds_toArray, List.set_cons_zero, List.set_cons_succ]
                                  refine wpL_takeB (i := 20) (v := ?_) rfl (by kernel_rfl) (by kernel_rfl) (by kernel_rfl) (by decide) (fun _ _ _ h => h) (Or.inl ⟨by rfl, ?_⟩) (SAB.past (by kernel_rfl) hB) ?_
                                  rotate_left
                                  · intro wx hBx
                                    (try dsimp only at hBx)
                                    go_simp
                                    try with_reducible rfl
                                  try simp only [Act.put, List.setIfInBounds_toArray, List.set_cons_zero, List.set_cons_succ]
                                  refine wpL_takeB (i := 21) (v := ?_) rfl (by kernel_rfl) (by kernel_rfl) (by kernel_rfl) (by decide) (fun _ _ _ h => h) (Or.inl ⟨by rfl, ?_⟩) (SAB.past (by kernel_rfl) hB) ?_
                                  rotate_left
                                  · intro wx hBx
                                    (try dsimp only at hBx)
                                    go_simp
                                    try with_reducible rfl
                                  try simp only [Act.put, List.setIfInBounds_toArray, List.set_cons_zero, List.set_cons_succ]
                                  refine wpL_one (i := 22) (by kernel_rfl) (StepL.mk rfl (fun K hK => ?_))
                                  refine step_store_one rfl _ _ _ rfl g 8 41 _ (.slice A4 (C.n4 + n16) c4) rfl rfl hb19 (by rw [splice_size]; simp [Cls.all]) (by kernel_rfl) rfl rfl ?_
                                  intro w22 hb22 hs22
                                  have hB22 := Same.trans hB19 hs22 (fun i hi => hi.2.1)
                                  refine hK.out _ _ (SAB.past (by kernel_rfl) hB22) (fun hSS => ?_)
                                  clear hK K hA hB
                                  have hB := hSS.2
                                  have hA : True := trivial
                                  (try dsimp only at hB); (try dsimp only at hA); clear hSS
                                  try simp only [Act.put, List.setIfInBounds_toArray, List.set_cons_zero, List.set_cons_succ]
                                  refine wpL_takeB (i := 23) (v := ?_) rfl (by kernel_rfl) (by kernel_rfl) (by kernel_rfl) (by decide) (fun _ _ _ h => h) (Or.inl ⟨by rfl, ?_⟩) (SAB.past (by kernel_rfl) hB) ?_
                                  rotate_left
                                  · intro wx hBx
                                    (try dsimp only at hBx)
                                    go_simp
                                    try with_reducible rfl
                                  try simp only [Act.put, List.setIfInBounds_toArray, List.set_cons_zero, List.set_cons_succ]
                                  refine wpL_takeB (i := 24) (v := ?_) rfl (by kernel_rfl) (by kernel_rfl) (by kernel_rfl) (by decide) (fun _ _ _ h => h) (Or.inl ⟨by rfl, ?_⟩) (SAB.past (by kernel_rfl) hB) ?_
                                  rotate_left
                                  · intro wx hBx
                                    (try dsimp only at hBx)
                                    go_simp
                                    try with_reducible rfl
                                  try simp only [Act.put, List.setIfInBounds_toArray, List.set_cons_zero, List.set_cons_succ]
                                  refine wpL_one (i := 25) (by kernel_rfl) (StepL.mk rfl (fun K hK => ?_))
                                  refine step_store_one rfl _ _ _ rfl g 6 41 _ (.slice A2 (C.n2 + 1) c2) rfl rfl hb22 (by simp [splice_size, Cls.all]) (by kernel_rfl) rfl rfl ?_
                                  intro w25 hb25 hs25
                                  have hB25 := Same.trans hB22 hs25 (fun i hi => hi.2.1)
                                  refine hK.out _ _ (SAB.past (by kernel_rfl) hB25) (fun hSS => ?_)
                                  clear hK K hA hB
                                  have hB := hSS.2
                                  have hA : True := trivial
                                  (try dsimp only at hB); (try dsimp only at hA); clear hSS
                                  try simp only [Act.put, List.setIfInBounds_toArray, List.set_cons_zero, List.set_cons_succ]
                                  refine wpL_done (by kernel_rfl) ?_
                                  have hz19 := hs19.size
                                  have hz22 := hs22.size
                                  have hz25 := hs25.size
                                  have hs1625 : Same (· ≠ g) w16 w25 := Same.trans (Same.trans hs19 hs22 (fun i hi => hi)) hs25 (fun i hi => hi)
                                  obtain ⟨X1, X2, p1, e1, p2, e2, hcs15, _, _⟩ := HR15.out
                                  have hfin : CutZ w12 g (Lab w L 2) (Lab w L 4) cs15 { C with A1 := A', n1 := n', c1 := c' } (st.ack ++ [⟨0, (arriveS st.k q).want - 1, 0⟩]) (st.out ++ arriveD st.k q) n16 w25 := by
                                    refine ⟨A2, A4, c2, c4, w12.heap.size + 1, w15.heap.size, w15.heap.size, w16.heap.size, by omega, by omega, by omega, by omega, ?_, hapA.keep (hs1625.mono (fun i hi => ?_)), hapO.keep (hs1625.mono (fun i hi => ?_)), hB25⟩
                                    · rw [hcs15] at hb25 ⊢
                                      simpa [splice, Cls.all] using hb25
                                    · intro e; subst e; rcases hi with hi | hi
                                      · exact HG2.out hi
                                      · omega
                                    · intro e; subst e; rcases hi with hi | hi
                                      · exact HG4.out hi
                                      · omega
                                  have HFIN := Lib.hid hfin
                                  clear hfin
                                  clear hcs15 hs1625 hb25 hs25 hb22 hs22 hb19 hs19 hB25 hB22 hB19 hapA hapO hg16 hB16 hap16 hs16 ha15 hg15 hB15' hap15 hs15 hA hB
                                  go_wp2_with fail
                                  go_ret
                                  exact FINZ.out _ HFIN.out
  · as_aux_lemma =>
      have hb6 : w1.cell? ⟨g, 6, none⟩ = some (.slice C.A2 C.n2 C.c2) := by rw [HP1.out.blk.cell]; rfl
      have hcm : C.c2 ≤ 9223372036854775807 := HP1.out.ack.2.2.1
      have hnc : C.n2 ≤ C.c2 := HP1.out.ack.2.1
      have hl2 : C.n2 ≤ 100000 := by rw [HP1.out.lack]; exact OK.out.ack
      have hframe : Same (fun i => i < w.heap.size ∧ i ≠ gc) w w1 := HO1.out
      have HFRAME := Lib.hid hframe
      clear hframe
      by_cases h0 : C.n2 = 0
      · have hd : ((C.n2 : Int) == 0) = true := by simp [h0]
        clear h0
        go_wp2_with fail
        go_ret
        refine StepPost.mk' (fun _ => 0) (StepR.same st) (by omega) (by omega) hg HLG.out HP1.out HC1.out (fun i hi => ⟨by have := hi.1; omega, by rw [ext_old hi.1]; exact hi.2⟩) (fun i hi _ => by rw [ext_old hi.1]; exact hi.2) (fun i hi _ => by rw [ext_old hi.1]; exact hi.2) (fun i hi _ => by rw [ext_old hi.1]; exact hi.2) (fun i hi _ => by rw [ext_old hi.1]; exact hi.2) (HFRAME.out.mono (fun i hi => ⟨hi.1, hi.2.2⟩))
      · have hd : ((C.n2 : Int) == 0) = false := by simp; omega
        have hn0 : 0 < C.n2 := by omega
        clear h0
        go_upto_region 35 with fail
        go_cut [21] from 233 to 240 (fun s21 wx => CutN w1 (Lab w L 6) gc (r - 1) C.n2 s21 wx)
        case first =>
          as_aux_lemma =>
            go_wp2_with fail
            all_goals
              refine (next_any w1 (Lab w L 6) gc (r - 1) _ HC1.out (by omega) (by omega)).mono ?_
              rintro e w2 ⟨n, hn0, hn1, rfl, hc2, ho2⟩
              have HC2 := Lib.hid hc2
              have HO2 := Lib.hid ho2
              clear hc2 ho2
              obtain ⟨n, rfl⟩ := Int.eq_ofNat_of_zero_le hn0
              go_wp2_with fail
              go_meet
              exact ⟨n, _, by omega, rfl, by omega, HC2.out, HO2.out⟩
        case rest =>
          as_aux_lemma =>
            obtain ⟨n, r2, hn, rfl, hr2, hc2, ho2⟩ := hcut
            obtain ⟨w2, rfl⟩ : ∃ w2 : World, w2 = wc := ⟨_, rfl⟩
            have hz2 := ho2.size
            have hp2 := HP1.out.same ho2 ⟨by omega, hgg⟩ (HN.out 0 (by decide) w1 hz1) (HN.out 1 (by decide) w1 hz1) (HN.out 2 (by decide) w1 hz1) (HN.out 3 (by decide) w1 hz1) (HN.out 4 (by decide) w1 hz1)
            have hsl := hp2.ack.sl hp2.lack
            obtain ⟨b, off, q, hA2, hSb, hq, hqc⟩ := hsl.at_ encPk_len hn
            have hbl : b < w.heap.size := hSb.1
            have hb6 : w2.cell? ⟨g, 6, none⟩ = some (.slice (some ⟨b, off, none⟩) C.n2 C.c2) := by rw [hp2.blk.cell, ← hA2]; rfl
            have q0 := hqc 0 _ rfl
            have q1 := hqc 1 _ rfl
            have q2 := hqc 2 _ rfl
            simp only [Nat.add_zero] at q0
            have i0 : (0 : Int) ≤ n := by omega
            have i1 : (n : Int) < C.n2 := by omega
            have hfr2 : Same (fun i => i < w.heap.size ∧ i ≠ gc) w w2 := Same.trans HO1.out ho2 (fun i hi => ⟨by omega, hi.2⟩)
            have HC2 := Lib.hid hc2
            have HO2 := Lib.hid ho2
            have HP2 := Lib.hid hp2
            have HSL := Lib.hid hsl
            have HA2 := Lib.hid hA2
            have HQ := Lib.hid hq
            have HQC := Lib.hid hqc
            have HFR2 := Lib.hid hfr2
            clear hc2 ho2 hp2 hsl hA2 hq hqc hfr2
            go_upto_region 37 with (refine wpList_store_all rfl _ (.tmp 22) (.tmp 247) rfl w2.heap.size 48 _ (encPk q) rfl rfl (Blk.new _ _ _) rfl (by kernel_rfl) rfl ?_; intro w4 hb4 hs4; have HB4 := Lib.hid hb4; have HK4 : Hid (Keep w2 w4) := Lib.hid (Keep.write (Keep.new w2 _) hs4 (Nat.le_refl _)); have hz4 : w2.heap.size < w4.heap.size := hb4.lt; clear hb4 hs4)
            have hp4 := HP2.out.same HK4.out (show g < w2.heap.size by omega) (fun i hi => by have := hi.1; omega) (fun i hi => by have := hi.1; omega) (fun i hi => by have := hi.1; omega) (fun i hi => by have := hi.1; omega) (fun i hi => by have := hi.1; omega) 
            have hA : w4.cell? ⟨g, 6, none⟩ = some (.slice C.A2 C.n2 C.c2) := by rw [hp4.blk.cell]; rfl
            obtain ⟨iP, hi0, iz0, iz1, iz2⟩ := info_of info_Pk
            have one : ∀ l' : List Pk, ∀ u ∈ l'.flatMap encPk, u.oneCell' = true := fun l' u hu => by
              obtain ⟨q, _, hm⟩ := List.mem_flatMap.1 hu
              exact encPk_one q u hm
            have t1 : (n : Int) ≤ C.c2 := by omega
            have t2 : (0 : Int) ≤ (n : Int) + 1 := by omega
            have t3 : (n : Int) + 1 ≤ C.n2 := by omega
            have t4 : ((n : Int) + 1).toNat = n + 1 := by omega
            have t5 : IntKind.i64.wrap ((n : Int) + 1) = n + 1 := IntWalk.i64_in _ (by omega)
            have HP4 := Lib.hid hp4
            have HI0 := Lib.hid hi0
            have IZ0 := Lib.hid iz0
            have IZ1 := Lib.hid iz1
            have IZ2 := Lib.hid iz2
            have ONE := Lib.hid one
            clear hp4 hi0 iz0 iz1 iz2 one
            clear hb6 q0 q1 q2
            go_frame
            go_cut [] from 248 to 265 (fun wx => CutE w4 g st C n wx)
            case first =>
              as_aux_lemma =>
                refine wp_region_L 18 (fun wx => wx.cell? ⟨g, 6, none⟩ = some (.slice C.A2 C.n2 C.c2)) (fun wx => Same (fun i => i < w4.heap.size ∧ i ≠ g) w4 wx) (by kernel_rfl) hA (Same.drew (Same.refl _ _)) (fun hA hB => ?_)
                refine wpL_takeB (i := 0) (v := ?_) rfl (by kernel_rfl) (by kernel_rfl) (by kernel_rfl) (by decide) (fun _ _ _ h => h) (Or.inl ⟨by rfl, ?_⟩) (SAB.both hA hB) ?_
                rotate_left
                · intro wx hBx
                  (try dsimp only at hBx)
                  go_simp
                  try with_reducible rfl
                try simp only [Act.put, List.setIfInBounds_toArray, List.set_cons_zero, List.set_cons_succ]
                refine wpL_takeB (i := 1) (v := ?_) rfl (by kernel_rfl) (by kernel_rfl) (by kernel_rfl) (by decide) (fun _ _ _ h => h) (Or.inl ⟨by rfl, ?_⟩) (SAB.both hA hB) ?_
                rotate_left
                · intro wx hBx
                  (try dsimp only at hBx)
                  go_simp
                  try with_reducible rfl
                try simp only [Act.put, List.setIfInBounds_toArray, List.set_cons_zero, List.set_cons_succ]
                refine wpL_takeB (i := 2) (v := ?_) rfl (by kernel_rfl) (by kernel_rfl) (by kernel_rfl) (by decide) (fun _ _ _ h => h) (Or.inl ⟨by rfl, ?_⟩) (SAB.both hA hB) ?_
                rotate_left
                · intro wx hBx
                  (try dsimp only at hBx)
                  go_simp
                  try with_reducible rfl
                try simp only [Act.put, List.setIfInBounds_toArray, List.set_cons_zero, List.set_cons_succ]
                refine wpL_takeB (i := 3) (v := ?_) rfl (by kernel_rfl) (by kernel_rfl) (by kernel_rfl) (by decide) (fun _ _ _ h => h) (Or.inl ⟨by rfl, ?_⟩) (SAB.both hA hB) ?_
                rotate_left
                · intro wx hBx
                  (try dsimp only at hBx)
                  go_simp
                  try with_reducible rfl
                try simp only [Act.put, List.setIfInBounds_toArray, List.set_cons_zero, List.set_cons_succ]
                refine wpL_takeA (i := 4) (v := ?_) rfl (by kernel_rfl) (by kernel_rfl) (by kernel_rfl) (by kernel_rfl) (by decide) (fun _ _ _ h => h) (Or.inl ⟨by rfl, ?_⟩) hA hB ?_
                rotate_left
                · rintro wx ⟨hAx, hBx⟩
                  (try dsimp only at hBx); (try dsimp only at hAx)
                  go_simp
                  try with_reducible rfl
                try simp only [Act.put, List.setIfInBounds_toArray, List.set_cons_zero, List.set_cons_succ]
                refine wpL_takeB (i := 5) (v := ?_) rfl (by kernel_rfl) (by kernel_rfl) (by kernel_rfl) (by decide) (fun _ _ _ h => h) (Or.inl ⟨by rfl, ?_⟩) (SAB.both hA hB) ?_
                rotate_left
                · intro wx hBx
                  (try dsimp only at hBx)
                  go_simp
                  try with_reducible rfl
                try simp only [Act.put, List.setIfInBounds_toArray, List.set_cons_zero, List.set_cons_succ]
                refine wpL_takeB (i := 6) (v := ?_) rfl (by kernel_rfl) (by kernel_rfl) (by kernel_rfl) (by decide) (fun _ _ _ h => h) (Or.inl ⟨by rfl, ?_⟩) (SAB.both hA hB) ?_
                rotate_left
                · intro wx hBx
                  (try dsimp only at hBx)
                  go_simp
                  try with_reducible rfl
                try simp only [Act.put, List.setIfInBounds_toArray, List.set_cons_zero, List.set_cons_succ]
                refine wpL_takeB (i := 8) (v := ?_) rfl (by kernel_rfl) (by kernel_rfl) (by kernel_rfl) (by decide) (fun _ _ _ h => h) (Or.inl ⟨by rfl, ?_⟩) (SAB.both hA hB) ?_
                rotate_left
                · intro wx hBx
                  (try dsimp only at hBx)
                  go_simp
                  try with_reducible rfl
                try simp only [Act.put, List.setIfInBounds_toArray, List.set_cons_zero, List.set_cons_succ]
                refine wpL_takeB (i := 9) (v := ?_) rfl (by kernel_rfl) (by kernel_rfl) (by kernel_rfl) (by decide) (fun _ _ _ h => h) (Or.inl ⟨by rfl, ?_⟩) (SAB.both hA hB) ?_
                rotate_left
                · intro wx hBx
                  (try dsimp only at hBx)
                  go_simp
                  try with_reducible rfl
                try simp only [Act.put, List.setIfInBounds_toArray, List.set_cons_zero, List.set_cons_succ]
                refine wpL_takeB (i := 10) (v := ?_) rfl (by kernel_rfl) (by kernel_rfl) (by kernel_rfl) (by decide) (fun _ _ _ h => h) (Or.inl ⟨by rfl, ?_⟩) (SAB.both hA hB) ?_
                rotate_left
                · intro wx hBx
                  (try dsimp only at hBx)
                  go_simp
                  try with_reducible rfl
                try simp only [Act.put, List.setIfInBounds_toArray, List.set_cons_zero, List.set_cons_succ]
                refine wpL_takeA (i := 11) (v := ?_) rfl (by kernel_rfl) (by kernel_rfl) (by kernel_rfl) (by kernel_rfl) (by decide) (fun _ _ _ h => h) (Or.inl ⟨by rfl, ?_⟩) hA hB ?_
                rotate_left
                · rintro wx ⟨hAx, hBx⟩
                  (try dsimp only at hBx); (try dsimp only at hAx)
                  go_simp
                  try with_reducible rfl
                try simp only [Act.put, List.setIfInBounds_toArray, List.set_cons_zero, List.set_cons_succ]
                refine wpL_takeB (i := 12) (v := ?_) rfl (by kernel_rfl) (by kernel_rfl) (by kernel_rfl) (by decide) (fun _ _ _ h => h) (Or.inl ⟨by rfl, ?_⟩) (SAB.both hA hB) ?_
                rotate_left
                · intro wx hBx
                  (try dsimp only at hBx)
                  go_simp
                  try with_reducible rfl
                try simp only [Act.put, List.setIfInBounds_toArray, List.set_cons_zero, List.set_cons_succ]
                refine wpL_takeB (i := 13) (v := ?_) rfl (by kernel_rfl) (by kernel_rfl) (by kernel_rfl) (by decide) (fun _ _ _ h => h) (Or.inl ⟨by rfl, ?_⟩) (SAB.both hA hB) ?_
                rotate_left
                · intro wx hBx
                  (try dsimp only at hBx)
                  go_simp
                  try with_reducible rfl
                try simp only [Act.put, List.setIfInBounds_toArray, List.set_cons_zero, List.set_cons_succ]
                refine wpL_takeB (i := 14) rfl (by kernel_rfl) (by kernel_rfl) (by kernel_rfl) (by decide) (fun _ _ _ h => h) (yieldsIf_of (by rfl) (.slice (cutA C.A2 C.c2 (n + 1) 3) (C.n2 - (n + 1)) (C.c2 - (n + 1))) (fun wx hBx => by go_simp; rfl)) (SAB.both hA hB) ?_
                try simp only [Act.put, List.setIfInBounds_toArray, List.set_cons_zero, List.set_cons_succ]
                refine wpL_one (i := 7) (by kernel_rfl) (StepL.mk rfl (fun K hK => ?_))
                refine step_append_any _ (by rfl) (.const (.slice none 0 0)) (.tmp 254) _ (by rfl) w4.heap.size 48 iP _ 3 24 Try.underlying33 HI0.out IZ0.out IZ1.out IZ2.out rfl (by omega) (.slice none 0 0) 0 [] (by rfl) (World.ownsRow_nil _ _ _ _) _ C.A2 n C.c2 ((st.ack.take n).flatMap encPk) (by rfl) ((HP4.out.ack.sl HP4.out.lack).to_ encPk_len (by omega)).2.2.2 (ONE.out _) (by simp [maxLen]; omega) (by omega) (by simp) ?_
                intro v5 w5 hown5 hg5 hat5
                have hk5 : Keep w4 w5 := Same.append (Same.drew (Same.refl _ w4)) (World.ownsRow_nil _ w4.heap.size 48 3) hg5 (fun i hi => hi) (by simp)
                have hz5 := hk5.size
                refine hK.out _ _ (SAB.both ((hk5.cell (p := ⟨g, 6, none⟩) (show g < w4.heap.size by omega)).trans hA) (hk5.mono (fun i hi => hi.1))) (fun hSS => ?_)
                clear hK K hA hB
                have hB := hSS.2
                have hA := hSS.1 (by kernel_rfl)
                (try dsimp only at hB); (try dsimp only at hA); clear hSS
                try simp only [Act.put, List.setIfInBounds_toArray, List.set_cons_zero, List.set_cons_succ]
                refine wpL_one (i := 15) (by kernel_rfl) (StepL.mk rfl (fun K hK => ?_))
                refine step_append_any _ (by rfl) (.tmp 255) (.tmp 262) _ (by rfl) w4.heap.size 48 iP _ 3 24 Try.underlying33 HI0.out IZ0.out IZ1.out IZ2.out rfl (by omega) v5 (0 + n) _ (by rfl) hown5 _ (cutA C.A2 C.c2 (n + 1) 3) (C.n2 - (n + 1)) (C.c2 - (n + 1)) ((st.ack.drop (n + 1)).flatMap encPk) (by rfl) (((HP4.out.ack.sl HP4.out.lack).from_ encPk_len (k := n + 1) (by omega)).keep (Same.mono hk5 (fun i hi => by have := hi.1; omega))).2.2.2 (ONE.out _) (by simp [maxLen]; omega) (by omega) hk5.size ?_
                intro v6 w6 hown6 hg6 hat6
                have hk6 : Keep w4 w6 := Same.append hk5 hown5 hg6 (fun i hi => hi) hk5.size
                have hz6 := hk6.size
                have hown7 : w6.ownsRow w4.heap.size 48 3 v6 (C.n2 - 1) ((st.ack.take n ++ st.ack.drop (n + 1)).flatMap encPk) := by
                  rw [show C.n2 - 1 = 0 + n + (C.n2 - (n + 1)) by omega, List.flatMap_append]
                  simpa using hown6
                obtain ⟨A', c', rfl, hap⟩ := Ap.of_own hown7
                refine hK.out _ _ (SAB.both ((hk6.cell (p := ⟨g, 6, none⟩) (show g < w4.heap.size by omega)).trans (by rw [HP4.out.blk.cell]; rfl)) (hk6.mono (fun i hi => hi.1))) (fun hSS => ?_)
                clear hK K hA hB
                have hB := hSS.2
                have hA := hSS.1 (by kernel_rfl)
                (try dsimp only at hB); (try dsimp only at hA); clear hSS
                try simp only [Act.put, List.setIfInBounds_toArray, List.set_cons_zero, List.set_cons_succ]
                refine wpL_takeB (i := 16) (v := ?_) rfl (by kernel_rfl) (by kernel_rfl) (by kernel_rfl) (by decide) (fun _ _ _ h => h) (Or.inl ⟨by rfl, ?_⟩) (SAB.both hA hB) ?_
                rotate_left
                · intro wx hBx
                  (try dsimp only at hBx)
                  go_simp
                  try with_reducible rfl
                try simp only [Act.put, List.setIfInBounds_toArray, List.set_cons_zero, List.set_cons_succ]
                refine wpL_takeB (i := 17) (v := ?_) rfl (by kernel_rfl) (by kernel_rfl) (by kernel_rfl) (by decide) (fun _ _ _ h => h) (Or.inl ⟨by rfl, ?_⟩) (SAB.both hA hB) ?_
                rotate_left
                · intro wx hBx
                  (try dsimp only at hBx)
                  go_simp
                  try with_reducible rfl
                try simp only [Act.put, List.setIfInBounds_toArray, List.set_cons_zero, List.set_cons_succ]
                refine wpL_one (i := 18) (by kernel_rfl) (StepL.mk rfl (fun K hK => ?_))
                refine step_store_one rfl _ _ _ rfl g 6 41 _ (.slice A' (C.n2 - 1) c') rfl rfl (hk6.blk HP4.out.blk (by omega)) (by simp [Cls.all]) (by kernel_rfl) rfl rfl ?_
                intro w7 hb7 hs7
                refine hK.out _ _ (SAB.past (by kernel_rfl) (Same.trans (hk6.mono (fun i hi => hi.1)) hs7 (fun i hi => hi.2))) (fun hSS => ?_)
                clear hK K hA hB
                have hB := hSS.2
                have hA : True := trivial
                (try dsimp only at hB); (try dsimp only at hA); clear hSS
                try simp only [Act.put, List.setIfInBounds_toArray, List.set_cons_zero, List.set_cons_succ]
                refine wpL_done (by kernel_rfl) ?_
                have hz7 := hs7.size
                have hfin : CutE w4 g st C n w7 := ⟨A', c', by simpa [Cls.all] using hb7, (hap.keep (hs7.mono (fun i hi => by omega))).more (fun i hi hl => ⟨hi.1, hl⟩), hB⟩
                have HFIN := Lib.hid hfin
                clear hfin
                clear hb7 hs7 hap hown6 hown7 hg6 hat6 hk6 hk5 hown5 hg5 hat5 hA hB t4 t5
                go_wp2_with fail
                go_meet
                exact HFIN.out
            case rest =>
              as_aux_lemma =>
                obtain ⟨A', c', hbE, hapE, hsE⟩ := hcut
                obtain ⟨w5, rfl⟩ : ∃ w5 : World, w5 = wc := ⟨_, rfl⟩
                have far : ∀ a, a ≠ 5 → ∀ i, Lab w L a i → i < w4.heap.size ∧ i ≠ g := fun a ha i hi => ⟨by have := hi.1; omega, fun e => ha (by rw [← hi.2, e, HLG.out])⟩
                have hz5 := hsE.size
                have hb22 : Blk w5 w2.heap.size 48 (encPk q).toArray := hsE.blk HB4.out ⟨by omega, by omega⟩
                have hlk : LkR w5 (Lab w L 0) (C.k st.k) st.k := HP4.out.lk.keep (hsE.mono (far 0 (by decide)))
                have hiq : I64 q.ack := OK.out.aack q (List.mem_of_getElem? HQ.out)
                have hkl := OK.out.kept
                have hba := OK.out.base0
                have hbb := OK.out.base1
                have he0 := OK.out.early
                have hcl : (confirmS st.k q).kept.length ≤ 1000 ∧ (confirmS st.k q).early.length ≤ 1000 := by
                  unfold confirmS
                  split
                  · exact ⟨by simp; omega, by simp; omega⟩
                  · exact ⟨by omega, by omega⟩
                obtain ⟨hcl1, hcl2⟩ := hcl
                clear t1 t2 t3 t4 t5 hA
                have HBE := Lib.hid hbE
                have HAPE := Lib.hid hapE
                have HSE := Lib.hid hsE
                have FAR := Lib.hid far
                have HB22 := Lib.hid hb22
                have HLK := Lib.hid hlk
                have HIQ := Lib.hid hiq
                clear hbE hapE hsE far hb22 hlk hiq
                go_upto_region 38 with fail
                go_cut [23] from 266 to 271 (fun s23 wx => CutK w5 (Lab w L 0) (confirmS st.k q) s23 wx)
                case first =>
                  as_aux_lemma =>
                    have hA : True := trivial
                    refine wp_region_L 99 (fun _ => True) (fun wx => Keep w5 wx) (by kernel_rfl) trivial (Same.drew (Same.refl _ _)) (fun _ hB => ?_)
                    refine wpL_takeB (i := 0) (v := ?_) rfl (by kernel_rfl) (by kernel_rfl) (by kernel_rfl) (by decide) (fun _ _ _ h => h) (Or.inl ⟨by rfl, ?_⟩) (SAB.both hA hB) ?_
                    rotate_left
                    · intro wx hBx
                      (try dsimp only at hBx)
                      go_simp
                      try with_reducible rfl
                    try simp only [Act.put, List.setIfInBounds_toArray, List.set_cons_zero, List.set_cons_succ]
                    refine wpL_takeB (i := 1) (v := ?_) rfl (by kernel_rfl) (by kernel_rfl) (by kernel_rfl) (by decide) (fun _ _ _ h => h) (Or.inl ⟨by rfl, ?_⟩) (SAB.both hA hB) ?_
                    rotate_left
                    · intro wx hBx
                      (try dsimp only at hBx)
                      go_simp
                      try with_reducible rfl
                    try simp only [Act.put, List.setIfInBounds_toArray, List.set_cons_zero, List.set_cons_succ]
                    refine wpL_takeB (i := 2) (v := ?_) rfl (by kernel_rfl) (by kernel_rfl) (by kernel_rfl) (by decide) (fun _ _ _ h => h) (Or.inl ⟨by rfl, ?_⟩) (SAB.both hA hB) ?_
                    rotate_left
                    · intro wx hBx
                      (try dsimp only at hBx)
                      go_simp
                      try with_reducible rfl
                    try simp only [Act.put, List.setIfInBounds_toArray, List.set_cons_zero, List.set_cons_succ]
                    refine wpL_takeB (i := 3) rfl (by kernel_rfl) (by kernel_rfl) (by kernel_rfl) (by decide) (fun _ _ _ h => h) (yieldsIf_blk (by rfl) _ _ rfl g 0 41 _ (C.k st.k) _ rfl (fun wx hx => hx.blk HBE.out (by omega)) (({ C with A2 := A', n2 := C.n2 - 1, c2 := c' } : Cls).sub st.k) Try.underlying35 rfl (by kernel_rfl)) (SAB.both hA hB) ?_
                    try simp only [Act.put, List.setIfInBounds_toArray, List.set_cons_zero, List.set_cons_succ]
                    refine wpL_takeB (i := 4) rfl (by kernel_rfl) (by kernel_rfl) (by kernel_rfl) (by decide) (fun _ _ _ h => h) (yieldsIf_blk (by rfl) _ _ rfl w2.heap.size 0 48 _ (encPk q) _ rfl (fun wx hx => hx.blk HB22.out (by omega)) (fun j v hv => by simpa using hv) Try.underlying48 rfl (by kernel_rfl)) (SAB.both hA hB) ?_
                    try simp only [Act.put, List.setIfInBounds_toArray, List.set_cons_zero, List.set_cons_succ]
                    have key : ∀ (wa : World), Keep w5 wa → Calls Try.prog 23 #[.agg (C.k st.k).toArray, .agg (encPk q).toArray] wa (LkOne (confirmS st.k q) (Lab w L 0) wa) := fun wa ha => confirm_any wa (Lab w L 0) (C.k st.k) st.k q (fun i hi => by have := hi.1; have := ha.size; omega) (HLK.out.keep (ha.mono (fun i hi => by have := hi.1; omega))) (by omega) hba (by omega) HIQ.out
                    have fin : ∀ (wa wb wf : World) (b : Nat) (cs6 : List Value), Keep w5 wa → LkR wb (fun i => Lab w L 0 i ∨ (wa.heap.size ≤ i ∧ i < wb.heap.size)) cs6 (confirmS st.k q) → Keep wa wb → w5.heap.size ≤ b → (b < wa.heap.size ∨ b = wb.heap.size) → Same (fun i => i < wb.heap.size ∧ i ≠ b) wb wf → Blk wf b 35 cs6.toArray → CutK w5 (Lab w L 0) (confirmS st.k q) (.pointer (some ⟨b, 0, none⟩)) wf := fun wa wb wf b cs6 ha hr hk hb hbb hs hblk => by
                      have h1 := ha.size
                      have h2 := hk.size
                      have h3 := hs.size
                      have hlt : ∀ i, (Lab w L 0 i ∨ (wa.heap.size ≤ i ∧ i < wb.heap.size)) → i < wb.heap.size ∧ i ≠ b := fun i hi => hi.elim (fun h => by have := h.1; omega) (fun h => by omega)
                      refine ⟨b, cs6, rfl, hb, hblk, (hr.keep (hs.mono hlt)).more (fun i hi => ?_), Same.trans (Keep.trans ha hk) hs (fun i hi => by omega)⟩
                      have := hlt i hi
                      rcases hi with hi | hi
                      · exact .inl hi
                      · exact .inr ⟨by omega, by omega, by omega⟩
                    have KEY := Lib.hid key
                    have FIN := Lib.hid fin
                    clear key fin
                    refine wpL_two (i := 5) (j := 6) (by kernel_rfl) (StepL.mk rfl (fun K hK => ?_)) (StepL.mk rfl (fun K hK => ?_))
                    · go_simp
                      refine (KEY.out w5.drew hB).mono ?_
                      rintro e w6 ⟨cs6, rfl, hr6, hk6⟩
                      have hk56 : Keep w5 w6 := Keep.trans hB hk6
                      refine hK.out _ _ (SAB.both trivial hk56) (fun hSS => ?_)
                      clear hK K hA hB
                      have hB := hSS.2
                      have hA := hSS.1 (by kernel_rfl)
                      (try dsimp only at hB); (try dsimp only at hA); clear hSS
                      try simp only [Act.put, List.setIfInBounds_toArray, List.set_cons_zero, List.set_cons_succ]
                      refine wpL_one (i := 6) (by kernel_rfl) (StepL.mk rfl (fun K hK => ?_))
                      go_simp
                      refine hK.out _ _ (SAB.both trivial (Keep.alloc hB _)) (fun hSS => ?_)
                      clear hK K hA hB
                      have hB := hSS.2
                      have hA := hSS.1 (by kernel_rfl)
                      (try dsimp only at hB); (try dsimp only at hA); clear hSS
                      try simp only [Act.put, List.setIfInBounds_toArray, List.set_cons_zero, List.set_cons_succ]
                      refine wpL_one (i := 7) (by kernel_rfl) (StepL.mk rfl (fun K hK => ?_))
                      refine step_store_blk rfl _ _ _ rfl w6.heap.size 0 35 _ cs6 rfl rfl (Blk.new _ _ _) (by rw [hr6.len]; simp) (info_lk hr6.len) hr6.one ?_
                      intro w7 hb7 hs7
                      rw [splice_all cs6 _ (by rw [hr6.len]; rfl)] at hb7
                      have hz6 := hk56.size
                      have hfin := FIN.out w5.drew w6 w7 w6.heap.size cs6 (Same.drew (Same.refl _ _)) hr6 hk6 hz6 (.inr rfl) (Same.trans (Same.mono (Keep.new w6 _) (fun i hi => hi.1)) hs7 (fun i hi => hi.2)) hb7
                      refine hK.out _ _ (SAB.both trivial (Keep.write hB hs7 hz6)) (fun hSS => ?_)
                      clear hK K hA hB
                      have hB := hSS.2
                      have hA := hSS.1 (by kernel_rfl)
                      (try dsimp only at hB); (try dsimp only at hA); clear hSS
                      try simp only [Act.put, List.setIfInBounds_toArray, List.set_cons_zero, List.set_cons_succ]
                      refine wpL_done (by kernel_rfl) ?_
                      have HFIN := Lib.hid hfin
                      clear hfin
                      clear hb7 hs7 hr6 hk6 hk56 hA hB
                      go_wp2_with fail
                      go_meet
                      exact HFIN.out
                    · go_simp
                      have hk5a : Keep w5 (w5.alloc (.cells #[.int .i64 0, .int .i64 0, .slice none 0 0, .int .i64 0, .slice none 0 0] 35)).drew := Same.drew (Keep.new w5 _)
                      refine hK.out _ _ (SAB.both trivial hk5a) (fun hSS => ?_)
                      clear hK K hA hB
                      have hB := hSS.2
                      have hA := hSS.1 (by kernel_rfl)
                      (try dsimp only at hB); (try dsimp only at hA); clear hSS
                      try simp only [Act.put, List.setIfInBounds_toArray, List.set_cons_zero, List.set_cons_succ]
                      refine wpL_one (i := 5) (by kernel_rfl) (StepL.mk rfl (fun K hK => ?_))
                      go_simp
                      refine (KEY.out _ hB).mono ?_
                      rintro e w6 ⟨cs6, rfl, hr6, hk6⟩
                      have hk56 : Keep w5 w6 := Keep.trans hB hk6
                      refine hK.out _ _ (SAB.both trivial hk56) (fun hSS => ?_)
                      clear hK K hA hB
                      have hB := hSS.2
                      have hA := hSS.1 (by kernel_rfl)
                      (try dsimp only at hB); (try dsimp only at hA); clear hSS
                      try simp only [Act.put, List.setIfInBounds_toArray, List.set_cons_zero, List.set_cons_succ]
                      refine wpL_one (i := 7) (by kernel_rfl) (StepL.mk rfl (fun K hK => ?_))
                      have hz6 := hk6.size
                      simp at hz6
                      refine step_store_blk rfl _ _ _ rfl w5.heap.size 0 35 _ cs6 rfl rfl (hk6.blk ((Blk.new w5 _ _).drewN 1) (by simp)) (by rw [hr6.len]; simp) (info_lk hr6.len) hr6.one ?_
                      intro w7 hb7 hs7
                      rw [splice_all cs6 _ (by rw [hr6.len]; rfl)] at hb7
                      have hfin := FIN.out _ w6 w7 w5.heap.size cs6 hk5a hr6 hk6 (Nat.le_refl _) (.inl (by simp)) (hs7.mono (fun i hi => hi.2)) hb7
                      refine hK.out _ _ (SAB.both trivial (Keep.write hB hs7 (Nat.le_refl _))) (fun hSS => ?_)
                      clear hK K hA hB
                      have hB := hSS.2
                      have hA := hSS.1 (by kernel_rfl)
                      (try dsimp only at hB); (try dsimp only at hA); clear hSS
                      try simp only [Act.put, List.setIfInBounds_toArray, List.set_cons_zero, List.set_cons_succ]
                      refine wpL_done (by kernel_rfl) ?_
                      have HFIN := Lib.hid hfin
                      clear hfin
                      clear hb7 hs7 hr6 hk6 hk56 hA hB hk5a
                      go_wp2_with fail
                      go_meet
                      exact HFIN.out
                case rest =>
                  as_aux_lemma =>
                    obtain ⟨b6, cs6, rfl, hb6, hblk6, hr6, hk6⟩ := hcut
                    obtain ⟨w6, rfl⟩ : ∃ w6 : World, w6 = wc := ⟨_, rfl⟩
                    have hz6 := hk6.size
                    have hb6l : b6 < w6.heap.size := hblk6.lt
                    have hlt6 : ∀ i, (Lab w L 0 i ∨ (w5.heap.size ≤ i ∧ i < w6.heap.size ∧ i ≠ b6)) → i < w6.heap.size ∧ i ≠ b6 := fun i hi => hi.elim (fun h => by have := h.1; omega) (fun h => h.2)
                    have HBLK6 := Lib.hid hblk6
                    have HR6 := Lib.hid hr6
                    have HK6 := Lib.hid hk6
                    have HLT6 := Lib.hid hlt6
                    clear hblk6 hr6 hk6 hlt6
                    go_upto_region 39 with fail
                    go_cut [283] from 272 to 282 (fun s283 wx => CutF w6 s283 wx)
                    case first =>
                      as_aux_lemma =>
                        cases check with
                        | false =>
                          go_wp2_with fail
                          go_quiet (fail)
                          go_wp2_with fail
                          go_meet
                          exact ⟨rfl, Same.drewN (Same.refl _ _) _⟩
                        | true =>
                          have hA : True := trivial
                          refine wp_region_L 99 (fun _ => True) (fun wx => Keep w6 wx) (by kernel_rfl) trivial (Same.drew (Same.refl _ _)) (fun _ hB => ?_)
                          refine wpL_takeB (i := 0) (v := ?_) rfl (by kernel_rfl) (by kernel_rfl) (by kernel_rfl) (by decide) (fun _ _ _ h => h) (Or.inl ⟨by rfl, ?_⟩) (SAB.both hA hB) ?_
                          rotate_left
                          · intro wx hBx
                            (try dsimp only at hBx)
                            go_simp
                            try with_reducible rfl
                          try simp only [Act.put, List.setIfInBounds_toArray, List.set_cons_zero, List.set_cons_succ]
                          refine wpL_takeB (i := 1) (v := ?_) rfl (by kernel_rfl) (by kernel_rfl) (by kernel_rfl) (by decide) (fun _ _ _ h => h) (Or.inl ⟨by rfl, ?_⟩) (SAB.both hA hB) ?_
                          rotate_left
                          · intro wx hBx
                            (try dsimp only at hBx)
                            go_simp
                            try with_reducible rfl
                          try simp only [Act.put, List.setIfInBounds_toArray, List.set_cons_zero, List.set_cons_succ]
                          refine wpL_takeB (i := 2) rfl (by kernel_rfl) (by kernel_rfl) (by kernel_rfl) (by decide) (fun _ _ _ h => h) (yieldsIf_blk (by rfl) _ _ rfl b6 0 35 _ cs6 _ rfl (fun wx hx => hx.blk HBLK6.out hb6l) (fun j v hv => by simpa using hv) Try.underlying35 rfl (info_lk HR6.out.len)) (SAB.both hA hB) ?_
                          try simp only [Act.put, List.setIfInBounds_toArray, List.set_cons_zero, List.set_cons_succ]
                          refine wpL_takeB (i := 3) (v := ?_) rfl (by kernel_rfl) (by kernel_rfl) (by kernel_rfl) (by decide) (fun _ _ _ h => h) (Or.inl ⟨by rfl, ?_⟩) (SAB.both hA hB) ?_
                          rotate_left
                          · intro wx hBx
                            (try dsimp only at hBx)
                            go_simp
                            try with_reducible rfl
                          try simp only [Act.put, List.setIfInBounds_toArray, List.set_cons_zero, List.set_cons_succ]
                          refine wpL_takeB (i := 4) (v := ?_) rfl (by kernel_rfl) (by kernel_rfl) (by kernel_rfl) (by decide) (fun _ _ _ h => h) (Or.inl ⟨by rfl, ?_⟩) (SAB.both hA hB) ?_
                          rotate_left
                          · intro wx hBx
                            (try dsimp only at hBx)
                            go_simp
                            try with_reducible rfl
                          try simp only [Act.put, List.setIfInBounds_toArray, List.set_cons_zero, List.set_cons_succ]
                          refine wpL_takeB (i := 5) (v := ?_) rfl (by kernel_rfl) (by kernel_rfl) (by kernel_rfl) (by decide) (fun _ _ _ h => h) (Or.inl ⟨by rfl, ?_⟩) (SAB.both hA hB) ?_
                          rotate_left
                          · intro wx hBx
                            (try dsimp only at hBx)
                            go_simp
                            try with_reducible rfl
                          try simp only [Act.put, List.setIfInBounds_toArray, List.set_cons_zero, List.set_cons_succ]
                          refine wpL_takeB (i := 6) rfl (by kernel_rfl) (by kernel_rfl) (by kernel_rfl) (by decide) (fun _ _ _ h => h) (yieldsIf_blk (by rfl) _ _ rfl g 0 41 _ (C.k st.k) _ rfl (fun wx hx => hx.blk (HK6.out.blk HBE.out (by omega)) (by omega)) (({ C with A2 := A', n2 := C.n2 - 1, c2 := c' } : Cls).sub st.k) Try.underlying35 rfl (by kernel_rfl)) (SAB.both hA hB) ?_
                          try simp only [Act.put, List.setIfInBounds_toArray, List.set_cons_zero, List.set_cons_succ]
                          refine wpL_takeB (i := 7) rfl (by kernel_rfl) (by kernel_rfl) (by kernel_rfl) (by decide) (fun _ _ _ h => h) (yieldsIf_blk (by rfl) _ _ rfl w2.heap.size 0 48 _ (encPk q) _ rfl (fun wx hx => hx.blk (HK6.out.blk HB22.out (by omega)) (by omega)) (fun j v hv => by simpa using hv) Try.underlying48 rfl (by kernel_rfl)) (SAB.both hA hB) ?_
                          try simp only [Act.put, List.setIfInBounds_toArray, List.set_cons_zero, List.set_cons_succ]
                          refine wpL_one (i := 8) (by kernel_rfl) (StepL.mk rfl (fun K hK => ?_))
                          go_simp
                          refine (rconfirm_any w6.drew (Lab w L 0) (C.k st.k) st.k q (fun i hi => by have := hi.1; show i < w6.heap.size; omega) ((HLK.out.keep (HK6.out.mono (fun i hi => by have := hi.1; omega))).keep (hB.mono (fun i hi => by have := hi.1; omega))) (by omega) hba (by omega) HIQ.out).mono ?_
                          rintro e w7 ⟨cs7, rfl, hr7, hk7⟩
                          have hk67 : Keep w6 w7 := Keep.trans hB hk7
                          have hz7 := hk67.size
                          refine hK.out _ _ (SAB.both trivial hk67) (fun hSS => ?_)
                          clear hK K hA hB
                          have hB := hSS.2
                          have hA := hSS.1 (by kernel_rfl)
                          (try dsimp only at hB); (try dsimp only at hA); clear hSS
                          try simp only [Act.put, List.setIfInBounds_toArray, List.set_cons_zero, List.set_cons_succ]
                          refine wpL_one (i := 9) (by kernel_rfl) (StepL.mk rfl (fun K hK => ?_))
                          go_simp
                          refine (sameLk_any w7 _ _ cs6 cs7 (confirmS st.k q) (fun i hi => by have := (HLT6.out i hi).1; omega) (fun i hi => hi.elim (fun h => by have := h.1; omega) (fun h => h.2)) (HR6.out.keep (hk67.mono (fun i hi => (HLT6.out i hi).1))) hr7 (by omega) (by omega)).mono ?_
                          rintro e w8 ⟨rfl, hk8⟩
                          refine hK.out _ _ (SAB.both trivial (Keep.trans hk67 hk8)) (fun hSS => ?_)
                          clear hK K hA hB
                          have hB := hSS.2
                          have hA := hSS.1 (by kernel_rfl)
                          (try dsimp only at hB); (try dsimp only at hA); clear hSS
                          try simp only [Act.put, List.setIfInBounds_toArray, List.set_cons_zero, List.set_cons_succ]
                          refine wpL_takeB (i := 10) (v := ?_) rfl (by kernel_rfl) (by kernel_rfl) (by kernel_rfl) (by decide) (fun _ _ _ h => h) (Or.inl ⟨by rfl, ?_⟩) (SAB.both hA hB) ?_
                          rotate_left
                          · intro wx hBx
                            (try dsimp only at hBx)
                            go_simp
                            try with_reducible rfl
                          try simp only [Act.put, List.setIfInBounds_toArray, List.set_cons_zero, List.set_cons_succ]
                          refine wpL_takeB (i := 11) (v := ?_) rfl (by kernel_rfl) (by kernel_rfl) (by kernel_rfl) (by decide) (fun _ _ _ h => h) (Or.inl ⟨by rfl, ?_⟩) (SAB.both hA hB) ?_
                          rotate_left
                          · intro wx hBx
                            (try dsimp only at hBx)
                            go_simp
                            try with_reducible rfl
                          try simp only [Act.put, List.setIfInBounds_toArray, List.set_cons_zero, List.set_cons_succ]
                          refine wpL_done (by kernel_rfl) ?_
                          have hfin : Keep w6 w8 := hB
                          have HFIN := Lib.hid hfin
                          clear hfin
                          clear hr7 hk7 hk67 hk8 hA hB
                          go_wp2_with fail
                          go_meet
                          exact ⟨rfl, HFIN.out⟩
                    case rest =>
                      as_aux_lemma =>
                        obtain ⟨rfl, hk7⟩ := hcut
                        obtain ⟨w7, rfl⟩ : ∃ w7 : World, w7 = wc := ⟨_, rfl⟩
                        have hz7 := hk7.size
                        have hk57 := Keep.trans HK6.out hk7
                        have hbg : Blk w7 g 41 (({ C with A2 := A', n2 := C.n2 - 1, c2 := c' } : Cls).all st.k).toArray := hk57.blk HBE.out (by omega)
                        have HK7 := Lib.hid hk7
                        have HK57 := Lib.hid hk57
                        have HBG := Lib.hid hbg
                        clear hk7 hk57 hbg
                        go_wp2_with (first
                          | (refine wpList_load_all rfl _ (.tmp 23) rfl b6 35 cs6 _ rfl (HK7.out.blk HBLK6.out hb6l) Try.underlying35 rfl (info_lk HR6.out.len) ?_)
                          | (refine wpList_store_blk rfl _ (.tmp 287) (.tmp 285) rfl g 0 41 _ cs6 rfl rfl HBG.out (by rw [HR6.out.len]; simp [Cls.all]) (info_lk HR6.out.len) HR6.out.one ?_; intro w8 hb8 hs8; have HB8 := Lib.hid hb8; have HS8 := Lib.hid hs8; clear hb8 hs8))
                        have hz8 := HS8.out.size
                        obtain ⟨X1, X2, p1, e1, p2, e2, hcs6, k1, k2⟩ := HR6.out
                        have hfar8 : Same (fun i => i < w4.heap.size ∧ i ≠ g) w4 w8 := Same.trans (Same.trans HSE.out HK57.out (fun i hi => by omega)) HS8.out (fun i hi => hi.2)
                        have hnew : ∀ i, (Lab w L 0 i ∨ (w5.heap.size ≤ i ∧ i < w6.heap.size ∧ i ≠ b6)) → i < w6.heap.size ∧ i ≠ g := fun i hi => hi.elim (fun h => by have := FAR.out 0 (by decide) i h; omega) (fun h => by omega)
                        have h68 : ∀ T : Nat → Prop, (∀ i, T i → i < w6.heap.size ∧ i ≠ g) → Same T w6 w8 := fun T hT => Same.trans (HK7.out.mono (fun i hi => (hT i hi).1)) HS8.out (fun i hi => (hT i hi).2)
                        have hpf : Pcs (fun i => Lab w L 0 i ∨ (w5.heap.size ≤ i ∧ i < w6.heap.size ∧ i ≠ b6)) (Lab w L 1) (fun i => w4.heap.size ≤ i ∧ i < w5.heap.size) (Lab w L 3) (Lab w L 4) g { C with B1 := X1, m1 := p1, d1 := e1, B2 := X2, m2 := p2, d2 := e2, A2 := A', n2 := C.n2 - 1, c2 := c' } { st with ack := st.ack.take n ++ st.ack.drop (n + 1), k := confirmS st.k q } w8 :=
                          ⟨by have := HB8.out; rw [hcs6] at this; simpa [splice, Cls.all] using this, k1.keep (h68 _ hnew), k2.keep (h68 _ hnew), HP4.out.data.keep (hfar8.mono (FAR.out 1 (by decide))), HAPE.out.keep (Same.trans (HK57.out.mono (fun i hi => hi.2)) HS8.out (fun i hi => by omega)), HP4.out.inn.keep (hfar8.mono (FAR.out 3 (by decide))), HP4.out.out.keep (hfar8.mono (FAR.out 4 (by decide))), HP4.out.ldata, by have := HP4.out.lack; simp only [List.length_append, List.length_take, List.length_drop]; omega, HP4.out.linn, HP4.out.lout⟩
                        have hcf := (HC2.out.keep HK4.out).same (hfar8.mono (FAR.out 6 (by decide)))
                        have hfr : Same (fun i => i < w.heap.size ∧ (L i = 0 ∨ L i = 6) ∧ i ≠ gc) w w8 := Same.trans (Same.trans (HFR2.out.mono (fun i hi => ⟨hi.1, hi.2.2⟩)) HK4.out (fun i hi => by omega)) hfar8 (fun i hi => hi.2.1.elim (fun h => FAR.out 0 (by decide) i ⟨hi.1, h⟩) (fun h => FAR.out 6 (by decide) i ⟨hi.1, h⟩))
                        go_ret
                        refine StepPost.mk' (fun i => if w4.heap.size ≤ i ∧ i < w5.heap.size then 2 else 0) (StepR.confirm st n q HQ.out) (by omega) (by omega) hg HLG.out hpf hcf (fun i hi => ?_) (fun i hi _ => by rw [ext_old hi.1]; exact hi.2) (fun i hi hl => by rw [ext_new (by omega), if_pos hi]) (fun i hi _ => by rw [ext_old hi.1]; exact hi.2) (fun i hi _ => by rw [ext_old hi.1]; exact hi.2) hfr
                        rcases hi with hi | hi
                        · exact ⟨by have := hi.1; omega, by rw [ext_old hi.1]; exact hi.2⟩
                        · exact ⟨by omega, by rw [ext_new (by omega), if_neg (by omega)]⟩
  · as_aux_lemma =>
      have hb5 : w1.cell? ⟨g, 5, none⟩ = some (.slice C.A1 C.n1 C.c1) := by rw [HP1.out.blk.cell]; rfl
      have hcm : C.c1 ≤ 9223372036854775807 := HP1.out.data.2.2.1
      have hnc : C.n1 ≤ C.c1 := HP1.out.data.2.1
      have hframe : Same (fun i => i < w.heap.size ∧ i ≠ gc) w w1 := HO1.out
      have HFRAME := Lib.hid hframe
      clear hframe
      by_cases h0 : C.n1 = 0
      · have hd : decide (0 < C.n1) = false := by simp [h0]
        have e0 : st.data.drop 1 = st.data := by
          have := HP1.out.ldata
          have : st.data = [] := List.eq_nil_of_length_eq_zero (by omega)
          rw [this]; rfl
        have E0 := Lib.hid e0
        clear e0
        clear h0
        go_wp2_with fail
        go_ret
        refine StepPost.mk' (fun _ => 0) (StepR.same st) (by omega) (by omega) hg HLG.out HP1.out HC1.out (fun i hi => ⟨by have := hi.1; omega, by rw [ext_old hi.1]; exact hi.2⟩) (fun i hi _ => by rw [ext_old hi.1]; exact hi.2) (fun i hi _ => by rw [ext_old hi.1]; exact hi.2) (fun i hi _ => by rw [ext_old hi.1]; exact hi.2) (fun i hi _ => by rw [ext_old hi.1]; exact hi.2) (HFRAME.out.mono (fun i hi => ⟨hi.1, hi.2.2⟩))
      · have hd : decide (0 < C.n1) = true := by simp; omega
        have hap := HP1.out.data.from_ (k := 1) (by omega)
        rw [show 1 * 3 = 3 from rfl] at hap
        have hdd : (st.data.flatMap encPk).drop 3 = (st.data.drop 1).flatMap encPk := flat_drop encPk_len st.data 1
        rw [hdd] at hap
        have hdl : C.n1 - 1 = (st.data.drop 1).length := by rw [List.length_drop, HP1.out.ldata]
        have hn1 : (1 : Int) ≤ C.n1 := by omega
        have HAP := Lib.hid hap
        have HDL := Lib.hid hdl
        clear hap hdl
        clear hdd h0
        go_wp2_with (refine wpList_store_one rfl _ (.tmp 39) (.tmp 37) rfl g 5 41 _ (.slice (if C.c1 = 1 then C.A1 else C.A1.map (·.add 3)) (C.n1 - 1) (C.c1 - 1)) rfl rfl HP1.out.blk (by simp [Cls.all]) (by kernel_rfl) rfl rfl ?_; intro w6 hb6 hs6; have HB6 := Lib.hid hb6; have HS6 := Lib.hid hs6; clear hb6 hs6)
        all_goals
          have hz6 := HS6.out.size
          have far : ∀ a, a ≠ 5 → ∀ i, Lab w L a i → i ≠ g := fun a ha i hi e => ha (by rw [← hi.2, e, HLG.out])
          have hpf : Pcs (Lab w L 0) (Lab w L 1) (Lab w L 2) (Lab w L 3) (Lab w L 4) g { C with A1 := (if C.c1 = 1 then C.A1 else C.A1.map (·.add 3)), n1 := C.n1 - 1, c1 := C.c1 - 1 } { st with data := st.data.drop 1 } w6 :=
            ⟨by simpa [Cls.all] using HB6.out, HP1.out.kept.keep (HS6.out.mono (far 0 (by decide))), HP1.out.early.keep (HS6.out.mono (far 0 (by decide))), HAP.out.keep (HS6.out.mono (far 1 (by decide))), HP1.out.ack.keep (HS6.out.mono (far 2 (by decide))), HP1.out.inn.keep (HS6.out.mono (far 3 (by decide))), HP1.out.out.keep (HS6.out.mono (far 4 (by decide))), HDL.out, HP1.out.lack, HP1.out.linn, HP1.out.lout⟩
          have hcf := HC1.out.same (HS6.out.mono (far 6 (by decide)))
          have hfr : Same (fun i => i < w.heap.size ∧ (L i = 0 ∨ L i = 6) ∧ i ≠ gc) w w6 := Same.trans (HFRAME.out.mono (fun i hi => ⟨hi.1, hi.2.2⟩)) HS6.out (fun i hi => hi.2.1.elim (fun h => far 0 (by decide) i ⟨hi.1, h⟩) (fun h => far 6 (by decide) i ⟨hi.1, h⟩))
          go_ret
          exact StepPost.mk' (fun _ => 0) (StepR.lose st) (by omega) (by omega) hg HLG.out hpf hcf (fun i hi => ⟨by have := hi.1; omega, by rw [ext_old hi.1]; exact hi.2⟩) (fun i hi _ => by rw [ext_old hi.1]; exact hi.2) (fun i hi _ => by rw [ext_old hi.1]; exact hi.2) (fun i hi _ => by rw [ext_old hi.1]; exact hi.2) (fun i hi _ => by rw [ext_old hi.1]; exact hi.2) hfr
end Go.Proofs.Ytafgacfbplilpaa
