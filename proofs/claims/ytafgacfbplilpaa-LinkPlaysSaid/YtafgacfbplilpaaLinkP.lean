/- The law LinkPlays. -/
import Derived.Test.YtafgacfbplilpaaLinkO
import Derived.Test.YtafgacfbplilpaaMod
import Derived.Test.YtafgacfbplilpaaRowIn
set_option linter.unusedVariables false
set_option linter.unusedSimpArgs false
namespace Go.Proofs.Ytafgacfbplilpaa
open Go.RowKit Go.Proofs

set_option maxHeartbeats 8000000 in
set_option maxRecDepth 100000 in
theorem linkPlays_walk (w : World) (x : Int) (A : Option Addr) (n c : Nat) (zs : List Int) (hx : I64 x) (hz : Sl encB 1 w (· < w.heap.size) A n c zs) (hz8 : ∀ y ∈ zs, 0 ≤ y ∧ y < 256) :
    Calls Try.prog 8 #[.int .i64 x, .slice A n c] w (KTrue w) := by
  have HZ := Lib.hid hz
  have HZ8 := Lib.hid hz8
  clear hz hz8
  go_enter Try.func8, Try.ntmps8
  go_wp2_with fail
  refine (awake15_any w).mono ?_
  rintro e w0 ⟨rfl, hk0⟩
  have HK0 := Lib.hid hk0
  clear hk0
  go_wp2_with fail
  refine (new15_any x w0 (fun _ => False)).mono ?_
  rintro e w1 ⟨cs1, rfl, hr1, hk1⟩
  have HR1 := Lib.hid hr1
  have HK1 := Lib.hid hk1
  clear hr1 hk1
  go_wp2_with (refine wpList_store_all rfl _ (.tmp 5) (.tmp 18) rfl w1.heap.size 35 _ cs1 rfl rfl (Blk.new _ _ _) (by rw [HR1.out.len]; rfl) (info_lk HR1.out.len) HR1.out.one ?_; intro w2 hb2 hs2; have HB2 := Lib.hid hb2; have HS2 := Lib.hid hs2; have HK2 : Hid (Keep w1 w2) := Lib.hid (Keep.write (Keep.new w1 _) hs2 (Nat.le_refl _)); have l2 : w1.heap.size < w2.heap.size := hb2.lt; clear hb2 hs2)
  refine (rnew_any x w2 (fun _ => False)).mono ?_
  rintro e w3 ⟨cs3, rfl, hr3, hk3⟩
  have HR3 := Lib.hid hr3
  have HK3 := Lib.hid hk3
  clear hr3 hk3
  have z3 := HK3.out.size
  have z1 := HK1.out.size
  have z2 := HK2.out.size
  have hne : (newErr x != newErr x) = false := by simp
  go_wp2_with (first
    | (refine wpList_store_all rfl _ (.tmp 7) (.tmp 23) rfl w3.heap.size 35 _ cs3 rfl rfl (Blk.new _ _ _) (by rw [HR3.out.len]; rfl) (info_lk HR3.out.len) HR3.out.one ?_; intro w4 hb4 hs4; have HB4 := Lib.hid hb4; have HS4 := Lib.hid hs4; have HK4 : Hid (Keep w3 w4) := Lib.hid (Keep.write (Keep.new w3 _) hs4 (Nat.le_refl _)); have l4 : w3.heap.size < w4.heap.size := hb4.lt; clear hb4 hs4)
    | (refine wpList_load_allg (by rfl) _ (.tmp 5) rfl w1.heap.size 35 cs1 _ rfl (HK4.out.blk (HK3.out.blk HB2.out (by omega)) (by omega)) Try.underlying35 rfl (info_lk HR1.out.len) ?_)
    | (refine wpList_load_allg (by rfl) _ (.tmp 7) rfl w3.heap.size 35 cs3 _ rfl HB4.out Try.underlying35 rfl (info_lk HR3.out.len) ?_))
  have hnl : (newS x).kept.length ≤ 1000 ∧ (newS x).early.length ≤ 1000 := by
    unfold newS zeroLk
    split <;> simp
  have s1 : ∀ i, (False ∨ (w0.heap.size ≤ i ∧ i < w1.heap.size)) → i < w1.heap.size := fun i hi => (hi.resolve_left id).2
  have s3 : ∀ i, (False ∨ (w2.heap.size ≤ i ∧ i < w3.heap.size)) → i < w3.heap.size := fun i hi => (hi.resolve_left id).2
  refine (sameLk_any w4 _ _ cs1 cs3 (newS x) (fun i hi => by have := s1 i hi; omega) (fun i hi => by have := s3 i hi; omega) (((HR1.out.keep (HK2.out.mono s1)).keep (HK3.out.mono (fun i hi => by have := s1 i hi; omega))).keep (HK4.out.mono (fun i hi => by have := s1 i hi; omega))) (HR3.out.keep (HK4.out.mono s3)) (by omega) (by omega)).mono ?_
  rintro e wA ⟨rfl, hkA'⟩
  have hkA : Keep w wA := Keep.trans HK0.out (Keep.trans HK1.out (Keep.trans HK2.out (Keep.trans HK3.out (Keep.trans HK4.out hkA'))))
  clear hkA' HK1 HK2 HK3 HK4 HK0 HR1 HR3 HB2 HB4 HS2 HS4 s1 s3 hnl l2 l4 z1 z2 z3
  have HKA := Lib.hid hkA
  clear hkA
  go_wp2_with fail
  have hm := modv_lt x 8 (by omega)
  refine (mod_is x 8 wA hx (by omega) (by omega)).mono ?_
  rintro e w' ⟨rfl, rfl⟩
  have hs1 : 1 ≤ 1 + modv x 8 := by omega
  have hs2 : 1 + modv x 8 ≤ 8 := by omega
  go_wp2_with fail
  generalize 1 + modv x 8 = s at *
  have e0 : newS s = ⟨s, 1, [], 1, []⟩ := if_neg (by omega)
  refine (new15_any s wA (fun _ => False)).mono ?_
  rw [e0]
  clear e0
  rintro e w1 ⟨cs1, rfl, ⟨B1, B2, m1, d1, m2, d2, rfl, k1, k2⟩, hk1⟩
  obtain rfl : m1 = 0 := k1.1
  obtain rfl : m2 = 0 := k2.1
  have K1 := Lib.hid k1
  have K2 := Lib.hid k2
  have HK1 := Lib.hid hk1
  clear k1 k2 hk1
  have hz0 := HKA.out.size
  have hz1 := HK1.out.size
  go_upto_region 9 with (first
    | (refine wpList_store_all rfl _ (.tmp 9) (.tmp 39) rfl w1.heap.size 35 _ [.int .i64 s, .int .i64 1, .slice B1 0 d1, .int .i64 1, .slice B2 0 d2] rfl rfl (Blk.new _ _ _) rfl (by kernel_rfl) rfl ?_; intro w2 hb2 hs2; have HB2 := Lib.hid hb2; have HK2 : Hid (Keep w1 w2) := Lib.hid (Keep.write (Keep.new w1 _) hs2 (Nat.le_refl _)); clear hb2 hs2)
    | (refine wpList_load_all rfl _ (.tmp 9) rfl w1.heap.size 35 [.int .i64 s, .int .i64 1, .slice B1 0 d1, .int .i64 1, .slice B2 0 d2] _ rfl HB2.out Try.underlying35 rfl (by kernel_rfl) ?_))
  generalize hW : w2.alloc (.cells #[.int .i64 s, .int .i64 1, .slice B1 0 d1, .int .i64 1, .slice B2 0 d2, .slice none 0 0, .slice none 0 0, .slice none 0 0, .slice none 0 0] 41) = W
  have hbW : Blk W w2.heap.size 41 _ := hW ▸ Blk.new _ _ _
  have hkW : Keep w W := hW ▸ Keep.alloc (Keep.trans HKA.out (Keep.trans HK1.out HK2.out)) _
  have hz2 := HK2.out.size
  have hzW : w2.heap.size < W.heap.size := hbW.lt
  have HBW := Lib.hid hbW
  have HKW := Lib.hid hkW
  clear hbW hkW
  clear hW
  go_wp2_with fail
  refine (new_any W A n c 240 zs (fun i => i < w.heap.size) (fun i hi => by have := HKW.out.size; omega) (HZ.out.keep HKW.out) HZ8.out (by omega)).mono ?_
  rintro e w4 ⟨r, hr, rfl, hc4, hk4⟩
  have hlaw : LawRel w w2.heap.size W.heap.size s r w4 := LawRel.start hs1 hs2 hr (by omega) hzW HKW.out K1.out K2.out HBW.out hc4 hk4
  have HLAW := Lib.hid hlaw
  clear hlaw
  clear hc4 hk4
  generalize W.heap.size = gc at *
  generalize w2.heap.size = g at *
  clear HBW HKW
  go_wp2_with fail
  go_loopg [] r (fun gk wr => LawRel w g gc s gk wr)
  case atStart => exact HLAW.out
  case round =>
    obtain ⟨L, st, hws, hinv, hwin, hL, hkr⟩ := hrel
    have hws' := hws
    obtain ⟨hLg, ⟨C, hp⟩, hcod⟩ := hws'
    have HWS := Lib.hid hws
    have HINV := Lib.hid hinv
    have HWIN := Lib.hid hwin
    have HL := Lib.hid hL
    have HKR := Lib.hid hkr
    have HLG := Lib.hid hLg
    have HP := Lib.hid hp
    clear hws hinv hwin hL hkr hLg hp
    go_wp2_with fail
    refine (left_any wr (Lab wr L 6) gc gk hcod).mono ?_
    rintro e w5 ⟨rfl, m5, rfl⟩
    clear hcod
    by_cases h0 : 0 < gk
    · have hd0 : decide (0 < gk) = true := by simpa using h0
      have g7 : wr.cell? ⟨g, 7, none⟩ = some (.slice C.A3 C.n3 C.c3) := by rw [HP.out.blk.cell]; rfl
      by_cases h60 : C.n3 < 60
      · have hd60 : decide ((C.n3 : Int) < 60) = true := by simp; omega
        go_wp2_with fail
        refine (step_any (wr.drewN m5) L g gc st gk true (HWS.out.draws m5) HINV.out.ok).mono ?_
        intro e w6 hpost
        obtain ⟨r6, hr6, rfl, hlaw6⟩ := LawRel.next HINV.out HWIN.out HL.out (Same.drewN HKR.out m5) h0 hpost
        have HLAW6 := Lib.hid hlaw6
        clear hlaw6
        clear hpost
        go_wp2_with fail
        go_roundg r6
        case measure => exact hr6
        case rel => exact HLAW6.out
      · have hd60 : decide ((C.n3 : Int) < 60) = false := by simp; omega
        go_wp2_with fail
        have hAt : True := trivial
        obtain ⟨X, hX⟩ : ∃ X, X = wr.drewN m5 := ⟨_, rfl⟩
        rw [← hX]
        have hkX : Keep w X := hX ▸ Same.drewN HKR.out m5
        have hpX : Blk X g 41 (C.all st.k).toArray := hX ▸ HP.out.blk.drewN m5
        have hlX : LkR X (Lab wr L 0) (C.k st.k) st.k := hX ▸ HP.out.lk.keep ((Same.refl _ _).drewN m5)
        have hzX : wr.heap.size = X.heap.size := by rw [hX]; rfl
        have HKX := Lib.hid hkX
        have HPX := Lib.hid hpX
        have HLX := Lib.hid hlX
        have HZX := Lib.hid hzX
        clear hkX hpX hlX hzX
        clear hX
        have hA : True := trivial
        refine wp_region_L 99 (fun _ => True) (fun wx => Keep X wx) (by kernel_rfl) trivial (Same.drew (Same.refl _ _)) (fun _ hB => ?_)
        refine wpL_takeB (i := 0) (v := ?_) rfl (by kernel_rfl) (by kernel_rfl) (by kernel_rfl) (by decide) (fun _ _ _ h => h) (Or.inl ⟨by rfl, ?_⟩) (SAB.both hA hB) ?_
        rotate_left
        · intro wx hBx
          (try dsimp only at hBx)
          go_simp
          try with_reducible rfl
        try simp only [Act.put, List.setIfInBounds_toArray, List.set_cons_zero, List.set_cons_succ]
        refine wpL_takeB (i := 1) (v := ?_) rfl (by kernel_rfl) (by kernel_rfl) (by kernel_rfl) (by decide) (fun _ _ _ h => h) (Or.inl ⟨by rfl, ?_⟩) (SAB.both hA hB) ?_
        rotate_left
        · intro wx hBx
          (try dsimp only at hBx)
          go_simp
          try with_reducible rfl
        try simp only [Act.put, List.setIfInBounds_toArray, List.set_cons_zero, List.set_cons_succ]
        refine wpL_takeB (i := 2) (v := ?_) rfl (by kernel_rfl) (by kernel_rfl) (by kernel_rfl) (by decide) (fun _ _ _ h => h) (Or.inl ⟨by rfl, ?_⟩) (SAB.both hA hB) ?_
        rotate_left
        · intro wx hBx
          (try dsimp only at hBx)
          go_simp
          try with_reducible rfl
        try simp only [Act.put, List.setIfInBounds_toArray, List.set_cons_zero, List.set_cons_succ]
        refine wpL_takeB (i := 3) rfl (by kernel_rfl) (by kernel_rfl) (by kernel_rfl) (by decide) (fun _ _ _ h => h) (yieldsIf_blk (by rfl) _ _ rfl g 0 41 _ (C.k st.k) _ rfl (fun wx hx => hx.blk HPX.out HPX.out.lt) (C.sub st.k) Try.underlying35 rfl (by kernel_rfl)) (SAB.both hA hB) ?_
        try simp only [Act.put, List.setIfInBounds_toArray, List.set_cons_zero, List.set_cons_succ]
        refine wpL_takeB (i := 5) (v := ?_) rfl (by kernel_rfl) (by kernel_rfl) (by kernel_rfl) (by decide) (fun _ _ _ h => h) (Or.inl ⟨by rfl, ?_⟩) (SAB.both hA hB) ?_
        rotate_left
        · intro wx hBx
          (try dsimp only at hBx)
          go_simp
          try with_reducible rfl
        try simp only [Act.put, List.setIfInBounds_toArray, List.set_cons_zero, List.set_cons_succ]
        refine wpL_takeB (i := 6) (v := ?_) rfl (by kernel_rfl) (by kernel_rfl) (by kernel_rfl) (by decide) (fun _ _ _ h => h) (Or.inl ⟨by rfl, ?_⟩) (SAB.both hA hB) ?_
        rotate_left
        · intro wx hBx
          (try dsimp only at hBx)
          go_simp
          try with_reducible rfl
        try simp only [Act.put, List.setIfInBounds_toArray, List.set_cons_zero, List.set_cons_succ]
        refine wpL_takeB (i := 7) (v := ?_) rfl (by kernel_rfl) (by kernel_rfl) (by kernel_rfl) (by decide) (fun _ _ _ h => h) (Or.inl ⟨by rfl, ?_⟩) (SAB.both hA hB) ?_
        rotate_left
        · intro wx hBx
          (try dsimp only at hBx)
          go_simp
          try with_reducible rfl
        try simp only [Act.put, List.setIfInBounds_toArray, List.set_cons_zero, List.set_cons_succ]
        refine wpL_takeB (i := 8) rfl (by kernel_rfl) (by kernel_rfl) (by kernel_rfl) (by decide) (fun _ _ _ h => h) (yieldsIf_blk (by rfl) _ _ rfl g 0 41 _ (C.k st.k) _ rfl (fun wx hx => hx.blk HPX.out HPX.out.lt) (C.sub st.k) Try.underlying35 rfl (by kernel_rfl)) (SAB.both hA hB) ?_
        try simp only [Act.put, List.setIfInBounds_toArray, List.set_cons_zero, List.set_cons_succ]
        refine wpL_one (i := 4) (by kernel_rfl) (StepL.mk rfl (fun K hK => ?_))
        go_simp
        refine (idle_any X.drew (Lab wr L 0) (C.k st.k) st.k (HLX.out.keep ((Same.refl _ _).drew))).mono ?_
        rintro e w8 ⟨rfl, hk8⟩
        refine hK.out _ _ (SAB.both trivial (Keep.trans hB hk8)) (fun hSS => ?_)
        clear hK K hA hB
        have hB := hSS.2
        have hA := hSS.1 (by kernel_rfl)
        (try dsimp only at hB); (try dsimp only at hA); clear hSS
        try simp only [Act.put, List.setIfInBounds_toArray, List.set_cons_zero, List.set_cons_succ]
        refine wpL_one (i := 9) (by kernel_rfl) (StepL.mk rfl (fun K hK => ?_))
        go_simp
        refine (ridle_any w8 (Lab wr L 0) (C.k st.k) st.k (HLX.out.keep (hB.mono (fun i hi => by have := hi.1; have := HZX.out; omega)))).mono ?_
        rintro e w9 ⟨rfl, hk9⟩
        refine hK.out _ _ (SAB.both trivial (Keep.trans hB hk9)) (fun hSS => ?_)
        clear hK K hA hB
        have hB := hSS.2
        have hA := hSS.1 (by kernel_rfl)
        (try dsimp only at hB); (try dsimp only at hA); clear hSS
        try simp only [Act.put, List.setIfInBounds_toArray, List.set_cons_zero, List.set_cons_succ]
        refine wpL_takeB (i := 10) (v := ?_) rfl (by kernel_rfl) (by kernel_rfl) (by kernel_rfl) (by decide) (fun _ _ _ h => h) (Or.inl ⟨by rfl, ?_⟩) (SAB.both hA hB) ?_
        rotate_left
        · intro wx hBx
          (try dsimp only at hBx)
          go_simp
          try with_reducible rfl
        try simp only [Act.put, List.setIfInBounds_toArray, List.set_cons_zero, List.set_cons_succ]
        refine wpL_takeB (i := 11) (v := ?_) rfl (by kernel_rfl) (by kernel_rfl) (by kernel_rfl) (by decide) (fun _ _ _ h => h) (Or.inl ⟨by rfl, ?_⟩) (SAB.both hA hB) ?_
        rotate_left
        · intro wx hBx
          (try dsimp only at hBx)
          go_simp
          try with_reducible rfl
        try simp only [Act.put, List.setIfInBounds_toArray, List.set_cons_zero, List.set_cons_succ]
        refine wpL_done (by kernel_rfl) ?_
        have hfin := Keep.trans HKX.out hB
        have HFIN := Lib.hid hfin
        clear hfin
        clear hk8 hk9 hA hB
        go_wp2_with fail
        go_ret
        exact ⟨by simp, HFIN.out⟩
    · have hd0 : decide (0 < gk) = false := by simpa using h0
      go_wp2_with fail
      have hAt : True := trivial
      obtain ⟨X, hX⟩ : ∃ X, X = wr.drewN m5 := ⟨_, rfl⟩
      rw [← hX]
      have hkX : Keep w X := hX ▸ Same.drewN HKR.out m5
      have hpX : Blk X g 41 (C.all st.k).toArray := hX ▸ HP.out.blk.drewN m5
      have hlX : LkR X (Lab wr L 0) (C.k st.k) st.k := hX ▸ HP.out.lk.keep ((Same.refl _ _).drewN m5)
      have hzX : wr.heap.size = X.heap.size := by rw [hX]; rfl
      have HKX := Lib.hid hkX
      have HPX := Lib.hid hpX
      have HLX := Lib.hid hlX
      have HZX := Lib.hid hzX
      clear hkX hpX hlX hzX
      clear hX
      have hA : True := trivial
      refine wp_region_L 99 (fun _ => True) (fun wx => Keep X wx) (by kernel_rfl) trivial (Same.drew (Same.refl _ _)) (fun _ hB => ?_)
      refine wpL_takeB (i := 0) (v := ?_) rfl (by kernel_rfl) (by kernel_rfl) (by kernel_rfl) (by decide) (fun _ _ _ h => h) (Or.inl ⟨by rfl, ?_⟩) (SAB.both hA hB) ?_
      rotate_left
      · intro wx hBx
        (try dsimp only at hBx)
        go_simp
        try with_reducible rfl
      try simp only [Act.put, List.setIfInBounds_toArray, List.set_cons_zero, List.set_cons_succ]
      refine wpL_takeB (i := 1) (v := ?_) rfl (by kernel_rfl) (by kernel_rfl) (by kernel_rfl) (by decide) (fun _ _ _ h => h) (Or.inl ⟨by rfl, ?_⟩) (SAB.both hA hB) ?_
      rotate_left
      · intro wx hBx
        (try dsimp only at hBx)
        go_simp
        try with_reducible rfl
      try simp only [Act.put, List.setIfInBounds_toArray, List.set_cons_zero, List.set_cons_succ]
      refine wpL_takeB (i := 2) (v := ?_) rfl (by kernel_rfl) (by kernel_rfl) (by kernel_rfl) (by decide) (fun _ _ _ h => h) (Or.inl ⟨by rfl, ?_⟩) (SAB.both hA hB) ?_
      rotate_left
      · intro wx hBx
        (try dsimp only at hBx)
        go_simp
        try with_reducible rfl
      try simp only [Act.put, List.setIfInBounds_toArray, List.set_cons_zero, List.set_cons_succ]
      refine wpL_takeB (i := 3) rfl (by kernel_rfl) (by kernel_rfl) (by kernel_rfl) (by decide) (fun _ _ _ h => h) (yieldsIf_blk (by rfl) _ _ rfl g 0 41 _ (C.k st.k) _ rfl (fun wx hx => hx.blk HPX.out HPX.out.lt) (C.sub st.k) Try.underlying35 rfl (by kernel_rfl)) (SAB.both hA hB) ?_
      try simp only [Act.put, List.setIfInBounds_toArray, List.set_cons_zero, List.set_cons_succ]
      refine wpL_takeB (i := 5) (v := ?_) rfl (by kernel_rfl) (by kernel_rfl) (by kernel_rfl) (by decide) (fun _ _ _ h => h) (Or.inl ⟨by rfl, ?_⟩) (SAB.both hA hB) ?_
      rotate_left
      · intro wx hBx
        (try dsimp only at hBx)
        go_simp
        try with_reducible rfl
      try simp only [Act.put, List.setIfInBounds_toArray, List.set_cons_zero, List.set_cons_succ]
      refine wpL_takeB (i := 6) (v := ?_) rfl (by kernel_rfl) (by kernel_rfl) (by kernel_rfl) (by decide) (fun _ _ _ h => h) (Or.inl ⟨by rfl, ?_⟩) (SAB.both hA hB) ?_
      rotate_left
      · intro wx hBx
        (try dsimp only at hBx)
        go_simp
        try with_reducible rfl
      try simp only [Act.put, List.setIfInBounds_toArray, List.set_cons_zero, List.set_cons_succ]
      refine wpL_takeB (i := 7) (v := ?_) rfl (by kernel_rfl) (by kernel_rfl) (by kernel_rfl) (by decide) (fun _ _ _ h => h) (Or.inl ⟨by rfl, ?_⟩) (SAB.both hA hB) ?_
      rotate_left
      · intro wx hBx
        (try dsimp only at hBx)
        go_simp
        try with_reducible rfl
      try simp only [Act.put, List.setIfInBounds_toArray, List.set_cons_zero, List.set_cons_succ]
      refine wpL_takeB (i := 8) rfl (by kernel_rfl) (by kernel_rfl) (by kernel_rfl) (by decide) (fun _ _ _ h => h) (yieldsIf_blk (by rfl) _ _ rfl g 0 41 _ (C.k st.k) _ rfl (fun wx hx => hx.blk HPX.out HPX.out.lt) (C.sub st.k) Try.underlying35 rfl (by kernel_rfl)) (SAB.both hA hB) ?_
      try simp only [Act.put, List.setIfInBounds_toArray, List.set_cons_zero, List.set_cons_succ]
      refine wpL_one (i := 4) (by kernel_rfl) (StepL.mk rfl (fun K hK => ?_))
      go_simp
      refine (idle_any X.drew (Lab wr L 0) (C.k st.k) st.k (HLX.out.keep ((Same.refl _ _).drew))).mono ?_
      rintro e w8 ⟨rfl, hk8⟩
      refine hK.out _ _ (SAB.both trivial (Keep.trans hB hk8)) (fun hSS => ?_)
      clear hK K hA hB
      have hB := hSS.2
      have hA := hSS.1 (by kernel_rfl)
      (try dsimp only at hB); (try dsimp only at hA); clear hSS
      try simp only [Act.put, List.setIfInBounds_toArray, List.set_cons_zero, List.set_cons_succ]
      refine wpL_one (i := 9) (by kernel_rfl) (StepL.mk rfl (fun K hK => ?_))
      go_simp
      refine (ridle_any w8 (Lab wr L 0) (C.k st.k) st.k (HLX.out.keep (hB.mono (fun i hi => by have := hi.1; have := HZX.out; omega)))).mono ?_
      rintro e w9 ⟨rfl, hk9⟩
      refine hK.out _ _ (SAB.both trivial (Keep.trans hB hk9)) (fun hSS => ?_)
      clear hK K hA hB
      have hB := hSS.2
      have hA := hSS.1 (by kernel_rfl)
      (try dsimp only at hB); (try dsimp only at hA); clear hSS
      try simp only [Act.put, List.setIfInBounds_toArray, List.set_cons_zero, List.set_cons_succ]
      refine wpL_takeB (i := 10) (v := ?_) rfl (by kernel_rfl) (by kernel_rfl) (by kernel_rfl) (by decide) (fun _ _ _ h => h) (Or.inl ⟨by rfl, ?_⟩) (SAB.both hA hB) ?_
      rotate_left
      · intro wx hBx
        (try dsimp only at hBx)
        go_simp
        try with_reducible rfl
      try simp only [Act.put, List.setIfInBounds_toArray, List.set_cons_zero, List.set_cons_succ]
      refine wpL_takeB (i := 11) (v := ?_) rfl (by kernel_rfl) (by kernel_rfl) (by kernel_rfl) (by decide) (fun _ _ _ h => h) (Or.inl ⟨by rfl, ?_⟩) (SAB.both hA hB) ?_
      rotate_left
      · intro wx hBx
        (try dsimp only at hBx)
        go_simp
        try with_reducible rfl
      try simp only [Act.put, List.setIfInBounds_toArray, List.set_cons_zero, List.set_cons_succ]
      refine wpL_done (by kernel_rfl) ?_
      have hfin := Keep.trans HKX.out hB
      have HFIN := Lib.hid hfin
      clear hfin
      clear hk8 hk9 hA hB
      go_wp2_with fail
      go_ret
      exact ⟨by simp, HFIN.out⟩
end Go.Proofs.Ytafgacfbplilpaa
