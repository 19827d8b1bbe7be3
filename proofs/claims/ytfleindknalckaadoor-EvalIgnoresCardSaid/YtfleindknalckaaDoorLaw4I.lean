/- The law EvalIgnores. -/
import Derived.Test.YtfleindknalckaaDoorLaw4V
import Derived.Test.YtfleindknalckaaDoorMent
set_option linter.unusedVariables false
set_option linter.unusedSimpArgs false
namespace Go.Proofs.YtfleindknalckaaDoor
open Go.RowKit Go.Proofs

theorem info_int4 : (Tryd.prog.info? 3).map (fun i => (i.zero, i.size, i.bytes)) = some (some (.int .i64 0), 1, 8) := by kernel_rfl
def CutFK (w : World) (s : Value) (wx : World) : Prop := s = .bool false ∧ Keep w wx
/-- A row of the call's own in which one number is changed. -/
theorem own_set {w : World} {base n : Nat} {e : TypeId} {v : Value} {xs : List Int} (h : w.ownsRow base e 1 v n (xs.flatMap encI)) (hn : 0 < n) : ∃ (g c : Nat) (cur : Array Value), v = .slice (some ⟨g, 0, none⟩) n c ∧ base ≤ g ∧ Blk w g e cur ∧ n ≤ cur.size ∧ n ≤ c ∧ c ≤ 9223372036854775807 ∧
    ∀ (w' : World) (k : Nat) (x : Int), k < n → Blk w' g e (cur.setIfInBounds k (.int .i64 x)) → Sl encI 1 w' (fun i => i = g) (some ⟨g, 0, none⟩) n c (xs.set k x) := by
  have hl : xs.length = n := by have := h.1; rw [flat_length encI_len] at this; omega
  obtain ⟨A, c, rfl, hnc, hcm⟩ := own_form h
  have hcells := fun (g : Nat) (hg : A = some ⟨g, 0, none⟩) (j : Nat) (u : Value) (hu : (xs.flatMap encI)[j]? = some u) => h.cells (g := g) (by rw [hg]; rfl) j u hu
  rcases h.2 with ⟨_, h0⟩ | ⟨g, cap, cur, hv, hbg, hh, hnc', hcm', hcs, htake⟩
  · omega
  · have hA : A = some ⟨g, 0, none⟩ := by injection hv
    have hb : Blk w g e cur := hh
    have hcell : ∀ j, j < n → cur[j]? = some (.int .i64 (xs.getD j 0)) := fun j hj => by
      have hu : (xs.flatMap encI)[j]? = some (.int .i64 (xs.getD j 0)) := by
        have := flat_get encI_len xs j 0 (by omega) (by omega)
        simp only [Nat.mul_one, Nat.add_zero] at this
        rw [this]
        simp [encI, show j < xs.length by omega]
      have := hcells g hA j _ hu
      rw [add_lit', Nat.zero_add, hb.cell] at this
      exact this
    have hcz : n ≤ cur.size := by
      have := hcell (n - 1) (by omega)
      have := (Array.getElem?_eq_some_iff.1 this).1
      omega
    refine ⟨g, c, cur, by rw [hA], hbg, hb, hcz, hnc, hcm, fun w' k x hk hb' => ⟨by simp; omega, hnc, hcm, by rw [flat_length encI_len]; simp; omega, fun _ => ⟨g, 0, rfl, rfl, fun j u hu => ?_⟩⟩⟩
    have hj : j < n := by
      have := (List.getElem?_eq_some_iff.1 hu).1
      rw [flat_length encI_len] at this
      simp at this
      omega
    rw [Nat.zero_add, hb'.cell]
    have e1 := flat_get encI_len (xs.set k x) j 0 (by simp; omega) (by omega)
    simp only [Nat.mul_one, Nat.add_zero] at e1
    rw [e1] at hu
    by_cases hjk : k = j
    · subst hjk
      rw [Array.getElem?_setIfInBounds_self_of_lt (by omega)]
      simpa [encI] using hu
    · rw [Array.getElem?_setIfInBounds_ne hjk, hcell j hj]
      simpa [encI, List.getElem_set_ne hjk, show j < xs.length by omega] using hu
set_option maxHeartbeats 4000000 in
set_option maxRecDepth 100000 in
theorem evalIgnores_walk (w : World) (A A' : Option Addr) (n c n' c' : Nat) (zs xs : List Int) (nn by_ : Int) (hnn : I64 nn) (hreach : n' * 8 ≤ 140737488351232) (hg : Glob w) (hz : Sl encB 1 w (· < w.heap.size) A n c zs) (hz8 : ∀ y ∈ zs, 0 ≤ y ∧ y < 256) (hx : Sl encI 1 w (· < w.heap.size) A' n' c' xs) :
    Calls Tryd.prog 4 #[.slice A n c, .slice A' n' c', .int .i64 nn, .int .i64 by_] w (KTrue w) := by
  have hxl := hx.1
  obtain ⟨iI, ji0, jz0, jz1, jz2⟩ := info_of info_int4
  have HG := Lib.hid hg
  have HZ := Lib.hid hz
  have HZ8 := Lib.hid hz8
  have HX := Lib.hid hx
  have HNN := Lib.hid hnn
  have HXL := Lib.hid hxl
  have JI0 := Lib.hid ji0
  have JZ0 := Lib.hid jz0
  have JZ1 := Lib.hid jz1
  have JZ2 := Lib.hid jz2
  clear hg hz hz8 hx hnn hxl ji0 jz0 jz1 jz2
  go_enter Tryd.func4, Tryd.ntmps4
  go_wp2_with fail
  refine (awake04_any w).mono ?_
  rintro e w1 ⟨rfl, hk1⟩
  have HK1 := Lib.hid hk1
  clear hk1
  have hz1 := HK1.out.size
  go_wp2_with fail
  refine (new_any w1 A n c 160 zs (fun i => i < w.heap.size) (fun i hi => by omega) (HZ.out.keep HK1.out) HZ8.out (by omega)).mono ?_
  rintro e w2 ⟨r, hr, rfl, hc2, hk2⟩
  have hz2 := hk2.size
  have hk2' := Keep.trans HK1.out hk2
  have hg2 := HG.out.keep hk2'
  have hgc := hc2.lt
  generalize hgce : w1.heap.size = gc at *
  have HK2' := Lib.hid hk2'
  have HG2 := Lib.hid hg2
  have HC2 := Lib.hid hc2
  clear hk2' hg2 hc2
  clear hk2
  go_wp2_with fail
  refine (expr_all 5 (by omega) (by omega) w2 _ gc r HC2.out HG2.out).mono ?_
  rintro e w3 ⟨x3, cs3, r3, rfl, hx3, hf3, hr3, hc3, ho3⟩
  have hz3 := ho3.size
  have hf3' : Ex.few 1000 5 x3 := few_mono (by omega) 5 x3 hf3
  have HX3 := Lib.hid hx3
  have HF3' := Lib.hid hf3'
  have HC3 := Lib.hid hc3
  have HO3 := Lib.hid ho3
  clear hx3 hf3' hc3 ho3
  clear hf3
  go_wp2_with fail
  refine (small_all 5 w3 _ (New w3 w2.heap.size) gc r3 cs3 x3 HC3.out (fun i hi => ⟨hi.2, by have := hi.1; omega⟩) HX3.out HF3'.out).mono ?_
  rintro e w4 ⟨x4, cs4, r4, rfl, hx4, hf4, hp4, hr4, hc4, ho4⟩
  have hz4 := ho4.size
  have ho24 := Only.trans HO3.out ho4
  have hk4 : Keep w w4 := Same.trans HK2'.out ho24 (fun i hi => by omega)
  obtain ⟨op4, val4, name4, slot4, size4, args4, A4, m4, c4, he4, rfl⟩ := ExR.open_ hx4
  have HX4 := Lib.hid hx4
  have HK4 := Lib.hid hk4
  have HF4 := Lib.hid hf4
  have HP4 := Lib.hid hp4
  clear hx4 hk4 hf4 hp4
  clear hc4 ho4 ho24 he4
  go_upto_region 6 with (first
    | (refine wpList_store_all rfl _ (.tmp 10) (.tmp 22) rfl w4.heap.size 31 _ [.int .i64 op4, .int .i64 val4, .string name4, .int .i64 slot4, .int .i64 size4, .slice A4 m4 c4] rfl rfl (Blk.new _ _ _) rfl (by kernel_rfl) rfl ?_; intro w5 hb5 hs5; have HB5 := Lib.hid hb5; have HK5 : Hid (Keep w4 w5) := Lib.hid (Keep.write (Keep.new w4 _) hs5 (Nat.le_refl _)); have hz5 : w4.heap.size < w5.heap.size := hb5.lt; clear hb5 hs5)
    | (refine wpList_store_all rfl _ (.tmp 11) (.tmp 24) rfl w5.heap.size 25 _ [.int .i64 1, .int .i64 3, .int .i64 2, .int .i64 by_] rfl rfl (Blk.new _ _ _) rfl (by kernel_rfl) rfl ?_; intro w6 hb6 hs6; have HBV := Lib.hid hb6; have HK6 : Hid (Keep w5 w6) := Lib.hid (Keep.write (Keep.new w5 _) hs6 (Nat.le_refl _)); have hz6 : w5.heap.size < w6.heap.size := hb6.lt; clear hb6 hs6))
  have hbe := HK6.out.blk HB5.out (by omega)
  have hk46 := Keep.trans HK5.out HK6.out
  have hx6 := ExR.keep (hk46.mono (fun i (hi : New w4 w3.heap.size i) => hi.2)) _ _ _ HX4.out
  have hkw6 := Keep.trans HK4.out hk46
  clear HB5 HK5 HK6 hk46
  have HBE := Lib.hid hbe
  have HX6 := Lib.hid hx6
  have HKW6 := Lib.hid hkw6
  clear hbe hx6 hkw6
  have key : ∀ (x : Ex) (cs : List Value) (T : Nat → Prop) (B : Option Addr) (m d : Nat) (ys : List Int) (wa : World), ExR wa T 5 cs x → (∀ i, T i → i < wa.heap.size) → Sl encI 1 wa (fun i => i < wa.heap.size) B m d ys → Calls Tryd.prog 10 #[.agg cs.toArray, .slice B m d, .agg #[.int .i64 1, .int .i64 3, .int .i64 2, .int .i64 by_]] wa (ApplyPost (valS ys ⟨1, 3, 2, by_⟩ 5 x) wa) := fun x cs T B m d ys wa hx hT hy =>
    Value_any 5 ys ⟨1, 3, 2, by_⟩ x cs wa (fun i => i < wa.heap.size) B m d (fun i hi => hi) (ExR.more hT _ _ _ hx) hy (Nat.le_trans hy.2.1 hy.2.2.1)
  have cells : ∀ wa, Keep w6 wa → Sl encI 1 wa (fun i => i < wa.heap.size) A' n' c' xs := fun wa ha => by
    have hk := Keep.trans HKW6.out ha
    exact (HX.out.keep hk).more (fun i hi => by have := hk.size; omega)
  have tree : ∀ wa, Same (fun i => i < w6.heap.size) w6 wa → ExR wa (New w4 w3.heap.size) 5 [.int .i64 op4, .int .i64 val4, .string name4, .int .i64 slot4, .int .i64 size4, .slice A4 m4 c4] x4 := fun wa ha => ExR.keep (ha.mono (fun i (hi : New w4 w3.heap.size i) => by have := hi.2; omega)) _ _ _ HX6.out
  have tlt : ∀ (wa : World), w6.heap.size ≤ wa.heap.size → ∀ i, New w4 w3.heap.size i → i < wa.heap.size := fun wa ha i hi => by have := hi.2; omega
  have KEY := Lib.hid key
  have CELLS := Lib.hid cells
  have TREE := Lib.hid tree
  have TLT := Lib.hid tlt
  clear key cells tree tlt
  go_wp2_with (first
    | (refine wpList_load_all rfl _ (.tmp 10) rfl w4.heap.size 31 [.int .i64 op4, .int .i64 val4, .string name4, .int .i64 slot4, .int .i64 size4, .slice A4 m4 c4] _ rfl HBE.out Tryd.underlying31 rfl (by kernel_rfl) ?_)
    | (refine wpList_load_all rfl _ (.tmp 11) rfl w5.heap.size 25 [.int .i64 1, .int .i64 3, .int .i64 2, .int .i64 by_] _ rfl HBV.out Tryd.underlying25 rfl (by kernel_rfl) ?_))
  refine (KEY.out x4 _ _ A' n' c' xs w6 (TREE.out w6 (Same.refl _ _)) (TLT.out w6 (Nat.le_refl _)) (CELLS.out w6 (Same.refl _ _))).mono ?_
  generalize hva : valS xs ⟨1, 3, 2, by_⟩ 5 x4 = va
  rintro e w7 ⟨rfl, hk7⟩
  have hz7 := hk7.size
  have hA : True := trivial
  have heq : (va != va) = false := by simp
  have HK7 := Lib.hid hk7
  have HVA := Lib.hid hva
  clear hk7 hva
  go_upto_region 7 with fail
  go_cut [35] from 29 to 34 (fun s35 wx => CutFK w7 s35 wx)
  case first =>
    refine wp_region_L 99 (fun _ => True) (fun wx => Keep w7 wx) (by kernel_rfl) trivial (Same.drew (Same.refl _ _)) (fun _ hB => ?_)
    refine wpL_takeB (i := 0) rfl (by kernel_rfl) (by kernel_rfl) (by kernel_rfl) (by decide) (fun _ _ _ h => h) (yieldsIf_blk (by rfl) _ _ rfl w4.heap.size 0 31 _ [.int .i64 op4, .int .i64 val4, .string name4, .int .i64 slot4, .int .i64 size4, .slice A4 m4 c4] _ rfl (fun wx hx => hx.blk (HK7.out.blk HBE.out (by omega)) (by omega)) (by simp) Tryd.underlying31 rfl (by kernel_rfl)) (SAB.both hA hB) ?_
    try simp only [Act.put, List.setIfInBounds_toArray, List.set_cons_zero, List.set_cons_succ]
    refine wpL_takeB (i := 2) (v := ?_) rfl (by kernel_rfl) (by kernel_rfl) (by kernel_rfl) (by decide) (fun _ _ _ h => h) (Or.inl ⟨by rfl, ?_⟩) (SAB.both hA hB) ?_
    rotate_left
    · intro wx hBx
      (try dsimp only at hBx)
      go_simp
      try with_reducible rfl
    try simp only [Act.put, List.setIfInBounds_toArray, List.set_cons_zero, List.set_cons_succ]
    refine wpL_takeB (i := 3) rfl (by kernel_rfl) (by kernel_rfl) (by kernel_rfl) (by decide) (fun _ _ _ h => h) (yieldsIf_blk (by rfl) _ _ rfl w5.heap.size 0 25 _ [.int .i64 1, .int .i64 3, .int .i64 2, .int .i64 by_] _ rfl (fun wx hx => hx.blk (HK7.out.blk HBV.out (by omega)) (by omega)) (by simp) Tryd.underlying25 rfl (by kernel_rfl)) (SAB.both hA hB) ?_
    try simp only [Act.put, List.setIfInBounds_toArray, List.set_cons_zero, List.set_cons_succ]
    refine wpL_takeB (i := 5) (v := ?_) rfl (by kernel_rfl) (by kernel_rfl) (by kernel_rfl) (by decide) (fun _ _ _ h => h) (Or.inl ⟨by rfl, ?_⟩) (SAB.both hA hB) ?_
    rotate_left
    · intro wx hBx
      (try dsimp only at hBx)
      go_simp
      try with_reducible rfl
    try simp only [Act.put, List.setIfInBounds_toArray, List.set_cons_zero, List.set_cons_succ]
    refine wpL_one (i := 1) (by kernel_rfl) (StepL.mk rfl (fun K hK => ?_))
    go_simp
    refine (ren_all 5 w7.drew (New w4 w3.heap.size) [.int .i64 op4, .int .i64 val4, .string name4, .int .i64 slot4, .int .i64 size4, .slice A4 m4 c4] x4 (TLT.out w7 (by omega)) (TREE.out _ (Same.drew HK7.out)) HF4.out).mono ?_
    rintro e w8 ⟨cs8, rfl, hx8, hk8⟩
    have hk8' : Keep w7 w8 := Keep.trans hB hk8
    refine hK.out _ _ (SAB.both trivial hk8') (fun hSS => ?_)
    clear hK K hA hB
    have hB := hSS.2
    have hA := hSS.1 (by kernel_rfl)
    (try dsimp only at hB); (try dsimp only at hA); clear hSS
    try simp only [Act.put, List.setIfInBounds_toArray, List.set_cons_zero, List.set_cons_succ]
    refine wpL_one (i := 4) (by kernel_rfl) (StepL.mk rfl (fun K hK => ?_))
    go_simp
    refine (KEY.out _ cs8 _ A' n' c' xs w8 hx8 (fun i hi => hi.2) (CELLS.out w8 (Keep.trans HK7.out hk8'))).mono ?_
    rw [renS_val, HVA.out]
    rintro e w9 ⟨rfl, hk9⟩
    have hk9' : Keep w7 w9 := Keep.trans hk8' hk9
    refine hK.out _ _ (SAB.both trivial hk9') (fun hSS => ?_)
    clear hK K hA hB
    have hB := hSS.2
    have hA := hSS.1 (by kernel_rfl)
    (try dsimp only at hB); (try dsimp only at hA); clear hSS
    try simp only [Act.put, List.setIfInBounds_toArray, List.set_cons_zero, List.set_cons_succ]
    refine wpL_takeB (i := 6) (v := ?_) rfl (by kernel_rfl) (by kernel_rfl) (by kernel_rfl) (by decide) (fun _ _ _ h => h) (Or.inl ⟨by rfl, ?_⟩) (SAB.both hA hB) ?_
    rotate_left
    · intro wx hBx
      (try dsimp only at hBx)
      go_simp
      try with_reducible rfl
    try simp only [Act.put, List.setIfInBounds_toArray, List.set_cons_zero, List.set_cons_succ]
    refine wpL_done (by kernel_rfl) ?_
    have HK9' := Lib.hid hk9'
    clear hk9'
    clear hk8 hk8' hk9 hx8 hA hB
    go_wp2_with fail
    go_meet
    exact ⟨rfl, HK9'.out⟩
  case rest =>
    obtain ⟨rfl, hk8⟩ := hcut
    obtain ⟨w8, rfl⟩ : ∃ w8 : World, w8 = wc := ⟨_, rfl⟩
    have hk68 := Keep.trans HK7.out hk8
    have hz8' := hk68.size
    have HK68 := Lib.hid hk68
    clear hk68
    clear hk8
    by_cases h0 : n' = 0
    · have d0 : ((n' : Int) == 0) = true := by simpa using h0
      have H0 := Lib.hid h0
      clear h0
      go_wp2_with fail
      go_ret
      exact ⟨rfl, Keep.trans HKW6.out HK68.out⟩
    have d0 : ((n' : Int) == 0) = false := by simpa using h0
    go_wp2_with fail
    refine (mod_any nn n' w8 HNN.out (by omega) (by omega)).mono ?_
    rintro e w9 ⟨rfl, rfl⟩
    have hk0 := modS_lt nn n' (by omega)
    generalize modS nn n' = kk at *
    obtain ⟨hk0, hk15⟩ := hk0
    obtain ⟨k, rfl⟩ := Int.eq_ofNat_of_zero_le hk0
    go_wp2_with (refine wpList_load_all rfl _ (.tmp 10) rfl w4.heap.size 31 [.int .i64 op4, .int .i64 val4, .string name4, .int .i64 slot4, .int .i64 size4, .slice A4 m4 c4] _ rfl (HK68.out.blk HBE.out (by omega)) Tryd.underlying31 rfl (by kernel_rfl) ?_)
    refine (ment_all 5 w8 (New w4 w3.heap.size) [.int .i64 op4, .int .i64 val4, .string name4, .int .i64 slot4, .int .i64 size4, .slice A4 m4 c4] x4 k (TLT.out w8 (by omega)) (TREE.out _ HK68.out) HF4.out HP4.out).mono ?_
    rintro e w9 ⟨rfl, hk9⟩
    generalize hmb : mentS 5 x4 k = mb
    have hk69 := Keep.trans HK68.out hk9
    have hz9 := hk69.size
    have HMB := Lib.hid hmb
    have HK69 := Lib.hid hk69
    clear hmb hk69
    clear hk9
    cases mb with
    | true =>
      go_wp2_with fail
      go_ret
      exact ⟨rfl, Keep.trans HKW6.out HK69.out⟩
    | false =>
      have hcl := CELLS.out w9 HK69.out
      have hone : ∀ u ∈ xs.flatMap encI, u.oneCell' = true := fun u hu => by
        obtain ⟨q, _, hm⟩ := List.mem_flatMap.1 hu
        exact encI_one q u hm
      have HCL := Lib.hid hcl
      have HONE := Lib.hid hone
      clear hcl hone
      go_upto_region 15 with (at_builtin; refine wpList_append_any _ rfl _ (.tmp 46) _ rfl w9.heap.size 3 iI _ 1 8 Tryd.underlying23 JI0.out JZ0.out JZ1.out JZ2.out rfl (by omega) _ 0 [] rfl (World.ownsRow_nil _ _ _ _) _ A' n' c' (xs.flatMap encI) rfl HCL.out.2.2.2 HONE.out (by simp [maxLen]; omega) (by omega) (Nat.le_refl _) ?_; intro v5 w10 hown5 hg5 hat5)
      rw [Nat.zero_add, List.nil_append] at hown5
      have hk910 : Keep w9 w10 := Same.append (Same.refl _ _) (World.ownsRow_nil w9 w9.heap.size 3 1) hg5 (fun i hi => hi) (Nat.le_refl _)
      obtain ⟨g, c5, cur, rfl, hbg, hbl, hcz, hnc, hcm, hset⟩ := own_set hown5 (by omega)
      have hz10 := hk910.size
      have hgl := hbl.lt
      have hkn : (k : Int) < n' := hk15
      have hkn' : k < n' := by omega
      have hk610 := Keep.trans HK69.out hk910
      have HBL := Lib.hid hbl
      have HSET := Lib.hid hset
      have HK610 := Lib.hid hk610
      clear hbl hset hk610
      clear hown5 hg5 hat5 hk910
      go_upto_region 16 with (refine wpList_store_one rfl _ (.tmp 51) _ rfl g k 3 cur (.int .i64 by_) rfl rfl HBL.out (by omega) (by kernel_rfl) rfl rfl ?_; intro w11 hb11 hs11)
      have hsl := HSET.out w11 k by_ hkn' hb11
      have hz11 := hs11.size
      have hk611 : Keep w6 w11 := Same.trans HK610.out hs11 (fun i hi => by omega)
      have hvv : valS (xs.set k by_) ⟨1, 3, 2, by_⟩ 5 x4 = va := (ment_val xs _ k by_ 5 x4 HP4.out HMB.out).trans HVA.out
      have HSL := Lib.hid hsl
      have HK611 := Lib.hid hk611
      have HVV := Lib.hid hvv
      clear hsl hk611 hvv
      clear hb11 hs11
      go_wp2_with (first
        | (refine wpList_load_all rfl _ (.tmp 10) rfl w4.heap.size 31 [.int .i64 op4, .int .i64 val4, .string name4, .int .i64 slot4, .int .i64 size4, .slice A4 m4 c4] _ rfl (HK611.out.blk HBE.out (by omega)) Tryd.underlying31 rfl (by kernel_rfl) ?_)
        | (refine wpList_load_all rfl _ (.tmp 11) rfl w5.heap.size 25 [.int .i64 1, .int .i64 3, .int .i64 2, .int .i64 by_] _ rfl (HK611.out.blk HBV.out (by omega)) Tryd.underlying25 rfl (by kernel_rfl) ?_))
      refine (KEY.out x4 _ _ _ n' c5 (xs.set k by_) w11 (TREE.out _ HK611.out) (TLT.out w11 (by omega)) (HSL.out.more (fun i hi => by omega))).mono ?_
      rw [HVV.out]
      rintro e w12 ⟨rfl, hk12⟩
      have HK12 := Lib.hid hk12
      clear hk12
      go_wp2_with fail
      go_ret
      exact ⟨rfl, Keep.trans (Keep.trans HKW6.out HK611.out) HK12.out⟩
end Go.Proofs.YtfleindknalckaaDoor
