/- The law EvalTree. -/
import Derived.Test.YtfleindknalckaaDoorLaw4V
import Derived.Test.YtfleindknalckaaDoorSmall
set_option linter.unusedVariables false
set_option linter.unusedSimpArgs false
namespace Go.Proofs.YtfleindknalckaaDoor
open Go.RowKit Go.Proofs

theorem BlkSnd.of (w : World) (o : Obj) (t : TypeId) (cs : Array Value) : Blk ((w.alloc o).alloc (.cells cs t)) (w.heap.size + 1) t cs := by simpa using Blk.new (w.alloc o) t cs
set_option maxHeartbeats 4000000 in
set_option maxRecDepth 100000 in
theorem evalTree_walk (w : World) (A A' : Option Addr) (n c n' c' : Nat) (zs xs : List Int) (op : Int) (hop : I64 op) (hg : Glob w) (hz : Sl encB 1 w (· < w.heap.size) A n c zs) (hz8 : ∀ y ∈ zs, 0 ≤ y ∧ y < 256) (hx : Sl encI 1 w (· < w.heap.size) A' n' c' xs) :
    Calls Tryd.prog 5 #[.slice A n c, .slice A' n' c', .int .i64 op] w (KTrue w) := by
  have hn' : n' ≤ 9223372036854775807 := Nat.le_trans hx.2.1 hx.2.2.1
  have HG := Lib.hid hg
  have HZ := Lib.hid hz
  have HZ8 := Lib.hid hz8
  have HX := Lib.hid hx
  have HOP := Lib.hid hop
  clear hg hz hz8 hx hop
  go_enter Tryd.func5, Tryd.ntmps5
  go_wp2_with fail
  refine (awake04_any w).mono ?_
  rintro e w1 ⟨rfl, hk1⟩
  have HK1 := Lib.hid hk1
  clear hk1
  have hz1 := HK1.out.size
  go_wp2_with fail
  refine (new_any w1 A n c 160 zs (fun i => i < w.heap.size) (fun i hi => by omega) (HZ.out.keep HK1.out) HZ8.out (by omega)).mono ?_
  rintro e w2 ⟨r, hr, rfl, hc2, hk2⟩
  have hz2 := hk2.size
  have hk2' := Keep.trans HK1.out hk2
  have hg2 := HG.out.keep hk2'
  have hgc := hc2.lt
  generalize hgce : w1.heap.size = gc at *
  have HK2' := Lib.hid hk2'
  have HG2 := Lib.hid hg2
  have HC2 := Lib.hid hc2
  clear hk2' hg2 hc2
  clear hk2
  have hgc2 := HG2.out.cod HC2.out
  go_wp2_with fail
  refine (int_any w2 _ gc r HC2.out).mono ?_
  rintro e w3 ⟨y3, hwf3, rfl, ⟨r3, hr3, hc3⟩, ho3⟩
  have hz3 := ho3.size
  have hg3 := HG2.out.only hgc2 ho3
  have HC3 := Lib.hid hc3
  have HO3 := Lib.hid ho3
  have HG3 := Lib.hid hg3
  clear hc3 ho3 hg3
  go_upto_region 5 with (refine wpList_store_all rfl _ (.tmp 8) (.tmp 20) rfl w3.heap.size 25 _ [.int .i64 1, .int .i64 3, .int .i64 2, .int .i64 y3] rfl rfl (Blk.new _ _ _) rfl (by kernel_rfl) rfl ?_; intro w4 hb4 hs4; have HBV := Lib.hid hb4; have HK4 : Hid (Keep w3 w4) := Lib.hid (Keep.write (Keep.new w3 _) hs4 (Nat.le_refl _)); have hz4 : w3.heap.size < w4.heap.size := hb4.lt; clear hb4 hs4)
  have hc4 := HC3.out.keep HK4.out
  have hg4 := HG3.out.keep HK4.out
  have HC4 := Lib.hid hc4
  have HG4 := Lib.hid hg4
  clear hc4 hg4
  go_wp2_with fail
  refine (expr_all 4 (by omega) (by omega) w4 _ gc r3 HC4.out HG4.out).mono ?_
  rintro e w5 ⟨x5, cs5, r5, rfl, hx5, hf5, hr5, hc5, ho5⟩
  have hz5 := ho5.size
  have hf5' : Ex.few 1000 4 x5 := few_mono (by omega) 4 x5 hf5
  have hg5 := HG4.out.only hgc2 ho5
  have HX5 := Lib.hid hx5
  have HF5' := Lib.hid hf5'
  have HC5 := Lib.hid hc5
  have HO5 := Lib.hid ho5
  have HG5 := Lib.hid hg5
  clear hx5 hf5' hc5 ho5 hg5
  clear hf5
  go_wp2_with fail
  refine (small_all 4 w5 _ (New w5 w4.heap.size) gc r5 cs5 x5 HC5.out (fun i hi => ⟨hi.2, by have := hi.1; omega⟩) HX5.out HF5'.out).mono ?_
  rintro e w6 ⟨x6, cs6, r6, rfl, hx6, hf6, hp6, hr6, hc6, ho6⟩
  have hz6 := ho6.size
  have hg6 := HG5.out.only hgc2 ho6
  obtain ⟨op6, val6, name6, slot6, size6, args6, A6, m6, c6, he6, rfl⟩ := ExR.open_ hx6
  have HX6 := Lib.hid hx6
  have HC6 := Lib.hid hc6
  have HO6 := Lib.hid ho6
  have HG6 := Lib.hid hg6
  clear hx6 hc6 ho6 hg6
  clear he6 hf6 hp6
  go_wp2_with fail
  refine (expr_all 4 (by omega) (by omega) w6 _ gc r6 HC6.out HG6.out).mono ?_
  rintro e w7 ⟨x7, cs7, r7, rfl, hx7, hf7, hr7, hc7, ho7⟩
  have hz7 := ho7.size
  have hf7' : Ex.few 1000 4 x7 := few_mono (by omega) 4 x7 hf7
  have HX7 := Lib.hid hx7
  have HF7' := Lib.hid hf7'
  have HC7 := Lib.hid hc7
  have HO7 := Lib.hid ho7
  clear hx7 hf7' hc7 ho7
  clear hf7
  go_wp2_with fail
  refine (small_all 4 w7 _ (New w7 w6.heap.size) gc r7 cs7 x7 HC7.out (fun i hi => ⟨hi.2, by have := hi.1; omega⟩) HX7.out HF7'.out).mono ?_
  rintro e w8 ⟨x8, cs8, r8, rfl, hx8, hf8, hp8, hr8, hc8, ho8⟩
  have hz8' := ho8.size
  obtain ⟨op8, val8, name8, slot8, size8, args8, A8, m8, c8, he8, rfl⟩ := ExR.open_ hx8
  have ho48 : Only gc w4 w8 := Only.trans (Only.trans HO5.out HO6.out) (Only.trans HO7.out ho8)
  have ho68 : Only gc w6 w8 := Only.trans HO7.out ho8
  have hbv8 := ho48.blk HBV.out ⟨by omega, by omega⟩
  have hk8 : Keep w w8 := Same.trans (Same.trans (Same.trans HK2'.out HO3.out (fun i hi => by omega)) HK4.out (fun i hi => by omega)) ho48 (fun i hi => by omega)
  have hx6' := ExR.keep (ho68.mono (fun i (hi : New w6 w5.heap.size i) => ⟨hi.2, by have := hi.1; omega⟩)) _ _ _ HX6.out
  have HX8 := Lib.hid hx8
  have HBV8 := Lib.hid hbv8
  have HK8 := Lib.hid hk8
  have HX6' := Lib.hid hx6'
  clear hx8 hbv8 hk8 hx6'
  clear he8 hf8 hp8 hc8 ho8 ho48 ho68
  go_upto_region 6 with (first
    | (refine wpList_store_all rfl _ (.tmp 9) (.tmp 24) rfl w8.heap.size 31 _ [.int .i64 op6, .int .i64 val6, .string name6, .int .i64 slot6, .int .i64 size6, .slice A6 m6 c6] rfl rfl ((Blk.new _ _ _).alloc _) rfl (by kernel_rfl) rfl ?_; intro w9 hb9 hs9; have HB9 := Lib.hid hb9; have HS9 := Lib.hid hs9; clear hb9 hs9)
    | (refine wpList_store_all rfl _ (.tmp 10) (.tmp 28) rfl (w8.heap.size + 1) 31 _ [.int .i64 op8, .int .i64 val8, .string name8, .int .i64 slot8, .int .i64 size8, .slice A8 m8 c8] rfl rfl (HS9.out.blk (BlkSnd.of w8 _ _ _) (by omega)) rfl (by kernel_rfl) rfl ?_; intro w10 hb10 hs10; have HB10 := Lib.hid hb10; have HS10 := Lib.hid hs10; clear hb10 hs10))
  have hk810 : Keep w8 w10 := Keep.write (Keep.write (Keep.alloc (Keep.new w8 _) _) HS9.out (Nat.le_refl _)) HS10.out (by omega)
  have hb9' := HS10.out.blk HB9.out (by omega)
  have hz10 : w8.heap.size + 1 < w10.heap.size := HB10.out.lt
  have hbvx := hk810.blk HBV8.out (by omega)
  have hk10 := Keep.trans HK8.out hk810
  have ha := ExR.keep (hk810.mono (fun i (hi : New w6 w5.heap.size i) => by have := hi.2; omega)) _ _ _ HX6'.out
  have hb := ExR.keep (hk810.mono (fun i (hi : New w8 w7.heap.size i) => hi.2)) _ _ _ HX8.out
  clear HS9 HS10 HB9
  have HB9' := Lib.hid hb9'
  have HBVX := Lib.hid hbvx
  have HK10 := Lib.hid hk10
  have HA := Lib.hid ha
  have HB := Lib.hid hb
  clear hb9' hbvx hk10 ha hb
  clear hk810
  go_wp2_with fail
  refine (mod_any op 15 w10 HOP.out (by omega) (by omega)).mono ?_
  rintro e w11 ⟨rfl, rfl⟩
  have hk0 := modS_lt op 15 (by omega)
  generalize modS op 15 = k at *
  obtain ⟨hk0, hk15⟩ := hk0
  have key : ∀ (L : Nat) (x : Ex) (cs : List Value) (T : Nat → Prop) (w0 wa : World), Keep w10 w0 → ExR w0 T L cs x → (∀ i, T i → i < w0.heap.size) → Keep w0 wa → Calls Tryd.prog 10 #[.agg cs.toArray, .slice A' n' c', .agg #[.int .i64 1, .int .i64 3, .int .i64 2, .int .i64 y3]] wa (ApplyPost (valS xs ⟨1, 3, 2, y3⟩ L x) wa) := fun L x cs T w0 wa h0 hx hT ha => by
    have hz0 := h0.size
    have hza := ha.size
    have hkk := Keep.trans HK10.out h0
    exact Value_any L xs ⟨1, 3, 2, y3⟩ x cs wa (fun i => i < w0.heap.size) A' n' c' (fun i hi => by omega) (ExR.more (fun i hi => hT i hi) _ _ _ (ExR.keep (ha.mono (fun i hi => hT i hi)) _ _ _ hx)) (((HX.out.keep hkk).more (fun i hi => by have := hkk.size; omega)).keep ha) hn'
  have keyA := fun wa h => key 4 x6 [.int .i64 op6, .int .i64 val6, .string name6, .int .i64 slot6, .int .i64 size6, .slice A6 m6 c6] (New w6 w5.heap.size) w10 wa (Same.refl _ _) HA.out (fun i hi => by have := hi.2; omega) h
  have keyB := fun wa h => key 4 x8 [.int .i64 op8, .int .i64 val8, .string name8, .int .i64 slot8, .int .i64 size8, .slice A8 m8 c8] (New w8 w7.heap.size) w10 wa (Same.refl _ _) HB.out (fun i hi => by have := hi.2; omega) h
  have hx6v := rfl (a := valS xs ⟨1, 3, 2, y3⟩ 4 x6)
  generalize hva : valS xs ⟨1, 3, 2, y3⟩ 4 x6 = va at keyA
  generalize hvb : valS xs ⟨1, 3, 2, y3⟩ 4 x8 = vb at keyB
  have hA : True := trivial
  clear hx6v
  have KEY := Lib.hid key
  have KEYA := Lib.hid keyA
  have KEYB := Lib.hid keyB
  have HVA := Lib.hid hva
  have HVB := Lib.hid hvb
  clear key keyA keyB hva hvb
  go_upto_region 7 with fail
  refine wp_region_L 99 (fun _ => True) (fun wx => Keep w10 wx) (by kernel_rfl) trivial (Same.drew (Same.refl _ _)) (fun _ hB => ?_)
  refine wpL_takeB (i := 0) rfl (by kernel_rfl) (by kernel_rfl) (by kernel_rfl) (by decide) (fun _ _ _ h => h) (yieldsIf_blk (by rfl) _ _ rfl w8.heap.size 0 31 _ [.int .i64 op6, .int .i64 val6, .string name6, .int .i64 slot6, .int .i64 size6, .slice A6 m6 c6] _ rfl (fun wx hx => hx.blk HB9'.out (by omega)) (by simp) Tryd.underlying31 rfl (by kernel_rfl)) (SAB.both hA hB) ?_
  try simp only [Act.put, List.setIfInBounds_toArray, List.set_cons_zero, List.set_cons_succ]
  refine wpL_takeB (i := 1) (v := ?_) rfl (by kernel_rfl) (by kernel_rfl) (by kernel_rfl) (by decide) (fun _ _ _ h => h) (Or.inl ⟨by rfl, ?_⟩) (SAB.both hA hB) ?_
  rotate_left
  · intro wx hBx
    (try dsimp only at hBx)
    go_simp
    try with_reducible rfl
  try simp only [Act.put, List.setIfInBounds_toArray, List.set_cons_zero, List.set_cons_succ]
  refine wpL_takeB (i := 2) rfl (by kernel_rfl) (by kernel_rfl) (by kernel_rfl) (by decide) (fun _ _ _ h => h) (yieldsIf_blk (by rfl) _ _ rfl w3.heap.size 0 25 _ [.int .i64 1, .int .i64 3, .int .i64 2, .int .i64 y3] _ rfl (fun wx hx => hx.blk HBVX.out (by omega)) (by simp) Tryd.underlying25 rfl (by kernel_rfl)) (SAB.both hA hB) ?_
  try simp only [Act.put, List.setIfInBounds_toArray, List.set_cons_zero, List.set_cons_succ]
  refine wpL_takeB (i := 4) rfl (by kernel_rfl) (by kernel_rfl) (by kernel_rfl) (by decide) (fun _ _ _ h => h) (yieldsIf_blk (by rfl) _ _ rfl (w8.heap.size + 1) 0 31 _ [.int .i64 op8, .int .i64 val8, .string name8, .int .i64 slot8, .int .i64 size8, .slice A8 m8 c8] _ rfl (fun wx hx => hx.blk HB10.out (by omega)) (by simp) Tryd.underlying31 rfl (by kernel_rfl)) (SAB.both hA hB) ?_
  try simp only [Act.put, List.setIfInBounds_toArray, List.set_cons_zero, List.set_cons_succ]
  refine wpL_takeB (i := 5) (v := ?_) rfl (by kernel_rfl) (by kernel_rfl) (by kernel_rfl) (by decide) (fun _ _ _ h => h) (Or.inl ⟨by rfl, ?_⟩) (SAB.both hA hB) ?_
  rotate_left
  · intro wx hBx
    (try dsimp only at hBx)
    go_simp
    try with_reducible rfl
  try simp only [Act.put, List.setIfInBounds_toArray, List.set_cons_zero, List.set_cons_succ]
  refine wpL_takeB (i := 6) rfl (by kernel_rfl) (by kernel_rfl) (by kernel_rfl) (by decide) (fun _ _ _ h => h) (yieldsIf_blk (by rfl) _ _ rfl w3.heap.size 0 25 _ [.int .i64 1, .int .i64 3, .int .i64 2, .int .i64 y3] _ rfl (fun wx hx => hx.blk HBVX.out (by omega)) (by simp) Tryd.underlying25 rfl (by kernel_rfl)) (SAB.both hA hB) ?_
  try simp only [Act.put, List.setIfInBounds_toArray, List.set_cons_zero, List.set_cons_succ]
  refine wpL_one (i := 3) (by kernel_rfl) (StepL.mk rfl (fun K hK => ?_))
  go_simp
  refine (KEYA.out w10.drew (Same.drew (Same.refl _ _))).mono ?_
  rintro e w11 ⟨rfl, hk11⟩
  have hk11' : Keep w10 w11 := Keep.trans hB hk11
  refine hK.out _ _ (SAB.both trivial hk11') (fun hSS => ?_)
  clear hK K hA hB
  have hB := hSS.2
  have hA := hSS.1 (by kernel_rfl)
  (try dsimp only at hB); (try dsimp only at hA); clear hSS
  try simp only [Act.put, List.setIfInBounds_toArray, List.set_cons_zero, List.set_cons_succ]
  refine wpL_one (i := 7) (by kernel_rfl) (StepL.mk rfl (fun K hK => ?_))
  go_simp
  refine (KEYB.out w11 hk11').mono ?_
  rintro e w12 ⟨rfl, hk12⟩
  have hk12' : Keep w10 w12 := Keep.trans hk11' hk12
  refine hK.out _ _ (SAB.both trivial hk12') (fun hSS => ?_)
  clear hK K hA hB
  have hB := hSS.2
  have hA := hSS.1 (by kernel_rfl)
  (try dsimp only at hB); (try dsimp only at hA); clear hSS
  try simp only [Act.put, List.setIfInBounds_toArray, List.set_cons_zero, List.set_cons_succ]
  refine wpL_takeB (i := 8) (v := ?_) rfl (by kernel_rfl) (by kernel_rfl) (by kernel_rfl) (by decide) (fun _ _ _ h => h) (Or.inl ⟨by rfl, ?_⟩) (SAB.both hA hB) ?_
  rotate_left
  · intro wx hBx
    (try dsimp only at hBx)
    go_simp
    try with_reducible rfl
  try simp only [Act.put, List.setIfInBounds_toArray, List.set_cons_zero, List.set_cons_succ]
  refine wpL_takeB (i := 9) (v := ?_) rfl (by kernel_rfl) (by kernel_rfl) (by kernel_rfl) (by decide) (fun _ _ _ h => h) (Or.inl ⟨by rfl, ?_⟩) (SAB.both hA hB) ?_
  rotate_left
  · intro wx hBx
    (try dsimp only at hBx)
    go_simp
    try with_reducible rfl
  try simp only [Act.put, List.setIfInBounds_toArray, List.set_cons_zero, List.set_cons_succ]
  refine wpL_done (by kernel_rfl) ?_
  have hz12 := hk12'.size
  have hb9c := hk12'.blk HB9'.out (by omega)
  have hb10c := hk12'.blk HB10.out (by omega)
  have hbvc := hk12'.blk HBVX.out (by omega)
  have HK12' := Lib.hid hk12'
  have HB9C := Lib.hid hb9c
  have HB10C := Lib.hid hb10c
  have HBVC := Lib.hid hbvc
  clear hk12' hb9c hb10c hbvc
  clear hk11 hk11' hk12 hA hB
  go_wp2_with (first
    | (refine wpList_load_all rfl _ (.tmp 9) rfl w8.heap.size 31 [.int .i64 op6, .int .i64 val6, .string name6, .int .i64 slot6, .int .i64 size6, .slice A6 m6 c6] _ rfl HB9C.out Tryd.underlying31 rfl (by kernel_rfl) ?_)
    | (refine wpList_load_all rfl _ (.tmp 10) rfl (w8.heap.size + 1) 31 [.int .i64 op8, .int .i64 val8, .string name8, .int .i64 slot8, .int .i64 size8, .slice A8 m8 c8] _ rfl HB10C.out Tryd.underlying31 rfl (by kernel_rfl) ?_)
    | (refine wpList_buildS rfl _ _ _ _ rfl Tryd.underlying29 _ [(0, .agg #[.int .i64 op6, .int .i64 val6, .string name6, .int .i64 slot6, .int .i64 size6, .slice A6 m6 c6]), (1, .agg #[.int .i64 op8, .int .i64 val8, .string name8, .int .i64 slot8, .int .i64 size8, .slice A8 m8 c8])] rfl (built_ex2 _ _ _ _ _ _ _ _ _ _ _ _ _ _ _ _) ?_)
    | (refine wpList_load_all rfl _ (.tmp 8) rfl w3.heap.size 25 [.int .i64 1, .int .i64 3, .int .i64 2, .int .i64 y3] _ rfl (HBVC.out.alloc _) Tryd.underlying25 rfl (by kernel_rfl) ?_))
  have hkn := Keep.trans HK12'.out (Keep.new w12 (.cells (([.int .i64 op6, .int .i64 val6, .string name6, .int .i64 slot6, .int .i64 size6, .slice A6 m6 c6] : List Value) ++ ([.int .i64 op8, .int .i64 val8, .string name8, .int .i64 slot8, .int .i64 size8, .slice A8 m8 c8] : List Value)).toArray 31))
  have hbn := Blk.new w12 31 (([.int .i64 op6, .int .i64 val6, .string name6, .int .i64 slot6, .int .i64 size6, .slice A6 m6 c6] : List Value) ++ ([.int .i64 op8, .int .i64 val8, .string name8, .int .i64 slot8, .int .i64 size8, .slice A8 m8 c8] : List Value)).toArray
  generalize hW : w12.alloc (.cells (([.int .i64 op6, .int .i64 val6, .string name6, .int .i64 slot6, .int .i64 size6, .slice A6 m6 c6] : List Value) ++ ([.int .i64 op8, .int .i64 val8, .string name8, .int .i64 slot8, .int .i64 size8, .slice A8 m8 c8] : List Value)).toArray 31) = W at hkn hbn
  have hzn := hbn.lt
  have htree : ExR W (fun i => i < W.heap.size) 5 [.int .i64 (8 + k), .int .i64 0, .string ⟨#[]⟩, .int .i64 0, .int .i64 0, .slice (some ⟨w12.heap.size, 0, none⟩) 2 2] (.mk (8 + k) 0 ⟨#[]⟩ 0 0 [x6, x8]) :=
    ⟨I64.zero, I64.zero, _, 2, 2, rfl, SlR.two (R := fun w S cs e => ExR w S 4 cs e) hbn hzn rfl rfl (ExR.more (fun i hi => by have := hi.2; omega) _ _ _ (ExR.keep (hkn.mono (fun i (hi : New w6 w5.heap.size i) => by have := hi.2; omega)) _ _ _ HA.out)) (ExR.more (fun i hi => by have := hi.2; omega) _ _ _ (ExR.keep (hkn.mono (fun i (hi : New w8 w7.heap.size i) => by have := hi.2; omega)) _ _ _ HB.out))⟩
  have hval : valS xs ⟨1, 3, 2, y3⟩ 5 (.mk (8 + k) 0 ⟨#[]⟩ 0 0 [x6, x8]) = applyS (8 + k) va vb := by
    rw [valS_succ, if_neg (by omega), if_neg (by omega), if_neg (by omega), if_neg (by omega), if_neg (by omega), if_neg (by omega), if_neg (by omega), if_neg (by omega), ← HVA.out, ← HVB.out]
    rfl
  have kv := KEY.out 5 _ _ (fun i => i < W.heap.size) W W hkn htree (fun i hi => hi) (Same.refl _ _)
  rw [hval] at kv
  rw [← hW] at kv hkn
  have HKN := Lib.hid hkn
  clear hkn
  clear hW hbn htree hval
  refine kv.mono ?_
  clear kv
  rintro e w14 ⟨rfl, hk14⟩
  have HK14 := Lib.hid hk14
  clear hk14
  go_wp2_with fail
  refine (apply_any (8 + k) va vb w14).mono ?_
  rintro e w15 ⟨rfl, hk15'⟩
  have HK15' := Lib.hid hk15'
  clear hk15'
  go_wp2_with fail
  go_ret
  exact ⟨rfl, Keep.trans (Keep.trans HK10.out HKN.out) (Keep.trans HK14.out HK15'.out)⟩
end Go.Proofs.YtfleindknalckaaDoor
