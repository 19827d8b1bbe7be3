/- The law EvalValues. -/
import Derived.Test.YtfleindknalckaaDoorPlace
import Derived.Test.YtfleindknalckaaDoorRef04
import Derived.Test.YtfleindknalckaaDoorAwake04
import Derived.Test.YtfleindknalckaaDoorRowIn
set_option linter.unusedVariables false
set_option linter.unusedSimpArgs false
namespace Go.Proofs.YtfleindknalckaaDoor
open Go.RowKit Go.Proofs

def KTrue (w : World) (e : Ending) (w' : World) : Prop := e = .returned (.bool true) ∧ Keep w w'
theorem few_mono {k k' : Nat} (h : k ≤ k') : ∀ (n : Nat) (e : Ex), Ex.few k n e → Ex.few k' n e
  | 0, _, _ => trivial
  | n + 1, .mk _ _ _ _ _ args, hf => ⟨Nat.le_trans hf.1 h, fun a ha => few_mono h n a (hf.2 a ha)⟩
set_option maxHeartbeats 4000000 in
set_option maxRecDepth 100000 in
theorem evalValues_walk (w : World) (A A' : Option Addr) (n c n' c' : Nat) (zs xs : List Int) (v : EnvS) (hg : Glob w) (hz : Sl encB 1 w (· < w.heap.size) A n c zs) (hz8 : ∀ y ∈ zs, 0 ≤ y ∧ y < 256) (hx : Sl encI 1 w (· < w.heap.size) A' n' c' xs) :
    Calls Tryd.prog 3 #[.slice A n c, .slice A' n' c', .agg #[.int .i64 v.self, .int .i64 v.procs, .int .i64 v.frm, .int .i64 v.val]] w (KTrue w) := by
  have hn' : n' ≤ 9223372036854775807 := Nat.le_trans hx.2.1 hx.2.2.1
  have HG := Lib.hid hg
  have HZ := Lib.hid hz
  have HZ8 := Lib.hid hz8
  have HX := Lib.hid hx
  clear hg hz hz8 hx
  go_enter Tryd.func3, Tryd.ntmps3
  go_wp2_with fail
  generalize hW : w.alloc (.cells #[.int .i64 v.self, .int .i64 v.procs, .int .i64 v.frm, .int .i64 v.val] 25) = W
  have hbW : Blk W w.heap.size 25 _ := hW ▸ Blk.new _ _ _
  have hkW : Keep w W := hW ▸ Keep.new _ _
  have hzW := hbW.lt
  clear hW
  have HBW := Lib.hid hbW
  have HKW := Lib.hid hkW
  clear hbW hkW
  refine (awake04_any W).mono ?_
  rintro e w1 ⟨rfl, hk1⟩
  have hk1' := Keep.trans HKW.out hk1
  have hz1 := hk1.size
  have hb1 := hk1.blk HBW.out hzW
  have HK1' := Lib.hid hk1'
  have HB1 := Lib.hid hb1
  clear hk1' hb1
  clear hk1
  go_wp2_with fail
  refine (new_any w1 A n c 200 zs (fun i => i < w.heap.size) (fun i hi => by omega) (HZ.out.keep HK1'.out) HZ8.out (by omega)).mono ?_
  rintro e w2 ⟨r, hr, rfl, hc2, hk2⟩
  have hz2 := hk2.size
  have hb2 := hk2.blk HB1.out (by omega)
  have hk2' := Keep.trans HK1'.out hk2
  have hg2 := HG.out.keep hk2'
  have hgc := hc2.lt
  generalize hgce : w1.heap.size = gc at *
  have HB2 := Lib.hid hb2
  have HK2' := Lib.hid hk2'
  have HG2 := Lib.hid hg2
  have HC2 := Lib.hid hc2
  clear hb2 hk2' hg2 hc2
  clear hk2
  go_wp2_with fail
  refine (expr_all 5 (by omega) (by omega) w2 _ gc r HC2.out HG2.out).mono ?_
  rintro e w3 ⟨x3, cs3, r3, rfl, hx3, hf3, hr3, hc3, ho3⟩
  have hz3 := ho3.size
  have hf3' : Ex.few 1000 5 x3 := few_mono (by omega) 5 x3 hf3
  have HX3 := Lib.hid hx3
  have HF3' := Lib.hid hf3'
  have HC3 := Lib.hid hc3
  have HO3 := Lib.hid ho3
  clear hx3 hf3' hc3 ho3
  clear hf3
  go_wp2_with fail
  refine (place_all 5 w3 _ (New w3 w2.heap.size) gc r3 cs3 x3 HC3.out (fun i hi => ⟨hi.2, by have := hi.1; omega⟩) HX3.out HF3'.out).mono ?_
  rintro e w4 ⟨x4, cs4, r4, rfl, hx4, hr4, hc4, ho4⟩
  have hz4 := ho4.size
  have ho24 := Only.trans HO3.out ho4
  have hb4 := ho24.blk HB2.out ⟨by omega, by omega⟩
  have hk4 : Keep w w4 := Same.trans HK2'.out ho24 (fun i hi => by omega)
  obtain ⟨op4, val4, name4, slot4, size4, args4, A4, m4, c4, he4, rfl⟩ := ExR.open_ hx4
  have HX4 := Lib.hid hx4
  have HB4 := Lib.hid hb4
  have HK4 := Lib.hid hk4
  clear hx4 hb4 hk4
  clear hc4 ho4 ho24 he4
  go_upto_region 5 with (refine wpList_store_all rfl _ (.tmp 8) (.tmp 16) rfl w4.heap.size 31 _ [.int .i64 op4, .int .i64 val4, .string name4, .int .i64 slot4, .int .i64 size4, .slice A4 m4 c4] rfl rfl (Blk.new _ _ _) rfl (by kernel_rfl) rfl ?_; intro w5 hb5 hs5; have HB5 := Lib.hid hb5; have HK5 : Hid (Keep w4 w5) := Lib.hid (Keep.write (Keep.new w4 _) hs5 (Nat.le_refl _)); have hz5 : w4.heap.size < w5.heap.size := hb5.lt; clear hb5 hs5)
  have hA : True := trivial
  have hbe := HK5.out.blk HB4.out (by omega)
  have hx5 := ExR.keep (HK5.out.mono (fun i (hi : New w4 w3.heap.size i) => hi.2)) _ _ _ HX4.out
  have hkw5 := Keep.trans HK4.out HK5.out
  have HBE := Lib.hid hbe
  have HX5 := Lib.hid hx5
  have HKW5 := Lib.hid hkw5
  clear hbe hx5 hkw5
  have key : ∀ wa : World, Keep w5 wa → Calls Tryd.prog 10 #[.agg #[.int .i64 op4, .int .i64 val4, .string name4, .int .i64 slot4, .int .i64 size4, .slice A4 m4 c4], .slice A' n' c', .agg #[.int .i64 v.self, .int .i64 v.procs, .int .i64 v.frm, .int .i64 v.val]] wa (ApplyPost (valS xs v 6 x4) wa) := fun wa ha => by
    have hza := ha.size
    exact Value_any 6 xs v x4 [.int .i64 op4, .int .i64 val4, .string name4, .int .i64 slot4, .int .i64 size4, .slice A4 m4 c4] wa (fun i => i < w5.heap.size) A' n' c' (fun i hi => by omega) (ExR.more (fun i hi => by have := hi.2; omega) _ _ _ (ExR.keep (ha.mono (fun i (hi : New w4 w3.heap.size i) => by have := hi.2; omega)) _ _ _ HX5.out)) (((HX.out.keep HKW5.out).keep (ha.mono (fun i hi => by omega))).more (fun i hi => by omega)) hn'
  have key2 : ∀ wa : World, Keep w5 wa → Calls Tryd.prog 11 #[.agg #[.int .i64 op4, .int .i64 val4, .string name4, .int .i64 slot4, .int .i64 size4, .slice A4 m4 c4], .slice A' n' c', .agg #[.int .i64 v.self, .int .i64 v.procs, .int .i64 v.frm, .int .i64 v.val]] wa (ApplyPost (valS xs v 6 x4) wa) := fun wa ha => by
    have hza := ha.size
    exact rvalue_all 6 xs v x4 [.int .i64 op4, .int .i64 val4, .string name4, .int .i64 slot4, .int .i64 size4, .slice A4 m4 c4] wa (fun i => i < w5.heap.size) A' n' c' (fun i hi => by omega) (ExR.more (fun i hi => by have := hi.2; omega) _ _ _ (ExR.keep (ha.mono (fun i (hi : New w4 w3.heap.size i) => by have := hi.2; omega)) _ _ _ HX5.out)) (((HX.out.keep HKW5.out).keep (ha.mono (fun i hi => by omega))).more (fun i hi => by omega)) hn'
  generalize valS xs v 6 x4 = y at key key2
  have KEY := Lib.hid key
  have KEY2 := Lib.hid key2
  clear key key2
  refine wp_region_L 99 (fun _ => True) (fun wx => Keep w5 wx) (by kernel_rfl) trivial (Same.drew (Same.refl _ _)) (fun _ hB => ?_)
  refine wpL_takeB (i := 0) rfl (by kernel_rfl) (by kernel_rfl) (by kernel_rfl) (by decide) (fun _ _ _ h => h) (yieldsIf_blk (by rfl) _ _ rfl w4.heap.size 0 31 _ [.int .i64 op4, .int .i64 val4, .string name4, .int .i64 slot4, .int .i64 size4, .slice A4 m4 c4] _ rfl (fun wx hx => hx.blk HB5.out (by omega)) (by simp) Tryd.underlying31 rfl (by kernel_rfl)) (SAB.both hA hB) ?_
  try simp only [Act.put, List.setIfInBounds_toArray, List.set_cons_zero, List.set_cons_succ]
  refine wpL_takeB (i := 1) (v := ?_) rfl (by kernel_rfl) (by kernel_rfl) (by kernel_rfl) (by decide) (fun _ _ _ h => h) (Or.inl ⟨by rfl, ?_⟩) (SAB.both hA hB) ?_
  rotate_left
  · intro wx hBx
    (try dsimp only at hBx)
    go_simp
    try with_reducible rfl
  try simp only [Act.put, List.setIfInBounds_toArray, List.set_cons_zero, List.set_cons_succ]
  refine wpL_takeB (i := 2) rfl (by kernel_rfl) (by kernel_rfl) (by kernel_rfl) (by decide) (fun _ _ _ h => h) (yieldsIf_blk (by rfl) _ _ rfl w.heap.size 0 25 _ [.int .i64 v.self, .int .i64 v.procs, .int .i64 v.frm, .int .i64 v.val] _ rfl (fun wx hx => hx.blk HBE.out (by omega)) (by simp) Tryd.underlying25 rfl (by kernel_rfl)) (SAB.both hA hB) ?_
  try simp only [Act.put, List.setIfInBounds_toArray, List.set_cons_zero, List.set_cons_succ]
  refine wpL_takeB (i := 4) rfl (by kernel_rfl) (by kernel_rfl) (by kernel_rfl) (by decide) (fun _ _ _ h => h) (yieldsIf_blk (by rfl) _ _ rfl w4.heap.size 0 31 _ [.int .i64 op4, .int .i64 val4, .string name4, .int .i64 slot4, .int .i64 size4, .slice A4 m4 c4] _ rfl (fun wx hx => hx.blk HB5.out (by omega)) (by simp) Tryd.underlying31 rfl (by kernel_rfl)) (SAB.both hA hB) ?_
  try simp only [Act.put, List.setIfInBounds_toArray, List.set_cons_zero, List.set_cons_succ]
  refine wpL_takeB (i := 5) (v := ?_) rfl (by kernel_rfl) (by kernel_rfl) (by kernel_rfl) (by decide) (fun _ _ _ h => h) (Or.inl ⟨by rfl, ?_⟩) (SAB.both hA hB) ?_
  rotate_left
  · intro wx hBx
    (try dsimp only at hBx)
    go_simp
    try with_reducible rfl
  try simp only [Act.put, List.setIfInBounds_toArray, List.set_cons_zero, List.set_cons_succ]
  refine wpL_takeB (i := 6) rfl (by kernel_rfl) (by kernel_rfl) (by kernel_rfl) (by decide) (fun _ _ _ h => h) (yieldsIf_blk (by rfl) _ _ rfl w.heap.size 0 25 _ [.int .i64 v.self, .int .i64 v.procs, .int .i64 v.frm, .int .i64 v.val] _ rfl (fun wx hx => hx.blk HBE.out (by omega)) (by simp) Tryd.underlying25 rfl (by kernel_rfl)) (SAB.both hA hB) ?_
  try simp only [Act.put, List.setIfInBounds_toArray, List.set_cons_zero, List.set_cons_succ]
  refine wpL_one (i := 3) (by kernel_rfl) (StepL.mk rfl (fun K hK => ?_))
  go_simp
  refine (KEY.out w5.drew (Same.drew (Same.refl _ _))).mono ?_
  rintro e w6 ⟨rfl, hk6⟩
  have hk6' : Keep w5 w6 := Keep.trans hB hk6
  refine hK.out _ _ (SAB.both trivial hk6') (fun hSS => ?_)
  clear hK K hA hB
  have hB := hSS.2
  have hA := hSS.1 (by kernel_rfl)
  (try dsimp only at hB); (try dsimp only at hA); clear hSS
  try simp only [Act.put, List.setIfInBounds_toArray, List.set_cons_zero, List.set_cons_succ]
  refine wpL_one (i := 7) (by kernel_rfl) (StepL.mk rfl (fun K hK => ?_))
  go_simp
  refine (KEY2.out w6 hk6').mono ?_
  rintro e w7 ⟨rfl, hk7⟩
  have hk7' : Keep w5 w7 := Keep.trans hk6' hk7
  refine hK.out _ _ (SAB.both trivial hk7') (fun hSS => ?_)
  clear hK K hA hB
  have hB := hSS.2
  have hA := hSS.1 (by kernel_rfl)
  (try dsimp only at hB); (try dsimp only at hA); clear hSS
  try simp only [Act.put, List.setIfInBounds_toArray, List.set_cons_zero, List.set_cons_succ]
  refine wpL_takeB (i := 8) (v := ?_) rfl (by kernel_rfl) (by kernel_rfl) (by kernel_rfl) (by decide) (fun _ _ _ h => h) (Or.inl ⟨by rfl, ?_⟩) (SAB.both hA hB) ?_
  rotate_left
  · intro wx hBx
    (try dsimp only at hBx)
    go_simp
    try with_reducible rfl
  try simp only [Act.put, List.setIfInBounds_toArray, List.set_cons_zero, List.set_cons_succ]
  refine wpL_takeB (i := 9) (v := ?_) rfl (by kernel_rfl) (by kernel_rfl) (by kernel_rfl) (by decide) (fun _ _ _ h => h) (Or.inl ⟨by rfl, ?_⟩) (SAB.both hA hB) ?_
  rotate_left
  · intro wx hBx
    (try dsimp only at hBx)
    go_simp
    try with_reducible rfl
  try simp only [Act.put, List.setIfInBounds_toArray, List.set_cons_zero, List.set_cons_succ]
  refine wpL_done (by kernel_rfl) ?_
  have hfin := Keep.trans HKW5.out hk7'
  have HFIN := Lib.hid hfin
  clear hfin
  clear hk6 hk6' hk7 hk7' hA hB
  go_wp2_with fail
  go_ret
  exact ⟨rfl, HFIN.out⟩
end Go.Proofs.YtfleindknalckaaDoor
