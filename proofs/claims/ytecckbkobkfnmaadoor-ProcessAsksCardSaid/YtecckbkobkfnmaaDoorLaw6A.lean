/- The law ProcessAsks: written by gen_law6a.py. -/
import Derived.Test.YtecckbkobkfnmaaDoorGM
import Derived.Test.YtecckbkobkfnmaaDoorGP
import Derived.Test.YtecckbkobkfnmaaDoorAid6
import Derived.Test.YtecckbkobkfnmaaDoorGQ
import Derived.Test.YtecckbkobkfnmaaDoorMkSt2
set_option linter.unusedVariables false
set_option linter.unusedSimpArgs false
set_option maxRecDepth 100000
namespace Go.Proofs.YtecckbkobkfnmaaDoor
open Go.RowKit Go.Proofs


theorem built_two (A1 A2 A3 A4 B1 B2 B3 B4 : Option Addr) (n1 c1 n2 c2 n3 c3 n4 c4 m1 d1 m2 d2 m3 d3 m4 d4 : Nat) : builtS Tryd.prog 27 2 [(0, .agg #[.slice A1 n1 c1, .slice A2 n2 c2, .slice A3 n3 c3, .slice A4 n4 c4]), (1, .agg #[.slice B1 m1 d1, .slice B2 m2 d2, .slice B3 m3 d3, .slice B4 m4 d4])] =
    some #[.slice A1 n1 c1, .slice A2 n2 c2, .slice A3 n3 c3, .slice A4 n4 c4, .slice B1 m1 d1, .slice B2 m2 d2, .slice B3 m3 d3, .slice B4 m4 d4] := by kernel_rfl
theorem built_four (a b c d : Int) : builtS Tryd.prog 3 4 [(0, .int .i64 a), (1, .int .i64 b), (2, .int .i64 c), (3, .int .i64 d)] = some #[.int .i64 a, .int .i64 b, .int .i64 c, .int .i64 d] := by kernel_rfl
def LA1 (B : Nat → Prop) (gc : Nat) (W : World) (ef : Array Value) (i : Value) (wr : World) : Prop := ∃ (j r : Nat), i = .int .i64 j ∧ j ≤ 2 ∧ Cod wr B gc r ∧ Blk wr W.heap.size 27 ef ∧ Only gc W wr
def LA2 (W : World) (i : Value) (wr : World) : Prop := ∃ j : Nat, i = .int .i64 j ∧ j ≤ 4 ∧ Keep W wr
def CA1 (B : Nat → Prop) (gc : Nat) (W : World) (n : Nat) (q : Value) (wx : World) : Prop := ∃ (b : Bool) (r : Nat), q = .bool b ∧ (b = true → 0 < n) ∧ Cod wx B gc r ∧ Only gc W wx
def CA2 (B : Nat → Prop) (gc g : Nat) (W : World) (wx : World) : Prop := ∃ (e : Ev) (r : Nat), Blk wx g 51 (encEv e).toArray ∧ Cod wx B gc r ∧ Same (fun i => i < W.heap.size ∧ i ≠ gc ∧ i ≠ g) W wx
theorem four_at (a b c d : Int) (ha : I64 a) (hb : I64 b) (hc : I64 c) (hd : I64 d) (j : Nat) (h : j < 4) : ∃ m : Int, (#[.int .i64 a, .int .i64 b, .int .i64 c, .int .i64 d] : Array Value)[j]? = some (.int .i64 m) ∧ I64 m := by
  rcases j with _ | _ | _ | _ | j
  · exact ⟨_, rfl, ha⟩
  · exact ⟨_, rfl, hb⟩
  · exact ⟨_, rfl, hc⟩
  · exact ⟨_, rfl, hd⟩
  · omega
/-- An element of the list of the two states. -/
theorem two_at {w : World} {S : Nat → Prop} {E1 E2 E3 E4 F1 F2 F3 F4 : Option Addr} {en1 ec1 en2 ec2 en3 ec3 en4 ec4 fn1 fc1 fn2 fc2 fn3 fc3 fn4 fc4 : Nat} {s t : St} (hs : StR w S [.slice E1 en1 ec1, .slice E2 en2 ec2, .slice E3 en3 ec3, .slice E4 en4 ec4] s) (ht : StR w S [.slice F1 fn1 fc1, .slice F2 fn2 fc2, .slice F3 fn3 fc3, .slice F4 fn4 fc4] t) (a1 : en2 ≤ 80) (a2 : en3 ≤ 80) (b1 : fn2 ≤ 80) (b2 : fn3 ≤ 80) (j : Nat) (hj : j < 2) :
    ∃ (X1 X2 X3 X4 : Option Addr) (xn1 xc1 xn2 xc2 xn3 xc3 xn4 xc4 : Nat) (x : St), (∀ i v, ([.slice X1 xn1 xc1, .slice X2 xn2 xc2, .slice X3 xn3 xc3, .slice X4 xn4 xc4] : List Value)[i]? = some v → (#[.slice E1 en1 ec1, .slice E2 en2 ec2, .slice E3 en3 ec3, .slice E4 en4 ec4, .slice F1 fn1 fc1, .slice F2 fn2 fc2, .slice F3 fn3 fc3, .slice F4 fn4 fc4] : Array Value)[j * 4 + i]? = some v) ∧ StR w S [.slice X1 xn1 xc1, .slice X2 xn2 xc2, .slice X3 xn3 xc3, .slice X4 xn4 xc4] x ∧ xn2 ≤ 80 ∧ xn3 ≤ 80 := by
  rcases j with _ | _ | j
  · refine ⟨E1, E2, E3, E4, en1, ec1, en2, ec2, en3, ec3, en4, ec4, s, fun i v hv => ?_, hs, a1, a2⟩
    rcases i with _ | _ | _ | _ | i
    · exact hv
    · exact hv
    · exact hv
    · exact hv
    · simp at hv
  · refine ⟨F1, F2, F3, F4, fn1, fc1, fn2, fc2, fn3, fc3, fn4, fc4, t, fun i v hv => ?_, ht, b1, b2⟩
    rcases i with _ | _ | _ | _ | i
    · exact hv
    · exact hv
    · exact hv
    · exact hv
    · simp at hv
  · omega
set_option maxHeartbeats 32000000 in
theorem processAsks_walk (w : World) (E1 E2 E3 E4 : Option Addr) (en1 ec1 en2 ec2 en3 ec3 en4 ec4 : Nat) (s : St) (A : Option Addr) (n c : Nat) (zs : List Int) (nn : Int) (hn64 : I64 nn) (hst : StR w (· < w.heap.size) [.slice E1 en1 ec1, .slice E2 en2 ec2, .slice E3 en3 ec3, .slice E4 en4 ec4] s) (hg : Glob w) (hz : Sl encB 1 w (· < w.heap.size) A n c zs) (hz8 : ∀ y ∈ zs, 0 ≤ y ∧ y < 256) :
    Calls Tryd.prog 9 #[.agg #[.slice E1 en1 ec1, .slice E2 en2 ec2, .slice E3 en3 ec3, .slice E4 en4 ec4], .slice A n c, .int .i64 nn] w (AwPost w) := by
  generalize hW : w.alloc (.cells #[.slice E1 en1 ec1, .slice E2 en2 ec2, .slice E3 en3 ec3, .slice E4 en4 ec4] 27) = W
  have hkW : Keep w W := hW ▸ Keep.new w _
  have hbW : Blk W w.heap.size 27 #[.slice E1 en1 ec1, .slice E2 en2 ec2, .slice E3 en3 ec3, .slice E4 en4 ec4] := hW ▸ Blk.new w _ _
  have hzW := hbW.lt
  have hgW := hg.keep hkW
  have hzl := hz.keep hkW
  have HKW := Lib.hid hkW
  have HBW := Lib.hid hbW
  have HGW := Lib.hid hgW
  have HZL := Lib.hid hzl
  have HZ8 := Lib.hid hz8
  have HN64 := Lib.hid hn64
  have HST := Lib.hid hst
  clear hkW hbW hgW hzl hz8 hn64 hst
  clear hg hz
  go_enter Tryd.func9, Tryd.ntmps9
  go_upto_region 1 with fail
  clear hW
  go_wp2_with fail
  refine (awake06_any W).mono ?_
  rintro e w1 ⟨rfl, hk1⟩
  have hz1 := hk1.size
  have bs1 := hk1.blk HBW.out HBW.out.lt
  have e1 : w1.cell? ⟨w.heap.size, 1, none⟩ = some (.slice E2 en2 ec2) := by rw [bs1.cell]; rfl
  have e2 : w1.cell? ⟨w.heap.size, 2, none⟩ = some (.slice E3 en3 ec3) := by rw [bs1.cell]; rfl
  have hkw1 := Keep.trans HKW.out hk1
  have hg1 := HGW.out.keep hk1
  have hzl1 := HZL.out.keep (Same.mono hk1 (fun i hi => by omega))
  have HK1 := Lib.hid hk1
  have BS1 := Lib.hid bs1
  have HKW1 := Lib.hid hkw1
  have HG1 := Lib.hid hg1
  have HZL1 := Lib.hid hzl1
  clear hk1 bs1 hkw1 hg1 hzl1
  by_cases h40 : 40 < en2
  · have t0 : decide ((40 : Int) < en2) = true := by simp; omega
    go_wp2_with fail
    go_ret
    exact ⟨rfl, HKW1.out⟩
  have t0 : decide ((40 : Int) < en2) = false := by simp; omega
  by_cases h41 : 40 < en3
  · have t1 : decide ((40 : Int) < en3) = true := by simp; omega
    go_wp2_with fail
    go_ret
    exact ⟨rfl, HKW1.out⟩
  have t1 : decide ((40 : Int) < en3) = false := by simp; omega
  go_wp2_with fail
  refine (new_any w1 A n c 240 zs (fun i => i < w.heap.size) (fun i hi => by omega) HZL1.out HZ8.out (by omega)).mono ?_
  rintro e w2 ⟨r, hr, rfl, hc2, hk2⟩
  have hz2 := hk2.size
  have hgc := hc2.lt
  have hg2 := HG1.out.keep hk2
  have bs2 := hk2.blk BS1.out BS1.out.lt
  have hkw2 := Keep.trans HKW1.out hk2
  generalize hgce : w1.heap.size = gc at *
  generalize hBB : (fun i => i < w.heap.size ∨ i = gc) = BB at hc2
  have HG2 := Lib.hid hg2
  have HC2 := Lib.hid hc2
  have BS2 := Lib.hid bs2
  have HKW2 := Lib.hid hkw2
  have HBB := Lib.hid hBB
  clear hg2 hc2 bs2 hkw2 hBB
  clear hk2 e1 e2 t0 t1
  go_wp2_with fail
  refine (state_any w2 BB gc r 8 (by omega) HC2.out HG2.out).mono ?_
  rintro e w3 ⟨cs3, t, r3, rfl, hst3', ⟨hl1, hl2, hl3, hl4⟩, hc3, ho3⟩
  obtain ⟨F1, F2, F3, F4, fn1, fc1, fn2, fc2, fn3, fc3, fn4, fc4, rfl, hst3⟩ := st_open hst3'
  have hz3 := ho3.size
  obtain ⟨-, x2, x3, -⟩ := st_sl hst3
  have hf2 : fn2 ≤ 80 := by have := x2.1; omega
  have hf3 : fn3 ≤ 80 := by have := x3.1; omega
  have he2 : en2 ≤ 80 := by omega
  have he3 : en3 ≤ 80 := by omega
  have bs3 := ho3.blk BS2.out ⟨by have := BS2.out.lt; omega, by omega⟩
  have hkw3 : Keep w w3 := Same.trans HKW2.out ho3 (fun i hi => by omega)
  have HST3 := Lib.hid hst3
  have HC3 := Lib.hid hc3
  have BS3 := Lib.hid bs3
  have HKW3 := Lib.hid hkw3
  clear hst3 hc3 bs3 hkw3
  clear hst3' ho3 x2 x3 hl1 hl2 hl3 hl4
  go_upto_region 7 with (refine wpList_store_all rfl _ (.tmp 8) (.tmp 33) rfl w3.heap.size 27 _ [.slice F1 fn1 fc1, .slice F2 fn2 fc2, .slice F3 fn3 fc3, .slice F4 fn4 fc4] rfl rfl (Blk.new _ _ _) rfl (by kernel_rfl) rfl ?_; intro w4 hb4 hs4)
  have hk34 : Keep w3 w4 := Keep.write (Keep.new _ _) hs4 (Nat.le_refl _)
  have hz4 : w3.heap.size < w4.heap.size := hb4.lt
  have hkw4 := Keep.trans HKW3.out hk34
  have bs4 := hk34.blk BS3.out BS3.out.lt
  have hc4 := HC3.out.keep hk34
  have rs4 := (HST.out.keep hkw4).more (T := Bx gc w4) (fun i hi => ⟨by omega, by omega⟩)
  have rt4 := (HST3.out.keep (Same.mono hk34 (fun i hi => hi.2))).more (T := Bx gc w4) (fun i hi => ⟨by have := hi.2; omega, by have := hi.1; omega⟩)
  have hrel0 : LA1 BB gc w4 #[.slice E1 en1 ec1, .slice E2 en2 ec2, .slice E3 en3 ec3, .slice E4 en4 ec4, .slice F1 fn1 fc1, .slice F2 fn2 fc2, .slice F3 fn3 fc3, .slice F4 fn4 fc4] (.int .i64 0) (w4.alloc (.cells #[.slice E1 en1 ec1, .slice E2 en2 ec2, .slice E3 en3 ec3, .slice E4 en4 ec4, .slice F1 fn1 fc1, .slice F2 fn2 fc2, .slice F3 fn3 fc3, .slice F4 fn4 fc4] 27)) := ⟨0, r3, rfl, by omega, hc4.alloc _, Blk.new _ _ _, (Keep.new _ _).only gc⟩
  have HB4 := Lib.hid hb4
  have BS4 := Lib.hid bs4
  have HKW4 := Lib.hid hkw4
  have RS4 := Lib.hid rs4
  have RT4 := Lib.hid rt4
  have HREL0 := Lib.hid hrel0
  clear hb4 bs4 hkw4 rs4 rt4 hrel0
  clear hs4 hk34 hc4
  go_wp2_with (first
    | (refine wpList_load_all rfl _ (.tmp 3) rfl w.heap.size 27 [.slice E1 en1 ec1, .slice E2 en2 ec2, .slice E3 en3 ec3, .slice E4 en4 ec4] _ rfl BS4.out Tryd.underlying27 rfl (by kernel_rfl) ?_)
    | (refine wpList_load_all rfl _ (.tmp 8) rfl w3.heap.size 27 [.slice F1 fn1 fc1, .slice F2 fn2 fc2, .slice F3 fn3 fc3, .slice F4 fn4 fc4] _ rfl HB4.out Tryd.underlying27 rfl (by kernel_rfl) ?_)
    | (refine wpList_buildS rfl 61 27 2 _ rfl Tryd.underlying61 _ [(0, .agg #[.slice E1 en1 ec1, .slice E2 en2 ec2, .slice E3 en3 ec3, .slice E4 en4 ec4]), (1, .agg #[.slice F1 fn1 fc1, .slice F2 fn2 fc2, .slice F3 fn3 fc3, .slice F4 fn4 fc4])] rfl (built_two _ _ _ _ _ _ _ _ _ _ _ _ _ _ _ _ _ _ _ _ _ _ _ _) ?_))
  go_loopw [38] (fun i wr => LA1 BB gc w4 #[.slice E1 en1 ec1, .slice E2 en2 ec2, .slice E3 en3 ec3, .slice E4 en4 ec4, .slice F1 fn1 fc1, .slice F2 fn2 fc2, .slice F3 fn3 fc3, .slice F4 fn4 fc4] i wr) (fun i _ => 2 - (intOf i).toNat)
  case atStart => exact HREL0.out
  case round =>
    clear HREL0
    obtain ⟨j, rj, rfl, hj2, hcr, hbl, hor⟩ := hrel
    have hzr := hor.size
    by_cases hjn : j < 2
    · obtain ⟨wo, rfl⟩ : ∃ wo : World, wo = wr := ⟨_, rfl⟩
      obtain ⟨X1, X2, X3, X4, xn1, xc1, xn2, xc2, xn3, xc3, xn4, xc4, x, hX, hxr, hx2, hx3⟩ := two_at RS4.out RT4.out he2 he3 hf2 hf3 j hjn
      have hd1 : decide ((j : Int) < 2) = true := by simp; omega
      have hd2 : (0 : Int) ≤ j := by omega
      have hd3 : (j : Int) < 2 := by omega
      have hrg : wo.rangeAt w4.heap.size (j * 4) [.slice X1 xn1 xc1, .slice X2 xn2 xc2, .slice X3 xn3 xc3, .slice X4 xn4 xc4] := fun i v hv => by rw [hbl.cell]; exact hX i v hv
      obtain ⟨-, sx2, sx3, -⟩ := st_sl hxr
      have HRG := Lib.hid hrg
      have HCR := Lib.hid hcr
      have HBL := Lib.hid hbl
      have HOR := Lib.hid hor
      have SX2 := Lib.hid sx2
      have SX3 := Lib.hid sx3
      clear hrg hcr hbl hor sx2 sx3
      clear hX hxr
      go_upto_region 10 with (first
        | (refine wpList_load_mid rfl _ (.tmp 40) rfl w4.heap.size (j * 4) rfl [.slice X1 xn1 xc1, .slice X2 xn2 xc2, .slice X3 xn3 xc3, .slice X4 xn4 xc4] _ HRG.out Tryd.underlying27 rfl (by kernel_rfl) ?_)
        | (refine wpList_store_all rfl _ (.tmp 10) (.tmp 41) rfl wo.heap.size 27 _ [.slice X1 xn1 xc1, .slice X2 xn2 xc2, .slice X3 xn3 xc3, .slice X4 xn4 xc4] rfl rfl (Blk.new _ _ _) rfl (by kernel_rfl) rfl ?_; intro w6 hb6 hs6))
      have hk6 : Keep wo w6 := Keep.write (Keep.new _ _) hs6 (Nat.le_refl _)
      have hz6 : wo.heap.size < w6.heap.size := hb6.lt
      have hc6 := HCR.out.keep hk6
      have ho6 := Only.keep HOR.out hk6
      have hbl6 := hk6.blk HBL.out HBL.out.lt
      have ex1 : ∀ wx, Only gc w6 wx → wx.cell? ⟨wo.heap.size, 1, none⟩ = some (.slice X2 xn2 xc2) := fun wx hx => by rw [(hx.blk hb6 ⟨hz6, by omega⟩).cell]; rfl
      have HB6 := Lib.hid hb6
      have HC6 := Lib.hid hc6
      have HO6 := Lib.hid ho6
      have HBL6 := Lib.hid hbl6
      clear hb6 hc6 ho6 hbl6
      clear hs6 hk6
      refine wp_region_L 99 (fun _ => True) (fun wx => Only gc w6 wx) (by kernel_rfl) trivial (Same.drew (Same.refl _ _)) (fun hA hB => ?_)
      have kk0 : Keep w6 w6.drew := Same.drew (Same.refl _ _)
      generalize hu0 : w6.drew = u0 at hB kk0 ⊢
      clear hu0
      refine wpL_takeB (i := 0) (v := ?_) rfl (by kernel_rfl) (by kernel_rfl) (by kernel_rfl) (by decide) (fun _ _ _ h => h) (Or.inl ⟨by rfl, ?_⟩) (SAB.both hA hB) ?_
      rotate_left
      · intro wx hBx
        (try dsimp only at hBx)
        go_simp
        try with_reducible rfl
      try simp only [Act.put, List.setIfInBounds_toArray, List.set_cons_zero, List.set_cons_succ]
      refine wpL_takeB (i := 1) (v := ?_) rfl (by kernel_rfl) (by kernel_rfl) (by kernel_rfl) (by decide) (fun _ _ _ h => h) (Or.inl ⟨by rfl, ?_⟩) (SAB.both hA hB) ?_
      rotate_left
      · intro wx hBx
        (try dsimp only at hBx)
        go_simp
        try with_reducible rfl
      try simp only [Act.put, List.setIfInBounds_toArray, List.set_cons_zero, List.set_cons_succ]
      refine wpL_takeB (i := 4) (v := ?_) rfl (by kernel_rfl) (by kernel_rfl) (by kernel_rfl) (by decide) (fun _ _ _ h => h) (Or.inl ⟨by rfl, ?_⟩) (SAB.both hA hB) ?_
      rotate_left
      · intro wx hBx
        (try dsimp only at hBx)
        go_simp
        try with_reducible rfl
      try simp only [Act.put, List.setIfInBounds_toArray, List.set_cons_zero, List.set_cons_succ]
      refine wpL_takeB (i := 5) (v := ?_) rfl (by kernel_rfl) (by kernel_rfl) (by kernel_rfl) (by decide) (fun _ _ _ h => h) (Or.inl ⟨by rfl, ?_⟩) (SAB.both hA hB) ?_
      rotate_left
      · intro wx hBx
        (try dsimp only at hBx)
        go_simp
        try with_reducible rfl
      try simp only [Act.put, List.setIfInBounds_toArray, List.set_cons_zero, List.set_cons_succ]
      refine wpL_takeB (i := 6) (v := ?_) rfl (by kernel_rfl) (by kernel_rfl) (by kernel_rfl) (by decide) (fun _ _ _ h => h) (Or.inl ⟨by rfl, ?_⟩) (SAB.both hA hB) ?_
      rotate_left
      · intro wx hBx
        (try dsimp only at hBx)
        go_simp
        try with_reducible rfl
      try simp only [Act.put, List.setIfInBounds_toArray, List.set_cons_zero, List.set_cons_succ]
      refine wpL_takeB (i := 9) (v := ?_) rfl (by kernel_rfl) (by kernel_rfl) (by kernel_rfl) (by decide) (fun _ _ _ h => h) (Or.inl ⟨by rfl, ?_⟩) (SAB.both hA hB) ?_
      rotate_left
      · intro wx hBx
        (try dsimp only at hBx)
        go_simp
        try with_reducible rfl
      try simp only [Act.put, List.setIfInBounds_toArray, List.set_cons_zero, List.set_cons_succ]
      clear ex1
      refine wpL_one (i := 2) (by kernel_rfl) (StepL.mk rfl (fun K hK => ?_))
      go_simp
      refine (next_any u0 BB gc rj 10 (HC6.out.keep kk0) (by omega) (by omega)).mono ?_
      rintro e u1 ⟨v1, hv0, hv1, rfl, hc7, ho7⟩
      have ha := Only.trans hB ho7
      refine hK.out _ _ (SAB.both trivial ha) (fun hSS => ?_)
      clear hK K hA hB
      have hB := hSS.2
      have hA := hSS.1 (by kernel_rfl)
      (try dsimp only at hB); (try dsimp only at hA); clear hSS
      try simp only [Act.put, List.setIfInBounds_toArray, List.set_cons_zero, List.set_cons_succ]
      clear ha
      have wq : IntKind.i64.wrap (v1 - 1) = v1 - 1 := IntWalk.i64_in _ (by omega)
      refine wpL_takeB (i := 3) (v := ?_) rfl (by kernel_rfl) (by kernel_rfl) (by kernel_rfl) (by decide) (fun _ _ _ h => h) (Or.inl ⟨by rfl, ?_⟩) (SAB.both hA hB) ?_
      rotate_left
      · intro wx hBx
        (try dsimp only at hBx)
        go_simp
        try with_reducible rfl
      try simp only [Act.put, List.setIfInBounds_toArray, List.set_cons_zero, List.set_cons_succ]
      clear wq
      refine wpL_one (i := 7) (by kernel_rfl) (StepL.mk rfl (fun K hK => ?_))
      refine step_buildS rfl _ _ _ _ rfl Tryd.underlying22 _ [(0, .int .i64 nn), (1, .int .i64 (v1 - 1)), (2, .int .i64 0), (3, .int .i64 xn2)] rfl (built_four _ _ _ _) ?_
      generalize hq8 : u1.alloc (.cells #[.int .i64 nn, .int .i64 (v1 - 1), .int .i64 0, .int .i64 xn2] 3) = w8
      have hb8 : Blk w8 u1.heap.size 3 #[.int .i64 nn, .int .i64 (v1 - 1), .int .i64 0, .int .i64 xn2] := hq8 ▸ Blk.new _ _ _
      have hk8 : Keep u1 w8 := hq8 ▸ Keep.new _ _
      clear hq8
      have hz7 := ho7.size
      have hz0 := kk0.size
      have hz8' := hk8.size
      have ha := Only.keep hB hk8
      refine hK.out _ _ (SAB.both trivial ha) (fun hSS => ?_)
      clear hK K hA hB
      have hB := hSS.2
      have hA := hSS.1 (by kernel_rfl)
      (try dsimp only at hB); (try dsimp only at hA); clear hSS
      try simp only [Act.put, List.setIfInBounds_toArray, List.set_cons_zero, List.set_cons_succ]
      clear ha
      refine wpL_takeB (i := 8) (v := ?_) rfl (by kernel_rfl) (by kernel_rfl) (by kernel_rfl) (by decide) (fun _ _ _ h => h) (Or.inl ⟨by rfl, ?_⟩) (SAB.both hA hB) ?_
      rotate_left
      · intro wx hBx
        (try dsimp only at hBx)
        go_simp
        try with_reducible rfl
      try simp only [Act.put, List.setIfInBounds_toArray, List.set_cons_zero, List.set_cons_succ]
      refine wpL_done (by kernel_rfl) ?_
      have hc8 := hc7.keep hk8
      have hb68 := hB.blk HB6.out ⟨by omega, by omega⟩
      have ho8 := Only.trans HO6.out hB
      have hbl8 := hB.blk HBL6.out ⟨by have := HBL6.out.lt; omega, by omega⟩
      have hrel2 : LA2 w8 (.int .i64 0) w8 := ⟨0, rfl, by omega, Same.refl _ _⟩
      have HC8 := Lib.hid hc8
      have HB68 := Lib.hid hb68
      have HO8 := Lib.hid ho8
      have HBL8 := Lib.hid hbl8
      have HB8 := Lib.hid hb8
      have HREL2 := Lib.hid hrel2
      clear hc8 hb68 ho8 hbl8 hb8 hrel2
      clear hA hB kk0 hc7 ho7 hk8
      go_wp2_with fail
      go_loopw [51] (fun i wr => LA2 w8 i wr) (fun i _ => 4 - (intOf i).toNat)
      case atStart => exact HREL2.out
      case round =>
        clear HREL2
        obtain ⟨j2, rfl, hj4, hkr⟩ := hrel
        have hzr2 := hkr.size
        by_cases hj2n : j2 < 4
        · obtain ⟨m, hm, hm64⟩ := four_at nn (v1 - 1) 0 xn2 HN64.out ⟨by omega, by omega⟩ ⟨by omega, by omega⟩ ⟨by omega, by omega⟩ j2 hj2n
          have hd1 : decide ((j2 : Int) < 4) = true := by simp; omega
          have hd2 : (0 : Int) ≤ j2 := by omega
          have hd3 : (j2 : Int) < 4 := by omega
          have hcm : wr.cell? ⟨u1.heap.size, j2, none⟩ = some (.int .i64 m) := by rw [(hkr.blk HB8.out HB8.out.lt).cell]; exact hm
          have sxe := fun (wx : World) (hx : Keep w8 wx) => SX2.out.keep (Same.mono (Only.keep HO8.out hx) (fun i (hi : Bx gc w4 i) => hi))
          have sxs := fun (wx : World) (hx : Keep w8 wx) => SX3.out.keep (Same.mono (Only.keep HO8.out hx) (fun i (hi : Bx gc w4 i) => hi))
          have hzz := HO8.out.size
          have key1 := plabel_any wr (Bx gc w4) X1 X2 X3 X4 xn1 xc1 xn2 xc2 xn3 xc3 xn4 xc4 x.events m (fun i hi => by have := hi.1; omega) (sxe wr hkr) (by have := SX2.out.1; omega) hm64
          have bx := hkr.blk HB68.out HB68.out.lt
          have KEY1 := Lib.hid key1
          have BX := Lib.hid bx
          have HKR := Lib.hid hkr
          have SXE := Lib.hid sxe
          have SXS := Lib.hid sxs
          have HM64 := Lib.hid hm64
          clear key1 bx hkr sxe sxs hm64
          clear hm
          go_wp2_with (refine wpList_load_all rfl _ (.tmp 10) rfl wo.heap.size 27 [.slice X1 xn1 xc1, .slice X2 xn2 xc2, .slice X3 xn3 xc3, .slice X4 xn4 xc4] _ rfl BX.out Tryd.underlying27 rfl (by kernel_rfl) ?_)
          refine KEY1.out.mono ?_
          rintro e w9 ⟨rfl, hk9⟩
          have hz9 := hk9.size
          have HK9 := Lib.hid hk9
          clear hk9
          clear hcm
          go_upto_region 14 with (refine wpList_store_all rfl _ (.tmp 13) (.tmp 59) rfl w9.heap.size 49 _ [.int .i64 (labInc x.events m), .int .i64 (labIdx x.events m)] rfl rfl (Blk.new _ _ _) rfl (by kernel_rfl) rfl ?_; intro w10 hb10 hs10)
          have hk10 : Keep w9 w10 := Keep.write (Keep.new _ _) hs10 (Nat.le_refl _)
          have hz10 : w9.heap.size < w10.heap.size := hb10.lt
          have kk10 := Keep.trans HKR.out (Keep.trans HK9.out hk10)
          have bx10 := kk10.blk HB68.out HB68.out.lt
          have key2 := rlabel_any w10 (Bx gc w4) X1 X2 X3 X4 xn1 xc1 xn2 xc2 xn3 xc3 xn4 xc4 x.events m (fun i hi => by have := hi.1; omega) (SXE.out w10 kk10) (by have := SX2.out.1; omega) HM64.out
          have KEY2 := Lib.hid key2
          have BX10 := Lib.hid bx10
          have KK10 := Lib.hid kk10
          have HB10 := Lib.hid hb10
          clear key2 bx10 kk10 hb10
          clear hs10 hk10 KEY1
          go_wp2_with (refine wpList_load_all rfl _ (.tmp 10) rfl wo.heap.size 27 [.slice X1 xn1 xc1, .slice X2 xn2 xc2, .slice X3 xn3 xc3, .slice X4 xn4 xc4] _ rfl BX10.out Tryd.underlying27 rfl (by kernel_rfl) ?_)
          refine KEY2.out.mono ?_
          rintro e w11 ⟨rfl, hk11⟩
          have hz11 := hk11.size
          have HK11 := Lib.hid hk11
          clear hk11
          go_upto_region 15 with (refine wpList_store_all rfl _ (.tmp 15) (.tmp 65) rfl w11.heap.size 49 _ [.int .i64 (labInc x.events m), .int .i64 (labIdx x.events m)] rfl rfl (Blk.new _ _ _) rfl (by kernel_rfl) rfl ?_; intro w12 hb12 hs12)
          have hk12 : Keep w11 w12 := Keep.write (Keep.new _ _) hs12 (Nat.le_refl _)
          have hz12 : w11.heap.size < w12.heap.size := hb12.lt
          have bl13 := hk12.blk (HK11.out.blk HB10.out HB10.out.lt) (by omega)
          have kk12 := Keep.trans KK10.out (Keep.trans HK11.out hk12)
          have bx12 := kk12.blk HB68.out HB68.out.lt
          have BL13 := Lib.hid bl13
          have KK12 := Lib.hid kk12
          have BX12 := Lib.hid bx12
          have HB12 := Lib.hid hb12
          clear bl13 kk12 bx12 hb12
          clear hs12 hk12 KEY2
          generalize labInc x.events m = la at *
          generalize labIdx x.events m = lb at *
          generalize labOk x.events m = lo at *
          refine wp_region_L 99 (fun _ => True) (fun wx => Keep w12 wx) (by kernel_rfl) trivial (Same.drew (Same.refl _ _)) (fun hA hB => ?_)
          generalize hu0 : w12.drew = z0 at hB ⊢
          clear hu0
          refine wpL_takeB (i := 0) rfl (by kernel_rfl) (by kernel_rfl) (by kernel_rfl) (by decide) (fun _ _ _ h => h) (yieldsIf_blk (by rfl) _ _ rfl w9.heap.size 0 49 _ [.int .i64 la, .int .i64 lb] _ rfl (fun wx hx => hx.blk BL13.out BL13.out.lt) (fun j u hu => by simpa using hu) Tryd.underlying49 rfl (by kernel_rfl)) (SAB.both hA hB) ?_
          try simp only [Act.put, List.setIfInBounds_toArray, List.set_cons_zero, List.set_cons_succ]
          refine wpL_takeB (i := 1) rfl (by kernel_rfl) (by kernel_rfl) (by kernel_rfl) (by decide) (fun _ _ _ h => h) (yieldsIf_blk (by rfl) _ _ rfl w11.heap.size 0 49 _ [.int .i64 la, .int .i64 lb] _ rfl (fun wx hx => hx.blk HB12.out HB12.out.lt) (fun j u hu => by simpa using hu) Tryd.underlying49 rfl (by kernel_rfl)) (SAB.both hA hB) ?_
          try simp only [Act.put, List.setIfInBounds_toArray, List.set_cons_zero, List.set_cons_succ]
          refine wpL_takeB (i := 2) rfl (by kernel_rfl) (by kernel_rfl) (by kernel_rfl) (by decide) (fun _ _ _ h => h) (yieldsIf_of (by rfl) (.bool false) (fun wx _ => by go_simp)) (SAB.both hA hB) ?_
          try simp only [Act.put, List.setIfInBounds_toArray, List.set_cons_zero, List.set_cons_succ]
          refine wpL_takeB (i := 3) (v := ?_) rfl (by kernel_rfl) (by kernel_rfl) (by kernel_rfl) (by decide) (fun _ _ _ h => h) (Or.inl ⟨by rfl, ?_⟩) (SAB.both hA hB) ?_
          rotate_left
          · intro wx hBx
            (try dsimp only at hBx)
            go_simp
            try with_reducible rfl
          try simp only [Act.put, List.setIfInBounds_toArray, List.set_cons_zero, List.set_cons_succ]
          refine wpL_takeB (i := 4) (v := ?_) rfl (by kernel_rfl) (by kernel_rfl) (by kernel_rfl) (by decide) (fun _ _ _ h => h) (Or.inl ⟨by rfl, ?_⟩) (SAB.both hA hB) ?_
          rotate_left
          · intro wx hBx
            (try dsimp only at hBx)
            go_simp
            try with_reducible rfl
          try simp only [Act.put, List.setIfInBounds_toArray, List.set_cons_zero, List.set_cons_succ]
          refine wpL_takeB (i := 5) (v := ?_) rfl (by kernel_rfl) (by kernel_rfl) (by kernel_rfl) (by decide) (fun _ _ _ h => h) (Or.inl ⟨by rfl, ?_⟩) (SAB.both hA hB) ?_
          rotate_left
          · intro wx hBx
            (try dsimp only at hBx)
            go_simp
            try with_reducible rfl
          try simp only [Act.put, List.setIfInBounds_toArray, List.set_cons_zero, List.set_cons_succ]
          refine wpL_takeB (i := 6) rfl (by kernel_rfl) (by kernel_rfl) (by kernel_rfl) (by decide) (fun _ _ _ h => h) (yieldsIf_of (by rfl) (.bool false) (fun wx _ => by go_simp)) (SAB.both hA hB) ?_
          try simp only [Act.put, List.setIfInBounds_toArray, List.set_cons_zero, List.set_cons_succ]
          refine wpL_takeB (i := 7) (v := ?_) rfl (by kernel_rfl) (by kernel_rfl) (by kernel_rfl) (by decide) (fun _ _ _ h => h) (Or.inl ⟨by rfl, ?_⟩) (SAB.both hA hB) ?_
          rotate_left
          · intro wx hBx
            (try dsimp only at hBx)
            go_simp
            try with_reducible rfl
          try simp only [Act.put, List.setIfInBounds_toArray, List.set_cons_zero, List.set_cons_succ]
          refine wpL_takeB (i := 8) (v := ?_) rfl (by kernel_rfl) (by kernel_rfl) (by kernel_rfl) (by decide) (fun _ _ _ h => h) (Or.inl ⟨by rfl, ?_⟩) (SAB.both hA hB) ?_
          rotate_left
          · intro wx hBx
            (try dsimp only at hBx)
            go_simp
            try with_reducible rfl
          try simp only [Act.put, List.setIfInBounds_toArray, List.set_cons_zero, List.set_cons_succ]
          refine wpL_takeB (i := 9) rfl (by kernel_rfl) (by kernel_rfl) (by kernel_rfl) (by decide) (fun _ _ _ h => h) (yieldsIf_blk (by rfl) _ _ rfl wo.heap.size 0 27 _ [.slice X1 xn1 xc1, .slice X2 xn2 xc2, .slice X3 xn3 xc3, .slice X4 xn4 xc4] _ rfl (fun wx hx => hx.blk BX12.out BX12.out.lt) (fun j u hu => by simpa using hu) Tryd.underlying27 rfl (by kernel_rfl)) (SAB.both hA hB) ?_
          try simp only [Act.put, List.setIfInBounds_toArray, List.set_cons_zero, List.set_cons_succ]
          refine wpL_takeB (i := 10) (v := ?_) rfl (by kernel_rfl) (by kernel_rfl) (by kernel_rfl) (by decide) (fun _ _ _ h => h) (Or.inl ⟨by rfl, ?_⟩) (SAB.both hA hB) ?_
          rotate_left
          · intro wx hBx
            (try dsimp only at hBx)
            go_simp
            try with_reducible rfl
          try simp only [Act.put, List.setIfInBounds_toArray, List.set_cons_zero, List.set_cons_succ]
          refine wpL_takeB (i := 12) rfl (by kernel_rfl) (by kernel_rfl) (by kernel_rfl) (by decide) (fun _ _ _ h => h) (yieldsIf_blk (by rfl) _ _ rfl wo.heap.size 0 27 _ [.slice X1 xn1 xc1, .slice X2 xn2 xc2, .slice X3 xn3 xc3, .slice X4 xn4 xc4] _ rfl (fun wx hx => hx.blk BX12.out BX12.out.lt) (fun j u hu => by simpa using hu) Tryd.underlying27 rfl (by kernel_rfl)) (SAB.both hA hB) ?_
          try simp only [Act.put, List.setIfInBounds_toArray, List.set_cons_zero, List.set_cons_succ]
          refine wpL_takeB (i := 13) (v := ?_) rfl (by kernel_rfl) (by kernel_rfl) (by kernel_rfl) (by decide) (fun _ _ _ h => h) (Or.inl ⟨by rfl, ?_⟩) (SAB.both hA hB) ?_
          rotate_left
          · intro wx hBx
            (try dsimp only at hBx)
            go_simp
            try with_reducible rfl
          try simp only [Act.put, List.setIfInBounds_toArray, List.set_cons_zero, List.set_cons_succ]
          refine wpL_one (i := 11) (by kernel_rfl) (StepL.mk rfl (fun K hK => ?_))
          go_simp
          have hzA := hB.size
          refine (psends_any z0 (Bx gc w4) X1 X2 X3 X4 xn1 xc1 xn2 xc2 xn3 xc3 xn4 xc4 x.sent m (fun i hi => by have := hi.1; omega) (SXS.out z0 (Keep.trans KK12.out hB)) (by have := SX3.out.1; omega)).mono ?_
          rintro e z1 ⟨Y1, y1, yc1, rfl, hy1, hky1⟩
          have ha := Keep.trans hB hky1
          have hzy1 := hky1.size
          refine hK.out _ _ (SAB.both trivial ha) (fun hSS => ?_)
          clear hK K hA hB
          have hB := hSS.2
          have hA := hSS.1 (by kernel_rfl)
          (try dsimp only at hB); (try dsimp only at hA); clear hSS
          try simp only [Act.put, List.setIfInBounds_toArray, List.set_cons_zero, List.set_cons_succ]
          clear ha
          refine wpL_one (i := 14) (by kernel_rfl) (StepL.mk rfl (fun K hK => ?_))
          go_simp
          refine (rsends_any z1 (Bx gc w4) X1 X2 X3 X4 xn1 xc1 xn2 xc2 xn3 xc3 xn4 xc4 x.sent m (fun i hi => by have := hi.1; omega) (SXS.out z1 (Keep.trans KK12.out hB)) (by have := SX3.out.1; omega)).mono ?_
          rintro e z2 ⟨Y2, y2, yc2, rfl, hy2, hky2⟩
          have ha := Keep.trans hB hky2
          have hsl := List.length_filter_le (fun y : Snd => y.idx == m) x.sent
          have hxl : x.sent.length ≤ 80 := by have := SX3.out.1; omega
          have hy1' := hy1.keep (Same.mono hky2 (fun i hi => hi.2))
          refine hK.out _ _ (SAB.both trivial ha) (fun hSS => ?_)
          clear hK K hA hB
          have hB := hSS.2
          have hA := hSS.1 (by kernel_rfl)
          (try dsimp only at hB); (try dsimp only at hA); clear hSS
          try simp only [Act.put, List.setIfInBounds_toArray, List.set_cons_zero, List.set_cons_succ]
          clear ha
          refine wpL_one (i := 15) (by kernel_rfl) (StepL.mk rfl (fun K hK => ?_))
          go_simp
          refine (sameSends_is z2 _ _ Y1 Y2 y1 y2 yc1 yc2 _ _ hy1' hy2 (by have := hy1.1; unfold sendsAt at this; omega) (by have := hy2.1; unfold sendsAt at this; omega)).mono ?_
          rintro e z3 ⟨b3, hb3, rfl, k3, hw3⟩
          obtain rfl : b3 = true := hb3.2 (by simp)
          have ha : Keep w12 z3 := Keep.trans hB (hw3 ▸ Keep.draws z2 k3)
          clear hw3 hb3
          refine hK.out _ _ (SAB.both trivial ha) (fun hSS => ?_)
          clear hK K hA hB
          have hB := hSS.2
          have hA := hSS.1 (by kernel_rfl)
          (try dsimp only at hB); (try dsimp only at hA); clear hSS
          try simp only [Act.put, List.setIfInBounds_toArray, List.set_cons_zero, List.set_cons_succ]
          clear ha
          refine wpL_takeB (i := 16) (v := ?_) rfl (by kernel_rfl) (by kernel_rfl) (by kernel_rfl) (by decide) (fun _ _ _ h => h) (Or.inl ⟨by rfl, ?_⟩) (SAB.both hA hB) ?_
          rotate_left
          · intro wx hBx
            (try dsimp only at hBx)
            go_simp
            try with_reducible rfl
          try simp only [Act.put, List.setIfInBounds_toArray, List.set_cons_zero, List.set_cons_succ]
          refine wpL_takeB (i := 17) (v := ?_) rfl (by kernel_rfl) (by kernel_rfl) (by kernel_rfl) (by decide) (fun _ _ _ h => h) (Or.inl ⟨by rfl, ?_⟩) (SAB.both hA hB) ?_
          rotate_left
          · intro wx hBx
            (try dsimp only at hBx)
            go_simp
            try with_reducible rfl
          try simp only [Act.put, List.setIfInBounds_toArray, List.set_cons_zero, List.set_cons_succ]
          refine wpL_done (by kernel_rfl) ?_
          have hfin : LA2 w8 (.int .i64 (j2 + 1)) z3 := ⟨j2 + 1, by simp, by omega, Keep.trans KK12.out hB⟩
          have HFIN := Lib.hid hfin
          clear hfin
          clear hA hB hy1 hy2 hy1' hky1 hky2 hsl hxl
          go_wp2_with fail
          go_roundw
          case rel => first | exact HFIN.out | ((repeat refine Exists.intro _ ?_); exact ⟨HFIN.out, rfl⟩)
          case measure => simp [intOf]; omega
        · have hd1 : decide ((j2 : Int) < 4) = false := by simp; omega
          have hcx := HC8.out.keep hkr
          have hox := Only.keep HO8.out hkr
          have bxx := hkr.blk HB68.out HB68.out.lt
          have blx := hkr.blk HBL8.out HBL8.out.lt
          have HCX := Lib.hid hcx
          have HOX := Lib.hid hox
          have BXX := Lib.hid bxx
          have BLX := Lib.hid blx
          clear hcx hox bxx blx
          clear hkr
          go_wp2_with fail
          refine (event_any wr BB gc _ HCX.out).mono ?_
          rintro e w13 ⟨e0, rfl, ⟨r13, -, hc13⟩, ho13⟩
          have hz13 := ho13.size
          have HC13 := Lib.hid hc13
          have HO13 := Lib.hid ho13
          clear hc13 ho13
          go_upto_region 19 with (refine wpList_store_all rfl _ (.tmp 17) (.tmp 87) rfl w13.heap.size 51 _ [.int .i64 e0.kind, .int .i64 e0.inc, .int .i64 e0.frm, .int .i64 e0.sInc, .int .i64 e0.sIdx, .int .i64 e0.ord, .int .i64 e0.val] rfl rfl (Blk.new _ _ _) rfl (by kernel_rfl) rfl ?_; intro w14 hb14 hs14)
          have hk14 : Keep w13 w14 := Keep.write (Keep.new _ _) hs14 (Nat.le_refl _)
          have hz14 : w13.heap.size < w14.heap.size := hb14.lt
          have ho14 := Only.keep HO13.out hk14
          have hlx := BXX.out.lt
          have hll := BLX.out.lt
          have hc14 := HC13.out.keep hk14
          have bx14 := ho14.blk BXX.out ⟨hlx, by omega⟩
          have bl14 := ho14.blk BLX.out ⟨hll, by omega⟩
          have oo14 := Only.trans HOX.out ho14
          have e1 : w14.cell? ⟨wo.heap.size, 1, none⟩ = some (.slice X2 xn2 xc2) := by rw [bx14.cell]; rfl
          have HC14 := Lib.hid hc14
          have BX14 := Lib.hid bx14
          have BL14 := Lib.hid bl14
          have OO14 := Lib.hid oo14
          have HB14 := Lib.hid hb14
          clear hc14 bx14 bl14 oo14 hb14
          clear hs14 hk14 ho14
          try simp only [Act.put, List.setIfInBounds_toArray, List.set_cons_zero, List.set_cons_succ]
          go_cut [96] from 88 to 96 (fun q wx => CA1 BB gc w14 xn2 q wx)
          case first =>
            by_cases h0 : 0 < xn2
            · have t0 : decide (0 < xn2) = true := by simpa using h0
              go_wp2_with fail
              refine (next_any w14 BB gc r13 2 HC14.out (by omega) (by omega)).mono ?_
              rintro e w15 ⟨v15, hv50, hv51, rfl, hc15, ho15⟩
              have hfin : ∀ b, CA1 BB gc w14 xn2 (.bool b) w15 := fun b => ⟨b, _, rfl, fun _ => h0, hc15, ho15⟩
              have HFIN := Lib.hid hfin
              clear hfin
              clear hc15 ho15 e1
              by_cases h15 : v15 = 1
              · have t1 : (v15 == 1) = true := by simpa using h15
                clear h15
                go_wp2_with fail
                go_meet
                exact HFIN.out _
              · have t1 : (v15 == 1) = false := by simpa using h15
                clear h15
                go_wp2_with fail
                go_meet
                exact HFIN.out _
            · have t0 : decide (0 < xn2) = false := by simpa using h0
              have hfin : CA1 BB gc w14 xn2 (.bool false) w14 := ⟨false, _, rfl, fun h => (by cases h), HC14.out, Same.refl _ _⟩
              have HFIN := Lib.hid hfin
              clear hfin
              go_wp2_with fail
              go_meet
              exact HFIN.out
          case rest =>
            obtain ⟨b, r16, rfl, hb0, hc16, ho16⟩ := hcut
            obtain ⟨wd, rfl⟩ : ∃ wd : World, wd = wc := ⟨_, rfl⟩
            have hzd := ho16.size
            have hlx4 := BX14.out.lt
            have hll4 := BL14.out.lt
            have bxd := ho16.blk BX14.out ⟨hlx4, by omega⟩
            have bld := ho16.blk BL14.out ⟨hll4, by omega⟩
            have bed := ho16.blk HB14.out ⟨HB14.out.lt, by omega⟩
            have ood := Only.trans OO14.out ho16
            have HC16 := Lib.hid hc16
            have BXD := Lib.hid bxd
            have BLD := Lib.hid bld
            have BED := Lib.hid bed
            have OOD := Lib.hid ood
            have HB0 := Lib.hid hb0
            clear hc16 bxd bld bed ood hb0
            clear ho16 e1
            go_upto_if 96 with fail
            go_cut [] from 97 to 105 (fun wx => CA2 BB gc w13.heap.size wd wx)
            case first =>
              cases b with
              | false =>
                have hfin : CA2 BB gc w13.heap.size wd wd := ⟨e0, r16, BED.out, HC16.out, Same.refl _ _⟩
                have HFIN := Lib.hid hfin
                clear hfin
                go_wp2_with fail
                go_meet
                exact HFIN.out
              | true =>
                have h0 := HB0.out rfl
                have e1 : ∀ wx, Only gc wd wx → wx.cell? ⟨wo.heap.size, 1, none⟩ = some (.slice X2 xn2 xc2) := fun wx hx => by rw [(hx.blk BXD.out ⟨BXD.out.lt, by omega⟩).cell]; rfl
                go_upto_region 20 with fail
                refine wp_region_L 9 (fun wx => Only gc wd wx) (fun _ => True) (by kernel_rfl) (Same.drew (Same.refl _ _)) trivial (fun hA hB => ?_)
                have kk0 : Keep wd wd.drew := Same.drew (Same.refl _ _)
                generalize hu0 : wd.drew = z0 at hA kk0 ⊢
                clear hu0
                refine wpL_takeA (i := 0) (v := ?_) rfl (by kernel_rfl) (by kernel_rfl) (by kernel_rfl) (by kernel_rfl) (by decide) (fun _ _ _ h => h) (Or.inl ⟨by rfl, ?_⟩) hA hB ?_
                rotate_left
                · rintro wx ⟨hAx, hBx⟩
                  (try dsimp only at hBx); (try dsimp only at hAx)
                  go_simp
                  try with_reducible rfl
                try simp only [Act.put, List.setIfInBounds_toArray, List.set_cons_zero, List.set_cons_succ]
                refine wpL_takeA (i := 1) (v := ?_) rfl (by kernel_rfl) (by kernel_rfl) (by kernel_rfl) (by kernel_rfl) (by decide) (fun _ _ _ h => h) (Or.inl ⟨by rfl, ?_⟩) hA hB ?_
                rotate_left
                · rintro wx ⟨hAx, hBx⟩
                  (try dsimp only at hBx); (try dsimp only at hAx)
                  go_simp
                  try with_reducible rfl
                try simp only [Act.put, List.setIfInBounds_toArray, List.set_cons_zero, List.set_cons_succ]
                refine wpL_takeA (i := 2) (v := ?_) rfl (by kernel_rfl) (by kernel_rfl) (by kernel_rfl) (by kernel_rfl) (by decide) (fun _ _ _ h => h) (Or.inl ⟨by rfl, ?_⟩) hA hB ?_
                rotate_left
                · rintro wx ⟨hAx, hBx⟩
                  (try dsimp only at hBx); (try dsimp only at hAx)
                  go_simp
                  try with_reducible rfl
                try simp only [Act.put, List.setIfInBounds_toArray, List.set_cons_zero, List.set_cons_succ]
                refine wpL_takeA (i := 3) (v := ?_) rfl (by kernel_rfl) (by kernel_rfl) (by kernel_rfl) (by kernel_rfl) (by decide) (fun _ _ _ h => h) (Or.inl ⟨by rfl, ?_⟩) hA hB ?_
                rotate_left
                · rintro wx ⟨hAx, hBx⟩
                  (try dsimp only at hBx); (try dsimp only at hAx)
                  go_simp
                  try with_reducible rfl
                try simp only [Act.put, List.setIfInBounds_toArray, List.set_cons_zero, List.set_cons_succ]
                refine wpL_takeA (i := 4) (v := ?_) rfl (by kernel_rfl) (by kernel_rfl) (by kernel_rfl) (by kernel_rfl) (by decide) (fun _ _ _ h => h) (Or.inl ⟨by rfl, ?_⟩) hA hB ?_
                rotate_left
                · rintro wx ⟨hAx, hBx⟩
                  (try dsimp only at hBx); (try dsimp only at hAx)
                  go_simp
                  try with_reducible rfl
                try simp only [Act.put, List.setIfInBounds_toArray, List.set_cons_zero, List.set_cons_succ]
                refine wpL_takeA (i := 5) (v := ?_) rfl (by kernel_rfl) (by kernel_rfl) (by kernel_rfl) (by kernel_rfl) (by decide) (fun _ _ _ h => h) (Or.inl ⟨by rfl, ?_⟩) hA hB ?_
                rotate_left
                · rintro wx ⟨hAx, hBx⟩
                  (try dsimp only at hBx); (try dsimp only at hAx)
                  go_simp
                  try with_reducible rfl
                try simp only [Act.put, List.setIfInBounds_toArray, List.set_cons_zero, List.set_cons_succ]
                clear e1
                refine wpL_one (i := 6) (by kernel_rfl) (StepL.mk rfl (fun K hK => ?_))
                go_simp
                refine (next_any z0 BB gc r16 xn2 (HC16.out.keep kk0) (by omega) (by omega)).mono ?_
                rintro e z1 ⟨v6, hv60, hv61, rfl, hc17, ho17⟩
                obtain ⟨vn, rfl⟩ : ∃ vn : Nat, v6 = vn := ⟨v6.toNat, by omega⟩
                have ha := Only.trans hA ho17
                refine hK.out _ _ (SAB.both ha trivial) (fun hSS => ?_)
                clear hK K hA hB
                have hB := hSS.2
                have hA := hSS.1 (by kernel_rfl)
                (try dsimp only at hB); (try dsimp only at hA); clear hSS
                try simp only [Act.put, List.setIfInBounds_toArray, List.set_cons_zero, List.set_cons_succ]
                clear ha
                have hvn : vn < xn2 := by omega
                obtain ⟨b', off', y, hX2, hbb, hy, hcy⟩ := SX2.out.at_ encEv_len hvn
                subst hX2
                have hooo := OOD.out
                have hcy2 : ∀ wx, Only gc wd wx → wx.rangeAt b' (off' + vn * 7) [.int .i64 y.kind, .int .i64 y.inc, .int .i64 y.frm, .int .i64 y.sInc, .int .i64 y.sIdx, .int .i64 y.ord, .int .i64 y.val] := fun wx hx i u hu => ((Only.trans hooo hx).cell (p := ⟨b', off' + vn * 7 + i, none⟩) hbb).trans (hcy i u hu)
                clear hooo hcy
                have HCY2 := Lib.hid hcy2
                clear hcy2
                refine wpL_takeA (i := 7) (v := ?_) rfl (by kernel_rfl) (by kernel_rfl) (by kernel_rfl) (by kernel_rfl) (by decide) (fun _ _ _ h => h) (Or.inl ⟨by rfl, ?_⟩) hA hB ?_
                rotate_left
                · rintro wx ⟨hAx, hBx⟩
                  (try dsimp only at hBx); (try dsimp only at hAx)
                  go_simp
                  try with_reducible rfl
                try simp only [Act.put, List.setIfInBounds_toArray, List.set_cons_zero, List.set_cons_succ]
                refine wpL_takeA (i := 8) rfl (by kernel_rfl) (by kernel_rfl) (by kernel_rfl) (by kernel_rfl) (by decide) (fun _ _ _ h => h) (yieldsIf_load_mid (by rfl) _ _ rfl b' (off' + vn * 7) rfl [.int .i64 y.kind, .int .i64 y.inc, .int .i64 y.frm, .int .i64 y.sInc, .int .i64 y.sIdx, .int .i64 y.ord, .int .i64 y.val] _ (fun wx hx => HCY2.out wx hx.1) Tryd.underlying51 rfl (by kernel_rfl)) hA hB ?_
                try simp only [Act.put, List.setIfInBounds_toArray, List.set_cons_zero, List.set_cons_succ]
                refine wpL_one (i := 9) (by kernel_rfl) (StepL.mk rfl (fun K hK => ?_))
                refine step_store_blk rfl _ _ _ rfl w13.heap.size 0 51 _ [.int .i64 y.kind, .int .i64 y.inc, .int .i64 y.frm, .int .i64 y.sInc, .int .i64 y.sIdx, .int .i64 y.ord, .int .i64 y.val] rfl rfl (hA.blk BED.out ⟨BED.out.lt, by omega⟩) (by simp [encEv]) (by kernel_rfl) rfl ?_
                intro z2 hb2 hs2
                rw [splice_all [.int .i64 y.kind, .int .i64 y.inc, .int .i64 y.frm, .int .i64 y.sInc, .int .i64 y.sIdx, .int .i64 y.ord, .int .i64 y.val] #[.int .i64 e0.kind, .int .i64 e0.inc, .int .i64 e0.frm, .int .i64 e0.sInc, .int .i64 e0.sIdx, .int .i64 e0.ord, .int .i64 e0.val] rfl] at hb2
                have hfin : CA2 BB gc w13.heap.size wd z2 := ⟨y, _, hb2, hc17.write hs2 (fun h => by rw [← HBB.out] at h; rcases h with h | h <;> omega), Same.trans (hA.mono (fun i (hi : i < wd.heap.size ∧ i ≠ gc ∧ i ≠ w13.heap.size) => ⟨hi.1, hi.2.1⟩)) hs2 (fun i hi => hi.2.2)⟩
                refine hK.out _ _ (SAB.past (by kernel_rfl) trivial) (fun hSS => ?_)
                clear hK K hA hB
                have hB := hSS.2
                have hA : True := trivial
                (try dsimp only at hB); (try dsimp only at hA); clear hSS
                try simp only [Act.put, List.setIfInBounds_toArray, List.set_cons_zero, List.set_cons_succ]
                refine wpL_done (by kernel_rfl) ?_
                have HFIN := Lib.hid hfin
                clear hfin
                clear hb2 hs2 hA hB hc17 ho17 kk0
                go_wp2_with fail
                go_meet
                exact HFIN.out
            case rest =>
              obtain ⟨ev, r18, bev, hc18, ho18⟩ := hcut
              have hz18 := ho18.size
              have bx18 := ho18.blk BXD.out ⟨BXD.out.lt, by omega, by omega⟩
              have bl18 := ho18.blk BLD.out ⟨BLD.out.lt, by omega, by omega⟩
              have oo18 : Only gc w4 wc := Same.trans OOD.out ho18 (fun i hi => ⟨by have := OOD.out.size; omega, hi.2, by omega⟩)
              have hzo := oo18.size
              have kr := fun (wx : World) (hx : Keep wc wx) => SX2.out.keep (Same.mono (Only.keep oo18 hx) (fun i (hi : Bx gc w4 i) => hi))
              have f2 : ∀ wx, Keep wc wx → wx.cell? ⟨w13.heap.size, 2, none⟩ = some (.int .i64 ev.frm) := fun wx hx => by rw [(hx.blk bev bev.lt).cell]; rfl
              have f5 : ∀ wx, Keep wc wx → wx.cell? ⟨w13.heap.size, 5, none⟩ = some (.int .i64 ev.ord) := fun wx hx => by rw [(hx.blk bev bev.lt).cell]; rfl
              have hfin : ∀ wx, Keep wc wx → LA1 BB gc w4 #[.slice E1 en1 ec1, .slice E2 en2 ec2, .slice E3 en3 ec3, .slice E4 en4 ec4, .slice F1 fn1 fc1, .slice F2 fn2 fc2, .slice F3 fn3 fc3, .slice F4 fn4 fc4] (.int .i64 (j + 1)) wx := fun wx hx => ⟨j + 1, r18, by simp, by omega, hc18.keep hx, hx.blk bl18 bl18.lt, Only.keep oo18 hx⟩
              have BX18 := Lib.hid bx18
              have KR := Lib.hid kr
              have BEV := Lib.hid bev
              have HFIN := Lib.hid hfin
              clear bx18 kr bev hfin
              clear bl18 oo18 ho18 hc18
              go_upto_region 21 with fail
              refine wp_region_L 99 (fun _ => True) (fun wx => Keep wc wx) (by kernel_rfl) trivial (Same.drew (Same.refl _ _)) (fun hA hB => ?_)
              generalize hu0 : wc.drew = z0 at hB ⊢
              clear hu0
              refine wpL_takeB (i := 0) rfl (by kernel_rfl) (by kernel_rfl) (by kernel_rfl) (by decide) (fun _ _ _ h => h) (yieldsIf_blk (by rfl) _ _ rfl wo.heap.size 0 27 _ [.slice X1 xn1 xc1, .slice X2 xn2 xc2, .slice X3 xn3 xc3, .slice X4 xn4 xc4] _ rfl (fun wx hx => hx.blk BX18.out BX18.out.lt) (fun j u hu => by simpa using hu) Tryd.underlying27 rfl (by kernel_rfl)) (SAB.both hA hB) ?_
              try simp only [Act.put, List.setIfInBounds_toArray, List.set_cons_zero, List.set_cons_succ]
              refine wpL_takeB (i := 1) (v := ?_) rfl (by kernel_rfl) (by kernel_rfl) (by kernel_rfl) (by decide) (fun _ _ _ h => h) (Or.inl ⟨by rfl, ?_⟩) (SAB.both hA hB) ?_
              rotate_left
              · intro wx hBx
                (try dsimp only at hBx)
                go_simp
                try with_reducible rfl
              try simp only [Act.put, List.setIfInBounds_toArray, List.set_cons_zero, List.set_cons_succ]
              refine wpL_takeB (i := 2) (v := ?_) rfl (by kernel_rfl) (by kernel_rfl) (by kernel_rfl) (by decide) (fun _ _ _ h => h) (Or.inl ⟨by rfl, ?_⟩) (SAB.both hA hB) ?_
              rotate_left
              · intro wx hBx
                (try dsimp only at hBx)
                go_simp
                try with_reducible rfl
              try simp only [Act.put, List.setIfInBounds_toArray, List.set_cons_zero, List.set_cons_succ]
              refine wpL_takeB (i := 3) (v := ?_) rfl (by kernel_rfl) (by kernel_rfl) (by kernel_rfl) (by decide) (fun _ _ _ h => h) (Or.inl ⟨by rfl, ?_⟩) (SAB.both hA hB) ?_
              rotate_left
              · intro wx hBx
                (try dsimp only at hBx)
                go_simp
                try with_reducible rfl
              try simp only [Act.put, List.setIfInBounds_toArray, List.set_cons_zero, List.set_cons_succ]
              refine wpL_takeB (i := 4) rfl (by kernel_rfl) (by kernel_rfl) (by kernel_rfl) (by decide) (fun _ _ _ h => h) (yieldsIf_blk (by rfl) _ _ rfl w13.heap.size 3 51 _ [.int .i64 ev.sInc, .int .i64 ev.sIdx] _ rfl (fun wx hx => hx.blk BEV.out BEV.out.lt) (lab_cells ev.kind ev.inc ev.frm ev.sInc ev.sIdx ev.ord ev.val) Tryd.underlying49 rfl (by kernel_rfl)) (SAB.both hA hB) ?_
              try simp only [Act.put, List.setIfInBounds_toArray, List.set_cons_zero, List.set_cons_succ]
              refine wpL_takeB (i := 5) (v := ?_) rfl (by kernel_rfl) (by kernel_rfl) (by kernel_rfl) (by decide) (fun _ _ _ h => h) (Or.inl ⟨by rfl, ?_⟩) (SAB.both hA hB) ?_
              rotate_left
              · intro wx hBx
                (try dsimp only at hBx)
                go_simp
                try with_reducible rfl
              try simp only [Act.put, List.setIfInBounds_toArray, List.set_cons_zero, List.set_cons_succ]
              refine wpL_takeB (i := 6) (v := ?_) rfl (by kernel_rfl) (by kernel_rfl) (by kernel_rfl) (by decide) (fun _ _ _ h => h) (Or.inl ⟨by rfl, ?_⟩) (SAB.both hA hB) ?_
              rotate_left
              · intro wx hBx
                (try dsimp only at hBx)
                go_simp
                try with_reducible rfl
              try simp only [Act.put, List.setIfInBounds_toArray, List.set_cons_zero, List.set_cons_succ]
              refine wpL_takeB (i := 8) rfl (by kernel_rfl) (by kernel_rfl) (by kernel_rfl) (by decide) (fun _ _ _ h => h) (yieldsIf_blk (by rfl) _ _ rfl wo.heap.size 0 27 _ [.slice X1 xn1 xc1, .slice X2 xn2 xc2, .slice X3 xn3 xc3, .slice X4 xn4 xc4] _ rfl (fun wx hx => hx.blk BX18.out BX18.out.lt) (fun j u hu => by simpa using hu) Tryd.underlying27 rfl (by kernel_rfl)) (SAB.both hA hB) ?_
              try simp only [Act.put, List.setIfInBounds_toArray, List.set_cons_zero, List.set_cons_succ]
              refine wpL_takeB (i := 9) (v := ?_) rfl (by kernel_rfl) (by kernel_rfl) (by kernel_rfl) (by decide) (fun _ _ _ h => h) (Or.inl ⟨by rfl, ?_⟩) (SAB.both hA hB) ?_
              rotate_left
              · intro wx hBx
                (try dsimp only at hBx)
                go_simp
                try with_reducible rfl
              try simp only [Act.put, List.setIfInBounds_toArray, List.set_cons_zero, List.set_cons_succ]
              refine wpL_takeB (i := 10) (v := ?_) rfl (by kernel_rfl) (by kernel_rfl) (by kernel_rfl) (by decide) (fun _ _ _ h => h) (Or.inl ⟨by rfl, ?_⟩) (SAB.both hA hB) ?_
              rotate_left
              · intro wx hBx
                (try dsimp only at hBx)
                go_simp
                try with_reducible rfl
              try simp only [Act.put, List.setIfInBounds_toArray, List.set_cons_zero, List.set_cons_succ]
              refine wpL_takeB (i := 11) (v := ?_) rfl (by kernel_rfl) (by kernel_rfl) (by kernel_rfl) (by decide) (fun _ _ _ h => h) (Or.inl ⟨by rfl, ?_⟩) (SAB.both hA hB) ?_
              rotate_left
              · intro wx hBx
                (try dsimp only at hBx)
                go_simp
                try with_reducible rfl
              try simp only [Act.put, List.setIfInBounds_toArray, List.set_cons_zero, List.set_cons_succ]
              refine wpL_takeB (i := 12) rfl (by kernel_rfl) (by kernel_rfl) (by kernel_rfl) (by decide) (fun _ _ _ h => h) (yieldsIf_blk (by rfl) _ _ rfl w13.heap.size 3 51 _ [.int .i64 ev.sInc, .int .i64 ev.sIdx] _ rfl (fun wx hx => hx.blk BEV.out BEV.out.lt) (lab_cells ev.kind ev.inc ev.frm ev.sInc ev.sIdx ev.ord ev.val) Tryd.underlying49 rfl (by kernel_rfl)) (SAB.both hA hB) ?_
              try simp only [Act.put, List.setIfInBounds_toArray, List.set_cons_zero, List.set_cons_succ]
              refine wpL_takeB (i := 13) (v := ?_) rfl (by kernel_rfl) (by kernel_rfl) (by kernel_rfl) (by decide) (fun _ _ _ h => h) (Or.inl ⟨by rfl, ?_⟩) (SAB.both hA hB) ?_
              rotate_left
              · intro wx hBx
                (try dsimp only at hBx)
                go_simp
                try with_reducible rfl
              try simp only [Act.put, List.setIfInBounds_toArray, List.set_cons_zero, List.set_cons_succ]
              refine wpL_takeB (i := 14) (v := ?_) rfl (by kernel_rfl) (by kernel_rfl) (by kernel_rfl) (by decide) (fun _ _ _ h => h) (Or.inl ⟨by rfl, ?_⟩) (SAB.both hA hB) ?_
              rotate_left
              · intro wx hBx
                (try dsimp only at hBx)
                go_simp
                try with_reducible rfl
              try simp only [Act.put, List.setIfInBounds_toArray, List.set_cons_zero, List.set_cons_succ]
              clear f2 f5
              refine wpL_one (i := 7) (by kernel_rfl) (StepL.mk rfl (fun K hK => ?_))
              go_simp
              have hzB := hB.size
              refine (preceived_any z0 (Bx gc w4) X1 X2 X3 X4 xn1 xc1 xn2 xc2 xn3 xc3 xn4 xc4 x.events ev.frm ev.sInc ev.sIdx ev.ord (fun i hi => by have := hi.1; omega) (KR.out z0 hB) (by have := SX2.out.1; omega)).mono ?_
              rintro e z1 ⟨rfl, hk1⟩
              have ha := Keep.trans hB hk1
              have hzk1 := hk1.size
              refine hK.out _ _ (SAB.both trivial ha) (fun hSS => ?_)
              clear hK K hA hB
              have hB := hSS.2
              have hA := hSS.1 (by kernel_rfl)
              (try dsimp only at hB); (try dsimp only at hA); clear hSS
              try simp only [Act.put, List.setIfInBounds_toArray, List.set_cons_zero, List.set_cons_succ]
              clear ha
              refine wpL_one (i := 15) (by kernel_rfl) (StepL.mk rfl (fun K hK => ?_))
              go_simp
              refine (rreceived_any z1 (Bx gc w4) X1 X2 X3 X4 xn1 xc1 xn2 xc2 xn3 xc3 xn4 xc4 x.events ev.frm ev.sInc ev.sIdx ev.ord (fun i hi => by have := hi.1; omega) (KR.out z1 hB) (by have := SX2.out.1; omega)).mono ?_
              rintro e z2 ⟨rfl, hk2⟩
              have ha := Keep.trans hB hk2
              refine hK.out _ _ (SAB.both trivial ha) (fun hSS => ?_)
              clear hK K hA hB
              have hB := hSS.2
              have hA := hSS.1 (by kernel_rfl)
              (try dsimp only at hB); (try dsimp only at hA); clear hSS
              try simp only [Act.put, List.setIfInBounds_toArray, List.set_cons_zero, List.set_cons_succ]
              clear ha
              generalize recvS x.events ev.frm ev.sInc ev.sIdx ev.ord = rv
              refine wpL_takeB (i := 16) rfl (by kernel_rfl) (by kernel_rfl) (by kernel_rfl) (by decide) (fun _ _ _ h => h) (yieldsIf_of (by rfl) (.bool false) (fun wx _ => by go_simp)) (SAB.both hA hB) ?_
              try simp only [Act.put, List.setIfInBounds_toArray, List.set_cons_zero, List.set_cons_succ]
              refine wpL_done (by kernel_rfl) ?_
              have hfin := HFIN.out z2 hB
              have HFIN := Lib.hid hfin
              clear hfin
              clear hA hB hk1 hk2
              go_wp2_with fail
              go_roundw
              case rel => first | exact HFIN.out | ((repeat refine Exists.intro _ ?_); exact ⟨HFIN.out, rfl⟩)
              case measure => simp [intOf]; omega
    · have hd1 : decide ((j : Int) < 2) = false := by simp; omega
      have hfin : AwPost w (.returned (.bool true)) wr := ⟨rfl, Same.trans HKW4.out hor (fun i hi => ⟨by omega, by omega⟩)⟩
      have HFIN := Lib.hid hfin
      clear hfin
      clear hcr hbl hor
      go_wp2_with fail
      go_ret
      exact HFIN.out
end Go.Proofs.YtecckbkobkfnmaaDoor
