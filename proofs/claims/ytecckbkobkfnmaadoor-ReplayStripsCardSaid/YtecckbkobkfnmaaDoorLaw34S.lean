/- The law ReplayStrips: written by gen_law34s.py. -/
import Derived.Test.YtecckbkobkfnmaaDoorGM
import Derived.Test.YtecckbkobkfnmaaDoorGP
import Derived.Test.YtecckbkobkfnmaaDoorGS
import Derived.Test.YtecckbkobkfnmaaDoorG34
import Derived.Test.YtecckbkobkfnmaaDoorGQ
set_option linter.unusedVariables false
set_option linter.unusedSimpArgs false
set_option maxRecDepth 100000
namespace Go.Proofs.YtecckbkobkfnmaaDoor
open Go.RowKit Go.Proofs


theorem strip_twice (s : St) : stripS (stripS s) = stripS s := by
  unfold stripS
  simp only [List.map_map]
  rfl
theorem strip_fine {s : St} (h : Fine s) : Fine (stripS s) := ⟨h.1, by simp [stripS]; exact h.2.1, h.2.2.1, h.2.2.2⟩
set_option maxHeartbeats 32000000 in
theorem replayStrips_walk (w : World) (E1 E2 E3 E4 : Option Addr) (en1 ec1 en2 ec2 en3 ec3 en4 ec4 : Nat) (s : St) (A : Option Addr) (n c : Nat) (zs : List Int) (hst : StR w (· < w.heap.size) [.slice E1 en1 ec1, .slice E2 en2 ec2, .slice E3 en3 ec3, .slice E4 en4 ec4] s) (hr1 : en1 ≤ 17592186044416) (hr3 : en3 ≤ 17592186044416) (hr4 : en4 ≤ 17592186044416) (hg : Glob w) (hz : Sl encB 1 w (· < w.heap.size) A n c zs) (hz8 : ∀ y ∈ zs, 0 ≤ y ∧ y < 256) :
    Calls Tryd.prog 3 #[.agg #[.slice E1 en1 ec1, .slice E2 en2 ec2, .slice E3 en3 ec3, .slice E4 en4 ec4], .slice A n c] w (Aw34Post w) := by
  generalize hW : w.alloc (.cells #[.slice E1 en1 ec1, .slice E2 en2 ec2, .slice E3 en3 ec3, .slice E4 en4 ec4] 27) = W
  have hkW : Keep w W := hW ▸ Keep.new w _
  have hbW : Blk W w.heap.size 27 #[.slice E1 en1 ec1, .slice E2 en2 ec2, .slice E3 en3 ec3, .slice E4 en4 ec4] := hW ▸ Blk.new w _ _
  have hzW := hbW.lt
  have hgW := hg.keep hkW
  have hzl := hz.keep hkW
  have HKW := Lib.hid hkW
  have HBW := Lib.hid hbW
  have HGW := Lib.hid hgW
  have HZL := Lib.hid hzl
  have HZ8 := Lib.hid hz8
  have HST := Lib.hid hst
  clear hkW hbW hgW hzl hz8 hst
  clear hg hz
  go_enter Tryd.func3, Tryd.ntmps3
  go_upto_region 1 with fail
  clear hW
  go_wp2_with fail
  refine (awake34_any W).mono ?_
  rintro e w1 ⟨rfl, hk1⟩
  have hz1 := hk1.size
  have bs1 := hk1.blk HBW.out HBW.out.lt
  have e0 : w1.cell? ⟨w.heap.size, 0, none⟩ = some (.slice E1 en1 ec1) := by rw [bs1.cell]; rfl
  have e1 : w1.cell? ⟨w.heap.size, 1, none⟩ = some (.slice E2 en2 ec2) := by rw [bs1.cell]; rfl
  have e2 : w1.cell? ⟨w.heap.size, 2, none⟩ = some (.slice E3 en3 ec3) := by rw [bs1.cell]; rfl
  have e3 : w1.cell? ⟨w.heap.size, 3, none⟩ = some (.slice E4 en4 ec4) := by rw [bs1.cell]; rfl
  have hkw1 := Keep.trans HKW.out hk1
  have hg1 := HGW.out.keep hk1
  have hzl1 := HZL.out.keep (Same.mono hk1 (fun i hi => by omega))
  have HK1 := Lib.hid hk1
  have BS1 := Lib.hid bs1
  have HKW1 := Lib.hid hkw1
  have HG1 := Lib.hid hg1
  have HZL1 := Lib.hid hzl1
  clear hk1 bs1 hkw1 hg1 hzl1
  by_cases h60 : 60 < en2
  · have t0 : decide ((60 : Int) < en2) = true := by simp; omega
    go_wp2_with fail
    go_ret
    exact ⟨rfl, HKW1.out⟩
  have t0 : decide ((60 : Int) < en2) = false := by simp; omega
  by_cases h200 : 200 < en1 + en3 + en4
  · have t1 : decide ((200 : Int) < (en1 : Int) + en3 + en4) = true := by simp; omega
    go_wp2_with fail
    go_ret
    exact ⟨rfl, HKW1.out⟩
  have t1 : decide ((200 : Int) < (en1 : Int) + en3 + en4) = false := by simp; omega
  go_wp2_with fail
  refine (new_any w1 A n c 250 zs (fun i => i < w.heap.size) (fun i hi => by omega) HZL1.out HZ8.out (by omega)).mono ?_
  rintro e w2 ⟨r, hr, rfl, hc2, hk2⟩
  have hz2 := hk2.size
  have hgc := hc2.lt
  have hg2 := HG1.out.keep hk2
  have bs2 := hk2.blk BS1.out BS1.out.lt
  have hkw2 := Keep.trans HKW1.out hk2
  generalize hgce : w1.heap.size = gc at *
  have HG2 := Lib.hid hg2
  have HC2 := Lib.hid hc2
  have BS2 := Lib.hid bs2
  have HKW2 := Lib.hid hkw2
  clear hg2 hc2 bs2 hkw2
  clear hk2 e0 e1 e2 e3 t0 t1
  go_wp2_with fail
  refine (state_any w2 _ gc r 8 (by omega) HC2.out HG2.out).mono ?_
  rintro e w3 ⟨cs3, t, r3, rfl, hst3', ⟨hl1, hl2, hl3, hl4⟩, -, ho3⟩
  obtain ⟨F1, F2, F3, F4, fn1, fc1, fn2, fc2, fn3, fc3, fn4, fc4, rfl, hst3⟩ := st_open hst3'
  have hz3 := ho3.size
  have bs3 := ho3.blk BS2.out ⟨by have := BS2.out.lt; omega, by omega⟩
  have hkw3 : Keep w w3 := Same.trans HKW2.out ho3 (fun i hi => by omega)
  have hft : Fine t := ⟨by omega, by omega, by omega, by omega⟩
  have HST3 := Lib.hid hst3
  have BS3 := Lib.hid bs3
  have HKW3 := Lib.hid hkw3
  have HFT := Lib.hid hft
  clear hst3 bs3 hkw3 hft
  clear hst3' ho3 hl1 hl2 hl3 hl4
  go_upto_region 4 with (refine wpList_store_all rfl _ (.tmp 5) (.tmp 48) rfl w3.heap.size 27 _ [.slice F1 fn1 fc1, .slice F2 fn2 fc2, .slice F3 fn3 fc3, .slice F4 fn4 fc4] rfl rfl (Blk.new _ _ _) rfl (by kernel_rfl) rfl ?_; intro w4 hb4 hs4)
  have hk34 : Keep w3 w4 := Keep.write (Keep.new _ _) hs4 (Nat.le_refl _)
  have hz4 : w3.heap.size < w4.heap.size := hb4.lt
  have hkw4 := Keep.trans HKW3.out hk34
  have bs4 := hk34.blk BS3.out BS3.out.lt
  have rs4 := (HST.out.keep hkw4).more (T := fun i => i < w4.heap.size) (fun i hi => by omega)
  have rt4 := (HST3.out.keep (Same.mono hk34 (fun i hi => hi.2))).more (T := fun i => i < w4.heap.size) (fun i hi => by have := hi.2; omega)
  obtain ⟨l1, l2, l3, l4⟩ := st_sl rs4
  have hfs : Fine s := ⟨by have := l1.1; omega, by have := l2.1; omega, by have := l3.1; omega, by have := l4.1; omega⟩
  have HB4 := Lib.hid hb4
  have BS4 := Lib.hid bs4
  have HKW4 := Lib.hid hkw4
  have RS4 := Lib.hid rs4
  have RT4 := Lib.hid rt4
  have HFS := Lib.hid hfs
  clear hb4 bs4 hkw4 rs4 rt4 hfs
  clear hs4 hk34 l1 l2 l3 l4
  refine wp_region_L 99 (fun _ => True) (fun wx => Keep w4 wx) (by kernel_rfl) trivial (Same.drew (Same.refl _ _)) (fun hA hB => ?_)
  generalize hu0 : w4.drew = u0 at hB ⊢
  clear hu0
  have z0 := hB.size
  refine wpL_takeB (i := 0) rfl (by kernel_rfl) (by kernel_rfl) (by kernel_rfl) (by decide) (fun _ _ _ h => h) (yieldsIf_blk (by rfl) _ _ rfl w.heap.size 0 27 _ [.slice E1 en1 ec1, .slice E2 en2 ec2, .slice E3 en3 ec3, .slice E4 en4 ec4] _ rfl (fun wx hx => hx.blk BS4.out BS4.out.lt) (fun j u hu => by simpa using hu) Tryd.underlying27 rfl (by kernel_rfl)) (SAB.both hA hB) ?_
  try simp only [Act.put, List.setIfInBounds_toArray, List.set_cons_zero, List.set_cons_succ]
  refine wpL_takeB (i := 2) rfl (by kernel_rfl) (by kernel_rfl) (by kernel_rfl) (by decide) (fun _ _ _ h => h) (yieldsIf_blk (by rfl) _ _ rfl w.heap.size 0 27 _ [.slice E1 en1 ec1, .slice E2 en2 ec2, .slice E3 en3 ec3, .slice E4 en4 ec4] _ rfl (fun wx hx => hx.blk BS4.out BS4.out.lt) (fun j u hu => by simpa using hu) Tryd.underlying27 rfl (by kernel_rfl)) (SAB.both hA hB) ?_
  try simp only [Act.put, List.setIfInBounds_toArray, List.set_cons_zero, List.set_cons_succ]
  refine wpL_one (i := 1) (by kernel_rfl) (StepL.mk rfl (fun K hK => ?_))
  go_simp
  refine (pstrip_any u0 (fun i => i < u0.heap.size) [.slice E1 en1 ec1, .slice E2 en2 ec2, .slice E3 en3 ec3, .slice E4 en4 ec4] s (fun i hi => hi) ((RS4.out.keep hB).more (fun i hi => by have : i < w4.heap.size := hi; show i < u0.heap.size; omega)) (by have := HFS.out.2.1; omega)).mono ?_
  rintro e u1 ⟨cs1, rfl, hr1', hk1⟩
  obtain ⟨X1, X2, X3, X4, xn1, xc1, xn2, xc2, xn3, xc3, xn4, xc4, rfl, hr1⟩ := st_open hr1'
  have z1 := hk1.size
  have fX := hr1.more (T := fun i => i < u1.heap.size) (Sn.lt (fun i hi => hi) z1)
  have ha := Keep.trans hB hk1
  clear hr1' hr1
  refine hK.out _ _ (SAB.both trivial ha) (fun hSS => ?_)
  clear hK K hA hB
  have hB := hSS.2
  have hA := hSS.1 (by kernel_rfl)
  (try dsimp only at hB); (try dsimp only at hA); clear hSS
  try simp only [Act.put, List.setIfInBounds_toArray, List.set_cons_zero, List.set_cons_succ]
  clear ha
  refine wpL_one (i := 3) (by kernel_rfl) (StepL.mk rfl (fun K hK => ?_))
  go_simp
  refine (rstrip_any u1 (fun i => i < u1.heap.size) [.slice E1 en1 ec1, .slice E2 en2 ec2, .slice E3 en3 ec3, .slice E4 en4 ec4] s (fun i hi => hi) ((RS4.out.keep hB).more (fun i hi => by have : i < w4.heap.size := hi; show i < u1.heap.size; omega)) (by have := HFS.out.2.1; omega)).mono ?_
  rintro e u2 ⟨cs2, rfl, hr2', hk2⟩
  obtain ⟨Y1, Y2, Y3, Y4, yn1, yc1, yn2, yc2, yn3, yc3, yn4, yc4, rfl, hr2⟩ := st_open hr2'
  have z2 := hk2.size
  have fY := hr2.more (T := fun i => i < u2.heap.size) (Sn.lt (fun i hi => hi) z2)
  have ha := Keep.trans hB hk2
  clear hr2' hr2
  have fX' := (fX.keep (Same.mono hk2 (fun i hi => hi))).more (T := fun i => i < u2.heap.size) (fun i hi => Nat.lt_of_lt_of_le hi z2)
  clear fX
  have fX := fX'
  clear fX'
  refine hK.out _ _ (SAB.both trivial ha) (fun hSS => ?_)
  clear hK K hA hB
  have hB := hSS.2
  have hA := hSS.1 (by kernel_rfl)
  (try dsimp only at hB); (try dsimp only at hA); clear hSS
  try simp only [Act.put, List.setIfInBounds_toArray, List.set_cons_zero, List.set_cons_succ]
  clear ha
  refine wpL_one (i := 4) (by kernel_rfl) (StepL.mk rfl (fun K hK => ?_))
  go_simp
  refine (rsame_any u2 (fun i => i < u2.heap.size) [.slice X1 xn1 xc1, .slice X2 xn2 xc2, .slice X3 xn3 xc3, .slice X4 xn4 xc4] [.slice Y1 yn1 yc1, .slice Y2 yn2 yc2, .slice Y3 yn3 yc3, .slice Y4 yn4 yc4] (stripS s) (stripS s) (fun i hi => hi) fX fY (strip_fine HFS.out) (strip_fine HFS.out)).mono ?_
  rintro e u3 ⟨b3, hb3, rfl, hk3⟩
  obtain rfl : b3 = true := hb3.2 (by simp)
  have z3 := hk3.size
  have ha := Keep.trans hB hk3
  clear hb3
  refine hK.out _ _ (SAB.both trivial ha) (fun hSS => ?_)
  clear hK K hA hB
  have hB := hSS.2
  have hA := hSS.1 (by kernel_rfl)
  (try dsimp only at hB); (try dsimp only at hA); clear hSS
  try simp only [Act.put, List.setIfInBounds_toArray, List.set_cons_zero, List.set_cons_succ]
  clear ha
  clear fX fY
  refine wpL_takeB (i := 5) (v := ?_) rfl (by kernel_rfl) (by kernel_rfl) (by kernel_rfl) (by decide) (fun _ _ _ h => h) (Or.inl ⟨by rfl, ?_⟩) (SAB.both hA hB) ?_
  rotate_left
  · intro wx hBx
    (try dsimp only at hBx)
    go_simp
    try with_reducible rfl
  try simp only [Act.put, List.setIfInBounds_toArray, List.set_cons_zero, List.set_cons_succ]
  refine wpL_takeB (i := 6) rfl (by kernel_rfl) (by kernel_rfl) (by kernel_rfl) (by decide) (fun _ _ _ h => h) (yieldsIf_blk (by rfl) _ _ rfl w3.heap.size 0 27 _ [.slice F1 fn1 fc1, .slice F2 fn2 fc2, .slice F3 fn3 fc3, .slice F4 fn4 fc4] _ rfl (fun wx hx => hx.blk HB4.out HB4.out.lt) (fun j u hu => by simpa using hu) Tryd.underlying27 rfl (by kernel_rfl)) (SAB.both hA hB) ?_
  try simp only [Act.put, List.setIfInBounds_toArray, List.set_cons_zero, List.set_cons_succ]
  refine wpL_takeB (i := 8) rfl (by kernel_rfl) (by kernel_rfl) (by kernel_rfl) (by decide) (fun _ _ _ h => h) (yieldsIf_blk (by rfl) _ _ rfl w3.heap.size 0 27 _ [.slice F1 fn1 fc1, .slice F2 fn2 fc2, .slice F3 fn3 fc3, .slice F4 fn4 fc4] _ rfl (fun wx hx => hx.blk HB4.out HB4.out.lt) (fun j u hu => by simpa using hu) Tryd.underlying27 rfl (by kernel_rfl)) (SAB.both hA hB) ?_
  try simp only [Act.put, List.setIfInBounds_toArray, List.set_cons_zero, List.set_cons_succ]
  refine wpL_one (i := 7) (by kernel_rfl) (StepL.mk rfl (fun K hK => ?_))
  go_simp
  refine (pstrip_any u3 (fun i => i < u3.heap.size) [.slice F1 fn1 fc1, .slice F2 fn2 fc2, .slice F3 fn3 fc3, .slice F4 fn4 fc4] t (fun i hi => hi) ((RT4.out.keep hB).more (fun i hi => by have : i < w4.heap.size := hi; show i < u3.heap.size; omega)) (by have := HFT.out.2.1; omega)).mono ?_
  rintro e u4 ⟨cs4, rfl, hr4', hk4⟩
  obtain ⟨Z1, Z2, Z3, Z4, zn1, zc1, zn2, zc2, zn3, zc3, zn4, zc4, rfl, hr4⟩ := st_open hr4'
  have z4 := hk4.size
  have fZ := hr4.more (T := fun i => i < u4.heap.size) (Sn.lt (fun i hi => hi) z4)
  have ha := Keep.trans hB hk4
  clear hr4' hr4
  refine hK.out _ _ (SAB.both trivial ha) (fun hSS => ?_)
  clear hK K hA hB
  have hB := hSS.2
  have hA := hSS.1 (by kernel_rfl)
  (try dsimp only at hB); (try dsimp only at hA); clear hSS
  try simp only [Act.put, List.setIfInBounds_toArray, List.set_cons_zero, List.set_cons_succ]
  clear ha
  refine wpL_one (i := 9) (by kernel_rfl) (StepL.mk rfl (fun K hK => ?_))
  go_simp
  refine (rstrip_any u4 (fun i => i < u4.heap.size) [.slice F1 fn1 fc1, .slice F2 fn2 fc2, .slice F3 fn3 fc3, .slice F4 fn4 fc4] t (fun i hi => hi) ((RT4.out.keep hB).more (fun i hi => by have : i < w4.heap.size := hi; show i < u4.heap.size; omega)) (by have := HFT.out.2.1; omega)).mono ?_
  rintro e u5 ⟨cs5, rfl, hr5', hk5⟩
  obtain ⟨U1, U2, U3, U4, un1, uc1, un2, uc2, un3, uc3, un4, uc4, rfl, hr5⟩ := st_open hr5'
  have z5 := hk5.size
  have fU := hr5.more (T := fun i => i < u5.heap.size) (Sn.lt (fun i hi => hi) z5)
  have ha := Keep.trans hB hk5
  clear hr5' hr5
  have fZ' := (fZ.keep (Same.mono hk5 (fun i hi => hi))).more (T := fun i => i < u5.heap.size) (fun i hi => Nat.lt_of_lt_of_le hi z5)
  clear fZ
  have fZ := fZ'
  clear fZ'
  refine hK.out _ _ (SAB.both trivial ha) (fun hSS => ?_)
  clear hK K hA hB
  have hB := hSS.2
  have hA := hSS.1 (by kernel_rfl)
  (try dsimp only at hB); (try dsimp only at hA); clear hSS
  try simp only [Act.put, List.setIfInBounds_toArray, List.set_cons_zero, List.set_cons_succ]
  clear ha
  refine wpL_one (i := 10) (by kernel_rfl) (StepL.mk rfl (fun K hK => ?_))
  go_simp
  refine (rsame_any u5 (fun i => i < u5.heap.size) [.slice Z1 zn1 zc1, .slice Z2 zn2 zc2, .slice Z3 zn3 zc3, .slice Z4 zn4 zc4] [.slice U1 un1 uc1, .slice U2 un2 uc2, .slice U3 un3 uc3, .slice U4 un4 uc4] (stripS t) (stripS t) (fun i hi => hi) fZ fU (strip_fine HFT.out) (strip_fine HFT.out)).mono ?_
  rintro e u6 ⟨b6, hb6, rfl, hk6⟩
  obtain rfl : b6 = true := hb6.2 (by simp)
  have z6 := hk6.size
  have ha := Keep.trans hB hk6
  clear hb6
  refine hK.out _ _ (SAB.both trivial ha) (fun hSS => ?_)
  clear hK K hA hB
  have hB := hSS.2
  have hA := hSS.1 (by kernel_rfl)
  (try dsimp only at hB); (try dsimp only at hA); clear hSS
  try simp only [Act.put, List.setIfInBounds_toArray, List.set_cons_zero, List.set_cons_succ]
  clear ha
  clear fZ fU
  refine wpL_takeB (i := 11) (v := ?_) rfl (by kernel_rfl) (by kernel_rfl) (by kernel_rfl) (by decide) (fun _ _ _ h => h) (Or.inl ⟨by rfl, ?_⟩) (SAB.both hA hB) ?_
  rotate_left
  · intro wx hBx
    (try dsimp only at hBx)
    go_simp
    try with_reducible rfl
  try simp only [Act.put, List.setIfInBounds_toArray, List.set_cons_zero, List.set_cons_succ]
  refine wpL_takeB (i := 12) (v := ?_) rfl (by kernel_rfl) (by kernel_rfl) (by kernel_rfl) (by decide) (fun _ _ _ h => h) (Or.inl ⟨by rfl, ?_⟩) (SAB.both hA hB) ?_
  rotate_left
  · intro wx hBx
    (try dsimp only at hBx)
    go_simp
    try with_reducible rfl
  try simp only [Act.put, List.setIfInBounds_toArray, List.set_cons_zero, List.set_cons_succ]
  refine wpL_takeB (i := 13) rfl (by kernel_rfl) (by kernel_rfl) (by kernel_rfl) (by decide) (fun _ _ _ h => h) (yieldsIf_blk (by rfl) _ _ rfl w3.heap.size 0 27 _ [.slice F1 fn1 fc1, .slice F2 fn2 fc2, .slice F3 fn3 fc3, .slice F4 fn4 fc4] _ rfl (fun wx hx => hx.blk HB4.out HB4.out.lt) (fun j u hu => by simpa using hu) Tryd.underlying27 rfl (by kernel_rfl)) (SAB.both hA hB) ?_
  try simp only [Act.put, List.setIfInBounds_toArray, List.set_cons_zero, List.set_cons_succ]
  refine wpL_takeB (i := 16) rfl (by kernel_rfl) (by kernel_rfl) (by kernel_rfl) (by decide) (fun _ _ _ h => h) (yieldsIf_blk (by rfl) _ _ rfl w3.heap.size 0 27 _ [.slice F1 fn1 fc1, .slice F2 fn2 fc2, .slice F3 fn3 fc3, .slice F4 fn4 fc4] _ rfl (fun wx hx => hx.blk HB4.out HB4.out.lt) (fun j u hu => by simpa using hu) Tryd.underlying27 rfl (by kernel_rfl)) (SAB.both hA hB) ?_
  try simp only [Act.put, List.setIfInBounds_toArray, List.set_cons_zero, List.set_cons_succ]
  refine wpL_one (i := 14) (by kernel_rfl) (StepL.mk rfl (fun K hK => ?_))
  go_simp
  refine (pstrip_any u6 (fun i => i < u6.heap.size) [.slice F1 fn1 fc1, .slice F2 fn2 fc2, .slice F3 fn3 fc3, .slice F4 fn4 fc4] t (fun i hi => hi) ((RT4.out.keep hB).more (fun i hi => by have : i < w4.heap.size := hi; show i < u6.heap.size; omega)) (by have := HFT.out.2.1; omega)).mono ?_
  rintro e u7 ⟨cs7, rfl, hr7', hk7⟩
  obtain ⟨P1, P2, P3, P4, pn1, pc1, pn2, pc2, pn3, pc3, pn4, pc4, rfl, hr7⟩ := st_open hr7'
  have z7 := hk7.size
  have fP := hr7.more (T := fun i => i < u7.heap.size) (Sn.lt (fun i hi => hi) z7)
  have ha := Keep.trans hB hk7
  clear hr7' hr7
  refine hK.out _ _ (SAB.both trivial ha) (fun hSS => ?_)
  clear hK K hA hB
  have hB := hSS.2
  have hA := hSS.1 (by kernel_rfl)
  (try dsimp only at hB); (try dsimp only at hA); clear hSS
  try simp only [Act.put, List.setIfInBounds_toArray, List.set_cons_zero, List.set_cons_succ]
  clear ha
  refine wpL_one (i := 15) (by kernel_rfl) (StepL.mk rfl (fun K hK => ?_))
  go_simp
  refine (pstrip_any u7 (fun i => i < u7.heap.size) [.slice P1 pn1 pc1, .slice P2 pn2 pc2, .slice P3 pn3 pc3, .slice P4 pn4 pc4] (stripS t) (fun i hi => hi) (fP) (by have := HFT.out.2.1; simp [stripS]; omega)).mono ?_
  rintro e u8 ⟨cs8, rfl, hr8', hk8⟩
  obtain ⟨Q1, Q2, Q3, Q4, qn1, qc1, qn2, qc2, qn3, qc3, qn4, qc4, rfl, hr8⟩ := st_open hr8'
  have z8 := hk8.size
  have fQ := hr8.more (T := fun i => i < u8.heap.size) (Sn.lt (fun i hi => hi) z8)
  have ha := Keep.trans hB hk8
  clear hr8' hr8
  refine hK.out _ _ (SAB.both trivial ha) (fun hSS => ?_)
  clear hK K hA hB
  have hB := hSS.2
  have hA := hSS.1 (by kernel_rfl)
  (try dsimp only at hB); (try dsimp only at hA); clear hSS
  try simp only [Act.put, List.setIfInBounds_toArray, List.set_cons_zero, List.set_cons_succ]
  clear ha
  refine wpL_one (i := 17) (by kernel_rfl) (StepL.mk rfl (fun K hK => ?_))
  go_simp
  refine (pstrip_any u8 (fun i => i < u8.heap.size) [.slice F1 fn1 fc1, .slice F2 fn2 fc2, .slice F3 fn3 fc3, .slice F4 fn4 fc4] t (fun i hi => hi) ((RT4.out.keep hB).more (fun i hi => by have : i < w4.heap.size := hi; show i < u8.heap.size; omega)) (by have := HFT.out.2.1; omega)).mono ?_
  rintro e u9 ⟨cs9, rfl, hr9', hk9⟩
  obtain ⟨R1, R2, R3, R4, rn1, rc1, rn2, rc2, rn3, rc3, rn4, rc4, rfl, hr9⟩ := st_open hr9'
  have z9 := hk9.size
  have fR := hr9.more (T := fun i => i < u9.heap.size) (Sn.lt (fun i hi => hi) z9)
  have ha := Keep.trans hB hk9
  clear hr9' hr9
  have fQ' := (fQ.keep (Same.mono hk9 (fun i hi => hi))).more (T := fun i => i < u9.heap.size) (fun i hi => Nat.lt_of_lt_of_le hi z9)
  clear fQ
  have fQ := fQ'
  clear fQ'
  refine hK.out _ _ (SAB.both trivial ha) (fun hSS => ?_)
  clear hK K hA hB
  have hB := hSS.2
  have hA := hSS.1 (by kernel_rfl)
  (try dsimp only at hB); (try dsimp only at hA); clear hSS
  try simp only [Act.put, List.setIfInBounds_toArray, List.set_cons_zero, List.set_cons_succ]
  clear ha
  refine wpL_one (i := 18) (by kernel_rfl) (StepL.mk rfl (fun K hK => ?_))
  go_simp
  refine (rsame_any u9 (fun i => i < u9.heap.size) [.slice Q1 qn1 qc1, .slice Q2 qn2 qc2, .slice Q3 qn3 qc3, .slice Q4 qn4 qc4] [.slice R1 rn1 rc1, .slice R2 rn2 rc2, .slice R3 rn3 rc3, .slice R4 rn4 rc4] (stripS (stripS t)) (stripS t) (fun i hi => hi) fQ fR (strip_fine (strip_fine HFT.out)) (strip_fine HFT.out)).mono ?_
  rintro e u10 ⟨b10, hb10, rfl, hk10⟩
  obtain rfl : b10 = true := hb10.2 (strip_twice t)
  have z10 := hk10.size
  have ha := Keep.trans hB hk10
  clear hb10
  refine hK.out _ _ (SAB.both trivial ha) (fun hSS => ?_)
  clear hK K hA hB
  have hB := hSS.2
  have hA := hSS.1 (by kernel_rfl)
  (try dsimp only at hB); (try dsimp only at hA); clear hSS
  try simp only [Act.put, List.setIfInBounds_toArray, List.set_cons_zero, List.set_cons_succ]
  clear ha
  have hfin : Aw34Post w (.returned (.bool true)) u10 := ⟨rfl, Keep.trans HKW4.out hB⟩
  have HFIN := Lib.hid hfin
  clear hfin
  refine wpL_takeB (i := 19) (v := ?_) rfl (by kernel_rfl) (by kernel_rfl) (by kernel_rfl) (by decide) (fun _ _ _ h => h) (Or.inl ⟨by rfl, ?_⟩) (SAB.both hA hB) ?_
  rotate_left
  · intro wx hBx
    (try dsimp only at hBx)
    go_simp
    try with_reducible rfl
  try simp only [Act.put, List.setIfInBounds_toArray, List.set_cons_zero, List.set_cons_succ]
  refine wpL_takeB (i := 20) (v := ?_) rfl (by kernel_rfl) (by kernel_rfl) (by kernel_rfl) (by decide) (fun _ _ _ h => h) (Or.inl ⟨by rfl, ?_⟩) (SAB.both hA hB) ?_
  rotate_left
  · intro wx hBx
    (try dsimp only at hBx)
    go_simp
    try with_reducible rfl
  try simp only [Act.put, List.setIfInBounds_toArray, List.set_cons_zero, List.set_cons_succ]
  refine wpL_done (by kernel_rfl) ?_
  clear hA hB fQ fR fP
  go_wp2_with fail
  go_ret
  exact HFIN.out
end Go.Proofs.YtecckbkobkfnmaaDoor
