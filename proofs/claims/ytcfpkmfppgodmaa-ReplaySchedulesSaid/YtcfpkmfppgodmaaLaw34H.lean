/- The law ReplaySchedules. -/
import Derived.Test.YtcfpkmfppgodmaaSchO
import Derived.Test.YtcfpkmfppgodmaaRs3
import Derived.Test.YtcfpkmfppgodmaaLins
import Derived.Test.YtcfpkmfppgodmaaCut
import Derived.Test.YtcfpkmfppgodmaaEv2In
import Derived.Test.YtcfpkmfppgodmaaRowIn
set_option linter.unusedVariables false
set_option linter.unusedSimpArgs false
set_option maxRecDepth 100000
namespace Go.Proofs.Ytcfpkmfppgodmaa
open Go.RowKit Go.Proofs

def ScC (B : Nat → Prop) (gc n b5 : Nat) (W : World) (p q : Value) (wx : World) : Prop :=
  ∃ (X Y : Option Addr) (cx cy : Nat) (xs ys : List Int), p = .slice X n cx ∧ q = .slice Y n cy ∧ Sl encI 1 wx (New wx b5) X n cx xs ∧ Sl encI 1 wx (New wx b5) Y n cy ys ∧ (∃ r', Cod wx B gc r') ∧ Only gc W wx
def ScD (B : Nat → Prop) (gc n b5 : Nat) (W : World) (q : Value) (wx : World) : Prop :=
  ∃ (Y : Option Addr) (cy : Nat) (ys : List Int), q = .slice Y n cy ∧ Sl encI 1 wx (New wx b5) Y n cy ys ∧ (∃ r', Cod wx B gc r') ∧ Only gc W wx
def ScE (gc base gl n : Nat) (vs : List Value) (W : World) (p : Value) (wx : World) : Prop :=
  ∃ (l' : List (List Ev)), p = .slice (some ⟨gl, 0, none⟩) n n ∧ LinM wx base gl n vs l' ∧ (∀ q, (l'.getD q []).length ≤ 100) ∧ Spl gc vs W wx
theorem any_below {b : Nat} {w : World} : ∀ i, New w b i → i < w.heap.size := fun i hi => hi.2
theorem encI_oneAll (l : List Int) : ∀ u ∈ l.flatMap encI, u.oneCell' = true := fun u hu => by
  obtain ⟨x, -, hx⟩ := List.mem_flatMap.1 hu
  simp [encI] at hx
  subst hx
  rfl
set_option maxHeartbeats 32000000 in
theorem replaySchedules_walk (w : World) (A : Option Addr) (n0 c0 : Nat) (l : List (List Ev)) (hl : SlR w (· < w.heap.size) 1 (EvsR w (· < w.heap.size)) A n0 c0 l) (hn0 : n0 ≤ 17592186044416) (hlx : ∀ x ∈ l, x.length ≤ 17592186044416)
    (A1 : Option Addr) (n1 c1 : Nat) (fr : List Int) (hf : Sl encI 1 w (· < w.heap.size) A1 n1 c1 fr) (A2 : Option Addr) (n2 c2 : Nat) (to_ : List Int) (ht : Sl encI 1 w (· < w.heap.size) A2 n2 c2 to_)
    (A3 : Option Addr) (n3 c3 : Nat) (zs : List Int) (hz : Sl encB 1 w (· < w.heap.size) A3 n3 c3 zs) (hz8 : ∀ y ∈ zs, 0 ≤ y ∧ y < 256) :
    Calls Try.prog 3 #[.slice A n0 c0, .slice A1 n1 c1, .slice A2 n2 c2, .slice A3 n3 c3] w (Aw34Post w) := by
  obtain ⟨iI, hi0, iz0, is0, ib0⟩ := info_of info_Int
  have hnl := hl.1
  have hsz := fun (W : World) (hk : Keep w W) => size_any W (· < w.heap.size) A n0 c0 l (hl.keep hk (EvsR.keep hk)) (by omega) (fun x hx => by have := hlx x hx; omega)
  have hcm0 := hl.2.2.1
  have hm1 := hf.2.2.1
  have hm2 := ht.2.2.1
  have HL := Lib.hid hl
  have HF := Lib.hid hf
  have HT := Lib.hid ht
  have HZ := Lib.hid hz
  have HZ8 := Lib.hid hz8
  have HI0 := Lib.hid hi0
  have IZ0 := Lib.hid iz0
  have IS0 := Lib.hid is0
  have IB0 := Lib.hid ib0
  have HLX := Lib.hid hlx
  have HNL := Lib.hid hnl
  have HSZ := Lib.hid hsz
  clear hl hf ht hz hz8 hi0 iz0 is0 ib0 hlx hnl hsz
  obtain ⟨z, hzz⟩ : ∃ z, z = sizeS l := ⟨_, rfl⟩
  have HZZ := Lib.hid hzz
  clear hzz
  go_enter Try.func3, Try.ntmps3
  go_wp2_with fail
  refine (awake34_any w).mono ?_
  rintro e w1 ⟨rfl, hk1⟩
  have hz1 := hk1.size
  have HK1 := Lib.hid hk1
  clear hk1
  go_wp2_with fail
  refine (HSZ.out w1 HK1.out).mono ?_
  rintro e w2 ⟨rfl, j1, hw2⟩
  have hk2 : Keep w w2 := Keep.trans HK1.out (hw2 ▸ Keep.draws w1 j1)
  rw [← HZZ.out]
  have HK2 := Lib.hid hk2
  clear hk2
  clear hw2 j1
  by_cases c100 : 100 < z
  · have t0 : decide ((100 : Int) < (z : Int)) = true := by simp; omega
    have t0' : decide (100 < z) = true := by simpa using c100
    go_wp2_with fail
    refine (HSZ.out w2 HK2.out).mono ?_
    rintro e w3 ⟨rfl, j1, hw3⟩
    have hk3 : Keep w w3 := Keep.trans HK2.out (hw3 ▸ Keep.draws w2 j1)
    rw [← HZZ.out]
    have HK3 := Lib.hid hk3
    clear hk3
    clear hw3 j1
    go_wp2_with fail
    go_ret
    exact ⟨rfl, HK3.out⟩
  have t0 : decide ((100 : Int) < (z : Int)) = false := by simp; omega
  have t0' : decide (100 < z) = false := by simpa using c100
  by_cases c60 : 60 < n1
  · have t1 : decide ((60 : Int) < (n1 : Int)) = true := by simp; omega
    have t1' : decide (60 < n1) = true := by simpa using c60
    go_wp2_with fail
    refine (HSZ.out w2 HK2.out).mono ?_
    rintro e w3 ⟨rfl, j1, hw3⟩
    have hk3 : Keep w w3 := Keep.trans HK2.out (hw3 ▸ Keep.draws w2 j1)
    rw [← HZZ.out]
    have HK3 := Lib.hid hk3
    clear hk3
    clear hw3 j1
    go_wp2_with fail
    go_ret
    exact ⟨rfl, HK3.out⟩
  have t1 : decide ((60 : Int) < (n1 : Int)) = false := by simp; omega
  have t1' : decide (60 < n1) = false := by simpa using c60
  by_cases d60 : 60 < n2
  · have t2 : decide ((60 : Int) < (n2 : Int)) = true := by simp; omega
    have t2' : decide (60 < n2) = true := by simpa using d60
    go_wp2_with fail
    refine (HSZ.out w2 HK2.out).mono ?_
    rintro e w3 ⟨rfl, j1, hw3⟩
    have hk3 : Keep w w3 := Keep.trans HK2.out (hw3 ▸ Keep.draws w2 j1)
    rw [← HZZ.out]
    have HK3 := Lib.hid hk3
    clear hk3
    clear hw3 j1
    go_wp2_with fail
    go_ret
    exact ⟨rfl, HK3.out⟩
  have t2 : decide ((60 : Int) < (n2 : Int)) = false := by simp; omega
  have t2' : decide (60 < n2) = false := by simpa using d60
  have hsl := sizeS_le (l := l) (by have := HZZ.out; omega)
  obtain ⟨hsl1, hsl2⟩ := hsl
  have hn100 : n0 ≤ 100 := by have := HNL.out; omega
  have HSL2 := Lib.hid hsl2
  have HSL1 := Lib.hid hsl1
  clear hsl2 hsl1
  clear HSZ HZZ HLX
  go_wp2_with fail
  refine (new_any w2 A3 n3 c3 250 zs (fun i => i < w.heap.size) (fun i hi => by have := HK2.out.size; omega) (HZ.out.keep HK2.out) HZ8.out (by omega)).mono ?_
  rintro e w3 ⟨r, hr, rfl, hc3, hk3⟩
  have hz2 := HK2.out.size
  have hz3 := hk3.size
  have hk3' := Keep.trans HK2.out hk3
  have hgc := hc3.lt
  obtain ⟨gc, hgce⟩ : ∃ gc, gc = w2.heap.size := ⟨_, rfl⟩
  rw [← hgce] at hc3 hgc
  rw [← hgce]
  have hgcw : w.heap.size ≤ gc := by omega
  have HK3' := Lib.hid hk3'
  have HC3 := Lib.hid hc3
  clear hk3' hc3
  clear hk3 hgce
  go_wp2_with fail
  refine (lineages_any w3 _ gc r 30 HC3.out (by omega)).mono ?_
  rintro e w4 ⟨B1, B2, B3, n, d1, m2, d2, m3, d3, base, gl, ls, vs, l0, rk, rfl, hn2, hn4, hls, hle, hfine, hs1, hbase, hm4, ⟨r4, hc4⟩, ho4⟩
  have hz4 := ho4.size
  have hk4 : Keep w w4 := Same.trans HK3'.out ho4 (fun i hi => by omega)
  have hlow := hm4.low
  have hgl4 := hm4.blk.lt
  have hlens0 : ∀ q, (l0.getD q []).length ≤ 100 := fun q => by
    rcases Nat.lt_or_ge q ls.length with h | h
    · rw [hfine.lens q h]; have := hle q; omega
    · have : l0.getD q [] = [] := by
        have h2 : l0[q]? = none := List.getElem?_eq_none (by rw [hfine.len]; exact h)
        simp [List.getD, h2]
      rw [this]; exact Nat.zero_le _
  have hVS : ∀ v ∈ vs, ∀ b, v.ownBlock = some b → base ≤ b ∧ b < w4.heap.size := fun v hv b hb => by
    obtain ⟨k, hk⟩ := List.mem_iff_getElem?.1 hv
    exact hm4.lt hk hb
  have HK4 := Lib.hid hk4
  have HM4 := Lib.hid hm4
  have HC4 := Lib.hid hc4
  have HS1 := Lib.hid hs1
  have HLENS0 := Lib.hid hlens0
  have HLE := Lib.hid hle
  have HVS := Lib.hid hVS
  clear hk4 hm4 hc4 hs1 hlens0 hle hVS
  clear hfine ho4 HC3 HK3' hls
  go_upto_region 5 with (refine wpList_store_all rfl _ (.tmp 11) (.tmp 66) rfl w4.heap.size 32 _ [.slice B1 n d1, .slice B2 m2 d2, .slice B3 m3 d3] rfl rfl (Blk.new _ _ _) rfl (by kernel_rfl) rfl ?_; intro w5 hb5 hs5)
  have hk45 : Keep w4 w5 := Keep.write (Keep.new _ _) hs5 (Nat.le_refl _)
  have hz5 : w4.heap.size < w5.heap.size := hb5.lt
  have hk5 := Keep.trans HK4.out hk45
  have hm5 := HM4.out.keep hk45
  have hc5 := HC4.out.keep hk45
  have hs15 := HS1.out.keep (hk45.mono (fun i hi => by have := hi.2; omega))
  have hBw := HC4.out.2.1
  obtain ⟨g11, hg11⟩ : ∃ g, g = w4.heap.size := ⟨_, rfl⟩
  rw [← hg11] at hb5
  rw [← hg11]
  have hg11w : w4.heap.size ≤ g11 := by omega
  have hg11l := hb5.lt
  have hcut := fun (W : World) (r' : Nat) (hk : Only gc w5 W) (hc : Cod W (fun i => i < w.heap.size ∨ i = gc) gc r') => cut_any W _ gc r' (fun i => w3.heap.size ≤ i ∧ i < base) B1 B2 B3 n d1 m2 d2 m3 d3 ls hc (fun i hi => by have := hk.size; have := hi.1; have := hi.2; omega) (hs15.keep (hk.mono (fun i hi => by have := hi.1; have := hi.2; omega))) (fun q => by have := HLE.out q; omega) (by omega)
  have HB5 := Lib.hid hb5
  have HK5 := Lib.hid hk5
  have HM5 := Lib.hid hm5
  have HC5 := Lib.hid hc5
  have HS15 := Lib.hid hs15
  have HBW := Lib.hid hBw
  have HCUT := Lib.hid hcut
  clear hb5 hk5 hm5 hc5 hs15 hBw hcut
  clear hs5 hk45 HM4 HC4 HS1 HLE hg11
  try simp only [Act.put]
  go_cut [12, 13] from 67 to 72 (fun p q wx => ScC (fun i => i < w.heap.size ∨ i = gc) gc n w5.heap.size w5 p q wx)
  case first =>
    obtain ⟨b1, o1, lv, rfl, -, -, -⟩ := HS15.out.at_ encI_len (k := 0) (by omega)
    have y0 : ∀ wx, Only gc w5 wx → wx.cell? ⟨g11, 0, none⟩ = some (.slice (some ⟨b1, o1, none⟩) n d1) := fun wx hx => by rw [(hx.blk HB5.out ⟨HB5.out.lt, by omega⟩).cell]; rfl
    refine wp_region_L 99 (fun _ => True) (fun wx => Only gc w5 wx) (by kernel_rfl) trivial (Same.drew (Same.refl _ _)) (fun hA hB => ?_)
    have hku : Keep w5 w5.drew := Same.drew (Same.refl _ _)
    generalize hu0 : w5.drew = u0 at hB hku ⊢
    clear hu0
    refine wpL_takeB (i := 0) (v := ?_) rfl (by kernel_rfl) (by kernel_rfl) (by kernel_rfl) (by decide) (fun _ _ _ h => h) (Or.inl ⟨by rfl, ?_⟩) (SAB.both hA hB) ?_
    rotate_left
    · intro wx hBx
      (try dsimp only at hBx)
      go_simp
      try with_reducible rfl
    try simp only [Act.put, List.setIfInBounds_toArray, List.set_cons_zero, List.set_cons_succ]
    refine wpL_takeB (i := 1) rfl (by kernel_rfl) (by kernel_rfl) (by kernel_rfl) (by decide) (fun _ _ _ h => h) (yieldsIf_blk (by rfl) _ _ rfl g11 0 32 _ [.slice (some ⟨b1, o1, none⟩) n d1, .slice B2 m2 d2, .slice B3 m3 d3] _ rfl (fun wx hx => hx.blk HB5.out ⟨HB5.out.lt, by omega⟩) (fun j u hu => by simpa using hu) Try.underlying32 rfl (by kernel_rfl)) (SAB.both hA hB) ?_
    try simp only [Act.put, List.setIfInBounds_toArray, List.set_cons_zero, List.set_cons_succ]
    refine wpL_takeB (i := 3) (v := ?_) rfl (by kernel_rfl) (by kernel_rfl) (by kernel_rfl) (by decide) (fun _ _ _ h => h) (Or.inl ⟨by rfl, ?_⟩) (SAB.both hA hB) ?_
    rotate_left
    · intro wx hBx
      (try dsimp only at hBx)
      go_simp
      try with_reducible rfl
    try simp only [Act.put, List.setIfInBounds_toArray, List.set_cons_zero, List.set_cons_succ]
    refine wpL_takeB (i := 4) (v := ?_) rfl (by kernel_rfl) (by kernel_rfl) (by kernel_rfl) (by decide) (fun _ _ _ h => h) (Or.inl ⟨by rfl, ?_⟩) (SAB.both hA hB) ?_
    rotate_left
    · intro wx hBx
      (try dsimp only at hBx)
      go_simp
      try with_reducible rfl
    try simp only [Act.put, List.setIfInBounds_toArray, List.set_cons_zero, List.set_cons_succ]
    clear y0
    refine wpL_one (i := 2) (by kernel_rfl) (StepL.mk rfl (fun K hK => ?_))
    go_simp
    refine (HCUT.out u0 r4 hB (HC5.out.keep hku)).mono ?_
    rintro e u1 ⟨X, cx, xs, rfl, hxl, -, hsx, ⟨r1, hc1⟩, ho1⟩
    have hzu := hku.size
    have hz1' := ho1.size
    have hB1 : Only gc w5 u1 := Only.trans hB ho1
    refine hK.out _ _ (SAB.both trivial hB1) (fun hSS => ?_)
    clear hK K hA hB
    have hB := hSS.2
    have hA := hSS.1 (by kernel_rfl)
    (try dsimp only at hB); (try dsimp only at hA); clear hSS
    try simp only [Act.put, List.setIfInBounds_toArray, List.set_cons_zero, List.set_cons_succ]
    refine wpL_one (i := 5) (by kernel_rfl) (StepL.mk rfl (fun K hK => ?_))
    refine step_append_any _ (by rfl) (.const (.slice none 0 0)) (.tmp 71) _ (by rfl) u1.heap.size 3 iI _ 1 8 Try.underlying23 HI0.out IZ0.out IS0.out IB0.out rfl (by omega) (.slice none 0 0) 0 [] (by rfl) (World.ownsRow_nil _ _ _ _) _ (some ⟨b1, o1, none⟩) n d1 ((intsN ls).flatMap encI) (by rfl) (HS15.out.keep (hB1.mono (fun i hi => by have := hi.1; have := hi.2; omega))).2.2.2 (encI_oneAll _) (by simp [maxLen]; omega) (by omega) (Nat.le_refl _) ?_
    intro vb wb hownb hgb' hatb
    have hG : Keep u1 wb := Same.grown (Same.refl _ _) hgb' (fun i hi => hi) (fun k hk => by cases hk)
    have hB2 : Only gc w5 wb := Only.keep hB1 hG
    obtain ⟨Y, cy, hvb, hnb, hcb⟩ := own_form hownb
    subst hvb
    have hrow : wb.ownsRow u1.heap.size 3 1 (.slice Y n cy) n ((intsN ls).flatMap encI) := by simpa using hownb
    have hwn : (Value.slice Y (0 + n) cy) = .slice Y n cy := by rw [Nat.zero_add]
    refine hK.out _ _ (SAB.both trivial hB2) (fun hSS => ?_)
    clear hK K hA hB
    have hB := hSS.2
    have hA := hSS.1 (by kernel_rfl)
    (try dsimp only at hB); (try dsimp only at hA); clear hSS
    try simp only [Act.put, List.setIfInBounds_toArray, List.set_cons_zero, List.set_cons_succ]
    rw [hwn]
    refine wpL_takeB (i := 6) (v := ?_) rfl (by kernel_rfl) (by kernel_rfl) (by kernel_rfl) (by decide) (fun _ _ _ h => h) (Or.inl ⟨by rfl, ?_⟩) (SAB.both hA hB) ?_
    rotate_left
    · intro wx hBx
      (try dsimp only at hBx)
      go_simp
      try with_reducible rfl
    try simp only [Act.put, List.setIfInBounds_toArray, List.set_cons_zero, List.set_cons_succ]
    refine wpL_takeB (i := 7) (v := ?_) rfl (by kernel_rfl) (by kernel_rfl) (by kernel_rfl) (by decide) (fun _ _ _ h => h) (Or.inl ⟨by rfl, ?_⟩) (SAB.both hA hB) ?_
    rotate_left
    · intro wx hBx
      (try dsimp only at hBx)
      go_simp
      try with_reducible rfl
    try simp only [Act.put, List.setIfInBounds_toArray, List.set_cons_zero, List.set_cons_succ]
    refine wpL_done (by kernel_rfl) ?_
    have hfin : ScC (fun i => i < w.heap.size ∨ i = gc) gc n w5.heap.size w5 (.slice X n cx) (.slice Y n cy) wb := ⟨X, Y, cx, cy, _, _, rfl, rfl, (hsx.keep (hG.mono (fun i hi => hi.2))).more (fun i hi => ⟨by have := hi.1; omega, by have := hi.2; have := hG.size; omega⟩), (own_ints hrow).more (fun i hi => ⟨by have := hi.1; omega, hi.2⟩), ⟨_, hc1.keep hG⟩, hB2⟩
    have HFIN := Lib.hid hfin
    clear hfin
    clear hA hB hB1 hB2 hG hrow hownb hgb' hatb hsx hc1 ho1 hku hxl hwn
    go_wp2_with fail
    go_meet
    exact HFIN.out
  case rest =>
    obtain ⟨X, Y, cx, cy, xs, ys, rfl, rfl, hsx, hsy, ⟨r5, hc6⟩, ho6⟩ := hcut
    obtain ⟨w6, rfl⟩ : ∃ w6 : World, w6 = wc := ⟨_, rfl⟩
    have hz6 := ho6.size
    have HSX := Lib.hid hsx
    have HSY := Lib.hid hsy
    have HC6 := Lib.hid hc6
    have HO6 := Lib.hid ho6
    clear hsx hsy hc6 ho6
    clear HC5
    go_wp2_with fail
    refine (next_any w6 _ gc _ 2 HC6.out (by omega) (by omega)).mono ?_
    rintro e w7 ⟨v1, hv10, hv11, rfl, hc7, ho7⟩
    have hz7 := ho7.size
    have ho57 : Only gc w5 w7 := Only.trans HO6.out ho7
    have hsx7 := HSX.out.keep (ho7.mono (fun i (hi : New w6 w5.heap.size i) => ⟨hi.2, by have := hi.1; omega⟩))
    have hsy7 := HSY.out.keep (ho7.mono (fun i (hi : New w6 w5.heap.size i) => ⟨hi.2, by have := hi.1; omega⟩))
    have HC7 := Lib.hid hc7
    have HO57 := Lib.hid ho57
    have HSX7 := Lib.hid hsx7
    have HSY7 := Lib.hid hsy7
    clear hc7 ho57 hsx7 hsy7
    clear ho7 HC6 HO6 HSX HSY
    go_upto_if 75 with fail
    generalize hbb : (v1 == 1) = bb
    clear hbb
    go_cut [13] from 76 to 78 (fun q wx => ScD (fun i => i < w.heap.size ∨ i = gc) gc n w5.heap.size w7 q wx)
    case first =>
      cases bb with
      | true =>
        have hb7 := HO57.out.blk HB5.out ⟨HB5.out.lt, by omega⟩
        have HB7 := Lib.hid hb7
        clear hb7
        go_wp2_with (refine wpList_load_all rfl _ (.tmp 11) rfl g11 32 [.slice B1 n d1, .slice B2 m2 d2, .slice B3 m3 d3] _ rfl HB7.out Try.underlying32 rfl (by kernel_rfl) ?_)
        refine (HCUT.out w7 _ HO57.out HC7.out).mono ?_
        rintro e w8 ⟨Y2, cy2, ys2, rfl, hyl, -, hsy2, ⟨r8, hc8⟩, ho8⟩
        have hfin : ScD (fun i => i < w.heap.size ∨ i = gc) gc n w5.heap.size w7 (.slice Y2 n cy2) w8 := ⟨Y2, cy2, _, rfl, hsy2.more (fun i hi => ⟨by have := hi.1; omega, hi.2⟩), ⟨_, hc8⟩, ho8⟩
        have HFIN := Lib.hid hfin
        clear hfin
        clear hsy2 hc8 ho8 hyl
        go_wp2_with fail
        go_meet
        exact HFIN.out
      | false =>
        have hfin : ScD (fun i => i < w.heap.size ∨ i = gc) gc n w5.heap.size w7 (.slice Y n cy) w7 := ⟨Y, cy, _, rfl, HSY7.out.more (fun i hi => ⟨hi.1, by have := hi.2; omega⟩), ⟨_, HC7.out⟩, Same.refl _ _⟩
        have HFIN := Lib.hid hfin
        clear hfin
        go_wp2_with fail
        go_meet
        exact HFIN.out
    case rest =>
      obtain ⟨Y2, cy2, ys2, rfl, hsy8, ⟨r8, hc8⟩, ho78⟩ := hcut
      obtain ⟨w8, rfl⟩ : ∃ w8 : World, w8 = wc := ⟨_, rfl⟩
      have hz8 := ho78.size
      have ho58 : Only gc w5 w8 := Only.trans HO57.out ho78
      have hsx8 := HSX7.out.keep (ho78.mono (fun i (hi : New w6 w5.heap.size i) => ⟨by have := hi.2; omega, by have := hi.1; omega⟩))
      have HSX8 := Lib.hid hsx8
      have HSY8 := Lib.hid hsy8
      have HC8 := Lib.hid hc8
      have HO58 := Lib.hid ho58
      clear hsx8 hsy8 hc8 ho58
      clear ho78 HSX7 HSY7 HC7 HO57
      go_wp2_with fail
      refine (next_any w8 _ gc _ 3 HC8.out (by omega) (by omega)).mono ?_
      rintro e w9 ⟨v2, hv20, hv21, rfl, hc9, ho9⟩
      have hz9 := ho9.size
      have ho59 : Only gc w5 w9 := Only.trans HO58.out ho9
      have hsx9 := HSX8.out.keep (ho9.mono (fun i (hi : New w6 w5.heap.size i) => ⟨by have := hi.2; omega, by have := hi.1; omega⟩))
      have hsy9 := HSY8.out.keep (ho9.mono (fun i (hi : New w8 w5.heap.size i) => ⟨hi.2, by have := hi.1; omega⟩))
      have hm9 := HM5.out.same (ho59.mono (fun i hi => ⟨hi.2, by have := hi.1; omega⟩))
      have HC9 := Lib.hid hc9
      have HO59 := Lib.hid ho59
      have HSX9 := Lib.hid hsx9
      have HSY9 := Lib.hid hsy9
      have HM9 := Lib.hid hm9
      clear hc9 ho59 hsx9 hsy9 hm9
      clear ho9 HC8 HO58 HSX8 HSY8 HM5
      go_upto_if 81 with fail
      generalize hbb : (v2 == 2) = bb2
      clear hbb
      go_cut [10] from 82 to 84 (fun p wx => ScE gc base gl n vs w9 p wx)
      case first =>
        cases bb2 with
        | true =>
          go_wp2_with fail
          refine (spoilL_any w9 _ gc _ base gl n vs l0 HC9.out (fun i hi => by rcases hi with h | h <;> omega) HM9.out (by omega) (by omega) (fun q => by have := HLENS0.out q; omega)).mono ?_
          rintro e w10 ⟨l', rfl, hm10, hlen', -, hspl⟩
          have hfin : ScE gc base gl n vs w9 (.slice (some ⟨gl, 0, none⟩) n n) w10 := ⟨l', rfl, hm10, fun q => by rw [hlen' q]; exact HLENS0.out q, hspl⟩
          have HFIN := Lib.hid hfin
          clear hfin
          clear hm10 hlen' hspl
          go_wp2_with fail
          go_meet
          exact HFIN.out
        | false =>
          have hfin : ScE gc base gl n vs w9 (.slice (some ⟨gl, 0, none⟩) n n) w9 := ⟨l0, rfl, HM9.out, HLENS0.out, Same.refl _ _⟩
          have HFIN := Lib.hid hfin
          clear hfin
          go_wp2_with fail
          go_meet
          exact HFIN.out
      case rest =>
        obtain ⟨m, rfl, hm10, hmlen, hspl⟩ := hcut
        obtain ⟨w10, rfl⟩ : ∃ w10 : World, w10 = wc := ⟨_, rfl⟩
        have hz10 := hspl.size
        have hk10 : Keep w w10 := Same.trans (Same.trans HK5.out HO59.out (fun i hi => by omega)) hspl (fun i hi => ⟨by omega, by omega, fun v hv hb => by have := HVS.out v hv i hb; omega⟩)
        have hsx10 := HSX9.out.keep (hspl.mono (fun i (hi : New w6 w5.heap.size i) => ⟨by have := hi.2; omega, by have := hi.1; omega, fun v hv hb => by have := HVS.out v hv i hb; have := hi.1; omega⟩))
        have hsy10 := HSY9.out.keep (hspl.mono (fun i (hi : New w8 w5.heap.size i) => ⟨by have := hi.2; omega, by have := hi.1; omega, fun v hv hb => by have := HVS.out v hv i hb; have := hi.1; omega⟩))
        have zx : ∀ wx, Keep w10 wx → Sl encI 1 wx (· < w10.heap.size) X n cx xs := fun wx hx => (hsx10.more (T := (· < w10.heap.size)) (fun i hi => by have := hi.2; omega)).keep hx
        have zy : ∀ wx, Keep w10 wx → Sl encI 1 wx (· < w10.heap.size) Y2 n cy2 ys2 := fun wx hx => (hsy10.more (T := (· < w10.heap.size)) (fun i hi => by have := hi.2; omega)).keep hx
        have zf : ∀ wx, Keep w10 wx → Sl encI 1 wx (· < w10.heap.size) A1 n1 c1 fr := fun wx hx => ((HF.out.keep hk10).more (T := (· < w10.heap.size)) (fun i hi => by omega)).keep hx
        have zt : ∀ wx, Keep w10 wx → Sl encI 1 wx (· < w10.heap.size) A2 n2 c2 to_ := fun wx hx => ((HT.out.keep hk10).more (T := (· < w10.heap.size)) (fun i hi => by omega)).keep hx
        have zl : ∀ wx, Keep w10 wx → SlR wx (· < w10.heap.size) 1 (EvsR wx (· < w10.heap.size)) A n0 c0 l := fun wx hx => ((HL.out.keep hk10 (EvsR.keep hk10)).more (T := (· < w10.heap.size)) (fun i hi => by omega) (EvsR.more (fun i hi => by omega))).keep hx (EvsR.keep hx)
        have zm : ∀ wx, Keep w10 wx → SlR wx (· < w10.heap.size) 1 (EvsR wx (· < w10.heap.size)) (some ⟨gl, 0, none⟩) n n m := fun wx hx => ((hm10.slr (by simp [maxLen]; omega)).more (T := (· < w10.heap.size)) (fun i hi => hi.2) (EvsR.more (fun i hi => hi.2))).keep hx (EvsR.keep hx)
        have hml : m.length ≤ 100 := by have := hm10.llen; omega
        have hmx := getD_mem_le hmlen
        have hr10 : Keep w10 w10 := Same.refl _ _
        clear hspl hsx10 hsy10 hm10 hmlen
        have ZX := Lib.hid zx
        have ZY := Lib.hid zy
        have ZF := Lib.hid zf
        have ZT := Lib.hid zt
        have ZL := Lib.hid zl
        have ZM := Lib.hid zm
        have HML := Lib.hid hml
        have HMX := Lib.hid hmx
        have HK10 := Lib.hid hk10
        clear zx zy zf zt zl zm hml hmx hk10
        clear HB5 HK5 HS15 HBW HCUT HVS HC9 HO59 HSX9 HSY9 HM9 HLENS0 HK2 HK1 HL HF HT HZ HZ8 HI0 IZ0 IS0 IB0
        go_wp2_with fail
        refine (schedule_any w10 (· < w10.heap.size) A A1 A2 n0 c0 n1 c1 n2 c2 l fr to_ (fun i hi => by omega) (ZL.out w10 hr10) (ZF.out w10 hr10) (ZT.out w10 hr10) (by omega) (fun x hx => by have := HSL2.out x hx; omega) (by omega) (by omega)).mono ?_
        intro e w11 hp
        obtain ⟨b10, o10, Q10, q10, p10, rfl, hs10, hb10, hkk, hsl10⟩ := schPost_open hp
        have hr11 := Keep.trans hr10 hkk
        have hz11 := hkk.size
        have hlen10 := optS_len hs10 hb10 HSL1.out HSL2.out
        have hkk10 := hkk
        have HS10 := Lib.hid hs10
        have HB10 := Lib.hid hb10
        have HSL10 := Lib.hid hsl10
        have HLEN10 := Lib.hid hlen10
        have HKK10 := Lib.hid hkk10
        clear hs10 hb10 hsl10 hlen10 hkk10
        clear hp hkk
        go_wp2_with fail
        refine (rschedule_any w11 (· < w10.heap.size) A A1 A2 n0 c0 n1 c1 n2 c2 l fr to_ (fun i hi => by omega) (ZL.out w11 hr11) (ZF.out w11 hr11) (ZT.out w11 hr11) (by omega) (fun x hx => by have := HSL2.out x hx; omega) (by omega) (by omega)).mono ?_
        intro e w12 hp
        obtain ⟨b11, o11, Q11, q11, p11, rfl, hs11, hb11, hkk, hsl11⟩ := schPost_open hp
        have hr12 := Keep.trans hr11 hkk
        have hz12 := hkk.size
        have hlen11 := optS_len hs11 hb11 HSL1.out HSL2.out
        have hkk11 := hkk
        have HS11 := Lib.hid hs11
        have HB11 := Lib.hid hb11
        have HSL11 := Lib.hid hsl11
        have HLEN11 := Lib.hid hlen11
        have HKK11 := Lib.hid hkk11
        clear hs11 hb11 hsl11 hlen11 hkk11
        clear hp hkk
        go_wp2_with fail
        refine (schedule_any w12 (· < w10.heap.size) (some ⟨gl, 0, none⟩) X Y2 n n n cx n cy2 m xs ys2 (fun i hi => by omega) (ZM.out w12 hr12) (ZX.out w12 hr12) (ZY.out w12 hr12) (by omega) (fun x hx => by have := HMX.out x hx; omega) (by omega) (by omega)).mono ?_
        intro e w13 hp
        obtain ⟨b12, o12, Q12, q12, p12, rfl, hs12, hb12, hkk, hsl12⟩ := schPost_open hp
        have hr13 := Keep.trans hr12 hkk
        have hz13 := hkk.size
        have hlen12 := optS_len hs12 hb12 HML.out HMX.out
        have hkk12 := hkk
        have HS12 := Lib.hid hs12
        have HB12 := Lib.hid hb12
        have HSL12 := Lib.hid hsl12
        have HLEN12 := Lib.hid hlen12
        have HKK12 := Lib.hid hkk12
        clear hs12 hb12 hsl12 hlen12 hkk12
        clear hp hkk
        go_wp2_with fail
        refine (rschedule_any w13 (· < w10.heap.size) (some ⟨gl, 0, none⟩) X Y2 n n n cx n cy2 m xs ys2 (fun i hi => by omega) (ZM.out w13 hr13) (ZX.out w13 hr13) (ZY.out w13 hr13) (by omega) (fun x hx => by have := HMX.out x hx; omega) (by omega) (by omega)).mono ?_
        intro e w14 hp
        obtain ⟨b13, o13, Q13, q13, p13, rfl, hs13, hb13, hkk, hsl13⟩ := schPost_open hp
        have hr14 := Keep.trans hr13 hkk
        have hz14 := hkk.size
        have hlen13 := optS_len hs13 hb13 HML.out HMX.out
        have hkk13 := hkk
        have HS13 := Lib.hid hs13
        have HB13 := Lib.hid hb13
        have HSL13 := Lib.hid hsl13
        have HLEN13 := Lib.hid hlen13
        have HKK13 := Lib.hid hkk13
        clear hs13 hb13 hsl13 hlen13 hkk13
        clear hp hkk
        go_wp2_with fail
        refine (witness_any w14 (· < w10.heap.size) A n0 c0 l (fun i hi => by omega) (ZL.out w14 hr14) (by omega) (fun x hx => by have := HSL2.out x hx; omega)).mono ?_
        intro e w15 hp
        obtain ⟨b14, o14, Q14, q14, p14, rfl, hs14, hb14, hkk, hsl14⟩ := schPost_open hp
        have hr15 := Keep.trans hr14 hkk
        have hz15 := hkk.size
        have hlen14 := optS_len hs14 hb14 HSL1.out HSL2.out
        have hkk14 := hkk
        have HS14 := Lib.hid hs14
        have HB14 := Lib.hid hb14
        have HSL14 := Lib.hid hsl14
        have HLEN14 := Lib.hid hlen14
        have HKK14 := Lib.hid hkk14
        clear hs14 hb14 hsl14 hlen14 hkk14
        clear hp hkk
        go_wp2_with fail
        refine (rwitness_any w15 (· < w10.heap.size) A n0 c0 l (fun i hi => by omega) (ZL.out w15 hr15) (by omega) (fun x hx => by have := HSL2.out x hx; omega)).mono ?_
        intro e w16 hp
        obtain ⟨b15, o15, Q15, q15, p15, rfl, hs15, hb15, hkk, hsl15⟩ := schPost_open hp
        have hr16 := Keep.trans hr15 hkk
        have hz16 := hkk.size
        have hlen15 := optS_len hs15 hb15 HSL1.out HSL2.out
        have hkk15 := hkk
        have HS15 := Lib.hid hs15
        have HB15 := Lib.hid hb15
        have HSL15 := Lib.hid hsl15
        have HLEN15 := Lib.hid hlen15
        have HKK15 := Lib.hid hkk15
        clear hs15 hb15 hsl15 hlen15 hkk15
        clear hp hkk
        go_wp2_with fail
        refine (witness_any w16 (· < w10.heap.size) (some ⟨gl, 0, none⟩) n n m (fun i hi => by omega) (ZM.out w16 hr16) (by omega) (fun x hx => by have := HMX.out x hx; omega)).mono ?_
        intro e w17 hp
        obtain ⟨b16, o16, Q16, q16, p16, rfl, hs16, hb16, hkk, hsl16⟩ := schPost_open hp
        have hr17 := Keep.trans hr16 hkk
        have hz17 := hkk.size
        have hlen16 := optS_len hs16 hb16 HML.out HMX.out
        have hkk16 := hkk
        have HS16 := Lib.hid hs16
        have HB16 := Lib.hid hb16
        have HSL16 := Lib.hid hsl16
        have HLEN16 := Lib.hid hlen16
        have HKK16 := Lib.hid hkk16
        clear hs16 hb16 hsl16 hlen16 hkk16
        clear hp hkk
        go_wp2_with fail
        refine (rwitness_any w17 (· < w10.heap.size) (some ⟨gl, 0, none⟩) n n m (fun i hi => by omega) (ZM.out w17 hr17) (by omega) (fun x hx => by have := HMX.out x hx; omega)).mono ?_
        intro e w18 hp
        obtain ⟨b17, o17, Q17, q17, p17, rfl, hs17, hb17, hkk, hsl17⟩ := schPost_open hp
        have hr18 := Keep.trans hr17 hkk
        have hz18 := hkk.size
        have hlen17 := optS_len hs17 hb17 HML.out HMX.out
        have hkk17 := hkk
        have HS17 := Lib.hid hs17
        have HB17 := Lib.hid hb17
        have HSL17 := Lib.hid hsl17
        have HLEN17 := Lib.hid hlen17
        have HKK17 := Lib.hid hkk17
        clear hs17 hb17 hsl17 hlen17 hkk17
        clear hp hkk
        have k17 : Keep w17 w18 := HKK17.out
        have k16 : Keep w16 w18 := Keep.trans HKK16.out k17
        have k15 : Keep w15 w18 := Keep.trans HKK15.out k16
        have k14 : Keep w14 w18 := Keep.trans HKK14.out k15
        have k13 : Keep w13 w18 := Keep.trans HKK13.out k14
        have k12 : Keep w12 w18 := Keep.trans HKK12.out k13
        have k11 : Keep w11 w18 := Keep.trans HKK11.out k12
        have k10 : Keep w10 w18 := Keep.trans HKK10.out k11
        have k18 : Keep w18 w18 := Same.refl _ _
        have s10 : ∀ wx, Keep w18 wx → Sl encCh 6 wx (· < w18.heap.size) Q10 q10 p10 o10 := fun wx hx => ((HSL10.out.keep (k11.mono (fun i hi => hi.2))).more (T := (· < w18.heap.size)) (fun i hi => by have := hi.2; omega)).keep hx
        have e10 : q10 ≤ 1000000 := by have := HSL10.out.1; have := HLEN10.out; omega
        have s11 : ∀ wx, Keep w18 wx → Sl encCh 6 wx (· < w18.heap.size) Q11 q11 p11 o11 := fun wx hx => ((HSL11.out.keep (k12.mono (fun i hi => hi.2))).more (T := (· < w18.heap.size)) (fun i hi => by have := hi.2; omega)).keep hx
        have e11 : q11 ≤ 1000000 := by have := HSL11.out.1; have := HLEN11.out; omega
        have s12 : ∀ wx, Keep w18 wx → Sl encCh 6 wx (· < w18.heap.size) Q12 q12 p12 o12 := fun wx hx => ((HSL12.out.keep (k13.mono (fun i hi => hi.2))).more (T := (· < w18.heap.size)) (fun i hi => by have := hi.2; omega)).keep hx
        have e12 : q12 ≤ 1000000 := by have := HSL12.out.1; have := HLEN12.out; omega
        have s13 : ∀ wx, Keep w18 wx → Sl encCh 6 wx (· < w18.heap.size) Q13 q13 p13 o13 := fun wx hx => ((HSL13.out.keep (k14.mono (fun i hi => hi.2))).more (T := (· < w18.heap.size)) (fun i hi => by have := hi.2; omega)).keep hx
        have e13 : q13 ≤ 1000000 := by have := HSL13.out.1; have := HLEN13.out; omega
        have s14 : ∀ wx, Keep w18 wx → Sl encCh 6 wx (· < w18.heap.size) Q14 q14 p14 o14 := fun wx hx => ((HSL14.out.keep (k15.mono (fun i hi => hi.2))).more (T := (· < w18.heap.size)) (fun i hi => by have := hi.2; omega)).keep hx
        have e14 : q14 ≤ 1000000 := by have := HSL14.out.1; have := HLEN14.out; omega
        have s15 : ∀ wx, Keep w18 wx → Sl encCh 6 wx (· < w18.heap.size) Q15 q15 p15 o15 := fun wx hx => ((HSL15.out.keep (k16.mono (fun i hi => hi.2))).more (T := (· < w18.heap.size)) (fun i hi => by have := hi.2; omega)).keep hx
        have e15 : q15 ≤ 1000000 := by have := HSL15.out.1; have := HLEN15.out; omega
        have s16 : ∀ wx, Keep w18 wx → Sl encCh 6 wx (· < w18.heap.size) Q16 q16 p16 o16 := fun wx hx => ((HSL16.out.keep (k17.mono (fun i hi => hi.2))).more (T := (· < w18.heap.size)) (fun i hi => by have := hi.2; omega)).keep hx
        have e16 : q16 ≤ 1000000 := by have := HSL16.out.1; have := HLEN16.out; omega
        have s17 : ∀ wx, Keep w18 wx → Sl encCh 6 wx (· < w18.heap.size) Q17 q17 p17 o17 := fun wx hx => ((HSL17.out.keep (k18.mono (fun i hi => hi.2))).more (T := (· < w18.heap.size)) (fun i hi => by have := hi.2; omega)).keep hx
        have e17 : q17 ≤ 1000000 := by have := HSL17.out.1; have := HLEN17.out; omega
        have kw : Keep w w18 := Keep.trans HK10.out hr18
        obtain ⟨rfl, rfl⟩ := optS_inj (HS10.out.det HS11.out) HB10.out HB11.out
        have tb10 : (b10 == b10) = true := by cases b10 <;> rfl
        obtain ⟨rfl, rfl⟩ := optS_inj (HS12.out.det HS13.out) HB12.out HB13.out
        have tb12 : (b12 == b12) = true := by cases b12 <;> rfl
        obtain ⟨rfl, rfl⟩ := optS_inj (HS14.out.det HS15.out) HB14.out HB15.out
        have tb14 : (b14 == b14) = true := by cases b14 <;> rfl
        obtain ⟨rfl, rfl⟩ := optS_inj (HS16.out.det HS17.out) HB16.out HB17.out
        have tb16 : (b16 == b16) = true := by cases b16 <;> rfl
        have S10 := Lib.hid s10
        have S11 := Lib.hid s11
        have S12 := Lib.hid s12
        have S13 := Lib.hid s13
        have S14 := Lib.hid s14
        have S15 := Lib.hid s15
        have S16 := Lib.hid s16
        have S17 := Lib.hid s17
        have KW := Lib.hid kw
        clear s10 s11 s12 s13 s14 s15 s16 s17 kw
        clear k10 k11 k12 k13 k14 k15 k16 k17 HS10 HB10 HSL10 HLEN10 HKK10 hr10 HS11 HB11 HSL11 HLEN11 HKK11 hr11 HS12 HB12 HSL12 HLEN12 HKK12 hr12 HS13 HB13 HSL13 HLEN13 HKK13 hr13 HS14 HB14 HSL14 HLEN14 HKK14 hr14 HS15 HB15 HSL15 HLEN15 HKK15 hr15 HS16 HB16 HSL16 HLEN16 HKK16 hr16 HS17 HB17 HSL17 HLEN17 HKK17 hr17
        go_wp2_with fail
        refine (chsame_any w18 _ _ Q10 Q11 q10 q11 p10 p11 o10 o10 (S10.out w18 k18) (S11.out w18 k18) e10 e11).mono ?_
        rintro e w19 ⟨bb, hbb, rfl, jj, hww⟩
        obtain rfl : bb = true := hbb.2 rfl
        have k19 : Keep w18 w19 := Keep.trans k18 (hww ▸ Keep.draws w18 jj)
        clear hbb hww jj
        go_wp2_with fail
        refine (chsame_any w19 _ _ Q12 Q13 q12 q13 p12 p13 o12 o12 (S12.out w19 k19) (S13.out w19 k19) e12 e13).mono ?_
        rintro e w20 ⟨bb, hbb, rfl, jj, hww⟩
        obtain rfl : bb = true := hbb.2 rfl
        have k20 : Keep w18 w20 := Keep.trans k19 (hww ▸ Keep.draws w19 jj)
        clear hbb hww jj
        go_wp2_with fail
        refine (chsame_any w20 _ _ Q14 Q15 q14 q15 p14 p15 o14 o14 (S14.out w20 k20) (S15.out w20 k20) e14 e15).mono ?_
        rintro e w21 ⟨bb, hbb, rfl, jj, hww⟩
        obtain rfl : bb = true := hbb.2 rfl
        have k21 : Keep w18 w21 := Keep.trans k20 (hww ▸ Keep.draws w20 jj)
        clear hbb hww jj
        go_wp2_with fail
        refine (chsame_any w21 _ _ Q16 Q17 q16 q17 p16 p17 o16 o16 (S16.out w21 k21) (S17.out w21 k21) e16 e17).mono ?_
        rintro e w22 ⟨bb, hbb, rfl, jj, hww⟩
        obtain rfl : bb = true := hbb.2 rfl
        have k22 : Keep w18 w22 := Keep.trans k21 (hww ▸ Keep.draws w21 jj)
        clear hbb hww jj
        go_wp2_with fail
        go_ret
        exact ⟨rfl, Keep.trans KW.out k22⟩
end Go.Proofs.Ytcfpkmfppgodmaa
