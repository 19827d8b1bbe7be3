/- The law ReplayExists. -/
import Derived.Test.YtcfpkmfppgodmaaTrack
import Derived.Test.YtcfpkmfppgodmaaSchO
import Derived.Test.YtcfpkmfppgodmaaRs3
import Derived.Test.YtcfpkmfppgodmaaLins
import Derived.Test.YtcfpkmfppgodmaaEv2In
import Derived.Test.YtcfpkmfppgodmaaRowIn
set_option linter.unusedVariables false
set_option linter.unusedSimpArgs false
set_option maxRecDepth 100000
namespace Go.Proofs.Ytcfpkmfppgodmaa
open Go.RowKit Go.Proofs

def ExE (gc base gl n : Nat) (vs : List Value) (W : World) (p : Value) (wx : World) : Prop :=
  ∃ (l' : List (List Ev)), p = .slice (some ⟨gl, 0, none⟩) n n ∧ LinM wx base gl n vs l' ∧ (∀ q, (l'.getD q []).length ≤ 100) ∧ Spl gc vs W wx
theorem Spl.trans {gc : Nat} {vs : List Value} {a b c : World} (h : Spl gc vs a b) (k : Spl gc vs b c) : Spl gc vs a c := Same.trans h k (fun i hi => ⟨by have := h.size; have := hi.1; omega, hi.2.1, hi.2.2⟩)
set_option maxHeartbeats 32000000 in
theorem replayExists_walk (w : World) (A : Option Addr) (n0 c0 : Nat) (l : List (List Ev)) (hl : SlR w (· < w.heap.size) 1 (EvsR w (· < w.heap.size)) A n0 c0 l) (hn0 : n0 ≤ 17592186044416) (hlx : ∀ x ∈ l, x.length ≤ 17592186044416)
    (A3 : Option Addr) (n3 c3 : Nat) (zs : List Int) (hz : Sl encB 1 w (· < w.heap.size) A3 n3 c3 zs) (hz8 : ∀ y ∈ zs, 0 ≤ y ∧ y < 256) :
    Calls Try.prog 6 #[.slice A n0 c0, .slice A3 n3 c3] w (Aw34Post w) := by
  have hnl := hl.1
  have hsz := fun (W : World) (hk : Keep w W) => size_any W (· < w.heap.size) A n0 c0 l (hl.keep hk (EvsR.keep hk)) (by omega) (fun x hx => by have := hlx x hx; omega)
  have HL := Lib.hid hl
  have HZ := Lib.hid hz
  have HZ8 := Lib.hid hz8
  have HLX := Lib.hid hlx
  have HNL := Lib.hid hnl
  have HSZ := Lib.hid hsz
  clear hl hz hz8 hlx hnl hsz
  obtain ⟨z, hzz⟩ : ∃ z, z = sizeS l := ⟨_, rfl⟩
  have HZZ := Lib.hid hzz
  clear hzz
  go_enter Try.func6, Try.ntmps6
  go_wp2_with fail
  refine (awake34_any w).mono ?_
  rintro e w1 ⟨rfl, hk1⟩
  have hz1 := hk1.size
  have HK1 := Lib.hid hk1
  clear hk1
  go_wp2_with fail
  refine (HSZ.out w1 HK1.out).mono ?_
  rintro e w2 ⟨rfl, j1, hw2⟩
  have hk2 : Keep w w2 := Keep.trans HK1.out (hw2 ▸ Keep.draws w1 j1)
  rw [← HZZ.out]
  have HK2 := Lib.hid hk2
  clear hk2
  clear hw2 j1
  by_cases c100 : 100 < z
  · have t0 : decide ((100 : Int) < (z : Int)) = true := by simp; omega
    have t0' : decide (100 < z) = true := by simpa using c100
    go_wp2_with fail
    refine (HSZ.out w2 HK2.out).mono ?_
    rintro e w3 ⟨rfl, j1, hw3⟩
    have hk3 : Keep w w3 := Keep.trans HK2.out (hw3 ▸ Keep.draws w2 j1)
    rw [← HZZ.out]
    have HK3 := Lib.hid hk3
    clear hk3
    clear hw3 j1
    go_wp2_with fail
    go_ret
    exact ⟨rfl, HK3.out⟩
  have t0 : decide ((100 : Int) < (z : Int)) = false := by simp; omega
  have t0' : decide (100 < z) = false := by simpa using c100
  have hsl := sizeS_le (l := l) (by have := HZZ.out; omega)
  obtain ⟨hsl1, hsl2⟩ := hsl
  have hn100 : n0 ≤ 100 := by have := HNL.out; omega
  have HSL2 := Lib.hid hsl2
  have HSL1 := Lib.hid hsl1
  clear hsl2 hsl1
  clear HSZ HZZ HLX
  go_wp2_with fail
  refine (new_any w2 A3 n3 c3 250 zs (fun i => i < w.heap.size) (fun i hi => by have := HK2.out.size; omega) (HZ.out.keep HK2.out) HZ8.out (by omega)).mono ?_
  rintro e w3 ⟨r, hr, rfl, hc3, hk3⟩
  have hz2 := HK2.out.size
  have hz3 := hk3.size
  have hk3' := Keep.trans HK2.out hk3
  have hgc := hc3.lt
  obtain ⟨gc, hgce⟩ : ∃ gc, gc = w2.heap.size := ⟨_, rfl⟩
  rw [← hgce] at hc3 hgc
  rw [← hgce]
  have hgcw : w.heap.size ≤ gc := by omega
  have HK3' := Lib.hid hk3'
  have HC3 := Lib.hid hc3
  clear hk3' hc3
  clear hk3 hgce
  go_wp2_with fail
  refine (lineages_any w3 _ gc r 30 HC3.out (by omega)).mono ?_
  rintro e w4 ⟨B1, B2, B3, n, d1, m2, d2, m3, d3, base, gl, ls, vs, l0, rk, rfl, hn2, hn4, hls, hle, hfine, hs1, hbase, hm4, ⟨r4, hc4⟩, ho4⟩
  have hz4 := ho4.size
  have hk4 : Keep w w4 := Same.trans HK3'.out ho4 (fun i hi => by omega)
  have hlow := hm4.low
  have hgl4 := hm4.blk.lt
  have hlens0 : ∀ q, (l0.getD q []).length ≤ 100 := fun q => by
    rcases Nat.lt_or_ge q ls.length with h | h
    · rw [hfine.lens q h]; have := hle q; omega
    · have : l0.getD q [] = [] := by
        have h2 : l0[q]? = none := List.getElem?_eq_none (by rw [hfine.len]; exact h)
        simp [List.getD, h2]
      rw [this]; exact Nat.zero_le _
  have hVS : ∀ v ∈ vs, ∀ b, v.ownBlock = some b → base ≤ b ∧ b < w4.heap.size := fun v hv b hb => by
    obtain ⟨k, hk⟩ := List.mem_iff_getElem?.1 hv
    exact hm4.lt hk hb
  have HK4 := Lib.hid hk4
  have HM4 := Lib.hid hm4
  have HC4 := Lib.hid hc4
  have HS1 := Lib.hid hs1
  have HLENS0 := Lib.hid hlens0
  have HLE := Lib.hid hle
  have HVS := Lib.hid hVS
  clear hk4 hm4 hc4 hs1 hlens0 hle hVS
  clear hfine ho4 HC3 HK3' hls
  go_upto_region 5 with (refine wpList_store_all rfl _ (.tmp 7) (.tmp 32) rfl w4.heap.size 32 _ [.slice B1 n d1, .slice B2 m2 d2, .slice B3 m3 d3] rfl rfl (Blk.new _ _ _) rfl (by kernel_rfl) rfl ?_; intro w5 hb5 hs5)
  have hk45 : Keep w4 w5 := Keep.write (Keep.new _ _) hs5 (Nat.le_refl _)
  have hz5 : w4.heap.size < w5.heap.size := hb5.lt
  have hk5 := Keep.trans HK4.out hk45
  have hm5 := HM4.out.keep hk45
  have hc5 := HC4.out.keep hk45
  have HK5 := Lib.hid hk5
  have HM5 := Lib.hid hm5
  have HC5 := Lib.hid hc5
  clear hk5 hm5 hc5
  clear hs5 hb5 hk45 HM4 HC4 HS1 HLE
  try simp only [Act.put]
  go_wp2_with fail
  refine (next_any w5 _ gc _ 2 HC5.out (by omega) (by omega)).mono ?_
  rintro e w7 ⟨v1, hv10, hv11, rfl, hc7, ho7⟩
  have hz7 := ho7.size
  have hk7 : Keep w w7 := Same.trans HK5.out ho7 (fun i hi => by omega)
  have hm7 := HM5.out.same (ho7.mono (fun i hi => ⟨hi.2, by have := hi.1; omega⟩))
  have HC7 := Lib.hid hc7
  have HK7 := Lib.hid hk7
  have HM7 := Lib.hid hm7
  clear hc7 hk7 hm7
  clear ho7 HC5 HK5 HM5
  go_upto_if 35 with fail
  generalize hbb : (v1 == 1) = bb
  clear hbb
  go_cut [6] from 36 to 40 (fun p wx => ExE gc base gl n vs w7 p wx)
  case first =>
    cases bb with
    | true =>
      go_wp2_with fail
      refine (spoilL_any w7 _ gc _ base gl n vs l0 HC7.out (fun i hi => by rcases hi with h | h <;> omega) HM7.out (by omega) (by omega) (fun q => by have := HLENS0.out q; omega)).mono ?_
      rintro e w8 ⟨l1, rfl, hm8, hlen1, ⟨r8, hc8⟩, hspl⟩
      have hlens1 : ∀ q, (l1.getD q []).length ≤ 100 := fun q => by rw [hlen1 q]; exact HLENS0.out q
      have HM8 := Lib.hid hm8
      have HLENS1 := Lib.hid hlens1
      have HC8 := Lib.hid hc8
      have HSPL := Lib.hid hspl
      clear hm8 hlens1 hc8 hspl
      clear hlen1
      go_wp2_with fail
      refine (spoilL_any w8 _ gc _ base gl n vs l1 HC8.out (fun i hi => by rcases hi with h | h <;> omega) HM8.out (by omega) (by omega) (fun q => by have := HLENS1.out q; omega)).mono ?_
      rintro e w9 ⟨l2, rfl, hm9, hlen2, -, hspl2⟩
      have hfin : ExE gc base gl n vs w7 (.slice (some ⟨gl, 0, none⟩) n n) w9 := ⟨l2, rfl, hm9, fun q => by rw [hlen2 q]; exact HLENS1.out q, HSPL.out.trans hspl2⟩
      have HFIN := Lib.hid hfin
      clear hfin
      clear hm9 hlen2 hspl2
      go_wp2_with fail
      go_meet
      exact HFIN.out
    | false =>
      have hfin : ExE gc base gl n vs w7 (.slice (some ⟨gl, 0, none⟩) n n) w7 := ⟨l0, rfl, HM7.out, HLENS0.out, Same.refl _ _⟩
      have HFIN := Lib.hid hfin
      clear hfin
      go_wp2_with fail
      go_meet
      exact HFIN.out
  case rest =>
    obtain ⟨m, rfl, hm10, hmlen, hspl⟩ := hcut
    obtain ⟨w10, rfl⟩ : ∃ w10 : World, w10 = wc := ⟨_, rfl⟩
    have hz10 := hspl.size
    have hk10 : Keep w w10 := Same.trans HK7.out hspl (fun i hi => ⟨by omega, by omega, fun v hv hb => by have := HVS.out v hv i hb; omega⟩)
    have zl : ∀ wx, Keep w10 wx → SlR wx (· < w10.heap.size) 1 (EvsR wx (· < w10.heap.size)) A n0 c0 l := fun wx hx => ((HL.out.keep hk10 (EvsR.keep hk10)).more (T := (· < w10.heap.size)) (fun i hi => by omega) (EvsR.more (fun i hi => by omega))).keep hx (EvsR.keep hx)
    have zm : ∀ wx, Keep w10 wx → SlR wx (· < w10.heap.size) 1 (EvsR wx (· < w10.heap.size)) (some ⟨gl, 0, none⟩) n n m := fun wx hx => ((hm10.slr (by simp [maxLen]; omega)).more (T := (· < w10.heap.size)) (fun i hi => hi.2) (EvsR.more (fun i hi => hi.2))).keep hx (EvsR.keep hx)
    have hmx := getD_mem_le hmlen
    have hr10 : Keep w10 w10 := Same.refl _ _
    clear hspl hm10 hmlen
    have ZL := Lib.hid zl
    have ZM := Lib.hid zm
    have HMX := Lib.hid hmx
    have HK10 := Lib.hid hk10
    clear zl zm hmx hk10
    clear HVS HC7 HM7 HK7 HLENS0 HK2 HK1 HL HZ HZ8
    go_wp2_with fail
    refine (witness_any w10 (· < w10.heap.size) A n0 c0 l (fun i hi => by omega) (ZL.out w10 hr10) (by omega) (fun x hx => by have := HSL2.out x hx; omega)).mono ?_
    intro e w11 hp
    obtain ⟨b10, o10, Q10, q10, p10, rfl, hs10, hb10, hkk, hsl10⟩ := schPost_open hp
    have hr11 := Keep.trans hr10 hkk
    have hz11 := hkk.size
    have HS10 := Lib.hid hs10
    clear hs10
    clear hp hkk hsl10 hb10
    go_wp2_with fail
    refine (track_any w11 (· < w10.heap.size) A n0 c0 l (fun i hi => by omega) (ZL.out w11 hr11) (by omega) (fun x hx => by have := HSL2.out x hx; omega)).mono ?_
    rintro e w12 ⟨V11, b11, rfl, ht11, hkk⟩
    have hr12 := Keep.trans hr11 hkk
    have hz12 := hkk.size
    have HT11 := Lib.hid ht11
    clear ht11
    clear hkk
    go_wp2_with fail
    refine (witness_any w12 (· < w10.heap.size) (some ⟨gl, 0, none⟩) n n m (fun i hi => by omega) (ZM.out w12 hr12) (by omega) (fun x hx => by have := HMX.out x hx; omega)).mono ?_
    intro e w13 hp
    obtain ⟨b12, o12, Q12, q12, p12, rfl, hs12, hb12, hkk, hsl12⟩ := schPost_open hp
    have hr13 := Keep.trans hr12 hkk
    have hz13 := hkk.size
    have HS12 := Lib.hid hs12
    clear hs12
    clear hp hkk hsl12 hb12
    go_wp2_with fail
    refine (track_any w13 (· < w10.heap.size) (some ⟨gl, 0, none⟩) n n m (fun i hi => by omega) (ZM.out w13 hr13) (by omega) (fun x hx => by have := HMX.out x hx; omega)).mono ?_
    rintro e w14 ⟨V13, b13, rfl, ht13, hkk⟩
    have hr14 := Keep.trans hr13 hkk
    have hz14 := hkk.size
    have HT13 := Lib.hid ht13
    clear ht13
    clear hkk
    obtain rfl : b10 = b11 := Bool.eq_iff_iff.2 ((sched_rank HS10.out).trans HT11.out.symm)
    obtain rfl : b12 = b13 := Bool.eq_iff_iff.2 ((sched_rank HS12.out).trans HT13.out.symm)
    have tb10 : (b10 == b10) = true := by cases b10 <;> rfl
    have tb12 : (b12 == b12) = true := by cases b12 <;> rfl
    have kw : Keep w w14 := Keep.trans HK10.out hr14
    have KW := Lib.hid kw
    clear kw
    clear hr10 hr11 hr12 hr13 hr14
    go_wp2_with fail
    go_ret
    exact ⟨rfl, KW.out⟩
end Go.Proofs.Ytcfpkmfppgodmaa
