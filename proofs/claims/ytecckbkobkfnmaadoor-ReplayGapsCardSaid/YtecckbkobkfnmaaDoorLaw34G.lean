/- The law ReplayGaps: written by gen_law34r.py. -/
import Derived.Test.YtecckbkobkfnmaaDoorGR
set_option linter.unusedVariables false
set_option linter.unusedSimpArgs false
set_option maxRecDepth 100000
namespace Go.Proofs.YtecckbkobkfnmaaDoor
open Go.RowKit Go.Proofs

set_option maxHeartbeats 32000000 in
theorem replayGaps_walk (w : World) (A : Option Addr) (n c : Nat) (zs : List Int) (x1 x2 : Int) (hx1 : I64 x1) (hx2 : I64 x2) (hg : Glob w) (hz : Sl encB 1 w (· < w.heap.size) A n c zs) (hz8 : ∀ y ∈ zs, 0 ≤ y ∧ y < 256) :
    Calls Tryd.prog 10 #[.slice A n c, .int .i64 x1, .int .i64 x2] w (Aw34Post w) := by
  obtain ⟨iE, hi0, iz0, iz1, iz2⟩ := info_of info_Event
  obtain ⟨iD, hj0, jz0, jz1, jz2⟩ := info_of info_Det
  have HG := Lib.hid hg
  have HZ := Lib.hid hz
  have HZ8 := Lib.hid hz8
  have HI0 := Lib.hid hi0
  have IZ0 := Lib.hid iz0
  have IZ1 := Lib.hid iz1
  have IZ2 := Lib.hid iz2
  have HJ0 := Lib.hid hj0
  have JZ0 := Lib.hid jz0
  have JZ1 := Lib.hid jz1
  have JZ2 := Lib.hid jz2
  have HX1 := Lib.hid hx1
  have HX2 := Lib.hid hx2
  clear hg hz hz8 hi0 iz0 iz1 iz2 hj0 jz0 jz1 jz2 hx1 hx2
  go_enter Tryd.func10, Tryd.ntmps10
  go_wp2_with fail
  refine (awake34_any w).mono ?_
  rintro e w1 ⟨rfl, hk1⟩
  have hz1 := hk1.size
  have HK1 := Lib.hid hk1
  clear hk1
  go_wp2_with fail
  refine (new_any w1 A n c 250 zs (fun i => i < w.heap.size) (fun i hi => by omega) (HZ.out.keep HK1.out) HZ8.out (by omega)).mono ?_
  rintro e w2 ⟨r, hr, rfl, hc2, hk2⟩
  have hz2 := hk2.size
  have hk2' := Keep.trans HK1.out hk2
  have hg2 := HG.out.keep hk2'
  have hgc := hc2.lt
  generalize hgce : w1.heap.size = gc at *
  have HK2' := Lib.hid hk2'
  have HG2 := Lib.hid hg2
  have HC2 := Lib.hid hc2
  clear hk2' hg2 hc2
  clear hk2
  go_wp2_with fail
  refine (chatter_any w2 _ gc r HC2.out HG2.out).mono ?_
  rintro e w3 ⟨cs3, cd, r3, rfl, hcd, hc3, ho3⟩
  have hz3 := ho3.size
  obtain ⟨B0, B1, B2, B3, B4, p0, q0, p1, q1, p2, q2, p3, q3, p4, q4, rfl, hcx⟩ := cd_open hcd
  have hk3 : Keep w w3 := Same.trans HK2'.out ho3 (fun i hi => by omega)
  have hci : cd.init.length ≤ 1000000 := by obtain ⟨_, _, _, _, _, _, _, _, _, _, _, _, _, _, _, _, _, _, _, _, _, h⟩ := hcx; exact h
  have HCX := Lib.hid hcx
  have HC3 := Lib.hid hc3
  have HK3 := Lib.hid hk3
  have HCI := Lib.hid hci
  clear hcx hc3 hk3 hci
  clear hcd ho3
  go_wp2_with fail
  refine (next_any w3 _ gc r3 3 HC3.out (by omega) (by omega)).mono ?_
  rintro e w4 ⟨me, hme0, hme1, rfl, hc4, ho4⟩
  have hz4 := ho4.size
  have hk4 : Keep w w4 := Same.trans HK3.out ho4 (fun i hi => by omega)
  have hcx4 := HCX.out.keep (ho4.mono (fun i (hi : New w3 w2.heap.size i) => ⟨hi.2, by have := hi.1; omega⟩))
  have HCX4 := Lib.hid hcx4
  have HC4 := Lib.hid hc4
  have HK4 := Lib.hid hk4
  clear hcx4 hc4 hk4
  clear ho4
  go_upto_region 5 with (refine wpList_store_all rfl _ (.tmp 8) (.tmp 21) rfl w4.heap.size 38 _ [.slice B0 p0 q0, .slice B1 p1 q1, .slice B2 p2 q2, .slice B3 p3 q3, .slice B4 p4 q4] rfl rfl (Blk.new _ _ _) rfl (by kernel_rfl) rfl ?_; intro w5 hb5 hs5)
  have hk45 : Keep w4 w5 := Keep.write (Keep.new _ _) hs5 (Nat.le_refl _)
  have hz5 : w4.heap.size < w5.heap.size := hb5.lt
  have hcx5 : CdR w5 (fun i => w2.heap.size ≤ i ∧ i < w4.heap.size) [.slice B0 p0 q0, .slice B1 p1 q1, .slice B2 p2 q2, .slice B3 p3 q3, .slice B4 p4 q4] cd := (HCX4.out.keep (Same.mono hk45 (fun i (hi : New w3 w2.heap.size i) => by have := hi.2; omega))).more (fun i hi => ⟨hi.1, by have := hi.2; omega⟩)
  have hc5 := HC4.out.keep hk45
  have hk5 := Keep.trans HK4.out hk45
  have HB5 := Lib.hid hb5
  have HCX5 := Lib.hid hcx5
  have HC5 := Lib.hid hc5
  have HK5 := Lib.hid hk5
  clear hb5 hcx5 hc5 hk5
  clear hs5 hk45
  go_wp2_with fail
  refine (events_own w5 _ gc _ 10 (by omega) HC5.out).mono ?_
  rintro e w6 ⟨A6, c6, l, rfl, hown6, hlen, ⟨r6, hc6⟩, ho6⟩
  have hz6 := ho6.size
  have hb6 := ho6.blk HB5.out ⟨by omega, by omega⟩
  have hcx6 := HCX5.out.keep (ho6.mono (fun i hi => ⟨by have := hi.2; omega, by have := hi.1; omega⟩))
  have hk6 : Keep w w6 := Same.trans HK5.out ho6 (fun i hi => by omega)
  have HOWN6 := Lib.hid hown6
  have HB6 := Lib.hid hb6
  have HCX6 := Lib.hid hcx6
  have HK6 := Lib.hid hk6
  clear hown6 hb6 hcx6 hk6
  clear hc6 ho6
  go_upto_region 6 with (first
    | (refine wpList_bld rfl 51 _ rfl _ [(0, .int .i64 2)] rfl bld_tick ?_)
    | (refine wpList_buildX rfl 23 51 1 _ rfl Tryd.underlying23 _ [(0, .agg (encEv tickE).toArray)] rfl built_tick ?_; intro wx hbx hkx hzx; have HBX := Lib.hid hbx; have HKX := Lib.hid hkx; clear hbx hkx)
    | (at_builtin; refine wpList_append_any _ rfl (.tmp 25) (.tmp 27) 23 rfl w5.heap.size 51 iE _ 7 56 Tryd.underlying23 HI0.out IZ0.out IZ1.out IZ2.out rfl (by omega) (.slice A6 l.length c6) l.length (l.flatMap encEv) rfl (ownsRow_same HOWN6.out HKX.out (fun i hi => hi.2)) _ (some ⟨w6.heap.size, 0, none⟩) 1 1 (encEv tickE) rfl (reads_blk HBX.out rfl) (encEv_one _) (by simp [maxLen]; omega) (by omega) (by omega) ?_; intro v7 w7 how hg7 hat7; obtain ⟨A7, c7, hv7, hnc7, hcm7⟩ := own_form how; subst hv7; have HOW := Lib.hid how; have HG7 := Lib.hid hg7; clear how hg7 hat7; refine Hid.out ?_))
  refine Lib.hid ?_
  have hs67 : Same (· < w5.heap.size) w6 w7 := Same.append (Same.mono HKX.out (fun i (hi : i < w5.heap.size) => by omega)) (ownsRow_same HOWN6.out HKX.out (fun i hi => hi.2)) HG7.out (fun i hi => hi) (by omega)
  have hz7 := hs67.size
  obtain ⟨L, hL⟩ : ∃ L : List Ev, L = l ++ [tickE] := ⟨_, rfl⟩
  obtain ⟨N, hN⟩ : ∃ N : Nat, N = l.length + 1 := ⟨_, rfl⟩
  have hNL : N = L.length := by rw [hN, hL]; simp
  have hev7 : Sl encEv 7 w7 (fun i => w5.heap.size ≤ i ∧ i < w7.heap.size) A7 N c7 L := by
    refine ⟨hNL, by omega, hcm7, ?_⟩
    have := Reads.of_own HOW.out
    rw [← hN] at this
    rw [hL]
    simpa using this
  have hb7 := hs67.blk HB6.out (by omega)
  have hcx7 := HCX6.out.keep (hs67.mono (fun i hi => by have := hi.2; omega))
  have hk7 : Keep w w7 := Same.trans HK6.out hs67 (fun i hi => by omega)
  have hn11 : N ≤ 11 := by omega
  have hn1 : 1 ≤ N := by omega
  rw [← hN] at hnc7
  generalize hsl7 : Value.slice A7 (l.length + 1) c7 = sl7 at *
  rw [← hN] at hsl7
  subst hsl7
  have HB7 := Lib.hid hb7
  have HCX7 := Lib.hid hcx7
  have HK7 := Lib.hid hk7
  have HEV7 := Lib.hid hev7
  have HNL := Lib.hid hNL
  clear hb7 hcx7 hk7 hev7 hNL
  clear HOW HG7 HOWN6 HB6 HCX6 HK6 HBX HKX hs67 hL hN hlen HB5 HCX5 HK5 HC5 hcm7
  go_wp2_with fail
  refine (mod_any x1 N w7 HX1.out (by omega) (by omega)).mono ?_
  rintro e w8 ⟨rfl, hq⟩
  subst hq
  obtain ⟨m0, m1⟩ := modS_lt x1 N (by omega)
  generalize modS x1 N = kz at *
  obtain ⟨k, rfl⟩ := Int.eq_ofNat_of_zero_le m0
  have hkN : k < N := by omega
  clear m0 m1
  go_wp2_with fail
  refine (mod_any x2 ((N : Int) - k) w7 HX2.out (by omega) (by omega)).mono ?_
  rintro e w8 ⟨rfl, hq⟩
  subst hq
  obtain ⟨m0, m1⟩ := modS_lt x2 ((N : Int) - k) (by omega)
  generalize modS x2 ((N : Int) - k) = jz at *
  obtain ⟨j, rfl⟩ := Int.eq_ofNat_of_zero_le m0
  have hjN : k + j < N := by omega
  clear m0 m1
  go_upto_region 8 with fail
  obtain ⟨g, hge⟩ : ∃ g : Nat, g = k + 1 + j := ⟨_, rfl⟩
  have hgz : (k : Int) + 1 + j = (g : Int) := by omega
  rw [hgz]
  have hg1 : k < g := by omega
  have hg2 : g ≤ N := by omega
  clear hgz hge hjN
  go_wp2_with fail
  refine (lineage_any w7 (fun i => i < w7.heap.size) A7 N c7 L me (fun i hi => hi) (HEV7.out.more (fun i hi => hi.2)) (by omega)).mono ?_
  rintro e w8 ⟨A8, n8, c8, rfl, hal, hk78⟩
  have hz8 := hk78.size
  have hn8 : n8 = N := by have := hal.1; rw [linS_len] at this; have := HNL.out; omega
  subst hn8
  have hb8 := hk78.blk HB7.out HB7.out.lt
  have hcx8 := HCX7.out.keep (Same.mono hk78 (fun i hi => by have := hi.2; omega))
  have hev8 := HEV7.out.keep (Same.mono hk78 (fun i hi => hi.2))
  have hk8 := Keep.trans HK7.out hk78
  have HAL := Lib.hid hal
  have HB8 := Lib.hid hb8
  have HCX8 := Lib.hid hcx8
  have HEV8 := Lib.hid hev8
  have HK8 := Lib.hid hk8
  clear hal hb8 hcx8 hev8 hk8
  clear hk78 HB7 HCX7 HEV7 HK7
  go_wp2_with fail
  go_loopw [13, 15] (fun v i wr => GapRel g (linS me 1 L) w8 v i wr) (fun _ i _ => n8 - (intOf i).toNat)
  case atStart => exact ⟨0, Nat.zero_le _, rfl, World.ownsRow_nil _ _ _ _, Same.refl _ _⟩
  case round =>
    obtain ⟨i, hil, rfl, hown, hkp⟩ := hrel
    rw [linS_len] at hil
    have hf := gapS_len g (linS me 1 L) i
    have hiN : i ≤ n8 := by have := HNL.out; omega
    have hsz := hkp.size
    by_cases hi : i < n8
    · obtain ⟨b, off, d, rfl, hSb, hy, hcell⟩ := (HAL.out.keep (Same.mono hkp (fun i hi => hi.2))).at_ encDt_len hi
      have hd1 : decide (i < n8) = true := by simpa using hi
      have hd2 : (0 : Int) ≤ i := by omega
      have hd3 : (i : Int) < n8 := by omega
      have hdi := lin_at hy
      have hsn := gapS_snoc (g := g) hy
      have hrg : wr.rangeAt b (off + i * 9) [.int .i64 d.proc, .int .i64 d.idx, .int .i64 d.ev.kind, .int .i64 d.ev.inc, .int .i64 d.ev.frm, .int .i64 d.ev.sInc, .int .i64 d.ev.sIdx, .int .i64 d.ev.ord, .int .i64 d.ev.val] := hcell
      obtain ⟨m, hm⟩ : ∃ m, m = (gapS g ((linS me 1 L).take i)).length := ⟨_, rfl⟩
      have hm2 : m ≤ i := by omega
      rw [← hm] at hown
      have hil1 : i + 1 ≤ (linS me 1 L).length := by rw [linS_len]; have := HNL.out; omega
      have HRG := Lib.hid hrg
      have HSN := Lib.hid hsn
      have HKP := Lib.hid hkp
      have HOWN := Lib.hid hown
      have HM := Lib.hid hm
      have HDI := Lib.hid hdi
      have HIL1 := Lib.hid hil1
      clear hrg hsn hkp hown hm hdi hil1
      clear hcell hy hf hil hSb
      cases q1 : ((i : Int) + 1 != (g : Int))
      · have hne : ¬ d.idx ≠ g := by rw [HDI.out]; simpa using q1
        have HNE := Lib.hid hne
        clear hne
        go_wp2_with fail
        go_roundw
        case rel =>
          refine ⟨i + 1, HIL1.out, by go_num, ?_, HKP.out⟩
          rw [HSN.out, if_neg HNE.out, List.append_nil, ← HM.out]
          exact HOWN.out
        case measure => simp [intOf]; omega
      · have hne : d.idx ≠ g := by rw [HDI.out]; simpa using q1
        have HNE := Lib.hid hne
        clear hne
        go_wp2_with (first
          | (refine wpList_load_mid rfl _ (.tmp 58) rfl b (off + i * 9) rfl [.int .i64 d.proc, .int .i64 d.idx, .int .i64 d.ev.kind, .int .i64 d.ev.inc, .int .i64 d.ev.frm, .int .i64 d.ev.sInc, .int .i64 d.ev.sIdx, .int .i64 d.ev.ord, .int .i64 d.ev.val] _ HRG.out Tryd.underlying72 rfl (by kernel_rfl) ?_)
          | (refine wpList_buildS rfl 69 72 1 _ rfl Tryd.underlying69 _ [(0, .agg #[.int .i64 d.proc, .int .i64 d.idx, .int .i64 d.ev.kind, .int .i64 d.ev.inc, .int .i64 d.ev.frm, .int .i64 d.ev.sInc, .int .i64 d.ev.sIdx, .int .i64 d.ev.ord, .int .i64 d.ev.val])] rfl (built_det1 _ _ _ _ _ _ _ _ _) ?_)
          | (at_builtin; refine wpList_append_any _ rfl (.tmp 55) (.tmp 60) 69 rfl w8.heap.size 72 iD _ 9 72 Tryd.underlying69 HJ0.out JZ0.out JZ1.out JZ2.out rfl (by omega) _ m _ rfl (HOWN.out.alloc _) _ (some ⟨wr.heap.size, 0, none⟩) 1 1 (encDt d) rfl (Reads.new rfl) (encDt_one _) (by simp [maxLen]; omega) (by omega) (by simp; omega) ?_; intro v5 w5 hown5 hg5 hat5))
        go_roundw
        case rel =>
          refine ⟨i + 1, HIL1.out, by go_num, ?_, ?_⟩
          · rw [HSN.out, if_pos HNE.out, List.length_append, ← HM.out, List.flatMap_append]
            simpa using hown5
          · exact (Keep.alloc HKP.out _).append (HOWN.out.alloc _) hg5 (fun i hi => hi) (by simp; omega)
        case measure => simp [intOf]; omega
    · have hd1 : decide (i < n8) = false := by simpa using hi
      obtain ⟨A9, c9, rfl, hst⟩ := Sl.of_own hown
      have htl : (linS me 1 L).take i = linS me 1 L := List.take_of_length_le (by rw [linS_len]; have := HNL.out; omega)
      rw [htl] at hst
      have hlen9 : (gapS g ((linS me 1 L).take i)).length = (gapS g (linS me 1 L)).length := by rw [htl]
      have hle9 : (gapS g (linS me 1 L)).length ≤ 11 := by
        have := gapS_len g (linS me 1 L) i
        omega
      rw [hlen9]
      generalize hn9 : (gapS g (linS me 1 L)).length = n9 at *
      have hb9 := hkp.blk HB8.out HB8.out.lt
      have hcx9 := HCX8.out.keep (Same.mono hkp (fun i hi => by have := hi.2; omega))
      have hev9 := HEV8.out.keep (Same.mono hkp (fun i hi => by have := hi.2; omega))
      have hk9 := Keep.trans HK8.out hkp
      have hrec := rec_gap (c := cd) (p := me) (procs := 3) L k g hg1 (by have := HNL.out; omega)
      have hix9 : ∀ d ∈ gapS g (linS me 1 L), I64 d.idx := fun d hd => idx_small (by have := HNL.out; omega) d (List.mem_filter.1 hd).1
      have hkc : (k : Int) ≤ c7 := by omega
      have hgc7 : (g : Int) - 1 ≤ c7 := by omega
      have hg0 : (0 : Int) ≤ (g : Int) - 1 := by omega
      have HST := Lib.hid hst
      have HB9 := Lib.hid hb9
      have HCX9 := Lib.hid hcx9
      have HEV9 := Lib.hid hev9
      have HK9 := Lib.hid hk9
      have HREC := Lib.hid hrec
      have HIX9 := Lib.hid hix9
      have HN9 := Lib.hid hn9
      clear hst hb9 hcx9 hev9 hk9 hrec hix9 hn9
      clear htl hlen9 hown hkp HAL HB8 HCX8 HEV8 HK8 hil hiN hf
      have hwr : IntKind.i64.wrap ((g : Int) - 1) = (g : Int) - 1 := IntWalk.i64_in _ (by omega)
      have htn : ((g : Int) - 1).toNat = g - 1 := by omega
      have hg10 : (1 : Int) ≤ (g : Int) := by omega
      have hg11 : 1 ≤ g := by omega
      go_upto_region 15 with fail
      refine wp_region_L 99 (fun _ => True) (fun wx => Keep wr wx) (by kernel_rfl) trivial (Same.drew (Same.refl _ _)) (fun hA hB => ?_)
      generalize hu0 : wr.drew = u0 at hB ⊢
      clear hu0
      have y0 := hB.size
      refine wpL_takeB (i := 0) rfl (by kernel_rfl) (by kernel_rfl) (by kernel_rfl) (by decide) (fun _ _ _ h => h) (yieldsIf_blk (by rfl) _ _ rfl w4.heap.size 0 38 _ [.slice B0 p0 q0, .slice B1 p1 q1, .slice B2 p2 q2, .slice B3 p3 q3, .slice B4 p4 q4] _ rfl (fun wx hx => hx.blk HB9.out HB9.out.lt) (fun j u hu => by simpa using hu) Tryd.underlying38 rfl (by kernel_rfl)) (SAB.both hA hB) ?_
      try simp only [Act.put, List.setIfInBounds_toArray, List.set_cons_zero, List.set_cons_succ]
      refine wpL_takeB (i := 2) rfl (by kernel_rfl) (by kernel_rfl) (by kernel_rfl) (by decide) (fun _ _ _ h => h) (yieldsIf_blk (by rfl) _ _ rfl w4.heap.size 0 38 _ [.slice B0 p0 q0, .slice B1 p1 q1, .slice B2 p2 q2, .slice B3 p3 q3, .slice B4 p4 q4] _ rfl (fun wx hx => hx.blk HB9.out HB9.out.lt) (fun j u hu => by simpa using hu) Tryd.underlying38 rfl (by kernel_rfl)) (SAB.both hA hB) ?_
      try simp only [Act.put, List.setIfInBounds_toArray, List.set_cons_zero, List.set_cons_succ]
      refine wpL_takeB (i := 10) rfl (by kernel_rfl) (by kernel_rfl) (by kernel_rfl) (by decide) (fun _ _ _ h => h) (yieldsIf_blk (by rfl) _ _ rfl w4.heap.size 0 38 _ [.slice B0 p0 q0, .slice B1 p1 q1, .slice B2 p2 q2, .slice B3 p3 q3, .slice B4 p4 q4] _ rfl (fun wx hx => hx.blk HB9.out HB9.out.lt) (fun j u hu => by simpa using hu) Tryd.underlying38 rfl (by kernel_rfl)) (SAB.both hA hB) ?_
      try simp only [Act.put, List.setIfInBounds_toArray, List.set_cons_zero, List.set_cons_succ]
      refine wpL_takeB (i := 1) (v := ?_) rfl (by kernel_rfl) (by kernel_rfl) (by kernel_rfl) (by decide) (fun _ _ _ h => h) (Or.inl ⟨by rfl, ?_⟩) (SAB.both hA hB) ?_
      rotate_left
      · intro wx hBx
        (try dsimp only at hBx)
        go_simp
        try with_reducible rfl
      try simp only [Act.put, List.setIfInBounds_toArray, List.set_cons_zero, List.set_cons_succ]
      refine wpL_takeB (i := 3) (v := ?_) rfl (by kernel_rfl) (by kernel_rfl) (by kernel_rfl) (by decide) (fun _ _ _ h => h) (Or.inl ⟨by rfl, ?_⟩) (SAB.both hA hB) ?_
      rotate_left
      · intro wx hBx
        (try dsimp only at hBx)
        go_simp
        try with_reducible rfl
      try simp only [Act.put, List.setIfInBounds_toArray, List.set_cons_zero, List.set_cons_succ]
      refine wpL_takeB (i := 4) (v := ?_) rfl (by kernel_rfl) (by kernel_rfl) (by kernel_rfl) (by decide) (fun _ _ _ h => h) (Or.inl ⟨by rfl, ?_⟩) (SAB.both hA hB) ?_
      rotate_left
      · intro wx hBx
        (try dsimp only at hBx)
        go_simp
        try with_reducible rfl
      try simp only [Act.put, List.setIfInBounds_toArray, List.set_cons_zero, List.set_cons_succ]
      refine wpL_takeB (i := 5) (v := ?_) rfl (by kernel_rfl) (by kernel_rfl) (by kernel_rfl) (by decide) (fun _ _ _ h => h) (Or.inl ⟨by rfl, ?_⟩) (SAB.both hA hB) ?_
      rotate_left
      · intro wx hBx
        (try dsimp only at hBx)
        go_simp
        try with_reducible rfl
      try simp only [Act.put, List.setIfInBounds_toArray, List.set_cons_zero, List.set_cons_succ]
      refine wpL_takeB (i := 6) (v := ?_) rfl (by kernel_rfl) (by kernel_rfl) (by kernel_rfl) (by decide) (fun _ _ _ h => h) (Or.inl ⟨by rfl, ?_⟩) (SAB.both hA hB) ?_
      rotate_left
      · intro wx hBx
        (try dsimp only at hBx)
        go_simp
        try with_reducible rfl
      try simp only [Act.put, List.setIfInBounds_toArray, List.set_cons_zero, List.set_cons_succ]
      refine wpL_takeB (i := 8) (v := ?_) rfl (by kernel_rfl) (by kernel_rfl) (by kernel_rfl) (by decide) (fun _ _ _ h => h) (Or.inl ⟨by rfl, ?_⟩) (SAB.both hA hB) ?_
      rotate_left
      · intro wx hBx
        (try dsimp only at hBx)
        go_simp
        try with_reducible rfl
      try simp only [Act.put, List.setIfInBounds_toArray, List.set_cons_zero, List.set_cons_succ]
      refine wpL_takeB (i := 11) (v := ?_) rfl (by kernel_rfl) (by kernel_rfl) (by kernel_rfl) (by decide) (fun _ _ _ h => h) (Or.inl ⟨by rfl, ?_⟩) (SAB.both hA hB) ?_
      rotate_left
      · intro wx hBx
        (try dsimp only at hBx)
        go_simp
        try with_reducible rfl
      try simp only [Act.put, List.setIfInBounds_toArray, List.set_cons_zero, List.set_cons_succ]
      refine wpL_takeB (i := 12) (v := ?_) rfl (by kernel_rfl) (by kernel_rfl) (by kernel_rfl) (by decide) (fun _ _ _ h => h) (Or.inl ⟨by rfl, ?_⟩) (SAB.both hA hB) ?_
      rotate_left
      · intro wx hBx
        (try dsimp only at hBx)
        go_simp
        try with_reducible rfl
      try simp only [Act.put, List.setIfInBounds_toArray, List.set_cons_zero, List.set_cons_succ]
      refine wpL_takeB (i := 13) (v := ?_) rfl (by kernel_rfl) (by kernel_rfl) (by kernel_rfl) (by decide) (fun _ _ _ h => h) (Or.inl ⟨by rfl, ?_⟩) (SAB.both hA hB) ?_
      rotate_left
      · intro wx hBx
        (try dsimp only at hBx)
        go_simp
        try with_reducible rfl
      try simp only [Act.put, List.setIfInBounds_toArray, List.set_cons_zero, List.set_cons_succ]
      refine wpL_takeB (i := 14) (v := ?_) rfl (by kernel_rfl) (by kernel_rfl) (by kernel_rfl) (by decide) (fun _ _ _ h => h) (Or.inl ⟨by rfl, ?_⟩) (SAB.both hA hB) ?_
      rotate_left
      · intro wx hBx
        (try dsimp only at hBx)
        go_simp
        try with_reducible rfl
      try simp only [Act.put, List.setIfInBounds_toArray, List.set_cons_zero, List.set_cons_succ]
      refine wpL_takeB (i := 15) (v := ?_) rfl (by kernel_rfl) (by kernel_rfl) (by kernel_rfl) (by decide) (fun _ _ _ h => h) (Or.inl ⟨by rfl, ?_⟩) (SAB.both hA hB) ?_
      rotate_left
      · intro wx hBx
        (try dsimp only at hBx)
        go_simp
        try with_reducible rfl
      try simp only [Act.put, List.setIfInBounds_toArray, List.set_cons_zero, List.set_cons_succ]
      refine wpL_one (i := 7) (by kernel_rfl) (StepL.mk rfl (fun K hK => ?_))
      go_simp
      refine (preplay_any u0 (fun i => i < u0.heap.size) [.slice B0 p0 q0, .slice B1 p1 q1, .slice B2 p2 q2, .slice B3 p3 q3, .slice B4 p4 q4] cd me 3 A7 k c7 (L.take k) (fun i hi => hi) ((HCX9.out.keep (Same.mono hB (fun i hi => by have := hi.2; omega))).more (fun i hi => by have := hi.2; omega)) ((upto_sl HEV9.out (by omega) hB).to_ encEv_len (by omega)) (by rw [List.length_take]; omega)).mono ?_
      rintro e u1 ⟨cs1, rfl, hr1', hk1'⟩
      obtain ⟨X1, X2, X3, X4, xn1, xc1, xn2, xc2, xn3, xc3, xn4, xc4, rfl, hr1⟩ := st_open hr1'
      have y1 := hk1'.size
      have fX := hr1.more (T := fun i => i < u1.heap.size) (Sn.lt (fun i hi => hi) y1)
      have ha := Keep.trans hB hk1'
      clear hr1' hr1
      refine hK.out _ _ (SAB.both trivial ha) (fun hSS => ?_)
      clear hK K hA hB
      have hB := hSS.2
      have hA := hSS.1 (by kernel_rfl)
      (try dsimp only at hB); (try dsimp only at hA); clear hSS
      try simp only [Act.put, List.setIfInBounds_toArray, List.set_cons_zero, List.set_cons_succ]
      clear ha
      have hl1 := replayS_len cd me 3 (L.take k)
      have hlt := List.length_take_le k L
      refine wpL_one (i := 9) (by kernel_rfl) (StepL.mk rfl (fun K hK => ?_))
      go_simp
      refine (precover_any u1 (fun i => i < u1.heap.size) [.slice B0 p0 q0, .slice B1 p1 q1, .slice B2 p2 q2, .slice B3 p3 q3, .slice B4 p4 q4] [.slice X1 xn1 xc1, .slice X2 xn2 xc2, .slice X3 xn3 xc3, .slice X4 xn4 xc4] cd (replayS cd me 3 (L.take k)) me 3 A9 n9 c9 (gapS g (linS me 1 L)) (fun i hi => hi) ((HCX9.out.keep (Same.mono hB (fun i hi => by have := hi.2; omega))).more (fun i hi => by have := hi.2; omega)) fX (by rw [← HN9.out]; exact upto_sl (HN9.out ▸ HST.out) (Nat.le_refl _) hB) (by have := HN9.out; omega) HIX9.out (by rw [hl1.1]; exact HCI.out) (by omega) (by omega) (by omega)).mono ?_
      rintro e u2 ⟨cs2, t, rfl, hrt, b1, b2, b3, b4, hr2', hk2'⟩
      obtain rfl : t = replayS cd me 3 (L.take (g - 1)) := RecS.det hrt HREC.out
      obtain ⟨Y1, Y2, Y3, Y4, yn1, yc1, yn2, yc2, yn3, yc3, yn4, yc4, rfl, hr2⟩ := st_open hr2'
      have y2 := hk2'.size
      have fY := hr2.more (T := fun i => i < u2.heap.size) (Sn.lt (fun i hi => hi) y2)
      have ha := Keep.trans hB hk2'
      clear hr2' hr2 fX hrt b1 b2 b3 b4
      refine hK.out _ _ (SAB.both trivial ha) (fun hSS => ?_)
      clear hK K hA hB
      have hB := hSS.2
      have hA := hSS.1 (by kernel_rfl)
      (try dsimp only at hB); (try dsimp only at hA); clear hSS
      try simp only [Act.put, List.setIfInBounds_toArray, List.set_cons_zero, List.set_cons_succ]
      clear ha hl1 hlt
      refine wpL_one (i := 16) (by kernel_rfl) (StepL.mk rfl (fun K hK => ?_))
      go_simp
      refine (preplay_any u2 (fun i => i < u2.heap.size) [.slice B0 p0 q0, .slice B1 p1 q1, .slice B2 p2 q2, .slice B3 p3 q3, .slice B4 p4 q4] cd me 3 A7 (g - 1) c7 (L.take (g - 1)) (fun i hi => hi) ((HCX9.out.keep (Same.mono hB (fun i hi => by have := hi.2; omega))).more (fun i hi => by have := hi.2; omega)) ((upto_sl HEV9.out (by omega) hB).to_ encEv_len (by omega)) (by rw [List.length_take]; omega)).mono ?_
      rintro e u3 ⟨cs3', rfl, hr3', hk3'⟩
      obtain ⟨Z1, Z2, Z3, Z4, zn1, zc1, zn2, zc2, zn3, zc3, zn4, zc4, rfl, hr3⟩ := st_open hr3'
      have y3 := hk3'.size
      have fZ := hr3.more (T := fun i => i < u3.heap.size) (Sn.lt (fun i hi => hi) y3)
      have fY' := (fY.keep (Same.mono hk3' (fun i hi => hi))).more (T := fun i => i < u3.heap.size) (fun i hi => Nat.lt_of_lt_of_le hi y3)
      have ha := Keep.trans hB hk3'
      clear hr3' hr3 fY
      refine hK.out _ _ (SAB.both trivial ha) (fun hSS => ?_)
      clear hK K hA hB
      have hB := hSS.2
      have hA := hSS.1 (by kernel_rfl)
      (try dsimp only at hB); (try dsimp only at hA); clear hSS
      try simp only [Act.put, List.setIfInBounds_toArray, List.set_cons_zero, List.set_cons_succ]
      clear ha
      refine wpL_one (i := 17) (by kernel_rfl) (StepL.mk rfl (fun K hK => ?_))
      go_simp
      refine (psame_any u3 (fun i => i < u3.heap.size) [.slice Y1 yn1 yc1, .slice Y2 yn2 yc2, .slice Y3 yn3 yc3, .slice Y4 yn4 yc4] [.slice Z1 zn1 zc1, .slice Z2 zn2 zc2, .slice Z3 zn3 zc3, .slice Z4 zn4 zc4] (replayS cd me 3 (L.take (g - 1))) (replayS cd me 3 (L.take (g - 1))) (fun i hi => hi) fY' fZ (fine_replay _ _ _ HCI.out (by rw [List.length_take]; have := HNL.out; omega)) (fine_replay _ _ _ HCI.out (by rw [List.length_take]; have := HNL.out; omega))).mono ?_
      rintro e u4 ⟨b4, hb4, rfl, hk4'⟩
      obtain rfl : b4 = true := hb4.2 rfl
      have ha := Keep.trans hB hk4'
      clear fY' fZ hb4
      refine hK.out _ _ (SAB.both trivial ha) (fun hSS => ?_)
      clear hK K hA hB
      have hB := hSS.2
      have hA := hSS.1 (by kernel_rfl)
      (try dsimp only at hB); (try dsimp only at hA); clear hSS
      try simp only [Act.put, List.setIfInBounds_toArray, List.set_cons_zero, List.set_cons_succ]
      clear ha
      have hfin : Aw34Post w (.returned (.bool true)) u4 := ⟨rfl, Keep.trans HK9.out hB⟩
      have HFIN := Lib.hid hfin
      clear hfin
      refine wpL_takeB (i := 18) (v := ?_) rfl (by kernel_rfl) (by kernel_rfl) (by kernel_rfl) (by decide) (fun _ _ _ h => h) (Or.inl ⟨by rfl, ?_⟩) (SAB.both hA hB) ?_
      rotate_left
      · intro wx hBx
        (try dsimp only at hBx)
        go_simp
        try with_reducible rfl
      try simp only [Act.put, List.setIfInBounds_toArray, List.set_cons_zero, List.set_cons_succ]
      refine wpL_done (by kernel_rfl) ?_
      clear hA hB
      go_wp2_with fail
      go_ret
      exact HFIN.out
end Go.Proofs.YtecckbkobkfnmaaDoor
