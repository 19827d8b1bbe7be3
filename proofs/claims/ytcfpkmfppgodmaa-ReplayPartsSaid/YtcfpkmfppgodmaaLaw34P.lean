/- The law ReplayParts. -/
import Derived.Test.YtcfpkmfppgodmaaLow2
import Derived.Test.YtcfpkmfppgodmaaCut
import Derived.Test.YtcfpkmfppgodmaaRowIn
set_option linter.unusedVariables false
set_option linter.unusedSimpArgs false
set_option maxRecDepth 100000
namespace Go.Proofs.Ytcfpkmfppgodmaa
open Go.RowKit Go.Proofs

theorem intsN_lens {ls : List Nat} {l : List (List Ev)} (hl : l.length = ls.length) (h : ∀ q, q < ls.length → (l.getD q []).length = ls.getD q 0) : intsN ls = lensL l := by
  refine ext_getD (by simp [intsN_len, lensL, hl]) fun q hq => ?_
  rw [intsN_len] at hq
  rw [lensL_getD, h q hq]
  have := intsN_get hq
  exact getD_of this
theorem InR.low {l : List (List Ev)} {ys : List Int} (h : InR l ys) : Rng l (zerosL l.length) ys := ⟨by simp [zerosL], h.1, fun q hq => by
  rw [zerosL_getD]
  have := h.2 q hq
  omega⟩
theorem InR.high {l : List (List Ev)} {ys : List Int} (h : InR l ys) : Rng l ys (lensL l) := ⟨h.1, by simp [lensL], fun q hq => by
  rw [lensL_getD]
  have := h.2 q hq
  omega⟩
theorem FitR.shut {l : List (List Ev)} {ys : List Int} (h : FitR l ys l.length) (at_ : List Int) : Shut l at_ ys := fun q k e hq _ hk he h1 => by
  have := h q k e hq hk he
  rw [possS_lab h1] at this
  simp only [Bool.and_eq_true, decide_eq_true_eq] at this
  exact this.2
def PoR (n : Nat) (W : World) (i : Value) (wr : World) : Prop := ∃ k : Nat, i = .int .i64 k ∧ k ≤ n ∧ Keep W wr
def PnR (base sg : Int) (x : Chc) (v : List Chc) (W : World) (n i : Value) (wr : World) : Prop :=
  ∃ k : Nat, i = .int .i64 k ∧ k ≤ v.length ∧ n = .int .i64 (base + sg * (cntC x (v.take k) : Int)) ∧ Keep W wr
theorem pn_up {base sg : Int} {x d : Chc} {v : List Chc} {k : Nat} (h : v[k]? = some d) : base + sg * (cntC x (v.take (k + 1)) : Int) = if d = x then base + sg * (cntC x (v.take k) : Int) + sg else base + sg * (cntC x (v.take k) : Int) := by
  rw [cntC_snoc h]
  split
  · rw [Int.natCast_add, Int.mul_add]; simp; omega
  · simp
set_option maxHeartbeats 32000000 in
theorem replayParts_walk (w : World) (A3 : Option Addr) (n3 c3 : Nat) (zs : List Int) (hz : Sl encB 1 w (· < w.heap.size) A3 n3 c3 zs) (hz8 : ∀ y ∈ zs, 0 ≤ y ∧ y < 256) :
    Calls Try.prog 5 #[.slice A3 n3 c3] w (Aw34Post w) := by
  obtain ⟨iI, hi0, iz0, is0, ib0⟩ := info_of info_Int
  have hmk := fun (n : Nat) (hn : n ≤ 1000) W => run_make_row (P := Try.prog) 23 3 iI _ Try.underlying23 hi0 iz0 .i64 .i64 n n (Nat.le_refl _) (by rw [ib0]; omega) (by omega) W
  simp only [is0, made_zeros] at hmk
  have HZ := Lib.hid hz
  have HZ8 := Lib.hid hz8
  have HMK := Lib.hid hmk
  clear hz hz8 hmk
  clear hi0 iz0 is0 ib0
  go_enter Try.func5, Try.ntmps5
  go_wp2_with fail
  refine (awake34_any w).mono ?_
  rintro e w1 ⟨rfl, hk1⟩
  have hz1 := hk1.size
  have HK1 := Lib.hid hk1
  clear hk1
  go_wp2_with fail
  refine (new_any w1 A3 n3 c3 250 zs (fun i => i < w.heap.size) (fun i hi => by omega) (HZ.out.keep HK1.out) HZ8.out (by omega)).mono ?_
  rintro e w3 ⟨r, hr, rfl, hc3, hk3⟩
  have hz3 := hk3.size
  have hk3' := Keep.trans HK1.out hk3
  have hgc := hc3.lt
  obtain ⟨gc, hgce⟩ : ∃ gc, gc = w1.heap.size := ⟨_, rfl⟩
  rw [← hgce] at hc3 hgc
  rw [← hgce]
  have hgcw : w.heap.size ≤ gc := by omega
  have HK3' := Lib.hid hk3'
  have HC3 := Lib.hid hc3
  clear hk3' hc3
  clear hk3 hgce
  go_wp2_with fail
  refine (lineages_any w3 _ gc r 30 HC3.out (by omega)).mono ?_
  rintro e w4 ⟨B1, B2, B3, n, d1, m2, d2, m3, d3, base, gl, ls, vs, l, rk, rfl, hn2, hn4, hls, hle, hfine, hs1, hbase, hm4, ⟨r4, hc4⟩, ho4⟩
  have hz4 := ho4.size
  have hk4 : Keep w w4 := Same.trans HK3'.out ho4 (fun i hi => by omega)
  have hlow := hm4.low
  have hgl4 := hm4.blk.lt
  have hle60 : ∀ q, ls.getD q 0 ≤ 60 := fun q => Nat.le_trans (hle q) (by omega)
  have hlens : intsN ls = lensL l := intsN_lens (by rw [hfine.len]) (fun q hq => hfine.lens q hq)
  have hlen100 := getD_mem_le (hfine.lenAt (fun q => Nat.le_trans (hle q) (by omega)))
  have HK4 := Lib.hid hk4
  have HM4 := Lib.hid hm4
  have HS1 := Lib.hid hs1
  have HFINE := Lib.hid hfine
  have HLE60 := Lib.hid hle60
  have HLS := Lib.hid hls
  have HC4 := Lib.hid hc4
  have HLENS := Lib.hid hlens
  have HLEN100 := Lib.hid hlen100
  clear hk4 hm4 hs1 hfine hle60 hls hc4 hlens hlen100
  clear ho4 HC3 HK3' hle
  go_upto_region 5 with (refine wpList_store_all rfl _ (.tmp 5) (.tmp 26) rfl w4.heap.size 32 _ [.slice B1 n d1, .slice B2 m2 d2, .slice B3 m3 d3] rfl rfl (Blk.new _ _ _) rfl (by kernel_rfl) rfl ?_; intro w5 hb5 hs5)
  have hk45 : Keep w4 w5 := Keep.write (Keep.new _ _) hs5 (Nat.le_refl _)
  have hz5 : w4.heap.size < w5.heap.size := hb5.lt
  have hk5 := Keep.trans HK4.out hk45
  have hm5 := HM4.out.keep hk45
  have hc5 := HC4.out.keep hk45
  have hs15 := HS1.out.keep (hk45.mono (fun i hi => by have := hi.2; omega))
  obtain ⟨g4, hg4⟩ : ∃ g, g = w4.heap.size := ⟨_, rfl⟩
  rw [← hg4] at hb5
  rw [← hg4]
  have hg4w : w4.heap.size ≤ g4 := by omega
  have hg4l := hb5.lt
  have hll : l.length = n := hm5.llen
  have HB5 := Lib.hid hb5
  have HK5 := Lib.hid hk5
  have HM5 := Lib.hid hm5
  have HS15 := Lib.hid hs15
  have HLL := Lib.hid hll
  have HC5 := Lib.hid hc5
  clear hb5 hk5 hm5 hs15 hll hc5
  clear hs5 hk45 HM4 HS1 HC4 hg4
  try simp only [Act.put]
  go_wp2_with (refine wpList_load_all rfl _ (.tmp 5) rfl g4 32 [.slice B1 n d1, .slice B2 m2 d2, .slice B3 m3 d3] _ rfl HB5.out Try.underlying32 rfl (by kernel_rfl) ?_)
  refine (cut_any w5 _ gc _ (fun i => w3.heap.size ≤ i ∧ i < base) B1 B2 B3 n d1 m2 d2 m3 d3 ls HC5.out (fun i hi => by have := hi.1; have := hi.2; omega) HS15.out HLE60.out (by omega)).mono ?_
  rintro e w6 ⟨X, cX, xs, rfl, hxl, hxle, hxs, -, ho6⟩
  have hz6 := ho6.size
  have hk6 : Keep w w6 := Same.trans HK5.out ho6 (fun i hi => by omega)
  have hm6 := HM5.out.same (ho6.mono (fun i hi => ⟨hi.2, by have := hi.1; omega⟩))
  have hb6 := ho6.blk HB5.out ⟨hg4l, by omega⟩
  have hs16 := HS15.out.keep (ho6.mono (fun i hi => by have := hi.1; have := hi.2; omega))
  have hslr := (hm6.slr (by simp [maxLen]; omega)).more (T := (· < w6.heap.size)) (fun i hi => hi.2) (EvsR.more (fun i hi => hi.2))
  have key := lower_any w6 (· < w6.heap.size) (some ⟨gl, 0, none⟩) X n n cX l (intsN xs) (fun i hi => hi) hslr (hxs.more (fun i hi => hi.2)) (by omega) (fun x hx => by have := HLEN100.out x hx; omega)
  have HK6 := Lib.hid hk6
  have HM6 := Lib.hid hm6
  have HB6 := Lib.hid hb6
  have HS16 := Lib.hid hs16
  have KEY := Lib.hid key
  clear hk6 hm6 hb6 hs16 key
  clear ho6 hslr hxs hxle HK5 HM5 HB5 HS15 HC5
  go_wp2_with fail
  refine KEY.out.mono ?_
  rintro e w7 ⟨Y, cY, ys, rfl, hin, hfit, hys, hk67⟩
  have hz7 := hk67.size
  have hk7 := Keep.trans HK6.out hk67
  have hm7 := HM6.out.keep hk67
  have hb7 := hk67.blk HB6.out (by have := HB6.out.lt; omega)
  have hs17 := HS16.out.keep (hk67.mono (fun i hi => by have := hi.2; omega))
  have hmk7 := HMK.out n (by omega)
  -- the first part
  have hk78 : Keep w7 (w7.alloc (.cells (zerosA n) 3)) := Keep.new _ _
  have hzr := (own_ints (own_zeros w7 n (by omega))).more (T := (· < (w7.alloc (.cells (zerosA n) 3)).heap.size)) (fun i hi => hi.2)
  have hslr := ((hm7.slr (by simp [maxLen]; omega)).more (T := (· < w7.heap.size)) (fun i hi => hi.2) (EvsR.more (fun i hi => hi.2)))
  have hslr8 := (hslr.keep hk78 (EvsR.keep hk78)).more (T := (· < (w7.alloc (.cells (zerosA n) 3)).heap.size)) (fun i hi => Nat.lt_of_lt_of_le hi hk78.size) (EvsR.more (fun i hi => Nat.lt_of_lt_of_le hi hk78.size))
  have hys7 := hys.more (T := (· < w7.heap.size)) (fun i hi => hi.2)
  have hys8 := (hys7.keep hk78).more (T := (· < (w7.alloc (.cells (zerosA n) 3)).heap.size)) (fun i hi => Nat.lt_of_lt_of_le hi hk78.size)
  have key := schedule_any (w7.alloc (.cells (zerosA n) 3)) _ (some ⟨gl, 0, none⟩) _ Y n n n n n cY l (zerosL n) ys (fun i hi => hi) hslr8 hzr hys8 (by omega) (fun x hx => by have := HLEN100.out x hx; omega) (by omega) (by omega)
  have HK7 := Lib.hid hk7
  have HM7 := Lib.hid hm7
  have HB7 := Lib.hid hb7
  have HS17 := Lib.hid hs17
  have KEY := Lib.hid key
  have HIN := Lib.hid hin
  have HFIT := Lib.hid hfit
  have HK78 := Lib.hid hk78
  have HYS7 := Lib.hid hys7
  clear hk7 hm7 hb7 hs17 key hin hfit hk78 hys7
  clear hzr hslr hslr8 hys8 hys hk67 HK6 HM6 HB6 HS16
  go_wp2_with fail
  refine KEY.out.mono ?_
  intro e w8 hp
  rw [show zerosL n = zerosL l.length by rw [HLL.out]] at hp
  obtain ⟨oa, QA, qa, pa, rfl, hruna, hsia, hk88, hsla⟩ := sched_open HFINE.out HIN.out.low (HFIT.out.shut _) hp
  have hk79 : Keep w7 w8 := Keep.trans HK78.out hk88
  have hz8' := hk79.size
  have hk8 := Keep.trans HK7.out hk79
  have hm8 := HM7.out.keep hk79
  have hb8 := hk79.blk HB7.out (by have := HB7.out.lt; omega)
  have hs18 := HS17.out.keep (hk79.mono (fun i hi => by have := hi.2; omega))
  have hla := hsla.1
  have hqa : qa ≤ 1000000 := by
    have h1 := schIs_len hsia HLEN100.out
    have h2 := Nat.mul_le_mul_right 100 (show l.length ≤ 4 by have := HLL.out; omega)
    omega
  have hsa8 := hsla.more (T := (· < w8.heap.size)) (fun i hi => hi.2)
  -- the second part
  have hslr8 := ((hm8.slr (by simp [maxLen]; omega)).more (T := (· < w8.heap.size)) (fun i hi => hi.2) (EvsR.more (fun i hi => hi.2)))
  have hys8 := (HYS7.out.keep hk79).more (T := (· < w8.heap.size)) (fun i hi => by omega)
  have hs8x := hs18.more (T := (· < w8.heap.size)) (fun i hi => by have := hi.2; omega)
  rw [HLENS.out] at hs8x
  have key := schedule_any w8 _ (some ⟨gl, 0, none⟩) Y B1 n n n cY n d1 l ys (lensL l) (fun i hi => hi) hslr8 hys8 hs8x (by omega) (fun x hx => by have := HLEN100.out x hx; omega) (by omega) (by omega)
  have x4 : w8.cell? ⟨g4, 0, none⟩ = some (.slice B1 n d1) := by rw [hb8.cell]; rfl
  have HK8 := Lib.hid hk8
  have HM8 := Lib.hid hm8
  have HLA := Lib.hid hla
  have HSA8 := Lib.hid hsa8
  have KEY := Lib.hid key
  have HRUNA := Lib.hid hruna
  clear hk8 hm8 hla hsa8 key hruna
  clear hslr8 hys8 hs8x hb8 hs18 hk79 hk88 hsla hsia HK7 HM7 HB7 HS17 HYS7 HK78 hp
  go_wp2_with fail
  refine KEY.out.mono ?_
  intro e w9 hp
  obtain ⟨ob, QB, qb, pb, rfl, hrunb, hsib, hk89, hslb⟩ := sched_open HFINE.out HIN.out.high (HFINE.out.shut _) hp
  have hz9 := hk89.size
  have hk9 := Keep.trans HK8.out hk89
  have hm9 := HM8.out.keep hk89
  have hlb := hslb.1
  have hqb : qb ≤ 1000000 := by
    have h1 := schIs_len hsib HLEN100.out
    have h2 := Nat.mul_le_mul_right 100 (show l.length ≤ 4 by have := HLL.out; omega)
    omega
  have hsa9 := (HSA8.out.keep hk89).more (T := (· < w9.heap.size)) (fun i hi => by omega)
  have hsb9 := hslb.more (T := (· < w9.heap.size)) (fun i hi => hi.2)
  have hslr9 := ((hm9.slr (by simp [maxLen]; omega)).more (T := (· < w9.heap.size)) (fun i hi => hi.2) (EvsR.more (fun i hi => hi.2)))
  have key := witness_any w9 (· < w9.heap.size) (some ⟨gl, 0, none⟩) n n l (fun i hi => hi) hslr9 (by omega) (fun x hx => by have := HLEN100.out x hx; omega)
  have HK9 := Lib.hid hk9
  have HLB := Lib.hid hlb
  have HSA9 := Lib.hid hsa9
  have HSB9 := Lib.hid hsb9
  have KEY := Lib.hid key
  have HRUNB := Lib.hid hrunb
  clear hk9 hlb hsa9 hsb9 key hrunb
  clear hslr9 hm9 hk89 hslb hsib HK8 HM8 HSA8 x4 hp
  go_wp2_with fail
  refine KEY.out.mono ?_
  intro e w0 hp
  obtain ⟨ow, QW, qw, pw, rfl, hrunw, hsiw, hk90, hslw⟩ := sched_open HFINE.out (rng_full l) (HFINE.out.shut _) hp
  have hz0 := hk90.size
  have hk0 := Keep.trans HK9.out hk90
  have hlw := hslw.1
  have hqw : qw ≤ 1000000 := by
    have h1 := schIs_len hsiw HLEN100.out
    have h2 := Nat.mul_le_mul_right 100 (show l.length ≤ 4 by have := HLL.out; omega)
    omega
  have hsla := (HSA9.out.keep hk90).more (T := (· < w0.heap.size)) (fun i hi => by omega)
  have hslb := (HSB9.out.keep hk90).more (T := (· < w0.heap.size)) (fun i hi => by omega)
  have hslw := hslw.more (T := (· < w0.heap.size)) (fun i hi => hi.2)
  have hcnt := fun x => parts_count HRUNA.out HRUNB.out hrunw (by simp [zerosL]) HIN.out.1 x
  have hlen := parts_len HRUNA.out HRUNB.out hrunw (by simp [zerosL]) HIN.out.1
  have hsum : (qa : Int) + qb = qw := by have := HLA.out; have := HLB.out; omega
  have hwr : IntKind.i64.wrap ((qa : Int) + qb) = qw := by rw [hsum]; exact IntWalk.i64_in _ (by omega)
  have tq : ((qw : Int) != (qw : Int)) = false := by simp
  have tq' : (qw != qw) = false := by simp
  have HK0 := Lib.hid hk0
  have HLW := Lib.hid hlw
  have HSLA := Lib.hid hsla
  have HSLB := Lib.hid hslb
  have HSLW := Lib.hid hslw
  have HCNT := Lib.hid hcnt
  clear hk0 hlw hsla hslb hslw hcnt
  clear hrunw hsiw hp hk90 hsum hlen HK9 HSA9 HSB9 HRUNA HRUNB HFIT HIN HFINE KEY
  go_wp2_with fail
  go_loopw [13] (fun i wr => PoR qw w0 i wr) (fun i _ => qw - (intOf i).toNat)
  case atStart => exact ⟨0, rfl, Nat.zero_le _, Same.refl _ _⟩
  case round =>
    obtain ⟨k, rfl, hkw', hkr0⟩ := hrel
    have hzk := hkr0.size
    by_cases hkn : k < qw
    · obtain ⟨be2, oe2, x, rfl, hbx2, hx, hcellx⟩ := (HSLW.out.keep hkr0).at_ encCh_len hkn
      have hd1 : decide (k < qw) = true := by simpa using hkn
      have hd1' : decide ((k : Int) < (qw : Int)) = true := by simp; omega
      have k0 : (0 : Int) ≤ k := by omega
      have k1 : (k : Int) < qw := by omega
      obtain ⟨wo, rfl⟩ : ∃ wo : World, wo = wr := ⟨_, rfl⟩
      have hbl2 : be2 < wo.heap.size := by have := hbx2; omega
      have hr2 : ∀ wx, Keep wo wx → wx.rangeAt be2 (oe2 + k * 6) [.int .i64 x.proc, .int .i64 x.kind, .int .i64 x.frm, .int .i64 x.idx, .int .i64 x.ord, .int .i64 x.val] := fun wx hx i u hu => (hx.cell (p := ⟨be2, oe2 + k * 6 + i, none⟩) hbl2).trans (hcellx i u hu)
      have hSA := (HSLA.out.keep hkr0).more (T := (· < wo.heap.size)) (fun i hi => Nat.lt_of_lt_of_le hi hkr0.size)
      have hSB := (HSLB.out.keep hkr0).more (T := (· < wo.heap.size)) (fun i hi => Nat.lt_of_lt_of_le hi hkr0.size)
      have hSW := (HSLW.out.keep hkr0).more (T := (· < wo.heap.size)) (fun i hi => Nat.lt_of_lt_of_le hi hkr0.size)
      have hca := cntC_le x oa
      have hcb := cntC_le x ob
      have hcw := cntC_le x ow
      have hla := HLA.out
      have hlb := HLB.out
      have hlw := HLW.out
      have hct := HCNT.out x
      obtain ⟨na, hna⟩ : ∃ na, na = cntC x oa := ⟨_, rfl⟩
      obtain ⟨nb, hnb⟩ : ∃ nb, nb = cntC x ob := ⟨_, rfl⟩
      obtain ⟨nw, hnw⟩ : ∃ nw, nw = cntC x ow := ⟨_, rfl⟩
      rw [← hna, ← hnb, ← hnw] at hct
      rw [← hna] at hca
      rw [← hnb] at hcb
      rw [← hnw] at hcw
      have HKR0 := Lib.hid hkr0
      have HR2 := Lib.hid hr2
      have HSA := Lib.hid hSA
      have HSB := Lib.hid hSB
      have HSW := Lib.hid hSW
      have HNA := Lib.hid hna
      have HNB := Lib.hid hnb
      have HNW := Lib.hid hnw
      have HLA := Lib.hid hla
      have HLB := Lib.hid hlb
      have HLW := Lib.hid hlw
      clear hkr0 hr2 hSA hSB hSW hna hnb hnw hla hlb hlw
      clear hcellx hx
      go_wp2_with fail
      go_loopw [14, 15] (fun v i wr => PnR 0 1 x ow wo v i wr) (fun _ i _ => qw - (intOf i).toNat)
      case atStart => exact ⟨0, rfl, Nat.zero_le _, by rw [List.take_zero, cntC_nil]; simp, Same.refl _ _⟩
      case round =>
        obtain ⟨j, rfl, hjo, rfl, hkr⟩ := hrel
        have hzr := hkr.size
        by_cases hjn : j < qw
        · obtain ⟨be, oe, d, hQ, hbx, hd, hcell⟩ := (HSW.out.keep (hkr.mono (fun i hi => by omega))).at_ encCh_len hjn
          try subst hQ
          try (simp only [Option.some.injEq, Addr.mk.injEq, and_true] at hQ; obtain ⟨rfl, rfl⟩ := hQ)
          have t0 : decide (j < qw) = true := by simpa using hjn
          have t0' : decide ((j : Int) < (qw : Int)) = true := by simp; omega
          have i0 : (0 : Int) ≤ j := by omega
          have i1 : (j : Int) < qw := by omega
          have hbl : be2 < wr.heap.size := by have := hbx; omega
          have hr1 : ∀ wx, Keep wr wx → wx.rangeAt be2 (oe2 + j * 6) [.int .i64 d.proc, .int .i64 d.kind, .int .i64 d.frm, .int .i64 d.idx, .int .i64 d.ord, .int .i64 d.val] := fun wx hx i u hu => (hx.cell (p := ⟨be2, oe2 + j * 6 + i, none⟩) hbl).trans (hcell i u hu)
          have hr3 : ∀ wx, Keep wr wx → wx.rangeAt be2 (oe2 + k * 6) [.int .i64 x.proc, .int .i64 x.kind, .int .i64 x.frm, .int .i64 x.idx, .int .i64 x.ord, .int .i64 x.val] := fun wx hx => HR2.out wx (Keep.trans hkr hx)
          have hup := pn_up (base := 0) (sg := 1) (x := x) hd
          have hcl := cntC_le x (ow.take j)
          have hjl : (ow.take j).length ≤ j := by rw [List.length_take]; omega
          obtain ⟨c, hc⟩ : ∃ c, c = cntC x (ow.take j) := ⟨_, rfl⟩
          rw [← hc] at hup hcl
          rw [← hc]
          obtain ⟨v, hv⟩ : ∃ v : Int, v = 0 + 1 * (c : Int) := ⟨_, rfl⟩
          have hL1 := HLA.out
          have hL2 := HLB.out
          have hL3 := HLW.out
          have hvr : -10000000 ≤ v ∧ v ≤ 10000000 := by omega
          rw [← hv] at hup
          rw [← hv]
          have hjq : j + 1 ≤ ow.length := by have := HLW.out; omega
          have hnx : ∀ wx, Keep wr wx → PnR 0 1 x ow wo (.int .i64 (if d = x then v + 1 else v)) (.int .i64 ((j : Int) + 1)) wx := fun wx hx => ⟨j + 1, by go_num, hjq, by rw [hup], Keep.trans hkr hx⟩
          have HR1 := Lib.hid hr1
          have HR3 := Lib.hid hr3
          have HKR := Lib.hid hkr
          have HNX := Lib.hid hnx
          have HV := Lib.hid hv
          clear hr1 hr3 hkr hnx hv
          clear hcell hup hc hcl hd hL1 hL2 hL3
          go_upto_region 18 with fail
          refine wp_region_L 99 (fun _ => True) (fun wx => Keep wr wx) (by kernel_rfl) trivial (Same.drew (Same.refl _ _)) (fun hA hB => ?_)
          generalize hu0 : wr.drew = u0 at hB ⊢
          clear hu0
          refine wpL_takeB (i := 0) (v := ?_) rfl (by kernel_rfl) (by kernel_rfl) (by kernel_rfl) (by decide) (fun _ _ _ h => h) (Or.inl ⟨by rfl, ?_⟩) (SAB.both hA hB) ?_
          rotate_left
          · intro wx hBx
            (try dsimp only at hBx)
            go_simp
            try with_reducible rfl
          try simp only [Act.put, List.setIfInBounds_toArray, List.set_cons_zero, List.set_cons_succ]
          refine wpL_takeB (i := 1) (v := ?_) rfl (by kernel_rfl) (by kernel_rfl) (by kernel_rfl) (by decide) (fun _ _ _ h => h) (Or.inl ⟨by rfl, ?_⟩) (SAB.both hA hB) ?_
          rotate_left
          · intro wx hBx
            (try dsimp only at hBx)
            go_simp
            try with_reducible rfl
          try simp only [Act.put, List.setIfInBounds_toArray, List.set_cons_zero, List.set_cons_succ]
          refine wpL_takeB (i := 2) (v := ?_) rfl (by kernel_rfl) (by kernel_rfl) (by kernel_rfl) (by decide) (fun _ _ _ h => h) (Or.inl ⟨by rfl, ?_⟩) (SAB.both hA hB) ?_
          rotate_left
          · intro wx hBx
            (try dsimp only at hBx)
            go_simp
            try with_reducible rfl
          try simp only [Act.put, List.setIfInBounds_toArray, List.set_cons_zero, List.set_cons_succ]
          refine wpL_takeB (i := 3) rfl (by kernel_rfl) (by kernel_rfl) (by kernel_rfl) (by decide) (fun _ _ _ h => h) (yieldsIf_load_mid (by rfl) _ _ rfl be2 (oe2 + j * 6) rfl [.int .i64 d.proc, .int .i64 d.kind, .int .i64 d.frm, .int .i64 d.idx, .int .i64 d.ord, .int .i64 d.val] _ (fun wx hx => HR1.out wx hx) Try.underlying45 rfl (by kernel_rfl)) (SAB.both hA hB) ?_
          try simp only [Act.put, List.setIfInBounds_toArray, List.set_cons_zero, List.set_cons_succ]
          refine wpL_takeB (i := 4) (v := ?_) rfl (by kernel_rfl) (by kernel_rfl) (by kernel_rfl) (by decide) (fun _ _ _ h => h) (Or.inl ⟨by rfl, ?_⟩) (SAB.both hA hB) ?_
          rotate_left
          · intro wx hBx
            (try dsimp only at hBx)
            go_simp
            try with_reducible rfl
          try simp only [Act.put, List.setIfInBounds_toArray, List.set_cons_zero, List.set_cons_succ]
          refine wpL_takeB (i := 5) (v := ?_) rfl (by kernel_rfl) (by kernel_rfl) (by kernel_rfl) (by decide) (fun _ _ _ h => h) (Or.inl ⟨by rfl, ?_⟩) (SAB.both hA hB) ?_
          rotate_left
          · intro wx hBx
            (try dsimp only at hBx)
            go_simp
            try with_reducible rfl
          try simp only [Act.put, List.setIfInBounds_toArray, List.set_cons_zero, List.set_cons_succ]
          refine wpL_takeB (i := 6) (v := ?_) rfl (by kernel_rfl) (by kernel_rfl) (by kernel_rfl) (by decide) (fun _ _ _ h => h) (Or.inl ⟨by rfl, ?_⟩) (SAB.both hA hB) ?_
          rotate_left
          · intro wx hBx
            (try dsimp only at hBx)
            go_simp
            try with_reducible rfl
          try simp only [Act.put, List.setIfInBounds_toArray, List.set_cons_zero, List.set_cons_succ]
          refine wpL_takeB (i := 7) rfl (by kernel_rfl) (by kernel_rfl) (by kernel_rfl) (by decide) (fun _ _ _ h => h) (yieldsIf_load_mid (by rfl) _ _ rfl be2 (oe2 + k * 6) rfl [.int .i64 x.proc, .int .i64 x.kind, .int .i64 x.frm, .int .i64 x.idx, .int .i64 x.ord, .int .i64 x.val] _ (fun wx hx => HR3.out wx hx) Try.underlying45 rfl (by kernel_rfl)) (SAB.both hA hB) ?_
          try simp only [Act.put, List.setIfInBounds_toArray, List.set_cons_zero, List.set_cons_succ]
          by_cases he : d = x
          · subst he
            refine wpL_takeB (i := 8) rfl (by kernel_rfl) (by kernel_rfl) (by kernel_rfl) (by decide) (fun _ _ _ h => h) (yieldsIf_of (by rfl) (.bool true) (fun wx _ => by go_simp)) (SAB.both hA hB) ?_
            try simp only [Act.put, List.setIfInBounds_toArray, List.set_cons_zero, List.set_cons_succ]
            refine wpL_done (by kernel_rfl) ?_
            have hwv : IntKind.i64.wrap (v + 1) = v + 1 := IntWalk.i64_in _ (by omega)
            have hwv' : IntKind.i64.wrap (v - 1) = v - 1 := IntWalk.i64_in _ (by omega)
            have hfin := HNX.out u0 hB
            rw [if_pos rfl] at hfin
            have HFIN := Lib.hid hfin
            clear hfin
            clear hA hB
            go_wp2_with fail
            go_roundw
            case rel => exact HFIN.out
            case measure => simp [intOf]; omega
          · have himp : d.proc = x.proc → d.kind = x.kind → d.frm = x.frm → d.idx = x.idx → d.ord = x.ord → ¬ d.val = x.val := fun h0 h1 h2 h3 h4 h5 => he ((Chc_ext d x).2 ⟨h0, h1, h2, h3, h4, h5⟩)
            refine wpL_takeB (i := 8) rfl (by kernel_rfl) (by kernel_rfl) (by kernel_rfl) (by decide) (fun _ _ _ h => h) (yieldsIf_of (by rfl) (.bool false) (fun wx _ => by go_simp; exact himp)) (SAB.both hA hB) ?_
            try simp only [Act.put, List.setIfInBounds_toArray, List.set_cons_zero, List.set_cons_succ]
            refine wpL_done (by kernel_rfl) ?_
            have hfin := HNX.out u0 hB
            rw [if_neg he] at hfin
            have HFIN := Lib.hid hfin
            clear hfin
            clear hA hB he himp
            go_wp2_with fail
            go_roundw
            case rel => exact HFIN.out
            case measure => simp [intOf]; omega
        · have t0 : decide (j < qw) = false := by simpa using hjn
          have t0' : decide ((j : Int) < (qw : Int)) = false := by simp; omega
          rw [List.take_of_length_le (by have := HLW.out; omega)]
          rw [← HNW.out]
          have hone : (0 : Int) + 1 * (nw : Int) = nw := by omega
          rw [hone]
          obtain ⟨wo2, rfl⟩ : ∃ wo2 : World, wo2 = wr := ⟨_, rfl⟩
          have hko2 := hkr
          have hzo2 := hkr.size
          have hr22 : ∀ wx, Keep wo2 wx → wx.rangeAt be2 (oe2 + k * 6) [.int .i64 x.proc, .int .i64 x.kind, .int .i64 x.frm, .int .i64 x.idx, .int .i64 x.ord, .int .i64 x.val] := fun wx hx => HR2.out wx (Keep.trans hko2 hx)
          have hSA2 := HSA.out.keep (hko2.mono (fun i hi => by omega))
          have hSB2 := HSB.out.keep (hko2.mono (fun i hi => by omega))
          have HKO2 := Lib.hid hko2
          have HR22 := Lib.hid hr22
          have HSA2 := Lib.hid hSA2
          have HSB2 := Lib.hid hSB2
          clear hko2 hr22 hSA2 hSB2
          clear hkr hone
          go_wp2_with fail
          go_loopw [14, 16] (fun v i wr => PnR (nw : Int) (-1) x oa wo2 v i wr) (fun _ i _ => qa - (intOf i).toNat)
          case atStart => exact ⟨0, rfl, Nat.zero_le _, by rw [List.take_zero, cntC_nil]; simp, Same.refl _ _⟩
          case round =>
            obtain ⟨j, rfl, hjo, rfl, hkr⟩ := hrel
            have hzr := hkr.size
            by_cases hjn : j < qa
            · obtain ⟨be, oe, d, hQ, hbx, hd, hcell⟩ := (HSA2.out.keep (hkr.mono (fun i hi => by omega))).at_ encCh_len hjn
              try subst hQ
              try (simp only [Option.some.injEq, Addr.mk.injEq, and_true] at hQ; obtain ⟨rfl, rfl⟩ := hQ)
              have t0 : decide (j < qa) = true := by simpa using hjn
              have t0' : decide ((j : Int) < (qa : Int)) = true := by simp; omega
              have i0 : (0 : Int) ≤ j := by omega
              have i1 : (j : Int) < qa := by omega
              have hbl : be < wr.heap.size := by have := hbx; omega
              have hr1 : ∀ wx, Keep wr wx → wx.rangeAt be (oe + j * 6) [.int .i64 d.proc, .int .i64 d.kind, .int .i64 d.frm, .int .i64 d.idx, .int .i64 d.ord, .int .i64 d.val] := fun wx hx i u hu => (hx.cell (p := ⟨be, oe + j * 6 + i, none⟩) hbl).trans (hcell i u hu)
              have hr3 : ∀ wx, Keep wr wx → wx.rangeAt be2 (oe2 + k * 6) [.int .i64 x.proc, .int .i64 x.kind, .int .i64 x.frm, .int .i64 x.idx, .int .i64 x.ord, .int .i64 x.val] := fun wx hx => HR22.out wx (Keep.trans hkr hx)
              have hup := pn_up (base := (nw : Int)) (sg := (-1)) (x := x) hd
              have hcl := cntC_le x (oa.take j)
              have hjl : (oa.take j).length ≤ j := by rw [List.length_take]; omega
              obtain ⟨c, hc⟩ : ∃ c, c = cntC x (oa.take j) := ⟨_, rfl⟩
              rw [← hc] at hup hcl
              rw [← hc]
              obtain ⟨v, hv⟩ : ∃ v : Int, v = (nw : Int) + (-1) * (c : Int) := ⟨_, rfl⟩
              have hL1 := HLA.out
              have hL2 := HLB.out
              have hL3 := HLW.out
              have hvr : -10000000 ≤ v ∧ v ≤ 10000000 := by omega
              rw [← hv] at hup
              rw [← hv]
              have hjq : j + 1 ≤ oa.length := by have := HLA.out; omega
              have hnx : ∀ wx, Keep wr wx → PnR (nw : Int) (-1) x oa wo2 (.int .i64 (if d = x then v + (-1) else v)) (.int .i64 ((j : Int) + 1)) wx := fun wx hx => ⟨j + 1, by go_num, hjq, by rw [hup], Keep.trans hkr hx⟩
              have HR1 := Lib.hid hr1
              have HR3 := Lib.hid hr3
              have HKR := Lib.hid hkr
              have HNX := Lib.hid hnx
              have HV := Lib.hid hv
              clear hr1 hr3 hkr hnx hv
              clear hcell hup hc hcl hd hL1 hL2 hL3
              go_upto_region 23 with fail
              refine wp_region_L 99 (fun _ => True) (fun wx => Keep wr wx) (by kernel_rfl) trivial (Same.drew (Same.refl _ _)) (fun hA hB => ?_)
              generalize hu0 : wr.drew = u0 at hB ⊢
              clear hu0
              refine wpL_takeB (i := 0) (v := ?_) rfl (by kernel_rfl) (by kernel_rfl) (by kernel_rfl) (by decide) (fun _ _ _ h => h) (Or.inl ⟨by rfl, ?_⟩) (SAB.both hA hB) ?_
              rotate_left
              · intro wx hBx
                (try dsimp only at hBx)
                go_simp
                try with_reducible rfl
              try simp only [Act.put, List.setIfInBounds_toArray, List.set_cons_zero, List.set_cons_succ]
              refine wpL_takeB (i := 1) (v := ?_) rfl (by kernel_rfl) (by kernel_rfl) (by kernel_rfl) (by decide) (fun _ _ _ h => h) (Or.inl ⟨by rfl, ?_⟩) (SAB.both hA hB) ?_
              rotate_left
              · intro wx hBx
                (try dsimp only at hBx)
                go_simp
                try with_reducible rfl
              try simp only [Act.put, List.setIfInBounds_toArray, List.set_cons_zero, List.set_cons_succ]
              refine wpL_takeB (i := 2) (v := ?_) rfl (by kernel_rfl) (by kernel_rfl) (by kernel_rfl) (by decide) (fun _ _ _ h => h) (Or.inl ⟨by rfl, ?_⟩) (SAB.both hA hB) ?_
              rotate_left
              · intro wx hBx
                (try dsimp only at hBx)
                go_simp
                try with_reducible rfl
              try simp only [Act.put, List.setIfInBounds_toArray, List.set_cons_zero, List.set_cons_succ]
              refine wpL_takeB (i := 3) rfl (by kernel_rfl) (by kernel_rfl) (by kernel_rfl) (by decide) (fun _ _ _ h => h) (yieldsIf_load_mid (by rfl) _ _ rfl be (oe + j * 6) rfl [.int .i64 d.proc, .int .i64 d.kind, .int .i64 d.frm, .int .i64 d.idx, .int .i64 d.ord, .int .i64 d.val] _ (fun wx hx => HR1.out wx hx) Try.underlying45 rfl (by kernel_rfl)) (SAB.both hA hB) ?_
              try simp only [Act.put, List.setIfInBounds_toArray, List.set_cons_zero, List.set_cons_succ]
              refine wpL_takeB (i := 4) (v := ?_) rfl (by kernel_rfl) (by kernel_rfl) (by kernel_rfl) (by decide) (fun _ _ _ h => h) (Or.inl ⟨by rfl, ?_⟩) (SAB.both hA hB) ?_
              rotate_left
              · intro wx hBx
                (try dsimp only at hBx)
                go_simp
                try with_reducible rfl
              try simp only [Act.put, List.setIfInBounds_toArray, List.set_cons_zero, List.set_cons_succ]
              refine wpL_takeB (i := 5) (v := ?_) rfl (by kernel_rfl) (by kernel_rfl) (by kernel_rfl) (by decide) (fun _ _ _ h => h) (Or.inl ⟨by rfl, ?_⟩) (SAB.both hA hB) ?_
              rotate_left
              · intro wx hBx
                (try dsimp only at hBx)
                go_simp
                try with_reducible rfl
              try simp only [Act.put, List.setIfInBounds_toArray, List.set_cons_zero, List.set_cons_succ]
              refine wpL_takeB (i := 6) (v := ?_) rfl (by kernel_rfl) (by kernel_rfl) (by kernel_rfl) (by decide) (fun _ _ _ h => h) (Or.inl ⟨by rfl, ?_⟩) (SAB.both hA hB) ?_
              rotate_left
              · intro wx hBx
                (try dsimp only at hBx)
                go_simp
                try with_reducible rfl
              try simp only [Act.put, List.setIfInBounds_toArray, List.set_cons_zero, List.set_cons_succ]
              refine wpL_takeB (i := 7) rfl (by kernel_rfl) (by kernel_rfl) (by kernel_rfl) (by decide) (fun _ _ _ h => h) (yieldsIf_load_mid (by rfl) _ _ rfl be2 (oe2 + k * 6) rfl [.int .i64 x.proc, .int .i64 x.kind, .int .i64 x.frm, .int .i64 x.idx, .int .i64 x.ord, .int .i64 x.val] _ (fun wx hx => HR3.out wx hx) Try.underlying45 rfl (by kernel_rfl)) (SAB.both hA hB) ?_
              try simp only [Act.put, List.setIfInBounds_toArray, List.set_cons_zero, List.set_cons_succ]
              by_cases he : d = x
              · subst he
                refine wpL_takeB (i := 8) rfl (by kernel_rfl) (by kernel_rfl) (by kernel_rfl) (by decide) (fun _ _ _ h => h) (yieldsIf_of (by rfl) (.bool true) (fun wx _ => by go_simp)) (SAB.both hA hB) ?_
                try simp only [Act.put, List.setIfInBounds_toArray, List.set_cons_zero, List.set_cons_succ]
                refine wpL_done (by kernel_rfl) ?_
                have hwv : IntKind.i64.wrap (v + (-1)) = v + (-1) := IntWalk.i64_in _ (by omega)
                have hwv' : IntKind.i64.wrap (v - 1) = v - 1 := IntWalk.i64_in _ (by omega)
                have hfin := HNX.out u0 hB
                rw [if_pos rfl] at hfin
                have HFIN := Lib.hid hfin
                clear hfin
                clear hA hB
                go_wp2_with fail
                go_roundw
                case rel => exact HFIN.out
                case measure => simp [intOf]; omega
              · have himp : d.proc = x.proc → d.kind = x.kind → d.frm = x.frm → d.idx = x.idx → d.ord = x.ord → ¬ d.val = x.val := fun h0 h1 h2 h3 h4 h5 => he ((Chc_ext d x).2 ⟨h0, h1, h2, h3, h4, h5⟩)
                refine wpL_takeB (i := 8) rfl (by kernel_rfl) (by kernel_rfl) (by kernel_rfl) (by decide) (fun _ _ _ h => h) (yieldsIf_of (by rfl) (.bool false) (fun wx _ => by go_simp; exact himp)) (SAB.both hA hB) ?_
                try simp only [Act.put, List.setIfInBounds_toArray, List.set_cons_zero, List.set_cons_succ]
                refine wpL_done (by kernel_rfl) ?_
                have hfin := HNX.out u0 hB
                rw [if_neg he] at hfin
                have HFIN := Lib.hid hfin
                clear hfin
                clear hA hB he himp
                go_wp2_with fail
                go_roundw
                case rel => exact HFIN.out
                case measure => simp [intOf]; omega
            · have t0 : decide (j < qa) = false := by simpa using hjn
              have t0' : decide ((j : Int) < (qa : Int)) = false := by simp; omega
              rw [List.take_of_length_le (by have := HLA.out; omega)]
              rw [← HNA.out]
              obtain ⟨wo3, rfl⟩ : ∃ wo3 : World, wo3 = wr := ⟨_, rfl⟩
              have hko3 := hkr
              have hzo3 := hkr.size
              have hr23 : ∀ wx, Keep wo3 wx → wx.rangeAt be2 (oe2 + k * 6) [.int .i64 x.proc, .int .i64 x.kind, .int .i64 x.frm, .int .i64 x.idx, .int .i64 x.ord, .int .i64 x.val] := fun wx hx => HR22.out wx (Keep.trans hko3 hx)
              have hSB3 := HSB2.out.keep (hko3.mono (fun i hi => by omega))
              have HKO3 := Lib.hid hko3
              have HR23 := Lib.hid hr23
              have HSB3 := Lib.hid hSB3
              clear hko3 hr23 hSB3
              clear hkr
              go_wp2_with fail
              go_loopw [14, 17] (fun v i wr => PnR ((nw : Int) + -1 * (na : Int)) (-1) x ob wo3 v i wr) (fun _ i _ => qb - (intOf i).toNat)
              case atStart => exact ⟨0, rfl, Nat.zero_le _, by rw [List.take_zero, cntC_nil]; simp, Same.refl _ _⟩
              case round =>
                obtain ⟨j, rfl, hjo, rfl, hkr⟩ := hrel
                have hzr := hkr.size
                by_cases hjn : j < qb
                · obtain ⟨be, oe, d, hQ, hbx, hd, hcell⟩ := (HSB3.out.keep (hkr.mono (fun i hi => by omega))).at_ encCh_len hjn
                  try subst hQ
                  try (simp only [Option.some.injEq, Addr.mk.injEq, and_true] at hQ; obtain ⟨rfl, rfl⟩ := hQ)
                  have t0 : decide (j < qb) = true := by simpa using hjn
                  have t0' : decide ((j : Int) < (qb : Int)) = true := by simp; omega
                  have i0 : (0 : Int) ≤ j := by omega
                  have i1 : (j : Int) < qb := by omega
                  have hbl : be < wr.heap.size := by have := hbx; omega
                  have hr1 : ∀ wx, Keep wr wx → wx.rangeAt be (oe + j * 6) [.int .i64 d.proc, .int .i64 d.kind, .int .i64 d.frm, .int .i64 d.idx, .int .i64 d.ord, .int .i64 d.val] := fun wx hx i u hu => (hx.cell (p := ⟨be, oe + j * 6 + i, none⟩) hbl).trans (hcell i u hu)
                  have hr3 : ∀ wx, Keep wr wx → wx.rangeAt be2 (oe2 + k * 6) [.int .i64 x.proc, .int .i64 x.kind, .int .i64 x.frm, .int .i64 x.idx, .int .i64 x.ord, .int .i64 x.val] := fun wx hx => HR23.out wx (Keep.trans hkr hx)
                  have hup := pn_up (base := ((nw : Int) + -1 * (na : Int))) (sg := (-1)) (x := x) hd
                  have hcl := cntC_le x (ob.take j)
                  have hjl : (ob.take j).length ≤ j := by rw [List.length_take]; omega
                  obtain ⟨c, hc⟩ : ∃ c, c = cntC x (ob.take j) := ⟨_, rfl⟩
                  rw [← hc] at hup hcl
                  rw [← hc]
                  obtain ⟨v, hv⟩ : ∃ v : Int, v = ((nw : Int) + -1 * (na : Int)) + (-1) * (c : Int) := ⟨_, rfl⟩
                  have hL1 := HLA.out
                  have hL2 := HLB.out
                  have hL3 := HLW.out
                  have hvr : -10000000 ≤ v ∧ v ≤ 10000000 := by omega
                  rw [← hv] at hup
                  rw [← hv]
                  have hjq : j + 1 ≤ ob.length := by have := HLB.out; omega
                  have hnx : ∀ wx, Keep wr wx → PnR ((nw : Int) + -1 * (na : Int)) (-1) x ob wo3 (.int .i64 (if d = x then v + (-1) else v)) (.int .i64 ((j : Int) + 1)) wx := fun wx hx => ⟨j + 1, by go_num, hjq, by rw [hup], Keep.trans hkr hx⟩
                  have HR1 := Lib.hid hr1
                  have HR3 := Lib.hid hr3
                  have HKR := Lib.hid hkr
                  have HNX := Lib.hid hnx
                  have HV := Lib.hid hv
                  clear hr1 hr3 hkr hnx hv
                  clear hcell hup hc hcl hd hL1 hL2 hL3
                  go_upto_region 28 with fail
                  refine wp_region_L 99 (fun _ => True) (fun wx => Keep wr wx) (by kernel_rfl) trivial (Same.drew (Same.refl _ _)) (fun hA hB => ?_)
                  generalize hu0 : wr.drew = u0 at hB ⊢
                  clear hu0
                  refine wpL_takeB (i := 0) (v := ?_) rfl (by kernel_rfl) (by kernel_rfl) (by kernel_rfl) (by decide) (fun _ _ _ h => h) (Or.inl ⟨by rfl, ?_⟩) (SAB.both hA hB) ?_
                  rotate_left
                  · intro wx hBx
                    (try dsimp only at hBx)
                    go_simp
                    try with_reducible rfl
                  try simp only [Act.put, List.setIfInBounds_toArray, List.set_cons_zero, List.set_cons_succ]
                  refine wpL_takeB (i := 1) (v := ?_) rfl (by kernel_rfl) (by kernel_rfl) (by kernel_rfl) (by decide) (fun _ _ _ h => h) (Or.inl ⟨by rfl, ?_⟩) (SAB.both hA hB) ?_
                  rotate_left
                  · intro wx hBx
                    (try dsimp only at hBx)
                    go_simp
                    try with_reducible rfl
                  try simp only [Act.put, List.setIfInBounds_toArray, List.set_cons_zero, List.set_cons_succ]
                  refine wpL_takeB (i := 2) (v := ?_) rfl (by kernel_rfl) (by kernel_rfl) (by kernel_rfl) (by decide) (fun _ _ _ h => h) (Or.inl ⟨by rfl, ?_⟩) (SAB.both hA hB) ?_
                  rotate_left
                  · intro wx hBx
                    (try dsimp only at hBx)
                    go_simp
                    try with_reducible rfl
                  try simp only [Act.put, List.setIfInBounds_toArray, List.set_cons_zero, List.set_cons_succ]
                  refine wpL_takeB (i := 3) rfl (by kernel_rfl) (by kernel_rfl) (by kernel_rfl) (by decide) (fun _ _ _ h => h) (yieldsIf_load_mid (by rfl) _ _ rfl be (oe + j * 6) rfl [.int .i64 d.proc, .int .i64 d.kind, .int .i64 d.frm, .int .i64 d.idx, .int .i64 d.ord, .int .i64 d.val] _ (fun wx hx => HR1.out wx hx) Try.underlying45 rfl (by kernel_rfl)) (SAB.both hA hB) ?_
                  try simp only [Act.put, List.setIfInBounds_toArray, List.set_cons_zero, List.set_cons_succ]
                  refine wpL_takeB (i := 4) (v := ?_) rfl (by kernel_rfl) (by kernel_rfl) (by kernel_rfl) (by decide) (fun _ _ _ h => h) (Or.inl ⟨by rfl, ?_⟩) (SAB.both hA hB) ?_
                  rotate_left
                  · intro wx hBx
                    (try dsimp only at hBx)
                    go_simp
                    try with_reducible rfl
                  try simp only [Act.put, List.setIfInBounds_toArray, List.set_cons_zero, List.set_cons_succ]
                  refine wpL_takeB (i := 5) (v := ?_) rfl (by kernel_rfl) (by kernel_rfl) (by kernel_rfl) (by decide) (fun _ _ _ h => h) (Or.inl ⟨by rfl, ?_⟩) (SAB.both hA hB) ?_
                  rotate_left
                  · intro wx hBx
                    (try dsimp only at hBx)
                    go_simp
                    try with_reducible rfl
                  try simp only [Act.put, List.setIfInBounds_toArray, List.set_cons_zero, List.set_cons_succ]
                  refine wpL_takeB (i := 6) (v := ?_) rfl (by kernel_rfl) (by kernel_rfl) (by kernel_rfl) (by decide) (fun _ _ _ h => h) (Or.inl ⟨by rfl, ?_⟩) (SAB.both hA hB) ?_
                  rotate_left
                  · intro wx hBx
                    (try dsimp only at hBx)
                    go_simp
                    try with_reducible rfl
                  try simp only [Act.put, List.setIfInBounds_toArray, List.set_cons_zero, List.set_cons_succ]
                  refine wpL_takeB (i := 7) rfl (by kernel_rfl) (by kernel_rfl) (by kernel_rfl) (by decide) (fun _ _ _ h => h) (yieldsIf_load_mid (by rfl) _ _ rfl be2 (oe2 + k * 6) rfl [.int .i64 x.proc, .int .i64 x.kind, .int .i64 x.frm, .int .i64 x.idx, .int .i64 x.ord, .int .i64 x.val] _ (fun wx hx => HR3.out wx hx) Try.underlying45 rfl (by kernel_rfl)) (SAB.both hA hB) ?_
                  try simp only [Act.put, List.setIfInBounds_toArray, List.set_cons_zero, List.set_cons_succ]
                  by_cases he : d = x
                  · subst he
                    refine wpL_takeB (i := 8) rfl (by kernel_rfl) (by kernel_rfl) (by kernel_rfl) (by decide) (fun _ _ _ h => h) (yieldsIf_of (by rfl) (.bool true) (fun wx _ => by go_simp)) (SAB.both hA hB) ?_
                    try simp only [Act.put, List.setIfInBounds_toArray, List.set_cons_zero, List.set_cons_succ]
                    refine wpL_done (by kernel_rfl) ?_
                    have hwv : IntKind.i64.wrap (v + (-1)) = v + (-1) := IntWalk.i64_in _ (by omega)
                    have hwv' : IntKind.i64.wrap (v - 1) = v - 1 := IntWalk.i64_in _ (by omega)
                    have hfin := HNX.out u0 hB
                    rw [if_pos rfl] at hfin
                    have HFIN := Lib.hid hfin
                    clear hfin
                    clear hA hB
                    go_wp2_with fail
                    go_roundw
                    case rel => exact HFIN.out
                    case measure => simp [intOf]; omega
                  · have himp : d.proc = x.proc → d.kind = x.kind → d.frm = x.frm → d.idx = x.idx → d.ord = x.ord → ¬ d.val = x.val := fun h0 h1 h2 h3 h4 h5 => he ((Chc_ext d x).2 ⟨h0, h1, h2, h3, h4, h5⟩)
                    refine wpL_takeB (i := 8) rfl (by kernel_rfl) (by kernel_rfl) (by kernel_rfl) (by decide) (fun _ _ _ h => h) (yieldsIf_of (by rfl) (.bool false) (fun wx _ => by go_simp; exact himp)) (SAB.both hA hB) ?_
                    try simp only [Act.put, List.setIfInBounds_toArray, List.set_cons_zero, List.set_cons_succ]
                    refine wpL_done (by kernel_rfl) ?_
                    have hfin := HNX.out u0 hB
                    rw [if_neg he] at hfin
                    have HFIN := Lib.hid hfin
                    clear hfin
                    clear hA hB he himp
                    go_wp2_with fail
                    go_roundw
                    case rel => exact HFIN.out
                    case measure => simp [intOf]; omega
                · have t0 : decide (j < qb) = false := by simpa using hjn
                  have t0' : decide ((j : Int) < (qb : Int)) = false := by simp; omega
                  rw [List.take_of_length_le (by have := HLB.out; omega)]
                  have hzero : (((nw : Int) + -1 * (na : Int)) + -1 * ((cntC x ob : Nat) : Int)) = 0 := by have := HNB.out; omega
                  rw [hzero]
                  have hnx : PoR qw w0 (.int .i64 ((k : Int) + 1)) wr := ⟨k + 1, by go_num, by omega, Keep.trans HKR0.out (Keep.trans HKO2.out (Keep.trans HKO3.out hkr))⟩
                  have HNX := Lib.hid hnx
                  clear hnx
                  clear hkr hzero
                  go_wp2_with fail
                  go_roundw
                  case rel => exact HNX.out
                  case measure => simp [intOf]; omega
    · have hd1 : decide (k < qw) = false := by simpa using hkn
      have hd1' : decide ((k : Int) < (qw : Int)) = false := by simp; omega
      have hfin := Keep.trans HK0.out hkr0
      have HFIN := Lib.hid hfin
      clear hfin
      clear hkr0
      go_wp2_with fail
      go_ret
      exact ⟨rfl, HFIN.out⟩
end Go.Proofs.Ytcfpkmfppgodmaa
