/- The law ReplayOrders. -/
import Derived.Test.YtcfpkmfppgodmaaOrd
import Derived.Test.YtcfpkmfppgodmaaLins
import Derived.Test.YtcfpkmfppgodmaaRowIn
set_option linter.unusedVariables false
set_option linter.unusedSimpArgs false
set_option maxRecDepth 100000
namespace Go.Proofs.Ytcfpkmfppgodmaa
open Go.RowKit Go.Proofs

def Or1 (l : List (List Ev)) (out : List Chc) (n gat : Nat) (W : World) (i : Value) (wr : World) : Prop :=
  ∃ (k : Nat) (at_ : List Int), i = .int .i64 k ∧ k ≤ out.length ∧ at_.length = n ∧ RunL l at_ (out.drop k) (lensL l) ∧ Blk wr gat 3 (at_.flatMap encI).toArray ∧ Keep W wr
def Or2 (n : Nat) (W : World) (i : Value) (wr : World) : Prop := ∃ k : Nat, i = .int .i64 k ∧ k ≤ n ∧ Keep W wr
def OrE (W : World) (e : Ev) (p : Value) (wx : World) : Prop := ∃ g : Nat, p = .pointer (some ⟨g, 0, none⟩) ∧ W.heap.size ≤ g ∧ Blk wx g 50 (encEv e).toArray ∧ Keep W wx
set_option maxHeartbeats 32000000 in
theorem replayOrders_walk (w : World) (A3 : Option Addr) (n3 c3 : Nat) (zs : List Int) (hz : Sl encB 1 w (· < w.heap.size) A3 n3 c3 zs) (hz8 : ∀ y ∈ zs, 0 ≤ y ∧ y < 256) :
    Calls Try.prog 4 #[.slice A3 n3 c3] w (Aw34Post w) := by
  obtain ⟨iI, hi0, iz0, is0, ib0⟩ := info_of info_Int
  have hmk := fun (n : Nat) (hn : n ≤ 1000) W => run_make_row (P := Try.prog) 23 3 iI _ Try.underlying23 hi0 iz0 .i64 .i64 n n (Nat.le_refl _) (by rw [ib0]; omega) (by omega) W
  simp only [is0, made_zeros] at hmk
  have HZ := Lib.hid hz
  have HZ8 := Lib.hid hz8
  have HMK := Lib.hid hmk
  clear hz hz8 hmk
  clear hi0 iz0 is0 ib0
  go_enter Try.func4, Try.ntmps4
  go_wp2_with fail
  refine (awake34_any w).mono ?_
  rintro e w1 ⟨rfl, hk1⟩
  have hz1 := hk1.size
  have HK1 := Lib.hid hk1
  clear hk1
  go_wp2_with fail
  refine (new_any w1 A3 n3 c3 250 zs (fun i => i < w.heap.size) (fun i hi => by omega) (HZ.out.keep HK1.out) HZ8.out (by omega)).mono ?_
  rintro e w3 ⟨r, hr, rfl, hc3, hk3⟩
  have hz3 := hk3.size
  have hk3' := Keep.trans HK1.out hk3
  have hgc := hc3.lt
  obtain ⟨gc, hgce⟩ : ∃ gc, gc = w1.heap.size := ⟨_, rfl⟩
  rw [← hgce] at hc3 hgc
  rw [← hgce]
  have hgcw : w.heap.size ≤ gc := by omega
  have HK3' := Lib.hid hk3'
  have HC3 := Lib.hid hc3
  clear hk3' hc3
  clear hk3 hgce
  go_wp2_with fail
  refine (lineages_any w3 _ gc r 40 HC3.out (by omega)).mono ?_
  rintro e w4 ⟨B1, B2, B3, n, d1, m2, d2, m3, d3, base, gl, ls, vs, l, rk, rfl, hn2, hn4, hls, hle, hfine, hs1, hbase, hm4, -, ho4⟩
  have hz4 := ho4.size
  have hk4 : Keep w w4 := Same.trans HK3'.out ho4 (fun i hi => by omega)
  have hlow := hm4.low
  have hgl4 := hm4.blk.lt
  have hle100 : ∀ q, ls.getD q 0 ≤ 100 := fun q => Nat.le_trans (hle q) (by omega)
  have HK4 := Lib.hid hk4
  have HM4 := Lib.hid hm4
  have HS1 := Lib.hid hs1
  have HFINE := Lib.hid hfine
  have HLE100 := Lib.hid hle100
  have HLS := Lib.hid hls
  clear hk4 hm4 hs1 hfine hle100 hls
  clear ho4 HC3 HK3' hle
  go_upto_region 4 with (refine wpList_store_all rfl _ (.tmp 4) (.tmp 19) rfl w4.heap.size 32 _ [.slice B1 n d1, .slice B2 m2 d2, .slice B3 m3 d3] rfl rfl (Blk.new _ _ _) rfl (by kernel_rfl) rfl ?_; intro w5 hb5 hs5)
  have hk45 : Keep w4 w5 := Keep.write (Keep.new _ _) hs5 (Nat.le_refl _)
  have hz5 : w4.heap.size < w5.heap.size := hb5.lt
  have hk5 := Keep.trans HK4.out hk45
  have hm5 := HM4.out.keep hk45
  have hs15 := HS1.out.keep (hk45.mono (fun i hi => by have := hi.2; omega))
  obtain ⟨g4, hg4⟩ : ∃ g, g = w4.heap.size := ⟨_, rfl⟩
  rw [← hg4] at hb5
  rw [← hg4]
  have hg4w : w4.heap.size ≤ g4 := by omega
  have hg4l := hb5.lt
  have hll : l.length = n := hm5.llen
  have hlx := getD_mem_le (HFINE.out.lenAt HLE100.out)
  have hslr := (hm5.slr (by simp [maxLen]; omega)).more (T := (· < w5.heap.size)) (fun i hi => hi.2) (EvsR.more (fun i hi => hi.2))
  have hwit := witness_any w5 (· < w5.heap.size) (some ⟨gl, 0, none⟩) n n l (fun i hi => hi) hslr (by omega) (fun x hx => by have := hlx x hx; omega)
  have HB5 := Lib.hid hb5
  have HK5 := Lib.hid hk5
  have HM5 := Lib.hid hm5
  have HS15 := Lib.hid hs15
  have HLL := Lib.hid hll
  have HWIT := Lib.hid hwit
  have HLX := Lib.hid hlx
  have HSLR := Lib.hid hslr
  clear hb5 hk5 hm5 hs15 hll hwit hlx hslr
  clear hs5 hk45 HM4 HS1 hg4
  try simp only [Act.put]
  go_wp2_with fail
  refine HWIT.out.mono ?_
  intro e w6 hp
  obtain ⟨out, Q, q6, p6, rfl, hrun, hsi, hk56, hsl⟩ := sched_open HFINE.out (rng_full l) (HFINE.out.shut _) hp
  have hz6 := hk56.size
  have hk6 := Keep.trans HK5.out hk56
  have hm6 := HM5.out.keep hk56
  have hb6 := hk56.blk HB5.out hg4l
  have hs16 := HS15.out.keep (hk56.mono (fun i hi => by have := hi.2; omega))
  have hql : q6 = out.length := hsl.1
  have hqm := hsl.2.1
  have hq6 : q6 ≤ 1000000 := by
    have h1 := schIs_len hsi HLX.out
    have h2 := Nat.mul_le_mul_right 100 (show l.length ≤ 4 by have := HLL.out; omega)
    omega
  have hmk1 := HMK.out n (by omega)
  have hsl6 := hsl.more (T := (· < w6.heap.size)) (fun i hi => hi.2)
  have hrel0 : Or1 l out n w6.heap.size w6 (.int .i64 0) (w6.alloc (.cells (zerosA n) 3)) := ⟨0, zerosL n, rfl, Nat.zero_le _, by simp [zerosL], by rw [← HLL.out]; exact hrun, by rw [zeros_flat]; exact Blk.new w6 _ _, Keep.new _ _⟩
  have hgl6 := hm6.blk.lt
  have hg46 := hb6.lt
  have HK6 := Lib.hid hk6
  have HM6 := Lib.hid hm6
  have HB6 := Lib.hid hb6
  have HS16 := Lib.hid hs16
  have HQL := Lib.hid hql
  have HSL6 := Lib.hid hsl6
  have HREL0 := Lib.hid hrel0
  clear hk6 hm6 hb6 hs16 hql hsl6 hrel0
  clear hp hsi hsl hrun hk56 HK5 HM5 HB5 HS15 HWIT HSLR HLX
  go_wp2_with fail
  go_loopw [8] (fun i wr => Or1 l out n w6.heap.size w6 i wr) (fun i _ => out.length - (intOf i).toNat)
  case atStart => exact HREL0.out
  case round =>
    clear HREL0 hmk1
    obtain ⟨k, at_, rfl, hko, hal, hrun, hat, hkr⟩ := hrel
    have hzr := hkr.size
    have hmr := HM6.out.keep hkr
    have hslr := HSL6.out.keep hkr
    have hmr100 := HFINE.out.lenAt HLE100.out
    by_cases hkn : k < q6
    · obtain ⟨b0, o0, x, rfl, hSb0, hx, hcx⟩ := hslr.at_ encCh_len hkn
      have hdr : out.drop k = x :: out.drop (k + 1) := by
        obtain ⟨h1, h2⟩ := List.getElem?_eq_some_iff.1 hx
        rw [List.drop_eq_getElem_cons h1, h2]
      rw [hdr] at hrun
      obtain ⟨q, hq, hq0, hqlt, hpos, hxe, hrun2⟩ := hrun.inv
      obtain ⟨an, han⟩ : ∃ an : Nat, at_.getD q 0 = an := ⟨(at_.getD q 0).toNat, by omega⟩
      have hqn : q < n := by have := HLL.out; omega
      have hanl : an < (l.getD q []).length := by omega
      obtain ⟨b, c', cur, ev, hv, hbb, hbg, hblk, hcs, hnc, hcm, htk, hev, hcells⟩ := hmr.at_ hqn hanl
      have hea : evAt l at_ q = ev := by unfold evAt; rw [han, Int.toNat_natCast]; exact getD_of hev
      rw [hea] at hpos hxe
      obtain ⟨len, hlen⟩ : ∃ len, len = (l.getD q []).length := ⟨_, rfl⟩
      rw [← hlen] at hv hanl
      have hlen100 : len ≤ 100 := by have := hmr100 q; omega
      have hblt := hblk.lt
      have hatl := hat.lt
      have hd1 : decide (k < q6) = true := by simpa using hkn
      have hd1' : decide ((k : Int) < (q6 : Int)) = true := by simp; omega
      have i0 : (0 : Int) ≤ k := by omega
      have i1 : (k : Int) < q6 := by omega
      have hatc : (at_.flatMap encI).toArray[q]? = some (.int .i64 (an : Int)) := by
        rw [flatI_get (by omega), han]
      have hra : wr.rangeAt b0 (o0 + k * 6) (encCh x) := fun j u hu => hcx j u hu
      have hnx : ∀ w9, Blk w9 w6.heap.size 3 ((incS at_ q).flatMap encI).toArray → Keep w6 w9 → Or1 l out n w6.heap.size w6 (.int .i64 ((k : Int) + 1)) w9 := fun w9 hb9 hk9 => ⟨k + 1, incS at_ q, by go_num, by have := HQL.out; omega, by rw [incS_len]; exact hal, hrun2, hb9, hk9⟩
      have hinc : incS at_ q = at_.set q ((an : Int) + 1) := by unfold incS; rw [han]
      have HRA := Lib.hid hra
      have HKR := Lib.hid hkr
      have HMR := Lib.hid hmr
      have HAT := Lib.hid hat
      have HBLK := Lib.hid hblk
      have HV := Lib.hid hv
      have HCELLS := Lib.hid hcells
      have HATC := Lib.hid hatc
      have HNX := Lib.hid hnx
      have HINC := Lib.hid hinc
      have HPOS := Lib.hid hpos
      have HAL := Lib.hid hal
      clear hra hkr hmr hat hblk hv hcells hatc hnx hinc hpos hal
      clear hslr hcx hrun hrun2 hdr hx hcs hnc hcm htk hev hea hlen
      obtain ⟨xp, xk, xf, xi, xo, xv⟩ := x
      go_upto_region 12 with (first
        | (refine wpList_load_range rfl _ (.tmp 38) rfl b0 (o0 + k * 6) [.int .i64 xp, .int .i64 xk, .int .i64 xf, .int .i64 xi, .int .i64 xo, .int .i64 xv] _ rfl HRA.out Try.underlying45 rfl (by kernel_rfl) ?_)
        | (refine wpList_store_all rfl _ (.tmp 9) (.tmp 39) rfl wr.heap.size 45 _ [.int .i64 xp, .int .i64 xk, .int .i64 xf, .int .i64 xi, .int .i64 xo, .int .i64 xv] rfl rfl (Blk.new _ _ _) rfl (by kernel_rfl) rfl ?_; intro w7 hb7 hs7))
      have hz7 : wr.heap.size < w7.heap.size := hb7.lt
      have hk7 : Keep wr w7 := Keep.write (Keep.new _ _) hs7 (Nat.le_refl _)
      obtain ⟨g9, hg9⟩ : ∃ g9, g9 = wr.heap.size := ⟨_, rfl⟩
      rw [← hg9] at hb7
      rw [← hg9]
      have hg9w : wr.heap.size ≤ g9 := by omega
      have hg9l := hb7.lt
      have hxp : xp = q := by unfold chS at hxe; split at hxe <;> (injection hxe)
      have hxk : xk = ev.kind := by unfold chS at hxe; split at hxe <;> (injection hxe)
      have hx1 : ev.kind = 1 → xf = ev.frm ∧ xi = ev.sIdx ∧ xo = ev.ord := fun h => by
        unfold chS at hxe
        rw [if_pos h] at hxe
        injection hxe with _ _ h1 h2 h3 _
        exact ⟨h1, h2, h3⟩
      have hx2 : ev.kind ≠ 1 → xv = ev.val := fun h => by
        unfold chS at hxe
        rw [if_neg h] at hxe
        injection hxe
      clear hxe
      subst hxp hxk
      have hat7 := hk7.blk HAT.out hatl
      have hblk7 := hk7.blk HBLK.out hblt
      have hgb7 := hk7.blk HMR.out.blk HMR.out.blk.lt
      have y9 : ∀ (j : Nat) (u : Value), [(.int .i64 q : Value), .int .i64 ev.kind, .int .i64 xf, .int .i64 xi, .int .i64 xo, .int .i64 xv][j]? = some u → ∀ wx, Keep w7 wx → wx.cell? ⟨g9, j, none⟩ = some u := fun j u hu wx hx => by
        rw [(hx.blk hb7 hg9l).cell]; simpa using hu
      have yat : ∀ wx, Keep w7 wx → wx.cell? ⟨w6.heap.size, q, none⟩ = some (.int .i64 (an : Int)) := fun wx hx => by rw [(hx.blk hat7 hat7.lt).cell]; exact HATC.out
      have yg : ∀ wx, Keep w7 wx → wx.cell? ⟨gl, q, none⟩ = some (.slice (some ⟨b, 0, none⟩) len c') := fun wx hx => by rw [(hx.blk hgb7 hgb7.lt).cell, List.getElem?_toArray]; exact HV.out
      have yb : ∀ wx, Keep w7 wx → wx.rangeAt b (an * 7) (encEv ev) := fun wx hx j u hu => by
        rw [(hx.blk hblk7 hblk7.lt).cell]; exact HCELLS.out j u hu
      have hkk : Keep w6 w7 := Keep.trans HKR.out hk7
      have hr77 : Keep w7 w7 := Same.refl _ _
      have e0 := y9 0 _ rfl w7 hr77
      have e1 := yat w7 hr77
      have e2 := yg w7 hr77
      have j0 : (0 : Int) ≤ q := by omega
      have j1 : (q : Int) < n := by omega
      have j2 : (0 : Int) ≤ an := by omega
      have j3 : (an : Int) < len := by omega
      have t1 : decide ((q : Int) < 0) = false := by simp
      have t2 : decide ((n : Int) ≤ (q : Int)) = false := by simp; omega
      have t2' : decide (n ≤ q) = false := by simpa using hqn
      have t3 : decide ((len : Int) ≤ (an : Int)) = false := by simp; omega
      have t3' : decide (len ≤ an) = false := by simp; omega
      have HB7 := Lib.hid hb7
      have Y9 := Lib.hid y9
      have YAT := Lib.hid yat
      have YG := Lib.hid yg
      have YB := Lib.hid yb
      have HKK := Lib.hid hkk
      have HX1 := Lib.hid hx1
      have HX2 := Lib.hid hx2
      have HAT7 := Lib.hid hat7
      clear hb7 y9 yat yg yb hkk hx1 hx2 hat7
      clear hs7 hk7 HRA HBLK HCELLS HATC HKR HMR HV hblk7 hgb7 hg9
      try simp only [Act.put]
      go_quiet (fail)
      have hkq : Keep w7 (w7.drewN nq) := Keep.draws w7 nq
      clear e0 e1 e2
      generalize hwq : w7.drewN nq = wq at hkq ⊢
      clear hwq
      go_upto_region 14 with fail
      have y0 := Y9.out 0 _ rfl
      have y1 := YAT.out
      have y2 := YG.out
      refine wp_region_L 99 (fun _ => True) (fun wx => Keep w7 wx) (by kernel_rfl) trivial (Same.drew hkq) (fun hA hB => ?_)
      generalize hu0 : wq.drew = u0 at hB ⊢
      clear hu0 hkq
      refine wpL_takeB (i := 0) (v := ?_) rfl (by kernel_rfl) (by kernel_rfl) (by kernel_rfl) (by decide) (fun _ _ _ h => h) (Or.inl ⟨by rfl, ?_⟩) (SAB.both hA hB) ?_
      rotate_left
      · intro wx hBx
        (try dsimp only at hBx)
        go_simp
        try with_reducible rfl
      try simp only [Act.put, List.setIfInBounds_toArray, List.set_cons_zero, List.set_cons_succ]
      refine wpL_takeB (i := 1) (v := ?_) rfl (by kernel_rfl) (by kernel_rfl) (by kernel_rfl) (by decide) (fun _ _ _ h => h) (Or.inl ⟨by rfl, ?_⟩) (SAB.both hA hB) ?_
      rotate_left
      · intro wx hBx
        (try dsimp only at hBx)
        go_simp
        try with_reducible rfl
      try simp only [Act.put, List.setIfInBounds_toArray, List.set_cons_zero, List.set_cons_succ]
      refine wpL_takeB (i := 2) (v := ?_) rfl (by kernel_rfl) (by kernel_rfl) (by kernel_rfl) (by decide) (fun _ _ _ h => h) (Or.inl ⟨by rfl, ?_⟩) (SAB.both hA hB) ?_
      rotate_left
      · intro wx hBx
        (try dsimp only at hBx)
        go_simp
        try with_reducible rfl
      try simp only [Act.put, List.setIfInBounds_toArray, List.set_cons_zero, List.set_cons_succ]
      refine wpL_takeB (i := 3) (v := ?_) rfl (by kernel_rfl) (by kernel_rfl) (by kernel_rfl) (by decide) (fun _ _ _ h => h) (Or.inl ⟨by rfl, ?_⟩) (SAB.both hA hB) ?_
      rotate_left
      · intro wx hBx
        (try dsimp only at hBx)
        go_simp
        try with_reducible rfl
      try simp only [Act.put, List.setIfInBounds_toArray, List.set_cons_zero, List.set_cons_succ]
      refine wpL_takeB (i := 4) (v := ?_) rfl (by kernel_rfl) (by kernel_rfl) (by kernel_rfl) (by decide) (fun _ _ _ h => h) (Or.inl ⟨by rfl, ?_⟩) (SAB.both hA hB) ?_
      rotate_left
      · intro wx hBx
        (try dsimp only at hBx)
        go_simp
        try with_reducible rfl
      try simp only [Act.put, List.setIfInBounds_toArray, List.set_cons_zero, List.set_cons_succ]
      refine wpL_takeB (i := 5) (v := ?_) rfl (by kernel_rfl) (by kernel_rfl) (by kernel_rfl) (by decide) (fun _ _ _ h => h) (Or.inl ⟨by rfl, ?_⟩) (SAB.both hA hB) ?_
      rotate_left
      · intro wx hBx
        (try dsimp only at hBx)
        go_simp
        try with_reducible rfl
      try simp only [Act.put, List.setIfInBounds_toArray, List.set_cons_zero, List.set_cons_succ]
      refine wpL_takeB (i := 6) (v := ?_) rfl (by kernel_rfl) (by kernel_rfl) (by kernel_rfl) (by decide) (fun _ _ _ h => h) (Or.inl ⟨by rfl, ?_⟩) (SAB.both hA hB) ?_
      rotate_left
      · intro wx hBx
        (try dsimp only at hBx)
        go_simp
        try with_reducible rfl
      try simp only [Act.put, List.setIfInBounds_toArray, List.set_cons_zero, List.set_cons_succ]
      refine wpL_takeB (i := 7) (v := ?_) rfl (by kernel_rfl) (by kernel_rfl) (by kernel_rfl) (by decide) (fun _ _ _ h => h) (Or.inl ⟨by rfl, ?_⟩) (SAB.both hA hB) ?_
      rotate_left
      · intro wx hBx
        (try dsimp only at hBx)
        go_simp
        try with_reducible rfl
      try simp only [Act.put, List.setIfInBounds_toArray, List.set_cons_zero, List.set_cons_succ]
      refine wpL_takeB (i := 8) (v := ?_) rfl (by kernel_rfl) (by kernel_rfl) (by kernel_rfl) (by decide) (fun _ _ _ h => h) (Or.inl ⟨by rfl, ?_⟩) (SAB.both hA hB) ?_
      rotate_left
      · intro wx hBx
        (try dsimp only at hBx)
        go_simp
        try with_reducible rfl
      try simp only [Act.put, List.setIfInBounds_toArray, List.set_cons_zero, List.set_cons_succ]
      refine wpL_takeB (i := 9) (v := ?_) rfl (by kernel_rfl) (by kernel_rfl) (by kernel_rfl) (by decide) (fun _ _ _ h => h) (Or.inl ⟨by rfl, ?_⟩) (SAB.both hA hB) ?_
      rotate_left
      · intro wx hBx
        (try dsimp only at hBx)
        go_simp
        try with_reducible rfl
      try simp only [Act.put, List.setIfInBounds_toArray, List.set_cons_zero, List.set_cons_succ]
      refine wpL_takeB (i := 10) (v := ?_) rfl (by kernel_rfl) (by kernel_rfl) (by kernel_rfl) (by decide) (fun _ _ _ h => h) (Or.inl ⟨by rfl, ?_⟩) (SAB.both hA hB) ?_
      rotate_left
      · intro wx hBx
        (try dsimp only at hBx)
        go_simp
        try with_reducible rfl
      try simp only [Act.put, List.setIfInBounds_toArray, List.set_cons_zero, List.set_cons_succ]
      refine wpL_takeB (i := 11) rfl (by kernel_rfl) (by kernel_rfl) (by kernel_rfl) (by decide) (fun _ _ _ h => h) (yieldsIf_load_mid (by rfl) _ _ rfl b (an * 7) rfl (encEv ev) _ (fun wx hx => YB.out wx hx) Try.underlying50 rfl (by kernel_rfl)) (SAB.both hA hB) ?_
      try simp only [Act.put, List.setIfInBounds_toArray, List.set_cons_zero, List.set_cons_succ]
      clear y0 y1 y2
      have hzu := hB.size
      refine wpL_one (i := 12) (by kernel_rfl) (StepL.mk rfl (fun K hK => ?_))
      go_simp
      have hk8 : Keep u0 (u0.alloc (.cells zE7.toArray 50)) := Keep.new _ _
      have hb8 : Blk (u0.alloc (.cells zE7.toArray 50)) u0.heap.size 50 zE7.toArray := Blk.new _ _ _
      have hB8 := Keep.trans hB hk8
      refine hK.out _ _ (SAB.both trivial hB8) (fun hSS => ?_)
      clear hK K hA hB
      have hB := hSS.2
      have hA := hSS.1 (by kernel_rfl)
      (try dsimp only at hB); (try dsimp only at hA); clear hSS
      try simp only [Act.put, List.setIfInBounds_toArray, List.set_cons_zero, List.set_cons_succ]
      generalize hu8 : u0.alloc (.cells #[.int .i64 0, .int .i64 0, .int .i64 0, .int .i64 0, .int .i64 0, .int .i64 0, .int .i64 0] 50) = u8 at *
      have hu8' : u0.alloc (.cells zE7.toArray 50) = u8 := hu8
      rw [hu8'] at hk8 hb8 hB8
      clear hu8 hu8'
      refine wpL_one (i := 13) (by kernel_rfl) (StepL.mk rfl (fun K hK => ?_))
      refine step_store_blk rfl _ _ _ rfl u0.heap.size 0 50 _ (encEv ev) rfl rfl hb8 (by simp [zE7, encEv_len]) (by kernel_rfl) rfl ?_
      intro w9 hv9 hs9
      rw [splice_all (encEv ev) zE7.toArray (by rw [encEv_len]; rfl)] at hv9
      have hB9 : Keep w7 w9 := Keep.write hB8 hs9 hzu
      refine hK.out _ _ (SAB.both trivial hB9) (fun hSS => ?_)
      clear hK K hA hB
      have hB := hSS.2
      have hA : True := trivial
      (try dsimp only at hB); (try dsimp only at hA); clear hSS
      try simp only [Act.put, List.setIfInBounds_toArray, List.set_cons_zero, List.set_cons_succ]
      refine wpL_done (by kernel_rfl) ?_
      obtain ⟨g10, hg10⟩ : ∃ g10, g10 = u0.heap.size := ⟨_, rfl⟩
      rw [← hg10] at hv9
      rw [← hg10]
      have hg10w : w7.heap.size ≤ g10 := by omega
      have hg10l := hv9.lt
      clear hA hB hB8 hk8 hb8 hs9 hg10 hzu
      have hat9 := hB9.blk HAT7.out HAT7.out.lt
      have hat9l := HAT7.out.lt
      have hcl : (at_.flatMap encI).toArray.size = n := by simp [flat_length encI_len]; exact HAL.out
      have y0 := Y9.out 0 _ rfl w9 hB9
      have y1 := YAT.out w9 hB9
      have hwa : IntKind.i64.wrap ((an : Int) + 1) = (an : Int) + 1 := IntWalk.i64_in _ (by omega)
      have HV9 := Lib.hid hv9
      have HB9 := Lib.hid hB9
      have HAT9 := Lib.hid hat9
      clear hv9 hB9 hat9
      go_upto_region 16 with (refine wpList_store_one rfl _ (.tmp 82) (.tmp 81) rfl w6.heap.size q 3 _ (.int .i64 ((an : Int) + 1)) rfl rfl HAT9.out (by omega) (by kernel_rfl) rfl rfl ?_; intro w10 hb10 hs10)
      have hz10 := hs10.size
      have hb7' := (HB9.out.blk HB7.out hg9l)
      have hb79 := hs10.blk hb7' (by omega)
      have hv10 := hs10.blk HV9.out (by omega)
      have hk610 : Keep w6 w10 := Keep.write (Keep.trans HKK.out HB9.out) hs10 (Nat.le_refl _)
      have hb10' : Blk w10 w6.heap.size 3 ((incS at_ q).flatMap encI).toArray := by rw [HINC.out, flatI_set]; exact hb10
      have z9 : ∀ (j : Nat) (u : Value), [(.int .i64 q : Value), .int .i64 ev.kind, .int .i64 xf, .int .i64 xi, .int .i64 xo, .int .i64 xv][j]? = some u → w10.cell? ⟨g9, j, none⟩ = some u := fun j u hu => by rw [hb79.cell]; simpa using hu
      have z10 : ∀ (j : Nat) (u : Value), (encEv ev)[j]? = some u → w10.cell? ⟨g10, j, none⟩ = some u := fun j u hu => by rw [hv10.cell]; simpa using hu
      have zat : ∀ (p : Nat), p < n → w10.cell? ⟨w6.heap.size, p, none⟩ = some (.int .i64 ((incS at_ q).getD p 0)) := fun p hp => by rw [hb10'.cell, flatI_get (by rw [incS_len]; have := HAL.out; omega)]
      have tk : (ev.kind != ev.kind) = false := by simp
      have x1 := z9 1 _ rfl
      have e0 := z10 0 _ rfl
      have HB10' := Lib.hid hb10'
      have HK610 := Lib.hid hk610
      have Z9 := Lib.hid z9
      have Z10 := Lib.hid z10
      have ZAT := Lib.hid zat
      clear hb10' hk610 z9 z10 zat
      clear hb10 hs10 hb7' hb79 hv10 y0 y1 HB7 HAT7 HV9 HB9 HAT9 HKK Y9 YAT YG YB hwa
      go_upto_region 18 with fail
      by_cases hk1 : ev.kind = 1
      · have t4 : (ev.kind == 1) = true := by simpa using hk1
        have t7 : (ev.kind != 1) = false := by simpa using hk1
        obtain ⟨hxf, hxi, hxo⟩ := HX1.out hk1
        subst hxf hxi hxo
        have hpp := HPOS.out
        rw [possS_lab hk1] at hpp
        simp only [Bool.and_eq_true, decide_eq_true_eq] at hpp
        obtain ⟨⟨⟨⟨p1, p2⟩, p3⟩, -⟩, p5⟩ := hpp
        obtain ⟨fr, hfr⟩ : ∃ fr : Nat, ev.frm = fr := ⟨ev.frm.toNat, by omega⟩
        have hfn : fr < n := by have := HLL.out; omega
        have hne : q ≠ fr := by omega
        have hat1 := ZAT.out fr hfn
        have hgo : (incS at_ q).getD fr 0 = at_.getD fr 0 := by unfold incS; exact getD_set_other hne
        rw [hgo] at hat1
        obtain ⟨af, haf⟩ : ∃ af, af = at_.getD fr 0 := ⟨_, rfl⟩
        rw [← haf] at hat1
        have i0' : (0 : Int) ≤ ev.frm := by omega
        have i1' : ev.frm < (n : Int) := by omega
        have i2' : ev.frm.toNat = fr := by omega
        have t6 : decide (af < ev.sIdx) = false := by
          rw [hfr, Int.toNat_natCast, ← haf] at p5
          simp; omega
        have t5a : (ev.frm != ev.frm) = false := by simp
        have t5b : (ev.sIdx != ev.sIdx) = false := by simp
        have t5c : (ev.ord != ev.ord) = false := by simp
        have x2 := Z9.out 2 _ rfl
        have x3 := Z9.out 3 _ rfl
        have x4 := Z9.out 4 _ rfl
        have e2 := Z10.out 2 _ rfl
        have e4 := Z10.out 4 _ rfl
        have e5 := Z10.out 5 _ rfl
        clear hk1 hfr haf p1 p2 p3 p5 hgo hne
        go_quiet (fail)
        go_wp2_with fail
        go_roundw
        case rel => exact HNX.out _ (HB10'.out.drewN _) (Keep.trans HK610.out (Keep.draws _ _))
        case measure => have := HQL.out; simp [intOf]; omega
      · have t4 : (ev.kind == 1) = false := by simpa using hk1
        have t7 : (ev.kind != 1) = true := by simpa using hk1
        have hxv := HX2.out hk1
        subst hxv
        have t5a : (ev.val != ev.val) = false := by simp
        have x5 := Z9.out 5 _ rfl
        have e6 := Z10.out 6 _ rfl
        clear hk1
        go_quiet (fail)
        go_wp2_with fail
        go_roundw
        case rel => exact HNX.out _ (HB10'.out.drewN _) (Keep.trans HK610.out (Keep.draws _ _))
        case measure => have := HQL.out; simp [intOf]; omega
    · have hd1 : decide (k < q6) = false := by simpa using hkn
      have hd1' : decide ((k : Int) < (q6 : Int)) = false := by simp; omega
      have hko2 : out.length ≤ k := by have := HQL.out; omega
      have hdr : out.drop k = [] := List.drop_eq_nil_of_le hko2
      rw [hdr] at hrun
      have hend := hrun.inv_nil
      subst hend
      obtain ⟨w7, rfl⟩ : ∃ w7 : World, w7 = wr := ⟨_, rfl⟩
      obtain ⟨bl, ol, lv0, rfl, -, -, -⟩ := HS16.out.at_ encI_len (k := 0) (by omega)
      have hatl := hat.lt
      have hkw7 : Keep w w7 := Keep.trans HK6.out hkr
      have zat : ∀ wx, Keep w7 wx → ∀ p, p < n → wx.cell? ⟨w6.heap.size, p, none⟩ = some (.int .i64 ((ls.getD p 0 : Nat) : Int)) := fun wx hx p hp => by
        rw [(hx.blk hat hatl).cell, flatI_get (by rw [hal]; exact hp), lensL_getD, HFINE.out.lens p (by have := HLS.out; omega)]
      have z4 : ∀ wx, Keep w7 wx → wx.cell? ⟨g4, 0, none⟩ = some (.slice (some ⟨bl, ol, none⟩) n d1) := fun wx hx => by
        rw [((Keep.trans hkr hx).blk HB6.out HB6.out.lt).cell]; rfl
      have zls : ∀ wx, Keep w7 wx → ∀ p, p < n → wx.cell? ⟨bl, ol + p, none⟩ = some (.int .i64 ((ls.getD p 0 : Nat) : Int)) := fun wx hx p hp => sl_ints_cell (HS16.out.keep ((Keep.trans hkr hx).mono (fun i hi => by have := hi.2; omega))) hp
      have ZAT := Lib.hid zat
      have Z4 := Lib.hid z4
      have ZLS := Lib.hid zls
      have HKW7 := Lib.hid hkw7
      clear zat z4 zls hkw7
      clear hat hrun hal hkr hmr hslr hdr
      go_wp2_with fail
      go_loopw [11] (fun i wr => Or2 n w7 i wr) (fun i _ => n - (intOf i).toNat)
      case atStart => exact ⟨0, rfl, Nat.zero_le _, Same.refl _ _⟩
      case round =>
        obtain ⟨p, rfl, hpn', hkr⟩ := hrel
        by_cases hpn : p < n
        · have t0 : decide (p < n) = true := by simpa using hpn
          have t0' : decide ((p : Int) < (n : Int)) = true := by simp; omega
          have i0 : (0 : Int) ≤ p := by omega
          have i1 : (p : Int) < n := by omega
          have x0 := ZAT.out wr hkr p hpn
          have x1 := Z4.out wr hkr
          have x2 := ZLS.out wr hkr p hpn
          obtain ⟨lp, hlp⟩ : ∃ lp, lp = ls.getD p 0 := ⟨_, rfl⟩
          rw [← hlp] at x0 x2
          have t1 : ((lp : Int) != (lp : Int)) = false := by simp
          have t1' : (lp != lp) = false := by simp
          have hnx : ∀ j, Or2 n w7 (.int .i64 ((p : Int) + 1)) (wr.drewN j) := fun j => ⟨p + 1, by go_num, by omega, Keep.trans hkr (Keep.draws _ _)⟩
          have HNX := Lib.hid hnx
          clear hnx
          clear hlp hkr
          go_upto_region 23 with fail
          go_quiet (fail)
          go_wp2_with fail
          go_roundw
          case rel => exact HNX.out _
          case measure => simp [intOf]; omega
        · have t0 : decide (p < n) = false := by simpa using hpn
          have t0' : decide ((p : Int) < (n : Int)) = false := by simp; omega
          have hfin := Keep.trans HKW7.out hkr
          have HFIN := Lib.hid hfin
          clear hfin
          clear hkr
          go_wp2_with fail
          go_ret
          exact ⟨rfl, HFIN.out⟩
end Go.Proofs.Ytcfpkmfppgodmaa
