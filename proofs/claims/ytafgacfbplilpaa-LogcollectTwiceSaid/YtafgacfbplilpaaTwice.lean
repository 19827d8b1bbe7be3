/- The walk of LogcollectTwice. -/
import Derived.Test.YtafgacfbplilpaaLaws37
set_option linter.unusedVariables false
set_option linter.unusedSimpArgs false
namespace Go.Proofs.Ytafgacfbplilpaa
open Go.RowKit Go.Proofs

/-! ### plain lists -/
theorem keep3 (a0 a1 a2 : Int) (d : Dt) : keepDt [a0, a1, a2] d = (dropDt 0 a0 d && (dropDt 1 a1 d && dropDt 2 a2 d)) := by
  unfold keepDt dropDt
  by_cases h0 : d.proc = 0
  · simp [h0]
  by_cases h1 : d.proc = 1
  · simp [h1]
  by_cases h2 : d.proc = 2
  · simp [h2]
  have e0 : (d.proc != 0) = true := by simpa using h0
  have e1 : (d.proc != 1) = true := by simpa using h1
  have e2 : (d.proc != 2) = true := by simpa using h2
  rw [e0, e1, e2]
  by_cases h : d.proc < 0
  · simp [h]
  · have : (3 : Int) ≤ d.proc := by omega
    simp [this]
def maxI (x y : Int) : Int := if x < y then y else x
theorem drop_max (p a b : Int) (d : Dt) : dropDt p (maxI a b) d = (dropDt p a d && dropDt p b d) := by
  unfold dropDt maxI
  by_cases h : d.proc = p
  · simp only [h, bne_self_eq_false, Bool.false_or]
    split <;> rw [Bool.eq_iff_iff] <;> simp <;> omega
  · have e : (d.proc != p) = true := by simpa using h
    simp [e]
theorem keep_twice (a0 a1 a2 b0 b1 b2 : Int) (l : List Dt) : (l.filter (keepDt [a0, a1, a2])).filter (keepDt [b0, b1, b2]) = l.filter (keepDt [maxI a0 b0, maxI a1 b1, maxI a2 b2]) := by
  rw [List.filter_filter]
  congr 1
  funext d
  simp only [keep3, drop_max]
  cases dropDt 0 a0 d <;> cases dropDt 1 a1 d <;> cases dropDt 2 a2 d <;> cases dropDt 0 b0 d <;> cases dropDt 1 b1 d <;> cases dropDt 2 b2 d <;> rfl
theorem keep_one (a0 a1 a2 : Int) (l : List Dt) : ((l.filter (dropDt 0 a0)).filter (dropDt 1 a1)).filter (dropDt 2 a2) = l.filter (keepDt [a0, a1, a2]) := by
  rw [List.filter_filter, List.filter_filter]
  congr 1
  funext d
  rw [keep3]
  cases dropDt 0 a0 d <;> cases dropDt 1 a1 d <;> cases dropDt 2 a2 d <;> rfl

theorem ownsRow_drew {w : World} {base n size : Nat} {e : TypeId} {v : Value} {xs : List Value} (h : w.ownsRow base e size v n xs) : w.drew.ownsRow base e size v n xs := h
theorem Reads.drew {w : World} {S : Nat → Prop} {size n : Nat} {A : Option Addr} {xs : List Value} (h : Reads w S size A n xs) : Reads w.drew S size A n xs := h
/-! ### the walk -/
theorem info_int : (Try.prog.info? 3).map (fun i => (i.zero, i.size, i.bytes)) = some (some (.int .i64 0), 1, 8) := by kernel_rfl
def dropsTo (a : List Int) (l : List Dt) : Nat → List Dt
  | 0 => l
  | k + 1 => (dropsTo a l k).filter (dropDt k (a.getD k 0))
def topsTo (a b : List Int) (k : Nat) : List Int := (List.range k).map fun i => maxI (a.getD i 0) (b.getD i 0)
theorem dropsTo_len (a : List Int) (l : List Dt) : ∀ k, (dropsTo a l k).length ≤ l.length
  | 0 => Nat.le_refl _
  | k + 1 => Nat.le_trans (List.length_filter_le _ _) (dropsTo_len a l k)
def TwRel (a b : List Int) (l : List Dt) (W : World) (v7 v8 i : Value) (wr : World) : Prop :=
  ∃ (k n c : Nat) (A : Option Addr), k ≤ 3 ∧ i = .int .i64 k ∧ wr.ownsRow W.heap.size 3 1 v7 (topsTo a b k).length ((topsTo a b k).flatMap encI) ∧ v8 = .slice A n c ∧
    Sl encDt 9 wr (fun i => i < wr.heap.size ∧ v7.ownBlock ≠ some i) A n c (dropsTo a l k) ∧ Keep W wr

set_option maxHeartbeats 8000000 in
theorem twice_walk (w : World) (A3 : Option Addr) (n3 c3 : Nat) (zs : List Int) (hz : Sl encB 1 w (· < w.heap.size) A3 n3 c3 zs) (hz8 : ∀ x ∈ zs, 0 ≤ x ∧ x < 256) :
    Calls Try.prog 7 #[.slice A3 n3 c3] w (TrueKeep w) := by
  obtain ⟨i0, hi0, iz0, iz1, iz2⟩ := info_of info_int
  have HI := Lib.hid hi0
  have IZ0 := Lib.hid iz0
  have IZ1 := Lib.hid iz1
  have IZ2 := Lib.hid iz2
  have HZ := Lib.hid hz
  have HZ8 := Lib.hid hz8
  clear hz hz8 hi0 iz0 iz1 iz2
  go_enter Try.func7, Try.ntmps7
  go_wp2_with fail
  refine (awake37_any _).mono ?_
  rintro e w1 ⟨rfl, hk⟩
  have HK1 := Lib.hid hk
  clear hk
  go_wp2_with fail
  refine (new_any w1 A3 n3 c3 200 zs ((HZ.out.keep HK1.out).more fun i hi => Nat.lt_of_lt_of_le hi HK1.out.size) HZ8.out (by omega)).mono ?_
  rintro e w2 ⟨r, hr, rfl, hc2, hk2⟩
  have hz1 := HK1.out.size
  have hz2 := hk2.size
  have hgc := hc2.lt
  have HC2 := Lib.hid hc2
  have HK2 := Lib.hid (Keep.trans HK1.out hk2)
  clear hc2 hk2
  go_wp2_with fail
  refine (dets_any w2 _ _ r 14 (by omega) HC2.out).mono ?_
  rintro e w3 ⟨A4, n4, c4, m, rfl, hsl4, hn4, ⟨r3, hc3⟩, ho3⟩
  have HC3 := Lib.hid hc3
  have HO3 := Lib.hid ho3
  have HS4 := Lib.hid hsl4
  clear hc3 ho3 hsl4
  go_wp2_with fail
  refine (next_any _ _ _ r3 7 HC3.out (by omega) (by omega)).mono ?_
  rintro e w4 ⟨a0, ha00, ha01, rfl, hc4, ho4⟩
  have HC4 := Lib.hid hc4
  have HO4 := Lib.hid ho4
  clear hc4 ho4
  go_wp2_with fail
  refine (next_any _ _ _ _ 7 HC4.out (by omega) (by omega)).mono ?_
  rintro e w5 ⟨a1, ha10, ha11, rfl, hc5, ho5⟩
  have HC5 := Lib.hid hc5
  have HO5 := Lib.hid (Only.trans HO4.out ho5)
  clear hc5 ho5
  go_wp2_with fail
  refine (next_any _ _ _ _ 7 HC5.out (by omega) (by omega)).mono ?_
  rintro e w6 ⟨a2, ha20, ha21, rfl, hc6, ho6⟩
  have HC6 := Lib.hid hc6
  have HO6 := Lib.hid (Only.trans HO5.out ho6)
  clear hc6 ho6
  go_wp2_with fail
  refine (next_any _ _ _ _ 7 (HC6.out.alloc _) (by omega) (by omega)).mono ?_
  rintro e w7 ⟨b0, hb00, hb01, rfl, hc7, ho7⟩
  have HC7 := Lib.hid hc7
  have HO7 := Lib.hid ho7
  clear hc7 ho7
  go_wp2_with fail
  refine (next_any _ _ _ _ 7 HC7.out (by omega) (by omega)).mono ?_
  rintro e w8 ⟨b1, hb10, hb11, rfl, hc8, ho8⟩
  have HC8 := Lib.hid hc8
  have HO8 := Lib.hid (Only.trans HO7.out ho8)
  clear hc8 ho8
  go_wp2_with fail
  refine (next_any _ _ _ _ 7 HC8.out (by omega) (by omega)).mono ?_
  rintro e w9 ⟨b2, hb20, hb21, rfl, hc9, ho9⟩
  have ho69 := Only.trans HO8.out ho9
  have hz3 := HO3.out.size
  have hz6 := HO6.out.size
  have hz9 := ho69.size
  simp only [World.size_alloc] at hz9
  have hbA : Blk w9 w6.heap.size 3 #[.int .i64 a0, .int .i64 a1, .int .i64 a2] := ho69.blk (Blk.new _ _ _) ⟨by simp, by omega⟩
  have ho39 : Only w1.heap.size w3 w9 := Only.trans HO6.out (Only.of_alloc ho69)
  have hk9 : Keep w w9 := Same.trans HK2.out (Only.trans HO3.out ho39) (fun i hi => ⟨by omega, by omega⟩)
  have HBA := Lib.hid hbA
  have HK9 := Lib.hid hk9
  have HM := Lib.hid (HS4.out.keep (Same.mono ho39 (fun i hi => ⟨hi.2, by omega⟩)))
  clear hbA ho39 hk9 ho69 ho9 hc9
  go_wp2_with fail
  generalize hW : w9.alloc (.cells #[.int .i64 b0, .int .i64 b1, .int .i64 b2] 3) = W
  have hkW : Keep w9 W := hW ▸ Keep.new _ _
  have hzW : w9.heap.size < W.heap.size := by rw [← hW]; simp
  have bB : Blk W w9.heap.size 3 #[.int .i64 b0, .int .i64 b1, .int .i64 b2] := hW ▸ Blk.new _ _ _
  have bA : Blk W w6.heap.size 3 #[.int .i64 a0, .int .i64 a1, .int .i64 a2] := hkW.blk HBA.out HBA.out.lt
  have sm : Sl encDt 9 W (fun i => i < W.heap.size) A4 n4 c4 m := (HM.out.keep (Same.mono hkW (fun i hi => by omega))).more (fun i hi => by omega)
  have HKWW := Lib.hid (Keep.trans HK9.out hkW)
  have BA := Lib.hid bA
  have BB := Lib.hid bB
  have SM := Lib.hid sm
  clear hW hkW bA bB sm
  go_loopw [7, 8, 9] (fun v7 v8 i wr => TwRel [a0, a1, a2] [b0, b1, b2] m W v7 v8 i wr) (fun _ _ i _ => 3 - (intOf i).toNat)
  case atStart => exact ⟨0, n4, c4, A4, by omega, rfl, World.ownsRow_nil _ _ _ _, rfl, SM.out.more (fun i hi => ⟨hi, by simp [Value.ownBlock]⟩), Same.refl _ _⟩
  case round =>
    obtain ⟨k, n, c, A, hk3, rfl, hown, rfl, hsl, hkp⟩ := hrel
    have HO := Lib.hid hown
    have HSL := Lib.hid hsl
    have HKP := Lib.hid hkp
    have hszr := hkp.size
    clear hown hsl hkp
    by_cases hk : k < 3
    · obtain ⟨x, hx⟩ : ∃ x, [a0, a1, a2][k]? = some x := ⟨_, List.getElem?_eq_getElem (by simpa using hk)⟩
      obtain ⟨y, hy⟩ : ∃ y, [b0, b1, b2][k]? = some y := ⟨_, List.getElem?_eq_getElem (by simpa using hk)⟩
      have cx : ∀ W', Keep W W' → W'.cell? ⟨w6.heap.size, k, none⟩ = some (.int .i64 x) := fun W' h => by
        rw [(h.blk BA.out BA.out.lt).cell]
        match k, hk, hx with
        | 0, _, hx => simpa using hx
        | 1, _, hx => simpa using hx
        | 2, _, hx => simpa using hx
      have cy : ∀ W', Keep W W' → W'.cell? ⟨w9.heap.size, k, none⟩ = some (.int .i64 y) := fun W' h => by
        rw [(h.blk BB.out BB.out.lt).cell]
        match k, hk, hy with
        | 0, _, hy => simpa using hy
        | 1, _, hy => simpa using hy
        | 2, _, hy => simpa using hy
      have cx0 := cx _ HKP.out
      have cy0 := cy _ HKP.out
      have k0 : (0 : Int) ≤ k := by omega
      have k1 : (k : Int) < 3 := by omega
      have hkS : Keep W wr.drew := HKP.out.drew
      have htl : (topsTo [a0, a1, a2] [b0, b1, b2] k).length ≤ 3 := by simp [topsTo]; omega
      have HX := Lib.hid hx
      have HY := Lib.hid hy
      clear hx hy
      by_cases hxy : x < y
      · have HMX : maxI x y = y := if_pos hxy
        have HMX := Lib.hid HMX
        go_wp2_with fail
        go_region_held3 (fun wx => Keep W wx)
          (first | assumption | exact hkS | exact Keep.alloc hkS _ | exact (Keep.alloc HKP.out _).drew | exact HK5.out)
          (first | (refine step_append_any _ (by rfl) (.tmp 35) (.tmp 45) _ (by rfl) W.heap.size 3 i0 _ 1 8 Try.underlying23 HI.out IZ0.out IZ1.out IZ2.out rfl (by omega) _ _ _ (by rfl) (ownsRow_drew (HO.out.alloc _)) _ (some ⟨wr.heap.size, 0, none⟩) 1 1 (encI y) (by rfl) (Reads.drew (Reads.new rfl)) (encI_one _) (by simp [maxLen]; omega) (by omega) (by simp; omega) ?_; intro v5 w5 hown5 hg5 hat5; have HK5 : Hid (Keep W w5) := (Keep.alloc HKP.out _).drew.append (ownsRow_drew (HO.out.alloc _)) hg5 (fun i hi => hi) (by simp; omega)))
        have hsl5 : Sl encDt 9 w5 (fun i => i < w5.heap.size ∧ v5.ownBlock ≠ some i) A n c (dropsTo [a0, a1, a2] m k) := by
          have hgz := hg5.size
          simp only [World.size_alloc, World.size_drew] at hgz
          refine (HSL.out.keep ⟨hg5.os, hg5.tape, hg5.output, by omega, fun i hi => ?_⟩).more (fun i hi => ⟨by omega, fun hv => ?_⟩)
          · refine (hg5.block i (by simp; omega) (fun e => hi.2 e.symm)).trans ?_
            exact Below.heap_alloc wr _ i hi.1
          · rcases hat5 with e | e
            · rw [e] at hv; exact hi.2 hv
            · rw [e] at hv; simp at hv; omega
        have HSL5 := Lib.hid hsl5
        have HOWN5 := Lib.hid hown5
        have cx5 := cx _ HK5.out
        have hz5 := HK5.out.size
        clear hsl5 hown5 hg5 hat5 cx cy cx0 cy0
        go_wp2_with fail
        refine (discard_any w5 (fun i => i < w5.heap.size ∧ v5.ownBlock ≠ some i) A n c (dropsTo [a0, a1, a2] m k) k x (fun i hi => hi.1) HSL5.out (by have h1 := HSL5.out.1; have h2 := dropsTo_len [a0, a1, a2] m k; have h3 := SM.out.1; omega)).mono ?_
        rintro e w10 ⟨A10, n10, c10, rfl, s10, hk10⟩
        have S10 := Lib.hid s10
        have HK10 := Lib.hid hk10
        clear s10 hk10
        go_wp2_with fail
        go_roundw
        case rel =>
          refine ⟨k + 1, n10, c10, A10, by omega, by go_num, ?_, rfl, ?_, Keep.trans HK5.out HK10.out⟩
          · have e : topsTo [a0, a1, a2] [b0, b1, b2] (k + 1) = topsTo [a0, a1, a2] [b0, b1, b2] k ++ [y] := by
              unfold topsTo
              rw [List.range_succ, List.map_append]
              simp only [List.map_cons, List.map_nil, List.getD_eq_getElem?_getD, HX.out, HY.out, Option.getD_some]
              rw [show maxI x y = y from HMX.out]
            rw [e]
            simpa using ownsRow_same HOWN5.out HK10.out (fun i hi => hi.2)
          · have e : dropsTo [a0, a1, a2] m (k + 1) = (dropsTo [a0, a1, a2] m k).filter (dropDt k x) := by
              show (dropsTo [a0, a1, a2] m k).filter (dropDt k ([a0, a1, a2].getD k 0)) = _
              rw [List.getD_eq_getElem?_getD, HX.out]
              rfl
            rw [e]
            refine S10.out.more (fun i hi => ⟨hi.2, fun hv => ?_⟩)
            have := (HOWN5.out.lt i hv).2
            omega
        case measure => simp [intOf]; omega
      · have HMX : maxI x y = x := if_neg hxy
        have hle : y ≤ x := by omega
        have hif : (if x < y then y else x) = x := if_neg hxy
        have hmx1 : max x y = x := by omega
        have hmx2 : max y x = x := by omega
        have HMX := Lib.hid HMX
        go_wp2_with fail
        go_region_held3 (fun wx => Keep W wx)
          (first | assumption | exact hkS | exact Keep.alloc hkS _ | exact (Keep.alloc HKP.out _).drew | exact HK5.out)
          (first | (refine step_append_any _ (by rfl) (.tmp 35) (.tmp 45) _ (by rfl) W.heap.size 3 i0 _ 1 8 Try.underlying23 HI.out IZ0.out IZ1.out IZ2.out rfl (by omega) _ _ _ (by rfl) (ownsRow_drew (HO.out.alloc _)) _ (some ⟨wr.heap.size, 0, none⟩) 1 1 (encI x) (by rfl) (Reads.drew (Reads.new rfl)) (encI_one _) (by simp [maxLen]; omega) (by omega) (by simp; omega) ?_; intro v5 w5 hown5 hg5 hat5; have HK5 : Hid (Keep W w5) := (Keep.alloc HKP.out _).drew.append (ownsRow_drew (HO.out.alloc _)) hg5 (fun i hi => hi) (by simp; omega)))
        have hsl5 : Sl encDt 9 w5 (fun i => i < w5.heap.size ∧ v5.ownBlock ≠ some i) A n c (dropsTo [a0, a1, a2] m k) := by
          have hgz := hg5.size
          simp only [World.size_alloc, World.size_drew] at hgz
          refine (HSL.out.keep ⟨hg5.os, hg5.tape, hg5.output, by omega, fun i hi => ?_⟩).more (fun i hi => ⟨by omega, fun hv => ?_⟩)
          · refine (hg5.block i (by simp; omega) (fun e => hi.2 e.symm)).trans ?_
            exact Below.heap_alloc wr _ i hi.1
          · rcases hat5 with e | e
            · rw [e] at hv; exact hi.2 hv
            · rw [e] at hv; simp at hv; omega
        have HSL5 := Lib.hid hsl5
        have HOWN5 := Lib.hid hown5
        have cx5 := cx _ HK5.out
        have hz5 := HK5.out.size
        clear hsl5 hown5 hg5 hat5 cx cy cx0 cy0
        go_wp2_with fail
        refine (discard_any w5 (fun i => i < w5.heap.size ∧ v5.ownBlock ≠ some i) A n c (dropsTo [a0, a1, a2] m k) k x (fun i hi => hi.1) HSL5.out (by have h1 := HSL5.out.1; have h2 := dropsTo_len [a0, a1, a2] m k; have h3 := SM.out.1; omega)).mono ?_
        rintro e w10 ⟨A10, n10, c10, rfl, s10, hk10⟩
        have S10 := Lib.hid s10
        have HK10 := Lib.hid hk10
        clear s10 hk10
        go_wp2_with fail
        go_roundw
        case rel =>
          refine ⟨k + 1, n10, c10, A10, by omega, by go_num, ?_, rfl, ?_, Keep.trans HK5.out HK10.out⟩
          · have e : topsTo [a0, a1, a2] [b0, b1, b2] (k + 1) = topsTo [a0, a1, a2] [b0, b1, b2] k ++ [x] := by
              unfold topsTo
              rw [List.range_succ, List.map_append]
              simp only [List.map_cons, List.map_nil, List.getD_eq_getElem?_getD, HX.out, HY.out, Option.getD_some]
              rw [show maxI x y = x from HMX.out]
            rw [e]
            simpa using ownsRow_same HOWN5.out HK10.out (fun i hi => hi.2)
          · have e : dropsTo [a0, a1, a2] m (k + 1) = (dropsTo [a0, a1, a2] m k).filter (dropDt k x) := by
              show (dropsTo [a0, a1, a2] m k).filter (dropDt k ([a0, a1, a2].getD k 0)) = _
              rw [List.getD_eq_getElem?_getD, HX.out]
              rfl
            rw [e]
            refine S10.out.more (fun i hi => ⟨hi.2, fun hv => ?_⟩)
            have := (HOWN5.out.lt i hv).2
            omega
        case measure => simp [intOf]; omega
    · obtain rfl : k = 3 := by omega
      have eT : topsTo [a0, a1, a2] [b0, b1, b2] 3 = [maxI a0 b0, maxI a1 b1, maxI a2 b2] := rfl
      have eD : dropsTo [a0, a1, a2] m 3 = m.filter (keepDt [a0, a1, a2]) := (keep_one a0 a1 a2 m)
      have hO := HO.out
      rw [eT] at hO
      obtain ⟨A7, c7, rfl, st⟩ := Sl.of_own hO
      have sD := HSL.out
      rw [eD] at sD
      have sm : Sl encDt 9 wr (fun i => i < wr.heap.size) A4 n4 c4 m := (SM.out.keep HKP.out).more (fun i hi => by omega)
      have sa : Sl encI 1 wr (fun i => i < wr.heap.size) (some ⟨w6.heap.size, 0, none⟩) 3 3 [a0, a1, a2] := ints3_reads a0 a1 a2 (HKP.out.blk BA.out BA.out.lt) (by have := BA.out.lt; omega)
      have sb : Sl encI 1 wr (fun i => i < wr.heap.size) (some ⟨w9.heap.size, 0, none⟩) 3 3 [b0, b1, b2] := ints3_reads b0 b1 b2 (HKP.out.blk BB.out BB.out.lt) (by have := BB.out.lt; omega)
      have st' : Sl encI 1 wr (fun i => i < wr.heap.size) A7 3 c7 [maxI a0 b0, maxI a1 b1, maxI a2 b2] := st.more (fun i hi => hi.2)
      have sD' : Sl encDt 9 wr (fun i => i < wr.heap.size) A n c (m.filter (keepDt [a0, a1, a2])) := sD.more (fun i hi => hi.1)
      have SMM := Lib.hid sm
      have SA := Lib.hid sa
      have SB := Lib.hid sb
      have ST := Lib.hid st'
      have SD := Lib.hid sD'
      clear hO st sD sm sa sb st' sD' eT eD
      go_wp2_with fail
      refine (ldets_any wr _ _ _ _ _ _ _ m [a0, a1, a2] (fun i h => h) SMM.out SA.out (by omega) (by omega)).mono ?_
      rintro e w10 ⟨A10, n10, c10, rfl, s10, hk10⟩
      have hn10 : n10 ≤ 1000 := by have h1 := s10.1; have h2 := List.length_filter_le (keepDt [a0, a1, a2]) m; have h3 := SMM.out.1; omega
      have S10 := Lib.hid s10
      have HK10 := Lib.hid hk10
      clear s10 hk10
      go_wp2_with fail
      refine (ldets_any w10 (fun i => i < w10.heap.size) _ _ _ _ _ _ (m.filter (keepDt [a0, a1, a2])) [b0, b1, b2] (fun i h => h) (S10.out.more (fun i hi => hi.2)) ((SB.out.keep HK10.out).more (fun i hi => Nat.lt_of_lt_of_le hi HK10.out.size)) (by omega) (by omega)).mono ?_
      rintro e w11 ⟨A11, n11, c11, rfl, s11, hk11⟩
      rw [keep_twice] at s11
      have S11 := Lib.hid s11
      have HK11 := Lib.hid (Keep.trans HK10.out hk11)
      clear s11 hk11
      go_wp2_with fail
      refine (ldets_any w11 (fun i => i < w11.heap.size) _ _ _ _ _ _ m [maxI a0 b0, maxI a1 b1, maxI a2 b2] (fun i h => h) ((SMM.out.keep HK11.out).more (fun i hi => Nat.lt_of_lt_of_le hi HK11.out.size)) ((ST.out.keep HK11.out).more (fun i hi => Nat.lt_of_lt_of_le hi HK11.out.size)) (by omega) (by simp)).mono ?_
      rintro e w12 ⟨A12, n12, c12, rfl, s12, hk12⟩
      obtain rfl : n12 = n11 := s12.1.trans S11.out.1.symm
      have hn12 : n12 ≤ 1000 := by have h1 := s12.1; have h2 := List.length_filter_le (keepDt [maxI a0 b0, maxI a1 b1, maxI a2 b2]) m; have h3 := SMM.out.1; omega
      have S12 := Lib.hid s12
      have HK12 := Lib.hid hk12
      clear s12 hk12
      go_wp2_with fail
      refine (sameDets_any w12 (fun i => i < w12.heap.size) A11 A12 n12 c11 c12 _ ((S11.out.keep (Same.mono HK12.out (fun i hi => hi.2))).more (fun i hi => Nat.lt_of_lt_of_le hi.2 HK12.out.size)) (S12.out.more (fun i hi => hi.2)) hn12).mono ?_
      rintro e w13 ⟨rfl, d13, rfl⟩
      have HK13 : Hid (Keep wr (w12.drewN d13)) := Same.drewN (Keep.trans HK11.out HK12.out) _
      go_wp2_with fail
      refine (ldets_any (w12.drewN d13) (fun i => i < w12.heap.size) _ _ _ _ _ _ m [a0, a1, a2] (fun i h => h) ((SMM.out.keep HK13.out).more (fun i hi => Nat.lt_of_lt_of_le hi HK13.out.size)) ((SA.out.keep HK13.out).more (fun i hi => Nat.lt_of_lt_of_le hi HK13.out.size)) (by omega) (by omega)).mono ?_
      rintro e w14 ⟨A14, n14, c14, rfl, s14, hk14⟩
      obtain rfl : n14 = n := s14.1.trans SD.out.1.symm
      have hn14 : n14 ≤ 1000 := by have h1 := s14.1; have h2 := List.length_filter_le (keepDt [a0, a1, a2]) m; have h3 := SMM.out.1; omega
      have S14 := Lib.hid s14
      have HK14 := Lib.hid (Keep.trans HK13.out hk14)
      clear s14 hk14
      go_wp2_with fail
      refine (sameDets_any w14 (fun i => i < w14.heap.size) A14 A n14 c14 c _ (S14.out.more (fun i hi => hi.2)) ((SD.out.keep HK14.out).more (fun i hi => Nat.lt_of_lt_of_le hi HK14.out.size)) hn14).mono ?_
      rintro e w15 ⟨rfl, d15, rfl⟩
      go_wp2_with fail
      go_ret
      exact ⟨rfl, Same.drewN (Keep.trans HKWW.out (Keep.trans HKP.out HK14.out)) _⟩
end Go.Proofs.Ytafgacfbplilpaa
