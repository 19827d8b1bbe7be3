/- The walk of LogcollectDets. -/
import Derived.Test.YtafgacfbplilpaaAwake37
import Derived.Test.YtafgacfbplilpaaDisc
import Derived.Test.YtafgacfbplilpaaNew
import Derived.Test.YtafgacfbplilpaaRowIn
set_option linter.unusedVariables false
set_option linter.unusedSimpArgs false
namespace Go.Proofs.Ytafgacfbplilpaa
open Go.RowKit Go.Proofs

theorem ints3_reads {w : World} {b : Nat} {S : Nat → Prop} (x y z : Int) (h : Blk w b 3 #[.int .i64 x, .int .i64 y, .int .i64 z]) (s : S b) : Sl encI 1 w S (some ⟨b, 0, none⟩) 3 3 [x, y, z] :=
  ⟨rfl, by omega, by simp [maxLen], rfl, fun _ => ⟨b, 0, rfl, s, fun j u hu => by rw [Nat.zero_add, h.cell]; simpa [encI] using hu⟩⟩

set_option maxHeartbeats 4000000 in
theorem logcollectDets_walk (w : World) (A A2 A3 : Option Addr) (n c n2 c2 n3 c3 : Nat) (l : List Dt) (bs zs : List Int) (hl : Sl encDt 9 w (· < w.heap.size) A n c l) (hb : Sl encI 1 w (· < w.heap.size) A2 n2 c2 bs)
    (hz : Sl encB 1 w (· < w.heap.size) A3 n3 c3 zs) (hz8 : ∀ x ∈ zs, 0 ≤ x ∧ x < 256) :
    Calls Try.prog 3 #[.slice A n c, .slice A2 n2 c2, .slice A3 n3 c3] w (TrueKeep w) := by
  have HL := Lib.hid hl
  have HB := Lib.hid hb
  have HZ := Lib.hid hz
  have HZ8 := Lib.hid hz8
  clear hl hb hz hz8
  go_enter Try.func3, Try.ntmps3
  go_wp2_with fail
  refine (awake37_any _).mono ?_
  rintro e w1 ⟨rfl, hk⟩
  have HK1 := Lib.hid hk
  clear hk
  by_cases h1 : 60 < n
  · have h1d : decide ((60 : Int) < (n : Int)) = true := by simp; omega
    go_wp2_with fail
    go_ret
    exact ⟨rfl, HK1.out⟩
  have h1d : decide ((60 : Int) < (n : Int)) = false := by simp; omega
  by_cases h2 : 60 < n2
  · have h2d : decide ((60 : Int) < (n2 : Int)) = true := by simp; omega
    go_wp2_with fail
    go_ret
    exact ⟨rfl, HK1.out⟩
  have h2d : decide ((60 : Int) < (n2 : Int)) = false := by simp; omega
  go_wp2_with fail
  refine (new_any w1 A3 n3 c3 200 zs ((HZ.out.keep HK1.out).more fun i hi => Nat.lt_of_lt_of_le hi HK1.out.size) HZ8.out (by omega)).mono ?_
  rintro e w2 ⟨r, hr, rfl, hc2, hk2⟩
  have hz1 := HK1.out.size
  have hz2 := hk2.size
  have hgc := hc2.lt
  have HC2 := Lib.hid hc2
  have HK2 := Lib.hid (Keep.trans HK1.out hk2)
  clear hc2 hk2
  go_wp2_with fail
  refine (dets_any w2 _ _ r 14 (by omega) HC2.out).mono ?_
  rintro e w3 ⟨A4, n4, c4, m, rfl, hsl4, hn4, ⟨r3, hc3⟩, ho3⟩
  have HC3 := Lib.hid hc3
  have HO3 := Lib.hid ho3
  have HS4 := Lib.hid hsl4
  clear hc3 ho3 hsl4
  go_wp2_with fail
  refine (next_any _ _ _ r3 7 HC3.out (by omega) (by omega)).mono ?_
  rintro e w4 ⟨x1, hx10, hx11, rfl, hc4, ho4⟩
  have HC4 := Lib.hid hc4
  have HO4 := Lib.hid ho4
  clear hc4 ho4
  go_wp2_with fail
  refine (next_any _ _ _ _ 7 HC4.out (by omega) (by omega)).mono ?_
  rintro e w5 ⟨x2, hx20, hx21, rfl, hc5, ho5⟩
  have HC5 := Lib.hid hc5
  have HO5 := Lib.hid (Only.trans HO4.out ho5)
  clear hc5 ho5
  go_wp2_with fail
  refine (next_any _ _ _ _ 7 HC5.out (by omega) (by omega)).mono ?_
  rintro e w6 ⟨x3, hx30, hx31, rfl, hc6, ho6⟩
  have HC6 := Lib.hid hc6
  have HO6 := Lib.hid (Only.trans HO5.out ho6)
  clear hc6 ho6
  go_wp2_with fail
  refine (next_any _ _ _ _ 4 (HC6.out.alloc _) (by omega) (by omega)).mono ?_
  rintro e w7 ⟨k, hk0, hk1, rfl, hc7, ho7⟩
  obtain ⟨k, rfl⟩ := Int.eq_ofNat_of_zero_le hk0
  have hz3 := HO3.out.size
  have hz6 := HO6.out.size
  have hz7 := ho7.size
  simp only [World.size_alloc] at hz7
  have hb7 : Blk w7 w6.heap.size 3 #[.int .i64 x1, .int .i64 x2, .int .i64 (x3 - 1)] := ho7.blk (Blk.new _ _ _) ⟨by simp, by omega⟩
  have ho37 : Only w1.heap.size w3 w7 := Only.trans HO6.out (Only.of_alloc ho7)
  have ho27 : Only w1.heap.size w2 w7 := Only.trans HO3.out ho37
  have hkw : Keep w w7 := Same.trans HK2.out ho27 (fun i hi => ⟨by omega, by omega⟩)
  have sl : Sl encDt 9 w7 (fun i => i < w7.heap.size) A n c l := (HL.out.keep hkw).more (fun i hi => by omega)
  have sb : Sl encI 1 w7 (fun i => i < w7.heap.size) A2 n2 c2 bs := (HB.out.keep hkw).more (fun i hi => by omega)
  have sm : Sl encDt 9 w7 (fun i => i < w7.heap.size) A4 n4 c4 m := (HS4.out.keep (Same.mono ho37 (fun i hi => ⟨hi.2, by omega⟩))).more (fun i hi => by omega)
  have sx : Sl encI 1 w7 (fun i => i < w7.heap.size) (some ⟨w6.heap.size, 0, none⟩) k 3 ([x1, x2, x3 - 1].take k) := (ints3_reads x1 x2 (x3 - 1) hb7 (by omega)).to_ encI_len (by omega)
  have SL := Lib.hid sl
  have SB := Lib.hid sb
  have SM := Lib.hid sm
  have SX := Lib.hid sx
  have HKW := Lib.hid hkw
  clear sl sb sm sx hkw ho37 ho27 ho7 hc7 hb7
  have k3 : (k : Int) ≤ 3 := by omega
  go_wp2_with fail
  refine (ldets_any w7 _ A A2 n c n2 c2 l bs (fun i h => h) SL.out SB.out (by omega) (by omega)).mono ?_
  rintro e w8 ⟨A5, n5, c5, rfl, s5, hk8⟩
  have S5 := Lib.hid s5
  have HK8 := Lib.hid hk8
  clear s5 hk8
  go_wp2_with fail
  refine (rdets_any w8 (fun i => i < w8.heap.size) A A2 n c n2 c2 l bs (fun i h => h) ((SL.out.keep HK8.out).more (fun i hi => Nat.lt_of_lt_of_le hi HK8.out.size)) ((SB.out.keep HK8.out).more (fun i hi => Nat.lt_of_lt_of_le hi HK8.out.size)) (by omega) (by omega)).mono ?_
  rintro e w9 ⟨A6, n6, c6, rfl, s6, hk9⟩
  obtain rfl : n6 = n5 := s6.1.trans S5.out.1.symm
  have hln : n6 ≤ 1000 := by have h1 := s6.1; have h2 := List.length_filter_le (keepDt bs) l; have h3 := SL.out.1; omega
  have S6 := Lib.hid s6
  have HK9 := Lib.hid hk9
  clear s6 hk9
  go_wp2_with fail
  refine (sameDets_any w9 (fun i => i < w9.heap.size) A5 A6 n6 c5 c6 (l.filter (keepDt bs)) ((S5.out.keep (Same.mono HK9.out (fun i hi => hi.2))).more (fun i hi => Nat.lt_of_lt_of_le hi.2 HK9.out.size)) (S6.out.more (fun i hi => hi.2)) hln).mono ?_
  rintro e w10 ⟨rfl, d10, rfl⟩
  have HK10 : Hid (Keep w7 (w9.drewN d10)) := Same.drewN (Keep.trans HK8.out HK9.out) _
  go_wp2_with fail
  refine (ldets_any (w9.drewN d10) (fun i => i < w9.heap.size) A4 _ n4 c4 _ _ m ([x1, x2, x3 - 1].take k) (fun i h => h) ((SM.out.keep HK10.out).more (fun i hi => Nat.lt_of_lt_of_le hi HK10.out.size)) ((SX.out.keep HK10.out).more (fun i hi => Nat.lt_of_lt_of_le hi HK10.out.size)) (by omega) (by omega)).mono ?_
  rintro e w11 ⟨A7, n7, c7, rfl, s7, hk11⟩
  have S7 := Lib.hid s7
  have HK11 := Lib.hid (Keep.trans HK10.out hk11)
  clear s7 hk11
  go_wp2_with fail
  refine (rdets_any w11 (fun i => i < w11.heap.size) A4 _ n4 c4 _ _ m ([x1, x2, x3 - 1].take k) (fun i h => h) ((SM.out.keep HK11.out).more (fun i hi => Nat.lt_of_lt_of_le hi HK11.out.size)) ((SX.out.keep HK11.out).more (fun i hi => Nat.lt_of_lt_of_le hi HK11.out.size)) (by omega) (by omega)).mono ?_
  rintro e w12 ⟨A8, n8, c8, rfl, s8, hk12⟩
  obtain rfl : n8 = n7 := s8.1.trans S7.out.1.symm
  have hln2 : n8 ≤ 1000 := by have h1 := s8.1; have h2 := List.length_filter_le (keepDt ([x1, x2, x3 - 1].take k)) m; have h3 := SM.out.1; omega
  have S8 := Lib.hid s8
  have HK12 := Lib.hid hk12
  clear s8 hk12
  go_wp2_with fail
  refine (sameDets_any w12 (fun i => i < w12.heap.size) A7 A8 n8 c7 c8 (m.filter (keepDt ([x1, x2, x3 - 1].take k))) ((S7.out.keep (Same.mono HK12.out (fun i hi => hi.2))).more (fun i hi => Nat.lt_of_lt_of_le hi.2 HK12.out.size)) (S8.out.more (fun i hi => hi.2)) hln2).mono ?_
  rintro e w13 ⟨rfl, d13, rfl⟩
  go_wp2_with fail
  go_ret
  exact ⟨rfl, Same.drewN (Keep.trans HKW.out (Keep.trans HK11.out HK12.out)) _⟩
end Go.Proofs.Ytafgacfbplilpaa
