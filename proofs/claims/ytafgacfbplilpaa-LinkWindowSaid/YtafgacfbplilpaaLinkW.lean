/- The law LinkWindow. -/
import Derived.Test.YtafgacfbplilpaaLinkB
set_option linter.unusedVariables false
set_option linter.unusedSimpArgs false
namespace Go.Proofs.Ytafgacfbplilpaa
open Go.RowKit Go.Proofs

def WinRel (w : World) (G : Nat) (s b : Int) (off top : Nat) (i : Value) (wr : World) : Prop :=
  ∃ (j : Nat) (kept : List Int) (cs : List Value), i = .int .i64 j ∧ j ≤ top ∧ kept.length = off + j ∧ BoxLk wr G ⟨s, b, kept, 1, []⟩ cs ∧ Keep w wr

set_option maxHeartbeats 8000000 in
set_option maxRecDepth 100000 in
theorem linkWindow_walk (w : World) (x y : Int) (hx0 : 0 ≤ x) (hx1 : x < 256) (hy0 : 0 ≤ y) (hy1 : y < 256) :
    Calls Try.prog 5 #[.int .u8 x, .int .u8 y] w (KTrue w) := by
  go_enter Try.func5, Try.ntmps5
  go_wp2_with fail
  refine (awake15_any w).mono ?_
  rintro e w0 ⟨rfl, hk0⟩
  have HK0 := Lib.hid hk0
  clear hk0
  go_wp2_with fail
  have hs1 : 1 ≤ 1 + x % 8 := by omega
  have hs2 : 1 + x % 8 ≤ 8 := by omega
  generalize 1 + x % 8 = s at *
  obtain ⟨sn, rfl⟩ := Int.eq_ofNat_of_zero_le (show 0 ≤ s by omega)
  have e0 : newS (sn : Int) = ⟨sn, 1, [], 1, []⟩ := if_neg (by omega)
  refine (new15_any sn w0 (fun _ => False)).mono ?_
  rw [e0]
  clear e0
  rintro e w1 ⟨cs1, rfl, hr1, hk1⟩
  have HR1 := Lib.hid hr1
  have HK1 := Lib.hid hk1
  clear hr1 hk1
  have hb1 : ∀ w2, Blk w2 w1.heap.size 35 cs1.toArray → Same (· ≠ w1.heap.size) (w1.alloc (.cells #[.int .i64 0, .int .i64 0, .slice none 0 0, .int .i64 0, .slice none 0 0] 35)) w2 → BoxLk w2 w1.heap.size ⟨sn, 1, [], 1, []⟩ cs1 ∧ Keep w w2 := fun w2 hb2 hs2 => by
    have hz := hs2.size
    simp at hz
    exact ⟨⟨hb2, ((HR1.out.keep (Same.mono (Keep.new w1 _) (fun i hi => (hi.resolve_left id).2))).keep (Same.mono hs2 (fun i hi => by have := hi.resolve_left id; omega))).more (fun i hi => by have := hi.resolve_left id; omega)⟩, Keep.write (Keep.alloc (Keep.trans HK0.out HK1.out) _) hs2 (Keep.trans HK0.out HK1.out).size⟩
  have HB1 := Lib.hid hb1
  clear hb1
  have hw1 : w.heap.size ≤ w1.heap.size := (Keep.trans HK0.out HK1.out).size
  go_wp2_with (refine wpList_store_all rfl _ (.tmp 6) (.tmp 29) rfl w1.heap.size 35 _ cs1 rfl rfl (Blk.new _ _ _) (by rw [HR1.out.len]; rfl) (info_lk HR1.out.len) HR1.out.one ?_; intro w2 hb2 hs2; have HX2 := Lib.hid (HB1.out w2 hb2 hs2).1; have HW2 := Lib.hid (HB1.out w2 hb2 hs2).2; clear hb2 hs2)
  go_loopw [8] (fun i wr => WinRel w w1.heap.size sn 1 0 sn i wr) (fun i _ => sn - (intOf i).toNat)
  case atStart => exact ⟨0, [], cs1, rfl, by omega, rfl, HX2.out, HW2.out⟩
  case round =>
    obtain ⟨j, kept, cs, rfl, hj, hlen, hbox, hk⟩ := hrel
    have HLEN := Lib.hid hlen
    have HBOX := Lib.hid hbox
    have HK := Lib.hid hk
    clear hlen hbox hk
    by_cases hlt : j < sn
    · have hd : decide (j < sn) = true := by simpa using hlt
      go_wp2_with (refine wpList_load_all rfl _ (.tmp 6) rfl w1.heap.size 35 cs _ rfl HBOX.out.1 Try.underlying35 rfl (info_lk HBOX.out.2.len) ?_)
      have e1 : offerS ⟨sn, 1, kept, 1, []⟩ j = ⟨sn, 1, kept ++ [(j : Int)], 1, []⟩ := if_neg (by have := HLEN.out; simp; omega)
      have e2 : offerErr ⟨sn, 1, kept, 1, []⟩ = 0 := if_neg (by have := HLEN.out; simp; omega)
      refine (offer_any wr (fun i => i < wr.heap.size ∧ i ≠ w1.heap.size) cs ⟨sn, 1, kept, 1, []⟩ j (fun i hi => hi.1) HBOX.out.2 (by have := HLEN.out; simp; omega)).mono ?_
      rw [e1, e2]
      clear e1 e2
      rintro e w3 ⟨cs3, rfl, hr3, hk3⟩
      have HR3 := Lib.hid hr3
      have HK3 := Lib.hid hk3
      clear hr3 hk3
      have hG := HBOX.out.1.lt
      have hz3 := HK3.out.size
      go_wp2_with (first
        | (refine wpList_store_all rfl _ (.tmp 9) (.tmp 40) rfl w3.heap.size 35 _ cs3 rfl rfl (Blk.new _ _ _) (by rw [HR3.out.len]; rfl) (info_lk HR3.out.len) HR3.out.one ?_; intro w4 hb4 hs4; have HB4 := Lib.hid hb4; have HS4 := Lib.hid hs4; clear hb4 hs4)
        | (refine wpList_load_all rfl _ (.tmp 9) rfl w3.heap.size 35 cs3 _ rfl HB4.out Try.underlying35 rfl (info_lk HR3.out.len) ?_)
        | (refine wpList_store_all rfl _ (.tmp 6) (.tmp 44) rfl w1.heap.size 35 _ cs3 rfl rfl (HS4.out.blk ((HK3.out.blk HBOX.out.1 hG).alloc _) (by omega)) (by have := HBOX.out.2.len; have := HR3.out.len; simp; omega) (info_lk HR3.out.len) HR3.out.one ?_; intro w5 hb5 hs5; have HB5 := Lib.hid hb5; have HS5 := Lib.hid hs5; clear hb5 hs5))
      go_roundw
      case rel =>
        have ho : Only w1.heap.size w3 w5 := Same.trans (Same.trans (Keep.only (Keep.new w3 _) _) HS4.out (fun i hi => by omega)) HS5.out (fun i hi => hi.2)
        exact ⟨j + 1, kept ++ [(j : Int)], cs3, by go_num, by omega, by have := HLEN.out; simp; omega, BoxLk.next hG HR3.out HK3.out HB5.out ho, Same.trans (Keep.trans HK.out HK3.out) ho (fun i hi => ⟨by have := HK.out.size; omega, by omega⟩)⟩
      case measure => simp [intOf]; omega
    · obtain rfl : j = sn := by omega
      have hd : decide (j < j) = false := by simp
      clear hlt
      go_wp2_with (refine wpList_load_all rfl _ (.tmp 6) rfl w1.heap.size 35 cs _ rfl HBOX.out.1 Try.underlying35 rfl (info_lk HBOX.out.2.len) ?_)
      have e1 : offerS ⟨j, 1, kept, 1, []⟩ 9 = zeroLk := if_pos (by have := HLEN.out; simp; omega)
      have e2 : offerErr ⟨j, 1, kept, 1, []⟩ = 15 := if_pos (by have := HLEN.out; simp; omega)
      refine (offer_any wr (fun i => i < wr.heap.size ∧ i ≠ w1.heap.size) cs ⟨j, 1, kept, 1, []⟩ 9 (fun i hi => hi.1) HBOX.out.2 (by have := HLEN.out; simp; omega)).mono ?_
      rw [e1, e2]
      clear e1 e2
      rintro e w3 ⟨cs3, rfl, hr3, hk3⟩
      have HR3 := Lib.hid hr3
      have HK3 := Lib.hid hk3
      clear hr3 hk3
      have hG := HBOX.out.1.lt
      have hz3 := HK3.out.size
      have hb3 := (HBOX.out.keep HK3.out).keep (Keep.new w3 (.cells #[.int .i64 0, .int .i64 0, .slice none 0 0, .int .i64 0, .slice none 0 0] 35))
      have HB3 := Lib.hid hb3
      clear hb3
      go_wp2_with (first
        | (refine wpList_store_all rfl _ (.tmp 11) (.tmp 48) rfl w3.heap.size 35 _ cs3 rfl rfl (Blk.new _ _ _) (by rw [HR3.out.len]; rfl) (info_lk HR3.out.len) HR3.out.one ?_; intro w4 hb4 hs4; have HK4 : Hid (Keep w3 w4) := Lib.hid (Keep.write (Keep.new w3 _) hs4 (Nat.le_refl _)); clear hb4 hs4)
        | (refine wpList_load_all rfl _ (.tmp 6) rfl w1.heap.size 35 cs _ rfl (HK4.out.blk (HK3.out.blk HBOX.out.1 hG) (by omega)) Try.underlying35 rfl (info_lk HBOX.out.2.len) ?_))
      have hbox4 := (HBOX.out.keep HK3.out).keep HK4.out
      have hk4 := Keep.trans HK.out (Keep.trans HK3.out HK4.out)
      have HBOX4 := Lib.hid hbox4
      have HK4 := Lib.hid hk4
      clear hbox4 hk4
      have hm0 : 0 ≤ y % (j + 2) := Int.emod_nonneg _ (by omega)
      have hm1 : y % (j + 2) < j + 2 := Int.emod_lt_of_pos _ (by omega)
      generalize y % ((j : Int) + 2) = m at *
      obtain ⟨mn, rfl⟩ := Int.eq_ofNat_of_zero_le hm0
      refine (confirm_any w4 (fun i => i < w4.heap.size ∧ i ≠ w1.heap.size) cs ⟨j, 1, kept, 1, []⟩ ⟨0, mn, 0⟩ (fun i hi => hi.1) HBOX4.out.2 (by have := HLEN.out; simp; omega) (by simp) (by simp) ⟨by show _ ≤ (mn : Int); omega, by show (mn : Int) ≤ _; omega⟩).mono ?_
      have conf : mn ≤ j → confirmS ⟨j, 1, kept, 1, []⟩ ⟨0, mn, 0⟩ = ⟨j, mn + 1, kept.drop mn, 1, []⟩ := fun hle => by
        have hl := HLEN.out
        unfold confirmS
        by_cases h0 : mn = 0
        · subst h0
          rw [if_neg (by simp)]
          simp
        · rw [if_pos (by simp; omega)]
          have : ((mn : Int) - 1 + 1).toNat = mn := by omega
          simp [this]
      have conf2 : ¬ mn ≤ j → confirmS ⟨j, 1, kept, 1, []⟩ ⟨0, mn, 0⟩ = ⟨j, 1, kept, 1, []⟩ := fun hle => if_neg (by have := HLEN.out; simp; omega)
      by_cases hgt : mn ≤ j
      · rw [conf hgt]
        clear conf conf2
        rintro e w5 ⟨cs5, rfl, hr5, hk5⟩
        have HR5 := Lib.hid hr5
        have HK5 := Lib.hid hk5
        clear hr5 hk5
        have hG4 := HBOX4.out.1.lt
        have hz5 := HK5.out.size
        have hd2 : decide (j < mn) = false := by simp; omega
        go_wp2_with (refine wpList_store_all rfl _ (.tmp 6) (.tmp 58) rfl w1.heap.size 35 _ cs5 rfl rfl (HK5.out.blk HBOX4.out.1 hG4) (by have := HBOX4.out.2.len; have := HR5.out.len; simp; omega) (info_lk HR5.out.len) HR5.out.one ?_; intro w6 hb6 hs6; have HX6 := Lib.hid (BoxLk.next hG4 HR5.out HK5.out hb6 (only_of_ne hs6)); have HW6 := Lib.hid (Keep.write (Keep.trans HK4.out HK5.out) hs6 hw1); clear hb6 hs6)
        go_loopw [14] (fun i wr => WinRel w w1.heap.size j (mn + 1) (j - mn) mn i wr) (fun i _ => mn - (intOf i).toNat)
        case atStart => exact ⟨0, kept.drop mn, cs5, rfl, by omega, by have := HLEN.out; simp; omega, HX6.out, HW6.out⟩
        case round =>
          obtain ⟨i2, kept', cs', rfl, hi2, hlen2, hbox2, hkx2⟩ := hrel
          have HLEN2 := Lib.hid hlen2
          have HBOX2 := Lib.hid hbox2
          have HKX2 := Lib.hid hkx2
          clear hlen2 hbox2 hkx2
          by_cases hlt2 : i2 < mn
          · have hdx : decide (i2 < mn) = true := by simpa using hlt2
            go_wp2_with (refine wpList_load_all rfl _ (.tmp 6) rfl w1.heap.size 35 cs' _ rfl HBOX2.out.1 Try.underlying35 rfl (info_lk HBOX2.out.2.len) ?_)
            have e1 : offerS ⟨j, mn + 1, kept', 1, []⟩ i2 = ⟨j, mn + 1, kept' ++ [(i2 : Int)], 1, []⟩ := if_neg (by have := HLEN2.out; simp; omega)
            have e2 : offerErr ⟨j, mn + 1, kept', 1, []⟩ = 0 := if_neg (by have := HLEN2.out; simp; omega)
            refine (offer_any wr (fun i => i < wr.heap.size ∧ i ≠ w1.heap.size) cs' ⟨j, mn + 1, kept', 1, []⟩ i2 (fun i hi => hi.1) HBOX2.out.2 (by have := HLEN2.out; simp; omega)).mono ?_
            rw [e1, e2]
            clear e1 e2
            rintro e w3x ⟨cs3x, rfl, hr3x, hk3x⟩
            have HR3x := Lib.hid hr3x
            have HK3x := Lib.hid hk3x
            clear hr3x hk3x
            have hGx := HBOX2.out.1.lt
            have hz3x := HK3x.out.size
            go_wp2_with (first
              | (refine wpList_store_all rfl _ (.tmp 15) (.tmp 71) rfl w3x.heap.size 35 _ cs3x rfl rfl (Blk.new _ _ _) (by rw [HR3x.out.len]; rfl) (info_lk HR3x.out.len) HR3x.out.one ?_; intro w4x hb4x hs4x; have HB4x := Lib.hid hb4x; have HS4x := Lib.hid hs4x; clear hb4x hs4x)
              | (refine wpList_load_all rfl _ (.tmp 15) rfl w3x.heap.size 35 cs3x _ rfl HB4x.out Try.underlying35 rfl (info_lk HR3x.out.len) ?_)
              | (refine wpList_store_all rfl _ (.tmp 6) (.tmp 75) rfl w1.heap.size 35 _ cs3x rfl rfl (HS4x.out.blk ((HK3x.out.blk HBOX2.out.1 hGx).alloc _) (by omega)) (by have := HBOX2.out.2.len; have := HR3x.out.len; simp; omega) (info_lk HR3x.out.len) HR3x.out.one ?_; intro w5x hb5x hs5x; have HB5x := Lib.hid hb5x; have HS5x := Lib.hid hs5x; clear hb5x hs5x))
            go_roundw
            case rel =>
              have hox : Only w1.heap.size w3x w5x := Same.trans (Same.trans (Keep.only (Keep.new w3x _) _) HS4x.out (fun i hi => by omega)) HS5x.out (fun i hi => hi.2)
              exact ⟨i2 + 1, kept' ++ [(i2 : Int)], cs3x, by go_num, by omega, by have := HLEN2.out; simp; omega, BoxLk.next hGx HR3x.out HK3x.out HB5x.out hox, Same.trans (Keep.trans HKX2.out HK3x.out) hox (fun i hi => ⟨by have := HKX2.out.size; omega, by omega⟩)⟩
            case measure => simp [intOf]; omega
          · obtain rfl : i2 = mn := by omega
            have hdx : decide (i2 < i2) = false := by simp
            clear hlt2
            go_wp2_with (refine wpList_load_all rfl _ (.tmp 6) rfl w1.heap.size 35 cs' _ rfl HBOX2.out.1 Try.underlying35 rfl (info_lk HBOX2.out.2.len) ?_)
            have e1 : offerS ⟨j, i2 + 1, kept', 1, []⟩ 9 = zeroLk := if_pos (by have := HLEN2.out; simp; omega)
            have e2 : offerErr ⟨j, i2 + 1, kept', 1, []⟩ = 15 := if_pos (by have := HLEN2.out; simp; omega)
            refine (offer_any wr (fun i => i < wr.heap.size ∧ i ≠ w1.heap.size) cs' ⟨j, i2 + 1, kept', 1, []⟩ 9 (fun i hi => hi.1) HBOX2.out.2 (by have := HLEN2.out; simp; omega)).mono ?_
            rw [e1, e2]
            clear e1 e2
            rintro e w6 ⟨cs6, rfl, hr6, hk6⟩
            have HR6 := Lib.hid hr6
            have HK6 := Lib.hid hk6
            clear hr6 hk6
            have hG6 := HBOX2.out.1.lt
            have hz6 := HK6.out.size
            go_wp2_with (first
              | (refine wpList_store_all rfl _ (.tmp 17) (.tmp 79) rfl w6.heap.size 35 _ cs6 rfl rfl (Blk.new _ _ _) (by rw [HR6.out.len]; rfl) (info_lk HR6.out.len) HR6.out.one ?_; intro w7 hb7 hs7; have HK7 : Hid (Keep w6 w7) := Lib.hid (Keep.write (Keep.new w6 _) hs7 (Nat.le_refl _)); clear hb7 hs7)
              | (refine wpList_load_all rfl _ (.tmp 6) rfl w1.heap.size 35 cs' _ rfl (HK7.out.blk (HK6.out.blk HBOX2.out.1 hG6) (by omega)) Try.underlying35 rfl (info_lk HBOX2.out.2.len) ?_))
            have hbox7 := (HBOX2.out.keep HK6.out).keep HK7.out
            have hk7 := Keep.trans HKX2.out (Keep.trans HK6.out HK7.out)
            have HBOX7 := Lib.hid hbox7
            have HK7 := Lib.hid hk7
            clear hbox7 hk7
            refine (packets_any w7 (fun i => i < w7.heap.size ∧ i ≠ w1.heap.size) cs' ⟨j, i2 + 1, kept', 1, []⟩ (fun i hi => hi.1) HBOX7.out.2 (by have := HLEN2.out; simp; omega) (by simp; omega) (by simp; omega)).mono ?_
            rintro e w8 ⟨A8, n8, c8, rfl, hsl8, hk8⟩
            obtain ⟨g8, o8, q8, rfl, hg8, hq8, q80, q81, q82⟩ := hsl8.cell0 (by have := HLEN2.out; rw [hsl8.1, packetsS, packetsTo_len]; simp; omega)
            obtain rfl : n8 = j := by rw [hsl8.1, packetsS, packetsTo_len]; have := HLEN2.out; simp; omega
            have hseq : q8.seq = i2 + 1 := by
              have hpos : 0 < kept'.length := by have := HLEN2.out; omega
              simp [packetsS, packetsTo, List.getElem?_map, List.getElem?_range, hpos] at hq8
              rw [← hq8]
            rw [hseq] at q80
            have hkf := Keep.trans HK7.out hk8
            have HKF := Lib.hid hkf
            have HSEQ := Lib.hid hseq
            clear hkf hseq
            clear hq8 q81 q82 hsl8 hk8
            go_wp2_with fail
            go_ret
            exact ⟨rfl, HKF.out⟩
      · rw [conf2 hgt]
        clear conf conf2
        rintro e w5 ⟨cs5, rfl, hr5, hk5⟩
        have HR5 := Lib.hid hr5
        have HK5 := Lib.hid hk5
        clear hr5 hk5
        have hG4 := HBOX4.out.1.lt
        have hz5 := HK5.out.size
        have hd2 : decide (j < mn) = true := by simp; omega
        go_wp2_with (refine wpList_store_all rfl _ (.tmp 6) (.tmp 58) rfl w1.heap.size 35 _ cs5 rfl rfl (HK5.out.blk HBOX4.out.1 hG4) (by have := HBOX4.out.2.len; have := HR5.out.len; simp; omega) (info_lk HR5.out.len) HR5.out.one ?_; intro w6 hb6 hs6; have HX6 := Lib.hid (BoxLk.next hG4 HR5.out HK5.out hb6 (only_of_ne hs6)); have HW6 := Lib.hid (Keep.write (Keep.trans HK4.out HK5.out) hs6 hw1); clear hb6 hs6)
        go_loopw [14] (fun i wr => WinRel w w1.heap.size j 1 j 0 i wr) (fun i _ => 0 - (intOf i).toNat)
        case atStart => exact ⟨0, kept, cs5, rfl, by omega, by have := HLEN.out; omega, HX6.out, HW6.out⟩
        case round =>
          obtain ⟨i2, kept', cs', rfl, hi2, hlen2, hbox2, hkx2⟩ := hrel
          have HLEN2 := Lib.hid hlen2
          have HBOX2 := Lib.hid hbox2
          have HKX2 := Lib.hid hkx2
          clear hlen2 hbox2 hkx2
          have hdx : decide ((i2 : Int) < 0) = false := by simp
          go_wp2_with (refine wpList_load_all rfl _ (.tmp 6) rfl w1.heap.size 35 cs' _ rfl HBOX2.out.1 Try.underlying35 rfl (info_lk HBOX2.out.2.len) ?_)
          have e1 : offerS ⟨j, 1, kept', 1, []⟩ 9 = zeroLk := if_pos (by have := HLEN2.out; simp; omega)
          have e2 : offerErr ⟨j, 1, kept', 1, []⟩ = 15 := if_pos (by have := HLEN2.out; simp; omega)
          refine (offer_any wr (fun i => i < wr.heap.size ∧ i ≠ w1.heap.size) cs' ⟨j, 1, kept', 1, []⟩ 9 (fun i hi => hi.1) HBOX2.out.2 (by have := HLEN2.out; simp; omega)).mono ?_
          rw [e1, e2]
          clear e1 e2
          rintro e w6 ⟨cs6, rfl, hr6, hk6⟩
          have HR6 := Lib.hid hr6
          have HK6 := Lib.hid hk6
          clear hr6 hk6
          have hG6 := HBOX2.out.1.lt
          have hz6 := HK6.out.size
          go_wp2_with (first
            | (refine wpList_store_all rfl _ (.tmp 17) (.tmp 79) rfl w6.heap.size 35 _ cs6 rfl rfl (Blk.new _ _ _) (by rw [HR6.out.len]; rfl) (info_lk HR6.out.len) HR6.out.one ?_; intro w7 hb7 hs7; have HK7 : Hid (Keep w6 w7) := Lib.hid (Keep.write (Keep.new w6 _) hs7 (Nat.le_refl _)); clear hb7 hs7)
            | (refine wpList_load_all rfl _ (.tmp 6) rfl w1.heap.size 35 cs' _ rfl (HK7.out.blk (HK6.out.blk HBOX2.out.1 hG6) (by omega)) Try.underlying35 rfl (info_lk HBOX2.out.2.len) ?_))
          have hbox7 := (HBOX2.out.keep HK6.out).keep HK7.out
          have hk7 := Keep.trans HKX2.out (Keep.trans HK6.out HK7.out)
          have HBOX7 := Lib.hid hbox7
          have HK7 := Lib.hid hk7
          clear hbox7 hk7
          refine (packets_any w7 (fun i => i < w7.heap.size ∧ i ≠ w1.heap.size) cs' ⟨j, 1, kept', 1, []⟩ (fun i hi => hi.1) HBOX7.out.2 (by have := HLEN2.out; simp; omega) (by simp) (by simp)).mono ?_
          rintro e w8 ⟨A8, n8, c8, rfl, hsl8, hk8⟩
          obtain ⟨g8, o8, q8, rfl, hg8, hq8, q80, q81, q82⟩ := hsl8.cell0 (by have := HLEN2.out; rw [hsl8.1, packetsS, packetsTo_len]; simp; omega)
          obtain rfl : n8 = j := by rw [hsl8.1, packetsS, packetsTo_len]; have := HLEN2.out; simp; omega
          have hseq : q8.seq = 1 := by
            have hpos : 0 < kept'.length := by have := HLEN2.out; omega
            simp [packetsS, packetsTo, List.getElem?_map, List.getElem?_range, hpos] at hq8
            rw [← hq8]
          rw [hseq] at q80
          have hkf := Keep.trans HK7.out hk8
          have HKF := Lib.hid hkf
          have HSEQ := Lib.hid hseq
          clear hkf hseq
          clear hq8 q81 q82 hsl8 hk8
          go_wp2_with fail
          go_ret
          exact ⟨rfl, HKF.out⟩
end Go.Proofs.Ytafgacfbplilpaa
