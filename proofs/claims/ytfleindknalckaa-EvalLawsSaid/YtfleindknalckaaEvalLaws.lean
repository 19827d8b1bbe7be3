/- The walk of EvalLaws. -/
import Derived.Test.YtfleindknalckaaAwake04
set_option linter.unusedVariables false
set_option linter.unusedSimpArgs false
namespace Go.Proofs.Ytfleindknalckaa
open Go.RowKit Go.Proofs

/-! ### plain arithmetic -/
theorem wrap_of {x y : Int} (h : ∃ k, x = y + 18446744073709551616 * k) : wrap64 x = wrap64 y := by
  obtain ⟨k, rfl⟩ := h
  unfold wrap64
  omega
theorem wrap_dec (x : Int) : ∃ k, wrap64 x = x + 18446744073709551616 * k := by
  unfold wrap64
  exact ⟨-((x + 9223372036854775808) / 18446744073709551616), by omega⟩
theorem quo_rem (a b : Int) (ha : I64 a) (hb : b ≠ 0) : wrap64 (wrap64 (quoS a b * b) + remS a b) = a := by
  unfold quoS remS
  rw [if_neg hb, if_neg hb]
  obtain ⟨k1, h1⟩ := wrap_dec (a.tdiv b)
  obtain ⟨k2, h2⟩ := wrap_dec (wrap64 (a.tdiv b) * b)
  have h3 := Int.tdiv_mul_add_tmod a b
  rw [h2, h1]
  have h4 : (a.tdiv b + 18446744073709551616 * k1) * b + 18446744073709551616 * k2 + a.tmod b = a + 18446744073709551616 * (k1 * b + k2) := by
    rw [Int.add_mul, Int.mul_assoc, Int.mul_add]
    omega
  rw [h4, wrap_of ⟨_, rfl⟩]
  exact IntWalk.wrap64_in a ha
theorem add_sub (a b : Int) (ha : I64 a) : wrap64 (wrap64 (a + b) - b) = a := by
  obtain ⟨k, h⟩ := wrap_dec (a + b)
  rw [h, wrap_of (y := a) ⟨k, by omega⟩]
  exact IntWalk.wrap64_in a ha
theorem neg_neg (a : Int) (ha : I64 a) : wrap64 (-(wrap64 (-a))) = a := by
  obtain ⟨k, h⟩ := wrap_dec (-a)
  rw [h, wrap_of (y := a) ⟨-k, by omega⟩]
  exact IntWalk.wrap64_in a ha
def symOps : List Int := [10, 12, 19, 20, 21, 22]
theorem sym_ops (a b : Int) : ∀ op ∈ symOps, applyS op a b = applyS op b a := by
  intro op h
  simp only [symOps, List.mem_cons, List.not_mem_nil, or_false] at h
  rcases h with rfl | rfl | rfl | rfl | rfl | rfl
  · show wrap64 (a + b) = wrap64 (b + a); rw [Int.add_comm]
  · show wrap64 (a * b) = wrap64 (b * a); rw [Int.mul_comm]
  · show truthS (a == b) = truthS (b == a); rw [Bool.beq_comm]
  · show truthS (a != b) = truthS (b != a); rw [bne_comm]
  · show truthS (a != 0 && b != 0) = truthS (b != 0 && a != 0); rw [Bool.and_comm]
  · show truthS (a != 0 || b != 0) = truthS (b != 0 || a != 0); rw [Bool.or_comm]
theorem pair1 (a b : Int) : applyS 15 a b + applyS 18 a b = 1 := by
  show truthS (decide (a < b)) + truthS (decide (b ≤ a)) = 1
  unfold truthS
  by_cases h : a < b
  · simp [h]; omega
  · simp [h, Int.not_lt.1 h]
theorem pair2 (a b : Int) : applyS 16 a b + applyS 17 a b = 1 := by
  show truthS (decide (a ≤ b)) + truthS (decide (b < a)) = 1
  unfold truthS
  by_cases h : a ≤ b
  · simp [h]; omega
  · simp [h, Int.not_le.1 h]
theorem pair3 (a b : Int) : applyS 19 a b + applyS 20 a b = 1 := by
  show truthS (a == b) + truthS (a != b) = 1
  unfold truthS
  by_cases h : a = b
  · simp [h]
  · simp [h]
theorem de_morgan (a b : Int) : applyS 9 (applyS 21 a b) 0 = applyS 22 (applyS 9 a 0) (applyS 9 b 0) := by
  show truthS (truthS (a != 0 && b != 0) == 0) = truthS (truthS (a == 0) != 0 || truthS (b == 0) != 0)
  by_cases h1 : a = 0 <;> by_cases h2 : b = 0 <;> simp [h1, h2, truthS]

/-! ### the walk -/
theorem not_any (n : Int) (w : World) : Calls Try.prog 10 #[.int .i64 n] w (ApplyPost (applyS 9 n 0) w) := by
  go_enter Try.func10, Try.ntmps10
  go_wp2_with fail
  refine (apply_any 9 n 0 _).mono ?_
  rintro e w1 ⟨rfl, hk⟩
  have HK := Lib.hid hk
  clear hk
  go_wp2_with fail
  go_ret
  exact ⟨rfl, HK.out⟩

def Loop1Rel (B : Nat) (w : World) (i : Value) (wr : World) : Prop := ∃ k : Nat, k ≤ 6 ∧ i = .int .i64 k ∧ Keep w wr ∧ Blk wr B 3 #[.int .i64 10, .int .i64 12, .int .i64 19, .int .i64 20, .int .i64 21, .int .i64 22]
def Loop2Rel (B : Nat) (w : World) (i : Value) (wr : World) : Prop := ∃ k : Nat, k ≤ 3 ∧ i = .int .i64 k ∧ Keep w wr ∧ Blk wr B 27 #[.int .i64 15, .int .i64 18, .int .i64 16, .int .i64 17, .int .i64 19, .int .i64 20]
theorem six_cells {w : World} {B : Nat} (h : Blk w B 3 #[.int .i64 10, .int .i64 12, .int .i64 19, .int .i64 20, .int .i64 21, .int .i64 22]) (k : Nat) (hk : k < 6) : ∃ op ∈ symOps, w.cell? ⟨B, k, none⟩ = some (.int .i64 op) := by
  rw [h.cell]
  match k, hk with
  | 0, _ => exact ⟨10, by simp [symOps], rfl⟩
  | 1, _ => exact ⟨12, by simp [symOps], rfl⟩
  | 2, _ => exact ⟨19, by simp [symOps], rfl⟩
  | 3, _ => exact ⟨20, by simp [symOps], rfl⟩
  | 4, _ => exact ⟨21, by simp [symOps], rfl⟩
  | 5, _ => exact ⟨22, by simp [symOps], rfl⟩
theorem three_pairs {w : World} {B : Nat} (a b : Int) (h : Blk w B 27 #[.int .i64 15, .int .i64 18, .int .i64 16, .int .i64 17, .int .i64 19, .int .i64 20]) (k : Nat) (hk : k < 3) :
    ∃ p q, w.cell? ⟨B, k * 2, none⟩ = some (.int .i64 p) ∧ w.cell? ⟨B, k * 2 + 1, none⟩ = some (.int .i64 q) ∧ applyS p a b + applyS q a b = 1 := by
  rw [h.cell, h.cell]
  match k, hk with
  | 0, _ => exact ⟨15, 18, rfl, rfl, pair1 a b⟩
  | 1, _ => exact ⟨16, 17, rfl, rfl, pair2 a b⟩
  | 2, _ => exact ⟨19, 20, rfl, rfl, pair3 a b⟩

set_option maxRecDepth 100000 in
set_option maxHeartbeats 4000000 in
theorem evalLaws_walk (a b : Int) (w : World) (ha : I64 a) : Calls Try.prog 4 #[.int .i64 a, .int .i64 b] w (TrueKeep w) := by
  have HA := Lib.hid ha
  clear ha
  go_enter Try.func4, Try.ntmps4
  go_wp2_with fail
  refine (awake04_any _).mono ?_
  rintro e w1 ⟨rfl, hk⟩
  have HK1 := Lib.hid hk
  clear hk
  go_wp2_with fail
  go_loopw [17] (fun i wr => Loop1Rel w1.heap.size w i wr) (fun i _ => 6 - (intOf i).toNat)
  case atStart => exact ⟨0, by omega, rfl, Keep.alloc HK1.out _, Blk.new _ _ _⟩
  case round =>
    obtain ⟨k, hk6, rfl, hkp, hblk⟩ := hrel
    have HKP := Lib.hid hkp
    have HB := Lib.hid hblk
    clear hkp hblk
    by_cases hk : k < 6
    · obtain ⟨op, hop, hcell⟩ := six_cells HB.out k hk
      have hsym := Lib.hid (sym_ops a b op hop)
      have hk0 : (0 : Int) ≤ k := by omega
      have hk1 : (k : Int) < 6 := by omega
      clear hop
      go_wp2_with fail
      refine (apply_any op a b _).mono ?_
      rintro e w2 ⟨rfl, hkk⟩
      have HK2 := Lib.hid hkk
      clear hkk
      go_wp2_with fail
      refine (apply_any op b a _).mono ?_
      rintro e w3 ⟨rfl, hkk⟩
      have HK3 := Lib.hid (Keep.trans HK2.out hkk)
      rw [hsym.out]
      clear hkk
      go_wp2_with fail
      go_roundw
      case rel => exact ⟨k + 1, by omega, by go_num, Keep.trans HKP.out HK3.out, HK3.out.blk HB.out HB.out.lt⟩
      case measure => simp [intOf]; omega
    · have hkd : decide ((k : Int) < 6) = false := by simp; omega
      go_wp2_with fail
      obtain ⟨w4, hw4⟩ : ∃ w4 : World, w4 = wr := ⟨_, rfl⟩
      subst hw4
      go_loopw [37] (fun i wr => Loop2Rel w4.heap.size w i wr) (fun i _ => 3 - (intOf i).toNat)
      case atStart => exact ⟨0, by omega, rfl, Keep.alloc HKP.out _, Blk.new _ _ _⟩
      case round =>
        obtain ⟨j, hj3, rfl, hkp2, hblk2⟩ := hrel
        have HKP2 := Lib.hid hkp2
        have HB2 := Lib.hid hblk2
        clear hkp2 hblk2
        by_cases hj : j < 3
        · obtain ⟨p, q, hp, hq, hpq⟩ := three_pairs a b HB2.out j hj
          have hpq' : wrap64 (applyS p a b + applyS q a b) = 1 := by rw [hpq]; exact IntWalk.wrap64_in 1 (by omega)
          have hpq2 : IntKind.i64.wrap (applyS p a b + applyS q a b) = 1 := by rw [IntWalk.i64_left]; exact hpq'
          have hj0 : (0 : Int) ≤ j := by omega
          have hj1 : (j : Int) < 3 := by omega
          clear hpq
          go_wp2_with fail
          go_region_held3 (fun w' => w'.cell? ⟨wr.heap.size, 0, none⟩ = some (.int .i64 p) ∧ w'.cell? ⟨wr.heap.size, 1, none⟩ = some (.int .i64 q))
            (first | go_keep | ((try dsimp only); (refine And.intro ?_ ?_); (go_keep); (go_keep)) | ((try dsimp only); (refine And.intro ?_ ?_); exact (Same.cell (p := ⟨wr.heap.size, 0, none⟩) hk5 (by simp)).trans (by simp); exact (Same.cell (p := ⟨wr.heap.size, 1, none⟩) hk5 (by simp)).trans (by simp)) | ((try dsimp only); (refine And.intro ?_ ?_); exact (Same.cell (p := ⟨wr.heap.size, 0, none⟩) hk6 (by simp)).trans (by simp); exact (Same.cell (p := ⟨wr.heap.size, 1, none⟩) hk6 (by simp)).trans (by simp)))
            (first
              | (go_at_call 8; ((with_reducible refine (apply_any p a b _).mono ?_)); rintro e w5 ⟨rfl, hk⟩; have hk5 : Keep (wr.alloc (Obj.cells #[.int .i64 p, .int .i64 q] 27)) w5 := Keep.trans ((Same.refl _ _).drew) hk)
              | (go_at_call 8; ((with_reducible refine (apply_any q a b _).mono ?_)); rintro e w6 ⟨rfl, hk⟩; have hk6 : Keep (wr.alloc (Obj.cells #[.int .i64 p, .int .i64 q] 27)) w6 := Keep.trans hk5 hk))
          go_wp2_with fail
          go_roundw
          case rel => exact ⟨j + 1, by omega, by go_num, Keep.trans (Keep.alloc HKP2.out _) hk6, hk6.blk (HB2.out.alloc _) (by have := HB2.out.lt; simp; omega)⟩
          case measure => simp [intOf]; omega
        · have hjd : decide ((j : Int) < 3) = false := by simp; omega
          have HK2 := HKP2
          have f2 := Lib.hid (add_sub a b HA.out)
          have f3 := Lib.hid (neg_neg a HA.out)
          have f4 := Lib.hid (de_morgan a b)
          by_cases hb0 : b = 0
          · have q0 : quoS a b = 0 := if_pos hb0
            have r0 : remS a b = 0 := if_pos hb0
            have b1 : (b != 0) = false := by simpa using hb0
            have b2 : (b == 0) = true := by simpa using hb0
            clear hb0
            go_wp2_with fail
            refine (apply_any 13 a b _).mono ?_
            rintro e w3 ⟨rfl, hkk⟩
            have HK3 := Lib.hid (Keep.trans HK2.out hkk)
            clear hkk
            have e13 : applyS 13 a b = quoS a b := rfl
            rw [e13]
            clear e13
            go_wp2_with fail
            refine (apply_any 14 a b _).mono ?_
            rintro e w4 ⟨rfl, hkk⟩
            have HK4 := Lib.hid (Keep.trans HK3.out hkk)
            clear hkk
            have e14 : applyS 14 a b = remS a b := rfl
            rw [e14]
            clear e14
            go_wp2_with fail
            refine (apply_any 10 a b _).mono ?_
            rintro e w5 ⟨rfl, hkk⟩
            have HK5 := Lib.hid (Keep.trans HK4.out hkk)
            clear hkk
            have e10 : applyS 10 a b = wrap64 (a + b) := rfl
            rw [e10]
            clear e10
            go_wp2_with fail
            refine (apply_any 11 (wrap64 (a + b)) b _).mono ?_
            rintro e w6 ⟨rfl, hkk⟩
            have HK6 := Lib.hid (Keep.trans HK5.out hkk)
            clear hkk
            have e11 : applyS 11 (wrap64 (a + b)) b = a := f2.out
            rw [e11]
            clear e11
            go_wp2_with fail
            refine (apply_any 21 a b _).mono ?_
            rintro e w7 ⟨rfl, hkk⟩
            have HK7 := Lib.hid (Keep.trans HK6.out hkk)
            clear hkk
            go_wp2_with fail
            refine (not_any (applyS 21 a b) _).mono ?_
            rintro e w8 ⟨rfl, hkk⟩
            have HK8 := Lib.hid (Keep.trans HK7.out hkk)
            clear hkk
            rw [f4.out]
            go_wp2_with fail
            refine (not_any a _).mono ?_
            rintro e w9 ⟨rfl, hkk⟩
            have HK9 := Lib.hid (Keep.trans HK8.out hkk)
            clear hkk
            go_wp2_with fail
            refine (not_any b _).mono ?_
            rintro e w10 ⟨rfl, hkk⟩
            have HK10 := Lib.hid (Keep.trans HK9.out hkk)
            clear hkk
            go_wp2_with fail
            refine (apply_any 22 (applyS 9 a 0) (applyS 9 b 0) _).mono ?_
            rintro e w11 ⟨rfl, hkk⟩
            have HK11 := Lib.hid (Keep.trans HK10.out hkk)
            clear hkk
            go_wp2_with fail
            refine (apply_any 8 a b _).mono ?_
            rintro e w12 ⟨rfl, hkk⟩
            have HK12 := Lib.hid (Keep.trans HK11.out hkk)
            clear hkk
            have e8 : applyS 8 a b = wrap64 (-a) := rfl
            rw [e8]
            clear e8
            go_wp2_with fail
            refine (apply_any 8 (wrap64 (-a)) a _).mono ?_
            rintro e w13 ⟨rfl, hkk⟩
            have HK13 := Lib.hid (Keep.trans HK12.out hkk)
            clear hkk
            have e8 : applyS 8 (wrap64 (-a)) a = a := f3.out
            rw [e8]
            clear e8
            go_wp2_with fail
            refine (apply_any 15 a b _).mono ?_
            rintro e w14 ⟨rfl, hkk⟩
            have HK14 := Lib.hid (Keep.trans HK13.out hkk)
            clear hkk
            have e15 : applyS 15 a b = truthS (decide (a < b)) := rfl
            rw [e15]
            clear e15
            go_wp2_with fail
            refine (apply_any 17 b a _).mono ?_
            rintro e w15 ⟨rfl, hkk⟩
            have HK15 := Lib.hid (Keep.trans HK14.out hkk)
            clear hkk
            have e17 : applyS 17 b a = truthS (decide (a < b)) := rfl
            rw [e17]
            clear e17
            go_wp2_with fail
            go_ret
            exact ⟨rfl, HK15.out⟩
          · have q1 := quo_rem a b HA.out hb0
            have b1 : (b != 0) = true := by simpa using hb0
            have b2 : (b == 0) = false := by simpa using hb0
            clear hb0
            go_wp2_with fail
            refine (apply_any 13 a b _).mono ?_
            rintro e w3 ⟨rfl, hkk⟩
            have HK3 := Lib.hid (Keep.trans HK2.out hkk)
            clear hkk
            have e13 : applyS 13 a b = quoS a b := rfl
            rw [e13]
            clear e13
            go_wp2_with fail
            refine (apply_any 14 a b _).mono ?_
            rintro e w4 ⟨rfl, hkk⟩
            have HK4 := Lib.hid (Keep.trans HK3.out hkk)
            clear hkk
            have e14 : applyS 14 a b = remS a b := rfl
            rw [e14]
            clear e14
            go_wp2_with fail
            refine (apply_any 10 a b _).mono ?_
            rintro e w5 ⟨rfl, hkk⟩
            have HK5 := Lib.hid (Keep.trans HK4.out hkk)
            clear hkk
            have e10 : applyS 10 a b = wrap64 (a + b) := rfl
            rw [e10]
            clear e10
            go_wp2_with fail
            refine (apply_any 11 (wrap64 (a + b)) b _).mono ?_
            rintro e w6 ⟨rfl, hkk⟩
            have HK6 := Lib.hid (Keep.trans HK5.out hkk)
            clear hkk
            have e11 : applyS 11 (wrap64 (a + b)) b = a := f2.out
            rw [e11]
            clear e11
            go_wp2_with fail
            refine (apply_any 21 a b _).mono ?_
            rintro e w7 ⟨rfl, hkk⟩
            have HK7 := Lib.hid (Keep.trans HK6.out hkk)
            clear hkk
            go_wp2_with fail
            refine (not_any (applyS 21 a b) _).mono ?_
            rintro e w8 ⟨rfl, hkk⟩
            have HK8 := Lib.hid (Keep.trans HK7.out hkk)
            clear hkk
            rw [f4.out]
            go_wp2_with fail
            refine (not_any a _).mono ?_
            rintro e w9 ⟨rfl, hkk⟩
            have HK9 := Lib.hid (Keep.trans HK8.out hkk)
            clear hkk
            go_wp2_with fail
            refine (not_any b _).mono ?_
            rintro e w10 ⟨rfl, hkk⟩
            have HK10 := Lib.hid (Keep.trans HK9.out hkk)
            clear hkk
            go_wp2_with fail
            refine (apply_any 22 (applyS 9 a 0) (applyS 9 b 0) _).mono ?_
            rintro e w11 ⟨rfl, hkk⟩
            have HK11 := Lib.hid (Keep.trans HK10.out hkk)
            clear hkk
            go_wp2_with fail
            refine (apply_any 8 a b _).mono ?_
            rintro e w12 ⟨rfl, hkk⟩
            have HK12 := Lib.hid (Keep.trans HK11.out hkk)
            clear hkk
            have e8 : applyS 8 a b = wrap64 (-a) := rfl
            rw [e8]
            clear e8
            go_wp2_with fail
            refine (apply_any 8 (wrap64 (-a)) a _).mono ?_
            rintro e w13 ⟨rfl, hkk⟩
            have HK13 := Lib.hid (Keep.trans HK12.out hkk)
            clear hkk
            have e8 : applyS 8 (wrap64 (-a)) a = a := f3.out
            rw [e8]
            clear e8
            go_wp2_with fail
            refine (apply_any 15 a b _).mono ?_
            rintro e w14 ⟨rfl, hkk⟩
            have HK14 := Lib.hid (Keep.trans HK13.out hkk)
            clear hkk
            have e15 : applyS 15 a b = truthS (decide (a < b)) := rfl
            rw [e15]
            clear e15
            go_wp2_with fail
            refine (apply_any 17 b a _).mono ?_
            rintro e w15 ⟨rfl, hkk⟩
            have HK15 := Lib.hid (Keep.trans HK14.out hkk)
            clear hkk
            have e17 : applyS 17 b a = truthS (decide (a < b)) := rfl
            rw [e17]
            clear e17
            go_wp2_with fail
            go_ret
            exact ⟨rfl, HK15.out⟩
end Go.Proofs.Ytfleindknalckaa
