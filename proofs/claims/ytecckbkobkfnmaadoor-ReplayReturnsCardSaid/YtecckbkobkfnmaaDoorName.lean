/- Names: letter, digit, Reserved, Valid, each with its answer as a function of the name. -/
import Derived.Test.YtecckbkobkfnmaaDoorMk2
set_option linter.unusedVariables false
set_option linter.unusedSimpArgs false
set_option maxRecDepth 100000
namespace Go.Proofs.YtecckbkobkfnmaaDoor
open Go.RowKit Go.Proofs

def BoolIs (b : Bool) (w : World) (e : Ending) (w' : World) : Prop := e = .returned (.bool b) ∧ w' = w
def letterS (x : Int) : Bool := decide ((97 ≤ x ∧ x ≤ 122) ∨ (65 ≤ x ∧ x ≤ 90) ∨ x = 95)
def digitS (x : Int) : Bool := decide (48 ≤ x ∧ x ≤ 57)
theorem letter_is (w : World) (x : Int) : Calls Tryd.prog 88 #[.int .u8 x] w (BoolIs (letterS x) w) := by
  go_enter Tryd.func88, Tryd.ntmps88
  go_wp2_with fail
  all_goals (go_ret; refine ⟨congrArg (fun b => Ending.returned (.bool b)) ?_, rfl⟩; rw [Bool.eq_iff_iff]; simp only [letterS, Bool.or_eq_true, Bool.and_eq_true, decide_eq_true_eq, beq_iff_eq, true_iff, Bool.false_eq_true, false_iff]; omega)
theorem digit_is (w : World) (x : Int) : Calls Tryd.prog 90 #[.int .u8 x] w (BoolIs (digitS x) w) := by
  go_enter Tryd.func90, Tryd.ntmps90
  go_wp2_with fail
  all_goals (go_ret; refine ⟨congrArg (fun b => Ending.returned (.bool b)) ?_, rfl⟩; rw [Bool.eq_iff_iff]; simp only [digitS, Bool.or_eq_true, Bool.and_eq_true, decide_eq_true_eq, beq_iff_eq, true_iff, Bool.false_eq_true, false_iff]; omega)
def byteS (b : ByteArray) (i : Nat) : Int := ((b.data[i]?).getD 0).toNat
def noSpace (b : ByteArray) (k : Nat) : Prop := ∀ j, j < k → ∀ h : j < b.size, ((b[j].toNat : Int) == 32) = false
def hitB (b : ByteArray) (k : Nat) : Bool := ((ByteArray.mk #[32, 118, 97, 114, 32, 97, 114, 114, 97, 121, 32, 111, 110, 32, 115, 116, 97, 114, 116, 32, 109, 101, 115, 115, 97, 103, 101, 32, 116, 105, 99, 107, 32, 105, 110, 112, 117, 116, 32, 105, 102, 32, 101, 108, 115, 101, 32, 119, 104, 105, 108, 101, 32, 115, 101, 110, 100, 32, 111, 117, 116, 112, 117, 116, 32, 115, 101, 108, 102, 32, 112, 114, 111, 99, 115, 32, 102, 114, 111, 109, 32, 118, 97, 108, 117, 101, 32]).extract k (k + (1 + b.size + 1))).toList == ((ByteArray.mk #[32]) ++ b ++ (ByteArray.mk #[32])).toList
open Classical in
noncomputable def resB (b : ByteArray) : Bool := decide (b.size ≠ 0 ∧ noSpace b b.size ∧ ∃ k, k + (1 + b.size + 1) ≤ 87 ∧ hitB b k = true)
theorem resB_no {b : ByteArray} (h : ¬ (b.size ≠ 0 ∧ noSpace b b.size ∧ ∃ k, k + (1 + b.size + 1) ≤ 87 ∧ hitB b k = true)) : resB b = false := by
  unfold resB; simpa using h
theorem resB_yes {b : ByteArray} (h : b.size ≠ 0 ∧ noSpace b b.size ∧ ∃ k, k + (1 + b.size + 1) ≤ 87 ∧ hitB b k = true) : resB b = true := by
  unfold resB; simpa using h
def NatRel (hi : Nat) (P : Nat → Prop) (w : World) (i : Value) (wr : World) : Prop := ∃ k : Nat, i = .int .i64 k ∧ k ≤ hi ∧ P k ∧ wr = w
theorem reserved_is (b : ByteArray) (hb : b.size ≤ 1000000) (w : World) : Calls Tryd.prog 89 #[.string b] w (BoolIs (resB b) w) := by
  generalize hr : resB b = r
  by_cases h0 : b.size = 0
  · have d0 : ((b.size : Int) == 0) = true := by simpa using h0
    have : r = false := hr ▸ resB_no (fun h => h.1 h0)
    subst this
    clear hr
    go_enter Tryd.func89, Tryd.ntmps89
    go_wp2_with fail
    go_ret
    exact ⟨rfl, rfl⟩
  have d0 : ((b.size : Int) == 0) = false := by simpa using h0
  have HR := Lib.hid hr
  clear hr
  go_enter Tryd.func89, Tryd.ntmps89
  go_wp2_with fail
  go_loopw [3] (fun i wr => NatRel b.size (noSpace b) w i wr) (fun i _ => b.size - (intOf i).toNat)
  case atStart => exact ⟨0, rfl, by omega, fun j hj => by omega, rfl⟩
  case round =>
    obtain ⟨k, rfl, hk, hns, rfl⟩ := hrel
    by_cases hkm : k < b.size
    · have hd1 : decide (k < b.size) = true := by simpa using hkm
      have hd2 : (0 : Int) ≤ k := by omega
      have hd3 : (k : Int) < b.size := by omega
      cases hd4 : ((b[k].toNat : Int) == 32) with
      | true =>
        have : r = false := HR.out ▸ resB_no (fun h => by have := h.2.1 k hkm hkm; rw [hd4] at this; cases this)
        subst this
        have HNS := Lib.hid hns
        clear hns
        go_wp2_with fail
        go_ret
        exact ⟨rfl, rfl⟩
      | false =>
        have hns2 : noSpace b (k + 1) := fun j hj h => by
          rcases Nat.lt_or_ge j k with hjk | hjk
          · exact hns j hjk h
          · have e : j = k := by omega
            subst e
            exact hd4
        have HNS2 := Lib.hid hns2
        have HNS := Lib.hid hns
        clear hns2 hns
        go_wp2_with fail
        go_roundw
        case rel => exact ⟨k + 1, by go_num, by omega, HNS2.out, rfl⟩
        case measure => simp [intOf]; omega
    · have hd1 : decide (k < b.size) = false := by simpa using hkm
      have hall : noSpace b b.size := fun j hj h => hns j (by omega) h
      have HNS := Lib.hid hns
      have HALL := Lib.hid hall
      clear hns hall
      go_wp2_with fail
      go_loopw [5] (fun i wx => NatRel 87 (fun k => ∀ j, j < k → hitB b j = false) wr i wx) (fun i _ => 87 - (intOf i).toNat)
      case atStart => exact ⟨0, rfl, by omega, fun j hj => by omega, rfl⟩
      case round =>
        obtain ⟨k2, rfl, hk2, hno, rfl⟩ := hrel
        by_cases hc : (k2 : Int) + (1 + b.size + 1) ≤ 87
        · cases hh : hitB b k2 with
          | true =>
            have : r = true := HR.out ▸ resB_yes ⟨h0, HALL.out, k2, by omega, hh⟩
            subst this
            unfold hitB at hh
            have HNO := Lib.hid hno
            clear hno
            go_wp2_with fail
            go_ret
            exact ⟨rfl, rfl⟩
          | false =>
            have hno2 : ∀ j, j < k2 + 1 → hitB b j = false := fun j hj => by
              rcases Nat.lt_or_ge j k2 with hjk | hjk
              · exact hno j hjk
              · have e : j = k2 := by omega
                subst e
                exact hh
            unfold hitB at hh
            have HNO := Lib.hid hno
            have HNO2 := Lib.hid hno2
            clear hno hno2
            go_wp2_with fail
            go_roundw
            case rel => exact ⟨k2 + 1, by go_num, by omega, HNO2.out, rfl⟩
            case measure => simp [intOf]; omega
        · have : r = false := HR.out ▸ resB_no (fun ⟨_, _, k3, h3, hh3⟩ => by
            have := hno k3 (by omega)
            rw [hh3] at this
            cases this)
          subst this
          have HNO := Lib.hid hno
          clear hno
          go_wp2_with fail
          go_ret
          exact ⟨rfl, rfl⟩
def lettersTo (b : ByteArray) (k : Nat) : Prop := ∀ j, j < k → ∀ h : j < b.size, (letterS b[j].toNat || digitS b[j].toNat) = true
open Classical in
noncomputable def validB (b : ByteArray) : Bool := decide (∃ h : 0 < b.size, b.size ≤ 16 ∧ letterS b[0].toNat = true ∧ resB b = false ∧ lettersTo b b.size)
open Classical in
theorem validB_no {b : ByteArray} (h : ¬ (∃ h : 0 < b.size, b.size ≤ 16 ∧ letterS b[0].toNat = true ∧ resB b = false ∧ lettersTo b b.size)) : validB b = false := by
  unfold validB; exact decide_eq_false h
open Classical in
theorem validB_yes {b : ByteArray} (h : ∃ h : 0 < b.size, b.size ≤ 16 ∧ letterS b[0].toNat = true ∧ resB b = false ∧ lettersTo b b.size) : validB b = true := by
  unfold validB; exact decide_eq_true h
theorem valid_is (b : ByteArray) (w : World) : Calls Tryd.prog 79 #[.string b] w (BoolIs (validB b) w) := by
  generalize hr : validB b = r
  by_cases h0 : b.size = 0
  · have d0 : ((b.size : Int) == 0) = true := by simpa using h0
    have : r = false := hr ▸ validB_no (fun h => by obtain ⟨h, _⟩ := h; omega)
    subst this
    clear hr
    go_enter Tryd.func79, Tryd.ntmps79
    go_wp2_with fail
    go_ret
    exact ⟨rfl, rfl⟩
  have d0 : ((b.size : Int) == 0) = false := by simpa using h0
  have hp : 0 < b.size := by omega
  by_cases h16 : 16 < b.size
  · have d1 : decide (16 < b.size) = true := by simpa using h16
    have : r = false := hr ▸ validB_no (fun h => by obtain ⟨_, h, _⟩ := h; omega)
    subst this
    clear hr
    go_enter Tryd.func79, Tryd.ntmps79
    go_wp2_with fail
    go_ret
    exact ⟨rfl, rfl⟩
  have d1 : decide (16 < b.size) = false := by simpa using h16
  cases hl : letterS b[0].toNat with
  | false =>
    have : r = false := hr ▸ validB_no (fun h => by obtain ⟨_, _, h, _⟩ := h; rw [hl] at h; cases h)
    subst this
    clear hr
    have HL := Lib.hid hl
    clear hl
    go_enter Tryd.func79, Tryd.ntmps79
    go_wp2_with (go_at_call 88; refine (letter_is _ _).mono ?_; rw [HL.out]; rintro e w1 ⟨rfl, rfl⟩)
    go_ret
    exact ⟨rfl, rfl⟩
  | true =>
    cases hre : resB b with
    | true =>
      have : r = false := hr ▸ validB_no (fun h => by obtain ⟨_, _, _, h, _⟩ := h; rw [hre] at h; cases h)
      subst this
      clear hr
      have HL := Lib.hid hl
      have HRE := Lib.hid hre
      clear hl hre
      go_enter Tryd.func79, Tryd.ntmps79
      go_wp2_with (first | (go_at_call 88; refine (letter_is _ _).mono ?_; rw [HL.out]; rintro e w1 ⟨rfl, rfl⟩) | (go_at_call 89; refine (reserved_is _ (by omega) _).mono ?_; rw [HRE.out]; rintro e w1 ⟨rfl, rfl⟩))
      go_ret
      exact ⟨rfl, rfl⟩
    | false =>
      have HL := Lib.hid hl
      have HRE := Lib.hid hre
      have HR := Lib.hid hr
      clear hl hre hr
      go_enter Tryd.func79, Tryd.ntmps79
      go_wp2_with (first | (go_at_call 88; refine (letter_is _ _).mono ?_; rw [HL.out]; rintro e w1 ⟨rfl, rfl⟩) | (go_at_call 89; refine (reserved_is _ (by omega) _).mono ?_; rw [HRE.out]; rintro e w1 ⟨rfl, rfl⟩))
      go_loopw [3] (fun i wr => NatRel b.size (lettersTo b) w1 i wr) (fun i _ => b.size - (intOf i).toNat)
      case atStart => exact ⟨0, rfl, by omega, fun j hj => by omega, rfl⟩
      case round =>
        obtain ⟨k, rfl, hk, hns, rfl⟩ := hrel
        by_cases hkm : k < b.size
        · have hd1 : decide (k < b.size) = true := by simpa using hkm
          have hd2 : (0 : Int) ≤ k := by omega
          have hd3 : (k : Int) < b.size := by omega
          cases hx : letterS b[k].toNat with
          | true =>
            have hns2 : lettersTo b (k + 1) := fun j hj h => by
              rcases Nat.lt_or_ge j k with hjk | hjk
              · exact hns j hjk h
              · have e : j = k := by omega
                subst e
                rw [hx]; rfl
            have HNS2 := Lib.hid hns2
            have HNS := Lib.hid hns
            have HX := Lib.hid hx
            clear hns2 hns hx
            go_wp2_with (go_at_call 88; refine (letter_is _ _).mono ?_; rw [HX.out]; rintro e w2 ⟨rfl, rfl⟩)
            go_roundw
            case rel => exact ⟨k + 1, by go_num, by omega, HNS2.out, rfl⟩
            case measure => simp [intOf]; omega
          | false =>
            cases hy : digitS b[k].toNat with
            | true =>
              have hns2 : lettersTo b (k + 1) := fun j hj h => by
                rcases Nat.lt_or_ge j k with hjk | hjk
                · exact hns j hjk h
                · have e : j = k := by omega
                  subst e
                  rw [hx, hy]; rfl
              have HNS2 := Lib.hid hns2
              have HNS := Lib.hid hns
              have HX := Lib.hid hx
              have HY := Lib.hid hy
              clear hns2 hns hx hy
              go_wp2_with (first | (go_at_call 88; refine (letter_is _ _).mono ?_; rw [HX.out]; rintro e w2 ⟨rfl, rfl⟩) | (go_at_call 90; refine (digit_is _ _).mono ?_; rw [HY.out]; rintro e w3 ⟨rfl, rfl⟩))
              go_roundw
              case rel => exact ⟨k + 1, by go_num, by omega, HNS2.out, rfl⟩
              case measure => simp [intOf]; omega
            | false =>
              have : r = false := HR.out ▸ validB_no (fun h => by
                obtain ⟨_, _, _, _, h⟩ := h
                have := h k hkm hkm
                rw [hx, hy] at this
                cases this)
              subst this
              have HNS := Lib.hid hns
              have HX := Lib.hid hx
              have HY := Lib.hid hy
              clear hns hx hy
              go_wp2_with (first | (go_at_call 88; refine (letter_is _ _).mono ?_; rw [HX.out]; rintro e w2 ⟨rfl, rfl⟩) | (go_at_call 90; refine (digit_is _ _).mono ?_; rw [HY.out]; rintro e w3 ⟨rfl, rfl⟩))
              go_ret
              exact ⟨rfl, rfl⟩
        · have hd1 : decide (k < b.size) = false := by simpa using hkm
          have : r = true := HR.out ▸ validB_yes ⟨hp, by omega, HL.out, HRE.out, fun j hj h => hns j (by omega) h⟩
          subst this
          have HNS := Lib.hid hns
          clear hns
          go_wp2_with fail
          go_ret
          exact ⟨rfl, rfl⟩
end Go.Proofs.YtecckbkobkfnmaaDoor
