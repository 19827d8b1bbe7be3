/- The walks of EvalApplies and EvalArrays. -/
import Derived.Test.YtfleindknalckaaAwake04
import Derived.Test.YtfleindknalckaaEval2
import Derived.Test.YtfleindknalckaaRowIn
set_option linter.unusedVariables false
set_option linter.unusedSimpArgs false
namespace Go.Proofs.Ytfleindknalckaa
open Go.RowKit Go.Proofs

set_option maxHeartbeats 1000000 in
theorem evalApplies_walk (op a b : Int) (w : World) (ho : I64 op) : Calls Try.prog 3 #[.int .i64 op, .int .i64 a, .int .i64 b] w (TrueKeep w) := by
  have hm := modS_lt op 15 (by omega)
  obtain ⟨hm1, hm2⟩ := hm
  have HO := Lib.hid ho
  clear ho
  go_enter Try.func3, Try.ntmps3
  go_wp2_with fail
  refine (awake04_any _).mono ?_
  rintro e w1 ⟨rfl, hk⟩
  have HK1 := Lib.hid hk
  clear hk
  go_wp2_with fail
  refine (mod_any op 15 _ HO.out (by omega) (by omega)).mono ?_
  rintro e w1 ⟨rfl, rfl⟩
  go_wp2_with fail
  refine (apply_any op a b _).mono ?_
  rintro e w2 ⟨rfl, hk⟩
  have HK2 := Lib.hid (Keep.trans HK1.out hk)
  clear hk
  go_wp2_with fail
  refine (rapply_any op a b _).mono ?_
  rintro e w2 ⟨rfl, rfl⟩
  go_wp2_with fail
  refine (apply_any (8 + modS op 15) a b _).mono ?_
  rintro e w3 ⟨rfl, hk⟩
  have HK3 := Lib.hid (Keep.trans HK2.out hk)
  clear hk
  go_wp2_with fail
  refine (rapply_any (8 + modS op 15) a b _).mono ?_
  rintro e w3 ⟨rfl, rfl⟩
  go_wp2_with fail
  go_ret
  exact ⟨rfl, HK3.out⟩

theorem idx_value (A : Option Addr) (m c : Nat) (cells : List Int) (p q : Nat) (x : Int) (w w1 w2 : World) (nm : ByteArray) (hc : Sl encI 1 w (· < w.heap.size) A m c cells) (hm : m ≤ 40) (hp : p < 12) (hq : q < 12) (hk : Keep w w2)
    (hb : Blk w2 w1.heap.size 33 #[.int .i64 1, .int .i64 (x - 2), .string nm, .int .i64 0, .int .i64 0, .slice none 0 0]) :
    Calls Try.prog 11 #[.agg #[.int .i64 3, .int .i64 0, .string nm, .int .i64 p, .int .i64 q, .slice (some ⟨w1.heap.size, 0, none⟩) 1 1], .slice A m c, .agg #[.int .i64 0, .int .i64 0, .int .i64 0, .int .i64 0]] w2 (ApplyPost (idxS cells p q (x - 2)) w2) := by
  have hsub : SlR w2 (fun i => i < w.heap.size ∨ i = w1.heap.size) 6 (ExR w2 (fun i => i < w.heap.size ∨ i = w1.heap.size) 1) (some ⟨w1.heap.size, 0, none⟩) 1 1 [.mk 1 (x - 2) nm 0 0 []] := by
    refine ⟨rfl, by omega, by simp [maxLen], [[.int .i64 1, .int .i64 (x - 2), .string nm, .int .i64 0, .int .i64 0, .slice none 0 0]], rfl, by simp, ⟨rfl, fun _ => ⟨w1.heap.size, 0, rfl, .inr rfl, fun j u hu => by rw [Nat.zero_add, hb.cell]; simpa using hu⟩⟩, fun k cs a e1 e2 => ?_⟩
    match k, e1, e2 with
    | 0, e1, e2 =>
      simp at e1 e2
      subst e1 e2
      exact ⟨⟨by omega, by omega⟩, ⟨by omega, by omega⟩, none, 0, 0, rfl, SlR.nil_⟩
  have hE : ExR w2 (fun i => i < w.heap.size ∨ i = w1.heap.size) 2 [.int .i64 3, .int .i64 0, .string nm, .int .i64 p, .int .i64 q, .slice (some ⟨w1.heap.size, 0, none⟩) 1 1] (.mk 3 0 nm p q [.mk 1 (x - 2) nm 0 0 []]) :=
    ⟨⟨by omega, by omega⟩, ⟨by omega, by omega⟩, _, _, _, rfl, hsub⟩
  have e1 : valS cells ⟨0, 0, 0, 0⟩ (1 + 1) (.mk 3 0 nm p q [.mk 1 (x - 2) nm 0 0 []]) = idxS cells p q (argS cells ⟨0, 0, 0, 0⟩ 1 [.mk 1 (x - 2) nm 0 0 []] 0) := by
    rw [valS, if_neg (by decide), if_neg (by decide), if_pos rfl]
    rfl
  have e2 : argS cells ⟨0, 0, 0, 0⟩ (0 + 1) [.mk 1 (x - 2) nm 0 0 []] 0 = x - 2 := rfl
  have h := Value_any (1 + 1) cells ⟨0, 0, 0, 0⟩ (.mk 3 0 nm p q [.mk 1 (x - 2) nm 0 0 []]) _ w2 (fun i => i < w.heap.size ∨ i = w1.heap.size) A m c (fun i hi => by have := hb.lt; have := hk.size; omega) hE ((hc.keep hk).more fun i hi => .inl hi) (by omega)
  rw [e1, e2] at h
  exact h

set_option maxRecDepth 100000 in
set_option maxHeartbeats 4000000 in
theorem evalArrays_walk (A : Option Addr) (m c : Nat) (cells : List Int) (slot size index : Int) (w : World) (hc : Sl encI 1 w (· < w.heap.size) A m c cells) (hs : 0 ≤ slot ∧ slot < 256) (hz : 0 ≤ size ∧ size < 256) (hi : I64 index) :
    Calls Try.prog 5 #[.slice A m c, .int .u8 slot, .int .u8 size, .int .i64 index] w (TrueKeep w) := by
  obtain ⟨hm1, hm2⟩ := modS_lt index 16 (by omega)
  obtain ⟨s, rfl⟩ := Int.eq_ofNat_of_zero_le hs.1
  obtain ⟨z, rfl⟩ := Int.eq_ofNat_of_zero_le hz.1
  have hs2 : s < 256 := by omega
  have hz2 : z < 256 := by omega
  have HI := Lib.hid hi
  have HC := Lib.hid hc
  have hmc := hc.2.1
  have hcm : c ≤ 9223372036854775807 := hc.2.2.1
  have hml := Lib.hid hc.1
  clear hi hc
  go_enter Try.func5, Try.ntmps5
  go_wp2_with fail
  refine (awake04_any _).mono ?_
  rintro e w1 ⟨rfl, hk⟩
  have HK1 := Lib.hid hk
  clear hk
  by_cases h40 : 40 < m
  · go_wp2_with fail
    go_ret
    exact ⟨rfl, HK1.out⟩
  go_wp2_with fail
  refine (mod_any index 16 _ HI.out (by omega) (by omega)).mono ?_
  rintro e w1 ⟨rfl, rfl⟩
  generalize modS index 16 = x at *
  have HC1 := Lib.hid (HC.out.keep HK1.out)
  obtain ⟨p, hp⟩ : ∃ p : Nat, (s : Int) % 12 = p := ⟨s % 12, by omega⟩
  obtain ⟨q, hq⟩ : ∃ q : Nat, (z : Int) % 12 = q := ⟨z % 12, by omega⟩
  have hp1 : p < 12 := by omega
  have hq1 : q < 12 := by omega
  have hsz := HK1.out.size
  have fin := fun (w2 : World) (nm : ByteArray) (hk : Keep w w2) hb => idx_value A m c cells p q x w w1 w2 nm HC.out (by omega) (by omega) (by omega) hk hb
  have HF := Lib.hid fin
  have HZ := Lib.hid hz
  have HSS := Lib.hid hs
  clear fin hs hz
  by_cases c1 : 0 ≤ x - 2
  · by_cases c2 : x - 2 < q
    · by_cases c3 : p + (x - 2) < m
      · obtain ⟨j, hj⟩ := Int.eq_ofNat_of_zero_le (show 0 ≤ p + (x - 2) by omega)
        obtain ⟨b, off, y, hA, hb, hy, hcy⟩ := HC1.out.at_ encI_len (k := j) (by omega)
        have hv : idxS cells p q (x - 2) = y := by
          unfold idxS cellS
          rw [if_neg (by omega), IntWalk.wrap64_in _ ⟨by omega, by omega⟩, hj, if_neg (by have := hml.out; omega)]
          simp [hy]
        have hc0 : w1.cell? ⟨b, off + j, none⟩ = some (.int .i64 y) := by have := hcy 0 _ rfl; simpa using this
        have HV := Lib.hid hv
        subst hA
        clear hv hcy hy
        have hj2 : (p + (x - 2)).toNat = j := by omega
        go_wp2_with fail
        refine (HF.out _ _ ?_ ?_).mono ?_
        · exact Keep.alloc (Keep.alloc HK1.out _) _
        · exact (Blk.new _ _ _).alloc _
        rintro e w3 ⟨rfl, hk⟩
        rw [HV.out]
        have HK3 := Lib.hid (Keep.trans (Keep.alloc (Keep.alloc HK1.out _) _) hk)
        clear hk
        go_wp2_with fail
        go_ret
        exact ⟨rfl, HK3.out⟩
      · have hv : idxS cells p q (x - 2) = 0 := by
          unfold idxS cellS
          rw [if_neg (by omega), IntWalk.wrap64_in _ ⟨by omega, by omega⟩, if_pos (by have := hml.out; omega)]
        have HV := Lib.hid hv
        clear hv
        go_wp2_with fail
        refine (HF.out _ _ ?_ ?_).mono ?_
        · exact Keep.alloc (Keep.alloc HK1.out _) _
        · exact (Blk.new _ _ _).alloc _
        rintro e w3 ⟨rfl, hk⟩
        rw [HV.out]
        have HK3 := Lib.hid (Keep.trans (Keep.alloc (Keep.alloc HK1.out _) _) hk)
        clear hk
        go_wp2_with fail
        go_ret
        exact ⟨rfl, HK3.out⟩
    · have hv : idxS cells p q (x - 2) = 0 := if_pos (.inr (by omega))
      have HV := Lib.hid hv
      clear hv
      go_wp2_with fail
      refine (HF.out _ _ ?_ ?_).mono ?_
      · exact Keep.alloc (Keep.alloc HK1.out _) _
      · exact (Blk.new _ _ _).alloc _
      rintro e w3 ⟨rfl, hk⟩
      rw [HV.out]
      have HK3 := Lib.hid (Keep.trans (Keep.alloc (Keep.alloc HK1.out _) _) hk)
      clear hk
      go_wp2_with fail
      go_ret
      exact ⟨rfl, HK3.out⟩
  · have hv : idxS cells p q (x - 2) = 0 := if_pos (.inl (by omega))
    have HV := Lib.hid hv
    clear hv
    go_wp2_with fail
    refine (HF.out _ _ ?_ ?_).mono ?_
    · exact Keep.alloc (Keep.alloc HK1.out _) _
    · exact (Blk.new _ _ _).alloc _
    rintro e w3 ⟨rfl, hk⟩
    rw [HV.out]
    have HK3 := Lib.hid (Keep.trans (Keep.alloc (Keep.alloc HK1.out _) _) hk)
    clear hk
    go_wp2_with fail
    go_ret
    exact ⟨rfl, HK3.out⟩
end Go.Proofs.Ytfleindknalckaa
