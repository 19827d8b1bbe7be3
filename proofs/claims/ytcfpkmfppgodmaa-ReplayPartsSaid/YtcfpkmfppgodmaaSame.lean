/- The comparing functions over lists: slices.Equal, the reference's Same.. -/
import Derived.Test.YtcfpkmfppgodmaaProg
import Derived.Test.YtcfpkmfppgodmaaData
import Derived.Test.YtcfpkmfppgodmaaBlk
set_option linter.unusedVariables false
set_option linter.unusedSimpArgs false
set_option maxRecDepth 100000
namespace Go.Proofs.Ytcfpkmfppgodmaa
open Go.RowKit Go.Proofs

def SameIs (p : Prop) (w : World) (e : Ending) (w' : World) : Prop := ∃ b : Bool, (b = true ↔ p) ∧ e = .returned (.bool b) ∧ ∃ k, w' = w.drewN k
def SmRel {α : Type} (l l2 : List α) (n : Nat) (w : World) (i : Value) (wr : World) : Prop := ∃ k m : Nat, k ≤ n ∧ i = .int .i64 k ∧ l.take k = l2.take k ∧ wr = w.drewN m
theorem take_eq {α : Type} {l l2 : List α} {k : Nat} {a : α} (h : l.take k = l2.take k) (h1 : l[k]? = some a) (h2 : l2[k]? = some a) : l.take (k + 1) = l2.take (k + 1) := by
  obtain ⟨hk, rfl⟩ := List.getElem?_eq_some_iff.1 h1
  obtain ⟨hk2, e⟩ := List.getElem?_eq_some_iff.1 h2
  rw [List.take_succ_eq_append_getElem hk, List.take_succ_eq_append_getElem hk2, h, e]
theorem ne_at {α : Type} {l l2 : List α} {k : Nat} {a b : α} (h1 : l[k]? = some a) (h2 : l2[k]? = some b) (h : a ≠ b) : ¬ l = l2 := fun e => by
  subst e
  rw [h1] at h2
  exact h (Option.some.inj h2)

theorem Ev_ext (a b : Ev) : a = b ↔ a.kind = b.kind ∧ a.inc = b.inc ∧ a.frm = b.frm ∧ a.sInc = b.sInc ∧ a.sIdx = b.sIdx ∧ a.ord = b.ord ∧ a.val = b.val := by
  cases a; cases b; simp
theorem Snd_ext (a b : Snd) : a = b ↔ a.idx = b.idx ∧ a.ord = b.ord ∧ a.to = b.to ∧ a.val = b.val := by
  cases a; cases b; simp
theorem Outp_ext (a b : Outp) : a = b ↔ a.idx = b.idx ∧ a.val = b.val := by
  cases a; cases b; simp





set_option maxHeartbeats 4000000 in
theorem equalInts_is (w : World) (S T : Nat → Prop) (A A2 : Option Addr) (n n2 c c2 : Nat) (l l2 : List Int) (hl : Sl encI 1 w S A n c l) (hl2 : Sl encI 1 w T A2 n2 c2 l2) (hn : n ≤ 1000000) (hn2 : n2 ≤ 1000000) :
    Calls Try.prog 26 #[.slice A n c, .slice A2 n2 c2] w (SameIs (l = l2) w) := by
  have hnl := hl.1
  have hnl2 := hl2.1
  by_cases hnn : n = n2
  case neg =>
    have hne : ¬ l = l2 := fun e => hnn (by rw [hnl, hnl2, e])
    have d0 : ((n : Int) != (n2 : Int)) = true := by simp; omega
    clear hl hl2 hnl hnl2
    have HNE := Lib.hid hne
    clear hne
    go_enter Try.func26, Try.ntmps26
    go_wp2_with fail
    go_ret
    exact ⟨false, by simpa using HNE.out, rfl, 0, rfl⟩
  subst hnn
  have HL := Lib.hid hl
  have HL2 := Lib.hid hl2
  have HNL := Lib.hid hnl
  have HNL2 := Lib.hid hnl2
  clear hl hl2 hnl hnl2
  go_enter Try.func26, Try.ntmps26
  go_wp2_with fail
  go_loopw [13] (fun i wr => SmRel l l2 n w i wr) (fun i _ => n - (intOf i).toNat)
  case atStart => exact ⟨0, 0, Nat.zero_le _, rfl, rfl, rfl⟩
  case round =>
    obtain ⟨k, m, hkn, rfl, htk, rfl⟩ := hrel
    by_cases hk : k < n
    · obtain ⟨b, off, d, rfl, _, hd, hcell⟩ := HL.out.at_ encI_len hk
      obtain ⟨b2, off2, d2, rfl, _, hd2, hcell2⟩ := HL2.out.at_ encI_len hk
      have hki : (0 : Int) ≤ (k : Int) := by omega
      have hki2 : (k : Int) < (n : Int) := by omega
      have p0 := hcell 0 _ rfl
      have q0 := hcell2 0 _ rfl
      clear hcell hcell2
      simp only [Nat.add_zero, Nat.mul_one] at p0 q0
      by_cases he : d = d2
      · subst he
        have ht2 := take_eq htk hd hd2
        have HD := Lib.hid hd
        have HD2 := Lib.hid hd2
        have HTK := Lib.hid htk
        have HT2 := Lib.hid ht2
        clear hd hd2 htk ht2
        go_wp2_with fail
        go_quiet (fail)
        go_wp2_with fail
        go_roundw
        case rel => exact ⟨k + 1, _, by omega, by go_num, HT2.out, rfl⟩
        case measure => simp [intOf]; omega
      · have hq : (d != d2) = true := by simpa using he
        have hne := ne_at hd hd2 he
        have HD := Lib.hid hd
        have HD2 := Lib.hid hd2
        have HTK := Lib.hid htk
        have HNE := Lib.hid hne
        clear hd hd2 htk hne
        clear he
        go_wp2_with fail
        go_quiet (fail)
        go_wp2_with fail
        go_ret
        exact ⟨false, by simpa using HNE.out, rfl, _, World.drewN_drewN _ _ _⟩
    · have hkl : l = l2 := by
        rw [List.take_of_length_le (by have := HNL.out; omega), List.take_of_length_le (by have := HNL2.out; omega)] at htk
        exact htk
      have HTK := Lib.hid htk
      have HKL := Lib.hid hkl
      clear htk hkl
      go_wp2_with fail
      go_ret
      exact ⟨true, by simpa using HKL.out, rfl, m, rfl⟩



end Go.Proofs.Ytcfpkmfppgodmaa
