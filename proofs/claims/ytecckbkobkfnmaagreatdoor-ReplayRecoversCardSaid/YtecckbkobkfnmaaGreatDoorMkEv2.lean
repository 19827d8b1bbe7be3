/- The maker's Events, whose list may be appended to. -/
import Derived.Test.YtecckbkobkfnmaaGreatDoorMkEv
set_option linter.unusedVariables false
set_option linter.unusedSimpArgs false
namespace Go.Proofs.YtecckbkobkfnmaaGreatDoor
open Go.RowKit Go.Proofs

def EventsOwn (most : Nat) (B : Nat → Prop) (gc r : Nat) (w : World) (e : Ending) (w' : World) : Prop :=
  ∃ (A : Option Addr) (c : Nat) (l : List Ev), e = .returned (.slice A l.length c) ∧ w'.ownsRow w.heap.size 51 7 (.slice A l.length c) l.length (l.flatMap encEv) ∧ l.length ≤ most ∧ (∃ r', Cod w' B gc r') ∧ Only gc w w'
set_option maxHeartbeats 2000000 in
theorem events_own (w : World) (B : Nat → Prop) (gc r most : Nat) (hm : most ≤ 1000) (h : Cod w B gc r) : Calls Tryz.prog 9 #[.pointer (some ⟨gc, 0, none⟩), .int .i64 most] w (EventsOwn most B gc r w) := by
  obtain ⟨i0, hi0, hz0, hz1, hz2⟩ := info_of info_Event
  have H := Lib.hid h
  have hBw := h.2.1
  have hgw := h.lt
  have HI := Lib.hid hi0
  have HZ0 := Lib.hid hz0
  have HZ1 := Lib.hid hz1
  have HZ2 := Lib.hid hz2
  clear h hi0 hz0 hz1 hz2
  go_enter Tryz.func9, Tryz.ntmps9
  go_wp2_with fail
  refine (next_any _ B gc r (most + 1) H.out (by omega) (by omega)).mono ?_
  rintro e w1 ⟨v1, hv10, hv11, rfl, hc1, ho1⟩
  obtain ⟨n1, rfl⟩ := Int.eq_ofNat_of_zero_le hv10
  have HC1 := Lib.hid hc1
  have HO1 := Lib.hid ho1
  clear hc1 ho1
  go_wp2_with fail
  go_loopw [5, 6] (fun v i wr => EventsRel most B gc w v i wr) (fun _ i _ => (intOf i).toNat)
  case atStart => exact ⟨n1, [], rfl, by simp; omega, World.ownsRow_nil _ _ _ _, ⟨_, HC1.out⟩, HO1.out⟩
  case round =>
    obtain ⟨k, l, rfl, hkl, hown, ⟨r', hcr⟩, hor⟩ := hrel
    have hownH := Lib.hid hown
    have horH := Lib.hid hor
    have hcrH := Lib.hid hcr
    have hsz := hor.size
    clear hown hor hcr
    by_cases hk : 0 < k
    · go_wp2_with fail
      refine (event_any _ B gc _ hcrH.out).mono ?_
      rintro e w4 ⟨x, rfl, ⟨r4, hr4, hc4⟩, ho4⟩
      have hown4 : w4.ownsRow w.heap.size 51 7 _ l.length (l.flatMap encEv) := ownsRow_same hownH.out ho4 (fun i hi => ⟨hi.2, by omega⟩)
      have HC4 := Lib.hid hc4
      have HO4 := Lib.hid (Only.trans horH.out ho4)
      have HW4 := Lib.hid hown4
      have hz4 := HO4.out.size
      clear hc4 ho4 hown4
      unfold encEv
      go_wp2_with (at_builtin; refine wpList_append_any _ rfl (.tmp 15) (.tmp 18) _ rfl w.heap.size 51 i0 _ 7 56 Tryz.underlying33 HI.out HZ0.out HZ1.out HZ2.out rfl (by omega) _ l.length (l.flatMap encEv) rfl (HW4.out.alloc _) _ (some ⟨w4.heap.size, 0, none⟩) 1 1 (encEv x) rfl (Reads.new rfl) (encEv_one _) (by simp [maxLen]; omega) (by omega) (by simp; omega) ?_; intro v5 w5 hown5 hg5 hat5)
      go_roundw
      case rel =>
        refine ⟨k - 1, l ++ [x], by go_num, by simp; omega, by simpa using hown5, ⟨r4, (HC4.out.alloc _).same ((Same.refl _ _).append (HW4.out.alloc _) hg5 (fun i hi => by have := hBw i hi; omega) (by simp; omega))⟩, ?_⟩
        exact (HO4.out.alloc _).append (HW4.out.alloc _) hg5 (fun i hi => hi.1) (by simp; omega)
      case measure => simp [intOf]; omega
    · go_wp2_with fail
      obtain ⟨A, c, rfl, -, -⟩ := own_form hownH.out
      go_ret
      exact ⟨A, c, l, rfl, hownH.out, by omega, ⟨_, hcrH.out⟩, horH.out⟩
end Go.Proofs.YtecckbkobkfnmaaGreatDoor
