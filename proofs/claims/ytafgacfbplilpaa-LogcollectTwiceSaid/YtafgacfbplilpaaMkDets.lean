/- Contracts of the maker's functions: New, Dets. -/
import Derived.Test.YtafgacfbplilpaaMk
set_option linter.unusedVariables false
set_option linter.unusedSimpArgs false
namespace Go.Proofs.Ytafgacfbplilpaa
open Go.RowKit Go.Proofs

structure Dt where
  proc : Int
  idx : Int
  ev : Ev
def encDt (d : Dt) : List Value := .int .i64 d.proc :: .int .i64 d.idx :: encEv d.ev
theorem encDt_len (d : Dt) : (encDt d).length = 9 := rfl
theorem encDt_one (d : Dt) : ∀ u ∈ encDt d, u.oneCell' = true := by
  intro u hu
  simp [encDt, encEv] at hu
  rcases hu with h | h | h | h | h | h | h | h | h <;> subst h <;> rfl
theorem info_Det : (Try.prog.info? 79).map (fun i => (i.zero, i.size, i.bytes)) = some (some (.agg (encDt ⟨0, 0, ⟨0, 0, 0, 0, 0, 0, 0⟩⟩).toArray), 9, 72) := by kernel_rfl

def DetsPost (most : Nat) (B gc r : Nat) (w : World) (e : Ending) (w' : World) : Prop :=
  ∃ (A : Option Addr) (n c : Nat) (l : List Dt), e = .returned (.slice A n c) ∧ Sl encDt 9 w' (fun i => w.heap.size ≤ i ∧ i < w'.heap.size) A n c l ∧ n ≤ most ∧ (∃ r', Cod w' B gc r') ∧ Only gc w w'
def DetsRel (most : Nat) (B gc : Nat) (w : World) (v i : Value) (wr : World) : Prop :=
  ∃ (k : Nat) (l : List Dt), i = .int .i64 k ∧ l.length + k ≤ most ∧ wr.ownsRow w.heap.size 79 9 v l.length (l.flatMap encDt) ∧ (∃ r', Cod wr B gc r') ∧ Only gc w wr

set_option maxHeartbeats 2000000 in
theorem dets_any (w : World) (B gc r most : Nat) (hm : most ≤ 1000) (h : Cod w B gc r) : Calls Try.prog 12 #[.pointer (some ⟨gc, 0, none⟩), .int .i64 most] w (DetsPost most B gc r w) := by
  obtain ⟨i0, hi0, hz0, hz1, hz2⟩ := info_of info_Det
  have H := Lib.hid h
  have hBw := h.2.1
  have hgw := h.lt
  have HI := Lib.hid hi0
  have HZ0 := Lib.hid hz0
  have HZ1 := Lib.hid hz1
  have HZ2 := Lib.hid hz2
  clear h hi0 hz0 hz1 hz2
  go_enter Try.func12, Try.ntmps12
  go_wp2_with fail
  refine (next_any _ B gc r (most + 1) H.out (by omega) (by omega)).mono ?_
  rintro e w1 ⟨v1, hv10, hv11, rfl, hc1, ho1⟩
  obtain ⟨n1, rfl⟩ := Int.eq_ofNat_of_zero_le hv10
  have HC1 := Lib.hid hc1
  have HO1 := Lib.hid ho1
  clear hc1 ho1
  go_wp2_with fail
  go_loopw [5, 6] (fun v i wr => DetsRel most B gc w v i wr) (fun _ i _ => (intOf i).toNat)
  case atStart => exact ⟨n1, [], rfl, by simp; omega, World.ownsRow_nil _ _ _ _, ⟨_, HC1.out⟩, HO1.out⟩
  case round =>
    obtain ⟨k, l, rfl, hkl, hown, ⟨r', hcr⟩, hor⟩ := hrel
    have hownH := Lib.hid hown
    have horH := Lib.hid hor
    have hcrH := Lib.hid hcr
    have hsz := hor.size
    clear hown hor hcr
    by_cases hk : 0 < k
    · go_wp2_with fail
      refine (next_any _ B gc _ 3 hcrH.out (by omega) (by omega)).mono ?_
      rintro e w2 ⟨v2, hv20, hv21, rfl, hc2, ho2⟩
      have HC2 := Lib.hid hc2
      have HO2 := Lib.hid ho2
      clear hc2 ho2
      go_wp2_with fail
      refine (next_any _ B gc _ 6 HC2.out (by omega) (by omega)).mono ?_
      rintro e w3 ⟨v3, hv30, hv31, rfl, hc3, ho3⟩
      have HC3 := Lib.hid hc3
      have HO3 := Lib.hid ho3
      clear hc3 ho3
      go_wp2_with fail
      refine (event_any _ B gc _ HC3.out).mono ?_
      rintro e w4 ⟨x, rfl, ⟨r4, hr4, hc4⟩, ho4⟩
      have ho24 := Only.trans HO2.out (Only.trans HO3.out ho4)
      have hown4 : w4.ownsRow w.heap.size 79 9 _ l.length (l.flatMap encDt) := ownsRow_same hownH.out ho24 (fun i hi => ⟨hi.2, by omega⟩)
      have HC4 := Lib.hid hc4
      have HO4 := Lib.hid (Only.trans horH.out ho24)
      have HW4 := Lib.hid hown4
      have hz4 := HO4.out.size
      clear hc4 ho4 ho24 hown4
      unfold encEv
      go_wp2_with (at_builtin; refine wpList_append_any _ rfl (.tmp 15) (.tmp 24) _ rfl w.heap.size 79 i0 _ 9 72 Try.underlying22 HI.out HZ0.out HZ1.out HZ2.out rfl (by omega) _ l.length (l.flatMap encDt) rfl (HW4.out.alloc _) _ (some ⟨w4.heap.size, 0, none⟩) 1 1 (encDt ⟨v2, 1 + v3, x⟩) rfl (Reads.new rfl) (encDt_one _) (by simp [maxLen]; omega) (by omega) (by simp; omega) ?_; intro v5 w5 hown5 hg5 hat5)
      go_roundw
      case rel =>
        refine ⟨k - 1, l ++ [⟨v2, 1 + v3, x⟩], by go_num, by simp; omega, by simpa using hown5, ⟨r4, (HC4.out.alloc _).same ((Same.refl _ _).append (HW4.out.alloc _) hg5 (fun i hi => by omega) (by simp; omega))⟩, ?_⟩
        exact (HO4.out.alloc _).append (HW4.out.alloc _) hg5 (fun i hi => hi.1) (by simp; omega)
      case measure => simp [intOf]; omega
    · go_wp2_with fail
      obtain ⟨A, c, rfl, hsl⟩ := Sl.of_own hownH.out
      go_ret
      exact ⟨A, _, c, l, rfl, hsl, by omega, ⟨_, hcrH.out⟩, horH.out⟩

end Go.Proofs.Ytafgacfbplilpaa
