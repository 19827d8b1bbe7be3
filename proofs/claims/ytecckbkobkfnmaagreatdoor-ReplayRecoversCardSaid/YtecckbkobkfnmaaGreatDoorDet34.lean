/- Determinants: the maker's list, those that follow an index. -/
import Derived.Test.YtecckbkobkfnmaaGreatDoorGS
import Derived.Test.YtecckbkobkfnmaaGreatDoorMkEv
import Derived.Test.YtecckbkobkfnmaaGreatDoorBlk
set_option linter.unusedVariables false
set_option linter.unusedSimpArgs false
set_option maxRecDepth 100000
namespace Go.Proofs.YtecckbkobkfnmaaGreatDoor
open Go.RowKit Go.Proofs

theorem info_Det : (Tryz.prog.info? 76).map (fun i => (i.zero, i.size, i.bytes)) = some (some (.agg (encDt ⟨0, 0, ⟨0, 0, 0, 0, 0, 0, 0⟩⟩).toArray), 9, 72) := by kernel_rfl
theorem bld_det (p k a b c d e f g : Int) : Tryz.prog.built 76 [(0, .int .i64 p), (1, .int .i64 k), (2, .agg #[.int .i64 a, .int .i64 b, .int .i64 c, .int .i64 d, .int .i64 e, .int .i64 f, .int .i64 g])] = some #[.int .i64 p, .int .i64 k, .int .i64 a, .int .i64 b, .int .i64 c, .int .i64 d, .int .i64 e, .int .i64 f, .int .i64 g] := by kernel_rfl
theorem built_det1 (p k a b c d e f g : Int) : builtS Tryz.prog 76 1 [(0, .agg #[.int .i64 p, .int .i64 k, .int .i64 a, .int .i64 b, .int .i64 c, .int .i64 d, .int .i64 e, .int .i64 f, .int .i64 g])] = some #[.int .i64 p, .int .i64 k, .int .i64 a, .int .i64 b, .int .i64 c, .int .i64 d, .int .i64 e, .int .i64 f, .int .i64 g] := by kernel_rfl
def DetsOwn (most : Nat) (B : Nat → Prop) (gc r : Nat) (w : World) (e : Ending) (w' : World) : Prop :=
  ∃ (A : Option Addr) (c : Nat) (l : List Dt), e = .returned (.slice A l.length c) ∧ w'.ownsRow w.heap.size 76 9 (.slice A l.length c) l.length (l.flatMap encDt) ∧ l.length ≤ most ∧ (∀ d ∈ l, 1 ≤ d.idx ∧ d.idx ≤ 6) ∧ (∃ r', Cod w' B gc r') ∧ Only gc w w'
def DetsRel2 (most : Nat) (B : Nat → Prop) (gc : Nat) (w : World) (v i : Value) (wr : World) : Prop :=
  ∃ (k : Nat) (l : List Dt), i = .int .i64 k ∧ l.length + k ≤ most ∧ (∀ d ∈ l, 1 ≤ d.idx ∧ d.idx ≤ 6) ∧ wr.ownsRow w.heap.size 76 9 v l.length (l.flatMap encDt) ∧ (∃ r', Cod wr B gc r') ∧ Only gc w wr
set_option maxHeartbeats 2000000 in
theorem dets_own (w : World) (B : Nat → Prop) (gc r most : Nat) (hm : most ≤ 1000) (h : Cod w B gc r) : Calls Tryz.prog 10 #[.pointer (some ⟨gc, 0, none⟩), .int .i64 most] w (DetsOwn most B gc r w) := by
  obtain ⟨i0, hi0, hz0, hz1, hz2⟩ := info_of info_Det
  have H := Lib.hid h
  have hBw := h.2.1
  have hgw := h.lt
  have HI := Lib.hid hi0
  have HZ0 := Lib.hid hz0
  have HZ1 := Lib.hid hz1
  have HZ2 := Lib.hid hz2
  clear h hi0 hz0 hz1 hz2
  go_enter Tryz.func10, Tryz.ntmps10
  go_wp2_with fail
  refine (next_any _ B gc r (most + 1) H.out (by omega) (by omega)).mono ?_
  rintro e w1 ⟨v1, hv10, hv11, rfl, hc1, ho1⟩
  obtain ⟨n1, rfl⟩ := Int.eq_ofNat_of_zero_le hv10
  have HC1 := Lib.hid hc1
  have HO1 := Lib.hid ho1
  clear hc1 ho1
  go_wp2_with fail
  go_loopw [5, 6] (fun v i wr => DetsRel2 most B gc w v i wr) (fun _ i _ => (intOf i).toNat)
  case atStart => exact ⟨n1, [], rfl, by simp; omega, by simp, World.ownsRow_nil _ _ _ _, ⟨_, HC1.out⟩, HO1.out⟩
  case round =>
    obtain ⟨k, l, rfl, hkl, hil, hown, ⟨r', hcr⟩, hor⟩ := hrel
    have HIL := Lib.hid hil
    clear hil
    have hownH := Lib.hid hown
    have horH := Lib.hid hor
    have hcrH := Lib.hid hcr
    have hsz := hor.size
    clear hown hor hcr
    by_cases hk : 0 < k
    · go_wp2_with fail
      refine (next_any _ B gc _ 3 hcrH.out (by omega) (by omega)).mono ?_
      rintro e w2 ⟨v2, hv20, hv21, rfl, hc2, ho2⟩
      have HC2 := Lib.hid hc2
      have HO2 := Lib.hid ho2
      clear hc2 ho2
      go_wp2_with fail
      refine (next_any _ B gc _ 6 HC2.out (by omega) (by omega)).mono ?_
      rintro e w3 ⟨v3, hv30, hv31, rfl, hc3, ho3⟩
      have HC3 := Lib.hid hc3
      have HO3 := Lib.hid ho3
      clear hc3 ho3
      go_wp2_with fail
      refine (event_any _ B gc _ HC3.out).mono ?_
      rintro e w4 ⟨x, rfl, ⟨r4, hr4, hc4⟩, ho4⟩
      have ho24 := Only.trans HO2.out (Only.trans HO3.out ho4)
      have hown4 : w4.ownsRow w.heap.size 76 9 _ l.length (l.flatMap encDt) := ownsRow_same hownH.out ho24 (fun i hi => ⟨hi.2, by omega⟩)
      have HC4 := Lib.hid hc4
      have HO4 := Lib.hid (Only.trans horH.out ho24)
      have HW4 := Lib.hid hown4
      have hz4 := HO4.out.size
      clear hc4 ho4 ho24 hown4
      unfold encEv
      go_wp2_with (at_builtin; refine wpList_append_any _ rfl (.tmp 15) (.tmp 24) _ rfl w.heap.size 76 i0 _ 9 72 Tryz.underlying23 HI.out HZ0.out HZ1.out HZ2.out rfl (by omega) _ l.length (l.flatMap encDt) rfl (HW4.out.alloc _) _ (some ⟨w4.heap.size, 0, none⟩) 1 1 (encDt ⟨v2, 1 + v3, x⟩) rfl (Reads.new rfl) (encDt_one _) (by simp [maxLen]; omega) (by omega) (by simp; omega) ?_; intro v5 w5 hown5 hg5 hat5)
      go_roundw
      case rel =>
        refine ⟨k - 1, l ++ [⟨v2, 1 + v3, x⟩], by go_num, by simp; omega, fun d hd => (List.mem_append.1 hd).elim (HIL.out d) (fun h => by simp at h; subst h; simp only; omega), by simpa using hown5, ⟨r4, (HC4.out.alloc _).same ((Same.refl _ _).append (HW4.out.alloc _) hg5 (fun i hi => by have := hBw i hi; omega) (by simp; omega))⟩, ?_⟩
        exact (HO4.out.alloc _).append (HW4.out.alloc _) hg5 (fun i hi => hi.1) (by simp; omega)
      case measure => simp [intOf]; omega
    · go_wp2_with fail
      obtain ⟨A, c, rfl, -, -⟩ := own_form hownH.out
      go_ret
      exact ⟨A, c, l, rfl, hownH.out, by omega, HIL.out, ⟨_, hcrH.out⟩, horH.out⟩


def DtsPost (l : List Dt) (w : World) (e : Ending) (w' : World) : Prop :=
  ∃ (A : Option Addr) (n c : Nat), e = .returned (.slice A n c) ∧ Sl encDt 9 w' (fun i => w.heap.size ≤ i ∧ i < w'.heap.size) A n c l ∧ Keep w w'
def FolRel (p f : Int) (l : List Ev) (w : World) (v i : Value) (wr : World) : Prop :=
  ∃ k : Nat, k ≤ l.length ∧ i = .int .i64 k ∧ wr.ownsRow w.heap.size 76 9 v (linS p (f + 1) (l.take k)).length ((linS p (f + 1) (l.take k)).flatMap encDt) ∧ Keep w wr
theorem fol_take {p f : Int} {l : List Ev} {k : Nat} {y : Ev} (h : l[k]? = some y) : linS p (f + 1) (l.take (k + 1)) = linS p (f + 1) (l.take k) ++ [⟨p, f + 1 + k, y⟩] := by
  obtain ⟨hk, rfl⟩ := List.getElem?_eq_some_iff.1 h
  rw [List.take_succ_eq_append_getElem hk, linS_snoc, List.length_take, Nat.min_eq_left (by omega)]
theorem fol_len (p f : Int) (l : List Ev) (k : Nat) : (linS p (f + 1) (l.take k)).length ≤ k := by
  rw [linS_len, List.length_take]
  omega
set_option maxHeartbeats 4000000 in
theorem following_any (w : World) (S : Nat → Prop) (A : Option Addr) (n c : Nat) (l : List Ev) (p f : Int) (hS : ∀ i, S i → i < w.heap.size) (hl : Sl encEv 7 w S A n c l) (hn : n ≤ 1000) (hf0 : 0 ≤ f) (hf1 : f ≤ 1000000) :
    Calls Tryz.prog 11 #[.int .i64 p, .int .i64 f, .slice A n c] w (DtsPost (linS p (f + 1) l) w) := by
  obtain ⟨i0, hi0, hz0, hz1, hz2⟩ := info_of info_Det
  have hnl := hl.1
  have HI0 := Lib.hid hi0
  have HZ0 := Lib.hid hz0
  have HZ1 := Lib.hid hz1
  have HZ2 := Lib.hid hz2
  have HL := Lib.hid hl
  have HNL := Lib.hid hnl
  have HS := Lib.hid hS
  clear hi0 hz0 hz1 hz2 hl hnl hS
  go_enter Tryz.func11, Tryz.ntmps11
  go_wp2_with fail
  go_loopw [7, 8] (fun v i wr => FolRel p f l w v i wr) (fun _ i _ => n - (intOf i).toNat)
  case atStart => exact ⟨0, Nat.zero_le _, rfl, World.ownsRow_nil _ _ _ _, Same.refl _ _⟩
  case round =>
    obtain ⟨k, hkl, rfl, hown, hkp⟩ := hrel
    have hf := fol_len p f l k
    have hkn : k ≤ n := by have := HNL.out; omega
    have hsz := hkp.size
    by_cases hk : k < n
    · obtain ⟨b, off, y, rfl, hSb, hy, hcell⟩ := (HL.out.keep (Same.mono hkp HS.out)).at_ encEv_len hk
      have hd1 : decide (k < n) = true := by simpa using hk
      have hd2 : (0 : Int) ≤ k := by omega
      have hd3 : (k : Int) < n := by omega
      have hsn := fol_take (p := p) (f := f) hy
      have hrg : wr.rangeAt b (off + k * 7) [.int .i64 y.kind, .int .i64 y.inc, .int .i64 y.frm, .int .i64 y.sInc, .int .i64 y.sIdx, .int .i64 y.ord, .int .i64 y.val] := hcell
      obtain ⟨m, hm⟩ : ∃ m, m = (linS p (f + 1) (l.take k)).length := ⟨_, rfl⟩
      have hm2 : m ≤ k := by omega
      rw [← hm] at hown
      have HRG := Lib.hid hrg
      have HSN := Lib.hid hsn
      have HKP := Lib.hid hkp
      have HOWN := Lib.hid hown
      have HM := Lib.hid hm
      clear hrg hsn hkp hown hm
      clear hcell hy hf hkl hSb
      go_wp2_with (first
        | (refine wpList_load_mid rfl _ (.tmp 23) rfl b (off + k * 7) rfl [.int .i64 y.kind, .int .i64 y.inc, .int .i64 y.frm, .int .i64 y.sInc, .int .i64 y.sIdx, .int .i64 y.ord, .int .i64 y.val] _ HRG.out Tryz.underlying51 rfl (by kernel_rfl) ?_)
        | (refine wpList_bld rfl 76 _ rfl _ [(0, .int .i64 p), (1, .int .i64 (f + 1 + (k : Int))), (2, .agg #[.int .i64 y.kind, .int .i64 y.inc, .int .i64 y.frm, .int .i64 y.sInc, .int .i64 y.sIdx, .int .i64 y.ord, .int .i64 y.val])] rfl (bld_det _ _ _ _ _ _ _ _ _) ?_)
        | (refine wpList_buildS rfl 23 76 1 _ rfl Tryz.underlying23 _ [(0, .agg #[.int .i64 p, .int .i64 (f + 1 + (k : Int)), .int .i64 y.kind, .int .i64 y.inc, .int .i64 y.frm, .int .i64 y.sInc, .int .i64 y.sIdx, .int .i64 y.ord, .int .i64 y.val])] rfl (built_det1 _ _ _ _ _ _ _ _ _) ?_)
        | (at_builtin; refine wpList_append_any _ rfl (.tmp 15) (.tmp 26) 23 rfl w.heap.size 76 i0 _ 9 72 Tryz.underlying23 HI0.out HZ0.out HZ1.out HZ2.out rfl (by omega) _ m _ rfl (HOWN.out.alloc _) _ (some ⟨wr.heap.size, 0, none⟩) 1 1 (encDt ⟨p, f + 1 + (k : Int), y⟩) rfl (Reads.new rfl) (encDt_one _) (by simp [maxLen]; omega) (by omega) (by simp; omega) ?_; intro v5 w5 hown5 hg5 hat5))
      go_roundw
      case rel =>
        refine ⟨k + 1, by have := HNL.out; omega, by go_num, ?_, ?_⟩
        · rw [HSN.out, List.length_append, ← HM.out, List.flatMap_append]
          simpa using hown5
        · exact (Keep.alloc HKP.out _).append (HOWN.out.alloc _) hg5 (fun i hi => hi) (by simp; omega)
      case measure => simp [intOf]; omega
    · have hd1 : decide (k < n) = false := by simpa using hk
      have HKP := Lib.hid hkp
      have HOWN := Lib.hid hown
      clear hkp hown
      go_wp2_with fail
      obtain ⟨A', c', rfl, hsl⟩ := Sl.of_own HOWN.out
      have htl : l.take k = l := List.take_of_length_le (by have := HNL.out; omega)
      go_ret
      rw [htl] at hsl ⊢
      exact ⟨A', _, c', rfl, hsl, HKP.out⟩
end Go.Proofs.YtecckbkobkfnmaaGreatDoor
