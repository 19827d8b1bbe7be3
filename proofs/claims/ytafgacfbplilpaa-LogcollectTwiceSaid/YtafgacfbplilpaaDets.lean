/- Contracts: logcollect.Dets, the reference's Dets, determinant.Discard, the reference's Same over determinants. -/
import Derived.Test.YtafgacfbplilpaaMkDets
set_option linter.unusedVariables false
set_option linter.unusedSimpArgs false
namespace Go.Proofs.Ytafgacfbplilpaa
open Go.RowKit Go.Proofs

def keepDt (bs : List Int) (d : Dt) : Bool := decide (d.proc < 0) || decide ((bs.length : Int) ≤ d.proc) || decide (bs.getD d.proc.toNat 0 < d.idx)

def FilterPost (l : List Dt) (w : World) (e : Ending) (w' : World) : Prop :=
  ∃ (A : Option Addr) (n c : Nat), e = .returned (.slice A n c) ∧ Sl encDt 9 w' (fun i => w.heap.size ≤ i ∧ i < w'.heap.size) A n c l ∧ Keep w w'
def FilterRel (p : Dt → Bool) (l : List Dt) (w : World) (v i : Value) (wr : World) : Prop :=
  ∃ k : Nat, k ≤ l.length ∧ i = .int .i64 k ∧ wr.ownsRow w.heap.size 79 9 v ((l.take k).filter p).length (((l.take k).filter p).flatMap encDt) ∧ Keep w wr
theorem filter_snoc {α : Type} (p : α → Bool) (l : List α) (k : Nat) (a : α) (h : l[k]? = some a) : (l.take (k + 1)).filter p = (l.take k).filter p ++ (if p a then [a] else []) := by
  obtain ⟨hk, e⟩ := List.getElem?_eq_some_iff.1 h
  rw [List.take_succ_eq_append_getElem hk, List.filter_append, e]
  cases hp : p a <;> simp [hp]
theorem filter_take_len {α : Type} (p : α → Bool) (l : List α) (k : Nat) : ((l.take k).filter p).length ≤ k := by
  have h1 := List.length_filter_le p (l.take k)
  have h2 := List.length_take_le k l
  omega

set_option maxHeartbeats 2000000 in
theorem ldets_any (w : World) (S : Nat → Prop) (A A2 : Option Addr) (n c n2 c2 : Nat) (l : List Dt) (bs : List Int) (hS : ∀ i, S i → i < w.heap.size) (hl : Sl encDt 9 w S A n c l) (hb : Sl encI 1 w S A2 n2 c2 bs) (hn : n ≤ 1000) (hn2 : n2 ≤ 1000) :
    Calls Try.prog 15 #[.slice A n c, .slice A2 n2 c2] w (FilterPost (l.filter (keepDt bs)) w) := by
  obtain ⟨i0, hi0, hz0, hz1, hz2⟩ := info_of info_Det
  have HI := Lib.hid hi0
  have HZ0 := Lib.hid hz0
  have HZ1 := Lib.hid hz1
  have HZ2 := Lib.hid hz2
  have HL := Lib.hid hl
  have HB := Lib.hid hb
  have hnl := Lib.hid hl.1
  have hnb := Lib.hid hb.1
  clear hl hb hi0 hz0 hz1 hz2
  go_enter Try.func15, Try.ntmps15
  go_wp2_with fail
  go_loopw [5, 10] (fun v i wr => FilterRel (keepDt bs) l w v i wr) (fun _ i _ => n - (intOf i).toNat)
  case atStart => exact ⟨0, Nat.zero_le _, rfl, World.ownsRow_nil _ _ _ _, Same.refl _ _⟩
  case round =>
    obtain ⟨k, hkl, rfl, hown, hkp⟩ := hrel
    have hf := filter_take_len (keepDt bs) l k
    have hkn : k ≤ n := by have := hnl.out; omega
    have HO := Lib.hid hown
    have HK := Lib.hid hkp
    have hsz := hkp.size
    clear hown hkp hkl
    by_cases hk : k < n
    · obtain ⟨b, off, d, rfl, hSb, hd, hcell⟩ := (HL.out.keep (Same.mono HK.out hS)).at_ encDt_len hk
      have HD := Lib.hid hd
      have HC := Lib.hid hcell
      have hsn := Lib.hid (filter_snoc (keepDt bs) l k d hd)
      clear hd hcell
      go_wp2_with (refine wpList_load_mid rfl _ (.tmp 12) rfl b (off + k * 9) rfl [.int .i64 d.proc, .int .i64 d.idx, .int .i64 d.ev.kind, .int .i64 d.ev.inc, .int .i64 d.ev.frm, .int .i64 d.ev.sInc, .int .i64 d.ev.sIdx, .int .i64 d.ev.ord, .int .i64 d.ev.val] _ HC.out Try.underlying79 rfl (by kernel_rfl) ?_)
      by_cases c1 : d.proc < 0
      · have HP : Hid (keepDt bs d = true) := by show keepDt bs d = true; simp [keepDt, c1]
        have c1d : decide (d.proc < 0) = true := by simpa using c1
        go_quiet (fail)
        go_wp2_with (at_builtin; refine wpList_append_any _ rfl (.tmp 34) (.tmp 36) _ rfl w.heap.size 79 i0 _ 9 72 Try.underlying22 HI.out HZ0.out HZ1.out HZ2.out rfl (by omega) _ _ _ rfl ((ownsRow_drewN (HO.out.alloc _) _).alloc _) _ (some ⟨wr.heap.size + 1, 0, none⟩) 1 1 (encDt d) rfl (Reads.new2 rfl) (encDt_one _) (by simp [maxLen]; omega) (by omega) (by simp; omega) ?_; intro v5 w5 hown5 hg5 hat5)
        go_roundw
        case rel =>
          refine ⟨k + 1, by have := hnl.out; omega, by go_num, ?_, ?_⟩
          · rw [hsn.out, if_pos HP.out]
            simpa using hown5
          · exact (Keep.alloc ((HK.out.alloc _).drewN _) _).append ((ownsRow_drewN (HO.out.alloc _) _).alloc _) hg5 (fun i hi => hi) (by simp; omega)
        case measure => simp [intOf]; omega
      have c1d : decide (d.proc < 0) = false := by simpa using c1
      by_cases c2 : (n2 : Int) ≤ d.proc
      · have HP : Hid (keepDt bs d = true) := by show keepDt bs d = true; have := hnb.out; simp [keepDt]; omega
        have c2d : decide ((n2 : Int) ≤ d.proc) = true := by simpa using c2
        go_quiet (fail)
        go_wp2_with (at_builtin; refine wpList_append_any _ rfl (.tmp 34) (.tmp 36) _ rfl w.heap.size 79 i0 _ 9 72 Try.underlying22 HI.out HZ0.out HZ1.out HZ2.out rfl (by omega) _ _ _ rfl ((ownsRow_drewN (HO.out.alloc _) _).alloc _) _ (some ⟨wr.heap.size + 1, 0, none⟩) 1 1 (encDt d) rfl (Reads.new2 rfl) (encDt_one _) (by simp [maxLen]; omega) (by omega) (by simp; omega) ?_; intro v5 w5 hown5 hg5 hat5)
        go_roundw
        case rel =>
          refine ⟨k + 1, by have := hnl.out; omega, by go_num, ?_, ?_⟩
          · rw [hsn.out, if_pos HP.out]
            simpa using hown5
          · exact (Keep.alloc ((HK.out.alloc _).drewN _) _).append ((ownsRow_drewN (HO.out.alloc _) _).alloc _) hg5 (fun i hi => hi) (by simp; omega)
        case measure => simp [intOf]; omega
      have c2d : decide ((n2 : Int) ≤ d.proc) = false := by simpa using c2
      obtain ⟨p, hp⟩ : ∃ p : Nat, d.proc = p := Int.eq_ofNat_of_zero_le (by omega)
      have hpn : p < n2 := by omega
      obtain ⟨b2, off2, x, rfl, hSb2, hx, hcx⟩ := (HB.out.keep (Same.mono HK.out hS)).at_ encI_len hpn
      have hc0 : wr.cell? ⟨b2, off2 + p, none⟩ = some (.int .i64 x) := by have := hcx 0 _ rfl; simpa using this
      have hb2 : b2 < wr.heap.size := by have := hS _ hSb2; omega
      have hbx : bs.getD d.proc.toNat 0 = x := by rw [hp]; simp [hx]
      have hp0 : 0 ≤ d.proc := by omega
      have hp1 : d.proc < n2 := by omega
      have hp2 : d.proc.toNat = p := by omega
      have HH := Lib.hid hbx
      have HPP := Lib.hid hp
      clear hbx hp hx hcx
      by_cases c3 : x < d.idx
      · have HP : Hid (keepDt bs d = true) := by show keepDt bs d = true; have := HH.out; simp only [keepDt, this]; simp [c3]
        have c3d : decide (x < d.idx) = true := by simpa using c3
        go_quiet (fail)
        go_wp2_with (at_builtin; refine wpList_append_any _ rfl (.tmp 34) (.tmp 36) _ rfl w.heap.size 79 i0 _ 9 72 Try.underlying22 HI.out HZ0.out HZ1.out HZ2.out rfl (by omega) _ _ _ rfl ((ownsRow_drewN (HO.out.alloc _) _).alloc _) _ (some ⟨wr.heap.size + 1, 0, none⟩) 1 1 (encDt d) rfl (Reads.new2 rfl) (encDt_one _) (by simp [maxLen]; omega) (by omega) (by simp; omega) ?_; intro v5 w5 hown5 hg5 hat5)
        go_roundw
        case rel =>
          refine ⟨k + 1, by have := hnl.out; omega, by go_num, ?_, ?_⟩
          · rw [hsn.out, if_pos HP.out]
            simpa using hown5
          · exact (Keep.alloc ((HK.out.alloc _).drewN _) _).append ((ownsRow_drewN (HO.out.alloc _) _).alloc _) hg5 (fun i hi => hi) (by simp; omega)
        case measure => simp [intOf]; omega
      · have HP : Hid (keepDt bs d = false) := by show keepDt bs d = false; have h3 := HH.out; have h4 := hnb.out; simp only [keepDt, h3, c1d, Bool.false_or]; simpa using (by omega : d.proc < bs.length ∧ d.idx ≤ x)
        have c3d : decide (x < d.idx) = false := by simpa using c3
        go_quiet (fail)
        go_wp2_with fail
        go_roundw
        case rel =>
          refine ⟨k + 1, by have := hnl.out; omega, by go_num, ?_, (Keep.alloc HK.out _).drewN _⟩
          rw [hsn.out, if_neg (by simp [HP.out])]
          simpa using ownsRow_drewN (HO.out.alloc _) _
        case measure => simp [intOf]; omega
    · go_wp2_with fail
      obtain ⟨A', c', rfl, hsl⟩ := Sl.of_own HO.out
      have hkn' : k = l.length := by have := hnl.out; omega
      go_ret
      refine ⟨A', _, c', rfl, ?_, HK.out⟩
      rw [hkn', List.take_of_length_le (Nat.le_refl _)] at hsl
      rw [hkn', List.take_of_length_le (Nat.le_refl _)]
      exact hsl

set_option maxHeartbeats 2000000 in
theorem rdets_any (w : World) (S : Nat → Prop) (A A2 : Option Addr) (n c n2 c2 : Nat) (l : List Dt) (bs : List Int) (hS : ∀ i, S i → i < w.heap.size) (hl : Sl encDt 9 w S A n c l) (hb : Sl encI 1 w S A2 n2 c2 bs) (hn : n ≤ 1000) (hn2 : n2 ≤ 1000) :
    Calls Try.prog 16 #[.slice A n c, .slice A2 n2 c2] w (FilterPost (l.filter (keepDt bs)) w) := by
  obtain ⟨i0, hi0, hz0, hz1, hz2⟩ := info_of info_Det
  have HI := Lib.hid hi0
  have HZ0 := Lib.hid hz0
  have HZ1 := Lib.hid hz1
  have HZ2 := Lib.hid hz2
  have HL := Lib.hid hl
  have HB := Lib.hid hb
  have hnl := Lib.hid hl.1
  have hnb := Lib.hid hb.1
  clear hl hb hi0 hz0 hz1 hz2
  go_enter Try.func16, Try.ntmps16
  go_wp2_with fail
  go_loopw [5, 6] (fun v i wr => FilterRel (keepDt bs) l w v i wr) (fun _ i _ => n - (intOf i).toNat)
  case atStart => exact ⟨0, Nat.zero_le _, rfl, World.ownsRow_nil _ _ _ _, Same.refl _ _⟩
  case round =>
    obtain ⟨k, hkl, rfl, hown, hkp⟩ := hrel
    have hf := filter_take_len (keepDt bs) l k
    have hkn : k ≤ n := by have := hnl.out; omega
    have HO := Lib.hid hown
    have HK := Lib.hid hkp
    have hsz := hkp.size
    clear hown hkp hkl
    by_cases hk : k < n
    · obtain ⟨b, off, d, rfl, hSb, hd, hcell⟩ := (HL.out.keep (Same.mono HK.out hS)).at_ encDt_len hk
      have HD := Lib.hid hd
      have HC := Lib.hid hcell
      have hsn := Lib.hid (filter_snoc (keepDt bs) l k d hd)
      clear hd hcell
      have hc0' : wr.cell? ⟨b, off + k * 9, none⟩ = some (.int .i64 d.proc) := by have := HC.out 0 _ rfl; simpa using this
      have hc1' : wr.cell? ⟨b, off + k * 9 + 1, none⟩ = some (.int .i64 d.idx) := HC.out 1 _ rfl
      have hbw : b < wr.heap.size := by have := hS _ hSb; omega
      have hki : (0 : Int) ≤ (k : Int) := by omega
      have hki2 : (k : Int) < (n : Int) := by omega
      go_wp2_with fail
      by_cases c1 : d.proc < 0
      · have HP : Hid (keepDt bs d = true) := by show keepDt bs d = true; simp [keepDt, c1]
        have c1d : decide (d.proc < 0) = true := by simpa using c1
        go_quiet (fail)
        go_wp2_with (first | (at_builtin; refine wpList_append_any _ rfl (.tmp 45) (.tmp 50) _ rfl w.heap.size 79 i0 _ 9 72 Try.underlying22 HI.out HZ0.out HZ1.out HZ2.out rfl (by omega) _ _ _ rfl ((ownsRow_drewN HO.out _).alloc _) _ (some ⟨wr.heap.size, 0, none⟩) 1 1 (encDt d) rfl (Reads.newd rfl) (encDt_one _) (by simp [maxLen]; omega) (by omega) (by simp; omega) ?_; intro v5 w5 hown5 hg5 hat5) | (refine wpList_load_mid rfl _ (.tmp 48) rfl b (off + k * 9) rfl [.int .i64 d.proc, .int .i64 d.idx, .int .i64 d.ev.kind, .int .i64 d.ev.inc, .int .i64 d.ev.frm, .int .i64 d.ev.sInc, .int .i64 d.ev.sIdx, .int .i64 d.ev.ord, .int .i64 d.ev.val] _ HC.out Try.underlying79 rfl (by kernel_rfl) ?_))
        go_roundw
        case rel =>
          refine ⟨k + 1, by have := hnl.out; omega, by go_num, ?_, ?_⟩
          · rw [hsn.out, if_pos HP.out]
            simpa using hown5
          · exact (Keep.alloc (HK.out.drewN _) _).append ((ownsRow_drewN HO.out _).alloc _) hg5 (fun i hi => hi) (by simp; omega)
        case measure => simp [intOf]; omega
      have c1d : decide (d.proc < 0) = false := by simpa using c1
      by_cases c2 : (n2 : Int) ≤ d.proc
      · have HP : Hid (keepDt bs d = true) := by show keepDt bs d = true; have := hnb.out; simp [keepDt]; omega
        have c2d : decide ((n2 : Int) ≤ d.proc) = true := by simpa using c2
        go_quiet (fail)
        go_wp2_with (first | (at_builtin; refine wpList_append_any _ rfl (.tmp 45) (.tmp 50) _ rfl w.heap.size 79 i0 _ 9 72 Try.underlying22 HI.out HZ0.out HZ1.out HZ2.out rfl (by omega) _ _ _ rfl ((ownsRow_drewN HO.out _).alloc _) _ (some ⟨wr.heap.size, 0, none⟩) 1 1 (encDt d) rfl (Reads.newd rfl) (encDt_one _) (by simp [maxLen]; omega) (by omega) (by simp; omega) ?_; intro v5 w5 hown5 hg5 hat5) | (refine wpList_load_mid rfl _ (.tmp 48) rfl b (off + k * 9) rfl [.int .i64 d.proc, .int .i64 d.idx, .int .i64 d.ev.kind, .int .i64 d.ev.inc, .int .i64 d.ev.frm, .int .i64 d.ev.sInc, .int .i64 d.ev.sIdx, .int .i64 d.ev.ord, .int .i64 d.ev.val] _ HC.out Try.underlying79 rfl (by kernel_rfl) ?_))
        go_roundw
        case rel =>
          refine ⟨k + 1, by have := hnl.out; omega, by go_num, ?_, ?_⟩
          · rw [hsn.out, if_pos HP.out]
            simpa using hown5
          · exact (Keep.alloc (HK.out.drewN _) _).append ((ownsRow_drewN HO.out _).alloc _) hg5 (fun i hi => hi) (by simp; omega)
        case measure => simp [intOf]; omega
      have c2d : decide ((n2 : Int) ≤ d.proc) = false := by simpa using c2
      obtain ⟨p, hp⟩ : ∃ p : Nat, d.proc = p := Int.eq_ofNat_of_zero_le (by omega)
      have hpn : p < n2 := by omega
      obtain ⟨b2, off2, x, rfl, hSb2, hx, hcx⟩ := (HB.out.keep (Same.mono HK.out hS)).at_ encI_len hpn
      have hc0 : wr.cell? ⟨b2, off2 + p, none⟩ = some (.int .i64 x) := by have := hcx 0 _ rfl; simpa using this
      have hb2 : b2 < wr.heap.size := by have := hS _ hSb2; omega
      have hbx : bs.getD d.proc.toNat 0 = x := by rw [hp]; simp [hx]
      have hp0 : 0 ≤ d.proc := by omega
      have hp1 : d.proc < n2 := by omega
      have hp2 : d.proc.toNat = p := by omega
      have HH := Lib.hid hbx
      have HPP := Lib.hid hp
      clear hbx hp hx hcx
      by_cases c3 : x < d.idx
      · have HP : Hid (keepDt bs d = true) := by show keepDt bs d = true; have := HH.out; simp only [keepDt, this]; simp [c3]
        have c3d : decide (x < d.idx) = true := by simpa using c3
        go_quiet (fail)
        go_wp2_with (first | (at_builtin; refine wpList_append_any _ rfl (.tmp 45) (.tmp 50) _ rfl w.heap.size 79 i0 _ 9 72 Try.underlying22 HI.out HZ0.out HZ1.out HZ2.out rfl (by omega) _ _ _ rfl ((ownsRow_drewN HO.out _).alloc _) _ (some ⟨wr.heap.size, 0, none⟩) 1 1 (encDt d) rfl (Reads.newd rfl) (encDt_one _) (by simp [maxLen]; omega) (by omega) (by simp; omega) ?_; intro v5 w5 hown5 hg5 hat5) | (refine wpList_load_mid rfl _ (.tmp 48) rfl b (off + k * 9) rfl [.int .i64 d.proc, .int .i64 d.idx, .int .i64 d.ev.kind, .int .i64 d.ev.inc, .int .i64 d.ev.frm, .int .i64 d.ev.sInc, .int .i64 d.ev.sIdx, .int .i64 d.ev.ord, .int .i64 d.ev.val] _ HC.out Try.underlying79 rfl (by kernel_rfl) ?_))
        go_roundw
        case rel =>
          refine ⟨k + 1, by have := hnl.out; omega, by go_num, ?_, ?_⟩
          · rw [hsn.out, if_pos HP.out]
            simpa using hown5
          · exact (Keep.alloc (HK.out.drewN _) _).append ((ownsRow_drewN HO.out _).alloc _) hg5 (fun i hi => hi) (by simp; omega)
        case measure => simp [intOf]; omega
      · have HP : Hid (keepDt bs d = false) := by show keepDt bs d = false; have h3 := HH.out; have h4 := hnb.out; simp only [keepDt, h3, c1d, Bool.false_or]; simpa using (by omega : d.proc < bs.length ∧ d.idx ≤ x)
        have c3d : decide (x < d.idx) = false := by simpa using c3
        go_quiet (fail)
        go_wp2_with fail
        go_roundw
        case rel =>
          refine ⟨k + 1, by have := hnl.out; omega, by go_num, ?_, HK.out.drewN _⟩
          rw [hsn.out, if_neg (by simp [HP.out])]
          simpa using ownsRow_drewN HO.out _
        case measure => simp [intOf]; omega
    · go_wp2_with fail
      obtain ⟨A', c', rfl, hsl⟩ := Sl.of_own HO.out
      have hkn' : k = l.length := by have := hnl.out; omega
      go_ret
      refine ⟨A', _, c', rfl, ?_, HK.out⟩
      rw [hkn', List.take_of_length_le (Nat.le_refl _)] at hsl
      rw [hkn', List.take_of_length_le (Nat.le_refl _)]
      exact hsl

def DrawnTrue (w : World) (e : Ending) (w' : World) : Prop := e = .returned (.bool true) ∧ ∃ m, w' = w.drewN m
def CountRel (n : Nat) (w : World) (i : Value) (wr : World) : Prop := ∃ k m : Nat, k ≤ n ∧ i = .int .i64 k ∧ wr = w.drewN m

set_option maxHeartbeats 2000000 in
theorem sameDets_any (w : World) (S : Nat → Prop) (A A2 : Option Addr) (n c c2 : Nat) (l : List Dt) (hl : Sl encDt 9 w S A n c l) (hl2 : Sl encDt 9 w S A2 n c2 l) (hn : n ≤ 1000) :
    Calls Try.prog 14 #[.slice A n c, .slice A2 n c2] w (DrawnTrue w) := by
  have HL := Lib.hid hl
  have HL2 := Lib.hid hl2
  have hnl := Lib.hid hl.1
  clear hl hl2
  go_enter Try.func14, Try.ntmps14
  go_wp2_with fail
  go_loopw [5] (fun i wr => CountRel n w i wr) (fun i _ => n - (intOf i).toNat)
  case atStart => exact ⟨0, 0, Nat.zero_le _, rfl, rfl⟩
  case round =>
    obtain ⟨k, m, hkn, rfl, rfl⟩ := hrel
    by_cases hk : k < n
    · obtain ⟨b, off, d, rfl, _, hd, hcell⟩ := HL.out.at_ encDt_len hk
      obtain ⟨b2, off2, d2, rfl, _, hd2, hcell2⟩ := HL2.out.at_ encDt_len hk
      obtain rfl : d2 = d := Option.some.inj (hd2.symm.trans hd)
      have hki : (0 : Int) ≤ (k : Int) := by omega
      have hki2 : (k : Int) < (n : Int) := by omega
      have HC1 := Lib.hid hcell
      have HC2 := Lib.hid hcell2
      clear hcell hcell2 hd hd2
      have p0 := HC1.out 0 _ rfl
      have q0 := HC2.out 0 _ rfl
      have p1 := HC1.out 1 _ rfl
      have q1 := HC2.out 1 _ rfl
      have p2 := HC1.out 2 _ rfl
      have q2 := HC2.out 2 _ rfl
      have p3 := HC1.out 3 _ rfl
      have q3 := HC2.out 3 _ rfl
      have p4 := HC1.out 4 _ rfl
      have q4 := HC2.out 4 _ rfl
      have p5 := HC1.out 5 _ rfl
      have q5 := HC2.out 5 _ rfl
      have p6 := HC1.out 6 _ rfl
      have q6 := HC2.out 6 _ rfl
      have p7 := HC1.out 7 _ rfl
      have q7 := HC2.out 7 _ rfl
      have p8 := HC1.out 8 _ rfl
      have q8 := HC2.out 8 _ rfl
      simp only [Nat.add_zero] at p0 q0
      go_wp2_with fail
      go_quiet (fail)
      go_wp2_with fail
      go_roundw
      case rel => exact ⟨k + 1, _, by omega, by go_num, rfl⟩
      case measure => simp [intOf]; omega
    · go_wp2_with fail
      go_ret
      exact ⟨rfl, m, rfl⟩

end Go.Proofs.Ytafgacfbplilpaa
