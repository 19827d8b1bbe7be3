/- Contract: determinant.Discard. -/
import Derived.Test.YtafgacfbplilpaaDets
set_option linter.unusedVariables false
set_option linter.unusedSimpArgs false
namespace Go.Proofs.Ytafgacfbplilpaa
open Go.RowKit Go.Proofs

def dropDt (proc upTo : Int) (d : Dt) : Bool := d.proc != proc || decide (upTo < d.idx)
theorem Reads.new1 {w : World} {o : Obj} {e : TypeId} {cs : List Value} {size n : Nat} (h : cs.length = n * size) : Reads ((w.alloc o).alloc (.cells cs.toArray e)) (fun i => i = w.heap.size + 1) size (some ⟨w.heap.size + 1, 0, none⟩) n cs := by
  have := Reads.new (w := w.alloc o) (e := e) h
  simpa using this
set_option maxHeartbeats 2000000 in
theorem discard_any (w : World) (S : Nat → Prop) (A : Option Addr) (n c : Nat) (l : List Dt) (proc upTo : Int) (hS : ∀ i, S i → i < w.heap.size) (hl : Sl encDt 9 w S A n c l) (hn : n ≤ 1000) :
    Calls Try.prog 27 #[.slice A n c, .int .i64 proc, .int .i64 upTo] w (FilterPost (l.filter (dropDt proc upTo)) w) := by
  obtain ⟨i0, hi0, hz0, hz1, hz2⟩ := info_of info_Det
  have HI := Lib.hid hi0
  have HZ0 := Lib.hid hz0
  have HZ1 := Lib.hid hz1
  have HZ2 := Lib.hid hz2
  have HL := Lib.hid hl
  have hnl := Lib.hid hl.1
  clear hl hi0 hz0 hz1 hz2
  go_enter Try.func27, Try.ntmps27
  go_wp2_with fail
  go_loopw [7, 12] (fun v i wr => FilterRel (dropDt proc upTo) l w v i wr) (fun _ i _ => n - (intOf i).toNat)
  case atStart => exact ⟨0, Nat.zero_le _, rfl, World.ownsRow_nil _ _ _ _, Same.refl _ _⟩
  case round =>
    obtain ⟨k, hkl, rfl, hown, hkp⟩ := hrel
    have hf := filter_take_len (dropDt proc upTo) l k
    have hkn : k ≤ n := by have := hnl.out; omega
    have HO := Lib.hid hown
    have HK := Lib.hid hkp
    have hsz := hkp.size
    clear hown hkp hkl
    by_cases hk : k < n
    · obtain ⟨b, off, d, rfl, hSb, hd, hcell⟩ := (HL.out.keep (Same.mono HK.out hS)).at_ encDt_len hk
      have HD := Lib.hid hd
      have HC := Lib.hid hcell
      have hsn := Lib.hid (filter_snoc (dropDt proc upTo) l k d hd)
      clear hd hcell
      cases c1 : (d.proc != proc)
      · by_cases c2 : upTo < d.idx
        · have HP : Hid (dropDt proc upTo d = true) := by show dropDt proc upTo d = true; simp [dropDt, c2]
          go_wp2_with (first | (refine wpList_load_mid rfl _ (.tmp 14) rfl b (off + k * 9) rfl [.int .i64 d.proc, .int .i64 d.idx, .int .i64 d.ev.kind, .int .i64 d.ev.inc, .int .i64 d.ev.frm, .int .i64 d.ev.sInc, .int .i64 d.ev.sIdx, .int .i64 d.ev.ord, .int .i64 d.ev.val] _ HC.out Try.underlying79 rfl (by kernel_rfl) ?_) | (at_builtin; refine wpList_append_any _ rfl (.tmp 26) (.tmp 28) _ rfl w.heap.size 79 i0 _ 9 72 Try.underlying22 HI.out HZ0.out HZ1.out HZ2.out rfl (by omega) _ _ _ rfl ((HO.out.alloc _).alloc _) _ (some ⟨wr.heap.size + 1, 0, none⟩) 1 1 (encDt d) rfl (Reads.new1 rfl) (encDt_one _) (by simp [maxLen]; omega) (by omega) (by simp; omega) ?_; intro v5 w5 hown5 hg5 hat5))
          go_roundw
          case rel =>
            refine ⟨k + 1, by have := hnl.out; omega, by go_num, ?_, ?_⟩
            · rw [hsn.out, if_pos HP.out]
              simpa using hown5
            · exact (Keep.alloc (Keep.alloc HK.out _) _).append ((HO.out.alloc _).alloc _) hg5 (fun i hi => hi) (by simp; omega)
          case measure => simp [intOf]; omega
        · have HP : Hid (dropDt proc upTo d = false) := by show dropDt proc upTo d = false; simp only [dropDt, c1, Bool.false_or]; simpa using c2
          go_wp2_with (refine wpList_load_mid rfl _ (.tmp 14) rfl b (off + k * 9) rfl [.int .i64 d.proc, .int .i64 d.idx, .int .i64 d.ev.kind, .int .i64 d.ev.inc, .int .i64 d.ev.frm, .int .i64 d.ev.sInc, .int .i64 d.ev.sIdx, .int .i64 d.ev.ord, .int .i64 d.ev.val] _ HC.out Try.underlying79 rfl (by kernel_rfl) ?_)
          go_roundw
          case rel =>
            refine ⟨k + 1, by have := hnl.out; omega, by go_num, ?_, Keep.alloc HK.out _⟩
            rw [hsn.out, if_neg (by simp [HP.out])]
            simpa using HO.out.alloc _
          case measure => simp [intOf]; omega
      · have HP : Hid (dropDt proc upTo d = true) := by show dropDt proc upTo d = true; simp [dropDt, c1]
        go_wp2_with (first | (refine wpList_load_mid rfl _ (.tmp 14) rfl b (off + k * 9) rfl [.int .i64 d.proc, .int .i64 d.idx, .int .i64 d.ev.kind, .int .i64 d.ev.inc, .int .i64 d.ev.frm, .int .i64 d.ev.sInc, .int .i64 d.ev.sIdx, .int .i64 d.ev.ord, .int .i64 d.ev.val] _ HC.out Try.underlying79 rfl (by kernel_rfl) ?_) | (at_builtin; refine wpList_append_any _ rfl (.tmp 26) (.tmp 28) _ rfl w.heap.size 79 i0 _ 9 72 Try.underlying22 HI.out HZ0.out HZ1.out HZ2.out rfl (by omega) _ _ _ rfl ((HO.out.alloc _).alloc _) _ (some ⟨wr.heap.size + 1, 0, none⟩) 1 1 (encDt d) rfl (Reads.new1 rfl) (encDt_one _) (by simp [maxLen]; omega) (by omega) (by simp; omega) ?_; intro v5 w5 hown5 hg5 hat5))
        go_roundw
        case rel =>
          refine ⟨k + 1, by have := hnl.out; omega, by go_num, ?_, ?_⟩
          · rw [hsn.out, if_pos HP.out]
            simpa using hown5
          · exact (Keep.alloc (Keep.alloc HK.out _) _).append ((HO.out.alloc _).alloc _) hg5 (fun i hi => hi) (by simp; omega)
        case measure => simp [intOf]; omega
    · go_wp2_with fail
      obtain ⟨A', c', rfl, hsl⟩ := Sl.of_own HO.out
      have hkn' : k = l.length := by have := hnl.out; omega
      go_ret
      refine ⟨A', _, c', rfl, ?_, HK.out⟩
      rw [hkn', List.take_of_length_le (Nat.le_refl _)] at hsl
      rw [hkn', List.take_of_length_le (Nat.le_refl _)]
      exact hsl

end Go.Proofs.Ytafgacfbplilpaa
