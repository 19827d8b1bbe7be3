/- Contracts: process.Label, process.Received. -/
import Derived.Test.YtafgacfbplilpaaProg
import Derived.Test.YtafgacfbplilpaaData
set_option linter.unusedVariables false
set_option linter.unusedSimpArgs false
namespace Go.Proofs.Ytafgacfbplilpaa
open Go.RowKit Go.Proofs

structure Lb where
  inc : Int
  idx : Int
  ok : Bool
def labelS (evs : List Ev) (i : Int) : Lb :=
  if i < 0 ∨ (evs.length : Int) < i then ⟨0, 0, false⟩ else if i = 0 then ⟨0, 0, true⟩ else match evs[(i - 1).toNat]? with | some e => ⟨e.inc, i, true⟩ | none => ⟨0, i, true⟩
def hitS (frm sInc sIdx ord : Int) (e : Ev) : Bool := e.kind == 1 && e.frm == frm && (e.sInc == sInc && e.sIdx == sIdx) && e.ord == ord
def recvS (evs : List Ev) (frm sInc sIdx ord : Int) : Int := match evs.findIdx? (hitS frm sInc sIdx ord) with | some k => k + 1 | none => 0
def LabelPost (x : Lb) (w : World) (e : Ending) (w' : World) : Prop := e = .returned (.tuple #[.agg #[.int .i64 x.inc, .int .i64 x.idx], .bool x.ok]) ∧ Keep w w'
def IntKeep (v : Int) (w : World) (e : Ending) (w' : World) : Prop := e = .returned (.int .i64 v) ∧ Keep w w'

set_option maxHeartbeats 2000000 in
theorem label_any (w : World) (S : Nat → Prop) (cs : List Value) (s : St) (i : Int) (hS : ∀ i, S i → i < w.heap.size) (h : StR w S cs s) :
    Calls Try.prog 44 #[.agg cs.toArray, .int .i64 i] w (LabelPost (labelS s.events i) w) := by
  obtain ⟨A1, A2, A3, A4, n1, q1, n2, q2, n3, q3, n4, q4, rfl, _, h2, _, _⟩ := h
  have hn := h2.1
  have hn2 : n2 ≤ 9223372036854775807 := Nat.le_trans h2.2.1 h2.2.2.1
  have fin : ∀ (x : Lb) (w4 : World) (cs : Array Value), Blk w4 (w.heap.size + 1) 69 cs → cs = #[.int .i64 x.inc, .int .i64 x.idx] → (loadVar 69 ⟨w.heap.size + 1, 0, none⟩).run Try.prog w4 = .ok (.agg #[.int .i64 x.inc, .int .i64 x.idx]) w4 := by
    intro x w4 cs hb e
    subst e
    exact loadVar_blk [.int .i64 x.inc, .int .i64 x.idx] _ hb (fun j v hv => by rw [Nat.zero_add]; simpa using hv) Try.underlying69 rfl (by kernel_rfl)
  have HF := Lib.hid fin
  clear fin
  by_cases c1 : i < 0
  · have hs : labelS s.events i = ⟨0, 0, false⟩ := if_pos (.inl c1)
    rw [hs]
    clear hs h2 hn
    have c1d : decide (i < 0) = true := by simpa using c1
    go_enter Try.func44, Try.ntmps44
    go_wp2_with (refine wpList_store_blk rfl _ (.tmp 4) (.tmp 16) rfl (w.heap.size + 1) 0 69 _ [.int .i64 (0), .int .i64 (0)] rfl rfl (by have := Blk.new (w.alloc (.cells #[.slice A1 n1 q1, .slice A2 n2 q2, .slice A3 n3 q3, .slice A4 n4 q4] 67)) 69 #[.int .i64 0, .int .i64 0]; simpa using this) (by simp) (by kernel_rfl) rfl ?_; intro w4 hb4 hs4; have HB4 := Lib.hid hb4; have HS4 := Lib.hid hs4; clear hb4 hs4)
    refine bodyPost_ret (v := .tuple #[.agg #[.int .i64 (0), .int .i64 (0)], .bool false]) (results_cell_tmp' Try.results44 _ _ _ ⟨w.heap.size + 1, 0, none⟩ _ _ rfl rfl (HF.out ⟨0, 0, false⟩ w4 _ HB4.out (by simp [splice]))) rfl ⟨rfl, Keep.write (Keep.alloc (Keep.new _ _) _) HS4.out (by omega)⟩
  have c1d : decide (i < 0) = false := by simpa using c1
  by_cases c2 : (n2 : Int) < i
  · have hs : labelS s.events i = ⟨0, 0, false⟩ := if_pos (.inr (by omega))
    rw [hs]
    clear hs h2 hn
    have c2d : decide ((n2 : Int) < i) = true := by simpa using c2
    go_enter Try.func44, Try.ntmps44
    go_wp2_with (refine wpList_store_blk rfl _ (.tmp 4) (.tmp 16) rfl (w.heap.size + 1) 0 69 _ [.int .i64 (0), .int .i64 (0)] rfl rfl (by have := Blk.new (w.alloc (.cells #[.slice A1 n1 q1, .slice A2 n2 q2, .slice A3 n3 q3, .slice A4 n4 q4] 67)) 69 #[.int .i64 0, .int .i64 0]; simpa using this) (by simp) (by kernel_rfl) rfl ?_; intro w4 hb4 hs4; have HB4 := Lib.hid hb4; have HS4 := Lib.hid hs4; clear hb4 hs4)
    refine bodyPost_ret (v := .tuple #[.agg #[.int .i64 (0), .int .i64 (0)], .bool false]) (results_cell_tmp' Try.results44 _ _ _ ⟨w.heap.size + 1, 0, none⟩ _ _ rfl rfl (HF.out ⟨0, 0, false⟩ w4 _ HB4.out (by simp [splice]))) rfl ⟨rfl, Keep.write (Keep.alloc (Keep.new _ _) _) HS4.out (by omega)⟩
  have c2d : decide ((n2 : Int) < i) = false := by simpa using c2
  by_cases c3 : i = 0
  · subst c3
    have hs : labelS s.events 0 = ⟨0, 0, true⟩ := by
      unfold labelS
      rw [if_neg (by omega), if_pos rfl]
    rw [hs]
    clear hs h2 hn
    go_enter Try.func44, Try.ntmps44
    go_wp2_with (refine wpList_store_blk rfl _ (.tmp 4) (.tmp 20) rfl (w.heap.size + 1) 0 69 _ [.int .i64 (0), .int .i64 (0)] rfl rfl (by have := Blk.new (w.alloc (.cells #[.slice A1 n1 q1, .slice A2 n2 q2, .slice A3 n3 q3, .slice A4 n4 q4] 67)) 69 #[.int .i64 0, .int .i64 0]; simpa using this) (by simp) (by kernel_rfl) rfl ?_; intro w4 hb4 hs4; have HB4 := Lib.hid hb4; have HS4 := Lib.hid hs4; clear hb4 hs4)
    refine bodyPost_ret (v := .tuple #[.agg #[.int .i64 (0), .int .i64 (0)], .bool true]) (results_cell_tmp' Try.results44 _ _ _ ⟨w.heap.size + 1, 0, none⟩ _ _ rfl rfl (HF.out ⟨0, 0, true⟩ w4 _ HB4.out (by simp [splice]))) rfl ⟨rfl, Keep.write (Keep.alloc (Keep.new _ _) _) HS4.out (by omega)⟩
  obtain ⟨k, hk⟩ := Int.eq_ofNat_of_zero_le (show 0 ≤ i - 1 by omega)
  obtain ⟨b, off, x, rfl, hb, hx, hc⟩ := h2.at_ encEv_len (k := k) (by omega)
  have hbw := hS b hb
  have hcx : w.cell? ⟨b, off + k * 7 + 1, none⟩ = some (.int .i64 x.inc) := hc 1 _ rfl
  have hs : labelS s.events i = ⟨x.inc, i, true⟩ := by
    unfold labelS
    rw [if_neg (by omega), if_neg c3, hk, Int.toNat_natCast, hx]
  rw [hs]
  obtain rfl : i = k + 1 := by omega
  have c3d : ((k : Int) + 1 == 0) = false := by simp; omega
  have c4 : (k : Int) < n2 := by omega
  have c5 : (0 : Int) ≤ k := by omega
  clear hs h2 hn hc hx hk
  go_enter Try.func44, Try.ntmps44
  go_wp2_with (refine wpList_store_blk rfl _ (.tmp 4) (.tmp 29) rfl (w.heap.size + 1) 0 69 _ [.int .i64 (x.inc), .int .i64 (k + 1)] rfl rfl (by have := Blk.new (w.alloc (.cells #[.slice A1 n1 q1, .slice (some ⟨b, off, none⟩) n2 q2, .slice A3 n3 q3, .slice A4 n4 q4] 67)) 69 #[.int .i64 0, .int .i64 0]; simpa using this) (by simp) (by kernel_rfl) rfl ?_; intro w4 hb4 hs4; have HB4 := Lib.hid hb4; have HS4 := Lib.hid hs4; clear hb4 hs4)
  refine bodyPost_ret (v := .tuple #[.agg #[.int .i64 (x.inc), .int .i64 (k + 1)], .bool true]) (results_cell_tmp' Try.results44 _ _ _ ⟨w.heap.size + 1, 0, none⟩ _ _ rfl rfl (HF.out ⟨x.inc, k + 1, true⟩ w4 _ HB4.out (by simp [splice]))) rfl ⟨rfl, Keep.write (Keep.alloc (Keep.new _ _) _) HS4.out (by omega)⟩
theorem findIdx_hit {α : Type} (p : α → Bool) : ∀ (l : List α) (k : Nat) (a : α), l[k]? = some a → p a = true → (∀ j, j < k → ∃ b, l[j]? = some b ∧ p b = false) → l.findIdx? p = some k
  | b :: l, 0, a, h, hp, _ => by
    simp at h
    subst h
    simp [List.findIdx?_cons, hp]
  | b :: l, k + 1, a, h, hp, hn => by
    obtain ⟨c, hc, hpc⟩ := hn 0 (by omega)
    simp at hc
    subst hc
    have := findIdx_hit p l k a (by simpa using h) hp (fun j hj => by simpa using hn (j + 1) (by omega))
    simp [List.findIdx?_cons, hpc, this]
theorem findIdx_none {α : Type} (p : α → Bool) (l : List α) (hn : ∀ j, j < l.length → ∃ b, l[j]? = some b ∧ p b = false) : l.findIdx? p = none := by
  rw [List.findIdx?_eq_none_iff]
  intro x hx
  obtain ⟨j, hj, e⟩ := List.mem_iff_getElem.1 hx
  obtain ⟨b, hb, hp⟩ := hn j hj
  rw [List.getElem?_eq_getElem hj, e] at hb
  injection hb with hb
  rw [hb]
  exact hp
def RecvRel (s : St) (frm sInc sIdx ord : Int) (w : World) (i : Value) (wr : World) : Prop :=
  ∃ k : Nat, k ≤ s.events.length ∧ i = .int .i64 k ∧ (∀ j, j < k → ∃ b, s.events[j]? = some b ∧ hitS frm sInc sIdx ord b = false) ∧ Keep w wr ∧ Blk wr (w.heap.size + 1) 69 #[.int .i64 sInc, .int .i64 sIdx]
set_option maxHeartbeats 4000000 in
theorem received_any (w : World) (S : Nat → Prop) (cs : List Value) (s : St) (frm sInc sIdx ord : Int) (hS : ∀ i, S i → i < w.heap.size) (h : StR w S cs s) :
    Calls Try.prog 45 #[.agg cs.toArray, .int .i64 frm, .agg #[.int .i64 sInc, .int .i64 sIdx], .int .i64 ord] w (IntKeep (recvS s.events frm sInc sIdx ord) w) := by
  obtain ⟨A1, A2, A3, A4, n1, q1, n2, q2, n3, q3, n4, q4, rfl, _, h2, _, _⟩ := h
  have hnl := Lib.hid h2.1
  have hn2 : n2 ≤ 9223372036854775807 := Nat.le_trans h2.2.1 h2.2.2.1
  have HL := Lib.hid h2
  have HS := Lib.hid hS
  clear h2 hS
  go_enter Try.func45, Try.ntmps45
  go_wp2_with fail
  go_loopw [14] (fun i wr => RecvRel s frm sInc sIdx ord w i wr) (fun i _ => n2 - (intOf i).toNat)
  case atStart =>
    refine ⟨0, by omega, rfl, fun j hj => by omega, Keep.alloc (Keep.new _ _) _, ?_⟩
    have := Blk.new (w.alloc (.cells #[.slice A1 n1 q1, .slice A2 n2 q2, .slice A3 n3 q3, .slice A4 n4 q4] 67)) 69 #[.int .i64 sInc, .int .i64 sIdx]
    simpa using this
  case round =>
    obtain ⟨k, hkl, rfl, hnot, hkp, hbl⟩ := hrel
    have HN := Lib.hid hnot
    have HKP := Lib.hid hkp
    have HBL := Lib.hid hbl
    have hkn : k ≤ n2 := by have := hnl.out; omega
    have l0 := hbl.cell 0
    have l1 := hbl.cell 1
    have hlb := hbl.lt
    have hsz := hkp.size
    simp at l0 l1
    clear hnot hkp hbl hkl
    by_cases hk : k < n2
    · obtain ⟨b, off, x, rfl, hSb, hx, hcell⟩ := (HL.out.keep (Same.mono HKP.out HS.out)).at_ encEv_len hk
      have HX := Lib.hid hx
      have HC := Lib.hid hcell
      clear hx hcell
      cases h1 : (x.kind == 1)
      · as_aux_lemma =>
        go_wp2_with (refine wpList_load_mid rfl _ (.tmp 17) rfl b (off + k * 7) rfl [.int .i64 x.kind, .int .i64 x.inc, .int .i64 x.frm, .int .i64 x.sInc, .int .i64 x.sIdx, .int .i64 x.ord, .int .i64 x.val] _ HC.out Try.underlying71 rfl (by kernel_rfl) ?_)
        go_roundw
        case rel =>
          refine ⟨k + 1, by have := hnl.out; omega, by go_num, fun j hj => ?_, Keep.alloc HKP.out _, HBL.out.alloc _⟩
          by_cases e : j = k
          · subst e
            exact ⟨x, HX.out, by simp [hitS, *]⟩
          · exact HN.out j (by omega)
        case measure => simp [intOf]; omega
      cases h2 : (x.frm == frm)
      · as_aux_lemma =>
        go_wp2_with (refine wpList_load_mid rfl _ (.tmp 17) rfl b (off + k * 7) rfl [.int .i64 x.kind, .int .i64 x.inc, .int .i64 x.frm, .int .i64 x.sInc, .int .i64 x.sIdx, .int .i64 x.ord, .int .i64 x.val] _ HC.out Try.underlying71 rfl (by kernel_rfl) ?_)
        go_roundw
        case rel =>
          refine ⟨k + 1, by have := hnl.out; omega, by go_num, fun j hj => ?_, Keep.alloc HKP.out _, HBL.out.alloc _⟩
          by_cases e : j = k
          · subst e
            exact ⟨x, HX.out, by simp [hitS, *]⟩
          · exact HN.out j (by omega)
        case measure => simp [intOf]; omega
      by_cases h3 : x.sInc = sInc
      rotate_left
      · as_aux_lemma =>
        go_wp2_with (refine wpList_load_mid rfl _ (.tmp 17) rfl b (off + k * 7) rfl [.int .i64 x.kind, .int .i64 x.inc, .int .i64 x.frm, .int .i64 x.sInc, .int .i64 x.sIdx, .int .i64 x.ord, .int .i64 x.val] _ HC.out Try.underlying71 rfl (by kernel_rfl) ?_)
        go_roundw
        case rel =>
          refine ⟨k + 1, by have := hnl.out; omega, by go_num, fun j hj => ?_, Keep.alloc HKP.out _, HBL.out.alloc _⟩
          by_cases e : j = k
          · subst e
            exact ⟨x, HX.out, by simp [hitS, *]⟩
          · exact HN.out j (by omega)
        case measure => simp [intOf]; omega
      by_cases h3' : x.sIdx = sIdx
      rotate_left
      · as_aux_lemma =>
        go_wp2_with (refine wpList_load_mid rfl _ (.tmp 17) rfl b (off + k * 7) rfl [.int .i64 x.kind, .int .i64 x.inc, .int .i64 x.frm, .int .i64 x.sInc, .int .i64 x.sIdx, .int .i64 x.ord, .int .i64 x.val] _ HC.out Try.underlying71 rfl (by kernel_rfl) ?_)
        go_roundw
        case rel =>
          refine ⟨k + 1, by have := hnl.out; omega, by go_num, fun j hj => ?_, Keep.alloc HKP.out _, HBL.out.alloc _⟩
          by_cases e : j = k
          · subst e
            exact ⟨x, HX.out, by simp [hitS, *]⟩
          · exact HN.out j (by omega)
        case measure => simp [intOf]; omega
      cases h4 : (x.ord == ord)
      · as_aux_lemma =>
        go_wp2_with (refine wpList_load_mid rfl _ (.tmp 17) rfl b (off + k * 7) rfl [.int .i64 x.kind, .int .i64 x.inc, .int .i64 x.frm, .int .i64 x.sInc, .int .i64 x.sIdx, .int .i64 x.ord, .int .i64 x.val] _ HC.out Try.underlying71 rfl (by kernel_rfl) ?_)
        go_roundw
        case rel =>
          refine ⟨k + 1, by have := hnl.out; omega, by go_num, fun j hj => ?_, Keep.alloc HKP.out _, HBL.out.alloc _⟩
          by_cases e : j = k
          · subst e
            exact ⟨x, HX.out, by simp [hitS, *]⟩
          · exact HN.out j (by omega)
        case measure => simp [intOf]; omega
      · as_aux_lemma =>
        go_wp2_with (refine wpList_load_mid rfl _ (.tmp 17) rfl b (off + k * 7) rfl [.int .i64 x.kind, .int .i64 x.inc, .int .i64 x.frm, .int .i64 x.sInc, .int .i64 x.sIdx, .int .i64 x.ord, .int .i64 x.val] _ HC.out Try.underlying71 rfl (by kernel_rfl) ?_)
        go_ret
        refine ⟨?_, Keep.alloc HKP.out _⟩
        have hr : recvS s.events frm sInc sIdx ord = (k : Int) + 1 := by
          unfold recvS
          rw [findIdx_hit (hitS frm sInc sIdx ord) s.events k x HX.out (by simp [hitS, *]) HN.out]
        rw [hr]
        rfl
    · go_wp2_with fail
      go_ret
      refine ⟨?_, HKP.out⟩
      have hr : recvS s.events frm sInc sIdx ord = 0 := by
        unfold recvS
        rw [findIdx_none (hitS frm sInc sIdx ord) s.events (fun j hj => HN.out j (by have := hnl.out; omega))]
      rw [hr]
      rfl
end Go.Proofs.Ytafgacfbplilpaa
