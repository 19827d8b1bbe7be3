/- Label, Received and Sends of process and ref06: written by gen_ask.py. -/
import Derived.Test.YthmepnpjagpcnaaAid6
set_option linter.unusedVariables false
set_option linter.unusedSimpArgs false
set_option maxRecDepth 100000
namespace Go.Proofs.Ythmepnpjagpcnaa
open Go.RowKit Go.Proofs

def RecvPost (v : Int) (w : World) (e : Ending) (w' : World) : Prop := e = .returned (.int .i64 v) ∧ Keep w w'
def recvP (frm a b ord : Int) (e : Ev) : Bool := e.kind == 1 && e.frm == frm && e.sInc == a && e.sIdx == b && e.ord == ord
def recvAt (p : Ev → Bool) : Nat → List Ev → Int
  | _, [] => 0
  | k, e :: l => if p e then k + 1 else recvAt p (k + 1) l
def recvS (evs : List Ev) (frm a b ord : Int) : Int := recvAt (recvP frm a b ord) 0 evs
theorem recvAt_get {p : Ev → Bool} {l : List Ev} {k : Nat} {x : Ev} (h : l[k]? = some x) : recvAt p k (l.drop k) = if p x then (k : Int) + 1 else recvAt p (k + 1) (l.drop (k + 1)) := by
  rw [drop_cons h]
  rfl
theorem lab_cells (a b c d e f g : Int) : ∀ j v, ([.int .i64 d, .int .i64 e] : List Value)[j]? = some v → (#[.int .i64 a, .int .i64 b, .int .i64 c, .int .i64 d, .int .i64 e, .int .i64 f, .int .i64 g] : Array Value)[3 + j]? = some v := fun j v hv => by
  rcases j with _ | _ | j
  · exact hv
  · exact hv
  · simp at hv
def RcRel (W : World) (evs : List Ev) (frm a b ord : Int) (i : Value) (wr : World) : Prop := ∃ k : Nat, i = .int .i64 k ∧ k ≤ evs.length ∧ recvS evs frm a b ord = recvAt (recvP frm a b ord) k (evs.drop k) ∧ Keep W wr
/-- The label of an index. -/
def labInc (evs : List Ev) (k : Int) : Int := if 0 < k ∧ k ≤ evs.length then (evs.getD (k.toNat - 1) ⟨0, 0, 0, 0, 0, 0, 0⟩).inc else 0
def labIdx (evs : List Ev) (k : Int) : Int := if 0 < k ∧ k ≤ evs.length then k else 0
def labOk (evs : List Ev) (k : Int) : Bool := decide (0 ≤ k ∧ k ≤ evs.length)
def LabPost (evs : List Ev) (k : Int) (w : World) (e : Ending) (w' : World) : Prop := e = .returned (.tuple #[.agg #[.int .i64 (labInc evs k), .int .i64 (labIdx evs k)], .bool (labOk evs k)]) ∧ Keep w w'
/-- What the event with an index sent. -/
def sendsAt (l : List Snd) (k : Int) : List Snd := l.filter (fun y => y.idx == k)
theorem sendsAt_take {l : List Snd} {k : Nat} {y : Snd} (ix : Int) (h : l[k]? = some y) : sendsAt (l.take (k + 1)) ix = sendsAt (l.take k) ix ++ (if y.idx == ix then [y] else []) := by
  obtain ⟨hk, rfl⟩ := List.getElem?_eq_some_iff.1 h
  rw [List.take_succ_eq_append_getElem hk]
  unfold sendsAt
  rw [List.filter_append]
  simp [List.filter_cons]
theorem sendsAt_len (l : List Snd) (ix : Int) (k : Nat) (h : k ≤ l.length) : (sendsAt (l.take k) ix).length ≤ k := by
  unfold sendsAt
  have := List.length_filter_le (fun y : Snd => y.idx == ix) (l.take k)
  rw [List.length_take] at this
  omega
def SdsRel (B : Nat) (ix : Int) (l : List Snd) (W : World) (v i : Value) (wr : World) : Prop := ∃ k : Nat, i = .int .i64 k ∧ k ≤ l.length ∧ wr.ownsRow B 136 4 v (sendsAt (l.take k) ix).length ((sendsAt (l.take k) ix).flatMap encSnd) ∧ Keep W wr
def SdsPost (l : List Snd) (w : World) (e : Ending) (w' : World) : Prop := ∃ (A : Option Addr) (n c : Nat), e = .returned (.slice A n c) ∧ Sl encSnd 4 w' (fun i => w.heap.size ≤ i ∧ i < w'.heap.size) A n c l ∧ Keep w w'
set_option maxHeartbeats 4000000 in
theorem plabel_any (w : World) (S : Nat → Prop) (B1 B2 B3 B4 : Option Addr) (p1 q1 p2 q2 p3 q3 p4 q4 : Nat) (evs : List Ev) (k : Int) (hS : ∀ i, S i → i < w.heap.size) (hl : Sl encEv 7 w S B2 p2 q2 evs) (hn : evs.length ≤ 1000000) :
    Calls Try.prog 46 #[.agg #[.slice B1 p1 q1, .slice B2 p2 q2, .slice B3 p3 q3, .slice B4 p4 q4], .int .i64 k] w (LabPost evs k w) := by
  have hp := hl.1
  have hq := hl.2.1
  generalize hW : (w.alloc (.cells #[.slice B1 p1 q1, .slice B2 p2 q2, .slice B3 p3 q3, .slice B4 p4 q4] 105)).alloc (.cells #[.int .i64 0, .int .i64 0] 48) = W
  have hkW : Keep w W := hW ▸ Keep.alloc (Keep.new w _) _
  have hb2 : Blk W w.heap.size 105 #[.slice B1 p1 q1, .slice B2 p2 q2, .slice B3 p3 q3, .slice B4 p4 q4] := hW ▸ (Blk.new w _ _).alloc _
  have hb4 : Blk W (w.heap.size + 1) 48 #[.int .i64 0, .int .i64 0] := hW ▸ (by simpa using Blk.new (w.alloc _) _ _)
  have hz : w.heap.size + 1 < W.heap.size := hb4.lt
  have e1 : W.cell? ⟨w.heap.size, 1, none⟩ = some (.slice B2 p2 q2) := by rw [hb2.cell]; rfl
  have key : ∀ (w' : World) (a b : Int) (q : Bool), Blk w' (w.heap.size + 1) 48 #[.int .i64 a, .int .i64 b] → Same (· ≠ w.heap.size + 1) W w' → a = labInc evs k → b = labIdx evs k → q = labOk evs k →
      LabPost evs k w (.returned (.tuple #[.agg #[.int .i64 a, .int .i64 b], .bool q])) w' := fun w' a b q _ hs h1 h2 h3 => ⟨by rw [h1, h2, h3], Keep.write hkW hs (by omega)⟩
  have hlW := hl.keep (Same.mono hkW hS)
  have hp9 : p2 ≤ 1000000 := by omega
  have HKW := Lib.hid hkW
  have HB2 := Lib.hid hb2
  have HB4 := Lib.hid hb4
  have KEY := Lib.hid key
  have HLW := Lib.hid hlW
  have E1 := Lib.hid e1
  have HS := Lib.hid hS
  have HP := Lib.hid hp
  clear hkW hb2 hb4 key hlW e1 hS hp
  clear hl hn
  by_cases hk0 : k = 0
  · subst hk0
    have t0 : decide ((p2 : Int) < 0) = false := by simp
    go_enter Try.func46, Try.ntmps46
    go_upto_region 1 with fail
    clear hW
    have e1 := E1.out
    go_wp2_with (refine wpList_store_all rfl _ (.tmp 4) (.tmp 20) rfl (w.heap.size + 1) 48 _ [.int .i64 0, .int .i64 0] rfl rfl HB4.out rfl (by kernel_rfl) rfl ?_; intro v6 hv6 hs6)
    exact bodyPost_ret (results_cell_tmp' Try.results46 _ _ _ ⟨w.heap.size + 1, 0, none⟩ _ _ rfl rfl (loadVar_blk [.int .i64 0, .int .i64 0] _ hv6 (fun j v hv => by simpa using hv) Try.underlying48 rfl (by kernel_rfl))) rfl (KEY.out v6 _ _ _ hv6 hs6 (by simp [labInc]) (by simp [labIdx]) (by simp [labOk]))
  · have t0 : (k == 0) = false := by simpa using hk0
    by_cases hneg : k < 0
    · have t1 : decide (k < 0) = true := by simpa using hneg
      go_enter Try.func46, Try.ntmps46
      go_upto_region 1 with fail
      clear hW
      have e1 := E1.out
      go_wp2_with (refine wpList_store_all rfl _ (.tmp 4) (.tmp 16) rfl (w.heap.size + 1) 48 _ [.int .i64 0, .int .i64 0] rfl rfl HB4.out rfl (by kernel_rfl) rfl ?_; intro v6 hv6 hs6)
      exact bodyPost_ret (results_cell_tmp' Try.results46 _ _ _ ⟨w.heap.size + 1, 0, none⟩ _ _ rfl rfl (loadVar_blk [.int .i64 0, .int .i64 0] _ hv6 (fun j v hv => by simpa using hv) Try.underlying48 rfl (by kernel_rfl))) rfl (KEY.out v6 _ _ _ hv6 hs6 (by have := HP.out; simp [labInc]; omega) (by have := HP.out; simp [labIdx]; omega) (by have := HP.out; simp [labOk]; omega))
    · have t1 : decide (k < 0) = false := by simpa using hneg
      by_cases hbig : (p2 : Int) < k
      · have t2 : decide ((p2 : Int) < k) = true := by simpa using hbig
        go_enter Try.func46, Try.ntmps46
        go_upto_region 1 with fail
        clear hW
        have e1 := E1.out
        go_wp2_with (refine wpList_store_all rfl _ (.tmp 4) (.tmp 16) rfl (w.heap.size + 1) 48 _ [.int .i64 0, .int .i64 0] rfl rfl HB4.out rfl (by kernel_rfl) rfl ?_; intro v6 hv6 hs6)
        exact bodyPost_ret (results_cell_tmp' Try.results46 _ _ _ ⟨w.heap.size + 1, 0, none⟩ _ _ rfl rfl (loadVar_blk [.int .i64 0, .int .i64 0] _ hv6 (fun j v hv => by simpa using hv) Try.underlying48 rfl (by kernel_rfl))) rfl (KEY.out v6 _ _ _ hv6 hs6 (by have := HP.out; simp [labInc]; omega) (by have := HP.out; simp [labIdx]; omega) (by have := HP.out; simp [labOk]; omega))
      · have t2 : decide ((p2 : Int) < k) = false := by simpa using hbig
        obtain ⟨b, off, x, rfl, hb, hx, hcx⟩ := HLW.out.at_ encEv_len (k := k.toNat - 1) (by omega)
        have c1 : W.cell? ⟨b, off + (k.toNat - 1) * 7 + 1, none⟩ = some (.int .i64 x.inc) := hcx 1 _ rfl
        have c2 : (k - 1).toNat = k.toNat - 1 := by omega
        have c3 : (0 : Int) ≤ k - 1 := by omega
        have c4 : k - 1 < (p2 : Int) := by omega
        have hxd : evs.getD (k.toNat - 1) ⟨0, 0, 0, 0, 0, 0, 0⟩ = x := by simp [List.getD, hx]
        have HXD := Lib.hid hxd
        clear hxd
        clear hcx hx
        go_enter Try.func46, Try.ntmps46
        go_upto_region 1 with fail
        clear hW
        have e1 := E1.out
        go_wp2_with (refine wpList_store_all rfl _ (.tmp 4) (.tmp 29) rfl (w.heap.size + 1) 48 _ [.int .i64 x.inc, .int .i64 k] rfl rfl HB4.out rfl (by kernel_rfl) rfl ?_; intro v6 hv6 hs6)
        exact bodyPost_ret (results_cell_tmp' Try.results46 _ _ _ ⟨w.heap.size + 1, 0, none⟩ _ _ rfl rfl (loadVar_blk [.int .i64 x.inc, .int .i64 k] _ hv6 (fun j v hv => by simpa using hv) Try.underlying48 rfl (by kernel_rfl))) rfl (KEY.out v6 _ _ _ hv6 hs6 (by unfold labInc; rw [if_pos ⟨by have := HP.out; omega, by have := HP.out; omega⟩, HXD.out]) (by unfold labIdx; rw [if_pos ⟨by have := HP.out; omega, by have := HP.out; omega⟩]) (by have := HP.out; unfold labOk; simp; omega))
set_option maxHeartbeats 8000000 in
theorem preceived_any (w : World) (S : Nat → Prop) (B1 B2 B3 B4 : Option Addr) (p1 q1 p2 q2 p3 q3 p4 q4 : Nat) (evs : List Ev) (frm la lb ord : Int) (hS : ∀ i, S i → i < w.heap.size) (hl : Sl encEv 7 w S B2 p2 q2 evs) (hn : evs.length ≤ 1000000) :
    Calls Try.prog 60 #[.agg #[.slice B1 p1 q1, .slice B2 p2 q2, .slice B3 p3 q3, .slice B4 p4 q4], .int .i64 frm, .agg #[.int .i64 la, .int .i64 lb], .int .i64 ord] w (RecvPost (recvS evs frm la lb ord) w) := by
  have hp := hl.1
  have hp2 : p2 ≤ 1000000 := by omega
  generalize hW : (w.alloc (.cells #[.slice B1 p1 q1, .slice B2 p2 q2, .slice B3 p3 q3, .slice B4 p4 q4] 105)).alloc (.cells #[.int .i64 la, .int .i64 lb] 48) = W
  have hkW : Keep w W := hW ▸ Keep.alloc (Keep.new w _) _
  have hb2 : Blk W w.heap.size 105 #[.slice B1 p1 q1, .slice B2 p2 q2, .slice B3 p3 q3, .slice B4 p4 q4] := hW ▸ (Blk.new w _ _).alloc _
  have hb4 : Blk W (w.heap.size + 1) 48 #[.int .i64 la, .int .i64 lb] := hW ▸ (by simpa using Blk.new (w.alloc _) _ _)
  have hz : w.heap.size + 1 < W.heap.size := hb4.lt
  have e1 : W.cell? ⟨w.heap.size, 1, none⟩ = some (.slice B2 p2 q2) := by rw [hb2.cell]; rfl
  have hlW := (hl.keep (Same.mono hkW hS)).more (T := fun i => i < W.heap.size) (fun i hi => by have := hS i hi; omega)
  have HKW := Lib.hid hkW
  have HB2 := Lib.hid hb2
  have HB4 := Lib.hid hb4
  have HLW := Lib.hid hlW
  have E1 := Lib.hid e1
  have HS := Lib.hid hS
  have HP := Lib.hid hp
  clear hkW hb2 hb4 hlW e1 hS hp
  clear hl
  go_enter Try.func60, Try.ntmps60
  go_upto_region 1 with fail
  clear hW
  have e1 := E1.out
  go_wp2_with fail
  clear e1
  go_loopw [14] (fun i wr => RcRel W evs frm la lb ord i wr) (fun i _ => p2 - (intOf i).toNat)
  case atStart => exact ⟨0, rfl, Nat.zero_le _, rfl, Same.refl _ _⟩
  case round =>
    obtain ⟨k, rfl, hkl, hrc, hkr⟩ := hrel
    have hzr := hkr.size
    have hbr := hkr.blk HB2.out HB2.out.lt
    have hbl := hkr.blk HB4.out HB4.out.lt
    have e1 : wr.cell? ⟨w.heap.size, 1, none⟩ = some (.slice B2 p2 q2) := by rw [hbr.cell]; rfl
    by_cases hkn : k < p2
    · obtain ⟨b', off', x, rfl, hbb, hx, hcx⟩ := (HLW.out.keep (Same.mono hkr (fun i hi => hi))).at_ encEv_len hkn
      have hd1 : decide (k < p2) = true := by simpa using hkn
      have hd2 : (0 : Int) ≤ k := by omega
      have hd3 : (k : Int) < p2 := by omega
      have hrg : wr.rangeAt b' (off' + k * 7) [.int .i64 x.kind, .int .i64 x.inc, .int .i64 x.frm, .int .i64 x.sInc, .int .i64 x.sIdx, .int .i64 x.ord, .int .i64 x.val] := hcx
      have hrc2 := hrc.trans (recvAt_get hx)
      have hkl1 : k + 1 ≤ evs.length := by have := HP.out; omega
      clear hcx hx hrc
      have HRG := Lib.hid hrg
      have HRC2 := Lib.hid hrc2
      have HKR := Lib.hid hkr
      have HBR := Lib.hid hbr
      have HBL := Lib.hid hbl
      have HKL1 := Lib.hid hkl1
      clear hrg hrc2 hkr hbr hbl hkl1
      go_upto_region 4 with (first
        | (refine wpList_load_mid rfl _ (.tmp 17) rfl b' (off' + k * 7) rfl [.int .i64 x.kind, .int .i64 x.inc, .int .i64 x.frm, .int .i64 x.sInc, .int .i64 x.sIdx, .int .i64 x.ord, .int .i64 x.val] _ HRG.out Try.underlying50 rfl (by kernel_rfl) ?_)
        | (refine wpList_store_all rfl _ (.tmp 10) (.tmp 18) rfl wr.heap.size 50 _ [.int .i64 x.kind, .int .i64 x.inc, .int .i64 x.frm, .int .i64 x.sInc, .int .i64 x.sIdx, .int .i64 x.ord, .int .i64 x.val] rfl rfl (Blk.new _ _ _) rfl (by kernel_rfl) rfl ?_; intro w7 hb7 hs7))
      have hk7 : Keep wr w7 := Keep.write (Keep.new _ _) hs7 (Nat.le_refl _)
      have bl7 := hk7.blk HBL.out HBL.out.lt
      have kk7 := Keep.trans HKR.out hk7
      clear e1
      have y0 : w7.cell? ⟨wr.heap.size, 0, none⟩ = some (.int .i64 x.kind) := by rw [hb7.cell]; rfl
      have y2 : w7.cell? ⟨wr.heap.size, 2, none⟩ = some (.int .i64 x.frm) := by rw [hb7.cell]; rfl
      have y5 : w7.cell? ⟨wr.heap.size, 5, none⟩ = some (.int .i64 x.ord) := by rw [hb7.cell]; rfl
      have HB7 := Lib.hid hb7
      have BL7 := Lib.hid bl7
      have KK7 := Lib.hid kk7
      clear hb7 bl7 kk7
      clear hs7 hk7
      have fin : ∀ q : Bool, recvP frm la lb ord x = q → q = false → RcRel W evs frm la lb ord (.int .i64 (k + 1)) w7 := fun q h1 h2 => ⟨k + 1, by simp, HKL1.out, by have := HRC2.out; rw [h1, h2] at this; simpa using this, KK7.out⟩
      have fin2 : recvP frm la lb ord x = true → RecvPost (recvS evs frm la lb ord) w (.returned (.int .i64 (k + 1))) w7 := fun h1 => ⟨by have := HRC2.out; rw [h1] at this; simp [this], Keep.trans HKW.out KK7.out⟩
      have FIN := Lib.hid fin
      have FIN2 := Lib.hid fin2
      clear fin fin2
      by_cases c0 : x.kind = 1
      case neg =>
        have t0 : (x.kind == 1) = false := by simpa using c0
        have hfin := FIN.out false (by simp [recvP, c0]) rfl
        have HFIN := Lib.hid hfin
        clear hfin
        clear c0
        go_wp2_with fail
        go_roundw
        case rel => exact HFIN.out
        case measure => simp [intOf]; omega
      have t0 : (x.kind == 1) = true := by simpa using c0
      by_cases c1 : x.frm = frm
      case neg =>
        have t1 : (x.frm == frm) = false := by simpa using c1
        have hfin := FIN.out false (by simp [recvP, c1]) rfl
        have HFIN := Lib.hid hfin
        clear hfin
        clear c0 c1
        go_wp2_with fail
        go_roundw
        case rel => exact HFIN.out
        case measure => simp [intOf]; omega
      have t1 : (x.frm == frm) = true := by simpa using c1
      by_cases c2 : x.sInc = la
      case neg =>
        have hfin := FIN.out false (by simp [recvP, c2]) rfl
        have HFIN := Lib.hid hfin
        clear hfin
        go_wp2_with (first
          | (refine wpList_load_blkg (by rfl) _ (.tmp 29) rfl wr.heap.size 3 50 _ [.int .i64 x.sInc, .int .i64 x.sIdx] _ rfl HB7.out (lab_cells x.kind x.inc x.frm x.sInc x.sIdx x.ord x.val) Try.underlying48 rfl (by kernel_rfl) ?_)
          | (refine wpList_load_allg (by rfl) _ (.tmp 6) rfl (w.heap.size + 1) 48 [.int .i64 la, .int .i64 lb] _ rfl BL7.out Try.underlying48 rfl (by kernel_rfl) ?_))
        go_roundw
        case rel => exact HFIN.out
        case measure => simp [intOf]; omega
      by_cases c3 : x.sIdx = lb
      case neg =>
        have hfin := FIN.out false (by simp [recvP, c3]) rfl
        have HFIN := Lib.hid hfin
        clear hfin
        go_wp2_with (first
          | (refine wpList_load_blkg (by rfl) _ (.tmp 29) rfl wr.heap.size 3 50 _ [.int .i64 x.sInc, .int .i64 x.sIdx] _ rfl HB7.out (lab_cells x.kind x.inc x.frm x.sInc x.sIdx x.ord x.val) Try.underlying48 rfl (by kernel_rfl) ?_)
          | (refine wpList_load_allg (by rfl) _ (.tmp 6) rfl (w.heap.size + 1) 48 [.int .i64 la, .int .i64 lb] _ rfl BL7.out Try.underlying48 rfl (by kernel_rfl) ?_))
        go_roundw
        case rel => exact HFIN.out
        case measure => simp [intOf]; omega
      by_cases c4 : x.ord = ord
      case neg =>
        have hfin := FIN.out false (by simp [recvP, c4]) rfl
        have t4 : (x.ord == ord) = false := by simpa using c4
        have HFIN := Lib.hid hfin
        clear hfin
        go_wp2_with (first
          | (refine wpList_load_blkg (by rfl) _ (.tmp 29) rfl wr.heap.size 3 50 _ [.int .i64 x.sInc, .int .i64 x.sIdx] _ rfl HB7.out (lab_cells x.kind x.inc x.frm x.sInc x.sIdx x.ord x.val) Try.underlying48 rfl (by kernel_rfl) ?_)
          | (refine wpList_load_allg (by rfl) _ (.tmp 6) rfl (w.heap.size + 1) 48 [.int .i64 la, .int .i64 lb] _ rfl BL7.out Try.underlying48 rfl (by kernel_rfl) ?_))
        go_roundw
        case rel => exact HFIN.out
        case measure => simp [intOf]; omega
      have t4 : (x.ord == ord) = true := by simpa using c4
      have hfin := FIN2.out (by simp [recvP, c0, c1, c2, c3, c4])
      have HFIN := Lib.hid hfin
      clear hfin
      go_wp2_with (first
        | (refine wpList_load_blkg (by rfl) _ (.tmp 29) rfl wr.heap.size 3 50 _ [.int .i64 x.sInc, .int .i64 x.sIdx] _ rfl HB7.out (lab_cells x.kind x.inc x.frm x.sInc x.sIdx x.ord x.val) Try.underlying48 rfl (by kernel_rfl) ?_)
        | (refine wpList_load_allg (by rfl) _ (.tmp 6) rfl (w.heap.size + 1) 48 [.int .i64 la, .int .i64 lb] _ rfl BL7.out Try.underlying48 rfl (by kernel_rfl) ?_))
      go_ret
      exact HFIN.out
    · have hd1 : decide (k < p2) = false := by simpa using hkn
      have hfin : RecvPost (recvS evs frm la lb ord) w (.returned (.int .i64 0)) wr := ⟨by rw [hrc, List.drop_of_length_le (by have := HP.out; omega)]; rfl, Keep.trans HKW.out hkr⟩
      have HFIN := Lib.hid hfin
      have HRC := Lib.hid hrc
      have HKR := Lib.hid hkr
      have HBR := Lib.hid hbr
      have HBL := Lib.hid hbl
      clear hfin hrc hkr hbr hbl
      go_wp2_with fail
      go_ret
      exact HFIN.out
end Go.Proofs.Ythmepnpjagpcnaa
