import Derived.Test.YtecckbkobkfnmaaGreatDoorGA
import Derived.Test.YtecckbkobkfnmaaGreatDoorGP
-- Row
/- Rows of cells of the call's own whose elements are changed in place. No program in sight. -/
set_option linter.unusedVariables false
set_option linter.unusedSimpArgs false
namespace Go.Proofs.YtecckbkobkfnmaaGreatDoor
open Go.RowKit

/-- A row of cells whose first ones read as the list. -/
def Row {α : Type} (enc : α → List Value) (cur : Array Value) (l : List α) : Prop := ∀ (j : Nat) (u : Value), (l.flatMap enc)[j]? = some u → cur[j]? = some u
section
variable {α : Type} {enc : α → List Value} {size : Nat} {cur cur' : Array Value} {l : List α}
theorem Row.set_ (hs : ∀ a, (enc a).length = size) {k : Nat} {e' : α} (hk : k < l.length) (h : Row enc cur l) (hout : ∀ j, (j < k * size ∨ k * size + size ≤ j) → cur'[j]? = cur[j]?)
    (hin : ∀ r u, (enc e')[r]? = some u → cur'[k * size + r]? = some u) : Row enc cur' (l.set k e') := by
  intro j u hu
  have hj : j < (l.set k e').length * size := by
    have := (List.getElem?_eq_some_iff.1 hu).1
    rwa [flat_length hs] at this
  have hsz : 0 < size := by
    rcases Nat.eq_zero_or_pos size with h0 | h0
    · subst h0; omega
    · exact h0
  have hlen : (l.set k e').length = l.length := by simp
  have hi : j / size < l.length := by rw [hlen] at hj; exact Nat.div_lt_of_lt_mul (by rw [Nat.mul_comm]; exact hj)
  have hr : j % size < size := Nat.mod_lt _ hsz
  have hj' : j / size * size + j % size = j := Nat.div_add_mod' j size
  generalize j / size = i at hi hj'
  generalize j % size = r at hr hj'
  subst hj'
  rw [flat_get hs (l.set k e') i r (by rw [hlen]; exact hi) hr] at hu
  by_cases hik : k = i
  · subst hik
    rw [List.getElem_set_self] at hu
    exact hin r u hu
  · rw [List.getElem_set_ne hik] at hu
    have h1 := h (i * size + r) u (by rw [flat_get hs l i r hi hr]; exact hu)
    rw [hout _ ?_]
    · exact h1
    · rcases Nat.lt_or_ge i k with hlt | hge
      · left
        have := Nat.mul_le_mul_right size (show i + 1 ≤ k from hlt)
        rw [Nat.add_mul] at this
        omega
      · right
        have := Nat.mul_le_mul_right size (show k + 1 ≤ i by omega)
        rw [Nat.add_mul] at this
        omega
theorem row_take {m : Nat} (h : Row enc cur l) (hm : (l.flatMap enc).length = m) (hc : m ≤ cur.size) : cur.toList.take m = l.flatMap enc := by
  apply List.ext_getElem?
  intro j
  rw [List.getElem?_take]
  split
  · rename_i hj
    have hj2 : j < (l.flatMap enc).length := by omega
    rw [List.getElem?_eq_getElem hj2]
    have := h j _ (List.getElem?_eq_getElem hj2)
    simpa using this
  · rename_i hj
    rw [List.getElem?_eq_none (by omega)]
theorem row_of_take {m : Nat} (h : cur.toList.take m = l.flatMap enc) : Row enc cur l := by
  intro j u hu
  rw [← h, List.getElem?_take] at hu
  split at hu
  · simpa using hu
  · cases hu
theorem own_open {w : World} {base n c : Nat} {e : TypeId} {A : Option Addr} {xs : List Value} (h : w.ownsRow base e size (.slice A n c) n xs) (hn : 0 < n) :
    ∃ g cur, A = some ⟨g, 0, none⟩ ∧ base ≤ g ∧ Blk w g e cur ∧ cur.size = c * size ∧ n ≤ c ∧ c ≤ maxLen ∧ cur.toList.take (n * size) = xs := by
  rcases h.2 with ⟨h', h0⟩ | ⟨g, cap, cur, h', hb, hg, hnc, hcm, hcs, htake⟩
  · omega
  · simp only [Value.slice.injEq, true_and] at h'
    obtain ⟨rfl, rfl⟩ := h'
    exact ⟨g, cur, rfl, hb, hg, hcs, hnc, hcm, htake⟩
theorem own_close {w : World} {base g n c : Nat} {e : TypeId} (hs : ∀ a, (enc a).length = size) (hb : base ≤ g) (h : Blk w g e cur) (hc : cur.size = c * size) (hnc : n ≤ c) (hm : c ≤ maxLen) (hr : Row enc cur l) (hl : l.length = n) :
    w.ownsRow base e size (.slice (some ⟨g, 0, none⟩) n c) n (l.flatMap enc) := by
  have hlen : (l.flatMap enc).length = n * size := by rw [flat_length hs, hl]
  exact ⟨hlen, .inr ⟨g, c, cur, rfl, hb, h, hnc, hm, hc, row_take hr hlen (by rw [hc]; exact Nat.mul_le_mul_right _ hnc)⟩⟩
/-- One cell of one element changed. -/
theorem row_put {w' : World} {base g n c k o : Nat} {ty : TypeId} {e e' : α} {v : Value} (hs : ∀ a, (enc a).length = size) (hb : base ≤ g) (hb' : Blk w' g ty (cur.setIfInBounds (k * size + o) v)) (hcs : cur.size = c * size) (hnc : n ≤ c) (hm : c ≤ maxLen)
    (htk : cur.toList.take (n * size) = l.flatMap enc) (hl : l.length = n) (he : l[k]? = some e) (ho : o < size) (henc : enc e' = (enc e).set o v) : w'.ownsRow base ty size (.slice (some ⟨g, 0, none⟩) n c) n ((l.set k e').flatMap enc) := by
  have hk : k < l.length := (List.getElem?_eq_some_iff.1 he).1
  have hrow := row_of_take htk
  have hkc : k * size + size ≤ cur.size := by
    have h1 := Nat.mul_le_mul_right size (show k + 1 ≤ c by omega)
    rw [Nat.add_mul] at h1
    omega
  refine own_close hs hb hb' (by simpa using hcs) hnc hm (Row.set_ hs hk hrow (fun j hj => ?_) (fun r u hu => ?_)) (by simpa using hl)
  · rw [Array.getElem?_setIfInBounds, if_neg (by omega)]
  · have hr : r < size := by rw [← hs e']; exact (List.getElem?_eq_some_iff.1 hu).1
    rw [henc, List.getElem?_set] at hu
    rw [Array.getElem?_setIfInBounds]
    by_cases hor : o = r
    · subst hor
      rw [if_pos rfl, if_pos (by rw [hs]; exact ho)] at hu
      rw [if_pos rfl, if_pos (by omega)]
      exact hu
    · rw [if_neg hor] at hu
      rw [if_neg (by omega)]
      refine hrow _ u ?_
      rw [flat_get hs l k r hk hr]
      have : l[k] = e := by have := List.getElem?_eq_getElem hk; rw [he] at this; injection this with this; exact this.symm
      rw [this]
      exact hu
end
end Go.Proofs.YtecckbkobkfnmaaGreatDoor

-- Ask
/- Label, Received and Sends of process and ref06: written by gen_ask.py. -/
set_option linter.unusedVariables false
set_option linter.unusedSimpArgs false
set_option maxRecDepth 100000
namespace Go.Proofs.YtecckbkobkfnmaaGreatDoor
open Go.RowKit Go.Proofs

def RecvPost (v : Int) (w : World) (e : Ending) (w' : World) : Prop := e = .returned (.int .i64 v) ∧ Keep w w'
def recvP (frm a b ord : Int) (e : Ev) : Bool := e.kind == 1 && e.frm == frm && e.sInc == a && e.sIdx == b && e.ord == ord
def recvAt (p : Ev → Bool) : Nat → List Ev → Int
  | _, [] => 0
  | k, e :: l => if p e then k + 1 else recvAt p (k + 1) l
def recvS (evs : List Ev) (frm a b ord : Int) : Int := recvAt (recvP frm a b ord) 0 evs
theorem recvAt_get {p : Ev → Bool} {l : List Ev} {k : Nat} {x : Ev} (h : l[k]? = some x) : recvAt p k (l.drop k) = if p x then (k : Int) + 1 else recvAt p (k + 1) (l.drop (k + 1)) := by
  rw [drop_cons h]
  rfl
theorem lab_cells (a b c d e f g : Int) : ∀ j v, ([.int .i64 d, .int .i64 e] : List Value)[j]? = some v → (#[.int .i64 a, .int .i64 b, .int .i64 c, .int .i64 d, .int .i64 e, .int .i64 f, .int .i64 g] : Array Value)[3 + j]? = some v := fun j v hv => by
  rcases j with _ | _ | j
  · exact hv
  · exact hv
  · simp at hv
def RcRel (W : World) (evs : List Ev) (frm a b ord : Int) (i : Value) (wr : World) : Prop := ∃ k : Nat, i = .int .i64 k ∧ k ≤ evs.length ∧ recvS evs frm a b ord = recvAt (recvP frm a b ord) k (evs.drop k) ∧ Keep W wr
/-- The label of an index. -/
def labInc (evs : List Ev) (k : Int) : Int := if 0 < k ∧ k ≤ evs.length then (evs.getD (k.toNat - 1) ⟨0, 0, 0, 0, 0, 0, 0⟩).inc else 0
def labIdx (evs : List Ev) (k : Int) : Int := if 0 < k ∧ k ≤ evs.length then k else 0
def labOk (evs : List Ev) (k : Int) : Bool := decide (0 ≤ k ∧ k ≤ evs.length)
def LabPost (evs : List Ev) (k : Int) (w : World) (e : Ending) (w' : World) : Prop := e = .returned (.tuple #[.agg #[.int .i64 (labInc evs k), .int .i64 (labIdx evs k)], .bool (labOk evs k)]) ∧ Keep w w'
/-- What the event with an index sent. -/
def sendsAt (l : List Snd) (k : Int) : List Snd := l.filter (fun y => y.idx == k)
theorem sendsAt_take {l : List Snd} {k : Nat} {y : Snd} (ix : Int) (h : l[k]? = some y) : sendsAt (l.take (k + 1)) ix = sendsAt (l.take k) ix ++ (if y.idx == ix then [y] else []) := by
  obtain ⟨hk, rfl⟩ := List.getElem?_eq_some_iff.1 h
  rw [List.take_succ_eq_append_getElem hk]
  unfold sendsAt
  rw [List.filter_append]
  simp [List.filter_cons]
theorem sendsAt_len (l : List Snd) (ix : Int) (k : Nat) (h : k ≤ l.length) : (sendsAt (l.take k) ix).length ≤ k := by
  unfold sendsAt
  have := List.length_filter_le (fun y : Snd => y.idx == ix) (l.take k)
  rw [List.length_take] at this
  omega
def SdsRel (B : Nat) (ix : Int) (l : List Snd) (W : World) (v i : Value) (wr : World) : Prop := ∃ k : Nat, i = .int .i64 k ∧ k ≤ l.length ∧ wr.ownsRow B 100 4 v (sendsAt (l.take k) ix).length ((sendsAt (l.take k) ix).flatMap encSnd) ∧ Keep W wr
def SdsPost (l : List Snd) (w : World) (e : Ending) (w' : World) : Prop := ∃ (A : Option Addr) (n c : Nat), e = .returned (.slice A n c) ∧ Sl encSnd 4 w' (fun i => w.heap.size ≤ i ∧ i < w'.heap.size) A n c l ∧ Keep w w'
set_option maxHeartbeats 4000000 in
theorem plabel_any (w : World) (S : Nat → Prop) (B1 B2 B3 B4 : Option Addr) (p1 q1 p2 q2 p3 q3 p4 q4 : Nat) (evs : List Ev) (k : Int) (hS : ∀ i, S i → i < w.heap.size) (hl : Sl encEv 7 w S B2 p2 q2 evs) (hn : evs.length ≤ 1000000) :
    Calls Tryz.prog 58 #[.agg #[.slice B1 p1 q1, .slice B2 p2 q2, .slice B3 p3 q3, .slice B4 p4 q4], .int .i64 k] w (LabPost evs k w) := by
  have hp := hl.1
  have hq := hl.2.1
  generalize hW : (w.alloc (.cells #[.slice B1 p1 q1, .slice B2 p2 q2, .slice B3 p3 q3, .slice B4 p4 q4] 37)).alloc (.cells #[.int .i64 0, .int .i64 0] 49) = W
  have hkW : Keep w W := hW ▸ Keep.alloc (Keep.new w _) _
  have hb2 : Blk W w.heap.size 37 #[.slice B1 p1 q1, .slice B2 p2 q2, .slice B3 p3 q3, .slice B4 p4 q4] := hW ▸ (Blk.new w _ _).alloc _
  have hb4 : Blk W (w.heap.size + 1) 49 #[.int .i64 0, .int .i64 0] := hW ▸ (by simpa using Blk.new (w.alloc _) _ _)
  have hz : w.heap.size + 1 < W.heap.size := hb4.lt
  have e1 : W.cell? ⟨w.heap.size, 1, none⟩ = some (.slice B2 p2 q2) := by rw [hb2.cell]; rfl
  have key : ∀ (w' : World) (a b : Int) (q : Bool), Blk w' (w.heap.size + 1) 49 #[.int .i64 a, .int .i64 b] → Same (· ≠ w.heap.size + 1) W w' → a = labInc evs k → b = labIdx evs k → q = labOk evs k →
      LabPost evs k w (.returned (.tuple #[.agg #[.int .i64 a, .int .i64 b], .bool q])) w' := fun w' a b q _ hs h1 h2 h3 => ⟨by rw [h1, h2, h3], Keep.write hkW hs (by omega)⟩
  have hlW := hl.keep (Same.mono hkW hS)
  have hp9 : p2 ≤ 1000000 := by omega
  have HKW := Lib.hid hkW
  have HB2 := Lib.hid hb2
  have HB4 := Lib.hid hb4
  have KEY := Lib.hid key
  have HLW := Lib.hid hlW
  have E1 := Lib.hid e1
  have HS := Lib.hid hS
  have HP := Lib.hid hp
  clear hkW hb2 hb4 key hlW e1 hS hp
  clear hl hn
  by_cases hk0 : k = 0
  · subst hk0
    have t0 : decide ((p2 : Int) < 0) = false := by simp
    go_enter Tryz.func58, Tryz.ntmps58
    go_upto_region 1 with fail
    clear hW
    have e1 := E1.out
    go_wp2_with (refine wpList_store_all rfl _ (.tmp 4) (.tmp 20) rfl (w.heap.size + 1) 49 _ [.int .i64 0, .int .i64 0] rfl rfl HB4.out rfl (by kernel_rfl) rfl ?_; intro v6 hv6 hs6)
    exact bodyPost_ret (results_cell_tmp' Tryz.results58 _ _ _ ⟨w.heap.size + 1, 0, none⟩ _ _ rfl rfl (loadVar_blk [.int .i64 0, .int .i64 0] _ hv6 (fun j v hv => by simpa using hv) Tryz.underlying49 rfl (by kernel_rfl))) rfl (KEY.out v6 _ _ _ hv6 hs6 (by simp [labInc]) (by simp [labIdx]) (by simp [labOk]))
  · have t0 : (k == 0) = false := by simpa using hk0
    by_cases hneg : k < 0
    · have t1 : decide (k < 0) = true := by simpa using hneg
      go_enter Tryz.func58, Tryz.ntmps58
      go_upto_region 1 with fail
      clear hW
      have e1 := E1.out
      go_wp2_with (refine wpList_store_all rfl _ (.tmp 4) (.tmp 16) rfl (w.heap.size + 1) 49 _ [.int .i64 0, .int .i64 0] rfl rfl HB4.out rfl (by kernel_rfl) rfl ?_; intro v6 hv6 hs6)
      exact bodyPost_ret (results_cell_tmp' Tryz.results58 _ _ _ ⟨w.heap.size + 1, 0, none⟩ _ _ rfl rfl (loadVar_blk [.int .i64 0, .int .i64 0] _ hv6 (fun j v hv => by simpa using hv) Tryz.underlying49 rfl (by kernel_rfl))) rfl (KEY.out v6 _ _ _ hv6 hs6 (by have := HP.out; simp [labInc]; omega) (by have := HP.out; simp [labIdx]; omega) (by have := HP.out; simp [labOk]; omega))
    · have t1 : decide (k < 0) = false := by simpa using hneg
      by_cases hbig : (p2 : Int) < k
      · have t2 : decide ((p2 : Int) < k) = true := by simpa using hbig
        go_enter Tryz.func58, Tryz.ntmps58
        go_upto_region 1 with fail
        clear hW
        have e1 := E1.out
        go_wp2_with (refine wpList_store_all rfl _ (.tmp 4) (.tmp 16) rfl (w.heap.size + 1) 49 _ [.int .i64 0, .int .i64 0] rfl rfl HB4.out rfl (by kernel_rfl) rfl ?_; intro v6 hv6 hs6)
        exact bodyPost_ret (results_cell_tmp' Tryz.results58 _ _ _ ⟨w.heap.size + 1, 0, none⟩ _ _ rfl rfl (loadVar_blk [.int .i64 0, .int .i64 0] _ hv6 (fun j v hv => by simpa using hv) Tryz.underlying49 rfl (by kernel_rfl))) rfl (KEY.out v6 _ _ _ hv6 hs6 (by have := HP.out; simp [labInc]; omega) (by have := HP.out; simp [labIdx]; omega) (by have := HP.out; simp [labOk]; omega))
      · have t2 : decide ((p2 : Int) < k) = false := by simpa using hbig
        obtain ⟨b, off, x, rfl, hb, hx, hcx⟩ := HLW.out.at_ encEv_len (k := k.toNat - 1) (by omega)
        have c1 : W.cell? ⟨b, off + (k.toNat - 1) * 7 + 1, none⟩ = some (.int .i64 x.inc) := hcx 1 _ rfl
        have c2 : (k - 1).toNat = k.toNat - 1 := by omega
        have c3 : (0 : Int) ≤ k - 1 := by omega
        have c4 : k - 1 < (p2 : Int) := by omega
        have hxd : evs.getD (k.toNat - 1) ⟨0, 0, 0, 0, 0, 0, 0⟩ = x := by simp [List.getD, hx]
        have HXD := Lib.hid hxd
        clear hxd
        clear hcx hx
        go_enter Tryz.func58, Tryz.ntmps58
        go_upto_region 1 with fail
        clear hW
        have e1 := E1.out
        go_wp2_with (refine wpList_store_all rfl _ (.tmp 4) (.tmp 29) rfl (w.heap.size + 1) 49 _ [.int .i64 x.inc, .int .i64 k] rfl rfl HB4.out rfl (by kernel_rfl) rfl ?_; intro v6 hv6 hs6)
        exact bodyPost_ret (results_cell_tmp' Tryz.results58 _ _ _ ⟨w.heap.size + 1, 0, none⟩ _ _ rfl rfl (loadVar_blk [.int .i64 x.inc, .int .i64 k] _ hv6 (fun j v hv => by simpa using hv) Tryz.underlying49 rfl (by kernel_rfl))) rfl (KEY.out v6 _ _ _ hv6 hs6 (by unfold labInc; rw [if_pos ⟨by have := HP.out; omega, by have := HP.out; omega⟩, HXD.out]) (by unfold labIdx; rw [if_pos ⟨by have := HP.out; omega, by have := HP.out; omega⟩]) (by have := HP.out; unfold labOk; simp; omega))
end Go.Proofs.YtecckbkobkfnmaaGreatDoor
