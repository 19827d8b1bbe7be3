import Derived.Test.YtecckbkobkfnmaaDoorBase
import Derived.Test.YtecckbkobkfnmaaDoorGP
import Derived.Test.YtecckbkobkfnmaaDoorData
import Derived.Deep.Slices
import Derived.ChangeArms
import Derived.OpenShut
import Derived.Test.YtecckbkobkfnmaaDoorProg
import Derived.Lib.SmallJoins
import Derived.SizedLaws
-- Row
/- Rows of cells of the call's own whose elements are changed in place. No program in sight. -/
set_option linter.unusedVariables false
set_option linter.unusedSimpArgs false
namespace Go.Proofs.YtecckbkobkfnmaaDoor
open Go.RowKit

/-- A row of cells whose first ones read as the list. -/
def Row {α : Type} (enc : α → List Value) (cur : Array Value) (l : List α) : Prop := ∀ (j : Nat) (u : Value), (l.flatMap enc)[j]? = some u → cur[j]? = some u
section
variable {α : Type} {enc : α → List Value} {size : Nat} {cur cur' : Array Value} {l : List α}
theorem Row.set_ (hs : ∀ a, (enc a).length = size) {k : Nat} {e' : α} (hk : k < l.length) (h : Row enc cur l) (hout : ∀ j, (j < k * size ∨ k * size + size ≤ j) → cur'[j]? = cur[j]?)
    (hin : ∀ r u, (enc e')[r]? = some u → cur'[k * size + r]? = some u) : Row enc cur' (l.set k e') := by
  intro j u hu
  have hj : j < (l.set k e').length * size := by
    have := (List.getElem?_eq_some_iff.1 hu).1
    rwa [flat_length hs] at this
  have hsz : 0 < size := by
    rcases Nat.eq_zero_or_pos size with h0 | h0
    · subst h0; omega
    · exact h0
  have hlen : (l.set k e').length = l.length := by simp
  have hi : j / size < l.length := by rw [hlen] at hj; exact Nat.div_lt_of_lt_mul (by rw [Nat.mul_comm]; exact hj)
  have hr : j % size < size := Nat.mod_lt _ hsz
  have hj' : j / size * size + j % size = j := Nat.div_add_mod' j size
  generalize j / size = i at hi hj'
  generalize j % size = r at hr hj'
  subst hj'
  rw [flat_get hs (l.set k e') i r (by rw [hlen]; exact hi) hr] at hu
  by_cases hik : k = i
  · subst hik
    rw [List.getElem_set_self] at hu
    exact hin r u hu
  · rw [List.getElem_set_ne hik] at hu
    have h1 := h (i * size + r) u (by rw [flat_get hs l i r hi hr]; exact hu)
    rw [hout _ ?_]
    · exact h1
    · rcases Nat.lt_or_ge i k with hlt | hge
      · left
        have := Nat.mul_le_mul_right size (show i + 1 ≤ k from hlt)
        rw [Nat.add_mul] at this
        omega
      · right
        have := Nat.mul_le_mul_right size (show k + 1 ≤ i by omega)
        rw [Nat.add_mul] at this
        omega
theorem row_take {m : Nat} (h : Row enc cur l) (hm : (l.flatMap enc).length = m) (hc : m ≤ cur.size) : cur.toList.take m = l.flatMap enc := by
  apply List.ext_getElem?
  intro j
  rw [List.getElem?_take]
  split
  · rename_i hj
    have hj2 : j < (l.flatMap enc).length := by omega
    rw [List.getElem?_eq_getElem hj2]
    have := h j _ (List.getElem?_eq_getElem hj2)
    simpa using this
  · rename_i hj
    rw [List.getElem?_eq_none (by omega)]
theorem row_of_take {m : Nat} (h : cur.toList.take m = l.flatMap enc) : Row enc cur l := by
  intro j u hu
  rw [← h, List.getElem?_take] at hu
  split at hu
  · simpa using hu
  · cases hu
theorem own_open {w : World} {base n c : Nat} {e : TypeId} {A : Option Addr} {xs : List Value} (h : w.ownsRow base e size (.slice A n c) n xs) (hn : 0 < n) :
    ∃ g cur, A = some ⟨g, 0, none⟩ ∧ base ≤ g ∧ Blk w g e cur ∧ cur.size = c * size ∧ n ≤ c ∧ c ≤ maxLen ∧ cur.toList.take (n * size) = xs := by
  rcases h.2 with ⟨h', h0⟩ | ⟨g, cap, cur, h', hb, hg, hnc, hcm, hcs, htake⟩
  · omega
  · simp only [Value.slice.injEq, true_and] at h'
    obtain ⟨rfl, rfl⟩ := h'
    exact ⟨g, cur, rfl, hb, hg, hcs, hnc, hcm, htake⟩
theorem own_close {w : World} {base g n c : Nat} {e : TypeId} (hs : ∀ a, (enc a).length = size) (hb : base ≤ g) (h : Blk w g e cur) (hc : cur.size = c * size) (hnc : n ≤ c) (hm : c ≤ maxLen) (hr : Row enc cur l) (hl : l.length = n) :
    w.ownsRow base e size (.slice (some ⟨g, 0, none⟩) n c) n (l.flatMap enc) := by
  have hlen : (l.flatMap enc).length = n * size := by rw [flat_length hs, hl]
  exact ⟨hlen, .inr ⟨g, c, cur, rfl, hb, h, hnc, hm, hc, row_take hr hlen (by rw [hc]; exact Nat.mul_le_mul_right _ hnc)⟩⟩
/-- One cell of one element changed. -/
theorem row_put {w' : World} {base g n c k o : Nat} {ty : TypeId} {e e' : α} {v : Value} (hs : ∀ a, (enc a).length = size) (hb : base ≤ g) (hb' : Blk w' g ty (cur.setIfInBounds (k * size + o) v)) (hcs : cur.size = c * size) (hnc : n ≤ c) (hm : c ≤ maxLen)
    (htk : cur.toList.take (n * size) = l.flatMap enc) (hl : l.length = n) (he : l[k]? = some e) (ho : o < size) (henc : enc e' = (enc e).set o v) : w'.ownsRow base ty size (.slice (some ⟨g, 0, none⟩) n c) n ((l.set k e').flatMap enc) := by
  have hk : k < l.length := (List.getElem?_eq_some_iff.1 he).1
  have hrow := row_of_take htk
  have hkc : k * size + size ≤ cur.size := by
    have h1 := Nat.mul_le_mul_right size (show k + 1 ≤ c by omega)
    rw [Nat.add_mul] at h1
    omega
  refine own_close hs hb hb' (by simpa using hcs) hnc hm (Row.set_ hs hk hrow (fun j hj => ?_) (fun r u hu => ?_)) (by simpa using hl)
  · rw [Array.getElem?_setIfInBounds, if_neg (by omega)]
  · have hr : r < size := by rw [← hs e']; exact (List.getElem?_eq_some_iff.1 hu).1
    rw [henc, List.getElem?_set] at hu
    rw [Array.getElem?_setIfInBounds]
    by_cases hor : o = r
    · subst hor
      rw [if_pos rfl, if_pos (by rw [hs]; exact ho)] at hu
      rw [if_pos rfl, if_pos (by omega)]
      exact hu
    · rw [if_neg hor] at hu
      rw [if_neg (by omega)]
      refine hrow _ u ?_
      rw [flat_get hs l k r hk hr]
      have : l[k] = e := by have := List.getElem?_eq_getElem hk; rw [he] at this; injection this with this; exact this.symm
      rw [this]
      exact hu
end
end Go.Proofs.YtecckbkobkfnmaaDoor

-- Aid6
/- Small words for the walks of law06 and law34. -/
set_option linter.unusedVariables false
set_option linter.unusedSimpArgs false
set_option maxRecDepth 100000
namespace Go.Proofs.YtecckbkobkfnmaaDoor
open Go.RowKit Go.Proofs

theorem st_sl {w : World} {S : Nat → Prop} {B1 B2 B3 B4 : Option Addr} {p1 q1 p2 q2 p3 q3 p4 q4 : Nat} {s : St} (h : StR w S [.slice B1 p1 q1, .slice B2 p2 q2, .slice B3 p3 q3, .slice B4 p4 q4] s) :
    Sl encI 1 w S B1 p1 q1 s.cells ∧ Sl encEv 7 w S B2 p2 q2 s.events ∧ Sl encSnd 4 w S B3 p3 q3 s.sent ∧ Sl encOut 2 w S B4 p4 q4 s.outs := by
  obtain ⟨A1, A2, A3, A4, n1, c1, n2, c2, n3, c3, n4, c4, e, h1, h2, h3, h4⟩ := h
  simp only [List.cons.injEq, Value.slice.injEq, and_true] at e
  obtain ⟨⟨rfl, rfl, rfl⟩, ⟨rfl, rfl, rfl⟩, ⟨rfl, rfl, rfl⟩, rfl, rfl, rfl⟩ := e
  exact ⟨h1, h2, h3, h4⟩
theorem st_mk {w : World} {S : Nat → Prop} {B1 B2 B3 B4 : Option Addr} {p1 q1 p2 q2 p3 q3 p4 q4 : Nat} {s : St}
    (h1 : Sl encI 1 w S B1 p1 q1 s.cells) (h2 : Sl encEv 7 w S B2 p2 q2 s.events) (h3 : Sl encSnd 4 w S B3 p3 q3 s.sent) (h4 : Sl encOut 2 w S B4 p4 q4 s.outs) :
    StR w S [.slice B1 p1 q1, .slice B2 p2 q2, .slice B3 p3 q3, .slice B4 p4 q4] s := ⟨B1, B2, B3, B4, p1, q1, p2, q2, p3, q3, p4, q4, rfl, h1, h2, h3, h4⟩
theorem cd_init {w : World} {S : Nat → Prop} {B0 B1 B2 B3 B4 : Option Addr} {p0 q0 p1 q1 p2 q2 p3 q3 p4 q4 : Nat} {c : Cd} (h : CdR w S [.slice B0 p0 q0, .slice B1 p1 q1, .slice B2 p2 q2, .slice B3 p3 q3, .slice B4 p4 q4] c) : p0 = c.init.length := by
  obtain ⟨A0, A1, A2, A3, A4, m0, c0, m1, c1, m2, c2, m3, c3, m4, c4, e, h0, h1, h2, h3, h4, h5⟩ := h
  simp only [List.cons.injEq, Value.slice.injEq, and_true] at e
  obtain ⟨⟨rfl, rfl, rfl⟩, -⟩ := e
  exact h0.1
theorem drop_cons {α : Type} {l : List α} {k : Nat} {y : α} (h : l[k]? = some y) : l.drop k = y :: l.drop (k + 1) := by
  obtain ⟨hk, rfl⟩ := List.getElem?_eq_some_iff.1 h
  exact List.drop_eq_getElem_cons hk
theorem cd_open2 {w : World} {S : Nat → Prop} {cs : List Value} {c : Cd} (h : CdR w S cs c) : ∃ (B0 B1 B2 B3 B4 : Option Addr) (p0 q0 p1 q1 p2 q2 p3 q3 p4 q4 : Nat), cs = [.slice B0 p0 q0, .slice B1 p1 q1, .slice B2 p2 q2, .slice B3 p3 q3, .slice B4 p4 q4] ∧ CdR w S [.slice B0 p0 q0, .slice B1 p1 q1, .slice B2 p2 q2, .slice B3 p3 q3, .slice B4 p4 q4] c := by
  have h' := h
  obtain ⟨A0, A1, A2, A3, A4, m0, c0, m1, c1, m2, c2, m3, c3, m4, c4, rfl, _⟩ := h
  exact ⟨A0, A1, A2, A3, A4, m0, c0, m1, c1, m2, c2, m3, c3, m4, c4, rfl, h'⟩
/-- The blocks of a world but one. -/
def Bx (g : Nat) (w : World) (i : Nat) : Prop := i < w.heap.size ∧ i ≠ g
def Bw (w : World) (i : Nat) : Prop := i < w.heap.size
section
variable {P : Program} {ops : Array Oper} {o : Oper} {a : Act} {w : World} {K : Act → World → Prop} {Q : Exit → Act → World → Prop} {E : Prop}
theorem step_load_blk (hgd : o.guard = none) (ty : TypeId) (x : Operand) (ho : o.op = .load ty x)
    (g off : Nat) (t : TypeId) (cs : Array Value) (vs : List Value) (d : TypeDesc) (hx : a.eval x = .pointer (some ⟨g, off, none⟩)) (hb : Blk w g t cs) (hvs : ∀ j v, vs[j]? = some v → cs[off + j]? = some v)
    (hu : P.underlying ty = some d) (hd : d.isRow = true) (hi : (P.info? ty).map (·.size) = some vs.length)
    (h : K (a.put o.dst (.agg vs.toArray)) w) : if Region.wanted o (yielded ops a.tmps) = true then Oper.wp P o a w K Q else E := by
  have hw : Region.wanted o (yielded ops a.tmps) = true := by simp [Region.wanted, hgd]
  rw [if_pos hw]
  have hy := yieldsIf_blk (T := fun w' => w' = w) hw ty x ho g off t cs vs d hx (fun w' e => e ▸ hb) hvs hu hd hi
  rcases hy with ⟨_, hr⟩ | hn
  · have e := hr w rfl
    unfold Oper.wp
    rw [e]
    exact h
  · simp_all
end
/-- Two variables that hold states. -/
def Bg (g h : Nat) (w : World) (i : Nat) : Prop := i < w.heap.size ∧ i ≠ g ∧ i ≠ h
def TwoSt (W : World) (g h : Nat) (s t : St) (wx : World) : Prop :=
  ∃ cs ct : List Value, Blk wx g 27 cs.toArray ∧ Blk wx h 27 ct.toArray ∧ StR wx (Bg g h wx) cs s ∧ StR wx (Bg g h wx) ct t ∧ Keep W wx
def TwoV (W : World) (s t : St) (p q : Value) (wx : World) : Prop := ∃ g h : Nat, p = .pointer (some ⟨g, 0, none⟩) ∧ q = .pointer (some ⟨h, 0, none⟩) ∧ g ≠ h ∧ W.heap.size ≤ g ∧ W.heap.size ≤ h ∧ TwoSt W g h s t wx
theorem two_put2 {W u u5 u6 : World} {g h : Nat} {cs ct : List Value} {s t : St} {S1 S2 : Nat → Prop} (hgh : g ≠ h) (hg : W.heap.size ≤ g) (hh : W.heap.size ≤ h) (hgl : g < u.heap.size) (hhl : h < u.heap.size)
    (h1 : ∀ i, S1 i → Bg g h u i) (h2 : ∀ i, S2 i → Bg g h u i) (r1 : StR u S1 cs s) (r2 : StR u S2 ct t) (hk : Keep W u)
    (b5 : Blk u5 g 27 cs.toArray) (s5 : Same (· ≠ g) u u5) (b6 : Blk u6 h 27 ct.toArray) (s6 : Same (· ≠ h) u5 u6) : TwoSt W g h s t u6 := by
  have z5 := s5.size
  have z6 := s6.size
  have sb : Same (Bg g h u) u u6 := Same.trans (s5.mono (fun i (hi : Bg g h u i) => hi.2.1)) s6 (fun i hi => hi.2.2)
  have up : ∀ i, Bg g h u i → Bg g h u6 i := fun i hi => ⟨by have := hi.1; omega, hi.2⟩
  exact ⟨cs, ct, s6.blk b5 hgh, b6, ((r1.more h1).keep sb).more up, ((r2.more h2).keep sb).more up, Same.trans hk (Same.trans (s5.mono (fun i (hi : i < W.heap.size) => by show i ≠ g; omega)) s6 (fun i hi => by show i ≠ h; omega)) (fun i hi => hi)⟩
theorem fine_replay (cd : Cd) (me : Int) (l : List Ev) (hi : cd.init.length ≤ 1000000) (hl : l.length ≤ 100) : Fine (replayS cd me 3 l) := by
  have h := replayS_len cd me 3 l
  have he := replayS_events cd me 3 l
  exact ⟨by omega, by rw [he]; omega, by omega, by omega⟩
end Go.Proofs.YtecckbkobkfnmaaDoor

-- Ask
/- Label, Received and Sends of process and ref06: written by gen_ask.py. -/
set_option linter.unusedVariables false
set_option linter.unusedSimpArgs false
set_option maxRecDepth 100000
namespace Go.Proofs.YtecckbkobkfnmaaDoor
open Go.RowKit Go.Proofs

def RecvPost (v : Int) (w : World) (e : Ending) (w' : World) : Prop := e = .returned (.int .i64 v) ∧ Keep w w'
def recvP (frm a b ord : Int) (e : Ev) : Bool := e.kind == 1 && e.frm == frm && e.sInc == a && e.sIdx == b && e.ord == ord
def recvAt (p : Ev → Bool) : Nat → List Ev → Int
  | _, [] => 0
  | k, e :: l => if p e then k + 1 else recvAt p (k + 1) l
def recvS (evs : List Ev) (frm a b ord : Int) : Int := recvAt (recvP frm a b ord) 0 evs
theorem recvAt_get {p : Ev → Bool} {l : List Ev} {k : Nat} {x : Ev} (h : l[k]? = some x) : recvAt p k (l.drop k) = if p x then (k : Int) + 1 else recvAt p (k + 1) (l.drop (k + 1)) := by
  rw [drop_cons h]
  rfl
theorem lab_cells (a b c d e f g : Int) : ∀ j v, ([.int .i64 d, .int .i64 e] : List Value)[j]? = some v → (#[.int .i64 a, .int .i64 b, .int .i64 c, .int .i64 d, .int .i64 e, .int .i64 f, .int .i64 g] : Array Value)[3 + j]? = some v := fun j v hv => by
  rcases j with _ | _ | j
  · exact hv
  · exact hv
  · simp at hv
def RcRel (W : World) (evs : List Ev) (frm a b ord : Int) (i : Value) (wr : World) : Prop := ∃ k : Nat, i = .int .i64 k ∧ k ≤ evs.length ∧ recvS evs frm a b ord = recvAt (recvP frm a b ord) k (evs.drop k) ∧ Keep W wr
/-- The label of an index. -/
def labInc (evs : List Ev) (k : Int) : Int := if 0 < k ∧ k ≤ evs.length then (evs.getD (k.toNat - 1) ⟨0, 0, 0, 0, 0, 0, 0⟩).inc else 0
def labIdx (evs : List Ev) (k : Int) : Int := if 0 < k ∧ k ≤ evs.length then k else 0
def labOk (evs : List Ev) (k : Int) : Bool := decide (0 ≤ k ∧ k ≤ evs.length)
def LabPost (evs : List Ev) (k : Int) (w : World) (e : Ending) (w' : World) : Prop := e = .returned (.tuple #[.agg #[.int .i64 (labInc evs k), .int .i64 (labIdx evs k)], .bool (labOk evs k)]) ∧ Keep w w'
/-- What the event with an index sent. -/
def sendsAt (l : List Snd) (k : Int) : List Snd := l.filter (fun y => y.idx == k)
theorem sendsAt_take {l : List Snd} {k : Nat} {y : Snd} (ix : Int) (h : l[k]? = some y) : sendsAt (l.take (k + 1)) ix = sendsAt (l.take k) ix ++ (if y.idx == ix then [y] else []) := by
  obtain ⟨hk, rfl⟩ := List.getElem?_eq_some_iff.1 h
  rw [List.take_succ_eq_append_getElem hk]
  unfold sendsAt
  rw [List.filter_append]
  simp [List.filter_cons]
theorem sendsAt_len (l : List Snd) (ix : Int) (k : Nat) (h : k ≤ l.length) : (sendsAt (l.take k) ix).length ≤ k := by
  unfold sendsAt
  have := List.length_filter_le (fun y : Snd => y.idx == ix) (l.take k)
  rw [List.length_take] at this
  omega
def SdsRel (B : Nat) (ix : Int) (l : List Snd) (W : World) (v i : Value) (wr : World) : Prop := ∃ k : Nat, i = .int .i64 k ∧ k ≤ l.length ∧ wr.ownsRow B 43 4 v (sendsAt (l.take k) ix).length ((sendsAt (l.take k) ix).flatMap encSnd) ∧ Keep W wr
def SdsPost (l : List Snd) (w : World) (e : Ending) (w' : World) : Prop := ∃ (A : Option Addr) (n c : Nat), e = .returned (.slice A n c) ∧ Sl encSnd 4 w' (fun i => w.heap.size ≤ i ∧ i < w'.heap.size) A n c l ∧ Keep w w'
set_option maxHeartbeats 4000000 in
theorem plabel_any (w : World) (S : Nat → Prop) (B1 B2 B3 B4 : Option Addr) (p1 q1 p2 q2 p3 q3 p4 q4 : Nat) (evs : List Ev) (k : Int) (hS : ∀ i, S i → i < w.heap.size) (hl : Sl encEv 7 w S B2 p2 q2 evs) (hn : evs.length ≤ 1000000) :
    Calls Tryd.prog 33 #[.agg #[.slice B1 p1 q1, .slice B2 p2 q2, .slice B3 p3 q3, .slice B4 p4 q4], .int .i64 k] w (LabPost evs k w) := by
  have hp := hl.1
  have hq := hl.2.1
  generalize hW : (w.alloc (.cells #[.slice B1 p1 q1, .slice B2 p2 q2, .slice B3 p3 q3, .slice B4 p4 q4] 27)).alloc (.cells #[.int .i64 0, .int .i64 0] 49) = W
  have hkW : Keep w W := hW ▸ Keep.alloc (Keep.new w _) _
  have hb2 : Blk W w.heap.size 27 #[.slice B1 p1 q1, .slice B2 p2 q2, .slice B3 p3 q3, .slice B4 p4 q4] := hW ▸ (Blk.new w _ _).alloc _
  have hb4 : Blk W (w.heap.size + 1) 49 #[.int .i64 0, .int .i64 0] := hW ▸ (by simpa using Blk.new (w.alloc _) _ _)
  have hz : w.heap.size + 1 < W.heap.size := hb4.lt
  have e1 : W.cell? ⟨w.heap.size, 1, none⟩ = some (.slice B2 p2 q2) := by rw [hb2.cell]; rfl
  have key : ∀ (w' : World) (a b : Int) (q : Bool), Blk w' (w.heap.size + 1) 49 #[.int .i64 a, .int .i64 b] → Same (· ≠ w.heap.size + 1) W w' → a = labInc evs k → b = labIdx evs k → q = labOk evs k →
      LabPost evs k w (.returned (.tuple #[.agg #[.int .i64 a, .int .i64 b], .bool q])) w' := fun w' a b q _ hs h1 h2 h3 => ⟨by rw [h1, h2, h3], Keep.write hkW hs (by omega)⟩
  have hlW := hl.keep (Same.mono hkW hS)
  have hp9 : p2 ≤ 1000000 := by omega
  have HKW := Lib.hid hkW
  have HB2 := Lib.hid hb2
  have HB4 := Lib.hid hb4
  have KEY := Lib.hid key
  have HLW := Lib.hid hlW
  have E1 := Lib.hid e1
  have HS := Lib.hid hS
  have HP := Lib.hid hp
  clear hkW hb2 hb4 key hlW e1 hS hp
  clear hl hn
  by_cases hk0 : k = 0
  · subst hk0
    have t0 : decide ((p2 : Int) < 0) = false := by simp
    go_enter Tryd.func33, Tryd.ntmps33
    go_upto_region 1 with fail
    clear hW
    have e1 := E1.out
    go_wp2_with (refine wpList_store_all rfl _ (.tmp 4) (.tmp 20) rfl (w.heap.size + 1) 49 _ [.int .i64 0, .int .i64 0] rfl rfl HB4.out rfl (by kernel_rfl) rfl ?_; intro v6 hv6 hs6)
    exact bodyPost_ret (results_cell_tmp' Tryd.results33 _ _ _ ⟨w.heap.size + 1, 0, none⟩ _ _ rfl rfl (loadVar_blk [.int .i64 0, .int .i64 0] _ hv6 (fun j v hv => by simpa using hv) Tryd.underlying49 rfl (by kernel_rfl))) rfl (KEY.out v6 _ _ _ hv6 hs6 (by simp [labInc]) (by simp [labIdx]) (by simp [labOk]))
  · have t0 : (k == 0) = false := by simpa using hk0
    by_cases hneg : k < 0
    · have t1 : decide (k < 0) = true := by simpa using hneg
      go_enter Tryd.func33, Tryd.ntmps33
      go_upto_region 1 with fail
      clear hW
      have e1 := E1.out
      go_wp2_with (refine wpList_store_all rfl _ (.tmp 4) (.tmp 16) rfl (w.heap.size + 1) 49 _ [.int .i64 0, .int .i64 0] rfl rfl HB4.out rfl (by kernel_rfl) rfl ?_; intro v6 hv6 hs6)
      exact bodyPost_ret (results_cell_tmp' Tryd.results33 _ _ _ ⟨w.heap.size + 1, 0, none⟩ _ _ rfl rfl (loadVar_blk [.int .i64 0, .int .i64 0] _ hv6 (fun j v hv => by simpa using hv) Tryd.underlying49 rfl (by kernel_rfl))) rfl (KEY.out v6 _ _ _ hv6 hs6 (by have := HP.out; simp [labInc]; omega) (by have := HP.out; simp [labIdx]; omega) (by have := HP.out; simp [labOk]; omega))
    · have t1 : decide (k < 0) = false := by simpa using hneg
      by_cases hbig : (p2 : Int) < k
      · have t2 : decide ((p2 : Int) < k) = true := by simpa using hbig
        go_enter Tryd.func33, Tryd.ntmps33
        go_upto_region 1 with fail
        clear hW
        have e1 := E1.out
        go_wp2_with (refine wpList_store_all rfl _ (.tmp 4) (.tmp 16) rfl (w.heap.size + 1) 49 _ [.int .i64 0, .int .i64 0] rfl rfl HB4.out rfl (by kernel_rfl) rfl ?_; intro v6 hv6 hs6)
        exact bodyPost_ret (results_cell_tmp' Tryd.results33 _ _ _ ⟨w.heap.size + 1, 0, none⟩ _ _ rfl rfl (loadVar_blk [.int .i64 0, .int .i64 0] _ hv6 (fun j v hv => by simpa using hv) Tryd.underlying49 rfl (by kernel_rfl))) rfl (KEY.out v6 _ _ _ hv6 hs6 (by have := HP.out; simp [labInc]; omega) (by have := HP.out; simp [labIdx]; omega) (by have := HP.out; simp [labOk]; omega))
      · have t2 : decide ((p2 : Int) < k) = false := by simpa using hbig
        obtain ⟨b, off, x, rfl, hb, hx, hcx⟩ := HLW.out.at_ encEv_len (k := k.toNat - 1) (by omega)
        have c1 : W.cell? ⟨b, off + (k.toNat - 1) * 7 + 1, none⟩ = some (.int .i64 x.inc) := hcx 1 _ rfl
        have c2 : (k - 1).toNat = k.toNat - 1 := by omega
        have c3 : (0 : Int) ≤ k - 1 := by omega
        have c4 : k - 1 < (p2 : Int) := by omega
        have hxd : evs.getD (k.toNat - 1) ⟨0, 0, 0, 0, 0, 0, 0⟩ = x := by simp [List.getD, hx]
        have HXD := Lib.hid hxd
        clear hxd
        clear hcx hx
        go_enter Tryd.func33, Tryd.ntmps33
        go_upto_region 1 with fail
        clear hW
        have e1 := E1.out
        go_wp2_with (refine wpList_store_all rfl _ (.tmp 4) (.tmp 29) rfl (w.heap.size + 1) 49 _ [.int .i64 x.inc, .int .i64 k] rfl rfl HB4.out rfl (by kernel_rfl) rfl ?_; intro v6 hv6 hs6)
        exact bodyPost_ret (results_cell_tmp' Tryd.results33 _ _ _ ⟨w.heap.size + 1, 0, none⟩ _ _ rfl rfl (loadVar_blk [.int .i64 x.inc, .int .i64 k] _ hv6 (fun j v hv => by simpa using hv) Tryd.underlying49 rfl (by kernel_rfl))) rfl (KEY.out v6 _ _ _ hv6 hs6 (by unfold labInc; rw [if_pos ⟨by have := HP.out; omega, by have := HP.out; omega⟩, HXD.out]) (by unfold labIdx; rw [if_pos ⟨by have := HP.out; omega, by have := HP.out; omega⟩]) (by have := HP.out; unfold labOk; simp; omega))
set_option maxHeartbeats 4000000 in
theorem rlabel_any (w : World) (S : Nat → Prop) (B1 B2 B3 B4 : Option Addr) (p1 q1 p2 q2 p3 q3 p4 q4 : Nat) (evs : List Ev) (k : Int) (hS : ∀ i, S i → i < w.heap.size) (hl : Sl encEv 7 w S B2 p2 q2 evs) (hn : evs.length ≤ 1000000) :
    Calls Tryd.prog 34 #[.agg #[.slice B1 p1 q1, .slice B2 p2 q2, .slice B3 p3 q3, .slice B4 p4 q4], .int .i64 k] w (LabPost evs k w) := by
  have hp := hl.1
  have hq := hl.2.1
  generalize hW : (w.alloc (.cells #[.slice B1 p1 q1, .slice B2 p2 q2, .slice B3 p3 q3, .slice B4 p4 q4] 27)).alloc (.cells #[.int .i64 0, .int .i64 0] 49) = W
  have hkW : Keep w W := hW ▸ Keep.alloc (Keep.new w _) _
  have hb2 : Blk W w.heap.size 27 #[.slice B1 p1 q1, .slice B2 p2 q2, .slice B3 p3 q3, .slice B4 p4 q4] := hW ▸ (Blk.new w _ _).alloc _
  have hb4 : Blk W (w.heap.size + 1) 49 #[.int .i64 0, .int .i64 0] := hW ▸ (by simpa using Blk.new (w.alloc _) _ _)
  have hz : w.heap.size + 1 < W.heap.size := hb4.lt
  have e1 : W.cell? ⟨w.heap.size, 1, none⟩ = some (.slice B2 p2 q2) := by rw [hb2.cell]; rfl
  have key : ∀ (w' : World) (a b : Int) (q : Bool), Blk w' (w.heap.size + 1) 49 #[.int .i64 a, .int .i64 b] → Same (· ≠ w.heap.size + 1) W w' → a = labInc evs k → b = labIdx evs k → q = labOk evs k →
      LabPost evs k w (.returned (.tuple #[.agg #[.int .i64 a, .int .i64 b], .bool q])) w' := fun w' a b q _ hs h1 h2 h3 => ⟨by rw [h1, h2, h3], Keep.write hkW hs (by omega)⟩
  have hlW := hl.keep (Same.mono hkW hS)
  have hp9 : p2 ≤ 1000000 := by omega
  have HKW := Lib.hid hkW
  have HB2 := Lib.hid hb2
  have HB4 := Lib.hid hb4
  have KEY := Lib.hid key
  have HLW := Lib.hid hlW
  have E1 := Lib.hid e1
  have HS := Lib.hid hS
  have HP := Lib.hid hp
  clear hkW hb2 hb4 key hlW e1 hS hp
  clear hl hn
  by_cases hk0 : k = 0
  · subst hk0
    go_enter Tryd.func34, Tryd.ntmps34
    go_upto_region 1 with fail
    clear hW
    have e1 := E1.out
    go_wp2_with (refine wpList_store_all rfl _ (.tmp 4) (.tmp 9) rfl (w.heap.size + 1) 49 _ [.int .i64 0, .int .i64 0] rfl rfl HB4.out rfl (by kernel_rfl) rfl ?_; intro v6 hv6 hs6)
    exact bodyPost_ret (results_cell_tmp' Tryd.results34 _ _ _ ⟨w.heap.size + 1, 0, none⟩ _ _ rfl rfl (loadVar_blk [.int .i64 0, .int .i64 0] _ hv6 (fun j v hv => by simpa using hv) Tryd.underlying49 rfl (by kernel_rfl))) rfl (KEY.out v6 _ _ _ hv6 hs6 (by simp [labInc]) (by simp [labIdx]) (by simp [labOk]))
  · have t0 : (k == 0) = false := by simpa using hk0
    by_cases hneg : k < 0
    · have t1 : decide (k < 0) = true := by simpa using hneg
      go_enter Tryd.func34, Tryd.ntmps34
      go_upto_region 1 with fail
      clear hW
      have e1 := E1.out
      go_wp2_with (refine wpList_store_all rfl _ (.tmp 4) (.tmp 20) rfl (w.heap.size + 1) 49 _ [.int .i64 0, .int .i64 0] rfl rfl HB4.out rfl (by kernel_rfl) rfl ?_; intro v6 hv6 hs6)
      exact bodyPost_ret (results_cell_tmp' Tryd.results34 _ _ _ ⟨w.heap.size + 1, 0, none⟩ _ _ rfl rfl (loadVar_blk [.int .i64 0, .int .i64 0] _ hv6 (fun j v hv => by simpa using hv) Tryd.underlying49 rfl (by kernel_rfl))) rfl (KEY.out v6 _ _ _ hv6 hs6 (by have := HP.out; simp [labInc]; omega) (by have := HP.out; simp [labIdx]; omega) (by have := HP.out; simp [labOk]; omega))
    · have t1 : decide (k < 0) = false := by simpa using hneg
      by_cases hbig : (p2 : Int) < k
      · have t2 : decide ((p2 : Int) < k) = true := by simpa using hbig
        go_enter Tryd.func34, Tryd.ntmps34
        go_upto_region 1 with fail
        clear hW
        have e1 := E1.out
        go_wp2_with (refine wpList_store_all rfl _ (.tmp 4) (.tmp 20) rfl (w.heap.size + 1) 49 _ [.int .i64 0, .int .i64 0] rfl rfl HB4.out rfl (by kernel_rfl) rfl ?_; intro v6 hv6 hs6)
        exact bodyPost_ret (results_cell_tmp' Tryd.results34 _ _ _ ⟨w.heap.size + 1, 0, none⟩ _ _ rfl rfl (loadVar_blk [.int .i64 0, .int .i64 0] _ hv6 (fun j v hv => by simpa using hv) Tryd.underlying49 rfl (by kernel_rfl))) rfl (KEY.out v6 _ _ _ hv6 hs6 (by have := HP.out; simp [labInc]; omega) (by have := HP.out; simp [labIdx]; omega) (by have := HP.out; simp [labOk]; omega))
      · have t2 : decide ((p2 : Int) < k) = false := by simpa using hbig
        obtain ⟨b, off, x, rfl, hb, hx, hcx⟩ := HLW.out.at_ encEv_len (k := k.toNat - 1) (by omega)
        have c1 : W.cell? ⟨b, off + (k.toNat - 1) * 7 + 1, none⟩ = some (.int .i64 x.inc) := hcx 1 _ rfl
        have c2 : (k - 1).toNat = k.toNat - 1 := by omega
        have c3 : (0 : Int) ≤ k - 1 := by omega
        have c4 : k - 1 < (p2 : Int) := by omega
        have hxd : evs.getD (k.toNat - 1) ⟨0, 0, 0, 0, 0, 0, 0⟩ = x := by simp [List.getD, hx]
        have HXD := Lib.hid hxd
        clear hxd
        clear hcx hx
        go_enter Tryd.func34, Tryd.ntmps34
        go_upto_region 1 with fail
        clear hW
        have e1 := E1.out
        go_wp2_with (refine wpList_store_all rfl _ (.tmp 4) (.tmp 29) rfl (w.heap.size + 1) 49 _ [.int .i64 x.inc, .int .i64 k] rfl rfl HB4.out rfl (by kernel_rfl) rfl ?_; intro v6 hv6 hs6)
        exact bodyPost_ret (results_cell_tmp' Tryd.results34 _ _ _ ⟨w.heap.size + 1, 0, none⟩ _ _ rfl rfl (loadVar_blk [.int .i64 x.inc, .int .i64 k] _ hv6 (fun j v hv => by simpa using hv) Tryd.underlying49 rfl (by kernel_rfl))) rfl (KEY.out v6 _ _ _ hv6 hs6 (by unfold labInc; rw [if_pos ⟨by have := HP.out; omega, by have := HP.out; omega⟩, HXD.out]) (by unfold labIdx; rw [if_pos ⟨by have := HP.out; omega, by have := HP.out; omega⟩]) (by have := HP.out; unfold labOk; simp; omega))
set_option maxHeartbeats 8000000 in
theorem preceived_any (w : World) (S : Nat → Prop) (B1 B2 B3 B4 : Option Addr) (p1 q1 p2 q2 p3 q3 p4 q4 : Nat) (evs : List Ev) (frm la lb ord : Int) (hS : ∀ i, S i → i < w.heap.size) (hl : Sl encEv 7 w S B2 p2 q2 evs) (hn : evs.length ≤ 1000000) :
    Calls Tryd.prog 38 #[.agg #[.slice B1 p1 q1, .slice B2 p2 q2, .slice B3 p3 q3, .slice B4 p4 q4], .int .i64 frm, .agg #[.int .i64 la, .int .i64 lb], .int .i64 ord] w (RecvPost (recvS evs frm la lb ord) w) := by
  have hp := hl.1
  have hp2 : p2 ≤ 1000000 := by omega
  generalize hW : (w.alloc (.cells #[.slice B1 p1 q1, .slice B2 p2 q2, .slice B3 p3 q3, .slice B4 p4 q4] 27)).alloc (.cells #[.int .i64 la, .int .i64 lb] 49) = W
  have hkW : Keep w W := hW ▸ Keep.alloc (Keep.new w _) _
  have hb2 : Blk W w.heap.size 27 #[.slice B1 p1 q1, .slice B2 p2 q2, .slice B3 p3 q3, .slice B4 p4 q4] := hW ▸ (Blk.new w _ _).alloc _
  have hb4 : Blk W (w.heap.size + 1) 49 #[.int .i64 la, .int .i64 lb] := hW ▸ (by simpa using Blk.new (w.alloc _) _ _)
  have hz : w.heap.size + 1 < W.heap.size := hb4.lt
  have e1 : W.cell? ⟨w.heap.size, 1, none⟩ = some (.slice B2 p2 q2) := by rw [hb2.cell]; rfl
  have hlW := (hl.keep (Same.mono hkW hS)).more (T := fun i => i < W.heap.size) (fun i hi => by have := hS i hi; omega)
  have HKW := Lib.hid hkW
  have HB2 := Lib.hid hb2
  have HB4 := Lib.hid hb4
  have HLW := Lib.hid hlW
  have E1 := Lib.hid e1
  have HS := Lib.hid hS
  have HP := Lib.hid hp
  clear hkW hb2 hb4 hlW e1 hS hp
  clear hl
  go_enter Tryd.func38, Tryd.ntmps38
  go_upto_region 1 with fail
  clear hW
  have e1 := E1.out
  go_wp2_with fail
  clear e1
  go_loopw [14] (fun i wr => RcRel W evs frm la lb ord i wr) (fun i _ => p2 - (intOf i).toNat)
  case atStart => exact ⟨0, rfl, Nat.zero_le _, rfl, Same.refl _ _⟩
  case round =>
    obtain ⟨k, rfl, hkl, hrc, hkr⟩ := hrel
    have hzr := hkr.size
    have hbr := hkr.blk HB2.out HB2.out.lt
    have hbl := hkr.blk HB4.out HB4.out.lt
    have e1 : wr.cell? ⟨w.heap.size, 1, none⟩ = some (.slice B2 p2 q2) := by rw [hbr.cell]; rfl
    by_cases hkn : k < p2
    · obtain ⟨b', off', x, rfl, hbb, hx, hcx⟩ := (HLW.out.keep (Same.mono hkr (fun i hi => hi))).at_ encEv_len hkn
      have hd1 : decide (k < p2) = true := by simpa using hkn
      have hd2 : (0 : Int) ≤ k := by omega
      have hd3 : (k : Int) < p2 := by omega
      have hrg : wr.rangeAt b' (off' + k * 7) [.int .i64 x.kind, .int .i64 x.inc, .int .i64 x.frm, .int .i64 x.sInc, .int .i64 x.sIdx, .int .i64 x.ord, .int .i64 x.val] := hcx
      have hrc2 := hrc.trans (recvAt_get hx)
      have hkl1 : k + 1 ≤ evs.length := by have := HP.out; omega
      clear hcx hx hrc
      have HRG := Lib.hid hrg
      have HRC2 := Lib.hid hrc2
      have HKR := Lib.hid hkr
      have HBR := Lib.hid hbr
      have HBL := Lib.hid hbl
      have HKL1 := Lib.hid hkl1
      clear hrg hrc2 hkr hbr hbl hkl1
      go_upto_region 4 with (first
        | (refine wpList_load_mid rfl _ (.tmp 17) rfl b' (off' + k * 7) rfl [.int .i64 x.kind, .int .i64 x.inc, .int .i64 x.frm, .int .i64 x.sInc, .int .i64 x.sIdx, .int .i64 x.ord, .int .i64 x.val] _ HRG.out Tryd.underlying51 rfl (by kernel_rfl) ?_)
        | (refine wpList_store_all rfl _ (.tmp 10) (.tmp 18) rfl wr.heap.size 51 _ [.int .i64 x.kind, .int .i64 x.inc, .int .i64 x.frm, .int .i64 x.sInc, .int .i64 x.sIdx, .int .i64 x.ord, .int .i64 x.val] rfl rfl (Blk.new _ _ _) rfl (by kernel_rfl) rfl ?_; intro w7 hb7 hs7))
      have hk7 : Keep wr w7 := Keep.write (Keep.new _ _) hs7 (Nat.le_refl _)
      have bl7 := hk7.blk HBL.out HBL.out.lt
      have kk7 := Keep.trans HKR.out hk7
      clear e1
      have y0 : w7.cell? ⟨wr.heap.size, 0, none⟩ = some (.int .i64 x.kind) := by rw [hb7.cell]; rfl
      have y2 : w7.cell? ⟨wr.heap.size, 2, none⟩ = some (.int .i64 x.frm) := by rw [hb7.cell]; rfl
      have y5 : w7.cell? ⟨wr.heap.size, 5, none⟩ = some (.int .i64 x.ord) := by rw [hb7.cell]; rfl
      have HB7 := Lib.hid hb7
      have BL7 := Lib.hid bl7
      have KK7 := Lib.hid kk7
      clear hb7 bl7 kk7
      clear hs7 hk7
      have fin : ∀ q : Bool, recvP frm la lb ord x = q → q = false → RcRel W evs frm la lb ord (.int .i64 (k + 1)) w7 := fun q h1 h2 => ⟨k + 1, by simp, HKL1.out, by have := HRC2.out; rw [h1, h2] at this; simpa using this, KK7.out⟩
      have fin2 : recvP frm la lb ord x = true → RecvPost (recvS evs frm la lb ord) w (.returned (.int .i64 (k + 1))) w7 := fun h1 => ⟨by have := HRC2.out; rw [h1] at this; simp [this], Keep.trans HKW.out KK7.out⟩
      have FIN := Lib.hid fin
      have FIN2 := Lib.hid fin2
      clear fin fin2
      by_cases c0 : x.kind = 1
      case neg =>
        have t0 : (x.kind == 1) = false := by simpa using c0
        have hfin := FIN.out false (by simp [recvP, c0]) rfl
        have HFIN := Lib.hid hfin
        clear hfin
        clear c0
        go_wp2_with fail
        go_roundw
        case rel => exact HFIN.out
        case measure => simp [intOf]; omega
      have t0 : (x.kind == 1) = true := by simpa using c0
      by_cases c1 : x.frm = frm
      case neg =>
        have t1 : (x.frm == frm) = false := by simpa using c1
        have hfin := FIN.out false (by simp [recvP, c1]) rfl
        have HFIN := Lib.hid hfin
        clear hfin
        clear c0 c1
        go_wp2_with fail
        go_roundw
        case rel => exact HFIN.out
        case measure => simp [intOf]; omega
      have t1 : (x.frm == frm) = true := by simpa using c1
      by_cases c2 : x.sInc = la
      case neg =>
        have hfin := FIN.out false (by simp [recvP, c2]) rfl
        have HFIN := Lib.hid hfin
        clear hfin
        go_wp2_with (first
          | (refine wpList_load_blkg (by rfl) _ (.tmp 29) rfl wr.heap.size 3 51 _ [.int .i64 x.sInc, .int .i64 x.sIdx] _ rfl HB7.out (lab_cells x.kind x.inc x.frm x.sInc x.sIdx x.ord x.val) Tryd.underlying49 rfl (by kernel_rfl) ?_)
          | (refine wpList_load_allg (by rfl) _ (.tmp 6) rfl (w.heap.size + 1) 49 [.int .i64 la, .int .i64 lb] _ rfl BL7.out Tryd.underlying49 rfl (by kernel_rfl) ?_))
        go_roundw
        case rel => exact HFIN.out
        case measure => simp [intOf]; omega
      by_cases c3 : x.sIdx = lb
      case neg =>
        have hfin := FIN.out false (by simp [recvP, c3]) rfl
        have HFIN := Lib.hid hfin
        clear hfin
        go_wp2_with (first
          | (refine wpList_load_blkg (by rfl) _ (.tmp 29) rfl wr.heap.size 3 51 _ [.int .i64 x.sInc, .int .i64 x.sIdx] _ rfl HB7.out (lab_cells x.kind x.inc x.frm x.sInc x.sIdx x.ord x.val) Tryd.underlying49 rfl (by kernel_rfl) ?_)
          | (refine wpList_load_allg (by rfl) _ (.tmp 6) rfl (w.heap.size + 1) 49 [.int .i64 la, .int .i64 lb] _ rfl BL7.out Tryd.underlying49 rfl (by kernel_rfl) ?_))
        go_roundw
        case rel => exact HFIN.out
        case measure => simp [intOf]; omega
      by_cases c4 : x.ord = ord
      case neg =>
        have hfin := FIN.out false (by simp [recvP, c4]) rfl
        have t4 : (x.ord == ord) = false := by simpa using c4
        have HFIN := Lib.hid hfin
        clear hfin
        go_wp2_with (first
          | (refine wpList_load_blkg (by rfl) _ (.tmp 29) rfl wr.heap.size 3 51 _ [.int .i64 x.sInc, .int .i64 x.sIdx] _ rfl HB7.out (lab_cells x.kind x.inc x.frm x.sInc x.sIdx x.ord x.val) Tryd.underlying49 rfl (by kernel_rfl) ?_)
          | (refine wpList_load_allg (by rfl) _ (.tmp 6) rfl (w.heap.size + 1) 49 [.int .i64 la, .int .i64 lb] _ rfl BL7.out Tryd.underlying49 rfl (by kernel_rfl) ?_))
        go_roundw
        case rel => exact HFIN.out
        case measure => simp [intOf]; omega
      have t4 : (x.ord == ord) = true := by simpa using c4
      have hfin := FIN2.out (by simp [recvP, c0, c1, c2, c3, c4])
      have HFIN := Lib.hid hfin
      clear hfin
      go_wp2_with (first
        | (refine wpList_load_blkg (by rfl) _ (.tmp 29) rfl wr.heap.size 3 51 _ [.int .i64 x.sInc, .int .i64 x.sIdx] _ rfl HB7.out (lab_cells x.kind x.inc x.frm x.sInc x.sIdx x.ord x.val) Tryd.underlying49 rfl (by kernel_rfl) ?_)
        | (refine wpList_load_allg (by rfl) _ (.tmp 6) rfl (w.heap.size + 1) 49 [.int .i64 la, .int .i64 lb] _ rfl BL7.out Tryd.underlying49 rfl (by kernel_rfl) ?_))
      go_ret
      exact HFIN.out
    · have hd1 : decide (k < p2) = false := by simpa using hkn
      have hfin : RecvPost (recvS evs frm la lb ord) w (.returned (.int .i64 0)) wr := ⟨by rw [hrc, List.drop_of_length_le (by have := HP.out; omega)]; rfl, Keep.trans HKW.out hkr⟩
      have HFIN := Lib.hid hfin
      have HRC := Lib.hid hrc
      have HKR := Lib.hid hkr
      have HBR := Lib.hid hbr
      have HBL := Lib.hid hbl
      clear hfin hrc hkr hbr hbl
      go_wp2_with fail
      go_ret
      exact HFIN.out
set_option maxHeartbeats 8000000 in
theorem rreceived_any (w : World) (S : Nat → Prop) (B1 B2 B3 B4 : Option Addr) (p1 q1 p2 q2 p3 q3 p4 q4 : Nat) (evs : List Ev) (frm la lb ord : Int) (hS : ∀ i, S i → i < w.heap.size) (hl : Sl encEv 7 w S B2 p2 q2 evs) (hn : evs.length ≤ 1000000) :
    Calls Tryd.prog 39 #[.agg #[.slice B1 p1 q1, .slice B2 p2 q2, .slice B3 p3 q3, .slice B4 p4 q4], .int .i64 frm, .agg #[.int .i64 la, .int .i64 lb], .int .i64 ord] w (RecvPost (recvS evs frm la lb ord) w) := by
  have hp := hl.1
  have hp2 : p2 ≤ 1000000 := by omega
  generalize hW : (w.alloc (.cells #[.slice B1 p1 q1, .slice B2 p2 q2, .slice B3 p3 q3, .slice B4 p4 q4] 27)).alloc (.cells #[.int .i64 la, .int .i64 lb] 49) = W
  have hkW : Keep w W := hW ▸ Keep.alloc (Keep.new w _) _
  have hb2 : Blk W w.heap.size 27 #[.slice B1 p1 q1, .slice B2 p2 q2, .slice B3 p3 q3, .slice B4 p4 q4] := hW ▸ (Blk.new w _ _).alloc _
  have hb4 : Blk W (w.heap.size + 1) 49 #[.int .i64 la, .int .i64 lb] := hW ▸ (by simpa using Blk.new (w.alloc _) _ _)
  have hz : w.heap.size + 1 < W.heap.size := hb4.lt
  have e1 : W.cell? ⟨w.heap.size, 1, none⟩ = some (.slice B2 p2 q2) := by rw [hb2.cell]; rfl
  have hlW := (hl.keep (Same.mono hkW hS)).more (T := fun i => i < W.heap.size) (fun i hi => by have := hS i hi; omega)
  have HKW := Lib.hid hkW
  have HB2 := Lib.hid hb2
  have HB4 := Lib.hid hb4
  have HLW := Lib.hid hlW
  have E1 := Lib.hid e1
  have HS := Lib.hid hS
  have HP := Lib.hid hp
  clear hkW hb2 hb4 hlW e1 hS hp
  clear hl
  go_enter Tryd.func39, Tryd.ntmps39
  go_upto_region 1 with fail
  clear hW
  have e1 := E1.out
  go_wp2_with fail
  clear e1
  go_loopw [9] (fun i wr => RcRel W evs frm la lb ord i wr) (fun i _ => p2 - (intOf i).toNat)
  case atStart => exact ⟨0, rfl, Nat.zero_le _, rfl, Same.refl _ _⟩
  case round =>
    obtain ⟨k, rfl, hkl, hrc, hkr⟩ := hrel
    have hzr := hkr.size
    have hbr := hkr.blk HB2.out HB2.out.lt
    have hbl := hkr.blk HB4.out HB4.out.lt
    have e1 : wr.cell? ⟨w.heap.size, 1, none⟩ = some (.slice B2 p2 q2) := by rw [hbr.cell]; rfl
    by_cases hkn : k < p2
    · obtain ⟨b', off', x, rfl, hbb, hx, hcx⟩ := (HLW.out.keep (Same.mono hkr (fun i hi => hi))).at_ encEv_len hkn
      have hd1 : decide (k < p2) = true := by simpa using hkn
      have hd2 : (0 : Int) ≤ k := by omega
      have hd3 : (k : Int) < p2 := by omega
      have hrg : wr.rangeAt b' (off' + k * 7) [.int .i64 x.kind, .int .i64 x.inc, .int .i64 x.frm, .int .i64 x.sInc, .int .i64 x.sIdx, .int .i64 x.ord, .int .i64 x.val] := hcx
      have hrc2 := hrc.trans (recvAt_get hx)
      have hkl1 : k + 1 ≤ evs.length := by have := HP.out; omega
      clear hcx hx hrc
      have HRG := Lib.hid hrg
      have HRC2 := Lib.hid hrc2
      have HKR := Lib.hid hkr
      have HBR := Lib.hid hbr
      have HBL := Lib.hid hbl
      have HKL1 := Lib.hid hkl1
      clear hrg hrc2 hkr hbr hbl hkl1
      go_upto_region 5 with (first
        | (refine wpList_load_mid rfl _ (.tmp 21) rfl b' (off' + k * 7) rfl [.int .i64 x.kind, .int .i64 x.inc, .int .i64 x.frm, .int .i64 x.sInc, .int .i64 x.sIdx, .int .i64 x.ord, .int .i64 x.val] _ HRG.out Tryd.underlying51 rfl (by kernel_rfl) ?_)
        | (refine wpList_store_all rfl _ (.tmp 10) (.tmp 22) rfl wr.heap.size 51 _ [.int .i64 x.kind, .int .i64 x.inc, .int .i64 x.frm, .int .i64 x.sInc, .int .i64 x.sIdx, .int .i64 x.ord, .int .i64 x.val] rfl rfl (Blk.new _ _ _) rfl (by kernel_rfl) rfl ?_; intro w7 hb7 hs7))
      have hk7 : Keep wr w7 := Keep.write (Keep.new _ _) hs7 (Nat.le_refl _)
      have bl7 := hk7.blk HBL.out HBL.out.lt
      have kk7 := Keep.trans HKR.out hk7
      clear e1
      have y0 : w7.cell? ⟨wr.heap.size, 0, none⟩ = some (.int .i64 x.kind) := by rw [hb7.cell]; rfl
      have y2 : w7.cell? ⟨wr.heap.size, 2, none⟩ = some (.int .i64 x.frm) := by rw [hb7.cell]; rfl
      have y5 : w7.cell? ⟨wr.heap.size, 5, none⟩ = some (.int .i64 x.ord) := by rw [hb7.cell]; rfl
      have HB7 := Lib.hid hb7
      have BL7 := Lib.hid bl7
      have KK7 := Lib.hid kk7
      clear hb7 bl7 kk7
      clear hs7 hk7
      have fin : ∀ q : Bool, recvP frm la lb ord x = q → q = false → RcRel W evs frm la lb ord (.int .i64 (k + 1)) w7 := fun q h1 h2 => ⟨k + 1, by simp, HKL1.out, by have := HRC2.out; rw [h1, h2] at this; simpa using this, KK7.out⟩
      have fin2 : recvP frm la lb ord x = true → RecvPost (recvS evs frm la lb ord) w (.returned (.int .i64 (k + 1))) w7 := fun h1 => ⟨by have := HRC2.out; rw [h1] at this; simp [this], Keep.trans HKW.out KK7.out⟩
      have FIN := Lib.hid fin
      have FIN2 := Lib.hid fin2
      clear fin fin2
      by_cases c0 : x.kind = 1
      case neg =>
        have t0 : (x.kind == 1) = false := by simpa using c0
        have hfin := FIN.out false (by simp [recvP, c0]) rfl
        have HFIN := Lib.hid hfin
        clear hfin
        clear c0
        go_wp2_with fail
        go_roundw
        case rel => exact HFIN.out
        case measure => simp [intOf]; omega
      have t0 : (x.kind == 1) = true := by simpa using c0
      by_cases c1 : x.frm = frm
      case neg =>
        have t1 : (x.frm == frm) = false := by simpa using c1
        have hfin := FIN.out false (by simp [recvP, c1]) rfl
        have HFIN := Lib.hid hfin
        clear hfin
        clear c0 c1
        go_wp2_with fail
        go_roundw
        case rel => exact HFIN.out
        case measure => simp [intOf]; omega
      have t1 : (x.frm == frm) = true := by simpa using c1
      by_cases c2 : x.sInc = la
      case neg =>
        have hfin := FIN.out false (by simp [recvP, c2]) rfl
        have HFIN := Lib.hid hfin
        clear hfin
        go_wp2_with (first
          | (refine wpList_load_blkg (by rfl) _ (.tmp 33) rfl wr.heap.size 3 51 _ [.int .i64 x.sInc, .int .i64 x.sIdx] _ rfl HB7.out (lab_cells x.kind x.inc x.frm x.sInc x.sIdx x.ord x.val) Tryd.underlying49 rfl (by kernel_rfl) ?_)
          | (refine wpList_load_allg (by rfl) _ (.tmp 6) rfl (w.heap.size + 1) 49 [.int .i64 la, .int .i64 lb] _ rfl BL7.out Tryd.underlying49 rfl (by kernel_rfl) ?_))
        go_roundw
        case rel => exact HFIN.out
        case measure => simp [intOf]; omega
      by_cases c3 : x.sIdx = lb
      case neg =>
        have hfin := FIN.out false (by simp [recvP, c3]) rfl
        have HFIN := Lib.hid hfin
        clear hfin
        go_wp2_with (first
          | (refine wpList_load_blkg (by rfl) _ (.tmp 33) rfl wr.heap.size 3 51 _ [.int .i64 x.sInc, .int .i64 x.sIdx] _ rfl HB7.out (lab_cells x.kind x.inc x.frm x.sInc x.sIdx x.ord x.val) Tryd.underlying49 rfl (by kernel_rfl) ?_)
          | (refine wpList_load_allg (by rfl) _ (.tmp 6) rfl (w.heap.size + 1) 49 [.int .i64 la, .int .i64 lb] _ rfl BL7.out Tryd.underlying49 rfl (by kernel_rfl) ?_))
        go_roundw
        case rel => exact HFIN.out
        case measure => simp [intOf]; omega
      by_cases c4 : x.ord = ord
      case neg =>
        have hfin := FIN.out false (by simp [recvP, c4]) rfl
        have t4 : (x.ord == ord) = false := by simpa using c4
        have HFIN := Lib.hid hfin
        clear hfin
        go_wp2_with (first
          | (refine wpList_load_blkg (by rfl) _ (.tmp 33) rfl wr.heap.size 3 51 _ [.int .i64 x.sInc, .int .i64 x.sIdx] _ rfl HB7.out (lab_cells x.kind x.inc x.frm x.sInc x.sIdx x.ord x.val) Tryd.underlying49 rfl (by kernel_rfl) ?_)
          | (refine wpList_load_allg (by rfl) _ (.tmp 6) rfl (w.heap.size + 1) 49 [.int .i64 la, .int .i64 lb] _ rfl BL7.out Tryd.underlying49 rfl (by kernel_rfl) ?_))
        go_roundw
        case rel => exact HFIN.out
        case measure => simp [intOf]; omega
      have t4 : (x.ord == ord) = true := by simpa using c4
      have hfin := FIN2.out (by simp [recvP, c0, c1, c2, c3, c4])
      have HFIN := Lib.hid hfin
      clear hfin
      go_wp2_with (first
        | (refine wpList_load_blkg (by rfl) _ (.tmp 33) rfl wr.heap.size 3 51 _ [.int .i64 x.sInc, .int .i64 x.sIdx] _ rfl HB7.out (lab_cells x.kind x.inc x.frm x.sInc x.sIdx x.ord x.val) Tryd.underlying49 rfl (by kernel_rfl) ?_)
        | (refine wpList_load_allg (by rfl) _ (.tmp 6) rfl (w.heap.size + 1) 49 [.int .i64 la, .int .i64 lb] _ rfl BL7.out Tryd.underlying49 rfl (by kernel_rfl) ?_))
      go_ret
      exact HFIN.out
    · have hd1 : decide (k < p2) = false := by simpa using hkn
      have hfin : RecvPost (recvS evs frm la lb ord) w (.returned (.int .i64 0)) wr := ⟨by rw [hrc, List.drop_of_length_le (by have := HP.out; omega)]; rfl, Keep.trans HKW.out hkr⟩
      have HFIN := Lib.hid hfin
      have HRC := Lib.hid hrc
      have HKR := Lib.hid hkr
      have HBR := Lib.hid hbr
      have HBL := Lib.hid hbl
      clear hfin hrc hkr hbr hbl
      go_wp2_with fail
      go_ret
      exact HFIN.out
end Go.Proofs.YtecckbkobkfnmaaDoor

-- Ask2
/- Sends of process and ref06: written by gen_ask.py. -/
set_option linter.unusedVariables false
set_option linter.unusedSimpArgs false
set_option maxRecDepth 100000
namespace Go.Proofs.YtecckbkobkfnmaaDoor
open Go.RowKit Go.Proofs

theorem builtS_snd (a b c d : Int) : builtS Tryd.prog 43 1 [(0, .agg #[.int .i64 a, .int .i64 b, .int .i64 c, .int .i64 d])] = some #[.int .i64 a, .int .i64 b, .int .i64 c, .int .i64 d] := by kernel_rfl
set_option maxHeartbeats 8000000 in
theorem psends_any (w : World) (S : Nat → Prop) (B1 B2 B3 B4 : Option Addr) (p1 q1 p2 q2 p3 q3 p4 q4 : Nat) (l : List Snd) (ix : Int) (hS : ∀ i, S i → i < w.heap.size) (hl : Sl encSnd 4 w S B3 p3 q3 l) (hn : l.length ≤ 100000) :
    Calls Tryd.prog 35 #[.agg #[.slice B1 p1 q1, .slice B2 p2 q2, .slice B3 p3 q3, .slice B4 p4 q4], .int .i64 ix] w (SdsPost (sendsAt l ix) w) := by
  obtain ⟨i0, hi0, iz0, is0, ib0⟩ := info_of info_Send
  have hp := hl.1
  have hp3 : p3 ≤ 100000 := by omega
  generalize hW : w.alloc (.cells #[.slice B1 p1 q1, .slice B2 p2 q2, .slice B3 p3 q3, .slice B4 p4 q4] 27) = W
  have hkW : Keep w W := hW ▸ Keep.new w _
  have hb2 : Blk W w.heap.size 27 #[.slice B1 p1 q1, .slice B2 p2 q2, .slice B3 p3 q3, .slice B4 p4 q4] := hW ▸ Blk.new w _ _
  have hz : w.heap.size < W.heap.size := hb2.lt
  have e1 : W.cell? ⟨w.heap.size, 2, none⟩ = some (.slice B3 p3 q3) := by rw [hb2.cell]; rfl
  have hlW := (hl.keep (Same.mono hkW hS)).more (T := fun i => i < W.heap.size) (fun i hi => by have := hS i hi; omega)
  have HKW := Lib.hid hkW
  have HB2 := Lib.hid hb2
  have HLW := Lib.hid hlW
  have E1 := Lib.hid e1
  have HS := Lib.hid hS
  have HP := Lib.hid hp
  have HI0 := Lib.hid hi0
  have IZ0 := Lib.hid iz0
  have IS0 := Lib.hid is0
  have IB0 := Lib.hid ib0
  clear hkW hb2 hlW e1 hS hp hi0 iz0 is0 ib0
  clear hl
  go_enter Tryd.func35, Tryd.ntmps35
  go_upto_region 1 with fail
  clear hW
  have e1 := E1.out
  go_wp2_with fail
  clear e1
  go_loopw [5, 11] (fun v i wr => SdsRel W.heap.size ix l W v i wr) (fun _ i _ => p3 - (intOf i).toNat)
  case atStart => exact ⟨0, rfl, Nat.zero_le _, World.ownsRow_nil _ _ _ _, Same.refl _ _⟩
  case round =>
    obtain ⟨k, rfl, hkl, how, hkr⟩ := hrel
    obtain ⟨Av, cv, rfl, hv1, hv2⟩ := own_form how
    have hzr := hkr.size
    have hbr := hkr.blk HB2.out HB2.out.lt
    have e1 : wr.cell? ⟨w.heap.size, 2, none⟩ = some (.slice B3 p3 q3) := by rw [hbr.cell]; rfl
    have hsl := sendsAt_len l ix k hkl
    by_cases hkn : k < p3
    · obtain ⟨b', off', y, rfl, hbb, hy, hcy⟩ := (HLW.out.keep (Same.mono hkr (fun i hi => hi))).at_ encSnd_len hkn
      have hd1 : decide (k < p3) = true := by simpa using hkn
      have hd2 : (0 : Int) ≤ k := by omega
      have hd3 : (k : Int) < p3 := by omega
      have hrg : wr.rangeAt b' (off' + k * 4) [.int .i64 y.idx, .int .i64 y.ord, .int .i64 y.to, .int .i64 y.val] := hcy
      have hst := sendsAt_take ix hy
      have hkl1 : k + 1 ≤ l.length := by have := HP.out; omega
      clear hcy hy
      generalize hm : (sendsAt (l.take k) ix).length = m at *
      have HRG := Lib.hid hrg
      have HST := Lib.hid hst
      have HKR := Lib.hid hkr
      have HBR := Lib.hid hbr
      have HKL1 := Lib.hid hkl1
      have HOW := Lib.hid how
      have HM := Lib.hid hm
      clear hrg hst hkr hbr hkl1 how hm
      go_upto_region 5 with (first
        | (refine wpList_load_mid rfl _ (.tmp 13) rfl b' (off' + k * 4) rfl [.int .i64 y.idx, .int .i64 y.ord, .int .i64 y.to, .int .i64 y.val] _ HRG.out Tryd.underlying43 rfl (by kernel_rfl) ?_)
        | (refine wpList_store_all rfl _ (.tmp 7) (.tmp 14) rfl wr.heap.size 43 _ [.int .i64 y.idx, .int .i64 y.ord, .int .i64 y.to, .int .i64 y.val] rfl rfl (Blk.new _ _ _) rfl (by kernel_rfl) rfl ?_; intro w7 hb7 hs7))
      have hk7 : Keep wr w7 := Keep.write (Keep.new _ _) hs7 (Nat.le_refl _)
      have y0 : w7.cell? ⟨wr.heap.size, 0, none⟩ = some (.int .i64 y.idx) := by rw [hb7.cell]; rfl
      have kk7 := Keep.trans HKR.out hk7
      have ow7 := ownsRow_same HOW.out hk7 (fun i hi => hi.2)
      have hz7 := kk7.size
      have HB7 := Lib.hid hb7
      have KK7 := Lib.hid kk7
      have OW7 := Lib.hid ow7
      clear hb7 kk7 ow7
      clear hs7 hk7 e1
      by_cases hq : y.idx = ix
      · have t0 : (y.idx == ix) = true := by simpa using hq
        clear hq
        go_wp2_with (first
          | (refine wpList_load_all rfl _ (.tmp 7) rfl wr.heap.size 43 [.int .i64 y.idx, .int .i64 y.ord, .int .i64 y.to, .int .i64 y.val] _ rfl HB7.out Tryd.underlying43 rfl (by kernel_rfl) ?_)
          | (refine wpList_buildS rfl 24 43 1 _ rfl Tryd.underlying24 _ [(0, .agg #[.int .i64 y.idx, .int .i64 y.ord, .int .i64 y.to, .int .i64 y.val])] rfl (builtS_snd _ _ _ _) ?_)
          | (refine wpList_append_any _ rfl (.tmp 19) (.tmp 21) 24 rfl W.heap.size 43 i0 _ 4 32 Tryd.underlying24 HI0.out IZ0.out IS0.out IB0.out rfl (by omega) (.slice Av m cv) m ((sendsAt (l.take k) ix).flatMap encSnd) rfl (ownsRow_same OW7.out (Keep.new _ _) (fun i hi => hi.2)) (fun i => i = w7.heap.size) (some ⟨w7.heap.size, 0, none⟩) 1 1 (encSnd y) rfl (Reads.new rfl) (encSnd_one _) (by simp [maxLen]; omega) (by omega) (Nat.le_trans hz7 (Keep.new _ _).size) ?_
             intro vz wz howz hgz hatz))
        have hkz : Keep W wz := Same.append (Keep.trans KK7.out (Keep.new _ _)) (ownsRow_same OW7.out (Keep.new _ _) (fun i hi => hi.2)) hgz (fun i hi => hi) (Nat.le_trans hz7 (Keep.new _ _).size)
        have hfin : SdsRel W.heap.size ix l W vz (.int .i64 (k + 1)) wz := by
          refine ⟨k + 1, by simp, HKL1.out, ?_, hkz⟩
          rw [HST.out, t0]
          simp only [if_true, List.length_append, List.length_cons, List.length_nil, List.flatMap_append, List.flatMap_cons, List.flatMap_nil, List.append_nil, Nat.zero_add]
          rw [HM.out]
          exact howz
        have HFIN := Lib.hid hfin
        clear hfin
        clear hkz howz hgz hatz
        go_roundw
        case rel => exact HFIN.out
        case measure => simp [intOf]; omega
      · have t0 : (y.idx == ix) = false := by simpa using hq
        clear hq
        have hfin : SdsRel W.heap.size ix l W (.slice Av m cv) (.int .i64 (k + 1)) w7 := by
          refine ⟨k + 1, by simp, HKL1.out, ?_, KK7.out⟩
          rw [HST.out, t0]
          simp only [if_false, List.append_nil, Bool.false_eq_true]
          rw [HM.out]
          exact OW7.out
        have HFIN := Lib.hid hfin
        clear hfin
        go_wp2_with fail
        go_roundw
        case rel => exact HFIN.out
        case measure => simp [intOf]; omega
    · have hd1 : decide (k < p3) = false := by simpa using hkn
      have hfin : SdsPost (sendsAt l ix) w (.returned (.slice Av (sendsAt (l.take k) ix).length cv)) wr := by
        have hk : l.take k = l := List.take_of_length_le (by have := HP.out; omega)
        rw [hk] at how ⊢
        obtain ⟨_, _, ee, q⟩ := Sl.of_own how
        injection ee with e1 _ e2
        subst e1 e2
        exact ⟨_, _, _, rfl, q.more (fun i hi => ⟨by have := hi.1; omega, hi.2⟩), Keep.trans HKW.out hkr⟩
      have HFIN := Lib.hid hfin
      clear hfin
      clear how hkr hbr
      go_wp2_with fail
      go_ret
      exact HFIN.out
set_option maxHeartbeats 8000000 in
theorem rsends_any (w : World) (S : Nat → Prop) (B1 B2 B3 B4 : Option Addr) (p1 q1 p2 q2 p3 q3 p4 q4 : Nat) (l : List Snd) (ix : Int) (hS : ∀ i, S i → i < w.heap.size) (hl : Sl encSnd 4 w S B3 p3 q3 l) (hn : l.length ≤ 100000) :
    Calls Tryd.prog 36 #[.agg #[.slice B1 p1 q1, .slice B2 p2 q2, .slice B3 p3 q3, .slice B4 p4 q4], .int .i64 ix] w (SdsPost (sendsAt l ix) w) := by
  obtain ⟨i0, hi0, iz0, is0, ib0⟩ := info_of info_Send
  have hp := hl.1
  have hp3 : p3 ≤ 100000 := by omega
  generalize hW : w.alloc (.cells #[.slice B1 p1 q1, .slice B2 p2 q2, .slice B3 p3 q3, .slice B4 p4 q4] 27) = W
  have hkW : Keep w W := hW ▸ Keep.new w _
  have hb2 : Blk W w.heap.size 27 #[.slice B1 p1 q1, .slice B2 p2 q2, .slice B3 p3 q3, .slice B4 p4 q4] := hW ▸ Blk.new w _ _
  have hz : w.heap.size < W.heap.size := hb2.lt
  have e1 : W.cell? ⟨w.heap.size, 2, none⟩ = some (.slice B3 p3 q3) := by rw [hb2.cell]; rfl
  have hlW := (hl.keep (Same.mono hkW hS)).more (T := fun i => i < W.heap.size) (fun i hi => by have := hS i hi; omega)
  have HKW := Lib.hid hkW
  have HB2 := Lib.hid hb2
  have HLW := Lib.hid hlW
  have E1 := Lib.hid e1
  have HS := Lib.hid hS
  have HP := Lib.hid hp
  have HI0 := Lib.hid hi0
  have IZ0 := Lib.hid iz0
  have IS0 := Lib.hid is0
  have IB0 := Lib.hid ib0
  clear hkW hb2 hlW e1 hS hp hi0 iz0 is0 ib0
  clear hl
  go_enter Tryd.func36, Tryd.ntmps36
  go_upto_region 1 with fail
  clear hW
  have e1 := E1.out
  go_wp2_with fail
  clear e1
  go_loopw [5, 6] (fun v i wr => SdsRel W.heap.size ix l W v i wr) (fun _ i _ => p3 - (intOf i).toNat)
  case atStart => exact ⟨0, rfl, Nat.zero_le _, World.ownsRow_nil _ _ _ _, Same.refl _ _⟩
  case round =>
    obtain ⟨k, rfl, hkl, how, hkr⟩ := hrel
    obtain ⟨Av, cv, rfl, hv1, hv2⟩ := own_form how
    have hzr := hkr.size
    have hbr := hkr.blk HB2.out HB2.out.lt
    have e1 : wr.cell? ⟨w.heap.size, 2, none⟩ = some (.slice B3 p3 q3) := by rw [hbr.cell]; rfl
    have hsl := sendsAt_len l ix k hkl
    by_cases hkn : k < p3
    · obtain ⟨b', off', y, rfl, hbb, hy, hcy⟩ := (HLW.out.keep (Same.mono hkr (fun i hi => hi))).at_ encSnd_len hkn
      have hd1 : decide (k < p3) = true := by simpa using hkn
      have hd2 : (0 : Int) ≤ k := by omega
      have hd3 : (k : Int) < p3 := by omega
      have hrg : wr.rangeAt b' (off' + k * 4) [.int .i64 y.idx, .int .i64 y.ord, .int .i64 y.to, .int .i64 y.val] := hcy
      have hst := sendsAt_take ix hy
      have hkl1 : k + 1 ≤ l.length := by have := HP.out; omega
      clear hcy hy
      generalize hm : (sendsAt (l.take k) ix).length = m at *
      have HRG := Lib.hid hrg
      have HST := Lib.hid hst
      have HKR := Lib.hid hkr
      have HBR := Lib.hid hbr
      have HKL1 := Lib.hid hkl1
      have HOW := Lib.hid how
      have HM := Lib.hid hm
      clear hrg hst hkr hbr hkl1 how hm
      have y0 : wr.cell? ⟨b', off' + k * 4, none⟩ = some (.int .i64 y.idx) := HRG.out 0 _ rfl
      obtain ⟨w7, rfl⟩ : ∃ w7, w7 = wr := ⟨_, rfl⟩
      have kk7 := HKR.out
      have ow7 := HOW.out
      have hz7 := kk7.size
      have KK7 := Lib.hid kk7
      have OW7 := Lib.hid ow7
      clear kk7 ow7
      by_cases hq : y.idx = ix
      · have t0 : (y.idx == ix) = true := by simpa using hq
        clear hq
        go_wp2_with (first
          | (refine wpList_load_mid rfl _ (.tmp 26) rfl b' (off' + k * 4) rfl [.int .i64 y.idx, .int .i64 y.ord, .int .i64 y.to, .int .i64 y.val] _ HRG.out Tryd.underlying43 rfl (by kernel_rfl) ?_)
          | (refine wpList_buildS rfl 24 43 1 _ rfl Tryd.underlying24 _ [(0, .agg #[.int .i64 y.idx, .int .i64 y.ord, .int .i64 y.to, .int .i64 y.val])] rfl (builtS_snd _ _ _ _) ?_)
          | (refine wpList_append_any _ rfl (.tmp 22) (.tmp 28) 24 rfl W.heap.size 43 i0 _ 4 32 Tryd.underlying24 HI0.out IZ0.out IS0.out IB0.out rfl (by omega) (.slice Av m cv) m ((sendsAt (l.take k) ix).flatMap encSnd) rfl (ownsRow_same OW7.out (Keep.new _ _) (fun i hi => hi.2)) (fun i => i = w7.heap.size) (some ⟨w7.heap.size, 0, none⟩) 1 1 (encSnd y) rfl (Reads.new rfl) (encSnd_one _) (by simp [maxLen]; omega) (by omega) (Nat.le_trans hz7 (Keep.new _ _).size) ?_
             intro vz wz howz hgz hatz))
        have hkz : Keep W wz := Same.append (Keep.trans KK7.out (Keep.new _ _)) (ownsRow_same OW7.out (Keep.new _ _) (fun i hi => hi.2)) hgz (fun i hi => hi) (Nat.le_trans hz7 (Keep.new _ _).size)
        have hfin : SdsRel W.heap.size ix l W vz (.int .i64 (k + 1)) wz := by
          refine ⟨k + 1, by simp, HKL1.out, ?_, hkz⟩
          rw [HST.out, t0]
          simp only [if_true, List.length_append, List.length_cons, List.length_nil, List.flatMap_append, List.flatMap_cons, List.flatMap_nil, List.append_nil, Nat.zero_add]
          rw [HM.out]
          exact howz
        have HFIN := Lib.hid hfin
        clear hfin
        clear hkz howz hgz hatz
        go_roundw
        case rel => exact HFIN.out
        case measure => simp [intOf]; omega
      · have t0 : (y.idx == ix) = false := by simpa using hq
        clear hq
        have hfin : SdsRel W.heap.size ix l W (.slice Av m cv) (.int .i64 (k + 1)) w7 := by
          refine ⟨k + 1, by simp, HKL1.out, ?_, KK7.out⟩
          rw [HST.out, t0]
          simp only [if_false, List.append_nil, Bool.false_eq_true]
          rw [HM.out]
          exact OW7.out
        have HFIN := Lib.hid hfin
        clear hfin
        go_wp2_with fail
        go_roundw
        case rel => exact HFIN.out
        case measure => simp [intOf]; omega
    · have hd1 : decide (k < p3) = false := by simpa using hkn
      have hfin : SdsPost (sendsAt l ix) w (.returned (.slice Av (sendsAt (l.take k) ix).length cv)) wr := by
        have hk : l.take k = l := List.take_of_length_le (by have := HP.out; omega)
        rw [hk] at how ⊢
        obtain ⟨_, _, ee, q⟩ := Sl.of_own how
        injection ee with e1 _ e2
        subst e1 e2
        exact ⟨_, _, _, rfl, q.more (fun i hi => ⟨by have := hi.1; omega, hi.2⟩), Keep.trans HKW.out hkr⟩
      have HFIN := Lib.hid hfin
      clear hfin
      clear how hkr hbr
      go_wp2_with fail
      go_ret
      exact HFIN.out
end Go.Proofs.YtecckbkobkfnmaaDoor

-- FlatIn
/- Slices of structs of integers that came in, as the row's frame gives them, read as lists. No program in sight. -/
set_option linter.unusedVariables false
namespace Go.Proofs.YtecckbkobkfnmaaDoor
open Go.RowKit Go.Deep

section
variable {H : Type} {enc' : TypeId × Value → H} {P : Program} {w : World} {base : Nat} {spare : Nat → Bool} {held : Bool}
/-- A type whose values are k cells, each an int. -/
def Flat (enc' : TypeId × Value → H) (P : Program) (w : World) (base : Nat) (spare : Nat → Bool) (held : Bool) (t : TypeId) (k : Nat) : Prop :=
  ∀ (fuel : Nat) (cs : List Value) (x : DataW H × List MemPlace), DataW.trod enc' P w base spare held fuel t cs = some x → cs.length = k ∧ ∀ j, j < k → ∃ n, cs[j]? = some (.int .i64 n) ∧ (Lit.int .i64 n).wf = true
theorem flat_i64 {t : TypeId} (ht : P.underlying t = some (.int .i64)) : Flat enc' P w base spare held t 1 := by
  intro fuel cs x h
  obtain ⟨n, rfl, _, hn⟩ := DataW.trod_int ht h
  exact ⟨rfl, fun j hj => ⟨n, by obtain rfl : j = 0 := by omega
                                 rfl, hn⟩⟩
theorem flat_struct {t : TypeId} {fs : Array Field} {k : Nat} (ht : P.underlying t = some (.struct fs)) (hC : P.cellsOf t = k)
    (hcov : ∀ j, j < k → ∃ (i : Nat) (f : Field) (m : Nat), fs[i]? = some f ∧ P.cellsOf f.type = m ∧ f.offset ≤ j ∧ j < f.offset + m ∧ Flat enc' P w base spare held f.type m) : Flat enc' P w base spare held t k := by
  intro fuel cs x h
  obtain ⟨xs, n, _, _, hlen, hxl, hf⟩ := DataW.trod_struct ht h
  refine ⟨hlen.trans hC, fun j hj => ?_⟩
  obtain ⟨i, f, m, hif, hm, h1, h2, hfl⟩ := hcov j hj
  have hi : i < fs.size := (Array.getElem?_eq_some_iff.1 hif).1
  have ht := hf i f hif
  rw [hm, List.getElem?_eq_getElem (show i < xs.length by omega)] at ht
  obtain ⟨_, hall⟩ := hfl _ _ _ ht
  obtain ⟨v, hv, hw⟩ := hall (j - f.offset) (by omega)
  refine ⟨v, ?_, hw⟩
  rw [List.getElem?_take, if_pos (by omega), List.getElem?_drop, show f.offset + (j - f.offset) = j by omega] at hv
  exact hv
theorem slr_of_trod {α : Type} {size : Nat} {R : List Value → α → Prop} {t e : TypeId} {fuel : Nat} {A : Option Addr} {len cap : Nat} {x : DataW H × List MemPlace} (hsz : 0 < size) (ht : P.underlying t = some (.slice e)) (hC : P.cellsOf e = size)
    (hel : ∀ (n : Nat) (cs : List Value) (y : DataW H × List MemPlace), DataW.trod enc' P w base spare held n e cs = some y → cs.length = size ∧ ∃ a, R cs a)
    (h : DataW.trod enc' P w base spare held fuel t [.slice A len cap] = some x) : ∃ l : List α, SlR w (· < w.heap.size) size R A len cap l := by
  rcases open_slice ht h with ⟨e0, _⟩ | ⟨a, len', cap', m, n, D, Pl, ecs, _, hl, hm, hmm, _, hi⟩
  · simp at e0
    obtain ⟨rfl, rfl, rfl⟩ := e0
    exact ⟨[], SlR.nil_⟩
  · simp at ecs
    obtain ⟨rfl, rfl, rfl⟩ := ecs
    rw [hC] at hi
    have hlm : len ≤ m := by rw [hmm]; split <;> omega
    have key : ∀ k, k ≤ len → ∃ (css : List (List Value)) (l : List α), css.length = k ∧ l.length = k ∧ (∀ cs ∈ css, cs.length = size) ∧ (∀ (i : Nat) (cs : List Value) (b : α), css[i]? = some cs → l[i]? = some b → R cs b) ∧
        (∀ (i : Nat) (cs : List Value), css[i]? = some cs → ∀ j, j < size → w.cell? ((a.add (i * size)).add j) = cs[j]?) := by
      intro k
      induction k with
      | zero => intro _; exact ⟨[], [], rfl, rfl, by simp, by simp, by simp⟩
      | succ k ih =>
        intro hk
        obtain ⟨css, l, h1, h2, h3, h4, h5⟩ := ih (by omega)
        obtain ⟨cs, hcs, htr⟩ := hi k (by omega)
        obtain ⟨hcl, b, hb⟩ := hel _ _ _ htr
        obtain ⟨_, _, hat⟩ := World.cells?_some hcs
        refine ⟨css ++ [cs], l ++ [b], by simp [h1], by simp [h2], fun c hc => ?_, fun i c d e1 e2 => ?_, fun i c e1 j hj => ?_⟩
        · rcases List.mem_append.1 hc with h | h
          · exact h3 c h
          · simp at h; subst h; exact hcl
        · rcases Nat.lt_or_ge i k with h | h
          · rw [List.getElem?_append_left (by omega)] at e1 e2
            exact h4 i c d e1 e2
          · rw [List.getElem?_append_right (by omega)] at e1 e2
            rw [h1] at e1
            rw [h2] at e2
            rcases Nat.eq_or_lt_of_le h with h' | h'
            · subst h'
              simp at e1 e2
              subst e1 e2
              exact hb
            · rw [List.getElem?_eq_none (by simp; omega)] at e1
              cases e1
        · rcases Nat.lt_or_ge i k with h | h
          · rw [List.getElem?_append_left (by omega)] at e1
            exact h5 i c e1 j hj
          · rw [List.getElem?_append_right (by omega), h1] at e1
            rcases Nat.eq_or_lt_of_le h with h' | h'
            · subst h'
              simp at e1
              subst e1
              exact hat j hj
            · rw [List.getElem?_eq_none (by simp; omega)] at e1
              cases e1
    obtain ⟨css, l, h1, h2, h3, h4, h5⟩ := key len (Nat.le_refl _)
    refine ⟨l, h2.symm, hl, hm, css, h1, h3, ⟨?_, fun hn => ?_⟩, h4⟩
    · rw [List.length_flatten, show css.map List.length = List.replicate css.length size from List.eq_replicate_iff.2 ⟨by simp, fun b hb => by obtain ⟨c, hc, rfl⟩ := List.mem_map.1 hb; exact h3 c hc⟩]
      simp [h1]
    · obtain ⟨b, off, spot⟩ := a
      have h0 : w.cell? ((Addr.add ⟨b, off, spot⟩ (0 * size)).add 0) = (css[0]'(by omega))[0]? := h5 0 _ (List.getElem?_eq_getElem (by omega)) 0 hsz
      rw [List.getElem?_eq_getElem (by rw [h3 _ (List.getElem_mem _)]; exact hsz)] at h0
      have hs : spot = none := by simpa [Addr.add] using World.cell?_spot h0
      subst hs
      refine ⟨b, off, rfl, ?_, fun j u hu => ?_⟩
      · have := World.block_lt_of_cell? w _ h0
        simpa [Addr.add] using this
      · have hjl : j < len * size := by
          have := (List.getElem?_eq_some_iff.1 hu).1
          rw [List.length_flatten, show css.map List.length = List.replicate css.length size from List.eq_replicate_iff.2 ⟨by simp, fun b hb => by obtain ⟨c, hc, rfl⟩ := List.mem_map.1 hb; exact h3 c hc⟩] at this
          simpa [h1] using this
        have hq : j / size < len := Nat.div_lt_of_lt_mul (by rw [Nat.mul_comm]; exact hjl)
        have hr : j % size < size := Nat.mod_lt _ hsz
        have hj : j / size * size + j % size = j := by rw [Nat.mul_comm]; exact Nat.div_add_mod j size
        have hget := flatten_get css (j / size) (j % size) (by omega) h3 hr
        rw [hj, hu] at hget
        have hc := h5 (j / size) _ (List.getElem?_eq_getElem (by omega)) (j % size) hr
        rw [add_lit', add_lit', Nat.add_assoc, hj] at hc
        rw [hc, ← hget]
theorem sl_of_slr {α : Type} {enc : α → List Value} {size : Nat} {S : Nat → Prop} {A : Option Addr} {n c : Nat} {l : List α} (h : SlR w S size (fun cs a => cs = enc a) A n c l) : Sl enc size w S A n c l := by
  obtain ⟨h1, h2, h3, css, h4, h5, h6, h7⟩ := h
  refine ⟨h1, h2, h3, ?_⟩
  have e : css.flatten = l.flatMap enc := by
    rw [List.flatMap_def]
    congr 1
    apply List.ext_getElem?
    intro i
    rw [List.getElem?_map]
    rcases Nat.lt_or_ge i n with hi | hi
    · rw [List.getElem?_eq_getElem (show i < css.length by omega), List.getElem?_eq_getElem (show i < l.length by omega)]
      simp only [Option.map_some]
      rw [h7 i _ _ (List.getElem?_eq_getElem (by omega)) (List.getElem?_eq_getElem (by omega))]
    · rw [List.getElem?_eq_none (by omega), List.getElem?_eq_none (by omega)]
      rfl
  rw [← e]
  exact h6
end
end Go.Proofs.YtecckbkobkfnmaaDoor

-- StateIn
/- A state that came in. -/
set_option linter.unusedVariables false
set_option maxRecDepth 100000
namespace Go.Proofs.YtecckbkobkfnmaaDoor
open Go.RowKit Go.Deep Go.Proofs Go.Joins

section
variable {H : Type} {enc' : TypeId × Value → H} {w : World} {base : Nat} {spare : Nat → Bool} {held : Bool}
theorem flat_Label : Flat enc' Tryd.prog w base spare held 49 2 :=
  flat_struct Tryd.underlying49 (by kernel_rfl) fun j hj => by
    match j, hj with
    | 0, _ => exact ⟨0, _, 1, rfl, by kernel_rfl, by decide, by decide, flat_i64 Tryd.underlying3⟩
    | 1, _ => exact ⟨1, _, 1, rfl, by kernel_rfl, by decide, by decide, flat_i64 Tryd.underlying3⟩
theorem flat_Event : Flat enc' Tryd.prog w base spare held 51 7 :=
  flat_struct Tryd.underlying51 (by kernel_rfl) fun j hj => by
    match j, hj with
    | 0, _ => exact ⟨0, _, 1, rfl, by kernel_rfl, by decide, by decide, flat_i64 Tryd.underlying3⟩
    | 1, _ => exact ⟨1, _, 1, rfl, by kernel_rfl, by decide, by decide, flat_i64 Tryd.underlying3⟩
    | 2, _ => exact ⟨2, _, 1, rfl, by kernel_rfl, by decide, by decide, flat_i64 Tryd.underlying3⟩
    | 3, _ => exact ⟨3, _, 2, rfl, by kernel_rfl, by decide, by decide, flat_Label⟩
    | 4, _ => exact ⟨3, _, 2, rfl, by kernel_rfl, by decide, by decide, flat_Label⟩
    | 5, _ => exact ⟨4, _, 1, rfl, by kernel_rfl, by decide, by decide, flat_i64 Tryd.underlying3⟩
    | 6, _ => exact ⟨5, _, 1, rfl, by kernel_rfl, by decide, by decide, flat_i64 Tryd.underlying3⟩
theorem flat_Send : Flat enc' Tryd.prog w base spare held 43 4 :=
  flat_struct Tryd.underlying43 (by kernel_rfl) fun j hj => by
    match j, hj with
    | 0, _ => exact ⟨0, _, 1, rfl, by kernel_rfl, by decide, by decide, flat_i64 Tryd.underlying3⟩
    | 1, _ => exact ⟨1, _, 1, rfl, by kernel_rfl, by decide, by decide, flat_i64 Tryd.underlying3⟩
    | 2, _ => exact ⟨2, _, 1, rfl, by kernel_rfl, by decide, by decide, flat_i64 Tryd.underlying3⟩
    | 3, _ => exact ⟨3, _, 1, rfl, by kernel_rfl, by decide, by decide, flat_i64 Tryd.underlying3⟩
theorem flat_Output : Flat enc' Tryd.prog w base spare held 45 2 :=
  flat_struct Tryd.underlying45 (by kernel_rfl) fun j hj => by
    match j, hj with
    | 0, _ => exact ⟨0, _, 1, rfl, by kernel_rfl, by decide, by decide, flat_i64 Tryd.underlying3⟩
    | 1, _ => exact ⟨1, _, 1, rfl, by kernel_rfl, by decide, by decide, flat_i64 Tryd.underlying3⟩
theorem el_Int (n : Nat) (cs : List Value) (y : DataW H × List MemPlace) (h : DataW.trod enc' Tryd.prog w base spare held n 3 cs = some y) : cs.length = 1 ∧ ∃ d : Int, cs = encI d := by
  obtain ⟨hl, hall⟩ := flat_i64 Tryd.underlying3 n cs y h
  refine ⟨hl, ?_⟩
  obtain ⟨a0, h0, _⟩ := hall 0 (by omega)
  match cs, hl with
  | [c0], _ =>
    simp at h0
    subst h0
    exact ⟨a0, rfl⟩
theorem el_Event (n : Nat) (cs : List Value) (y : DataW H × List MemPlace) (h : DataW.trod enc' Tryd.prog w base spare held n 51 cs = some y) : cs.length = 7 ∧ ∃ d : Ev, cs = encEv d := by
  obtain ⟨hl, hall⟩ := flat_Event n cs y h
  refine ⟨hl, ?_⟩
  obtain ⟨a0, h0, _⟩ := hall 0 (by omega)
  obtain ⟨a1, h1, _⟩ := hall 1 (by omega)
  obtain ⟨a2, h2, _⟩ := hall 2 (by omega)
  obtain ⟨a3, h3, _⟩ := hall 3 (by omega)
  obtain ⟨a4, h4, _⟩ := hall 4 (by omega)
  obtain ⟨a5, h5, _⟩ := hall 5 (by omega)
  obtain ⟨a6, h6, _⟩ := hall 6 (by omega)
  match cs, hl with
  | [c0, c1, c2, c3, c4, c5, c6], _ =>
    simp at h0 h1 h2 h3 h4 h5 h6
    subst h0 h1 h2 h3 h4 h5 h6
    exact ⟨⟨a0, a1, a2, a3, a4, a5, a6⟩, rfl⟩
theorem el_Send (n : Nat) (cs : List Value) (y : DataW H × List MemPlace) (h : DataW.trod enc' Tryd.prog w base spare held n 43 cs = some y) : cs.length = 4 ∧ ∃ d : Snd, cs = encSnd d := by
  obtain ⟨hl, hall⟩ := flat_Send n cs y h
  refine ⟨hl, ?_⟩
  obtain ⟨a0, h0, _⟩ := hall 0 (by omega)
  obtain ⟨a1, h1, _⟩ := hall 1 (by omega)
  obtain ⟨a2, h2, _⟩ := hall 2 (by omega)
  obtain ⟨a3, h3, _⟩ := hall 3 (by omega)
  match cs, hl with
  | [c0, c1, c2, c3], _ =>
    simp at h0 h1 h2 h3
    subst h0 h1 h2 h3
    exact ⟨⟨a0, a1, a2, a3⟩, rfl⟩
theorem el_Output (n : Nat) (cs : List Value) (y : DataW H × List MemPlace) (h : DataW.trod enc' Tryd.prog w base spare held n 45 cs = some y) : cs.length = 2 ∧ ∃ d : Outp, cs = encOut d := by
  obtain ⟨hl, hall⟩ := flat_Output n cs y h
  refine ⟨hl, ?_⟩
  obtain ⟨a0, h0, _⟩ := hall 0 (by omega)
  obtain ⟨a1, h1, _⟩ := hall 1 (by omega)
  match cs, hl with
  | [c0, c1], _ =>
    simp at h0 h1
    subst h0 h1
    exact ⟨⟨a0, a1⟩, rfl⟩
theorem one_slice {P : Program} {t e : TypeId} {fuel : Nat} {v : Value} {x : DataW H × List MemPlace} (ht : P.underlying t = some (.slice e)) (h : DataW.trod enc' P w base spare held fuel t [v] = some x) : ∃ A len cap, v = .slice A len cap := by
  rcases open_slice ht h with ⟨e0, _⟩ | ⟨a, len, cap, m, n, D, Pl, ecs, _⟩
  · simp at e0
    exact ⟨none, 0, 0, e0⟩
  · simp at ecs
    exact ⟨some a, len, cap, ecs⟩
theorem flat_sl {α : Type} {enc : α → List Value} {size : Nat} {t e : TypeId} {fuel : Nat} {A : Option Addr} {len cap : Nat} {x : DataW H × List MemPlace} (hsz : 0 < size) (ht : Tryd.prog.underlying t = some (.slice e)) (hC : Tryd.prog.cellsOf e = size)
    (hel : ∀ (n : Nat) (cs : List Value) (y : DataW H × List MemPlace), DataW.trod enc' Tryd.prog w base spare held n e cs = some y → cs.length = size ∧ ∃ a, cs = enc a)
    (h : DataW.trod enc' Tryd.prog w base spare held fuel t [.slice A len cap] = some x) : ∃ l : List α, Sl enc size w (· < w.heap.size) A len cap l := by
  obtain ⟨l, hl⟩ := slr_of_trod (R := fun cs a => cs = enc a) hsz ht hC hel h
  exact ⟨l, sl_of_slr hl⟩
theorem state_in {r : Reach} {b0 : Nat} {v : Value} {d : DataW H} {p : List MemPlace} (hv : Value.okWide Tryd.prog w r b0 27 v) (h : DataW.Trod enc' Tryd.prog w base spare held 27 v d p) :
    ∃ (E1 E2 E3 E4 : Option Addr) (n1 c1 n2 c2 n3 c3 n4 c4 : Nat) (s : St), v = .agg #[.slice E1 n1 c1, .slice E2 n2 c2, .slice E3 n3 c3, .slice E4 n4 c4] ∧ StR w (· < w.heap.size) [.slice E1 n1 c1, .slice E2 n2 c2, .slice E3 n3 c3, .slice E4 n4 c4] s := by
  obtain ⟨v0, v1, v2, v3, y0, y1, y2, y3, n, rfl, -, -, h0, h1, h2, h3⟩ := open_agg4 Tryd.underlying27 (by kernel_rfl) (by kernel_rfl) hv h
  obtain ⟨E1, n1, c1, rfl⟩ := one_slice Tryd.underlying22 h0
  obtain ⟨E2, n2, c2, rfl⟩ := one_slice Tryd.underlying23 h1
  obtain ⟨E3, n3, c3, rfl⟩ := one_slice Tryd.underlying24 h2
  obtain ⟨E4, n4, c4, rfl⟩ := one_slice Tryd.underlying25 h3
  obtain ⟨l1, s1⟩ := flat_sl (enc := encI) (by omega) Tryd.underlying22 (by kernel_rfl) el_Int h0
  obtain ⟨l2, s2⟩ := flat_sl (enc := encEv) (by omega) Tryd.underlying23 (by kernel_rfl) el_Event h1
  obtain ⟨l3, s3⟩ := flat_sl (enc := encSnd) (by omega) Tryd.underlying24 (by kernel_rfl) el_Send h2
  obtain ⟨l4, s4⟩ := flat_sl (enc := encOut) (by omega) Tryd.underlying25 (by kernel_rfl) el_Output h3
  exact ⟨E1, E2, E3, E4, n1, c1, n2, c2, n3, c3, n4, c4, ⟨l1, l2, l3, l4⟩, rfl, E1, E2, E3, E4, n1, c1, n2, c2, n3, c3, n4, c4, rfl, s1, s2, s3, s4⟩
end
end Go.Proofs.YtecckbkobkfnmaaDoor

-- StateIn2
/- A state that came in, with the reach of its lists. -/
set_option linter.unusedVariables false
set_option maxRecDepth 100000
namespace Go.Proofs.YtecckbkobkfnmaaDoor
open Go.RowKit Go.Deep Go.Proofs Go.Joins

section
variable {H : Type} {enc' : TypeId × Value → H} {w : World} {base : Nat} {spare : Nat → Bool} {held : Bool}
theorem slice_len {P : Program} {t e : TypeId} {fuel : Nat} {A : Option Addr} {len cap : Nat} {y : DataW H × List MemPlace} (ht : P.underlying t = some (.slice e)) (h : DataW.trod enc' P w base spare held fuel t [.slice A len cap] = some y) : len = 0 ∨ ∃ el sp, y.1 = .slice el sp ∧ el.length = len := by
  rcases open_slice ht h with ⟨e0, _⟩ | ⟨a, len', cap', m, n, D, Pl, ecs, _, _, _, _, hy, _⟩
  · simp at e0
    exact .inl e0.2.1
  · simp at ecs
    obtain ⟨-, rfl, -⟩ := ecs
    exact .inr ⟨_, _, by rw [hy], by simp⟩
theorem state_in2 {r : Reach} {b0 : Nat} {v : Value} {d : DataW H} {p : List MemPlace} (hv : Value.okWide Tryd.prog w r b0 27 v) (h : DataW.Trod enc' Tryd.prog w base spare held 27 v d p) (hw : ∀ n ∈ d.weights Tryd.prog 27, n ≤ reachBytes) :
    ∃ (E1 E2 E3 E4 : Option Addr) (n1 c1 n2 c2 n3 c3 n4 c4 : Nat) (s : St), v = .agg #[.slice E1 n1 c1, .slice E2 n2 c2, .slice E3 n3 c3, .slice E4 n4 c4] ∧ StR w (· < w.heap.size) [.slice E1 n1 c1, .slice E2 n2 c2, .slice E3 n3 c3, .slice E4 n4 c4] s ∧ n1 ≤ 17592186044416 ∧ n3 ≤ 17592186044416 ∧ n4 ≤ 17592186044416 := by
  obtain ⟨v0, v1, v2, v3, y0, y1, y2, y3, n, rfl, hd, -, h0, h1, h2, h3⟩ := open_agg4 Tryd.underlying27 (by kernel_rfl) (by kernel_rfl) hv h
  obtain ⟨E1, n1, c1, rfl⟩ := one_slice Tryd.underlying22 h0
  obtain ⟨E2, n2, c2, rfl⟩ := one_slice Tryd.underlying23 h1
  obtain ⟨E3, n3, c3, rfl⟩ := one_slice Tryd.underlying24 h2
  obtain ⟨E4, n4, c4, rfl⟩ := one_slice Tryd.underlying25 h3
  obtain ⟨l1, s1⟩ := flat_sl (enc := encI) (by omega) Tryd.underlying22 (by kernel_rfl) el_Int h0
  obtain ⟨l2, s2⟩ := flat_sl (enc := encEv) (by omega) Tryd.underlying23 (by kernel_rfl) el_Event h1
  obtain ⟨l3, s3⟩ := flat_sl (enc := encSnd) (by omega) Tryd.underlying24 (by kernel_rfl) el_Send h2
  obtain ⟨l4, s4⟩ := flat_sl (enc := encOut) (by omega) Tryd.underlying25 (by kernel_rfl) el_Output h3
  have hall : (DataW.weightsEach Tryd.prog [22, 23, 24, 25] [y0.1, y1.1, y2.1, y3.1]).all (· ≤ reachBytes) = true := by
    rw [List.all_eq_true]
    intro m hm
    refine decide_eq_true (hw m ?_)
    rw [hd]
    unfold DataW.weights
    rw [Tryd.underlying27]
    exact hm
  have b1 : Tryd.prog.bytesOf 3 = 8 := by kernel_rfl
  have b3 : Tryd.prog.bytesOf 43 = 32 := by kernel_rfl
  have b4 : Tryd.prog.bytesOf 45 = 16 := by kernel_rfl
  refine ⟨E1, E2, E3, E4, n1, c1, n2, c2, n3, c3, n4, c4, ⟨l1, l2, l3, l4⟩, rfl, ⟨E1, E2, E3, E4, n1, c1, n2, c2, n3, c3, n4, c4, rfl, s1, s2, s3, s4⟩, ?_, ?_, ?_⟩
  · rcases slice_len Tryd.underlying22 h0 with hz | ⟨el, sp, he, hl⟩
    · omega
    · have hb := sized_slice hall (j := 0) (t := 22) (e := 3) rfl (by rw [he]; rfl) Tryd.underlying22
      rw [b1] at hb
      simp only [reachBytes] at hb
      omega
  · rcases slice_len Tryd.underlying24 h2 with hz | ⟨el, sp, he, hl⟩
    · omega
    · have hb := sized_slice hall (j := 2) (t := 24) (e := 43) rfl (by rw [he]; rfl) Tryd.underlying24
      rw [b3] at hb
      simp only [reachBytes] at hb
      omega
  · rcases slice_len Tryd.underlying25 h3 with hz | ⟨el, sp, he, hl⟩
    · omega
    · have hb := sized_slice hall (j := 3) (t := 25) (e := 45) rfl (by rw [he]; rfl) Tryd.underlying25
      rw [b4] at hb
      simp only [reachBytes] at hb
      omega
end
end Go.Proofs.YtecckbkobkfnmaaDoor
