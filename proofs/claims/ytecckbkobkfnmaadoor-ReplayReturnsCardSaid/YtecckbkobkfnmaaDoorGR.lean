import Derived.Test.YtecckbkobkfnmaaDoorData
import Derived.Test.YtecckbkobkfnmaaDoorReg
import Derived.Test.YtecckbkobkfnmaaDoorProg
import Derived.Maps.OwnSet
import Derived.Test.YtecckbkobkfnmaaDoorProcS
import Derived.Test.YtecckbkobkfnmaaDoorBlk
import Derived.Test.YtecckbkobkfnmaaDoorGP
import Derived.Test.YtecckbkobkfnmaaDoorGQ
import Derived.Test.YtecckbkobkfnmaaDoorMkProg
import Derived.Test.YtecckbkobkfnmaaDoorMach3
import Derived.Test.YtecckbkobkfnmaaDoorGM
import Derived.Test.YtecckbkobkfnmaaDoorG34
import Derived.Test.YtecckbkobkfnmaaDoorEval2
-- MapEv
/- A map from numbers to events, of the call's own. -/
set_option linter.unusedVariables false
set_option linter.unusedSimpArgs false
set_option maxRecDepth 100000
namespace Go.Proofs.YtecckbkobkfnmaaDoor
open Go.RowKit Go.Proofs

structure Dt where
  proc : Int
  idx : Int
  ev : Ev
def encDt (d : Dt) : List Value := .int .i64 d.proc :: .int .i64 d.idx :: encEv d.ev
theorem encDt_len (d : Dt) : (encDt d).length = 9 := rfl
theorem encDt_one (d : Dt) : ∀ u ∈ encDt d, u.oneCell' = true := by
  intro u hu
  simp [encDt, encEv] at hu
  rcases hu with h | h | h | h | h | h | h | h | h <;> subst h <;> rfl
def zeroEv : Ev := ⟨0, 0, 0, 0, 0, 0, 0⟩
def evD (e : Ev) : DataW Unit := .agg [.lit (.int .i64 e.kind), .lit (.int .i64 e.inc), .lit (.int .i64 e.frm), .lit (.int .i64 e.sInc), .lit (.int .i64 e.sIdx), .lit (.int .i64 e.ord), .lit (.int .i64 e.val)]
def evElem (v : Value) : Option (DataW Unit × List MemPlace) :=
  match v with
  | .agg xs => (match xs.toList with | [.int .i64 a, .int .i64 b, .int .i64 c, .int .i64 d, .int .i64 e, .int .i64 f, .int .i64 g] => some (evD ⟨a, b, c, d, e, f, g⟩, []) | _ => none)
  | _ => none
theorem evElem_mk (e : Ev) : evElem (.agg #[.int .i64 e.kind, .int .i64 e.inc, .int .i64 e.frm, .int .i64 e.sInc, .int .i64 e.sIdx, .int .i64 e.ord, .int .i64 e.val]) = some (evD e, []) := rfl
theorem evD_inj {a b : Ev} (h : evD a = evD b) : a = b := by
  obtain ⟨a1, a2, a3, a4, a5, a6, a7⟩ := a
  obtain ⟨b1, b2, b3, b4, b5, b6, b7⟩ := b
  simp [evD] at h
  simp [h]
theorem evElem_inv {v : Value} {z : DataW Unit × List MemPlace} (h : evElem v = some z) : ∃ e : Ev, v = .agg #[.int .i64 e.kind, .int .i64 e.inc, .int .i64 e.frm, .int .i64 e.sInc, .int .i64 e.sIdx, .int .i64 e.ord, .int .i64 e.val] ∧ z = (evD e, []) := by
  unfold evElem at h
  split at h
  · rename_i xs
    obtain ⟨l⟩ := xs
    split at h
    · rename_i a b c d e f g hl
      simp only at hl
      subst hl
      injection h with h
      exact ⟨⟨a, b, c, d, e, f, g⟩, rfl, h.symm⟩
    · cases h
  · cases h
theorem key_int : Maps.Keyed Tryd.prog 3 := Maps.int_keyed Tryd.underlying3
theorem zero_ev (w : World) : (zeroValue 51).run Tryd.prog w = .ok (.agg #[.int .i64 0, .int .i64 0, .int .i64 0, .int .i64 0, .int .i64 0, .int .i64 0, .int .i64 0]) w := by kernel_rfl
/-- Block b is a map with at most n entries that answers as f. -/
def MapEv (w : World) (b n : Nat) (f : Int → Option Ev) : Prop :=
  ∃ D : DataW Unit, w.ownsMap Tryd.prog 3 evElem b n D ∧ ∀ k, Maps.has D (.int .i64 k) = (f k).isSome ∧ ∀ e, f k = some e → ∀ z, D.atKey (.int .i64 k) z = evD e
section
variable {w w' : World} {b n : Nat} {f : Int → Option Ev}
theorem MapEv.made (w : World) : MapEv (w.alloc (.map #[] 0)) w.heap.size 0 (fun _ => none) :=
  ⟨_, World.ownsMap_made w _ _ _, fun k => ⟨rfl, fun e h => by cases h⟩⟩
theorem MapEv.lt (h : MapEv w b n f) : b < w.heap.size := by obtain ⟨D, h, _⟩ := h; exact h.lt
theorem MapEv.keep {S : Nat → Prop} (h : MapEv w b n f) (hk : Same S w w') (hb : S b) : MapEv w' b n f := by
  obtain ⟨D, ⟨es, clock, h1, h2, h3, h4⟩, hf⟩ := h
  exact ⟨D, ⟨es, clock, (hk.block b hb).trans h1, h2, h3, h4⟩, hf⟩
theorem i64_wf {k : Int} (hk : I64 k) : (Lit.int .i64 k).wf = true := hk.wf
theorem MapEv.look (h : MapEv w b n f) {t : TypeId} (ht : Tryd.prog.underlying t = some (.map 3 51)) {k : Int} (hk : I64 k) (e : Ev) (he : (f k).getD zeroEv = e) :
    (Instr.lookup t (.map (some b)) (.int .i64 k) true).run Tryd.prog w = .ok (.tuple #[.agg #[.int .i64 e.kind, .int .i64 e.inc, .int .i64 e.frm, .int .i64 e.sInc, .int .i64 e.sIdx, .int .i64 e.ord, .int .i64 e.val], .bool (f k).isSome]) w := by
  obtain ⟨D, hD, hf⟩ := h
  obtain ⟨v, ps, hrun, hv⟩ := hD.look_ok key_int ht (zero_ev w) (evElem_mk zeroEv) (Maps.keyOf_int_mk Tryd.underlying3 (i64_wf hk))
  obtain ⟨x, rfl, hx⟩ := evElem_inv hv
  rw [hrun, (hf k).1]
  have hx1 := congrArg Prod.fst hx
  simp only at hx1
  have hxe : x = e := by
    cases hfk : f k with
    | some y =>
      rw [(hf k).2 y hfk] at hx1
      rw [hfk] at he
      simp only [Option.getD_some] at he
      rw [← he]
      exact (evD_inj hx1).symm
    | none =>
      have hn := (hf k).1
      rw [hfk] at hn
      rw [Maps.atKey_of_not_has hn] at hx1
      rw [hfk] at he
      simp only [Option.getD_none] at he
      rw [← he]
      exact (evD_inj hx1).symm
  rw [hxe]
theorem MapEv.put (h : MapEv w b n f) {t : TypeId} (ht : Tryd.prog.underlying t = some (.map 3 51)) (hn : n < maxLen) {k : Int} (hk : I64 k) (e : Ev) :
    ∃ w', (Instr.mapUpdate t (.map (some b)) (.int .i64 k) (.agg #[.int .i64 e.kind, .int .i64 e.inc, .int .i64 e.frm, .int .i64 e.sInc, .int .i64 e.sIdx, .int .i64 e.ord, .int .i64 e.val])).run Tryd.prog w = .ok () w' ∧ MapEv w' b (n + 1) (fun j => if j = k then some e else f j) ∧ Same (fun i => i < w.heap.size ∧ i ≠ b) w w' := by
  obtain ⟨D, hD, hf⟩ := h
  obtain ⟨w', hrun, ho, hg⟩ := hD.update key_int ht hn (Maps.keyOf_int_mk Tryd.underlying3 (i64_wf hk)) (evElem_mk e)
  refine ⟨w', hrun, ⟨_, ho, fun j => ?_⟩, Same.grown (Same.refl _ _) hg (fun i hi => hi.1) (fun i hi hh => hh.2 (by injection hi with hi; exact hi.symm))⟩
  by_cases hj : j = k
  · subst hj
    simp only [if_pos]
    refine ⟨?_, fun x hx z => ?_⟩
    · rw [Maps.has_put_same hD.isMap (by constructor)]; rfl
    · injection hx with hx
      subst hx
      exact Maps.atKey_put_same hD.isMap (by constructor) _ _
  · have hne : (Lit.int .i64 j) ≠ .int .i64 k := fun h => hj (by injection h)
    simp only [if_neg hj]
    exact ⟨by rw [Maps.has_put_other hne]; exact (hf j).1, fun x hx z => by rw [Maps.atKey_put_other hne]; exact (hf j).2 x hx z⟩
variable {ops : Array Oper} {rest : List Oper} {o : Oper} {a : Act} {Q : Exit → Act → World → Prop}
theorem wpList_look (hg : o.guard = none) (m x : Operand) (t : TypeId) (hop : o.op = Op.lookup t m x true) (h : MapEv w b n f) (ht : Tryd.prog.underlying t = some (.map 3 51)) (k : Int) (hk : I64 k) (hm : a.eval m = .map (some b)) (hx : a.eval x = .int .i64 k)
    (e : Ev) (he : (f k).getD zeroEv = e) (q : Bool) (hq : (f k).isSome = q)
    (hK : wpList Tryd.prog ops Q rest (a.put o.dst (.tuple #[.agg #[.int .i64 e.kind, .int .i64 e.inc, .int .i64 e.frm, .int .i64 e.sInc, .int .i64 e.sIdx, .int .i64 e.ord, .int .i64 e.val], .bool q])) w) :
    wpList Tryd.prog ops Q (o :: rest) a w := by
  refine wpList_plain hg fun K' hK' => ?_
  have hrun := h.look ht hk e he
  unfold Oper.wp
  simp [execOp, hop, hm, hx, hrun, Result.andThen]
  rw [hq]
  exact hK' _ _ hK
theorem wpList_put (hg : o.guard = none) (m x v : Operand) (t : TypeId) (hop : o.op = Op.mapUpdate t m x v) (h : MapEv w b n f) (hn : n < maxLen) (ht : Tryd.prog.underlying t = some (.map 3 51)) (k : Int) (hk : I64 k) (hm : a.eval m = .map (some b)) (hx : a.eval x = .int .i64 k)
    (e : Ev) (hv : a.eval v = .agg #[.int .i64 e.kind, .int .i64 e.inc, .int .i64 e.frm, .int .i64 e.sInc, .int .i64 e.sIdx, .int .i64 e.ord, .int .i64 e.val])
    (hK : ∀ w', MapEv w' b (n + 1) (fun j => if j = k then some e else f j) → Same (fun i => i < w.heap.size ∧ i ≠ b) w w' → wpList Tryd.prog ops Q rest (a.put o.dst undef) w') :
    wpList Tryd.prog ops Q (o :: rest) a w := by
  refine wpList_plain hg fun K' hK' => ?_
  obtain ⟨w', hrun, r1, r2⟩ := h.put ht hn hk e
  unfold Oper.wp
  simp [execOp, hop, hm, hx, hv, hrun, Result.andThen]
  exact hK' _ _ (hK w' r1 r2)
end
end Go.Proofs.YtecckbkobkfnmaaDoor

-- RecS
/- What replay.Recover computes, in plain Lean. -/
set_option linter.unusedVariables false
set_option linter.unusedSimpArgs false
namespace Go.Proofs.YtecckbkobkfnmaaDoor
open Go.RowKit Go.Proofs

def cmpI (a b : Int) : Int := if a < b then -1 else if a = b then 0 else 1
/-- The first that is not 0. -/
def firstNZ : List Int → Int
  | [] => 0
  | x :: l => if x = 0 then firstNZ l else x
def cmpEv (a b : Ev) : Int := firstNZ [cmpI a.inc b.inc, cmpI a.kind b.kind, cmpI a.frm b.frm, cmpI a.sInc b.sInc, cmpI a.sIdx b.sIdx, cmpI a.ord b.ord, cmpI a.val b.val]
def better (o : Option Ev) (e : Ev) : Bool := match o with | none => true | some x => decide (cmpEv x e < 0)
def putS (self : Int) (f : Int → Option Ev) (d : Dt) : Int → Option Ev := if d.proc = self ∧ better (f d.idx) d.ev = true then (fun j => if j = d.idx then some d.ev else f j) else f
def mapS (self : Int) (l : List Dt) : Int → Option Ev := l.foldl (putS self) (fun _ => none)
theorem mapS_snoc (self : Int) (l : List Dt) (d : Dt) : mapS self (l ++ [d]) = putS self (mapS self l) d := by simp [mapS, List.foldl_append]
inductive RecS (c : Cd) (self procs : Int) (f : Int → Option Ev) : St → St → Prop
  | stop (s : St) : f (s.events.length + 1) = none → RecS c self procs f s s
  | step (s t : St) (e : Ev) : f (s.events.length + 1) = some e → RecS c self procs f (nextS c self procs s e) t → RecS c self procs f s t
theorem fold_mem (self : Int) : ∀ (l : List Dt) (f : Int → Option Ev) (k : Int) (e : Ev), l.foldl (putS self) f k = some e → f k = some e ∨ ∃ d ∈ l, d.proc = self ∧ d.idx = k ∧ d.ev = e
  | [], f, k, e, h => .inl h
  | d :: l, f, k, e, h => by
    rcases fold_mem self l (putS self f d) k e h with h | ⟨x, hx, h1⟩
    · unfold putS at h
      split at h
      · rename_i hc
        simp only at h
        split at h
        · rename_i hk
          injection h with h
          exact .inr ⟨d, by simp, hc.1, hk.symm, h⟩
        · exact .inl h
      · exact .inl h
    · exact .inr ⟨x, by simp [hx], h1⟩
theorem mapS_mem (self : Int) (l : List Dt) (k : Int) (e : Ev) (h : mapS self l k = some e) : ∃ d ∈ l, d.proc = self ∧ d.idx = k ∧ d.ev = e := by
  rcases fold_mem self l _ k e h with h | h
  · cases h
  · exact h
/-- Determinants of different indexes: each is found, and nothing else. -/
theorem fold_all (self : Int) : ∀ (l : List Dt) (f : Int → Option Ev), (∀ d ∈ l, d.proc = self) → l.Pairwise (fun a b => a.idx ≠ b.idx) → (∀ d ∈ l, f d.idx = none) → (∀ d ∈ l, l.foldl (putS self) f d.idx = some d.ev) ∧ ∀ k, (∀ d ∈ l, d.idx ≠ k) → l.foldl (putS self) f k = f k
  | [], f, _, _, _ => ⟨by simp, fun k _ => rfl⟩
  | d :: l, f, h1, h2, h3 => by
    have hd : putS self f d = (fun j => if j = d.idx then some d.ev else f j) := by
      unfold putS
      rw [if_pos ⟨h1 d (by simp), by rw [h3 d (by simp)]; rfl⟩]
    rw [List.pairwise_cons] at h2
    have ih := fold_all self l (putS self f d) (fun x hx => h1 x (by simp [hx])) h2.2 (fun x hx => by
      rw [hd]
      simp only
      rw [if_neg (fun e => h2.1 x hx e.symm)]
      exact h3 x (by simp [hx]))
    refine ⟨fun x hx => ?_, fun k hk => ?_⟩
    · rcases List.mem_cons.1 hx with rfl | hx
      · rw [List.foldl_cons, ih.2 x.idx (fun y hy e => h2.1 y hy e.symm), hd]
        simp
      · exact ih.1 x hx
    · rw [List.foldl_cons, ih.2 k (fun y hy => hk y (by simp [hy])), hd]
      simp only
      rw [if_neg (fun e => hk d (by simp) e.symm)]
theorem mapS_all {self : Int} {l : List Dt} (h1 : ∀ d ∈ l, d.proc = self) (h2 : l.Pairwise (fun a b => a.idx ≠ b.idx)) : (∀ d ∈ l, mapS self l d.idx = some d.ev) ∧ ∀ k, (∀ d ∈ l, d.idx ≠ k) → mapS self l k = none :=
  fold_all self l _ h1 h2 (fun _ _ => rfl)
/-- The determinants of a lineage, from an index on. -/
def linS (p : Int) : Int → List Ev → List Dt
  | _, [] => []
  | k, e :: l => ⟨p, k, e⟩ :: linS p (k + 1) l
theorem linS_len (p : Int) : ∀ (k : Int) (l : List Ev), (linS p k l).length = l.length
  | _, [] => rfl
  | k, e :: l => by simp [linS, linS_len p (k + 1) l]
theorem linS_snoc (p : Int) : ∀ (k : Int) (l : List Ev) (e : Ev), linS p k (l ++ [e]) = linS p k l ++ [⟨p, k + l.length, e⟩]
  | k, [], e => by simp [linS]
  | k, x :: l, e => by
    simp only [List.cons_append, linS, linS_snoc p (k + 1) l e, List.length_cons]
    congr 3
    simp; omega
theorem linS_get (p : Int) : ∀ (k : Int) (l : List Ev) (i : Nat), (linS p k l)[i]? = (l[i]?).map (fun e => ⟨p, k + i, e⟩)
  | _, [], i => by simp [linS]
  | k, e :: l, 0 => by simp [linS]
  | k, e :: l, i + 1 => by
    simp only [linS, List.getElem?_cons_succ, linS_get p (k + 1) l i]
    congr 1
    funext e
    congr 1
    simp; omega
theorem linS_mem {p k : Int} {l : List Ev} {d : Dt} (h : d ∈ linS p k l) : ∃ i e, l[i]? = some e ∧ d = ⟨p, k + (i : Nat), e⟩ := by
  obtain ⟨i, hi⟩ := List.mem_iff_getElem?.1 h
  rw [linS_get] at hi
  cases hl : l[i]? with
  | none => rw [hl] at hi; cases hi
  | some e => rw [hl] at hi; injection hi with hi; exact ⟨i, e, hl, hi.symm⟩
theorem linS_apart (p : Int) : ∀ (k : Int) (l : List Ev), (linS p k l).Pairwise (fun a b => a.idx ≠ b.idx)
  | _, [] => List.Pairwise.nil
  | k, e :: l => by
    simp only [linS]
    refine List.pairwise_cons.2 ⟨fun d hd => ?_, linS_apart p (k + 1) l⟩
    obtain ⟨i, x, _, rfl⟩ := linS_mem hd
    simp only
    omega
/-- How many determinants lie above an index. -/
def above (l : List Dt) (n : Nat) : Nat := (l.filter (fun d => decide ((n : Int) < d.idx))).length
theorem above_less {self : Int} {l : List Dt} {n : Nat} {e : Ev} (h : mapS self l (n + 1) = some e) : above l (n + 1) < above l n := by
  obtain ⟨d, hd, _, h2, _⟩ := mapS_mem self l _ _ h
  unfold above
  clear h
  induction l with
  | nil => simp at hd
  | cons a l ih =>
    have hle : ∀ m : List Dt, (m.filter (fun d => decide (((n + 1 : Nat) : Int) < d.idx))).length ≤ (m.filter (fun d => decide ((n : Int) < d.idx))).length := by
      intro m
      induction m with
      | nil => simp
      | cons x m ihm =>
        by_cases h1 : ((n + 1 : Nat) : Int) < x.idx
        · have h2 : (n : Int) < x.idx := by omega
          simp only [List.filter_cons, h1, h2, decide_true, if_true, List.length_cons]; omega
        · by_cases h2 : (n : Int) < x.idx
          · simp only [List.filter_cons, h1, h2, decide_true, decide_false, if_true, Bool.false_eq_true, if_false, List.length_cons]; omega
          · simp only [List.filter_cons, h1, h2, decide_false, Bool.false_eq_true, if_false]; exact ihm
    rcases List.mem_cons.1 hd with rfl | hd
    · have h1 : ¬ ((n + 1 : Nat) : Int) < d.idx := by omega
      have h3 : (n : Int) < d.idx := by omega
      simp only [List.filter_cons, h1, h3, decide_true, decide_false, if_true, Bool.false_eq_true, if_false, List.length_cons]
      have := hle l
      omega
    · have := ih hd
      by_cases h1 : ((n + 1 : Nat) : Int) < a.idx
      · have h3 : (n : Int) < a.idx := by omega
        simp only [List.filter_cons, h1, h3, decide_true, if_true, List.length_cons]; omega
      · by_cases h3 : (n : Int) < a.idx
        · simp only [List.filter_cons, h1, h3, decide_true, decide_false, if_true, Bool.false_eq_true, if_false, List.length_cons]; omega
        · simp only [List.filter_cons, h1, h3, decide_false, Bool.false_eq_true, if_false]; exact this
theorem RecS.det {c : Cd} {self procs : Int} {f : Int → Option Ev} {s t u : St} (h : RecS c self procs f s t) : RecS c self procs f s u → t = u := by
  induction h with
  | stop s hs =>
    intro hu
    cases hu with
    | stop _ _ => rfl
    | step _ _ e he _ => rw [hs] at he; cases he
  | step s t e he _ ih =>
    intro hu
    cases hu with
    | stop _ hs => rw [hs] at he; cases he
    | step _ _ e' he' h' => rw [he] at he'; injection he' with he'; subst he'; exact ih h'
/-- From the state behind k events of l, if the map knows the events up to m of l and not the next: the state behind m. -/
theorem RecS.run {c : Cd} {self procs : Int} {f : Int → Option Ev} (l : List Ev) (m : Nat) (hm : m ≤ l.length) (h1 : ∀ i, i < m → ∀ e, l[i]? = some e → f ((i : Int) + 1) = some e ∨ False) (h2 : f ((m : Int) + 1) = none) :
    ∀ d k, k + d = m → RecS c self procs f (replayS c self procs (l.take k)) (replayS c self procs (l.take m)) := by
  intro d
  induction d with
  | zero =>
    intro k hk
    simp only [Nat.add_zero] at hk
    subst hk
    refine .stop _ ?_
    rw [replayS_events, List.length_take, Nat.min_eq_left hm]
    exact h2
  | succ d ih =>
    intro k hk
    have hkl : k < l.length := by omega
    have hg : l[k]? = some l[k] := List.getElem?_eq_getElem hkl
    rcases h1 k (by omega) _ hg with h | h
    · refine .step _ _ l[k] ?_ ?_
      · rw [replayS_events, List.length_take, Nat.min_eq_left (by omega)]
        exact h
      · rw [← replayS_snoc, ← List.take_succ_eq_append_getElem hkl]
        exact ih (k + 1) (by omega)
    · exact h.elim
theorem rec_lin {c : Cd} {p procs : Int} (l : List Ev) (st : List Dt) (k m : Nat) (hk : k ≤ m) (hm : m ≤ l.length) (h1 : ∀ d ∈ st, d ∈ linS p 1 l) (h2 : st.Pairwise (fun a b => a.idx ≠ b.idx)) (h3 : ∀ d ∈ linS p 1 l, d.idx ≤ m → d ∈ st) (h4 : ∀ d ∈ st, d.idx ≠ m + 1) :
    RecS c p procs (mapS p st) (replayS c p procs (l.take k)) (replayS c p procs (l.take m)) := by
  have hp : ∀ d ∈ st, d.proc = p := fun d hd => by obtain ⟨i, e, _, rfl⟩ := linS_mem (h1 d hd); rfl
  have ha := mapS_all hp h2
  refine RecS.run l m hm (fun i hi e he => .inl ?_) (ha.2 _ (fun d hd => h4 d hd)) (m - k) k (by omega)
  have hd : (⟨p, 1 + (i : Int), e⟩ : Dt) ∈ linS p 1 l := List.mem_iff_getElem?.2 ⟨i, by rw [linS_get, he]; rfl⟩
  have := ha.1 _ (h3 _ hd (by simp only; omega))
  simp only at this
  rw [show ((i : Int) + 1) = 1 + i by omega]
  exact this
theorem lin_idx {p : Int} {l : List Ev} {d : Dt} (h : d ∈ linS p 1 l) : 1 ≤ d.idx ∧ d.idx ≤ l.length ∧ d.proc = p := by
  obtain ⟨i, e, hi, rfl⟩ := linS_mem h
  obtain ⟨hl, _⟩ := List.getElem?_eq_some_iff.1 hi
  refine ⟨?_, ?_, rfl⟩ <;> simp only <;> omega
theorem rec_gap {c : Cd} {p procs : Int} (l : List Ev) (k g : Nat) (hk : k < g) (hg : g ≤ l.length) :
    RecS c p procs (mapS p ((linS p 1 l).filter (fun d => decide (d.idx ≠ g)))) (replayS c p procs (l.take k)) (replayS c p procs (l.take (g - 1))) := by
  refine rec_lin l _ k (g - 1) (by omega) (by omega) (fun d hd => (List.mem_filter.1 hd).1) (List.Pairwise.filter _ (linS_apart p 1 l)) (fun d hd hi => List.mem_filter.2 ⟨hd, by simp; omega⟩) (fun d hd => ?_)
  have := (List.mem_filter.1 hd).2
  simp at this
  omega
theorem rec_turned {c : Cd} {p procs : Int} (l : List Ev) (k : Nat) (hk : k ≤ l.length) : RecS c p procs (mapS p (linS p 1 l).reverse) (replayS c p procs (l.take k)) (replayS c p procs l) := by
  have := rec_lin (c := c) (p := p) (procs := procs) l (linS p 1 l).reverse k l.length hk (Nat.le_refl _) (fun d hd => List.mem_reverse.1 hd) (List.pairwise_reverse.2 ((linS_apart p 1 l).imp (fun h e => h e.symm))) (fun d hd _ => List.mem_reverse.2 hd) (fun d hd => by have := lin_idx (List.mem_reverse.1 hd); omega)
  rw [List.take_length] at this
  exact this
theorem rec_all {c : Cd} {p procs : Int} (l : List Ev) (k : Nat) (hk : k ≤ l.length) : RecS c p procs (mapS p (linS p 1 l)) (replayS c p procs (l.take k)) (replayS c p procs l) := by
  have := rec_lin (c := c) (p := p) (procs := procs) l (linS p 1 l) k l.length hk (Nat.le_refl _) (fun d hd => hd) (linS_apart p 1 l) (fun d hd _ => hd) (fun d hd => by have := lin_idx hd; omega)
  rw [List.take_length] at this
  exact this
/-- determinant.Cut. -/
def cutS (l : List Dt) (p above : Int) : List Dt := l.filter (fun d => decide (d.proc ≠ p ∨ d.idx ≤ above))
theorem rec_cut {c : Cd} {p procs : Int} (l : List Ev) (k m : Nat) (hk : k ≤ m) (hm : m ≤ l.length) : RecS c p procs (mapS p (cutS (linS p 1 l) p m)) (replayS c p procs (l.take k)) (replayS c p procs (l.take m)) := by
  refine rec_lin l _ k m hk hm (fun d hd => (List.mem_filter.1 hd).1) (List.Pairwise.filter _ (linS_apart p 1 l)) (fun d hd hi => List.mem_filter.2 ⟨hd, by simp; omega⟩) (fun d hd => ?_)
  have h1 := (List.mem_filter.1 hd).2
  have h2 := lin_idx (List.mem_filter.1 hd).1
  simp at h1
  omega
end Go.Proofs.YtecckbkobkfnmaaDoor

-- Cmp
/- Contracts: cmp.Compare, cmp.Or, replay.compareEvents (written by gen_cmp.py). -/
set_option linter.unusedVariables false
set_option linter.unusedSimpArgs false
set_option maxRecDepth 100000
namespace Go.Proofs.YtecckbkobkfnmaaDoor
open Go.RowKit Go.Proofs

def NoNaN (w : World) (e : Ending) (w' : World) : Prop := e = .returned (.bool false) ∧ w' = w
def CmpIs (v : Int) (w : World) (e : Ending) (w' : World) : Prop := e = .returned (.int .i64 v) ∧ w' = w
theorem isNaN_any (w : World) (x : Int) : Calls Tryd.prog 86 #[.int .i64 x] w (NoNaN w) := by
  have h : (x != x) = false := by simp
  go_enter Tryd.func86, Tryd.ntmps86
  go_wp2_with fail
  go_ret
  exact ⟨rfl, rfl⟩
theorem compare_any (w : World) (x y : Int) : Calls Tryd.prog 74 #[.int .i64 x, .int .i64 y] w (CmpIs (cmpI x y) w) := by
  go_enter Tryd.func74, Tryd.ntmps74
  go_wp2_with fail
  refine (isNaN_any w x).mono ?_
  rintro e w1 ⟨rfl, h1⟩
  replace h1 := h1.symm
  subst h1
  go_wp2_with fail
  refine (isNaN_any w y).mono ?_
  rintro e w2 ⟨rfl, h1⟩
  replace h1 := h1.symm
  subst h1
  by_cases h1 : x < y
  · have hr : cmpI x y = -1 := by unfold cmpI; rw [if_pos h1]
    have HR := Lib.hid hr
    clear hr
    have t1 : decide (x < y) = true := by simpa using h1
    go_wp2_with fail
    go_ret
    exact ⟨by rw [HR.out]; rfl, rfl⟩
  have t1 : decide (x < y) = false := by simpa using h1
  by_cases h2 : y < x
  · have hr : cmpI x y = 1 := by unfold cmpI; rw [if_neg h1, if_neg (by omega)]
    have HR := Lib.hid hr
    clear hr
    have t2 : decide (y < x) = true := by simpa using h2
    go_wp2_with fail
    go_ret
    exact ⟨by rw [HR.out]; rfl, rfl⟩
  have hr : cmpI x y = 0 := by unfold cmpI; rw [if_neg h1, if_pos (by omega)]
  have HR := Lib.hid hr
  clear hr
  have t2 : decide (y < x) = false := by simpa using h2
  go_wp2_with fail
  go_ret
  exact ⟨by rw [HR.out]; rfl, rfl⟩
def OrRel (l : List Int) (w : World) (i : Value) (wr : World) : Prop := ∃ k : Nat, i = .int .i64 k ∧ k ≤ l.length ∧ w = wr ∧ firstNZ (l.drop k) = firstNZ l
theorem or_any (w : World) (S : Nat → Prop) (A : Option Addr) (n c : Nat) (l : List Int) (hl : Sl encI 1 w S A n c l) (hn : n ≤ 1000) : Calls Tryd.prog 73 #[.slice A n c] w (CmpIs (firstNZ l) w) := by
  have hnl := hl.1
  have HL := Lib.hid hl
  have HNL := Lib.hid hnl
  clear hl hnl
  go_enter Tryd.func73, Tryd.ntmps73
  go_wp2_with fail
  go_loopw [8] (fun i wr => OrRel l w i wr) (fun i _ => n - (intOf i).toNat)
  case atStart => exact ⟨0, rfl, Nat.zero_le _, rfl, rfl⟩
  case round =>
    obtain ⟨k, rfl, hkl, hw, hfr⟩ := hrel
    subst hw
    by_cases hk : k < n
    · obtain ⟨b, off, x, rfl, hSb, hx, hcell⟩ := HL.out.at_ encI_len hk
      have hd1 : decide (k < n) = true := by simpa using hk
      have hd2 : (0 : Int) ≤ k := by omega
      have hd3 : (k : Int) < n := by omega
      have hdr : l.drop k = x :: l.drop (k + 1) := by
        obtain ⟨h1, rfl⟩ := List.getElem?_eq_some_iff.1 hx
        exact List.drop_eq_getElem_cons h1
      have hc0 : w.cell? ⟨b, off + k, none⟩ = some (.int .i64 x) := by have := hcell 0 _ rfl; simpa using this
      rw [hdr] at hfr
      have HFR := Lib.hid hfr
      clear hfr
      clear hcell hx hSb hdr
      cases q : (x != 0)
      · have hx0 : x = 0 := by simpa using q
        have hr2 : firstNZ (l.drop (k + 1)) = firstNZ l := by rw [← HFR.out, firstNZ, if_pos hx0]
        have HR2 := Lib.hid hr2
        have HX0 := Lib.hid hx0
        clear hr2 hx0
        go_wp2_with fail
        go_roundw
        case rel => exact ⟨k + 1, by simp, by have := HNL.out; omega, rfl, HR2.out⟩
        case measure => simp [intOf]; omega
      · have hx0 : ¬ x = 0 := by simpa using q
        have hr2 : firstNZ l = x := by rw [← HFR.out, firstNZ, if_neg hx0]
        have HX0 := Lib.hid hx0
        have HR2 := Lib.hid hr2
        clear hx0 hr2
        go_wp2_with fail
        go_ret
        exact ⟨by rw [HR2.out]; rfl, rfl⟩
    · have hd1 : decide (k < n) = false := by simpa using hk
      have hr2 : firstNZ l = 0 := by
        have : l.drop k = [] := List.drop_eq_nil_of_le (by have := HNL.out; omega)
        rw [← hfr, this]; rfl
      have HFR := Lib.hid hfr
      have HR2 := Lib.hid hr2
      clear hfr hr2
      go_wp2_with fail
      go_ret
      exact ⟨by rw [HR2.out]; rfl, rfl⟩
theorem built_int7 (a b c d e f g : Int) : builtS Tryd.prog 3 7 [(0, .int .i64 a), (1, .int .i64 b), (2, .int .i64 c), (3, .int .i64 d), (4, .int .i64 e), (5, .int .i64 f), (6, .int .i64 g)] = some #[.int .i64 a, .int .i64 b, .int .i64 c, .int .i64 d, .int .i64 e, .int .i64 f, .int .i64 g] := by kernel_rfl
def CevPost (v : Int) (w : World) (e : Ending) (w' : World) : Prop := e = .returned (.int .i64 v) ∧ Keep w w'
set_option maxHeartbeats 8000000 in
theorem cmpEv_any (w : World) (a b : Ev) : Calls Tryd.prog 64 #[.agg (encEv a).toArray, .agg (encEv b).toArray] w (CevPost (cmpEv a b) w) := by
  show Calls Tryd.prog 64 #[.agg #[.int .i64 a.kind, .int .i64 a.inc, .int .i64 a.frm, .int .i64 a.sInc, .int .i64 a.sIdx, .int .i64 a.ord, .int .i64 a.val], .agg #[.int .i64 b.kind, .int .i64 b.inc, .int .i64 b.frm, .int .i64 b.sInc, .int .i64 b.sIdx, .int .i64 b.ord, .int .i64 b.val]] w _
  generalize hW : (w.alloc (.cells #[.int .i64 a.kind, .int .i64 a.inc, .int .i64 a.frm, .int .i64 a.sInc, .int .i64 a.sIdx, .int .i64 a.ord, .int .i64 a.val] 51)).alloc (.cells #[.int .i64 b.kind, .int .i64 b.inc, .int .i64 b.frm, .int .i64 b.sInc, .int .i64 b.sIdx, .int .i64 b.ord, .int .i64 b.val] 51) = W
  have hkW : Keep w W := hW ▸ Keep.alloc (Keep.new w _) _
  have hb2 : Blk W w.heap.size 51 #[.int .i64 a.kind, .int .i64 a.inc, .int .i64 a.frm, .int .i64 a.sInc, .int .i64 a.sIdx, .int .i64 a.ord, .int .i64 a.val] := hW ▸ (Blk.new w _ _).alloc _
  have hb3 : Blk W (w.heap.size + 1) 51 #[.int .i64 b.kind, .int .i64 b.inc, .int .i64 b.frm, .int .i64 b.sInc, .int .i64 b.sIdx, .int .i64 b.ord, .int .i64 b.val] := hW ▸ (by simpa using Blk.new (w.alloc _) _ _)
  have hz := hb3.lt
  have a0 : ∀ wx, Keep W wx → wx.cell? ⟨w.heap.size, 0, none⟩ = some (.int .i64 a.kind) := fun wx hx => by rw [(hx.blk hb2 hb2.lt).cell]; rfl
  have a1 : ∀ wx, Keep W wx → wx.cell? ⟨w.heap.size, 1, none⟩ = some (.int .i64 a.inc) := fun wx hx => by rw [(hx.blk hb2 hb2.lt).cell]; rfl
  have a2 : ∀ wx, Keep W wx → wx.cell? ⟨w.heap.size, 2, none⟩ = some (.int .i64 a.frm) := fun wx hx => by rw [(hx.blk hb2 hb2.lt).cell]; rfl
  have a3 : ∀ wx, Keep W wx → wx.cell? ⟨w.heap.size, 3, none⟩ = some (.int .i64 a.sInc) := fun wx hx => by rw [(hx.blk hb2 hb2.lt).cell]; rfl
  have a4 : ∀ wx, Keep W wx → wx.cell? ⟨w.heap.size, 4, none⟩ = some (.int .i64 a.sIdx) := fun wx hx => by rw [(hx.blk hb2 hb2.lt).cell]; rfl
  have a5 : ∀ wx, Keep W wx → wx.cell? ⟨w.heap.size, 5, none⟩ = some (.int .i64 a.ord) := fun wx hx => by rw [(hx.blk hb2 hb2.lt).cell]; rfl
  have a6 : ∀ wx, Keep W wx → wx.cell? ⟨w.heap.size, 6, none⟩ = some (.int .i64 a.val) := fun wx hx => by rw [(hx.blk hb2 hb2.lt).cell]; rfl
  have b0 : ∀ wx, Keep W wx → wx.cell? ⟨w.heap.size + 1, 0, none⟩ = some (.int .i64 b.kind) := fun wx hx => by rw [(hx.blk hb3 hb3.lt).cell]; rfl
  have b1 : ∀ wx, Keep W wx → wx.cell? ⟨w.heap.size + 1, 1, none⟩ = some (.int .i64 b.inc) := fun wx hx => by rw [(hx.blk hb3 hb3.lt).cell]; rfl
  have b2 : ∀ wx, Keep W wx → wx.cell? ⟨w.heap.size + 1, 2, none⟩ = some (.int .i64 b.frm) := fun wx hx => by rw [(hx.blk hb3 hb3.lt).cell]; rfl
  have b3 : ∀ wx, Keep W wx → wx.cell? ⟨w.heap.size + 1, 3, none⟩ = some (.int .i64 b.sInc) := fun wx hx => by rw [(hx.blk hb3 hb3.lt).cell]; rfl
  have b4 : ∀ wx, Keep W wx → wx.cell? ⟨w.heap.size + 1, 4, none⟩ = some (.int .i64 b.sIdx) := fun wx hx => by rw [(hx.blk hb3 hb3.lt).cell]; rfl
  have b5 : ∀ wx, Keep W wx → wx.cell? ⟨w.heap.size + 1, 5, none⟩ = some (.int .i64 b.ord) := fun wx hx => by rw [(hx.blk hb3 hb3.lt).cell]; rfl
  have b6 : ∀ wx, Keep W wx → wx.cell? ⟨w.heap.size + 1, 6, none⟩ = some (.int .i64 b.val) := fun wx hx => by rw [(hx.blk hb3 hb3.lt).cell]; rfl
  have HKW := Lib.hid hkW
  have HB2 := Lib.hid hb2
  have HB3 := Lib.hid hb3
  clear hkW hb2 hb3
  go_enter Tryd.func64, Tryd.ntmps64
  go_upto_region 1 with fail
  clear hW
  refine wp_region_L 99 (fun _ => True) (fun wx => Keep W wx) (by kernel_rfl) trivial (Same.drew (Same.refl _ _)) (fun hA hB => ?_)
  generalize hu0 : W.drew = u0 at hB ⊢
  clear hu0
  refine wpL_takeB (i := 0) (v := ?_) rfl (by kernel_rfl) (by kernel_rfl) (by kernel_rfl) (by decide) (fun _ _ _ h => h) (Or.inl ⟨by rfl, ?_⟩) (SAB.both hA hB) ?_
  rotate_left
  · intro wx hBx
    (try dsimp only at hBx)
    go_simp
    try with_reducible rfl
  try simp only [Act.put, List.setIfInBounds_toArray, List.set_cons_zero, List.set_cons_succ]
  refine wpL_takeB (i := 1) (v := ?_) rfl (by kernel_rfl) (by kernel_rfl) (by kernel_rfl) (by decide) (fun _ _ _ h => h) (Or.inl ⟨by rfl, ?_⟩) (SAB.both hA hB) ?_
  rotate_left
  · intro wx hBx
    (try dsimp only at hBx)
    go_simp
    try with_reducible rfl
  try simp only [Act.put, List.setIfInBounds_toArray, List.set_cons_zero, List.set_cons_succ]
  refine wpL_takeB (i := 2) (v := ?_) rfl (by kernel_rfl) (by kernel_rfl) (by kernel_rfl) (by decide) (fun _ _ _ h => h) (Or.inl ⟨by rfl, ?_⟩) (SAB.both hA hB) ?_
  rotate_left
  · intro wx hBx
    (try dsimp only at hBx)
    go_simp
    try with_reducible rfl
  try simp only [Act.put, List.setIfInBounds_toArray, List.set_cons_zero, List.set_cons_succ]
  refine wpL_takeB (i := 3) (v := ?_) rfl (by kernel_rfl) (by kernel_rfl) (by kernel_rfl) (by decide) (fun _ _ _ h => h) (Or.inl ⟨by rfl, ?_⟩) (SAB.both hA hB) ?_
  rotate_left
  · intro wx hBx
    (try dsimp only at hBx)
    go_simp
    try with_reducible rfl
  try simp only [Act.put, List.setIfInBounds_toArray, List.set_cons_zero, List.set_cons_succ]
  refine wpL_takeB (i := 5) (v := ?_) rfl (by kernel_rfl) (by kernel_rfl) (by kernel_rfl) (by decide) (fun _ _ _ h => h) (Or.inl ⟨by rfl, ?_⟩) (SAB.both hA hB) ?_
  rotate_left
  · intro wx hBx
    (try dsimp only at hBx)
    go_simp
    try with_reducible rfl
  try simp only [Act.put, List.setIfInBounds_toArray, List.set_cons_zero, List.set_cons_succ]
  refine wpL_takeB (i := 6) (v := ?_) rfl (by kernel_rfl) (by kernel_rfl) (by kernel_rfl) (by decide) (fun _ _ _ h => h) (Or.inl ⟨by rfl, ?_⟩) (SAB.both hA hB) ?_
  rotate_left
  · intro wx hBx
    (try dsimp only at hBx)
    go_simp
    try with_reducible rfl
  try simp only [Act.put, List.setIfInBounds_toArray, List.set_cons_zero, List.set_cons_succ]
  refine wpL_takeB (i := 7) (v := ?_) rfl (by kernel_rfl) (by kernel_rfl) (by kernel_rfl) (by decide) (fun _ _ _ h => h) (Or.inl ⟨by rfl, ?_⟩) (SAB.both hA hB) ?_
  rotate_left
  · intro wx hBx
    (try dsimp only at hBx)
    go_simp
    try with_reducible rfl
  try simp only [Act.put, List.setIfInBounds_toArray, List.set_cons_zero, List.set_cons_succ]
  refine wpL_takeB (i := 8) (v := ?_) rfl (by kernel_rfl) (by kernel_rfl) (by kernel_rfl) (by decide) (fun _ _ _ h => h) (Or.inl ⟨by rfl, ?_⟩) (SAB.both hA hB) ?_
  rotate_left
  · intro wx hBx
    (try dsimp only at hBx)
    go_simp
    try with_reducible rfl
  try simp only [Act.put, List.setIfInBounds_toArray, List.set_cons_zero, List.set_cons_succ]
  refine wpL_takeB (i := 10) (v := ?_) rfl (by kernel_rfl) (by kernel_rfl) (by kernel_rfl) (by decide) (fun _ _ _ h => h) (Or.inl ⟨by rfl, ?_⟩) (SAB.both hA hB) ?_
  rotate_left
  · intro wx hBx
    (try dsimp only at hBx)
    go_simp
    try with_reducible rfl
  try simp only [Act.put, List.setIfInBounds_toArray, List.set_cons_zero, List.set_cons_succ]
  refine wpL_takeB (i := 11) (v := ?_) rfl (by kernel_rfl) (by kernel_rfl) (by kernel_rfl) (by decide) (fun _ _ _ h => h) (Or.inl ⟨by rfl, ?_⟩) (SAB.both hA hB) ?_
  rotate_left
  · intro wx hBx
    (try dsimp only at hBx)
    go_simp
    try with_reducible rfl
  try simp only [Act.put, List.setIfInBounds_toArray, List.set_cons_zero, List.set_cons_succ]
  refine wpL_takeB (i := 12) (v := ?_) rfl (by kernel_rfl) (by kernel_rfl) (by kernel_rfl) (by decide) (fun _ _ _ h => h) (Or.inl ⟨by rfl, ?_⟩) (SAB.both hA hB) ?_
  rotate_left
  · intro wx hBx
    (try dsimp only at hBx)
    go_simp
    try with_reducible rfl
  try simp only [Act.put, List.setIfInBounds_toArray, List.set_cons_zero, List.set_cons_succ]
  refine wpL_takeB (i := 13) (v := ?_) rfl (by kernel_rfl) (by kernel_rfl) (by kernel_rfl) (by decide) (fun _ _ _ h => h) (Or.inl ⟨by rfl, ?_⟩) (SAB.both hA hB) ?_
  rotate_left
  · intro wx hBx
    (try dsimp only at hBx)
    go_simp
    try with_reducible rfl
  try simp only [Act.put, List.setIfInBounds_toArray, List.set_cons_zero, List.set_cons_succ]
  refine wpL_takeB (i := 15) (v := ?_) rfl (by kernel_rfl) (by kernel_rfl) (by kernel_rfl) (by decide) (fun _ _ _ h => h) (Or.inl ⟨by rfl, ?_⟩) (SAB.both hA hB) ?_
  rotate_left
  · intro wx hBx
    (try dsimp only at hBx)
    go_simp
    try with_reducible rfl
  try simp only [Act.put, List.setIfInBounds_toArray, List.set_cons_zero, List.set_cons_succ]
  refine wpL_takeB (i := 16) (v := ?_) rfl (by kernel_rfl) (by kernel_rfl) (by kernel_rfl) (by decide) (fun _ _ _ h => h) (Or.inl ⟨by rfl, ?_⟩) (SAB.both hA hB) ?_
  rotate_left
  · intro wx hBx
    (try dsimp only at hBx)
    go_simp
    try with_reducible rfl
  try simp only [Act.put, List.setIfInBounds_toArray, List.set_cons_zero, List.set_cons_succ]
  refine wpL_takeB (i := 17) (v := ?_) rfl (by kernel_rfl) (by kernel_rfl) (by kernel_rfl) (by decide) (fun _ _ _ h => h) (Or.inl ⟨by rfl, ?_⟩) (SAB.both hA hB) ?_
  rotate_left
  · intro wx hBx
    (try dsimp only at hBx)
    go_simp
    try with_reducible rfl
  try simp only [Act.put, List.setIfInBounds_toArray, List.set_cons_zero, List.set_cons_succ]
  refine wpL_takeB (i := 18) (v := ?_) rfl (by kernel_rfl) (by kernel_rfl) (by kernel_rfl) (by decide) (fun _ _ _ h => h) (Or.inl ⟨by rfl, ?_⟩) (SAB.both hA hB) ?_
  rotate_left
  · intro wx hBx
    (try dsimp only at hBx)
    go_simp
    try with_reducible rfl
  try simp only [Act.put, List.setIfInBounds_toArray, List.set_cons_zero, List.set_cons_succ]
  refine wpL_takeB (i := 19) (v := ?_) rfl (by kernel_rfl) (by kernel_rfl) (by kernel_rfl) (by decide) (fun _ _ _ h => h) (Or.inl ⟨by rfl, ?_⟩) (SAB.both hA hB) ?_
  rotate_left
  · intro wx hBx
    (try dsimp only at hBx)
    go_simp
    try with_reducible rfl
  try simp only [Act.put, List.setIfInBounds_toArray, List.set_cons_zero, List.set_cons_succ]
  refine wpL_takeB (i := 20) (v := ?_) rfl (by kernel_rfl) (by kernel_rfl) (by kernel_rfl) (by decide) (fun _ _ _ h => h) (Or.inl ⟨by rfl, ?_⟩) (SAB.both hA hB) ?_
  rotate_left
  · intro wx hBx
    (try dsimp only at hBx)
    go_simp
    try with_reducible rfl
  try simp only [Act.put, List.setIfInBounds_toArray, List.set_cons_zero, List.set_cons_succ]
  refine wpL_takeB (i := 22) (v := ?_) rfl (by kernel_rfl) (by kernel_rfl) (by kernel_rfl) (by decide) (fun _ _ _ h => h) (Or.inl ⟨by rfl, ?_⟩) (SAB.both hA hB) ?_
  rotate_left
  · intro wx hBx
    (try dsimp only at hBx)
    go_simp
    try with_reducible rfl
  try simp only [Act.put, List.setIfInBounds_toArray, List.set_cons_zero, List.set_cons_succ]
  refine wpL_takeB (i := 23) (v := ?_) rfl (by kernel_rfl) (by kernel_rfl) (by kernel_rfl) (by decide) (fun _ _ _ h => h) (Or.inl ⟨by rfl, ?_⟩) (SAB.both hA hB) ?_
  rotate_left
  · intro wx hBx
    (try dsimp only at hBx)
    go_simp
    try with_reducible rfl
  try simp only [Act.put, List.setIfInBounds_toArray, List.set_cons_zero, List.set_cons_succ]
  refine wpL_takeB (i := 24) (v := ?_) rfl (by kernel_rfl) (by kernel_rfl) (by kernel_rfl) (by decide) (fun _ _ _ h => h) (Or.inl ⟨by rfl, ?_⟩) (SAB.both hA hB) ?_
  rotate_left
  · intro wx hBx
    (try dsimp only at hBx)
    go_simp
    try with_reducible rfl
  try simp only [Act.put, List.setIfInBounds_toArray, List.set_cons_zero, List.set_cons_succ]
  refine wpL_takeB (i := 25) (v := ?_) rfl (by kernel_rfl) (by kernel_rfl) (by kernel_rfl) (by decide) (fun _ _ _ h => h) (Or.inl ⟨by rfl, ?_⟩) (SAB.both hA hB) ?_
  rotate_left
  · intro wx hBx
    (try dsimp only at hBx)
    go_simp
    try with_reducible rfl
  try simp only [Act.put, List.setIfInBounds_toArray, List.set_cons_zero, List.set_cons_succ]
  refine wpL_takeB (i := 26) (v := ?_) rfl (by kernel_rfl) (by kernel_rfl) (by kernel_rfl) (by decide) (fun _ _ _ h => h) (Or.inl ⟨by rfl, ?_⟩) (SAB.both hA hB) ?_
  rotate_left
  · intro wx hBx
    (try dsimp only at hBx)
    go_simp
    try with_reducible rfl
  try simp only [Act.put, List.setIfInBounds_toArray, List.set_cons_zero, List.set_cons_succ]
  refine wpL_takeB (i := 27) (v := ?_) rfl (by kernel_rfl) (by kernel_rfl) (by kernel_rfl) (by decide) (fun _ _ _ h => h) (Or.inl ⟨by rfl, ?_⟩) (SAB.both hA hB) ?_
  rotate_left
  · intro wx hBx
    (try dsimp only at hBx)
    go_simp
    try with_reducible rfl
  try simp only [Act.put, List.setIfInBounds_toArray, List.set_cons_zero, List.set_cons_succ]
  refine wpL_takeB (i := 29) (v := ?_) rfl (by kernel_rfl) (by kernel_rfl) (by kernel_rfl) (by decide) (fun _ _ _ h => h) (Or.inl ⟨by rfl, ?_⟩) (SAB.both hA hB) ?_
  rotate_left
  · intro wx hBx
    (try dsimp only at hBx)
    go_simp
    try with_reducible rfl
  try simp only [Act.put, List.setIfInBounds_toArray, List.set_cons_zero, List.set_cons_succ]
  refine wpL_takeB (i := 30) (v := ?_) rfl (by kernel_rfl) (by kernel_rfl) (by kernel_rfl) (by decide) (fun _ _ _ h => h) (Or.inl ⟨by rfl, ?_⟩) (SAB.both hA hB) ?_
  rotate_left
  · intro wx hBx
    (try dsimp only at hBx)
    go_simp
    try with_reducible rfl
  try simp only [Act.put, List.setIfInBounds_toArray, List.set_cons_zero, List.set_cons_succ]
  refine wpL_takeB (i := 31) (v := ?_) rfl (by kernel_rfl) (by kernel_rfl) (by kernel_rfl) (by decide) (fun _ _ _ h => h) (Or.inl ⟨by rfl, ?_⟩) (SAB.both hA hB) ?_
  rotate_left
  · intro wx hBx
    (try dsimp only at hBx)
    go_simp
    try with_reducible rfl
  try simp only [Act.put, List.setIfInBounds_toArray, List.set_cons_zero, List.set_cons_succ]
  refine wpL_takeB (i := 32) (v := ?_) rfl (by kernel_rfl) (by kernel_rfl) (by kernel_rfl) (by decide) (fun _ _ _ h => h) (Or.inl ⟨by rfl, ?_⟩) (SAB.both hA hB) ?_
  rotate_left
  · intro wx hBx
    (try dsimp only at hBx)
    go_simp
    try with_reducible rfl
  try simp only [Act.put, List.setIfInBounds_toArray, List.set_cons_zero, List.set_cons_succ]
  refine wpL_takeB (i := 34) (v := ?_) rfl (by kernel_rfl) (by kernel_rfl) (by kernel_rfl) (by decide) (fun _ _ _ h => h) (Or.inl ⟨by rfl, ?_⟩) (SAB.both hA hB) ?_
  rotate_left
  · intro wx hBx
    (try dsimp only at hBx)
    go_simp
    try with_reducible rfl
  try simp only [Act.put, List.setIfInBounds_toArray, List.set_cons_zero, List.set_cons_succ]
  refine wpL_takeB (i := 35) (v := ?_) rfl (by kernel_rfl) (by kernel_rfl) (by kernel_rfl) (by decide) (fun _ _ _ h => h) (Or.inl ⟨by rfl, ?_⟩) (SAB.both hA hB) ?_
  rotate_left
  · intro wx hBx
    (try dsimp only at hBx)
    go_simp
    try with_reducible rfl
  try simp only [Act.put, List.setIfInBounds_toArray, List.set_cons_zero, List.set_cons_succ]
  refine wpL_takeB (i := 36) (v := ?_) rfl (by kernel_rfl) (by kernel_rfl) (by kernel_rfl) (by decide) (fun _ _ _ h => h) (Or.inl ⟨by rfl, ?_⟩) (SAB.both hA hB) ?_
  rotate_left
  · intro wx hBx
    (try dsimp only at hBx)
    go_simp
    try with_reducible rfl
  try simp only [Act.put, List.setIfInBounds_toArray, List.set_cons_zero, List.set_cons_succ]
  refine wpL_takeB (i := 37) (v := ?_) rfl (by kernel_rfl) (by kernel_rfl) (by kernel_rfl) (by decide) (fun _ _ _ h => h) (Or.inl ⟨by rfl, ?_⟩) (SAB.both hA hB) ?_
  rotate_left
  · intro wx hBx
    (try dsimp only at hBx)
    go_simp
    try with_reducible rfl
  try simp only [Act.put, List.setIfInBounds_toArray, List.set_cons_zero, List.set_cons_succ]
  clear a0 a1 a2 a3 a4 a5 a6 b0 b1 b2 b3 b4 b5 b6
  refine wpL_one (i := 4) (by kernel_rfl) (StepL.mk rfl (fun K hK => ?_))
  go_simp
  refine (compare_any _ a.inc b.inc).mono ?_
  rintro e u1 ⟨rfl, hq⟩
  replace hq := hq.symm
  subst hq
  have ha := hB
  refine hK.out _ _ (SAB.both trivial ha) (fun hSS => ?_)
  clear hK K hA hB
  have hB := hSS.2
  have hA := hSS.1 (by kernel_rfl)
  (try dsimp only at hB); (try dsimp only at hA); clear hSS
  try simp only [Act.put, List.setIfInBounds_toArray, List.set_cons_zero, List.set_cons_succ]
  clear ha
  refine wpL_one (i := 9) (by kernel_rfl) (StepL.mk rfl (fun K hK => ?_))
  go_simp
  refine (compare_any _ a.kind b.kind).mono ?_
  rintro e u1 ⟨rfl, hq⟩
  replace hq := hq.symm
  subst hq
  have ha := hB
  refine hK.out _ _ (SAB.both trivial ha) (fun hSS => ?_)
  clear hK K hA hB
  have hB := hSS.2
  have hA := hSS.1 (by kernel_rfl)
  (try dsimp only at hB); (try dsimp only at hA); clear hSS
  try simp only [Act.put, List.setIfInBounds_toArray, List.set_cons_zero, List.set_cons_succ]
  clear ha
  refine wpL_one (i := 14) (by kernel_rfl) (StepL.mk rfl (fun K hK => ?_))
  go_simp
  refine (compare_any _ a.frm b.frm).mono ?_
  rintro e u1 ⟨rfl, hq⟩
  replace hq := hq.symm
  subst hq
  have ha := hB
  refine hK.out _ _ (SAB.both trivial ha) (fun hSS => ?_)
  clear hK K hA hB
  have hB := hSS.2
  have hA := hSS.1 (by kernel_rfl)
  (try dsimp only at hB); (try dsimp only at hA); clear hSS
  try simp only [Act.put, List.setIfInBounds_toArray, List.set_cons_zero, List.set_cons_succ]
  clear ha
  refine wpL_one (i := 21) (by kernel_rfl) (StepL.mk rfl (fun K hK => ?_))
  go_simp
  refine (compare_any _ a.sInc b.sInc).mono ?_
  rintro e u1 ⟨rfl, hq⟩
  replace hq := hq.symm
  subst hq
  have ha := hB
  refine hK.out _ _ (SAB.both trivial ha) (fun hSS => ?_)
  clear hK K hA hB
  have hB := hSS.2
  have hA := hSS.1 (by kernel_rfl)
  (try dsimp only at hB); (try dsimp only at hA); clear hSS
  try simp only [Act.put, List.setIfInBounds_toArray, List.set_cons_zero, List.set_cons_succ]
  clear ha
  refine wpL_one (i := 28) (by kernel_rfl) (StepL.mk rfl (fun K hK => ?_))
  go_simp
  refine (compare_any _ a.sIdx b.sIdx).mono ?_
  rintro e u1 ⟨rfl, hq⟩
  replace hq := hq.symm
  subst hq
  have ha := hB
  refine hK.out _ _ (SAB.both trivial ha) (fun hSS => ?_)
  clear hK K hA hB
  have hB := hSS.2
  have hA := hSS.1 (by kernel_rfl)
  (try dsimp only at hB); (try dsimp only at hA); clear hSS
  try simp only [Act.put, List.setIfInBounds_toArray, List.set_cons_zero, List.set_cons_succ]
  clear ha
  refine wpL_one (i := 33) (by kernel_rfl) (StepL.mk rfl (fun K hK => ?_))
  go_simp
  refine (compare_any _ a.ord b.ord).mono ?_
  rintro e u1 ⟨rfl, hq⟩
  replace hq := hq.symm
  subst hq
  have ha := hB
  refine hK.out _ _ (SAB.both trivial ha) (fun hSS => ?_)
  clear hK K hA hB
  have hB := hSS.2
  have hA := hSS.1 (by kernel_rfl)
  (try dsimp only at hB); (try dsimp only at hA); clear hSS
  try simp only [Act.put, List.setIfInBounds_toArray, List.set_cons_zero, List.set_cons_succ]
  clear ha
  refine wpL_one (i := 38) (by kernel_rfl) (StepL.mk rfl (fun K hK => ?_))
  go_simp
  refine (compare_any _ a.val b.val).mono ?_
  rintro e u1 ⟨rfl, hq⟩
  replace hq := hq.symm
  subst hq
  have ha := hB
  refine hK.out _ _ (SAB.both trivial ha) (fun hSS => ?_)
  clear hK K hA hB
  have hB := hSS.2
  have hA := hSS.1 (by kernel_rfl)
  (try dsimp only at hB); (try dsimp only at hA); clear hSS
  try simp only [Act.put, List.setIfInBounds_toArray, List.set_cons_zero, List.set_cons_succ]
  clear ha
  refine wpL_one (i := 39) (by kernel_rfl) (StepL.mk rfl (fun K hK => ?_))
  refine step_buildS rfl 22 3 7 _ rfl Tryd.underlying22 _ [(0, .int .i64 (cmpI a.inc b.inc)), (1, .int .i64 (cmpI a.kind b.kind)), (2, .int .i64 (cmpI a.frm b.frm)), (3, .int .i64 (cmpI a.sInc b.sInc)), (4, .int .i64 (cmpI a.sIdx b.sIdx)), (5, .int .i64 (cmpI a.ord b.ord)), (6, .int .i64 (cmpI a.val b.val))] rfl (built_int7 _ _ _ _ _ _ _) ?_
  generalize hq : u0.alloc (.cells #[.int .i64 (cmpI a.inc b.inc), .int .i64 (cmpI a.kind b.kind), .int .i64 (cmpI a.frm b.frm), .int .i64 (cmpI a.sInc b.sInc), .int .i64 (cmpI a.sIdx b.sIdx), .int .i64 (cmpI a.ord b.ord), .int .i64 (cmpI a.val b.val)] 3) = u1
  have hr : Reads u1 (fun i => i = u0.heap.size) 1 (some ⟨u0.heap.size, 0, none⟩) 7 [.int .i64 (cmpI a.inc b.inc), .int .i64 (cmpI a.kind b.kind), .int .i64 (cmpI a.frm b.frm), .int .i64 (cmpI a.sInc b.sInc), .int .i64 (cmpI a.sIdx b.sIdx), .int .i64 (cmpI a.ord b.ord), .int .i64 (cmpI a.val b.val)] := hq ▸ Reads.new rfl
  have hk1 : Keep u0 u1 := hq ▸ Keep.new _ _
  clear hq
  have ha := Keep.trans hB hk1
  refine hK.out _ _ (SAB.both trivial ha) (fun hSS => ?_)
  clear hK K hA hB
  have hB := hSS.2
  have hA := hSS.1 (by kernel_rfl)
  (try dsimp only at hB); (try dsimp only at hA); clear hSS
  try simp only [Act.put, List.setIfInBounds_toArray, List.set_cons_zero, List.set_cons_succ]
  clear ha
  refine wpL_one (i := 40) (by kernel_rfl) (StepL.mk rfl (fun K hK => ?_))
  go_simp
  refine (or_any u1 _ _ 7 7 [cmpI a.inc b.inc, cmpI a.kind b.kind, cmpI a.frm b.frm, cmpI a.sInc b.sInc, cmpI a.sIdx b.sIdx, cmpI a.ord b.ord, cmpI a.val b.val] ⟨rfl, Nat.le_refl _, by simp [maxLen], hr⟩ (by omega)).mono ?_
  rintro e u2 ⟨rfl, hq⟩
  replace hq := hq.symm
  subst hq
  have ha := hB
  have hfin : CevPost (cmpEv a b) w (.returned (.int .i64 (cmpEv a b))) u1 := ⟨rfl, Keep.trans HKW.out ha⟩
  refine hK.out _ _ (SAB.both trivial ha) (fun hSS => ?_)
  clear hK K hA hB
  have hB := hSS.2
  have hA := hSS.1 (by kernel_rfl)
  (try dsimp only at hB); (try dsimp only at hA); clear hSS
  try simp only [Act.put, List.setIfInBounds_toArray, List.set_cons_zero, List.set_cons_succ]
  clear ha
  have HFIN := Lib.hid hfin
  clear hfin
  refine wpL_takeB (i := 41) (v := ?_) rfl (by kernel_rfl) (by kernel_rfl) (by kernel_rfl) (by decide) (fun _ _ _ h => h) (Or.inl ⟨by rfl, ?_⟩) (SAB.both hA hB) ?_
  rotate_left
  · intro wx hBx
    (try dsimp only at hBx)
    go_simp
    try with_reducible rfl
  try simp only [Act.put, List.setIfInBounds_toArray, List.set_cons_zero, List.set_cons_succ]
  refine wpL_done (by kernel_rfl) ?_
  clear hA hB
  go_wp2_with fail
  go_ret
  exact HFIN.out
end Go.Proofs.YtecckbkobkfnmaaDoor

-- Lin
/- Contracts: determinant.Lineage, determinant.Cut. -/
set_option linter.unusedVariables false
set_option linter.unusedSimpArgs false
set_option maxRecDepth 100000
namespace Go.Proofs.YtecckbkobkfnmaaDoor
open Go.RowKit Go.Proofs

theorem info_Det : (Tryd.prog.info? 72).map (fun i => (i.zero, i.size, i.bytes)) = some (some (.agg #[.int .i64 0, .int .i64 0, .int .i64 0, .int .i64 0, .int .i64 0, .int .i64 0, .int .i64 0, .int .i64 0, .int .i64 0]), 9, 72) := by kernel_rfl
/-- A new list of determinants. -/
def DtsPost (l : List Dt) (w : World) (e : Ending) (w' : World) : Prop :=
  ∃ (A : Option Addr) (n c : Nat), e = .returned (.slice A n c) ∧ Sl encDt 9 w' (fun i => w.heap.size ≤ i ∧ i < w'.heap.size) A n c l ∧ Keep w w'
def LinRel (p : Int) (l : List Ev) (w : World) (v i : Value) (wr : World) : Prop :=
  ∃ k : Nat, k ≤ l.length ∧ i = .int .i64 k ∧ wr.ownsRow w.heap.size 72 9 v (linS p 1 (l.take k)).length ((linS p 1 (l.take k)).flatMap encDt) ∧ Keep w wr
theorem lin_take {p : Int} {l : List Ev} {k : Nat} {y : Ev} (h : l[k]? = some y) : linS p 1 (l.take (k + 1)) = linS p 1 (l.take k) ++ [⟨p, (k : Int) + 1, y⟩] := by
  obtain ⟨hk, rfl⟩ := List.getElem?_eq_some_iff.1 h
  rw [List.take_succ_eq_append_getElem hk, linS_snoc, List.length_take, Nat.min_eq_left (by omega)]
  congr 3
  omega
theorem lin_take_len (p : Int) (l : List Ev) (k : Nat) : (linS p 1 (l.take k)).length ≤ k := by
  rw [linS_len, List.length_take]
  omega
theorem bld_det (p k a b c d e f g : Int) : Tryd.prog.built 72 [(0, .int .i64 p), (1, .int .i64 k), (2, .agg #[.int .i64 a, .int .i64 b, .int .i64 c, .int .i64 d, .int .i64 e, .int .i64 f, .int .i64 g])] = some #[.int .i64 p, .int .i64 k, .int .i64 a, .int .i64 b, .int .i64 c, .int .i64 d, .int .i64 e, .int .i64 f, .int .i64 g] := by kernel_rfl
theorem built_det1 (p k a b c d e f g : Int) : builtS Tryd.prog 72 1 [(0, .agg #[.int .i64 p, .int .i64 k, .int .i64 a, .int .i64 b, .int .i64 c, .int .i64 d, .int .i64 e, .int .i64 f, .int .i64 g])] = some #[.int .i64 p, .int .i64 k, .int .i64 a, .int .i64 b, .int .i64 c, .int .i64 d, .int .i64 e, .int .i64 f, .int .i64 g] := by kernel_rfl
set_option maxHeartbeats 4000000 in
theorem lineage_any (w : World) (S : Nat → Prop) (A : Option Addr) (n c : Nat) (l : List Ev) (p : Int) (hS : ∀ i, S i → i < w.heap.size) (hl : Sl encEv 7 w S A n c l) (hn : n ≤ 1000) :
    Calls Tryd.prog 41 #[.int .i64 p, .slice A n c] w (DtsPost (linS p 1 l) w) := by
  obtain ⟨i0, hi0, hz0, hz1, hz2⟩ := info_of info_Det
  have hnl := hl.1
  have HI0 := Lib.hid hi0
  have HZ0 := Lib.hid hz0
  have HZ1 := Lib.hid hz1
  have HZ2 := Lib.hid hz2
  have HL := Lib.hid hl
  have HNL := Lib.hid hnl
  have HS := Lib.hid hS
  clear hi0 hz0 hz1 hz2 hl hnl hS
  go_enter Tryd.func41, Tryd.ntmps41
  go_wp2_with fail
  go_loopw [5, 10] (fun v i wr => LinRel p l w v i wr) (fun _ i _ => n - (intOf i).toNat)
  case atStart => exact ⟨0, Nat.zero_le _, rfl, World.ownsRow_nil _ _ _ _, Same.refl _ _⟩
  case round =>
    obtain ⟨k, hkl, rfl, hown, hkp⟩ := hrel
    have hf := lin_take_len p l k
    have hkn : k ≤ n := by have := HNL.out; omega
    have hsz := hkp.size
    by_cases hk : k < n
    · obtain ⟨b, off, y, rfl, hSb, hy, hcell⟩ := (HL.out.keep (Same.mono hkp HS.out)).at_ encEv_len hk
      have hd1 : decide (k < n) = true := by simpa using hk
      have hd2 : (0 : Int) ≤ k := by omega
      have hd3 : (k : Int) < n := by omega
      have hsn := lin_take (p := p) hy
      have hrg : wr.rangeAt b (off + k * 7) [.int .i64 y.kind, .int .i64 y.inc, .int .i64 y.frm, .int .i64 y.sInc, .int .i64 y.sIdx, .int .i64 y.ord, .int .i64 y.val] := hcell
      obtain ⟨m, hm⟩ : ∃ m, m = (linS p 1 (l.take k)).length := ⟨_, rfl⟩
      have hm2 : m ≤ k := by omega
      rw [← hm] at hown
      have HRG := Lib.hid hrg
      have HSN := Lib.hid hsn
      have HKP := Lib.hid hkp
      have HOWN := Lib.hid hown
      have HM := Lib.hid hm
      clear hrg hsn hkp hown hm
      clear hcell hy hf hkl hSb
      go_upto_region 5 with (first
        | (refine wpList_load_mid rfl _ (.tmp 13) rfl b (off + k * 7) rfl [.int .i64 y.kind, .int .i64 y.inc, .int .i64 y.frm, .int .i64 y.sInc, .int .i64 y.sIdx, .int .i64 y.ord, .int .i64 y.val] _ HRG.out Tryd.underlying51 rfl (by kernel_rfl) ?_)
        | (refine wpList_store_all rfl _ (.tmp 7) (.tmp 14) rfl wr.heap.size 51 _ [.int .i64 y.kind, .int .i64 y.inc, .int .i64 y.frm, .int .i64 y.sInc, .int .i64 y.sIdx, .int .i64 y.ord, .int .i64 y.val] rfl rfl (Blk.new _ _ _) rfl (by kernel_rfl) rfl ?_; intro w7 hb7 hs7))
      have hk7 : Keep wr w7 := Keep.write (Keep.new _ _) hs7 (Nat.le_refl _)
      have hz7 : wr.heap.size < w7.heap.size := hb7.lt
      have ho7 := ownsRow_same HOWN.out hk7 (fun i hi => hi.2)
      have hkk := Keep.trans HKP.out hk7
      have HB7 := Lib.hid hb7
      have HO7 := Lib.hid ho7
      have HKK := Lib.hid hkk
      clear hb7 ho7 hkk
      clear hs7 hk7
      go_wp2_with (first
        | (refine wpList_load_all rfl _ (.tmp 7) rfl wr.heap.size 51 [.int .i64 y.kind, .int .i64 y.inc, .int .i64 y.frm, .int .i64 y.sInc, .int .i64 y.sIdx, .int .i64 y.ord, .int .i64 y.val] _ rfl HB7.out Tryd.underlying51 rfl (by kernel_rfl) ?_)
        | (refine wpList_bld rfl 72 _ rfl _ [(0, .int .i64 p), (1, .int .i64 ((k : Int) + 1)), (2, .agg #[.int .i64 y.kind, .int .i64 y.inc, .int .i64 y.frm, .int .i64 y.sInc, .int .i64 y.sIdx, .int .i64 y.ord, .int .i64 y.val])] rfl (bld_det _ _ _ _ _ _ _ _ _) ?_)
        | (refine wpList_buildS rfl 69 72 1 _ rfl Tryd.underlying69 _ [(0, .agg #[.int .i64 p, .int .i64 ((k : Int) + 1), .int .i64 y.kind, .int .i64 y.inc, .int .i64 y.frm, .int .i64 y.sInc, .int .i64 y.sIdx, .int .i64 y.ord, .int .i64 y.val])] rfl (built_det1 _ _ _ _ _ _ _ _ _) ?_)
        | (at_builtin; refine wpList_append_any _ rfl (.tmp 15) (.tmp 21) 69 rfl w.heap.size 72 i0 _ 9 72 Tryd.underlying69 HI0.out HZ0.out HZ1.out HZ2.out rfl (by omega) _ m _ rfl (HO7.out.alloc _) _ (some ⟨w7.heap.size, 0, none⟩) 1 1 (encDt ⟨p, (k : Int) + 1, y⟩) rfl (Reads.new rfl) (encDt_one _) (by simp [maxLen]; omega) (by omega) (by simp; omega) ?_; intro v5 w5 hown5 hg5 hat5))
      go_roundw
      case rel =>
        refine ⟨k + 1, by have := HNL.out; omega, by go_num, ?_, ?_⟩
        · rw [HSN.out, List.length_append, ← HM.out, List.flatMap_append]
          simpa using hown5
        · exact (Keep.alloc HKK.out _).append (HO7.out.alloc _) hg5 (fun i hi => hi) (by simp; omega)
      case measure => simp [intOf]; omega
    · have hd1 : decide (k < n) = false := by simpa using hk
      have HKP := Lib.hid hkp
      have HOWN := Lib.hid hown
      clear hkp hown
      go_wp2_with fail
      obtain ⟨A', c', rfl, hsl⟩ := Sl.of_own HOWN.out
      have hkn' : k = l.length := by have := HNL.out; omega
      go_ret
      have htl : l.take k = l := List.take_of_length_le (by omega)
      rw [htl] at hsl ⊢
      exact ⟨A', _, c', rfl, hsl, HKP.out⟩
theorem cut_keep {p a : Int} {d : Dt} : decide (d.proc ≠ p ∨ d.idx ≤ a) = (d.proc != p || decide (d.idx ≤ a)) := by
  by_cases h : d.proc = p <;> simp [h]
theorem cutS_snoc {p a : Int} {l : List Dt} {k : Nat} {d : Dt} (h : l[k]? = some d) : cutS (l.take (k + 1)) p a = cutS (l.take k) p a ++ (if (d.proc != p || decide (d.idx ≤ a)) = true then [d] else []) := by
  obtain ⟨hk, e⟩ := List.getElem?_eq_some_iff.1 h
  unfold cutS
  rw [List.take_succ_eq_append_getElem hk, List.filter_append, e, ← cut_keep]
  by_cases hp : d.proc ≠ p ∨ d.idx ≤ a
  · rw [List.filter_cons_of_pos (by simpa using hp), if_pos (by simpa using hp)]; rfl
  · rw [List.filter_cons_of_neg (by simpa using hp), if_neg (by simpa using hp)]; rfl
theorem cutS_len (p a : Int) (l : List Dt) (k : Nat) : (cutS (l.take k) p a).length ≤ k := by
  have h1 := List.length_filter_le (fun d : Dt => decide (d.proc ≠ p ∨ d.idx ≤ a)) (l.take k)
  have h2 := List.length_take_le k l
  unfold cutS
  omega
def CutRel (p a : Int) (l : List Dt) (w : World) (v i : Value) (wr : World) : Prop :=
  ∃ k : Nat, k ≤ l.length ∧ i = .int .i64 k ∧ wr.ownsRow w.heap.size 72 9 v (cutS (l.take k) p a).length ((cutS (l.take k) p a).flatMap encDt) ∧ Keep w wr
set_option maxHeartbeats 4000000 in
theorem cut_any (w : World) (S : Nat → Prop) (A : Option Addr) (n c : Nat) (l : List Dt) (p a : Int) (hS : ∀ i, S i → i < w.heap.size) (hl : Sl encDt 9 w S A n c l) (hn : n ≤ 1000) :
    Calls Tryd.prog 43 #[.slice A n c, .int .i64 p, .int .i64 a] w (DtsPost (cutS l p a) w) := by
  obtain ⟨i0, hi0, hz0, hz1, hz2⟩ := info_of info_Det
  have hnl := hl.1
  have HI0 := Lib.hid hi0
  have HZ0 := Lib.hid hz0
  have HZ1 := Lib.hid hz1
  have HZ2 := Lib.hid hz2
  have HL := Lib.hid hl
  have HNL := Lib.hid hnl
  have HS := Lib.hid hS
  clear hi0 hz0 hz1 hz2 hl hnl hS
  go_enter Tryd.func43, Tryd.ntmps43
  go_wp2_with fail
  go_loopw [7, 12] (fun v i wr => CutRel p a l w v i wr) (fun _ i _ => n - (intOf i).toNat)
  case atStart => exact ⟨0, Nat.zero_le _, rfl, World.ownsRow_nil _ _ _ _, Same.refl _ _⟩
  case round =>
    obtain ⟨k, hkl, rfl, hown, hkp⟩ := hrel
    have hf := cutS_len p a l k
    have hkn : k ≤ n := by have := HNL.out; omega
    have hsz := hkp.size
    by_cases hk : k < n
    · obtain ⟨b, off, d, rfl, hSb, hy, hcell⟩ := (HL.out.keep (Same.mono hkp HS.out)).at_ encDt_len hk
      have hd1 : decide (k < n) = true := by simpa using hk
      have hd2 : (0 : Int) ≤ k := by omega
      have hd3 : (k : Int) < n := by omega
      have hsn := cutS_snoc (p := p) (a := a) hy
      have hrg : wr.rangeAt b (off + k * 9) (encDt d) := hcell
      obtain ⟨m, hm⟩ : ∃ m, m = (cutS (l.take k) p a).length := ⟨_, rfl⟩
      have hm2 : m ≤ k := by omega
      rw [← hm] at hown
      have HRG := Lib.hid hrg
      have HSN := Lib.hid hsn
      have HKP := Lib.hid hkp
      have HOWN := Lib.hid hown
      have HM := Lib.hid hm
      clear hrg hsn hkp hown hm
      clear hcell hy hf hkl hSb
      go_upto_region 5 with (first
        | (refine wpList_load_mid rfl _ (.tmp 14) rfl b (off + k * 9) rfl [.int .i64 d.proc, .int .i64 d.idx, .int .i64 d.ev.kind, .int .i64 d.ev.inc, .int .i64 d.ev.frm, .int .i64 d.ev.sInc, .int .i64 d.ev.sIdx, .int .i64 d.ev.ord, .int .i64 d.ev.val] _ HRG.out Tryd.underlying72 rfl (by kernel_rfl) ?_)
        | (refine wpList_store_all rfl _ (.tmp 9) (.tmp 15) rfl wr.heap.size 72 _ [.int .i64 d.proc, .int .i64 d.idx, .int .i64 d.ev.kind, .int .i64 d.ev.inc, .int .i64 d.ev.frm, .int .i64 d.ev.sInc, .int .i64 d.ev.sIdx, .int .i64 d.ev.ord, .int .i64 d.ev.val] rfl rfl (Blk.new _ _ _) rfl (by kernel_rfl) rfl ?_; intro w7 hb7 hs7))
      have hk7 : Keep wr w7 := Keep.write (Keep.new _ _) hs7 (Nat.le_refl _)
      have hz7 : wr.heap.size < w7.heap.size := hb7.lt
      have ho7 := ownsRow_same HOWN.out hk7 (fun i hi => hi.2)
      have hkk := Keep.trans HKP.out hk7
      have c0 : w7.cell? ⟨wr.heap.size, 0, none⟩ = some (.int .i64 d.proc) := by rw [hb7.cell]; rfl
      have c1 : w7.cell? ⟨wr.heap.size, 1, none⟩ = some (.int .i64 d.idx) := by rw [hb7.cell]; rfl
      have HB7 := Lib.hid hb7
      have HO7 := Lib.hid ho7
      have HKK := Lib.hid hkk
      clear hb7 ho7 hkk
      clear hs7 hk7
      have hin : ∀ (v5 : Value) (w5 : World), (d.proc != p || decide (d.idx ≤ a)) = true → w5.ownsRow w.heap.size 72 9 v5 (m + 1) ((cutS (l.take k) p a).flatMap encDt ++ encDt d) → (w7.alloc (.cells (encDt d).toArray 72)).grownBy w5 _ → CutRel p a l w v5 (.int .i64 ((k : Int) + 1)) w5 := fun v5 w5 ht hown5 hg5 => by
        refine ⟨k + 1, by have := HNL.out; omega, by simp, ?_, ?_⟩
        · rw [HSN.out, if_pos ht, List.length_append, ← HM.out, List.flatMap_append]
          simpa using hown5
        · exact (Keep.alloc HKK.out _).append (HO7.out.alloc _) hg5 (fun i hi => hi) (by simp; omega)
      have HIN := Lib.hid hin
      clear hin
      cases q1 : (d.proc != p)
      · by_cases q2 : d.idx ≤ a
        · have q3 : decide (d.idx ≤ a) = true := by simpa using q2
          have ht : (d.proc != p || decide (d.idx ≤ a)) = true := by rw [q3]; simp
          have HT := Lib.hid ht
          clear ht
          go_wp2_with (first
            | (refine wpList_load_all rfl _ (.tmp 9) rfl wr.heap.size 72 [.int .i64 d.proc, .int .i64 d.idx, .int .i64 d.ev.kind, .int .i64 d.ev.inc, .int .i64 d.ev.frm, .int .i64 d.ev.sInc, .int .i64 d.ev.sIdx, .int .i64 d.ev.ord, .int .i64 d.ev.val] _ rfl HB7.out Tryd.underlying72 rfl (by kernel_rfl) ?_)
            | (refine wpList_buildS rfl 69 72 1 _ rfl Tryd.underlying69 _ [(0, .agg #[.int .i64 d.proc, .int .i64 d.idx, .int .i64 d.ev.kind, .int .i64 d.ev.inc, .int .i64 d.ev.frm, .int .i64 d.ev.sInc, .int .i64 d.ev.sIdx, .int .i64 d.ev.ord, .int .i64 d.ev.val])] rfl (built_det1 _ _ _ _ _ _ _ _ _) ?_)
            | (at_builtin; refine wpList_append_any _ rfl (.tmp 26) (.tmp 28) 69 rfl w.heap.size 72 i0 _ 9 72 Tryd.underlying69 HI0.out HZ0.out HZ1.out HZ2.out rfl (by omega) _ m _ rfl (HO7.out.alloc _) _ (some ⟨w7.heap.size, 0, none⟩) 1 1 (encDt d) rfl (Reads.new rfl) (encDt_one _) (by simp [maxLen]; omega) (by omega) (by simp; omega) ?_; intro v5 w5 hown5 hg5 hat5))
          go_roundw
          case rel => exact HIN.out _ _ HT.out hown5 hg5
          case measure => simp [intOf]; omega
        · have q3 : decide (d.idx ≤ a) = false := by simpa using q2
          have ht : (d.proc != p || decide (d.idx ≤ a)) = false := by rw [q3, q1]; rfl
          have HT := Lib.hid ht
          clear ht
          go_wp2_with fail
          go_roundw
          case rel =>
            refine ⟨k + 1, by have := HNL.out; omega, by go_num, ?_, HKK.out⟩
            rw [HSN.out, if_neg (by rw [HT.out]; simp), List.append_nil, ← HM.out]
            exact HO7.out
          case measure => simp [intOf]; omega
      · have ht : (d.proc != p || decide (d.idx ≤ a)) = true := by rw [q1]; simp
        have HT := Lib.hid ht
        clear ht
        go_wp2_with (first
          | (refine wpList_load_all rfl _ (.tmp 9) rfl wr.heap.size 72 [.int .i64 d.proc, .int .i64 d.idx, .int .i64 d.ev.kind, .int .i64 d.ev.inc, .int .i64 d.ev.frm, .int .i64 d.ev.sInc, .int .i64 d.ev.sIdx, .int .i64 d.ev.ord, .int .i64 d.ev.val] _ rfl HB7.out Tryd.underlying72 rfl (by kernel_rfl) ?_)
          | (refine wpList_buildS rfl 69 72 1 _ rfl Tryd.underlying69 _ [(0, .agg #[.int .i64 d.proc, .int .i64 d.idx, .int .i64 d.ev.kind, .int .i64 d.ev.inc, .int .i64 d.ev.frm, .int .i64 d.ev.sInc, .int .i64 d.ev.sIdx, .int .i64 d.ev.ord, .int .i64 d.ev.val])] rfl (built_det1 _ _ _ _ _ _ _ _ _) ?_)
          | (at_builtin; refine wpList_append_any _ rfl (.tmp 26) (.tmp 28) 69 rfl w.heap.size 72 i0 _ 9 72 Tryd.underlying69 HI0.out HZ0.out HZ1.out HZ2.out rfl (by omega) _ m _ rfl (HO7.out.alloc _) _ (some ⟨w7.heap.size, 0, none⟩) 1 1 (encDt d) rfl (Reads.new rfl) (encDt_one _) (by simp [maxLen]; omega) (by omega) (by simp; omega) ?_; intro v5 w5 hown5 hg5 hat5))
        go_roundw
        case rel => exact HIN.out _ _ HT.out hown5 hg5
        case measure => simp [intOf]; omega
    · have hd1 : decide (k < n) = false := by simpa using hk
      have HKP := Lib.hid hkp
      have HOWN := Lib.hid hown
      clear hkp hown
      go_wp2_with fail
      obtain ⟨A', c', rfl, hsl⟩ := Sl.of_own HOWN.out
      have hkn' : k = l.length := by have := HNL.out; omega
      go_ret
      have htl : l.take k = l := List.take_of_length_le (by omega)
      rw [htl] at hsl ⊢
      exact ⟨A', _, c', rfl, hsl, HKP.out⟩
end Go.Proofs.YtecckbkobkfnmaaDoor

-- Rec
/- replay.Recover. -/
set_option linter.unusedVariables false
set_option linter.unusedSimpArgs false
set_option maxRecDepth 100000
namespace Go.Proofs.YtecckbkobkfnmaaDoor
open Go.RowKit Go.Proofs

/-- What a recovery returns, and of what size. -/
def RcPost (S : Nat → Prop) (c : Cd) (self procs : Int) (f : Int → Option Ev) (m : Nat) (s : St) (w : World) (e : Ending) (w' : World) : Prop :=
  ∃ (cs : List Value) (t : St), e = .returned (.agg cs.toArray) ∧ RecS c self procs f s t ∧ t.cells.length = s.cells.length ∧ t.sent.length ≤ s.sent.length + 8 * m ∧ t.outs.length ≤ s.outs.length + 8 * m ∧ t.events.length ≤ s.events.length + m ∧ StR w' (Sn S w w') cs t ∧ Keep w w'
theorem mapS_take {self : Int} {l : List Dt} {k : Nat} {d : Dt} (h : l[k]? = some d) : mapS self (l.take (k + 1)) = putS self (mapS self (l.take k)) d := by
  obtain ⟨hk, rfl⟩ := List.getElem?_eq_some_iff.1 h
  rw [List.take_succ_eq_append_getElem hk, mapS_snoc]
theorem putS_other {self : Int} {f : Int → Option Ev} {d : Dt} (h : (d.proc != self) = true) : putS self f d = f := by
  unfold putS
  rw [if_neg (fun hh => by rw [hh.1] at h; simp at h)]
theorem putS_worse {self : Int} {f : Int → Option Ev} {d : Dt} (h : better (f d.idx) d.ev = false) : putS self f d = f := by
  unfold putS
  rw [if_neg (fun hh => by rw [h] at hh; cases hh.2)]
theorem putS_put {self : Int} {f : Int → Option Ev} {d : Dt} (h1 : (d.proc != self) = false) (h : better (f d.idx) d.ev = true) : putS self f d = (fun j => if j = d.idx then some d.ev else f j) := by
  unfold putS
  rw [if_pos ⟨by simpa using h1, h⟩]
def RcL1 (self : Int) (l : List Dt) (b : Nat) (w1 : World) (i : Value) (wr : World) : Prop :=
  ∃ k m : Nat, i = .int .i64 k ∧ k ≤ l.length ∧ m ≤ k ∧ MapEv wr b m (mapS self (l.take k)) ∧ Same (fun i => i < w1.heap.size ∧ i ≠ b) w1 wr
def RcT (S : Nat → Prop) (g : Nat) (w : World) (i : Nat) : Prop := S i ∨ (g < i ∧ i < w.heap.size)
def RcL2 (S : Nat → Prop) (c : Cd) (self procs : Int) (f : Int → Option Ev) (l : List Dt) (s : St) (b m g : Nat) (w2 : World) (gk : Nat) (wr : World) : Prop :=
  ∃ (cs : List Value) (s' : St), gk = above l s'.events.length ∧ (∀ t, RecS c self procs f s' t → RecS c self procs f s t) ∧ s'.cells.length = s.cells.length ∧ s'.sent.length + 8 * gk ≤ s.sent.length + 8 * l.length ∧ s'.outs.length + 8 * gk ≤ s.outs.length + 8 * l.length ∧ s'.events.length + gk ≤ s.events.length + l.length ∧
    Blk wr g 27 cs.toArray ∧ StR wr (RcT S g wr) cs s' ∧ MapEv wr b m f ∧ Same (· < g) w2 wr
theorem above_le (l : List Dt) (n : Nat) : above l n ≤ l.length := List.length_filter_le _ _
set_option maxHeartbeats 16000000 in
theorem precover_any (w : World) (S : Nat → Prop) (cs ss : List Value) (c : Cd) (s : St) (self procs : Int) (A : Option Addr) (n cp : Nat) (l : List Dt) (hS : ∀ i, S i → i < w.heap.size) (hc : CdR w S cs c) (hs : StR w S ss s) (hl : Sl encDt 9 w S A n cp l) (hn : l.length ≤ 1000) (hix : ∀ d ∈ l, I64 d.idx)
    (h1 : s.cells.length ≤ 1000000) (h2 : s.sent.length ≤ 900000) (h3 : s.outs.length ≤ 900000) (h4 : s.events.length ≤ 900000) :
    Calls Tryd.prog 42 #[.agg cs.toArray, .int .i64 self, .int .i64 procs, .agg ss.toArray, .slice A n cp] w (RcPost S c self procs (mapS self l) l.length s w) := by
  obtain ⟨A0, A1, A2, A3, A4, m0, c0, m1, c1, m2, c2, m3, c3, m4, c4, rfl, hcd⟩ := cd_open2 hc
  obtain ⟨B1, B2, B3, B4, p1, q1, p2, q2, p3, q3, p4, q4, rfl, hst⟩ := st_open hs
  show Calls Tryd.prog 42 #[.agg #[.slice A0 m0 c0, .slice A1 m1 c1, .slice A2 m2 c2, .slice A3 m3 c3, .slice A4 m4 c4], .int .i64 self, .int .i64 procs, .agg #[.slice B1 p1 q1, .slice B2 p2 q2, .slice B3 p3 q3, .slice B4 p4 q4], .slice A n cp] w _
  generalize hW : ((w.alloc (.cells #[.slice A0 m0 c0, .slice A1 m1 c1, .slice A2 m2 c2, .slice A3 m3 c3, .slice A4 m4 c4] 38)).alloc (.cells #[.slice B1 p1 q1, .slice B2 p2 q2, .slice B3 p3 q3, .slice B4 p4 q4] 27)).alloc (.cells #[.slice none 0 0, .slice none 0 0, .slice none 0 0, .slice none 0 0] 27) = W
  have hkW : Keep w W := hW ▸ Keep.alloc (Keep.alloc (Keep.new w _) _) _
  have hb5 : Blk W w.heap.size 38 #[.slice A0 m0 c0, .slice A1 m1 c1, .slice A2 m2 c2, .slice A3 m3 c3, .slice A4 m4 c4] := hW ▸ ((Blk.new w _ _).alloc _).alloc _
  have hb8 : Blk W (w.heap.size + 1) 27 #[.slice B1 p1 q1, .slice B2 p2 q2, .slice B3 p3 q3, .slice B4 p4 q4] := hW ▸ blkM w _ _ _ _
  have hb10 : Blk W (w.heap.size + 2) 27 #[.slice none 0 0, .slice none 0 0, .slice none 0 0, .slice none 0 0] := hW ▸ blkL w _ _ _ _
  have hz : w.heap.size + 2 < W.heap.size := hb10.lt
  have hnl := hl.1
  have hn9 : n ≤ 1000 := by omega
  have HS := Lib.hid hS
  have HKW := Lib.hid hkW
  have HB5 := Lib.hid hb5
  have HB8 := Lib.hid hb8
  have HB10 := Lib.hid hb10
  have HCD := Lib.hid hcd
  have HST := Lib.hid hst
  have HL := Lib.hid hl
  have HIX := Lib.hid hix
  have HNL := Lib.hid hnl
  clear hS hkW hb5 hb8 hb10 hcd hst hl hix hnl
  clear hc hs
  have hmm := @run_makeMap Tryd.prog
  go_enter Tryd.func42, Tryd.ntmps42
  go_upto_region 2 with fail
  clear hW hmm
  generalize hw1 : W.alloc (.map #[] 0) = w1
  have hm0 : MapEv w1 W.heap.size 0 (mapS self (l.take 0)) := hw1 ▸ MapEv.made W
  have hk1 : Keep W w1 := hw1 ▸ Keep.new _ _
  clear hw1
  have hz1 : W.heap.size < w1.heap.size := hm0.lt
  have hrel0 : RcL1 self l W.heap.size w1 (.int .i64 0) w1 := ⟨0, 0, rfl, Nat.zero_le _, Nat.le_refl _, hm0, Same.refl _ _⟩
  have hkw1 := Keep.trans HKW.out hk1
  have hl1 := HL.out.keep (Same.mono hkw1 HS.out)
  have hcd1 := HCD.out.keep (Same.mono hkw1 HS.out)
  have hst1 := HST.out.keep (Same.mono hkw1 HS.out)
  have hb51 := hk1.blk HB5.out HB5.out.lt
  have hb81 := hk1.blk HB8.out HB8.out.lt
  have hb101 := hk1.blk HB10.out HB10.out.lt
  have HREL0 := Lib.hid hrel0
  have HKW1 := Lib.hid hkw1
  have HL1 := Lib.hid hl1
  have HCD1 := Lib.hid hcd1
  have HST1 := Lib.hid hst1
  have HB51 := Lib.hid hb51
  have HB81 := Lib.hid hb81
  have HB101 := Lib.hid hb101
  clear hrel0 hkw1 hl1 hcd1 hst1 hb51 hb81 hb101
  clear HCD HST HL HB5 HB8 HB10 hm0 hk1
  go_wp2_with fail
  go_loopw [22] (fun i wr => RcL1 self l W.heap.size w1 i wr) (fun i _ => n - (intOf i).toNat)
  case atStart => exact HREL0.out
  case round =>
    clear HREL0
    obtain ⟨k, m, rfl, hkl, hmk, hmap, hkr⟩ := hrel
    have hzr := hkr.size
    have hSr : ∀ i, S i → i < w1.heap.size ∧ i ≠ W.heap.size := fun i hi => by have := HS.out i hi; omega
    by_cases hk : k < n
    · obtain ⟨b, off, d, rfl, hSb, hd, hcell⟩ := (HL1.out.keep (hkr.mono hSr)).at_ encDt_len hk
      have hd1 : decide (k < n) = true := by simpa using hk
      have hd2 : (0 : Int) ≤ k := by omega
      have hd3 : (k : Int) < n := by omega
      have hix : I64 d.idx := HIX.out d (List.mem_of_getElem? hd)
      have hrg : wr.rangeAt b (off + k * 9) (encDt d) := hcell
      have htk := mapS_take (self := self) hd
      have hk1l : k + 1 ≤ l.length := by have := HNL.out; omega
      have HRG := Lib.hid hrg
      have HTK := Lib.hid htk
      have HKR := Lib.hid hkr
      have HMAP := Lib.hid hmap
      have HIX := Lib.hid hix
      have HK1L := Lib.hid hk1l
      have HSR := Lib.hid hSr
      clear hrg htk hkr hmap hix hk1l hSr
      clear hcell hd hSb hkl
      go_upto_region 5 with (first
        | (refine wpList_load_mid rfl _ (.tmp 24) rfl b (off + k * 9) rfl [.int .i64 d.proc, .int .i64 d.idx, .int .i64 d.ev.kind, .int .i64 d.ev.inc, .int .i64 d.ev.frm, .int .i64 d.ev.sInc, .int .i64 d.ev.sIdx, .int .i64 d.ev.ord, .int .i64 d.ev.val] _ HRG.out Tryd.underlying72 rfl (by kernel_rfl) ?_)
        | (refine wpList_store_all rfl _ (.tmp 13) (.tmp 25) rfl wr.heap.size 72 _ [.int .i64 d.proc, .int .i64 d.idx, .int .i64 d.ev.kind, .int .i64 d.ev.inc, .int .i64 d.ev.frm, .int .i64 d.ev.sInc, .int .i64 d.ev.sIdx, .int .i64 d.ev.ord, .int .i64 d.ev.val] rfl rfl (Blk.new _ _ _) rfl (by kernel_rfl) rfl ?_; intro w7 hb7 hs7))
      have hk7 : Keep wr w7 := Keep.write (Keep.new _ _) hs7 (Nat.le_refl _)
      have hz7 : wr.heap.size < w7.heap.size := hb7.lt
      have hm7 := HMAP.out.keep hk7 HMAP.out.lt
      have hkk := Same.trans HKR.out hk7 (fun i hi => by have := hi.1; omega)
      have e0 : w7.cell? ⟨wr.heap.size, 0, none⟩ = some (.int .i64 d.proc) := by rw [hb7.cell]; rfl
      have e1 : w7.cell? ⟨wr.heap.size, 1, none⟩ = some (.int .i64 d.idx) := by rw [hb7.cell]; rfl
      have HB7 := Lib.hid hb7
      have HM7 := Lib.hid hm7
      have HKK := Lib.hid hkk
      clear hb7 hm7 hkk
      clear hs7 hk7
      cases q1 : (d.proc != self)
      · have Q1 := Lib.hid q1
        clear q1
        have q1 := Q1.out
        go_upto_region 6 with fail
        generalize hf : mapS self (l.take k) d.idx = o
        have hb8 : ∀ (x : Ev), o.getD zeroEv = x → ∀ (q : Bool), o.isSome = q → True := fun _ _ _ _ => trivial
        clear hb8
        obtain ⟨x, hx⟩ : ∃ x, o.getD zeroEv = x := ⟨_, rfl⟩
        obtain ⟨q, hq⟩ : ∃ q, o.isSome = q := ⟨_, rfl⟩
        rw [← hf] at hx hq
        have HX := Lib.hid hx
        have HQ := Lib.hid hq
        have HF := Lib.hid hf
        clear hx hq hf
        go_upto_region 7 with (first
          | (refine wpList_look rfl (.tmp 31) (.tmp 33) 112 rfl HM7.out Tryd.underlying112 d.idx HIX.out rfl rfl x HX.out q HQ.out ?_)
          | (refine wpList_store_all rfl _ (.tmp 14) (.tmp 35) rfl w7.heap.size 51 _ [.int .i64 x.kind, .int .i64 x.inc, .int .i64 x.frm, .int .i64 x.sInc, .int .i64 x.sIdx, .int .i64 x.ord, .int .i64 x.val] rfl rfl (Blk.new _ _ _) rfl (by kernel_rfl) rfl ?_; intro w8 hb8 hs8))
        have hk8 : Keep w7 w8 := Keep.write (Keep.new _ _) hs8 (Nat.le_refl _)
        have hz8 : w7.heap.size < w8.heap.size := hb8.lt
        have hm8 := HM7.out.keep hk8 HM7.out.lt
        have hkk8 := Same.trans HKK.out hk8 (fun i hi => by have := hi.1; omega)
        have hb78 := hk8.blk HB7.out HB7.out.lt
        have HM8 := Lib.hid hm8
        have HKK8 := Lib.hid hkk8
        have HB78 := Lib.hid hb78
        have HB8 := Lib.hid hb8
        clear hm8 hkk8 hb78 hb8
        clear hs8 hk8 e0 e1
        -- the end of a round that puts
        have hput : ∀ (w9 wa : World), Keep w8 w9 → better (mapS self (l.take k) d.idx) d.ev = true → MapEv wa W.heap.size (m + 1) (fun j => if j = d.idx then some d.ev else mapS self (l.take k) j) → Same (fun i => i < w9.heap.size ∧ i ≠ W.heap.size) w9 wa → RcL1 self l W.heap.size w1 (.int .i64 ((k : Int) + 1)) wa := fun w9 wa h9 hbt hma hsa => by
          have hz9 := h9.size
          refine ⟨k + 1, m + 1, by simp, HK1L.out, by omega, ?_, Same.trans (Same.trans HKK8.out h9 (fun i hi => by have := hi.1; omega)) hsa (fun i hi => ⟨by have := hi.1; omega, hi.2⟩)⟩
          rw [HTK.out, putS_put Q1.out hbt]
          exact hma
        have hold : ∀ (w9 : World), Keep w8 w9 → better (mapS self (l.take k) d.idx) d.ev = false → RcL1 self l W.heap.size w1 (.int .i64 ((k : Int) + 1)) w9 := fun w9 h9 hbt => by
          refine ⟨k + 1, m, by simp, HK1L.out, by omega, ?_, Same.trans HKK8.out h9 (fun i hi => by have := hi.1; omega)⟩
          rw [HTK.out, putS_worse hbt]
          exact HM8.out.keep h9 HM8.out.lt
        have HPUT := Lib.hid hput
        have HOLD := Lib.hid hold
        clear hput hold
        cases o with
        | none =>
          obtain rfl : q = false := by have := HQ.out; rw [HF.out] at this; exact this.symm
          have hbt : better (mapS self (l.take k) d.idx) d.ev = true := by rw [HF.out]; rfl
          have e1 : w8.cell? ⟨wr.heap.size, 1, none⟩ = some (.int .i64 d.idx) := by rw [HB78.out.cell]; rfl
          have HBT := Lib.hid hbt
          clear hbt
          go_wp2_with (first
            | (refine wpList_load_blk rfl _ (.tmp 49) rfl wr.heap.size 2 72 _ [.int .i64 d.ev.kind, .int .i64 d.ev.inc, .int .i64 d.ev.frm, .int .i64 d.ev.sInc, .int .i64 d.ev.sIdx, .int .i64 d.ev.ord, .int .i64 d.ev.val] _ rfl HB78.out (fun j u hu => by rw [Nat.add_comm]; simpa using hu) Tryd.underlying51 rfl (by kernel_rfl) ?_)
            | (refine wpList_put rfl (.tmp 46) (.tmp 48) (.tmp 50) 112 rfl HM8.out (by simp [maxLen]; omega) Tryd.underlying112 d.idx HIX.out rfl rfl d.ev rfl ?_; intro wa hma hsa; have HMA := Lib.hid hma; have HSA := Lib.hid hsa; clear hma hsa))
          go_roundw
          case rel => exact HPUT.out w8 wa (Same.refl _ _) HBT.out HMA.out HSA.out
          case measure => simp [intOf]; omega
        | some y =>
          obtain rfl : q = true := by have := HQ.out; rw [HF.out] at this; exact this.symm
          obtain rfl : y = x := by have := HX.out; rw [HF.out] at this; exact this
          go_upto_region 7 with fail
          have hbt : better (mapS self (l.take k) d.idx) d.ev = decide (cmpEv y d.ev < 0) := by rw [HF.out]; rfl
          have HBT := Lib.hid hbt
          clear hbt
          go_wp2_with (first
            | (refine wpList_load_allg (by rfl) _ (.tmp 14) rfl w7.heap.size 51 [.int .i64 y.kind, .int .i64 y.inc, .int .i64 y.frm, .int .i64 y.sInc, .int .i64 y.sIdx, .int .i64 y.ord, .int .i64 y.val] _ rfl HB8.out Tryd.underlying51 rfl (by kernel_rfl) ?_)
            | (refine wpList_load_blkg (by rfl) _ (.tmp 41) rfl wr.heap.size 2 72 _ [.int .i64 d.ev.kind, .int .i64 d.ev.inc, .int .i64 d.ev.frm, .int .i64 d.ev.sInc, .int .i64 d.ev.sIdx, .int .i64 d.ev.ord, .int .i64 d.ev.val] _ rfl HB78.out (fun j u hu => by rw [Nat.add_comm]; simpa using hu) Tryd.underlying51 rfl (by kernel_rfl) ?_))
          refine (cmpEv_any w8 y d.ev).mono ?_
          rintro e w9 ⟨rfl, hk9⟩
          have hz9 := hk9.size
          have hb79 := hk9.blk HB78.out HB78.out.lt
          have hm9 := HM8.out.keep hk9 HM8.out.lt
          have e1 : w9.cell? ⟨wr.heap.size, 1, none⟩ = some (.int .i64 d.idx) := by rw [hb79.cell]; rfl
          generalize hv : cmpEv y d.ev = v at *
          have HK9 := Lib.hid hk9
          have HB79 := Lib.hid hb79
          have HM9 := Lib.hid hm9
          clear hk9 hb79 hm9
          by_cases hlt : v < 0
          · have t1 : decide (v < 0) = true := by simpa using hlt
            have hbt2 : better (mapS self (l.take k) d.idx) d.ev = true := by rw [HBT.out]; exact t1
            have HBT2 := Lib.hid hbt2
            have HV := Lib.hid hv
            clear hbt2 hv
            go_wp2_with (first
              | (refine wpList_load_blk rfl _ (.tmp 49) rfl wr.heap.size 2 72 _ [.int .i64 d.ev.kind, .int .i64 d.ev.inc, .int .i64 d.ev.frm, .int .i64 d.ev.sInc, .int .i64 d.ev.sIdx, .int .i64 d.ev.ord, .int .i64 d.ev.val] _ rfl HB79.out (fun j u hu => by rw [Nat.add_comm]; simpa using hu) Tryd.underlying51 rfl (by kernel_rfl) ?_)
              | (refine wpList_put rfl (.tmp 46) (.tmp 48) (.tmp 50) 112 rfl HM9.out (by simp [maxLen]; omega) Tryd.underlying112 d.idx HIX.out rfl rfl d.ev rfl ?_; intro wa hma hsa; have HMA := Lib.hid hma; have HSA := Lib.hid hsa; clear hma hsa))
            go_roundw
            case rel => exact HPUT.out w9 wa HK9.out HBT2.out HMA.out HSA.out
            case measure => simp [intOf]; omega
          · have t1 : decide (v < 0) = false := by simpa using hlt
            have hbt2 : better (mapS self (l.take k) d.idx) d.ev = false := by rw [HBT.out]; exact t1
            have HBT2 := Lib.hid hbt2
            have HV := Lib.hid hv
            clear hbt2 hv
            go_wp2_with fail
            go_roundw
            case rel => exact HOLD.out w9 HK9.out HBT2.out
            case measure => simp [intOf]; omega
      · have Q1 := Lib.hid q1
        clear q1
        have q1 := Q1.out
        go_wp2_with fail
        go_roundw
        case rel =>
          refine ⟨k + 1, m, by simp, HK1L.out, by omega, ?_, HKK.out⟩
          rw [HTK.out, putS_other Q1.out]
          exact HM7.out
        case measure => simp [intOf]; omega
    · have hd1 : decide (k < n) = false := by simpa using hk
      have htl : l.take k = l := List.take_of_length_le (by have := HNL.out; omega)
      rw [htl] at hmap
      have hb8r := hkr.blk HB81.out ⟨by have := HB81.out.lt; omega, by omega⟩
      have hb5r := hkr.blk HB51.out ⟨by have := HB51.out.lt; omega, by omega⟩
      have hb10r := hkr.blk HB101.out ⟨by have := HB101.out.lt; omega, by omega⟩
      have hstr := HST1.out.keep (hkr.mono hSr)
      have hcdr := HCD1.out.keep (hkr.mono hSr)
      have hkwr : Keep w wr := Same.trans HKW1.out hkr (fun i hi => ⟨by omega, by omega⟩)
      have HMAP := Lib.hid hmap
      have HB8R := Lib.hid hb8r
      have HB5R := Lib.hid hb5r
      have HB10R := Lib.hid hb10r
      have HSTR := Lib.hid hstr
      have HCDR := Lib.hid hcdr
      have HKWR := Lib.hid hkwr
      clear hmap hb8r hb5r hb10r hstr hcdr hkwr
      clear htl hkr HB81 HB51 HB101 HST1 HCD1 HKW1 HL1
      go_wp2_with (first
        | (refine wpList_load_all rfl _ (.tmp 8) rfl (w.heap.size + 1) 27 [.slice B1 p1 q1, .slice B2 p2 q2, .slice B3 p3 q3, .slice B4 p4 q4] _ rfl HB8R.out Tryd.underlying27 rfl (by kernel_rfl) ?_)
        | (refine wpList_store_all rfl _ (.tmp 16) (.tmp 52) rfl wr.heap.size 27 _ [.slice B1 p1 q1, .slice B2 p2 q2, .slice B3 p3 q3, .slice B4 p4 q4] rfl rfl (Blk.new _ _ _) rfl (by kernel_rfl) rfl ?_; intro w2 hb2 hs2; have HB2 := Lib.hid hb2; have HS2 := Lib.hid hs2; clear hb2 hs2))
      have hk2 : Keep wr w2 := Keep.write (Keep.new _ _) HS2.out (Nat.le_refl _)
      have hz2 : wr.heap.size < w2.heap.size := HB2.out.lt
      have hb52 := hk2.blk HB5R.out HB5R.out.lt
      have hb102 := hk2.blk HB10R.out HB10R.out.lt
      have hSw : ∀ i, S i → i < wr.heap.size := fun i hi => by have := HS.out i hi; omega
      have hst2 := HSTR.out.keep (Same.mono hk2 hSw)
      have hcd2 := HCDR.out.keep (Same.mono hk2 hSw)
      have hm2 := HMAP.out.keep hk2 HMAP.out.lt
      have hkw2 := Keep.trans HKWR.out hk2
      have hbg : W.heap.size < wr.heap.size := by omega
      have hrel0 : RcL2 S c self procs (mapS self l) l s W.heap.size m wr.heap.size w2 (above l s.events.length) w2 :=
        ⟨_, s, rfl, fun t ht => ht, rfl, by have := above_le l s.events.length; omega, by have := above_le l s.events.length; omega, by have := above_le l s.events.length; omega, HB2.out, hst2.more (fun i hi => .inl hi), hm2, Same.refl _ _⟩
      have HREL0 := Lib.hid hrel0
      have HB52 := Lib.hid hb52
      have HB102 := Lib.hid hb102
      have HCD2 := Lib.hid hcd2
      have HKW2 := Lib.hid hkw2
      clear hrel0 hb52 hb102 hcd2 hkw2
      clear HB2 HS2 HB8R HB5R HB10R HSTR HCDR HMAP HKWR hk2 hSw hst2 hm2
      generalize wr.heap.size = g at *
      clear wr
      simp only [Act.put]
      go_loopg [] (above l s.events.length) (fun gk wr => RcL2 S c self procs (mapS self l) l s W.heap.size m g w2 gk wr)
      case atStart => exact HREL0.out
      case round =>
        clear HREL0
        obtain ⟨cs', s', hgk, hto, b1, b2, b3, b4, hbs, hsr, hmp, hkx⟩ := hrel
        obtain ⟨C1, C2, C3, C4, r1, t1, r2, t2, r3, t3, r4, t4, rfl, hsx⟩ := st_open hsr
        clear hsr
        have hzx := hkx.size
        have hgx := hbs.lt
        have hr2 := (st_sl hsx).2.1.1
        have hr29 : r2 ≤ 901000 := by omega
        have cell1 : wr.cell? ⟨g, 1, none⟩ = some (.slice C2 r2 t2) := by rw [hbs.cell]; rfl
        have hI : I64 ((r2 : Int) + 1) := ⟨by omega, by omega⟩
        generalize hf : mapS self l ((r2 : Int) + 1) = o
        obtain ⟨x, hx⟩ : ∃ x, o.getD zeroEv = x := ⟨_, rfl⟩
        obtain ⟨q, hq⟩ : ∃ q, o.isSome = q := ⟨_, rfl⟩
        rw [← hf] at hx hq
        have hb5x := hkx.blk HB52.out (by omega)
        have hb10x := hkx.blk HB102.out (by omega)
        have hcdx := HCD2.out.keep (hkx.mono (fun i hi => by have := HS.out i hi; omega))
        have hkwx : Keep w wr := Same.trans HKW2.out hkx (fun i hi => by omega)
        have HX := Lib.hid hx
        have HQ := Lib.hid hq
        have HF := Lib.hid hf
        have HI := Lib.hid hI
        have HTO := Lib.hid hto
        have HBS := Lib.hid hbs
        have HSX := Lib.hid hsx
        have HMP := Lib.hid hmp
        have HKX := Lib.hid hkx
        have HR2 := Lib.hid hr2
        have HB5X := Lib.hid hb5x
        have HB10X := Lib.hid hb10x
        have HCDX := Lib.hid hcdx
        have HKWX := Lib.hid hkwx
        have HGK := Lib.hid hgk
        clear hx hq hf hI hto hbs hsx hmp hkx hr2 hb5x hb10x hcdx hkwx hgk
        go_upto_region 12 with (first
          | (refine wpList_look rfl (.tmp 54) (.tmp 58) 112 rfl HMP.out Tryd.underlying112 ((r2 : Int) + 1) HI.out rfl rfl x HX.out q HQ.out ?_)
          | (refine wpList_store_all rfl _ (.tmp 17) (.tmp 60) rfl wr.heap.size 51 _ [.int .i64 x.kind, .int .i64 x.inc, .int .i64 x.frm, .int .i64 x.sInc, .int .i64 x.sIdx, .int .i64 x.ord, .int .i64 x.val] rfl rfl (Blk.new _ _ _) rfl (by kernel_rfl) rfl ?_; intro w5 hb5 hs5))
        have hk5 : Keep wr w5 := Keep.write (Keep.new _ _) hs5 (Nat.le_refl _)
        have hz5 : wr.heap.size < w5.heap.size := hb5.lt
        have hbs5 := hk5.blk HBS.out hgx
        have hb55 := hk5.blk HB5X.out HB5X.out.lt
        have hb105 := hk5.blk HB10X.out HB10X.out.lt
        have hs5' : StR w5 (RcT S g w5) [.slice C1 r1 t1, .slice C2 r2 t2, .slice C3 r3 t3, .slice C4 r4 t4] s' := (HSX.out.keep (Same.mono hk5 (fun i hi => hi.elim (fun h => by have := HS.out i h; omega) (fun h => h.2)))).more (fun i hi => hi.imp id (fun h => ⟨h.1, by have := h.2; omega⟩))
        have hcd5 : CdR w5 (RcT S g w5) [.slice A0 m0 c0, .slice A1 m1 c1, .slice A2 m2 c2, .slice A3 m3 c3, .slice A4 m4 c4] c := (HCDX.out.keep (Same.mono hk5 (fun i hi => by have := HS.out i hi; omega))).more (fun i hi => .inl hi)
        have hm5 := HMP.out.keep hk5 HMP.out.lt
        have hkx5 : Same (· < g) w2 w5 := Same.trans HKX.out hk5 (fun i hi => by omega)
        have hkw5 := Keep.trans HKWX.out hk5
        have hT5 : ∀ i, RcT S g w5 i → i < w5.heap.size := fun i hi => hi.elim (fun h => by have := HS.out i h; omega) (fun h => h.2)
        have hTg : ∀ i, RcT S g w5 i → i ≠ g := fun i hi => hi.elim (fun h => by have := HS.out i h; omega) (fun h => by have := h.1; omega)
        have HB5 := Lib.hid hb5
        have HBS5 := Lib.hid hbs5
        have HB55 := Lib.hid hb55
        have HB105 := Lib.hid hb105
        have HS5' := Lib.hid hs5'
        have HCD5 := Lib.hid hcd5
        have HM5 := Lib.hid hm5
        have HKX5 := Lib.hid hkx5
        have HKW5 := Lib.hid hkw5
        have HT5 := Lib.hid hT5
        have HTG := Lib.hid hTg
        clear hb5 hbs5 hb55 hb105 hs5' hcd5 hm5 hkx5 hkw5 hT5 hTg
        clear hs5 hk5 cell1 HSX HBS HB5X HB10X HCDX HMP HKX HKWX
        cases o with
        | none =>
          obtain rfl : q = false := by have := HQ.out; rw [HF.out] at this; exact this.symm
          go_wp2_with (first
            | (refine wpList_load_all rfl _ (.tmp 16) rfl g 27 [.slice C1 r1 t1, .slice C2 r2 t2, .slice C3 r3 t3, .slice C4 r4 t4] _ rfl HBS5.out Tryd.underlying27 rfl (by kernel_rfl) ?_)
            | (refine wpList_store_all rfl _ (.tmp 10) (.tmp 64) rfl (w.heap.size + 2) 27 _ [.slice C1 r1 t1, .slice C2 r2 t2, .slice C3 r3 t3, .slice C4 r4 t4] rfl rfl HB105.out rfl (by kernel_rfl) rfl ?_; intro wz hbq hwq; have HBQ := Lib.hid hbq; have HWQ := Lib.hid hwq; clear hbq hwq))
          refine bodyPost_ret (results_cell1 Tryd.results42 _ _ _ ⟨w.heap.size + 2, 0, none⟩ _ rfl (load_st rfl HBQ.out)) rfl ?_
          have hzq := HWQ.out.size
          have hstop : mapS self l ((s'.events.length : Int) + 1) = none := by rw [← HR2.out]; exact HF.out
          refine ⟨_, s', rfl, HTO.out _ (.stop _ hstop), b1, by omega, by omega, by omega, (HS5'.out.keep (HWQ.out.mono (fun i hi => hi.elim (fun h => by have := HS.out i h; show i ≠ _; omega) (fun h => by have := h.1; show i ≠ _; omega)))).more (fun i hi => hi.elim .inl (fun h => .inr ⟨by have := h.1; omega, by have := h.2; omega⟩)), Keep.write HKW5.out HWQ.out (by omega)⟩
        | some y =>
          obtain rfl : q = true := by have := HQ.out; rw [HF.out] at this; exact this.symm
          obtain rfl : y = x := by have := HX.out; rw [HF.out] at this; exact this
          have hstep : mapS self l ((s'.events.length : Int) + 1) = some y := by rw [← HR2.out]; exact HF.out
          have hless := above_less hstep
          have hlen := nextS_len c self procs s' y
          have hevs := nextS_events c self procs s' y
          have HSTEP := Lib.hid hstep
          have HLEN := Lib.hid hlen
          have HEVS := Lib.hid hevs
          have HLESS := Lib.hid hless
          clear hstep hlen hevs hless
          go_wp2_with (first
            | (refine wpList_load_all rfl _ (.tmp 5) rfl w.heap.size 38 [.slice A0 m0 c0, .slice A1 m1 c1, .slice A2 m2 c2, .slice A3 m3 c3, .slice A4 m4 c4] _ rfl HB55.out Tryd.underlying38 rfl (by kernel_rfl) ?_)
            | (refine wpList_load_all rfl _ (.tmp 16) rfl g 27 [.slice C1 r1 t1, .slice C2 r2 t2, .slice C3 r3 t3, .slice C4 r4 t4] _ rfl HBS5.out Tryd.underlying27 rfl (by kernel_rfl) ?_)
            | (refine wpList_load_all rfl _ (.tmp 17) rfl wr.heap.size 51 [.int .i64 y.kind, .int .i64 y.inc, .int .i64 y.frm, .int .i64 y.sInc, .int .i64 y.sIdx, .int .i64 y.ord, .int .i64 y.val] _ rfl HB5.out Tryd.underlying51 rfl (by kernel_rfl) ?_))
          refine (pnext_any w5 (RcT S g w5) [.slice A0 m0 c0, .slice A1 m1 c1, .slice A2 m2 c2, .slice A3 m3 c3, .slice A4 m4 c4] [.slice C1 r1 t1, .slice C2 r2 t2, .slice C3 r3 t3, .slice C4 r4 t4] c s' self procs y HT5.out HCD5.out HS5'.out (by omega) (by omega) (by omega) (by omega)).mono ?_
          rintro e w6 ⟨cs6, rfl, hr6', hk6⟩
          obtain ⟨D1, D2, D3, D4, d1, f1, d2, f2, d3, f3, d4, f4, rfl, hr6⟩ := st_open hr6'
          clear hr6'
          have hz6 := hk6.size
          have hbs6 := hk6.blk HBS5.out HBS5.out.lt
          have HR6 := Lib.hid hr6
          have HK6 := Lib.hid hk6
          have HBS6 := Lib.hid hbs6
          clear hr6 hk6 hbs6
          go_wp2_with (refine wpList_store_all rfl _ (.tmp 16) (.tmp 70) rfl g 27 _ [.slice D1 d1 f1, .slice D2 d2 f2, .slice D3 d3 f3, .slice D4 d4 f4] rfl rfl HBS6.out rfl (by kernel_rfl) rfl ?_; intro w7 hb7 hs7; have HB7 := Lib.hid hb7; have HS7 := Lib.hid hs7; clear hb7 hs7)
          have hz7 := HS7.out.size
          have hfin : RcL2 S c self procs (mapS self l) l s W.heap.size m g w2 (above l (s'.events.length + 1)) w7 := by
            have h1 := HLEN.out
            have h2 := HLESS.out
            have h3 := HGK.out
            have h4 : (nextS c self procs s' y).events.length = s'.events.length + 1 := by rw [HEVS.out]; simp
            refine ⟨_, nextS c self procs s' y, by rw [h4], fun t ht => HTO.out t (.step _ _ y HSTEP.out ht), by omega, by omega, by omega, by omega, HB7.out, ?_, (HM5.out.keep HK6.out HM5.out.lt).keep HS7.out (by omega), Same.trans (Same.trans HKX5.out HK6.out (fun i hi => by omega)) HS7.out (fun i hi => by show i ≠ g; omega)⟩
            exact (HR6.out.keep (HS7.out.mono (fun i hi => hi.elim (fun h => HTG.out i h) (fun h => by have := h.1; show i ≠ g; omega)))).more (fun i hi => hi.elim (fun h => h.imp id (fun h => ⟨h.1, by have := h.2; omega⟩)) (fun h => .inr ⟨by have := h.1; omega, by have := h.2; omega⟩))
          have HFIN := Lib.hid hfin
          clear hfin
          go_roundg (above l (s'.events.length + 1))
          case measure => have := HLESS.out; have := HGK.out; omega
          case rel => exact HFIN.out
end Go.Proofs.YtecckbkobkfnmaaDoor

-- ChatA
/- The maker's Chatter: the words for its walk. -/
set_option linter.unusedVariables false
set_option linter.unusedSimpArgs false
set_option maxRecDepth 100000
namespace Go.Proofs.YtecckbkobkfnmaaDoor
open Go.RowKit Go.Proofs

section
variable {P : Program} {ops : Array Oper} {rest : List Oper} {o : Oper} {a : Act} {w : World} {Q : Exit → Act → World → Prop}
/-- A slice literal, the world abstract behind it. -/
theorem wpList_buildX (hg : o.guard = none) (t e : TypeId) (len : Nat) (parts : Array (Nat × Operand)) (ho : o.op = .buildSlice t len parts) (hu : P.underlying t = some (.slice e)) (cells : Array Value)
    (vs : List (Nat × Value)) (hp : parts.toList.map (fun p => (p.1, a.eval p.2)) = vs) (hf : builtS P e len vs = some cells)
    (h : ∀ w', Blk w' w.heap.size e cells → Keep w w' → w.heap.size < w'.heap.size → wpList P ops Q rest (a.put o.dst (.slice (some ⟨w.heap.size, 0, none⟩) len len)) w') : wpList P ops Q (o :: rest) a w :=
  wpList_buildS hg t e len parts ho hu cells vs hp hf (h _ (Blk.new _ _ _) (Keep.new _ _) (by simp))
end
def Rg (a b i : Nat) : Prop := a ≤ i ∧ i < b
def ChS (base g : Nat) (w : World) (i : Nat) : Prop := base ≤ i ∧ i < w.heap.size ∧ i ≠ g
/-- A handler's slice and its statements. -/
structure Hd where
  A : Option Addr
  m : Nat
  c : Nat
  l : List Stm
def nilH : Hd := ⟨none, 0, 0, []⟩
def HdR (w : World) (base g : Nat) (h : Hd) : Prop := StmsR w (ChS base g w) h.A h.m h.c h.l
section
variable {w w' : World} {base g gc : Nat} {h : Hd}
theorem HdR.same {T : Nat → Prop} (hh : HdR w base g h) (hs : Same T w w') (hT : ∀ i, ChS base g w i → T i) : HdR w' base g h :=
  (StmsR.keep hh (hs.mono hT)).more (fun i hi => ⟨hi.1, Nat.lt_of_lt_of_le hi.2.1 hs.size, hi.2.2⟩)
theorem HdR.nil_ : HdR w base g nilH := ⟨SlR.nil_, by simp [nilH], by simp [nilH]⟩
end
def nil5 : List Value := [.slice none 0 0, .slice none 0 0, .slice none 0 0, .slice none 0 0, .slice none 0 0]
/-- What does not change: the result's variable, the two lists of statements, the declarations. -/
def ChF (w : World) (g2 base g : Nat) (A3 A4 Av : Option Addr) (l3 l4 : List Stm) (vars : List Vr) : Prop :=
  Blk w g2 38 nil5.toArray ∧ SlR w (Rg base g) 18 (fun cs s => StmR w (Rg base g) 3 cs s) A3 2 2 l3 ∧ SlR w (Rg base g) 18 (fun cs s => StmR w (Rg base g) 2 cs s) A4 1 1 l4 ∧ Sl encVr 3 w (Rg base g) Av 5 5 vars
theorem ChF.same {w w' : World} {g2 base g : Nat} {A3 A4 Av : Option Addr} {l3 l4 : List Stm} {vars : List Vr} {T : Nat → Prop} (h : ChF w g2 base g A3 A4 Av l3 l4 vars) (hs : Same T w w') (h2 : T g2) (hT : ∀ i, base ≤ i → i < g → T i) : ChF w' g2 base g A3 A4 Av l3 l4 vars := by
  obtain ⟨h1, h3, h4, h5⟩ := h
  have hr : Same (Rg base g) w w' := hs.mono (fun i hi => hT i hi.1 hi.2)
  exact ⟨hs.blk h1 h2, h3.keep hr (StmR.keep hr 3), h4.keep hr (StmR.keep hr 2), h5.keep hr⟩
def ChP (w : World) (base g : Nat) (Av : Option Addr) (h1 h2 h3 h4 : Hd) : Prop :=
  Blk w g 91 #[.slice Av 5 5, .slice h1.A h1.m h1.c, .slice h2.A h2.m h2.c, .slice h3.A h3.m h3.c, .slice h4.A h4.m h4.c] ∧ HdR w base g h1 ∧ HdR w base g h2 ∧ HdR w base g h3 ∧ HdR w base g h4
theorem ChP.same {w w' : World} {base g : Nat} {Av : Option Addr} {h1 h2 h3 h4 : Hd} {T : Nat → Prop} (h : ChP w base g Av h1 h2 h3 h4) (hs : Same T w w') (hg : T g) (hT : ∀ i, ChS base g w i → T i) : ChP w' base g Av h1 h2 h3 h4 :=
  ⟨hs.blk h.1 hg, h.2.1.same hs hT, h.2.2.1.same hs hT, h.2.2.2.1.same hs hT, h.2.2.2.2.same hs hT⟩
/-- All that is carried from region to region. -/
def ChA (B : Nat → Prop) (gc r : Nat) (w0 : World) (g2 base g : Nat) (A3 A4 Av : Option Addr) (l3 l4 : List Stm) (vars : List Vr) (h1 h2 h3 h4 : Hd) (w : World) : Prop :=
  Cod w B gc r ∧ Only gc w0 w ∧ ChF w g2 base g A3 A4 Av l3 l4 vars ∧ ChP w base g Av h1 h2 h3 h4
section
variable {B : Nat → Prop} {gc r r' : Nat} {w0 w w' : World} {g2 base g : Nat} {A3 A4 Av : Option Addr} {l3 l4 : List Stm} {vars : List Vr} {h1 h2 h3 h4 : Hd}
theorem ChA.only (h : ChA B gc r w0 g2 base g A3 A4 Av l3 l4 vars h1 h2 h3 h4 w) (hb : gc < g2) (hb2 : g2 < base) (hg : base ≤ g) (ho : Only gc w w') (hc : Cod w' B gc r') : ChA B gc r' w0 g2 base g A3 A4 Av l3 l4 vars h1 h2 h3 h4 w' := by
  have hlt := h.2.2.2.1.lt
  exact ⟨hc, Only.trans h.2.1 ho, h.2.2.1.same ho ⟨by omega, by omega⟩ (fun i h1 h2 => ⟨by omega, by omega⟩), h.2.2.2.same ho ⟨hlt, by omega⟩ (fun i hi => ⟨hi.2.1, by have := hi.1; omega⟩)⟩
theorem ChA.keep (h : ChA B gc r w0 g2 base g A3 A4 Av l3 l4 vars h1 h2 h3 h4 w) (hb2 : g2 < base) (hg : base ≤ g) (hk : Keep w w') : ChA B gc r w0 g2 base g A3 A4 Av l3 l4 vars h1 h2 h3 h4 w' := by
  have hlt := h.2.2.2.1.lt
  exact ⟨h.1.keep hk, Only.keep h.2.1 hk, h.2.2.1.same hk (by omega) (fun i h1 h2 => by omega), h.2.2.2.same hk hlt (fun i hi => hi.2.1)⟩
/-- The variable p is written. -/
theorem ChA.put (h : ChA B gc r w0 g2 base g A3 A4 Av l3 l4 vars h1 h2 h3 h4 w) (hB : ∀ i, B i → i < g) (hgc : gc < g) (hb2 : g2 < base) (hg : base ≤ g) (h0 : w0.heap.size ≤ g) (hs : Same (· ≠ g) w w') {k1 k2 k3 k4 : Hd}
    (hb : Blk w' g 91 #[.slice Av 5 5, .slice k1.A k1.m k1.c, .slice k2.A k2.m k2.c, .slice k3.A k3.m k3.c, .slice k4.A k4.m k4.c])
    (e1 : HdR w base g k1) (e2 : HdR w base g k2) (e3 : HdR w base g k3) (e4 : HdR w base g k4) : ChA B gc r w0 g2 base g A3 A4 Av l3 l4 vars k1 k2 k3 k4 w' :=
  have hT : ∀ i, ChS base g w i → i ≠ g := fun i hi => hi.2.2
  ⟨h.1.write hs (fun hh => by have := hB _ hh; omega), h.2.1.write hs h0, h.2.2.1.same hs (by omega) (fun i h1 h2 => by omega), hb, e1.same hs hT, e2.same hs hT, e3.same hs hT, e4.same hs hT⟩
end
/-- A list of statements that is built by append, behind world u. -/
def Mx (base g : Nat) (w : World) (v : Value) (i : Nat) : Prop := base ≤ i ∧ i < w.heap.size ∧ i ≠ g ∧ v.ownBlock ≠ some i
def Msg (u : World) (gc base g : Nat) (w : World) (v : Value) (l : List Stm) (css : List (List Value)) : Prop :=
  css.length = l.length ∧ (∀ cs ∈ css, cs.length = 18) ∧ w.ownsRow u.heap.size 108 18 v l.length css.flatten ∧ (∀ (k : Nat) (cs : List Value) (s : Stm), css[k]? = some cs → l[k]? = some s → StmR w (Mx base g w v) 3 cs s) ∧ Only gc u w
section
variable {u w w' : World} {gc base g : Nat} {v v' : Value} {l l2 : List Stm} {css css2 : List (List Value)}
theorem Msg.nil_ : Msg u gc base g u (.slice none 0 0) [] [] := ⟨rfl, by simp, World.ownsRow_nil _ _ _ _, by simp, Same.refl _ _⟩
theorem Msg.only (h : Msg u gc base g w v l css) (hgc : gc < base) (hu : gc < u.heap.size) (ho : Only gc w w') : Msg u gc base g w' v l css := by
  obtain ⟨c1, c2, c3, c4, c5⟩ := h
  refine ⟨c1, c2, ownsRow_own c3 ho (fun b hb => ⟨(c3.lt b hb).2, by have := (c3.lt b hb).1; omega⟩), fun k cs s e1 e2 => ?_, Only.trans c5 ho⟩
  exact StmR.more (fun i (hi : Mx base g w v i) => ⟨hi.1, Nat.lt_of_lt_of_le hi.2.1 ho.size, hi.2.2⟩) _ _ _ (StmR.keep (ho.mono (fun i (hi : Mx base g w v i) => ⟨hi.2.1, by have := hi.1; omega⟩)) _ _ _ (c4 k cs s e1 e2))
theorem Msg.fresh (h : Msg u gc base g w v l css) {i : Nat} (hi : w.heap.size ≤ i) : v.ownBlock ≠ some i := fun e => by
  have := (h.2.2.1.lt i e).2
  omega
theorem Msg.old (h : Msg u gc base g w v l css) {i : Nat} (hi : i < u.heap.size) : v.ownBlock ≠ some i := fun e => by
  have := (h.2.2.1.lt i e).1
  omega
/-- Behind the append of other statements. -/
theorem Msg.app (h : Msg u gc base g w v l css)
    (d1 : css2.length = l2.length) (d2 : ∀ cs ∈ css2, cs.length = 18) (d4 : ∀ (k : Nat) (cs : List Value) (s : Stm), css2[k]? = some cs → l2[k]? = some s → StmR w (Mx base g w v) 3 cs s)
    (hown : w'.ownsRow u.heap.size 108 18 v' (l.length + l2.length) (css.flatten ++ css2.flatten)) (hg : w.grownBy w' v.ownBlock) (hat : v'.ownBlock = v.ownBlock ∨ v'.ownBlock = some w.heap.size) : Msg u gc base g w' v' (l ++ l2) (css ++ css2) := by
  obtain ⟨c1, c2, c3, c4, c5⟩ := h
  have hu : u.heap.size ≤ w.heap.size := c5.size
  have hS : Same (Mx base g w v) w w' := Same.grown (Same.refl _ _) hg (fun i hi => hi.2.1) (fun k hk hs => hs.2.2.2 hk)
  have hm : ∀ i, Mx base g w v i → Mx base g w' v' i := fun i hi => ⟨hi.1, Nat.lt_of_lt_of_le hi.2.1 hS.size, hi.2.2.1, by
    rcases hat with h | h
    · rw [h]; exact hi.2.2.2
    · rw [h]; intro hh; injection hh with hh; have := hi.2.1; omega⟩
  refine ⟨by simp [c1, d1], fun cs hcs => ?_, by simpa using hown, fun k cs s e1 e2 => ?_, ?_⟩
  · rcases List.mem_append.1 hcs with h | h
    · exact c2 cs h
    · exact d2 cs h
  · refine StmR.more hm _ _ _ (StmR.keep hS _ _ _ ?_)
    rcases Nat.lt_or_ge k l.length with hk | hk
    · rw [List.getElem?_append_left (by omega)] at e1
      rw [List.getElem?_append_left hk] at e2
      exact c4 k cs s e1 e2
    · rw [List.getElem?_append_right (by omega)] at e1
      rw [List.getElem?_append_right hk] at e2
      rw [c1] at e1
      exact d4 _ cs s e1 e2
  · exact Same.append c5 c3 hg (fun i hi => hi.1) hu
theorem Msg.done (h : Msg u gc base g w v l css) (hb : base ≤ u.heap.size) (hg : g < u.heap.size) (hl : l.length ≤ 100) (hf : ∀ a ∈ l, Stm.few 1000 3 a) : ∃ A c, v = .slice A l.length c ∧ l.length ≤ c ∧ StmsR w (ChS base g w) A l.length c l := by
  obtain ⟨c1, c2, c3, c4, c5⟩ := h
  obtain ⟨A, c, rfl, hn, hc⟩ := own_form c3
  exact ⟨A, c, rfl, hn, ⟨rfl, hn, hc, css, c1, c2, (Reads.of_own c3).more (fun i hi => ⟨by omega, hi.2, by omega⟩), fun k cs a e1 e2 => StmR.more (fun i hi => ⟨hi.1, hi.2.1, hi.2.2.1⟩) _ _ _ (c4 k cs a e1 e2)⟩, hl, hf⟩
/-- What has been appended stands behind the call's choices and blocks that stood before. -/
theorem Msg.cod {B : Nat → Prop} {r : Nat} (h : Msg u gc base g w v l css) (hB : ∀ i, B i → i < u.heap.size) (hg : w.grownBy w' v.ownBlock) (hc : Cod w B gc r) : Cod w' B gc r :=
  hc.same (Same.append (Same.refl _ _) h.2.2.1 hg (fun i hi => hB i hi) h.2.2.2.2.size)
theorem Msg.grown (h : Msg u gc base g w v l css) (hg : w.grownBy w' v.ownBlock) : Only gc u w' := Same.append h.2.2.2.2 h.2.2.1 hg (fun i hi => hi.1) h.2.2.2.2.size
end
theorem flatten_take (size : Nat) : ∀ (css : List (List Value)) (k : Nat), (∀ cs ∈ css, cs.length = size) → css.flatten.take (k * size) = (css.take k).flatten
  | css, 0, _ => by simp
  | [], k + 1, _ => by simp
  | x :: xs, k + 1, h => by
    have hx : x.length = size := h x (by simp)
    rw [List.flatten_cons, List.take_succ_cons, List.flatten_cons, List.take_append, List.take_of_length_le (by rw [hx, Nat.add_mul]; omega), hx]
    have : (k + 1) * size - size = k * size := by rw [Nat.add_mul]; omega
    rw [this, flatten_take size xs k (fun cs hcs => h cs (by simp [hcs]))]
/-- A list cut short. -/
theorem StmsR.first {w : World} {S : Nat → Prop} {A : Option Addr} {m c : Nat} {l : List Stm} (h : StmsR w S A m c l) {k : Nat} (hk : k ≤ m) : StmsR w S A k c (l.take k) := by
  obtain ⟨⟨h1, h2, h3, css, h4, h5, h6, h7⟩, h8, h9⟩ := h
  refine ⟨⟨by rw [List.length_take]; omega, by omega, h3, css.take k, by rw [List.length_take]; omega, fun cs hcs => h5 cs (List.mem_of_mem_take hcs), ?_, fun j cs a e1 e2 => ?_⟩, by rw [List.length_take]; omega, fun a ha => h9 a (List.mem_of_mem_take ha)⟩
  · have := h6.to_ hk
    rw [flatten_take 18 css k h5] at this
    exact this
  · rw [List.getElem?_take] at e1 e2
    split at e1
    · rename_i hj
      rw [if_pos hj] at e2
      exact h7 j cs a e1 e2
    · cases e1
/-! ### the literals -/
def xEx : Ex := .mk 2 0 ⟨#[120]⟩ 0 0 []
def sumEx : Ex := .mk 10 0 ⟨#[]⟩ 0 0 [xEx, .mk 7 0 ⟨#[]⟩ 0 0 []]
def nextEx (k : Int) : Ex := .mk 14 0 ⟨#[]⟩ 0 0 [.mk 10 0 ⟨#[]⟩ 0 0 [.mk 4 0 ⟨#[]⟩ 0 0 [], .mk 1 k ⟨#[]⟩ 0 0 []], .mk 5 0 ⟨#[]⟩ 0 0 []]
def remEx (k : Int) : Ex := .mk 14 0 ⟨#[]⟩ 0 0 [xEx, .mk 1 k ⟨#[]⟩ 0 0 []]
def stA : Stm := .mk 1 ⟨#[120]⟩ 0 0 zeroEx sumEx [] []
def stB (k : Int) : Stm := .mk 5 ⟨#[]⟩ 0 0 (nextEx k) xEx [] []
def stO : Stm := .mk 6 ⟨#[]⟩ 0 0 zeroEx xEx [] []
def stI (k : Int) : Stm := .mk 3 ⟨#[]⟩ 0 0 zeroEx (remEx k) [stO] []
def exC (op val : Int) (name : ByteArray) (A : Option Addr) (m : Nat) : List Value := [.int .i64 op, .int .i64 val, .string name, .int .i64 0, .int .i64 0, .slice A m m]
def stC (k : Int) (name : ByteArray) (ps vs : List Value) (A : Option Addr) (m : Nat) : List Value := .int .i64 k :: .string name :: .int .i64 0 :: .int .i64 0 :: (ps ++ (vs ++ [.slice A m m, .slice none 0 0]))
def z6 : List Value := [.int .i64 0, .int .i64 0, .string ⟨#[]⟩, .int .i64 0, .int .i64 0, .slice none 0 0]
section
variable {w : World} {S : Nat → Prop}
theorem ex_two {n g : Nat} {t : TypeId} {op : Int} {cs cs2 : List Value} {a a2 : Ex} (hb : Blk w g t (cs ++ cs2).toArray) (hS : S g) (h1 : ExR w S n cs a) (h2 : ExR w S n cs2 a2) : ExR w S (n + 1) (exC op 0 ⟨#[]⟩ (some ⟨g, 0, none⟩) 2) (.mk op 0 ⟨#[]⟩ 0 0 [a, a2]) :=
  ⟨I64.zero, I64.zero, _, 2, 2, rfl, SlR.two (R := fun w S cs e => ExR w S n cs e) hb hS h1.len h2.len h1 h2⟩
theorem x_R : ExR w S 1 (exC 2 0 ⟨#[120]⟩ none 0) xEx := ExR.leaf 0 2 0 _
theorem sum_R {g : Nat} {t : TypeId} (hb : Blk w g t (exC 2 0 ⟨#[120]⟩ none 0 ++ exC 7 0 ⟨#[]⟩ none 0).toArray) (hS : S g) : ExR w S 5 (exC 10 0 ⟨#[]⟩ (some ⟨g, 0, none⟩) 2) sumEx :=
  ExR.upto (n := 2) (by omega) (ex_two hb hS (ExR.leaf 0 2 0 _) (ExR.leaf 0 7 0 _))
theorem next_R {g g' : Nat} {t t' : TypeId} {k : Int} (hb : Blk w g t (exC 4 0 ⟨#[]⟩ none 0 ++ exC 1 k ⟨#[]⟩ none 0).toArray) (hb' : Blk w g' t' (exC 10 0 ⟨#[]⟩ (some ⟨g, 0, none⟩) 2 ++ exC 5 0 ⟨#[]⟩ none 0).toArray) (hS : S g) (hS' : S g') : ExR w S 5 (exC 14 0 ⟨#[]⟩ (some ⟨g', 0, none⟩) 2) (nextEx k) :=
  ExR.upto (n := 3) (by omega) (ex_two hb' hS' (ex_two hb hS (ExR.leaf 0 4 0 _) (ExR.leaf 0 1 k _)) (ExR.leaf 1 5 0 _))
theorem rem_R {g : Nat} {t : TypeId} {k : Int} (hb : Blk w g t (exC 2 0 ⟨#[120]⟩ none 0 ++ exC 1 k ⟨#[]⟩ none 0).toArray) (hS : S g) : ExR w S 5 (exC 14 0 ⟨#[]⟩ (some ⟨g, 0, none⟩) 2) (remEx k) :=
  ExR.upto (n := 2) (by omega) (ex_two hb hS (ExR.leaf 0 2 0 _) (ExR.leaf 0 1 k _))
theorem st_leaf {k : Int} {name : ByteArray} {ps vs : List Value} {p v : Ex} (hp : ExR w S 5 ps p) (hv : ExR w S 5 vs v) (n : Nat) : StmR w S (n + 1) (stC k name ps vs none 0) (.mk k name 0 0 p v [] []) :=
  ⟨I64.zero, I64.zero, ps, vs, none, none, 0, 0, 0, 0, rfl, hp, hv, SlR.nil_, SlR.nil_⟩
theorem st_body {k : Int} {name : ByteArray} {ps vs : List Value} {p v : Ex} {A : Option Addr} {m : Nat} {l : List Stm} {n : Nat} (hp : ExR w S 5 ps p) (hv : ExR w S 5 vs v) (hb : SlR w S 18 (StmR w S n) A m m l) : StmR w S (n + 1) (stC k name ps vs A m) (.mk k name 0 0 p v l []) :=
  ⟨I64.zero, I64.zero, ps, vs, A, none, m, m, 0, 0, rfl, hp, hv, hb, SlR.nil_⟩
end
theorem few_A : Stm.few 1000 3 stA := by simp [Stm.few, Ex.few, stA, sumEx, xEx, zeroEx]
theorem few_B (k : Int) : Stm.few 1000 3 (stB k) := by simp [Stm.few, Ex.few, stB, nextEx, xEx, zeroEx]
theorem few_O : Stm.few 1000 3 stO := by simp [Stm.few, Ex.few, stO, xEx, zeroEx]
theorem few_I (k : Int) : Stm.few 1000 3 (stI k) := by simp [Stm.few, Ex.few, stI, stO, remEx, xEx, zeroEx]
theorem few_pass (k : Int) : ∀ a ∈ [stA, stB k], Stm.few 1000 3 a := by
  intro a ha
  simp at ha
  rcases ha with h | h <;> subst h
  · exact few_A
  · exact few_B _
theorem few_mess (k j : Int) : ∀ a ∈ [stA, stB k] ++ [stI j], Stm.few 1000 3 a := by
  intro a ha
  simp at ha
  rcases ha with h | h | h <;> subst h
  · exact few_A
  · exact few_B _
  · exact few_I _
theorem few_tick (k : Int) : ∀ a ∈ [stA, stB k] ++ [stO], Stm.few 1000 3 a := by
  intro a ha
  simp at ha
  rcases ha with h | h | h <;> subst h
  · exact few_A
  · exact few_B _
  · exact few_O
theorem stI_one (A B : Option Addr) (m m' : Nat) : ∀ u ∈ stC 3 ⟨#[]⟩ z6 (exC 14 0 ⟨#[]⟩ A m) B m', u.oneCell' = true := fun u hu => List.all_eq_true.1 (show List.all _ (·.oneCell') = true from rfl) u hu
theorem reads_blk {w : World} {g : Nat} {t : TypeId} {cs : List Value} {size n : Nat} (hb : Blk w g t cs.toArray) (h : cs.length = n * size) : Reads w (fun i => i = g) size (some ⟨g, 0, none⟩) n cs :=
  ⟨h, fun _ => ⟨g, 0, rfl, rfl, fun j u hu => by rw [hb.cell]; simpa using hu⟩⟩
theorem built_ex2' (a b : Int) (o1 o2 : Int) (n1 n2 : ByteArray) (A1 A2 : Option Addr) (m1 m2 : Nat) : builtS Tryd.prog 106 2 [(0, .agg (exC o1 a n1 A1 m1).toArray), (1, .agg (exC o2 b n2 A2 m2).toArray)] = some (exC o1 a n1 A1 m1 ++ exC o2 b n2 A2 m2).toArray := by kernel_rfl
theorem built_stmA (A B : Option Addr) (m m' : Nat) : builtS Tryd.prog 108 2 [(0, .agg (stC 1 ⟨#[120]⟩ z6 (exC 10 0 ⟨#[]⟩ A m) none 0).toArray), (1, .agg (stC 5 ⟨#[]⟩ (exC 14 0 ⟨#[]⟩ B m') (exC 2 0 ⟨#[120]⟩ none 0) none 0).toArray)] = some (stC 1 ⟨#[120]⟩ z6 (exC 10 0 ⟨#[]⟩ A m) none 0 ++ stC 5 ⟨#[]⟩ (exC 14 0 ⟨#[]⟩ B m') (exC 2 0 ⟨#[120]⟩ none 0) none 0).toArray := by kernel_rfl
theorem bld_stmA (A : Option Addr) (m : Nat) : Tryd.prog.built 108 [(0, .int .i64 1), (1, .string ⟨#[120]⟩), (5, .agg (exC 10 0 ⟨#[]⟩ A m).toArray)] = some (stC 1 ⟨#[120]⟩ z6 (exC 10 0 ⟨#[]⟩ A m) none 0).toArray := by kernel_rfl
theorem bld_stmB (A : Option Addr) (m : Nat) : Tryd.prog.built 108 [(0, .int .i64 5), (4, .agg (exC 14 0 ⟨#[]⟩ A m).toArray), (5, .agg (exC 2 0 ⟨#[120]⟩ none 0).toArray)] = some (stC 5 ⟨#[]⟩ (exC 14 0 ⟨#[]⟩ A m) (exC 2 0 ⟨#[120]⟩ none 0) none 0).toArray := by kernel_rfl
theorem bld_stmO : Tryd.prog.built 108 [(0, .int .i64 6), (5, .agg (exC 2 0 ⟨#[120]⟩ none 0).toArray)] = some (stC 6 ⟨#[]⟩ z6 (exC 2 0 ⟨#[120]⟩ none 0) none 0).toArray := by kernel_rfl
theorem built_stmO : builtS Tryd.prog 108 1 [(0, .agg (stC 6 ⟨#[]⟩ z6 (exC 2 0 ⟨#[120]⟩ none 0) none 0).toArray)] = some (stC 6 ⟨#[]⟩ z6 (exC 2 0 ⟨#[120]⟩ none 0) none 0).toArray := by kernel_rfl
theorem bld_stmI (A B : Option Addr) (m m' : Nat) : Tryd.prog.built 108 [(0, .int .i64 3), (5, .agg (exC 14 0 ⟨#[]⟩ A m).toArray), (6, .slice B m' m')] = some (stC 3 ⟨#[]⟩ z6 (exC 14 0 ⟨#[]⟩ A m) B m').toArray := by kernel_rfl
theorem built_stmI (A B : Option Addr) (m m' : Nat) : builtS Tryd.prog 108 1 [(0, .agg (stC 3 ⟨#[]⟩ z6 (exC 14 0 ⟨#[]⟩ A m) B m').toArray)] = some (stC 3 ⟨#[]⟩ z6 (exC 14 0 ⟨#[]⟩ A m) B m').toArray := by kernel_rfl
theorem built_vars2 (x : Int) : builtS Tryd.prog 110 5 [(0, .agg #[.string ⟨#[120]⟩, .int .i64 0, .int .i64 x]), (1, .agg #[.string ⟨#[97]⟩, .int .i64 2, .int .i64 0]), (2, .agg #[.string ⟨#[121]⟩, .int .i64 0, .int .i64 0]), (3, .agg #[.string ⟨#[122]⟩, .int .i64 0, .int .i64 0]), (4, .agg #[.string ⟨#[98]⟩, .int .i64 1, .int .i64 0])] =
    some ([⟨⟨#[120]⟩, 0, x⟩, ⟨⟨#[97]⟩, 2, 0⟩, ⟨⟨#[121]⟩, 0, 0⟩, ⟨⟨#[122]⟩, 0, 0⟩, ⟨⟨#[98]⟩, 1, 0⟩].flatMap encVr).toArray := by kernel_rfl
end Go.Proofs.YtecckbkobkfnmaaDoor

-- Chat
/- The maker's Chatter: some resolved program (written by gen_chat.py). -/
set_option linter.unusedVariables false
set_option linter.unusedSimpArgs false
set_option maxRecDepth 100000
namespace Go.Proofs.YtecckbkobkfnmaaDoor
open Go.RowKit Go.Proofs

theorem blk3 (w : World) (o1 o2 : Obj) (t : TypeId) (cs : Array Value) : Blk (((w.alloc o1).alloc o2).alloc (.cells cs t)) (w.heap.size + 2) t cs := by simpa using Blk.new ((w.alloc o1).alloc o2) t cs
def CutC (B : Nat → Prop) (gc : Nat) (w0 : World) (g2 base g : Nat) (A3 A4 Av : Option Addr) (l3 l4 : List Stm) (vars : List Vr) (wx : World) : Prop :=
  ∃ (h1 : Hd) (r : Nat), ChA B gc r w0 g2 base g A3 A4 Av l3 l4 vars h1 nilH nilH nilH wx
def CutD (B : Nat → Prop) (gc : Nat) (w0 : World) (g2 base g : Nat) (A3 A4 Av : Option Addr) (l3 l4 : List Stm) (vars : List Vr) (wx : World) : Prop :=
  ∃ (h1 h2 : Hd) (r : Nat), ChA B gc r w0 g2 base g A3 A4 Av l3 l4 vars h1 h2 nilH nilH wx
theorem one_stms {w : World} {S : Nat → Prop} {A : Option Addr} {m c : Nat} {l : List Stm} (h : SlR w S 18 (fun cs s => StmR w S 3 cs s) A m c l) : ∃ css : List (List Value), css.length = l.length ∧ m = l.length ∧ (∀ cs ∈ css, cs.length = 18) ∧ Reads w S 18 A m css.flatten ∧ (∀ u ∈ css.flatten, u.oneCell' = true) ∧ ∀ (k : Nat) (cs : List Value) (s : Stm), css[k]? = some cs → l[k]? = some s → StmR w S 3 cs s := by
  obtain ⟨h1, h2, h3, css, h4, h5, h6, h7⟩ := h
  refine ⟨css, by omega, h1, h5, h6, fun u hu => ?_, h7⟩
  obtain ⟨cs, hcs, hu⟩ := List.mem_flatten.1 hu
  obtain ⟨k, hk, rfl⟩ := List.mem_iff_getElem.1 hcs
  have hkl : k < l.length := by omega
  exact (h7 k _ _ (List.getElem?_eq_getElem hk) (List.getElem?_eq_getElem hkl)).one' u hu
theorem HdR.of_start {w : World} {base g : Nat} {A : Option Addr} {m c : Nat} {l : List Stm} (h : SlR w (Rg base g) 18 (fun cs s => StmR w (Rg base g) 3 cs s) A m c l) (hg : g ≤ w.heap.size) (hl : l.length ≤ 100) (hf : ∀ a ∈ l, Stm.few 1000 3 a) : HdR w base g ⟨A, m, c, l⟩ :=
  ⟨h.more (fun i hi => ⟨hi.1, by have := hi.2; omega, by have := hi.2; omega⟩) (StmR.more (fun i (hi : Rg base g i) => ⟨hi.1, by have := hi.2; omega, by have := hi.2; omega⟩) 3), hl, hf⟩
set_option maxHeartbeats 32000000 in
theorem chatter_any (w : World) (B : Nat → Prop) (gc r : Nat) (hcod : Cod w B gc r) (hgl : Glob w) : Calls Tryd.prog 40 #[.pointer (some ⟨gc, 0, none⟩)] w (CodePost B gc w) := by
  obtain ⟨i0, hi0, iz0, iz1, iz2⟩ := info_of info_Stm
  have hgw := hcod.lt
  have hBw := hcod.2.1
  have hg2 := hgl.cod hcod
  generalize hW : w.alloc (.cells #[.slice none 0 0, .slice none 0 0, .slice none 0 0, .slice none 0 0, .slice none 0 0] 38) = W
  have hkW : Keep w W := hW ▸ Keep.new w _
  have hb2 : Blk W w.heap.size 38 nil5.toArray := hW ▸ Blk.new w _ _
  have hz := hb2.lt
  have hcW := hcod.keep hkW
  have HCOD := Lib.hid hcod
  have HGL := Lib.hid hgl
  have HKW := Lib.hid hkW
  have HB2 := Lib.hid hb2
  have HBW := Lib.hid hBw
  have HCW := Lib.hid hcW
  have HI0 := Lib.hid hi0
  have IZ0 := Lib.hid iz0
  have IZ1 := Lib.hid iz1
  have IZ2 := Lib.hid iz2
  clear hcod hgl hkW hb2 hBw hcW hi0 iz0 iz1 iz2
  go_enter Tryd.func40, Tryd.ntmps40
  go_wp2_with fail
  clear hW
  refine (next_any W B gc r 2 HCW.out (by omega) (by omega)).mono ?_
  rintro e w1 ⟨v1, hv10, hv11, rfl, hc1, ho1⟩
  have hz1 := ho1.size
  have hr1 := ho1.blk HB2.out ⟨HB2.out.lt, by omega⟩
  have ho1' : Only gc w w1 := Only.trans (HKW.out.only gc) ho1
  clear ho1
  have HC1 := Lib.hid hc1
  have HR1 := Lib.hid hr1
  have HO1' := Lib.hid ho1'
  clear hc1 hr1 ho1'
  -- the receiver's expression
  go_upto_region 2 with (first
    | (refine wpList_buildX rfl 104 106 2 _ rfl Tryd.underlying104 _ [(0, .agg (exC 4 0 ⟨#[]⟩ none 0).toArray), (1, .agg (exC 1 (1 + v1) ⟨#[]⟩ none 0).toArray)] rfl (built_ex2' _ _ _ _ _ _ _ _ _ _) ?_; intro wa hba hka hza; have HBA := Lib.hid hba; have HKA := Lib.hid hka; clear hba hka)
    | (refine wpList_buildX rfl 104 106 2 _ rfl Tryd.underlying104 _ [(0, .agg (exC 10 0 ⟨#[]⟩ (some ⟨w1.heap.size, 0, none⟩) 2).toArray), (1, .agg (exC 5 0 ⟨#[]⟩ none 0).toArray)] rfl (built_ex2' _ _ _ _ _ _ _ _ _ _) ?_; intro wb hbb hkb hzb; have HBB := Lib.hid hbb; have HKB := Lib.hid hkb; clear hbb hkb)
    | (refine wpList_store_all rfl _ (.tmp 3) (.tmp 19) rfl wb.heap.size 106 _ (exC 14 0 ⟨#[]⟩ (some ⟨wa.heap.size, 0, none⟩) 2) rfl rfl (Blk.new _ _ _) rfl (by kernel_rfl) rfl ?_; intro w2 hb3 hs3; have HB3 := Lib.hid hb3; have HS3 := Lib.hid hs3; clear hb3 hs3))
  have hk2 : Keep wb w2 := Keep.write (Keep.new _ _) HS3.out (Nat.le_refl _)
  have hz2 : wb.heap.size < w2.heap.size := HB3.out.lt
  have hk12 : Keep w1 w2 := Keep.trans (Keep.trans HKA.out HKB.out) hk2
  have ha0 := hk2.blk (HKB.out.blk HBA.out HBA.out.lt) (by omega)
  have ha1 := hk2.blk HBB.out HBB.out.lt
  have nextR : ExR w2 (Rg w1.heap.size w2.heap.size) 5 _ (nextEx (1 + v1)) := next_R ha0 ha1 ⟨by omega, by omega⟩ ⟨by omega, by omega⟩
  have HK12 := Lib.hid hk12
  have NEXTR := Lib.hid nextR
  clear hk12 nextR
  clear HS3 hk2 ha0 ha1 HBA HKA HBB HKB
  -- the sum
  go_upto_region 3 with (first
    | (refine wpList_buildX rfl 104 106 2 _ rfl Tryd.underlying104 _ [(0, .agg (exC 2 0 ⟨#[120]⟩ none 0).toArray), (1, .agg (exC 7 0 ⟨#[]⟩ none 0).toArray)] rfl (built_ex2' _ _ _ _ _ _ _ _ _ _) ?_; intro wc hbc hkc hzc; have HBC := Lib.hid hbc; have HKC := Lib.hid hkc; clear hbc hkc)
    | (refine wpList_store_all rfl _ (.tmp 4) (.tmp 23) rfl wc.heap.size 106 _ (exC 10 0 ⟨#[]⟩ (some ⟨w2.heap.size, 0, none⟩) 2) rfl rfl (Blk.new _ _ _) rfl (by kernel_rfl) rfl ?_; intro w3 hb4 hs4; have HB4 := Lib.hid hb4; have HS4 := Lib.hid hs4; clear hb4 hs4))
  have hk3 : Keep wc w3 := Keep.write (Keep.new _ _) HS4.out (Nat.le_refl _)
  have hz3 : wc.heap.size < w3.heap.size := HB4.out.lt
  have hk23 : Keep w2 w3 := Keep.trans HKC.out hk3
  have ha2 := hk3.blk HBC.out HBC.out.lt
  have sumR : ExR w3 (Rg w1.heap.size w3.heap.size) 5 _ sumEx := sum_R ha2 ⟨by omega, by omega⟩
  have nextR3 := ExR.more (T := Rg w1.heap.size w3.heap.size) (fun i hi => ⟨hi.1, by have := hi.2; omega⟩) _ _ _ (ExR.keep (Same.mono hk23 (fun i (hi : Rg w1.heap.size w2.heap.size i) => hi.2)) _ _ _ NEXTR.out)
  have hb33 := hk23.blk HB3.out HB3.out.lt
  have hk13 := Keep.trans HK12.out hk23
  have HK13 := Lib.hid hk13
  have NEXTR3 := Lib.hid nextR3
  have SUMR := Lib.hid sumR
  have HB33 := Lib.hid hb33
  clear hk13 nextR3 sumR hb33
  clear HS4 hk3 hk23 ha2 HBC HKC HK12 NEXTR HB3
  -- the two lists of statements
  go_upto_region 4 with (first
    | (refine wpList_load_all rfl _ (.tmp 4) rfl wc.heap.size 106 (exC 10 0 ⟨#[]⟩ (some ⟨w2.heap.size, 0, none⟩) 2) _ rfl HB4.out Tryd.underlying106 rfl (by kernel_rfl) ?_)
    | (refine wpList_load_all rfl _ (.tmp 3) rfl wb.heap.size 106 (exC 14 0 ⟨#[]⟩ (some ⟨wa.heap.size, 0, none⟩) 2) _ rfl HB33.out Tryd.underlying106 rfl (by kernel_rfl) ?_)
    | (refine wpList_bld rfl 108 _ rfl _ [(0, .int .i64 1), (1, .string ⟨#[120]⟩), (5, .agg (exC 10 0 ⟨#[]⟩ (some ⟨w2.heap.size, 0, none⟩) 2).toArray)] rfl (bld_stmA _ _) ?_)
    | (refine wpList_bld rfl 108 _ rfl _ [(0, .int .i64 5), (4, .agg (exC 14 0 ⟨#[]⟩ (some ⟨wa.heap.size, 0, none⟩) 2).toArray), (5, .agg (exC 2 0 ⟨#[120]⟩ none 0).toArray)] rfl (bld_stmB _ _) ?_)
    | (refine wpList_buildX rfl 36 108 2 _ rfl Tryd.underlying36 _ [(0, .agg (stC 1 ⟨#[120]⟩ z6 (exC 10 0 ⟨#[]⟩ (some ⟨w2.heap.size, 0, none⟩) 2) none 0).toArray), (1, .agg (stC 5 ⟨#[]⟩ (exC 14 0 ⟨#[]⟩ (some ⟨wa.heap.size, 0, none⟩) 2) (exC 2 0 ⟨#[120]⟩ none 0) none 0).toArray)] rfl (built_stmA _ _ _ _) ?_; intro w4 hb5 hk4 hz4; have HB5 := Lib.hid hb5; have HK4 := Lib.hid hk4; clear hb5 hk4))
  go_upto_region 5 with (first
    | (refine wpList_bld rfl 108 _ rfl _ [(0, .int .i64 6), (5, .agg (exC 2 0 ⟨#[120]⟩ none 0).toArray)] rfl bld_stmO ?_)
    | (refine wpList_buildX rfl 36 108 1 _ rfl Tryd.underlying36 _ [(0, .agg (stC 6 ⟨#[]⟩ z6 (exC 2 0 ⟨#[120]⟩ none 0) none 0).toArray)] rfl built_stmO ?_; intro w5 hb6 hk5 hz5; have HB6 := Lib.hid hb6; have HK5 := Lib.hid hk5; clear hb6 hk5))
  have hk35 : Keep w3 w5 := Keep.trans HK4.out HK5.out
  have upE : ∀ i, Rg w1.heap.size w3.heap.size i → Rg w1.heap.size w5.heap.size i := fun i hi => ⟨hi.1, by have := hi.2; omega⟩
  have sum5 := ExR.more upE _ _ _ (ExR.keep (Same.mono hk35 (fun i (hi : Rg w1.heap.size w3.heap.size i) => hi.2)) _ _ _ SUMR.out)
  have next5 := ExR.more upE _ _ _ (ExR.keep (Same.mono hk35 (fun i (hi : Rg w1.heap.size w3.heap.size i) => hi.2)) _ _ _ NEXTR3.out)
  have x5 : ExR w5 (Rg w1.heap.size w5.heap.size) 5 _ xEx := ExR.upto (n := 1) (by omega) x_R
  have pass5 : SlR w5 (Rg w1.heap.size w5.heap.size) 18 (fun cs s => StmR w5 (Rg w1.heap.size w5.heap.size) 3 cs s) (some ⟨w3.heap.size, 0, none⟩) 2 2 [stA, stB (1 + v1)] :=
    SlR.two (R := fun w S cs s => StmR w S 3 cs s) (HK5.out.blk HB5.out HB5.out.lt) ⟨by omega, by omega⟩ rfl rfl (st_leaf (zeroEx_R 4) sum5 2) (st_leaf next5 x5 2)
  have showL : ∀ n, SlR w5 (Rg w1.heap.size w5.heap.size) 18 (fun cs s => StmR w5 (Rg w1.heap.size w5.heap.size) (n + 1) cs s) (some ⟨w4.heap.size, 0, none⟩) 1 1 [stO] := fun n =>
    SlR.one (R := fun w S cs s => StmR w S (n + 1) cs s) HB6.out ⟨by omega, by omega⟩ rfl (st_leaf (zeroEx_R 4) x5 n)
  have hk15 := Keep.trans HK13.out hk35
  have hc5 := HC1.out.keep hk15
  have hr5 := hk15.blk HR1.out HR1.out.lt
  have ho5 : Only gc w w5 := Only.keep HO1'.out hk15
  have PASS5 := Lib.hid pass5
  have SHOWL := Lib.hid showL
  have HC5 := Lib.hid hc5
  have HR5 := Lib.hid hr5
  have HO5 := Lib.hid ho5
  clear pass5 showL hc5 hr5 ho5
  clear hk35 sum5 next5 x5 upE hk15 HK13 SUMR NEXTR3 HB4 HB33 HB5 HB6 HK4 HK5 HC1 HR1 HO1'
  -- the variables
  go_wp2_with fail
  refine (next_any w5 B gc _ 3 HC5.out (by omega) (by omega)).mono ?_
  rintro e w6 ⟨v2, hv20, hv21, rfl, hc6, ho6⟩
  have hz6 := ho6.size
  have hr6 := ho6.blk HR5.out ⟨HR5.out.lt, by omega⟩
  have hs56 : Same (Rg w1.heap.size w5.heap.size) w5 w6 := ho6.mono (fun i hi => ⟨hi.2, by have := hi.1; omega⟩)
  have pass6 := PASS5.out.keep hs56 (StmR.keep hs56 3)
  have show6 : ∀ n, SlR w6 (Rg w1.heap.size w5.heap.size) 18 (fun cs s => StmR w6 (Rg w1.heap.size w5.heap.size) (n + 1) cs s) (some ⟨w4.heap.size, 0, none⟩) 1 1 [stO] := fun n => (SHOWL.out n).keep hs56 (StmR.keep hs56 (n + 1))
  have ho6' := Only.trans HO5.out ho6
  have HC6 := Lib.hid hc6
  have HR6 := Lib.hid hr6
  have PASS6 := Lib.hid pass6
  have SHOW6 := Lib.hid show6
  have HO6' := Lib.hid ho6'
  clear hc6 hr6 pass6 show6 ho6'
  clear ho6 hs56 PASS5 SHOWL HC5 HR5 HO5
  go_upto_region 6 with (first
    | (refine wpList_buildX rfl 89 110 5 _ rfl Tryd.underlying89 _ [(0, .agg #[.string ⟨#[120]⟩, .int .i64 0, .int .i64 v2]), (1, .agg #[.string ⟨#[97]⟩, .int .i64 2, .int .i64 0]), (2, .agg #[.string ⟨#[121]⟩, .int .i64 0, .int .i64 0]), (3, .agg #[.string ⟨#[122]⟩, .int .i64 0, .int .i64 0]), (4, .agg #[.string ⟨#[98]⟩, .int .i64 1, .int .i64 0])] rfl (built_vars2 _) ?_; intro wv hbv hkv hzv; have HBV := Lib.hid hbv; have HKV := Lib.hid hkv; clear hbv hkv)
    | (refine wpList_store_all rfl _ (.tmp 7) (.tmp 41) rfl wv.heap.size 91 _ [.slice (some ⟨w6.heap.size, 0, none⟩) 5 5, .slice none 0 0, .slice none 0 0, .slice none 0 0, .slice none 0 0] rfl rfl (Blk.new _ _ _) rfl (by kernel_rfl) rfl ?_; intro w7 hb7 hs7; have HB7 := Lib.hid hb7; have HS7 := Lib.hid hs7; clear hb7 hs7))
  have hk7 : Keep wv w7 := Keep.write (Keep.new _ _) HS7.out (Nat.le_refl _)
  have hz7 : wv.heap.size < w7.heap.size := HB7.out.lt
  have hk67 : Keep w6 w7 := Keep.trans HKV.out hk7
  have hbv7 := hk7.blk HBV.out HBV.out.lt
  have hvs : Sl encVr 3 w7 (Rg w1.heap.size wv.heap.size) (some ⟨w6.heap.size, 0, none⟩) 5 5 [⟨⟨#[120]⟩, 0, v2⟩, ⟨⟨#[97]⟩, 2, 0⟩, ⟨⟨#[121]⟩, 0, 0⟩, ⟨⟨#[122]⟩, 0, 0⟩, ⟨⟨#[98]⟩, 1, 0⟩] :=
    ⟨rfl, Nat.le_refl _, by simp [maxLen], rfl, fun _ => ⟨w6.heap.size, 0, rfl, ⟨by omega, by omega⟩, fun j u hu => by rw [hbv7.cell, Nat.zero_add]; simpa using hu⟩⟩
  obtain ⟨vars, hvars⟩ : ∃ vars : List Vr, vars = [⟨⟨#[120]⟩, 0, v2⟩, ⟨⟨#[97]⟩, 2, 0⟩, ⟨⟨#[121]⟩, 0, 0⟩, ⟨⟨#[122]⟩, 0, 0⟩, ⟨⟨#[98]⟩, 1, 0⟩] := ⟨_, rfl⟩
  rw [← hvars] at hvs
  have hvok : vars.length ≤ 100 ∧ ∀ v ∈ vars, (0 ≤ v.size ∧ v.size ≤ 100) ∧ -100 ≤ v.init ∧ v.init ≤ 100 := by
    rw [hvars]
    refine ⟨by simp, fun v hv => ?_⟩
    simp at hv
    rcases hv with h | h | h | h | h <;> subst h <;> simp <;> omega
  have upS : ∀ i, Rg w1.heap.size w5.heap.size i → Rg w1.heap.size wv.heap.size i := fun i hi => ⟨hi.1, by have := hi.2; omega⟩
  have hs67 : Same (Rg w1.heap.size w5.heap.size) w6 w7 := Same.mono hk67 (fun i hi => by have := hi.2; omega)
  have pass7 := (PASS6.out.keep hs67 (StmR.keep hs67 3)).more upS (StmR.more upS 3)
  have show7 : ∀ n, SlR w7 (Rg w1.heap.size wv.heap.size) 18 (fun cs s => StmR w7 (Rg w1.heap.size wv.heap.size) (n + 1) cs s) (some ⟨w4.heap.size, 0, none⟩) 1 1 [stO] := fun n => ((SHOW6.out n).keep hs67 (StmR.keep hs67 (n + 1))).more upS (StmR.more upS (n + 1))
  have hb7' : Blk w7 wv.heap.size 91 #[.slice (some ⟨w6.heap.size, 0, none⟩) 5 5, .slice nilH.A nilH.m nilH.c, .slice nilH.A nilH.m nilH.c, .slice nilH.A nilH.m nilH.c, .slice nilH.A nilH.m nilH.c] := HB7.out
  have all7 : ChA B gc _ w w.heap.size w1.heap.size wv.heap.size (some ⟨w3.heap.size, 0, none⟩) (some ⟨w4.heap.size, 0, none⟩) (some ⟨w6.heap.size, 0, none⟩) [stA, stB (1 + v1)] [stO] vars nilH nilH nilH nilH w7 :=
    ⟨HC6.out.keep hk67, Only.keep HO6'.out hk67, ⟨hk67.blk HR6.out HR6.out.lt, pass7, show7 1, hvs⟩, hb7', HdR.nil_, HdR.nil_, HdR.nil_, HdR.nil_⟩
  have hgb : gc < w.heap.size := hgw
  have hb1 : w.heap.size < w1.heap.size := by omega
  have hgB : ∀ i, B i → i < wv.heap.size := fun i hi => by have := HBW.out i hi; omega
  have h54 : w4.heap.size < wv.heap.size := by omega
  have h53 : w3.heap.size < wv.heap.size := by omega
  have h0g : w.heap.size ≤ wv.heap.size := by omega
  have h1g : w1.heap.size ≤ wv.heap.size := by omega
  have ALL7 := Lib.hid all7
  have HVOK := Lib.hid hvok
  have HGB := Lib.hid hgB
  clear all7 hvok hgB
  clear hvars hvs hbv7 hk7 hk67 upS hs67 pass7 show7 hb7' HBV HKV HB7 HS7 PASS6 SHOW6 HC6 HR6 HO6' hv20 hv21 hv10 hv11
  generalize ha3 : w3.heap.size = n3 at *
  generalize ha4 : w4.heap.size = n4 at *
  generalize hav : w6.heap.size = gv at *
  generalize hag : wv.heap.size = g at *
  generalize hab : w1.heap.size = base at *
  clear ha3 ha4 hav hag hab
  go_wp2_with fail
  refine (next_any w7 B gc _ 2 ALL7.out.1 (by omega) (by omega)).mono ?_
  rintro e w8 ⟨v3, hv30, hv31, rfl, hc8, ho8⟩
  have hz8 := ho8.size
  have all8 := ALL7.out.only hgb hb1 h1g ho8 hc8
  have ALL8 := Lib.hid all8
  clear all8
  clear ho8 hc8 ALL7
  go_upto_if 44 with fail
  go_cut [] from 45 to 46 (fun wx => CutC B gc w w.heap.size base g (some ⟨n3, 0, none⟩) (some ⟨n4, 0, none⟩) (some ⟨gv, 0, none⟩) [stA, stB (1 + v1)] [stO] vars wx)
  case first =>
    by_cases hv3 : v3 = 1
    · have t3 : decide (v3 = 1) = true := by simpa using hv3
      have t4 : (v3 == 1) = true := by simpa using hv3
      clear hv3
      go_wp2_with (refine wpList_store_one rfl _ (.tmp 46) _ rfl g 1 91 _ (.slice (some ⟨n3, 0, none⟩) 2 2) rfl rfl ALL8.out.2.2.2.1 (by simp) (by kernel_rfl) rfl rfl ?_; intro w9 hb9 hs9; have HB9 := Lib.hid hb9; have HS9 := Lib.hid hs9; clear hb9 hs9)
      go_meet
      have hlt := ALL8.out.2.2.2.1.lt
      exact ⟨⟨_, 2, 2, [stA, stB (1 + v1)]⟩, _, ALL8.out.put HGB.out (by omega) hb1 h1g h0g HS9.out (by simpa using HB9.out) (HdR.of_start ALL8.out.2.2.1.2.1 (by omega) (by simp) (few_pass _)) HdR.nil_ HdR.nil_ HdR.nil_⟩
    · have t3 : decide (v3 = 1) = false := by simpa using hv3
      have t4 : (v3 == 1) = false := by simpa using hv3
      clear hv3
      go_wp2_with fail
      go_meet
      exact ⟨nilH, _, ALL8.out⟩
  case rest =>
    clear ALL8
    obtain ⟨w9, rfl⟩ : ∃ w9 : World, w9 = wc := ⟨_, rfl⟩
    obtain ⟨h1, r9, all9⟩ := hcut
    have hlt9 := all9.2.2.2.1.lt
    obtain ⟨cp, k1, k2, k3, k4, k5, k6⟩ := one_stms all9.2.2.1.2.1
    have hbu : base ≤ w9.heap.size := by omega
    have k6' : ∀ (k : Nat) (cs : List Value) (s : Stm), cp[k]? = some cs → [stA, stB (1 + v1)][k]? = some s → StmR w9 (Mx base g w9 (.slice none 0 0)) 3 cs s := fun k cs s e1 e2 => StmR.more (fun i hi => ⟨hi.1, by have := hi.2; omega, by have := hi.2; omega, fun h => by cases h⟩) _ _ _ (k6 k cs s e1 e2)
    have own0 := World.ownsRow_nil w9 w9.heap.size 108 18
    have ALL9 := Lib.hid all9
    have K1 := Lib.hid k1
    have K3 := Lib.hid k3
    have K4 := Lib.hid k4
    have K5 := Lib.hid k5
    have K6' := Lib.hid k6'
    have OWN0 := Lib.hid own0
    clear all9 k1 k3 k4 k5 k6' own0
    clear k2 k6
    -- the handler of messages
    go_wp2_with (at_builtin; refine wpList_append_any _ rfl (.const (.slice none 0 0)) (.tmp 47) 36 rfl w9.heap.size 108 i0 _ 18 232 Tryd.underlying36 HI0.out IZ0.out IZ1.out IZ2.out rfl (by omega) (.slice none 0 0) 0 [] rfl OWN0.out _ (some ⟨n3, 0, none⟩) 2 2 cp.flatten rfl K4.out K5.out (by simp [maxLen]) (by omega) (Nat.le_refl _) ?_; intro va wa howa hga hata; have HOWA := Lib.hid howa; have HGA := Lib.hid hga; have HATA := Lib.hid hata; clear howa hga hata)
    have m9 : Msg w9 gc base g wa _ ([] ++ [stA, stB (1 + v1)]) ([] ++ cp) := Msg.app Msg.nil_ K1.out K3.out K6'.out (by simpa using HOWA.out) HGA.out HATA.out
    have hka : Keep w9 wa := Same.grown (Same.refl _ _) HGA.out (fun i hi => hi) (fun k hk => by cases hk)
    simp only [List.nil_append] at m9
    have hza := hka.size
    have hca := ALL9.out.1.keep hka
    have M9 := Lib.hid m9
    have HCA := Lib.hid hca
    clear m9 hca
    clear HOWA HGA HATA hka
    refine (next_any wa B gc r9 2 HCA.out (by omega) (by omega)).mono ?_
    rintro e w10 ⟨v4, hv40, hv41, rfl, hc10, ho10⟩
    have hz10 := ho10.size
    have m10 := M9.out.only (by omega) (by omega) ho10
    have M10 := Lib.hid m10
    have HC10 := Lib.hid hc10
    clear m10 hc10
    clear ho10 M9 HCA
    go_upto_region 9 with (first
      | (refine wpList_buildX rfl 104 106 2 _ rfl Tryd.underlying104 _ [(0, .agg (exC 2 0 ⟨#[120]⟩ none 0).toArray), (1, .agg (exC 1 (2 + v4) ⟨#[]⟩ none 0).toArray)] rfl (built_ex2' _ _ _ _ _ _ _ _ _ _) ?_; intro wx hbx hkx hzx; have HBX := Lib.hid hbx; have HKX := Lib.hid hkx; clear hbx hkx)
      | (refine wpList_bld rfl 108 _ rfl _ [(0, .int .i64 3), (5, .agg (exC 14 0 ⟨#[]⟩ (some ⟨w10.heap.size, 0, none⟩) 2).toArray), (6, .slice (some ⟨n4, 0, none⟩) 1 1)] rfl (bld_stmI _ _ _ _) ?_)
      | (refine wpList_buildX rfl 36 108 1 _ rfl Tryd.underlying36 _ [(0, .agg (stC 3 ⟨#[]⟩ z6 (exC 14 0 ⟨#[]⟩ (some ⟨w10.heap.size, 0, none⟩) 2) (some ⟨n4, 0, none⟩) 1).toArray)] rfl (built_stmI _ _ _ _) ?_; intro wy hby hky hzy; have HBY := Lib.hid hby; have HKY := Lib.hid hky; clear hby hky
         have oy := Only.trans ((HKX.out).only gc) ((HKY.out).only gc)
         have my := M10.out.only (by omega) (by omega) oy
         have MY := Lib.hid my
         clear my oy)
      | (at_builtin; refine wpList_append_any _ rfl (.tmp 48) (.tmp 58) 36 rfl w9.heap.size 108 i0 _ 18 232 Tryd.underlying36 HI0.out IZ0.out IZ1.out IZ2.out rfl (by omega) va 2 cp.flatten rfl MY.out.2.2.1 (fun i => i = wx.heap.size) (some ⟨wx.heap.size, 0, none⟩) 1 1 (stC 3 ⟨#[]⟩ z6 (exC 14 0 ⟨#[]⟩ (some ⟨w10.heap.size, 0, none⟩) 2) (some ⟨n4, 0, none⟩) 1) rfl (reads_blk HBY.out rfl) (stI_one _ _ _ _) (by simp [maxLen]) (by omega) (by omega) ?_; intro vz wz howz hgz hatz; obtain ⟨Az, cz, hvz, -, -⟩ := own_form howz; replace hvz : vz = .slice Az 3 cz := hvz; subst hvz; have HOWZ := Lib.hid howz; have HGZ := Lib.hid hgz; have HATZ := Lib.hid hatz; clear howz hgz hatz; refine Hid.out ?_))
    refine Lib.hid ?_
    have hbz := (MY.out.grown HGZ.out).blk ALL9.out.2.2.2.1 ⟨hlt9, by omega⟩
    have HBZ := Lib.hid hbz
    clear hbz
    go_upto_region 9 with (refine wpList_store_one rfl _ (.tmp 60) _ rfl g 2 91 _ (.slice Az 3 cz) rfl rfl HBZ.out (by simp) (by kernel_rfl) rfl rfl ?_; intro wq hbq hsq; have HBQ := Lib.hid hbq; have HSQ := Lib.hid hsq; clear hbq hsq)
    have hbx5 := HKY.out.blk HBX.out HBX.out.lt
    have hoy := MY.out.2.2.2.2
    have hzy9 := hoy.size
    have hz109 := M10.out.2.2.2.2.size
    have hsy : Same (Rg base g) w9 wy := hoy.mono (fun i hi => ⟨by have := hi.2; omega, by have := hi.1; omega⟩)
    have upM : ∀ i, Rg base g i → Mx base g wy va i := fun i hi => ⟨hi.1, by have := hi.2; omega, by have := hi.2; omega, MY.out.old (by have := hi.2; omega)⟩
    have show9 := (ALL9.out.2.2.1.2.2.1.keep hsy (StmR.keep hsy 2)).more upM (StmR.more upM 2)
    have hin6 : Mx base g wy va w10.heap.size := ⟨by omega, by omega, by omega, M10.out.fresh (Nat.le_refl _)⟩
    have if9 : StmR wy (Mx base g wy va) 3 (stC 3 ⟨#[]⟩ z6 (exC 14 0 ⟨#[]⟩ (some ⟨w10.heap.size, 0, none⟩) 2) (some ⟨n4, 0, none⟩) 1) (stI (2 + v4)) := st_body (zeroEx_R 4) (rem_R hbx5 hin6) show9
    have m11 := MY.out.app (l2 := [stI (2 + v4)]) (css2 := [stC 3 ⟨#[]⟩ z6 (exC 14 0 ⟨#[]⟩ (some ⟨w10.heap.size, 0, none⟩) 2) (some ⟨n4, 0, none⟩) 1]) rfl (by intro cs hcs; simp at hcs; subst hcs; rfl) (fun k cs s e1 e2 => by
      rcases k with _ | k
      · simp at e1 e2; subst e1 e2; exact if9
      · simp at e1) (by simpa using HOWZ.out) HGZ.out HATZ.out
    have hcz := MY.out.cod (fun i hi => by have := HGB.out i hi; omega) HGZ.out ((HC10.out.keep HKX.out).keep HKY.out)
    have allz := ALL9.out.only hgb hb1 h1g m11.2.2.2.2 hcz
    obtain ⟨A', c', he, hle, hst9⟩ := m11.done hbu hlt9 (by simp) (few_mess _ _)
    simp only [Value.slice.injEq] at he
    obtain ⟨rfl, -, rfl⟩ := he
    have hle3 : 3 ≤ cz := hle
    have all11 := allz.put HGB.out (by omega) hb1 h1g h0g HSQ.out (k1 := h1) (k2 := ⟨Az, 3, cz, [stA, stB (1 + v1)] ++ [stI (2 + v4)]⟩) (k3 := nilH) (k4 := nilH) (by simpa [nilH] using HBQ.out) allz.2.2.2.2.1 hst9 HdR.nil_ HdR.nil_
    have ALL11 := Lib.hid all11
    clear all11
    clear hbx5 hoy hzy9 hz109 hsy upM show9 hin6 if9 m11 hcz allz hst9 hle HBQ HSQ HBZ HOWZ HGZ HATZ MY M10 HBX HKX HBY HKY HC10 ALL9 K1 K3 K4 K5 K6' OWN0 hv40 hv41 hzx hzy hz10 hza hlt9 hbu
    -- the handler of messages, cut short now and then
    go_wp2_with fail
    refine (next_any wq B gc _ 4 ALL11.out.1 (by omega) (by omega)).mono ?_
    rintro e w12 ⟨v5, hv50, hv51, rfl, hc12, ho12⟩
    have hz12 := ho12.size
    have all12 := ALL11.out.only hgb hb1 h1g ho12 hc12
    have ALL12 := Lib.hid all12
    clear all12
    clear ho12 hc12 ALL11
    go_upto_if 63 with fail
    generalize hbb : (v5 == 3) = bb
    clear hbb
    go_cut [] from 64 to 67 (fun wx => CutD B gc w w.heap.size base g (some ⟨n3, 0, none⟩) (some ⟨n4, 0, none⟩) (some ⟨gv, 0, none⟩) [stA, stB (1 + v1)] [stO] vars wx)
    case first =>
      cases bb with
      | true =>
        have e2 : w12.cell? ⟨g, 2, none⟩ = some (.slice Az 3 cz) := by rw [ALL12.out.2.2.2.1.cell]; rfl
        have hle1 : (1 : Int) ≤ cz := by omega
        go_wp2_with (refine wpList_store_one rfl _ (.tmp 67) _ rfl g 2 91 _ (.slice Az 1 cz) rfl rfl ALL12.out.2.2.2.1 (by simp) (by kernel_rfl) rfl rfl ?_; intro wq hbq hsq; have HBQ := Lib.hid hbq; have HSQ := Lib.hid hsq; clear hbq hsq)
        go_meet
        exact ⟨h1, ⟨Az, 1, cz, ([stA, stB (1 + v1)] ++ [stI (2 + v4)]).take 1⟩, _, ALL12.out.put HGB.out (by omega) hb1 h1g h0g HSQ.out (k3 := nilH) (k4 := nilH) (by simpa [nilH] using HBQ.out) ALL12.out.2.2.2.2.1 (StmsR.first ALL12.out.2.2.2.2.2.1 (by show 1 ≤ 3; omega)) HdR.nil_ HdR.nil_⟩
      | false =>
        go_wp2_with fail
        go_meet
        exact ⟨h1, _, _, ALL12.out⟩
    case rest =>
      obtain ⟨w13, rfl⟩ : ∃ w13 : World, w13 = wc := ⟨_, rfl⟩
      obtain ⟨h1', h2, r13, all13⟩ := hcut
      clear ALL12 hle3 hz12 hv50 hv51
      have hlt13 := all13.2.2.2.1.lt
      obtain ⟨cp, k1, k2, k3, k4, k5, k6⟩ := one_stms all13.2.2.1.2.1
      have hbu : base ≤ w13.heap.size := by omega
      have k6' : ∀ (k : Nat) (cs : List Value) (s : Stm), cp[k]? = some cs → [stA, stB (1 + v1)][k]? = some s → StmR w13 (Mx base g w13 (.slice none 0 0)) 3 cs s := fun k cs s e1 e2 => StmR.more (fun i hi => ⟨hi.1, by have := hi.2; omega, by have := hi.2; omega, fun h => by cases h⟩) _ _ _ (k6 k cs s e1 e2)
      have own0 := World.ownsRow_nil w13 w13.heap.size 108 18
      have cshow := one_stms (all13.2.2.1.2.2.1.more (fun i hi => hi) (fun cs s h => StmR.upto (m := 3) (by omega) h))
      obtain ⟨cq, q1, q2, q3, q4, q5, q6⟩ := cshow
      have ALL13 := Lib.hid all13
      have K1 := Lib.hid k1
      have K3 := Lib.hid k3
      have K4 := Lib.hid k4
      have K5 := Lib.hid k5
      have K6' := Lib.hid k6'
      have OWN0 := Lib.hid own0
      have Q1 := Lib.hid q1
      have Q3 := Lib.hid q3
      have Q4 := Lib.hid q4
      have Q5 := Lib.hid q5
      have Q6 := Lib.hid q6
      clear all13 k1 k3 k4 k5 k6' own0 q1 q3 q4 q5 q6
      clear k2 k6 q2
      -- the handler of ticks
      go_wp2_with (at_builtin; refine wpList_append_any _ rfl (.const (.slice none 0 0)) (.tmp 68) 36 rfl w13.heap.size 108 i0 _ 18 232 Tryd.underlying36 HI0.out IZ0.out IZ1.out IZ2.out rfl (by omega) (.slice none 0 0) 0 [] rfl OWN0.out _ (some ⟨n3, 0, none⟩) 2 2 cp.flatten rfl K4.out K5.out (by simp [maxLen]; try omega) (by omega) (Nat.le_refl _) ?_; intro vt wt howz hgz hatz; have HOWT := Lib.hid howz; have HGT := Lib.hid hgz; have HATT := Lib.hid hatz; clear howz hgz hatz; refine Hid.out ?_)
      refine Lib.hid ?_
      have m13 : Msg w13 gc base g wt _ ([] ++ [stA, stB (1 + v1)]) ([] ++ cp) := Msg.app Msg.nil_ K1.out K3.out K6'.out (by simpa using HOWT.out) HGT.out HATT.out
      have hka : Keep w13 wt := Same.grown (Same.refl _ _) HGT.out (fun i hi => hi) (fun k hk => by cases hk)
      simp only [List.nil_append] at m13
      have hza := hka.size
      have hca := ALL13.out.1.keep hka
      have M13 := Lib.hid m13
      have HCA := Lib.hid hca
      clear m13 hca
      clear HOWT HGT HATT hka
      have upM : ∀ i, Rg base g i → Mx base g wt vt i := fun i hi => ⟨hi.1, by have := hi.2; omega, by have := hi.2; omega, M13.out.old (by have := hi.2; omega)⟩
      have hsy : Same (Rg base g) w13 wt := M13.out.2.2.2.2.mono (fun i hi => ⟨by have := hi.2; omega, by have := hi.1; omega⟩)
      have q6' : ∀ (k : Nat) (cs : List Value) (s : Stm), cq[k]? = some cs → [stO][k]? = some s → StmR wt (Mx base g wt vt) 3 cs s := fun k cs s e1 e2 => StmR.more upM _ _ _ (StmR.keep hsy _ _ _ (Q6.out k cs s e1 e2))
      have q4' := Q4.out.keep hsy
      have Q6' := Lib.hid q6'
      have Q4' := Lib.hid q4'
      clear q6' q4'
      clear upM hsy Q4 Q6
      go_wp2_with (at_builtin; refine wpList_append_any _ rfl (.tmp 69) (.tmp 70) 36 rfl w13.heap.size 108 i0 _ 18 232 Tryd.underlying36 HI0.out IZ0.out IZ1.out IZ2.out rfl (by omega) vt 2 cp.flatten rfl M13.out.2.2.1 _ (some ⟨n4, 0, none⟩) 1 1 cq.flatten rfl Q4'.out Q5.out (by simp [maxLen]; try omega) (by omega) (by omega) ?_; intro vtt wtt howz hgz hatz; have HOWTT := Lib.hid howz; have HGTT := Lib.hid hgz; have HATTT := Lib.hid hatz; clear howz hgz hatz; refine Hid.out ?_)
      refine Lib.hid ?_
      have m14 := M13.out.app Q1.out Q3.out Q6'.out (by simpa using HOWTT.out) HGTT.out HATTT.out
      have hcz := M13.out.cod (fun i hi => by have := HGB.out i hi; omega) HGTT.out HCA.out
      have allz := ALL13.out.only hgb hb1 h1g m14.2.2.2.2 hcz
      obtain ⟨A', c', hvz, hle, hst9⟩ := m14.done hbu hlt13 (by simp) (few_tick _)
      subst hvz
      have hbz := allz.2.2.2.1
      have HBZ := Lib.hid hbz
      have ALLZ := Lib.hid allz
      have HST9 := Lib.hid hst9
      clear hbz allz hst9
      clear m14 hcz hle M13 HCA HOWTT HGTT HATTT ALL13 K1 K3 K4 K5 K6' OWN0 Q1 Q3 Q5 Q6' Q4' hza
      go_upto_region 12 with (refine wpList_store_one rfl _ (.tmp 72) _ rfl g 3 91 _ (.slice A' 3 c') rfl rfl HBZ.out (by simp) (by kernel_rfl) rfl rfl ?_; intro wq hbq hsq; have HBQ := Lib.hid hbq; have HSQ := Lib.hid hsq; clear hbq hsq)
      have all15 := ALLZ.out.put HGB.out (by omega) hb1 h1g h0g HSQ.out (k1 := h1') (k2 := h2) (k3 := ⟨A', 3, c', [stA, stB (1 + v1)] ++ [stO]⟩) (k4 := nilH) (by simpa [nilH] using HBQ.out) ALLZ.out.2.2.2.2.1 ALLZ.out.2.2.2.2.2.1 HST9.out HdR.nil_
      clear HBZ ALLZ HST9 HBQ HSQ hlt13 hbu
      obtain ⟨h3, hh3⟩ : ∃ h3 : Hd, h3 = ⟨A', 3, c', [stA, stB (1 + v1)] ++ [stO]⟩ := ⟨_, rfl⟩
      rw [← hh3] at all15
      clear hh3
      obtain ⟨w15, hw15⟩ : ∃ w15 : World, w15 = wq := ⟨_, rfl⟩
      subst hw15
      have hlt15 := all15.2.2.2.1.lt
      obtain ⟨cp, k1, k2, k3, k4, k5, k6⟩ := one_stms all15.2.2.1.2.1
      have hbu : base ≤ w15.heap.size := by omega
      have k6' : ∀ (k : Nat) (cs : List Value) (s : Stm), cp[k]? = some cs → [stA, stB (1 + v1)][k]? = some s → StmR w15 (Mx base g w15 (.slice none 0 0)) 3 cs s := fun k cs s e1 e2 => StmR.more (fun i hi => ⟨hi.1, by have := hi.2; omega, by have := hi.2; omega, fun h => by cases h⟩) _ _ _ (k6 k cs s e1 e2)
      have own0 := World.ownsRow_nil w15 w15.heap.size 108 18
      have ALL15 := Lib.hid all15
      have K1 := Lib.hid k1
      have K3 := Lib.hid k3
      have K4 := Lib.hid k4
      have K5 := Lib.hid k5
      have K6' := Lib.hid k6'
      have OWN0 := Lib.hid own0
      clear all15 k1 k3 k4 k5 k6' own0
      clear k2 k6
      -- the handler of inputs
      go_wp2_with (at_builtin; refine wpList_append_any _ rfl (.const (.slice none 0 0)) (.tmp 73) 36 rfl w15.heap.size 108 i0 _ 18 232 Tryd.underlying36 HI0.out IZ0.out IZ1.out IZ2.out rfl (by omega) (.slice none 0 0) 0 [] rfl OWN0.out _ (some ⟨n3, 0, none⟩) 2 2 cp.flatten rfl K4.out K5.out (by simp [maxLen]; try omega) (by omega) (Nat.le_refl _) ?_; intro vp wp howz hgz hatz; have HOWP := Lib.hid howz; have HGP := Lib.hid hgz; have HATP := Lib.hid hatz; clear howz hgz hatz; refine Hid.out ?_)
      refine Lib.hid ?_
      have m15 : Msg w15 gc base g wp _ ([] ++ [stA, stB (1 + v1)]) ([] ++ cp) := Msg.app Msg.nil_ K1.out K3.out K6'.out (by simpa using HOWP.out) HGP.out HATP.out
      have hka : Keep w15 wp := Same.grown (Same.refl _ _) HGP.out (fun i hi => hi) (fun k hk => by cases hk)
      simp only [List.nil_append] at m15
      have hza := hka.size
      have hca := ALL15.out.1.keep hka
      have M15 := Lib.hid m15
      have HCA := Lib.hid hca
      clear m15 hca
      clear HOWP HGP HATP hka
      have hglp := HGL.out.only hg2 (Only.trans ALL15.out.2.1 M15.out.2.2.2.2)
      have HGLP := Lib.hid hglp
      clear hglp
      go_wp2_with fail
      refine (stmts_all 1 (by omega) (by omega) 1 wp B gc _ (by omega) HCA.out HGLP.out).mono ?_
      rintro e w16 ⟨l16, A16, m16, c16, r16, rfl, hx16, hlen16, hf16, hr16', hc16, ho16⟩
      have hz16 := ho16.size
      have hzp := M15.out.2.2.2.2.size
      have hs16 := stms_of (base := wp.heap.size) (by omega) (by omega) (Nat.le_refl _) hx16 hlen16 hf16
      have m17 := M15.out.only (by omega) (by omega) ho16
      have hf16' := hs16.2.2
      obtain ⟨cq, q1, q2, q3, q4, q5, q6⟩ := one_stms hs16.1
      have q6' : ∀ (k : Nat) (cs : List Value) (s : Stm), cq[k]? = some cs → l16[k]? = some s → StmR w16 (Mx base g w16 vp) 3 cs s := fun k cs s e1 e2 => StmR.more (fun i hi => ⟨by have := hi.1; omega, hi.2, by have := hi.1; omega, M15.out.fresh hi.1⟩) _ _ _ (q6 k cs s e1 e2)
      have hm1 : m16 ≤ 1 := by omega
      have hml : m16 = l16.length := q2
      have Q1 := Lib.hid q1
      have Q3 := Lib.hid q3
      have Q4 := Lib.hid q4
      have Q5 := Lib.hid q5
      have Q6' := Lib.hid q6'
      have M17 := Lib.hid m17
      have HC16 := Lib.hid hc16
      have HF16' := Lib.hid hf16'
      have HML := Lib.hid hml
      clear q1 q3 q4 q5 q6' m17 hc16 hf16' hml
      clear q2 q6 hs16 hx16 hf16 ho16 M15 HCA HGLP
      go_wp2_with (at_builtin; refine wpList_append_any _ rfl (.tmp 74) (.tmp 76) 36 rfl w15.heap.size 108 i0 _ 18 232 Tryd.underlying36 HI0.out IZ0.out IZ1.out IZ2.out rfl (by omega) vp 2 cp.flatten rfl M17.out.2.2.1 _ A16 m16 c16 cq.flatten rfl Q4.out Q5.out (by simp [maxLen]; try omega) (by omega) (by omega) ?_; intro vpp wpp howz hgz hatz; have HOWPP := Lib.hid howz; have HGPP := Lib.hid hgz; have HATPP := Lib.hid hatz; clear howz hgz hatz; refine Hid.out ?_)
      refine Lib.hid ?_
      have m18 := M17.out.app Q1.out Q3.out Q6'.out (by rw [← HML.out]; simpa using HOWPP.out) HGPP.out HATPP.out
      have hcz := M17.out.cod (fun i hi => by have := HGB.out i hi; omega) HGPP.out HC16.out
      have allz := ALL15.out.only hgb hb1 h1g m18.2.2.2.2 hcz
      obtain ⟨A'', c'', hvz, hle, hst9⟩ := m18.done hbu hlt15 (by simp; omega) (by
        intro a ha
        rcases List.mem_append.1 ha with h | h
        · exact few_pass _ a h
        · exact HF16'.out a h)
      subst hvz
      have hbz := allz.2.2.2.1
      have HBZ := Lib.hid hbz
      have ALLZ := Lib.hid allz
      have HST9 := Lib.hid hst9
      clear hbz allz hst9
      clear m18 hcz hle M17 HC16 HOWPP HGPP HATPP ALL15 K1 K3 K4 K5 K6' OWN0 Q1 Q3 Q4 Q5 Q6' HF16'
      generalize hmm : ([stA, stB (1 + v1)] ++ l16).length = mm at *
      go_upto_region 13 with (refine wpList_store_one rfl _ (.tmp 78) _ rfl g 4 91 _ (.slice A'' mm c'') rfl rfl HBZ.out (by simp) (by kernel_rfl) rfl rfl ?_; intro wq hbq hsq; have HBQ := Lib.hid hbq; have HSQ := Lib.hid hsq; clear hbq hsq)
      have all17 := ALLZ.out.put HGB.out (by omega) hb1 h1g h0g HSQ.out (k1 := h1') (k2 := h2) (k3 := h3) (k4 := ⟨A'', mm, c'', [stA, stB (1 + v1)] ++ l16⟩) (by simpa using HBQ.out) ALLZ.out.2.2.2.2.1 ALLZ.out.2.2.2.2.2.1 ALLZ.out.2.2.2.2.2.2.1 HST9.out
      obtain ⟨h4, hh4⟩ : ∃ h4 : Hd, h4 = ⟨A'', mm, c'', [stA, stB (1 + v1)] ++ l16⟩ := ⟨_, rfl⟩
      rw [← hh4] at all17
      clear hh4 HBZ ALLZ HST9 HBQ HSQ hmm
      have hb17 := all17.2.2.2.1
      have hprg : PrgR wq (ChS base g wq) [.slice (some ⟨gv, 0, none⟩) 5 5, .slice h1'.A h1'.m h1'.c, .slice h2.A h2.m h2.c, .slice h3.A h3.m h3.c, .slice h4.A h4.m h4.c] ⟨vars, h1'.l, h2.l, h3.l, h4.l⟩ :=
        ⟨_, _, _, _, _, _, _, _, _, _, _, _, _, _, _, rfl, all17.2.2.1.2.2.2.more (fun i hi => ⟨hi.1, by have := hi.2; have := hb17.lt; omega, by have := hi.2; omega⟩), HVOK.out.1, HVOK.out.2, all17.2.2.2.2.1, all17.2.2.2.2.2.1, all17.2.2.2.2.2.2.1, all17.2.2.2.2.2.2.2⟩
      have hres := resolve_any wq (ChS base g wq) _ _ (fun i hi => hi.2.1) hprg
      have hltq := hb17.lt
      have ALL17 := Lib.hid all17
      have HB17 := Lib.hid hb17
      have HRES := Lib.hid hres
      clear all17 hb17 hres
      clear hprg
      -- the code
      go_wp2_with (refine wpList_load_all rfl _ (.tmp 7) rfl g 91 [.slice (some ⟨gv, 0, none⟩) 5 5, .slice h1'.A h1'.m h1'.c, .slice h2.A h2.m h2.c, .slice h3.A h3.m h3.c, .slice h4.A h4.m h4.c] _ rfl HB17.out Tryd.underlying91 rfl (by kernel_rfl) ?_)
      refine HRES.out.mono ?_
      rintro e wr ⟨cs2, x2, cd, rfl, hcd, hk2⟩
      obtain ⟨D0, D1, D2, D3, D4, d0, f0, d1, f1, d2, f2, d3, f3, d4, f4, rfl, hcd⟩ := cd_open hcd
      have hz2 := hk2.size
      have hg2r := hk2.blk ALL17.out.2.2.1.1 (by omega)
      have hcr := ALL17.out.1.keep hk2
      have hor := Only.keep ALL17.out.2.1 hk2
      have HCD := Lib.hid hcd
      have HK2 := Lib.hid hk2
      have HG2R := Lib.hid hg2r
      have HCR := Lib.hid hcr
      have HOR := Lib.hid hor
      clear hcd hk2 hg2r hcr hor
      go_upto_region 14 with (refine wpList_store_all rfl _ (.tmp 8) (.tmp 82) rfl wr.heap.size 38 _ [.slice D0 d0 f0, .slice D1 d1 f1, .slice D2 d2 f2, .slice D3 d3 f3, .slice D4 d4 f4] rfl rfl (Blk.new _ _ _) rfl (by kernel_rfl) rfl ?_; intro ws hbs hss)
      have hks : Keep wr ws := Keep.write (Keep.new _ _) hss (Nat.le_refl _)
      have hzs : wr.heap.size < ws.heap.size := hbs.lt
      have hg2s := hks.blk HG2R.out (by omega)
      clear hss
      have HKS := Lib.hid hks
      have HBS := Lib.hid hbs
      have HG2S := Lib.hid hg2s
      clear hks hbs hg2s
      go_wp2_with (first
        | (refine wpList_load_all rfl _ (.tmp 8) rfl wr.heap.size 38 [.slice D0 d0 f0, .slice D1 d1 f1, .slice D2 d2 f2, .slice D3 d3 f3, .slice D4 d4 f4] _ rfl HBS.out Tryd.underlying38 rfl (by kernel_rfl) ?_)
        | (refine wpList_store_all rfl _ (.tmp 2) (.tmp 84) rfl w.heap.size 38 _ [.slice D0 d0 f0, .slice D1 d1 f1, .slice D2 d2 f2, .slice D3 d3 f3, .slice D4 d4 f4] rfl rfl HG2S.out rfl (by kernel_rfl) rfl ?_; intro wz hbz hwz; have HBZ := Lib.hid hbz; have HWZ := Lib.hid hwz; clear hbz hwz))
      have hzz := HWZ.out.size
      refine bodyPost_ret (results_cell1 Tryd.results40 _ _ _ ⟨w.heap.size, 0, none⟩ _ rfl (loadVar_blk [.slice D0 d0 f0, .slice D1 d1 f1, .slice D2 d2 f2, .slice D3 d3 f3, .slice D4 d4 f4] _ HBZ.out (fun j v hv => by simpa using hv) Tryd.underlying38 rfl (by kernel_rfl))) rfl ?_
      refine ⟨_, cd, _, rfl, ?_, (HCR.out.keep HKS.out).write HWZ.out (fun h => by have := HBW.out _ h; omega), Only.write (Only.keep HOR.out HKS.out) HWZ.out (Nat.le_refl _)⟩
      refine ((HCD.out.keep (HKS.out.mono (fun i hi => hi.2))).keep (HWZ.out.mono (fun i (hi : New wr wq.heap.size i) => by have := hi.1; show i ≠ _; omega))).more (fun i hi => ⟨by have := hi.1; omega, by have := hi.2; omega⟩)
end Go.Proofs.YtecckbkobkfnmaaDoor

-- MkEv2
/- The maker's Events, whose list may be appended to. -/
set_option linter.unusedVariables false
set_option linter.unusedSimpArgs false
namespace Go.Proofs.YtecckbkobkfnmaaDoor
open Go.RowKit Go.Proofs

def EventsOwn (most : Nat) (B : Nat → Prop) (gc r : Nat) (w : World) (e : Ending) (w' : World) : Prop :=
  ∃ (A : Option Addr) (c : Nat) (l : List Ev), e = .returned (.slice A l.length c) ∧ w'.ownsRow w.heap.size 51 7 (.slice A l.length c) l.length (l.flatMap encEv) ∧ l.length ≤ most ∧ (∃ r', Cod w' B gc r') ∧ Only gc w w'
set_option maxHeartbeats 2000000 in
theorem events_own (w : World) (B : Nat → Prop) (gc r most : Nat) (hm : most ≤ 1000) (h : Cod w B gc r) : Calls Tryd.prog 21 #[.pointer (some ⟨gc, 0, none⟩), .int .i64 most] w (EventsOwn most B gc r w) := by
  obtain ⟨i0, hi0, hz0, hz1, hz2⟩ := info_of info_Event
  have H := Lib.hid h
  have hBw := h.2.1
  have hgw := h.lt
  have HI := Lib.hid hi0
  have HZ0 := Lib.hid hz0
  have HZ1 := Lib.hid hz1
  have HZ2 := Lib.hid hz2
  clear h hi0 hz0 hz1 hz2
  go_enter Tryd.func21, Tryd.ntmps21
  go_wp2_with fail
  refine (next_any _ B gc r (most + 1) H.out (by omega) (by omega)).mono ?_
  rintro e w1 ⟨v1, hv10, hv11, rfl, hc1, ho1⟩
  obtain ⟨n1, rfl⟩ := Int.eq_ofNat_of_zero_le hv10
  have HC1 := Lib.hid hc1
  have HO1 := Lib.hid ho1
  clear hc1 ho1
  go_wp2_with fail
  go_loopw [5, 6] (fun v i wr => EventsRel most B gc w v i wr) (fun _ i _ => (intOf i).toNat)
  case atStart => exact ⟨n1, [], rfl, by simp; omega, World.ownsRow_nil _ _ _ _, ⟨_, HC1.out⟩, HO1.out⟩
  case round =>
    obtain ⟨k, l, rfl, hkl, hown, ⟨r', hcr⟩, hor⟩ := hrel
    have hownH := Lib.hid hown
    have horH := Lib.hid hor
    have hcrH := Lib.hid hcr
    have hsz := hor.size
    clear hown hor hcr
    by_cases hk : 0 < k
    · go_wp2_with fail
      refine (event_any _ B gc _ hcrH.out).mono ?_
      rintro e w4 ⟨x, rfl, ⟨r4, hr4, hc4⟩, ho4⟩
      have hown4 : w4.ownsRow w.heap.size 51 7 _ l.length (l.flatMap encEv) := ownsRow_same hownH.out ho4 (fun i hi => ⟨hi.2, by omega⟩)
      have HC4 := Lib.hid hc4
      have HO4 := Lib.hid (Only.trans horH.out ho4)
      have HW4 := Lib.hid hown4
      have hz4 := HO4.out.size
      clear hc4 ho4 hown4
      unfold encEv
      go_wp2_with (at_builtin; refine wpList_append_any _ rfl (.tmp 15) (.tmp 18) _ rfl w.heap.size 51 i0 _ 7 56 Tryd.underlying23 HI.out HZ0.out HZ1.out HZ2.out rfl (by omega) _ l.length (l.flatMap encEv) rfl (HW4.out.alloc _) _ (some ⟨w4.heap.size, 0, none⟩) 1 1 (encEv x) rfl (Reads.new rfl) (encEv_one _) (by simp [maxLen]; omega) (by omega) (by simp; omega) ?_; intro v5 w5 hown5 hg5 hat5)
      go_roundw
      case rel =>
        refine ⟨k - 1, l ++ [x], by go_num, by simp; omega, by simpa using hown5, ⟨r4, (HC4.out.alloc _).same ((Same.refl _ _).append (HW4.out.alloc _) hg5 (fun i hi => by have := hBw i hi; omega) (by simp; omega))⟩, ?_⟩
        exact (HO4.out.alloc _).append (HW4.out.alloc _) hg5 (fun i hi => hi.1) (by simp; omega)
      case measure => simp [intOf]; omega
    · go_wp2_with fail
      obtain ⟨A, c, rfl, -, -⟩ := own_form hownH.out
      go_ret
      exact ⟨A, c, l, rfl, hownH.out, by omega, ⟨_, hcrH.out⟩, horH.out⟩
end Go.Proofs.YtecckbkobkfnmaaDoor

-- Law34A
/- Words for the laws on replay.Recover. -/
set_option linter.unusedVariables false
set_option linter.unusedSimpArgs false
set_option maxRecDepth 100000
namespace Go.Proofs.YtecckbkobkfnmaaDoor
open Go.RowKit Go.Proofs


def tickE : Ev := ⟨2, 0, 0, 0, 0, 0, 0⟩
theorem bld_tick : Tryd.prog.built 51 [(0, .int .i64 2)] = some (encEv tickE).toArray := by kernel_rfl
theorem built_tick : builtS Tryd.prog 51 1 [(0, .agg (encEv tickE).toArray)] = some (encEv tickE).toArray := by kernel_rfl
theorem lin_at {p : Int} {l : List Ev} {k : Nat} {d : Dt} (h : (linS p 1 l)[k]? = some d) : d.idx = (k : Int) + 1 := by
  rw [linS_get] at h
  cases hl : l[k]? with
  | none => rw [hl] at h; cases h
  | some e => rw [hl] at h; injection h with h; rw [← h]; simp only; omega
def gapS (g : Nat) (l : List Dt) : List Dt := l.filter (fun d => decide (d.idx ≠ g))
theorem gapS_snoc {g : Nat} {l : List Dt} {k : Nat} {d : Dt} (h : l[k]? = some d) : gapS g (l.take (k + 1)) = gapS g (l.take k) ++ (if d.idx ≠ g then [d] else []) := by
  obtain ⟨hk, e⟩ := List.getElem?_eq_some_iff.1 h
  unfold gapS
  rw [List.take_succ_eq_append_getElem hk, List.filter_append, e]
  by_cases hp : d.idx = g
  · rw [List.filter_cons_of_neg (by simpa using hp), if_neg (by simpa using hp)]; rfl
  · rw [List.filter_cons_of_pos (by simpa using hp), if_pos hp]; rfl
theorem gapS_len (g : Nat) (l : List Dt) (k : Nat) : (gapS g (l.take k)).length ≤ k := by
  have h1 := List.length_filter_le (fun d : Dt => decide (d.idx ≠ g)) (l.take k)
  have h2 := List.length_take_le k l
  unfold gapS
  omega
def GapRel (g : Nat) (l : List Dt) (w : World) (v i : Value) (wr : World) : Prop :=
  ∃ k : Nat, k ≤ l.length ∧ i = .int .i64 k ∧ wr.ownsRow w.heap.size 72 9 v (gapS g (l.take k)).length ((gapS g (l.take k)).flatMap encDt) ∧ Keep w wr
theorem idx_small {p : Int} {l : List Ev} (hl : l.length ≤ 1000) : ∀ d ∈ linS p 1 l, I64 d.idx := fun d hd => by
  have := lin_idx hd
  exact ⟨by omega, by omega⟩
theorem upto_sl {α : Type} {enc : α → List Value} {size : Nat} {w w' : World} {a b : Nat} {A : Option Addr} {n c : Nat} {l : List α} (h : Sl enc size w (fun i => a ≤ i ∧ i < b) A n c l) (hb : b ≤ w.heap.size) (hk : Keep w w') : Sl enc size w' (fun i => i < w'.heap.size) A n c l :=
  (h.keep (Same.mono hk (fun i hi => by have := hi.2; omega))).more (fun i hi => by have := hi.2; have := hk.size; omega)
end Go.Proofs.YtecckbkobkfnmaaDoor
