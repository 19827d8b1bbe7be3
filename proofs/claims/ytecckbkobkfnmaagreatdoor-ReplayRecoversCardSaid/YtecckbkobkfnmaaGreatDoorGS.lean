import Derived.Test.YtecckbkobkfnmaaGreatDoorGA
import Derived.Test.YtecckbkobkfnmaaGreatDoorReg
import Derived.Test.YtecckbkobkfnmaaGreatDoorProg
import Derived.Maps.OwnSet
import Derived.Test.YtecckbkobkfnmaaGreatDoorProcS
import Derived.Test.YtecckbkobkfnmaaGreatDoorBlk
-- MapEv
/- A map from numbers to events, of the call's own. -/
set_option linter.unusedVariables false
set_option linter.unusedSimpArgs false
set_option maxRecDepth 100000
namespace Go.Proofs.YtecckbkobkfnmaaGreatDoor
open Go.RowKit Go.Proofs

structure Dt where
  proc : Int
  idx : Int
  ev : Ev
def encDt (d : Dt) : List Value := .int .i64 d.proc :: .int .i64 d.idx :: encEv d.ev
theorem encDt_len (d : Dt) : (encDt d).length = 9 := rfl
theorem encDt_one (d : Dt) : ∀ u ∈ encDt d, u.oneCell' = true := by
  intro u hu
  simp [encDt, encEv] at hu
  rcases hu with h | h | h | h | h | h | h | h | h <;> subst h <;> rfl
def zeroEv : Ev := ⟨0, 0, 0, 0, 0, 0, 0⟩
def evD (e : Ev) : DataW Unit := .agg [.lit (.int .i64 e.kind), .lit (.int .i64 e.inc), .lit (.int .i64 e.frm), .lit (.int .i64 e.sInc), .lit (.int .i64 e.sIdx), .lit (.int .i64 e.ord), .lit (.int .i64 e.val)]
def evElem (v : Value) : Option (DataW Unit × List MemPlace) :=
  match v with
  | .agg xs => (match xs.toList with | [.int .i64 a, .int .i64 b, .int .i64 c, .int .i64 d, .int .i64 e, .int .i64 f, .int .i64 g] => some (evD ⟨a, b, c, d, e, f, g⟩, []) | _ => none)
  | _ => none
theorem evElem_mk (e : Ev) : evElem (.agg #[.int .i64 e.kind, .int .i64 e.inc, .int .i64 e.frm, .int .i64 e.sInc, .int .i64 e.sIdx, .int .i64 e.ord, .int .i64 e.val]) = some (evD e, []) := rfl
theorem evD_inj {a b : Ev} (h : evD a = evD b) : a = b := by
  obtain ⟨a1, a2, a3, a4, a5, a6, a7⟩ := a
  obtain ⟨b1, b2, b3, b4, b5, b6, b7⟩ := b
  simp [evD] at h
  simp [h]
theorem evElem_inv {v : Value} {z : DataW Unit × List MemPlace} (h : evElem v = some z) : ∃ e : Ev, v = .agg #[.int .i64 e.kind, .int .i64 e.inc, .int .i64 e.frm, .int .i64 e.sInc, .int .i64 e.sIdx, .int .i64 e.ord, .int .i64 e.val] ∧ z = (evD e, []) := by
  unfold evElem at h
  split at h
  · rename_i xs
    obtain ⟨l⟩ := xs
    split at h
    · rename_i a b c d e f g hl
      simp only at hl
      subst hl
      injection h with h
      exact ⟨⟨a, b, c, d, e, f, g⟩, rfl, h.symm⟩
    · cases h
  · cases h
theorem key_int : Maps.Keyed Tryz.prog 3 := Maps.int_keyed Tryz.underlying3
theorem zero_ev (w : World) : (zeroValue 51).run Tryz.prog w = .ok (.agg #[.int .i64 0, .int .i64 0, .int .i64 0, .int .i64 0, .int .i64 0, .int .i64 0, .int .i64 0]) w := by kernel_rfl
/-- Block b is a map with at most n entries that answers as f. -/
def MapEv (w : World) (b n : Nat) (f : Int → Option Ev) : Prop :=
  ∃ D : DataW Unit, w.ownsMap Tryz.prog 3 evElem b n D ∧ ∀ k, Maps.has D (.int .i64 k) = (f k).isSome ∧ ∀ e, f k = some e → ∀ z, D.atKey (.int .i64 k) z = evD e
section
variable {w w' : World} {b n : Nat} {f : Int → Option Ev}
theorem MapEv.made (w : World) : MapEv (w.alloc (.map #[] 0)) w.heap.size 0 (fun _ => none) :=
  ⟨_, World.ownsMap_made w _ _ _, fun k => ⟨rfl, fun e h => by cases h⟩⟩
theorem MapEv.lt (h : MapEv w b n f) : b < w.heap.size := by obtain ⟨D, h, _⟩ := h; exact h.lt
theorem MapEv.keep {S : Nat → Prop} (h : MapEv w b n f) (hk : Same S w w') (hb : S b) : MapEv w' b n f := by
  obtain ⟨D, ⟨es, clock, h1, h2, h3, h4⟩, hf⟩ := h
  exact ⟨D, ⟨es, clock, (hk.block b hb).trans h1, h2, h3, h4⟩, hf⟩
theorem i64_wf {k : Int} (hk : I64 k) : (Lit.int .i64 k).wf = true := hk.wf
theorem MapEv.look (h : MapEv w b n f) {t : TypeId} (ht : Tryz.prog.underlying t = some (.map 3 51)) {k : Int} (hk : I64 k) (e : Ev) (he : (f k).getD zeroEv = e) :
    (Instr.lookup t (.map (some b)) (.int .i64 k) true).run Tryz.prog w = .ok (.tuple #[.agg #[.int .i64 e.kind, .int .i64 e.inc, .int .i64 e.frm, .int .i64 e.sInc, .int .i64 e.sIdx, .int .i64 e.ord, .int .i64 e.val], .bool (f k).isSome]) w := by
  obtain ⟨D, hD, hf⟩ := h
  obtain ⟨v, ps, hrun, hv⟩ := hD.look_ok key_int ht (zero_ev w) (evElem_mk zeroEv) (Maps.keyOf_int_mk Tryz.underlying3 (i64_wf hk))
  obtain ⟨x, rfl, hx⟩ := evElem_inv hv
  rw [hrun, (hf k).1]
  have hx1 := congrArg Prod.fst hx
  simp only at hx1
  have hxe : x = e := by
    cases hfk : f k with
    | some y =>
      rw [(hf k).2 y hfk] at hx1
      rw [hfk] at he
      simp only [Option.getD_some] at he
      rw [← he]
      exact (evD_inj hx1).symm
    | none =>
      have hn := (hf k).1
      rw [hfk] at hn
      rw [Maps.atKey_of_not_has hn] at hx1
      rw [hfk] at he
      simp only [Option.getD_none] at he
      rw [← he]
      exact (evD_inj hx1).symm
  rw [hxe]
theorem MapEv.put (h : MapEv w b n f) {t : TypeId} (ht : Tryz.prog.underlying t = some (.map 3 51)) (hn : n < maxLen) {k : Int} (hk : I64 k) (e : Ev) :
    ∃ w', (Instr.mapUpdate t (.map (some b)) (.int .i64 k) (.agg #[.int .i64 e.kind, .int .i64 e.inc, .int .i64 e.frm, .int .i64 e.sInc, .int .i64 e.sIdx, .int .i64 e.ord, .int .i64 e.val])).run Tryz.prog w = .ok () w' ∧ MapEv w' b (n + 1) (fun j => if j = k then some e else f j) ∧ Same (fun i => i < w.heap.size ∧ i ≠ b) w w' := by
  obtain ⟨D, hD, hf⟩ := h
  obtain ⟨w', hrun, ho, hg⟩ := hD.update key_int ht hn (Maps.keyOf_int_mk Tryz.underlying3 (i64_wf hk)) (evElem_mk e)
  refine ⟨w', hrun, ⟨_, ho, fun j => ?_⟩, Same.grown (Same.refl _ _) hg (fun i hi => hi.1) (fun i hi hh => hh.2 (by injection hi with hi; exact hi.symm))⟩
  by_cases hj : j = k
  · subst hj
    simp only [if_pos]
    refine ⟨?_, fun x hx z => ?_⟩
    · rw [Maps.has_put_same hD.isMap (by constructor)]; rfl
    · injection hx with hx
      subst hx
      exact Maps.atKey_put_same hD.isMap (by constructor) _ _
  · have hne : (Lit.int .i64 j) ≠ .int .i64 k := fun h => hj (by injection h)
    simp only [if_neg hj]
    exact ⟨by rw [Maps.has_put_other hne]; exact (hf j).1, fun x hx z => by rw [Maps.atKey_put_other hne]; exact (hf j).2 x hx z⟩
variable {ops : Array Oper} {rest : List Oper} {o : Oper} {a : Act} {Q : Exit → Act → World → Prop}
theorem wpList_look (hg : o.guard = none) (m x : Operand) (t : TypeId) (hop : o.op = Op.lookup t m x true) (h : MapEv w b n f) (ht : Tryz.prog.underlying t = some (.map 3 51)) (k : Int) (hk : I64 k) (hm : a.eval m = .map (some b)) (hx : a.eval x = .int .i64 k)
    (e : Ev) (he : (f k).getD zeroEv = e) (q : Bool) (hq : (f k).isSome = q)
    (hK : wpList Tryz.prog ops Q rest (a.put o.dst (.tuple #[.agg #[.int .i64 e.kind, .int .i64 e.inc, .int .i64 e.frm, .int .i64 e.sInc, .int .i64 e.sIdx, .int .i64 e.ord, .int .i64 e.val], .bool q])) w) :
    wpList Tryz.prog ops Q (o :: rest) a w := by
  refine wpList_plain hg fun K' hK' => ?_
  have hrun := h.look ht hk e he
  unfold Oper.wp
  simp [execOp, hop, hm, hx, hrun, Result.andThen]
  rw [hq]
  exact hK' _ _ hK
theorem wpList_put (hg : o.guard = none) (m x v : Operand) (t : TypeId) (hop : o.op = Op.mapUpdate t m x v) (h : MapEv w b n f) (hn : n < maxLen) (ht : Tryz.prog.underlying t = some (.map 3 51)) (k : Int) (hk : I64 k) (hm : a.eval m = .map (some b)) (hx : a.eval x = .int .i64 k)
    (e : Ev) (hv : a.eval v = .agg #[.int .i64 e.kind, .int .i64 e.inc, .int .i64 e.frm, .int .i64 e.sInc, .int .i64 e.sIdx, .int .i64 e.ord, .int .i64 e.val])
    (hK : ∀ w', MapEv w' b (n + 1) (fun j => if j = k then some e else f j) → Same (fun i => i < w.heap.size ∧ i ≠ b) w w' → wpList Tryz.prog ops Q rest (a.put o.dst undef) w') :
    wpList Tryz.prog ops Q (o :: rest) a w := by
  refine wpList_plain hg fun K' hK' => ?_
  obtain ⟨w', hrun, r1, r2⟩ := h.put ht hn hk e
  unfold Oper.wp
  simp [execOp, hop, hm, hx, hv, hrun, Result.andThen]
  exact hK' _ _ (hK w' r1 r2)
end
end Go.Proofs.YtecckbkobkfnmaaGreatDoor

-- RecS
/- What replay.Recover computes, in plain Lean. -/
set_option linter.unusedVariables false
set_option linter.unusedSimpArgs false
namespace Go.Proofs.YtecckbkobkfnmaaGreatDoor
open Go.RowKit Go.Proofs

def cmpI (a b : Int) : Int := if a < b then -1 else if a = b then 0 else 1
/-- The first that is not 0. -/
def firstNZ : List Int → Int
  | [] => 0
  | x :: l => if x = 0 then firstNZ l else x
def cmpEv (a b : Ev) : Int := firstNZ [cmpI a.inc b.inc, cmpI a.kind b.kind, cmpI a.frm b.frm, cmpI a.sInc b.sInc, cmpI a.sIdx b.sIdx, cmpI a.ord b.ord, cmpI a.val b.val]
def better (o : Option Ev) (e : Ev) : Bool := match o with | none => true | some x => decide (cmpEv x e < 0)
def putS (self : Int) (f : Int → Option Ev) (d : Dt) : Int → Option Ev := if d.proc = self ∧ better (f d.idx) d.ev = true then (fun j => if j = d.idx then some d.ev else f j) else f
def mapS (self : Int) (l : List Dt) : Int → Option Ev := l.foldl (putS self) (fun _ => none)
theorem mapS_snoc (self : Int) (l : List Dt) (d : Dt) : mapS self (l ++ [d]) = putS self (mapS self l) d := by simp [mapS, List.foldl_append]
inductive RecS (c : Cd) (self procs : Int) (f : Int → Option Ev) : St → St → Prop
  | stop (s : St) : f (s.events.length + 1) = none → RecS c self procs f s s
  | step (s t : St) (e : Ev) : f (s.events.length + 1) = some e → RecS c self procs f (nextS c self procs s e) t → RecS c self procs f s t
theorem fold_mem (self : Int) : ∀ (l : List Dt) (f : Int → Option Ev) (k : Int) (e : Ev), l.foldl (putS self) f k = some e → f k = some e ∨ ∃ d ∈ l, d.proc = self ∧ d.idx = k ∧ d.ev = e
  | [], f, k, e, h => .inl h
  | d :: l, f, k, e, h => by
    rcases fold_mem self l (putS self f d) k e h with h | ⟨x, hx, h1⟩
    · unfold putS at h
      split at h
      · rename_i hc
        simp only at h
        split at h
        · rename_i hk
          injection h with h
          exact .inr ⟨d, by simp, hc.1, hk.symm, h⟩
        · exact .inl h
      · exact .inl h
    · exact .inr ⟨x, by simp [hx], h1⟩
theorem mapS_mem (self : Int) (l : List Dt) (k : Int) (e : Ev) (h : mapS self l k = some e) : ∃ d ∈ l, d.proc = self ∧ d.idx = k ∧ d.ev = e := by
  rcases fold_mem self l _ k e h with h | h
  · cases h
  · exact h
/-- Determinants of different indexes: each is found, and nothing else. -/
theorem fold_all (self : Int) : ∀ (l : List Dt) (f : Int → Option Ev), (∀ d ∈ l, d.proc = self) → l.Pairwise (fun a b => a.idx ≠ b.idx) → (∀ d ∈ l, f d.idx = none) → (∀ d ∈ l, l.foldl (putS self) f d.idx = some d.ev) ∧ ∀ k, (∀ d ∈ l, d.idx ≠ k) → l.foldl (putS self) f k = f k
  | [], f, _, _, _ => ⟨by simp, fun k _ => rfl⟩
  | d :: l, f, h1, h2, h3 => by
    have hd : putS self f d = (fun j => if j = d.idx then some d.ev else f j) := by
      unfold putS
      rw [if_pos ⟨h1 d (by simp), by rw [h3 d (by simp)]; rfl⟩]
    rw [List.pairwise_cons] at h2
    have ih := fold_all self l (putS self f d) (fun x hx => h1 x (by simp [hx])) h2.2 (fun x hx => by
      rw [hd]
      simp only
      rw [if_neg (fun e => h2.1 x hx e.symm)]
      exact h3 x (by simp [hx]))
    refine ⟨fun x hx => ?_, fun k hk => ?_⟩
    · rcases List.mem_cons.1 hx with rfl | hx
      · rw [List.foldl_cons, ih.2 x.idx (fun y hy e => h2.1 y hy e.symm), hd]
        simp
      · exact ih.1 x hx
    · rw [List.foldl_cons, ih.2 k (fun y hy => hk y (by simp [hy])), hd]
      simp only
      rw [if_neg (fun e => hk d (by simp) e.symm)]
theorem mapS_all {self : Int} {l : List Dt} (h1 : ∀ d ∈ l, d.proc = self) (h2 : l.Pairwise (fun a b => a.idx ≠ b.idx)) : (∀ d ∈ l, mapS self l d.idx = some d.ev) ∧ ∀ k, (∀ d ∈ l, d.idx ≠ k) → mapS self l k = none :=
  fold_all self l _ h1 h2 (fun _ _ => rfl)
/-- The determinants of a lineage, from an index on. -/
def linS (p : Int) : Int → List Ev → List Dt
  | _, [] => []
  | k, e :: l => ⟨p, k, e⟩ :: linS p (k + 1) l
theorem linS_len (p : Int) : ∀ (k : Int) (l : List Ev), (linS p k l).length = l.length
  | _, [] => rfl
  | k, e :: l => by simp [linS, linS_len p (k + 1) l]
theorem linS_snoc (p : Int) : ∀ (k : Int) (l : List Ev) (e : Ev), linS p k (l ++ [e]) = linS p k l ++ [⟨p, k + l.length, e⟩]
  | k, [], e => by simp [linS]
  | k, x :: l, e => by
    simp only [List.cons_append, linS, linS_snoc p (k + 1) l e, List.length_cons]
    congr 3
    simp; omega
theorem linS_get (p : Int) : ∀ (k : Int) (l : List Ev) (i : Nat), (linS p k l)[i]? = (l[i]?).map (fun e => ⟨p, k + i, e⟩)
  | _, [], i => by simp [linS]
  | k, e :: l, 0 => by simp [linS]
  | k, e :: l, i + 1 => by
    simp only [linS, List.getElem?_cons_succ, linS_get p (k + 1) l i]
    congr 1
    funext e
    congr 1
    simp; omega
theorem linS_mem {p k : Int} {l : List Ev} {d : Dt} (h : d ∈ linS p k l) : ∃ i e, l[i]? = some e ∧ d = ⟨p, k + (i : Nat), e⟩ := by
  obtain ⟨i, hi⟩ := List.mem_iff_getElem?.1 h
  rw [linS_get] at hi
  cases hl : l[i]? with
  | none => rw [hl] at hi; cases hi
  | some e => rw [hl] at hi; injection hi with hi; exact ⟨i, e, hl, hi.symm⟩
theorem linS_apart (p : Int) : ∀ (k : Int) (l : List Ev), (linS p k l).Pairwise (fun a b => a.idx ≠ b.idx)
  | _, [] => List.Pairwise.nil
  | k, e :: l => by
    simp only [linS]
    refine List.pairwise_cons.2 ⟨fun d hd => ?_, linS_apart p (k + 1) l⟩
    obtain ⟨i, x, _, rfl⟩ := linS_mem hd
    simp only
    omega
/-- How many determinants lie above an index. -/
def above (l : List Dt) (n : Nat) : Nat := (l.filter (fun d => decide ((n : Int) < d.idx))).length
theorem above_less {self : Int} {l : List Dt} {n : Nat} {e : Ev} (h : mapS self l (n + 1) = some e) : above l (n + 1) < above l n := by
  obtain ⟨d, hd, _, h2, _⟩ := mapS_mem self l _ _ h
  unfold above
  clear h
  induction l with
  | nil => simp at hd
  | cons a l ih =>
    have hle : ∀ m : List Dt, (m.filter (fun d => decide (((n + 1 : Nat) : Int) < d.idx))).length ≤ (m.filter (fun d => decide ((n : Int) < d.idx))).length := by
      intro m
      induction m with
      | nil => simp
      | cons x m ihm =>
        by_cases h1 : ((n + 1 : Nat) : Int) < x.idx
        · have h2 : (n : Int) < x.idx := by omega
          simp only [List.filter_cons, h1, h2, decide_true, if_true, List.length_cons]; omega
        · by_cases h2 : (n : Int) < x.idx
          · simp only [List.filter_cons, h1, h2, decide_true, decide_false, if_true, Bool.false_eq_true, if_false, List.length_cons]; omega
          · simp only [List.filter_cons, h1, h2, decide_false, Bool.false_eq_true, if_false]; exact ihm
    rcases List.mem_cons.1 hd with rfl | hd
    · have h1 : ¬ ((n + 1 : Nat) : Int) < d.idx := by omega
      have h3 : (n : Int) < d.idx := by omega
      simp only [List.filter_cons, h1, h3, decide_true, decide_false, if_true, Bool.false_eq_true, if_false, List.length_cons]
      have := hle l
      omega
    · have := ih hd
      by_cases h1 : ((n + 1 : Nat) : Int) < a.idx
      · have h3 : (n : Int) < a.idx := by omega
        simp only [List.filter_cons, h1, h3, decide_true, if_true, List.length_cons]; omega
      · by_cases h3 : (n : Int) < a.idx
        · simp only [List.filter_cons, h1, h3, decide_true, decide_false, if_true, Bool.false_eq_true, if_false, List.length_cons]; omega
        · simp only [List.filter_cons, h1, h3, decide_false, Bool.false_eq_true, if_false]; exact this
theorem RecS.det {c : Cd} {self procs : Int} {f : Int → Option Ev} {s t u : St} (h : RecS c self procs f s t) : RecS c self procs f s u → t = u := by
  induction h with
  | stop s hs =>
    intro hu
    cases hu with
    | stop _ _ => rfl
    | step _ _ e he _ => rw [hs] at he; cases he
  | step s t e he _ ih =>
    intro hu
    cases hu with
    | stop _ hs => rw [hs] at he; cases he
    | step _ _ e' he' h' => rw [he] at he'; injection he' with he'; subst he'; exact ih h'
/-- From the state behind k events of l, if the map knows the events up to m of l and not the next: the state behind m. -/
theorem RecS.run {c : Cd} {self procs : Int} {f : Int → Option Ev} (l : List Ev) (m : Nat) (hm : m ≤ l.length) (h1 : ∀ i, i < m → ∀ e, l[i]? = some e → f ((i : Int) + 1) = some e ∨ False) (h2 : f ((m : Int) + 1) = none) :
    ∀ d k, k + d = m → RecS c self procs f (replayS c self procs (l.take k)) (replayS c self procs (l.take m)) := by
  intro d
  induction d with
  | zero =>
    intro k hk
    simp only [Nat.add_zero] at hk
    subst hk
    refine .stop _ ?_
    rw [replayS_events, List.length_take, Nat.min_eq_left hm]
    exact h2
  | succ d ih =>
    intro k hk
    have hkl : k < l.length := by omega
    have hg : l[k]? = some l[k] := List.getElem?_eq_getElem hkl
    rcases h1 k (by omega) _ hg with h | h
    · refine .step _ _ l[k] ?_ ?_
      · rw [replayS_events, List.length_take, Nat.min_eq_left (by omega)]
        exact h
      · rw [← replayS_snoc, ← List.take_succ_eq_append_getElem hkl]
        exact ih (k + 1) (by omega)
    · exact h.elim
theorem rec_lin {c : Cd} {p procs : Int} (l : List Ev) (st : List Dt) (k m : Nat) (hk : k ≤ m) (hm : m ≤ l.length) (h1 : ∀ d ∈ st, d ∈ linS p 1 l) (h2 : st.Pairwise (fun a b => a.idx ≠ b.idx)) (h3 : ∀ d ∈ linS p 1 l, d.idx ≤ m → d ∈ st) (h4 : ∀ d ∈ st, d.idx ≠ m + 1) :
    RecS c p procs (mapS p st) (replayS c p procs (l.take k)) (replayS c p procs (l.take m)) := by
  have hp : ∀ d ∈ st, d.proc = p := fun d hd => by obtain ⟨i, e, _, rfl⟩ := linS_mem (h1 d hd); rfl
  have ha := mapS_all hp h2
  refine RecS.run l m hm (fun i hi e he => .inl ?_) (ha.2 _ (fun d hd => h4 d hd)) (m - k) k (by omega)
  have hd : (⟨p, 1 + (i : Int), e⟩ : Dt) ∈ linS p 1 l := List.mem_iff_getElem?.2 ⟨i, by rw [linS_get, he]; rfl⟩
  have := ha.1 _ (h3 _ hd (by simp only; omega))
  simp only at this
  rw [show ((i : Int) + 1) = 1 + i by omega]
  exact this
theorem lin_idx {p : Int} {l : List Ev} {d : Dt} (h : d ∈ linS p 1 l) : 1 ≤ d.idx ∧ d.idx ≤ l.length ∧ d.proc = p := by
  obtain ⟨i, e, hi, rfl⟩ := linS_mem h
  obtain ⟨hl, _⟩ := List.getElem?_eq_some_iff.1 hi
  refine ⟨?_, ?_, rfl⟩ <;> simp only <;> omega
theorem rec_gap {c : Cd} {p procs : Int} (l : List Ev) (k g : Nat) (hk : k < g) (hg : g ≤ l.length) :
    RecS c p procs (mapS p ((linS p 1 l).filter (fun d => decide (d.idx ≠ g)))) (replayS c p procs (l.take k)) (replayS c p procs (l.take (g - 1))) := by
  refine rec_lin l _ k (g - 1) (by omega) (by omega) (fun d hd => (List.mem_filter.1 hd).1) (List.Pairwise.filter _ (linS_apart p 1 l)) (fun d hd hi => List.mem_filter.2 ⟨hd, by simp; omega⟩) (fun d hd => ?_)
  have := (List.mem_filter.1 hd).2
  simp at this
  omega
theorem rec_turned {c : Cd} {p procs : Int} (l : List Ev) (k : Nat) (hk : k ≤ l.length) : RecS c p procs (mapS p (linS p 1 l).reverse) (replayS c p procs (l.take k)) (replayS c p procs l) := by
  have := rec_lin (c := c) (p := p) (procs := procs) l (linS p 1 l).reverse k l.length hk (Nat.le_refl _) (fun d hd => List.mem_reverse.1 hd) (List.pairwise_reverse.2 ((linS_apart p 1 l).imp (fun h e => h e.symm))) (fun d hd _ => List.mem_reverse.2 hd) (fun d hd => by have := lin_idx (List.mem_reverse.1 hd); omega)
  rw [List.take_length] at this
  exact this
theorem rec_all {c : Cd} {p procs : Int} (l : List Ev) (k : Nat) (hk : k ≤ l.length) : RecS c p procs (mapS p (linS p 1 l)) (replayS c p procs (l.take k)) (replayS c p procs l) := by
  have := rec_lin (c := c) (p := p) (procs := procs) l (linS p 1 l) k l.length hk (Nat.le_refl _) (fun d hd => hd) (linS_apart p 1 l) (fun d hd _ => hd) (fun d hd => by have := lin_idx hd; omega)
  rw [List.take_length] at this
  exact this
/-- determinant.Cut. -/
def cutS (l : List Dt) (p above : Int) : List Dt := l.filter (fun d => decide (d.proc ≠ p ∨ d.idx ≤ above))
theorem rec_cut {c : Cd} {p procs : Int} (l : List Ev) (k m : Nat) (hk : k ≤ m) (hm : m ≤ l.length) : RecS c p procs (mapS p (cutS (linS p 1 l) p m)) (replayS c p procs (l.take k)) (replayS c p procs (l.take m)) := by
  refine rec_lin l _ k m hk hm (fun d hd => (List.mem_filter.1 hd).1) (List.Pairwise.filter _ (linS_apart p 1 l)) (fun d hd hi => List.mem_filter.2 ⟨hd, by simp; omega⟩) (fun d hd => ?_)
  have h1 := (List.mem_filter.1 hd).2
  have h2 := lin_idx (List.mem_filter.1 hd).1
  simp at h1
  omega
end Go.Proofs.YtecckbkobkfnmaaGreatDoor

-- RecS2
/- The document's choice of a determinant is the map's. -/
set_option linter.unusedVariables false
set_option linter.unusedSimpArgs false
namespace Go.Proofs.YtecckbkobkfnmaaGreatDoor
open Go.RowKit Go.Proofs

def cmpDt (a b : Dt) : Int := firstNZ [cmpI a.proc b.proc, cmpI a.idx b.idx, cmpI a.ev.inc b.ev.inc, cmpI a.ev.kind b.ev.kind, cmpI a.ev.frm b.ev.frm, cmpI a.ev.sInc b.ev.sInc, cmpI a.ev.sIdx b.ev.sIdx, cmpI a.ev.ord b.ev.ord, cmpI a.ev.val b.ev.val]
theorem cmpI_neg (a b : Int) : cmpI a b = -cmpI b a := by unfold cmpI; split <;> split <;> (try split) <;> (try split) <;> omega
theorem cmpI_self (a : Int) : cmpI a a = 0 := by unfold cmpI; simp
theorem firstNZ_neg : ∀ l : List Int, firstNZ (l.map (fun x => -x)) = -firstNZ l
  | [] => rfl
  | x :: l => by
    simp only [List.map_cons, firstNZ, firstNZ_neg l]
    by_cases h : x = 0
    · simp [h]
    · rw [if_neg h, if_neg (by omega)]
theorem cmpDt_ev (a b : Dt) (h1 : a.proc = b.proc) (h2 : a.idx = b.idx) : cmpDt a b = -cmpEv b.ev a.ev := by
  unfold cmpDt cmpEv
  rw [h1, h2, cmpI_self, cmpI_self, ← firstNZ_neg]
  simp only [List.map_cons, List.map_nil, ← cmpI_neg]
  rfl
def betterD (o : Option Dt) (d : Dt) : Bool := match o with | none => true | some x => decide (0 < cmpDt d x)
def pickS (self k : Int) (o : Option Dt) (d : Dt) : Option Dt := if d.proc = self ∧ d.idx = k ∧ betterD o d = true then some d else o
def bestS (self k : Int) (l : List Dt) : Option Dt := l.foldl (pickS self k) none
theorem bestS_snoc (self k : Int) (l : List Dt) (d : Dt) : bestS self k (l ++ [d]) = pickS self k (bestS self k l) d := by simp [bestS, List.foldl_append]
theorem best_fold (self k : Int) : ∀ (l : List Dt) (o : Option Dt) (f : Int → Option Ev), (∀ x, o = some x → x.proc = self ∧ x.idx = k) → o.map (·.ev) = f k → (l.foldl (pickS self k) o).map (·.ev) = l.foldl (putS self) f k
  | [], o, f, _, h => h
  | d :: l, o, f, ho, h => by
    simp only [List.foldl_cons]
    by_cases h1 : d.proc = self
    · by_cases h2 : d.idx = k
      · have hb : betterD o d = better (f d.idx) d.ev := by
          rw [h2, ← h]
          cases o with
          | none => rfl
          | some x =>
            obtain ⟨x1, x2⟩ := ho x rfl
            simp only [betterD, better, Option.map_some]
            rw [cmpDt_ev d x (by rw [h1, x1]) (by rw [h2, x2])]
            congr 1
            exact propext ⟨fun h => by omega, fun h => by omega⟩
        cases hq : betterD o d with
        | true =>
          refine best_fold self k l _ _ (fun x hx => ?_) ?_
          · unfold pickS at hx
            rw [if_pos ⟨h1, h2, hq⟩] at hx
            injection hx with hx
            subst hx
            exact ⟨h1, h2⟩
          · unfold pickS putS
            rw [if_pos ⟨h1, h2, hq⟩, if_pos ⟨h1, by rw [← hb]; exact hq⟩]
            simp [h2]
        | false =>
          refine best_fold self k l _ _ (fun x hx => ?_) ?_
          · unfold pickS at hx
            rw [if_neg (fun h => by rw [hq] at h; cases h.2.2)] at hx
            exact ho x hx
          · unfold pickS putS
            rw [if_neg (fun h => by rw [hq] at h; cases h.2.2), if_neg (fun h => by rw [← hb, hq] at h; cases h.2)]
            exact h
      · refine best_fold self k l _ _ (fun x hx => ?_) ?_
        · unfold pickS at hx
          rw [if_neg (fun h => h2 h.2.1)] at hx
          exact ho x hx
        · unfold pickS putS
          rw [if_neg (fun h => h2 h.2.1)]
          split
          · simp only
            rw [if_neg (fun e => h2 e.symm)]
            exact h
          · exact h
    · refine best_fold self k l _ _ (fun x hx => ?_) ?_
      · unfold pickS at hx
        rw [if_neg (fun h => h1 h.1)] at hx
        exact ho x hx
      · unfold pickS putS
        rw [if_neg (fun h => h1 h.1), if_neg (fun h => h1 h.1)]
        exact h
theorem best_is (self k : Int) (l : List Dt) : (bestS self k l).map (·.ev) = mapS self l k := best_fold self k l none _ (fun x h => by cases h) rfl
end Go.Proofs.YtecckbkobkfnmaaGreatDoor

-- Cmp
/- Contracts: cmp.Compare, cmp.Or, replay.compareEvents (written by gen_cmp.py). -/
set_option linter.unusedVariables false
set_option linter.unusedSimpArgs false
set_option maxRecDepth 100000
namespace Go.Proofs.YtecckbkobkfnmaaGreatDoor
open Go.RowKit Go.Proofs

def NoNaN (w : World) (e : Ending) (w' : World) : Prop := e = .returned (.bool false) ∧ w' = w
def CmpIs (v : Int) (w : World) (e : Ending) (w' : World) : Prop := e = .returned (.int .i64 v) ∧ w' = w
theorem isNaN_any (w : World) (x : Int) : Calls Tryz.prog 56 #[.int .i64 x] w (NoNaN w) := by
  have h : (x != x) = false := by simp
  go_enter Tryz.func56, Tryz.ntmps56
  go_wp2_with fail
  go_ret
  exact ⟨rfl, rfl⟩
theorem compare_any (w : World) (x y : Int) : Calls Tryz.prog 39 #[.int .i64 x, .int .i64 y] w (CmpIs (cmpI x y) w) := by
  go_enter Tryz.func39, Tryz.ntmps39
  go_wp2_with fail
  refine (isNaN_any w x).mono ?_
  rintro e w1 ⟨rfl, h1⟩
  replace h1 := h1.symm
  subst h1
  go_wp2_with fail
  refine (isNaN_any w y).mono ?_
  rintro e w2 ⟨rfl, h1⟩
  replace h1 := h1.symm
  subst h1
  by_cases h1 : x < y
  · have hr : cmpI x y = -1 := by unfold cmpI; rw [if_pos h1]
    have HR := Lib.hid hr
    clear hr
    have t1 : decide (x < y) = true := by simpa using h1
    go_wp2_with fail
    go_ret
    exact ⟨by rw [HR.out]; rfl, rfl⟩
  have t1 : decide (x < y) = false := by simpa using h1
  by_cases h2 : y < x
  · have hr : cmpI x y = 1 := by unfold cmpI; rw [if_neg h1, if_neg (by omega)]
    have HR := Lib.hid hr
    clear hr
    have t2 : decide (y < x) = true := by simpa using h2
    go_wp2_with fail
    go_ret
    exact ⟨by rw [HR.out]; rfl, rfl⟩
  have hr : cmpI x y = 0 := by unfold cmpI; rw [if_neg h1, if_pos (by omega)]
  have HR := Lib.hid hr
  clear hr
  have t2 : decide (y < x) = false := by simpa using h2
  go_wp2_with fail
  go_ret
  exact ⟨by rw [HR.out]; rfl, rfl⟩
def OrRel (l : List Int) (w : World) (i : Value) (wr : World) : Prop := ∃ k : Nat, i = .int .i64 k ∧ k ≤ l.length ∧ w = wr ∧ firstNZ (l.drop k) = firstNZ l
theorem or_any (w : World) (S : Nat → Prop) (A : Option Addr) (n c : Nat) (l : List Int) (hl : Sl encI 1 w S A n c l) (hn : n ≤ 1000) : Calls Tryz.prog 38 #[.slice A n c] w (CmpIs (firstNZ l) w) := by
  have hnl := hl.1
  have HL := Lib.hid hl
  have HNL := Lib.hid hnl
  clear hl hnl
  go_enter Tryz.func38, Tryz.ntmps38
  go_wp2_with fail
  go_loopw [8] (fun i wr => OrRel l w i wr) (fun i _ => n - (intOf i).toNat)
  case atStart => exact ⟨0, rfl, Nat.zero_le _, rfl, rfl⟩
  case round =>
    obtain ⟨k, rfl, hkl, hw, hfr⟩ := hrel
    subst hw
    by_cases hk : k < n
    · obtain ⟨b, off, x, rfl, hSb, hx, hcell⟩ := HL.out.at_ encI_len hk
      have hd1 : decide (k < n) = true := by simpa using hk
      have hd2 : (0 : Int) ≤ k := by omega
      have hd3 : (k : Int) < n := by omega
      have hdr : l.drop k = x :: l.drop (k + 1) := by
        obtain ⟨h1, rfl⟩ := List.getElem?_eq_some_iff.1 hx
        exact List.drop_eq_getElem_cons h1
      have hc0 : w.cell? ⟨b, off + k, none⟩ = some (.int .i64 x) := by have := hcell 0 _ rfl; simpa using this
      rw [hdr] at hfr
      have HFR := Lib.hid hfr
      clear hfr
      clear hcell hx hSb hdr
      cases q : (x != 0)
      · have hx0 : x = 0 := by simpa using q
        have hr2 : firstNZ (l.drop (k + 1)) = firstNZ l := by rw [← HFR.out, firstNZ, if_pos hx0]
        have HR2 := Lib.hid hr2
        have HX0 := Lib.hid hx0
        clear hr2 hx0
        go_wp2_with fail
        go_roundw
        case rel => exact ⟨k + 1, by simp, by have := HNL.out; omega, rfl, HR2.out⟩
        case measure => simp [intOf]; omega
      · have hx0 : ¬ x = 0 := by simpa using q
        have hr2 : firstNZ l = x := by rw [← HFR.out, firstNZ, if_neg hx0]
        have HX0 := Lib.hid hx0
        have HR2 := Lib.hid hr2
        clear hx0 hr2
        go_wp2_with fail
        go_ret
        exact ⟨by rw [HR2.out]; rfl, rfl⟩
    · have hd1 : decide (k < n) = false := by simpa using hk
      have hr2 : firstNZ l = 0 := by
        have : l.drop k = [] := List.drop_eq_nil_of_le (by have := HNL.out; omega)
        rw [← hfr, this]; rfl
      have HFR := Lib.hid hfr
      have HR2 := Lib.hid hr2
      clear hfr hr2
      go_wp2_with fail
      go_ret
      exact ⟨by rw [HR2.out]; rfl, rfl⟩
theorem built_int7 (a b c d e f g : Int) : builtS Tryz.prog 3 7 [(0, .int .i64 a), (1, .int .i64 b), (2, .int .i64 c), (3, .int .i64 d), (4, .int .i64 e), (5, .int .i64 f), (6, .int .i64 g)] = some #[.int .i64 a, .int .i64 b, .int .i64 c, .int .i64 d, .int .i64 e, .int .i64 f, .int .i64 g] := by kernel_rfl
def CevPost (v : Int) (w : World) (e : Ending) (w' : World) : Prop := e = .returned (.int .i64 v) ∧ Keep w w'
set_option maxHeartbeats 8000000 in
theorem cmpEv_any (w : World) (a b : Ev) : Calls Tryz.prog 26 #[.agg (encEv a).toArray, .agg (encEv b).toArray] w (CevPost (cmpEv a b) w) := by
  show Calls Tryz.prog 26 #[.agg #[.int .i64 a.kind, .int .i64 a.inc, .int .i64 a.frm, .int .i64 a.sInc, .int .i64 a.sIdx, .int .i64 a.ord, .int .i64 a.val], .agg #[.int .i64 b.kind, .int .i64 b.inc, .int .i64 b.frm, .int .i64 b.sInc, .int .i64 b.sIdx, .int .i64 b.ord, .int .i64 b.val]] w _
  generalize hW : (w.alloc (.cells #[.int .i64 a.kind, .int .i64 a.inc, .int .i64 a.frm, .int .i64 a.sInc, .int .i64 a.sIdx, .int .i64 a.ord, .int .i64 a.val] 51)).alloc (.cells #[.int .i64 b.kind, .int .i64 b.inc, .int .i64 b.frm, .int .i64 b.sInc, .int .i64 b.sIdx, .int .i64 b.ord, .int .i64 b.val] 51) = W
  have hkW : Keep w W := hW ▸ Keep.alloc (Keep.new w _) _
  have hb2 : Blk W w.heap.size 51 #[.int .i64 a.kind, .int .i64 a.inc, .int .i64 a.frm, .int .i64 a.sInc, .int .i64 a.sIdx, .int .i64 a.ord, .int .i64 a.val] := hW ▸ (Blk.new w _ _).alloc _
  have hb3 : Blk W (w.heap.size + 1) 51 #[.int .i64 b.kind, .int .i64 b.inc, .int .i64 b.frm, .int .i64 b.sInc, .int .i64 b.sIdx, .int .i64 b.ord, .int .i64 b.val] := hW ▸ (by simpa using Blk.new (w.alloc _) _ _)
  have hz := hb3.lt
  have a0 : ∀ wx, Keep W wx → wx.cell? ⟨w.heap.size, 0, none⟩ = some (.int .i64 a.kind) := fun wx hx => by rw [(hx.blk hb2 hb2.lt).cell]; rfl
  have a1 : ∀ wx, Keep W wx → wx.cell? ⟨w.heap.size, 1, none⟩ = some (.int .i64 a.inc) := fun wx hx => by rw [(hx.blk hb2 hb2.lt).cell]; rfl
  have a2 : ∀ wx, Keep W wx → wx.cell? ⟨w.heap.size, 2, none⟩ = some (.int .i64 a.frm) := fun wx hx => by rw [(hx.blk hb2 hb2.lt).cell]; rfl
  have a3 : ∀ wx, Keep W wx → wx.cell? ⟨w.heap.size, 3, none⟩ = some (.int .i64 a.sInc) := fun wx hx => by rw [(hx.blk hb2 hb2.lt).cell]; rfl
  have a4 : ∀ wx, Keep W wx → wx.cell? ⟨w.heap.size, 4, none⟩ = some (.int .i64 a.sIdx) := fun wx hx => by rw [(hx.blk hb2 hb2.lt).cell]; rfl
  have a5 : ∀ wx, Keep W wx → wx.cell? ⟨w.heap.size, 5, none⟩ = some (.int .i64 a.ord) := fun wx hx => by rw [(hx.blk hb2 hb2.lt).cell]; rfl
  have a6 : ∀ wx, Keep W wx → wx.cell? ⟨w.heap.size, 6, none⟩ = some (.int .i64 a.val) := fun wx hx => by rw [(hx.blk hb2 hb2.lt).cell]; rfl
  have b0 : ∀ wx, Keep W wx → wx.cell? ⟨w.heap.size + 1, 0, none⟩ = some (.int .i64 b.kind) := fun wx hx => by rw [(hx.blk hb3 hb3.lt).cell]; rfl
  have b1 : ∀ wx, Keep W wx → wx.cell? ⟨w.heap.size + 1, 1, none⟩ = some (.int .i64 b.inc) := fun wx hx => by rw [(hx.blk hb3 hb3.lt).cell]; rfl
  have b2 : ∀ wx, Keep W wx → wx.cell? ⟨w.heap.size + 1, 2, none⟩ = some (.int .i64 b.frm) := fun wx hx => by rw [(hx.blk hb3 hb3.lt).cell]; rfl
  have b3 : ∀ wx, Keep W wx → wx.cell? ⟨w.heap.size + 1, 3, none⟩ = some (.int .i64 b.sInc) := fun wx hx => by rw [(hx.blk hb3 hb3.lt).cell]; rfl
  have b4 : ∀ wx, Keep W wx → wx.cell? ⟨w.heap.size + 1, 4, none⟩ = some (.int .i64 b.sIdx) := fun wx hx => by rw [(hx.blk hb3 hb3.lt).cell]; rfl
  have b5 : ∀ wx, Keep W wx → wx.cell? ⟨w.heap.size + 1, 5, none⟩ = some (.int .i64 b.ord) := fun wx hx => by rw [(hx.blk hb3 hb3.lt).cell]; rfl
  have b6 : ∀ wx, Keep W wx → wx.cell? ⟨w.heap.size + 1, 6, none⟩ = some (.int .i64 b.val) := fun wx hx => by rw [(hx.blk hb3 hb3.lt).cell]; rfl
  have HKW := Lib.hid hkW
  have HB2 := Lib.hid hb2
  have HB3 := Lib.hid hb3
  clear hkW hb2 hb3
  go_enter Tryz.func26, Tryz.ntmps26
  go_upto_region 1 with fail
  clear hW
  refine wp_region_L 99 (fun _ => True) (fun wx => Keep W wx) (by kernel_rfl) trivial (Same.drew (Same.refl _ _)) (fun hA hB => ?_)
  generalize hu0 : W.drew = u0 at hB ⊢
  clear hu0
  refine wpL_takeB (i := 0) (v := ?_) rfl (by kernel_rfl) (by kernel_rfl) (by kernel_rfl) (by decide) (fun _ _ _ h => h) (Or.inl ⟨by rfl, ?_⟩) (SAB.both hA hB) ?_
  rotate_left
  · intro wx hBx
    (try dsimp only at hBx)
    go_simp
    try with_reducible rfl
  try simp only [Act.put, List.setIfInBounds_toArray, List.set_cons_zero, List.set_cons_succ]
  refine wpL_takeB (i := 1) (v := ?_) rfl (by kernel_rfl) (by kernel_rfl) (by kernel_rfl) (by decide) (fun _ _ _ h => h) (Or.inl ⟨by rfl, ?_⟩) (SAB.both hA hB) ?_
  rotate_left
  · intro wx hBx
    (try dsimp only at hBx)
    go_simp
    try with_reducible rfl
  try simp only [Act.put, List.setIfInBounds_toArray, List.set_cons_zero, List.set_cons_succ]
  refine wpL_takeB (i := 2) (v := ?_) rfl (by kernel_rfl) (by kernel_rfl) (by kernel_rfl) (by decide) (fun _ _ _ h => h) (Or.inl ⟨by rfl, ?_⟩) (SAB.both hA hB) ?_
  rotate_left
  · intro wx hBx
    (try dsimp only at hBx)
    go_simp
    try with_reducible rfl
  try simp only [Act.put, List.setIfInBounds_toArray, List.set_cons_zero, List.set_cons_succ]
  refine wpL_takeB (i := 3) (v := ?_) rfl (by kernel_rfl) (by kernel_rfl) (by kernel_rfl) (by decide) (fun _ _ _ h => h) (Or.inl ⟨by rfl, ?_⟩) (SAB.both hA hB) ?_
  rotate_left
  · intro wx hBx
    (try dsimp only at hBx)
    go_simp
    try with_reducible rfl
  try simp only [Act.put, List.setIfInBounds_toArray, List.set_cons_zero, List.set_cons_succ]
  refine wpL_takeB (i := 5) (v := ?_) rfl (by kernel_rfl) (by kernel_rfl) (by kernel_rfl) (by decide) (fun _ _ _ h => h) (Or.inl ⟨by rfl, ?_⟩) (SAB.both hA hB) ?_
  rotate_left
  · intro wx hBx
    (try dsimp only at hBx)
    go_simp
    try with_reducible rfl
  try simp only [Act.put, List.setIfInBounds_toArray, List.set_cons_zero, List.set_cons_succ]
  refine wpL_takeB (i := 6) (v := ?_) rfl (by kernel_rfl) (by kernel_rfl) (by kernel_rfl) (by decide) (fun _ _ _ h => h) (Or.inl ⟨by rfl, ?_⟩) (SAB.both hA hB) ?_
  rotate_left
  · intro wx hBx
    (try dsimp only at hBx)
    go_simp
    try with_reducible rfl
  try simp only [Act.put, List.setIfInBounds_toArray, List.set_cons_zero, List.set_cons_succ]
  refine wpL_takeB (i := 7) (v := ?_) rfl (by kernel_rfl) (by kernel_rfl) (by kernel_rfl) (by decide) (fun _ _ _ h => h) (Or.inl ⟨by rfl, ?_⟩) (SAB.both hA hB) ?_
  rotate_left
  · intro wx hBx
    (try dsimp only at hBx)
    go_simp
    try with_reducible rfl
  try simp only [Act.put, List.setIfInBounds_toArray, List.set_cons_zero, List.set_cons_succ]
  refine wpL_takeB (i := 8) (v := ?_) rfl (by kernel_rfl) (by kernel_rfl) (by kernel_rfl) (by decide) (fun _ _ _ h => h) (Or.inl ⟨by rfl, ?_⟩) (SAB.both hA hB) ?_
  rotate_left
  · intro wx hBx
    (try dsimp only at hBx)
    go_simp
    try with_reducible rfl
  try simp only [Act.put, List.setIfInBounds_toArray, List.set_cons_zero, List.set_cons_succ]
  refine wpL_takeB (i := 10) (v := ?_) rfl (by kernel_rfl) (by kernel_rfl) (by kernel_rfl) (by decide) (fun _ _ _ h => h) (Or.inl ⟨by rfl, ?_⟩) (SAB.both hA hB) ?_
  rotate_left
  · intro wx hBx
    (try dsimp only at hBx)
    go_simp
    try with_reducible rfl
  try simp only [Act.put, List.setIfInBounds_toArray, List.set_cons_zero, List.set_cons_succ]
  refine wpL_takeB (i := 11) (v := ?_) rfl (by kernel_rfl) (by kernel_rfl) (by kernel_rfl) (by decide) (fun _ _ _ h => h) (Or.inl ⟨by rfl, ?_⟩) (SAB.both hA hB) ?_
  rotate_left
  · intro wx hBx
    (try dsimp only at hBx)
    go_simp
    try with_reducible rfl
  try simp only [Act.put, List.setIfInBounds_toArray, List.set_cons_zero, List.set_cons_succ]
  refine wpL_takeB (i := 12) (v := ?_) rfl (by kernel_rfl) (by kernel_rfl) (by kernel_rfl) (by decide) (fun _ _ _ h => h) (Or.inl ⟨by rfl, ?_⟩) (SAB.both hA hB) ?_
  rotate_left
  · intro wx hBx
    (try dsimp only at hBx)
    go_simp
    try with_reducible rfl
  try simp only [Act.put, List.setIfInBounds_toArray, List.set_cons_zero, List.set_cons_succ]
  refine wpL_takeB (i := 13) (v := ?_) rfl (by kernel_rfl) (by kernel_rfl) (by kernel_rfl) (by decide) (fun _ _ _ h => h) (Or.inl ⟨by rfl, ?_⟩) (SAB.both hA hB) ?_
  rotate_left
  · intro wx hBx
    (try dsimp only at hBx)
    go_simp
    try with_reducible rfl
  try simp only [Act.put, List.setIfInBounds_toArray, List.set_cons_zero, List.set_cons_succ]
  refine wpL_takeB (i := 15) (v := ?_) rfl (by kernel_rfl) (by kernel_rfl) (by kernel_rfl) (by decide) (fun _ _ _ h => h) (Or.inl ⟨by rfl, ?_⟩) (SAB.both hA hB) ?_
  rotate_left
  · intro wx hBx
    (try dsimp only at hBx)
    go_simp
    try with_reducible rfl
  try simp only [Act.put, List.setIfInBounds_toArray, List.set_cons_zero, List.set_cons_succ]
  refine wpL_takeB (i := 16) (v := ?_) rfl (by kernel_rfl) (by kernel_rfl) (by kernel_rfl) (by decide) (fun _ _ _ h => h) (Or.inl ⟨by rfl, ?_⟩) (SAB.both hA hB) ?_
  rotate_left
  · intro wx hBx
    (try dsimp only at hBx)
    go_simp
    try with_reducible rfl
  try simp only [Act.put, List.setIfInBounds_toArray, List.set_cons_zero, List.set_cons_succ]
  refine wpL_takeB (i := 17) (v := ?_) rfl (by kernel_rfl) (by kernel_rfl) (by kernel_rfl) (by decide) (fun _ _ _ h => h) (Or.inl ⟨by rfl, ?_⟩) (SAB.both hA hB) ?_
  rotate_left
  · intro wx hBx
    (try dsimp only at hBx)
    go_simp
    try with_reducible rfl
  try simp only [Act.put, List.setIfInBounds_toArray, List.set_cons_zero, List.set_cons_succ]
  refine wpL_takeB (i := 18) (v := ?_) rfl (by kernel_rfl) (by kernel_rfl) (by kernel_rfl) (by decide) (fun _ _ _ h => h) (Or.inl ⟨by rfl, ?_⟩) (SAB.both hA hB) ?_
  rotate_left
  · intro wx hBx
    (try dsimp only at hBx)
    go_simp
    try with_reducible rfl
  try simp only [Act.put, List.setIfInBounds_toArray, List.set_cons_zero, List.set_cons_succ]
  refine wpL_takeB (i := 19) (v := ?_) rfl (by kernel_rfl) (by kernel_rfl) (by kernel_rfl) (by decide) (fun _ _ _ h => h) (Or.inl ⟨by rfl, ?_⟩) (SAB.both hA hB) ?_
  rotate_left
  · intro wx hBx
    (try dsimp only at hBx)
    go_simp
    try with_reducible rfl
  try simp only [Act.put, List.setIfInBounds_toArray, List.set_cons_zero, List.set_cons_succ]
  refine wpL_takeB (i := 20) (v := ?_) rfl (by kernel_rfl) (by kernel_rfl) (by kernel_rfl) (by decide) (fun _ _ _ h => h) (Or.inl ⟨by rfl, ?_⟩) (SAB.both hA hB) ?_
  rotate_left
  · intro wx hBx
    (try dsimp only at hBx)
    go_simp
    try with_reducible rfl
  try simp only [Act.put, List.setIfInBounds_toArray, List.set_cons_zero, List.set_cons_succ]
  refine wpL_takeB (i := 22) (v := ?_) rfl (by kernel_rfl) (by kernel_rfl) (by kernel_rfl) (by decide) (fun _ _ _ h => h) (Or.inl ⟨by rfl, ?_⟩) (SAB.both hA hB) ?_
  rotate_left
  · intro wx hBx
    (try dsimp only at hBx)
    go_simp
    try with_reducible rfl
  try simp only [Act.put, List.setIfInBounds_toArray, List.set_cons_zero, List.set_cons_succ]
  refine wpL_takeB (i := 23) (v := ?_) rfl (by kernel_rfl) (by kernel_rfl) (by kernel_rfl) (by decide) (fun _ _ _ h => h) (Or.inl ⟨by rfl, ?_⟩) (SAB.both hA hB) ?_
  rotate_left
  · intro wx hBx
    (try dsimp only at hBx)
    go_simp
    try with_reducible rfl
  try simp only [Act.put, List.setIfInBounds_toArray, List.set_cons_zero, List.set_cons_succ]
  refine wpL_takeB (i := 24) (v := ?_) rfl (by kernel_rfl) (by kernel_rfl) (by kernel_rfl) (by decide) (fun _ _ _ h => h) (Or.inl ⟨by rfl, ?_⟩) (SAB.both hA hB) ?_
  rotate_left
  · intro wx hBx
    (try dsimp only at hBx)
    go_simp
    try with_reducible rfl
  try simp only [Act.put, List.setIfInBounds_toArray, List.set_cons_zero, List.set_cons_succ]
  refine wpL_takeB (i := 25) (v := ?_) rfl (by kernel_rfl) (by kernel_rfl) (by kernel_rfl) (by decide) (fun _ _ _ h => h) (Or.inl ⟨by rfl, ?_⟩) (SAB.both hA hB) ?_
  rotate_left
  · intro wx hBx
    (try dsimp only at hBx)
    go_simp
    try with_reducible rfl
  try simp only [Act.put, List.setIfInBounds_toArray, List.set_cons_zero, List.set_cons_succ]
  refine wpL_takeB (i := 26) (v := ?_) rfl (by kernel_rfl) (by kernel_rfl) (by kernel_rfl) (by decide) (fun _ _ _ h => h) (Or.inl ⟨by rfl, ?_⟩) (SAB.both hA hB) ?_
  rotate_left
  · intro wx hBx
    (try dsimp only at hBx)
    go_simp
    try with_reducible rfl
  try simp only [Act.put, List.setIfInBounds_toArray, List.set_cons_zero, List.set_cons_succ]
  refine wpL_takeB (i := 27) (v := ?_) rfl (by kernel_rfl) (by kernel_rfl) (by kernel_rfl) (by decide) (fun _ _ _ h => h) (Or.inl ⟨by rfl, ?_⟩) (SAB.both hA hB) ?_
  rotate_left
  · intro wx hBx
    (try dsimp only at hBx)
    go_simp
    try with_reducible rfl
  try simp only [Act.put, List.setIfInBounds_toArray, List.set_cons_zero, List.set_cons_succ]
  refine wpL_takeB (i := 29) (v := ?_) rfl (by kernel_rfl) (by kernel_rfl) (by kernel_rfl) (by decide) (fun _ _ _ h => h) (Or.inl ⟨by rfl, ?_⟩) (SAB.both hA hB) ?_
  rotate_left
  · intro wx hBx
    (try dsimp only at hBx)
    go_simp
    try with_reducible rfl
  try simp only [Act.put, List.setIfInBounds_toArray, List.set_cons_zero, List.set_cons_succ]
  refine wpL_takeB (i := 30) (v := ?_) rfl (by kernel_rfl) (by kernel_rfl) (by kernel_rfl) (by decide) (fun _ _ _ h => h) (Or.inl ⟨by rfl, ?_⟩) (SAB.both hA hB) ?_
  rotate_left
  · intro wx hBx
    (try dsimp only at hBx)
    go_simp
    try with_reducible rfl
  try simp only [Act.put, List.setIfInBounds_toArray, List.set_cons_zero, List.set_cons_succ]
  refine wpL_takeB (i := 31) (v := ?_) rfl (by kernel_rfl) (by kernel_rfl) (by kernel_rfl) (by decide) (fun _ _ _ h => h) (Or.inl ⟨by rfl, ?_⟩) (SAB.both hA hB) ?_
  rotate_left
  · intro wx hBx
    (try dsimp only at hBx)
    go_simp
    try with_reducible rfl
  try simp only [Act.put, List.setIfInBounds_toArray, List.set_cons_zero, List.set_cons_succ]
  refine wpL_takeB (i := 32) (v := ?_) rfl (by kernel_rfl) (by kernel_rfl) (by kernel_rfl) (by decide) (fun _ _ _ h => h) (Or.inl ⟨by rfl, ?_⟩) (SAB.both hA hB) ?_
  rotate_left
  · intro wx hBx
    (try dsimp only at hBx)
    go_simp
    try with_reducible rfl
  try simp only [Act.put, List.setIfInBounds_toArray, List.set_cons_zero, List.set_cons_succ]
  refine wpL_takeB (i := 34) (v := ?_) rfl (by kernel_rfl) (by kernel_rfl) (by kernel_rfl) (by decide) (fun _ _ _ h => h) (Or.inl ⟨by rfl, ?_⟩) (SAB.both hA hB) ?_
  rotate_left
  · intro wx hBx
    (try dsimp only at hBx)
    go_simp
    try with_reducible rfl
  try simp only [Act.put, List.setIfInBounds_toArray, List.set_cons_zero, List.set_cons_succ]
  refine wpL_takeB (i := 35) (v := ?_) rfl (by kernel_rfl) (by kernel_rfl) (by kernel_rfl) (by decide) (fun _ _ _ h => h) (Or.inl ⟨by rfl, ?_⟩) (SAB.both hA hB) ?_
  rotate_left
  · intro wx hBx
    (try dsimp only at hBx)
    go_simp
    try with_reducible rfl
  try simp only [Act.put, List.setIfInBounds_toArray, List.set_cons_zero, List.set_cons_succ]
  refine wpL_takeB (i := 36) (v := ?_) rfl (by kernel_rfl) (by kernel_rfl) (by kernel_rfl) (by decide) (fun _ _ _ h => h) (Or.inl ⟨by rfl, ?_⟩) (SAB.both hA hB) ?_
  rotate_left
  · intro wx hBx
    (try dsimp only at hBx)
    go_simp
    try with_reducible rfl
  try simp only [Act.put, List.setIfInBounds_toArray, List.set_cons_zero, List.set_cons_succ]
  refine wpL_takeB (i := 37) (v := ?_) rfl (by kernel_rfl) (by kernel_rfl) (by kernel_rfl) (by decide) (fun _ _ _ h => h) (Or.inl ⟨by rfl, ?_⟩) (SAB.both hA hB) ?_
  rotate_left
  · intro wx hBx
    (try dsimp only at hBx)
    go_simp
    try with_reducible rfl
  try simp only [Act.put, List.setIfInBounds_toArray, List.set_cons_zero, List.set_cons_succ]
  clear a0 a1 a2 a3 a4 a5 a6 b0 b1 b2 b3 b4 b5 b6
  refine wpL_one (i := 4) (by kernel_rfl) (StepL.mk rfl (fun K hK => ?_))
  go_simp
  refine (compare_any _ a.inc b.inc).mono ?_
  rintro e u1 ⟨rfl, hq⟩
  replace hq := hq.symm
  subst hq
  have ha := hB
  refine hK.out _ _ (SAB.both trivial ha) (fun hSS => ?_)
  clear hK K hA hB
  have hB := hSS.2
  have hA := hSS.1 (by kernel_rfl)
  (try dsimp only at hB); (try dsimp only at hA); clear hSS
  try simp only [Act.put, List.setIfInBounds_toArray, List.set_cons_zero, List.set_cons_succ]
  clear ha
  refine wpL_one (i := 9) (by kernel_rfl) (StepL.mk rfl (fun K hK => ?_))
  go_simp
  refine (compare_any _ a.kind b.kind).mono ?_
  rintro e u1 ⟨rfl, hq⟩
  replace hq := hq.symm
  subst hq
  have ha := hB
  refine hK.out _ _ (SAB.both trivial ha) (fun hSS => ?_)
  clear hK K hA hB
  have hB := hSS.2
  have hA := hSS.1 (by kernel_rfl)
  (try dsimp only at hB); (try dsimp only at hA); clear hSS
  try simp only [Act.put, List.setIfInBounds_toArray, List.set_cons_zero, List.set_cons_succ]
  clear ha
  refine wpL_one (i := 14) (by kernel_rfl) (StepL.mk rfl (fun K hK => ?_))
  go_simp
  refine (compare_any _ a.frm b.frm).mono ?_
  rintro e u1 ⟨rfl, hq⟩
  replace hq := hq.symm
  subst hq
  have ha := hB
  refine hK.out _ _ (SAB.both trivial ha) (fun hSS => ?_)
  clear hK K hA hB
  have hB := hSS.2
  have hA := hSS.1 (by kernel_rfl)
  (try dsimp only at hB); (try dsimp only at hA); clear hSS
  try simp only [Act.put, List.setIfInBounds_toArray, List.set_cons_zero, List.set_cons_succ]
  clear ha
  refine wpL_one (i := 21) (by kernel_rfl) (StepL.mk rfl (fun K hK => ?_))
  go_simp
  refine (compare_any _ a.sInc b.sInc).mono ?_
  rintro e u1 ⟨rfl, hq⟩
  replace hq := hq.symm
  subst hq
  have ha := hB
  refine hK.out _ _ (SAB.both trivial ha) (fun hSS => ?_)
  clear hK K hA hB
  have hB := hSS.2
  have hA := hSS.1 (by kernel_rfl)
  (try dsimp only at hB); (try dsimp only at hA); clear hSS
  try simp only [Act.put, List.setIfInBounds_toArray, List.set_cons_zero, List.set_cons_succ]
  clear ha
  refine wpL_one (i := 28) (by kernel_rfl) (StepL.mk rfl (fun K hK => ?_))
  go_simp
  refine (compare_any _ a.sIdx b.sIdx).mono ?_
  rintro e u1 ⟨rfl, hq⟩
  replace hq := hq.symm
  subst hq
  have ha := hB
  refine hK.out _ _ (SAB.both trivial ha) (fun hSS => ?_)
  clear hK K hA hB
  have hB := hSS.2
  have hA := hSS.1 (by kernel_rfl)
  (try dsimp only at hB); (try dsimp only at hA); clear hSS
  try simp only [Act.put, List.setIfInBounds_toArray, List.set_cons_zero, List.set_cons_succ]
  clear ha
  refine wpL_one (i := 33) (by kernel_rfl) (StepL.mk rfl (fun K hK => ?_))
  go_simp
  refine (compare_any _ a.ord b.ord).mono ?_
  rintro e u1 ⟨rfl, hq⟩
  replace hq := hq.symm
  subst hq
  have ha := hB
  refine hK.out _ _ (SAB.both trivial ha) (fun hSS => ?_)
  clear hK K hA hB
  have hB := hSS.2
  have hA := hSS.1 (by kernel_rfl)
  (try dsimp only at hB); (try dsimp only at hA); clear hSS
  try simp only [Act.put, List.setIfInBounds_toArray, List.set_cons_zero, List.set_cons_succ]
  clear ha
  refine wpL_one (i := 38) (by kernel_rfl) (StepL.mk rfl (fun K hK => ?_))
  go_simp
  refine (compare_any _ a.val b.val).mono ?_
  rintro e u1 ⟨rfl, hq⟩
  replace hq := hq.symm
  subst hq
  have ha := hB
  refine hK.out _ _ (SAB.both trivial ha) (fun hSS => ?_)
  clear hK K hA hB
  have hB := hSS.2
  have hA := hSS.1 (by kernel_rfl)
  (try dsimp only at hB); (try dsimp only at hA); clear hSS
  try simp only [Act.put, List.setIfInBounds_toArray, List.set_cons_zero, List.set_cons_succ]
  clear ha
  refine wpL_one (i := 39) (by kernel_rfl) (StepL.mk rfl (fun K hK => ?_))
  refine step_buildS rfl 27 3 7 _ rfl Tryz.underlying27 _ [(0, .int .i64 (cmpI a.inc b.inc)), (1, .int .i64 (cmpI a.kind b.kind)), (2, .int .i64 (cmpI a.frm b.frm)), (3, .int .i64 (cmpI a.sInc b.sInc)), (4, .int .i64 (cmpI a.sIdx b.sIdx)), (5, .int .i64 (cmpI a.ord b.ord)), (6, .int .i64 (cmpI a.val b.val))] rfl (built_int7 _ _ _ _ _ _ _) ?_
  generalize hq : u0.alloc (.cells #[.int .i64 (cmpI a.inc b.inc), .int .i64 (cmpI a.kind b.kind), .int .i64 (cmpI a.frm b.frm), .int .i64 (cmpI a.sInc b.sInc), .int .i64 (cmpI a.sIdx b.sIdx), .int .i64 (cmpI a.ord b.ord), .int .i64 (cmpI a.val b.val)] 3) = u1
  have hr : Reads u1 (fun i => i = u0.heap.size) 1 (some ⟨u0.heap.size, 0, none⟩) 7 [.int .i64 (cmpI a.inc b.inc), .int .i64 (cmpI a.kind b.kind), .int .i64 (cmpI a.frm b.frm), .int .i64 (cmpI a.sInc b.sInc), .int .i64 (cmpI a.sIdx b.sIdx), .int .i64 (cmpI a.ord b.ord), .int .i64 (cmpI a.val b.val)] := hq ▸ Reads.new rfl
  have hk1 : Keep u0 u1 := hq ▸ Keep.new _ _
  clear hq
  have ha := Keep.trans hB hk1
  refine hK.out _ _ (SAB.both trivial ha) (fun hSS => ?_)
  clear hK K hA hB
  have hB := hSS.2
  have hA := hSS.1 (by kernel_rfl)
  (try dsimp only at hB); (try dsimp only at hA); clear hSS
  try simp only [Act.put, List.setIfInBounds_toArray, List.set_cons_zero, List.set_cons_succ]
  clear ha
  refine wpL_one (i := 40) (by kernel_rfl) (StepL.mk rfl (fun K hK => ?_))
  go_simp
  refine (or_any u1 _ _ 7 7 [cmpI a.inc b.inc, cmpI a.kind b.kind, cmpI a.frm b.frm, cmpI a.sInc b.sInc, cmpI a.sIdx b.sIdx, cmpI a.ord b.ord, cmpI a.val b.val] ⟨rfl, Nat.le_refl _, by simp [maxLen], hr⟩ (by omega)).mono ?_
  rintro e u2 ⟨rfl, hq⟩
  replace hq := hq.symm
  subst hq
  have ha := hB
  have hfin : CevPost (cmpEv a b) w (.returned (.int .i64 (cmpEv a b))) u1 := ⟨rfl, Keep.trans HKW.out ha⟩
  refine hK.out _ _ (SAB.both trivial ha) (fun hSS => ?_)
  clear hK K hA hB
  have hB := hSS.2
  have hA := hSS.1 (by kernel_rfl)
  (try dsimp only at hB); (try dsimp only at hA); clear hSS
  try simp only [Act.put, List.setIfInBounds_toArray, List.set_cons_zero, List.set_cons_succ]
  clear ha
  have HFIN := Lib.hid hfin
  clear hfin
  refine wpL_takeB (i := 41) (v := ?_) rfl (by kernel_rfl) (by kernel_rfl) (by kernel_rfl) (by decide) (fun _ _ _ h => h) (Or.inl ⟨by rfl, ?_⟩) (SAB.both hA hB) ?_
  rotate_left
  · intro wx hBx
    (try dsimp only at hBx)
    go_simp
    try with_reducible rfl
  try simp only [Act.put, List.setIfInBounds_toArray, List.set_cons_zero, List.set_cons_succ]
  refine wpL_done (by kernel_rfl) ?_
  clear hA hB
  go_wp2_with fail
  go_ret
  exact HFIN.out
end Go.Proofs.YtecckbkobkfnmaaGreatDoor
