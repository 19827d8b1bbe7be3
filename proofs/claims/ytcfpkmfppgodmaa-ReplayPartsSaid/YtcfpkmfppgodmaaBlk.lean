/- A block loaded and stored whole. No program in sight. -/
import Derived.Test.YtcfpkmfppgodmaaReg
import Derived.Great.BuildSlice
import Derived.Laws.Tables
import Derived.Deep.Cut
import Derived.Deep.DeepCutAuto
import Derived.Deep.CutBlock
set_option linter.unusedVariables false
set_option linter.unusedSimpArgs false
namespace Go.Proofs.Ytcfpkmfppgodmaa
open Go.RowKit Go.Proofs

/-! ### a block loaded and stored whole -/
theorem splice_at : ∀ (vs : List Value) (o : Nat) (cs : Array Value), o + vs.length ≤ cs.size → ∀ j, (splice cs o vs)[j]? = if o ≤ j ∧ j < o + vs.length then vs[j - o]? else cs[j]?
  | [], o, cs, _, j => by simp [splice]; intro h1 h2; omega
  | v :: vs, o, cs, h, j => by
    simp at h
    rw [splice, splice_at vs (o + 1) _ (by simp; omega) j]
    by_cases h1 : o + 1 ≤ j ∧ j < o + 1 + vs.length
    · rw [if_pos h1, if_pos (by simp; omega)]
      have : j - o = (j - (o + 1)) + 1 := by omega
      rw [this, List.getElem?_cons_succ]
    · rw [if_neg h1]
      by_cases h2 : j = o
      · subst h2
        rw [if_pos (by simp), Nat.sub_self]
        simp [Array.getElem?_setIfInBounds, show j < cs.size by omega]
      · rw [if_neg (by simp; omega), Array.getElem?_setIfInBounds_ne (by omega)]
theorem splice_size : ∀ (vs : List Value) (o : Nat) (cs : Array Value), (splice cs o vs).size = cs.size
  | [], _, _ => rfl
  | v :: vs, o, cs => by rw [splice, splice_size vs]; simp
theorem splice_all (vs : List Value) (cs : Array Value) (h : cs.size = vs.length) : splice cs 0 vs = vs.toArray := by
  apply Array.ext_getElem?
  intro j
  rw [splice_at vs 0 cs (by omega) j]
  by_cases hj : j < vs.length
  · rw [if_pos (by omega)]; simp
  · rw [if_neg (by omega), Array.getElem?_eq_none (by omega), Array.getElem?_eq_none (by simp; omega)]
section
variable {P : Program} {ops : Array Oper} {rest : List Oper} {op : Oper} {a : Act} {w : World} {Q : Exit → Act → World → Prop}
theorem wpList_load_all (hgd : op.guard = none) (ty : TypeId) (x : Operand) (ho : op.op = .load ty x)
    (g : Nat) (t : TypeId) (vs : List Value) (d : TypeDesc) (hx : a.eval x = .pointer (some ⟨g, 0, none⟩)) (hb : Blk w g t vs.toArray)
    (hu : P.underlying ty = some d) (hd : d.isRow = true) (hi : (P.info? ty).map (·.size) = some vs.length)
    (h : wpList P ops Q rest (a.put op.dst (.agg vs.toArray)) w) : wpList P ops Q (op :: rest) a w :=
  wpList_load_blk hgd ty x ho g 0 t _ vs d hx hb (fun j v hv => by simpa using hv) hu hd hi h
theorem wpList_load_allg (hw : Region.wanted op (yielded ops a.tmps) = true) (ty : TypeId) (x : Operand) (ho : op.op = .load ty x)
    (g : Nat) (t : TypeId) (vs : List Value) (d : TypeDesc) (hx : a.eval x = .pointer (some ⟨g, 0, none⟩)) (hb : Blk w g t vs.toArray)
    (hu : P.underlying ty = some d) (hd : d.isRow = true) (hi : (P.info? ty).map (·.size) = some vs.length)
    (h : wpList P ops Q rest (a.put op.dst (.agg vs.toArray)) w) : wpList P ops Q (op :: rest) a w :=
  wpList_step fun K hK => by
    rw [if_pos hw]
    exact wp_load_mid ty x ho g 0 hx vs d (fun j v hv => by rw [hb.cell]; simpa using hv) hu hd hi (hK _ _ h)
theorem wpList_load_blkg (hw : Region.wanted op (yielded ops a.tmps) = true) (ty : TypeId) (x : Operand) (ho : op.op = .load ty x)
    (g o : Nat) (t : TypeId) (cs : Array Value) (vs : List Value) (d : TypeDesc) (hx : a.eval x = .pointer (some ⟨g, o, none⟩)) (hb : Blk w g t cs) (hvs : ∀ j v, vs[j]? = some v → cs[o + j]? = some v)
    (hu : P.underlying ty = some d) (hd : d.isRow = true) (hi : (P.info? ty).map (·.size) = some vs.length)
    (h : wpList P ops Q rest (a.put op.dst (.agg vs.toArray)) w) : wpList P ops Q (op :: rest) a w :=
  wpList_step fun K hK => by
    rw [if_pos hw]
    exact wp_load_mid ty x ho g o hx vs d (fun j v hv => by rw [hb.cell]; exact hvs j v hv) hu hd hi (hK _ _ h)
theorem wpList_store_all (hgd : op.guard = none) (ty : TypeId) (x y : Operand) (ho : op.op = .store ty x y)
    (g : Nat) (t : TypeId) (cs : Array Value) (vs : List Value) (hx : a.eval x = .pointer (some ⟨g, 0, none⟩)) (hy : a.eval y = .agg vs.toArray) (hb : Blk w g t cs) (hl : cs.size = vs.length)
    (hi : (P.info? ty).map (·.size) = some vs.length) (h1 : vs.all (·.oneCell') = true)
    (h : ∀ w', Blk w' g t vs.toArray → Same (· ≠ g) w w' → wpList P ops Q rest (a.put op.dst undef) w') : wpList P ops Q (op :: rest) a w :=
  wpList_store_blk hgd ty x y ho g 0 t cs vs hx hy hb (by omega) hi h1 (fun w' hb' hs' => h w' (by rw [splice_all vs cs hl] at hb'; exact hb') hs')
end
/-! ### a slice literal -/
def builtS (P : Program) (e : TypeId) (len : Nat) (parts : List (Nat × Value)) : Option (Array Value) :=
  match P.info? e with
  | some ie =>
    match ie.zero with
    | some z => if len * ie.size > 2 ^ 24 ∨ len * ie.size = 0 then none else Instr.fill (fun i => some (i * ie.size, ie.size)) ((Array.range (len * ie.size)).map (z.cells[· % z.cells.size]!)) parts
    | none => none
  | none => none
section
variable {P : Program} {ops : Array Oper} {rest : List Oper} {o : Oper} {a : Act} {w : World} {K : Act → World → Prop} {Q : Exit → Act → World → Prop} {E : Prop}
theorem wp_buildS (t e : TypeId) (len : Nat) (parts : Array (Nat × Operand)) (ho : o.op = .buildSlice t len parts) (hu : P.underlying t = some (.slice e)) (cells : Array Value)
    (vs : List (Nat × Value)) (hp : parts.toList.map (fun p => (p.1, a.eval p.2)) = vs) (hf : builtS P e len vs = some cells)
    (h : K (a.put o.dst (.slice (some ⟨w.heap.size, 0, none⟩) len len)) (w.alloc (.cells cells e))) : o.wp P a w K Q := by
  have hp' : (parts.map fun (i, x) => (i, a.eval x)).toList = vs := by rw [Array.toList_map]; exact hp
  subst hp'
  unfold builtS at hf
  cases hie : P.info? e with
  | none => simp [hie] at hf
  | some ie =>
    simp only [hie] at hf
    cases hz : ie.zero with
    | none => simp [hz] at hf
    | some z =>
      simp only [hz] at hf
      by_cases hc : len * ie.size > 2 ^ 24 ∨ len * ie.size = 0
      · simp [hc] at hf
      · rw [if_neg hc] at hf
        exact wp_buildSlice t e len parts ho cells ie z hu hie hz (fun h' => hc (Or.inl h')) (fun h' => hc (Or.inr h')) hf h
theorem wpList_buildS (hg : o.guard = none) (t e : TypeId) (len : Nat) (parts : Array (Nat × Operand)) (ho : o.op = .buildSlice t len parts) (hu : P.underlying t = some (.slice e)) (cells : Array Value)
    (vs : List (Nat × Value)) (hp : parts.toList.map (fun p => (p.1, a.eval p.2)) = vs) (hf : builtS P e len vs = some cells)
    (h : wpList P ops Q rest (a.put o.dst (.slice (some ⟨w.heap.size, 0, none⟩) len len)) (w.alloc (.cells cells e))) : wpList P ops Q (o :: rest) a w :=
  wpList_plain hg fun _ hK => wp_buildS t e len parts ho hu cells vs hp hf (hK _ _ h)
theorem step_buildS (hgd : o.guard = none) (t e : TypeId) (len : Nat) (parts : Array (Nat × Operand)) (ho : o.op = .buildSlice t len parts) (hu : P.underlying t = some (.slice e)) (cells : Array Value)
    (vs : List (Nat × Value)) (hp : parts.toList.map (fun p => (p.1, a.eval p.2)) = vs) (hf : builtS P e len vs = some cells)
    (h : K (a.put o.dst (.slice (some ⟨w.heap.size, 0, none⟩) len len)) (w.alloc (.cells cells e))) : if Region.wanted o (yielded ops a.tmps) = true then Oper.wp P o a w K Q else E := by
  have hw : Region.wanted o (yielded ops a.tmps) = true := by simp [Region.wanted, hgd]
  rw [if_pos hw]
  exact wp_buildS t e len parts ho hu cells vs hp hf h
end
/-! ### a struct literal -/
section
variable {P : Program} {ops : Array Oper} {rest : List Oper} {o : Oper} {a : Act} {w : World} {Q : Exit → Act → World → Prop}
theorem run_bld (w : World) (t : TypeId) (parts : Array (Nat × Operand)) (cells : Array Value) (vs : List (Nat × Value)) (hp : parts.toList.map (fun p => (p.1, a.eval p.2)) = vs) (hf : P.built t vs = some cells) :
    (Instr.build t (parts.map fun (i, x) => (i, a.eval x))).run P w = .ok (.agg cells) w := by
  refine run_build w t _ cells ?_
  have hp' : (parts.map fun (i, x) => (i, a.eval x)).toList = vs := by rw [Array.toList_map]; exact hp
  rw [hp']
  exact hf
theorem wpList_bld (hg : o.guard = none) (t : TypeId) (parts : Array (Nat × Operand)) (ho : o.op = .build t parts) (cells : Array Value) (vs : List (Nat × Value)) (hp : parts.toList.map (fun p => (p.1, a.eval p.2)) = vs) (hf : P.built t vs = some cells)
    (h : wpList P ops Q rest (a.put o.dst (.agg cells)) w) : wpList P ops Q (o :: rest) a w :=
  wpList_plain hg fun _ hK => by
    unfold Oper.wp execOp
    simp only [ho, Sem.run_bind, run_bld w t parts cells vs hp hf, Result.andThen_ok]
    exact hK _ _ h
theorem yieldsIf_bld {T : World → Prop} (hw : Region.wanted o (yielded ops a.tmps) = true) (t : TypeId) (parts : Array (Nat × Operand)) (ho : o.op = .build t parts) (cells : Array Value) (vs : List (Nat × Value)) (hp : parts.toList.map (fun p => (p.1, a.eval p.2)) = vs) (hf : P.built t vs = some cells) : YieldsIf P ops T o (.agg cells) a :=
  yieldsIf_of hw _ fun w _ => by
    unfold execOp
    simp only [ho, Sem.run_bind, run_bld w t parts cells vs hp hf, Result.andThen_ok]
    rfl
end
end Go.Proofs.Ytcfpkmfppgodmaa
