/- Regions that draw their order: loads may be taken first although the region's own stores, which wait for them, overwrite what they read. No program in sight. -/
import Derived.Test.YtcfpkmfppgodmaaBase
set_option linter.unusedVariables false
namespace Go.Proofs.Ytcfpkmfppgodmaa
open Go.RowKit

section
variable {P : Program} {ops : Array Oper} {Q : Exit → Act → World → Prop} {md : Region.Mode} {S : Array Bool → World → Prop}
/-- Whatever order is picked; S, which may hang on what has been carried out, holds behind every operation. -/
def wpAnyL (P : Program) (md : Region.Mode) (ops : Array Oper) (Q : Exit → Act → World → Prop) (S : Array Bool → World → Prop) : Nat → Array Bool → Act → World → Prop
  | 0, l, a, w => Region.ready md ops l = [] ∧ Q .normal a w
  | n + 1, l, a, w => (Region.ready md ops l = [] → Q .normal a w) ∧
    ∀ i ∈ Region.ready md ops l, wpOp P ops Q i (fun a' w' => S (l.setIfInBounds i true) w' ∧ wpAnyL P md ops Q S n (l.setIfInBounds i true) a' w') a w
theorem wpAny_of_L : ∀ (n : Nat) (l : Array Bool) (a : Act) (w : World), wpAnyL P md ops Q S n l a w → wpAny P md ops Q n l a w
  | 0, _, _, _, h => h
  | n + 1, _, _, _, h => ⟨h.1, fun i hi => wpOp_mono (fun a' w' h' => wpAny_of_L n _ a' w' h'.2) (h.2 i hi)⟩
/-- What has been carried out holds all that it waits for. -/
def Closed (md : Region.Mode) (ops : Array Oper) (l : Array Bool) : Prop :=
  ∀ j o, ops[j]? = some o → l.getD j false = true → ∀ e ∈ o.after, Region.binds md e = true → l.getD e.on false = true
theorem Closed.start : Closed md ops (Array.replicate ops.size false) := by
  intro j o _ h
  rw [Array.getD_eq_getD_getElem?, Array.getElem?_replicate] at h
  split at h <;> simp at h
theorem Closed.set_ {l : Array Bool} {j : Nat} (h : Closed md ops l) (hj : j ∈ Region.ready md ops l) : Closed md ops (l.setIfInBounds j true) := by
  intro k o ho hk e he hb
  by_cases hkj : j = k
  · subst hkj
    obtain ⟨_, o', ho', hall⟩ := mem_ready.1 hj
    rw [ho] at ho'
    injection ho' with ho'
    subst ho'
    exact getD_set_true (hall e he hb)
  · rw [getD_set_ne false hkj] at hk
    exact getD_set_true (h k o ho hk e he hb)
theorem Closed.not_ {l : Array Bool} (h : Closed md ops l) {i k : Nat} (he : ((ops[k]?).map (fun o => o.after.any (fun e => e.on == i && Region.binds md e))).getD false = true) (hi : l.getD i false = false) : l.getD k false = false := by
  cases ho : ops[k]? with
  | none => rw [ho] at he; cases he
  | some o =>
    rw [ho] at he
    simp only [Option.map_some, Option.getD_some] at he
    obtain ⟨e, hm, hb⟩ := Array.any_eq_true'.1 he
    simp only [Bool.and_eq_true, beq_iff_eq] at hb
    cases hk : l.getD k false with
    | false => rfl
    | true =>
      have := h k o ho hk e hm hb.2
      rw [hb.1, hi] at this
      cases this
theorem wpAnyL_first {i : Nat} {oi : Oper} {v : Value} {T : World → Prop} (hi : ops[i]? = some oi) (hsel : ∀ (j : Nat) (o : Oper) cs b, ops[j]? = some o → o.op ≠ .select cs b)
    (hQ : ∀ c a w, Q (.panic c) (a.put oi.dst v) w → Q (.panic c) a w)
    (hT : ∀ l w, Closed md ops l → l.getD i false = false → S (l.setIfInBounds i true) w → T w) (hSi : ∀ l w, S (l.setIfInBounds i true) w → S l w) :
    ∀ (n : Nat) (l : Array Bool) (a : Act) (w : World), Closed md ops l →
      (∀ j oj, ops[j]? = some oj → j ≠ i → l.getD j true = false → (∀ e ∈ oj.after, Region.binds md e = true → e.on ≠ i) → oi.apart ops oj = true) →
      i ∈ Region.ready md ops l → YieldsIf P ops T oi v a → S (l.setIfInBounds i true) w →
      wpAnyL P md ops Q S n (l.setIfInBounds i true) (a.put oi.dst v) w → wpAnyL P md ops Q S (n + 1) l a w := by
  have hlt : ∀ l : Array Bool, l.getD i true = false → l.getD i false = false := fun l h => by
    rcases Nat.lt_or_ge i l.size with h' | h'
    · simpa [h'] using h
    · simp [Array.getElem?_eq_none h'] at h
  intro n
  induction n with
  | zero =>
    intro l a w hc _ hr hy hS H
    refine ⟨fun h => (by rw [h] at hr; cases hr), fun j hj => ?_⟩
    by_cases hji : j = i
    · subst hji; exact hy.wpOp hi (hT _ _ hc (hlt _ (mem_ready.1 hr).1) hS) ⟨hS, H⟩
    · have := ready_mono hj hji
      rw [H.1] at this
      cases this
  | succ n ih =>
    intro l a w hc hfree hr hy hS H
    refine ⟨fun h => (by rw [h] at hr; cases hr), fun j hj => ?_⟩
    by_cases hji : j = i
    · subst hji; exact hy.wpOp hi (hT _ _ hc (hlt _ (mem_ready.1 hr).1) hS) ⟨hS, H⟩
    · have h1 := H.2 j (ready_mono hj hji)
      obtain ⟨hjun, oj, hoj, hall⟩ := mem_ready.1 hj
      have hnot : ∀ e ∈ oj.after, Region.binds md e = true → e.on ≠ i := fun e he hb heq => by
        have h1 := hall e he hb
        rw [heq, hlt _ (mem_ready.1 hr).1] at h1
        cases h1
      have h2 := wpOp_putIf hoj (hfree j oj hoj hji hjun hnot) (fun cs b => hsel i oi cs b hi) (fun cs b => hsel j oj cs b hoj) hQ hy h1
      refine wpOp_mono (fun a' w' h3 => ?_) h2
      have hcomm : (l.setIfInBounds i true).setIfInBounds j true = (l.setIfInBounds j true).setIfInBounds i true := Array.setIfInBounds_comm _ _ (Ne.symm hji)
      have h4 := h3.2.1
      have h5 := h3.2.2
      rw [hcomm] at h4 h5
      refine ⟨hSi _ _ h4, ih (l.setIfInBounds j true) a' w' (hc.set_ hj) (fun k ok hk hki hun hno => ?_) (ready_mono hr (Ne.symm hji)) h3.1 h4 h5⟩
      refine hfree k ok hk hki ?_ hno
      by_cases hjk : j = k
      · subst hjk; exact hjun
      · rw [getD_set_ne true hjk] at hun; exact hun
end

/-- As long as operation k has not come up: A; always: B. -/
def SAB (k : Nat) (A B : World → Prop) (l : Array Bool) (w : World) : Prop := (l.getD k false = false → A w) ∧ B w
theorem SAB.both {k : Nat} {A B : World → Prop} {l : Array Bool} {w : World} (hA : A w) (hB : B w) : SAB k A B l w := ⟨fun _ => hA, hB⟩
theorem SAB.past {k : Nat} {A B : World → Prop} {l : Array Bool} {w : World} (hk : l.getD k false = true) (hB : B w) : SAB k A B l w := ⟨fun h => (by rw [hk] at h; cases h), hB⟩
/-- The walk over such a region: what is left, and that what has been carried out is closed. -/
def wpL (P : Program) (ops : Array Oper) (Q : Exit → Act → World → Prop) (k : Nat) (A B : World → Prop) (n : Nat) (l : Array Bool) (a : Act) (w : World) : Prop :=
  Closed .any ops l → wpAnyL P .any ops Q (SAB k A B) n l a w
section
variable {P : Program} {ops : Array Oper} {Q : Exit → Act → World → Prop} {k : Nat} {A B : World → Prop} {n : Nat} {l : Array Bool} {a : Act} {w : World}
theorem wp_region_L (k : Nat) (A B : World → Prop) {id : Nat} (hm : P.follows .mixedOrders = true) (hA : A w.drew) (hB : B w.drew)
    (h : A w.drew → B w.drew → wpL P ops Q k A B ops.size (Array.replicate ops.size false) a w.drew) : (Code.region id ops true).wp P Q a w :=
  wp_region_any hm (wpAny_of_L _ _ _ _ (h hA hB Closed.start))
/-- An operation that yields its value in every world that meets A and B, and which k waits for. -/
theorem wpL_takeA {i : Nat} {oi : Oper} {v : Value} (hi' : ops.toList[i]? = some oi) (hs : Region.noSelect ops = true) (hf : Region.free .any ops l i = true) (hr : (Region.ready .any ops l).contains i = true)
    (he : ((ops[k]?).map (fun o => o.after.any (fun e => e.on == i && Region.binds .any e))).getD false = true) (hki : i ≠ k)
    (hQ : ∀ c a w, Q (.panic c) (a.put oi.dst v) w → Q (.panic c) a w) (hy : YieldsIf P ops (fun w => A w ∧ B w) oi v a) (hA : A w) (hB : B w)
    (h : wpL P ops Q k A B n (l.setIfInBounds i true) (a.put oi.dst v) w) : wpL P ops Q k A B (n + 1) l a w := fun hc =>
  have hi : ops[i]? = some oi := by rw [← Array.getElem?_toList]; exact hi'
  wpAnyL_first hi (Region.noSelect_spec hs) hQ (fun l' w' hc' hi' hS => ⟨hS.1 (by rw [getD_set_ne false hki]; exact hc'.not_ he hi'), hS.2⟩)
    (fun l' w' hS => ⟨fun h0 => hS.1 (by rw [getD_set_ne false hki]; exact h0), hS.2⟩) n l a w hc (Region.free_spec hi hf) (by simpa using hr) hy ⟨fun _ => hA, hB⟩
    (h (hc.set_ (by simpa using hr)))
/-- The same by B alone. -/
theorem wpL_takeB {i : Nat} {oi : Oper} {v : Value} (hi' : ops.toList[i]? = some oi) (hs : Region.noSelect ops = true) (hf : Region.free .any ops l i = true) (hr : (Region.ready .any ops l).contains i = true) (hki : i ≠ k)
    (hQ : ∀ c a w, Q (.panic c) (a.put oi.dst v) w → Q (.panic c) a w) (hy : YieldsIf P ops B oi v a) (hS : SAB k A B l w)
    (h : wpL P ops Q k A B n (l.setIfInBounds i true) (a.put oi.dst v) w) : wpL P ops Q k A B (n + 1) l a w := fun hc =>
  have hi : ops[i]? = some oi := by rw [← Array.getElem?_toList]; exact hi'
  wpAnyL_first hi (Region.noSelect_spec hs) hQ (fun l' w' hc' hi' hS => hS.2)
    (fun l' w' hS => ⟨fun h0 => hS.1 (by rw [getD_set_ne false hki]; exact h0), hS.2⟩) n l a w hc (Region.free_spec hi hf) (by simpa using hr) hy
    ⟨fun h0 => hS.1 (by rw [getD_set_ne false hki] at h0; exact h0), hS.2⟩ (h (hc.set_ (by simpa using hr)))
/-- One operation that may come up: it is carried out; S is shown anew. -/
def StepL (P : Program) (ops : Array Oper) (Q : Exit → Act → World → Prop) (k : Nat) (A B : World → Prop) (n : Nat) (l : Array Bool) (a : Act) (w : World) (i : Nat) : Prop :=
  wpOp P ops Q i (fun a' w' => SAB k A B (l.setIfInBounds i true) w' ∧ wpL P ops Q k A B n (l.setIfInBounds i true) a' w') a w
theorem wpL_one {i : Nat} (hr : Region.ready .any ops l = [i]) (h : StepL P ops Q k A B n l a w i) : wpL P ops Q k A B (n + 1) l a w := fun hc =>
  ⟨fun h0 => (by rw [hr] at h0; cases h0), fun j hj => by
    have hj' := hj
    rw [hr] at hj
    simp at hj
    subst hj
    exact wpOp_mono (fun a' w' h' => ⟨h'.1, h'.2 (hc.set_ hj')⟩) h⟩
theorem wpL_two {i j : Nat} (hr : Region.ready .any ops l = [i, j]) (h : StepL P ops Q k A B n l a w i) (h2 : StepL P ops Q k A B n l a w j) : wpL P ops Q k A B (n + 1) l a w := fun hc =>
  ⟨fun h0 => (by rw [hr] at h0; cases h0), fun m hm => by
    have hm' := hm
    rw [hr] at hm
    simp at hm
    rcases hm with rfl | rfl
    · exact wpOp_mono (fun a' w' h' => ⟨h'.1, h'.2 (hc.set_ hm')⟩) h
    · exact wpOp_mono (fun a' w' h' => ⟨h'.1, h'.2 (hc.set_ hm')⟩) h2⟩
theorem wpL_three {i j m : Nat} (hr : Region.ready .any ops l = [i, j, m]) (h : StepL P ops Q k A B n l a w i) (h2 : StepL P ops Q k A B n l a w j) (h3 : StepL P ops Q k A B n l a w m) : wpL P ops Q k A B (n + 1) l a w := fun hc =>
  ⟨fun h0 => (by rw [hr] at h0; cases h0), fun q hm => by
    have hm' := hm
    rw [hr] at hm
    simp at hm
    rcases hm with rfl | rfl | rfl
    · exact wpOp_mono (fun a' w' h' => ⟨h'.1, h'.2 (hc.set_ hm')⟩) h
    · exact wpOp_mono (fun a' w' h' => ⟨h'.1, h'.2 (hc.set_ hm')⟩) h2
    · exact wpOp_mono (fun a' w' h' => ⟨h'.1, h'.2 (hc.set_ hm')⟩) h3⟩
theorem StepL.mk {i : Nat} {o : Oper} (ho : ops.toList[i]? = some o)
    (h : ∀ K : Act → World → Prop, Shut (∀ a w, SAB k A B (l.setIfInBounds i true) w → (SAB k A B (l.setIfInBounds i true) w → wpL P ops Q k A B n (l.setIfInBounds i true) a w) → K a w) → if Region.wanted o (yielded ops a.tmps) = true then Oper.wp P o a w K Q else K (a.put o.dst undef) w) :
    StepL P ops Q k A B n l a w i :=
  wpOp_step (by rw [← Array.getElem?_toList]; exact ho) (fun K hK => h K (fun a w hS hW => hK a w ⟨hS, hW hS⟩))
theorem wpL_done (hr : Region.ready .any ops l = []) (h : Q .normal a w) : wpL P ops Q k A B n l a w := fun _ => by
  cases n with
  | zero => exact ⟨hr, h⟩
  | succ n => exact ⟨fun _ => h, by rw [hr]; simp⟩
end

/-! ### steps -/
section
variable {P : Program} {ops : Array Oper} {o : Oper} {a : Act} {w : World} {K : Act → World → Prop} {Q : Exit → Act → World → Prop} {E : Prop}
theorem step_store_blk (hgd : o.guard = none) (ty : TypeId) (x y : Operand) (ho : o.op = .store ty x y)
    (g off : Nat) (t : TypeId) (cs : Array Value) (vs : List Value) (hx : a.eval x = .pointer (some ⟨g, off, none⟩)) (hy : a.eval y = .agg vs.toArray) (hb : Blk w g t cs) (hfit : off + vs.length ≤ cs.size)
    (hi : (P.info? ty).map (·.size) = some vs.length) (h1 : vs.all (·.oneCell') = true)
    (h : ∀ w', Blk w' g t (splice cs off vs) → Same (· ≠ g) w w' → K (a.put o.dst undef) w') : if Region.wanted o (yielded ops a.tmps) = true then Oper.wp P o a w K Q else E := by
  have hw : Region.wanted o (yielded ops a.tmps) = true := by simp [Region.wanted, hgd]
  rw [if_pos hw]
  exact wp_store_mid ty x y ho g off vs.toArray hx hy (hb.there (by simpa using hfit)) (by simpa using hi) (by simpa using h1) (h _ (by simpa using hb.setCells vs off) (by simpa using setCells_same g w off vs))
theorem step_store_one (hgd : o.guard = none) (ty : TypeId) (x y : Operand) (ho : o.op = .store ty x y)
    (g off : Nat) (t : TypeId) (cs : Array Value) (v : Value) (hx : a.eval x = .pointer (some ⟨g, off, none⟩)) (hy : a.eval y = v) (hb : Blk w g t cs) (hfit : off < cs.size)
    (hi : (P.info? ty).map (·.size) = some 1) (hv : v.cells = #[v]) (h1 : v.oneCell' = true)
    (h : ∀ w', Blk w' g t (cs.setIfInBounds off v) → Same (· ≠ g) w w' → K (a.put o.dst undef) w') : if Region.wanted o (yielded ops a.tmps) = true then Oper.wp P o a w K Q else E := by
  have hw : Region.wanted o (yielded ops a.tmps) = true := by simp [Region.wanted, hgd]
  rw [if_pos hw]
  unfold Oper.wp execOp
  simp only [ho, hx, hy, Instr.storeAt, Instr.sureAddr, Sem.run_bind, Sem.run_pure, Result.andThen_ok, run_storeVar_one g off ty v (hb.there (by omega)) hi hv h1]
  exact h _ (hb.set_ off v) (setCells_same g w off [v])
theorem yieldsIf_of {T : World → Prop} (hw : Region.wanted o (yielded ops a.tmps) = true) (v : Value) (h : ∀ w, T w → (execOp a.eval o).run P w = .ok (.value v) w) : YieldsIf P ops T o v a := .inl ⟨hw, h⟩
/-- The address behind a cut s[k:]. -/
def cutA (A : Option Addr) (c k size : Nat) : Option Addr := if c = k then A else A.map (·.add (k * size))
/-- The load of a struct out of a block known whole yields. -/
theorem yieldsIf_blk {T : World → Prop} (hw : Region.wanted o (yielded ops a.tmps) = true) (ty : TypeId) (x : Operand) (ho : o.op = .load ty x)
    (g off : Nat) (t : TypeId) (cs : Array Value) (vs : List Value) (d : TypeDesc) (hx : a.eval x = .pointer (some ⟨g, off, none⟩)) (hT : ∀ w, T w → Blk w g t cs) (hvs : ∀ j v, vs[j]? = some v → cs[off + j]? = some v)
    (hu : P.underlying ty = some d) (hd : d.isRow = true) (hi : (P.info? ty).map (·.size) = some vs.length) : YieldsIf P ops T o (.agg vs.toArray) a :=
  yieldsIf_load_mid hw ty x ho g off hx vs d (fun w hw' j v hv => by rw [(hT w hw').cell]; exact hvs j v hv) hu hd hi
end
end Go.Proofs.Ytcfpkmfppgodmaa
