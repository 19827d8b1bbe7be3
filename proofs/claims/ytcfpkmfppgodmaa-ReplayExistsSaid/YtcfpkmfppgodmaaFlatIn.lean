/- Slices of structs of integers that came in, as the row's frame gives them, read as lists. No program in sight. -/
import Derived.Test.YtcfpkmfppgodmaaData
import Derived.Deep.Slices
import Derived.ChangeArms
import Derived.OpenShut
set_option linter.unusedVariables false
namespace Go.Proofs.Ytcfpkmfppgodmaa
open Go.RowKit Go.Deep

section
variable {H : Type} {enc' : TypeId × Value → H} {P : Program} {w : World} {base : Nat} {spare : Nat → Bool} {held : Bool}
/-- A type whose values are k cells, each an int. -/
def Flat (enc' : TypeId × Value → H) (P : Program) (w : World) (base : Nat) (spare : Nat → Bool) (held : Bool) (t : TypeId) (k : Nat) : Prop :=
  ∀ (fuel : Nat) (cs : List Value) (x : DataW H × List MemPlace), DataW.trod enc' P w base spare held fuel t cs = some x → cs.length = k ∧ ∀ j, j < k → ∃ n, cs[j]? = some (.int .i64 n) ∧ (Lit.int .i64 n).wf = true
theorem flat_i64 {t : TypeId} (ht : P.underlying t = some (.int .i64)) : Flat enc' P w base spare held t 1 := by
  intro fuel cs x h
  obtain ⟨n, rfl, _, hn⟩ := DataW.trod_int ht h
  exact ⟨rfl, fun j hj => ⟨n, by obtain rfl : j = 0 := by omega
                                 rfl, hn⟩⟩
theorem flat_struct {t : TypeId} {fs : Array Field} {k : Nat} (ht : P.underlying t = some (.struct fs)) (hC : P.cellsOf t = k)
    (hcov : ∀ j, j < k → ∃ (i : Nat) (f : Field) (m : Nat), fs[i]? = some f ∧ P.cellsOf f.type = m ∧ f.offset ≤ j ∧ j < f.offset + m ∧ Flat enc' P w base spare held f.type m) : Flat enc' P w base spare held t k := by
  intro fuel cs x h
  obtain ⟨xs, n, _, _, hlen, hxl, hf⟩ := DataW.trod_struct ht h
  refine ⟨hlen.trans hC, fun j hj => ?_⟩
  obtain ⟨i, f, m, hif, hm, h1, h2, hfl⟩ := hcov j hj
  have hi : i < fs.size := (Array.getElem?_eq_some_iff.1 hif).1
  have ht := hf i f hif
  rw [hm, List.getElem?_eq_getElem (show i < xs.length by omega)] at ht
  obtain ⟨_, hall⟩ := hfl _ _ _ ht
  obtain ⟨v, hv, hw⟩ := hall (j - f.offset) (by omega)
  refine ⟨v, ?_, hw⟩
  rw [List.getElem?_take, if_pos (by omega), List.getElem?_drop, show f.offset + (j - f.offset) = j by omega] at hv
  exact hv
theorem slr_of_trod {α : Type} {size : Nat} {R : List Value → α → Prop} {t e : TypeId} {fuel : Nat} {A : Option Addr} {len cap : Nat} {x : DataW H × List MemPlace} (hsz : 0 < size) (ht : P.underlying t = some (.slice e)) (hC : P.cellsOf e = size)
    (hel : ∀ (n : Nat) (cs : List Value) (y : DataW H × List MemPlace), DataW.trod enc' P w base spare held n e cs = some y → cs.length = size ∧ ∃ a, R cs a)
    (h : DataW.trod enc' P w base spare held fuel t [.slice A len cap] = some x) : ∃ l : List α, SlR w (· < w.heap.size) size R A len cap l := by
  rcases open_slice ht h with ⟨e0, _⟩ | ⟨a, len', cap', m, n, D, Pl, ecs, _, hl, hm, hmm, _, hi⟩
  · simp at e0
    obtain ⟨rfl, rfl, rfl⟩ := e0
    exact ⟨[], SlR.nil_⟩
  · simp at ecs
    obtain ⟨rfl, rfl, rfl⟩ := ecs
    rw [hC] at hi
    have hlm : len ≤ m := by rw [hmm]; split <;> omega
    have key : ∀ k, k ≤ len → ∃ (css : List (List Value)) (l : List α), css.length = k ∧ l.length = k ∧ (∀ cs ∈ css, cs.length = size) ∧ (∀ (i : Nat) (cs : List Value) (b : α), css[i]? = some cs → l[i]? = some b → R cs b) ∧
        (∀ (i : Nat) (cs : List Value), css[i]? = some cs → ∀ j, j < size → w.cell? ((a.add (i * size)).add j) = cs[j]?) := by
      intro k
      induction k with
      | zero => intro _; exact ⟨[], [], rfl, rfl, by simp, by simp, by simp⟩
      | succ k ih =>
        intro hk
        obtain ⟨css, l, h1, h2, h3, h4, h5⟩ := ih (by omega)
        obtain ⟨cs, hcs, htr⟩ := hi k (by omega)
        obtain ⟨hcl, b, hb⟩ := hel _ _ _ htr
        obtain ⟨_, _, hat⟩ := World.cells?_some hcs
        refine ⟨css ++ [cs], l ++ [b], by simp [h1], by simp [h2], fun c hc => ?_, fun i c d e1 e2 => ?_, fun i c e1 j hj => ?_⟩
        · rcases List.mem_append.1 hc with h | h
          · exact h3 c h
          · simp at h; subst h; exact hcl
        · rcases Nat.lt_or_ge i k with h | h
          · rw [List.getElem?_append_left (by omega)] at e1 e2
            exact h4 i c d e1 e2
          · rw [List.getElem?_append_right (by omega)] at e1 e2
            rw [h1] at e1
            rw [h2] at e2
            rcases Nat.eq_or_lt_of_le h with h' | h'
            · subst h'
              simp at e1 e2
              subst e1 e2
              exact hb
            · rw [List.getElem?_eq_none (by simp; omega)] at e1
              cases e1
        · rcases Nat.lt_or_ge i k with h | h
          · rw [List.getElem?_append_left (by omega)] at e1
            exact h5 i c e1 j hj
          · rw [List.getElem?_append_right (by omega), h1] at e1
            rcases Nat.eq_or_lt_of_le h with h' | h'
            · subst h'
              simp at e1
              subst e1
              exact hat j hj
            · rw [List.getElem?_eq_none (by simp; omega)] at e1
              cases e1
    obtain ⟨css, l, h1, h2, h3, h4, h5⟩ := key len (Nat.le_refl _)
    refine ⟨l, h2.symm, hl, hm, css, h1, h3, ⟨?_, fun hn => ?_⟩, h4⟩
    · rw [List.length_flatten, show css.map List.length = List.replicate css.length size from List.eq_replicate_iff.2 ⟨by simp, fun b hb => by obtain ⟨c, hc, rfl⟩ := List.mem_map.1 hb; exact h3 c hc⟩]
      simp [h1]
    · obtain ⟨b, off, spot⟩ := a
      have h0 : w.cell? ((Addr.add ⟨b, off, spot⟩ (0 * size)).add 0) = (css[0]'(by omega))[0]? := h5 0 _ (List.getElem?_eq_getElem (by omega)) 0 hsz
      rw [List.getElem?_eq_getElem (by rw [h3 _ (List.getElem_mem _)]; exact hsz)] at h0
      have hs : spot = none := by simpa [Addr.add] using World.cell?_spot h0
      subst hs
      refine ⟨b, off, rfl, ?_, fun j u hu => ?_⟩
      · have := World.block_lt_of_cell? w _ h0
        simpa [Addr.add] using this
      · have hjl : j < len * size := by
          have := (List.getElem?_eq_some_iff.1 hu).1
          rw [List.length_flatten, show css.map List.length = List.replicate css.length size from List.eq_replicate_iff.2 ⟨by simp, fun b hb => by obtain ⟨c, hc, rfl⟩ := List.mem_map.1 hb; exact h3 c hc⟩] at this
          simpa [h1] using this
        have hq : j / size < len := Nat.div_lt_of_lt_mul (by rw [Nat.mul_comm]; exact hjl)
        have hr : j % size < size := Nat.mod_lt _ hsz
        have hj : j / size * size + j % size = j := by rw [Nat.mul_comm]; exact Nat.div_add_mod j size
        have hget := flatten_get css (j / size) (j % size) (by omega) h3 hr
        rw [hj, hu] at hget
        have hc := h5 (j / size) _ (List.getElem?_eq_getElem (by omega)) (j % size) hr
        rw [add_lit', add_lit', Nat.add_assoc, hj] at hc
        rw [hc, ← hget]
theorem sl_of_slr {α : Type} {enc : α → List Value} {size : Nat} {S : Nat → Prop} {A : Option Addr} {n c : Nat} {l : List α} (h : SlR w S size (fun cs a => cs = enc a) A n c l) : Sl enc size w S A n c l := by
  obtain ⟨h1, h2, h3, css, h4, h5, h6, h7⟩ := h
  refine ⟨h1, h2, h3, ?_⟩
  have e : css.flatten = l.flatMap enc := by
    rw [List.flatMap_def]
    congr 1
    apply List.ext_getElem?
    intro i
    rw [List.getElem?_map]
    rcases Nat.lt_or_ge i n with hi | hi
    · rw [List.getElem?_eq_getElem (show i < css.length by omega), List.getElem?_eq_getElem (show i < l.length by omega)]
      simp only [Option.map_some]
      rw [h7 i _ _ (List.getElem?_eq_getElem (by omega)) (List.getElem?_eq_getElem (by omega))]
    · rw [List.getElem?_eq_none (by omega), List.getElem?_eq_none (by omega)]
      rfl
  rw [← e]
  exact h6
end
end Go.Proofs.Ytcfpkmfppgodmaa
