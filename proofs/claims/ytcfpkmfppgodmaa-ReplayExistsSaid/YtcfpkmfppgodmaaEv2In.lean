/- Lists of lists of events that came in, with their reach. No program in sight. -/
import Derived.Test.YtcfpkmfppgodmaaProg
import Derived.Test.YtcfpkmfppgodmaaFlatIn
import Derived.Test.YtcfpkmfppgodmaaSched1
import Derived.Lib.SmallJoins
import Derived.SizedLaws
import Derived.WideShapes
set_option linter.unusedVariables false
set_option maxRecDepth 100000
namespace Go.Proofs.Ytcfpkmfppgodmaa
open Go.RowKit Go.Deep Go.Proofs Go.Joins

section
variable {H : Type} {enc' : TypeId × Value → H} {P : Program} {w : World} {base : Nat} {spare : Nat → Bool} {held : Bool}
theorem weightsAll_mem {e : TypeId} : ∀ {els : List (DataW H)} {k : Nat} {d : DataW H}, els[k]? = some d → ∀ n ∈ d.weights P e, n ∈ DataW.weightsAll P e els
  | d0 :: els, 0, d, hd, n, hn => by
    simp only [List.getElem?_cons_zero, Option.some.injEq] at hd
    subst hd
    simp only [DataW.weightsAll, List.mem_append]
    exact Or.inl hn
  | d0 :: els, k + 1, d, hd, n, hn => by
    simp only [List.getElem?_cons_succ] at hd
    simp only [DataW.weightsAll, List.mem_append]
    exact Or.inr (weightsAll_mem hd n hn)
  | [], _, _, hd, _, _ => by simp at hd
theorem one_sliceW {t e : TypeId} {fuel : Nat} {v : Value} {x : DataW H × List MemPlace} (ht : P.underlying t = some (.slice e)) (h : DataW.trod enc' P w base spare held fuel t [v] = some x) : ∃ A len cap, v = .slice A len cap := by
  rcases open_slice ht h with ⟨e0, _⟩ | ⟨a, len, cap, m, n, D, Pl, ecs, _⟩
  · simp at e0
    exact ⟨none, 0, 0, e0⟩
  · simp at ecs
    exact ⟨some a, len, cap, ecs⟩
theorem slr_of_trodW {α : Type} {size : Nat} {R : List Value → α → Prop} {t e : TypeId} {fuel : Nat} {A : Option Addr} {len cap : Nat} {x : DataW H × List MemPlace} (hsz : 0 < size) (ht : P.underlying t = some (.slice e)) (hC : P.cellsOf e = size)
    (hel : ∀ (n : Nat) (cs : List Value) (y : DataW H × List MemPlace), DataW.trod enc' P w base spare held n e cs = some y → (∀ m ∈ y.1.weights P e, m ≤ reachBytes) → cs.length = size ∧ ∃ a, R cs a)
    (h : DataW.trod enc' P w base spare held fuel t [.slice A len cap] = some x) (hw : ∀ m ∈ x.1.weights P t, m ≤ reachBytes) : ∃ l : List α, SlR w (· < w.heap.size) size R A len cap l ∧ len * P.bytesOf e ≤ reachBytes := by
  rcases open_slice ht h with ⟨e0, _⟩ | ⟨a, len', cap', m, n, D, Pl, ecs, _, hl, hm, hmm, hx, hi⟩
  · simp at e0
    obtain ⟨rfl, rfl, rfl⟩ := e0
    exact ⟨[], SlR.nil_, by omega⟩
  · simp at ecs
    obtain ⟨rfl, rfl, rfl⟩ := ecs
    rw [hC] at hi
    have hlm : len ≤ m := by rw [hmm]; split <;> omega
    have hwe : ∀ k, k < len → ∀ q ∈ (D k).weights P e, q ≤ reachBytes := fun k hk q hq => hw q (by
      rw [hx]
      simp only [DataW.weights, ht]
      refine List.mem_cons_of_mem _ (List.mem_append_left _ (weightsAll_mem (k := k) (d := D k) ?_ q hq))
      rw [List.getElem?_map, List.getElem?_range hk]
      rfl)
    have hwl : len * P.bytesOf e ≤ reachBytes := by
      have := hw ((len + (m - len)) * P.bytesOf e) (by
        rw [hx]
        simp [DataW.weights, ht])
      exact Nat.le_trans (Nat.mul_le_mul_right _ (Nat.le_add_right _ _)) this
    have key : ∀ k, k ≤ len → ∃ (css : List (List Value)) (l : List α), css.length = k ∧ l.length = k ∧ (∀ cs ∈ css, cs.length = size) ∧ (∀ (i : Nat) (cs : List Value) (b : α), css[i]? = some cs → l[i]? = some b → R cs b) ∧
        (∀ (i : Nat) (cs : List Value), css[i]? = some cs → ∀ j, j < size → w.cell? ((a.add (i * size)).add j) = cs[j]?) := by
      intro k
      induction k with
      | zero => intro _; exact ⟨[], [], rfl, rfl, by simp, by simp, by simp⟩
      | succ k ih =>
        intro hk
        obtain ⟨css, l, h1, h2, h3, h4, h5⟩ := ih (by omega)
        obtain ⟨cs, hcs, htr⟩ := hi k (by omega)
        obtain ⟨hcl, b, hb⟩ := hel _ _ _ htr (hwe k (by omega))
        obtain ⟨_, _, hat⟩ := World.cells?_some hcs
        refine ⟨css ++ [cs], l ++ [b], by simp [h1], by simp [h2], fun c hc => ?_, fun i c d e1 e2 => ?_, fun i c e1 j hj => ?_⟩
        · rcases List.mem_append.1 hc with h | h
          · exact h3 c h
          · simp at h; subst h; exact hcl
        · rcases Nat.lt_or_ge i k with h | h
          · rw [List.getElem?_append_left (by omega)] at e1 e2
            exact h4 i c d e1 e2
          · rw [List.getElem?_append_right (by omega)] at e1 e2
            rw [h1] at e1
            rw [h2] at e2
            rcases Nat.eq_or_lt_of_le h with h' | h'
            · subst h'
              simp at e1 e2
              subst e1 e2
              exact hb
            · rw [List.getElem?_eq_none (by simp; omega)] at e1
              cases e1
        · rcases Nat.lt_or_ge i k with h | h
          · rw [List.getElem?_append_left (by omega)] at e1
            exact h5 i c e1 j hj
          · rw [List.getElem?_append_right (by omega), h1] at e1
            rcases Nat.eq_or_lt_of_le h with h' | h'
            · subst h'
              simp at e1
              subst e1
              exact hat j hj
            · rw [List.getElem?_eq_none (by simp; omega)] at e1
              cases e1
    obtain ⟨css, l, h1, h2, h3, h4, h5⟩ := key len (Nat.le_refl _)
    refine ⟨l, ⟨h2.symm, hl, hm, css, h1, h3, ⟨?_, fun hn => ?_⟩, h4⟩, hwl⟩
    · rw [List.length_flatten, show css.map List.length = List.replicate css.length size from List.eq_replicate_iff.2 ⟨by simp, fun b hb => by obtain ⟨c, hc, rfl⟩ := List.mem_map.1 hb; exact h3 c hc⟩]
      simp [h1]
    · obtain ⟨b, off, spot⟩ := a
      have h0 : w.cell? ((Addr.add ⟨b, off, spot⟩ (0 * size)).add 0) = (css[0]'(by omega))[0]? := h5 0 _ (List.getElem?_eq_getElem (by omega)) 0 hsz
      rw [List.getElem?_eq_getElem (by rw [h3 _ (List.getElem_mem _)]; exact hsz)] at h0
      have hs : spot = none := by simpa [Addr.add] using World.cell?_spot h0
      subst hs
      refine ⟨b, off, rfl, ?_, fun j u hu => ?_⟩
      · have := World.block_lt_of_cell? w _ h0
        simpa [Addr.add] using this
      · have hjl : j < len * size := by
          have := (List.getElem?_eq_some_iff.1 hu).1
          rw [List.length_flatten, show css.map List.length = List.replicate css.length size from List.eq_replicate_iff.2 ⟨by simp, fun b hb => by obtain ⟨c, hc, rfl⟩ := List.mem_map.1 hb; exact h3 c hc⟩] at this
          simpa [h1] using this
        have hq : j / size < len := Nat.div_lt_of_lt_mul (by rw [Nat.mul_comm]; exact hjl)
        have hr : j % size < size := Nat.mod_lt _ hsz
        have hj : j / size * size + j % size = j := by rw [Nat.mul_comm]; exact Nat.div_add_mod j size
        have hget := flatten_get css (j / size) (j % size) (by omega) h3 hr
        rw [hj, hu] at hget
        have hc := h5 (j / size) _ (List.getElem?_eq_getElem (by omega)) (j % size) hr
        rw [add_lit', add_lit', Nat.add_assoc, hj] at hc
        rw [hc, ← hget]
end
section
variable {H : Type} {enc' : TypeId × Value → H} {w : World} {base : Nat} {spare : Nat → Bool} {held : Bool}
theorem flatW_Label : Flat enc' Try.prog w base spare held 48 2 :=
  flat_struct Try.underlying48 (by kernel_rfl) fun j hj => by
    match j, hj with
    | 0, _ => exact ⟨0, _, 1, rfl, by kernel_rfl, by decide, by decide, flat_i64 Try.underlying3⟩
    | 1, _ => exact ⟨1, _, 1, rfl, by kernel_rfl, by decide, by decide, flat_i64 Try.underlying3⟩
theorem flatW_Event : Flat enc' Try.prog w base spare held 50 7 :=
  flat_struct Try.underlying50 (by kernel_rfl) fun j hj => by
    match j, hj with
    | 0, _ => exact ⟨0, _, 1, rfl, by kernel_rfl, by decide, by decide, flat_i64 Try.underlying3⟩
    | 1, _ => exact ⟨1, _, 1, rfl, by kernel_rfl, by decide, by decide, flat_i64 Try.underlying3⟩
    | 2, _ => exact ⟨2, _, 1, rfl, by kernel_rfl, by decide, by decide, flat_i64 Try.underlying3⟩
    | 3, _ => exact ⟨3, _, 2, rfl, by kernel_rfl, by decide, by decide, flatW_Label⟩
    | 4, _ => exact ⟨3, _, 2, rfl, by kernel_rfl, by decide, by decide, flatW_Label⟩
    | 5, _ => exact ⟨4, _, 1, rfl, by kernel_rfl, by decide, by decide, flat_i64 Try.underlying3⟩
    | 6, _ => exact ⟨5, _, 1, rfl, by kernel_rfl, by decide, by decide, flat_i64 Try.underlying3⟩
theorem elW_Event (n : Nat) (cs : List Value) (y : DataW H × List MemPlace) (h : DataW.trod enc' Try.prog w base spare held n 50 cs = some y) : cs.length = 7 ∧ ∃ d : Ev, cs = encEv d := by
  obtain ⟨hl, hall⟩ := flatW_Event n cs y h
  refine ⟨hl, ?_⟩
  obtain ⟨a0, h0, _⟩ := hall 0 (by omega)
  obtain ⟨a1, h1, _⟩ := hall 1 (by omega)
  obtain ⟨a2, h2, _⟩ := hall 2 (by omega)
  obtain ⟨a3, h3, _⟩ := hall 3 (by omega)
  obtain ⟨a4, h4, _⟩ := hall 4 (by omega)
  obtain ⟨a5, h5, _⟩ := hall 5 (by omega)
  obtain ⟨a6, h6, _⟩ := hall 6 (by omega)
  match cs, hl with
  | [c0, c1, c2, c3, c4, c5, c6], _ =>
    simp at h0 h1 h2 h3 h4 h5 h6
    subst h0 h1 h2 h3 h4 h5 h6
    exact ⟨⟨a0, a1, a2, a3, a4, a5, a6⟩, rfl⟩
def EvsB (w : World) (cs : List Value) (l : List Ev) : Prop := EvsR w (· < w.heap.size) cs l ∧ l.length ≤ 17592186044416
theorem evs_inW (n : Nat) (cs : List Value) (y : DataW H × List MemPlace) (h : DataW.trod enc' Try.prog w base spare held n 46 cs = some y) (hw : ∀ m ∈ y.1.weights Try.prog 46, m ≤ reachBytes) : cs.length = 1 ∧ ∃ a, EvsB w cs a := by
  have hcl : cs.length = 1 := by
    rcases open_slice Try.underlying46 h with ⟨e0, _⟩ | ⟨a, len, cap, m, n, D, Pl, ecs, _⟩
    · rw [e0]; rfl
    · rw [ecs]; rfl
  match cs, hcl with
  | [v], _ =>
    obtain ⟨A, len, cap, rfl⟩ := one_sliceW Try.underlying46 h
    obtain ⟨l, hl, hb⟩ := slr_of_trodW (R := fun cs a => cs = encEv a) (by omega) Try.underlying46 (by kernel_rfl) (fun n cs y hy _ => elW_Event n cs y hy) h hw
    have hby : Try.prog.bytesOf 50 = 56 := by kernel_rfl
    rw [hby] at hb
    simp only [reachBytes] at hb
    have hs := sl_of_slr hl
    exact ⟨rfl, l, ⟨A, len, cap, rfl, hs⟩, by have := hs.1; omega⟩
theorem events2_in {r : Reach} {b0 : Nat} {v : Value} {d : DataW H} {p : List MemPlace} (hv : Value.okWide Try.prog w r b0 22 v) (h : DataW.Trod enc' Try.prog w base spare held 22 v d p) (hw : ∀ m ∈ d.weights Try.prog 22, m ≤ reachBytes) :
    ∃ (A : Option Addr) (n c : Nat) (l : List (List Ev)), v = .slice A n c ∧ SlR w (· < w.heap.size) 1 (EvsR w (· < w.heap.size)) A n c l ∧ n ≤ 17592186044416 ∧ ∀ x ∈ l, x.length ≤ 17592186044416 := by
  obtain ⟨A, n, c, rfl⟩ := WideShapes.okWide_slice Try.underlying22 hv
  obtain ⟨fuel, hf⟩ := h
  obtain ⟨l, hl, hb⟩ := slr_of_trodW (R := EvsB w) (by omega) Try.underlying22 (by kernel_rfl) evs_inW (by simpa [Value.cells] using hf) hw
  have hby : Try.prog.bytesOf 46 = 24 := by kernel_rfl
  rw [hby] at hb
  simp only [reachBytes] at hb
  refine ⟨A, n, c, l, rfl, hl.more (fun i hi => hi) (fun cs a hh => hh.1), by omega, fun x hx => ?_⟩
  obtain ⟨k, hk⟩ := List.mem_iff_getElem?.1 hx
  have hkl := (List.getElem?_eq_some_iff.1 hk).1
  obtain ⟨_, _, cs, a, -, -, ha, hr, -⟩ := hl.at_ (k := k) (by have := hl.1; omega)
  rw [hk] at ha
  injection ha with ha
  rw [ha]
  exact hr.2
end
end Go.Proofs.Ytcfpkmfppgodmaa
