/- Rows of cells of the call's own whose elements are changed in place. No program in sight. -/
import Derived.Test.YtcfpkmfppgodmaaBase
set_option linter.unusedVariables false
set_option linter.unusedSimpArgs false
namespace Go.Proofs.Ytcfpkmfppgodmaa
open Go.RowKit

/-- A row of cells whose first ones read as the list. -/
def Row {α : Type} (enc : α → List Value) (cur : Array Value) (l : List α) : Prop := ∀ (j : Nat) (u : Value), (l.flatMap enc)[j]? = some u → cur[j]? = some u
section
variable {α : Type} {enc : α → List Value} {size : Nat} {cur cur' : Array Value} {l : List α}
theorem Row.set_ (hs : ∀ a, (enc a).length = size) {k : Nat} {e' : α} (hk : k < l.length) (h : Row enc cur l) (hout : ∀ j, (j < k * size ∨ k * size + size ≤ j) → cur'[j]? = cur[j]?)
    (hin : ∀ r u, (enc e')[r]? = some u → cur'[k * size + r]? = some u) : Row enc cur' (l.set k e') := by
  intro j u hu
  have hj : j < (l.set k e').length * size := by
    have := (List.getElem?_eq_some_iff.1 hu).1
    rwa [flat_length hs] at this
  have hsz : 0 < size := by
    rcases Nat.eq_zero_or_pos size with h0 | h0
    · subst h0; omega
    · exact h0
  have hlen : (l.set k e').length = l.length := by simp
  have hi : j / size < l.length := by rw [hlen] at hj; exact Nat.div_lt_of_lt_mul (by rw [Nat.mul_comm]; exact hj)
  have hr : j % size < size := Nat.mod_lt _ hsz
  have hj' : j / size * size + j % size = j := Nat.div_add_mod' j size
  generalize j / size = i at hi hj'
  generalize j % size = r at hr hj'
  subst hj'
  rw [flat_get hs (l.set k e') i r (by rw [hlen]; exact hi) hr] at hu
  by_cases hik : k = i
  · subst hik
    rw [List.getElem_set_self] at hu
    exact hin r u hu
  · rw [List.getElem_set_ne hik] at hu
    have h1 := h (i * size + r) u (by rw [flat_get hs l i r hi hr]; exact hu)
    rw [hout _ ?_]
    · exact h1
    · rcases Nat.lt_or_ge i k with hlt | hge
      · left
        have := Nat.mul_le_mul_right size (show i + 1 ≤ k from hlt)
        rw [Nat.add_mul] at this
        omega
      · right
        have := Nat.mul_le_mul_right size (show k + 1 ≤ i by omega)
        rw [Nat.add_mul] at this
        omega
theorem row_take {m : Nat} (h : Row enc cur l) (hm : (l.flatMap enc).length = m) (hc : m ≤ cur.size) : cur.toList.take m = l.flatMap enc := by
  apply List.ext_getElem?
  intro j
  rw [List.getElem?_take]
  split
  · rename_i hj
    have hj2 : j < (l.flatMap enc).length := by omega
    rw [List.getElem?_eq_getElem hj2]
    have := h j _ (List.getElem?_eq_getElem hj2)
    simpa using this
  · rename_i hj
    rw [List.getElem?_eq_none (by omega)]
theorem row_of_take {m : Nat} (h : cur.toList.take m = l.flatMap enc) : Row enc cur l := by
  intro j u hu
  rw [← h, List.getElem?_take] at hu
  split at hu
  · simpa using hu
  · cases hu
theorem own_open {w : World} {base n c : Nat} {e : TypeId} {A : Option Addr} {xs : List Value} (h : w.ownsRow base e size (.slice A n c) n xs) (hn : 0 < n) :
    ∃ g cur, A = some ⟨g, 0, none⟩ ∧ base ≤ g ∧ Blk w g e cur ∧ cur.size = c * size ∧ n ≤ c ∧ c ≤ maxLen ∧ cur.toList.take (n * size) = xs := by
  rcases h.2 with ⟨h', h0⟩ | ⟨g, cap, cur, h', hb, hg, hnc, hcm, hcs, htake⟩
  · omega
  · simp only [Value.slice.injEq, true_and] at h'
    obtain ⟨rfl, rfl⟩ := h'
    exact ⟨g, cur, rfl, hb, hg, hcs, hnc, hcm, htake⟩
theorem own_close {w : World} {base g n c : Nat} {e : TypeId} (hs : ∀ a, (enc a).length = size) (hb : base ≤ g) (h : Blk w g e cur) (hc : cur.size = c * size) (hnc : n ≤ c) (hm : c ≤ maxLen) (hr : Row enc cur l) (hl : l.length = n) :
    w.ownsRow base e size (.slice (some ⟨g, 0, none⟩) n c) n (l.flatMap enc) := by
  have hlen : (l.flatMap enc).length = n * size := by rw [flat_length hs, hl]
  exact ⟨hlen, .inr ⟨g, c, cur, rfl, hb, h, hnc, hm, hc, row_take hr hlen (by rw [hc]; exact Nat.mul_le_mul_right _ hnc)⟩⟩
/-- One cell of one element changed. -/
theorem row_put {w' : World} {base g n c k o : Nat} {ty : TypeId} {e e' : α} {v : Value} (hs : ∀ a, (enc a).length = size) (hb : base ≤ g) (hb' : Blk w' g ty (cur.setIfInBounds (k * size + o) v)) (hcs : cur.size = c * size) (hnc : n ≤ c) (hm : c ≤ maxLen)
    (htk : cur.toList.take (n * size) = l.flatMap enc) (hl : l.length = n) (he : l[k]? = some e) (ho : o < size) (henc : enc e' = (enc e).set o v) : w'.ownsRow base ty size (.slice (some ⟨g, 0, none⟩) n c) n ((l.set k e').flatMap enc) := by
  have hk : k < l.length := (List.getElem?_eq_some_iff.1 he).1
  have hrow := row_of_take htk
  have hkc : k * size + size ≤ cur.size := by
    have h1 := Nat.mul_le_mul_right size (show k + 1 ≤ c by omega)
    rw [Nat.add_mul] at h1
    omega
  refine own_close hs hb hb' (by simpa using hcs) hnc hm (Row.set_ hs hk hrow (fun j hj => ?_) (fun r u hu => ?_)) (by simpa using hl)
  · rw [Array.getElem?_setIfInBounds, if_neg (by omega)]
  · have hr : r < size := by rw [← hs e']; exact (List.getElem?_eq_some_iff.1 hu).1
    rw [henc, List.getElem?_set] at hu
    rw [Array.getElem?_setIfInBounds]
    by_cases hor : o = r
    · subst hor
      rw [if_pos rfl, if_pos (by rw [hs]; exact ho)] at hu
      rw [if_pos rfl, if_pos (by omega)]
      exact hu
    · rw [if_neg hor] at hu
      rw [if_neg (by omega)]
      refine hrow _ u ?_
      rw [flat_get hs l k r hk hr]
      have : l[k] = e := by have := List.getElem?_eq_getElem hk; rw [he] at this; injection this with this; exact this.symm
      rw [this]
      exact hu
end
end Go.Proofs.Ytcfpkmfppgodmaa
