/- How often a choice stands in a run; the two parts of a run are all of it. No program in sight. -/
import Derived.Test.YtcfpkmfppgodmaaOrd
set_option linter.unusedVariables false
set_option linter.unusedSimpArgs false
namespace Go.Proofs.Ytcfpkmfppgodmaa
open Go.RowKit Go.Proofs

def sumR : Nat → (Nat → Nat) → Nat
  | 0, _ => 0
  | n + 1, f => sumR n f + f n
theorem sumR_same {f g : Nat → Nat} : ∀ (n : Nat), (∀ i, i < n → g i = f i) → sumR n g = sumR n f
  | 0, _ => rfl
  | n + 1, h => by
    simp only [sumR]
    rw [sumR_same n (fun i hi => h i (by omega)), h n (by omega)]
theorem sumR_up {f g : Nat → Nat} {q d : Nat} (hg : g q = f q + d) : ∀ (n : Nat), q < n → (∀ i, i < n → i ≠ q → g i = f i) → sumR n g = sumR n f + d
  | 0, h, _ => by omega
  | n + 1, h, ho => by
    simp only [sumR]
    by_cases e : q = n
    · subst e
      rw [sumR_same q (fun i hi => ho i (by omega) (by omega)), hg]
      omega
    · rw [sumR_up hg n (by omega) (fun i hi hn => ho i (by omega) hn), ho n (by omega) (fun h => e h.symm)]
      omega
instance : DecidableEq Chc := fun a b => decidable_of_iff (a.proc = b.proc ∧ a.kind = b.kind ∧ a.frm = b.frm ∧ a.idx = b.idx ∧ a.ord = b.ord ∧ a.val = b.val) (by
  cases a; cases b; simp)
/-- How often x stands in w. -/
def cntC (x : Chc) (w : List Chc) : Nat := w.countP (fun y => decide (y = x))
theorem cntC_nil (x : Chc) : cntC x [] = 0 := rfl
theorem cntC_cons (x y : Chc) (w : List Chc) : cntC x (y :: w) = cntC x w + if y = x then 1 else 0 := by
  unfold cntC
  rw [List.countP_cons]
  by_cases h : y = x <;> simp [h]
theorem cntC_app (x : Chc) (v w : List Chc) : cntC x (v ++ w) = cntC x v + cntC x w := by unfold cntC; rw [List.countP_append]
theorem cntC_le (x : Chc) (w : List Chc) : cntC x w ≤ w.length := List.countP_le_length
theorem cntC_snoc {x y : Chc} {w : List Chc} {k : Nat} (h : w[k]? = some y) : cntC x (w.take (k + 1)) = cntC x (w.take k) + if y = x then 1 else 0 := by
  rw [List.take_add_one, h, cntC_app]
  simp only [Option.toList_some, cntC_cons, cntC_nil]
  omega
/-- How often x stands in the choices of process q up to its index. -/
def headN (l : List (List Ev)) (at_ : List Int) (x : Chc) (q : Nat) : Nat := cntC x (((l.getD q []).take (at_.getD q 0).toNat).map (chS q))
def allN (l : List (List Ev)) (at_ : List Int) (x : Chc) : Nat := sumR l.length (headN l at_ x)
def allL (l : List (List Ev)) (at_ : List Int) : Nat := sumR l.length (fun q => (at_.getD q 0).toNat)
theorem headN_inc {l : List (List Ev)} {at_ : List Int} {q : Nat} (x : Chc) (hq : q < at_.length) (h0 : 0 ≤ at_.getD q 0) (hlt : at_.getD q 0 < (l.getD q []).length) : headN l (incS at_ q) x q = headN l at_ x q + if chS q (evAt l at_ q) = x then 1 else 0 := by
  obtain ⟨k, hk⟩ : ∃ k : Nat, at_.getD q 0 = k := ⟨(at_.getD q 0).toNat, by omega⟩
  have hkl : k < (l.getD q []).length := by omega
  have hev := List.getElem?_eq_getElem hkl
  have he : evAt l at_ q = (l.getD q [])[k] := by unfold evAt; rw [hk, Int.toNat_natCast]; exact getD_of hev
  unfold headN incS
  rw [getD_set_self hq, hk]
  have h1 : ((k : Int) + 1).toNat = k + 1 := by omega
  rw [h1, Int.toNat_natCast, List.map_take, List.map_take, cntC_snoc (y := chS q (evAt l at_ q)) (by rw [List.getElem?_map, hev, he]; rfl)]
theorem run_count {l : List (List Ev)} {at_ to_ : List Int} {w : List Chc} (x : Chc) (h : RunL l at_ w to_) : at_.length = l.length → allN l at_ x + cntC x w = allN l to_ x := by
  induction h with
  | nil => intro _; rw [cntC_nil]; omega
  | @cons at_ to_ w q hq h0 hlt hp h ih =>
    intro hal
    have := ih (by rw [incS_len]; exact hal)
    rw [← this, cntC_cons]
    have h2 : allN l (incS at_ q) x = allN l at_ x + if chS q (evAt l at_ q) = x then 1 else 0 := by
      unfold allN
      refine sumR_up (headN_inc x (by rw [hal]; exact hq) h0 hlt) _ hq (fun i hi hne => ?_)
      unfold headN incS
      rw [getD_set_other (fun h => hne h.symm)]
    rw [h2]
    omega
theorem run_len {l : List (List Ev)} {at_ to_ : List Int} {w : List Chc} (h : RunL l at_ w to_) : at_.length = l.length → allL l at_ + w.length = allL l to_ := by
  induction h with
  | nil => intro _; simp
  | @cons at_ to_ w q hq h0 hlt hp h ih =>
    intro hal
    have := ih (by rw [incS_len]; exact hal)
    rw [← this, List.length_cons]
    have h2 : allL l (incS at_ q) = allL l at_ + 1 := by
      unfold allL
      refine sumR_up ?_ _ hq (fun i hi hne => ?_)
      · show ((incS at_ q).getD q 0).toNat = (at_.getD q 0).toNat + 1
        unfold incS
        rw [getD_set_self (by rw [hal]; exact hq)]
        omega
      · show ((incS at_ q).getD i 0).toNat = (at_.getD i 0).toNat
        unfold incS
        rw [getD_set_other (fun h => hne h.symm)]
    rw [h2]
    omega
/-- A run in two parts and a run of all have the same choices. -/
theorem parts_count {l : List (List Ev)} {fr mid to_ : List Int} {a b w : List Chc} (ha : RunL l fr a mid) (hb : RunL l mid b to_) (hw : RunL l fr w to_) (hf : fr.length = l.length) (hm : mid.length = l.length) (x : Chc) : cntC x w = cntC x a + cntC x b := by
  have h1 := run_count x ha hf
  have h2 := run_count x hb hm
  have h3 := run_count x hw hf
  omega
theorem parts_len {l : List (List Ev)} {fr mid to_ : List Int} {a b w : List Chc} (ha : RunL l fr a mid) (hb : RunL l mid b to_) (hw : RunL l fr w to_) (hf : fr.length = l.length) (hm : mid.length = l.length) : w.length = a.length + b.length := by
  have h1 := run_len ha hf
  have h2 := run_len hb hm
  have h3 := run_len hw hf
  omega
end Go.Proofs.Ytcfpkmfppgodmaa
