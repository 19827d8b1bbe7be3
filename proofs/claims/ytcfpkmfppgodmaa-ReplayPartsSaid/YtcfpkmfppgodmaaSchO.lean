/- Schedules: how long they are, and their answers opened. No program in sight. -/
import Derived.Test.YtcfpkmfppgodmaaSchP
import Derived.Test.YtcfpkmfppgodmaaWit
set_option linter.unusedVariables false
set_option linter.unusedSimpArgs false
namespace Go.Proofs.Ytcfpkmfppgodmaa
open Go.RowKit Go.Proofs

theorem sched_len {l : List (List Ev)} {to_ at_ : List Int} {out : List Chc} {r : Option (List Chc)} (h : Sched l to_ at_ out r) : Rng l at_ to_ → ∀ w, r = some w → w.length ≤ out.length + leftS at_ to_ := by
  induction h with
  | done h =>
    intro _ w hw
    injection hw with hw
    rw [hw]
    omega
  | stuck _ _ => intro _ w hw; cases hw
  | @step at_ out r q h hq hs ih =>
    intro hr w hw
    have hc := hq.2.1
    simp only [canS, Bool.and_eq_true, decide_eq_true_eq] at hc
    have h1 := ih (hr.inc hq.1 hc.1) w hw
    have h2 := leftS_inc at_ to_ q (by rw [hr.1]; exact hq.1) (by rw [hr.2.1]; exact hq.1) hc.1
    simp only [List.length_append, List.length_cons, List.length_nil] at h1
    omega
theorem schIs_len {l : List (List Ev)} {fr to_ : List Int} {w : List Chc} {K : Nat} (h : SchIs l fr to_ (some w)) (hK : ∀ x ∈ l, x.length ≤ K) : w.length ≤ l.length * K := by
  rcases h with ⟨hr, hs⟩ | ⟨-, h⟩
  · have h1 := sched_len hs hr w rfl
    have h2 := leftS_le (K := K) fr to_ (fun q hq => by
      have hq' : q < l.length := by rw [← hr.1]; exact hq
      have h3 := hr.2.2 q hq'
      have hx : (l.getD q []).length ≤ K := by
        simp only [List.getD, List.getElem?_eq_getElem hq', Option.getD_some]
        exact hK _ (List.getElem_mem hq')
      omega)
    rw [hr.1] at h2
    simp only [List.length_nil] at h1
    omega
  · cases h
def optS (b : Bool) (out : List Chc) : Option (List Chc) := if b = true then some out else none
theorem optS_inj {b c : Bool} {o p : List Chc} (h : optS b o = optS c p) (hb : b = false → o = []) (hc : c = false → p = []) : b = c ∧ o = p := by
  cases b <;> cases c
  · exact ⟨rfl, by rw [hb rfl, hc rfl]⟩
  · cases h
  · cases h
  · injection h with h
    exact ⟨rfl, h⟩
theorem optS_len {l : List (List Ev)} {fr to_ : List Int} {b : Bool} {o : List Chc} (h : SchIs l fr to_ (optS b o)) (hb : b = false → o = []) (hl : l.length ≤ 100) (hK : ∀ x ∈ l, x.length ≤ 100) : o.length ≤ 1000000 := by
  cases b
  · rw [hb rfl]; simp
  · have h1 := schIs_len (w := o) h hK
    have h2 := Nat.mul_le_mul_right 100 hl
    omega
theorem schPost_open {l : List (List Ev)} {fr to_ : List Int} {w w' : World} {e : Ending} (h : SchPost l fr to_ w e w') :
    ∃ (b : Bool) (out : List Chc) (A : Option Addr) (n c : Nat), e = .returned (.tuple #[.slice A n c, .bool b]) ∧ SchIs l fr to_ (optS b out) ∧ (b = false → out = []) ∧ Keep w w' ∧ Sl encCh 6 w' (fun i => w.heap.size ≤ i ∧ i < w'.heap.size) A n c out := by
  obtain ⟨r, hr, hk, hcs⟩ := h
  rcases hcs with ⟨rfl, rfl⟩ | ⟨out, A, n, c, rfl, rfl, hs⟩
  · exact ⟨false, [], none, 0, 0, rfl, hr, fun _ => rfl, hk, Sl.nil_⟩
  · exact ⟨true, out, A, n, c, rfl, hr, nofun, hk, hs⟩
theorem getD_mem_le {l : List (List Ev)} {K : Nat} (h : ∀ q, (l.getD q []).length ≤ K) : ∀ x ∈ l, x.length ≤ K := fun x hx => by
  obtain ⟨k, hk⟩ := List.mem_iff_getElem?.1 hx
  have := h k
  rwa [getD_of hk] at this
end Go.Proofs.Ytcfpkmfppgodmaa
