/- The interpreter's machine: handler. -/
import Derived.Test.YthmepnpjagpcnaaMach6
import Derived.Defers
import Derived.Recover
import Derived.Laws.Pointers
set_option linter.unusedVariables false
set_option linter.unusedSimpArgs false
set_option maxRecDepth 100000
namespace Go.Proofs.Ythmepnpjagpcnaa
open Go.RowKit Go.Proofs

theorem stmt_list_all : ∀ n, StmtSaid n ∧ ListSaid n
  | 0 => ⟨fun _ _ _ _ _ _ _ _ _ _ _ h => by obtain ⟨_, _, h, _⟩ := h; exact h.elim, mlist_any 0 (fun _ _ _ _ _ _ _ _ _ _ _ h => by obtain ⟨_, _, h, _⟩ := h; exact h.elim)⟩
  | n + 1 => by
    have h := stmt_list_all n
    have hs := statement_any n h.2
    exact ⟨hs, mlist_any (n + 1) hs⟩
theorem catch_fuel (p : Addr) (w : World) : CallsD Try.prog 69 #[.pointer (some p)] (.panicking outOfFuel) w fun e u' w' =>
      e = .returned (.tuple #[]) ∧ u' = .panicking [{ v := .iface 157 (.agg #[]), recovered := true }] ∧ Keep w w' := by
  refine callsD_of_wpS Try.func69 rfl fun c₀ cs hu => ?_
  apply wpS_seq
  apply wpS_region
  simp [wpOpsS, go_sem, recoverD, hu, outOfFuel, Try.ntmps69, Exit.thenS]
  have ht : (#[Value.pointer (some p)] ++ ((Array.replicate 16 undef).setIfInBounds 3 (Value.iface 157 (Value.agg #[]))).setIfInBounds 0 (Value.iface 157 (Value.agg #[]))) = #[Value.pointer (some p), (Value.iface 157 (Value.agg #[])), undef, undef, (Value.iface 157 (Value.agg #[])), undef, undef, undef, undef, undef, undef, undef, undef, undef, undef, undef, undef] := rfl
  rw [ht]
  refine wpS_of_wp ?_
  have hta : ∀ w, (Instr.typeAssert (Value.iface 157 (Value.agg #[])) 20 157 true).run Try.prog w = .ok (.tuple #[.agg #[], .bool true]) w := fun w => rfl
  go_wp2
  exact ⟨rfl, _, rfl, _, results_none Try.results69 _ _ _, rfl, rfl, Keep.new _ _⟩
theorem catch_idle (p : Addr) (w : World) : CallsD Try.prog 69 #[.pointer (some p)] .returning w fun e u' w' => e = .returned (.tuple #[]) ∧ u' = .returning ∧ w' = w := by
  refine callsD_of_wpS Try.func69 rfl fun c₀ cs hu => ?_
  apply wpS_seq
  apply wpS_region
  simp [wpOpsS, go_sem, recoverD, hu, Try.ntmps69, Exit.thenS]
  have ht : (#[Value.pointer (some p)] ++ ((Array.replicate 16 undef).setIfInBounds 3 Value.nilIface).setIfInBounds 0 Value.nilIface) = #[Value.pointer (some p), Value.nilIface, undef, undef, Value.nilIface, undef, undef, undef, undef, undef, undef, undef, undef, undef, undef, undef, undef] := rfl
  rw [ht]
  refine wpS_of_wp ?_
  go_wp2
  refine ⟨rfl, .returning, ?_, _, results_none Try.results69 _ _ _, rfl, rfl, rfl⟩
  rw [← hu]
def HandPost (base g : Nat) (v : EnvS) (l : List Stm) (m : Ms) (w : World) (e : Ending) (w' : World) : Prop :=
  ∃ r, Exec v (.list l) m r ∧ e = .returned (.tuple #[]) ∧ Mach w' base g v r.st ∧ Same (· < base) w w'
set_option maxHeartbeats 4000000 in
theorem handler_any (n : Nat) (w : World) (base g : Nat) (v : EnvS) (m : Ms) (S : Nat → Prop) (A : Option Addr) (len c : Nat) (l : List Stm) (hS : ∀ i, S i → i < base) (hbz : base ≤ w.heap.size) (hsl : SlR w S 18 (StmR w S n) A len c l) (hm : Mach w base g v m) (hf : m.fuel ≤ 400) (h8 : m.effs.length ≤ 8) :
    Calls Try.prog 68 #[.pointer (some ⟨g, 0, none⟩), .slice A len c] w (HandPost base g v l m w) := by
  have hmf : ∀ (fn : Fn) (first cap : Array Value) (w : World), (Instr.makeFunc fn first cap).run Try.prog w = .ok (.func fn first cap) w := fun _ _ _ _ => rfl
  have hk0 := Keep.new w (.cells #[.pointer (some ⟨g, 0, none⟩)] 152)
  have hs0 : Same (· < base) w (w.alloc (.cells #[.pointer (some ⟨g, 0, none⟩)] 152)) := hk0.mono (fun i hi => by omega)
  have hz0 := hk0.size
  have key := (stmt_list_all n).2 (w.alloc (.cells #[.pointer (some ⟨g, 0, none⟩)] 152)) base g v m S A len c l hS (by omega) (hsl.keep (hs0.mono hS) (StmR.keep (hs0.mono hS) _)) (hm.keep hk0) hf h8
  have KEY := Lib.hid key
  have HS0 := Lib.hid hs0
  clear key hs0
  clear hS hsl hm hf h8 hk0 hz0
  go_enter_defers Try.func68, Try.ntmps68
  go_wp2_with fail
  refine KEY.out.mono ?_
  rintro e w3 (⟨m3, hx3, rfl, hm3, hs3⟩ | ⟨m3, hx3, rfl, hm3, hs3⟩)
  · have hs3' := Same.trans HS0.out hs3 (fun _ h => h)
    have hz3 := hs3'.size
    have HX3 := Lib.hid hx3
    have HM3 := Lib.hid hm3
    have HS3' := Lib.hid hs3'
    clear hx3 hm3 hs3'
    clear hs3
    go_wp2_with fail
    refine leaves_cons (f := 69) (args := #[.pointer (some ⟨w.heap.size, 0, none⟩)]) (by simp) (by simp [go_sem]) ?_
    refine (catch_idle ⟨w.heap.size, 0, none⟩ _).mono ?_
    rintro e u' w'' ⟨rfl, rfl, rfl⟩
    simp [Leaves, settle, results, Try.results68, go_sem]
    exact ⟨_, HX3.out, rfl, HM3.out, HS3'.out⟩
  · have hs3' := Same.trans HS0.out hs3 (fun _ h => h)
    have hz3 := hs3'.size
    have HX3 := Lib.hid hx3
    have HM3 := Lib.hid hm3
    have HS3' := Lib.hid hs3'
    clear hx3 hm3 hs3'
    clear hs3
    go_wp2_with fail
    refine leaves_cons (f := 69) (args := #[.pointer (some ⟨w.heap.size, 0, none⟩)]) (by simp) (by simp [go_sem]) ?_
    refine (catch_fuel ⟨w.heap.size, 0, none⟩ _).mono ?_
    rintro e u' w'' ⟨rfl, rfl, hk⟩
    simp [Leaves, settle, results, Try.results68, go_sem]
    exact ⟨_, HX3.out, rfl, HM3.out.keep hk, Same.trans HS3'.out hk (fun i hi => by omega)⟩
end Go.Proofs.Ythmepnpjagpcnaa
