/- The interpreter's machine: spend. -/
import Derived.Test.YthmepnpjagpcnaaProcS
import Derived.Test.YthmepnpjagpcnaaRef04
set_option linter.unusedVariables false
set_option linter.unusedSimpArgs false
set_option maxRecDepth 100000
namespace Go.Proofs.Ythmepnpjagpcnaa
open Go.RowKit Go.Proofs

def outOfFuel : List PanicEntry := [{ v := .iface 157 (.agg #[]), recovered := false }]
def machCells (C E : Value) (fuel : Nat) (v : EnvS) : Array Value := #[C, E, .int .i64 fuel, .int .i64 v.self, .int .i64 v.procs, .int .i64 v.frm, .int .i64 v.val]
theorem spend_out (w : World) (g : Nat) (C E : Value) (v : EnvS) (hb : Blk w g 154 (machCells C E 0 v)) : Calls Try.prog 72 #[.pointer (some ⟨g, 0, none⟩)] w fun e w' => e = .panicked outOfFuel ∧ w' = w := by
  have c2 : w.cell? ⟨g, 2, none⟩ = some (.int .i64 0) := by rw [hb.cell]; rfl
  clear hb
  go_enter Try.func72, Try.ntmps72
  go_wp2_with fail
  simp [bodyPost, outOfFuel]
theorem spend_ok (w : World) (g : Nat) (C E : Value) (f : Nat) (v : EnvS) (hf : f ≤ 1000) (hb : Blk w g 154 (machCells C E (f + 1) v)) : Calls Try.prog 72 #[.pointer (some ⟨g, 0, none⟩)] w fun e w' => e = .returned (.tuple #[]) ∧ Blk w' g 154 (machCells C E f v) ∧ Same (· ≠ g) w w' := by
  have c2 : w.cell? ⟨g, 2, none⟩ = some (.int .i64 ((f : Int) + 1)) := by rw [hb.cell]; simp [machCells]
  have d0 : ((f : Int) + 1 == 0) = false := by simp; omega
  have yw : IntKind.i64.wrap ((f : Int) + 1 - 1) = f := by rw [IntWalk.i64_in _ (by omega)]; omega
  have HB := Lib.hid hb
  clear hb
  go_enter Try.func72, Try.ntmps72
  go_wp2_with (refine wpList_store_one rfl _ (.tmp 15) _ rfl g 2 154 _ (.int .i64 f) rfl rfl HB.out (by simp [machCells]) (by kernel_rfl) rfl rfl ?_; intro w1 hb1 hs1)
  exact bodyPost_end (results_none Try.results72 _ _ _) rfl ⟨rfl, by simpa [machCells] using hb1, hs1⟩
end Go.Proofs.Ythmepnpjagpcnaa
