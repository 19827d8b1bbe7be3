/- The sanity check of chapter 4 returns true. -/
import Derived.Test.YtfleindknalckaaDoorVal
set_option linter.unusedVariables false
set_option linter.unusedSimpArgs false
namespace Go.Proofs.YtfleindknalckaaDoor
open Go.RowKit Go.Proofs

def TrueKeep (w : World) (e : Ending) (w' : World) : Prop := e = .returned (.bool true) ∧ Keep w w'
set_option maxHeartbeats 1000000 in
theorem awake04_any (w : World) : Calls Tryd.prog 6 #[] w (TrueKeep w) := by
  have a1 : applyS 13 (-7) 2 = -3 := by decide +kernel
  have a2 : applyS 14 (-7) 2 = -1 := by decide +kernel
  have A1 := Lib.hid a1
  have A2 := Lib.hid a2
  clear a1 a2
  go_enter Tryd.func6, Tryd.ntmps6
  go_wp2_with fail
  refine (apply_any 13 (-7) 2 _).mono ?_
  rintro e w1 ⟨rfl, hk⟩
  rw [A1.out]
  have HK := Lib.hid hk
  clear hk
  go_wp2_with fail
  refine (apply_any 14 (-7) 2 _).mono ?_
  rintro e w2 ⟨rfl, hk⟩
  rw [A2.out]
  have HK2 := Lib.hid (Keep.trans HK.out hk)
  clear hk
  go_wp2_with fail
  refine (Value_any 1 [] ⟨0, 0, 0, 0⟩ (.mk 1 5 _ 0 0 []) [.int .i64 1, .int .i64 5, .string _, .int .i64 0, .int .i64 0, .slice none 0 0] _ (fun _ => False) none 0 0 (fun _ h => h.elim) ⟨by unfold I64; omega, by unfold I64; omega, none, 0, 0, rfl, SlR.nil_⟩ Sl.nil_ (by omega)).mono ?_
  rintro e w3 ⟨rfl, hk⟩
  have hv : ∀ x, valS [] ⟨0, 0, 0, 0⟩ 1 (.mk 1 5 x 0 0 []) = 5 := fun _ => rfl
  rw [hv]
  have HK3 := Lib.hid (Keep.trans HK2.out hk)
  clear hk hv
  go_wp2_with fail
  go_ret
  exact ⟨rfl, HK3.out⟩
end Go.Proofs.YtfleindknalckaaDoor
