/- Contracts: eval.Apply, the reference's Apply, the maker's Mod: each computes applyS, modS. -/
import Derived.Test.YthmepnpjagpcnaaProg
import Derived.Test.YthmepnpjagpcnaaBase
import Derived.Laws.EntriesVeiled
set_option linter.unusedVariables false
set_option maxRecDepth 100000
set_option linter.unusedSimpArgs false
namespace Go.Proofs.Ythmepnpjagpcnaa
open Go.RowKit Go.Proofs

def truthS (b : Bool) : Int := if b then 1 else 0
def quoS (a b : Int) : Int := if b = 0 then 0 else wrap64 (a.tdiv b)
def remS (a b : Int) : Int := if b = 0 then 0 else a.tmod b
def applyS (op a b : Int) : Int :=
  if op = 8 then wrap64 (-a) else if op = 9 then truthS (a == 0) else if op = 10 then wrap64 (a + b) else if op = 11 then wrap64 (a - b) else if op = 12 then wrap64 (a * b)
  else if op = 13 then quoS a b else if op = 14 then remS a b
  else if op = 15 then truthS (decide (a < b)) else if op = 16 then truthS (decide (a ≤ b)) else if op = 17 then truthS (decide (b < a)) else if op = 18 then truthS (decide (b ≤ a))
  else if op = 19 then truthS (a == b) else if op = 20 then truthS (a != b) else if op = 21 then truthS (a != 0 && b != 0) else if op = 22 then truthS (a != 0 || b != 0) else 0

def ApplyPost (v : Int) (w : World) (e : Ending) (w' : World) : Prop := e = .returned (.int .i64 v) ∧ Keep w w'

def opsV : List Value := [.nilFunc, .nilFunc, .nilFunc, .nilFunc, .nilFunc, .nilFunc, .nilFunc, .nilFunc, .func (.func 82) #[] #[], .func (.func 83) #[] #[], .func (.func 85) #[] #[], .func (.func 86) #[] #[], .func (.func 87) #[] #[], .func (.func 88) #[] #[], .func (.func 89) #[] #[], .func (.func 90) #[] #[], .func (.func 91) #[] #[], .func (.func 92) #[] #[], .func (.func 93) #[] #[], .func (.func 94) #[] #[], .func (.func 95) #[] #[], .func (.func 96) #[] #[], .func (.func 97) #[] #[]]
theorem operators_any (w : World) : Calls Try.prog 81 #[] w fun e w' => e = .returned (.agg opsV.toArray) ∧ Keep w w' := by
  go_enter Try.func81, Try.ntmps81
  go_wp2_with (refine wpList_store_blk rfl _ (.tmp 0) (.tmp 1) rfl w.heap.size 0 170 _ opsV rfl rfl (Blk.new w _ _) (by simp [opsV]) (by kernel_rfl) rfl ?_; intro w4 hb4 hs4; have HB4 := Lib.hid hb4; have HS4 := Lib.hid hs4; clear hb4 hs4)
  refine bodyPost_ret (v := .agg opsV.toArray) ?_ rfl ⟨rfl, Keep.write (Keep.new _ _) HS4.out (Nat.le_refl _)⟩
  exact results_cell1 Try.results81 _ _ _ ⟨w.heap.size, 0, none⟩ _ rfl (loadVar_blk opsV _ HB4.out (fun j v hv => by simpa [splice, opsV] using hv) Try.underlying170 rfl (by kernel_rfl))

theorem truth_any (x : Bool) (w : World) : Calls Try.prog 84 #[.bool x] w fun e w' => e = .returned (.int .i64 (truthS x)) ∧ w = w' := by
  cases x
  · go_enter Try.func84, Try.ntmps84
    go_wp2_with fail
    go_ret
    exact ⟨rfl, rfl⟩
  · go_enter Try.func84, Try.ntmps84
    go_wp2_with fail
    go_ret
    exact ⟨rfl, rfl⟩
def IntIs (v : Int) (w : World) (e : Ending) (w' : World) : Prop := e = .returned (.int .i64 v) ∧ w = w'
theorem op8_any (a b : Int) (w : World) : Calls Try.prog 82 #[.int .i64 a, .int .i64 b] w (IntIs (wrap64 (-a)) w) := by
  go_enter Try.func82, Try.ntmps82
  go_wp2_with fail
  go_ret
  exact ⟨rfl, rfl⟩
theorem op9_any (a b : Int) (w : World) : Calls Try.prog 83 #[.int .i64 a, .int .i64 b] w (IntIs (truthS (a == 0)) w) := by
  go_enter Try.func83, Try.ntmps83
  go_wp2_with (go_at_call 84; refine (truth_any _ _).mono ?_; rintro e w' ⟨rfl, rfl⟩)
  go_ret
  exact ⟨rfl, rfl⟩
theorem op10_any (a b : Int) (w : World) : Calls Try.prog 85 #[.int .i64 a, .int .i64 b] w (IntIs (wrap64 (a + b)) w) := by
  go_enter Try.func85, Try.ntmps85
  go_wp2_with fail
  go_ret
  exact ⟨rfl, rfl⟩
theorem op11_any (a b : Int) (w : World) : Calls Try.prog 86 #[.int .i64 a, .int .i64 b] w (IntIs (wrap64 (a - b)) w) := by
  go_enter Try.func86, Try.ntmps86
  go_wp2_with fail
  go_ret
  exact ⟨rfl, rfl⟩
theorem op12_any (a b : Int) (w : World) : Calls Try.prog 87 #[.int .i64 a, .int .i64 b] w (IntIs (wrap64 (a * b)) w) := by
  go_enter Try.func87, Try.ntmps87
  go_wp2_with fail
  go_ret
  exact ⟨rfl, rfl⟩
theorem op13_any (a b : Int) (w : World) : Calls Try.prog 88 #[.int .i64 a, .int .i64 b] w (IntIs (quoS a b) w) := by
  unfold quoS
  by_cases hb : b = 0
  · subst hb
    go_enter Try.func88, Try.ntmps88
    go_wp2_with fail
    go_ret
    exact ⟨rfl, rfl⟩
  · have hb' : (b == 0) = false := by simpa using hb
    rw [if_neg hb]
    go_enter Try.func88, Try.ntmps88
    go_wp2_with fail
    go_ret
    exact ⟨rfl, rfl⟩
theorem op14_any (a b : Int) (w : World) : Calls Try.prog 89 #[.int .i64 a, .int .i64 b] w (IntIs (remS a b) w) := by
  unfold remS
  by_cases hb : b = 0
  · subst hb
    go_enter Try.func89, Try.ntmps89
    go_wp2_with fail
    go_ret
    exact ⟨rfl, rfl⟩
  · have hb' : (b == 0) = false := by simpa using hb
    rw [if_neg hb]
    go_enter Try.func89, Try.ntmps89
    go_wp2_with fail
    go_ret
    exact ⟨rfl, rfl⟩
theorem op15_any (a b : Int) (w : World) : Calls Try.prog 90 #[.int .i64 a, .int .i64 b] w (IntIs (truthS (decide (a < b))) w) := by
  go_enter Try.func90, Try.ntmps90
  go_wp2_with (go_at_call 84; refine (truth_any _ _).mono ?_; rintro e w' ⟨rfl, rfl⟩)
  go_ret
  exact ⟨rfl, rfl⟩
theorem op16_any (a b : Int) (w : World) : Calls Try.prog 91 #[.int .i64 a, .int .i64 b] w (IntIs (truthS (decide (a ≤ b))) w) := by
  go_enter Try.func91, Try.ntmps91
  go_wp2_with (go_at_call 84; refine (truth_any _ _).mono ?_; rintro e w' ⟨rfl, rfl⟩)
  go_ret
  exact ⟨rfl, rfl⟩
theorem op17_any (a b : Int) (w : World) : Calls Try.prog 92 #[.int .i64 a, .int .i64 b] w (IntIs (truthS (decide (b < a))) w) := by
  go_enter Try.func92, Try.ntmps92
  go_wp2_with (go_at_call 84; refine (truth_any _ _).mono ?_; rintro e w' ⟨rfl, rfl⟩)
  go_ret
  exact ⟨rfl, rfl⟩
theorem op18_any (a b : Int) (w : World) : Calls Try.prog 93 #[.int .i64 a, .int .i64 b] w (IntIs (truthS (decide (b ≤ a))) w) := by
  go_enter Try.func93, Try.ntmps93
  go_wp2_with (go_at_call 84; refine (truth_any _ _).mono ?_; rintro e w' ⟨rfl, rfl⟩)
  go_ret
  exact ⟨rfl, rfl⟩
theorem op19_any (a b : Int) (w : World) : Calls Try.prog 94 #[.int .i64 a, .int .i64 b] w (IntIs (truthS (a == b)) w) := by
  go_enter Try.func94, Try.ntmps94
  go_wp2_with (go_at_call 84; refine (truth_any _ _).mono ?_; rintro e w' ⟨rfl, rfl⟩)
  go_ret
  exact ⟨rfl, rfl⟩
theorem op20_any (a b : Int) (w : World) : Calls Try.prog 95 #[.int .i64 a, .int .i64 b] w (IntIs (truthS (a != b)) w) := by
  go_enter Try.func95, Try.ntmps95
  go_wp2_with (go_at_call 84; refine (truth_any _ _).mono ?_; rintro e w' ⟨rfl, rfl⟩)
  go_ret
  exact ⟨rfl, rfl⟩
theorem op21_any (a b : Int) (w : World) : Calls Try.prog 96 #[.int .i64 a, .int .i64 b] w (IntIs (truthS (a != 0 && b != 0)) w) := by
  cases h1 : (a != 0)
  · go_enter Try.func96, Try.ntmps96
    go_wp2_with (go_at_call 84; refine (truth_any _ _).mono ?_; rintro e w' ⟨rfl, rfl⟩)
    go_ret
    exact ⟨rfl, rfl⟩
  · go_enter Try.func96, Try.ntmps96
    go_wp2_with (go_at_call 84; refine (truth_any _ _).mono ?_; rintro e w' ⟨rfl, rfl⟩)
    go_ret
    exact ⟨rfl, rfl⟩
theorem op22_any (a b : Int) (w : World) : Calls Try.prog 97 #[.int .i64 a, .int .i64 b] w (IntIs (truthS (a != 0 || b != 0)) w) := by
  cases h1 : (a != 0)
  · go_enter Try.func97, Try.ntmps97
    go_wp2_with (go_at_call 84; refine (truth_any _ _).mono ?_; rintro e w' ⟨rfl, rfl⟩)
    go_ret
    exact ⟨rfl, rfl⟩
  · go_enter Try.func97, Try.ntmps97
    go_wp2_with (go_at_call 84; refine (truth_any _ _).mono ?_; rintro e w' ⟨rfl, rfl⟩)
    go_ret
    exact ⟨rfl, rfl⟩

set_option maxHeartbeats 2000000 in
theorem apply_any (op a b : Int) (w : World) : Calls Try.prog 80 #[.int .i64 op, .int .i64 a, .int .i64 b] w (ApplyPost (applyS op a b) w) := by
  by_cases h1 : op < 8
  · have hs : applyS op a b = 0 := by unfold applyS; repeat rw [if_neg (by omega)]
    rw [hs]
    clear hs
    go_enter Try.func80, Try.ntmps80
    go_wp2_with fail
    go_ret
    exact ⟨rfl, Same.refl _ _⟩
  by_cases h2 : 22 < op
  · have hs : applyS op a b = 0 := by unfold applyS; repeat rw [if_neg (by omega)]
    rw [hs]
    clear hs
    go_enter Try.func80, Try.ntmps80
    go_wp2_with fail
    go_ret
    exact ⟨rfl, Same.refl _ _⟩
  have hc : op = 8 ∨ op = 9 ∨ op = 10 ∨ op = 11 ∨ op = 12 ∨ op = 13 ∨ op = 14 ∨ op = 15 ∨ op = 16 ∨ op = 17 ∨ op = 18 ∨ op = 19 ∨ op = 20 ∨ op = 21 ∨ op = 22 := by omega
  rcases hc with rfl | rfl | rfl | rfl | rfl | rfl | rfl | rfl | rfl | rfl | rfl | rfl | rfl | rfl | rfl
  · as_aux_lemma =>
    have hs : applyS 8 a b = (wrap64 (-a)) := rfl
    rw [hs]
    clear hs h1 h2
    have ix : ∀ w, (Instr.index 170 (.agg opsV.toArray) (.int .i64 8)).run Try.prog w = .ok (.func (.func 82) #[] #[]) w := fun _ => by kernel_rfl
    go_enter Try.func80, Try.ntmps80
    go_wp2_with (first | (go_at_call 81; refine (operators_any _).mono ?_; rintro e w1 ⟨rfl, hk⟩; have HK := Lib.hid hk; clear hk) | (go_at_call 82; refine (op8_any _ _ _).mono ?_; rintro e w2 ⟨rfl, rfl⟩))
    go_ret
    exact ⟨rfl, HK.out⟩
  · as_aux_lemma =>
    have hs : applyS 9 a b = (truthS (a == 0)) := rfl
    rw [hs]
    clear hs h1 h2
    have ix : ∀ w, (Instr.index 170 (.agg opsV.toArray) (.int .i64 9)).run Try.prog w = .ok (.func (.func 83) #[] #[]) w := fun _ => by kernel_rfl
    go_enter Try.func80, Try.ntmps80
    go_wp2_with (first | (go_at_call 81; refine (operators_any _).mono ?_; rintro e w1 ⟨rfl, hk⟩; have HK := Lib.hid hk; clear hk) | (go_at_call 83; refine (op9_any _ _ _).mono ?_; rintro e w2 ⟨rfl, rfl⟩))
    go_ret
    exact ⟨rfl, HK.out⟩
  · as_aux_lemma =>
    have hs : applyS 10 a b = (wrap64 (a + b)) := rfl
    rw [hs]
    clear hs h1 h2
    have ix : ∀ w, (Instr.index 170 (.agg opsV.toArray) (.int .i64 10)).run Try.prog w = .ok (.func (.func 85) #[] #[]) w := fun _ => by kernel_rfl
    go_enter Try.func80, Try.ntmps80
    go_wp2_with (first | (go_at_call 81; refine (operators_any _).mono ?_; rintro e w1 ⟨rfl, hk⟩; have HK := Lib.hid hk; clear hk) | (go_at_call 85; refine (op10_any _ _ _).mono ?_; rintro e w2 ⟨rfl, rfl⟩))
    go_ret
    exact ⟨rfl, HK.out⟩
  · as_aux_lemma =>
    have hs : applyS 11 a b = (wrap64 (a - b)) := rfl
    rw [hs]
    clear hs h1 h2
    have ix : ∀ w, (Instr.index 170 (.agg opsV.toArray) (.int .i64 11)).run Try.prog w = .ok (.func (.func 86) #[] #[]) w := fun _ => by kernel_rfl
    go_enter Try.func80, Try.ntmps80
    go_wp2_with (first | (go_at_call 81; refine (operators_any _).mono ?_; rintro e w1 ⟨rfl, hk⟩; have HK := Lib.hid hk; clear hk) | (go_at_call 86; refine (op11_any _ _ _).mono ?_; rintro e w2 ⟨rfl, rfl⟩))
    go_ret
    exact ⟨rfl, HK.out⟩
  · as_aux_lemma =>
    have hs : applyS 12 a b = (wrap64 (a * b)) := rfl
    rw [hs]
    clear hs h1 h2
    have ix : ∀ w, (Instr.index 170 (.agg opsV.toArray) (.int .i64 12)).run Try.prog w = .ok (.func (.func 87) #[] #[]) w := fun _ => by kernel_rfl
    go_enter Try.func80, Try.ntmps80
    go_wp2_with (first | (go_at_call 81; refine (operators_any _).mono ?_; rintro e w1 ⟨rfl, hk⟩; have HK := Lib.hid hk; clear hk) | (go_at_call 87; refine (op12_any _ _ _).mono ?_; rintro e w2 ⟨rfl, rfl⟩))
    go_ret
    exact ⟨rfl, HK.out⟩
  · as_aux_lemma =>
    have hs : applyS 13 a b = quoS a b := rfl
    rw [hs]
    clear hs h1 h2
    have ix : ∀ w, (Instr.index 170 (.agg opsV.toArray) (.int .i64 13)).run Try.prog w = .ok (.func (.func 88) #[] #[]) w := fun _ => by kernel_rfl
    go_enter Try.func80, Try.ntmps80
    go_wp2_with (first | (go_at_call 81; refine (operators_any _).mono ?_; rintro e w1 ⟨rfl, hk⟩; have HK := Lib.hid hk; clear hk) | (go_at_call 88; refine (op13_any _ _ _).mono ?_; rintro e w2 ⟨rfl, rfl⟩))
    go_ret
    exact ⟨rfl, HK.out⟩
  · as_aux_lemma =>
    have hs : applyS 14 a b = remS a b := rfl
    rw [hs]
    clear hs h1 h2
    have ix : ∀ w, (Instr.index 170 (.agg opsV.toArray) (.int .i64 14)).run Try.prog w = .ok (.func (.func 89) #[] #[]) w := fun _ => by kernel_rfl
    go_enter Try.func80, Try.ntmps80
    go_wp2_with (first | (go_at_call 81; refine (operators_any _).mono ?_; rintro e w1 ⟨rfl, hk⟩; have HK := Lib.hid hk; clear hk) | (go_at_call 89; refine (op14_any _ _ _).mono ?_; rintro e w2 ⟨rfl, rfl⟩))
    go_ret
    exact ⟨rfl, HK.out⟩
  · as_aux_lemma =>
    have hs : applyS 15 a b = (truthS (decide (a < b))) := rfl
    rw [hs]
    clear hs h1 h2
    have ix : ∀ w, (Instr.index 170 (.agg opsV.toArray) (.int .i64 15)).run Try.prog w = .ok (.func (.func 90) #[] #[]) w := fun _ => by kernel_rfl
    go_enter Try.func80, Try.ntmps80
    go_wp2_with (first | (go_at_call 81; refine (operators_any _).mono ?_; rintro e w1 ⟨rfl, hk⟩; have HK := Lib.hid hk; clear hk) | (go_at_call 90; refine (op15_any _ _ _).mono ?_; rintro e w2 ⟨rfl, rfl⟩))
    go_ret
    exact ⟨rfl, HK.out⟩
  · as_aux_lemma =>
    have hs : applyS 16 a b = (truthS (decide (a ≤ b))) := rfl
    rw [hs]
    clear hs h1 h2
    have ix : ∀ w, (Instr.index 170 (.agg opsV.toArray) (.int .i64 16)).run Try.prog w = .ok (.func (.func 91) #[] #[]) w := fun _ => by kernel_rfl
    go_enter Try.func80, Try.ntmps80
    go_wp2_with (first | (go_at_call 81; refine (operators_any _).mono ?_; rintro e w1 ⟨rfl, hk⟩; have HK := Lib.hid hk; clear hk) | (go_at_call 91; refine (op16_any _ _ _).mono ?_; rintro e w2 ⟨rfl, rfl⟩))
    go_ret
    exact ⟨rfl, HK.out⟩
  · as_aux_lemma =>
    have hs : applyS 17 a b = (truthS (decide (b < a))) := rfl
    rw [hs]
    clear hs h1 h2
    have ix : ∀ w, (Instr.index 170 (.agg opsV.toArray) (.int .i64 17)).run Try.prog w = .ok (.func (.func 92) #[] #[]) w := fun _ => by kernel_rfl
    go_enter Try.func80, Try.ntmps80
    go_wp2_with (first | (go_at_call 81; refine (operators_any _).mono ?_; rintro e w1 ⟨rfl, hk⟩; have HK := Lib.hid hk; clear hk) | (go_at_call 92; refine (op17_any _ _ _).mono ?_; rintro e w2 ⟨rfl, rfl⟩))
    go_ret
    exact ⟨rfl, HK.out⟩
  · as_aux_lemma =>
    have hs : applyS 18 a b = (truthS (decide (b ≤ a))) := rfl
    rw [hs]
    clear hs h1 h2
    have ix : ∀ w, (Instr.index 170 (.agg opsV.toArray) (.int .i64 18)).run Try.prog w = .ok (.func (.func 93) #[] #[]) w := fun _ => by kernel_rfl
    go_enter Try.func80, Try.ntmps80
    go_wp2_with (first | (go_at_call 81; refine (operators_any _).mono ?_; rintro e w1 ⟨rfl, hk⟩; have HK := Lib.hid hk; clear hk) | (go_at_call 93; refine (op18_any _ _ _).mono ?_; rintro e w2 ⟨rfl, rfl⟩))
    go_ret
    exact ⟨rfl, HK.out⟩
  · as_aux_lemma =>
    have hs : applyS 19 a b = (truthS (a == b)) := rfl
    rw [hs]
    clear hs h1 h2
    have ix : ∀ w, (Instr.index 170 (.agg opsV.toArray) (.int .i64 19)).run Try.prog w = .ok (.func (.func 94) #[] #[]) w := fun _ => by kernel_rfl
    go_enter Try.func80, Try.ntmps80
    go_wp2_with (first | (go_at_call 81; refine (operators_any _).mono ?_; rintro e w1 ⟨rfl, hk⟩; have HK := Lib.hid hk; clear hk) | (go_at_call 94; refine (op19_any _ _ _).mono ?_; rintro e w2 ⟨rfl, rfl⟩))
    go_ret
    exact ⟨rfl, HK.out⟩
  · as_aux_lemma =>
    have hs : applyS 20 a b = (truthS (a != b)) := rfl
    rw [hs]
    clear hs h1 h2
    have ix : ∀ w, (Instr.index 170 (.agg opsV.toArray) (.int .i64 20)).run Try.prog w = .ok (.func (.func 95) #[] #[]) w := fun _ => by kernel_rfl
    go_enter Try.func80, Try.ntmps80
    go_wp2_with (first | (go_at_call 81; refine (operators_any _).mono ?_; rintro e w1 ⟨rfl, hk⟩; have HK := Lib.hid hk; clear hk) | (go_at_call 95; refine (op20_any _ _ _).mono ?_; rintro e w2 ⟨rfl, rfl⟩))
    go_ret
    exact ⟨rfl, HK.out⟩
  · as_aux_lemma =>
    have hs : applyS 21 a b = (truthS (a != 0 && b != 0)) := rfl
    rw [hs]
    clear hs h1 h2
    have ix : ∀ w, (Instr.index 170 (.agg opsV.toArray) (.int .i64 21)).run Try.prog w = .ok (.func (.func 96) #[] #[]) w := fun _ => by kernel_rfl
    go_enter Try.func80, Try.ntmps80
    go_wp2_with (first | (go_at_call 81; refine (operators_any _).mono ?_; rintro e w1 ⟨rfl, hk⟩; have HK := Lib.hid hk; clear hk) | (go_at_call 96; refine (op21_any _ _ _).mono ?_; rintro e w2 ⟨rfl, rfl⟩))
    go_ret
    exact ⟨rfl, HK.out⟩
  · as_aux_lemma =>
    have hs : applyS 22 a b = (truthS (a != 0 || b != 0)) := rfl
    rw [hs]
    clear hs h1 h2
    have ix : ∀ w, (Instr.index 170 (.agg opsV.toArray) (.int .i64 22)).run Try.prog w = .ok (.func (.func 97) #[] #[]) w := fun _ => by kernel_rfl
    go_enter Try.func80, Try.ntmps80
    go_wp2_with (first | (go_at_call 81; refine (operators_any _).mono ?_; rintro e w1 ⟨rfl, hk⟩; have HK := Lib.hid hk; clear hk) | (go_at_call 97; refine (op22_any _ _ _).mono ?_; rintro e w2 ⟨rfl, rfl⟩))
    go_ret
    exact ⟨rfl, HK.out⟩

end Go.Proofs.Ythmepnpjagpcnaa
