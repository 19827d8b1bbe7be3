import Derived.Test.YtipegaojiokppaaGreatDoorProg
import Derived.Test.YtipegaojiokppaaGreatDoorGA
import Derived.Laws.EntriesVeiled
set_option linter.unusedVariables false
set_option maxRecDepth 100000
set_option linter.unusedSimpArgs false
namespace Go.Proofs.YtipegaojiokppaaGreatDoor
open Go.RowKit Go.Proofs
def truthS (b : Bool) : Int:=if b then 1 else 0
def quoS (a b : Int) : Int:=if b = 0 then 0 else wrap64 (a.tdiv b)
def remS (a b : Int) : Int:=if b = 0 then 0 else a.tmod b
def applyS (op a b : Int) : Int:=
 if op = 8 then wrap64 (-a) else if op = 9 then truthS (a == 0) else if op = 10 then wrap64 (a + b) else if op = 11 then wrap64 (a - b) else if op = 12 then wrap64 (a * b)
 else if op = 13 then quoS a b else if op = 14 then remS a b
 else if op = 15 then truthS (decide (a < b)) else if op = 16 then truthS (decide (a ≤ b)) else if op = 17 then truthS (decide (b < a)) else if op = 18 then truthS (decide (b ≤ a))
 else if op = 19 then truthS (a == b) else if op = 20 then truthS (a != b) else if op = 21 then truthS (a != 0 && b != 0) else if op = 22 then truthS (a != 0 || b != 0) else 0
def ApplyPost (v : Int) (w : World) (e : Ending) (w' : World) : Prop:=e = .returned (.int .i64 v) ∧ Keep w w'
def opsV : List Value:=[.nilFunc,.nilFunc,.nilFunc,.nilFunc,.nilFunc,.nilFunc,.nilFunc,.nilFunc,.func (.func 113) #[] #[],.func (.func 114) #[] #[],.func (.func 116) #[] #[],.func (.func 117) #[] #[],.func (.func 118) #[] #[],.func (.func 119) #[] #[],.func (.func 120) #[] #[],.func (.func 121) #[] #[],.func (.func 122) #[] #[],.func (.func 123) #[] #[],.func (.func 124) #[] #[],.func (.func 125) #[] #[],.func (.func 126) #[] #[],.func (.func 127) #[] #[],.func (.func 128) #[] #[]]
theorem operators_any (w : World) : Calls Tryz.prog 112 #[] w fun e w'=>e = .returned (.agg opsV.toArray) ∧ Keep w w':=by
 go_enter Tryz.func112,Tryz.ntmps112
 go_wp2_with (refine wpList_store_blk rfl _ (.tmp 0) (.tmp 1) rfl w.heap.size 0 186 _ opsV rfl rfl (Blk.new w _ _) (by simp [opsV]) (by kernel_rfl) rfl ?_; intro w4 hb4 hs4; have HB4:=Lib.hid hb4; have HS4:=Lib.hid hs4; clear hb4 hs4)
 refine bodyPost_ret (v:=.agg opsV.toArray) ?_ rfl ⟨rfl,Keep.write (Keep.new _ _) HS4.out (Nat.le_refl _)⟩
 exact results_cell1 Tryz.results112 _ _ _ ⟨w.heap.size,0,none⟩ _ rfl (loadVar_blk opsV _ HB4.out (fun j v hv=>by simpa [splice,opsV] using hv) Tryz.underlying186 rfl (by kernel_rfl))
theorem truth_any (x : Bool) (w : World) : Calls Tryz.prog 115 #[.bool x] w fun e w'=>e = .returned (.int .i64 (truthS x)) ∧ w = w':=by
 cases x
 ·go_enter Tryz.func115,Tryz.ntmps115
  go_wp2_with fail
  go_ret
  exact ⟨rfl,rfl⟩
 ·go_enter Tryz.func115,Tryz.ntmps115
  go_wp2_with fail
  go_ret
  exact ⟨rfl,rfl⟩
def IntIs (v : Int) (w : World) (e : Ending) (w' : World) : Prop:=e = .returned (.int .i64 v) ∧ w = w'
theorem op8_any (a b : Int) (w : World) : Calls Tryz.prog 113 #[.int .i64 a,.int .i64 b] w (IntIs (wrap64 (-a)) w):=by
 go_enter Tryz.func113,Tryz.ntmps113
 go_wp2_with fail
 go_ret
 exact ⟨rfl,rfl⟩
theorem op9_any (a b : Int) (w : World) : Calls Tryz.prog 114 #[.int .i64 a,.int .i64 b] w (IntIs (truthS (a == 0)) w):=by
 go_enter Tryz.func114,Tryz.ntmps114
 go_wp2_with (go_at_call 115; refine (truth_any _ _).mono ?_; rintro e w' ⟨rfl,rfl⟩)
 go_ret
 exact ⟨rfl,rfl⟩
theorem op10_any (a b : Int) (w : World) : Calls Tryz.prog 116 #[.int .i64 a,.int .i64 b] w (IntIs (wrap64 (a + b)) w):=by
 go_enter Tryz.func116,Tryz.ntmps116
 go_wp2_with fail
 go_ret
 exact ⟨rfl,rfl⟩
theorem op11_any (a b : Int) (w : World) : Calls Tryz.prog 117 #[.int .i64 a,.int .i64 b] w (IntIs (wrap64 (a - b)) w):=by
 go_enter Tryz.func117,Tryz.ntmps117
 go_wp2_with fail
 go_ret
 exact ⟨rfl,rfl⟩
theorem op12_any (a b : Int) (w : World) : Calls Tryz.prog 118 #[.int .i64 a,.int .i64 b] w (IntIs (wrap64 (a * b)) w):=by
 go_enter Tryz.func118,Tryz.ntmps118
 go_wp2_with fail
 go_ret
 exact ⟨rfl,rfl⟩
theorem op13_any (a b : Int) (w : World) : Calls Tryz.prog 119 #[.int .i64 a,.int .i64 b] w (IntIs (quoS a b) w):=by
 unfold quoS
 by_cases hb : b = 0
 ·subst hb
  go_enter Tryz.func119,Tryz.ntmps119
  go_wp2_with fail
  go_ret
  exact ⟨rfl,rfl⟩
 ·have hb' : (b == 0) = false:=by simpa using hb
  rw [if_neg hb]
  go_enter Tryz.func119,Tryz.ntmps119
  go_wp2_with fail
  go_ret
  exact ⟨rfl,rfl⟩
theorem op14_any (a b : Int) (w : World) : Calls Tryz.prog 120 #[.int .i64 a,.int .i64 b] w (IntIs (remS a b) w):=by
 unfold remS
 by_cases hb : b = 0
 ·subst hb
  go_enter Tryz.func120,Tryz.ntmps120
  go_wp2_with fail
  go_ret
  exact ⟨rfl,rfl⟩
 ·have hb' : (b == 0) = false:=by simpa using hb
  rw [if_neg hb]
  go_enter Tryz.func120,Tryz.ntmps120
  go_wp2_with fail
  go_ret
  exact ⟨rfl,rfl⟩
theorem op15_any (a b : Int) (w : World) : Calls Tryz.prog 121 #[.int .i64 a,.int .i64 b] w (IntIs (truthS (decide (a < b))) w):=by
 go_enter Tryz.func121,Tryz.ntmps121
 go_wp2_with (go_at_call 115; refine (truth_any _ _).mono ?_; rintro e w' ⟨rfl,rfl⟩)
 go_ret
 exact ⟨rfl,rfl⟩
theorem op16_any (a b : Int) (w : World) : Calls Tryz.prog 122 #[.int .i64 a,.int .i64 b] w (IntIs (truthS (decide (a ≤ b))) w):=by
 go_enter Tryz.func122,Tryz.ntmps122
 go_wp2_with (go_at_call 115; refine (truth_any _ _).mono ?_; rintro e w' ⟨rfl,rfl⟩)
 go_ret
 exact ⟨rfl,rfl⟩
theorem op17_any (a b : Int) (w : World) : Calls Tryz.prog 123 #[.int .i64 a,.int .i64 b] w (IntIs (truthS (decide (b < a))) w):=by
 go_enter Tryz.func123,Tryz.ntmps123
 go_wp2_with (go_at_call 115; refine (truth_any _ _).mono ?_; rintro e w' ⟨rfl,rfl⟩)
 go_ret
 exact ⟨rfl,rfl⟩
theorem op18_any (a b : Int) (w : World) : Calls Tryz.prog 124 #[.int .i64 a,.int .i64 b] w (IntIs (truthS (decide (b ≤ a))) w):=by
 go_enter Tryz.func124,Tryz.ntmps124
 go_wp2_with (go_at_call 115; refine (truth_any _ _).mono ?_; rintro e w' ⟨rfl,rfl⟩)
 go_ret
 exact ⟨rfl,rfl⟩
theorem op19_any (a b : Int) (w : World) : Calls Tryz.prog 125 #[.int .i64 a,.int .i64 b] w (IntIs (truthS (a == b)) w):=by
 go_enter Tryz.func125,Tryz.ntmps125
 go_wp2_with (go_at_call 115; refine (truth_any _ _).mono ?_; rintro e w' ⟨rfl,rfl⟩)
 go_ret
 exact ⟨rfl,rfl⟩
theorem op20_any (a b : Int) (w : World) : Calls Tryz.prog 126 #[.int .i64 a,.int .i64 b] w (IntIs (truthS (a != b)) w):=by
 go_enter Tryz.func126,Tryz.ntmps126
 go_wp2_with (go_at_call 115; refine (truth_any _ _).mono ?_; rintro e w' ⟨rfl,rfl⟩)
 go_ret
 exact ⟨rfl,rfl⟩
theorem op21_any (a b : Int) (w : World) : Calls Tryz.prog 127 #[.int .i64 a,.int .i64 b] w (IntIs (truthS (a != 0 && b != 0)) w):=by
 cases h1 : (a != 0)
 ·go_enter Tryz.func127,Tryz.ntmps127
  go_wp2_with (go_at_call 115; refine (truth_any _ _).mono ?_; rintro e w' ⟨rfl,rfl⟩)
  go_ret
  exact ⟨rfl,rfl⟩
 ·go_enter Tryz.func127,Tryz.ntmps127
  go_wp2_with (go_at_call 115; refine (truth_any _ _).mono ?_; rintro e w' ⟨rfl,rfl⟩)
  go_ret
  exact ⟨rfl,rfl⟩
theorem op22_any (a b : Int) (w : World) : Calls Tryz.prog 128 #[.int .i64 a,.int .i64 b] w (IntIs (truthS (a != 0 || b != 0)) w):=by
 cases h1 : (a != 0)
 ·go_enter Tryz.func128,Tryz.ntmps128
  go_wp2_with (go_at_call 115; refine (truth_any _ _).mono ?_; rintro e w' ⟨rfl,rfl⟩)
  go_ret
  exact ⟨rfl,rfl⟩
 ·go_enter Tryz.func128,Tryz.ntmps128
  go_wp2_with (go_at_call 115; refine (truth_any _ _).mono ?_; rintro e w' ⟨rfl,rfl⟩)
  go_ret
  exact ⟨rfl,rfl⟩
set_option maxHeartbeats 2000000 in
theorem apply_any (op a b : Int) (w : World) : Calls Tryz.prog 111 #[.int .i64 op,.int .i64 a,.int .i64 b] w (ApplyPost (applyS op a b) w):=by
 by_cases h1 : op < 8
 ·have hs : applyS op a b = 0:=by unfold applyS; repeat rw [if_neg (by omega)]
  rw [hs]
  clear hs
  go_enter Tryz.func111,Tryz.ntmps111
  go_wp2_with fail
  go_ret
  exact ⟨rfl,Same.refl _ _⟩
 by_cases h2 : 22 < op
 ·have hs : applyS op a b = 0:=by unfold applyS; repeat rw [if_neg (by omega)]
  rw [hs]
  clear hs
  go_enter Tryz.func111,Tryz.ntmps111
  go_wp2_with fail
  go_ret
  exact ⟨rfl,Same.refl _ _⟩
 have hc : op = 8 ∨ op = 9 ∨ op = 10 ∨ op = 11 ∨ op = 12 ∨ op = 13 ∨ op = 14 ∨ op = 15 ∨ op = 16 ∨ op = 17 ∨ op = 18 ∨ op = 19 ∨ op = 20 ∨ op = 21 ∨ op = 22:=by omega
 rcases hc with rfl | rfl | rfl | rfl | rfl | rfl | rfl | rfl | rfl | rfl | rfl | rfl | rfl | rfl | rfl
 ·as_aux_lemma=>
  have hs : applyS 8 a b = (wrap64 (-a)):=rfl
  rw [hs]
  clear hs h1 h2
  have ix : ∀ w,(Instr.index 186 (.agg opsV.toArray) (.int .i64 8)).run Tryz.prog w = .ok (.func (.func 113) #[] #[]) w:=fun _=>by kernel_rfl
  go_enter Tryz.func111,Tryz.ntmps111
  go_wp2_with (first | (go_at_call 112; refine (operators_any _).mono ?_; rintro e w1 ⟨rfl,hk⟩; have HK:=Lib.hid hk; clear hk) | (go_at_call 113; refine (op8_any _ _ _).mono ?_; rintro e w2 ⟨rfl,rfl⟩))
  go_ret
  exact ⟨rfl,HK.out⟩
 ·as_aux_lemma=>
  have hs : applyS 9 a b = (truthS (a == 0)):=rfl
  rw [hs]
  clear hs h1 h2
  have ix : ∀ w,(Instr.index 186 (.agg opsV.toArray) (.int .i64 9)).run Tryz.prog w = .ok (.func (.func 114) #[] #[]) w:=fun _=>by kernel_rfl
  go_enter Tryz.func111,Tryz.ntmps111
  go_wp2_with (first | (go_at_call 112; refine (operators_any _).mono ?_; rintro e w1 ⟨rfl,hk⟩; have HK:=Lib.hid hk; clear hk) | (go_at_call 114; refine (op9_any _ _ _).mono ?_; rintro e w2 ⟨rfl,rfl⟩))
  go_ret
  exact ⟨rfl,HK.out⟩
 ·as_aux_lemma=>
  have hs : applyS 10 a b = (wrap64 (a + b)):=rfl
  rw [hs]
  clear hs h1 h2
  have ix : ∀ w,(Instr.index 186 (.agg opsV.toArray) (.int .i64 10)).run Tryz.prog w = .ok (.func (.func 116) #[] #[]) w:=fun _=>by kernel_rfl
  go_enter Tryz.func111,Tryz.ntmps111
  go_wp2_with (first | (go_at_call 112; refine (operators_any _).mono ?_; rintro e w1 ⟨rfl,hk⟩; have HK:=Lib.hid hk; clear hk) | (go_at_call 116; refine (op10_any _ _ _).mono ?_; rintro e w2 ⟨rfl,rfl⟩))
  go_ret
  exact ⟨rfl,HK.out⟩
 ·as_aux_lemma=>
  have hs : applyS 11 a b = (wrap64 (a - b)):=rfl
  rw [hs]
  clear hs h1 h2
  have ix : ∀ w,(Instr.index 186 (.agg opsV.toArray) (.int .i64 11)).run Tryz.prog w = .ok (.func (.func 117) #[] #[]) w:=fun _=>by kernel_rfl
  go_enter Tryz.func111,Tryz.ntmps111
  go_wp2_with (first | (go_at_call 112; refine (operators_any _).mono ?_; rintro e w1 ⟨rfl,hk⟩; have HK:=Lib.hid hk; clear hk) | (go_at_call 117; refine (op11_any _ _ _).mono ?_; rintro e w2 ⟨rfl,rfl⟩))
  go_ret
  exact ⟨rfl,HK.out⟩
 ·as_aux_lemma=>
  have hs : applyS 12 a b = (wrap64 (a * b)):=rfl
  rw [hs]
  clear hs h1 h2
  have ix : ∀ w,(Instr.index 186 (.agg opsV.toArray) (.int .i64 12)).run Tryz.prog w = .ok (.func (.func 118) #[] #[]) w:=fun _=>by kernel_rfl
  go_enter Tryz.func111,Tryz.ntmps111
  go_wp2_with (first | (go_at_call 112; refine (operators_any _).mono ?_; rintro e w1 ⟨rfl,hk⟩; have HK:=Lib.hid hk; clear hk) | (go_at_call 118; refine (op12_any _ _ _).mono ?_; rintro e w2 ⟨rfl,rfl⟩))
  go_ret
  exact ⟨rfl,HK.out⟩
 ·as_aux_lemma=>
  have hs : applyS 13 a b = quoS a b:=rfl
  rw [hs]
  clear hs h1 h2
  have ix : ∀ w,(Instr.index 186 (.agg opsV.toArray) (.int .i64 13)).run Tryz.prog w = .ok (.func (.func 119) #[] #[]) w:=fun _=>by kernel_rfl
  go_enter Tryz.func111,Tryz.ntmps111
  go_wp2_with (first | (go_at_call 112; refine (operators_any _).mono ?_; rintro e w1 ⟨rfl,hk⟩; have HK:=Lib.hid hk; clear hk) | (go_at_call 119; refine (op13_any _ _ _).mono ?_; rintro e w2 ⟨rfl,rfl⟩))
  go_ret
  exact ⟨rfl,HK.out⟩
 ·as_aux_lemma=>
  have hs : applyS 14 a b = remS a b:=rfl
  rw [hs]
  clear hs h1 h2
  have ix : ∀ w,(Instr.index 186 (.agg opsV.toArray) (.int .i64 14)).run Tryz.prog w = .ok (.func (.func 120) #[] #[]) w:=fun _=>by kernel_rfl
  go_enter Tryz.func111,Tryz.ntmps111
  go_wp2_with (first | (go_at_call 112; refine (operators_any _).mono ?_; rintro e w1 ⟨rfl,hk⟩; have HK:=Lib.hid hk; clear hk) | (go_at_call 120; refine (op14_any _ _ _).mono ?_; rintro e w2 ⟨rfl,rfl⟩))
  go_ret
  exact ⟨rfl,HK.out⟩
 ·as_aux_lemma=>
  have hs : applyS 15 a b = (truthS (decide (a < b))):=rfl
  rw [hs]
  clear hs h1 h2
  have ix : ∀ w,(Instr.index 186 (.agg opsV.toArray) (.int .i64 15)).run Tryz.prog w = .ok (.func (.func 121) #[] #[]) w:=fun _=>by kernel_rfl
  go_enter Tryz.func111,Tryz.ntmps111
  go_wp2_with (first | (go_at_call 112; refine (operators_any _).mono ?_; rintro e w1 ⟨rfl,hk⟩; have HK:=Lib.hid hk; clear hk) | (go_at_call 121; refine (op15_any _ _ _).mono ?_; rintro e w2 ⟨rfl,rfl⟩))
  go_ret
  exact ⟨rfl,HK.out⟩
 ·as_aux_lemma=>
  have hs : applyS 16 a b = (truthS (decide (a ≤ b))):=rfl
  rw [hs]
  clear hs h1 h2
  have ix : ∀ w,(Instr.index 186 (.agg opsV.toArray) (.int .i64 16)).run Tryz.prog w = .ok (.func (.func 122) #[] #[]) w:=fun _=>by kernel_rfl
  go_enter Tryz.func111,Tryz.ntmps111
  go_wp2_with (first | (go_at_call 112; refine (operators_any _).mono ?_; rintro e w1 ⟨rfl,hk⟩; have HK:=Lib.hid hk; clear hk) | (go_at_call 122; refine (op16_any _ _ _).mono ?_; rintro e w2 ⟨rfl,rfl⟩))
  go_ret
  exact ⟨rfl,HK.out⟩
 ·as_aux_lemma=>
  have hs : applyS 17 a b = (truthS (decide (b < a))):=rfl
  rw [hs]
  clear hs h1 h2
  have ix : ∀ w,(Instr.index 186 (.agg opsV.toArray) (.int .i64 17)).run Tryz.prog w = .ok (.func (.func 123) #[] #[]) w:=fun _=>by kernel_rfl
  go_enter Tryz.func111,Tryz.ntmps111
  go_wp2_with (first | (go_at_call 112; refine (operators_any _).mono ?_; rintro e w1 ⟨rfl,hk⟩; have HK:=Lib.hid hk; clear hk) | (go_at_call 123; refine (op17_any _ _ _).mono ?_; rintro e w2 ⟨rfl,rfl⟩))
  go_ret
  exact ⟨rfl,HK.out⟩
 ·as_aux_lemma=>
  have hs : applyS 18 a b = (truthS (decide (b ≤ a))):=rfl
  rw [hs]
  clear hs h1 h2
  have ix : ∀ w,(Instr.index 186 (.agg opsV.toArray) (.int .i64 18)).run Tryz.prog w = .ok (.func (.func 124) #[] #[]) w:=fun _=>by kernel_rfl
  go_enter Tryz.func111,Tryz.ntmps111
  go_wp2_with (first | (go_at_call 112; refine (operators_any _).mono ?_; rintro e w1 ⟨rfl,hk⟩; have HK:=Lib.hid hk; clear hk) | (go_at_call 124; refine (op18_any _ _ _).mono ?_; rintro e w2 ⟨rfl,rfl⟩))
  go_ret
  exact ⟨rfl,HK.out⟩
 ·as_aux_lemma=>
  have hs : applyS 19 a b = (truthS (a == b)):=rfl
  rw [hs]
  clear hs h1 h2
  have ix : ∀ w,(Instr.index 186 (.agg opsV.toArray) (.int .i64 19)).run Tryz.prog w = .ok (.func (.func 125) #[] #[]) w:=fun _=>by kernel_rfl
  go_enter Tryz.func111,Tryz.ntmps111
  go_wp2_with (first | (go_at_call 112; refine (operators_any _).mono ?_; rintro e w1 ⟨rfl,hk⟩; have HK:=Lib.hid hk; clear hk) | (go_at_call 125; refine (op19_any _ _ _).mono ?_; rintro e w2 ⟨rfl,rfl⟩))
  go_ret
  exact ⟨rfl,HK.out⟩
 ·as_aux_lemma=>
  have hs : applyS 20 a b = (truthS (a != b)):=rfl
  rw [hs]
  clear hs h1 h2
  have ix : ∀ w,(Instr.index 186 (.agg opsV.toArray) (.int .i64 20)).run Tryz.prog w = .ok (.func (.func 126) #[] #[]) w:=fun _=>by kernel_rfl
  go_enter Tryz.func111,Tryz.ntmps111
  go_wp2_with (first | (go_at_call 112; refine (operators_any _).mono ?_; rintro e w1 ⟨rfl,hk⟩; have HK:=Lib.hid hk; clear hk) | (go_at_call 126; refine (op20_any _ _ _).mono ?_; rintro e w2 ⟨rfl,rfl⟩))
  go_ret
  exact ⟨rfl,HK.out⟩
 ·as_aux_lemma=>
  have hs : applyS 21 a b = (truthS (a != 0 && b != 0)):=rfl
  rw [hs]
  clear hs h1 h2
  have ix : ∀ w,(Instr.index 186 (.agg opsV.toArray) (.int .i64 21)).run Tryz.prog w = .ok (.func (.func 127) #[] #[]) w:=fun _=>by kernel_rfl
  go_enter Tryz.func111,Tryz.ntmps111
  go_wp2_with (first | (go_at_call 112; refine (operators_any _).mono ?_; rintro e w1 ⟨rfl,hk⟩; have HK:=Lib.hid hk; clear hk) | (go_at_call 127; refine (op21_any _ _ _).mono ?_; rintro e w2 ⟨rfl,rfl⟩))
  go_ret
  exact ⟨rfl,HK.out⟩
 ·as_aux_lemma=>
  have hs : applyS 22 a b = (truthS (a != 0 || b != 0)):=rfl
  rw [hs]
  clear hs h1 h2
  have ix : ∀ w,(Instr.index 186 (.agg opsV.toArray) (.int .i64 22)).run Tryz.prog w = .ok (.func (.func 128) #[] #[]) w:=fun _=>by kernel_rfl
  go_enter Tryz.func111,Tryz.ntmps111
  go_wp2_with (first | (go_at_call 112; refine (operators_any _).mono ?_; rintro e w1 ⟨rfl,hk⟩; have HK:=Lib.hid hk; clear hk) | (go_at_call 128; refine (op22_any _ _ _).mono ?_; rintro e w2 ⟨rfl,rfl⟩))
  go_ret
  exact ⟨rfl,HK.out⟩
end Go.Proofs.YtipegaojiokppaaGreatDoor
