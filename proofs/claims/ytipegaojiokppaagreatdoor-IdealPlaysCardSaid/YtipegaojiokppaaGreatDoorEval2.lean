import Derived.Test.YtipegaojiokppaaGreatDoorEval
set_option linter.unusedVariables false
set_option maxRecDepth 100000
set_option linter.unusedSimpArgs false
namespace Go.Proofs.YtipegaojiokppaaGreatDoor
open Go.RowKit Go.Proofs
theorem quo_neg (a : Int) : quoS a (-1) = wrap64 (-a):=by simp [quoS,Int.tdiv_neg]
theorem rem_neg (a : Int) : remS a (-1) = 0:=by simp [remS,Int.tmod_neg]
theorem rtruth_any (x : Bool) (w : World) : Calls Tryz.prog 107 #[.bool x] w fun e w'=>e = .returned (.int .i64 (truthS x)) ∧ w = w':=by
 cases x
 ·go_enter Tryz.func107,Tryz.ntmps107
  go_wp2_with fail
  go_ret
  exact ⟨rfl,rfl⟩
 ·go_enter Tryz.func107,Tryz.ntmps107
  go_wp2_with fail
  go_ret
  exact ⟨rfl,rfl⟩
set_option maxHeartbeats 1000000 in
theorem rop8_any (a b : Int) (w : World) : Calls Tryz.prog 105 #[.int .i64 8,.int .i64 a,.int .i64 b] w (IntIs (wrap64 (-a)) w):=by
 go_enter Tryz.func105,Tryz.ntmps105
 go_wp2_with (go_at_call 107; refine (rtruth_any _ _).mono ?_; rintro e w' ⟨rfl,rfl⟩)
 go_ret
 exact ⟨rfl,rfl⟩
set_option maxHeartbeats 1000000 in
theorem rop9_any (a b : Int) (w : World) : Calls Tryz.prog 105 #[.int .i64 9,.int .i64 a,.int .i64 b] w (IntIs (truthS (a == 0)) w):=by
 go_enter Tryz.func105,Tryz.ntmps105
 go_wp2_with (go_at_call 107; refine (rtruth_any _ _).mono ?_; rintro e w' ⟨rfl,rfl⟩)
 go_ret
 exact ⟨rfl,rfl⟩
set_option maxHeartbeats 1000000 in
theorem rop10_any (a b : Int) (w : World) : Calls Tryz.prog 105 #[.int .i64 10,.int .i64 a,.int .i64 b] w (IntIs (wrap64 (a + b)) w):=by
 go_enter Tryz.func105,Tryz.ntmps105
 go_wp2_with (go_at_call 107; refine (rtruth_any _ _).mono ?_; rintro e w' ⟨rfl,rfl⟩)
 go_ret
 exact ⟨rfl,rfl⟩
set_option maxHeartbeats 1000000 in
theorem rop11_any (a b : Int) (w : World) : Calls Tryz.prog 105 #[.int .i64 11,.int .i64 a,.int .i64 b] w (IntIs (wrap64 (a - b)) w):=by
 go_enter Tryz.func105,Tryz.ntmps105
 go_wp2_with (go_at_call 107; refine (rtruth_any _ _).mono ?_; rintro e w' ⟨rfl,rfl⟩)
 go_ret
 exact ⟨rfl,rfl⟩
set_option maxHeartbeats 1000000 in
theorem rop12_any (a b : Int) (w : World) : Calls Tryz.prog 105 #[.int .i64 12,.int .i64 a,.int .i64 b] w (IntIs (wrap64 (a * b)) w):=by
 go_enter Tryz.func105,Tryz.ntmps105
 go_wp2_with (go_at_call 107; refine (rtruth_any _ _).mono ?_; rintro e w' ⟨rfl,rfl⟩)
 go_ret
 exact ⟨rfl,rfl⟩
set_option maxHeartbeats 1000000 in
theorem rop13z_any (a : Int) (w : World) : Calls Tryz.prog 105 #[.int .i64 13,.int .i64 a,.int .i64 0] w (IntIs (0) w):=by
 go_enter Tryz.func105,Tryz.ntmps105
 go_wp2_with (go_at_call 107; refine (rtruth_any _ _).mono ?_; rintro e w' ⟨rfl,rfl⟩)
 go_ret
 exact ⟨rfl,rfl⟩
set_option maxHeartbeats 1000000 in
theorem rop13m_any (a : Int) (w : World) : Calls Tryz.prog 105 #[.int .i64 13,.int .i64 a,.int .i64 (-1)] w (IntIs (wrap64 (-a)) w):=by
 go_enter Tryz.func105,Tryz.ntmps105
 go_wp2_with (go_at_call 107; refine (rtruth_any _ _).mono ?_; rintro e w' ⟨rfl,rfl⟩)
 go_ret
 exact ⟨rfl,rfl⟩
set_option maxHeartbeats 1000000 in
theorem rop13p_any (a b : Int) (w : World) (hb : ¬ b = 0) (h0 : (b == 0) = false) (h1 : (b == -1) = false) : Calls Tryz.prog 105 #[.int .i64 13,.int .i64 a,.int .i64 b] w (IntIs (wrap64 (a.tdiv b)) w):=by
 go_enter Tryz.func105,Tryz.ntmps105
 go_wp2_with (go_at_call 107; refine (rtruth_any _ _).mono ?_; rintro e w' ⟨rfl,rfl⟩)
 go_ret
 exact ⟨rfl,rfl⟩
set_option maxHeartbeats 1000000 in
theorem rop14z_any (a : Int) (w : World) : Calls Tryz.prog 105 #[.int .i64 14,.int .i64 a,.int .i64 0] w (IntIs (0) w):=by
 go_enter Tryz.func105,Tryz.ntmps105
 go_wp2_with (go_at_call 107; refine (rtruth_any _ _).mono ?_; rintro e w' ⟨rfl,rfl⟩)
 go_ret
 exact ⟨rfl,rfl⟩
set_option maxHeartbeats 1000000 in
theorem rop14m_any (a : Int) (w : World) : Calls Tryz.prog 105 #[.int .i64 14,.int .i64 a,.int .i64 (-1)] w (IntIs (0) w):=by
 go_enter Tryz.func105,Tryz.ntmps105
 go_wp2_with (go_at_call 107; refine (rtruth_any _ _).mono ?_; rintro e w' ⟨rfl,rfl⟩)
 go_ret
 exact ⟨rfl,rfl⟩
set_option maxHeartbeats 1000000 in
theorem rop14p_any (a b : Int) (w : World) (hb : ¬ b = 0) (h0 : (b == 0) = false) (h1 : (b == -1) = false) : Calls Tryz.prog 105 #[.int .i64 14,.int .i64 a,.int .i64 b] w (IntIs (a.tmod b) w):=by
 go_enter Tryz.func105,Tryz.ntmps105
 go_wp2_with (go_at_call 107; refine (rtruth_any _ _).mono ?_; rintro e w' ⟨rfl,rfl⟩)
 go_ret
 exact ⟨rfl,rfl⟩
set_option maxHeartbeats 1000000 in
theorem rop15_any (a b : Int) (w : World) : Calls Tryz.prog 105 #[.int .i64 15,.int .i64 a,.int .i64 b] w (IntIs (truthS (decide (a < b))) w):=by
 go_enter Tryz.func105,Tryz.ntmps105
 go_wp2_with (go_at_call 107; refine (rtruth_any _ _).mono ?_; rintro e w' ⟨rfl,rfl⟩)
 go_ret
 exact ⟨rfl,rfl⟩
set_option maxHeartbeats 1000000 in
theorem rop16_any (a b : Int) (w : World) : Calls Tryz.prog 105 #[.int .i64 16,.int .i64 a,.int .i64 b] w (IntIs (truthS (decide (a ≤ b))) w):=by
 go_enter Tryz.func105,Tryz.ntmps105
 go_wp2_with (go_at_call 107; refine (rtruth_any _ _).mono ?_; rintro e w' ⟨rfl,rfl⟩)
 go_ret
 exact ⟨rfl,rfl⟩
set_option maxHeartbeats 1000000 in
theorem rop17_any (a b : Int) (w : World) : Calls Tryz.prog 105 #[.int .i64 17,.int .i64 a,.int .i64 b] w (IntIs (truthS (decide (b < a))) w):=by
 go_enter Tryz.func105,Tryz.ntmps105
 go_wp2_with (go_at_call 107; refine (rtruth_any _ _).mono ?_; rintro e w' ⟨rfl,rfl⟩)
 go_ret
 exact ⟨rfl,rfl⟩
set_option maxHeartbeats 1000000 in
theorem rop18_any (a b : Int) (w : World) : Calls Tryz.prog 105 #[.int .i64 18,.int .i64 a,.int .i64 b] w (IntIs (truthS (decide (b ≤ a))) w):=by
 go_enter Tryz.func105,Tryz.ntmps105
 go_wp2_with (go_at_call 107; refine (rtruth_any _ _).mono ?_; rintro e w' ⟨rfl,rfl⟩)
 go_ret
 exact ⟨rfl,rfl⟩
set_option maxHeartbeats 1000000 in
theorem rop19_any (a b : Int) (w : World) : Calls Tryz.prog 105 #[.int .i64 19,.int .i64 a,.int .i64 b] w (IntIs (truthS (a == b)) w):=by
 go_enter Tryz.func105,Tryz.ntmps105
 go_wp2_with (go_at_call 107; refine (rtruth_any _ _).mono ?_; rintro e w' ⟨rfl,rfl⟩)
 go_ret
 exact ⟨rfl,rfl⟩
set_option maxHeartbeats 1000000 in
theorem rop20_any (a b : Int) (w : World) : Calls Tryz.prog 105 #[.int .i64 20,.int .i64 a,.int .i64 b] w (IntIs (truthS (a != b)) w):=by
 go_enter Tryz.func105,Tryz.ntmps105
 go_wp2_with (go_at_call 107; refine (rtruth_any _ _).mono ?_; rintro e w' ⟨rfl,rfl⟩)
 go_ret
 exact ⟨rfl,rfl⟩
set_option maxHeartbeats 1000000 in
theorem rop21_any (a b : Int) (w : World) : Calls Tryz.prog 105 #[.int .i64 21,.int .i64 a,.int .i64 b] w (IntIs (truthS (a != 0 && b != 0)) w):=by
 cases h1 : (a != 0)
 ·go_enter Tryz.func105,Tryz.ntmps105
  go_wp2_with (go_at_call 107; refine (rtruth_any _ _).mono ?_; rintro e w' ⟨rfl,rfl⟩)
  go_ret
  exact ⟨rfl,rfl⟩
 ·go_enter Tryz.func105,Tryz.ntmps105
  go_wp2_with (go_at_call 107; refine (rtruth_any _ _).mono ?_; rintro e w' ⟨rfl,rfl⟩)
  go_ret
  exact ⟨rfl,rfl⟩
set_option maxHeartbeats 1000000 in
theorem rop22_any (a b : Int) (w : World) : Calls Tryz.prog 105 #[.int .i64 22,.int .i64 a,.int .i64 b] w (IntIs (truthS (a != 0 || b != 0)) w):=by
 cases h1 : (a != 0)
 ·go_enter Tryz.func105,Tryz.ntmps105
  go_wp2_with (go_at_call 107; refine (rtruth_any _ _).mono ?_; rintro e w' ⟨rfl,rfl⟩)
  go_ret
  exact ⟨rfl,rfl⟩
 ·go_enter Tryz.func105,Tryz.ntmps105
  go_wp2_with (go_at_call 107; refine (rtruth_any _ _).mono ?_; rintro e w' ⟨rfl,rfl⟩)
  go_ret
  exact ⟨rfl,rfl⟩
set_option maxHeartbeats 1000000 in
theorem rapply_any (op a b : Int) (w : World) : Calls Tryz.prog 105 #[.int .i64 op,.int .i64 a,.int .i64 b] w (IntIs (applyS op a b) w):=by
 by_cases h1 : op < 8 ∨ 22 < op
 ·have hs : applyS op a b = 0:=by unfold applyS; repeat rw [if_neg (by omega)]
  rw [hs]
  clear hs
  rcases h1 with h1 | h1
  all_goals
   go_enter Tryz.func105,Tryz.ntmps105
   go_wp2_with fail
   go_ret
   exact ⟨rfl,rfl⟩
 have hc : op = 8 ∨ op = 9 ∨ op = 10 ∨ op = 11 ∨ op = 12 ∨ op = 13 ∨ op = 14 ∨ op = 15 ∨ op = 16 ∨ op = 17 ∨ op = 18 ∨ op = 19 ∨ op = 20 ∨ op = 21 ∨ op = 22:=by omega
 rcases hc with rfl | rfl | rfl | rfl | rfl | rfl | rfl | rfl | rfl | rfl | rfl | rfl | rfl | rfl | rfl
 ·exact rop8_any a b w
 ·exact rop9_any a b w
 ·exact rop10_any a b w
 ·exact rop11_any a b w
 ·exact rop12_any a b w
 ·show Calls _ _ _ _ (IntIs (quoS a b) w)
  by_cases hb0 : b = 0
  ·subst hb0; exact rop13z_any a w
  by_cases hb1 : b = -1
  ·subst hb1; rw [quo_neg]; exact rop13m_any a w
  ·have:=rop13p_any a b w hb0 (by simpa using hb0) (by simpa using hb1)
   rw [show quoS a b = _ from if_neg hb0]
   exact this
 ·show Calls _ _ _ _ (IntIs (remS a b) w)
  by_cases hb0 : b = 0
  ·subst hb0; exact rop14z_any a w
  by_cases hb1 : b = -1
  ·subst hb1; rw [rem_neg]; exact rop14m_any a w
  ·have:=rop14p_any a b w hb0 (by simpa using hb0) (by simpa using hb1)
   rw [show remS a b = _ from if_neg hb0]
   exact this
 ·exact rop15_any a b w
 ·exact rop16_any a b w
 ·exact rop17_any a b w
 ·exact rop18_any a b w
 ·exact rop19_any a b w
 ·exact rop20_any a b w
 ·exact rop21_any a b w
 ·exact rop22_any a b w
def modS (x n : Int) : Int:=x % n
theorem mod_any (x n : Int) (w : World) (hx : -9223372036854775808 ≤ x ∧ x ≤ 9223372036854775807) (h1 : 1 ≤ n) (h2 : n ≤ 4611686018427387904) : Calls Tryz.prog 18 #[.int .i64 x,.int .i64 n] w (IntIs (modS x n) w):=by
 obtain ⟨hx1,hx2⟩:=hx
 have e1 : x.tmod n = if 0 ≤ x ∨ n ∣ x then x % n else x % n - n:=by rw [Int.tmod_eq_emod]; split <;> simp; omega
 have b0:=Int.emod_nonneg x (show n ≠ 0 by omega)
 have b1:=Int.emod_lt_of_pos x (show 0 < n by omega)
 have b2 : -n < x.tmod n:=by rw [e1]; split <;> omega
 have b3 : x.tmod n < n:=by rw [e1]; split <;> omega
 by_cases h : x.tmod n < 0
 ·have hr : x.tmod n + n = modS x n:=by unfold modS; rw [e1] at h ⊢; split at h <;> rename_i hc <;> simp only [hc,if_true,if_false] <;> omega
  have HR:=Lib.hid hr
  clear hr e1 b0 b1
  go_enter Tryz.func18,Tryz.ntmps18
  go_wp2_with fail
  go_ret
  exact ⟨by simp [HR.out],rfl⟩
 ·have hr : x.tmod n = modS x n:=by unfold modS; rw [e1] at h ⊢; split at h <;> rename_i hc <;> simp only [hc,if_true,if_false] <;> omega
  have HR:=Lib.hid hr
  clear hr e1 b0 b1
  go_enter Tryz.func18,Tryz.ntmps18
  go_wp2_with fail
  go_ret
  exact ⟨by simp [HR.out],rfl⟩
theorem modS_lt (x n : Int) (h : 1 ≤ n) : 0 ≤ modS x n ∧ modS x n < n:=⟨Int.emod_nonneg x (by omega),Int.emod_lt_of_pos x (by omega)⟩
end Go.Proofs.YtipegaojiokppaaGreatDoor
