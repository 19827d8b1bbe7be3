/- The law ProcessPrefixes: written by gen_law6p.py. -/
import Derived.Test.YtecckbkobkfnmaaDoorGM
import Derived.Test.YtecckbkobkfnmaaDoorGP
import Derived.Test.YtecckbkobkfnmaaDoorAid6
import Derived.Test.YtecckbkobkfnmaaDoorAt
import Derived.Test.YtecckbkobkfnmaaDoorMod
set_option linter.unusedVariables false
set_option linter.unusedSimpArgs false
set_option maxRecDepth 100000
namespace Go.Proofs.YtecckbkobkfnmaaDoor
open Go.RowKit Go.Proofs


def OneV (W : World) (s : St) (p : Value) (wx : World) : Prop := ∃ (g : Nat) (cs : List Value), p = .pointer (some ⟨g, 0, none⟩) ∧ W.heap.size ≤ g ∧ Blk wx g 27 cs.toArray ∧ StR wx (Bx g wx) cs s ∧ Keep W wx
theorem foldl_grows (c : Cd) (self procs : Int) : ∀ (l : List Ev) (s : St), (∃ a, (l.foldl (nextS c self procs) s).sent = s.sent ++ a) ∧ (∃ b, (l.foldl (nextS c self procs) s).outs = s.outs ++ b)
  | [], s => ⟨⟨[], by simp⟩, ⟨[], by simp⟩⟩
  | e :: l, s => by
    obtain ⟨⟨a, ha⟩, b, hb⟩ := foldl_grows c self procs l (nextS c self procs s e)
    obtain ⟨⟨a', ha'⟩, ⟨b', hb'⟩, -⟩ := nextS_grows c self procs s e
    exact ⟨⟨a' ++ a, by rw [List.foldl_cons, ha, ha', List.append_assoc]⟩, ⟨b' ++ b, by rw [List.foldl_cons, hb, hb', List.append_assoc]⟩⟩
theorem replayS_prefix (c : Cd) (self procs : Int) (l : List Ev) (n : Nat) : (∃ a, (replayS c self procs l).sent = (replayS c self procs (l.take n)).sent ++ a) ∧ (∃ b, (replayS c self procs l).outs = (replayS c self procs (l.take n)).outs ++ b) := by
  have h := foldl_grows c self procs (l.drop n) (replayS c self procs (l.take n))
  have e : (l.drop n).foldl (nextS c self procs) (replayS c self procs (l.take n)) = replayS c self procs l := by
    unfold replayS
    rw [← List.foldl_append, List.take_append_drop]
  rw [e] at h
  exact h
def LP1 (W : World) (n5 : Nat) (k : Int) (i : Value) (wr : World) : Prop := ∃ j : Nat, i = .int .i64 j ∧ j ≤ 3 ∧ Blk wr W.heap.size 3 #[.int .i64 (-1), .int .i64 (n5 + 1), .int .i64 k] ∧ Keep W wr
theorem three_at (a b c : Int) (j : Nat) (h : j < 3) : ∃ m : Int, (#[.int .i64 a, .int .i64 b, .int .i64 c] : Array Value)[j]? = some (.int .i64 m) := by
  rcases j with _ | _ | _ | j
  · exact ⟨_, rfl⟩
  · exact ⟨_, rfl⟩
  · exact ⟨_, rfl⟩
  · omega
set_option maxHeartbeats 32000000 in
theorem processPrefixes_walk (w : World) (A : Option Addr) (n c : Nat) (zs : List Int) (self : Int) (k : Int) (hk64 : I64 k) (hs0 : 0 ≤ self) (hs1 : self < 256) (hg : Glob w) (hz : Sl encB 1 w (· < w.heap.size) A n c zs) (hz8 : ∀ y ∈ zs, 0 ≤ y ∧ y < 256) :
    Calls Tryd.prog 8 #[.slice A n c, .int .u8 self, .int .i64 k] w (AwPost w) := by
  have HG := Lib.hid hg
  have HZ := Lib.hid hz
  have HZ8 := Lib.hid hz8
  clear hg hz hz8
  go_enter Tryd.func8, Tryd.ntmps8
  go_wp2_with fail
  refine (awake06_any w).mono ?_
  rintro e w1 ⟨rfl, hk1⟩
  have hz1 := hk1.size
  have HK1 := Lib.hid hk1
  clear hk1
  go_wp2_with fail
  refine (new_any w1 A n c 240 zs (fun i => i < w.heap.size) (fun i hi => by omega) (HZ.out.keep HK1.out) HZ8.out (by omega)).mono ?_
  rintro e w2 ⟨r, hr, rfl, hc2, hk2⟩
  have hz2 := hk2.size
  have hk2' := Keep.trans HK1.out hk2
  have hg2 := HG.out.keep hk2'
  have hgc := hc2.lt
  generalize hgce : w1.heap.size = gc at *
  have HK2' := Lib.hid hk2'
  have HG2 := Lib.hid hg2
  have HC2 := Lib.hid hc2
  clear hk2' hg2 hc2
  clear hk2
  go_wp2_with fail
  refine (code_any w2 _ gc r HC2.out HG2.out).mono ?_
  rintro e w3 ⟨cs3, cd, r3, rfl, hcd, hc3, ho3⟩
  have hz3 := ho3.size
  obtain ⟨B0, B1, B2, B3, B4, p0, q0, p1, q1, p2, q2, p3, q3, p4, q4, rfl, hcx⟩ := cd_open hcd
  have hk3 : Keep w w3 := Same.trans HK2'.out ho3 (fun i hi => by omega)
  have hci : cd.init.length ≤ 1000000 := by obtain ⟨_, _, _, _, _, _, _, _, _, _, _, _, _, _, _, _, _, _, _, _, _, h⟩ := hcx; exact h
  have HCX := Lib.hid hcx
  have HC3 := Lib.hid hc3
  have HK3 := Lib.hid hk3
  have HCI := Lib.hid hci
  clear hcx hc3 hk3 hci
  clear hcd
  clear ho3
  go_upto_region 6 with (refine wpList_store_all rfl _ (.tmp 8) (.tmp 25) rfl w3.heap.size 38 _ [.slice B0 p0 q0, .slice B1 p1 q1, .slice B2 p2 q2, .slice B3 p3 q3, .slice B4 p4 q4] rfl rfl (Blk.new _ _ _) rfl (by kernel_rfl) rfl ?_; intro w4 hb4 hs4)
  generalize hme : self % 3 = me at *
  clear hme
  have hk4 : Keep w3 w4 := Keep.write (Keep.new _ _) hs4 (Nat.le_refl _)
  have hz4 : w3.heap.size < w4.heap.size := hb4.lt
  have hc4 := HC3.out.same (Same.mono hk4 (fun i hi => by rcases hi with h | h <;> omega))
  have HK4 := Lib.hid hk4
  have HB4 := Lib.hid hb4
  have HC4 := Lib.hid hc4
  clear hk4 hb4 hc4
  clear hs4
  go_wp2_with fail
  refine (events_any w4 _ gc r3 8 (by omega) HC4.out).mono ?_
  rintro e w5 ⟨A5, n5, c5, l, rfl, hl5, hn5, -, ho5⟩
  have hz5 := ho5.size
  have hb5 := ho5.blk HB4.out ⟨by omega, by omega⟩
  have hk5 : Keep w w5 := Same.trans (Keep.trans HK3.out HK4.out) ho5 (fun i hi => by omega)
  have hcd5 : CdR w5 (New w5 w2.heap.size) [.slice B0 p0 q0, .slice B1 p1 q1, .slice B2 p2 q2, .slice B3 p3 q3, .slice B4 p4 q4] cd := (HCX.out.keep (Same.trans (Same.mono HK4.out (fun i (hi : New w3 w2.heap.size i) => hi.2)) ho5 (fun i hi => ⟨by have := hi.2; omega, by have := hi.1; omega⟩))).more (fun i hi => ⟨hi.1, by have := hi.2; omega⟩)
  have hev5 : Sl encEv 7 w5 (New w5 w2.heap.size) A5 n5 c5 l := hl5.more (fun i hi => ⟨by have := hi.1; omega, hi.2⟩)
  have HB5 := Lib.hid hb5
  have HK5 := Lib.hid hk5
  have HCD5 := Lib.hid hcd5
  have HEV5 := Lib.hid hev5
  clear hb5 hk5 hcd5 hev5
  clear ho5 hl5
  have hln : l.length = n5 := HEV5.out.1.symm
  have hln8 : l.length ≤ 8 := by omega
  obtain ⟨hk1, hk2⟩ := hk64
  have HLN := Lib.hid hln
  clear hln
  go_wp2_with ((refine wpList_load_all rfl _ (.tmp 8) rfl w3.heap.size 38 [.slice B0 p0 q0, .slice B1 p1 q1, .slice B2 p2 q2, .slice B3 p3 q3, .slice B4 p4 q4] _ rfl HB5.out Tryd.underlying38 rfl (by kernel_rfl) ?_))
  refine (preplay_any w5 (New w5 w2.heap.size) [.slice B0 p0 q0, .slice B1 p1 q1, .slice B2 p2 q2, .slice B3 p3 q3, .slice B4 p4 q4] cd me 3 A5 n5 c5 l (fun i hi => hi.2) HCD5.out HEV5.out (by omega)).mono ?_
  rintro e w6 ⟨cs6, rfl, hr6', hk6⟩
  obtain ⟨E1, E2, E3, E4, en1, ec1, en2, ec2, en3, ec3, en4, ec4, rfl, hr6⟩ := st_open hr6'
  clear hr6'
  have hz6 := hk6.size
  have HR6 := Lib.hid hr6
  have HK6 := Lib.hid hk6
  clear hr6 hk6
  go_upto_region 8 with (refine wpList_store_all rfl _ (.tmp 11) (.tmp 34) rfl w6.heap.size 27 _ [.slice E1 en1 ec1, .slice E2 en2 ec2, .slice E3 en3 ec3, .slice E4 en4 ec4] rfl rfl (Blk.new _ _ _) rfl (by kernel_rfl) rfl ?_; intro w7 hb7 hs7)
  have hk67 : Keep w6 w7 := Keep.write (Keep.new _ _) hs7 (Nat.le_refl _)
  have hk57 := Keep.trans HK6.out hk67
  have hz7 : w6.heap.size < w7.heap.size := hb7.lt
  have hkw7 := Keep.trans HK5.out hk57
  have hbc7 := hk57.blk HB5.out HB5.out.lt
  have hcd7 := (HCD5.out.keep (Same.mono hk57 (fun i hi => hi.2))).more (T := New w7 w2.heap.size) (fun i hi => ⟨hi.1, by have := hi.2; omega⟩)
  have hev7 := (HEV5.out.keep (Same.mono hk57 (fun i hi => hi.2))).more (T := New w7 w2.heap.size) (fun i hi => ⟨hi.1, by have := hi.2; omega⟩)
  have hrs7 := (HR6.out.keep (Same.mono hk67 (Sn.lt (fun i hi => hi.2) hz6))).more (T := New w7 w2.heap.size) (fun i hi => hi.elim (fun h => ⟨h.1, by have := h.2; omega⟩) (fun h => ⟨by have := h.1; omega, by have := h.2; omega⟩))
  have hse := replayS_events cd me 3 l
  have hpre := replayS_prefix cd me 3 l
  have HB7 := Lib.hid hb7
  have HKW7 := Lib.hid hkw7
  have HBC7 := Lib.hid hbc7
  have HCD7 := Lib.hid hcd7
  have HEV7 := Lib.hid hev7
  have HRS7 := Lib.hid hrs7
  have HSE := Lib.hid hse
  have HPRE := Lib.hid hpre
  clear hb7 hkw7 hbc7 hcd7 hev7 hrs7 hse hpre
  clear hs7 hk67 hk57 HR6 HK6
  go_wp2_with fail
  refine (mod_is k (n5 + 1) w7 ⟨hk1, hk2⟩ (by omega) (by omega)).mono ?_
  rintro e w' ⟨rfl, rfl⟩
  have hm0 : 0 ≤ modv k (n5 + 1) := Int.emod_nonneg _ (by omega)
  have hm1 : modv k (n5 + 1) ≤ n5 := by have := Int.emod_lt_of_pos k (show (0 : Int) < n5 + 1 by omega); unfold modv; omega
  generalize hnn : modv k (n5 + 1) = nn at *
  clear hnn
  obtain ⟨nk, rfl⟩ : ∃ nk : Nat, nn = nk := ⟨nn.toNat, by omega⟩
  have hnk : nk ≤ n5 := by omega
  clear hm0 hm1
  go_wp2_with (first
    | (refine wpList_load_all rfl _ (.tmp 8) rfl w3.heap.size 38 [.slice B0 p0 q0, .slice B1 p1 q1, .slice B2 p2 q2, .slice B3 p3 q3, .slice B4 p4 q4] _ rfl HBC7.out Tryd.underlying38 rfl (by kernel_rfl) ?_)
    | (refine wpList_load_all rfl _ (.tmp 11) rfl w6.heap.size 27 [.slice E1 en1 ec1, .slice E2 en2 ec2, .slice E3 en3 ec3, .slice E4 en4 ec4] _ rfl HB7.out Tryd.underlying27 rfl (by kernel_rfl) ?_))
  refine (pat_any w7 (New w7 w2.heap.size) [.slice B0 p0 q0, .slice B1 p1 q1, .slice B2 p2 q2, .slice B3 p3 q3, .slice B4 p4 q4] [.slice E1 en1 ec1, .slice E2 en2 ec2, .slice E3 en3 ec3, .slice E4 en4 ec4] cd (replayS cd me 3 l) me 3 nk (fun i hi => hi.2) HCD7.out HRS7.out (by rw [HSE.out]; omega)).mono ?_
  rintro e w8 ⟨cs8, b8, t8, rfl, hb8, ht8, -, hr8', hk8⟩
  obtain rfl : b8 = true := hb8.2 ⟨by omega, by rw [HSE.out]; have := HLN.out; omega⟩
  have ht8' := ht8 rfl
  rw [HSE.out] at ht8'
  simp only [Int.toNat_natCast] at ht8'
  subst ht8'
  obtain ⟨F1, F2, F3, F4, fn1, fc1, fn2, fc2, fn3, fc3, fn4, fc4, rfl, hr8⟩ := st_open hr8'
  clear hr8' ht8 hb8
  have hz8 := hk8.size
  have HR8 := Lib.hid hr8
  have HK8 := Lib.hid hk8
  clear hr8 hk8
  go_upto_region 10 with (refine wpList_store_all rfl _ (.tmp 13) (.tmp 46) rfl w8.heap.size 27 _ [.slice F1 fn1 fc1, .slice F2 fn2 fc2, .slice F3 fn3 fc3, .slice F4 fn4 fc4] rfl rfl (Blk.new _ _ _) rfl (by kernel_rfl) rfl ?_; intro w9 hb9 hs9)
  have hk89 : Keep w8 w9 := Keep.write (Keep.new _ _) hs9 (Nat.le_refl _)
  have hk79 := Keep.trans HK8.out hk89
  have hz9 : w8.heap.size < w9.heap.size := hb9.lt
  have hkw9 := Keep.trans HKW7.out hk79
  have hbc9 := hk79.blk HBC7.out HBC7.out.lt
  have hbs9 := hk79.blk HB7.out HB7.out.lt
  have up : ∀ i, New w7 w2.heap.size i → New w9 w2.heap.size i := fun i hi => ⟨hi.1, by have := hi.2; omega⟩
  have hcd9 := (HCD7.out.keep (Same.mono hk79 (fun i hi => hi.2))).more up
  have hev9 := (HEV7.out.keep (Same.mono hk79 (fun i hi => hi.2))).more up
  have hrs9 := (HRS7.out.keep (Same.mono hk79 (fun i hi => hi.2))).more up
  have hra9 := (HR8.out.keep (Same.mono hk89 (Sn.lt (fun i hi => hi.2) hz8))).more (T := New w9 w2.heap.size) (fun i hi => hi.elim (fun h => ⟨h.1, by have := h.2; omega⟩) (fun h => ⟨by have := h.1; omega, by have := h.2; omega⟩))
  have hev9' := hev9.to_ encEv_len hnk
  have hc5 : nk ≤ c5 := by have := hev9.2.1; omega
  have HKW9 := Lib.hid hkw9
  have HBC9 := Lib.hid hbc9
  have HBS9 := Lib.hid hbs9
  have HB9 := Lib.hid hb9
  have HCD9 := Lib.hid hcd9
  have HEV9 := Lib.hid hev9
  have HRS9 := Lib.hid hrs9
  have HRA9 := Lib.hid hra9
  have HEV9' := Lib.hid hev9'
  clear hkw9 hbc9 hbs9 hb9 hcd9 hev9 hrs9 hra9 hev9'
  clear hs9 hk89 hk79 up HKW7 HBC7 HB7 HCD7 HEV7 HRS7
  have hnc : (nk : Int) ≤ c5 := by omega
  go_cut [15] from 48 to 53 (fun p wx => OneV w9 (replayS cd me 3 (l.take nk)) p wx)
  case first =>
    refine wp_region_L 7 (fun wx => Keep w9 wx) (fun _ => True) (by kernel_rfl) (Same.drew (Same.refl _ _)) trivial (fun hA hB => ?_)
    have z0 : w9.heap.size ≤ w9.drew.heap.size := Nat.le_refl _
    generalize hu0 : w9.drew = u0 at hA z0 ⊢
    clear hu0
    refine wpL_takeA (i := 0) rfl (by kernel_rfl) (by kernel_rfl) (by kernel_rfl) (by kernel_rfl) (by decide) (fun _ _ _ h => h) (yieldsIf_blk (by rfl) _ _ rfl w3.heap.size 0 38 _ [.slice B0 p0 q0, .slice B1 p1 q1, .slice B2 p2 q2, .slice B3 p3 q3, .slice B4 p4 q4] _ rfl (fun wx hx => hx.1.blk HBC9.out HBC9.out.lt) (fun j u hu => by simpa using hu) Tryd.underlying38 rfl (by kernel_rfl)) hA hB ?_
    try simp only [Act.put, List.setIfInBounds_toArray, List.set_cons_zero, List.set_cons_succ]
    refine wpL_takeA (i := 1) (v := ?_) rfl (by kernel_rfl) (by kernel_rfl) (by kernel_rfl) (by kernel_rfl) (by decide) (fun _ _ _ h => h) (Or.inl ⟨by rfl, ?_⟩) hA hB ?_
    rotate_left
    · rintro wx ⟨hAx, hBx⟩
      (try dsimp only at hBx); (try dsimp only at hAx)
      go_simp
      try with_reducible rfl
    try simp only [Act.put, List.setIfInBounds_toArray, List.set_cons_zero, List.set_cons_succ]
    refine wpL_takeA (i := 2) (v := ?_) rfl (by kernel_rfl) (by kernel_rfl) (by kernel_rfl) (by kernel_rfl) (by decide) (fun _ _ _ h => h) (Or.inl ⟨by rfl, ?_⟩) hA hB ?_
    rotate_left
    · rintro wx ⟨hAx, hBx⟩
      (try dsimp only at hBx); (try dsimp only at hAx)
      go_simp
      try with_reducible rfl
    try simp only [Act.put, List.setIfInBounds_toArray, List.set_cons_zero, List.set_cons_succ]
    refine wpL_takeA (i := 3) (v := ?_) rfl (by kernel_rfl) (by kernel_rfl) (by kernel_rfl) (by kernel_rfl) (by decide) (fun _ _ _ h => h) (Or.inl ⟨by rfl, ?_⟩) hA hB ?_
    rotate_left
    · rintro wx ⟨hAx, hBx⟩
      (try dsimp only at hBx); (try dsimp only at hAx)
      go_simp
      try with_reducible rfl
    try simp only [Act.put, List.setIfInBounds_toArray, List.set_cons_zero, List.set_cons_succ]
    refine wpL_takeA (i := 4) (v := ?_) rfl (by kernel_rfl) (by kernel_rfl) (by kernel_rfl) (by kernel_rfl) (by decide) (fun _ _ _ h => h) (Or.inl ⟨by rfl, ?_⟩) hA hB ?_
    rotate_left
    · rintro wx ⟨hAx, hBx⟩
      (try dsimp only at hBx); (try dsimp only at hAx)
      go_simp
      try with_reducible rfl
    try simp only [Act.put, List.setIfInBounds_toArray, List.set_cons_zero, List.set_cons_succ]
    refine wpL_two (i := 5) (j := 6) (by kernel_rfl) (StepL.mk rfl (fun K hK => ?_)) (StepL.mk rfl (fun K hK => ?_))
    · go_simp
      refine (preplay_any u0 (New w9 w2.heap.size) [.slice B0 p0 q0, .slice B1 p1 q1, .slice B2 p2 q2, .slice B3 p3 q3, .slice B4 p4 q4] cd me 3 A5 nk c5 (l.take nk) (fun i hi => by have := hi.2; have := hA.size; omega) (HCD9.out.keep (Same.mono hA (fun i hi => hi.2))) (HEV9'.out.keep (Same.mono hA (fun i hi => hi.2))) (by rw [List.length_take]; omega)).mono ?_
      rintro e u1 ⟨cs5, rfl, hr5', hk11⟩
      obtain ⟨X1, X2, X3, X4, xn1, xc1, xn2, xc2, xn3, xc3, xn4, xc4, rfl, hr5⟩ := st_open hr5'
      clear hr5'
      have z1 := hk11.size
      have ha := Keep.trans hA hk11
      refine hK.out _ _ (SAB.both ha trivial) (fun hSS => ?_)
      clear hK K hA hB
      have hB := hSS.2
      have hA := hSS.1 (by kernel_rfl)
      (try dsimp only at hB); (try dsimp only at hA); clear hSS
      try simp only [Act.put, List.setIfInBounds_toArray, List.set_cons_zero, List.set_cons_succ]
      clear ha
      refine wpL_one (i := 6) (by kernel_rfl) (StepL.mk rfl (fun K hK => ?_))
      go_simp
      generalize hq : u1.alloc (.cells #[.slice none 0 0, .slice none 0 0, .slice none 0 0, .slice none 0 0] 27) = u2
      have hb6 : Blk u2 u1.heap.size 27 #[.slice none 0 0, .slice none 0 0, .slice none 0 0, .slice none 0 0] := hq ▸ Blk.new _ _ _
      have hk12 : Keep u1 u2 := hq ▸ Keep.new _ _
      clear hq
      have y6 := hb6.lt
      have z2 := hk12.size
      have ha := Keep.trans hA hk12
      refine hK.out _ _ (SAB.both ha trivial) (fun hSS => ?_)
      clear hK K hA hB
      have hB := hSS.2
      have hA := hSS.1 (by kernel_rfl)
      (try dsimp only at hB); (try dsimp only at hA); clear hSS
      try simp only [Act.put, List.setIfInBounds_toArray, List.set_cons_zero, List.set_cons_succ]
      clear ha
      have kk2 : Keep u2 u2 := Same.refl _ _
      have kk1 : Keep u1 u2 := Keep.trans hk12 kk2
      have zA := hA.size
      have b9 := kk2.blk hb6 y6
      have rr := hr5.keep (Same.mono kk1 (Sn.lt (fun i hi => by have := hi.2; omega) hk11.size))
      have bgx : ∀ i, Sn (New w9 w2.heap.size) u0 u1 i → Bx (u1.heap.size) u2 i := fun i hi => hi.elim (fun h => by have h1 := h.1; have h2 := h.2; exact ⟨by omega, by omega⟩) (fun h => by have h1 := h.1; have h2 := h.2; exact ⟨by omega, by omega⟩)
      refine wpL_one (i := 7) (by kernel_rfl) (StepL.mk rfl (fun K hK => ?_))
      refine step_store_blk rfl _ _ _ rfl (u1.heap.size) 0 27 _ [.slice X1 xn1 xc1, .slice X2 xn2 xc2, .slice X3 xn3 xc3, .slice X4 xn4 xc4] rfl rfl b9 (by simp) (by kernel_rfl) rfl ?_
      intro v5 hv5 hs5
      rw [splice_all [.slice X1 xn1 xc1, .slice X2 xn2 xc2, .slice X3 xn3 xc3, .slice X4 xn4 xc4] #[.slice none 0 0, .slice none 0 0, .slice none 0 0, .slice none 0 0] rfl] at hv5
      have zv := hs5.size
      have hfin : OneV w9 (replayS cd me 3 (l.take nk)) (.pointer (some ⟨u1.heap.size, 0, none⟩)) v5 := ⟨_, _, rfl, by omega, hv5, ((rr.more bgx).keep (hs5.mono (fun i hi => hi.2))).more (fun i hi => ⟨by have := hi.1; omega, hi.2⟩), Keep.write hA hs5 (by omega)⟩
      refine hK.out _ _ (SAB.past (by kernel_rfl) trivial) (fun hSS => ?_)
      clear hK K hA hB
      have hB := hSS.2
      have hA : True := trivial
      (try dsimp only at hB); (try dsimp only at hA); clear hSS
      try simp only [Act.put, List.setIfInBounds_toArray, List.set_cons_zero, List.set_cons_succ]
      refine wpL_done (by kernel_rfl) ?_
      have HFIN := Lib.hid hfin
      clear hfin
      clear hv5 hs5 rr bgx b9 kk1 kk2 hb6 hr5 hA hB hk11 hk12
      go_wp2_with fail
      go_meet
      exact HFIN.out
    · go_simp
      generalize hq : u0.alloc (.cells #[.slice none 0 0, .slice none 0 0, .slice none 0 0, .slice none 0 0] 27) = u1
      have hb6 : Blk u1 u0.heap.size 27 #[.slice none 0 0, .slice none 0 0, .slice none 0 0, .slice none 0 0] := hq ▸ Blk.new _ _ _
      have hk11 : Keep u0 u1 := hq ▸ Keep.new _ _
      clear hq
      have y6 := hb6.lt
      have z1 := hk11.size
      have ha := Keep.trans hA hk11
      refine hK.out _ _ (SAB.both ha trivial) (fun hSS => ?_)
      clear hK K hA hB
      have hB := hSS.2
      have hA := hSS.1 (by kernel_rfl)
      (try dsimp only at hB); (try dsimp only at hA); clear hSS
      try simp only [Act.put, List.setIfInBounds_toArray, List.set_cons_zero, List.set_cons_succ]
      clear ha
      refine wpL_one (i := 5) (by kernel_rfl) (StepL.mk rfl (fun K hK => ?_))
      go_simp
      refine (preplay_any u1 (New w9 w2.heap.size) [.slice B0 p0 q0, .slice B1 p1 q1, .slice B2 p2 q2, .slice B3 p3 q3, .slice B4 p4 q4] cd me 3 A5 nk c5 (l.take nk) (fun i hi => by have := hi.2; have := hA.size; omega) (HCD9.out.keep (Same.mono hA (fun i hi => hi.2))) (HEV9'.out.keep (Same.mono hA (fun i hi => hi.2))) (by rw [List.length_take]; omega)).mono ?_
      rintro e u2 ⟨cs5, rfl, hr5', hk12⟩
      obtain ⟨X1, X2, X3, X4, xn1, xc1, xn2, xc2, xn3, xc3, xn4, xc4, rfl, hr5⟩ := st_open hr5'
      clear hr5'
      have z2 := hk12.size
      have ha := Keep.trans hA hk12
      refine hK.out _ _ (SAB.both ha trivial) (fun hSS => ?_)
      clear hK K hA hB
      have hB := hSS.2
      have hA := hSS.1 (by kernel_rfl)
      (try dsimp only at hB); (try dsimp only at hA); clear hSS
      try simp only [Act.put, List.setIfInBounds_toArray, List.set_cons_zero, List.set_cons_succ]
      clear ha
      have kk2 : Keep u2 u2 := Same.refl _ _
      have kk1 : Keep u1 u2 := Keep.trans hk12 kk2
      have zA := hA.size
      have b9 := kk1.blk hb6 y6
      have rr := hr5.keep (Same.mono kk2 (Sn.lt (fun i hi => by have := hi.2; omega) hk12.size))
      have bgx : ∀ i, Sn (New w9 w2.heap.size) u1 u2 i → Bx (u0.heap.size) u2 i := fun i hi => hi.elim (fun h => by have h1 := h.1; have h2 := h.2; exact ⟨by omega, by omega⟩) (fun h => by have h1 := h.1; have h2 := h.2; exact ⟨by omega, by omega⟩)
      refine wpL_one (i := 7) (by kernel_rfl) (StepL.mk rfl (fun K hK => ?_))
      refine step_store_blk rfl _ _ _ rfl (u0.heap.size) 0 27 _ [.slice X1 xn1 xc1, .slice X2 xn2 xc2, .slice X3 xn3 xc3, .slice X4 xn4 xc4] rfl rfl b9 (by simp) (by kernel_rfl) rfl ?_
      intro v5 hv5 hs5
      rw [splice_all [.slice X1 xn1 xc1, .slice X2 xn2 xc2, .slice X3 xn3 xc3, .slice X4 xn4 xc4] #[.slice none 0 0, .slice none 0 0, .slice none 0 0, .slice none 0 0] rfl] at hv5
      have zv := hs5.size
      have hfin : OneV w9 (replayS cd me 3 (l.take nk)) (.pointer (some ⟨u0.heap.size, 0, none⟩)) v5 := ⟨_, _, rfl, by omega, hv5, ((rr.more bgx).keep (hs5.mono (fun i hi => hi.2))).more (fun i hi => ⟨by have := hi.1; omega, hi.2⟩), Keep.write hA hs5 (by omega)⟩
      refine hK.out _ _ (SAB.past (by kernel_rfl) trivial) (fun hSS => ?_)
      clear hK K hA hB
      have hB := hSS.2
      have hA : True := trivial
      (try dsimp only at hB); (try dsimp only at hA); clear hSS
      try simp only [Act.put, List.setIfInBounds_toArray, List.set_cons_zero, List.set_cons_succ]
      refine wpL_done (by kernel_rfl) ?_
      have HFIN := Lib.hid hfin
      clear hfin
      clear hv5 hs5 rr bgx b9 kk1 kk2 hb6 hr5 hA hB hk11 hk12
      go_wp2_with fail
      go_meet
      exact HFIN.out
  case rest =>
    obtain ⟨g, cs, rfl, hg, bg, rx', sm⟩ := hcut
    obtain ⟨X1, X2, X3, X4, xn1, xc1, xn2, xc2, xn3, xc3, xn4, xc4, rfl, rx⟩ := st_open rx'
    have hzc := sm.size
    have hlg := bg.lt
    have hfa := fine_replay cd me (l.take nk) HCI.out (by rw [List.length_take]; omega)
    have hrac := HRA9.out.keep (Same.mono sm (fun i hi => hi.2))
    have bf := sm.blk HB9.out HB9.out.lt
    have be := sm.blk HBS9.out HBS9.out.lt
    have key1 := psame_any wc (fun i => i < wc.heap.size) [.slice F1 fn1 fc1, .slice F2 fn2 fc2, .slice F3 fn3 fc3, .slice F4 fn4 fc4] [.slice X1 xn1 xc1, .slice X2 xn2 xc2, .slice X3 xn3 xc3, .slice X4 xn4 xc4] _ _ (fun i hi => hi) (hrac.more (fun i hi => by have := hi.2; omega)) (rx.more (fun i hi => hi.1)) hfa hfa
    have key2 := fun (wx : World) (hx : Keep wc wx) => rsame_any wx (fun i => i < wc.heap.size) [.slice F1 fn1 fc1, .slice F2 fn2 fc2, .slice F3 fn3 fc3, .slice F4 fn4 fc4] [.slice X1 xn1 xc1, .slice X2 xn2 xc2, .slice X3 xn3 xc3, .slice X4 xn4 xc4] _ _ (fun i hi => Nat.lt_of_lt_of_le hi hx.size) ((hrac.more (fun i hi => by have := hi.2; omega)).keep hx) ((rx.more (fun i hi => hi.1)).keep hx) hfa hfa
    have KEY1 := Lib.hid key1
    have KEY2 := Lib.hid key2
    have BF := Lib.hid bf
    have BE := Lib.hid be
    have BG := Lib.hid bg
    have SM := Lib.hid sm
    clear key1 key2 bf be bg sm
    clear rx' rx hrac hfa
    go_wp2_with (first
      | (refine wpList_load_allg (by rfl) _ (.tmp 13) rfl w8.heap.size 27 [.slice F1 fn1 fc1, .slice F2 fn2 fc2, .slice F3 fn3 fc3, .slice F4 fn4 fc4] _ rfl BF.out Tryd.underlying27 rfl (by kernel_rfl) ?_)
      | (refine wpList_load_allg (by rfl) _ (.tmp 15) rfl g 27 [.slice X1 xn1 xc1, .slice X2 xn2 xc2, .slice X3 xn3 xc3, .slice X4 xn4 xc4] _ rfl BG.out Tryd.underlying27 rfl (by kernel_rfl) ?_))
    refine KEY1.out.mono ?_
    rintro e wp ⟨bp, hbp, rfl, hkp⟩
    obtain rfl : bp = true := hbp.2 (by simp)
    have bfp := hkp.blk BF.out BF.out.lt
    have bgp := hkp.blk BG.out BG.out.lt
    have key2 := KEY2.out wp hkp
    have BFP := Lib.hid bfp
    have BGP := Lib.hid bgp
    have KEY2 := Lib.hid key2
    have HKP := Lib.hid hkp
    clear bfp bgp key2 hkp
    clear hbp KEY1
    go_wp2_with (first
      | (refine wpList_load_allg (by rfl) _ (.tmp 13) rfl w8.heap.size 27 [.slice F1 fn1 fc1, .slice F2 fn2 fc2, .slice F3 fn3 fc3, .slice F4 fn4 fc4] _ rfl BFP.out Tryd.underlying27 rfl (by kernel_rfl) ?_)
      | (refine wpList_load_allg (by rfl) _ (.tmp 15) rfl g 27 [.slice X1 xn1 xc1, .slice X2 xn2 xc2, .slice X3 xn3 xc3, .slice X4 xn4 xc4] _ rfl BGP.out Tryd.underlying27 rfl (by kernel_rfl) ?_))
    refine KEY2.out.mono ?_
    rintro e wq ⟨bq, hbq, rfl, hkq'⟩
    obtain rfl : bq = true := hbq.2 (by simp)
    have hkq := Keep.trans HKP.out hkq'
    have hzq := hkq.size
    have hk9q := Keep.trans SM.out hkq
    have bfq := hkq.blk BF.out BF.out.lt
    have beq := hkq.blk BE.out BE.out.lt
    have f2 : wq.cell? ⟨w8.heap.size, 2, none⟩ = some (.slice F3 fn3 fc3) := by rw [bfq.cell]; rfl
    have f3 : wq.cell? ⟨w8.heap.size, 3, none⟩ = some (.slice F4 fn4 fc4) := by rw [bfq.cell]; rfl
    have e2 : wq.cell? ⟨w6.heap.size, 2, none⟩ = some (.slice E3 en3 ec3) := by rw [beq.cell]; rfl
    have e3 : wq.cell? ⟨w6.heap.size, 3, none⟩ = some (.slice E4 en4 ec4) := by rw [beq.cell]; rfl
    obtain ⟨-, -, x3, x4⟩ := st_sl HRS9.out
    obtain ⟨-, -, y3, y4⟩ := st_sl HRA9.out
    obtain ⟨⟨la, hla⟩, lb, hlb⟩ := HPRE.out nk
    have h3 : fn3 ≤ en3 := by have h1 := x3.1; have h2 := y3.1; rw [hla, List.length_append] at h1; omega
    have h4 : fn4 ≤ en4 := by have h1 := x4.1; have h2 := y4.1; rw [hlb, List.length_append] at h1; omega
    have hlen := replayS_len cd me 3 l
    have h5 : en3 ≤ 80 := by have := x3.1; omega
    have h6 : en4 ≤ 80 := by have := x4.1; omega
    have d3 : decide (en3 < fn3) = false := by simpa using h3
    have d4 : decide (en4 < fn4) = false := by simpa using h4
    have hrel0 : LP1 wq n5 k (.int .i64 0) (wq.alloc (.cells #[.int .i64 (-1), .int .i64 (n5 + 1), .int .i64 k] 3)) := ⟨0, rfl, by omega, Blk.new _ _ _, Keep.new _ _⟩
    have BFQ := Lib.hid bfq
    have BEQ := Lib.hid beq
    have HK9Q := Lib.hid hk9q
    have HREL0 := Lib.hid hrel0
    have HLA := Lib.hid hla
    have HLB := Lib.hid hlb
    have X3 := Lib.hid x3
    have X4 := Lib.hid x4
    have Y3 := Lib.hid y3
    have Y4 := Lib.hid y4
    clear bfq beq hk9q hrel0 hla hlb x3 x4 y3 y4
    clear hbq hkq' hkq KEY2 hlen
    go_wp2_with fail
    clear f2 f3 e2 e3
    go_loopw [92] (fun i wr => LP1 wq n5 k i wr) (fun i _ => 3 - (intOf i).toNat)
    case atStart => exact HREL0.out
    case round =>
      clear HREL0
      obtain ⟨j, rfl, hj3, hbj, hkr⟩ := hrel
      have hzr := hkr.size
      have hk9r := Keep.trans HK9Q.out hkr
      by_cases hjn : j < 3
      · obtain ⟨m, hm⟩ := three_at (-1) (n5 + 1) k j hjn
        have hd1 : decide ((j : Int) < 3) = true := by simp; omega
        have hd2 : (0 : Int) ≤ j := by omega
        have hd3 : (j : Int) < 3 := by omega
        have hcm : wr.cell? ⟨wq.heap.size, j, none⟩ = some (.int .i64 m) := by rw [hbj.cell]; exact hm
        have bcr := hk9r.blk HBC9.out HBC9.out.lt
        have ber := hk9r.blk HBS9.out HBS9.out.lt
        have key := pat_any wr (New w9 w2.heap.size) [.slice B0 p0 q0, .slice B1 p1 q1, .slice B2 p2 q2, .slice B3 p3 q3, .slice B4 p4 q4] [.slice E1 en1 ec1, .slice E2 en2 ec2, .slice E3 en3 ec3, .slice E4 en4 ec4] cd (replayS cd me 3 l) me 3 m (fun i hi => by have := hi.2; omega) (HCD9.out.keep (Same.mono hk9r (fun i hi => hi.2))) (HRS9.out.keep (Same.mono hk9r (fun i hi => hi.2))) (by rw [HSE.out]; omega)
        have KEY := Lib.hid key
        have BCR := Lib.hid bcr
        have BER := Lib.hid ber
        have HKR := Lib.hid hkr
        have HK9R := Lib.hid hk9r
        have HBJ := Lib.hid hbj
        clear key bcr ber hkr hk9r hbj
        clear hm
        go_wp2_with (first
          | (refine wpList_load_all rfl _ (.tmp 8) rfl w3.heap.size 38 [.slice B0 p0 q0, .slice B1 p1 q1, .slice B2 p2 q2, .slice B3 p3 q3, .slice B4 p4 q4] _ rfl BCR.out Tryd.underlying38 rfl (by kernel_rfl) ?_)
          | (refine wpList_load_all rfl _ (.tmp 11) rfl w6.heap.size 27 [.slice E1 en1 ec1, .slice E2 en2 ec2, .slice E3 en3 ec3, .slice E4 en4 ec4] _ rfl BER.out Tryd.underlying27 rfl (by kernel_rfl) ?_))
        refine KEY.out.mono ?_
        rintro e w13 ⟨cs13, b13, t13, rfl, hb13, -, hf13, hr13', hk13⟩
        obtain ⟨Y1, Y2, Y3, Y4, yn1, yc1, yn2, yc2, yn3, yc3, yn4, yc4, rfl, hr13⟩ := st_open hr13'
        have hz13 := hk13.size
        have hb13' : b13 = true ↔ 0 ≤ m ∧ m ≤ n5 := by rw [hb13, HSE.out, HLN.out]
        clear hb13 hr13' KEY hcm
        have hfin : ∀ w', Keep w13 w' → LP1 wq n5 k (.int .i64 (j + 1)) w' := fun w' hk' => ⟨j + 1, by simp, by omega, hk'.blk (hk13.blk HBJ.out HBJ.out.lt) (Nat.lt_of_lt_of_le HBJ.out.lt hk13.size), Keep.trans HKR.out (Keep.trans hk13 hk')⟩
        by_cases hin : 0 ≤ m ∧ m ≤ n5
        · obtain rfl : b13 = true := hb13'.2 hin
          have t1 : decide (0 ≤ m) = true := by simpa using hin.1
          have t2 : decide (m ≤ (n5 : Int)) = true := by simpa using hin.2
          have HFIN := Lib.hid hfin
          clear hfin
          clear hb13' hf13 hr13 hk13 hin
          go_upto_region 17 with (refine wpList_store_all rfl _ (.tmp 18) (.tmp 102) rfl w13.heap.size 27 _ [.slice Y1 yn1 yc1, .slice Y2 yn2 yc2, .slice Y3 yn3 yc3, .slice Y4 yn4 yc4] rfl rfl (Blk.new _ _ _) rfl (by kernel_rfl) rfl ?_; intro w14 hb14 hs14)
          have hfin := HFIN.out _ (Keep.write (Keep.new _ _) hs14 (Nat.le_refl _))
          clear HFIN hb14 hs14
          have HFIN := Lib.hid hfin
          clear hfin
          go_wp2_with fail
          go_roundw
          case rel => exact HFIN.out
          case measure => simp [intOf]; omega
        · obtain rfl : b13 = false := by cases b13 with | false => rfl | true => exact absurd (hb13'.1 rfl) hin
          have ht := hf13 rfl
          subst ht
          obtain ⟨s1, s2, -, -⟩ := st_sl hr13
          obtain rfl : yn1 = 0 := s1.1
          obtain rfl : yn2 = 0 := s2.1
          have HFIN := Lib.hid hfin
          clear hfin
          clear hb13' hf13 hr13 hk13 s1 s2
          go_upto_region 17 with (refine wpList_store_all rfl _ (.tmp 18) (.tmp 102) rfl w13.heap.size 27 _ [.slice Y1 0 yc1, .slice Y2 0 yc2, .slice Y3 yn3 yc3, .slice Y4 yn4 yc4] rfl rfl (Blk.new _ _ _) rfl (by kernel_rfl) rfl ?_; intro w14 hb14 hs14)
          have y0 : w14.cell? ⟨w13.heap.size, 0, none⟩ = some (.slice Y1 0 yc1) := by rw [hb14.cell]; rfl
          have y1 : w14.cell? ⟨w13.heap.size, 1, none⟩ = some (.slice Y2 0 yc2) := by rw [hb14.cell]; rfl
          have hfin := HFIN.out _ (Keep.write (Keep.new _ _) hs14 (Nat.le_refl _))
          clear HFIN hb14 hs14
          have HFIN := Lib.hid hfin
          clear hfin
          by_cases hm0 : 0 ≤ m
          · have t1 : decide (0 ≤ m) = true := by simpa using hm0
            have t2 : decide (m ≤ (n5 : Int)) = false := by simp; omega
            clear hin
            go_wp2_with fail
            go_roundw
            case rel => exact HFIN.out
            case measure => simp [intOf]; omega
          · have t1 : decide (0 ≤ m) = false := by simp; omega
            clear hin
            go_wp2_with fail
            go_roundw
            case rel => exact HFIN.out
            case measure => simp [intOf]; omega
      · have hd1 : decide ((j : Int) < 3) = false := by simp; omega
        have bfr := hkr.blk BFQ.out BFQ.out.lt
        have ber := hkr.blk BEQ.out BEQ.out.lt
        have BFR := Lib.hid bfr
        have BER := Lib.hid ber
        have HKR := Lib.hid hkr
        have HK9R := Lib.hid hk9r
        clear bfr ber hkr hk9r
        clear hbj
        go_upto_region 20 with fail
        have f2 : ∀ wx, Keep wr wx → wx.cell? ⟨w8.heap.size, 2, none⟩ = some (.slice F3 fn3 fc3) := fun wx hx => by rw [(hx.blk BFR.out BFR.out.lt).cell]; rfl
        have f3 : ∀ wx, Keep wr wx → wx.cell? ⟨w8.heap.size, 3, none⟩ = some (.slice F4 fn4 fc4) := fun wx hx => by rw [(hx.blk BFR.out BFR.out.lt).cell]; rfl
        have e2 : ∀ wx, Keep wr wx → wx.cell? ⟨w6.heap.size, 2, none⟩ = some (.slice E3 en3 ec3) := fun wx hx => by rw [(hx.blk BER.out BER.out.lt).cell]; rfl
        have e3 : ∀ wx, Keep wr wx → wx.cell? ⟨w6.heap.size, 3, none⟩ = some (.slice E4 en4 ec4) := fun wx hx => by rw [(hx.blk BER.out BER.out.lt).cell]; rfl
        have v3 : (fn3 : Int) ≤ ec3 := by have := X3.out.2.1; omega
        have v4 : (fn4 : Int) ≤ ec4 := by have := X4.out.2.1; omega
        have v5 : (0 : Int) ≤ fn3 := by omega
        have v6 : (0 : Int) ≤ fn4 := by omega
        refine wp_region_L 99 (fun _ => True) (fun wx => Keep wr wx) (by kernel_rfl) trivial (Same.drew (Same.refl _ _)) (fun hA hB => ?_)
        have z0 : wr.heap.size ≤ wr.drew.heap.size := Nat.le_refl _
        generalize hu0 : wr.drew = u0 at hB z0 ⊢
        clear hu0
        refine wpL_takeB (i := 0) (v := ?_) rfl (by kernel_rfl) (by kernel_rfl) (by kernel_rfl) (by decide) (fun _ _ _ h => h) (Or.inl ⟨by rfl, ?_⟩) (SAB.both hA hB) ?_
        rotate_left
        · intro wx hBx
          (try dsimp only at hBx)
          go_simp
          try with_reducible rfl
        try simp only [Act.put, List.setIfInBounds_toArray, List.set_cons_zero, List.set_cons_succ]
        refine wpL_takeB (i := 1) (v := ?_) rfl (by kernel_rfl) (by kernel_rfl) (by kernel_rfl) (by decide) (fun _ _ _ h => h) (Or.inl ⟨by rfl, ?_⟩) (SAB.both hA hB) ?_
        rotate_left
        · intro wx hBx
          (try dsimp only at hBx)
          go_simp
          try with_reducible rfl
        try simp only [Act.put, List.setIfInBounds_toArray, List.set_cons_zero, List.set_cons_succ]
        refine wpL_takeB (i := 2) (v := ?_) rfl (by kernel_rfl) (by kernel_rfl) (by kernel_rfl) (by decide) (fun _ _ _ h => h) (Or.inl ⟨by rfl, ?_⟩) (SAB.both hA hB) ?_
        rotate_left
        · intro wx hBx
          (try dsimp only at hBx)
          go_simp
          try with_reducible rfl
        try simp only [Act.put, List.setIfInBounds_toArray, List.set_cons_zero, List.set_cons_succ]
        refine wpL_takeB (i := 3) (v := ?_) rfl (by kernel_rfl) (by kernel_rfl) (by kernel_rfl) (by decide) (fun _ _ _ h => h) (Or.inl ⟨by rfl, ?_⟩) (SAB.both hA hB) ?_
        rotate_left
        · intro wx hBx
          (try dsimp only at hBx)
          go_simp
          try with_reducible rfl
        try simp only [Act.put, List.setIfInBounds_toArray, List.set_cons_zero, List.set_cons_succ]
        refine wpL_takeB (i := 4) (v := ?_) rfl (by kernel_rfl) (by kernel_rfl) (by kernel_rfl) (by decide) (fun _ _ _ h => h) (Or.inl ⟨by rfl, ?_⟩) (SAB.both hA hB) ?_
        rotate_left
        · intro wx hBx
          (try dsimp only at hBx)
          go_simp
          try with_reducible rfl
        try simp only [Act.put, List.setIfInBounds_toArray, List.set_cons_zero, List.set_cons_succ]
        refine wpL_takeB (i := 5) (v := ?_) rfl (by kernel_rfl) (by kernel_rfl) (by kernel_rfl) (by decide) (fun _ _ _ h => h) (Or.inl ⟨by rfl, ?_⟩) (SAB.both hA hB) ?_
        rotate_left
        · intro wx hBx
          (try dsimp only at hBx)
          go_simp
          try with_reducible rfl
        try simp only [Act.put, List.setIfInBounds_toArray, List.set_cons_zero, List.set_cons_succ]
        refine wpL_takeB (i := 6) (v := ?_) rfl (by kernel_rfl) (by kernel_rfl) (by kernel_rfl) (by decide) (fun _ _ _ h => h) (Or.inl ⟨by rfl, ?_⟩) (SAB.both hA hB) ?_
        rotate_left
        · intro wx hBx
          (try dsimp only at hBx)
          go_simp
          try with_reducible rfl
        try simp only [Act.put, List.setIfInBounds_toArray, List.set_cons_zero, List.set_cons_succ]
        refine wpL_takeB (i := 7) (v := ?_) rfl (by kernel_rfl) (by kernel_rfl) (by kernel_rfl) (by decide) (fun _ _ _ h => h) (Or.inl ⟨by rfl, ?_⟩) (SAB.both hA hB) ?_
        rotate_left
        · intro wx hBx
          (try dsimp only at hBx)
          go_simp
          try with_reducible rfl
        try simp only [Act.put, List.setIfInBounds_toArray, List.set_cons_zero, List.set_cons_succ]
        have hea : (replayS cd me 3 (l.take nk)).sent = (replayS cd me 3 l).sent.take fn3 := by rw [HLA.out, List.take_left' Y3.out.1.symm]
        have heb : (replayS cd me 3 (l.take nk)).outs = (replayS cd me 3 l).outs.take fn4 := by rw [HLB.out, List.take_left' Y4.out.1.symm]
        have key1 := fun (wx : World) (hx : Keep wr wx) => sameSends_is wx (New w9 w2.heap.size) (New w9 w2.heap.size) F3 E3 fn3 fn3 fc3 ec3 _ _ (Y3.out.keep (Same.mono (Keep.trans HK9R.out hx) (fun i hi => hi.2))) ((X3.out.to_ encSnd_len h3).keep (Same.mono (Keep.trans HK9R.out hx) (fun i hi => hi.2))) (by omega) (by omega)
        have key2 := fun (wx : World) (hx : Keep wr wx) => sameOuts_is wx (New w9 w2.heap.size) (New w9 w2.heap.size) F4 E4 fn4 fn4 fc4 ec4 _ _ (Y4.out.keep (Same.mono (Keep.trans HK9R.out hx) (fun i hi => hi.2))) ((X4.out.to_ encOut_len h4).keep (Same.mono (Keep.trans HK9R.out hx) (fun i hi => hi.2))) (by omega) (by omega)
        have HEA := Lib.hid hea
        have HEB := Lib.hid heb
        have KEY1 := Lib.hid key1
        have KEY2 := Lib.hid key2
        clear hea heb key1 key2
        refine wpL_one (i := 8) (by kernel_rfl) (StepL.mk rfl (fun K hK => ?_))
        go_simp
        refine (KEY1.out u0 hB).mono ?_
        rintro e u1 ⟨b1, hb1, rfl, k1, hw1⟩
        obtain rfl : b1 = true := hb1.2 HEA.out
        have ha : Keep wr u1 := Keep.trans hB (hw1 ▸ Keep.draws u0 k1)
        clear hw1 hb1
        refine hK.out _ _ (SAB.both trivial ha) (fun hSS => ?_)
        clear hK K hA hB
        have hB := hSS.2
        have hA := hSS.1 (by kernel_rfl)
        (try dsimp only at hB); (try dsimp only at hA); clear hSS
        try simp only [Act.put, List.setIfInBounds_toArray, List.set_cons_zero, List.set_cons_succ]
        refine wpL_takeB (i := 9) (v := ?_) rfl (by kernel_rfl) (by kernel_rfl) (by kernel_rfl) (by decide) (fun _ _ _ h => h) (Or.inl ⟨by rfl, ?_⟩) (SAB.both hA hB) ?_
        rotate_left
        · intro wx hBx
          (try dsimp only at hBx)
          go_simp
          try with_reducible rfl
        try simp only [Act.put, List.setIfInBounds_toArray, List.set_cons_zero, List.set_cons_succ]
        refine wpL_takeB (i := 10) (v := ?_) rfl (by kernel_rfl) (by kernel_rfl) (by kernel_rfl) (by decide) (fun _ _ _ h => h) (Or.inl ⟨by rfl, ?_⟩) (SAB.both hA hB) ?_
        rotate_left
        · intro wx hBx
          (try dsimp only at hBx)
          go_simp
          try with_reducible rfl
        try simp only [Act.put, List.setIfInBounds_toArray, List.set_cons_zero, List.set_cons_succ]
        refine wpL_takeB (i := 11) (v := ?_) rfl (by kernel_rfl) (by kernel_rfl) (by kernel_rfl) (by decide) (fun _ _ _ h => h) (Or.inl ⟨by rfl, ?_⟩) (SAB.both hA hB) ?_
        rotate_left
        · intro wx hBx
          (try dsimp only at hBx)
          go_simp
          try with_reducible rfl
        try simp only [Act.put, List.setIfInBounds_toArray, List.set_cons_zero, List.set_cons_succ]
        refine wpL_takeB (i := 12) (v := ?_) rfl (by kernel_rfl) (by kernel_rfl) (by kernel_rfl) (by decide) (fun _ _ _ h => h) (Or.inl ⟨by rfl, ?_⟩) (SAB.both hA hB) ?_
        rotate_left
        · intro wx hBx
          (try dsimp only at hBx)
          go_simp
          try with_reducible rfl
        try simp only [Act.put, List.setIfInBounds_toArray, List.set_cons_zero, List.set_cons_succ]
        refine wpL_takeB (i := 13) (v := ?_) rfl (by kernel_rfl) (by kernel_rfl) (by kernel_rfl) (by decide) (fun _ _ _ h => h) (Or.inl ⟨by rfl, ?_⟩) (SAB.both hA hB) ?_
        rotate_left
        · intro wx hBx
          (try dsimp only at hBx)
          go_simp
          try with_reducible rfl
        try simp only [Act.put, List.setIfInBounds_toArray, List.set_cons_zero, List.set_cons_succ]
        refine wpL_takeB (i := 14) (v := ?_) rfl (by kernel_rfl) (by kernel_rfl) (by kernel_rfl) (by decide) (fun _ _ _ h => h) (Or.inl ⟨by rfl, ?_⟩) (SAB.both hA hB) ?_
        rotate_left
        · intro wx hBx
          (try dsimp only at hBx)
          go_simp
          try with_reducible rfl
        try simp only [Act.put, List.setIfInBounds_toArray, List.set_cons_zero, List.set_cons_succ]
        refine wpL_takeB (i := 15) (v := ?_) rfl (by kernel_rfl) (by kernel_rfl) (by kernel_rfl) (by decide) (fun _ _ _ h => h) (Or.inl ⟨by rfl, ?_⟩) (SAB.both hA hB) ?_
        rotate_left
        · intro wx hBx
          (try dsimp only at hBx)
          go_simp
          try with_reducible rfl
        try simp only [Act.put, List.setIfInBounds_toArray, List.set_cons_zero, List.set_cons_succ]
        refine wpL_takeB (i := 16) (v := ?_) rfl (by kernel_rfl) (by kernel_rfl) (by kernel_rfl) (by decide) (fun _ _ _ h => h) (Or.inl ⟨by rfl, ?_⟩) (SAB.both hA hB) ?_
        rotate_left
        · intro wx hBx
          (try dsimp only at hBx)
          go_simp
          try with_reducible rfl
        try simp only [Act.put, List.setIfInBounds_toArray, List.set_cons_zero, List.set_cons_succ]
        refine wpL_takeB (i := 17) (v := ?_) rfl (by kernel_rfl) (by kernel_rfl) (by kernel_rfl) (by decide) (fun _ _ _ h => h) (Or.inl ⟨by rfl, ?_⟩) (SAB.both hA hB) ?_
        rotate_left
        · intro wx hBx
          (try dsimp only at hBx)
          go_simp
          try with_reducible rfl
        try simp only [Act.put, List.setIfInBounds_toArray, List.set_cons_zero, List.set_cons_succ]
        refine wpL_one (i := 18) (by kernel_rfl) (StepL.mk rfl (fun K hK => ?_))
        go_simp
        refine (KEY2.out u1 hB).mono ?_
        rintro e u2 ⟨b2, hb2, rfl, k2, hw2⟩
        obtain rfl : b2 = true := hb2.2 HEB.out
        have ha2 : Keep wr u2 := Keep.trans hB (hw2 ▸ Keep.draws u1 k2)
        clear hw2 hb2
        have hfin : AwPost w (.returned (.bool true)) u2 := ⟨rfl, Keep.trans HKW9.out (Keep.trans HK9R.out ha2)⟩
        refine hK.out _ _ (SAB.both trivial ha2) (fun hSS => ?_)
        clear hK K hA hB
        have hB := hSS.2
        have hA := hSS.1 (by kernel_rfl)
        (try dsimp only at hB); (try dsimp only at hA); clear hSS
        try simp only [Act.put, List.setIfInBounds_toArray, List.set_cons_zero, List.set_cons_succ]
        refine wpL_takeB (i := 19) (v := ?_) rfl (by kernel_rfl) (by kernel_rfl) (by kernel_rfl) (by decide) (fun _ _ _ h => h) (Or.inl ⟨by rfl, ?_⟩) (SAB.both hA hB) ?_
        rotate_left
        · intro wx hBx
          (try dsimp only at hBx)
          go_simp
          try with_reducible rfl
        try simp only [Act.put, List.setIfInBounds_toArray, List.set_cons_zero, List.set_cons_succ]
        refine wpL_takeB (i := 20) (v := ?_) rfl (by kernel_rfl) (by kernel_rfl) (by kernel_rfl) (by decide) (fun _ _ _ h => h) (Or.inl ⟨by rfl, ?_⟩) (SAB.both hA hB) ?_
        rotate_left
        · intro wx hBx
          (try dsimp only at hBx)
          go_simp
          try with_reducible rfl
        try simp only [Act.put, List.setIfInBounds_toArray, List.set_cons_zero, List.set_cons_succ]
        refine wpL_done (by kernel_rfl) ?_
        have HFIN := Lib.hid hfin
        clear hfin
        clear hB hA f2 f3 e2 e3 ha ha2
        go_wp2_with fail
        go_ret
        exact HFIN.out
end Go.Proofs.YtecckbkobkfnmaaDoor
