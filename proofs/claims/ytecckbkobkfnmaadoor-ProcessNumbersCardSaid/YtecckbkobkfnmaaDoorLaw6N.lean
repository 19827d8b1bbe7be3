/- The law ProcessNumbers: written by gen_law6n.py. -/
import Derived.Test.YtecckbkobkfnmaaDoorGM
import Derived.Test.YtecckbkobkfnmaaDoorGP
import Derived.Test.YtecckbkobkfnmaaDoorNum
import Derived.Test.YtecckbkobkfnmaaDoorAid6
set_option linter.unusedVariables false
set_option linter.unusedSimpArgs false
set_option maxRecDepth 100000
namespace Go.Proofs.YtecckbkobkfnmaaDoor
open Go.RowKit Go.Proofs


/-- A variable that holds the replay of some events. -/
def S8 (W : World) (gc : Nat) (cd : Cd) (me : Int) (p : Value) (wx : World) : Prop := ∃ (g : Nat) (cs : List Value) (l : List Ev), p = .pointer (some ⟨g, 0, none⟩) ∧ W.heap.size ≤ g ∧ l.length ≤ 8 ∧ Blk wx g 27 cs.toArray ∧ StR wx (Bx g wx) cs (replayS cd me 3 l) ∧ Only gc W wx
def LN1 (W : World) (s : St) (me : Int) (a b i : Value) (wr : World) : Prop := ∃ (k : Nat) (ix o : Int), i = .int .i64 k ∧ a = .int .i64 ix ∧ b = .int .i64 o ∧ 0 ≤ ix ∧ ix ≤ s.events.length ∧ -1 ≤ o ∧ o < 8 ∧ Nmb s.events.length me ix o (s.sent.drop k) ∧ Keep W wr
def LN2 (W : World) (s : St) (a i : Value) (wr : World) : Prop := ∃ (k : Nat) (ix : Int), i = .int .i64 k ∧ a = .int .i64 ix ∧ 0 ≤ ix ∧ ix ≤ s.events.length ∧ Onb s.events.length ix (s.outs.drop k) ∧ Keep W wr
set_option maxHeartbeats 32000000 in
theorem processNumbers_walk (w : World) (A : Option Addr) (n c : Nat) (zs : List Int) (self : Int) (hs0 : 0 ≤ self) (hs1 : self < 256) (hg : Glob w) (hz : Sl encB 1 w (· < w.heap.size) A n c zs) (hz8 : ∀ y ∈ zs, 0 ≤ y ∧ y < 256) :
    Calls Tryd.prog 4 #[.slice A n c, .int .u8 self] w (AwPost w) := by
  have HG := Lib.hid hg
  have HZ := Lib.hid hz
  have HZ8 := Lib.hid hz8
  clear hg hz hz8
  go_enter Tryd.func4, Tryd.ntmps4
  go_wp2_with fail
  refine (awake06_any w).mono ?_
  rintro e w1 ⟨rfl, hk1⟩
  have hz1 := hk1.size
  have HK1 := Lib.hid hk1
  clear hk1
  go_wp2_with fail
  refine (new_any w1 A n c 240 zs (fun i => i < w.heap.size) (fun i hi => by omega) (HZ.out.keep HK1.out) HZ8.out (by omega)).mono ?_
  rintro e w2 ⟨r, hr, rfl, hc2, hk2⟩
  have hz2 := hk2.size
  have hk2' := Keep.trans HK1.out hk2
  have hg2 := HG.out.keep hk2'
  have hgc := hc2.lt
  generalize hgce : w1.heap.size = gc at *
  have HK2' := Lib.hid hk2'
  have HG2 := Lib.hid hg2
  have HC2 := Lib.hid hc2
  clear hk2' hg2 hc2
  clear hk2
  go_wp2_with fail
  refine (code_any w2 _ gc r HC2.out HG2.out).mono ?_
  rintro e w3 ⟨cs3, cd, r3, rfl, hcd, hc3, ho3⟩
  have hz3 := ho3.size
  obtain ⟨B0, B1, B2, B3, B4, p0, q0, p1, q1, p2, q2, p3, q3, p4, q4, rfl, hcx⟩ := cd_open hcd
  have hk3 : Keep w w3 := Same.trans HK2'.out ho3 (fun i hi => by omega)
  have hci : cd.init.length ≤ 1000000 := by obtain ⟨_, _, _, _, _, _, _, _, _, _, _, _, _, _, _, _, _, _, _, _, _, h⟩ := hcx; exact h
  have HCX := Lib.hid hcx
  have HC3 := Lib.hid hc3
  have HK3 := Lib.hid hk3
  have HCI := Lib.hid hci
  clear hcx hc3 hk3 hci
  clear hcd
  clear ho3
  go_upto_region 6 with (refine wpList_store_all rfl _ (.tmp 6) (.tmp 20) rfl w3.heap.size 38 _ [.slice B0 p0 q0, .slice B1 p1 q1, .slice B2 p2 q2, .slice B3 p3 q3, .slice B4 p4 q4] rfl rfl (Blk.new _ _ _) rfl (by kernel_rfl) rfl ?_; intro w4 hb4 hs4)
  generalize hme : self % 3 = me at *
  clear hme
  have hk4 : Keep w3 w4 := Keep.write (Keep.new _ _) hs4 (Nat.le_refl _)
  have hz4 : w3.heap.size < w4.heap.size := hb4.lt
  have hc4 := HC3.out.same (Same.mono hk4 (fun i hi => by rcases hi with h | h <;> omega))
  have HK4 := Lib.hid hk4
  have HB4 := Lib.hid hb4
  have HC4 := Lib.hid hc4
  clear hk4 hb4 hc4
  clear hs4
  go_cut [8] from 24 to 28 (fun p wx => S8 w4 gc cd me p wx)
  case first =>
    refine wp_region_L 6 (fun wx => Only gc w4 wx) (fun _ => True) (by kernel_rfl) (Same.drew (Same.refl _ _)) trivial (fun hA hB => ?_)
    have z0 : w4.heap.size ≤ w4.drew.heap.size := Nat.le_refl _
    have kk0 : Keep w4 w4.drew := Same.drew (Same.refl _ _)
    generalize hu0 : w4.drew = u0 at hA z0 kk0 ⊢
    clear hu0
    refine wpL_takeA (i := 0) rfl (by kernel_rfl) (by kernel_rfl) (by kernel_rfl) (by kernel_rfl) (by decide) (fun _ _ _ h => h) (yieldsIf_blk (by rfl) _ _ rfl w3.heap.size 0 38 _ [.slice B0 p0 q0, .slice B1 p1 q1, .slice B2 p2 q2, .slice B3 p3 q3, .slice B4 p4 q4] _ rfl (fun wx hx => hx.1.blk HB4.out ⟨by omega, by omega⟩) (fun j u hu => by simpa using hu) Tryd.underlying38 rfl (by kernel_rfl)) hA hB ?_
    try simp only [Act.put, List.setIfInBounds_toArray, List.set_cons_zero, List.set_cons_succ]
    refine wpL_takeA (i := 1) (v := ?_) rfl (by kernel_rfl) (by kernel_rfl) (by kernel_rfl) (by kernel_rfl) (by decide) (fun _ _ _ h => h) (Or.inl ⟨by rfl, ?_⟩) hA hB ?_
    rotate_left
    · rintro wx ⟨hAx, hBx⟩
      (try dsimp only at hBx); (try dsimp only at hAx)
      go_simp
      try with_reducible rfl
    try simp only [Act.put, List.setIfInBounds_toArray, List.set_cons_zero, List.set_cons_succ]
    refine wpL_takeA (i := 2) (v := ?_) rfl (by kernel_rfl) (by kernel_rfl) (by kernel_rfl) (by kernel_rfl) (by decide) (fun _ _ _ h => h) (Or.inl ⟨by rfl, ?_⟩) hA hB ?_
    rotate_left
    · rintro wx ⟨hAx, hBx⟩
      (try dsimp only at hBx); (try dsimp only at hAx)
      go_simp
      try with_reducible rfl
    try simp only [Act.put, List.setIfInBounds_toArray, List.set_cons_zero, List.set_cons_succ]
    refine wpL_two (i := 3) (j := 5) (by kernel_rfl) (StepL.mk rfl (fun K hK => ?_)) (StepL.mk rfl (fun K hK => ?_))
    · go_simp
      refine (events_any u0 _ gc r3 8 (by omega) (HC4.out.keep kk0)).mono ?_
      rintro e u1 ⟨A5, n5, c5, l, rfl, hl5, hn5, -, ho1⟩
      have z1 := ho1.size
      have ha := Only.trans hA ho1
      have hl1 : Sl encEv 7 u1 (Bw u1) A5 n5 c5 l := hl5.more (fun i hi => by have h1 := hi.1; have h2 := hi.2; exact (by show i < _; omega))
      refine hK.out _ _ (SAB.both ha trivial) (fun hSS => ?_)
      clear hK K hA hB
      have hB := hSS.2
      have hA := hSS.1 (by kernel_rfl)
      (try dsimp only at hB); (try dsimp only at hA); clear hSS
      try simp only [Act.put, List.setIfInBounds_toArray, List.set_cons_zero, List.set_cons_succ]
      clear ha
      refine wpL_two (i := 4) (j := 5) (by kernel_rfl) (StepL.mk rfl (fun K hK => ?_)) (StepL.mk rfl (fun K hK => ?_))
      · go_simp
        have hcdu : CdR u1 (Bw u1) [.slice B0 p0 q0, .slice B1 p1 q1, .slice B2 p2 q2, .slice B3 p3 q3, .slice B4 p4 q4] cd := (HCX.out.keep (Same.trans (Same.mono HK4.out (fun i (hi : New w3 w2.heap.size i) => hi.2)) hA (fun i hi => ⟨by have := hi.2; omega, by have := hi.1; omega⟩))).more (fun i hi => by have h1 := hi.1; have h2 := hi.2; exact (by show i < _; omega))
        refine (preplay_any u1 (Bw u1) [.slice B0 p0 q0, .slice B1 p1 q1, .slice B2 p2 q2, .slice B3 p3 q3, .slice B4 p4 q4] cd me 3 A5 n5 c5 l (fun i hi => hi) hcdu hl1 (by have := hl1.1; omega)).mono ?_
        rintro e u2 ⟨cs5, rfl, hr5', hk2⟩
        obtain ⟨E1, E2, E3, E4, en1, ec1, en2, ec2, en3, ec3, en4, ec4, rfl, hr5⟩ := st_open hr5'
        clear hr5' hcdu
        have z2 := hk2.size
        have ha := Only.keep hA hk2
        have hr2 : StR u2 (Bw u2) [.slice E1 en1 ec1, .slice E2 en2 ec2, .slice E3 en3 ec3, .slice E4 en4 ec4] (replayS cd me 3 l) := hr5.more (fun i hi => hi.elim (fun h => by have h1 : i < u1.heap.size := h; exact (by show i < _; omega)) (fun h => by have h1 := h.1; have h2 := h.2; exact (by show i < _; omega)))
        have hl2 : Sl encEv 7 u2 (Bw u2) A5 n5 c5 l := (hl1.keep (Same.mono hk2 (fun i hi => hi))).more (fun i hi => by have h : i < u1.heap.size := hi; show i < u2.heap.size; omega)
        refine hK.out _ _ (SAB.both ha trivial) (fun hSS => ?_)
        clear hK K hA hB
        have hB := hSS.2
        have hA := hSS.1 (by kernel_rfl)
        (try dsimp only at hB); (try dsimp only at hA); clear hSS
        try simp only [Act.put, List.setIfInBounds_toArray, List.set_cons_zero, List.set_cons_succ]
        clear ha
        refine wpL_one (i := 5) (by kernel_rfl) (StepL.mk rfl (fun K hK => ?_))
        go_simp
        generalize hq : u2.alloc (.cells #[.slice none 0 0, .slice none 0 0, .slice none 0 0, .slice none 0 0] 27) = u3
        have hb3 : Blk u3 u2.heap.size 27 #[.slice none 0 0, .slice none 0 0, .slice none 0 0, .slice none 0 0] := hq ▸ Blk.new _ _ _
        have hk3 : Keep u2 u3 := hq ▸ Keep.new _ _
        clear hq
        have y8 := hb3.lt
        have z3 := hk3.size
        have ha := Only.keep hA hk3
        have hl3 : Sl encEv 7 u3 (Bx u2.heap.size u3) A5 n5 c5 l := (hl2.keep (Same.mono hk3 (fun i hi => hi))).more (fun i hi => ⟨by have h : i < u2.heap.size := hi; omega, by have h : i < u2.heap.size := hi; omega⟩)
        have hr3 : StR u3 (Bx u2.heap.size u3) [.slice E1 en1 ec1, .slice E2 en2 ec2, .slice E3 en3 ec3, .slice E4 en4 ec4] (replayS cd me 3 l) := (hr2.keep (Same.mono hk3 (fun i hi => hi))).more (fun i hi => ⟨by have h : i < u2.heap.size := hi; omega, by have h : i < u2.heap.size := hi; omega⟩)
        refine hK.out _ _ (SAB.both ha trivial) (fun hSS => ?_)
        clear hK K hA hB
        have hB := hSS.2
        have hA := hSS.1 (by kernel_rfl)
        (try dsimp only at hB); (try dsimp only at hA); clear hSS
        try simp only [Act.put, List.setIfInBounds_toArray, List.set_cons_zero, List.set_cons_succ]
        clear ha
        refine wpL_one (i := 6) (by kernel_rfl) (StepL.mk rfl (fun K hK => ?_))
        refine step_store_blk rfl _ _ _ rfl (u2.heap.size) 0 27 _ [.slice E1 en1 ec1, .slice E2 en2 ec2, .slice E3 en3 ec3, .slice E4 en4 ec4] rfl rfl hb3 (by simp) (by kernel_rfl) rfl ?_
        intro v6 hv6 hs6
        rw [splice_all [.slice E1 en1 ec1, .slice E2 en2 ec2, .slice E3 en3 ec3, .slice E4 en4 ec4] #[.slice none 0 0, .slice none 0 0, .slice none 0 0, .slice none 0 0] rfl] at hv6
        have z6 := hs6.size
        have hfin : S8 w4 gc cd me (.pointer (some ⟨u2.heap.size, 0, none⟩)) v6 := ⟨u2.heap.size, _, l, rfl, by omega, by have := hl3.1; omega, hv6, (hr3.keep (hs6.mono (fun i hi => hi.2))).more (fun i hi => ⟨by have := hi.1; omega, hi.2⟩), Only.write hA hs6 (by omega)⟩
        refine hK.out _ _ (SAB.past (by kernel_rfl) trivial) (fun hSS => ?_)
        clear hK K hA hB
        have hB := hSS.2
        have hA : True := trivial
        (try dsimp only at hB); (try dsimp only at hA); clear hSS
        try simp only [Act.put, List.setIfInBounds_toArray, List.set_cons_zero, List.set_cons_succ]
        refine wpL_done (by kernel_rfl) ?_
        have HFIN := Lib.hid hfin
        clear hfin
        clear hv6 hs6 hr3 hl3 hb3 hA hB
        go_wp2_with fail
        go_meet
        exact HFIN.out
      · go_simp
        generalize hq : u1.alloc (.cells #[.slice none 0 0, .slice none 0 0, .slice none 0 0, .slice none 0 0] 27) = u2
        have hb2 : Blk u2 u1.heap.size 27 #[.slice none 0 0, .slice none 0 0, .slice none 0 0, .slice none 0 0] := hq ▸ Blk.new _ _ _
        have hk2 : Keep u1 u2 := hq ▸ Keep.new _ _
        clear hq
        have y8 := hb2.lt
        have z2 := hk2.size
        have ha := Only.keep hA hk2
        have hl2 : Sl encEv 7 u2 (Bx u1.heap.size u2) A5 n5 c5 l := (hl1.keep (Same.mono hk2 (fun i hi => hi))).more (fun i hi => ⟨by have h : i < u1.heap.size := hi; omega, by have h : i < u1.heap.size := hi; omega⟩)
        refine hK.out _ _ (SAB.both ha trivial) (fun hSS => ?_)
        clear hK K hA hB
        have hB := hSS.2
        have hA := hSS.1 (by kernel_rfl)
        (try dsimp only at hB); (try dsimp only at hA); clear hSS
        try simp only [Act.put, List.setIfInBounds_toArray, List.set_cons_zero, List.set_cons_succ]
        clear ha
        refine wpL_one (i := 4) (by kernel_rfl) (StepL.mk rfl (fun K hK => ?_))
        go_simp
        have hcdu : CdR u2 (Bx u1.heap.size u2) [.slice B0 p0 q0, .slice B1 p1 q1, .slice B2 p2 q2, .slice B3 p3 q3, .slice B4 p4 q4] cd := (HCX.out.keep (Same.trans (Same.mono HK4.out (fun i (hi : New w3 w2.heap.size i) => hi.2)) hA (fun i hi => ⟨by have := hi.2; omega, by have := hi.1; omega⟩))).more (fun i hi => by have h1 := hi.1; have h2 := hi.2; exact ⟨by omega, by omega⟩)
        refine (preplay_any u2 (Bx u1.heap.size u2) [.slice B0 p0 q0, .slice B1 p1 q1, .slice B2 p2 q2, .slice B3 p3 q3, .slice B4 p4 q4] cd me 3 A5 n5 c5 l (fun i hi => hi.1) hcdu hl2 (by have := hl2.1; omega)).mono ?_
        rintro e u3 ⟨cs5, rfl, hr5', hk3⟩
        obtain ⟨E1, E2, E3, E4, en1, ec1, en2, ec2, en3, ec3, en4, ec4, rfl, hr5⟩ := st_open hr5'
        clear hr5' hcdu
        have z3 := hk3.size
        have ha := Only.keep hA hk3
        have hr3 : StR u3 (Bx u1.heap.size u3) [.slice E1 en1 ec1, .slice E2 en2 ec2, .slice E3 en3 ec3, .slice E4 en4 ec4] (replayS cd me 3 l) := hr5.more (fun i hi => hi.elim (fun h => ⟨by have := h.1; omega, h.2⟩) (fun h => by have h1 := h.1; have h2 := h.2; exact ⟨by omega, by omega⟩))
        have hl3 : Sl encEv 7 u3 (Bx u1.heap.size u3) A5 n5 c5 l := (hl2.keep (Same.mono hk3 (fun i hi => hi.1))).more (fun i hi => ⟨by have h : i < u2.heap.size := hi.1; omega, hi.2⟩)
        have hb3 := hk3.blk hb2 hb2.lt
        refine hK.out _ _ (SAB.both ha trivial) (fun hSS => ?_)
        clear hK K hA hB
        have hB := hSS.2
        have hA := hSS.1 (by kernel_rfl)
        (try dsimp only at hB); (try dsimp only at hA); clear hSS
        try simp only [Act.put, List.setIfInBounds_toArray, List.set_cons_zero, List.set_cons_succ]
        clear ha
        refine wpL_one (i := 6) (by kernel_rfl) (StepL.mk rfl (fun K hK => ?_))
        refine step_store_blk rfl _ _ _ rfl (u1.heap.size) 0 27 _ [.slice E1 en1 ec1, .slice E2 en2 ec2, .slice E3 en3 ec3, .slice E4 en4 ec4] rfl rfl hb3 (by simp) (by kernel_rfl) rfl ?_
        intro v6 hv6 hs6
        rw [splice_all [.slice E1 en1 ec1, .slice E2 en2 ec2, .slice E3 en3 ec3, .slice E4 en4 ec4] #[.slice none 0 0, .slice none 0 0, .slice none 0 0, .slice none 0 0] rfl] at hv6
        have z6 := hs6.size
        have hfin : S8 w4 gc cd me (.pointer (some ⟨u1.heap.size, 0, none⟩)) v6 := ⟨u1.heap.size, _, l, rfl, by omega, by have := hl3.1; omega, hv6, (hr3.keep (hs6.mono (fun i hi => hi.2))).more (fun i hi => ⟨by have := hi.1; omega, hi.2⟩), Only.write hA hs6 (by omega)⟩
        refine hK.out _ _ (SAB.past (by kernel_rfl) trivial) (fun hSS => ?_)
        clear hK K hA hB
        have hB := hSS.2
        have hA : True := trivial
        (try dsimp only at hB); (try dsimp only at hA); clear hSS
        try simp only [Act.put, List.setIfInBounds_toArray, List.set_cons_zero, List.set_cons_succ]
        refine wpL_done (by kernel_rfl) ?_
        have HFIN := Lib.hid hfin
        clear hfin
        clear hv6 hs6 hr3 hl3 hb3 hA hB
        go_wp2_with fail
        go_meet
        exact HFIN.out
    · go_simp
      generalize hq : u0.alloc (.cells #[.slice none 0 0, .slice none 0 0, .slice none 0 0, .slice none 0 0] 27) = u1
      have hb1 : Blk u1 u0.heap.size 27 #[.slice none 0 0, .slice none 0 0, .slice none 0 0, .slice none 0 0] := hq ▸ Blk.new _ _ _
      have hk1 : Keep u0 u1 := hq ▸ Keep.new _ _
      clear hq
      have y8 := hb1.lt
      have z1 := hk1.size
      have ha := Only.keep hA hk1
      have kk1 := Keep.trans kk0 hk1
      refine hK.out _ _ (SAB.both ha trivial) (fun hSS => ?_)
      clear hK K hA hB
      have hB := hSS.2
      have hA := hSS.1 (by kernel_rfl)
      (try dsimp only at hB); (try dsimp only at hA); clear hSS
      try simp only [Act.put, List.setIfInBounds_toArray, List.set_cons_zero, List.set_cons_succ]
      clear ha
      refine wpL_one (i := 3) (by kernel_rfl) (StepL.mk rfl (fun K hK => ?_))
      go_simp
      refine (events_any u1 _ gc r3 8 (by omega) (HC4.out.keep kk1)).mono ?_
      rintro e u2 ⟨A5, n5, c5, l, rfl, hl5, hn5, -, ho2⟩
      have z2 := ho2.size
      have ha := Only.trans hA ho2
      have hl2 : Sl encEv 7 u2 (Bx u0.heap.size u2) A5 n5 c5 l := hl5.more (fun i hi => by have h1 := hi.1; have h2 := hi.2; exact ⟨by omega, by omega⟩)
      have hb2 := ho2.blk hb1 ⟨by omega, by omega⟩
      refine hK.out _ _ (SAB.both ha trivial) (fun hSS => ?_)
      clear hK K hA hB
      have hB := hSS.2
      have hA := hSS.1 (by kernel_rfl)
      (try dsimp only at hB); (try dsimp only at hA); clear hSS
      try simp only [Act.put, List.setIfInBounds_toArray, List.set_cons_zero, List.set_cons_succ]
      clear ha
      refine wpL_one (i := 4) (by kernel_rfl) (StepL.mk rfl (fun K hK => ?_))
      go_simp
      have hcdu : CdR u2 (Bx u0.heap.size u2) [.slice B0 p0 q0, .slice B1 p1 q1, .slice B2 p2 q2, .slice B3 p3 q3, .slice B4 p4 q4] cd := (HCX.out.keep (Same.trans (Same.mono HK4.out (fun i (hi : New w3 w2.heap.size i) => hi.2)) hA (fun i hi => ⟨by have := hi.2; omega, by have := hi.1; omega⟩))).more (fun i hi => by have h1 := hi.1; have h2 := hi.2; exact ⟨by omega, by omega⟩)
      refine (preplay_any u2 (Bx u0.heap.size u2) [.slice B0 p0 q0, .slice B1 p1 q1, .slice B2 p2 q2, .slice B3 p3 q3, .slice B4 p4 q4] cd me 3 A5 n5 c5 l (fun i hi => hi.1) hcdu hl2 (by have := hl2.1; omega)).mono ?_
      rintro e u3 ⟨cs5, rfl, hr5', hk3⟩
      obtain ⟨E1, E2, E3, E4, en1, ec1, en2, ec2, en3, ec3, en4, ec4, rfl, hr5⟩ := st_open hr5'
      clear hr5' hcdu
      have z3 := hk3.size
      have ha := Only.keep hA hk3
      have hr3 : StR u3 (Bx u0.heap.size u3) [.slice E1 en1 ec1, .slice E2 en2 ec2, .slice E3 en3 ec3, .slice E4 en4 ec4] (replayS cd me 3 l) := hr5.more (fun i hi => hi.elim (fun h => ⟨by have := h.1; omega, h.2⟩) (fun h => by have h1 := h.1; have h2 := h.2; exact ⟨by omega, by omega⟩))
      have hl3 : Sl encEv 7 u3 (Bx u0.heap.size u3) A5 n5 c5 l := (hl2.keep (Same.mono hk3 (fun i hi => hi.1))).more (fun i hi => ⟨by have h : i < u2.heap.size := hi.1; omega, hi.2⟩)
      have hb3 := hk3.blk hb2 hb2.lt
      refine hK.out _ _ (SAB.both ha trivial) (fun hSS => ?_)
      clear hK K hA hB
      have hB := hSS.2
      have hA := hSS.1 (by kernel_rfl)
      (try dsimp only at hB); (try dsimp only at hA); clear hSS
      try simp only [Act.put, List.setIfInBounds_toArray, List.set_cons_zero, List.set_cons_succ]
      clear ha
      refine wpL_one (i := 6) (by kernel_rfl) (StepL.mk rfl (fun K hK => ?_))
      refine step_store_blk rfl _ _ _ rfl (u0.heap.size) 0 27 _ [.slice E1 en1 ec1, .slice E2 en2 ec2, .slice E3 en3 ec3, .slice E4 en4 ec4] rfl rfl hb3 (by simp) (by kernel_rfl) rfl ?_
      intro v6 hv6 hs6
      rw [splice_all [.slice E1 en1 ec1, .slice E2 en2 ec2, .slice E3 en3 ec3, .slice E4 en4 ec4] #[.slice none 0 0, .slice none 0 0, .slice none 0 0, .slice none 0 0] rfl] at hv6
      have z6 := hs6.size
      have hfin : S8 w4 gc cd me (.pointer (some ⟨u0.heap.size, 0, none⟩)) v6 := ⟨u0.heap.size, _, l, rfl, by omega, by have := hl3.1; omega, hv6, (hr3.keep (hs6.mono (fun i hi => hi.2))).more (fun i hi => ⟨by have := hi.1; omega, hi.2⟩), Only.write hA hs6 (by omega)⟩
      refine hK.out _ _ (SAB.past (by kernel_rfl) trivial) (fun hSS => ?_)
      clear hK K hA hB
      have hB := hSS.2
      have hA : True := trivial
      (try dsimp only at hB); (try dsimp only at hA); clear hSS
      try simp only [Act.put, List.setIfInBounds_toArray, List.set_cons_zero, List.set_cons_succ]
      refine wpL_done (by kernel_rfl) ?_
      have HFIN := Lib.hid hfin
      clear hfin
      clear hv6 hs6 hr3 hl3 hb3 hA hB
      go_wp2_with fail
      go_meet
      exact HFIN.out
  case rest =>
    obtain ⟨g, cs, l, rfl, hg, hl8, bg, rs', sm⟩ := hcut
    obtain ⟨E1, E2, E3, E4, en1, ec1, en2, ec2, en3, ec3, en4, ec4, rfl, rs⟩ := st_open rs'
    obtain ⟨q1, q2, q3, q4⟩ := st_sl rs
    have hn := NumS.replay cd me l
    have hlen := replayS_len cd me 3 l
    have hp0 := cd_init HCX.out
    have hp1 : en1 = p0 := by have := q1.1; omega
    subst hp1
    generalize hst : replayS cd me 3 l = s at hn hlen q1 q2 q3 q4
    have hl1 := q2.1
    have hl2 := q3.1
    have hl3 := q4.1
    have hen2 : en2 ≤ 8 := by omega
    have hen3 : en3 ≤ 80 := by omega
    have hen4 : en4 ≤ 80 := by omega
    have hzc := sm.size
    have hbc := sm.blk HB4.out ⟨by omega, by omega⟩
    have hkc : Keep w wc := Same.trans (Keep.trans HK3.out HK4.out) sm (fun i hi => by omega)
    have hrel0 : LN1 wc s me (.int .i64 0) (.int .i64 (-1)) (.int .i64 0) wc := ⟨0, 0, -1, rfl, rfl, rfl, by omega, by omega, by omega, by omega, by simpa using hn.1, Same.refl _ _⟩
    have hn3 := hn.2.2.1
    have hcg2 : wc.cell? ⟨g, 2, none⟩ = some (.slice E3 en3 ec3) := by rw [bg.cell]; rfl
    have BG := Lib.hid bg
    have Q2 := Lib.hid q2
    have Q3 := Lib.hid q3
    have Q4 := Lib.hid q4
    have HBC := Lib.hid hbc
    have HKC := Lib.hid hkc
    have HREL0 := Lib.hid hrel0
    have HN3 := Lib.hid hn3
    have HL1 := Lib.hid hl1
    have HL2 := Lib.hid hl2
    have HL3 := Lib.hid hl3
    clear bg q2 q3 q4 hbc hkc hrel0 hn3 hl1 hl2 hl3
    clear rs rs' sm hn hlen hp0 q1 hst
    go_wp2_with fail
    clear hcg2
    go_loopw [9, 10, 32] (fun a b i wr => LN1 wc s me a b i wr) (fun _ _ i _ => en3 - (intOf i).toNat)
    case atStart => exact HREL0.out
    case round =>
      clear HREL0
      obtain ⟨k, ix, o, rfl, rfl, rfl, hi0, hi1, ho0, ho1, hnm, hkr⟩ := hrel
      have hzr := hkr.size
      have hbr := hkr.blk BG.out BG.out.lt
      have hix8 : ix ≤ 8 := by have := HL1.out; omega
      by_cases hkn : k < en3
      · obtain ⟨b', off', y, rfl, hbb, hy, hcy⟩ := (Q3.out.keep (Same.mono hkr (fun i hi => hi.1))).at_ encSnd_len hkn
        have hd1 : decide (k < en3) = true := by simpa using hkn
        have hd2 : (0 : Int) ≤ k := by omega
        have hd3 : (k : Int) < en3 := by omega
        have hrg : wr.rangeAt b' (off' + k * 4) [.int .i64 y.idx, .int .i64 y.ord, .int .i64 y.to, .int .i64 y.val] := hcy
        obtain ⟨t1, t2, t3, t4, t5, t6, t7, t8, t9, t10⟩ := Nmb.at_ (drop_cons hy) hnm
        have t2' : y.idx ≤ en2 := by have := HL1.out; omega
        clear hcy hy hnm
        have HRG := Lib.hid hrg
        have T8 := Lib.hid t8
        have T9 := Lib.hid t9
        have T10 := Lib.hid t10
        have HKR := Lib.hid hkr
        have HBR := Lib.hid hbr
        have T5 := Lib.hid t5
        clear hrg t8 t9 t10 hkr hbr t5
        go_upto_region 11 with (first
          | (refine wpList_load_mid rfl _ (.tmp 34) rfl b' (off' + k * 4) rfl [.int .i64 y.idx, .int .i64 y.ord, .int .i64 y.to, .int .i64 y.val] _ HRG.out Tryd.underlying43 rfl (by kernel_rfl) ?_)
          | (refine wpList_store_all rfl _ (.tmp 12) (.tmp 35) rfl wr.heap.size 43 _ [.int .i64 y.idx, .int .i64 y.ord, .int .i64 y.to, .int .i64 y.val] rfl rfl (Blk.new _ _ _) rfl (by kernel_rfl) rfl ?_; intro w7 hb7 hs7))
        have hk7 : Keep wr w7 := Keep.write (Keep.new _ _) hs7 (Nat.le_refl _)
        have bg7 := hk7.blk HBR.out HBR.out.lt
        have kk7 := Keep.trans HKR.out hk7
        have y0 : w7.cell? ⟨wr.heap.size, 0, none⟩ = some (.int .i64 y.idx) := by rw [hb7.cell]; rfl
        have y1 : w7.cell? ⟨wr.heap.size, 1, none⟩ = some (.int .i64 y.ord) := by rw [hb7.cell]; rfl
        have y2 : w7.cell? ⟨wr.heap.size, 2, none⟩ = some (.int .i64 y.to) := by rw [hb7.cell]; rfl
        have y3 : w7.cell? ⟨g, 1, none⟩ = some (.slice E2 en2 ec2) := by rw [bg7.cell]; rfl
        have KK7 := Lib.hid kk7
        clear kk7
        clear hs7 hb7 bg7 hk7
        have v1 : decide (y.idx < ix) = false := by simpa using t1
        have v2 : decide ((en2 : Int) < y.idx) = false := by simpa using t2'
        have v3 : decide (y.to < 0) = false := by simpa using t3
        have v4 : decide (2 < y.to) = false := by simpa using t4
        have v5 : (y.to == me) = false := by have := T5.out; simpa using this
        by_cases hlt : ix < y.idx
        · have v6 : decide (ix < y.idx) = true := by simpa using hlt
          have v7 : (y.ord != 0) = false := by have := T8.out hlt; simp [this]
          go_wp2_with fail
          go_roundw
          case rel => exact ⟨k + 1, y.idx, 0, by go_num, rfl, rfl, by omega, by have := HL1.out; omega, by omega, by omega, by have := T10.out; rw [T8.out hlt] at this; exact this, KK7.out⟩
          case measure => simp [intOf]; omega
        · have v6 : decide (ix < y.idx) = false := by simpa using hlt
          have e1 : ix = y.idx := by omega
          have e2 : y.ord = o + 1 := T9.out e1
          have v7 : (y.ord != o + 1) = false := by simp [e2]
          have v8 : decide (8 ≤ o + 1) = false := by simp; omega
          have E1 := Lib.hid e1
          have E2 := Lib.hid e2
          clear e1 e2
          go_wp2_with fail
          go_roundw
          case rel => exact ⟨k + 1, ix, o + 1, by go_num, rfl, rfl, by omega, by omega, by omega, by have := E2.out; omega, by have := T10.out; rw [E2.out, ← E1.out] at this; exact this, KK7.out⟩
          case measure => simp [intOf]; omega
      · have hd1 : decide (k < en3) = false := by simpa using hkn
        obtain ⟨wo, rfl⟩ : ∃ wo : World, wo = wr := ⟨_, rfl⟩
        have hrel0 : LN2 wo s (.int .i64 0) (.int .i64 0) wo := ⟨0, 0, rfl, rfl, by omega, by omega, by simpa using HN3.out, Same.refl _ _⟩
        have hcg3 : wo.cell? ⟨g, 3, none⟩ = some (.slice E4 en4 ec4) := by rw [hbr.cell]; rfl
        have hbo := hkr.blk HBC.out HBC.out.lt
        have hko := Keep.trans HKC.out hkr
        have q4o := Q4.out.keep (Same.mono hkr (fun i hi => hi.1))
        have HBR := Lib.hid hbr
        have HKR := Lib.hid hkr
        have HREL0 := Lib.hid hrel0
        have HBO := Lib.hid hbo
        have HKO := Lib.hid hko
        have Q4O := Lib.hid q4o
        clear hbr hkr hrel0 hbo hko q4o
        clear hnm
        go_wp2_with fail
        clear hcg3
        go_loopw [9, 84] (fun a i wr => LN2 wo s a i wr) (fun _ i _ => en4 - (intOf i).toNat)
        case atStart => exact HREL0.out
        case round =>
          clear HREL0
          clear hi0 hi1 ho0 ho1 hix8
          obtain ⟨j, jx, rfl, rfl, hi0, hi1, hnm, hjr⟩ := hrel
          have hzj := hjr.size
          have hbj := hjr.blk HBR.out HBR.out.lt
          have hjx8 : jx ≤ 8 := by have := HL1.out; omega
          by_cases hjn : j < en4
          · obtain ⟨b', off', y, rfl, hbb, hy, hcy⟩ := (Q4O.out.keep (Same.mono hjr (fun i hi => by have := hi.1; omega))).at_ encOut_len hjn
            have hd1 : decide (j < en4) = true := by simpa using hjn
            have hd2 : (0 : Int) ≤ j := by omega
            have hd3 : (j : Int) < en4 := by omega
            have hrg : wr.rangeAt b' (off' + j * 2) [.int .i64 y.idx, .int .i64 y.val] := hcy
            rw [drop_cons hy] at hnm
            obtain ⟨t1, t2, t3⟩ := hnm
            have t2' : y.idx ≤ en2 := by have := HL1.out; omega
            clear hcy hy
            have HRG := Lib.hid hrg
            have T3 := Lib.hid t3
            have HJR := Lib.hid hjr
            have HBJ := Lib.hid hbj
            clear hrg t3 hjr hbj
            go_upto_region 23 with (first
              | (refine wpList_load_mid rfl _ (.tmp 86) rfl b' (off' + j * 2) rfl [.int .i64 y.idx, .int .i64 y.val] _ HRG.out Tryd.underlying45 rfl (by kernel_rfl) ?_)
              | (refine wpList_store_all rfl _ (.tmp 14) (.tmp 87) rfl wr.heap.size 45 _ [.int .i64 y.idx, .int .i64 y.val] rfl rfl (Blk.new _ _ _) rfl (by kernel_rfl) rfl ?_; intro w7 hb7 hs7))
            have hk7 : Keep wr w7 := Keep.write (Keep.new _ _) hs7 (Nat.le_refl _)
            have bg7 := hk7.blk HBJ.out HBJ.out.lt
            have kk7 := Keep.trans HJR.out hk7
            have y0 : w7.cell? ⟨wr.heap.size, 0, none⟩ = some (.int .i64 y.idx) := by rw [hb7.cell]; rfl
            have y3 : w7.cell? ⟨g, 1, none⟩ = some (.slice E2 en2 ec2) := by rw [bg7.cell]; rfl
            have v1 : decide (y.idx < jx) = false := by simpa using t1
            have v2 : decide ((en2 : Int) < y.idx) = false := by simpa using t2'
            have KK7 := Lib.hid kk7
            clear kk7
            clear hs7 hb7 bg7 hk7
            go_wp2_with fail
            go_roundw
            case rel => exact ⟨j + 1, y.idx, by go_num, rfl, by omega, by have := HL1.out; omega, T3.out, KK7.out⟩
            case measure => simp [intOf]; omega
          · have hd1 : decide (j < en4) = false := by simpa using hjn
            have x1 : wr.cell? ⟨g, 0, none⟩ = some (.slice E1 en1 ec1) := by rw [hbj.cell]; rfl
            have hbx := hjr.blk HBO.out HBO.out.lt
            have x2 : wr.cell? ⟨w3.heap.size, 0, none⟩ = some (.slice B0 en1 q0) := by rw [hbx.cell]; rfl
            have hfin : AwPost w (.returned (.bool true)) wr := ⟨rfl, Keep.trans HKO.out hjr⟩
            have HJR := Lib.hid hjr
            have HBJ := Lib.hid hbj
            have HBX := Lib.hid hbx
            have HFIN := Lib.hid hfin
            clear hjr hbj hbx hfin
            clear hnm
            go_wp2_with fail
            go_ret
            exact HFIN.out
end Go.Proofs.YtecckbkobkfnmaaDoor
