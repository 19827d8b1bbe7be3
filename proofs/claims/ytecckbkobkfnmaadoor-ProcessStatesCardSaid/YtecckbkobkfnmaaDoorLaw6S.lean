/- The law ProcessStates: written by gen_law6s.py. -/
import Derived.Test.YtecckbkobkfnmaaDoorG6
set_option linter.unusedVariables false
set_option linter.unusedSimpArgs false
set_option maxRecDepth 100000
namespace Go.Proofs.YtecckbkobkfnmaaDoor
open Go.RowKit Go.Proofs

section
variable {P : Program} {ops : Array Oper} {o : Oper} {a : Act} {w : World} {K : Act → World → Prop} {Q : Exit → Act → World → Prop} {E : Prop}
theorem step_load_blk (hgd : o.guard = none) (ty : TypeId) (x : Operand) (ho : o.op = .load ty x)
    (g off : Nat) (t : TypeId) (cs : Array Value) (vs : List Value) (d : TypeDesc) (hx : a.eval x = .pointer (some ⟨g, off, none⟩)) (hb : Blk w g t cs) (hvs : ∀ j v, vs[j]? = some v → cs[off + j]? = some v)
    (hu : P.underlying ty = some d) (hd : d.isRow = true) (hi : (P.info? ty).map (·.size) = some vs.length)
    (h : K (a.put o.dst (.agg vs.toArray)) w) : if Region.wanted o (yielded ops a.tmps) = true then Oper.wp P o a w K Q else E := by
  have hw : Region.wanted o (yielded ops a.tmps) = true := by simp [Region.wanted, hgd]
  rw [if_pos hw]
  have hy := yieldsIf_blk (T := fun w' => w' = w) hw ty x ho g off t cs vs d hx (fun w' e => e ▸ hb) hvs hu hd hi
  rcases hy with ⟨_, hr⟩ | hn
  · have e := hr w rfl
    unfold Oper.wp
    rw [e]
    exact h
  · simp_all
end
def NilSt : Array Value := #[.slice none 0 0, .slice none 0 0, .slice none 0 0, .slice none 0 0]
def Bg (g h : Nat) (w : World) (i : Nat) : Prop := i < w.heap.size ∧ i ≠ g ∧ i ≠ h
/-- Two variables that hold the same state. -/
def Two06 (W : World) (g h : Nat) (s : St) (wx : World) : Prop :=
  ∃ cs ct : List Value, Blk wx g 27 cs.toArray ∧ Blk wx h 27 ct.toArray ∧ StR wx (Bg g h wx) cs s ∧ StR wx (Bg g h wx) ct s ∧ Same (fun i => i < W.heap.size) W wx
def S7 (W : World) (s : St) (p q : Value) (wx : World) : Prop := ∃ g h : Nat, p = .pointer (some ⟨g, 0, none⟩) ∧ q = .pointer (some ⟨h, 0, none⟩) ∧ g ≠ h ∧ W.heap.size ≤ g ∧ W.heap.size ≤ h ∧ Two06 W g h s wx
theorem two_put {W u u5 u6 : World} {g h : Nat} {cs ct : List Value} {s : St} {S1 S2 : Nat → Prop} (hgh : g ≠ h) (hg : W.heap.size ≤ g) (hh : W.heap.size ≤ h) (hgl : g < u.heap.size) (hhl : h < u.heap.size)
    (h1 : ∀ i, S1 i → Bg g h u i) (h2 : ∀ i, S2 i → Bg g h u i) (r1 : StR u S1 cs s) (r2 : StR u S2 ct s) (hk : Keep W u)
    (b5 : Blk u5 g 27 cs.toArray) (s5 : Same (· ≠ g) u u5) (b6 : Blk u6 h 27 ct.toArray) (s6 : Same (· ≠ h) u5 u6) : Two06 W g h s u6 := by
  have z5 := s5.size
  have z6 := s6.size
  have sb : Same (Bg g h u) u u6 := Same.trans (s5.mono (fun i (hi : Bg g h u i) => hi.2.1)) s6 (fun i hi => hi.2.2)
  have up : ∀ i, Bg g h u i → Bg g h u6 i := fun i hi => ⟨by have := hi.1; omega, hi.2⟩
  exact ⟨cs, ct, s6.blk b5 hgh, b6, ((r1.more h1).keep sb).more up, ((r2.more h2).keep sb).more up, Same.trans hk (Same.trans (s5.mono (fun i (hi : i < W.heap.size) => by show i ≠ g; omega)) s6 (fun i hi => by show i ≠ h; omega)) (fun i hi => hi)⟩
theorem two_keep {W u u' : World} {g h : Nat} {s : St} (ht : Two06 W g h s u) (k : Keep u u') : Two06 W g h s u' := by
  obtain ⟨cs, ct, b1, b2, r1, r2, sm⟩ := ht
  have z := k.size
  have z2 := sm.size
  have up : ∀ i, Bg g h u i → Bg g h u' i := fun i hi => ⟨by have := hi.1; omega, hi.2⟩
  exact ⟨cs, ct, k.blk b1 b1.lt, k.blk b2 b2.lt, (r1.keep (Same.mono k (fun i hi => hi.1))).more up, (r2.keep (Same.mono k (fun i hi => hi.1))).more up, Same.trans sm k (fun i hi => by omega)⟩
theorem fine_replay (cd : Cd) (me : Int) (l : List Ev) (hi : cd.init.length ≤ 1000000) (hl : l.length ≤ 100) : Fine (replayS cd me 3 l) := by
  have h := replayS_len cd me 3 l
  have he := replayS_events cd me 3 l
  exact ⟨by omega, by rw [he]; omega, by omega, by omega⟩
def L06 (W : World) (g h : Nat) (cd : Cd) (me : Int) (l : List Ev) (i : Value) (wr : World) : Prop := ∃ k : Nat, i = .int .i64 k ∧ k ≤ l.length ∧ Two06 W g h (replayS cd me 3 (l.take k)) wr
set_option maxHeartbeats 32000000 in
theorem processStates_walk (w : World) (A : Option Addr) (n c : Nat) (zs : List Int) (self : Int) (hs0 : 0 ≤ self) (hs1 : self < 256) (hg : Glob w) (hz : Sl encB 1 w (· < w.heap.size) A n c zs) (hz8 : ∀ y ∈ zs, 0 ≤ y ∧ y < 256) :
    Calls Tryd.prog 5 #[.slice A n c, .int .u8 self] w (AwPost w) := by
  have HG := Lib.hid hg
  have HZ := Lib.hid hz
  have HZ8 := Lib.hid hz8
  clear hg hz hz8
  go_enter Tryd.func5, Tryd.ntmps5
  go_wp2_with fail
  refine (awake06_any w).mono ?_
  rintro e w1 ⟨rfl, hk1⟩
  have hz1 := hk1.size
  have HK1 := Lib.hid hk1
  clear hk1
  go_wp2_with fail
  refine (new_any w1 A n c 240 zs (fun i => i < w.heap.size) (fun i hi => by omega) (HZ.out.keep HK1.out) HZ8.out (by omega)).mono ?_
  rintro e w2 ⟨r, hr, rfl, hc2, hk2⟩
  have hz2 := hk2.size
  have hk2' := Keep.trans HK1.out hk2
  have hg2 := HG.out.keep hk2'
  have hgc := hc2.lt
  generalize hgce : w1.heap.size = gc at *
  have HK2' := Lib.hid hk2'
  have HG2 := Lib.hid hg2
  have HC2 := Lib.hid hc2
  clear hk2' hg2 hc2
  clear hk2
  go_wp2_with fail
  refine (code_any w2 _ gc r HC2.out HG2.out).mono ?_
  rintro e w3 ⟨cs3, cd, r3, rfl, hcd, hc3, ho3⟩
  have hz3 := ho3.size
  obtain ⟨B0, B1, B2, B3, B4, p0, q0, p1, q1, p2, q2, p3, q3, p4, q4, rfl, hcx⟩ := cd_open hcd
  have hk3 : Keep w w3 := Same.trans HK2'.out ho3 (fun i hi => by omega)
  have hci : cd.init.length ≤ 1000000 := by obtain ⟨_, _, _, _, _, _, _, _, _, _, _, _, _, _, _, _, _, _, _, _, _, h⟩ := hcx; exact h
  have HCX := Lib.hid hcx
  have HC3 := Lib.hid hc3
  have HK3 := Lib.hid hk3
  have HCI := Lib.hid hci
  clear hcx hc3 hk3 hci
  clear hcd
  clear ho3
  go_upto_region 6 with (refine wpList_store_all rfl _ (.tmp 6) (.tmp 18) rfl w3.heap.size 38 _ [.slice B0 p0 q0, .slice B1 p1 q1, .slice B2 p2 q2, .slice B3 p3 q3, .slice B4 p4 q4] rfl rfl (Blk.new _ _ _) rfl (by kernel_rfl) rfl ?_; intro w4 hb4 hs4)
  generalize hme : self % 3 = me at *
  clear hme
  have hk4 : Keep w3 w4 := Keep.write (Keep.new _ _) hs4 (Nat.le_refl _)
  have hz4 : w3.heap.size < w4.heap.size := hb4.lt
  have hc4 := HC3.out.same (Same.mono hk4 (fun i hi => by rcases hi with h | h <;> omega))
  have HK4 := Lib.hid hk4
  have HB4 := Lib.hid hb4
  have HC4 := Lib.hid hc4
  clear hk4 hb4 hc4
  clear hs4
  go_wp2_with fail
  refine (events_any w4 _ gc r3 8 (by omega) HC4.out).mono ?_
  rintro e w5 ⟨A5, n5, c5, l, rfl, hl5, hn5, -, ho5⟩
  have hz5 := ho5.size
  have hb5 := ho5.blk HB4.out ⟨by omega, by omega⟩
  have hk5 : Keep w w5 := Same.trans (Keep.trans HK3.out HK4.out) ho5 (fun i hi => by omega)
  have hcd5 : CdR w5 (New w5 w2.heap.size) [.slice B0 p0 q0, .slice B1 p1 q1, .slice B2 p2 q2, .slice B3 p3 q3, .slice B4 p4 q4] cd := (HCX.out.keep (Same.trans (Same.mono HK4.out (fun i (hi : New w3 w2.heap.size i) => hi.2)) ho5 (fun i hi => ⟨by have := hi.2; omega, by have := hi.1; omega⟩))).more (fun i hi => ⟨hi.1, by have := hi.2; omega⟩)
  have hev5 : Sl encEv 7 w5 (New w5 w2.heap.size) A5 n5 c5 l := hl5.more (fun i hi => ⟨by have := hi.1; omega, hi.2⟩)
  have HB5 := Lib.hid hb5
  have HK5 := Lib.hid hk5
  have HCD5 := Lib.hid hcd5
  have HEV5 := Lib.hid hev5
  clear hb5 hk5 hcd5 hev5
  clear ho5 hl5
  go_upto_region 7 with fail
  go_cut [9, 10] from 24 to 29 (fun p q wx => S7 w5 (startS cd me 3) p q wx)
  case first =>
    refine wp_region_L 9 (fun wx => Keep w5 wx) (fun _ => True) (by kernel_rfl) (Same.drew (Same.refl _ _)) trivial (fun hA hB => ?_)
    have z0 : w5.heap.size ≤ w5.drew.heap.size := Nat.le_refl _
    generalize hu0 : w5.drew = u0 at hA z0 ⊢
    clear hu0
    refine wpL_takeA (i := 0) rfl (by kernel_rfl) (by kernel_rfl) (by kernel_rfl) (by kernel_rfl) (by decide) (fun _ _ _ h => h) (yieldsIf_blk (by rfl) _ _ rfl w3.heap.size 0 38 _ [.slice B0 p0 q0, .slice B1 p1 q1, .slice B2 p2 q2, .slice B3 p3 q3, .slice B4 p4 q4] _ rfl (fun wx hx => hx.1.blk HB5.out HB5.out.lt) (fun j u hu => by simpa using hu) Tryd.underlying38 rfl (by kernel_rfl)) hA hB ?_
    try simp only [Act.put, List.setIfInBounds_toArray, List.set_cons_zero, List.set_cons_succ]
    refine wpL_takeA (i := 1) (v := ?_) rfl (by kernel_rfl) (by kernel_rfl) (by kernel_rfl) (by kernel_rfl) (by decide) (fun _ _ _ h => h) (Or.inl ⟨by rfl, ?_⟩) hA hB ?_
    rotate_left
    · rintro wx ⟨hAx, hBx⟩
      (try dsimp only at hBx); (try dsimp only at hAx)
      go_simp
      try with_reducible rfl
    try simp only [Act.put, List.setIfInBounds_toArray, List.set_cons_zero, List.set_cons_succ]
    refine wpL_takeA (i := 3) rfl (by kernel_rfl) (by kernel_rfl) (by kernel_rfl) (by kernel_rfl) (by decide) (fun _ _ _ h => h) (yieldsIf_blk (by rfl) _ _ rfl w3.heap.size 0 38 _ [.slice B0 p0 q0, .slice B1 p1 q1, .slice B2 p2 q2, .slice B3 p3 q3, .slice B4 p4 q4] _ rfl (fun wx hx => hx.1.blk HB5.out HB5.out.lt) (fun j u hu => by simpa using hu) Tryd.underlying38 rfl (by kernel_rfl)) hA hB ?_
    try simp only [Act.put, List.setIfInBounds_toArray, List.set_cons_zero, List.set_cons_succ]
    refine wpL_takeA (i := 4) (v := ?_) rfl (by kernel_rfl) (by kernel_rfl) (by kernel_rfl) (by kernel_rfl) (by decide) (fun _ _ _ h => h) (Or.inl ⟨by rfl, ?_⟩) hA hB ?_
    rotate_left
    · rintro wx ⟨hAx, hBx⟩
      (try dsimp only at hBx); (try dsimp only at hAx)
      go_simp
      try with_reducible rfl
    try simp only [Act.put, List.setIfInBounds_toArray, List.set_cons_zero, List.set_cons_succ]
    refine wpL_three (i := 2) (j := 6) (m := 7) (by kernel_rfl) (StepL.mk rfl (fun K hK => ?_)) (StepL.mk rfl (fun K hK => ?_)) (StepL.mk rfl (fun K hK => ?_))
    · go_simp
      refine (pstart_any u0 (New w5 w2.heap.size) [.slice B0 p0 q0, .slice B1 p1 q1, .slice B2 p2 q2, .slice B3 p3 q3, .slice B4 p4 q4] cd me 3 (fun i hi => by have := hi.2; have := hA.size; omega) (HCD5.out.keep (Same.mono hA (fun i hi => hi.2)))).mono ?_
      rintro e u1 ⟨cs2, rfl, hr2', hk11⟩
      obtain ⟨E1, E2, E3, E4, en1, ec1, en2, ec2, en3, ec3, en4, ec4, rfl, hr2⟩ := st_open hr2'
      clear hr2'
      have z1 := hk11.size
      have ha := Keep.trans hA hk11
      refine hK.out _ _ (SAB.both ha trivial) (fun hSS => ?_)
      clear hK K hA hB
      have hB := hSS.2
      have hA := hSS.1 (by kernel_rfl)
      (try dsimp only at hB); (try dsimp only at hA); clear hSS
      try simp only [Act.put, List.setIfInBounds_toArray, List.set_cons_zero, List.set_cons_succ]
      clear ha
      refine wpL_three (i := 5) (j := 6) (m := 7) (by kernel_rfl) (StepL.mk rfl (fun K hK => ?_)) (StepL.mk rfl (fun K hK => ?_)) (StepL.mk rfl (fun K hK => ?_))
      · go_simp
        refine (rstart_any u1 (New w5 w2.heap.size) [.slice B0 p0 q0, .slice B1 p1 q1, .slice B2 p2 q2, .slice B3 p3 q3, .slice B4 p4 q4] cd me 3 (fun i hi => by have := hi.2; have := hA.size; omega) (HCD5.out.keep (Same.mono hA (fun i hi => hi.2)))).mono ?_
        rintro e u2 ⟨cs5, rfl, hr5', hk12⟩
        obtain ⟨F1, F2, F3, F4, fn1, fc1, fn2, fc2, fn3, fc3, fn4, fc4, rfl, hr5⟩ := st_open hr5'
        clear hr5'
        have z2 := hk12.size
        have ha := Keep.trans hA hk12
        refine hK.out _ _ (SAB.both ha trivial) (fun hSS => ?_)
        clear hK K hA hB
        have hB := hSS.2
        have hA := hSS.1 (by kernel_rfl)
        (try dsimp only at hB); (try dsimp only at hA); clear hSS
        try simp only [Act.put, List.setIfInBounds_toArray, List.set_cons_zero, List.set_cons_succ]
        clear ha
        refine wpL_two (i := 6) (j := 7) (by kernel_rfl) (StepL.mk rfl (fun K hK => ?_)) (StepL.mk rfl (fun K hK => ?_))
        · go_simp
          generalize hq : u2.alloc (.cells #[.slice none 0 0, .slice none 0 0, .slice none 0 0, .slice none 0 0] 27) = u3
          have hb6 : Blk u3 u2.heap.size 27 #[.slice none 0 0, .slice none 0 0, .slice none 0 0, .slice none 0 0] := hq ▸ Blk.new _ _ _
          have hk13 : Keep u2 u3 := hq ▸ Keep.new _ _
          clear hq
          have y6 := hb6.lt
          have z3 := hk13.size
          have ha := Keep.trans hA hk13
          refine hK.out _ _ (SAB.both ha trivial) (fun hSS => ?_)
          clear hK K hA hB
          have hB := hSS.2
          have hA := hSS.1 (by kernel_rfl)
          (try dsimp only at hB); (try dsimp only at hA); clear hSS
          try simp only [Act.put, List.setIfInBounds_toArray, List.set_cons_zero, List.set_cons_succ]
          clear ha
          refine wpL_one (i := 7) (by kernel_rfl) (StepL.mk rfl (fun K hK => ?_))
          go_simp
          generalize hq : u3.alloc (.cells #[.slice none 0 0, .slice none 0 0, .slice none 0 0, .slice none 0 0] 27) = u4
          have hb7 : Blk u4 u3.heap.size 27 #[.slice none 0 0, .slice none 0 0, .slice none 0 0, .slice none 0 0] := hq ▸ Blk.new _ _ _
          have hk14 : Keep u3 u4 := hq ▸ Keep.new _ _
          clear hq
          have y7 := hb7.lt
          have z4 := hk14.size
          have ha := Keep.trans hA hk14
          refine hK.out _ _ (SAB.both ha trivial) (fun hSS => ?_)
          clear hK K hA hB
          have hB := hSS.2
          have hA := hSS.1 (by kernel_rfl)
          (try dsimp only at hB); (try dsimp only at hA); clear hSS
          try simp only [Act.put, List.setIfInBounds_toArray, List.set_cons_zero, List.set_cons_succ]
          clear ha
          have kk4 : Keep u4 u4 := Same.refl _ _
          have kk3 : Keep u3 u4 := Keep.trans hk14 kk4
          have kk2 : Keep u2 u4 := Keep.trans hk13 kk3
          have kk1 : Keep u1 u4 := Keep.trans hk12 kk2
          have zA := hA.size
          have b9 := kk3.blk hb6 y6
          have b10 := kk4.blk hb7 y7
          have rr2 := hr2.keep (Same.mono kk1 (Sn.lt (fun i hi => by have := hi.2; omega) hk11.size))
          have bg2 : ∀ i, Sn (New w5 w2.heap.size) u0 u1 i → Bg (u2.heap.size) (u3.heap.size) u4 i := fun i hi => hi.elim (fun h => by have h1 := h.1; have h2 := h.2; exact ⟨by omega, by omega, by omega⟩) (fun h => by have h1 := h.1; have h2 := h.2; exact ⟨by omega, by omega, by omega⟩)
          have rr5 := hr5.keep (Same.mono kk2 (Sn.lt (fun i hi => by have := hi.2; omega) hk12.size))
          have bg5 : ∀ i, Sn (New w5 w2.heap.size) u1 u2 i → Bg (u2.heap.size) (u3.heap.size) u4 i := fun i hi => hi.elim (fun h => by have h1 := h.1; have h2 := h.2; exact ⟨by omega, by omega, by omega⟩) (fun h => by have h1 := h.1; have h2 := h.2; exact ⟨by omega, by omega, by omega⟩)
          refine wpL_one (i := 8) (by kernel_rfl) (StepL.mk rfl (fun K hK => ?_))
          refine step_store_blk rfl _ _ _ rfl (u2.heap.size) 0 27 _ [.slice E1 en1 ec1, .slice E2 en2 ec2, .slice E3 en3 ec3, .slice E4 en4 ec4] rfl rfl b9 (by simp) (by kernel_rfl) rfl ?_
          intro v5 hv5 hs5
          rw [splice_all [.slice E1 en1 ec1, .slice E2 en2 ec2, .slice E3 en3 ec3, .slice E4 en4 ec4] #[.slice none 0 0, .slice none 0 0, .slice none 0 0, .slice none 0 0] rfl] at hv5
          have ka5 : Keep w5 v5 := Keep.write hA hs5 (by omega)
          have ku := hA
          refine hK.out _ _ (SAB.both ka5 trivial) (fun hSS => ?_)
          clear hK K hA hB
          have hB := hSS.2
          have hA := hSS.1 (by kernel_rfl)
          (try dsimp only at hB); (try dsimp only at hA); clear hSS
          try simp only [Act.put, List.setIfInBounds_toArray, List.set_cons_zero, List.set_cons_succ]
          refine wpL_one (i := 9) (by kernel_rfl) (StepL.mk rfl (fun K hK => ?_))
          refine step_store_blk rfl _ _ _ rfl (u3.heap.size) 0 27 _ [.slice F1 fn1 fc1, .slice F2 fn2 fc2, .slice F3 fn3 fc3, .slice F4 fn4 fc4] rfl rfl (hs5.blk b10 (by omega)) (by simp) (by kernel_rfl) rfl ?_
          intro v6 hv6 hs6
          rw [splice_all [.slice F1 fn1 fc1, .slice F2 fn2 fc2, .slice F3 fn3 fc3, .slice F4 fn4 fc4] #[.slice none 0 0, .slice none 0 0, .slice none 0 0, .slice none 0 0] rfl] at hv6
          have hfin : S7 w5 (startS cd me 3) (.pointer (some ⟨u2.heap.size, 0, none⟩)) (.pointer (some ⟨u3.heap.size, 0, none⟩)) v6 := ⟨_, _, rfl, rfl, by omega, by omega, by omega, two_put (by omega) (by omega) (by omega) (by omega) (by omega) bg2 bg5 rr2 rr5 ku hv5 hs5 hv6 hs6⟩
          refine hK.out _ _ (SAB.past (by kernel_rfl) trivial) (fun hSS => ?_)
          clear hK K hA hB
          have hB := hSS.2
          have hA : True := trivial
          (try dsimp only at hB); (try dsimp only at hA); clear hSS
          try simp only [Act.put, List.setIfInBounds_toArray, List.set_cons_zero, List.set_cons_succ]
          refine wpL_done (by kernel_rfl) ?_
          have HFIN := Lib.hid hfin
          clear hfin
          clear hv5 hs5 hv6 hs6 ku ka5 rr2 rr5 bg2 bg5 b9 b10 kk1 kk2 kk3 kk4 hb6 hb7 hr2 hr5 hA hB hk11 hk12 hk13 hk14
          go_wp2_with fail
          go_meet
          exact HFIN.out
        · go_simp
          generalize hq : u2.alloc (.cells #[.slice none 0 0, .slice none 0 0, .slice none 0 0, .slice none 0 0] 27) = u3
          have hb7 : Blk u3 u2.heap.size 27 #[.slice none 0 0, .slice none 0 0, .slice none 0 0, .slice none 0 0] := hq ▸ Blk.new _ _ _
          have hk13 : Keep u2 u3 := hq ▸ Keep.new _ _
          clear hq
          have y7 := hb7.lt
          have z3 := hk13.size
          have ha := Keep.trans hA hk13
          refine hK.out _ _ (SAB.both ha trivial) (fun hSS => ?_)
          clear hK K hA hB
          have hB := hSS.2
          have hA := hSS.1 (by kernel_rfl)
          (try dsimp only at hB); (try dsimp only at hA); clear hSS
          try simp only [Act.put, List.setIfInBounds_toArray, List.set_cons_zero, List.set_cons_succ]
          clear ha
          refine wpL_one (i := 6) (by kernel_rfl) (StepL.mk rfl (fun K hK => ?_))
          go_simp
          generalize hq : u3.alloc (.cells #[.slice none 0 0, .slice none 0 0, .slice none 0 0, .slice none 0 0] 27) = u4
          have hb6 : Blk u4 u3.heap.size 27 #[.slice none 0 0, .slice none 0 0, .slice none 0 0, .slice none 0 0] := hq ▸ Blk.new _ _ _
          have hk14 : Keep u3 u4 := hq ▸ Keep.new _ _
          clear hq
          have y6 := hb6.lt
          have z4 := hk14.size
          have ha := Keep.trans hA hk14
          refine hK.out _ _ (SAB.both ha trivial) (fun hSS => ?_)
          clear hK K hA hB
          have hB := hSS.2
          have hA := hSS.1 (by kernel_rfl)
          (try dsimp only at hB); (try dsimp only at hA); clear hSS
          try simp only [Act.put, List.setIfInBounds_toArray, List.set_cons_zero, List.set_cons_succ]
          clear ha
          have kk4 : Keep u4 u4 := Same.refl _ _
          have kk3 : Keep u3 u4 := Keep.trans hk14 kk4
          have kk2 : Keep u2 u4 := Keep.trans hk13 kk3
          have kk1 : Keep u1 u4 := Keep.trans hk12 kk2
          have zA := hA.size
          have b9 := kk4.blk hb6 y6
          have b10 := kk3.blk hb7 y7
          have rr2 := hr2.keep (Same.mono kk1 (Sn.lt (fun i hi => by have := hi.2; omega) hk11.size))
          have bg2 : ∀ i, Sn (New w5 w2.heap.size) u0 u1 i → Bg (u3.heap.size) (u2.heap.size) u4 i := fun i hi => hi.elim (fun h => by have h1 := h.1; have h2 := h.2; exact ⟨by omega, by omega, by omega⟩) (fun h => by have h1 := h.1; have h2 := h.2; exact ⟨by omega, by omega, by omega⟩)
          have rr5 := hr5.keep (Same.mono kk2 (Sn.lt (fun i hi => by have := hi.2; omega) hk12.size))
          have bg5 : ∀ i, Sn (New w5 w2.heap.size) u1 u2 i → Bg (u3.heap.size) (u2.heap.size) u4 i := fun i hi => hi.elim (fun h => by have h1 := h.1; have h2 := h.2; exact ⟨by omega, by omega, by omega⟩) (fun h => by have h1 := h.1; have h2 := h.2; exact ⟨by omega, by omega, by omega⟩)
          refine wpL_one (i := 8) (by kernel_rfl) (StepL.mk rfl (fun K hK => ?_))
          refine step_store_blk rfl _ _ _ rfl (u3.heap.size) 0 27 _ [.slice E1 en1 ec1, .slice E2 en2 ec2, .slice E3 en3 ec3, .slice E4 en4 ec4] rfl rfl b9 (by simp) (by kernel_rfl) rfl ?_
          intro v5 hv5 hs5
          rw [splice_all [.slice E1 en1 ec1, .slice E2 en2 ec2, .slice E3 en3 ec3, .slice E4 en4 ec4] #[.slice none 0 0, .slice none 0 0, .slice none 0 0, .slice none 0 0] rfl] at hv5
          have ka5 : Keep w5 v5 := Keep.write hA hs5 (by omega)
          have ku := hA
          refine hK.out _ _ (SAB.both ka5 trivial) (fun hSS => ?_)
          clear hK K hA hB
          have hB := hSS.2
          have hA := hSS.1 (by kernel_rfl)
          (try dsimp only at hB); (try dsimp only at hA); clear hSS
          try simp only [Act.put, List.setIfInBounds_toArray, List.set_cons_zero, List.set_cons_succ]
          refine wpL_one (i := 9) (by kernel_rfl) (StepL.mk rfl (fun K hK => ?_))
          refine step_store_blk rfl _ _ _ rfl (u2.heap.size) 0 27 _ [.slice F1 fn1 fc1, .slice F2 fn2 fc2, .slice F3 fn3 fc3, .slice F4 fn4 fc4] rfl rfl (hs5.blk b10 (by omega)) (by simp) (by kernel_rfl) rfl ?_
          intro v6 hv6 hs6
          rw [splice_all [.slice F1 fn1 fc1, .slice F2 fn2 fc2, .slice F3 fn3 fc3, .slice F4 fn4 fc4] #[.slice none 0 0, .slice none 0 0, .slice none 0 0, .slice none 0 0] rfl] at hv6
          have hfin : S7 w5 (startS cd me 3) (.pointer (some ⟨u3.heap.size, 0, none⟩)) (.pointer (some ⟨u2.heap.size, 0, none⟩)) v6 := ⟨_, _, rfl, rfl, by omega, by omega, by omega, two_put (by omega) (by omega) (by omega) (by omega) (by omega) bg2 bg5 rr2 rr5 ku hv5 hs5 hv6 hs6⟩
          refine hK.out _ _ (SAB.past (by kernel_rfl) trivial) (fun hSS => ?_)
          clear hK K hA hB
          have hB := hSS.2
          have hA : True := trivial
          (try dsimp only at hB); (try dsimp only at hA); clear hSS
          try simp only [Act.put, List.setIfInBounds_toArray, List.set_cons_zero, List.set_cons_succ]
          refine wpL_done (by kernel_rfl) ?_
          have HFIN := Lib.hid hfin
          clear hfin
          clear hv5 hs5 hv6 hs6 ku ka5 rr2 rr5 bg2 bg5 b9 b10 kk1 kk2 kk3 kk4 hb6 hb7 hr2 hr5 hA hB hk11 hk12 hk13 hk14
          go_wp2_with fail
          go_meet
          exact HFIN.out
      · go_simp
        generalize hq : u1.alloc (.cells #[.slice none 0 0, .slice none 0 0, .slice none 0 0, .slice none 0 0] 27) = u2
        have hb6 : Blk u2 u1.heap.size 27 #[.slice none 0 0, .slice none 0 0, .slice none 0 0, .slice none 0 0] := hq ▸ Blk.new _ _ _
        have hk12 : Keep u1 u2 := hq ▸ Keep.new _ _
        clear hq
        have y6 := hb6.lt
        have z2 := hk12.size
        have ha := Keep.trans hA hk12
        refine hK.out _ _ (SAB.both ha trivial) (fun hSS => ?_)
        clear hK K hA hB
        have hB := hSS.2
        have hA := hSS.1 (by kernel_rfl)
        (try dsimp only at hB); (try dsimp only at hA); clear hSS
        try simp only [Act.put, List.setIfInBounds_toArray, List.set_cons_zero, List.set_cons_succ]
        clear ha
        refine wpL_two (i := 5) (j := 7) (by kernel_rfl) (StepL.mk rfl (fun K hK => ?_)) (StepL.mk rfl (fun K hK => ?_))
        · go_simp
          refine (rstart_any u2 (New w5 w2.heap.size) [.slice B0 p0 q0, .slice B1 p1 q1, .slice B2 p2 q2, .slice B3 p3 q3, .slice B4 p4 q4] cd me 3 (fun i hi => by have := hi.2; have := hA.size; omega) (HCD5.out.keep (Same.mono hA (fun i hi => hi.2)))).mono ?_
          rintro e u3 ⟨cs5, rfl, hr5', hk13⟩
          obtain ⟨F1, F2, F3, F4, fn1, fc1, fn2, fc2, fn3, fc3, fn4, fc4, rfl, hr5⟩ := st_open hr5'
          clear hr5'
          have z3 := hk13.size
          have ha := Keep.trans hA hk13
          refine hK.out _ _ (SAB.both ha trivial) (fun hSS => ?_)
          clear hK K hA hB
          have hB := hSS.2
          have hA := hSS.1 (by kernel_rfl)
          (try dsimp only at hB); (try dsimp only at hA); clear hSS
          try simp only [Act.put, List.setIfInBounds_toArray, List.set_cons_zero, List.set_cons_succ]
          clear ha
          refine wpL_one (i := 7) (by kernel_rfl) (StepL.mk rfl (fun K hK => ?_))
          go_simp
          generalize hq : u3.alloc (.cells #[.slice none 0 0, .slice none 0 0, .slice none 0 0, .slice none 0 0] 27) = u4
          have hb7 : Blk u4 u3.heap.size 27 #[.slice none 0 0, .slice none 0 0, .slice none 0 0, .slice none 0 0] := hq ▸ Blk.new _ _ _
          have hk14 : Keep u3 u4 := hq ▸ Keep.new _ _
          clear hq
          have y7 := hb7.lt
          have z4 := hk14.size
          have ha := Keep.trans hA hk14
          refine hK.out _ _ (SAB.both ha trivial) (fun hSS => ?_)
          clear hK K hA hB
          have hB := hSS.2
          have hA := hSS.1 (by kernel_rfl)
          (try dsimp only at hB); (try dsimp only at hA); clear hSS
          try simp only [Act.put, List.setIfInBounds_toArray, List.set_cons_zero, List.set_cons_succ]
          clear ha
          have kk4 : Keep u4 u4 := Same.refl _ _
          have kk3 : Keep u3 u4 := Keep.trans hk14 kk4
          have kk2 : Keep u2 u4 := Keep.trans hk13 kk3
          have kk1 : Keep u1 u4 := Keep.trans hk12 kk2
          have zA := hA.size
          have b9 := kk2.blk hb6 y6
          have b10 := kk4.blk hb7 y7
          have rr2 := hr2.keep (Same.mono kk1 (Sn.lt (fun i hi => by have := hi.2; omega) hk11.size))
          have bg2 : ∀ i, Sn (New w5 w2.heap.size) u0 u1 i → Bg (u1.heap.size) (u3.heap.size) u4 i := fun i hi => hi.elim (fun h => by have h1 := h.1; have h2 := h.2; exact ⟨by omega, by omega, by omega⟩) (fun h => by have h1 := h.1; have h2 := h.2; exact ⟨by omega, by omega, by omega⟩)
          have rr5 := hr5.keep (Same.mono kk3 (Sn.lt (fun i hi => by have := hi.2; omega) hk13.size))
          have bg5 : ∀ i, Sn (New w5 w2.heap.size) u2 u3 i → Bg (u1.heap.size) (u3.heap.size) u4 i := fun i hi => hi.elim (fun h => by have h1 := h.1; have h2 := h.2; exact ⟨by omega, by omega, by omega⟩) (fun h => by have h1 := h.1; have h2 := h.2; exact ⟨by omega, by omega, by omega⟩)
          refine wpL_one (i := 8) (by kernel_rfl) (StepL.mk rfl (fun K hK => ?_))
          refine step_store_blk rfl _ _ _ rfl (u1.heap.size) 0 27 _ [.slice E1 en1 ec1, .slice E2 en2 ec2, .slice E3 en3 ec3, .slice E4 en4 ec4] rfl rfl b9 (by simp) (by kernel_rfl) rfl ?_
          intro v5 hv5 hs5
          rw [splice_all [.slice E1 en1 ec1, .slice E2 en2 ec2, .slice E3 en3 ec3, .slice E4 en4 ec4] #[.slice none 0 0, .slice none 0 0, .slice none 0 0, .slice none 0 0] rfl] at hv5
          have ka5 : Keep w5 v5 := Keep.write hA hs5 (by omega)
          have ku := hA
          refine hK.out _ _ (SAB.both ka5 trivial) (fun hSS => ?_)
          clear hK K hA hB
          have hB := hSS.2
          have hA := hSS.1 (by kernel_rfl)
          (try dsimp only at hB); (try dsimp only at hA); clear hSS
          try simp only [Act.put, List.setIfInBounds_toArray, List.set_cons_zero, List.set_cons_succ]
          refine wpL_one (i := 9) (by kernel_rfl) (StepL.mk rfl (fun K hK => ?_))
          refine step_store_blk rfl _ _ _ rfl (u3.heap.size) 0 27 _ [.slice F1 fn1 fc1, .slice F2 fn2 fc2, .slice F3 fn3 fc3, .slice F4 fn4 fc4] rfl rfl (hs5.blk b10 (by omega)) (by simp) (by kernel_rfl) rfl ?_
          intro v6 hv6 hs6
          rw [splice_all [.slice F1 fn1 fc1, .slice F2 fn2 fc2, .slice F3 fn3 fc3, .slice F4 fn4 fc4] #[.slice none 0 0, .slice none 0 0, .slice none 0 0, .slice none 0 0] rfl] at hv6
          have hfin : S7 w5 (startS cd me 3) (.pointer (some ⟨u1.heap.size, 0, none⟩)) (.pointer (some ⟨u3.heap.size, 0, none⟩)) v6 := ⟨_, _, rfl, rfl, by omega, by omega, by omega, two_put (by omega) (by omega) (by omega) (by omega) (by omega) bg2 bg5 rr2 rr5 ku hv5 hs5 hv6 hs6⟩
          refine hK.out _ _ (SAB.past (by kernel_rfl) trivial) (fun hSS => ?_)
          clear hK K hA hB
          have hB := hSS.2
          have hA : True := trivial
          (try dsimp only at hB); (try dsimp only at hA); clear hSS
          try simp only [Act.put, List.setIfInBounds_toArray, List.set_cons_zero, List.set_cons_succ]
          refine wpL_done (by kernel_rfl) ?_
          have HFIN := Lib.hid hfin
          clear hfin
          clear hv5 hs5 hv6 hs6 ku ka5 rr2 rr5 bg2 bg5 b9 b10 kk1 kk2 kk3 kk4 hb6 hb7 hr2 hr5 hA hB hk11 hk12 hk13 hk14
          go_wp2_with fail
          go_meet
          exact HFIN.out
        · go_simp
          generalize hq : u2.alloc (.cells #[.slice none 0 0, .slice none 0 0, .slice none 0 0, .slice none 0 0] 27) = u3
          have hb7 : Blk u3 u2.heap.size 27 #[.slice none 0 0, .slice none 0 0, .slice none 0 0, .slice none 0 0] := hq ▸ Blk.new _ _ _
          have hk13 : Keep u2 u3 := hq ▸ Keep.new _ _
          clear hq
          have y7 := hb7.lt
          have z3 := hk13.size
          have ha := Keep.trans hA hk13
          refine hK.out _ _ (SAB.both ha trivial) (fun hSS => ?_)
          clear hK K hA hB
          have hB := hSS.2
          have hA := hSS.1 (by kernel_rfl)
          (try dsimp only at hB); (try dsimp only at hA); clear hSS
          try simp only [Act.put, List.setIfInBounds_toArray, List.set_cons_zero, List.set_cons_succ]
          clear ha
          refine wpL_one (i := 5) (by kernel_rfl) (StepL.mk rfl (fun K hK => ?_))
          go_simp
          refine (rstart_any u3 (New w5 w2.heap.size) [.slice B0 p0 q0, .slice B1 p1 q1, .slice B2 p2 q2, .slice B3 p3 q3, .slice B4 p4 q4] cd me 3 (fun i hi => by have := hi.2; have := hA.size; omega) (HCD5.out.keep (Same.mono hA (fun i hi => hi.2)))).mono ?_
          rintro e u4 ⟨cs5, rfl, hr5', hk14⟩
          obtain ⟨F1, F2, F3, F4, fn1, fc1, fn2, fc2, fn3, fc3, fn4, fc4, rfl, hr5⟩ := st_open hr5'
          clear hr5'
          have z4 := hk14.size
          have ha := Keep.trans hA hk14
          refine hK.out _ _ (SAB.both ha trivial) (fun hSS => ?_)
          clear hK K hA hB
          have hB := hSS.2
          have hA := hSS.1 (by kernel_rfl)
          (try dsimp only at hB); (try dsimp only at hA); clear hSS
          try simp only [Act.put, List.setIfInBounds_toArray, List.set_cons_zero, List.set_cons_succ]
          clear ha
          have kk4 : Keep u4 u4 := Same.refl _ _
          have kk3 : Keep u3 u4 := Keep.trans hk14 kk4
          have kk2 : Keep u2 u4 := Keep.trans hk13 kk3
          have kk1 : Keep u1 u4 := Keep.trans hk12 kk2
          have zA := hA.size
          have b9 := kk2.blk hb6 y6
          have b10 := kk3.blk hb7 y7
          have rr2 := hr2.keep (Same.mono kk1 (Sn.lt (fun i hi => by have := hi.2; omega) hk11.size))
          have bg2 : ∀ i, Sn (New w5 w2.heap.size) u0 u1 i → Bg (u1.heap.size) (u2.heap.size) u4 i := fun i hi => hi.elim (fun h => by have h1 := h.1; have h2 := h.2; exact ⟨by omega, by omega, by omega⟩) (fun h => by have h1 := h.1; have h2 := h.2; exact ⟨by omega, by omega, by omega⟩)
          have rr5 := hr5.keep (Same.mono kk4 (Sn.lt (fun i hi => by have := hi.2; omega) hk14.size))
          have bg5 : ∀ i, Sn (New w5 w2.heap.size) u3 u4 i → Bg (u1.heap.size) (u2.heap.size) u4 i := fun i hi => hi.elim (fun h => by have h1 := h.1; have h2 := h.2; exact ⟨by omega, by omega, by omega⟩) (fun h => by have h1 := h.1; have h2 := h.2; exact ⟨by omega, by omega, by omega⟩)
          refine wpL_one (i := 8) (by kernel_rfl) (StepL.mk rfl (fun K hK => ?_))
          refine step_store_blk rfl _ _ _ rfl (u1.heap.size) 0 27 _ [.slice E1 en1 ec1, .slice E2 en2 ec2, .slice E3 en3 ec3, .slice E4 en4 ec4] rfl rfl b9 (by simp) (by kernel_rfl) rfl ?_
          intro v5 hv5 hs5
          rw [splice_all [.slice E1 en1 ec1, .slice E2 en2 ec2, .slice E3 en3 ec3, .slice E4 en4 ec4] #[.slice none 0 0, .slice none 0 0, .slice none 0 0, .slice none 0 0] rfl] at hv5
          have ka5 : Keep w5 v5 := Keep.write hA hs5 (by omega)
          have ku := hA
          refine hK.out _ _ (SAB.both ka5 trivial) (fun hSS => ?_)
          clear hK K hA hB
          have hB := hSS.2
          have hA := hSS.1 (by kernel_rfl)
          (try dsimp only at hB); (try dsimp only at hA); clear hSS
          try simp only [Act.put, List.setIfInBounds_toArray, List.set_cons_zero, List.set_cons_succ]
          refine wpL_one (i := 9) (by kernel_rfl) (StepL.mk rfl (fun K hK => ?_))
          refine step_store_blk rfl _ _ _ rfl (u2.heap.size) 0 27 _ [.slice F1 fn1 fc1, .slice F2 fn2 fc2, .slice F3 fn3 fc3, .slice F4 fn4 fc4] rfl rfl (hs5.blk b10 (by omega)) (by simp) (by kernel_rfl) rfl ?_
          intro v6 hv6 hs6
          rw [splice_all [.slice F1 fn1 fc1, .slice F2 fn2 fc2, .slice F3 fn3 fc3, .slice F4 fn4 fc4] #[.slice none 0 0, .slice none 0 0, .slice none 0 0, .slice none 0 0] rfl] at hv6
          have hfin : S7 w5 (startS cd me 3) (.pointer (some ⟨u1.heap.size, 0, none⟩)) (.pointer (some ⟨u2.heap.size, 0, none⟩)) v6 := ⟨_, _, rfl, rfl, by omega, by omega, by omega, two_put (by omega) (by omega) (by omega) (by omega) (by omega) bg2 bg5 rr2 rr5 ku hv5 hs5 hv6 hs6⟩
          refine hK.out _ _ (SAB.past (by kernel_rfl) trivial) (fun hSS => ?_)
          clear hK K hA hB
          have hB := hSS.2
          have hA : True := trivial
          (try dsimp only at hB); (try dsimp only at hA); clear hSS
          try simp only [Act.put, List.setIfInBounds_toArray, List.set_cons_zero, List.set_cons_succ]
          refine wpL_done (by kernel_rfl) ?_
          have HFIN := Lib.hid hfin
          clear hfin
          clear hv5 hs5 hv6 hs6 ku ka5 rr2 rr5 bg2 bg5 b9 b10 kk1 kk2 kk3 kk4 hb6 hb7 hr2 hr5 hA hB hk11 hk12 hk13 hk14
          go_wp2_with fail
          go_meet
          exact HFIN.out
      · go_simp
        generalize hq : u1.alloc (.cells #[.slice none 0 0, .slice none 0 0, .slice none 0 0, .slice none 0 0] 27) = u2
        have hb7 : Blk u2 u1.heap.size 27 #[.slice none 0 0, .slice none 0 0, .slice none 0 0, .slice none 0 0] := hq ▸ Blk.new _ _ _
        have hk12 : Keep u1 u2 := hq ▸ Keep.new _ _
        clear hq
        have y7 := hb7.lt
        have z2 := hk12.size
        have ha := Keep.trans hA hk12
        refine hK.out _ _ (SAB.both ha trivial) (fun hSS => ?_)
        clear hK K hA hB
        have hB := hSS.2
        have hA := hSS.1 (by kernel_rfl)
        (try dsimp only at hB); (try dsimp only at hA); clear hSS
        try simp only [Act.put, List.setIfInBounds_toArray, List.set_cons_zero, List.set_cons_succ]
        clear ha
        refine wpL_two (i := 5) (j := 6) (by kernel_rfl) (StepL.mk rfl (fun K hK => ?_)) (StepL.mk rfl (fun K hK => ?_))
        · go_simp
          refine (rstart_any u2 (New w5 w2.heap.size) [.slice B0 p0 q0, .slice B1 p1 q1, .slice B2 p2 q2, .slice B3 p3 q3, .slice B4 p4 q4] cd me 3 (fun i hi => by have := hi.2; have := hA.size; omega) (HCD5.out.keep (Same.mono hA (fun i hi => hi.2)))).mono ?_
          rintro e u3 ⟨cs5, rfl, hr5', hk13⟩
          obtain ⟨F1, F2, F3, F4, fn1, fc1, fn2, fc2, fn3, fc3, fn4, fc4, rfl, hr5⟩ := st_open hr5'
          clear hr5'
          have z3 := hk13.size
          have ha := Keep.trans hA hk13
          refine hK.out _ _ (SAB.both ha trivial) (fun hSS => ?_)
          clear hK K hA hB
          have hB := hSS.2
          have hA := hSS.1 (by kernel_rfl)
          (try dsimp only at hB); (try dsimp only at hA); clear hSS
          try simp only [Act.put, List.setIfInBounds_toArray, List.set_cons_zero, List.set_cons_succ]
          clear ha
          refine wpL_one (i := 6) (by kernel_rfl) (StepL.mk rfl (fun K hK => ?_))
          go_simp
          generalize hq : u3.alloc (.cells #[.slice none 0 0, .slice none 0 0, .slice none 0 0, .slice none 0 0] 27) = u4
          have hb6 : Blk u4 u3.heap.size 27 #[.slice none 0 0, .slice none 0 0, .slice none 0 0, .slice none 0 0] := hq ▸ Blk.new _ _ _
          have hk14 : Keep u3 u4 := hq ▸ Keep.new _ _
          clear hq
          have y6 := hb6.lt
          have z4 := hk14.size
          have ha := Keep.trans hA hk14
          refine hK.out _ _ (SAB.both ha trivial) (fun hSS => ?_)
          clear hK K hA hB
          have hB := hSS.2
          have hA := hSS.1 (by kernel_rfl)
          (try dsimp only at hB); (try dsimp only at hA); clear hSS
          try simp only [Act.put, List.setIfInBounds_toArray, List.set_cons_zero, List.set_cons_succ]
          clear ha
          have kk4 : Keep u4 u4 := Same.refl _ _
          have kk3 : Keep u3 u4 := Keep.trans hk14 kk4
          have kk2 : Keep u2 u4 := Keep.trans hk13 kk3
          have kk1 : Keep u1 u4 := Keep.trans hk12 kk2
          have zA := hA.size
          have b9 := kk4.blk hb6 y6
          have b10 := kk2.blk hb7 y7
          have rr2 := hr2.keep (Same.mono kk1 (Sn.lt (fun i hi => by have := hi.2; omega) hk11.size))
          have bg2 : ∀ i, Sn (New w5 w2.heap.size) u0 u1 i → Bg (u3.heap.size) (u1.heap.size) u4 i := fun i hi => hi.elim (fun h => by have h1 := h.1; have h2 := h.2; exact ⟨by omega, by omega, by omega⟩) (fun h => by have h1 := h.1; have h2 := h.2; exact ⟨by omega, by omega, by omega⟩)
          have rr5 := hr5.keep (Same.mono kk3 (Sn.lt (fun i hi => by have := hi.2; omega) hk13.size))
          have bg5 : ∀ i, Sn (New w5 w2.heap.size) u2 u3 i → Bg (u3.heap.size) (u1.heap.size) u4 i := fun i hi => hi.elim (fun h => by have h1 := h.1; have h2 := h.2; exact ⟨by omega, by omega, by omega⟩) (fun h => by have h1 := h.1; have h2 := h.2; exact ⟨by omega, by omega, by omega⟩)
          refine wpL_one (i := 8) (by kernel_rfl) (StepL.mk rfl (fun K hK => ?_))
          refine step_store_blk rfl _ _ _ rfl (u3.heap.size) 0 27 _ [.slice E1 en1 ec1, .slice E2 en2 ec2, .slice E3 en3 ec3, .slice E4 en4 ec4] rfl rfl b9 (by simp) (by kernel_rfl) rfl ?_
          intro v5 hv5 hs5
          rw [splice_all [.slice E1 en1 ec1, .slice E2 en2 ec2, .slice E3 en3 ec3, .slice E4 en4 ec4] #[.slice none 0 0, .slice none 0 0, .slice none 0 0, .slice none 0 0] rfl] at hv5
          have ka5 : Keep w5 v5 := Keep.write hA hs5 (by omega)
          have ku := hA
          refine hK.out _ _ (SAB.both ka5 trivial) (fun hSS => ?_)
          clear hK K hA hB
          have hB := hSS.2
          have hA := hSS.1 (by kernel_rfl)
          (try dsimp only at hB); (try dsimp only at hA); clear hSS
          try simp only [Act.put, List.setIfInBounds_toArray, List.set_cons_zero, List.set_cons_succ]
          refine wpL_one (i := 9) (by kernel_rfl) (StepL.mk rfl (fun K hK => ?_))
          refine step_store_blk rfl _ _ _ rfl (u1.heap.size) 0 27 _ [.slice F1 fn1 fc1, .slice F2 fn2 fc2, .slice F3 fn3 fc3, .slice F4 fn4 fc4] rfl rfl (hs5.blk b10 (by omega)) (by simp) (by kernel_rfl) rfl ?_
          intro v6 hv6 hs6
          rw [splice_all [.slice F1 fn1 fc1, .slice F2 fn2 fc2, .slice F3 fn3 fc3, .slice F4 fn4 fc4] #[.slice none 0 0, .slice none 0 0, .slice none 0 0, .slice none 0 0] rfl] at hv6
          have hfin : S7 w5 (startS cd me 3) (.pointer (some ⟨u3.heap.size, 0, none⟩)) (.pointer (some ⟨u1.heap.size, 0, none⟩)) v6 := ⟨_, _, rfl, rfl, by omega, by omega, by omega, two_put (by omega) (by omega) (by omega) (by omega) (by omega) bg2 bg5 rr2 rr5 ku hv5 hs5 hv6 hs6⟩
          refine hK.out _ _ (SAB.past (by kernel_rfl) trivial) (fun hSS => ?_)
          clear hK K hA hB
          have hB := hSS.2
          have hA : True := trivial
          (try dsimp only at hB); (try dsimp only at hA); clear hSS
          try simp only [Act.put, List.setIfInBounds_toArray, List.set_cons_zero, List.set_cons_succ]
          refine wpL_done (by kernel_rfl) ?_
          have HFIN := Lib.hid hfin
          clear hfin
          clear hv5 hs5 hv6 hs6 ku ka5 rr2 rr5 bg2 bg5 b9 b10 kk1 kk2 kk3 kk4 hb6 hb7 hr2 hr5 hA hB hk11 hk12 hk13 hk14
          go_wp2_with fail
          go_meet
          exact HFIN.out
        · go_simp
          generalize hq : u2.alloc (.cells #[.slice none 0 0, .slice none 0 0, .slice none 0 0, .slice none 0 0] 27) = u3
          have hb6 : Blk u3 u2.heap.size 27 #[.slice none 0 0, .slice none 0 0, .slice none 0 0, .slice none 0 0] := hq ▸ Blk.new _ _ _
          have hk13 : Keep u2 u3 := hq ▸ Keep.new _ _
          clear hq
          have y6 := hb6.lt
          have z3 := hk13.size
          have ha := Keep.trans hA hk13
          refine hK.out _ _ (SAB.both ha trivial) (fun hSS => ?_)
          clear hK K hA hB
          have hB := hSS.2
          have hA := hSS.1 (by kernel_rfl)
          (try dsimp only at hB); (try dsimp only at hA); clear hSS
          try simp only [Act.put, List.setIfInBounds_toArray, List.set_cons_zero, List.set_cons_succ]
          clear ha
          refine wpL_one (i := 5) (by kernel_rfl) (StepL.mk rfl (fun K hK => ?_))
          go_simp
          refine (rstart_any u3 (New w5 w2.heap.size) [.slice B0 p0 q0, .slice B1 p1 q1, .slice B2 p2 q2, .slice B3 p3 q3, .slice B4 p4 q4] cd me 3 (fun i hi => by have := hi.2; have := hA.size; omega) (HCD5.out.keep (Same.mono hA (fun i hi => hi.2)))).mono ?_
          rintro e u4 ⟨cs5, rfl, hr5', hk14⟩
          obtain ⟨F1, F2, F3, F4, fn1, fc1, fn2, fc2, fn3, fc3, fn4, fc4, rfl, hr5⟩ := st_open hr5'
          clear hr5'
          have z4 := hk14.size
          have ha := Keep.trans hA hk14
          refine hK.out _ _ (SAB.both ha trivial) (fun hSS => ?_)
          clear hK K hA hB
          have hB := hSS.2
          have hA := hSS.1 (by kernel_rfl)
          (try dsimp only at hB); (try dsimp only at hA); clear hSS
          try simp only [Act.put, List.setIfInBounds_toArray, List.set_cons_zero, List.set_cons_succ]
          clear ha
          have kk4 : Keep u4 u4 := Same.refl _ _
          have kk3 : Keep u3 u4 := Keep.trans hk14 kk4
          have kk2 : Keep u2 u4 := Keep.trans hk13 kk3
          have kk1 : Keep u1 u4 := Keep.trans hk12 kk2
          have zA := hA.size
          have b9 := kk3.blk hb6 y6
          have b10 := kk2.blk hb7 y7
          have rr2 := hr2.keep (Same.mono kk1 (Sn.lt (fun i hi => by have := hi.2; omega) hk11.size))
          have bg2 : ∀ i, Sn (New w5 w2.heap.size) u0 u1 i → Bg (u2.heap.size) (u1.heap.size) u4 i := fun i hi => hi.elim (fun h => by have h1 := h.1; have h2 := h.2; exact ⟨by omega, by omega, by omega⟩) (fun h => by have h1 := h.1; have h2 := h.2; exact ⟨by omega, by omega, by omega⟩)
          have rr5 := hr5.keep (Same.mono kk4 (Sn.lt (fun i hi => by have := hi.2; omega) hk14.size))
          have bg5 : ∀ i, Sn (New w5 w2.heap.size) u3 u4 i → Bg (u2.heap.size) (u1.heap.size) u4 i := fun i hi => hi.elim (fun h => by have h1 := h.1; have h2 := h.2; exact ⟨by omega, by omega, by omega⟩) (fun h => by have h1 := h.1; have h2 := h.2; exact ⟨by omega, by omega, by omega⟩)
          refine wpL_one (i := 8) (by kernel_rfl) (StepL.mk rfl (fun K hK => ?_))
          refine step_store_blk rfl _ _ _ rfl (u2.heap.size) 0 27 _ [.slice E1 en1 ec1, .slice E2 en2 ec2, .slice E3 en3 ec3, .slice E4 en4 ec4] rfl rfl b9 (by simp) (by kernel_rfl) rfl ?_
          intro v5 hv5 hs5
          rw [splice_all [.slice E1 en1 ec1, .slice E2 en2 ec2, .slice E3 en3 ec3, .slice E4 en4 ec4] #[.slice none 0 0, .slice none 0 0, .slice none 0 0, .slice none 0 0] rfl] at hv5
          have ka5 : Keep w5 v5 := Keep.write hA hs5 (by omega)
          have ku := hA
          refine hK.out _ _ (SAB.both ka5 trivial) (fun hSS => ?_)
          clear hK K hA hB
          have hB := hSS.2
          have hA := hSS.1 (by kernel_rfl)
          (try dsimp only at hB); (try dsimp only at hA); clear hSS
          try simp only [Act.put, List.setIfInBounds_toArray, List.set_cons_zero, List.set_cons_succ]
          refine wpL_one (i := 9) (by kernel_rfl) (StepL.mk rfl (fun K hK => ?_))
          refine step_store_blk rfl _ _ _ rfl (u1.heap.size) 0 27 _ [.slice F1 fn1 fc1, .slice F2 fn2 fc2, .slice F3 fn3 fc3, .slice F4 fn4 fc4] rfl rfl (hs5.blk b10 (by omega)) (by simp) (by kernel_rfl) rfl ?_
          intro v6 hv6 hs6
          rw [splice_all [.slice F1 fn1 fc1, .slice F2 fn2 fc2, .slice F3 fn3 fc3, .slice F4 fn4 fc4] #[.slice none 0 0, .slice none 0 0, .slice none 0 0, .slice none 0 0] rfl] at hv6
          have hfin : S7 w5 (startS cd me 3) (.pointer (some ⟨u2.heap.size, 0, none⟩)) (.pointer (some ⟨u1.heap.size, 0, none⟩)) v6 := ⟨_, _, rfl, rfl, by omega, by omega, by omega, two_put (by omega) (by omega) (by omega) (by omega) (by omega) bg2 bg5 rr2 rr5 ku hv5 hs5 hv6 hs6⟩
          refine hK.out _ _ (SAB.past (by kernel_rfl) trivial) (fun hSS => ?_)
          clear hK K hA hB
          have hB := hSS.2
          have hA : True := trivial
          (try dsimp only at hB); (try dsimp only at hA); clear hSS
          try simp only [Act.put, List.setIfInBounds_toArray, List.set_cons_zero, List.set_cons_succ]
          refine wpL_done (by kernel_rfl) ?_
          have HFIN := Lib.hid hfin
          clear hfin
          clear hv5 hs5 hv6 hs6 ku ka5 rr2 rr5 bg2 bg5 b9 b10 kk1 kk2 kk3 kk4 hb6 hb7 hr2 hr5 hA hB hk11 hk12 hk13 hk14
          go_wp2_with fail
          go_meet
          exact HFIN.out
    · go_simp
      generalize hq : u0.alloc (.cells #[.slice none 0 0, .slice none 0 0, .slice none 0 0, .slice none 0 0] 27) = u1
      have hb6 : Blk u1 u0.heap.size 27 #[.slice none 0 0, .slice none 0 0, .slice none 0 0, .slice none 0 0] := hq ▸ Blk.new _ _ _
      have hk11 : Keep u0 u1 := hq ▸ Keep.new _ _
      clear hq
      have y6 := hb6.lt
      have z1 := hk11.size
      have ha := Keep.trans hA hk11
      refine hK.out _ _ (SAB.both ha trivial) (fun hSS => ?_)
      clear hK K hA hB
      have hB := hSS.2
      have hA := hSS.1 (by kernel_rfl)
      (try dsimp only at hB); (try dsimp only at hA); clear hSS
      try simp only [Act.put, List.setIfInBounds_toArray, List.set_cons_zero, List.set_cons_succ]
      clear ha
      refine wpL_two (i := 2) (j := 7) (by kernel_rfl) (StepL.mk rfl (fun K hK => ?_)) (StepL.mk rfl (fun K hK => ?_))
      · go_simp
        refine (pstart_any u1 (New w5 w2.heap.size) [.slice B0 p0 q0, .slice B1 p1 q1, .slice B2 p2 q2, .slice B3 p3 q3, .slice B4 p4 q4] cd me 3 (fun i hi => by have := hi.2; have := hA.size; omega) (HCD5.out.keep (Same.mono hA (fun i hi => hi.2)))).mono ?_
        rintro e u2 ⟨cs2, rfl, hr2', hk12⟩
        obtain ⟨E1, E2, E3, E4, en1, ec1, en2, ec2, en3, ec3, en4, ec4, rfl, hr2⟩ := st_open hr2'
        clear hr2'
        have z2 := hk12.size
        have ha := Keep.trans hA hk12
        refine hK.out _ _ (SAB.both ha trivial) (fun hSS => ?_)
        clear hK K hA hB
        have hB := hSS.2
        have hA := hSS.1 (by kernel_rfl)
        (try dsimp only at hB); (try dsimp only at hA); clear hSS
        try simp only [Act.put, List.setIfInBounds_toArray, List.set_cons_zero, List.set_cons_succ]
        clear ha
        refine wpL_two (i := 5) (j := 7) (by kernel_rfl) (StepL.mk rfl (fun K hK => ?_)) (StepL.mk rfl (fun K hK => ?_))
        · go_simp
          refine (rstart_any u2 (New w5 w2.heap.size) [.slice B0 p0 q0, .slice B1 p1 q1, .slice B2 p2 q2, .slice B3 p3 q3, .slice B4 p4 q4] cd me 3 (fun i hi => by have := hi.2; have := hA.size; omega) (HCD5.out.keep (Same.mono hA (fun i hi => hi.2)))).mono ?_
          rintro e u3 ⟨cs5, rfl, hr5', hk13⟩
          obtain ⟨F1, F2, F3, F4, fn1, fc1, fn2, fc2, fn3, fc3, fn4, fc4, rfl, hr5⟩ := st_open hr5'
          clear hr5'
          have z3 := hk13.size
          have ha := Keep.trans hA hk13
          refine hK.out _ _ (SAB.both ha trivial) (fun hSS => ?_)
          clear hK K hA hB
          have hB := hSS.2
          have hA := hSS.1 (by kernel_rfl)
          (try dsimp only at hB); (try dsimp only at hA); clear hSS
          try simp only [Act.put, List.setIfInBounds_toArray, List.set_cons_zero, List.set_cons_succ]
          clear ha
          refine wpL_one (i := 7) (by kernel_rfl) (StepL.mk rfl (fun K hK => ?_))
          go_simp
          generalize hq : u3.alloc (.cells #[.slice none 0 0, .slice none 0 0, .slice none 0 0, .slice none 0 0] 27) = u4
          have hb7 : Blk u4 u3.heap.size 27 #[.slice none 0 0, .slice none 0 0, .slice none 0 0, .slice none 0 0] := hq ▸ Blk.new _ _ _
          have hk14 : Keep u3 u4 := hq ▸ Keep.new _ _
          clear hq
          have y7 := hb7.lt
          have z4 := hk14.size
          have ha := Keep.trans hA hk14
          refine hK.out _ _ (SAB.both ha trivial) (fun hSS => ?_)
          clear hK K hA hB
          have hB := hSS.2
          have hA := hSS.1 (by kernel_rfl)
          (try dsimp only at hB); (try dsimp only at hA); clear hSS
          try simp only [Act.put, List.setIfInBounds_toArray, List.set_cons_zero, List.set_cons_succ]
          clear ha
          have kk4 : Keep u4 u4 := Same.refl _ _
          have kk3 : Keep u3 u4 := Keep.trans hk14 kk4
          have kk2 : Keep u2 u4 := Keep.trans hk13 kk3
          have kk1 : Keep u1 u4 := Keep.trans hk12 kk2
          have zA := hA.size
          have b9 := kk1.blk hb6 y6
          have b10 := kk4.blk hb7 y7
          have rr2 := hr2.keep (Same.mono kk2 (Sn.lt (fun i hi => by have := hi.2; omega) hk12.size))
          have bg2 : ∀ i, Sn (New w5 w2.heap.size) u1 u2 i → Bg (u0.heap.size) (u3.heap.size) u4 i := fun i hi => hi.elim (fun h => by have h1 := h.1; have h2 := h.2; exact ⟨by omega, by omega, by omega⟩) (fun h => by have h1 := h.1; have h2 := h.2; exact ⟨by omega, by omega, by omega⟩)
          have rr5 := hr5.keep (Same.mono kk3 (Sn.lt (fun i hi => by have := hi.2; omega) hk13.size))
          have bg5 : ∀ i, Sn (New w5 w2.heap.size) u2 u3 i → Bg (u0.heap.size) (u3.heap.size) u4 i := fun i hi => hi.elim (fun h => by have h1 := h.1; have h2 := h.2; exact ⟨by omega, by omega, by omega⟩) (fun h => by have h1 := h.1; have h2 := h.2; exact ⟨by omega, by omega, by omega⟩)
          refine wpL_one (i := 8) (by kernel_rfl) (StepL.mk rfl (fun K hK => ?_))
          refine step_store_blk rfl _ _ _ rfl (u0.heap.size) 0 27 _ [.slice E1 en1 ec1, .slice E2 en2 ec2, .slice E3 en3 ec3, .slice E4 en4 ec4] rfl rfl b9 (by simp) (by kernel_rfl) rfl ?_
          intro v5 hv5 hs5
          rw [splice_all [.slice E1 en1 ec1, .slice E2 en2 ec2, .slice E3 en3 ec3, .slice E4 en4 ec4] #[.slice none 0 0, .slice none 0 0, .slice none 0 0, .slice none 0 0] rfl] at hv5
          have ka5 : Keep w5 v5 := Keep.write hA hs5 (by omega)
          have ku := hA
          refine hK.out _ _ (SAB.both ka5 trivial) (fun hSS => ?_)
          clear hK K hA hB
          have hB := hSS.2
          have hA := hSS.1 (by kernel_rfl)
          (try dsimp only at hB); (try dsimp only at hA); clear hSS
          try simp only [Act.put, List.setIfInBounds_toArray, List.set_cons_zero, List.set_cons_succ]
          refine wpL_one (i := 9) (by kernel_rfl) (StepL.mk rfl (fun K hK => ?_))
          refine step_store_blk rfl _ _ _ rfl (u3.heap.size) 0 27 _ [.slice F1 fn1 fc1, .slice F2 fn2 fc2, .slice F3 fn3 fc3, .slice F4 fn4 fc4] rfl rfl (hs5.blk b10 (by omega)) (by simp) (by kernel_rfl) rfl ?_
          intro v6 hv6 hs6
          rw [splice_all [.slice F1 fn1 fc1, .slice F2 fn2 fc2, .slice F3 fn3 fc3, .slice F4 fn4 fc4] #[.slice none 0 0, .slice none 0 0, .slice none 0 0, .slice none 0 0] rfl] at hv6
          have hfin : S7 w5 (startS cd me 3) (.pointer (some ⟨u0.heap.size, 0, none⟩)) (.pointer (some ⟨u3.heap.size, 0, none⟩)) v6 := ⟨_, _, rfl, rfl, by omega, by omega, by omega, two_put (by omega) (by omega) (by omega) (by omega) (by omega) bg2 bg5 rr2 rr5 ku hv5 hs5 hv6 hs6⟩
          refine hK.out _ _ (SAB.past (by kernel_rfl) trivial) (fun hSS => ?_)
          clear hK K hA hB
          have hB := hSS.2
          have hA : True := trivial
          (try dsimp only at hB); (try dsimp only at hA); clear hSS
          try simp only [Act.put, List.setIfInBounds_toArray, List.set_cons_zero, List.set_cons_succ]
          refine wpL_done (by kernel_rfl) ?_
          have HFIN := Lib.hid hfin
          clear hfin
          clear hv5 hs5 hv6 hs6 ku ka5 rr2 rr5 bg2 bg5 b9 b10 kk1 kk2 kk3 kk4 hb6 hb7 hr2 hr5 hA hB hk11 hk12 hk13 hk14
          go_wp2_with fail
          go_meet
          exact HFIN.out
        · go_simp
          generalize hq : u2.alloc (.cells #[.slice none 0 0, .slice none 0 0, .slice none 0 0, .slice none 0 0] 27) = u3
          have hb7 : Blk u3 u2.heap.size 27 #[.slice none 0 0, .slice none 0 0, .slice none 0 0, .slice none 0 0] := hq ▸ Blk.new _ _ _
          have hk13 : Keep u2 u3 := hq ▸ Keep.new _ _
          clear hq
          have y7 := hb7.lt
          have z3 := hk13.size
          have ha := Keep.trans hA hk13
          refine hK.out _ _ (SAB.both ha trivial) (fun hSS => ?_)
          clear hK K hA hB
          have hB := hSS.2
          have hA := hSS.1 (by kernel_rfl)
          (try dsimp only at hB); (try dsimp only at hA); clear hSS
          try simp only [Act.put, List.setIfInBounds_toArray, List.set_cons_zero, List.set_cons_succ]
          clear ha
          refine wpL_one (i := 5) (by kernel_rfl) (StepL.mk rfl (fun K hK => ?_))
          go_simp
          refine (rstart_any u3 (New w5 w2.heap.size) [.slice B0 p0 q0, .slice B1 p1 q1, .slice B2 p2 q2, .slice B3 p3 q3, .slice B4 p4 q4] cd me 3 (fun i hi => by have := hi.2; have := hA.size; omega) (HCD5.out.keep (Same.mono hA (fun i hi => hi.2)))).mono ?_
          rintro e u4 ⟨cs5, rfl, hr5', hk14⟩
          obtain ⟨F1, F2, F3, F4, fn1, fc1, fn2, fc2, fn3, fc3, fn4, fc4, rfl, hr5⟩ := st_open hr5'
          clear hr5'
          have z4 := hk14.size
          have ha := Keep.trans hA hk14
          refine hK.out _ _ (SAB.both ha trivial) (fun hSS => ?_)
          clear hK K hA hB
          have hB := hSS.2
          have hA := hSS.1 (by kernel_rfl)
          (try dsimp only at hB); (try dsimp only at hA); clear hSS
          try simp only [Act.put, List.setIfInBounds_toArray, List.set_cons_zero, List.set_cons_succ]
          clear ha
          have kk4 : Keep u4 u4 := Same.refl _ _
          have kk3 : Keep u3 u4 := Keep.trans hk14 kk4
          have kk2 : Keep u2 u4 := Keep.trans hk13 kk3
          have kk1 : Keep u1 u4 := Keep.trans hk12 kk2
          have zA := hA.size
          have b9 := kk1.blk hb6 y6
          have b10 := kk3.blk hb7 y7
          have rr2 := hr2.keep (Same.mono kk2 (Sn.lt (fun i hi => by have := hi.2; omega) hk12.size))
          have bg2 : ∀ i, Sn (New w5 w2.heap.size) u1 u2 i → Bg (u0.heap.size) (u2.heap.size) u4 i := fun i hi => hi.elim (fun h => by have h1 := h.1; have h2 := h.2; exact ⟨by omega, by omega, by omega⟩) (fun h => by have h1 := h.1; have h2 := h.2; exact ⟨by omega, by omega, by omega⟩)
          have rr5 := hr5.keep (Same.mono kk4 (Sn.lt (fun i hi => by have := hi.2; omega) hk14.size))
          have bg5 : ∀ i, Sn (New w5 w2.heap.size) u3 u4 i → Bg (u0.heap.size) (u2.heap.size) u4 i := fun i hi => hi.elim (fun h => by have h1 := h.1; have h2 := h.2; exact ⟨by omega, by omega, by omega⟩) (fun h => by have h1 := h.1; have h2 := h.2; exact ⟨by omega, by omega, by omega⟩)
          refine wpL_one (i := 8) (by kernel_rfl) (StepL.mk rfl (fun K hK => ?_))
          refine step_store_blk rfl _ _ _ rfl (u0.heap.size) 0 27 _ [.slice E1 en1 ec1, .slice E2 en2 ec2, .slice E3 en3 ec3, .slice E4 en4 ec4] rfl rfl b9 (by simp) (by kernel_rfl) rfl ?_
          intro v5 hv5 hs5
          rw [splice_all [.slice E1 en1 ec1, .slice E2 en2 ec2, .slice E3 en3 ec3, .slice E4 en4 ec4] #[.slice none 0 0, .slice none 0 0, .slice none 0 0, .slice none 0 0] rfl] at hv5
          have ka5 : Keep w5 v5 := Keep.write hA hs5 (by omega)
          have ku := hA
          refine hK.out _ _ (SAB.both ka5 trivial) (fun hSS => ?_)
          clear hK K hA hB
          have hB := hSS.2
          have hA := hSS.1 (by kernel_rfl)
          (try dsimp only at hB); (try dsimp only at hA); clear hSS
          try simp only [Act.put, List.setIfInBounds_toArray, List.set_cons_zero, List.set_cons_succ]
          refine wpL_one (i := 9) (by kernel_rfl) (StepL.mk rfl (fun K hK => ?_))
          refine step_store_blk rfl _ _ _ rfl (u2.heap.size) 0 27 _ [.slice F1 fn1 fc1, .slice F2 fn2 fc2, .slice F3 fn3 fc3, .slice F4 fn4 fc4] rfl rfl (hs5.blk b10 (by omega)) (by simp) (by kernel_rfl) rfl ?_
          intro v6 hv6 hs6
          rw [splice_all [.slice F1 fn1 fc1, .slice F2 fn2 fc2, .slice F3 fn3 fc3, .slice F4 fn4 fc4] #[.slice none 0 0, .slice none 0 0, .slice none 0 0, .slice none 0 0] rfl] at hv6
          have hfin : S7 w5 (startS cd me 3) (.pointer (some ⟨u0.heap.size, 0, none⟩)) (.pointer (some ⟨u2.heap.size, 0, none⟩)) v6 := ⟨_, _, rfl, rfl, by omega, by omega, by omega, two_put (by omega) (by omega) (by omega) (by omega) (by omega) bg2 bg5 rr2 rr5 ku hv5 hs5 hv6 hs6⟩
          refine hK.out _ _ (SAB.past (by kernel_rfl) trivial) (fun hSS => ?_)
          clear hK K hA hB
          have hB := hSS.2
          have hA : True := trivial
          (try dsimp only at hB); (try dsimp only at hA); clear hSS
          try simp only [Act.put, List.setIfInBounds_toArray, List.set_cons_zero, List.set_cons_succ]
          refine wpL_done (by kernel_rfl) ?_
          have HFIN := Lib.hid hfin
          clear hfin
          clear hv5 hs5 hv6 hs6 ku ka5 rr2 rr5 bg2 bg5 b9 b10 kk1 kk2 kk3 kk4 hb6 hb7 hr2 hr5 hA hB hk11 hk12 hk13 hk14
          go_wp2_with fail
          go_meet
          exact HFIN.out
      · go_simp
        generalize hq : u1.alloc (.cells #[.slice none 0 0, .slice none 0 0, .slice none 0 0, .slice none 0 0] 27) = u2
        have hb7 : Blk u2 u1.heap.size 27 #[.slice none 0 0, .slice none 0 0, .slice none 0 0, .slice none 0 0] := hq ▸ Blk.new _ _ _
        have hk12 : Keep u1 u2 := hq ▸ Keep.new _ _
        clear hq
        have y7 := hb7.lt
        have z2 := hk12.size
        have ha := Keep.trans hA hk12
        refine hK.out _ _ (SAB.both ha trivial) (fun hSS => ?_)
        clear hK K hA hB
        have hB := hSS.2
        have hA := hSS.1 (by kernel_rfl)
        (try dsimp only at hB); (try dsimp only at hA); clear hSS
        try simp only [Act.put, List.setIfInBounds_toArray, List.set_cons_zero, List.set_cons_succ]
        clear ha
        refine wpL_one (i := 2) (by kernel_rfl) (StepL.mk rfl (fun K hK => ?_))
        go_simp
        refine (pstart_any u2 (New w5 w2.heap.size) [.slice B0 p0 q0, .slice B1 p1 q1, .slice B2 p2 q2, .slice B3 p3 q3, .slice B4 p4 q4] cd me 3 (fun i hi => by have := hi.2; have := hA.size; omega) (HCD5.out.keep (Same.mono hA (fun i hi => hi.2)))).mono ?_
        rintro e u3 ⟨cs2, rfl, hr2', hk13⟩
        obtain ⟨E1, E2, E3, E4, en1, ec1, en2, ec2, en3, ec3, en4, ec4, rfl, hr2⟩ := st_open hr2'
        clear hr2'
        have z3 := hk13.size
        have ha := Keep.trans hA hk13
        refine hK.out _ _ (SAB.both ha trivial) (fun hSS => ?_)
        clear hK K hA hB
        have hB := hSS.2
        have hA := hSS.1 (by kernel_rfl)
        (try dsimp only at hB); (try dsimp only at hA); clear hSS
        try simp only [Act.put, List.setIfInBounds_toArray, List.set_cons_zero, List.set_cons_succ]
        clear ha
        refine wpL_one (i := 5) (by kernel_rfl) (StepL.mk rfl (fun K hK => ?_))
        go_simp
        refine (rstart_any u3 (New w5 w2.heap.size) [.slice B0 p0 q0, .slice B1 p1 q1, .slice B2 p2 q2, .slice B3 p3 q3, .slice B4 p4 q4] cd me 3 (fun i hi => by have := hi.2; have := hA.size; omega) (HCD5.out.keep (Same.mono hA (fun i hi => hi.2)))).mono ?_
        rintro e u4 ⟨cs5, rfl, hr5', hk14⟩
        obtain ⟨F1, F2, F3, F4, fn1, fc1, fn2, fc2, fn3, fc3, fn4, fc4, rfl, hr5⟩ := st_open hr5'
        clear hr5'
        have z4 := hk14.size
        have ha := Keep.trans hA hk14
        refine hK.out _ _ (SAB.both ha trivial) (fun hSS => ?_)
        clear hK K hA hB
        have hB := hSS.2
        have hA := hSS.1 (by kernel_rfl)
        (try dsimp only at hB); (try dsimp only at hA); clear hSS
        try simp only [Act.put, List.setIfInBounds_toArray, List.set_cons_zero, List.set_cons_succ]
        clear ha
        have kk4 : Keep u4 u4 := Same.refl _ _
        have kk3 : Keep u3 u4 := Keep.trans hk14 kk4
        have kk2 : Keep u2 u4 := Keep.trans hk13 kk3
        have kk1 : Keep u1 u4 := Keep.trans hk12 kk2
        have zA := hA.size
        have b9 := kk1.blk hb6 y6
        have b10 := kk2.blk hb7 y7
        have rr2 := hr2.keep (Same.mono kk3 (Sn.lt (fun i hi => by have := hi.2; omega) hk13.size))
        have bg2 : ∀ i, Sn (New w5 w2.heap.size) u2 u3 i → Bg (u0.heap.size) (u1.heap.size) u4 i := fun i hi => hi.elim (fun h => by have h1 := h.1; have h2 := h.2; exact ⟨by omega, by omega, by omega⟩) (fun h => by have h1 := h.1; have h2 := h.2; exact ⟨by omega, by omega, by omega⟩)
        have rr5 := hr5.keep (Same.mono kk4 (Sn.lt (fun i hi => by have := hi.2; omega) hk14.size))
        have bg5 : ∀ i, Sn (New w5 w2.heap.size) u3 u4 i → Bg (u0.heap.size) (u1.heap.size) u4 i := fun i hi => hi.elim (fun h => by have h1 := h.1; have h2 := h.2; exact ⟨by omega, by omega, by omega⟩) (fun h => by have h1 := h.1; have h2 := h.2; exact ⟨by omega, by omega, by omega⟩)
        refine wpL_one (i := 8) (by kernel_rfl) (StepL.mk rfl (fun K hK => ?_))
        refine step_store_blk rfl _ _ _ rfl (u0.heap.size) 0 27 _ [.slice E1 en1 ec1, .slice E2 en2 ec2, .slice E3 en3 ec3, .slice E4 en4 ec4] rfl rfl b9 (by simp) (by kernel_rfl) rfl ?_
        intro v5 hv5 hs5
        rw [splice_all [.slice E1 en1 ec1, .slice E2 en2 ec2, .slice E3 en3 ec3, .slice E4 en4 ec4] #[.slice none 0 0, .slice none 0 0, .slice none 0 0, .slice none 0 0] rfl] at hv5
        have ka5 : Keep w5 v5 := Keep.write hA hs5 (by omega)
        have ku := hA
        refine hK.out _ _ (SAB.both ka5 trivial) (fun hSS => ?_)
        clear hK K hA hB
        have hB := hSS.2
        have hA := hSS.1 (by kernel_rfl)
        (try dsimp only at hB); (try dsimp only at hA); clear hSS
        try simp only [Act.put, List.setIfInBounds_toArray, List.set_cons_zero, List.set_cons_succ]
        refine wpL_one (i := 9) (by kernel_rfl) (StepL.mk rfl (fun K hK => ?_))
        refine step_store_blk rfl _ _ _ rfl (u1.heap.size) 0 27 _ [.slice F1 fn1 fc1, .slice F2 fn2 fc2, .slice F3 fn3 fc3, .slice F4 fn4 fc4] rfl rfl (hs5.blk b10 (by omega)) (by simp) (by kernel_rfl) rfl ?_
        intro v6 hv6 hs6
        rw [splice_all [.slice F1 fn1 fc1, .slice F2 fn2 fc2, .slice F3 fn3 fc3, .slice F4 fn4 fc4] #[.slice none 0 0, .slice none 0 0, .slice none 0 0, .slice none 0 0] rfl] at hv6
        have hfin : S7 w5 (startS cd me 3) (.pointer (some ⟨u0.heap.size, 0, none⟩)) (.pointer (some ⟨u1.heap.size, 0, none⟩)) v6 := ⟨_, _, rfl, rfl, by omega, by omega, by omega, two_put (by omega) (by omega) (by omega) (by omega) (by omega) bg2 bg5 rr2 rr5 ku hv5 hs5 hv6 hs6⟩
        refine hK.out _ _ (SAB.past (by kernel_rfl) trivial) (fun hSS => ?_)
        clear hK K hA hB
        have hB := hSS.2
        have hA : True := trivial
        (try dsimp only at hB); (try dsimp only at hA); clear hSS
        try simp only [Act.put, List.setIfInBounds_toArray, List.set_cons_zero, List.set_cons_succ]
        refine wpL_done (by kernel_rfl) ?_
        have HFIN := Lib.hid hfin
        clear hfin
        clear hv5 hs5 hv6 hs6 ku ka5 rr2 rr5 bg2 bg5 b9 b10 kk1 kk2 kk3 kk4 hb6 hb7 hr2 hr5 hA hB hk11 hk12 hk13 hk14
        go_wp2_with fail
        go_meet
        exact HFIN.out
    · go_simp
      generalize hq : u0.alloc (.cells #[.slice none 0 0, .slice none 0 0, .slice none 0 0, .slice none 0 0] 27) = u1
      have hb7 : Blk u1 u0.heap.size 27 #[.slice none 0 0, .slice none 0 0, .slice none 0 0, .slice none 0 0] := hq ▸ Blk.new _ _ _
      have hk11 : Keep u0 u1 := hq ▸ Keep.new _ _
      clear hq
      have y7 := hb7.lt
      have z1 := hk11.size
      have ha := Keep.trans hA hk11
      refine hK.out _ _ (SAB.both ha trivial) (fun hSS => ?_)
      clear hK K hA hB
      have hB := hSS.2
      have hA := hSS.1 (by kernel_rfl)
      (try dsimp only at hB); (try dsimp only at hA); clear hSS
      try simp only [Act.put, List.setIfInBounds_toArray, List.set_cons_zero, List.set_cons_succ]
      clear ha
      refine wpL_two (i := 2) (j := 6) (by kernel_rfl) (StepL.mk rfl (fun K hK => ?_)) (StepL.mk rfl (fun K hK => ?_))
      · go_simp
        refine (pstart_any u1 (New w5 w2.heap.size) [.slice B0 p0 q0, .slice B1 p1 q1, .slice B2 p2 q2, .slice B3 p3 q3, .slice B4 p4 q4] cd me 3 (fun i hi => by have := hi.2; have := hA.size; omega) (HCD5.out.keep (Same.mono hA (fun i hi => hi.2)))).mono ?_
        rintro e u2 ⟨cs2, rfl, hr2', hk12⟩
        obtain ⟨E1, E2, E3, E4, en1, ec1, en2, ec2, en3, ec3, en4, ec4, rfl, hr2⟩ := st_open hr2'
        clear hr2'
        have z2 := hk12.size
        have ha := Keep.trans hA hk12
        refine hK.out _ _ (SAB.both ha trivial) (fun hSS => ?_)
        clear hK K hA hB
        have hB := hSS.2
        have hA := hSS.1 (by kernel_rfl)
        (try dsimp only at hB); (try dsimp only at hA); clear hSS
        try simp only [Act.put, List.setIfInBounds_toArray, List.set_cons_zero, List.set_cons_succ]
        clear ha
        refine wpL_two (i := 5) (j := 6) (by kernel_rfl) (StepL.mk rfl (fun K hK => ?_)) (StepL.mk rfl (fun K hK => ?_))
        · go_simp
          refine (rstart_any u2 (New w5 w2.heap.size) [.slice B0 p0 q0, .slice B1 p1 q1, .slice B2 p2 q2, .slice B3 p3 q3, .slice B4 p4 q4] cd me 3 (fun i hi => by have := hi.2; have := hA.size; omega) (HCD5.out.keep (Same.mono hA (fun i hi => hi.2)))).mono ?_
          rintro e u3 ⟨cs5, rfl, hr5', hk13⟩
          obtain ⟨F1, F2, F3, F4, fn1, fc1, fn2, fc2, fn3, fc3, fn4, fc4, rfl, hr5⟩ := st_open hr5'
          clear hr5'
          have z3 := hk13.size
          have ha := Keep.trans hA hk13
          refine hK.out _ _ (SAB.both ha trivial) (fun hSS => ?_)
          clear hK K hA hB
          have hB := hSS.2
          have hA := hSS.1 (by kernel_rfl)
          (try dsimp only at hB); (try dsimp only at hA); clear hSS
          try simp only [Act.put, List.setIfInBounds_toArray, List.set_cons_zero, List.set_cons_succ]
          clear ha
          refine wpL_one (i := 6) (by kernel_rfl) (StepL.mk rfl (fun K hK => ?_))
          go_simp
          generalize hq : u3.alloc (.cells #[.slice none 0 0, .slice none 0 0, .slice none 0 0, .slice none 0 0] 27) = u4
          have hb6 : Blk u4 u3.heap.size 27 #[.slice none 0 0, .slice none 0 0, .slice none 0 0, .slice none 0 0] := hq ▸ Blk.new _ _ _
          have hk14 : Keep u3 u4 := hq ▸ Keep.new _ _
          clear hq
          have y6 := hb6.lt
          have z4 := hk14.size
          have ha := Keep.trans hA hk14
          refine hK.out _ _ (SAB.both ha trivial) (fun hSS => ?_)
          clear hK K hA hB
          have hB := hSS.2
          have hA := hSS.1 (by kernel_rfl)
          (try dsimp only at hB); (try dsimp only at hA); clear hSS
          try simp only [Act.put, List.setIfInBounds_toArray, List.set_cons_zero, List.set_cons_succ]
          clear ha
          have kk4 : Keep u4 u4 := Same.refl _ _
          have kk3 : Keep u3 u4 := Keep.trans hk14 kk4
          have kk2 : Keep u2 u4 := Keep.trans hk13 kk3
          have kk1 : Keep u1 u4 := Keep.trans hk12 kk2
          have zA := hA.size
          have b9 := kk4.blk hb6 y6
          have b10 := kk1.blk hb7 y7
          have rr2 := hr2.keep (Same.mono kk2 (Sn.lt (fun i hi => by have := hi.2; omega) hk12.size))
          have bg2 : ∀ i, Sn (New w5 w2.heap.size) u1 u2 i → Bg (u3.heap.size) (u0.heap.size) u4 i := fun i hi => hi.elim (fun h => by have h1 := h.1; have h2 := h.2; exact ⟨by omega, by omega, by omega⟩) (fun h => by have h1 := h.1; have h2 := h.2; exact ⟨by omega, by omega, by omega⟩)
          have rr5 := hr5.keep (Same.mono kk3 (Sn.lt (fun i hi => by have := hi.2; omega) hk13.size))
          have bg5 : ∀ i, Sn (New w5 w2.heap.size) u2 u3 i → Bg (u3.heap.size) (u0.heap.size) u4 i := fun i hi => hi.elim (fun h => by have h1 := h.1; have h2 := h.2; exact ⟨by omega, by omega, by omega⟩) (fun h => by have h1 := h.1; have h2 := h.2; exact ⟨by omega, by omega, by omega⟩)
          refine wpL_one (i := 8) (by kernel_rfl) (StepL.mk rfl (fun K hK => ?_))
          refine step_store_blk rfl _ _ _ rfl (u3.heap.size) 0 27 _ [.slice E1 en1 ec1, .slice E2 en2 ec2, .slice E3 en3 ec3, .slice E4 en4 ec4] rfl rfl b9 (by simp) (by kernel_rfl) rfl ?_
          intro v5 hv5 hs5
          rw [splice_all [.slice E1 en1 ec1, .slice E2 en2 ec2, .slice E3 en3 ec3, .slice E4 en4 ec4] #[.slice none 0 0, .slice none 0 0, .slice none 0 0, .slice none 0 0] rfl] at hv5
          have ka5 : Keep w5 v5 := Keep.write hA hs5 (by omega)
          have ku := hA
          refine hK.out _ _ (SAB.both ka5 trivial) (fun hSS => ?_)
          clear hK K hA hB
          have hB := hSS.2
          have hA := hSS.1 (by kernel_rfl)
          (try dsimp only at hB); (try dsimp only at hA); clear hSS
          try simp only [Act.put, List.setIfInBounds_toArray, List.set_cons_zero, List.set_cons_succ]
          refine wpL_one (i := 9) (by kernel_rfl) (StepL.mk rfl (fun K hK => ?_))
          refine step_store_blk rfl _ _ _ rfl (u0.heap.size) 0 27 _ [.slice F1 fn1 fc1, .slice F2 fn2 fc2, .slice F3 fn3 fc3, .slice F4 fn4 fc4] rfl rfl (hs5.blk b10 (by omega)) (by simp) (by kernel_rfl) rfl ?_
          intro v6 hv6 hs6
          rw [splice_all [.slice F1 fn1 fc1, .slice F2 fn2 fc2, .slice F3 fn3 fc3, .slice F4 fn4 fc4] #[.slice none 0 0, .slice none 0 0, .slice none 0 0, .slice none 0 0] rfl] at hv6
          have hfin : S7 w5 (startS cd me 3) (.pointer (some ⟨u3.heap.size, 0, none⟩)) (.pointer (some ⟨u0.heap.size, 0, none⟩)) v6 := ⟨_, _, rfl, rfl, by omega, by omega, by omega, two_put (by omega) (by omega) (by omega) (by omega) (by omega) bg2 bg5 rr2 rr5 ku hv5 hs5 hv6 hs6⟩
          refine hK.out _ _ (SAB.past (by kernel_rfl) trivial) (fun hSS => ?_)
          clear hK K hA hB
          have hB := hSS.2
          have hA : True := trivial
          (try dsimp only at hB); (try dsimp only at hA); clear hSS
          try simp only [Act.put, List.setIfInBounds_toArray, List.set_cons_zero, List.set_cons_succ]
          refine wpL_done (by kernel_rfl) ?_
          have HFIN := Lib.hid hfin
          clear hfin
          clear hv5 hs5 hv6 hs6 ku ka5 rr2 rr5 bg2 bg5 b9 b10 kk1 kk2 kk3 kk4 hb6 hb7 hr2 hr5 hA hB hk11 hk12 hk13 hk14
          go_wp2_with fail
          go_meet
          exact HFIN.out
        · go_simp
          generalize hq : u2.alloc (.cells #[.slice none 0 0, .slice none 0 0, .slice none 0 0, .slice none 0 0] 27) = u3
          have hb6 : Blk u3 u2.heap.size 27 #[.slice none 0 0, .slice none 0 0, .slice none 0 0, .slice none 0 0] := hq ▸ Blk.new _ _ _
          have hk13 : Keep u2 u3 := hq ▸ Keep.new _ _
          clear hq
          have y6 := hb6.lt
          have z3 := hk13.size
          have ha := Keep.trans hA hk13
          refine hK.out _ _ (SAB.both ha trivial) (fun hSS => ?_)
          clear hK K hA hB
          have hB := hSS.2
          have hA := hSS.1 (by kernel_rfl)
          (try dsimp only at hB); (try dsimp only at hA); clear hSS
          try simp only [Act.put, List.setIfInBounds_toArray, List.set_cons_zero, List.set_cons_succ]
          clear ha
          refine wpL_one (i := 5) (by kernel_rfl) (StepL.mk rfl (fun K hK => ?_))
          go_simp
          refine (rstart_any u3 (New w5 w2.heap.size) [.slice B0 p0 q0, .slice B1 p1 q1, .slice B2 p2 q2, .slice B3 p3 q3, .slice B4 p4 q4] cd me 3 (fun i hi => by have := hi.2; have := hA.size; omega) (HCD5.out.keep (Same.mono hA (fun i hi => hi.2)))).mono ?_
          rintro e u4 ⟨cs5, rfl, hr5', hk14⟩
          obtain ⟨F1, F2, F3, F4, fn1, fc1, fn2, fc2, fn3, fc3, fn4, fc4, rfl, hr5⟩ := st_open hr5'
          clear hr5'
          have z4 := hk14.size
          have ha := Keep.trans hA hk14
          refine hK.out _ _ (SAB.both ha trivial) (fun hSS => ?_)
          clear hK K hA hB
          have hB := hSS.2
          have hA := hSS.1 (by kernel_rfl)
          (try dsimp only at hB); (try dsimp only at hA); clear hSS
          try simp only [Act.put, List.setIfInBounds_toArray, List.set_cons_zero, List.set_cons_succ]
          clear ha
          have kk4 : Keep u4 u4 := Same.refl _ _
          have kk3 : Keep u3 u4 := Keep.trans hk14 kk4
          have kk2 : Keep u2 u4 := Keep.trans hk13 kk3
          have kk1 : Keep u1 u4 := Keep.trans hk12 kk2
          have zA := hA.size
          have b9 := kk3.blk hb6 y6
          have b10 := kk1.blk hb7 y7
          have rr2 := hr2.keep (Same.mono kk2 (Sn.lt (fun i hi => by have := hi.2; omega) hk12.size))
          have bg2 : ∀ i, Sn (New w5 w2.heap.size) u1 u2 i → Bg (u2.heap.size) (u0.heap.size) u4 i := fun i hi => hi.elim (fun h => by have h1 := h.1; have h2 := h.2; exact ⟨by omega, by omega, by omega⟩) (fun h => by have h1 := h.1; have h2 := h.2; exact ⟨by omega, by omega, by omega⟩)
          have rr5 := hr5.keep (Same.mono kk4 (Sn.lt (fun i hi => by have := hi.2; omega) hk14.size))
          have bg5 : ∀ i, Sn (New w5 w2.heap.size) u3 u4 i → Bg (u2.heap.size) (u0.heap.size) u4 i := fun i hi => hi.elim (fun h => by have h1 := h.1; have h2 := h.2; exact ⟨by omega, by omega, by omega⟩) (fun h => by have h1 := h.1; have h2 := h.2; exact ⟨by omega, by omega, by omega⟩)
          refine wpL_one (i := 8) (by kernel_rfl) (StepL.mk rfl (fun K hK => ?_))
          refine step_store_blk rfl _ _ _ rfl (u2.heap.size) 0 27 _ [.slice E1 en1 ec1, .slice E2 en2 ec2, .slice E3 en3 ec3, .slice E4 en4 ec4] rfl rfl b9 (by simp) (by kernel_rfl) rfl ?_
          intro v5 hv5 hs5
          rw [splice_all [.slice E1 en1 ec1, .slice E2 en2 ec2, .slice E3 en3 ec3, .slice E4 en4 ec4] #[.slice none 0 0, .slice none 0 0, .slice none 0 0, .slice none 0 0] rfl] at hv5
          have ka5 : Keep w5 v5 := Keep.write hA hs5 (by omega)
          have ku := hA
          refine hK.out _ _ (SAB.both ka5 trivial) (fun hSS => ?_)
          clear hK K hA hB
          have hB := hSS.2
          have hA := hSS.1 (by kernel_rfl)
          (try dsimp only at hB); (try dsimp only at hA); clear hSS
          try simp only [Act.put, List.setIfInBounds_toArray, List.set_cons_zero, List.set_cons_succ]
          refine wpL_one (i := 9) (by kernel_rfl) (StepL.mk rfl (fun K hK => ?_))
          refine step_store_blk rfl _ _ _ rfl (u0.heap.size) 0 27 _ [.slice F1 fn1 fc1, .slice F2 fn2 fc2, .slice F3 fn3 fc3, .slice F4 fn4 fc4] rfl rfl (hs5.blk b10 (by omega)) (by simp) (by kernel_rfl) rfl ?_
          intro v6 hv6 hs6
          rw [splice_all [.slice F1 fn1 fc1, .slice F2 fn2 fc2, .slice F3 fn3 fc3, .slice F4 fn4 fc4] #[.slice none 0 0, .slice none 0 0, .slice none 0 0, .slice none 0 0] rfl] at hv6
          have hfin : S7 w5 (startS cd me 3) (.pointer (some ⟨u2.heap.size, 0, none⟩)) (.pointer (some ⟨u0.heap.size, 0, none⟩)) v6 := ⟨_, _, rfl, rfl, by omega, by omega, by omega, two_put (by omega) (by omega) (by omega) (by omega) (by omega) bg2 bg5 rr2 rr5 ku hv5 hs5 hv6 hs6⟩
          refine hK.out _ _ (SAB.past (by kernel_rfl) trivial) (fun hSS => ?_)
          clear hK K hA hB
          have hB := hSS.2
          have hA : True := trivial
          (try dsimp only at hB); (try dsimp only at hA); clear hSS
          try simp only [Act.put, List.setIfInBounds_toArray, List.set_cons_zero, List.set_cons_succ]
          refine wpL_done (by kernel_rfl) ?_
          have HFIN := Lib.hid hfin
          clear hfin
          clear hv5 hs5 hv6 hs6 ku ka5 rr2 rr5 bg2 bg5 b9 b10 kk1 kk2 kk3 kk4 hb6 hb7 hr2 hr5 hA hB hk11 hk12 hk13 hk14
          go_wp2_with fail
          go_meet
          exact HFIN.out
      · go_simp
        generalize hq : u1.alloc (.cells #[.slice none 0 0, .slice none 0 0, .slice none 0 0, .slice none 0 0] 27) = u2
        have hb6 : Blk u2 u1.heap.size 27 #[.slice none 0 0, .slice none 0 0, .slice none 0 0, .slice none 0 0] := hq ▸ Blk.new _ _ _
        have hk12 : Keep u1 u2 := hq ▸ Keep.new _ _
        clear hq
        have y6 := hb6.lt
        have z2 := hk12.size
        have ha := Keep.trans hA hk12
        refine hK.out _ _ (SAB.both ha trivial) (fun hSS => ?_)
        clear hK K hA hB
        have hB := hSS.2
        have hA := hSS.1 (by kernel_rfl)
        (try dsimp only at hB); (try dsimp only at hA); clear hSS
        try simp only [Act.put, List.setIfInBounds_toArray, List.set_cons_zero, List.set_cons_succ]
        clear ha
        refine wpL_one (i := 2) (by kernel_rfl) (StepL.mk rfl (fun K hK => ?_))
        go_simp
        refine (pstart_any u2 (New w5 w2.heap.size) [.slice B0 p0 q0, .slice B1 p1 q1, .slice B2 p2 q2, .slice B3 p3 q3, .slice B4 p4 q4] cd me 3 (fun i hi => by have := hi.2; have := hA.size; omega) (HCD5.out.keep (Same.mono hA (fun i hi => hi.2)))).mono ?_
        rintro e u3 ⟨cs2, rfl, hr2', hk13⟩
        obtain ⟨E1, E2, E3, E4, en1, ec1, en2, ec2, en3, ec3, en4, ec4, rfl, hr2⟩ := st_open hr2'
        clear hr2'
        have z3 := hk13.size
        have ha := Keep.trans hA hk13
        refine hK.out _ _ (SAB.both ha trivial) (fun hSS => ?_)
        clear hK K hA hB
        have hB := hSS.2
        have hA := hSS.1 (by kernel_rfl)
        (try dsimp only at hB); (try dsimp only at hA); clear hSS
        try simp only [Act.put, List.setIfInBounds_toArray, List.set_cons_zero, List.set_cons_succ]
        clear ha
        refine wpL_one (i := 5) (by kernel_rfl) (StepL.mk rfl (fun K hK => ?_))
        go_simp
        refine (rstart_any u3 (New w5 w2.heap.size) [.slice B0 p0 q0, .slice B1 p1 q1, .slice B2 p2 q2, .slice B3 p3 q3, .slice B4 p4 q4] cd me 3 (fun i hi => by have := hi.2; have := hA.size; omega) (HCD5.out.keep (Same.mono hA (fun i hi => hi.2)))).mono ?_
        rintro e u4 ⟨cs5, rfl, hr5', hk14⟩
        obtain ⟨F1, F2, F3, F4, fn1, fc1, fn2, fc2, fn3, fc3, fn4, fc4, rfl, hr5⟩ := st_open hr5'
        clear hr5'
        have z4 := hk14.size
        have ha := Keep.trans hA hk14
        refine hK.out _ _ (SAB.both ha trivial) (fun hSS => ?_)
        clear hK K hA hB
        have hB := hSS.2
        have hA := hSS.1 (by kernel_rfl)
        (try dsimp only at hB); (try dsimp only at hA); clear hSS
        try simp only [Act.put, List.setIfInBounds_toArray, List.set_cons_zero, List.set_cons_succ]
        clear ha
        have kk4 : Keep u4 u4 := Same.refl _ _
        have kk3 : Keep u3 u4 := Keep.trans hk14 kk4
        have kk2 : Keep u2 u4 := Keep.trans hk13 kk3
        have kk1 : Keep u1 u4 := Keep.trans hk12 kk2
        have zA := hA.size
        have b9 := kk2.blk hb6 y6
        have b10 := kk1.blk hb7 y7
        have rr2 := hr2.keep (Same.mono kk3 (Sn.lt (fun i hi => by have := hi.2; omega) hk13.size))
        have bg2 : ∀ i, Sn (New w5 w2.heap.size) u2 u3 i → Bg (u1.heap.size) (u0.heap.size) u4 i := fun i hi => hi.elim (fun h => by have h1 := h.1; have h2 := h.2; exact ⟨by omega, by omega, by omega⟩) (fun h => by have h1 := h.1; have h2 := h.2; exact ⟨by omega, by omega, by omega⟩)
        have rr5 := hr5.keep (Same.mono kk4 (Sn.lt (fun i hi => by have := hi.2; omega) hk14.size))
        have bg5 : ∀ i, Sn (New w5 w2.heap.size) u3 u4 i → Bg (u1.heap.size) (u0.heap.size) u4 i := fun i hi => hi.elim (fun h => by have h1 := h.1; have h2 := h.2; exact ⟨by omega, by omega, by omega⟩) (fun h => by have h1 := h.1; have h2 := h.2; exact ⟨by omega, by omega, by omega⟩)
        refine wpL_one (i := 8) (by kernel_rfl) (StepL.mk rfl (fun K hK => ?_))
        refine step_store_blk rfl _ _ _ rfl (u1.heap.size) 0 27 _ [.slice E1 en1 ec1, .slice E2 en2 ec2, .slice E3 en3 ec3, .slice E4 en4 ec4] rfl rfl b9 (by simp) (by kernel_rfl) rfl ?_
        intro v5 hv5 hs5
        rw [splice_all [.slice E1 en1 ec1, .slice E2 en2 ec2, .slice E3 en3 ec3, .slice E4 en4 ec4] #[.slice none 0 0, .slice none 0 0, .slice none 0 0, .slice none 0 0] rfl] at hv5
        have ka5 : Keep w5 v5 := Keep.write hA hs5 (by omega)
        have ku := hA
        refine hK.out _ _ (SAB.both ka5 trivial) (fun hSS => ?_)
        clear hK K hA hB
        have hB := hSS.2
        have hA := hSS.1 (by kernel_rfl)
        (try dsimp only at hB); (try dsimp only at hA); clear hSS
        try simp only [Act.put, List.setIfInBounds_toArray, List.set_cons_zero, List.set_cons_succ]
        refine wpL_one (i := 9) (by kernel_rfl) (StepL.mk rfl (fun K hK => ?_))
        refine step_store_blk rfl _ _ _ rfl (u0.heap.size) 0 27 _ [.slice F1 fn1 fc1, .slice F2 fn2 fc2, .slice F3 fn3 fc3, .slice F4 fn4 fc4] rfl rfl (hs5.blk b10 (by omega)) (by simp) (by kernel_rfl) rfl ?_
        intro v6 hv6 hs6
        rw [splice_all [.slice F1 fn1 fc1, .slice F2 fn2 fc2, .slice F3 fn3 fc3, .slice F4 fn4 fc4] #[.slice none 0 0, .slice none 0 0, .slice none 0 0, .slice none 0 0] rfl] at hv6
        have hfin : S7 w5 (startS cd me 3) (.pointer (some ⟨u1.heap.size, 0, none⟩)) (.pointer (some ⟨u0.heap.size, 0, none⟩)) v6 := ⟨_, _, rfl, rfl, by omega, by omega, by omega, two_put (by omega) (by omega) (by omega) (by omega) (by omega) bg2 bg5 rr2 rr5 ku hv5 hs5 hv6 hs6⟩
        refine hK.out _ _ (SAB.past (by kernel_rfl) trivial) (fun hSS => ?_)
        clear hK K hA hB
        have hB := hSS.2
        have hA : True := trivial
        (try dsimp only at hB); (try dsimp only at hA); clear hSS
        try simp only [Act.put, List.setIfInBounds_toArray, List.set_cons_zero, List.set_cons_succ]
        refine wpL_done (by kernel_rfl) ?_
        have HFIN := Lib.hid hfin
        clear hfin
        clear hv5 hs5 hv6 hs6 ku ka5 rr2 rr5 bg2 bg5 b9 b10 kk1 kk2 kk3 kk4 hb6 hb7 hr2 hr5 hA hB hk11 hk12 hk13 hk14
        go_wp2_with fail
        go_meet
        exact HFIN.out
  case rest =>
    obtain ⟨g, h, rfl, rfl, hgh, hgW, hhW, htw⟩ := hcut
    have htw' := htw
    obtain ⟨cs, ct, bg, bh, rs', rt', sm⟩ := htw'
    obtain ⟨E1, E2, E3, E4, en1, ec1, en2, ec2, en3, ec3, en4, ec4, rfl, rs⟩ := st_open rs'
    obtain ⟨F1, F2, F3, F4, fn1, fc1, fn2, fc2, fn3, fc3, fn4, fc4, rfl, rt⟩ := st_open rt'
    have hf0 : Fine (startS cd me 3) := fine_replay cd me [] HCI.out (by simp)
    have hln : l.length = n5 := HEV5.out.1.symm
    have BG := Lib.hid bg
    have BH := Lib.hid bh
    have RS := Lib.hid rs
    have RT := Lib.hid rt
    have HTW := Lib.hid htw
    have HF0 := Lib.hid hf0
    have HLN := Lib.hid hln
    clear bg bh rs rt htw hf0 hln
    clear rs' rt' sm
    go_wp2_with (first
      | (refine wpList_load_all rfl _ (.tmp 9) rfl g 27 [.slice E1 en1 ec1, .slice E2 en2 ec2, .slice E3 en3 ec3, .slice E4 en4 ec4] _ rfl BG.out Tryd.underlying27 rfl (by kernel_rfl) ?_)
      | (refine wpList_load_all rfl _ (.tmp 10) rfl h 27 [.slice F1 fn1 fc1, .slice F2 fn2 fc2, .slice F3 fn3 fc3, .slice F4 fn4 fc4] _ rfl BH.out Tryd.underlying27 rfl (by kernel_rfl) ?_))
    refine (rsame_any wc (Bg g h wc) _ _ _ _ (fun i hi => hi.1) RS.out RT.out HF0.out HF0.out).mono ?_
    rintro e w6 ⟨b6, hb6, rfl, hk6⟩
    obtain rfl : b6 = true := hb6.2 rfl
    have hrel0 : L06 w5 g h cd me l (.int .i64 0) w6 := ⟨0, rfl, Nat.zero_le _, two_keep HTW.out hk6⟩
    have HREL0 := Lib.hid hrel0
    clear hrel0
    clear hb6 hk6 BG BH RS RT HTW HF0
    go_wp2_with fail
    go_loopw [36] (fun i wr => L06 w5 g h cd me l i wr) (fun i _ => n5 - (intOf i).toNat)
    case atStart => exact HREL0.out
    case round =>
      clear HREL0
      obtain ⟨k, rfl, hkl, ht⟩ := hrel
      obtain ⟨cs, ct, bg, bh, rs', rt', sm⟩ := ht
      obtain ⟨E1, E2, E3, E4, en1, ec1, en2, ec2, en3, ec3, en4, ec4, rfl, rs⟩ := st_open rs'
      obtain ⟨F1, F2, F3, F4, fn1, fc1, fn2, fc2, fn3, fc3, fn4, fc4, rfl, rt⟩ := st_open rt'
      clear rs' rt'
      have hzr := sm.size
      have hlg := bg.lt
      have hlh := bh.lt
      have hf : Fine (replayS cd me 3 (l.take k)) := fine_replay cd me _ HCI.out (by rw [List.length_take]; have := HLN.out; omega)
      have hcw : CdR wr (New w5 w2.heap.size) [.slice B0 p0 q0, .slice B1 p1 q1, .slice B2 p2 q2, .slice B3 p3 q3, .slice B4 p4 q4] cd := HCD5.out.keep (sm.mono (fun i hi => hi.2))
      have hbw := sm.blk HB5.out HB5.out.lt
      have hevw := HEV5.out.keep (sm.mono (fun i hi => hi.2))
      by_cases hkn : k < n5
      · obtain ⟨b', off', x, rfl, -, hx, hcx⟩ := hevw.at_ encEv_len hkn
        have hd1 : decide (k < n5) = true := by simpa using hkn
        have hd2 : (0 : Int) ≤ k := by omega
        have hd3 : (k : Int) < n5 := by omega
        have hkl1 : k + 1 ≤ l.length := by have := HLN.out; omega
        have hrg : wr.rangeAt b' (off' + k * 7) [.int .i64 x.kind, .int .i64 x.inc, .int .i64 x.frm, .int .i64 x.sInc, .int .i64 x.sIdx, .int .i64 x.ord, .int .i64 x.val] := hcx
        have htr := take_replay (c := cd) (self := me) (procs := 3) hx
        clear hcx hx hevw
        have HRG := Lib.hid hrg
        have HTR := Lib.hid htr
        have HKL1 := Lib.hid hkl1
        have HF := Lib.hid hf
        have HCW := Lib.hid hcw
        have HBW := Lib.hid hbw
        have BG := Lib.hid bg
        have BH := Lib.hid bh
        have RS := Lib.hid rs
        have RT := Lib.hid rt
        have SM := Lib.hid sm
        clear hrg htr hkl1 hf hcw hbw bg bh rs rt sm
        go_upto_region 13 with (first
          | (refine wpList_load_mid rfl _ (.tmp 38) rfl b' (off' + k * 7) rfl [.int .i64 x.kind, .int .i64 x.inc, .int .i64 x.frm, .int .i64 x.sInc, .int .i64 x.sIdx, .int .i64 x.ord, .int .i64 x.val] _ HRG.out Tryd.underlying51 rfl (by kernel_rfl) ?_)
          | (refine wpList_store_all rfl _ (.tmp 12) (.tmp 39) rfl wr.heap.size 51 _ [.int .i64 x.kind, .int .i64 x.inc, .int .i64 x.frm, .int .i64 x.sInc, .int .i64 x.sIdx, .int .i64 x.ord, .int .i64 x.val] rfl rfl (Blk.new _ _ _) rfl (by kernel_rfl) rfl ?_; intro w7 hb7 hs7))
        have hk7 : Keep wr w7 := Keep.write (Keep.new _ _) hs7 (Nat.le_refl _)
        have hz7 : wr.heap.size < w7.heap.size := hb7.lt
        clear hs7
        have bg7 := hk7.blk BG.out hlg
        have bh7 := hk7.blk BH.out hlh
        have bw7 := hk7.blk HBW.out HBW.out.lt
        have up7 : ∀ i, Bg g h wr i → Bg g h w7 i := fun i hi => ⟨by have := hi.1; omega, hi.2⟩
        have rs7 := (RS.out.keep (Same.mono hk7 (fun i hi => hi.1))).more up7
        have rt7 := (RT.out.keep (Same.mono hk7 (fun i hi => hi.1))).more up7
        have cw7 : CdR w7 (Bg g h w7) [.slice B0 p0 q0, .slice B1 p1 q1, .slice B2 p2 q2, .slice B3 p3 q3, .slice B4 p4 q4] cd := (HCW.out.keep (Same.mono hk7 (fun i hi => by have := hi.2; omega))).more (fun i hi => ⟨by have := hi.2; omega, by have := hi.2; omega, by have := hi.2; omega⟩)
        have BG7 := Lib.hid bg7
        have BH7 := Lib.hid bh7
        have BW7 := Lib.hid bw7
        have RS7 := Lib.hid rs7
        have RT7 := Lib.hid rt7
        have CW7 := Lib.hid cw7
        have HB7 := Lib.hid hb7
        have HK7 := Lib.hid hk7
        clear bg7 bh7 bw7 rs7 rt7 cw7 hb7 hk7
        clear up7
        refine wp_region_L 11 (fun wx => Same (fun i => i < w7.heap.size ∧ i ≠ g) w7 wx) (fun _ => True) (by kernel_rfl) (Same.drew (Same.refl _ _)) trivial (fun hA hB => ?_)
        have z0 : w7.heap.size ≤ w7.drew.heap.size := Nat.le_refl _
        have k0 : Keep w7 w7.drew := Same.drew (Same.refl _ _)
        generalize hu0 : w7.drew = u0 at hA z0 k0 ⊢
        clear hu0
        refine wpL_takeA (i := 0) rfl (by kernel_rfl) (by kernel_rfl) (by kernel_rfl) (by kernel_rfl) (by decide) (fun _ _ _ h => h) (yieldsIf_blk (by rfl) _ _ rfl w3.heap.size 0 38 _ [.slice B0 p0 q0, .slice B1 p1 q1, .slice B2 p2 q2, .slice B3 p3 q3, .slice B4 p4 q4] _ rfl (fun wx hx => hx.1.blk BW7.out ⟨by omega, by omega⟩) (fun j u hu => by simpa using hu) Tryd.underlying38 rfl (by kernel_rfl)) hA hB ?_
        try simp only [Act.put, List.setIfInBounds_toArray, List.set_cons_zero, List.set_cons_succ]
        refine wpL_takeA (i := 1) (v := ?_) rfl (by kernel_rfl) (by kernel_rfl) (by kernel_rfl) (by kernel_rfl) (by decide) (fun _ _ _ h => h) (Or.inl ⟨by rfl, ?_⟩) hA hB ?_
        rotate_left
        · rintro wx ⟨hAx, hBx⟩
          (try dsimp only at hBx); (try dsimp only at hAx)
          go_simp
          try with_reducible rfl
        try simp only [Act.put, List.setIfInBounds_toArray, List.set_cons_zero, List.set_cons_succ]
        refine wpL_takeA (i := 3) rfl (by kernel_rfl) (by kernel_rfl) (by kernel_rfl) (by kernel_rfl) (by decide) (fun _ _ _ h => h) (yieldsIf_blk (by rfl) _ _ rfl wr.heap.size 0 51 _ [.int .i64 x.kind, .int .i64 x.inc, .int .i64 x.frm, .int .i64 x.sInc, .int .i64 x.sIdx, .int .i64 x.ord, .int .i64 x.val] _ rfl (fun wx hx => hx.1.blk HB7.out ⟨by omega, by omega⟩) (fun j u hu => by simpa using hu) Tryd.underlying51 rfl (by kernel_rfl)) hA hB ?_
        try simp only [Act.put, List.setIfInBounds_toArray, List.set_cons_zero, List.set_cons_succ]
        refine wpL_takeA (i := 5) rfl (by kernel_rfl) (by kernel_rfl) (by kernel_rfl) (by kernel_rfl) (by decide) (fun _ _ _ h => h) (yieldsIf_blk (by rfl) _ _ rfl w3.heap.size 0 38 _ [.slice B0 p0 q0, .slice B1 p1 q1, .slice B2 p2 q2, .slice B3 p3 q3, .slice B4 p4 q4] _ rfl (fun wx hx => hx.1.blk BW7.out ⟨by omega, by omega⟩) (fun j u hu => by simpa using hu) Tryd.underlying38 rfl (by kernel_rfl)) hA hB ?_
        try simp only [Act.put, List.setIfInBounds_toArray, List.set_cons_zero, List.set_cons_succ]
        refine wpL_takeA (i := 6) (v := ?_) rfl (by kernel_rfl) (by kernel_rfl) (by kernel_rfl) (by kernel_rfl) (by decide) (fun _ _ _ h => h) (Or.inl ⟨by rfl, ?_⟩) hA hB ?_
        rotate_left
        · rintro wx ⟨hAx, hBx⟩
          (try dsimp only at hBx); (try dsimp only at hAx)
          go_simp
          try with_reducible rfl
        try simp only [Act.put, List.setIfInBounds_toArray, List.set_cons_zero, List.set_cons_succ]
        refine wpL_takeA (i := 7) rfl (by kernel_rfl) (by kernel_rfl) (by kernel_rfl) (by kernel_rfl) (by decide) (fun _ _ _ h => h) (yieldsIf_blk (by rfl) _ _ rfl h 0 27 _ [.slice F1 fn1 fc1, .slice F2 fn2 fc2, .slice F3 fn3 fc3, .slice F4 fn4 fc4] _ rfl (fun wx hx => hx.1.blk BH7.out ⟨by omega, fun q => hgh q.symm⟩) (fun j u hu => by simpa using hu) Tryd.underlying27 rfl (by kernel_rfl)) hA hB ?_
        try simp only [Act.put, List.setIfInBounds_toArray, List.set_cons_zero, List.set_cons_succ]
        refine wpL_takeA (i := 8) rfl (by kernel_rfl) (by kernel_rfl) (by kernel_rfl) (by kernel_rfl) (by decide) (fun _ _ _ h => h) (yieldsIf_blk (by rfl) _ _ rfl wr.heap.size 0 51 _ [.int .i64 x.kind, .int .i64 x.inc, .int .i64 x.frm, .int .i64 x.sInc, .int .i64 x.sIdx, .int .i64 x.ord, .int .i64 x.val] _ rfl (fun wx hx => hx.1.blk HB7.out ⟨by omega, by omega⟩) (fun j u hu => by simpa using hu) Tryd.underlying51 rfl (by kernel_rfl)) hA hB ?_
        try simp only [Act.put, List.setIfInBounds_toArray, List.set_cons_zero, List.set_cons_succ]
        refine wpL_one (i := 2) (by kernel_rfl) (StepL.mk rfl (fun K hK => ?_))
        refine step_load_blk rfl _ _ rfl g 0 27 _ [.slice E1 en1 ec1, .slice E2 en2 ec2, .slice E3 en3 ec3, .slice E4 en4 ec4] _ rfl (k0.blk BG7.out BG7.out.lt) (fun j u hu => by simpa using hu) Tryd.underlying27 rfl (by kernel_rfl) ?_
        have ha := k0.mono (fun i (hi : i < w7.heap.size ∧ i ≠ g) => hi.1)
        refine hK.out _ _ (SAB.both ha trivial) (fun hSS => ?_)
        clear hK K hA hB
        have hB := hSS.2
        have hA := hSS.1 (by kernel_rfl)
        (try dsimp only at hB); (try dsimp only at hA); clear hSS
        try simp only [Act.put, List.setIfInBounds_toArray, List.set_cons_zero, List.set_cons_succ]
        clear ha
        have key := pnext_any u0 (Bg g h w7) [.slice B0 p0 q0, .slice B1 p1 q1, .slice B2 p2 q2, .slice B3 p3 q3, .slice B4 p4 q4] [.slice E1 en1 ec1, .slice E2 en2 ec2, .slice E3 en3 ec3, .slice E4 en4 ec4] cd (replayS cd me 3 (l.take k)) me 3 x (fun i hi => by have := hi.1; omega) (CW7.out.keep (Same.mono k0 (fun i hi => hi.1))) (RS7.out.keep (Same.mono k0 (fun i hi => hi.1))) HF.out.1 HF.out.2.2.1 HF.out.2.2.2 HF.out.2.1
        rw [HTR.out] at key
        have KEY := Lib.hid key
        clear key
        refine wpL_one (i := 4) (by kernel_rfl) (StepL.mk rfl (fun K hK => ?_))
        go_simp
        refine KEY.out.mono ?_
        rintro e u1 ⟨cs1, rfl, r1', k1⟩
        obtain ⟨G1, G2, G3, G4, gn1, gc1, gn2, gc2, gn3, gc3, gn4, gc4, rfl, r1⟩ := st_open r1'
        clear r1' KEY
        have z1 := k1.size
        have ha := (Keep.trans k0 k1).mono (fun i (hi : i < w7.heap.size ∧ i ≠ g) => hi.1)
        refine hK.out _ _ (SAB.both ha trivial) (fun hSS => ?_)
        clear hK K hA hB
        have hB := hSS.2
        have hA := hSS.1 (by kernel_rfl)
        (try dsimp only at hB); (try dsimp only at hA); clear hSS
        try simp only [Act.put, List.setIfInBounds_toArray, List.set_cons_zero, List.set_cons_succ]
        clear ha
        have key := rnext_any u1 (Bg g h w7) [.slice B0 p0 q0, .slice B1 p1 q1, .slice B2 p2 q2, .slice B3 p3 q3, .slice B4 p4 q4] [.slice F1 fn1 fc1, .slice F2 fn2 fc2, .slice F3 fn3 fc3, .slice F4 fn4 fc4] cd (replayS cd me 3 (l.take k)) me 3 x (fun i hi => by have := hi.1; omega) (CW7.out.keep (Same.mono (Keep.trans k0 k1) (fun i hi => hi.1))) (RT7.out.keep (Same.mono (Keep.trans k0 k1) (fun i hi => hi.1))) HF.out.1 HF.out.2.2.1 HF.out.2.2.2 HF.out.2.1
        rw [HTR.out] at key
        have KEY := Lib.hid key
        clear key
        refine wpL_one (i := 9) (by kernel_rfl) (StepL.mk rfl (fun K hK => ?_))
        go_simp
        refine KEY.out.mono ?_
        rintro e u2 ⟨cs2, rfl, r2', k2⟩
        obtain ⟨H1, H2, H3, H4, hn1, hc1, hn2, hc2, hn3, hc3, hn4, hc4, rfl, r2⟩ := st_open r2'
        clear r2' KEY
        have z2 := k2.size
        have k02 := Keep.trans (Keep.trans k0 k1) k2
        have ha := k02.mono (fun i (hi : i < w7.heap.size ∧ i ≠ g) => hi.1)
        refine hK.out _ _ (SAB.both ha trivial) (fun hSS => ?_)
        clear hK K hA hB
        have hB := hSS.2
        have hA := hSS.1 (by kernel_rfl)
        (try dsimp only at hB); (try dsimp only at hA); clear hSS
        try simp only [Act.put, List.setIfInBounds_toArray, List.set_cons_zero, List.set_cons_succ]
        clear ha
        have b9 := k02.blk BG7.out BG7.out.lt
        have b10 := k02.blk BH7.out BH7.out.lt
        have rr1 := r1.keep (Same.mono k2 (Sn.lt (fun i (hi : Bg g h w7 i) => by have := hi.1; omega) k1.size))
        have bg1 : ∀ i, Sn (Bg g h w7) u0 u1 i → Bg g h u2 i := fun i hi => hi.elim (fun q => ⟨by have := q.1; omega, q.2⟩) (fun q => by have q1 := q.1; have q2 := q.2; exact ⟨by omega, by omega, by omega⟩)
        have bg2 : ∀ i, Sn (Bg g h w7) u1 u2 i → Bg g h u2 i := fun i hi => hi.elim (fun q => ⟨by have := q.1; omega, q.2⟩) (fun q => by have q1 := q.1; have q2 := q.2; exact ⟨by omega, by omega, by omega⟩)
        have ku : Keep w5 u2 := Same.trans SM.out (Keep.trans HK7.out k02) (fun i hi => by omega)
        refine wpL_one (i := 10) (by kernel_rfl) (StepL.mk rfl (fun K hK => ?_))
        refine step_store_blk rfl _ _ _ rfl g 0 27 _ [.slice G1 gn1 gc1, .slice G2 gn2 gc2, .slice G3 gn3 gc3, .slice G4 gn4 gc4] rfl rfl b9 (by simp) (by kernel_rfl) rfl ?_
        intro v5 hv5 hs5
        rw [splice_all [.slice G1 gn1 gc1, .slice G2 gn2 gc2, .slice G3 gn3 gc3, .slice G4 gn4 gc4] #[.slice E1 en1 ec1, .slice E2 en2 ec2, .slice E3 en3 ec3, .slice E4 en4 ec4] rfl] at hv5
        have ha := Same.trans (k02.mono (fun i (hi : i < w7.heap.size ∧ i ≠ g) => hi.1)) hs5 (fun i hi => hi.2)
        refine hK.out _ _ (SAB.both ha trivial) (fun hSS => ?_)
        clear hK K hA hB
        have hB := hSS.2
        have hA := hSS.1 (by kernel_rfl)
        (try dsimp only at hB); (try dsimp only at hA); clear hSS
        try simp only [Act.put, List.setIfInBounds_toArray, List.set_cons_zero, List.set_cons_succ]
        clear ha
        refine wpL_one (i := 11) (by kernel_rfl) (StepL.mk rfl (fun K hK => ?_))
        refine step_store_blk rfl _ _ _ rfl h 0 27 _ [.slice H1 hn1 hc1, .slice H2 hn2 hc2, .slice H3 hn3 hc3, .slice H4 hn4 hc4] rfl rfl (hs5.blk b10 (fun q => hgh q.symm)) (by simp) (by kernel_rfl) rfl ?_
        intro v6 hv6 hs6
        rw [splice_all [.slice H1 hn1 hc1, .slice H2 hn2 hc2, .slice H3 hn3 hc3, .slice H4 hn4 hc4] #[.slice F1 fn1 fc1, .slice F2 fn2 fc2, .slice F3 fn3 fc3, .slice F4 fn4 fc4] rfl] at hv6
        have htw := two_put hgh hgW hhW (by omega) (by omega) bg1 bg2 rr1 r2 ku hv5 hs5 hv6 hs6
        refine hK.out _ _ (SAB.past (by kernel_rfl) trivial) (fun hSS => ?_)
        clear hK K hA hB
        have hB := hSS.2
        have hA : True := trivial
        (try dsimp only at hB); (try dsimp only at hA); clear hSS
        try simp only [Act.put, List.setIfInBounds_toArray, List.set_cons_zero, List.set_cons_succ]
        refine wpL_done (by kernel_rfl) ?_
        have zv6 := hs6.size
        have rg : StR v6 (Bg g h v6) [.slice G1 gn1 gc1, .slice G2 gn2 gc2, .slice G3 gn3 gc3, .slice G4 gn4 gc4] (replayS cd me 3 (l.take (k + 1))) := ((rr1.more bg1).keep (Same.trans (hs5.mono (fun i (hi : Bg g h u2 i) => hi.2.1)) hs6 (fun i hi => hi.2.2))).more (fun i hi => ⟨by have := hi.1; have := hs5.size; omega, hi.2⟩)
        have rh : StR v6 (Bg g h v6) [.slice H1 hn1 hc1, .slice H2 hn2 hc2, .slice H3 hn3 hc3, .slice H4 hn4 hc4] (replayS cd me 3 (l.take (k + 1))) := ((r2.more bg2).keep (Same.trans (hs5.mono (fun i (hi : Bg g h u2 i) => hi.2.1)) hs6 (fun i hi => hi.2.2))).more (fun i hi => ⟨by have := hi.1; have := hs5.size; omega, hi.2⟩)
        have bgv := hs6.blk hv5 hgh
        have hf1 : Fine (replayS cd me 3 (l.take (k + 1))) := fine_replay cd me _ HCI.out (by rw [List.length_take]; have := HLN.out; omega)
        have key := rsame_any v6 (Bg g h v6) _ _ _ _ (fun i hi => hi.1) rg rh hf1 hf1
        have KEY := Lib.hid key
        have HTW := Lib.hid htw
        have BGV := Lib.hid bgv
        have HV6 := Lib.hid hv6
        clear key htw bgv hv6
        clear rg rh hf1 hv5 hs5 hs6 b9 b10 rr1 r1 r2 bg1 bg2 ku hA hB k0 k1 k2 k02
        go_wp2_with (first
          | (refine wpList_load_all rfl _ (.tmp 9) rfl g 27 [.slice G1 gn1 gc1, .slice G2 gn2 gc2, .slice G3 gn3 gc3, .slice G4 gn4 gc4] _ rfl BGV.out Tryd.underlying27 rfl (by kernel_rfl) ?_)
          | (refine wpList_load_all rfl _ (.tmp 10) rfl h 27 [.slice H1 hn1 hc1, .slice H2 hn2 hc2, .slice H3 hn3 hc3, .slice H4 hn4 hc4] _ rfl HV6.out Tryd.underlying27 rfl (by kernel_rfl) ?_))
        refine KEY.out.mono ?_
        rintro e w8 ⟨b8, hb8, rfl, hk8⟩
        obtain rfl : b8 = true := hb8.2 (by simp)
        have hfin : L06 w5 g h cd me l (.int .i64 (k + 1)) w8 := ⟨k + 1, by simp, HKL1.out, two_keep HTW.out hk8⟩
        have HFIN := Lib.hid hfin
        clear hfin
        clear hb8 hk8 KEY
        go_wp2_with fail
        go_roundw
        case rel => exact HFIN.out
        case measure => simp [intOf]; omega
      · have hd1 : decide (k < n5) = false := by simpa using hkn
        have hkl2 : l.take k = l := List.take_of_length_le (by have := HLN.out; omega)
        rw [hkl2] at rs rt hf
        have HF := Lib.hid hf
        have HCW := Lib.hid hcw
        have HBW := Lib.hid hbw
        have BG := Lib.hid bg
        have BH := Lib.hid bh
        have RS := Lib.hid rs
        have RT := Lib.hid rt
        have SM := Lib.hid sm
        have HEVW := Lib.hid hevw
        clear hf hcw hbw bg bh rs rt sm hevw
        clear hkl2
        go_upto_region 17 with fail
        refine wp_region_L 6 (fun wx => Keep wr wx) (fun _ => True) (by kernel_rfl) (Same.drew (Same.refl _ _)) trivial (fun hA hB => ?_)
        have z0 : wr.heap.size ≤ wr.drew.heap.size := Nat.le_refl _
        generalize hu0 : wr.drew = u0 at hA z0 ⊢
        clear hu0
        refine wpL_takeA (i := 0) rfl (by kernel_rfl) (by kernel_rfl) (by kernel_rfl) (by kernel_rfl) (by decide) (fun _ _ _ h => h) (yieldsIf_blk (by rfl) _ _ rfl w3.heap.size 0 38 _ [.slice B0 p0 q0, .slice B1 p1 q1, .slice B2 p2 q2, .slice B3 p3 q3, .slice B4 p4 q4] _ rfl (fun wx hx => hx.1.blk HBW.out HBW.out.lt) (fun j u hu => by simpa using hu) Tryd.underlying38 rfl (by kernel_rfl)) hA hB ?_
        try simp only [Act.put, List.setIfInBounds_toArray, List.set_cons_zero, List.set_cons_succ]
        refine wpL_takeA (i := 1) (v := ?_) rfl (by kernel_rfl) (by kernel_rfl) (by kernel_rfl) (by kernel_rfl) (by decide) (fun _ _ _ h => h) (Or.inl ⟨by rfl, ?_⟩) hA hB ?_
        rotate_left
        · rintro wx ⟨hAx, hBx⟩
          (try dsimp only at hBx); (try dsimp only at hAx)
          go_simp
          try with_reducible rfl
        try simp only [Act.put, List.setIfInBounds_toArray, List.set_cons_zero, List.set_cons_succ]
        refine wpL_takeA (i := 2) (v := ?_) rfl (by kernel_rfl) (by kernel_rfl) (by kernel_rfl) (by kernel_rfl) (by decide) (fun _ _ _ h => h) (Or.inl ⟨by rfl, ?_⟩) hA hB ?_
        rotate_left
        · rintro wx ⟨hAx, hBx⟩
          (try dsimp only at hBx); (try dsimp only at hAx)
          go_simp
          try with_reducible rfl
        try simp only [Act.put, List.setIfInBounds_toArray, List.set_cons_zero, List.set_cons_succ]
        refine wpL_takeA (i := 4) rfl (by kernel_rfl) (by kernel_rfl) (by kernel_rfl) (by kernel_rfl) (by decide) (fun _ _ _ h => h) (yieldsIf_blk (by rfl) _ _ rfl h 0 27 _ [.slice F1 fn1 fc1, .slice F2 fn2 fc2, .slice F3 fn3 fc3, .slice F4 fn4 fc4] _ rfl (fun wx hx => hx.1.blk BH.out BH.out.lt) (fun j u hu => by simpa using hu) Tryd.underlying27 rfl (by kernel_rfl)) hA hB ?_
        try simp only [Act.put, List.setIfInBounds_toArray, List.set_cons_zero, List.set_cons_succ]
        have key := preplay_any u0 (New w5 w2.heap.size) [.slice B0 p0 q0, .slice B1 p1 q1, .slice B2 p2 q2, .slice B3 p3 q3, .slice B4 p4 q4] cd me 3 A5 n5 c5 l (fun i hi => by have := hi.2; omega) (HCW.out.keep (Same.mono hA (fun i hi => by have := hi.2; omega))) (HEVW.out.keep (Same.mono hA (fun i hi => by have := hi.2; omega))) (by have := HLN.out; omega)
        have KEY := Lib.hid key
        clear key
        refine wpL_one (i := 3) (by kernel_rfl) (StepL.mk rfl (fun K hK => ?_))
        go_simp
        refine KEY.out.mono ?_
        rintro e u1 ⟨cs1, rfl, r1', k1⟩
        obtain ⟨G1, G2, G3, G4, gn1, gc1, gn2, gc2, gn3, gc3, gn4, gc4, rfl, r1⟩ := st_open r1'
        clear r1' KEY
        have z1 := k1.size
        have ha := Keep.trans hA k1
        refine hK.out _ _ (SAB.both ha trivial) (fun hSS => ?_)
        clear hK K hA hB
        have hB := hSS.2
        have hA := hSS.1 (by kernel_rfl)
        (try dsimp only at hB); (try dsimp only at hA); clear hSS
        try simp only [Act.put, List.setIfInBounds_toArray, List.set_cons_zero, List.set_cons_succ]
        clear ha
        have key := rsame_any u1 (fun i => i < u1.heap.size) [.slice G1 gn1 gc1, .slice G2 gn2 gc2, .slice G3 gn3 gc3, .slice G4 gn4 gc4] [.slice F1 fn1 fc1, .slice F2 fn2 fc2, .slice F3 fn3 fc3, .slice F4 fn4 fc4] _ _ (fun i hi => hi) (r1.more (Sn.lt (fun i hi => by have := hi.2; omega) k1.size)) ((RT.out.keep (Same.mono hA (fun i hi => hi.1))).more (fun i hi => by have := hi.1; omega)) HF.out HF.out
        have KEY := Lib.hid key
        clear key
        refine wpL_one (i := 5) (by kernel_rfl) (StepL.mk rfl (fun K hK => ?_))
        go_simp
        refine KEY.out.mono ?_
        rintro e u2 ⟨b8, hb8, rfl, k2⟩
        obtain rfl : b8 = true := hb8.2 (by simp)
        have ha := Keep.trans hA k2
        have hfin : AwPost w (.returned (.bool true)) u2 := ⟨rfl, Keep.trans HK5.out (Same.trans SM.out ha (fun i hi => by omega))⟩
        refine hK.out _ _ (SAB.both ha trivial) (fun hSS => ?_)
        clear hK K hA hB
        have hB := hSS.2
        have hA := hSS.1 (by kernel_rfl)
        (try dsimp only at hB); (try dsimp only at hA); clear hSS
        try simp only [Act.put, List.setIfInBounds_toArray, List.set_cons_zero, List.set_cons_succ]
        clear ha
        have HFIN := Lib.hid hfin
        clear hfin
        refine wpL_one (i := 6) (by kernel_rfl) (StepL.mk rfl (fun K hK => ?_))
        go_simp
        refine hK.out _ _ (SAB.past (by kernel_rfl) trivial) (fun hSS => ?_)
        clear hK K hA hB
        have hB := hSS.2
        have hA : True := trivial
        (try dsimp only at hB); (try dsimp only at hA); clear hSS
        try simp only [Act.put, List.setIfInBounds_toArray, List.set_cons_zero, List.set_cons_succ]
        refine wpL_done (by kernel_rfl) ?_
        clear hA hB k1 k2 r1 KEY hb8
        go_wp2_with fail
        go_ret
        exact HFIN.out
end Go.Proofs.YtecckbkobkfnmaaDoor
