/- The law ProcessSame: written by gen_law6e.py. -/
import Derived.Test.YtecckbkobkfnmaaDoorGM
import Derived.Test.YtecckbkobkfnmaaDoorGP
import Derived.Test.YtecckbkobkfnmaaDoorAid6
import Derived.Test.YtecckbkobkfnmaaDoorRow
import Derived.Test.YtecckbkobkfnmaaDoorMkSt2
set_option linter.unusedVariables false
set_option linter.unusedSimpArgs false
set_option maxRecDepth 100000
namespace Go.Proofs.YtecckbkobkfnmaaDoor
open Go.RowKit Go.Proofs


def blkOf (A : Option Addr) : Option Nat := A.map (·.block)
def Dist (h : Nat) (A1 A2 A3 A4 : Option Addr) : Prop := ∀ b,
  (blkOf A1 = some b → b ≠ h ∧ blkOf A2 ≠ some b ∧ blkOf A3 ≠ some b ∧ blkOf A4 ≠ some b) ∧ (blkOf A2 = some b → b ≠ h ∧ blkOf A1 ≠ some b ∧ blkOf A3 ≠ some b ∧ blkOf A4 ≠ some b) ∧
  (blkOf A3 = some b → b ≠ h ∧ blkOf A1 ≠ some b ∧ blkOf A2 ≠ some b ∧ blkOf A4 ≠ some b) ∧ (blkOf A4 = some b → b ≠ h ∧ blkOf A1 ≠ some b ∧ blkOf A2 ≠ some b ∧ blkOf A3 ≠ some b)
def Betw (A : Option Addr) (lo hi : Nat) : Prop := ∀ b, blkOf A = some b → lo ≤ b ∧ b < hi
theorem dist_of {h l1 h1 l2 h2 l3 h3 l4 h4 : Nat} {A1 A2 A3 A4 : Option Addr} (b1 : Betw A1 l1 h1) (b2 : Betw A2 l2 h2) (b3 : Betw A3 l3 h3) (b4 : Betw A4 l4 h4) (e1 : h1 ≤ l2) (e2 : h2 ≤ l3) (e3 : h3 ≤ l4) (k12 : l2 ≤ h2) (k13 : l3 ≤ h3)
    (o1 : h < l1 ∨ h1 ≤ h) (o2 : h < l2 ∨ h2 ≤ h) (o3 : h < l3 ∨ h3 ≤ h) (o4 : h < l4 ∨ h4 ≤ h) : Dist h A1 A2 A3 A4 := fun b =>
  ⟨fun q => ⟨by have := b1 b q; omega, fun x => by have := b1 b q; have := b2 b x; omega, fun x => by have := b1 b q; have := b3 b x; omega, fun x => by have := b1 b q; have := b4 b x; omega⟩,
   fun q => ⟨by have := b2 b q; omega, fun x => by have := b2 b q; have := b1 b x; omega, fun x => by have := b2 b q; have := b3 b x; omega, fun x => by have := b2 b q; have := b4 b x; omega⟩,
   fun q => ⟨by have := b3 b q; omega, fun x => by have := b3 b q; have := b1 b x; omega, fun x => by have := b3 b q; have := b2 b x; omega, fun x => by have := b3 b q; have := b4 b x; omega⟩,
   fun q => ⟨by have := b4 b q; omega, fun x => by have := b4 b q; have := b1 b x; omega, fun x => by have := b4 b q; have := b2 b x; omega, fun x => by have := b4 b q; have := b3 b x; omega⟩⟩
theorem betw_of {w : World} {base n c size : Nat} {e : TypeId} {A : Option Addr} {xs : List Value} (h : w.ownsRow base e size (.slice A n c) n xs) : Betw A base w.heap.size := fun b hb => by
  cases A with
  | none => simp [blkOf] at hb
  | some a =>
    have hb' : a.block = b := by simpa [blkOf] using hb
    exact h.lt b (by simp [Value.ownBlock, hb'])
theorem own_far {w w' : World} {base n c size g : Nat} {e : TypeId} {A : Option Addr} {xs : List Value} (h : w.ownsRow base e size (.slice A n c) n xs) (k : Same (· ≠ g) w w') (hg : blkOf A ≠ some g) : w'.ownsRow base e size (.slice A n c) n xs :=
  ownsRow_own h k (fun b hb e' => hg (by cases A with | none => cases hb | some a => simpa [blkOf, Value.ownBlock, e'] using hb))
theorem own_sl {α : Type} {enc : α → List Value} {size : Nat} {w : World} {base n c : Nat} {e : TypeId} {A : Option Addr} {l : List α} {S : Nat → Prop} (h : w.ownsRow base e size (.slice A n c) n (l.flatMap enc)) (hl : n = l.length) (hS : ∀ i, blkOf A = some i → i < w.heap.size → S i) : Sl enc size w S A n c l := by
  have hf := own_form h
  obtain ⟨A', c', e1, h1, h2⟩ := hf
  simp only [Value.slice.injEq, true_and] at e1
  obtain ⟨rfl, rfl⟩ := e1
  refine ⟨hl, h1, h2, ?_⟩
  have hr := Reads.of_own h
  refine ⟨hr.1, fun hn => ?_⟩
  obtain ⟨b, off, e2, hb, hc⟩ := hr.2 hn
  exact ⟨b, off, e2, hS b (by rw [e2]; rfl) hb.2, hc⟩
theorem bld_st4 (A1 A2 A3 A4 : Option Addr) (n1 c1 n2 c2 n3 c3 n4 c4 : Nat) : Tryd.prog.built 27 [(0, .slice A1 n1 c1), (1, .slice A2 n2 c2), (2, .slice A3 n3 c3), (3, .slice A4 n4 c4)] = some #[.slice A1 n1 c1, .slice A2 n2 c2, .slice A3 n3 c3, .slice A4 n4 c4] := by kernel_rfl
/-- The four lists of a state in rows of the call's own. -/
def Own4 (B : Nat) (wx : World) (h : Nat) (A1 A2 A3 A4 : Option Addr) (n1 d1 n2 d2 n3 d3 n4 d4 : Nat) (s : St) : Prop :=
  Blk wx h 27 #[.slice A1 n1 d1, .slice A2 n2 d2, .slice A3 n3 d3, .slice A4 n4 d4] ∧ wx.ownsRow B 3 1 (.slice A1 n1 d1) n1 (s.cells.flatMap encI) ∧ wx.ownsRow B 51 7 (.slice A2 n2 d2) n2 (s.events.flatMap encEv) ∧
  wx.ownsRow B 43 4 (.slice A3 n3 d3) n3 (s.sent.flatMap encSnd) ∧ wx.ownsRow B 45 2 (.slice A4 n4 d4) n4 (s.outs.flatMap encOut) ∧ Dist h A1 A2 A3 A4
def SR4 (W : World) (n1 n2 n3 n4 : Nat) (s : St) (p : Value) (wx : World) : Prop :=
  ∃ (h : Nat) (A1 A2 A3 A4 : Option Addr) (d1 d2 d3 d4 : Nat), p = .pointer (some ⟨h, 0, none⟩) ∧ W.heap.size ≤ h ∧ Own4 W.heap.size wx h A1 A2 A3 A4 n1 d1 n2 d2 n3 d3 n4 d4 s ∧ Keep W wx
def SS5 (W : World) (h : Nat) (wx : World) : Prop := ∃ (ct : List Value) (t : St), Blk wx h 27 ct.toArray ∧ StR wx (Bx h wx) ct t ∧ Fine t ∧ Keep W wx
theorem own4_st {B : Nat} {wx : World} {h : Nat} {A1 A2 A3 A4 : Option Addr} {n1 d1 n2 d2 n3 d3 n4 d4 : Nat} {s : St} (o : Own4 B wx h A1 A2 A3 A4 n1 d1 n2 d2 n3 d3 n4 d4 s) (e1 : n1 = s.cells.length) (e2 : n2 = s.events.length) (e3 : n3 = s.sent.length) (e4 : n4 = s.outs.length) :
    StR wx (Bx h wx) [.slice A1 n1 d1, .slice A2 n2 d2, .slice A3 n3 d3, .slice A4 n4 d4] s := by
  obtain ⟨hb, o1, o2, o3, o4, hd⟩ := o
  exact st_mk (own_sl o1 e1 (fun i hi hl => ⟨hl, ((hd i).1 hi).1⟩)) (own_sl o2 e2 (fun i hi hl => ⟨hl, ((hd i).2.1 hi).1⟩)) (own_sl o3 e3 (fun i hi hl => ⟨hl, ((hd i).2.2.1 hi).1⟩)) (own_sl o4 e4 (fun i hi hl => ⟨hl, ((hd i).2.2.2 hi).1⟩))
theorem own_blk (A : Option Addr) (n c : Nat) : (Value.slice A n c).ownBlock = blkOf A := by cases A <;> rfl
theorem bld_out1 (v : Int) : Tryd.prog.built 45 [(1, .int .i64 v)] = some #[.int .i64 0, .int .i64 v] := by kernel_rfl
theorem bld_ev1 (v : Int) : Tryd.prog.built 51 [(0, .int .i64 v)] = some #[.int .i64 v, .int .i64 0, .int .i64 0, .int .i64 0, .int .i64 0, .int .i64 0, .int .i64 0] := by kernel_rfl
theorem builtS_out1 (v : Int) : builtS Tryd.prog 45 1 [(0, .agg #[.int .i64 0, .int .i64 v])] = some #[.int .i64 0, .int .i64 v] := by kernel_rfl
theorem builtS_ev1 (v : Int) : builtS Tryd.prog 51 1 [(0, .agg #[.int .i64 v, .int .i64 0, .int .i64 0, .int .i64 0, .int .i64 0, .int .i64 0, .int .i64 0])] = some #[.int .i64 v, .int .i64 0, .int .i64 0, .int .i64 0, .int .i64 0, .int .i64 0, .int .i64 0] := by kernel_rfl
set_option maxHeartbeats 32000000 in
theorem processSame_walk (w : World) (A : Option Addr) (n c : Nat) (zs : List Int) (what : Int) (byv : Int) (hs0 : 0 ≤ what) (hs1 : what < 256) (hg : Glob w) (hz : Sl encB 1 w (· < w.heap.size) A n c zs) (hz8 : ∀ y ∈ zs, 0 ≤ y ∧ y < 256) :
    Calls Tryd.prog 7 #[.slice A n c, .int .u8 what, .int .i64 byv] w (AwPost w) := by
  have HG := Lib.hid hg
  have HZ := Lib.hid hz
  have HZ8 := Lib.hid hz8
  clear hg hz hz8
  go_enter Tryd.func7, Tryd.ntmps7
  go_wp2_with fail
  refine (awake06_any w).mono ?_
  rintro e w1 ⟨rfl, hk1⟩
  have hz1 := hk1.size
  have HK1 := Lib.hid hk1
  clear hk1
  go_wp2_with fail
  refine (new_any w1 A n c 240 zs (fun i => i < w.heap.size) (fun i hi => by omega) (HZ.out.keep HK1.out) HZ8.out (by omega)).mono ?_
  rintro e w2 ⟨r, hr, rfl, hc2, hk2⟩
  have hz2 := hk2.size
  have hk2' := Keep.trans HK1.out hk2
  have hg2 := HG.out.keep hk2'
  have hgc := hc2.lt
  generalize hgce : w1.heap.size = gc at *
  have HK2' := Lib.hid hk2'
  have HG2 := Lib.hid hg2
  have HC2 := Lib.hid hc2
  clear hk2' hg2 hc2
  clear hk2
  go_wp2_with fail
  refine (state_any w2 _ gc r 6 (by omega) HC2.out HG2.out).mono ?_
  rintro e w3 ⟨cs3, s, r3, rfl, hst', ⟨hl1, hl2, hl3, hl4⟩, -, ho3⟩
  obtain ⟨E1, E2, E3, E4, en1, ec1, en2, ec2, en3, ec3, en4, ec4, rfl, hst⟩ := st_open hst'
  have hz3 := ho3.size
  have hk3 : Keep w w3 := Same.trans HK2'.out ho3 (fun i hi => by omega)
  obtain ⟨x1, x2, x3, x4⟩ := st_sl hst
  have hn1 : en1 ≤ 1000000 := by have := x1.1; omega
  have hn2 : en2 ≤ 6 := by have := x2.1; omega
  have hn3 : en3 ≤ 56 := by have := x3.1; omega
  have hn4 : en4 ≤ 56 := by have := x4.1; omega
  have hlens : en1 = s.cells.length ∧ en2 = s.events.length ∧ en3 = s.sent.length ∧ en4 = s.outs.length := ⟨x1.1, x2.1, x3.1, x4.1⟩
  have hfs : Fine s := ⟨by omega, by omega, by omega, by omega⟩
  have HST := Lib.hid hst
  have HK3 := Lib.hid hk3
  have HFS := Lib.hid hfs
  have HLENS := Lib.hid hlens
  clear hst hk3 hfs hlens
  clear hst' ho3 x1 x2 x3 x4 hl1 hl2 hl3 hl4
  go_upto_region 4 with (refine wpList_store_all rfl _ (.tmp 7) (.tmp 14) rfl w3.heap.size 27 _ [.slice E1 en1 ec1, .slice E2 en2 ec2, .slice E3 en3 ec3, .slice E4 en4 ec4] rfl rfl (Blk.new _ _ _) rfl (by kernel_rfl) rfl ?_; intro w4 hb4 hs4)
  have hk34 : Keep w3 w4 := Keep.write (Keep.new _ _) hs4 (Nat.le_refl _)
  have hz4 : w3.heap.size < w4.heap.size := hb4.lt
  have hkw4 := Keep.trans HK3.out hk34
  have hst4 := HST.out.keep (Same.mono hk34 (fun i hi => hi.2))
  have HB4 := Lib.hid hb4
  have HKW4 := Lib.hid hkw4
  have HST4 := Lib.hid hst4
  clear hb4 hkw4 hst4
  clear hs4 hk34 HST
  try simp only [Act.put, List.setIfInBounds_toArray, List.set_cons_zero, List.set_cons_succ]
  go_cut [8] from 15 to 27 (fun p wx => SR4 w4 en1 en2 en3 en4 s p wx)
  case first =>
    obtain ⟨i1, hi1, iz1, is1, ib1⟩ := info_of info_Int
    obtain ⟨i2, hi2, iz2, is2, ib2⟩ := info_of info_Event
    obtain ⟨i3, hi3, iz3, is3, ib3⟩ := info_of info_Send
    obtain ⟨i4, hi4, iz4, is4, ib4⟩ := info_of info_Output
    obtain ⟨x1, x2, x3, x4⟩ := st_sl HST4.out
    have e0 : ∀ wx, Keep w4 wx → wx.cell? ⟨w3.heap.size, 0, none⟩ = some (.slice E1 en1 ec1) := fun wx hx => by rw [(hx.blk HB4.out HB4.out.lt).cell]; rfl
    have e1 : ∀ wx, Keep w4 wx → wx.cell? ⟨w3.heap.size, 1, none⟩ = some (.slice E2 en2 ec2) := fun wx hx => by rw [(hx.blk HB4.out HB4.out.lt).cell]; rfl
    have e2 : ∀ wx, Keep w4 wx → wx.cell? ⟨w3.heap.size, 2, none⟩ = some (.slice E3 en3 ec3) := fun wx hx => by rw [(hx.blk HB4.out HB4.out.lt).cell]; rfl
    have e3 : ∀ wx, Keep w4 wx → wx.cell? ⟨w3.heap.size, 3, none⟩ = some (.slice E4 en4 ec4) := fun wx hx => by rw [(hx.blk HB4.out HB4.out.lt).cell]; rfl
    have X1 := Lib.hid x1
    have X2 := Lib.hid x2
    have X3 := Lib.hid x3
    have X4 := Lib.hid x4
    have HI1 := Lib.hid hi1
    have IZ1 := Lib.hid iz1
    have IS1 := Lib.hid is1
    have IB1 := Lib.hid ib1
    have HI2 := Lib.hid hi2
    have IZ2 := Lib.hid iz2
    have IS2 := Lib.hid is2
    have IB2 := Lib.hid ib2
    have HI3 := Lib.hid hi3
    have IZ3 := Lib.hid iz3
    have IS3 := Lib.hid is3
    have IB3 := Lib.hid ib3
    have HI4 := Lib.hid hi4
    have IZ4 := Lib.hid iz4
    have IS4 := Lib.hid is4
    have IB4 := Lib.hid ib4
    clear x1 x2 x3 x4 hi1 iz1 is1 ib1 hi2 iz2 is2 ib2 hi3 iz3 is3 ib3 hi4 iz4 is4 ib4
    refine wp_region_L 14 (fun wx => Keep w4 wx) (fun _ => True) (by kernel_rfl) (Same.drew (Same.refl _ _)) trivial (fun hA hB => ?_)
    have z0 : w4.heap.size ≤ w4.drew.heap.size := Nat.le_refl _
    generalize hu0 : w4.drew = u0 at hA z0 ⊢
    clear hu0
    refine wpL_takeA (i := 0) (v := ?_) rfl (by kernel_rfl) (by kernel_rfl) (by kernel_rfl) (by kernel_rfl) (by decide) (fun _ _ _ h => h) (Or.inl ⟨by rfl, ?_⟩) hA hB ?_
    rotate_left
    · rintro wx ⟨hAx, hBx⟩
      (try dsimp only at hBx); (try dsimp only at hAx)
      go_simp
      try with_reducible rfl
    try simp only [Act.put, List.setIfInBounds_toArray, List.set_cons_zero, List.set_cons_succ]
    refine wpL_takeA (i := 1) (v := ?_) rfl (by kernel_rfl) (by kernel_rfl) (by kernel_rfl) (by kernel_rfl) (by decide) (fun _ _ _ h => h) (Or.inl ⟨by rfl, ?_⟩) hA hB ?_
    rotate_left
    · rintro wx ⟨hAx, hBx⟩
      (try dsimp only at hBx); (try dsimp only at hAx)
      go_simp
      try with_reducible rfl
    try simp only [Act.put, List.setIfInBounds_toArray, List.set_cons_zero, List.set_cons_succ]
    refine wpL_takeA (i := 3) (v := ?_) rfl (by kernel_rfl) (by kernel_rfl) (by kernel_rfl) (by kernel_rfl) (by decide) (fun _ _ _ h => h) (Or.inl ⟨by rfl, ?_⟩) hA hB ?_
    rotate_left
    · rintro wx ⟨hAx, hBx⟩
      (try dsimp only at hBx); (try dsimp only at hAx)
      go_simp
      try with_reducible rfl
    try simp only [Act.put, List.setIfInBounds_toArray, List.set_cons_zero, List.set_cons_succ]
    refine wpL_takeA (i := 4) (v := ?_) rfl (by kernel_rfl) (by kernel_rfl) (by kernel_rfl) (by kernel_rfl) (by decide) (fun _ _ _ h => h) (Or.inl ⟨by rfl, ?_⟩) hA hB ?_
    rotate_left
    · rintro wx ⟨hAx, hBx⟩
      (try dsimp only at hBx); (try dsimp only at hAx)
      go_simp
      try with_reducible rfl
    try simp only [Act.put, List.setIfInBounds_toArray, List.set_cons_zero, List.set_cons_succ]
    refine wpL_takeA (i := 6) (v := ?_) rfl (by kernel_rfl) (by kernel_rfl) (by kernel_rfl) (by kernel_rfl) (by decide) (fun _ _ _ h => h) (Or.inl ⟨by rfl, ?_⟩) hA hB ?_
    rotate_left
    · rintro wx ⟨hAx, hBx⟩
      (try dsimp only at hBx); (try dsimp only at hAx)
      go_simp
      try with_reducible rfl
    try simp only [Act.put, List.setIfInBounds_toArray, List.set_cons_zero, List.set_cons_succ]
    refine wpL_takeA (i := 7) (v := ?_) rfl (by kernel_rfl) (by kernel_rfl) (by kernel_rfl) (by kernel_rfl) (by decide) (fun _ _ _ h => h) (Or.inl ⟨by rfl, ?_⟩) hA hB ?_
    rotate_left
    · rintro wx ⟨hAx, hBx⟩
      (try dsimp only at hBx); (try dsimp only at hAx)
      go_simp
      try with_reducible rfl
    try simp only [Act.put, List.setIfInBounds_toArray, List.set_cons_zero, List.set_cons_succ]
    refine wpL_takeA (i := 9) (v := ?_) rfl (by kernel_rfl) (by kernel_rfl) (by kernel_rfl) (by kernel_rfl) (by decide) (fun _ _ _ h => h) (Or.inl ⟨by rfl, ?_⟩) hA hB ?_
    rotate_left
    · rintro wx ⟨hAx, hBx⟩
      (try dsimp only at hBx); (try dsimp only at hAx)
      go_simp
      try with_reducible rfl
    try simp only [Act.put, List.setIfInBounds_toArray, List.set_cons_zero, List.set_cons_succ]
    refine wpL_takeA (i := 10) (v := ?_) rfl (by kernel_rfl) (by kernel_rfl) (by kernel_rfl) (by kernel_rfl) (by decide) (fun _ _ _ h => h) (Or.inl ⟨by rfl, ?_⟩) hA hB ?_
    rotate_left
    · rintro wx ⟨hAx, hBx⟩
      (try dsimp only at hBx); (try dsimp only at hAx)
      go_simp
      try with_reducible rfl
    try simp only [Act.put, List.setIfInBounds_toArray, List.set_cons_zero, List.set_cons_succ]
    clear e0 e1 e2 e3
    refine wpL_two (i := 2) (j := 13) (by kernel_rfl) (StepL.mk rfl (fun K hK => ?_)) (StepL.mk rfl (fun K hK => ?_))
    · refine step_append_any _ (by rfl) (.const (.slice none 0 0)) (.tmp 16) _ (by rfl) u0.heap.size 3 i1 _ 1 8 Tryd.underlying22 HI1.out IZ1.out IS1.out IB1.out rfl (by omega) (.slice none 0 0) 0 [] (by rfl) (World.ownsRow_nil _ _ _ _) _ E1 en1 ec1 (s.cells.flatMap encI) (by rfl) (X1.out.keep (Same.mono hA (fun i hi => by have := hi.2; omega))).2.2.2 (one_of encI_one _) (by simp [maxLen]; omega) (by omega) (Nat.le_refl _) ?_
      intro va1 u1 how1 hga hata
      have hk11 : Keep u0 u1 := Same.append (Same.refl _ _) (World.ownsRow_nil _ u0.heap.size 3 1) hga (fun i hi => hi) (Nat.le_refl _)
      (try simp only [Nat.zero_add, List.nil_append] at how1)
      obtain ⟨A1, d1, hva, -, -⟩ := own_form how1
      subst hva
      have bt1 := betw_of how1
      clear hga hata
      have z1 := hk11.size
      have ha := Keep.trans hA hk11
      refine hK.out _ _ (SAB.both ha trivial) (fun hSS => ?_)
      clear hK K hA hB
      have hB := hSS.2
      have hA := hSS.1 (by kernel_rfl)
      (try dsimp only at hB); (try dsimp only at hA); clear hSS
      try simp only [Act.put, List.setIfInBounds_toArray, List.set_cons_zero, List.set_cons_succ]
      clear ha
      refine wpL_two (i := 5) (j := 13) (by kernel_rfl) (StepL.mk rfl (fun K hK => ?_)) (StepL.mk rfl (fun K hK => ?_))
      · refine step_append_any _ (by rfl) (.const (.slice none 0 0)) (.tmp 19) _ (by rfl) u1.heap.size 51 i2 _ 7 56 Tryd.underlying23 HI2.out IZ2.out IS2.out IB2.out rfl (by omega) (.slice none 0 0) 0 [] (by rfl) (World.ownsRow_nil _ _ _ _) _ E2 en2 ec2 (s.events.flatMap encEv) (by rfl) (X2.out.keep (Same.mono hA (fun i hi => by have := hi.2; omega))).2.2.2 (one_of encEv_one _) (by simp [maxLen]; omega) (by omega) (Nat.le_refl _) ?_
        intro va2 u2 how2 hga hata
        have hk12 : Keep u1 u2 := Same.append (Same.refl _ _) (World.ownsRow_nil _ u1.heap.size 51 7) hga (fun i hi => hi) (Nat.le_refl _)
        (try simp only [Nat.zero_add, List.nil_append] at how2)
        obtain ⟨A2, d2, hva, -, -⟩ := own_form how2
        subst hva
        have bt2 := betw_of how2
        clear hga hata
        have z2 := hk12.size
        have ha := Keep.trans hA hk12
        refine hK.out _ _ (SAB.both ha trivial) (fun hSS => ?_)
        clear hK K hA hB
        have hB := hSS.2
        have hA := hSS.1 (by kernel_rfl)
        (try dsimp only at hB); (try dsimp only at hA); clear hSS
        try simp only [Act.put, List.setIfInBounds_toArray, List.set_cons_zero, List.set_cons_succ]
        clear ha
        refine wpL_two (i := 8) (j := 13) (by kernel_rfl) (StepL.mk rfl (fun K hK => ?_)) (StepL.mk rfl (fun K hK => ?_))
        · refine step_append_any _ (by rfl) (.const (.slice none 0 0)) (.tmp 22) _ (by rfl) u2.heap.size 43 i3 _ 4 32 Tryd.underlying24 HI3.out IZ3.out IS3.out IB3.out rfl (by omega) (.slice none 0 0) 0 [] (by rfl) (World.ownsRow_nil _ _ _ _) _ E3 en3 ec3 (s.sent.flatMap encSnd) (by rfl) (X3.out.keep (Same.mono hA (fun i hi => by have := hi.2; omega))).2.2.2 (one_of encSnd_one _) (by simp [maxLen]; omega) (by omega) (Nat.le_refl _) ?_
          intro va3 u3 how3 hga hata
          have hk13 : Keep u2 u3 := Same.append (Same.refl _ _) (World.ownsRow_nil _ u2.heap.size 43 4) hga (fun i hi => hi) (Nat.le_refl _)
          (try simp only [Nat.zero_add, List.nil_append] at how3)
          obtain ⟨A3, d3, hva, -, -⟩ := own_form how3
          subst hva
          have bt3 := betw_of how3
          clear hga hata
          have z3 := hk13.size
          have ha := Keep.trans hA hk13
          refine hK.out _ _ (SAB.both ha trivial) (fun hSS => ?_)
          clear hK K hA hB
          have hB := hSS.2
          have hA := hSS.1 (by kernel_rfl)
          (try dsimp only at hB); (try dsimp only at hA); clear hSS
          try simp only [Act.put, List.setIfInBounds_toArray, List.set_cons_zero, List.set_cons_succ]
          clear ha
          refine wpL_two (i := 11) (j := 13) (by kernel_rfl) (StepL.mk rfl (fun K hK => ?_)) (StepL.mk rfl (fun K hK => ?_))
          · refine step_append_any _ (by rfl) (.const (.slice none 0 0)) (.tmp 25) _ (by rfl) u3.heap.size 45 i4 _ 2 16 Tryd.underlying25 HI4.out IZ4.out IS4.out IB4.out rfl (by omega) (.slice none 0 0) 0 [] (by rfl) (World.ownsRow_nil _ _ _ _) _ E4 en4 ec4 (s.outs.flatMap encOut) (by rfl) (X4.out.keep (Same.mono hA (fun i hi => by have := hi.2; omega))).2.2.2 (one_of encOut_one _) (by simp [maxLen]; omega) (by omega) (Nat.le_refl _) ?_
            intro va4 u4 how4 hga hata
            have hk14 : Keep u3 u4 := Same.append (Same.refl _ _) (World.ownsRow_nil _ u3.heap.size 45 2) hga (fun i hi => hi) (Nat.le_refl _)
            (try simp only [Nat.zero_add, List.nil_append] at how4)
            obtain ⟨A4, d4, hva, -, -⟩ := own_form how4
            subst hva
            have bt4 := betw_of how4
            clear hga hata
            have z4 := hk14.size
            have ha := Keep.trans hA hk14
            refine hK.out _ _ (SAB.both ha trivial) (fun hSS => ?_)
            clear hK K hA hB
            have hB := hSS.2
            have hA := hSS.1 (by kernel_rfl)
            (try dsimp only at hB); (try dsimp only at hA); clear hSS
            try simp only [Act.put, List.setIfInBounds_toArray, List.set_cons_zero, List.set_cons_succ]
            clear ha
            refine wpL_takeA (i := 12) rfl (by kernel_rfl) (by kernel_rfl) (by kernel_rfl) (by kernel_rfl) (by decide) (fun _ _ _ h => h) (yieldsIf_bld (by rfl) 27 _ rfl _ [(0, .slice A1 en1 d1), (1, .slice A2 en2 d2), (2, .slice A3 en3 d3), (3, .slice A4 en4 d4)] rfl (bld_st4 _ _ _ _ _ _ _ _ _ _ _ _)) hA hB ?_
            try simp only [Act.put, List.setIfInBounds_toArray, List.set_cons_zero, List.set_cons_succ]
            refine wpL_one (i := 13) (by kernel_rfl) (StepL.mk rfl (fun K hK => ?_))
            go_simp
            generalize hq : u4.alloc (.cells #[.slice none 0 0, .slice none 0 0, .slice none 0 0, .slice none 0 0] 27) = u5
            have hb13 : Blk u5 u4.heap.size 27 #[.slice none 0 0, .slice none 0 0, .slice none 0 0, .slice none 0 0] := hq ▸ Blk.new _ _ _
            have hk15 : Keep u4 u5 := hq ▸ Keep.new _ _
            clear hq
            have y13 := hb13.lt
            have z5 := hk15.size
            have ha := Keep.trans hA hk15
            refine hK.out _ _ (SAB.both ha trivial) (fun hSS => ?_)
            clear hK K hA hB
            have hB := hSS.2
            have hA := hSS.1 (by kernel_rfl)
            (try dsimp only at hB); (try dsimp only at hA); clear hSS
            try simp only [Act.put, List.setIfInBounds_toArray, List.set_cons_zero, List.set_cons_succ]
            clear ha
            have kk5 : Keep u5 u5 := Same.refl _ _
            have kk4 : Keep u4 u5 := Keep.trans hk15 kk5
            have kk3 : Keep u3 u5 := Keep.trans hk14 kk4
            have kk2 : Keep u2 u5 := Keep.trans hk13 kk3
            have kk1 : Keep u1 u5 := Keep.trans hk12 kk2
            have b9 := kk5.blk hb13 y13
            have ow1 := ownsRow_less (ownsRow_same how1 kk1 (fun i hi => hi.2)) (show w4.heap.size ≤ _ by omega)
            have ow2 := ownsRow_less (ownsRow_same how2 kk2 (fun i hi => hi.2)) (show w4.heap.size ≤ _ by omega)
            have ow3 := ownsRow_less (ownsRow_same how3 kk3 (fun i hi => hi.2)) (show w4.heap.size ≤ _ by omega)
            have ow4 := ownsRow_less (ownsRow_same how4 kk4 (fun i hi => hi.2)) (show w4.heap.size ≤ _ by omega)
            have hds : Dist (u4.heap.size) A1 A2 A3 A4 := dist_of bt1 bt2 bt3 bt4 (by omega) (by omega) (by omega) (by omega) (by omega) (by omega) (by omega) (by omega) (by omega)
            refine wpL_one (i := 14) (by kernel_rfl) (StepL.mk rfl (fun K hK => ?_))
            refine step_store_blk rfl _ _ _ rfl (u4.heap.size) 0 27 _ [.slice A1 en1 d1, .slice A2 en2 d2, .slice A3 en3 d3, .slice A4 en4 d4] rfl rfl b9 (by simp) (by kernel_rfl) rfl ?_
            intro v5 hv5 hs5
            rw [splice_all [.slice A1 en1 d1, .slice A2 en2 d2, .slice A3 en3 d3, .slice A4 en4 d4] #[.slice none 0 0, .slice none 0 0, .slice none 0 0, .slice none 0 0] rfl] at hv5
            have hfin : SR4 w4 en1 en2 en3 en4 s (.pointer (some ⟨u4.heap.size, 0, none⟩)) v5 := ⟨_, A1, A2, A3, A4, d1, d2, d3, d4, rfl, by omega, ⟨hv5, own_far ow1 hs5 (fun q => ((hds _).1 q).1 rfl), own_far ow2 hs5 (fun q => ((hds _).2.1 q).1 rfl), own_far ow3 hs5 (fun q => ((hds _).2.2.1 q).1 rfl), own_far ow4 hs5 (fun q => ((hds _).2.2.2 q).1 rfl), hds⟩, Keep.write hA hs5 (by omega)⟩
            refine hK.out _ _ (SAB.past (by kernel_rfl) trivial) (fun hSS => ?_)
            clear hK K hA hB
            have hB := hSS.2
            have hA : True := trivial
            (try dsimp only at hB); (try dsimp only at hA); clear hSS
            try simp only [Act.put, List.setIfInBounds_toArray, List.set_cons_zero, List.set_cons_succ]
            refine wpL_done (by kernel_rfl) ?_
            have HFIN := Lib.hid hfin
            clear hfin
            clear hv5 hs5 hds ow1 ow2 ow3 ow4 b9 kk1 kk2 kk3 kk4 kk5 hb13 how1 how2 how3 how4 bt1 bt2 bt3 bt4 hA hB hk11 hk12 hk13 hk14 hk15
            go_wp2_with fail
            go_meet
            exact HFIN.out
          · go_simp
            generalize hq : u3.alloc (.cells #[.slice none 0 0, .slice none 0 0, .slice none 0 0, .slice none 0 0] 27) = u4
            have hb13 : Blk u4 u3.heap.size 27 #[.slice none 0 0, .slice none 0 0, .slice none 0 0, .slice none 0 0] := hq ▸ Blk.new _ _ _
            have hk14 : Keep u3 u4 := hq ▸ Keep.new _ _
            clear hq
            have y13 := hb13.lt
            have z4 := hk14.size
            have ha := Keep.trans hA hk14
            refine hK.out _ _ (SAB.both ha trivial) (fun hSS => ?_)
            clear hK K hA hB
            have hB := hSS.2
            have hA := hSS.1 (by kernel_rfl)
            (try dsimp only at hB); (try dsimp only at hA); clear hSS
            try simp only [Act.put, List.setIfInBounds_toArray, List.set_cons_zero, List.set_cons_succ]
            clear ha
            refine wpL_one (i := 11) (by kernel_rfl) (StepL.mk rfl (fun K hK => ?_))
            refine step_append_any _ (by rfl) (.const (.slice none 0 0)) (.tmp 25) _ (by rfl) u4.heap.size 45 i4 _ 2 16 Tryd.underlying25 HI4.out IZ4.out IS4.out IB4.out rfl (by omega) (.slice none 0 0) 0 [] (by rfl) (World.ownsRow_nil _ _ _ _) _ E4 en4 ec4 (s.outs.flatMap encOut) (by rfl) (X4.out.keep (Same.mono hA (fun i hi => by have := hi.2; omega))).2.2.2 (one_of encOut_one _) (by simp [maxLen]; omega) (by omega) (Nat.le_refl _) ?_
            intro va4 u5 how4 hga hata
            have hk15 : Keep u4 u5 := Same.append (Same.refl _ _) (World.ownsRow_nil _ u4.heap.size 45 2) hga (fun i hi => hi) (Nat.le_refl _)
            (try simp only [Nat.zero_add, List.nil_append] at how4)
            obtain ⟨A4, d4, hva, -, -⟩ := own_form how4
            subst hva
            have bt4 := betw_of how4
            clear hga hata
            have z5 := hk15.size
            have ha := Keep.trans hA hk15
            refine hK.out _ _ (SAB.both ha trivial) (fun hSS => ?_)
            clear hK K hA hB
            have hB := hSS.2
            have hA := hSS.1 (by kernel_rfl)
            (try dsimp only at hB); (try dsimp only at hA); clear hSS
            try simp only [Act.put, List.setIfInBounds_toArray, List.set_cons_zero, List.set_cons_succ]
            clear ha
            refine wpL_takeA (i := 12) rfl (by kernel_rfl) (by kernel_rfl) (by kernel_rfl) (by kernel_rfl) (by decide) (fun _ _ _ h => h) (yieldsIf_bld (by rfl) 27 _ rfl _ [(0, .slice A1 en1 d1), (1, .slice A2 en2 d2), (2, .slice A3 en3 d3), (3, .slice A4 en4 d4)] rfl (bld_st4 _ _ _ _ _ _ _ _ _ _ _ _)) hA hB ?_
            try simp only [Act.put, List.setIfInBounds_toArray, List.set_cons_zero, List.set_cons_succ]
            have kk5 : Keep u5 u5 := Same.refl _ _
            have kk4 : Keep u4 u5 := Keep.trans hk15 kk5
            have kk3 : Keep u3 u5 := Keep.trans hk14 kk4
            have kk2 : Keep u2 u5 := Keep.trans hk13 kk3
            have kk1 : Keep u1 u5 := Keep.trans hk12 kk2
            have b9 := kk4.blk hb13 y13
            have ow1 := ownsRow_less (ownsRow_same how1 kk1 (fun i hi => hi.2)) (show w4.heap.size ≤ _ by omega)
            have ow2 := ownsRow_less (ownsRow_same how2 kk2 (fun i hi => hi.2)) (show w4.heap.size ≤ _ by omega)
            have ow3 := ownsRow_less (ownsRow_same how3 kk3 (fun i hi => hi.2)) (show w4.heap.size ≤ _ by omega)
            have ow4 := ownsRow_less (ownsRow_same how4 kk5 (fun i hi => hi.2)) (show w4.heap.size ≤ _ by omega)
            have hds : Dist (u3.heap.size) A1 A2 A3 A4 := dist_of bt1 bt2 bt3 bt4 (by omega) (by omega) (by omega) (by omega) (by omega) (by omega) (by omega) (by omega) (by omega)
            refine wpL_one (i := 14) (by kernel_rfl) (StepL.mk rfl (fun K hK => ?_))
            refine step_store_blk rfl _ _ _ rfl (u3.heap.size) 0 27 _ [.slice A1 en1 d1, .slice A2 en2 d2, .slice A3 en3 d3, .slice A4 en4 d4] rfl rfl b9 (by simp) (by kernel_rfl) rfl ?_
            intro v5 hv5 hs5
            rw [splice_all [.slice A1 en1 d1, .slice A2 en2 d2, .slice A3 en3 d3, .slice A4 en4 d4] #[.slice none 0 0, .slice none 0 0, .slice none 0 0, .slice none 0 0] rfl] at hv5
            have hfin : SR4 w4 en1 en2 en3 en4 s (.pointer (some ⟨u3.heap.size, 0, none⟩)) v5 := ⟨_, A1, A2, A3, A4, d1, d2, d3, d4, rfl, by omega, ⟨hv5, own_far ow1 hs5 (fun q => ((hds _).1 q).1 rfl), own_far ow2 hs5 (fun q => ((hds _).2.1 q).1 rfl), own_far ow3 hs5 (fun q => ((hds _).2.2.1 q).1 rfl), own_far ow4 hs5 (fun q => ((hds _).2.2.2 q).1 rfl), hds⟩, Keep.write hA hs5 (by omega)⟩
            refine hK.out _ _ (SAB.past (by kernel_rfl) trivial) (fun hSS => ?_)
            clear hK K hA hB
            have hB := hSS.2
            have hA : True := trivial
            (try dsimp only at hB); (try dsimp only at hA); clear hSS
            try simp only [Act.put, List.setIfInBounds_toArray, List.set_cons_zero, List.set_cons_succ]
            refine wpL_done (by kernel_rfl) ?_
            have HFIN := Lib.hid hfin
            clear hfin
            clear hv5 hs5 hds ow1 ow2 ow3 ow4 b9 kk1 kk2 kk3 kk4 kk5 hb13 how1 how2 how3 how4 bt1 bt2 bt3 bt4 hA hB hk11 hk12 hk13 hk14 hk15
            go_wp2_with fail
            go_meet
            exact HFIN.out
        · go_simp
          generalize hq : u2.alloc (.cells #[.slice none 0 0, .slice none 0 0, .slice none 0 0, .slice none 0 0] 27) = u3
          have hb13 : Blk u3 u2.heap.size 27 #[.slice none 0 0, .slice none 0 0, .slice none 0 0, .slice none 0 0] := hq ▸ Blk.new _ _ _
          have hk13 : Keep u2 u3 := hq ▸ Keep.new _ _
          clear hq
          have y13 := hb13.lt
          have z3 := hk13.size
          have ha := Keep.trans hA hk13
          refine hK.out _ _ (SAB.both ha trivial) (fun hSS => ?_)
          clear hK K hA hB
          have hB := hSS.2
          have hA := hSS.1 (by kernel_rfl)
          (try dsimp only at hB); (try dsimp only at hA); clear hSS
          try simp only [Act.put, List.setIfInBounds_toArray, List.set_cons_zero, List.set_cons_succ]
          clear ha
          refine wpL_one (i := 8) (by kernel_rfl) (StepL.mk rfl (fun K hK => ?_))
          refine step_append_any _ (by rfl) (.const (.slice none 0 0)) (.tmp 22) _ (by rfl) u3.heap.size 43 i3 _ 4 32 Tryd.underlying24 HI3.out IZ3.out IS3.out IB3.out rfl (by omega) (.slice none 0 0) 0 [] (by rfl) (World.ownsRow_nil _ _ _ _) _ E3 en3 ec3 (s.sent.flatMap encSnd) (by rfl) (X3.out.keep (Same.mono hA (fun i hi => by have := hi.2; omega))).2.2.2 (one_of encSnd_one _) (by simp [maxLen]; omega) (by omega) (Nat.le_refl _) ?_
          intro va3 u4 how3 hga hata
          have hk14 : Keep u3 u4 := Same.append (Same.refl _ _) (World.ownsRow_nil _ u3.heap.size 43 4) hga (fun i hi => hi) (Nat.le_refl _)
          (try simp only [Nat.zero_add, List.nil_append] at how3)
          obtain ⟨A3, d3, hva, -, -⟩ := own_form how3
          subst hva
          have bt3 := betw_of how3
          clear hga hata
          have z4 := hk14.size
          have ha := Keep.trans hA hk14
          refine hK.out _ _ (SAB.both ha trivial) (fun hSS => ?_)
          clear hK K hA hB
          have hB := hSS.2
          have hA := hSS.1 (by kernel_rfl)
          (try dsimp only at hB); (try dsimp only at hA); clear hSS
          try simp only [Act.put, List.setIfInBounds_toArray, List.set_cons_zero, List.set_cons_succ]
          clear ha
          refine wpL_one (i := 11) (by kernel_rfl) (StepL.mk rfl (fun K hK => ?_))
          refine step_append_any _ (by rfl) (.const (.slice none 0 0)) (.tmp 25) _ (by rfl) u4.heap.size 45 i4 _ 2 16 Tryd.underlying25 HI4.out IZ4.out IS4.out IB4.out rfl (by omega) (.slice none 0 0) 0 [] (by rfl) (World.ownsRow_nil _ _ _ _) _ E4 en4 ec4 (s.outs.flatMap encOut) (by rfl) (X4.out.keep (Same.mono hA (fun i hi => by have := hi.2; omega))).2.2.2 (one_of encOut_one _) (by simp [maxLen]; omega) (by omega) (Nat.le_refl _) ?_
          intro va4 u5 how4 hga hata
          have hk15 : Keep u4 u5 := Same.append (Same.refl _ _) (World.ownsRow_nil _ u4.heap.size 45 2) hga (fun i hi => hi) (Nat.le_refl _)
          (try simp only [Nat.zero_add, List.nil_append] at how4)
          obtain ⟨A4, d4, hva, -, -⟩ := own_form how4
          subst hva
          have bt4 := betw_of how4
          clear hga hata
          have z5 := hk15.size
          have ha := Keep.trans hA hk15
          refine hK.out _ _ (SAB.both ha trivial) (fun hSS => ?_)
          clear hK K hA hB
          have hB := hSS.2
          have hA := hSS.1 (by kernel_rfl)
          (try dsimp only at hB); (try dsimp only at hA); clear hSS
          try simp only [Act.put, List.setIfInBounds_toArray, List.set_cons_zero, List.set_cons_succ]
          clear ha
          refine wpL_takeA (i := 12) rfl (by kernel_rfl) (by kernel_rfl) (by kernel_rfl) (by kernel_rfl) (by decide) (fun _ _ _ h => h) (yieldsIf_bld (by rfl) 27 _ rfl _ [(0, .slice A1 en1 d1), (1, .slice A2 en2 d2), (2, .slice A3 en3 d3), (3, .slice A4 en4 d4)] rfl (bld_st4 _ _ _ _ _ _ _ _ _ _ _ _)) hA hB ?_
          try simp only [Act.put, List.setIfInBounds_toArray, List.set_cons_zero, List.set_cons_succ]
          have kk5 : Keep u5 u5 := Same.refl _ _
          have kk4 : Keep u4 u5 := Keep.trans hk15 kk5
          have kk3 : Keep u3 u5 := Keep.trans hk14 kk4
          have kk2 : Keep u2 u5 := Keep.trans hk13 kk3
          have kk1 : Keep u1 u5 := Keep.trans hk12 kk2
          have b9 := kk3.blk hb13 y13
          have ow1 := ownsRow_less (ownsRow_same how1 kk1 (fun i hi => hi.2)) (show w4.heap.size ≤ _ by omega)
          have ow2 := ownsRow_less (ownsRow_same how2 kk2 (fun i hi => hi.2)) (show w4.heap.size ≤ _ by omega)
          have ow3 := ownsRow_less (ownsRow_same how3 kk4 (fun i hi => hi.2)) (show w4.heap.size ≤ _ by omega)
          have ow4 := ownsRow_less (ownsRow_same how4 kk5 (fun i hi => hi.2)) (show w4.heap.size ≤ _ by omega)
          have hds : Dist (u2.heap.size) A1 A2 A3 A4 := dist_of bt1 bt2 bt3 bt4 (by omega) (by omega) (by omega) (by omega) (by omega) (by omega) (by omega) (by omega) (by omega)
          refine wpL_one (i := 14) (by kernel_rfl) (StepL.mk rfl (fun K hK => ?_))
          refine step_store_blk rfl _ _ _ rfl (u2.heap.size) 0 27 _ [.slice A1 en1 d1, .slice A2 en2 d2, .slice A3 en3 d3, .slice A4 en4 d4] rfl rfl b9 (by simp) (by kernel_rfl) rfl ?_
          intro v5 hv5 hs5
          rw [splice_all [.slice A1 en1 d1, .slice A2 en2 d2, .slice A3 en3 d3, .slice A4 en4 d4] #[.slice none 0 0, .slice none 0 0, .slice none 0 0, .slice none 0 0] rfl] at hv5
          have hfin : SR4 w4 en1 en2 en3 en4 s (.pointer (some ⟨u2.heap.size, 0, none⟩)) v5 := ⟨_, A1, A2, A3, A4, d1, d2, d3, d4, rfl, by omega, ⟨hv5, own_far ow1 hs5 (fun q => ((hds _).1 q).1 rfl), own_far ow2 hs5 (fun q => ((hds _).2.1 q).1 rfl), own_far ow3 hs5 (fun q => ((hds _).2.2.1 q).1 rfl), own_far ow4 hs5 (fun q => ((hds _).2.2.2 q).1 rfl), hds⟩, Keep.write hA hs5 (by omega)⟩
          refine hK.out _ _ (SAB.past (by kernel_rfl) trivial) (fun hSS => ?_)
          clear hK K hA hB
          have hB := hSS.2
          have hA : True := trivial
          (try dsimp only at hB); (try dsimp only at hA); clear hSS
          try simp only [Act.put, List.setIfInBounds_toArray, List.set_cons_zero, List.set_cons_succ]
          refine wpL_done (by kernel_rfl) ?_
          have HFIN := Lib.hid hfin
          clear hfin
          clear hv5 hs5 hds ow1 ow2 ow3 ow4 b9 kk1 kk2 kk3 kk4 kk5 hb13 how1 how2 how3 how4 bt1 bt2 bt3 bt4 hA hB hk11 hk12 hk13 hk14 hk15
          go_wp2_with fail
          go_meet
          exact HFIN.out
      · go_simp
        generalize hq : u1.alloc (.cells #[.slice none 0 0, .slice none 0 0, .slice none 0 0, .slice none 0 0] 27) = u2
        have hb13 : Blk u2 u1.heap.size 27 #[.slice none 0 0, .slice none 0 0, .slice none 0 0, .slice none 0 0] := hq ▸ Blk.new _ _ _
        have hk12 : Keep u1 u2 := hq ▸ Keep.new _ _
        clear hq
        have y13 := hb13.lt
        have z2 := hk12.size
        have ha := Keep.trans hA hk12
        refine hK.out _ _ (SAB.both ha trivial) (fun hSS => ?_)
        clear hK K hA hB
        have hB := hSS.2
        have hA := hSS.1 (by kernel_rfl)
        (try dsimp only at hB); (try dsimp only at hA); clear hSS
        try simp only [Act.put, List.setIfInBounds_toArray, List.set_cons_zero, List.set_cons_succ]
        clear ha
        refine wpL_one (i := 5) (by kernel_rfl) (StepL.mk rfl (fun K hK => ?_))
        refine step_append_any _ (by rfl) (.const (.slice none 0 0)) (.tmp 19) _ (by rfl) u2.heap.size 51 i2 _ 7 56 Tryd.underlying23 HI2.out IZ2.out IS2.out IB2.out rfl (by omega) (.slice none 0 0) 0 [] (by rfl) (World.ownsRow_nil _ _ _ _) _ E2 en2 ec2 (s.events.flatMap encEv) (by rfl) (X2.out.keep (Same.mono hA (fun i hi => by have := hi.2; omega))).2.2.2 (one_of encEv_one _) (by simp [maxLen]; omega) (by omega) (Nat.le_refl _) ?_
        intro va2 u3 how2 hga hata
        have hk13 : Keep u2 u3 := Same.append (Same.refl _ _) (World.ownsRow_nil _ u2.heap.size 51 7) hga (fun i hi => hi) (Nat.le_refl _)
        (try simp only [Nat.zero_add, List.nil_append] at how2)
        obtain ⟨A2, d2, hva, -, -⟩ := own_form how2
        subst hva
        have bt2 := betw_of how2
        clear hga hata
        have z3 := hk13.size
        have ha := Keep.trans hA hk13
        refine hK.out _ _ (SAB.both ha trivial) (fun hSS => ?_)
        clear hK K hA hB
        have hB := hSS.2
        have hA := hSS.1 (by kernel_rfl)
        (try dsimp only at hB); (try dsimp only at hA); clear hSS
        try simp only [Act.put, List.setIfInBounds_toArray, List.set_cons_zero, List.set_cons_succ]
        clear ha
        refine wpL_one (i := 8) (by kernel_rfl) (StepL.mk rfl (fun K hK => ?_))
        refine step_append_any _ (by rfl) (.const (.slice none 0 0)) (.tmp 22) _ (by rfl) u3.heap.size 43 i3 _ 4 32 Tryd.underlying24 HI3.out IZ3.out IS3.out IB3.out rfl (by omega) (.slice none 0 0) 0 [] (by rfl) (World.ownsRow_nil _ _ _ _) _ E3 en3 ec3 (s.sent.flatMap encSnd) (by rfl) (X3.out.keep (Same.mono hA (fun i hi => by have := hi.2; omega))).2.2.2 (one_of encSnd_one _) (by simp [maxLen]; omega) (by omega) (Nat.le_refl _) ?_
        intro va3 u4 how3 hga hata
        have hk14 : Keep u3 u4 := Same.append (Same.refl _ _) (World.ownsRow_nil _ u3.heap.size 43 4) hga (fun i hi => hi) (Nat.le_refl _)
        (try simp only [Nat.zero_add, List.nil_append] at how3)
        obtain ⟨A3, d3, hva, -, -⟩ := own_form how3
        subst hva
        have bt3 := betw_of how3
        clear hga hata
        have z4 := hk14.size
        have ha := Keep.trans hA hk14
        refine hK.out _ _ (SAB.both ha trivial) (fun hSS => ?_)
        clear hK K hA hB
        have hB := hSS.2
        have hA := hSS.1 (by kernel_rfl)
        (try dsimp only at hB); (try dsimp only at hA); clear hSS
        try simp only [Act.put, List.setIfInBounds_toArray, List.set_cons_zero, List.set_cons_succ]
        clear ha
        refine wpL_one (i := 11) (by kernel_rfl) (StepL.mk rfl (fun K hK => ?_))
        refine step_append_any _ (by rfl) (.const (.slice none 0 0)) (.tmp 25) _ (by rfl) u4.heap.size 45 i4 _ 2 16 Tryd.underlying25 HI4.out IZ4.out IS4.out IB4.out rfl (by omega) (.slice none 0 0) 0 [] (by rfl) (World.ownsRow_nil _ _ _ _) _ E4 en4 ec4 (s.outs.flatMap encOut) (by rfl) (X4.out.keep (Same.mono hA (fun i hi => by have := hi.2; omega))).2.2.2 (one_of encOut_one _) (by simp [maxLen]; omega) (by omega) (Nat.le_refl _) ?_
        intro va4 u5 how4 hga hata
        have hk15 : Keep u4 u5 := Same.append (Same.refl _ _) (World.ownsRow_nil _ u4.heap.size 45 2) hga (fun i hi => hi) (Nat.le_refl _)
        (try simp only [Nat.zero_add, List.nil_append] at how4)
        obtain ⟨A4, d4, hva, -, -⟩ := own_form how4
        subst hva
        have bt4 := betw_of how4
        clear hga hata
        have z5 := hk15.size
        have ha := Keep.trans hA hk15
        refine hK.out _ _ (SAB.both ha trivial) (fun hSS => ?_)
        clear hK K hA hB
        have hB := hSS.2
        have hA := hSS.1 (by kernel_rfl)
        (try dsimp only at hB); (try dsimp only at hA); clear hSS
        try simp only [Act.put, List.setIfInBounds_toArray, List.set_cons_zero, List.set_cons_succ]
        clear ha
        refine wpL_takeA (i := 12) rfl (by kernel_rfl) (by kernel_rfl) (by kernel_rfl) (by kernel_rfl) (by decide) (fun _ _ _ h => h) (yieldsIf_bld (by rfl) 27 _ rfl _ [(0, .slice A1 en1 d1), (1, .slice A2 en2 d2), (2, .slice A3 en3 d3), (3, .slice A4 en4 d4)] rfl (bld_st4 _ _ _ _ _ _ _ _ _ _ _ _)) hA hB ?_
        try simp only [Act.put, List.setIfInBounds_toArray, List.set_cons_zero, List.set_cons_succ]
        have kk5 : Keep u5 u5 := Same.refl _ _
        have kk4 : Keep u4 u5 := Keep.trans hk15 kk5
        have kk3 : Keep u3 u5 := Keep.trans hk14 kk4
        have kk2 : Keep u2 u5 := Keep.trans hk13 kk3
        have kk1 : Keep u1 u5 := Keep.trans hk12 kk2
        have b9 := kk2.blk hb13 y13
        have ow1 := ownsRow_less (ownsRow_same how1 kk1 (fun i hi => hi.2)) (show w4.heap.size ≤ _ by omega)
        have ow2 := ownsRow_less (ownsRow_same how2 kk3 (fun i hi => hi.2)) (show w4.heap.size ≤ _ by omega)
        have ow3 := ownsRow_less (ownsRow_same how3 kk4 (fun i hi => hi.2)) (show w4.heap.size ≤ _ by omega)
        have ow4 := ownsRow_less (ownsRow_same how4 kk5 (fun i hi => hi.2)) (show w4.heap.size ≤ _ by omega)
        have hds : Dist (u1.heap.size) A1 A2 A3 A4 := dist_of bt1 bt2 bt3 bt4 (by omega) (by omega) (by omega) (by omega) (by omega) (by omega) (by omega) (by omega) (by omega)
        refine wpL_one (i := 14) (by kernel_rfl) (StepL.mk rfl (fun K hK => ?_))
        refine step_store_blk rfl _ _ _ rfl (u1.heap.size) 0 27 _ [.slice A1 en1 d1, .slice A2 en2 d2, .slice A3 en3 d3, .slice A4 en4 d4] rfl rfl b9 (by simp) (by kernel_rfl) rfl ?_
        intro v5 hv5 hs5
        rw [splice_all [.slice A1 en1 d1, .slice A2 en2 d2, .slice A3 en3 d3, .slice A4 en4 d4] #[.slice none 0 0, .slice none 0 0, .slice none 0 0, .slice none 0 0] rfl] at hv5
        have hfin : SR4 w4 en1 en2 en3 en4 s (.pointer (some ⟨u1.heap.size, 0, none⟩)) v5 := ⟨_, A1, A2, A3, A4, d1, d2, d3, d4, rfl, by omega, ⟨hv5, own_far ow1 hs5 (fun q => ((hds _).1 q).1 rfl), own_far ow2 hs5 (fun q => ((hds _).2.1 q).1 rfl), own_far ow3 hs5 (fun q => ((hds _).2.2.1 q).1 rfl), own_far ow4 hs5 (fun q => ((hds _).2.2.2 q).1 rfl), hds⟩, Keep.write hA hs5 (by omega)⟩
        refine hK.out _ _ (SAB.past (by kernel_rfl) trivial) (fun hSS => ?_)
        clear hK K hA hB
        have hB := hSS.2
        have hA : True := trivial
        (try dsimp only at hB); (try dsimp only at hA); clear hSS
        try simp only [Act.put, List.setIfInBounds_toArray, List.set_cons_zero, List.set_cons_succ]
        refine wpL_done (by kernel_rfl) ?_
        have HFIN := Lib.hid hfin
        clear hfin
        clear hv5 hs5 hds ow1 ow2 ow3 ow4 b9 kk1 kk2 kk3 kk4 kk5 hb13 how1 how2 how3 how4 bt1 bt2 bt3 bt4 hA hB hk11 hk12 hk13 hk14 hk15
        go_wp2_with fail
        go_meet
        exact HFIN.out
    · go_simp
      generalize hq : u0.alloc (.cells #[.slice none 0 0, .slice none 0 0, .slice none 0 0, .slice none 0 0] 27) = u1
      have hb13 : Blk u1 u0.heap.size 27 #[.slice none 0 0, .slice none 0 0, .slice none 0 0, .slice none 0 0] := hq ▸ Blk.new _ _ _
      have hk11 : Keep u0 u1 := hq ▸ Keep.new _ _
      clear hq
      have y13 := hb13.lt
      have z1 := hk11.size
      have ha := Keep.trans hA hk11
      refine hK.out _ _ (SAB.both ha trivial) (fun hSS => ?_)
      clear hK K hA hB
      have hB := hSS.2
      have hA := hSS.1 (by kernel_rfl)
      (try dsimp only at hB); (try dsimp only at hA); clear hSS
      try simp only [Act.put, List.setIfInBounds_toArray, List.set_cons_zero, List.set_cons_succ]
      clear ha
      refine wpL_one (i := 2) (by kernel_rfl) (StepL.mk rfl (fun K hK => ?_))
      refine step_append_any _ (by rfl) (.const (.slice none 0 0)) (.tmp 16) _ (by rfl) u1.heap.size 3 i1 _ 1 8 Tryd.underlying22 HI1.out IZ1.out IS1.out IB1.out rfl (by omega) (.slice none 0 0) 0 [] (by rfl) (World.ownsRow_nil _ _ _ _) _ E1 en1 ec1 (s.cells.flatMap encI) (by rfl) (X1.out.keep (Same.mono hA (fun i hi => by have := hi.2; omega))).2.2.2 (one_of encI_one _) (by simp [maxLen]; omega) (by omega) (Nat.le_refl _) ?_
      intro va1 u2 how1 hga hata
      have hk12 : Keep u1 u2 := Same.append (Same.refl _ _) (World.ownsRow_nil _ u1.heap.size 3 1) hga (fun i hi => hi) (Nat.le_refl _)
      (try simp only [Nat.zero_add, List.nil_append] at how1)
      obtain ⟨A1, d1, hva, -, -⟩ := own_form how1
      subst hva
      have bt1 := betw_of how1
      clear hga hata
      have z2 := hk12.size
      have ha := Keep.trans hA hk12
      refine hK.out _ _ (SAB.both ha trivial) (fun hSS => ?_)
      clear hK K hA hB
      have hB := hSS.2
      have hA := hSS.1 (by kernel_rfl)
      (try dsimp only at hB); (try dsimp only at hA); clear hSS
      try simp only [Act.put, List.setIfInBounds_toArray, List.set_cons_zero, List.set_cons_succ]
      clear ha
      refine wpL_one (i := 5) (by kernel_rfl) (StepL.mk rfl (fun K hK => ?_))
      refine step_append_any _ (by rfl) (.const (.slice none 0 0)) (.tmp 19) _ (by rfl) u2.heap.size 51 i2 _ 7 56 Tryd.underlying23 HI2.out IZ2.out IS2.out IB2.out rfl (by omega) (.slice none 0 0) 0 [] (by rfl) (World.ownsRow_nil _ _ _ _) _ E2 en2 ec2 (s.events.flatMap encEv) (by rfl) (X2.out.keep (Same.mono hA (fun i hi => by have := hi.2; omega))).2.2.2 (one_of encEv_one _) (by simp [maxLen]; omega) (by omega) (Nat.le_refl _) ?_
      intro va2 u3 how2 hga hata
      have hk13 : Keep u2 u3 := Same.append (Same.refl _ _) (World.ownsRow_nil _ u2.heap.size 51 7) hga (fun i hi => hi) (Nat.le_refl _)
      (try simp only [Nat.zero_add, List.nil_append] at how2)
      obtain ⟨A2, d2, hva, -, -⟩ := own_form how2
      subst hva
      have bt2 := betw_of how2
      clear hga hata
      have z3 := hk13.size
      have ha := Keep.trans hA hk13
      refine hK.out _ _ (SAB.both ha trivial) (fun hSS => ?_)
      clear hK K hA hB
      have hB := hSS.2
      have hA := hSS.1 (by kernel_rfl)
      (try dsimp only at hB); (try dsimp only at hA); clear hSS
      try simp only [Act.put, List.setIfInBounds_toArray, List.set_cons_zero, List.set_cons_succ]
      clear ha
      refine wpL_one (i := 8) (by kernel_rfl) (StepL.mk rfl (fun K hK => ?_))
      refine step_append_any _ (by rfl) (.const (.slice none 0 0)) (.tmp 22) _ (by rfl) u3.heap.size 43 i3 _ 4 32 Tryd.underlying24 HI3.out IZ3.out IS3.out IB3.out rfl (by omega) (.slice none 0 0) 0 [] (by rfl) (World.ownsRow_nil _ _ _ _) _ E3 en3 ec3 (s.sent.flatMap encSnd) (by rfl) (X3.out.keep (Same.mono hA (fun i hi => by have := hi.2; omega))).2.2.2 (one_of encSnd_one _) (by simp [maxLen]; omega) (by omega) (Nat.le_refl _) ?_
      intro va3 u4 how3 hga hata
      have hk14 : Keep u3 u4 := Same.append (Same.refl _ _) (World.ownsRow_nil _ u3.heap.size 43 4) hga (fun i hi => hi) (Nat.le_refl _)
      (try simp only [Nat.zero_add, List.nil_append] at how3)
      obtain ⟨A3, d3, hva, -, -⟩ := own_form how3
      subst hva
      have bt3 := betw_of how3
      clear hga hata
      have z4 := hk14.size
      have ha := Keep.trans hA hk14
      refine hK.out _ _ (SAB.both ha trivial) (fun hSS => ?_)
      clear hK K hA hB
      have hB := hSS.2
      have hA := hSS.1 (by kernel_rfl)
      (try dsimp only at hB); (try dsimp only at hA); clear hSS
      try simp only [Act.put, List.setIfInBounds_toArray, List.set_cons_zero, List.set_cons_succ]
      clear ha
      refine wpL_one (i := 11) (by kernel_rfl) (StepL.mk rfl (fun K hK => ?_))
      refine step_append_any _ (by rfl) (.const (.slice none 0 0)) (.tmp 25) _ (by rfl) u4.heap.size 45 i4 _ 2 16 Tryd.underlying25 HI4.out IZ4.out IS4.out IB4.out rfl (by omega) (.slice none 0 0) 0 [] (by rfl) (World.ownsRow_nil _ _ _ _) _ E4 en4 ec4 (s.outs.flatMap encOut) (by rfl) (X4.out.keep (Same.mono hA (fun i hi => by have := hi.2; omega))).2.2.2 (one_of encOut_one _) (by simp [maxLen]; omega) (by omega) (Nat.le_refl _) ?_
      intro va4 u5 how4 hga hata
      have hk15 : Keep u4 u5 := Same.append (Same.refl _ _) (World.ownsRow_nil _ u4.heap.size 45 2) hga (fun i hi => hi) (Nat.le_refl _)
      (try simp only [Nat.zero_add, List.nil_append] at how4)
      obtain ⟨A4, d4, hva, -, -⟩ := own_form how4
      subst hva
      have bt4 := betw_of how4
      clear hga hata
      have z5 := hk15.size
      have ha := Keep.trans hA hk15
      refine hK.out _ _ (SAB.both ha trivial) (fun hSS => ?_)
      clear hK K hA hB
      have hB := hSS.2
      have hA := hSS.1 (by kernel_rfl)
      (try dsimp only at hB); (try dsimp only at hA); clear hSS
      try simp only [Act.put, List.setIfInBounds_toArray, List.set_cons_zero, List.set_cons_succ]
      clear ha
      refine wpL_takeA (i := 12) rfl (by kernel_rfl) (by kernel_rfl) (by kernel_rfl) (by kernel_rfl) (by decide) (fun _ _ _ h => h) (yieldsIf_bld (by rfl) 27 _ rfl _ [(0, .slice A1 en1 d1), (1, .slice A2 en2 d2), (2, .slice A3 en3 d3), (3, .slice A4 en4 d4)] rfl (bld_st4 _ _ _ _ _ _ _ _ _ _ _ _)) hA hB ?_
      try simp only [Act.put, List.setIfInBounds_toArray, List.set_cons_zero, List.set_cons_succ]
      have kk5 : Keep u5 u5 := Same.refl _ _
      have kk4 : Keep u4 u5 := Keep.trans hk15 kk5
      have kk3 : Keep u3 u5 := Keep.trans hk14 kk4
      have kk2 : Keep u2 u5 := Keep.trans hk13 kk3
      have kk1 : Keep u1 u5 := Keep.trans hk12 kk2
      have b9 := kk1.blk hb13 y13
      have ow1 := ownsRow_less (ownsRow_same how1 kk2 (fun i hi => hi.2)) (show w4.heap.size ≤ _ by omega)
      have ow2 := ownsRow_less (ownsRow_same how2 kk3 (fun i hi => hi.2)) (show w4.heap.size ≤ _ by omega)
      have ow3 := ownsRow_less (ownsRow_same how3 kk4 (fun i hi => hi.2)) (show w4.heap.size ≤ _ by omega)
      have ow4 := ownsRow_less (ownsRow_same how4 kk5 (fun i hi => hi.2)) (show w4.heap.size ≤ _ by omega)
      have hds : Dist (u0.heap.size) A1 A2 A3 A4 := dist_of bt1 bt2 bt3 bt4 (by omega) (by omega) (by omega) (by omega) (by omega) (by omega) (by omega) (by omega) (by omega)
      refine wpL_one (i := 14) (by kernel_rfl) (StepL.mk rfl (fun K hK => ?_))
      refine step_store_blk rfl _ _ _ rfl (u0.heap.size) 0 27 _ [.slice A1 en1 d1, .slice A2 en2 d2, .slice A3 en3 d3, .slice A4 en4 d4] rfl rfl b9 (by simp) (by kernel_rfl) rfl ?_
      intro v5 hv5 hs5
      rw [splice_all [.slice A1 en1 d1, .slice A2 en2 d2, .slice A3 en3 d3, .slice A4 en4 d4] #[.slice none 0 0, .slice none 0 0, .slice none 0 0, .slice none 0 0] rfl] at hv5
      have hfin : SR4 w4 en1 en2 en3 en4 s (.pointer (some ⟨u0.heap.size, 0, none⟩)) v5 := ⟨_, A1, A2, A3, A4, d1, d2, d3, d4, rfl, by omega, ⟨hv5, own_far ow1 hs5 (fun q => ((hds _).1 q).1 rfl), own_far ow2 hs5 (fun q => ((hds _).2.1 q).1 rfl), own_far ow3 hs5 (fun q => ((hds _).2.2.1 q).1 rfl), own_far ow4 hs5 (fun q => ((hds _).2.2.2 q).1 rfl), hds⟩, Keep.write hA hs5 (by omega)⟩
      refine hK.out _ _ (SAB.past (by kernel_rfl) trivial) (fun hSS => ?_)
      clear hK K hA hB
      have hB := hSS.2
      have hA : True := trivial
      (try dsimp only at hB); (try dsimp only at hA); clear hSS
      try simp only [Act.put, List.setIfInBounds_toArray, List.set_cons_zero, List.set_cons_succ]
      refine wpL_done (by kernel_rfl) ?_
      have HFIN := Lib.hid hfin
      clear hfin
      clear hv5 hs5 hds ow1 ow2 ow3 ow4 b9 kk1 kk2 kk3 kk4 kk5 hb13 how1 how2 how3 how4 bt1 bt2 bt3 bt4 hA hB hk11 hk12 hk13 hk14 hk15
      go_wp2_with fail
      go_meet
      exact HFIN.out
  case rest =>
    obtain ⟨h, A1, A2, A3, A4, d1, d2, d3, d4, rfl, hh, hown, sm⟩ := hcut
    have hzc := sm.size
    have bs := sm.blk HB4.out HB4.out.lt
    have bt := hown.1
    have hll := HLENS.out
    have rt := own4_st hown hll.1 hll.2.1 hll.2.2.1 hll.2.2.2
    have rs := HST4.out.keep (Same.mono sm (fun i hi => by have := hi.2; omega))
    have key := psame_any wc (fun i => i < wc.heap.size) [.slice E1 en1 ec1, .slice E2 en2 ec2, .slice E3 en3 ec3, .slice E4 en4 ec4] [.slice A1 en1 d1, .slice A2 en2 d2, .slice A3 en3 d3, .slice A4 en4 d4] s s (fun i hi => hi) (rs.more (fun i hi => by have := hi.2; omega)) (rt.more (fun i hi => hi.1)) HFS.out HFS.out
    have KEY := Lib.hid key
    have BS := Lib.hid bs
    have BT := Lib.hid bt
    have SM := Lib.hid sm
    have HOWN := Lib.hid hown
    clear key bs bt sm hown
    clear rt rs hll
    go_wp2_with (first
      | (refine wpList_load_all rfl _ (.tmp 7) rfl w3.heap.size 27 [.slice E1 en1 ec1, .slice E2 en2 ec2, .slice E3 en3 ec3, .slice E4 en4 ec4] _ rfl BS.out Tryd.underlying27 rfl (by kernel_rfl) ?_)
      | (refine wpList_load_all rfl _ (.tmp 8) rfl h 27 [.slice A1 en1 d1, .slice A2 en2 d2, .slice A3 en3 d3, .slice A4 en4 d4] _ rfl BT.out Tryd.underlying27 rfl (by kernel_rfl) ?_))
    refine KEY.out.mono ?_
    rintro e w5 ⟨b5, hb5, rfl, hk5⟩
    obtain rfl : b5 = true := hb5.2 (by simp)
    have hz5 := hk5.size
    have sm5 := Keep.trans SM.out hk5
    have hown5 : Own4 w4.heap.size w5 h A1 A2 A3 A4 en1 d1 en2 d2 en3 d3 en4 d4 s := by
      obtain ⟨q0, q1, q2, q3, q4, q5⟩ := HOWN.out
      exact ⟨hk5.blk q0 q0.lt, ownsRow_same q1 hk5 (fun i hi => hi.2), ownsRow_same q2 hk5 (fun i hi => hi.2), ownsRow_same q3 hk5 (fun i hi => hi.2), ownsRow_same q4 hk5 (fun i hi => hi.2), q5⟩
    have SM5 := Lib.hid sm5
    have HOWN5 := Lib.hid hown5
    clear sm5 hown5
    clear hb5 hk5 KEY HOWN BS BT SM
    go_upto_if 31 with fail
    go_cut [] from 28 to 31 (fun wx => w5 = wx)
    case first =>
      go_wp2_with fail
      go_meet
      rfl
    subst hcut
    rename_i hKK
    refine hKK _ _ (wp_seq_k (fun K2 hK2 => ?_))
    clear hKK
    go_cut [9] from 32 to 110 (fun _ wx => SS5 w4 h wx)
    case first =>
      obtain ⟨ob, o1, o2, o3, o4, hd⟩ := HOWN5.out
      have hqs : what % 6 = 0 ∨ what % 6 = 1 ∨ what % 6 = 2 ∨ what % 6 = 3 ∨ what % 6 = 4 ∨ what % 6 = 5 := by omega
      have OB := Lib.hid ob
      have O1 := Lib.hid o1
      have O2 := Lib.hid o2
      have O3 := Lib.hid o3
      have O4 := Lib.hid o4
      have HD := Lib.hid hd
      clear ob o1 o2 o3 o4 hd
      rcases hqs with hq | hq | hq | hq | hq | hq
      · have t0 : (what % 6 == 0) = true := by simp [hq]
        clear hq
        have c0 : w5.cell? ⟨h, 0, none⟩ = some (.slice A1 en1 d1) := by rw [OB.out.cell]; rfl
        by_cases hp : 0 < en1
        · have hp1 : decide (0 < en1) = true := by simpa using hp
          obtain ⟨g, cur, rfl, hbg, hbk, hcs, hnc, hcm, htk⟩ := own_open O1.out hp
          obtain ⟨ix, hix, hixl⟩ : ∃ ix : Nat, what % (en1 : Int) = ix ∧ ix < en1 := ⟨(what % (en1 : Int)).toNat, by have := Int.emod_nonneg what (show (en1 : Int) ≠ 0 by omega); omega, by have := Int.emod_lt_of_pos what (show (0 : Int) < en1 by omega); have := Int.emod_nonneg what (show (en1 : Int) ≠ 0 by omega); omega⟩
          go_upto_region 11 with fail
          have e0 : ∀ wx, Keep w5 wx → wx.cell? ⟨h, 0, none⟩ = some (.slice (some ⟨g, 0, none⟩) en1 d1) := fun wx hx => by rw [(hx.blk OB.out OB.out.lt).cell]; rfl
          have i0 : (0 : Int) ≤ ix := by omega
          have i1 : (ix : Int) < en1 := by omega
          have i2 : (1 : Int) ≤ en1 := by omega
          have i3 : ¬ en1 = 0 := by omega
          have i4 : what.tmod (en1 : Int) = ix := by rw [Int.tmod_eq_emod_of_nonneg hs0]; exact hix
          clear hix
          have HBK := Lib.hid hbk
          have HTK := Lib.hid htk
          clear hbk htk
          clear c0
          refine wp_region_L 9 (fun wx => Keep w5 wx) (fun _ => True) (by kernel_rfl) (Same.drew (Same.refl _ _)) trivial (fun hA hB => ?_)
          generalize hu0 : w5.drew = u0 at hA ⊢
          clear hu0
          refine wpL_takeA (i := 0) (v := ?_) rfl (by kernel_rfl) (by kernel_rfl) (by kernel_rfl) (by kernel_rfl) (by decide) (fun _ _ _ h => h) (Or.inl ⟨by rfl, ?_⟩) hA hB ?_
          rotate_left
          · rintro wx ⟨hAx, hBx⟩
            (try dsimp only at hBx); (try dsimp only at hAx)
            go_simp
            try with_reducible rfl
          try simp only [Act.put, List.setIfInBounds_toArray, List.set_cons_zero, List.set_cons_succ]
          refine wpL_takeA (i := 1) (v := ?_) rfl (by kernel_rfl) (by kernel_rfl) (by kernel_rfl) (by kernel_rfl) (by decide) (fun _ _ _ h => h) (Or.inl ⟨by rfl, ?_⟩) hA hB ?_
          rotate_left
          · rintro wx ⟨hAx, hBx⟩
            (try dsimp only at hBx); (try dsimp only at hAx)
            go_simp
            try with_reducible rfl
          try simp only [Act.put, List.setIfInBounds_toArray, List.set_cons_zero, List.set_cons_succ]
          refine wpL_takeA (i := 2) (v := ?_) rfl (by kernel_rfl) (by kernel_rfl) (by kernel_rfl) (by kernel_rfl) (by decide) (fun _ _ _ h => h) (Or.inl ⟨by rfl, ?_⟩) hA hB ?_
          rotate_left
          · rintro wx ⟨hAx, hBx⟩
            (try dsimp only at hBx); (try dsimp only at hAx)
            go_simp
            try with_reducible rfl
          try simp only [Act.put, List.setIfInBounds_toArray, List.set_cons_zero, List.set_cons_succ]
          refine wpL_takeA (i := 3) (v := ?_) rfl (by kernel_rfl) (by kernel_rfl) (by kernel_rfl) (by kernel_rfl) (by decide) (fun _ _ _ h => h) (Or.inl ⟨by rfl, ?_⟩) hA hB ?_
          rotate_left
          · rintro wx ⟨hAx, hBx⟩
            (try dsimp only at hBx); (try dsimp only at hAx)
            go_simp
            try with_reducible rfl
          try simp only [Act.put, List.setIfInBounds_toArray, List.set_cons_zero, List.set_cons_succ]
          refine wpL_takeA (i := 4) (v := ?_) rfl (by kernel_rfl) (by kernel_rfl) (by kernel_rfl) (by kernel_rfl) (by decide) (fun _ _ _ h => h) (Or.inl ⟨by rfl, ?_⟩) hA hB ?_
          rotate_left
          · rintro wx ⟨hAx, hBx⟩
            (try dsimp only at hBx); (try dsimp only at hAx)
            go_simp
            try with_reducible rfl
          try simp only [Act.put, List.setIfInBounds_toArray, List.set_cons_zero, List.set_cons_succ]
          refine wpL_takeA (i := 5) (v := ?_) rfl (by kernel_rfl) (by kernel_rfl) (by kernel_rfl) (by kernel_rfl) (by decide) (fun _ _ _ h => h) (Or.inl ⟨by rfl, ?_⟩) hA hB ?_
          rotate_left
          · rintro wx ⟨hAx, hBx⟩
            (try dsimp only at hBx); (try dsimp only at hAx)
            go_simp
            try with_reducible rfl
          try simp only [Act.put, List.setIfInBounds_toArray, List.set_cons_zero, List.set_cons_succ]
          refine wpL_takeA (i := 6) (v := ?_) rfl (by kernel_rfl) (by kernel_rfl) (by kernel_rfl) (by kernel_rfl) (by decide) (fun _ _ _ h => h) (Or.inl ⟨by rfl, ?_⟩) hA hB ?_
          rotate_left
          · rintro wx ⟨hAx, hBx⟩
            (try dsimp only at hBx); (try dsimp only at hAx)
            go_simp
            try with_reducible rfl
          try simp only [Act.put, List.setIfInBounds_toArray, List.set_cons_zero, List.set_cons_succ]
          refine wpL_takeA (i := 7) (v := ?_) rfl (by kernel_rfl) (by kernel_rfl) (by kernel_rfl) (by kernel_rfl) (by decide) (fun _ _ _ h => h) (Or.inl ⟨by rfl, ?_⟩) hA hB ?_
          rotate_left
          · rintro wx ⟨hAx, hBx⟩
            (try dsimp only at hBx); (try dsimp only at hAx)
            go_simp
            try with_reducible rfl
          try simp only [Act.put, List.setIfInBounds_toArray, List.set_cons_zero, List.set_cons_succ]
          refine wpL_takeA (i := 8) (v := ?_) rfl (by kernel_rfl) (by kernel_rfl) (by kernel_rfl) (by kernel_rfl) (by decide) (fun _ _ _ h => h) (Or.inl ⟨by rfl, ?_⟩) hA hB ?_
          rotate_left
          · rintro wx ⟨hAx, hBx⟩
            (try dsimp only at hBx); (try dsimp only at hAx)
            go_simp
            try with_reducible rfl
          try simp only [Act.put, List.setIfInBounds_toArray, List.set_cons_zero, List.set_cons_succ]
          clear e0
          refine wpL_one (i := 9) (by kernel_rfl) (StepL.mk rfl (fun K hK => ?_))
          refine step_store_one rfl _ _ _ rfl g (ix) 3 cur (.int .i64 byv) rfl rfl (hA.blk HBK.out HBK.out.lt) (by have := HBK.out.lt; omega) (by kernel_rfl) rfl rfl ?_
          intro v hv hs
          have hlx : ix < s.cells.length := by have := HLENS.out; omega
          have hrow : v.ownsRow w4.heap.size 3 1 (.slice (some ⟨g, 0, none⟩) en1 d1) en1 ((s.cells.set ix byv).flatMap encI) := row_put (k := ix) (o := 0) encI_len hbg (by simpa using hv) hcs hnc hcm HTK.out (by have := HLENS.out; omega) (List.getElem?_eq_getElem hlx) (by omega) rfl
          have dd := (HD.out _).1 rfl
          have hbt : Blk v h 27 _ := hs.blk (hA.blk OB.out OB.out.lt) (fun q => dd.1 q.symm)
          have hfin : SS5 w4 h v := ⟨_, { s with cells := s.cells.set ix byv }, hbt, own4_st (B := w4.heap.size) ⟨hbt, hrow, own_far (ownsRow_same O2.out hA (fun i hi => hi.2)) hs (dd.2.1), own_far (ownsRow_same O3.out hA (fun i hi => hi.2)) hs (dd.2.2.1), own_far (ownsRow_same O4.out hA (fun i hi => hi.2)) hs (dd.2.2.2), HD.out⟩ (by simpa using HLENS.out.1) (by simpa using HLENS.out.2.1) (by simpa using HLENS.out.2.2.1) (by simpa using HLENS.out.2.2.2), ⟨by simpa using HFS.out.1, by simpa using HFS.out.2.1, by simpa using HFS.out.2.2.1, by simpa using HFS.out.2.2.2⟩, Keep.write (Keep.trans SM5.out hA) hs hbg⟩
          refine hK.out _ _ (SAB.past (by kernel_rfl) trivial) (fun hSS => ?_)
          clear hK K hA hB
          have hB := hSS.2
          have hA : True := trivial
          (try dsimp only at hB); (try dsimp only at hA); clear hSS
          try simp only [Act.put, List.setIfInBounds_toArray, List.set_cons_zero, List.set_cons_succ]
          refine wpL_done (by kernel_rfl) ?_
          have HFIN := Lib.hid hfin
          clear hfin
          clear hv hs hrow dd hbt hA hB
          go_wp2_with fail
          go_meet
          exact HFIN.out
        · have hp1 : decide (0 < en1) = false := by simpa using hp
          have hfin : SS5 w4 h w5 := ⟨_, s, OB.out, own4_st HOWN5.out HLENS.out.1 HLENS.out.2.1 HLENS.out.2.2.1 HLENS.out.2.2.2, HFS.out, SM5.out⟩
          have HFIN := Lib.hid hfin
          clear hfin
          go_wp2_with fail
          go_meet
          exact HFIN.out
      · have t0 : (what % 6 == 0) = false := by simp [hq]
        have t1 : (what % 6 == 1) = true := by simp [hq]
        clear hq
        have c0 : w5.cell? ⟨h, 1, none⟩ = some (.slice A2 en2 d2) := by rw [OB.out.cell]; rfl
        by_cases hp : 0 < en2
        · have hp1 : decide (0 < en2) = true := by simpa using hp
          obtain ⟨g, cur, rfl, hbg, hbk, hcs, hnc, hcm, htk⟩ := own_open O2.out hp
          obtain ⟨ix, hix, hixl⟩ : ∃ ix : Nat, what % (en2 : Int) = ix ∧ ix < en2 := ⟨(what % (en2 : Int)).toNat, by have := Int.emod_nonneg what (show (en2 : Int) ≠ 0 by omega); omega, by have := Int.emod_lt_of_pos what (show (0 : Int) < en2 by omega); have := Int.emod_nonneg what (show (en2 : Int) ≠ 0 by omega); omega⟩
          go_upto_region 14 with fail
          have e0 : ∀ wx, Keep w5 wx → wx.cell? ⟨h, 1, none⟩ = some (.slice (some ⟨g, 0, none⟩) en2 d2) := fun wx hx => by rw [(hx.blk OB.out OB.out.lt).cell]; rfl
          have i0 : (0 : Int) ≤ ix := by omega
          have i1 : (ix : Int) < en2 := by omega
          have i2 : (1 : Int) ≤ en2 := by omega
          have i3 : ¬ en2 = 0 := by omega
          have i4 : what.tmod (en2 : Int) = ix := by rw [Int.tmod_eq_emod_of_nonneg hs0]; exact hix
          clear hix
          have HBK := Lib.hid hbk
          have HTK := Lib.hid htk
          clear hbk htk
          clear c0
          refine wp_region_L 10 (fun wx => Keep w5 wx) (fun _ => True) (by kernel_rfl) (Same.drew (Same.refl _ _)) trivial (fun hA hB => ?_)
          generalize hu0 : w5.drew = u0 at hA ⊢
          clear hu0
          refine wpL_takeA (i := 0) (v := ?_) rfl (by kernel_rfl) (by kernel_rfl) (by kernel_rfl) (by kernel_rfl) (by decide) (fun _ _ _ h => h) (Or.inl ⟨by rfl, ?_⟩) hA hB ?_
          rotate_left
          · rintro wx ⟨hAx, hBx⟩
            (try dsimp only at hBx); (try dsimp only at hAx)
            go_simp
            try with_reducible rfl
          try simp only [Act.put, List.setIfInBounds_toArray, List.set_cons_zero, List.set_cons_succ]
          refine wpL_takeA (i := 1) (v := ?_) rfl (by kernel_rfl) (by kernel_rfl) (by kernel_rfl) (by kernel_rfl) (by decide) (fun _ _ _ h => h) (Or.inl ⟨by rfl, ?_⟩) hA hB ?_
          rotate_left
          · rintro wx ⟨hAx, hBx⟩
            (try dsimp only at hBx); (try dsimp only at hAx)
            go_simp
            try with_reducible rfl
          try simp only [Act.put, List.setIfInBounds_toArray, List.set_cons_zero, List.set_cons_succ]
          refine wpL_takeA (i := 2) (v := ?_) rfl (by kernel_rfl) (by kernel_rfl) (by kernel_rfl) (by kernel_rfl) (by decide) (fun _ _ _ h => h) (Or.inl ⟨by rfl, ?_⟩) hA hB ?_
          rotate_left
          · rintro wx ⟨hAx, hBx⟩
            (try dsimp only at hBx); (try dsimp only at hAx)
            go_simp
            try with_reducible rfl
          try simp only [Act.put, List.setIfInBounds_toArray, List.set_cons_zero, List.set_cons_succ]
          refine wpL_takeA (i := 3) (v := ?_) rfl (by kernel_rfl) (by kernel_rfl) (by kernel_rfl) (by kernel_rfl) (by decide) (fun _ _ _ h => h) (Or.inl ⟨by rfl, ?_⟩) hA hB ?_
          rotate_left
          · rintro wx ⟨hAx, hBx⟩
            (try dsimp only at hBx); (try dsimp only at hAx)
            go_simp
            try with_reducible rfl
          try simp only [Act.put, List.setIfInBounds_toArray, List.set_cons_zero, List.set_cons_succ]
          refine wpL_takeA (i := 4) (v := ?_) rfl (by kernel_rfl) (by kernel_rfl) (by kernel_rfl) (by kernel_rfl) (by decide) (fun _ _ _ h => h) (Or.inl ⟨by rfl, ?_⟩) hA hB ?_
          rotate_left
          · rintro wx ⟨hAx, hBx⟩
            (try dsimp only at hBx); (try dsimp only at hAx)
            go_simp
            try with_reducible rfl
          try simp only [Act.put, List.setIfInBounds_toArray, List.set_cons_zero, List.set_cons_succ]
          refine wpL_takeA (i := 5) (v := ?_) rfl (by kernel_rfl) (by kernel_rfl) (by kernel_rfl) (by kernel_rfl) (by decide) (fun _ _ _ h => h) (Or.inl ⟨by rfl, ?_⟩) hA hB ?_
          rotate_left
          · rintro wx ⟨hAx, hBx⟩
            (try dsimp only at hBx); (try dsimp only at hAx)
            go_simp
            try with_reducible rfl
          try simp only [Act.put, List.setIfInBounds_toArray, List.set_cons_zero, List.set_cons_succ]
          refine wpL_takeA (i := 6) (v := ?_) rfl (by kernel_rfl) (by kernel_rfl) (by kernel_rfl) (by kernel_rfl) (by decide) (fun _ _ _ h => h) (Or.inl ⟨by rfl, ?_⟩) hA hB ?_
          rotate_left
          · rintro wx ⟨hAx, hBx⟩
            (try dsimp only at hBx); (try dsimp only at hAx)
            go_simp
            try with_reducible rfl
          try simp only [Act.put, List.setIfInBounds_toArray, List.set_cons_zero, List.set_cons_succ]
          refine wpL_takeA (i := 7) (v := ?_) rfl (by kernel_rfl) (by kernel_rfl) (by kernel_rfl) (by kernel_rfl) (by decide) (fun _ _ _ h => h) (Or.inl ⟨by rfl, ?_⟩) hA hB ?_
          rotate_left
          · rintro wx ⟨hAx, hBx⟩
            (try dsimp only at hBx); (try dsimp only at hAx)
            go_simp
            try with_reducible rfl
          try simp only [Act.put, List.setIfInBounds_toArray, List.set_cons_zero, List.set_cons_succ]
          refine wpL_takeB (i := 8) (v := ?_) rfl (by kernel_rfl) (by kernel_rfl) (by kernel_rfl) (by decide) (fun _ _ _ h => h) (Or.inl ⟨by rfl, ?_⟩) (SAB.both hA hB) ?_
          rotate_left
          · intro wx hBx
            (try dsimp only at hBx)
            go_simp
            try with_reducible rfl
          try simp only [Act.put, List.setIfInBounds_toArray, List.set_cons_zero, List.set_cons_succ]
          refine wpL_takeA (i := 9) (v := ?_) rfl (by kernel_rfl) (by kernel_rfl) (by kernel_rfl) (by kernel_rfl) (by decide) (fun _ _ _ h => h) (Or.inl ⟨by rfl, ?_⟩) hA hB ?_
          rotate_left
          · rintro wx ⟨hAx, hBx⟩
            (try dsimp only at hBx); (try dsimp only at hAx)
            go_simp
            try with_reducible rfl
          try simp only [Act.put, List.setIfInBounds_toArray, List.set_cons_zero, List.set_cons_succ]
          clear e0
          refine wpL_one (i := 10) (by kernel_rfl) (StepL.mk rfl (fun K hK => ?_))
          refine step_store_one rfl _ _ _ rfl g (ix * 7 + 1) 51 cur (.int .i64 byv) rfl rfl (hA.blk HBK.out HBK.out.lt) (by have := HBK.out.lt; omega) (by kernel_rfl) rfl rfl ?_
          intro v hv hs
          have hlx : ix < s.events.length := by have := HLENS.out; omega
          have hrow : v.ownsRow w4.heap.size 51 7 (.slice (some ⟨g, 0, none⟩) en2 d2) en2 ((s.events.set ix { s.events[ix] with inc := byv }).flatMap encEv) := row_put (k := ix) (o := 1) encEv_len hbg (by simpa using hv) hcs hnc hcm HTK.out (by have := HLENS.out; omega) (List.getElem?_eq_getElem hlx) (by omega) rfl
          have dd := (HD.out _).2.1 rfl
          have hbt : Blk v h 27 _ := hs.blk (hA.blk OB.out OB.out.lt) (fun q => dd.1 q.symm)
          have hfin : SS5 w4 h v := ⟨_, { s with events := s.events.set ix { s.events[ix] with inc := byv } }, hbt, own4_st (B := w4.heap.size) ⟨hbt, own_far (ownsRow_same O1.out hA (fun i hi => hi.2)) hs (dd.2.1), hrow, own_far (ownsRow_same O3.out hA (fun i hi => hi.2)) hs (dd.2.2.1), own_far (ownsRow_same O4.out hA (fun i hi => hi.2)) hs (dd.2.2.2), HD.out⟩ (by simpa using HLENS.out.1) (by simpa using HLENS.out.2.1) (by simpa using HLENS.out.2.2.1) (by simpa using HLENS.out.2.2.2), ⟨by simpa using HFS.out.1, by simpa using HFS.out.2.1, by simpa using HFS.out.2.2.1, by simpa using HFS.out.2.2.2⟩, Keep.write (Keep.trans SM5.out hA) hs hbg⟩
          refine hK.out _ _ (SAB.past (by kernel_rfl) trivial) (fun hSS => ?_)
          clear hK K hA hB
          have hB := hSS.2
          have hA : True := trivial
          (try dsimp only at hB); (try dsimp only at hA); clear hSS
          try simp only [Act.put, List.setIfInBounds_toArray, List.set_cons_zero, List.set_cons_succ]
          refine wpL_done (by kernel_rfl) ?_
          have HFIN := Lib.hid hfin
          clear hfin
          clear hv hs hrow dd hbt hA hB
          go_wp2_with fail
          go_meet
          exact HFIN.out
        · have hp1 : decide (0 < en2) = false := by simpa using hp
          have hfin : SS5 w4 h w5 := ⟨_, s, OB.out, own4_st HOWN5.out HLENS.out.1 HLENS.out.2.1 HLENS.out.2.2.1 HLENS.out.2.2.2, HFS.out, SM5.out⟩
          have HFIN := Lib.hid hfin
          clear hfin
          go_wp2_with fail
          go_meet
          exact HFIN.out
      · have t0 : (what % 6 == 0) = false := by simp [hq]
        have t1 : (what % 6 == 1) = false := by simp [hq]
        have t2 : (what % 6 == 2) = true := by simp [hq]
        clear hq
        have c0 : w5.cell? ⟨h, 2, none⟩ = some (.slice A3 en3 d3) := by rw [OB.out.cell]; rfl
        by_cases hp : 0 < en3
        · have hp1 : decide (0 < en3) = true := by simpa using hp
          obtain ⟨g, cur, rfl, hbg, hbk, hcs, hnc, hcm, htk⟩ := own_open O3.out hp
          obtain ⟨ix, hix, hixl⟩ : ∃ ix : Nat, what % (en3 : Int) = ix ∧ ix < en3 := ⟨(what % (en3 : Int)).toNat, by have := Int.emod_nonneg what (show (en3 : Int) ≠ 0 by omega); omega, by have := Int.emod_lt_of_pos what (show (0 : Int) < en3 by omega); have := Int.emod_nonneg what (show (en3 : Int) ≠ 0 by omega); omega⟩
          go_upto_region 17 with fail
          have e0 : ∀ wx, Keep w5 wx → wx.cell? ⟨h, 2, none⟩ = some (.slice (some ⟨g, 0, none⟩) en3 d3) := fun wx hx => by rw [(hx.blk OB.out OB.out.lt).cell]; rfl
          have i0 : (0 : Int) ≤ ix := by omega
          have i1 : (ix : Int) < en3 := by omega
          have i2 : (1 : Int) ≤ en3 := by omega
          have i3 : ¬ en3 = 0 := by omega
          have i4 : what.tmod (en3 : Int) = ix := by rw [Int.tmod_eq_emod_of_nonneg hs0]; exact hix
          clear hix
          have HBK := Lib.hid hbk
          have HTK := Lib.hid htk
          clear hbk htk
          clear c0
          refine wp_region_L 10 (fun wx => Keep w5 wx) (fun _ => True) (by kernel_rfl) (Same.drew (Same.refl _ _)) trivial (fun hA hB => ?_)
          generalize hu0 : w5.drew = u0 at hA ⊢
          clear hu0
          refine wpL_takeA (i := 0) (v := ?_) rfl (by kernel_rfl) (by kernel_rfl) (by kernel_rfl) (by kernel_rfl) (by decide) (fun _ _ _ h => h) (Or.inl ⟨by rfl, ?_⟩) hA hB ?_
          rotate_left
          · rintro wx ⟨hAx, hBx⟩
            (try dsimp only at hBx); (try dsimp only at hAx)
            go_simp
            try with_reducible rfl
          try simp only [Act.put, List.setIfInBounds_toArray, List.set_cons_zero, List.set_cons_succ]
          refine wpL_takeA (i := 1) (v := ?_) rfl (by kernel_rfl) (by kernel_rfl) (by kernel_rfl) (by kernel_rfl) (by decide) (fun _ _ _ h => h) (Or.inl ⟨by rfl, ?_⟩) hA hB ?_
          rotate_left
          · rintro wx ⟨hAx, hBx⟩
            (try dsimp only at hBx); (try dsimp only at hAx)
            go_simp
            try with_reducible rfl
          try simp only [Act.put, List.setIfInBounds_toArray, List.set_cons_zero, List.set_cons_succ]
          refine wpL_takeA (i := 2) (v := ?_) rfl (by kernel_rfl) (by kernel_rfl) (by kernel_rfl) (by kernel_rfl) (by decide) (fun _ _ _ h => h) (Or.inl ⟨by rfl, ?_⟩) hA hB ?_
          rotate_left
          · rintro wx ⟨hAx, hBx⟩
            (try dsimp only at hBx); (try dsimp only at hAx)
            go_simp
            try with_reducible rfl
          try simp only [Act.put, List.setIfInBounds_toArray, List.set_cons_zero, List.set_cons_succ]
          refine wpL_takeA (i := 3) (v := ?_) rfl (by kernel_rfl) (by kernel_rfl) (by kernel_rfl) (by kernel_rfl) (by decide) (fun _ _ _ h => h) (Or.inl ⟨by rfl, ?_⟩) hA hB ?_
          rotate_left
          · rintro wx ⟨hAx, hBx⟩
            (try dsimp only at hBx); (try dsimp only at hAx)
            go_simp
            try with_reducible rfl
          try simp only [Act.put, List.setIfInBounds_toArray, List.set_cons_zero, List.set_cons_succ]
          refine wpL_takeA (i := 4) (v := ?_) rfl (by kernel_rfl) (by kernel_rfl) (by kernel_rfl) (by kernel_rfl) (by decide) (fun _ _ _ h => h) (Or.inl ⟨by rfl, ?_⟩) hA hB ?_
          rotate_left
          · rintro wx ⟨hAx, hBx⟩
            (try dsimp only at hBx); (try dsimp only at hAx)
            go_simp
            try with_reducible rfl
          try simp only [Act.put, List.setIfInBounds_toArray, List.set_cons_zero, List.set_cons_succ]
          refine wpL_takeA (i := 5) (v := ?_) rfl (by kernel_rfl) (by kernel_rfl) (by kernel_rfl) (by kernel_rfl) (by decide) (fun _ _ _ h => h) (Or.inl ⟨by rfl, ?_⟩) hA hB ?_
          rotate_left
          · rintro wx ⟨hAx, hBx⟩
            (try dsimp only at hBx); (try dsimp only at hAx)
            go_simp
            try with_reducible rfl
          try simp only [Act.put, List.setIfInBounds_toArray, List.set_cons_zero, List.set_cons_succ]
          refine wpL_takeA (i := 6) (v := ?_) rfl (by kernel_rfl) (by kernel_rfl) (by kernel_rfl) (by kernel_rfl) (by decide) (fun _ _ _ h => h) (Or.inl ⟨by rfl, ?_⟩) hA hB ?_
          rotate_left
          · rintro wx ⟨hAx, hBx⟩
            (try dsimp only at hBx); (try dsimp only at hAx)
            go_simp
            try with_reducible rfl
          try simp only [Act.put, List.setIfInBounds_toArray, List.set_cons_zero, List.set_cons_succ]
          refine wpL_takeA (i := 7) (v := ?_) rfl (by kernel_rfl) (by kernel_rfl) (by kernel_rfl) (by kernel_rfl) (by decide) (fun _ _ _ h => h) (Or.inl ⟨by rfl, ?_⟩) hA hB ?_
          rotate_left
          · rintro wx ⟨hAx, hBx⟩
            (try dsimp only at hBx); (try dsimp only at hAx)
            go_simp
            try with_reducible rfl
          try simp only [Act.put, List.setIfInBounds_toArray, List.set_cons_zero, List.set_cons_succ]
          refine wpL_takeB (i := 8) (v := ?_) rfl (by kernel_rfl) (by kernel_rfl) (by kernel_rfl) (by decide) (fun _ _ _ h => h) (Or.inl ⟨by rfl, ?_⟩) (SAB.both hA hB) ?_
          rotate_left
          · intro wx hBx
            (try dsimp only at hBx)
            go_simp
            try with_reducible rfl
          try simp only [Act.put, List.setIfInBounds_toArray, List.set_cons_zero, List.set_cons_succ]
          refine wpL_takeA (i := 9) (v := ?_) rfl (by kernel_rfl) (by kernel_rfl) (by kernel_rfl) (by kernel_rfl) (by decide) (fun _ _ _ h => h) (Or.inl ⟨by rfl, ?_⟩) hA hB ?_
          rotate_left
          · rintro wx ⟨hAx, hBx⟩
            (try dsimp only at hBx); (try dsimp only at hAx)
            go_simp
            try with_reducible rfl
          try simp only [Act.put, List.setIfInBounds_toArray, List.set_cons_zero, List.set_cons_succ]
          clear e0
          refine wpL_one (i := 10) (by kernel_rfl) (StepL.mk rfl (fun K hK => ?_))
          refine step_store_one rfl _ _ _ rfl g (ix * 4 + 3) 43 cur (.int .i64 byv) rfl rfl (hA.blk HBK.out HBK.out.lt) (by have := HBK.out.lt; omega) (by kernel_rfl) rfl rfl ?_
          intro v hv hs
          have hlx : ix < s.sent.length := by have := HLENS.out; omega
          have hrow : v.ownsRow w4.heap.size 43 4 (.slice (some ⟨g, 0, none⟩) en3 d3) en3 ((s.sent.set ix { s.sent[ix] with val := byv }).flatMap encSnd) := row_put (k := ix) (o := 3) encSnd_len hbg (by simpa using hv) hcs hnc hcm HTK.out (by have := HLENS.out; omega) (List.getElem?_eq_getElem hlx) (by omega) rfl
          have dd := (HD.out _).2.2.1 rfl
          have hbt : Blk v h 27 _ := hs.blk (hA.blk OB.out OB.out.lt) (fun q => dd.1 q.symm)
          have hfin : SS5 w4 h v := ⟨_, { s with sent := s.sent.set ix { s.sent[ix] with val := byv } }, hbt, own4_st (B := w4.heap.size) ⟨hbt, own_far (ownsRow_same O1.out hA (fun i hi => hi.2)) hs (dd.2.1), own_far (ownsRow_same O2.out hA (fun i hi => hi.2)) hs (dd.2.2.1), hrow, own_far (ownsRow_same O4.out hA (fun i hi => hi.2)) hs (dd.2.2.2), HD.out⟩ (by simpa using HLENS.out.1) (by simpa using HLENS.out.2.1) (by simpa using HLENS.out.2.2.1) (by simpa using HLENS.out.2.2.2), ⟨by simpa using HFS.out.1, by simpa using HFS.out.2.1, by simpa using HFS.out.2.2.1, by simpa using HFS.out.2.2.2⟩, Keep.write (Keep.trans SM5.out hA) hs hbg⟩
          refine hK.out _ _ (SAB.past (by kernel_rfl) trivial) (fun hSS => ?_)
          clear hK K hA hB
          have hB := hSS.2
          have hA : True := trivial
          (try dsimp only at hB); (try dsimp only at hA); clear hSS
          try simp only [Act.put, List.setIfInBounds_toArray, List.set_cons_zero, List.set_cons_succ]
          refine wpL_done (by kernel_rfl) ?_
          have HFIN := Lib.hid hfin
          clear hfin
          clear hv hs hrow dd hbt hA hB
          go_wp2_with fail
          go_meet
          exact HFIN.out
        · have hp1 : decide (0 < en3) = false := by simpa using hp
          have hfin : SS5 w4 h w5 := ⟨_, s, OB.out, own4_st HOWN5.out HLENS.out.1 HLENS.out.2.1 HLENS.out.2.2.1 HLENS.out.2.2.2, HFS.out, SM5.out⟩
          have HFIN := Lib.hid hfin
          clear hfin
          go_wp2_with fail
          go_meet
          exact HFIN.out
      · have t0 : (what % 6 == 0) = false := by simp [hq]
        have t1 : (what % 6 == 1) = false := by simp [hq]
        have t2 : (what % 6 == 2) = false := by simp [hq]
        have t3 : (what % 6 == 3) = true := by simp [hq]
        clear hq
        have c0 : w5.cell? ⟨h, 3, none⟩ = some (.slice A4 en4 d4) := by rw [OB.out.cell]; rfl
        obtain ⟨i4, hi4, iz4, is4, ib4⟩ := info_of info_Output
        have hne : blkOf A4 ≠ some h := fun q => ((HD.out h).2.2.2 q).1 rfl
        have HI4 := Lib.hid hi4
        have IZ4 := Lib.hid iz4
        have IS4 := Lib.hid is4
        have IB4 := Lib.hid ib4
        have HNE := Lib.hid hne
        clear hi4 iz4 is4 ib4 hne
        go_wp2_with (first
          | (refine wpList_bld rfl 45 _ rfl _ [(1, .int .i64 byv)] rfl (bld_out1 _) ?_)
          | (refine wpList_buildS rfl 25 45 1 _ rfl Tryd.underlying25 _ [(0, .agg #[.int .i64 0, .int .i64 byv])] rfl (builtS_out1 _) ?_)
          | (refine wpList_append_any _ rfl (.tmp 86) (.tmp 89) 25 rfl w4.heap.size 45 i4 _ 2 16 Tryd.underlying25 HI4.out IZ4.out IS4.out IB4.out rfl (by omega) (.slice A4 en4 d4) en4 (s.outs.flatMap encOut) rfl (ownsRow_same O4.out (Keep.new _ _) (fun i hi => hi.2)) (fun i => i = w5.heap.size) (some ⟨w5.heap.size, 0, none⟩) 1 1 (encOut (⟨0, byv⟩ : Outp)) rfl (Reads.new rfl) (encOut_one _) (by simp [maxLen]; omega) (by omega) (Nat.le_trans SM5.out.size (Keep.new _ _).size) ?_
             intro vz wz howz hgz hatz
             obtain ⟨Az, cz, hvz, -, -⟩ := own_form howz
             subst hvz
             have hgs : Same (fun i => i < w5.heap.size ∧ blkOf A4 ≠ some i) w5 wz := Same.grown ((Keep.new w5 _).mono (fun i hi => hi.1)) hgz (fun i hi => by have := hi.1; simp; omega) (fun k hk hS => hS.2 (by rw [← own_blk]; exact hk))
             have hnz : blkOf Az ≠ some h := fun q => by
               rw [own_blk, own_blk] at hatz
               rcases hatz with h1 | h1
               · exact HNE.out (h1 ▸ q)
               · rw [q] at h1
                 have hlt := OB.out.lt
                 simp at h1
                 omega
             have hbz : Blk wz h 27 _ := hgs.blk OB.out ⟨OB.out.lt, HNE.out⟩
             clear hgz hatz)
          | (refine wpList_store_one rfl _ (.tmp 91) (.tmp 90) rfl h 3 27 _ (.slice Az (en4 + 1) cz) rfl rfl hbz (by simp) (by kernel_rfl) rfl rfl ?_; intro w9 hb9 hs9))
        have hx : (s.outs ++ [(⟨0, byv⟩ : Outp)]).flatMap encOut = s.outs.flatMap encOut ++ encOut (⟨0, byv⟩ : Outp) := by simp
        rw [← hx] at howz
        have r1 := own_far (ownsRow_own O1.out hgs (fun b hb => ⟨(O1.out.lt b hb).2, ((HD.out b).1 (by rw [← own_blk]; exact hb)).2.2.2⟩)) hs9 (fun q => ((HD.out h).1 q).1 rfl)
        have r2 := own_far (ownsRow_own O2.out hgs (fun b hb => ⟨(O2.out.lt b hb).2, ((HD.out b).2.1 (by rw [← own_blk]; exact hb)).2.2.2⟩)) hs9 (fun q => ((HD.out h).2.1 q).1 rfl)
        have r3 := own_far (ownsRow_own O3.out hgs (fun b hb => ⟨(O3.out.lt b hb).2, ((HD.out b).2.2.1 (by rw [← own_blk]; exact hb)).2.2.2⟩)) hs9 (fun q => ((HD.out h).2.2.1 q).1 rfl)
        have r4 := own_far howz hs9 hnz
        have hfin : SS5 w4 h w9 := ⟨_, { s with outs := s.outs ++ [(⟨0, byv⟩ : Outp)] }, hb9, st_mk (own_sl r1 HLENS.out.1 (fun i hi hl => ⟨hl, fun q => ((HD.out h).1 (q ▸ hi)).1 rfl⟩)) (own_sl r2 HLENS.out.2.1 (fun i hi hl => ⟨hl, fun q => ((HD.out h).2.1 (q ▸ hi)).1 rfl⟩)) (own_sl r3 HLENS.out.2.2.1 (fun i hi hl => ⟨hl, fun q => ((HD.out h).2.2.1 (q ▸ hi)).1 rfl⟩)) (own_sl r4 (by simpa using HLENS.out.2.2.2) (fun i hi hl => ⟨hl, fun q => hnz (q ▸ hi)⟩)), ⟨HFS.out.1, HFS.out.2.1, HFS.out.2.2.1, by have h1 := HLENS.out; simp; omega⟩, Keep.write (Same.trans SM5.out hgs (fun i hi => ⟨by have := SM5.out.size; omega, fun q => by have := (O4.out.lt i (by rw [own_blk]; exact q)).1; omega⟩)) hs9 hh⟩
        have HFIN := Lib.hid hfin
        clear hfin
        clear hb9 hs9 hgs hbz howz hnz r1 r2 r3 r4 hx
        go_meet
        exact HFIN.out
      · have t0 : (what % 6 == 0) = false := by simp [hq]
        have t1 : (what % 6 == 1) = false := by simp [hq]
        have t2 : (what % 6 == 2) = false := by simp [hq]
        have t3 : (what % 6 == 3) = false := by simp [hq]
        have t4 : (what % 6 == 4) = true := by simp [hq]
        clear hq
        have c0 : w5.cell? ⟨h, 1, none⟩ = some (.slice A2 en2 d2) := by rw [OB.out.cell]; rfl
        obtain ⟨i4, hi4, iz4, is4, ib4⟩ := info_of info_Event
        have hne : blkOf A2 ≠ some h := fun q => ((HD.out h).2.1 q).1 rfl
        have HI4 := Lib.hid hi4
        have IZ4 := Lib.hid iz4
        have IS4 := Lib.hid is4
        have IB4 := Lib.hid ib4
        have HNE := Lib.hid hne
        clear hi4 iz4 is4 ib4 hne
        go_wp2_with (first
          | (refine wpList_bld rfl 51 _ rfl _ [(0, .int .i64 byv)] rfl (bld_ev1 _) ?_)
          | (refine wpList_buildS rfl 23 51 1 _ rfl Tryd.underlying23 _ [(0, .agg #[.int .i64 byv, .int .i64 0, .int .i64 0, .int .i64 0, .int .i64 0, .int .i64 0, .int .i64 0])] rfl (builtS_ev1 _) ?_)
          | (refine wpList_append_any _ rfl (.tmp 95) (.tmp 98) 23 rfl w4.heap.size 51 i4 _ 7 56 Tryd.underlying23 HI4.out IZ4.out IS4.out IB4.out rfl (by omega) (.slice A2 en2 d2) en2 (s.events.flatMap encEv) rfl (ownsRow_same O2.out (Keep.new _ _) (fun i hi => hi.2)) (fun i => i = w5.heap.size) (some ⟨w5.heap.size, 0, none⟩) 1 1 (encEv (⟨byv, 0, 0, 0, 0, 0, 0⟩ : Ev)) rfl (Reads.new rfl) (encEv_one _) (by simp [maxLen]; omega) (by omega) (Nat.le_trans SM5.out.size (Keep.new _ _).size) ?_
             intro vz wz howz hgz hatz
             obtain ⟨Az, cz, hvz, -, -⟩ := own_form howz
             subst hvz
             have hgs : Same (fun i => i < w5.heap.size ∧ blkOf A2 ≠ some i) w5 wz := Same.grown ((Keep.new w5 _).mono (fun i hi => hi.1)) hgz (fun i hi => by have := hi.1; simp; omega) (fun k hk hS => hS.2 (by rw [← own_blk]; exact hk))
             have hnz : blkOf Az ≠ some h := fun q => by
               rw [own_blk, own_blk] at hatz
               rcases hatz with h1 | h1
               · exact HNE.out (h1 ▸ q)
               · rw [q] at h1
                 have hlt := OB.out.lt
                 simp at h1
                 omega
             have hbz : Blk wz h 27 _ := hgs.blk OB.out ⟨OB.out.lt, HNE.out⟩
             clear hgz hatz)
          | (refine wpList_store_one rfl _ (.tmp 100) (.tmp 99) rfl h 1 27 _ (.slice Az (en2 + 1) cz) rfl rfl hbz (by simp) (by kernel_rfl) rfl rfl ?_; intro w9 hb9 hs9))
        have hx : (s.events ++ [(⟨byv, 0, 0, 0, 0, 0, 0⟩ : Ev)]).flatMap encEv = s.events.flatMap encEv ++ encEv (⟨byv, 0, 0, 0, 0, 0, 0⟩ : Ev) := by simp
        rw [← hx] at howz
        have r1 := own_far (ownsRow_own O1.out hgs (fun b hb => ⟨(O1.out.lt b hb).2, ((HD.out b).1 (by rw [← own_blk]; exact hb)).2.1⟩)) hs9 (fun q => ((HD.out h).1 q).1 rfl)
        have r2 := own_far howz hs9 hnz
        have r3 := own_far (ownsRow_own O3.out hgs (fun b hb => ⟨(O3.out.lt b hb).2, ((HD.out b).2.2.1 (by rw [← own_blk]; exact hb)).2.2.1⟩)) hs9 (fun q => ((HD.out h).2.2.1 q).1 rfl)
        have r4 := own_far (ownsRow_own O4.out hgs (fun b hb => ⟨(O4.out.lt b hb).2, ((HD.out b).2.2.2 (by rw [← own_blk]; exact hb)).2.2.1⟩)) hs9 (fun q => ((HD.out h).2.2.2 q).1 rfl)
        have hfin : SS5 w4 h w9 := ⟨_, { s with events := s.events ++ [(⟨byv, 0, 0, 0, 0, 0, 0⟩ : Ev)] }, hb9, st_mk (own_sl r1 HLENS.out.1 (fun i hi hl => ⟨hl, fun q => ((HD.out h).1 (q ▸ hi)).1 rfl⟩)) (own_sl r2 (by simpa using HLENS.out.2.1) (fun i hi hl => ⟨hl, fun q => hnz (q ▸ hi)⟩)) (own_sl r3 HLENS.out.2.2.1 (fun i hi hl => ⟨hl, fun q => ((HD.out h).2.2.1 (q ▸ hi)).1 rfl⟩)) (own_sl r4 HLENS.out.2.2.2 (fun i hi hl => ⟨hl, fun q => ((HD.out h).2.2.2 (q ▸ hi)).1 rfl⟩)), ⟨HFS.out.1, by have h1 := HLENS.out; simp; omega, HFS.out.2.2.1, HFS.out.2.2.2⟩, Keep.write (Same.trans SM5.out hgs (fun i hi => ⟨by have := SM5.out.size; omega, fun q => by have := (O2.out.lt i (by rw [own_blk]; exact q)).1; omega⟩)) hs9 hh⟩
        have HFIN := Lib.hid hfin
        clear hfin
        clear hb9 hs9 hgs hbz howz hnz r1 r2 r3 r4 hx
        go_meet
        exact HFIN.out
      · have t0 : (what % 6 == 0) = false := by simp [hq]
        have t1 : (what % 6 == 1) = false := by simp [hq]
        have t2 : (what % 6 == 2) = false := by simp [hq]
        have t3 : (what % 6 == 3) = false := by simp [hq]
        have t4 : (what % 6 == 4) = false := by simp [hq]
        have t5 : (what % 6 == 5) = true := by simp [hq]
        clear hq
        have c0 : w5.cell? ⟨h, 2, none⟩ = some (.slice A3 en3 d3) := by rw [OB.out.cell]; rfl
        obtain ⟨x1, x2, x3, x4⟩ := st_sl (own4_st HOWN5.out HLENS.out.1 HLENS.out.2.1 HLENS.out.2.2.1 HLENS.out.2.2.2)
        have hdc := x3.2.1
        have g1 : (0 : Int) ≤ (en3 : Int) / 2 := by omega
        have g2 : (en3 : Int) / 2 ≤ d3 := by omega
        have g3 : ((en3 : Int) / 2).toNat = en3 / 2 := by omega
        have X1 := Lib.hid x1
        have X2 := Lib.hid x2
        have X3 := Lib.hid x3
        have X4 := Lib.hid x4
        clear x1 x2 x3 x4
        go_wp2_with (refine wpList_store_one rfl _ (.tmp 110) (.tmp 109) rfl h 2 27 _ (.slice A3 (en3 / 2) d3) rfl rfl OB.out (by simp) (by kernel_rfl) rfl rfl ?_; intro w9 hb9 hs9)
        have kp := fun i (hi : Bx h w5 i) => hi.2
        have up : ∀ i, Bx h w5 i → Bx h w9 i := fun i hi => ⟨by have := hi.1; have := hs9.size; omega, hi.2⟩
        have hfin : SS5 w4 h w9 := ⟨_, { s with sent := s.sent.take (en3 / 2) }, hb9, StR.more (S := Bx h w5) (s := { s with sent := s.sent.take (en3 / 2) }) (st_mk (X1.out.keep (hs9.mono kp)) (X2.out.keep (hs9.mono kp)) ((X3.out.to_ encSnd_len (show en3 / 2 ≤ en3 by omega)).keep (hs9.mono kp)) (X4.out.keep (hs9.mono kp))) up, ⟨HFS.out.1, HFS.out.2.1, by have := HFS.out.2.2.1; simp; omega, HFS.out.2.2.2⟩, Keep.write SM5.out hs9 hh⟩
        have HFIN := Lib.hid hfin
        clear hfin
        clear hb9 hs9 kp up
        go_meet
        exact HFIN.out
    case rest =>
      obtain ⟨ct, t, bt, rt', hft, sm⟩ := hcut
      obtain ⟨F1, F2, F3, F4, fn1, fc1, fn2, fc2, fn3, fc3, fn4, fc4, rfl, rt⟩ := st_open rt'
      have hzc := sm.size
      have bs := sm.blk HB4.out HB4.out.lt
      have rs := (HST4.out.keep (Same.mono sm (fun i hi => by have := hi.2; omega))).more (T := fun i => i < wc.heap.size) (fun i hi => by have := hi.2; omega)
      have rt2 := rt.more (T := fun i => i < wc.heap.size) (fun i hi => hi.1)
      have k1 := fun (wx : World) (hx : Keep wc wx) => psame_any wx (fun i => i < wc.heap.size) _ _ s t (fun i hi => Nat.lt_of_lt_of_le hi hx.size) (rs.keep hx) (rt2.keep hx) HFS.out hft
      have k2 := fun (wx : World) (hx : Keep wc wx) => rsame_any wx (fun i => i < wc.heap.size) _ _ s t (fun i hi => Nat.lt_of_lt_of_le hi hx.size) (rs.keep hx) (rt2.keep hx) HFS.out hft
      have k3 := fun (wx : World) (hx : Keep wc wx) => psame_any wx (fun i => i < wc.heap.size) _ _ t s (fun i hi => Nat.lt_of_lt_of_le hi hx.size) (rt2.keep hx) (rs.keep hx) hft HFS.out
      have hkc := Keep.trans HKW4.out sm
      have K1 := Lib.hid k1
      have K2 := Lib.hid k2
      have K3 := Lib.hid k3
      have BS := Lib.hid bs
      have BT := Lib.hid bt
      have HKC := Lib.hid hkc
      clear k1 k2 k3 bs bt hkc
      clear rs rt rt' rt2 sm hft
      by_cases hq : s = t
      · have HQ := Lib.hid hq
        clear hq
        go_upto_region 24 with fail
        refine wp_region_L 99 (fun _ => True) (fun wx => Keep wc wx) (by kernel_rfl) trivial (Same.drew (Same.refl _ _)) (fun hA hB => ?_)
        generalize hu0 : wc.drew = u0 at hB ⊢
        clear hu0
        refine wpL_takeB (i := 0) rfl (by kernel_rfl) (by kernel_rfl) (by kernel_rfl) (by decide) (fun _ _ _ h => h) (yieldsIf_blk (by rfl) _ _ rfl w3.heap.size 0 27 _ [.slice E1 en1 ec1, .slice E2 en2 ec2, .slice E3 en3 ec3, .slice E4 en4 ec4] _ rfl (fun wx hx => hx.blk BS.out BS.out.lt) (fun j u hu => by simpa using hu) Tryd.underlying27 rfl (by kernel_rfl)) (SAB.both hA hB) ?_
        try simp only [Act.put, List.setIfInBounds_toArray, List.set_cons_zero, List.set_cons_succ]
        refine wpL_takeB (i := 1) rfl (by kernel_rfl) (by kernel_rfl) (by kernel_rfl) (by decide) (fun _ _ _ h => h) (yieldsIf_blk (by rfl) _ _ rfl h 0 27 _ [.slice F1 fn1 fc1, .slice F2 fn2 fc2, .slice F3 fn3 fc3, .slice F4 fn4 fc4] _ rfl (fun wx hx => hx.blk BT.out BT.out.lt) (fun j u hu => by simpa using hu) Tryd.underlying27 rfl (by kernel_rfl)) (SAB.both hA hB) ?_
        try simp only [Act.put, List.setIfInBounds_toArray, List.set_cons_zero, List.set_cons_succ]
        refine wpL_takeB (i := 3) rfl (by kernel_rfl) (by kernel_rfl) (by kernel_rfl) (by decide) (fun _ _ _ h => h) (yieldsIf_blk (by rfl) _ _ rfl w3.heap.size 0 27 _ [.slice E1 en1 ec1, .slice E2 en2 ec2, .slice E3 en3 ec3, .slice E4 en4 ec4] _ rfl (fun wx hx => hx.blk BS.out BS.out.lt) (fun j u hu => by simpa using hu) Tryd.underlying27 rfl (by kernel_rfl)) (SAB.both hA hB) ?_
        try simp only [Act.put, List.setIfInBounds_toArray, List.set_cons_zero, List.set_cons_succ]
        refine wpL_takeB (i := 4) rfl (by kernel_rfl) (by kernel_rfl) (by kernel_rfl) (by decide) (fun _ _ _ h => h) (yieldsIf_blk (by rfl) _ _ rfl h 0 27 _ [.slice F1 fn1 fc1, .slice F2 fn2 fc2, .slice F3 fn3 fc3, .slice F4 fn4 fc4] _ rfl (fun wx hx => hx.blk BT.out BT.out.lt) (fun j u hu => by simpa using hu) Tryd.underlying27 rfl (by kernel_rfl)) (SAB.both hA hB) ?_
        try simp only [Act.put, List.setIfInBounds_toArray, List.set_cons_zero, List.set_cons_succ]
        refine wpL_one (i := 2) (by kernel_rfl) (StepL.mk rfl (fun K hK => ?_))
        go_simp
        refine (K1.out u0 hB).mono ?_
        rintro e u1 ⟨b1, hb1, rfl, hk1⟩
        obtain rfl : b1 = true := hb1.2 (by exact HQ.out)
        have ha := Keep.trans hB hk1
        clear hb1 hk1
        refine hK.out _ _ (SAB.both trivial ha) (fun hSS => ?_)
        clear hK K hA hB
        have hB := hSS.2
        have hA := hSS.1 (by kernel_rfl)
        (try dsimp only at hB); (try dsimp only at hA); clear hSS
        try simp only [Act.put, List.setIfInBounds_toArray, List.set_cons_zero, List.set_cons_succ]
        clear ha
        refine wpL_one (i := 5) (by kernel_rfl) (StepL.mk rfl (fun K hK => ?_))
        go_simp
        refine (K2.out u1 hB).mono ?_
        rintro e u2 ⟨b2, hb2, rfl, hk2⟩
        obtain rfl : b2 = true := hb2.2 (by exact HQ.out)
        have ha := Keep.trans hB hk2
        clear hb2 hk2
        refine hK.out _ _ (SAB.both trivial ha) (fun hSS => ?_)
        clear hK K hA hB
        have hB := hSS.2
        have hA := hSS.1 (by kernel_rfl)
        (try dsimp only at hB); (try dsimp only at hA); clear hSS
        try simp only [Act.put, List.setIfInBounds_toArray, List.set_cons_zero, List.set_cons_succ]
        clear ha
        refine wpL_takeB (i := 6) (v := ?_) rfl (by kernel_rfl) (by kernel_rfl) (by kernel_rfl) (by decide) (fun _ _ _ h => h) (Or.inl ⟨by rfl, ?_⟩) (SAB.both hA hB) ?_
        rotate_left
        · intro wx hBx
          (try dsimp only at hBx)
          go_simp
          try with_reducible rfl
        try simp only [Act.put, List.setIfInBounds_toArray, List.set_cons_zero, List.set_cons_succ]
        refine wpL_takeB (i := 7) (v := ?_) rfl (by kernel_rfl) (by kernel_rfl) (by kernel_rfl) (by decide) (fun _ _ _ h => h) (Or.inl ⟨by rfl, ?_⟩) (SAB.both hA hB) ?_
        rotate_left
        · intro wx hBx
          (try dsimp only at hBx)
          go_simp
          try with_reducible rfl
        try simp only [Act.put, List.setIfInBounds_toArray, List.set_cons_zero, List.set_cons_succ]
        refine wpL_takeB (i := 8) rfl (by kernel_rfl) (by kernel_rfl) (by kernel_rfl) (by decide) (fun _ _ _ h => h) (yieldsIf_blk (by rfl) _ _ rfl h 0 27 _ [.slice F1 fn1 fc1, .slice F2 fn2 fc2, .slice F3 fn3 fc3, .slice F4 fn4 fc4] _ rfl (fun wx hx => hx.blk BT.out BT.out.lt) (fun j u hu => by simpa using hu) Tryd.underlying27 rfl (by kernel_rfl)) (SAB.both hA hB) ?_
        try simp only [Act.put, List.setIfInBounds_toArray, List.set_cons_zero, List.set_cons_succ]
        refine wpL_takeB (i := 9) rfl (by kernel_rfl) (by kernel_rfl) (by kernel_rfl) (by decide) (fun _ _ _ h => h) (yieldsIf_blk (by rfl) _ _ rfl w3.heap.size 0 27 _ [.slice E1 en1 ec1, .slice E2 en2 ec2, .slice E3 en3 ec3, .slice E4 en4 ec4] _ rfl (fun wx hx => hx.blk BS.out BS.out.lt) (fun j u hu => by simpa using hu) Tryd.underlying27 rfl (by kernel_rfl)) (SAB.both hA hB) ?_
        try simp only [Act.put, List.setIfInBounds_toArray, List.set_cons_zero, List.set_cons_succ]
        refine wpL_takeB (i := 11) rfl (by kernel_rfl) (by kernel_rfl) (by kernel_rfl) (by decide) (fun _ _ _ h => h) (yieldsIf_blk (by rfl) _ _ rfl w3.heap.size 0 27 _ [.slice E1 en1 ec1, .slice E2 en2 ec2, .slice E3 en3 ec3, .slice E4 en4 ec4] _ rfl (fun wx hx => hx.blk BS.out BS.out.lt) (fun j u hu => by simpa using hu) Tryd.underlying27 rfl (by kernel_rfl)) (SAB.both hA hB) ?_
        try simp only [Act.put, List.setIfInBounds_toArray, List.set_cons_zero, List.set_cons_succ]
        refine wpL_takeB (i := 12) rfl (by kernel_rfl) (by kernel_rfl) (by kernel_rfl) (by decide) (fun _ _ _ h => h) (yieldsIf_blk (by rfl) _ _ rfl h 0 27 _ [.slice F1 fn1 fc1, .slice F2 fn2 fc2, .slice F3 fn3 fc3, .slice F4 fn4 fc4] _ rfl (fun wx hx => hx.blk BT.out BT.out.lt) (fun j u hu => by simpa using hu) Tryd.underlying27 rfl (by kernel_rfl)) (SAB.both hA hB) ?_
        try simp only [Act.put, List.setIfInBounds_toArray, List.set_cons_zero, List.set_cons_succ]
        refine wpL_one (i := 10) (by kernel_rfl) (StepL.mk rfl (fun K hK => ?_))
        go_simp
        refine (K3.out u2 hB).mono ?_
        rintro e u3 ⟨b3, hb3, rfl, hk3⟩
        obtain rfl : b3 = true := hb3.2 (by exact HQ.out.symm)
        have ha := Keep.trans hB hk3
        clear hb3 hk3
        refine hK.out _ _ (SAB.both trivial ha) (fun hSS => ?_)
        clear hK K hA hB
        have hB := hSS.2
        have hA := hSS.1 (by kernel_rfl)
        (try dsimp only at hB); (try dsimp only at hA); clear hSS
        try simp only [Act.put, List.setIfInBounds_toArray, List.set_cons_zero, List.set_cons_succ]
        clear ha
        refine wpL_one (i := 13) (by kernel_rfl) (StepL.mk rfl (fun K hK => ?_))
        go_simp
        refine (K1.out u3 hB).mono ?_
        rintro e u4 ⟨b4, hb4, rfl, hk4⟩
        obtain rfl : b4 = true := hb4.2 (by exact HQ.out)
        have ha := Keep.trans hB hk4
        clear hb4 hk4
        refine hK.out _ _ (SAB.both trivial ha) (fun hSS => ?_)
        clear hK K hA hB
        have hB := hSS.2
        have hA := hSS.1 (by kernel_rfl)
        (try dsimp only at hB); (try dsimp only at hA); clear hSS
        try simp only [Act.put, List.setIfInBounds_toArray, List.set_cons_zero, List.set_cons_succ]
        clear ha
        refine wpL_takeB (i := 14) (v := ?_) rfl (by kernel_rfl) (by kernel_rfl) (by kernel_rfl) (by decide) (fun _ _ _ h => h) (Or.inl ⟨by rfl, ?_⟩) (SAB.both hA hB) ?_
        rotate_left
        · intro wx hBx
          (try dsimp only at hBx)
          go_simp
          try with_reducible rfl
        try simp only [Act.put, List.setIfInBounds_toArray, List.set_cons_zero, List.set_cons_succ]
        refine wpL_takeB (i := 15) (v := ?_) rfl (by kernel_rfl) (by kernel_rfl) (by kernel_rfl) (by decide) (fun _ _ _ h => h) (Or.inl ⟨by rfl, ?_⟩) (SAB.both hA hB) ?_
        rotate_left
        · intro wx hBx
          (try dsimp only at hBx)
          go_simp
          try with_reducible rfl
        try simp only [Act.put, List.setIfInBounds_toArray, List.set_cons_zero, List.set_cons_succ]
        have hfin : AwPost w (.returned (.bool true)) u4 := ⟨rfl, Keep.trans HKC.out hB⟩
        have HFIN := Lib.hid hfin
        clear hfin
        refine wpL_takeB (i := 16) (v := ?_) rfl (by kernel_rfl) (by kernel_rfl) (by kernel_rfl) (by decide) (fun _ _ _ h => h) (Or.inl ⟨by rfl, ?_⟩) (SAB.both hA hB) ?_
        rotate_left
        · intro wx hBx
          (try dsimp only at hBx)
          go_simp
          try with_reducible rfl
        try simp only [Act.put, List.setIfInBounds_toArray, List.set_cons_zero, List.set_cons_succ]
        refine wpL_done (by kernel_rfl) ?_
        clear hB hA
        go_wp2_with fail
        go_ret
        exact HFIN.out
      · have HQ := Lib.hid hq
        clear hq
        go_upto_region 24 with fail
        refine wp_region_L 99 (fun _ => True) (fun wx => Keep wc wx) (by kernel_rfl) trivial (Same.drew (Same.refl _ _)) (fun hA hB => ?_)
        generalize hu0 : wc.drew = u0 at hB ⊢
        clear hu0
        refine wpL_takeB (i := 0) rfl (by kernel_rfl) (by kernel_rfl) (by kernel_rfl) (by decide) (fun _ _ _ h => h) (yieldsIf_blk (by rfl) _ _ rfl w3.heap.size 0 27 _ [.slice E1 en1 ec1, .slice E2 en2 ec2, .slice E3 en3 ec3, .slice E4 en4 ec4] _ rfl (fun wx hx => hx.blk BS.out BS.out.lt) (fun j u hu => by simpa using hu) Tryd.underlying27 rfl (by kernel_rfl)) (SAB.both hA hB) ?_
        try simp only [Act.put, List.setIfInBounds_toArray, List.set_cons_zero, List.set_cons_succ]
        refine wpL_takeB (i := 1) rfl (by kernel_rfl) (by kernel_rfl) (by kernel_rfl) (by decide) (fun _ _ _ h => h) (yieldsIf_blk (by rfl) _ _ rfl h 0 27 _ [.slice F1 fn1 fc1, .slice F2 fn2 fc2, .slice F3 fn3 fc3, .slice F4 fn4 fc4] _ rfl (fun wx hx => hx.blk BT.out BT.out.lt) (fun j u hu => by simpa using hu) Tryd.underlying27 rfl (by kernel_rfl)) (SAB.both hA hB) ?_
        try simp only [Act.put, List.setIfInBounds_toArray, List.set_cons_zero, List.set_cons_succ]
        refine wpL_takeB (i := 3) rfl (by kernel_rfl) (by kernel_rfl) (by kernel_rfl) (by decide) (fun _ _ _ h => h) (yieldsIf_blk (by rfl) _ _ rfl w3.heap.size 0 27 _ [.slice E1 en1 ec1, .slice E2 en2 ec2, .slice E3 en3 ec3, .slice E4 en4 ec4] _ rfl (fun wx hx => hx.blk BS.out BS.out.lt) (fun j u hu => by simpa using hu) Tryd.underlying27 rfl (by kernel_rfl)) (SAB.both hA hB) ?_
        try simp only [Act.put, List.setIfInBounds_toArray, List.set_cons_zero, List.set_cons_succ]
        refine wpL_takeB (i := 4) rfl (by kernel_rfl) (by kernel_rfl) (by kernel_rfl) (by decide) (fun _ _ _ h => h) (yieldsIf_blk (by rfl) _ _ rfl h 0 27 _ [.slice F1 fn1 fc1, .slice F2 fn2 fc2, .slice F3 fn3 fc3, .slice F4 fn4 fc4] _ rfl (fun wx hx => hx.blk BT.out BT.out.lt) (fun j u hu => by simpa using hu) Tryd.underlying27 rfl (by kernel_rfl)) (SAB.both hA hB) ?_
        try simp only [Act.put, List.setIfInBounds_toArray, List.set_cons_zero, List.set_cons_succ]
        refine wpL_one (i := 2) (by kernel_rfl) (StepL.mk rfl (fun K hK => ?_))
        go_simp
        refine (K1.out u0 hB).mono ?_
        rintro e u1 ⟨b1, hb1, rfl, hk1⟩
        obtain rfl : b1 = false := by cases b1 with | false => rfl | true => exact absurd (hb1.1 rfl) (HQ.out)
        have ha := Keep.trans hB hk1
        clear hb1 hk1
        refine hK.out _ _ (SAB.both trivial ha) (fun hSS => ?_)
        clear hK K hA hB
        have hB := hSS.2
        have hA := hSS.1 (by kernel_rfl)
        (try dsimp only at hB); (try dsimp only at hA); clear hSS
        try simp only [Act.put, List.setIfInBounds_toArray, List.set_cons_zero, List.set_cons_succ]
        clear ha
        refine wpL_one (i := 5) (by kernel_rfl) (StepL.mk rfl (fun K hK => ?_))
        go_simp
        refine (K2.out u1 hB).mono ?_
        rintro e u2 ⟨b2, hb2, rfl, hk2⟩
        obtain rfl : b2 = false := by cases b2 with | false => rfl | true => exact absurd (hb2.1 rfl) (HQ.out)
        have ha := Keep.trans hB hk2
        clear hb2 hk2
        refine hK.out _ _ (SAB.both trivial ha) (fun hSS => ?_)
        clear hK K hA hB
        have hB := hSS.2
        have hA := hSS.1 (by kernel_rfl)
        (try dsimp only at hB); (try dsimp only at hA); clear hSS
        try simp only [Act.put, List.setIfInBounds_toArray, List.set_cons_zero, List.set_cons_succ]
        clear ha
        refine wpL_takeB (i := 6) (v := ?_) rfl (by kernel_rfl) (by kernel_rfl) (by kernel_rfl) (by decide) (fun _ _ _ h => h) (Or.inl ⟨by rfl, ?_⟩) (SAB.both hA hB) ?_
        rotate_left
        · intro wx hBx
          (try dsimp only at hBx)
          go_simp
          try with_reducible rfl
        try simp only [Act.put, List.setIfInBounds_toArray, List.set_cons_zero, List.set_cons_succ]
        refine wpL_takeB (i := 7) (v := ?_) rfl (by kernel_rfl) (by kernel_rfl) (by kernel_rfl) (by decide) (fun _ _ _ h => h) (Or.inl ⟨by rfl, ?_⟩) (SAB.both hA hB) ?_
        rotate_left
        · intro wx hBx
          (try dsimp only at hBx)
          go_simp
          try with_reducible rfl
        try simp only [Act.put, List.setIfInBounds_toArray, List.set_cons_zero, List.set_cons_succ]
        refine wpL_takeB (i := 8) rfl (by kernel_rfl) (by kernel_rfl) (by kernel_rfl) (by decide) (fun _ _ _ h => h) (yieldsIf_blk (by rfl) _ _ rfl h 0 27 _ [.slice F1 fn1 fc1, .slice F2 fn2 fc2, .slice F3 fn3 fc3, .slice F4 fn4 fc4] _ rfl (fun wx hx => hx.blk BT.out BT.out.lt) (fun j u hu => by simpa using hu) Tryd.underlying27 rfl (by kernel_rfl)) (SAB.both hA hB) ?_
        try simp only [Act.put, List.setIfInBounds_toArray, List.set_cons_zero, List.set_cons_succ]
        refine wpL_takeB (i := 9) rfl (by kernel_rfl) (by kernel_rfl) (by kernel_rfl) (by decide) (fun _ _ _ h => h) (yieldsIf_blk (by rfl) _ _ rfl w3.heap.size 0 27 _ [.slice E1 en1 ec1, .slice E2 en2 ec2, .slice E3 en3 ec3, .slice E4 en4 ec4] _ rfl (fun wx hx => hx.blk BS.out BS.out.lt) (fun j u hu => by simpa using hu) Tryd.underlying27 rfl (by kernel_rfl)) (SAB.both hA hB) ?_
        try simp only [Act.put, List.setIfInBounds_toArray, List.set_cons_zero, List.set_cons_succ]
        refine wpL_takeB (i := 11) rfl (by kernel_rfl) (by kernel_rfl) (by kernel_rfl) (by decide) (fun _ _ _ h => h) (yieldsIf_blk (by rfl) _ _ rfl w3.heap.size 0 27 _ [.slice E1 en1 ec1, .slice E2 en2 ec2, .slice E3 en3 ec3, .slice E4 en4 ec4] _ rfl (fun wx hx => hx.blk BS.out BS.out.lt) (fun j u hu => by simpa using hu) Tryd.underlying27 rfl (by kernel_rfl)) (SAB.both hA hB) ?_
        try simp only [Act.put, List.setIfInBounds_toArray, List.set_cons_zero, List.set_cons_succ]
        refine wpL_takeB (i := 12) rfl (by kernel_rfl) (by kernel_rfl) (by kernel_rfl) (by decide) (fun _ _ _ h => h) (yieldsIf_blk (by rfl) _ _ rfl h 0 27 _ [.slice F1 fn1 fc1, .slice F2 fn2 fc2, .slice F3 fn3 fc3, .slice F4 fn4 fc4] _ rfl (fun wx hx => hx.blk BT.out BT.out.lt) (fun j u hu => by simpa using hu) Tryd.underlying27 rfl (by kernel_rfl)) (SAB.both hA hB) ?_
        try simp only [Act.put, List.setIfInBounds_toArray, List.set_cons_zero, List.set_cons_succ]
        refine wpL_one (i := 10) (by kernel_rfl) (StepL.mk rfl (fun K hK => ?_))
        go_simp
        refine (K3.out u2 hB).mono ?_
        rintro e u3 ⟨b3, hb3, rfl, hk3⟩
        obtain rfl : b3 = false := by cases b3 with | false => rfl | true => exact absurd (hb3.1 rfl) (fun q => HQ.out q.symm)
        have ha := Keep.trans hB hk3
        clear hb3 hk3
        refine hK.out _ _ (SAB.both trivial ha) (fun hSS => ?_)
        clear hK K hA hB
        have hB := hSS.2
        have hA := hSS.1 (by kernel_rfl)
        (try dsimp only at hB); (try dsimp only at hA); clear hSS
        try simp only [Act.put, List.setIfInBounds_toArray, List.set_cons_zero, List.set_cons_succ]
        clear ha
        refine wpL_one (i := 13) (by kernel_rfl) (StepL.mk rfl (fun K hK => ?_))
        go_simp
        refine (K1.out u3 hB).mono ?_
        rintro e u4 ⟨b4, hb4, rfl, hk4⟩
        obtain rfl : b4 = false := by cases b4 with | false => rfl | true => exact absurd (hb4.1 rfl) (HQ.out)
        have ha := Keep.trans hB hk4
        clear hb4 hk4
        refine hK.out _ _ (SAB.both trivial ha) (fun hSS => ?_)
        clear hK K hA hB
        have hB := hSS.2
        have hA := hSS.1 (by kernel_rfl)
        (try dsimp only at hB); (try dsimp only at hA); clear hSS
        try simp only [Act.put, List.setIfInBounds_toArray, List.set_cons_zero, List.set_cons_succ]
        clear ha
        refine wpL_takeB (i := 14) (v := ?_) rfl (by kernel_rfl) (by kernel_rfl) (by kernel_rfl) (by decide) (fun _ _ _ h => h) (Or.inl ⟨by rfl, ?_⟩) (SAB.both hA hB) ?_
        rotate_left
        · intro wx hBx
          (try dsimp only at hBx)
          go_simp
          try with_reducible rfl
        try simp only [Act.put, List.setIfInBounds_toArray, List.set_cons_zero, List.set_cons_succ]
        refine wpL_takeB (i := 15) (v := ?_) rfl (by kernel_rfl) (by kernel_rfl) (by kernel_rfl) (by decide) (fun _ _ _ h => h) (Or.inl ⟨by rfl, ?_⟩) (SAB.both hA hB) ?_
        rotate_left
        · intro wx hBx
          (try dsimp only at hBx)
          go_simp
          try with_reducible rfl
        try simp only [Act.put, List.setIfInBounds_toArray, List.set_cons_zero, List.set_cons_succ]
        have hfin : AwPost w (.returned (.bool true)) u4 := ⟨rfl, Keep.trans HKC.out hB⟩
        have HFIN := Lib.hid hfin
        clear hfin
        refine wpL_takeB (i := 16) (v := ?_) rfl (by kernel_rfl) (by kernel_rfl) (by kernel_rfl) (by decide) (fun _ _ _ h => h) (Or.inl ⟨by rfl, ?_⟩) (SAB.both hA hB) ?_
        rotate_left
        · intro wx hBx
          (try dsimp only at hBx)
          go_simp
          try with_reducible rfl
        try simp only [Act.put, List.setIfInBounds_toArray, List.set_cons_zero, List.set_cons_succ]
        refine wpL_done (by kernel_rfl) ?_
        clear hB hA
        go_wp2_with fail
        go_ret
        exact HFIN.out
end Go.Proofs.YtecckbkobkfnmaaDoor
