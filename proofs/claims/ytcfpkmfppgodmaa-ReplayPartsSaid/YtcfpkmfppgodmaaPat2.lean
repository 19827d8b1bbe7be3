/- make.with and ref16.Reduce. -/
import Derived.Test.YtcfpkmfppgodmaaPat1
set_option linter.unusedVariables false
set_option linter.unusedSimpArgs false
set_option maxRecDepth 100000
namespace Go.Proofs.Ytcfpkmfppgodmaa
open Go.RowKit Go.Proofs

theorem bld_pat2 (A1 A2 : Option Addr) (n1 c1 n2 c2 : Nat) : Try.prog.built 32 [(0, .slice A1 n1 c1), (1, .slice A2 n2 c2)] = some #[.slice A1 n1 c1, .slice A2 n2 c2, .slice none 0 0] := by kernel_rfl
def WithPost (VC : Value) (n : Nat) (ls : List Nat) (arcs : List Arc) (w : World) (e : Ending) (w' : World) : Prop := ∃ V, e = .returned V ∧ PatPost VC n ls arcs w V w'
set_option maxHeartbeats 8000000 in
theorem with_any (w : World) (A1 A2 A3 : Option Addr) (n c1 n2 c2 m c3 q : Nat) (f ix : Int) (ls : List Nat) (arcs : List Arc)
    (hcall : ∀ u, Keep w u → Calls Try.prog 46 #[.agg #[.slice A1 n c1, .slice A2 n2 c2, .slice A3 m c3], .int .i64 q, .int .i64 f, .int .i64 ix] u (ApdPost (.slice A2 n2 c2) n ls arcs u)) :
    Calls Try.prog 38 #[.agg #[.slice A1 n c1, .slice A2 n2 c2, .slice A3 m c3], .int .i64 q, .int .i64 f, .int .i64 ix] w (WithPost (.slice A2 n2 c2) n ls arcs w) := by
  generalize hW : (w.alloc (.cells #[.slice A1 n c1, .slice A2 n2 c2, .slice A3 m c3] 32)).alloc (.cells #[.slice none 0 0, .slice none 0 0, .slice none 0 0] 32) = W
  have hkW : Keep w W := hW ▸ Keep.alloc (Keep.new w _) _
  have hb4 : Blk W w.heap.size 32 #[.slice A1 n c1, .slice A2 n2 c2, .slice A3 m c3] := hW ▸ (Blk.new w _ _).alloc _
  have hb8 : Blk W (w.heap.size + 1) 32 #[.slice none 0 0, .slice none 0 0, .slice none 0 0] := hW ▸ (by simpa using Blk.new (w.alloc _) _ _)
  have hzW := hb8.lt
  have HKW := Lib.hid hkW
  have HB4 := Lib.hid hb4
  have HB8 := Lib.hid hb8
  have HCALL := Lib.hid hcall
  clear hkW hb4 hb8 hcall
  go_enter Try.func38, Try.ntmps38
  go_upto_region 1 with fail
  clear hW
  go_wp2_with (refine wpList_load_all rfl _ (.tmp 4) rfl w.heap.size 32 [.slice A1 n c1, .slice A2 n2 c2, .slice A3 m c3] _ rfl HB4.out Try.underlying32 rfl (by kernel_rfl) ?_)
  refine (HCALL.out W HKW.out).mono ?_
  rintro e w2 ⟨V, rfl, L1, R1, lc1, rc1, rfl, hlo, hro, hdj, hk2⟩
  generalize hm9 : arcs.length = m9 at *
  have hz2 := hk2.size
  have hb82 := hk2.blk HB8.out hzW
  have HLO := Lib.hid hlo
  have HRO := Lib.hid hro
  have HDJ := Lib.hid hdj
  have HK2 := Lib.hid hk2
  have HB82 := Lib.hid hb82
  have HM9 := Lib.hid hm9
  clear hlo hro hdj hk2 hb82 hm9
  go_upto_region 2 with (refine wpList_store_all rfl _ (.tmp 9) (.tmp 17) rfl w2.heap.size 32 _ [.slice L1 n lc1, .slice A2 n2 c2, .slice R1 m9 rc1] rfl rfl (Blk.new _ _ _) rfl (by kernel_rfl) rfl ?_; intro w3 hb3 hs3)
  have hk3 : Keep w2 w3 := Keep.write (Keep.new _ _) hs3 (Nat.le_refl _)
  have hb83 := hk3.blk HB82.out HB82.out.lt
  have hl3 := hb3.lt
  have HB3 := Lib.hid hb3
  have HK3 := Lib.hid hk3
  have HB83 := Lib.hid hb83
  clear hb3 hk3 hb83
  clear hs3
  go_wp2_with (first
    | (refine wpList_load_all rfl _ (.tmp 9) rfl w2.heap.size 32 [.slice L1 n lc1, .slice A2 n2 c2, .slice R1 m9 rc1] _ rfl HB3.out Try.underlying32 rfl (by kernel_rfl) ?_)
    | (refine wpList_store_all rfl _ (.tmp 8) (.tmp 20) rfl (w.heap.size + 1) 32 _ [.slice L1 n lc1, .slice A2 n2 c2, .slice R1 m9 rc1] rfl rfl HB83.out rfl (by kernel_rfl) rfl ?_; intro v6 hv6 hs6))
  have hzk := HK3.out.size
  have hzW2 := HKW.out.size
  refine bodyPost_ret (results_cell1 Try.results38 _ _ _ ⟨w.heap.size + 1, 0, none⟩ _ rfl (loadVar_blk [.slice L1 n lc1, .slice A2 n2 c2, .slice R1 m9 rc1] _ hv6 (fun j v hv => by simpa using hv) Try.underlying32 rfl (by kernel_rfl))) rfl ?_
  have hl6 := ownsRow_own (ownsRow_same HLO.out HK3.out (fun i hi => hi.2)) hs6 (fun b hb e => by have := (HLO.out.lt b hb).1; omega)
  have hr6 := ownsRow_own (ownsRow_same HRO.out HK3.out (fun i hi => hi.2)) hs6 (fun b hb e => by have := (HRO.out.lt b hb).1; omega)
  rw [← HM9.out] at hr6
  exact ⟨_, rfl, L1, R1, lc1, rc1, by rw [HM9.out], own_low hl6 hzW2, own_low hr6 hzW2, by rw [HM9.out]; exact HDJ.out, Keep.write (Keep.trans (Keep.trans HKW.out HK2.out) HK3.out) hs6 (by omega)⟩
theorem own_arcs {w : World} {B m c : Nat} {A : Option Addr} {l : List Arc} (h : w.ownsRow B 62 4 (.slice A m c) m (l.flatMap encArc)) : Sl encArc 4 w (fun i => B ≤ i ∧ i < w.heap.size) A m c l := by
  obtain ⟨A', c', e1, h1, h2⟩ := own_form h
  simp only [Value.slice.injEq, true_and] at e1
  obtain ⟨rfl, rfl⟩ := e1
  have hl : m = l.length := by have := h.1; rw [flat_length encArc_len] at this; omega
  exact ⟨hl, h1, h2, Reads.of_own h⟩
/-- Reduce: the messages that were received. -/
def redA (arcs : List Arc) : List Arc := arcs.filter (fun a => a.at_ != 0)
def RedPost (A1 : Option Addr) (n c1 : Nat) (VC : Value) (arcs : List Arc) (w : World) (e : Ending) (w' : World) : Prop :=
  ∃ (A3 : Option Addr) (c3 : Nat), e = .returned (.agg #[.slice A1 n c1, VC, .slice A3 (redA arcs).length c3]) ∧ Sl encArc 4 w' (New w' w.heap.size) A3 (redA arcs).length c3 (redA arcs) ∧ Keep w w'
def RdR (A1 : Option Addr) (n c1 : Nat) (VC : Value) (arcs : List Arc) (g : Nat) (w W : World) (i : Value) (wr : World) : Prop :=
  ∃ (k : Nat) (A3 : Option Addr) (c3 : Nat), i = .int .i64 k ∧ k ≤ arcs.length ∧ Blk wr g 32 #[.slice A1 n c1, VC, .slice A3 (redA (arcs.take k)).length c3] ∧ wr.ownsRow W.heap.size 62 4 (.slice A3 (redA (arcs.take k)).length c3) (redA (arcs.take k)).length ((redA (arcs.take k)).flatMap encArc) ∧ Only g W wr
theorem redA_snoc {arcs : List Arc} {k : Nat} {a : Arc} (h : arcs[k]? = some a) : redA (arcs.take (k + 1)) = if a.at_ = 0 then redA (arcs.take k) else redA (arcs.take k) ++ [a] := by
  rw [List.take_add_one, h]
  unfold redA
  rw [List.filter_append]
  by_cases ha : a.at_ = 0
  · rw [if_pos ha]; simp [ha]
  · rw [if_neg ha]; simp [ha]
theorem redA_le (arcs : List Arc) (k : Nat) : (redA (arcs.take k)).length ≤ k := by
  have h1 := List.length_filter_le (fun a : Arc => a.at_ != 0) (arcs.take k)
  have h2 := List.length_take_le k arcs
  unfold redA
  omega
set_option maxHeartbeats 16000000 in
theorem reduce_any (w : World) (S : Nat → Prop) (A1 A2 A3 : Option Addr) (n c1 n2 c2 m c3 : Nat) (arcs : List Arc) (hS : ∀ i, S i → i < w.heap.size) (ha : Sl encArc 4 w S A3 m c3 arcs) (hm : m ≤ 1000) :
    Calls Try.prog 21 #[.agg #[.slice A1 n c1, .slice A2 n2 c2, .slice A3 m c3]] w (RedPost A1 n c1 (.slice A2 n2 c2) arcs w) := by
  obtain ⟨iA, hj0, jz0, js0, jb0⟩ := info_of info_Arc
  have hml := ha.1
  generalize hW : (w.alloc (.cells #[.slice A1 n c1, .slice A2 n2 c2, .slice A3 m c3] 32)).alloc (.cells #[.slice none 0 0, .slice none 0 0, .slice none 0 0] 32) = W
  have hkW : Keep w W := hW ▸ Keep.alloc (Keep.new w _) _
  have hb1 : Blk W w.heap.size 32 #[.slice A1 n c1, .slice A2 n2 c2, .slice A3 m c3] := hW ▸ (Blk.new w _ _).alloc _
  have hb2 : Blk W (w.heap.size + 1) 32 #[.slice none 0 0, .slice none 0 0, .slice none 0 0] := hW ▸ (by simpa using Blk.new (w.alloc _) _ _)
  have hzW := hb2.lt
  have haW := ha.keep (hkW.mono hS)
  have c0 : W.cell? ⟨w.heap.size, 0, none⟩ = some (.slice A1 n c1) := by rw [hb1.cell]; rfl
  have c1' : W.cell? ⟨w.heap.size, 1, none⟩ = some (.slice A2 n2 c2) := by rw [hb1.cell]; rfl
  have HKW := Lib.hid hkW
  have HB1 := Lib.hid hb1
  have HB2 := Lib.hid hb2
  have HAW := Lib.hid haW
  have HML := Lib.hid hml
  have HS := Lib.hid hS
  have HJ0 := Lib.hid hj0
  have JZ0 := Lib.hid jz0
  have JS0 := Lib.hid js0
  have JB0 := Lib.hid jb0
  clear hkW hb1 hb2 haW hml hS hj0 jz0 js0 jb0
  clear ha
  go_enter Try.func21, Try.ntmps21
  go_upto_region 1 with fail
  clear hW
  go_upto_region 2 with (first
    | (refine wpList_bld rfl 32 _ rfl _ [(0, .slice A1 n c1), (1, .slice A2 n2 c2)] rfl (bld_pat2 _ _ _ _ _ _) ?_)
    | (refine wpList_store_all rfl _ (.tmp 3) (.tmp 9) rfl W.heap.size 32 _ [.slice A1 n c1, .slice A2 n2 c2, .slice none 0 0] rfl rfl (Blk.new _ _ _) rfl (by kernel_rfl) rfl ?_; intro w3 hb3 hs3))
  have hk3 : Keep W w3 := Keep.write (Keep.new _ _) hs3 (Nat.le_refl _)
  have hl3 := hb3.lt
  have hb13 := hk3.blk HB1.out (by omega)
  have hb23 := hk3.blk HB2.out hzW
  have hsW : ∀ i, S i → i < W.heap.size := fun i hi => Nat.lt_of_lt_of_le (HS.out i hi) HKW.out.size
  have ha3 := HAW.out.keep (hk3.mono hsW)
  obtain ⟨g, hg⟩ : ∃ g, g = W.heap.size := ⟨_, rfl⟩
  rw [← hg] at hb3 hl3
  rw [← hg]
  have hrel0 : RdR A1 n c1 (.slice A2 n2 c2) arcs g w w3 (.int .i64 0) w3 := ⟨0, none, 0, rfl, Nat.zero_le _, hb3, World.ownsRow_nil _ _ _ _, Same.refl _ _⟩
  have hs3' : ∀ i, S i → i < w3.heap.size := fun i hi => Nat.lt_of_lt_of_le (hsW i hi) hk3.size
  have hgw : w.heap.size + 1 < g := by omega
  have HREL0 := Lib.hid hrel0
  have HB13 := Lib.hid hb13
  have HB23 := Lib.hid hb23
  have HK3 := Lib.hid hk3
  have HA3 := Lib.hid ha3
  have HS3' := Lib.hid hs3'
  clear hrel0 hb13 hb23 hk3 ha3 hs3'
  clear hs3 hb3 c0 c1' hsW hg
  go_wp2_with fail
  go_loopw [4] (fun i wr => RdR A1 n c1 (.slice A2 n2 c2) arcs g w w3 i wr) (fun i _ => m - (intOf i).toNat)
  case atStart => exact HREL0.out
  case round =>
    clear HREL0
    obtain ⟨k, R1, rc1, rfl, hkm, hbg, hro, hkr⟩ := hrel
    have hzr := hkr.size
    have hb1r := hkr.blk HB13.out ⟨HB13.out.lt, by omega⟩
    have hml9 := HML.out
    have hle := redA_le arcs k
    obtain ⟨p, hp⟩ : ∃ p, p = (redA (arcs.take k)).length := ⟨_, rfl⟩
    rw [← hp] at hbg hro hle
    have d0 : wr.cell? ⟨w.heap.size, 2, none⟩ = some (.slice A3 m c3) := by rw [hb1r.cell]; rfl
    by_cases hkn : k < m
    · have t0 : decide (k < m) = true := by simpa using hkn
      have t0' : decide ((k : Int) < (m : Int)) = true := by simp; omega
      obtain ⟨ba, oa, a, rfl, hSa, hav, hca⟩ := (HA3.out.keep (hkr.mono (fun i hi => ⟨HS3'.out i hi, by have := HS.out i hi; omega⟩))).at_ encArc_len hkn
      have i0 : (0 : Int) ≤ k := by omega
      have i1 : (k : Int) < m := by omega
      have x3 : wr.cell? ⟨ba, oa + k * 4 + 3, none⟩ = some (.int .i64 a.at_) := hca 3 _ rfl
      have hsn := redA_snoc hav
      by_cases hat0 : a.at_ = 0
      · have t1 : ((a.at_ : Int) != 0) = false := by simp; exact hat0
        have t1' : (a.at_ != 0) = false := by simpa using hat0
        rw [if_pos hat0] at hsn
        have hfin : ∀ wx, Keep wr wx → RdR A1 n c1 (.slice A2 n2 c2) arcs g w w3 (.int .i64 ((k : Int) + 1)) wx := fun wx hx => ⟨k + 1, R1, rc1, by go_num, by omega, by rw [hsn, ← hp]; exact hx.blk hbg hbg.lt, by rw [hsn, ← hp]; exact ownsRow_same hro hx (fun i hi => hi.2), Only.keep hkr hx⟩
        have HFIN := Lib.hid hfin
        clear hfin
        clear hbg hro hkr hb1r hca hsn hav
        go_wp2_with fail
        go_roundw
        case rel => exact HFIN.out _ (Same.refl _ _)
        case measure => simp [intOf]; omega
      · have t1 : ((a.at_ : Int) != 0) = true := by simp; exact hat0
        have t1' : (a.at_ != 0) = true := by simpa using hat0
        rw [if_neg hat0] at hsn
        have hgl := hbg.lt
        have hng : (Value.slice R1 p rc1).ownBlock ≠ some g := fun e => by have := (hro.lt g e).1; have := HK3.out.size; omega
        have hba : ba < w3.heap.size := HS3'.out _ hSa
        have hnb : ∀ b, b < w3.heap.size → (Value.slice R1 p rc1).ownBlock ≠ some b := fun b hb e => by have := (hro.lt b e).1; omega
        have y2 : ∀ wx, ApX wr (.slice R1 p rc1) wx → wx.cell? ⟨g, 2, none⟩ = some (.slice R1 p rc1) := fun wx hx => by rw [(Same.blk hx hbg ⟨hgl, hng⟩).cell]; rfl
        have z2 : ∀ wx, ApX wr (.slice R1 p rc1) wx → wx.cell? ⟨w.heap.size, 2, none⟩ = some (.slice (some ⟨ba, oa, none⟩) m c3) := fun wx hx => by rw [(Same.blk hx hb1r ⟨hb1r.lt, hnb _ HB13.out.lt⟩).cell]; rfl
        have hra : ∀ wx, ApX wr (.slice R1 p rc1) wx → wx.rangeAt ba (oa + k * 4) [.int .i64 a.frm, .int .i64 a.idx, .int .i64 a.to_, .int .i64 a.at_] := fun wx hx i u hu => (Same.cell hx (p := ⟨ba, oa + k * 4 + i, none⟩) ⟨by show ba < _; omega, hnb _ hba⟩).trans (hca i u hu)
        have HBG := Lib.hid hbg
        have HRO := Lib.hid hro
        have HKR := Lib.hid hkr
        have HB1R := Lib.hid hb1r
        have HSN := Lib.hid hsn
        have HRA := Lib.hid hra
        have HNG := Lib.hid hng
        have HP := Lib.hid hp
        clear hbg hro hkr hb1r hsn hra hng hp
        clear hca hav
        go_upto_region 6 with fail
        clear d0 x3
        refine wp_region_L 10 (fun wx => ApX wr (.slice R1 p rc1) wx) (fun _ => True) (by kernel_rfl) (Same.drew (Same.refl _ _)) trivial (fun hA hB => ?_)
        have hku : Keep wr wr.drew := Same.drew (Same.refl _ _)
        generalize hu0 : wr.drew = u0 at hA hku ⊢
        clear hu0
        refine wpL_takeA (i := 0) (v := ?_) rfl (by kernel_rfl) (by kernel_rfl) (by kernel_rfl) (by kernel_rfl) (by decide) (fun _ _ _ h => h) (Or.inl ⟨by rfl, ?_⟩) hA hB ?_
        rotate_left
        · rintro wx ⟨hAx, hBx⟩
          (try dsimp only at hBx); (try dsimp only at hAx)
          go_simp
          try with_reducible rfl
        try simp only [Act.put, List.setIfInBounds_toArray, List.set_cons_zero, List.set_cons_succ]
        refine wpL_takeA (i := 1) (v := ?_) rfl (by kernel_rfl) (by kernel_rfl) (by kernel_rfl) (by kernel_rfl) (by decide) (fun _ _ _ h => h) (Or.inl ⟨by rfl, ?_⟩) hA hB ?_
        rotate_left
        · rintro wx ⟨hAx, hBx⟩
          (try dsimp only at hBx); (try dsimp only at hAx)
          go_simp
          try with_reducible rfl
        try simp only [Act.put, List.setIfInBounds_toArray, List.set_cons_zero, List.set_cons_succ]
        refine wpL_takeA (i := 2) (v := ?_) rfl (by kernel_rfl) (by kernel_rfl) (by kernel_rfl) (by kernel_rfl) (by decide) (fun _ _ _ h => h) (Or.inl ⟨by rfl, ?_⟩) hA hB ?_
        rotate_left
        · rintro wx ⟨hAx, hBx⟩
          (try dsimp only at hBx); (try dsimp only at hAx)
          go_simp
          try with_reducible rfl
        try simp only [Act.put, List.setIfInBounds_toArray, List.set_cons_zero, List.set_cons_succ]
        refine wpL_takeA (i := 3) (v := ?_) rfl (by kernel_rfl) (by kernel_rfl) (by kernel_rfl) (by kernel_rfl) (by decide) (fun _ _ _ h => h) (Or.inl ⟨by rfl, ?_⟩) hA hB ?_
        rotate_left
        · rintro wx ⟨hAx, hBx⟩
          (try dsimp only at hBx); (try dsimp only at hAx)
          go_simp
          try with_reducible rfl
        try simp only [Act.put, List.setIfInBounds_toArray, List.set_cons_zero, List.set_cons_succ]
        refine wpL_takeA (i := 4) (v := ?_) rfl (by kernel_rfl) (by kernel_rfl) (by kernel_rfl) (by kernel_rfl) (by decide) (fun _ _ _ h => h) (Or.inl ⟨by rfl, ?_⟩) hA hB ?_
        rotate_left
        · rintro wx ⟨hAx, hBx⟩
          (try dsimp only at hBx); (try dsimp only at hAx)
          go_simp
          try with_reducible rfl
        try simp only [Act.put, List.setIfInBounds_toArray, List.set_cons_zero, List.set_cons_succ]
        refine wpL_takeA (i := 5) (v := ?_) rfl (by kernel_rfl) (by kernel_rfl) (by kernel_rfl) (by kernel_rfl) (by decide) (fun _ _ _ h => h) (Or.inl ⟨by rfl, ?_⟩) hA hB ?_
        rotate_left
        · rintro wx ⟨hAx, hBx⟩
          (try dsimp only at hBx); (try dsimp only at hAx)
          go_simp
          try with_reducible rfl
        try simp only [Act.put, List.setIfInBounds_toArray, List.set_cons_zero, List.set_cons_succ]
        refine wpL_takeA (i := 6) rfl (by kernel_rfl) (by kernel_rfl) (by kernel_rfl) (by kernel_rfl) (by decide) (fun _ _ _ h => h) (yieldsIf_load_mid (by rfl) _ _ rfl ba (oa + k * 4) rfl [.int .i64 a.frm, .int .i64 a.idx, .int .i64 a.to_, .int .i64 a.at_] _ (fun wx hx => HRA.out wx hx.1) Try.underlying62 rfl (by kernel_rfl)) hA hB ?_
        try simp only [Act.put, List.setIfInBounds_toArray, List.set_cons_zero, List.set_cons_succ]
        refine wpL_one (i := 7) (by kernel_rfl) (StepL.mk rfl (fun K hK => ?_))
        refine step_buildS rfl _ _ _ _ rfl Try.underlying30 _ [(0, .agg #[.int .i64 a.frm, .int .i64 a.idx, .int .i64 a.to_, .int .i64 a.at_])] rfl (builtS_arc _ _ _ _) ?_
        have hkb : Keep u0 (u0.alloc (.cells #[.int .i64 a.frm, .int .i64 a.idx, .int .i64 a.to_, .int .i64 a.at_] 62)) := Keep.new _ _
        have hrd := Reads.new (w := u0) (e := 62) (cs := [.int .i64 a.frm, .int .i64 a.idx, .int .i64 a.to_, .int .i64 a.at_]) (size := 4) (n := 1) rfl
        have hA9 := Keep.trans hku hkb
        refine hK.out _ _ (SAB.both (apx_keep hA9) trivial) (fun hSS => ?_)
        clear hK K hA hB
        have hB := hSS.2
        have hA := hSS.1 (by kernel_rfl)
        (try dsimp only at hB); (try dsimp only at hA); clear hSS
        try simp only [Act.put, List.setIfInBounds_toArray, List.set_cons_zero, List.set_cons_succ]
        generalize hu2 : u0.alloc (.cells #[.int .i64 a.frm, .int .i64 a.idx, .int .i64 a.to_, .int .i64 a.at_] 62) = u2 at *
        have hzu := hA9.size
        have hro2 := ownsRow_same HRO.out hA9 (fun i hi => hi.2)
        refine wpL_one (i := 8) (by kernel_rfl) (StepL.mk rfl (fun K hK => ?_))
        refine step_append_any _ (by rfl) (.tmp 25) (.tmp 31) _ (by rfl) w3.heap.size 62 iA _ 4 32 Try.underlying30 HJ0.out JZ0.out JS0.out JB0.out rfl (by omega) (.slice R1 p rc1) p ((redA (arcs.take k)).flatMap encArc) (by rfl) hro2 _ (some ⟨u0.heap.size, 0, none⟩) 1 1 (encArc a) (by rfl) hrd (encArc_one a) (by simp [maxLen]; omega) (by omega) (by omega) ?_
        intro vb wb hownb hgb' hatb
        have hA3 : Same (fun i => i < u2.heap.size ∧ (Value.slice R1 p rc1).ownBlock ≠ some i) u2 wb := Same.grown (Same.refl _ _) hgb' (fun i hi => hi.1) (fun k hk hh => hh.2 hk)
        have hgbb := hA3.blk (hA9.blk HBG.out hgl) ⟨by omega, HNG.out⟩
        have hkb3 : Only g w3 wb := Same.append (Only.keep HKR.out hA9) hro2 hgb' (fun i hi => hi.1) (by omega)
        have hvg : ∀ b, vb.ownBlock = some b → b ≠ g := fun b hb => by
          rcases hatb with h | h
          · rw [h] at hb; exact fun e => HNG.out (e ▸ hb)
          · rw [h] at hb; injection hb with hb; omega
        have hApx : ApX wr (.slice R1 p rc1) wb := Same.trans (apx_keep hA9) hA3 (fun i hi => ⟨by have := hi.1; omega, hi.2⟩)
        obtain ⟨Ab, cb, hvb, hnb, hcb⟩ := own_form hownb
        subst hvb
        clear hkb hrd hgb' hatb hA3 y2 z2 hA9 hku
        refine hK.out _ _ (SAB.both hApx trivial) (fun hSS => ?_)
        clear hK K hA hB
        have hB := hSS.2
        have hA := hSS.1 (by kernel_rfl)
        (try dsimp only at hB); (try dsimp only at hA); clear hSS
        try simp only [Act.put, List.setIfInBounds_toArray, List.set_cons_zero, List.set_cons_succ]
        refine wpL_takeA (i := 9) (v := ?_) rfl (by kernel_rfl) (by kernel_rfl) (by kernel_rfl) (by kernel_rfl) (by decide) (fun _ _ _ h => h) (Or.inl ⟨by rfl, ?_⟩) hA hB ?_
        rotate_left
        · rintro wx ⟨hAx, hBx⟩
          (try dsimp only at hBx); (try dsimp only at hAx)
          go_simp
          try with_reducible rfl
        try simp only [Act.put, List.setIfInBounds_toArray, List.set_cons_zero, List.set_cons_succ]
        refine wpL_one (i := 10) (by kernel_rfl) (StepL.mk rfl (fun K hK => ?_))
        refine step_store_one rfl _ _ _ rfl g 2 32 _ (.slice Ab (p + 1) cb) rfl rfl hgbb (by simp) (by kernel_rfl) rfl rfl ?_
        intro w6 hb6 hs6
        have hro6 := ownsRow_own hownb hs6 (fun b hb e => hvg b hb e)
        have hfl : (redA (arcs.take k) ++ [a]).flatMap encArc = (redA (arcs.take k)).flatMap encArc ++ encArc a := by simp
        have hfin : RdR A1 n c1 (.slice A2 n2 c2) arcs g w w3 (.int .i64 ((k : Int) + 1)) w6 := ⟨k + 1, Ab, cb, by go_num, by omega, by rw [HSN.out, List.length_append, ← HP.out]; simpa using hb6, by rw [HSN.out, List.length_append, ← HP.out, hfl]; exact hro6, Same.trans hkb3 hs6 (fun i hi => hi.2)⟩
        refine hK.out _ _ (SAB.past (by kernel_rfl) trivial) (fun hSS => ?_)
        clear hK K hA hB
        have hB := hSS.2
        have hA : True := trivial
        (try dsimp only at hB); (try dsimp only at hA); clear hSS
        try simp only [Act.put, List.setIfInBounds_toArray, List.set_cons_zero, List.set_cons_succ]
        refine wpL_done (by kernel_rfl) ?_
        have HFIN := Lib.hid hfin
        clear hfin
        clear hb6 hs6 hownb hgbb hkb3 hApx hro2 hvg hro6
        go_wp2_with fail
        go_roundw
        case rel => exact HFIN.out
        case measure => simp [intOf]; omega
    · have t0 : decide (k < m) = false := by simpa using hkn
      have t0' : decide ((k : Int) < (m : Int)) = false := by simp; omega
      obtain rfl : k = m := by omega
      have hall : redA (arcs.take k) = redA arcs := by rw [List.take_of_length_le (by omega)]
      rw [hall] at hro hp
      have hb2r := hkr.blk HB23.out ⟨HB23.out.lt, by omega⟩
      have HBG := Lib.hid hbg
      have HRO := Lib.hid hro
      have HKR := Lib.hid hkr
      have HP := Lib.hid hp
      have HB2R := Lib.hid hb2r
      clear hbg hro hkr hp hb2r
      clear hb1r
      go_wp2_with (first
        | (refine wpList_load_all rfl _ (.tmp 3) rfl g 32 [.slice A1 n c1, .slice A2 n2 c2, .slice R1 p rc1] _ rfl HBG.out Try.underlying32 rfl (by kernel_rfl) ?_)
        | (refine wpList_store_all rfl _ (.tmp 2) (.tmp 34) rfl (w.heap.size + 1) 32 _ [.slice A1 n c1, .slice A2 n2 c2, .slice R1 p rc1] rfl rfl HB2R.out rfl (by kernel_rfl) rfl ?_; intro v6 hv6 hs6))
      refine bodyPost_ret (results_cell1 Try.results21 _ _ _ ⟨w.heap.size + 1, 0, none⟩ _ rfl (loadVar_blk [.slice A1 n c1, .slice A2 n2 c2, .slice R1 p rc1] _ hv6 (fun j v hv => by simpa using hv) Try.underlying32 rfl (by kernel_rfl))) rfl ?_
      have hs9 := own_arcs HRO.out
      have hz6 := hs6.size
      have hk39 := HK3.out.size
      have hfin : Sl encArc 4 v6 (New v6 w.heap.size) R1 p rc1 (redA arcs) := (hs9.keep (hs6.mono (fun i hi => by have := hi.1; show i ≠ _; omega))).more (fun i hi => ⟨by have := hi.1; omega, by have := hi.2; omega⟩)
      unfold RedPost
      rw [← HP.out]
      exact ⟨R1, rc1, rfl, hfin, Keep.write (Same.trans (Keep.trans HKW.out HK3.out) HKR.out (fun i (hi : i < w.heap.size) => ⟨by have := HKW.out.size; omega, by omega⟩)) hs6 (by omega)⟩
end Go.Proofs.Ytcfpkmfppgodmaa
