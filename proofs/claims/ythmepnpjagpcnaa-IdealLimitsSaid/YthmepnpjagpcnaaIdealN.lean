/- ideal: run, Play, World. -/
import Derived.Test.YthmepnpjagpcnaaIdealW
set_option linter.unusedVariables false
set_option linter.unusedSimpArgs false
set_option maxRecDepth 100000
namespace Go.Proofs.Ythmepnpjagpcnaa
open Go.RowKit Go.Proofs

def nil4 : List Value := [.slice none 0 0, .slice none 0 0, .slice none 0 0, .slice none 0 0]
theorem info_State : (Try.prog.info? 105).map (fun i => (i.zero, i.size, i.bytes)) = some (some (.agg nil4.toArray), 4, 96) := by kernel_rfl
def statesA (n : Nat) : Array Value := (List.replicate n nil4).flatten.toArray
theorem made_states : ∀ n : Nat, n ≤ 5 → madeCells (Value.cells (.agg nil4.toArray)) (n * 4) = statesA n
  | 0, _ => by kernel_rfl
  | 1, _ => by kernel_rfl
  | 2, _ => by kernel_rfl
  | 3, _ => by kernel_rfl
  | 4, _ => by kernel_rfl
  | 5, _ => by kernel_rfl
  | n + 6, h => by omega
theorem bld_mi (A : Option Addr) (n c g m : Nat) : Try.prog.built 110 [(0, .slice A n c), (1, .slice (some ⟨g, 0, none⟩) m m)] = some #[.slice A n c, .slice (some ⟨g, 0, none⟩) m m, .slice none 0 0] := by kernel_rfl
theorem zero_StR {w : World} {S : Nat → Prop} : StR w S nil4 zeroSt := ⟨none, none, none, none, 0, 0, 0, 0, 0, 0, 0, 0, rfl, Sl.nil_, Sl.nil_, Sl.nil_, Sl.nil_⟩
theorem zeros_StsR {w : World} {X : Nat → Prop} (n : Nat) : StsR w X (List.replicate n nil4) (List.replicate n zeroSt) := by
  refine ⟨by simp, fun cs h => by rw [List.eq_of_mem_replicate h]; rfl, fun k cs s e1 e2 => ?_⟩
  rw [List.eq_of_mem_replicate (List.mem_of_getElem? e1), List.eq_of_mem_replicate (List.mem_of_getElem? e2)]
  exact zero_StR
/-- The machine when k processes have started. -/
noncomputable def begunI (cs : List Cd) (n k : Nat) : Mi := ⟨(startI cs k).ss ++ List.replicate (n - k) zeroSt, (startI cs k).world⟩
theorem begun_len (cs : List Cd) {n k : Nat} (h : k ≤ n) : (begunI cs n k).ss.length = n := by simp [begunI, startI_len]; omega
theorem begun_next (cs : List Cd) {n k : Nat} (h : k < n) (hn : n = cs.length) : (⟨(begunI cs n k).ss.set k (startS (cs.getD k zeroCd) k n), (begunI cs n k).world ++ showS k 0 (startS (cs.getD k zeroCd) k n).outs⟩ : Mi) = begunI cs n (k + 1) := by
  unfold begunI
  have hl := startI_len cs k
  have e : n - k = (n - (k + 1)) + 1 := by omega
  rw [e, List.replicate_succ]
  simp only [startI]
  rw [← hn, List.set_append_right _ _ (by omega), hl, Nat.sub_self, List.set_cons_zero, List.append_assoc]
  rfl
theorem begun_done (cs : List Cd) : begunI cs cs.length cs.length = startI cs cs.length := by
  unfold begunI
  rw [Nat.sub_self]
  simp
theorem begun_get (cs : List Cd) {n k : Nat} (h : k < n) : (begunI cs n k).ss.getD k zeroSt = zeroSt := by
  unfold begunI
  rw [getD_right (by rw [startI_len]; omega), startI_len, Nat.sub_self]
  have e : n - k = (n - (k + 1)) + 1 := by omega
  rw [e, List.replicate_succ]
  rfl
def IRunPost (cs : List Cd) (l : List Chc) (VC : Value) (w : World) (e : Ending) (w' : World) : Prop :=
  Keep w w' ∧ ((∃ (m : Mi) (gm base gs : Nat) (A : Option Addr) (c : Nat) (css : List (List Value)), runI cs l = .ok m ∧ e = .returned (.tuple #[.pointer (some ⟨gm, 0, none⟩), .int .i64 0]) ∧ w.heap.size ≤ base ∧ MiM w' base gm gs VC A c css m) ∨
    (∃ k : Int, runI cs l = .error k ∧ k ≠ 0 ∧ e = .returned (.tuple #[.pointer none, .int .i64 k])))
def Run1 (cs : List Cd) (n base gm gs : Nat) (VC : Value) (W : World) (i : Value) (wr : World) : Prop :=
  ∃ (k : Nat) (A : Option Addr) (c : Nat) (css : List (List Value)), i = .int .i64 k ∧ k ≤ n ∧ MiM wr base gm gs VC A c css (begunI cs n k) ∧ Same (· < base) W wr
def Run2 (cs : List Cd) (l : List Chc) (base gm gs : Nat) (VC : Value) (W : World) (i : Value) (wr : World) : Prop :=
  ∃ (k : Nat) (A : Option Addr) (c : Nat) (css : List (List Value)) (m : Mi), i = .int .i64 k ∧ k ≤ l.length ∧ playI cs (startI cs cs.length) (l.take k) = .ok m ∧ m.world.length ≤ 8 * (cs.length + k) ∧ MiM wr base gm gs VC A c css m ∧ Same (· < base) W wr
theorem playI_next {cs : List Cd} {m0 m : Mi} {l : List Chc} {k : Nat} {x : Chc} (h : playI cs m0 (l.take k) = .ok m) (hx : l[k]? = some x) : ((eventI m.ss x).2 = 0 → playI cs m0 (l.take (k + 1)) = .ok (execI cs m x.proc.toNat (eventI m.ss x).1)) ∧ ((eventI m.ss x).2 ≠ 0 → playI cs m0 l = .error (eventI m.ss x).2) := by
  obtain ⟨hk, e⟩ := List.getElem?_eq_some_iff.1 hx
  refine ⟨fun h0 => ?_, fun h0 => ?_⟩
  · rw [List.take_succ_eq_append_getElem hk, e, playI_snoc h x, if_pos h0]
  · rw [← List.take_append_drop k l, playI_app, h, drop_cons hx]
    show playI cs m (x :: l.drop (k + 1)) = _
    rw [playI, if_neg h0]
set_option maxHeartbeats 32000000 in
theorem idrun_any (w : World) (S : Nat → Prop) (AC AL : Option Addr) (n cC nl cl : Nat) (x1 x2 : Int) (cs : List Cd) (l : List Chc) (hS : ∀ i, S i → i < w.heap.size) (hC : CdsR w S AC n cC cs) (hic : ∀ c ∈ cs, c.init.length ≤ 1000000) (hl : Sl encCh 6 w S AL nl cl l) (hn : n ≤ 1000) (hnl : nl ≤ 1000) :
    Calls Try.prog 42 #[.agg #[.slice AC n cC, .int .i64 x1, .int .i64 x2], .slice AL nl cl] w (IRunPost cs l (.slice AC n cC) w) := by
  obtain ⟨i0, hi0, iz0, is0, ib0⟩ := info_of info_State
  have hcl := hC.1
  have hll := hl.1
  generalize hW : w.alloc (.cells #[.slice AC n cC, .int .i64 x1, .int .i64 x2] 59) = W
  have hkW : Keep w W := hW ▸ Keep.new w _
  have hbc : Blk W w.heap.size 59 #[.slice AC n cC, .int .i64 x1, .int .i64 x2] := hW ▸ Blk.new w _ _
  have hz : w.heap.size < W.heap.size := hbc.lt
  have c0 : W.cell? ⟨w.heap.size, 0, none⟩ = some (.slice AC n cC) := by rw [hbc.cell]; rfl
  have bad : ∀ k : Int, runI cs l = .error k → k ≠ 0 → IRunPost cs l (.slice AC n cC) w (.returned (.tuple #[.pointer none, .int .i64 k])) W := fun k h h0 => ⟨hkW, .inr ⟨k, h, h0, rfl⟩⟩
  have HS := Lib.hid hS
  have HC := Lib.hid hC
  have HIC := Lib.hid hic
  have HL := Lib.hid hl
  have HCL := Lib.hid hcl
  have HLL := Lib.hid hll
  have HKW := Lib.hid hkW
  have HBC := Lib.hid hbc
  have HI0 := Lib.hid hi0
  have IZ0 := Lib.hid iz0
  have IS0 := Lib.hid is0
  have IB0 := Lib.hid ib0
  have BAD := Lib.hid bad
  clear hS hC hic hl hcl hll hkW hbc hi0 iz0 is0 ib0 bad
  go_enter Try.func42, Try.ntmps42
  go_upto_region 2 with fail
  clear hW
  by_cases hn1 : n < 1
  · have t1 : decide ((n : Int) < 1) = true := by simp; omega
    have hfin := BAD.out 3 (by unfold runI; rw [if_pos (.inl (by have := HCL.out; omega))]) (by omega)
    have HFIN := Lib.hid hfin
    clear hfin
    go_wp2_with fail
    go_ret2
    exact HFIN.out
  have t1 : decide ((n : Int) < 1) = false := by simp; omega
  by_cases hn5 : 5 < n
  · have t2 : decide ((5 : Int) < n) = true := by simp; omega
    have hfin := BAD.out 3 (by unfold runI; rw [if_pos (.inr (by have := HCL.out; omega))]) (by omega)
    have HFIN := Lib.hid hfin
    clear hfin
    go_wp2_with fail
    go_ret2
    exact HFIN.out
  have t2 : decide ((5 : Int) < n) = false := by simp; omega
  by_cases hl3 : 320 < nl
  · have t3 : decide ((320 : Int) < nl) = true := by simp; omega
    have hfin := BAD.out 4 (by unfold runI; rw [if_neg (by have := HCL.out; omega), if_pos (by have := HLL.out; omega)]) (by omega)
    have HFIN := Lib.hid hfin
    clear hfin
    go_wp2_with fail
    go_ret2
    exact HFIN.out
  have t3 : decide ((320 : Int) < nl) = false := by simp; omega
  have hrun : runI cs l = playI cs (startI cs cs.length) l := runI_of (by have := HCL.out; omega) (by have := HCL.out; omega) (by have := HLL.out; omega)
  have HRUN := Lib.hid hrun
  clear hrun
  go_upto_region 6 with fail
  clear t1 t2 t3 c0
  have hmk := fun W => run_make_row (P := Try.prog) 64 105 i0 _ Try.underlying64 HI0.out IZ0.out .i64 .i64 n n (Nat.le_refl _) (by rw [IB0.out]; omega) (by omega) W
  rw [IS0.out, made_states n (by omega)] at hmk
  have c0 : ∀ wx, Keep W wx → wx.cell? ⟨w.heap.size, 0, none⟩ = some (.slice AC n cC) := fun wx hx => (hx.cell (p := ⟨w.heap.size, 0, none⟩) HBC.out.lt).trans (by rw [HBC.out.cell]; rfl)
  refine wp_region_L 99 (fun _ => True) (fun wx => Keep W wx) (by kernel_rfl) trivial (Same.drew (Same.refl _ _)) (fun hA hB => ?_)
  generalize hu0 : W.drew = u0 at hB ⊢
  clear hu0
  have hz0 := hB.size
  refine wpL_takeB (i := 0) (v := ?_) rfl (by kernel_rfl) (by kernel_rfl) (by kernel_rfl) (by decide) (fun _ _ _ h => h) (Or.inl ⟨by rfl, ?_⟩) (SAB.both hA hB) ?_
  rotate_left
  · intro wx hBx
    (try dsimp only at hBx)
    go_simp
    try with_reducible rfl
  try simp only [Act.put, List.setIfInBounds_toArray, List.set_cons_zero, List.set_cons_succ]
  refine wpL_takeB (i := 1) (v := ?_) rfl (by kernel_rfl) (by kernel_rfl) (by kernel_rfl) (by decide) (fun _ _ _ h => h) (Or.inl ⟨by rfl, ?_⟩) (SAB.both hA hB) ?_
  rotate_left
  · intro wx hBx
    (try dsimp only at hBx)
    go_simp
    try with_reducible rfl
  try simp only [Act.put, List.setIfInBounds_toArray, List.set_cons_zero, List.set_cons_succ]
  refine wpL_takeB (i := 2) (v := ?_) rfl (by kernel_rfl) (by kernel_rfl) (by kernel_rfl) (by decide) (fun _ _ _ h => h) (Or.inl ⟨by rfl, ?_⟩) (SAB.both hA hB) ?_
  rotate_left
  · intro wx hBx
    (try dsimp only at hBx)
    go_simp
    try with_reducible rfl
  try simp only [Act.put, List.setIfInBounds_toArray, List.set_cons_zero, List.set_cons_succ]
  clear c0
  refine wpL_one (i := 3) (by kernel_rfl) (StepL.mk rfl (fun K hK => ?_))
  go_simp
  have hk1 : Keep W (u0.alloc (.cells (statesA n) 105)) := Keep.alloc hB _
  have hs1 : Blk (u0.alloc (.cells (statesA n) 105)) u0.heap.size 105 (statesA n) := Blk.new u0 _ _
  refine hK.out _ _ (SAB.both trivial hk1) (fun hSS => ?_)
  clear hK K hA hB
  have hB := hSS.2
  have hA := hSS.1 (by kernel_rfl)
  (try dsimp only at hB); (try dsimp only at hA); clear hSS
  try simp only [Act.put, List.setIfInBounds_toArray, List.set_cons_zero, List.set_cons_succ]
  generalize hq1 : u0.alloc (.cells (statesA n) 105) = w1 at *
  have hzz : u0.heap.size < w1.heap.size := hs1.lt
  generalize hgs : u0.heap.size = gs at *
  have HS1 := Lib.hid hs1
  clear hs1
  clear hgs hq1 hmk
  refine wpL_takeB (i := 4) rfl (by kernel_rfl) (by kernel_rfl) (by kernel_rfl) (by decide) (fun _ _ _ h => h) (yieldsIf_bld (by rfl) 110 _ rfl _ [(0, .slice AC n cC), (1, .slice (some ⟨gs, 0, none⟩) n n)] rfl (bld_mi _ _ _ _ _)) (SAB.both hA hB) ?_
  try simp only [Act.put, List.setIfInBounds_toArray, List.set_cons_zero, List.set_cons_succ]
  refine wpL_one (i := 5) (by kernel_rfl) (StepL.mk rfl (fun K hK => ?_))
  go_simp
  have hk2 : Keep w1 (w1.alloc (.cells #[.slice AC n cC, .slice (some ⟨gs, 0, none⟩) n n, .slice none 0 0] 110)) := Keep.new _ _
  have hb2 : Blk (w1.alloc (.cells #[.slice AC n cC, .slice (some ⟨gs, 0, none⟩) n n, .slice none 0 0] 110)) w1.heap.size 110 #[.slice AC n cC, .slice (some ⟨gs, 0, none⟩) n n, .slice none 0 0] := Blk.new _ _ _
  have hk12 := Keep.trans hk1 hk2
  refine hK.out _ _ (SAB.both trivial hk12) (fun hSS => ?_)
  clear hK K hA hB
  have hB := hSS.2
  have hA := hSS.1 (by kernel_rfl)
  (try dsimp only at hB); (try dsimp only at hA); clear hSS
  try simp only [Act.put, List.setIfInBounds_toArray, List.set_cons_zero, List.set_cons_succ]
  generalize hq2 : w1.alloc (.cells #[.slice AC n cC, .slice (some ⟨gs, 0, none⟩) n n, .slice none 0 0] 110) = w2 at *
  refine wpL_takeB (i := 6) (v := ?_) rfl (by kernel_rfl) (by kernel_rfl) (by kernel_rfl) (by decide) (fun _ _ _ h => h) (Or.inl ⟨by rfl, ?_⟩) (SAB.both hA hB) ?_
  rotate_left
  · intro wx hBx
    (try dsimp only at hBx)
    go_simp
    try with_reducible rfl
  try simp only [Act.put, List.setIfInBounds_toArray, List.set_cons_zero, List.set_cons_succ]
  refine wpL_done (by kernel_rfl) ?_
  have hs2 := hk2.blk HS1.out HS1.out.lt
  have hm0 : MiM w2 W.heap.size w1.heap.size gs (.slice AC n cC) none 0 (List.replicate n nil4) (begunI cs n 0) := by
    refine ⟨by omega, hz0, by omega, ?_, World.ownsRow_nil _ _ _ _, ?_, hs2, ?_⟩
    · rw [begun_len cs (Nat.zero_le n)]
      exact hb2
    · intro b e
      cases e
    · have e0 : (begunI cs n 0).ss = List.replicate n zeroSt := by simp [begunI, startI]
      rw [e0]
      exact zeros_StsR n
  have hfr0 : Keep W w2 := hk12
  have hrel0 : Run1 cs n W.heap.size w1.heap.size gs (.slice AC n cC) w2 (.int .i64 0) w2 := ⟨0, none, 0, _, rfl, Nat.zero_le _, hm0, Same.refl _ _⟩
  have HREL0 := Lib.hid hrel0
  have HFR0 := Lib.hid hfr0
  clear hrel0 hfr0
  have hW2 : w1.heap.size < w2.heap.size := hb2.lt
  clear hs2 hm0 hk12 hk2 hk1 hb2 hq2 hA hB HS1
  generalize hgm : w1.heap.size = gm at *
  clear hgm
  go_wp2_with fail
  go_loopw [32] (fun i wr => Run1 cs n W.heap.size gm gs (.slice AC n cC) w2 i wr) (fun i _ => n - (intOf i).toNat)
  case atStart => exact HREL0.out
  case round =>
    obtain ⟨k, A, c, css, rfl, hkn, hmr, hsr⟩ := hrel
    have hzr := hsr.size
    by_cases hk : k < n
    · have d1 : decide (k < n) = true := by simpa using hk
      have hks : Same S w wr := Same.trans (Same.mono (Keep.trans HKW.out HFR0.out) HS.out) (hsr.mono (fun i (hi : S i) => by have := HS.out i hi; show i < W.heap.size; omega)) (fun i hi => hi)
      obtain ⟨bC, oC, D0, D1, D2, D3, D4, d0, f0, d1, f1, d2, f2, d3, f3, d4, f4, rfl, hCbC, hcd, hcr⟩ := (HC.out.keep hks).at_ hk
      have hbcr := hsr.blk (HFR0.out.blk HBC.out HBC.out.lt) hz
      have hm4 := hmr.2.2.2.1
      have hms := hmr.2.2.2.2.2.2.1
      have hml : (begunI cs n k).ss.length = n := begun_len cs hkn
      have hSb := HS.out _ hCbC
      have k0 : ∀ wx, Keep wr wx → wx.cell? ⟨w.heap.size, 0, none⟩ = some (.slice (some ⟨bC, oC, none⟩) n cC) := fun wx hx => (hx.cell (p := ⟨w.heap.size, 0, none⟩) hbcr.lt).trans (by rw [hbcr.cell]; rfl)
      have k1 : ∀ wx, Keep wr wx → wx.cell? ⟨gm, 1, none⟩ = some (.slice (some ⟨gs, 0, none⟩) n n) := fun wx hx => (hx.cell (p := ⟨gm, 1, none⟩) hm4.lt).trans (by rw [hm4.cell, hml]; rfl)
      have rgC : ∀ wx, Keep wr wx → wx.rangeAt bC (oC + k * 5) [.slice D0 d0 f0, .slice D1 d1 f1, .slice D2 d2 f2, .slice D3 d3 f3, .slice D4 d4 f4] := fun wx hx j u hu => (hx.cell (p := ⟨bC, oC + k * 5 + j, none⟩) (by show bC < wr.heap.size; have := HFR0.out.size; omega)).trans (hcr j u hu)
      have g1 : (k : Int) < n := by omega
      have g2 : (0 : Int) ≤ k := by omega
      have hX : ∀ i, MiX gm gs (.slice A (begunI cs n k).world.length c) i → W.heap.size ≤ i ∧ i < wr.heap.size := fun i hi => by
        rcases hi with h | h | h
        · rw [h]; exact ⟨hmr.1, hm4.lt⟩
        · rw [h]; exact ⟨hmr.2.1, hms.lt⟩
        · exact hmr.2.2.2.2.1.lt i h
      have hzW := HFR0.out.size
      have hCS : ∀ i, S i → But wr (MiX gm gs (.slice A (begunI cs n k).world.length c)) i := fun i hi => ⟨by have := HS.out i hi; omega, fun h => by have := HS.out i hi; have := hX i h; omega⟩
      have hwl := startI_world cs k
      have hol := (replayS_len (cs.getD k zeroCd) k n []).2.2.1
      rw [← startS_eq, List.length_nil] at hol
      clear hcr hm4
      have HX := Lib.hid hX
      have RGC := Lib.hid rgC
      have HMR := Lib.hid hmr
      have HMS := Lib.hid hms
      have HML := Lib.hid hml
      have HSR := Lib.hid hsr
      have HBCR := Lib.hid hbcr
      have HCD := Lib.hid hcd
      have HKS := Lib.hid hks
      clear hX rgC hmr hms hml hsr hbcr hcd hks
      have HCS2 := Lib.hid hCS
      clear hCS
      go_wp2_with fail
      refine wp_region_L 14 (fun wx => Keep wr wx) (fun _ => True) (by kernel_rfl) (Same.drew (Same.refl _ _)) trivial (fun hA hB => ?_)
      generalize hu0 : wr.drew = u0 at hA ⊢
      clear hu0
      refine wpL_takeA (i := 0) (v := ?_) rfl (by kernel_rfl) (by kernel_rfl) (by kernel_rfl) (by kernel_rfl) (by decide) (fun _ _ _ h => h) (Or.inl ⟨by rfl, ?_⟩) hA hB ?_
      rotate_left
      · rintro wx ⟨hAx, hBx⟩
        (try dsimp only at hBx); (try dsimp only at hAx)
        go_simp
        try with_reducible rfl
      try simp only [Act.put, List.setIfInBounds_toArray, List.set_cons_zero, List.set_cons_succ]
      refine wpL_takeA (i := 1) (v := ?_) rfl (by kernel_rfl) (by kernel_rfl) (by kernel_rfl) (by kernel_rfl) (by decide) (fun _ _ _ h => h) (Or.inl ⟨by rfl, ?_⟩) hA hB ?_
      rotate_left
      · rintro wx ⟨hAx, hBx⟩
        (try dsimp only at hBx); (try dsimp only at hAx)
        go_simp
        try with_reducible rfl
      try simp only [Act.put, List.setIfInBounds_toArray, List.set_cons_zero, List.set_cons_succ]
      refine wpL_takeA (i := 2) (v := ?_) rfl (by kernel_rfl) (by kernel_rfl) (by kernel_rfl) (by kernel_rfl) (by decide) (fun _ _ _ h => h) (Or.inl ⟨by rfl, ?_⟩) hA hB ?_
      rotate_left
      · rintro wx ⟨hAx, hBx⟩
        (try dsimp only at hBx); (try dsimp only at hAx)
        go_simp
        try with_reducible rfl
      try simp only [Act.put, List.setIfInBounds_toArray, List.set_cons_zero, List.set_cons_succ]
      refine wpL_takeA (i := 3) (v := ?_) rfl (by kernel_rfl) (by kernel_rfl) (by kernel_rfl) (by kernel_rfl) (by decide) (fun _ _ _ h => h) (Or.inl ⟨by rfl, ?_⟩) hA hB ?_
      rotate_left
      · rintro wx ⟨hAx, hBx⟩
        (try dsimp only at hBx); (try dsimp only at hAx)
        go_simp
        try with_reducible rfl
      try simp only [Act.put, List.setIfInBounds_toArray, List.set_cons_zero, List.set_cons_succ]
      refine wpL_takeA (i := 4) (v := ?_) rfl (by kernel_rfl) (by kernel_rfl) (by kernel_rfl) (by kernel_rfl) (by decide) (fun _ _ _ h => h) (Or.inl ⟨by rfl, ?_⟩) hA hB ?_
      rotate_left
      · rintro wx ⟨hAx, hBx⟩
        (try dsimp only at hBx); (try dsimp only at hAx)
        go_simp
        try with_reducible rfl
      try simp only [Act.put, List.setIfInBounds_toArray, List.set_cons_zero, List.set_cons_succ]
      refine wpL_takeA (i := 5) (v := ?_) rfl (by kernel_rfl) (by kernel_rfl) (by kernel_rfl) (by kernel_rfl) (by decide) (fun _ _ _ h => h) (Or.inl ⟨by rfl, ?_⟩) hA hB ?_
      rotate_left
      · rintro wx ⟨hAx, hBx⟩
        (try dsimp only at hBx); (try dsimp only at hAx)
        go_simp
        try with_reducible rfl
      try simp only [Act.put, List.setIfInBounds_toArray, List.set_cons_zero, List.set_cons_succ]
      refine wpL_takeA (i := 6) (v := ?_) rfl (by kernel_rfl) (by kernel_rfl) (by kernel_rfl) (by kernel_rfl) (by decide) (fun _ _ _ h => h) (Or.inl ⟨by rfl, ?_⟩) hA hB ?_
      rotate_left
      · rintro wx ⟨hAx, hBx⟩
        (try dsimp only at hBx); (try dsimp only at hAx)
        go_simp
        try with_reducible rfl
      try simp only [Act.put, List.setIfInBounds_toArray, List.set_cons_zero, List.set_cons_succ]
      refine wpL_takeA (i := 7) (v := ?_) rfl (by kernel_rfl) (by kernel_rfl) (by kernel_rfl) (by kernel_rfl) (by decide) (fun _ _ _ h => h) (Or.inl ⟨by rfl, ?_⟩) hA hB ?_
      rotate_left
      · rintro wx ⟨hAx, hBx⟩
        (try dsimp only at hBx); (try dsimp only at hAx)
        go_simp
        try with_reducible rfl
      try simp only [Act.put, List.setIfInBounds_toArray, List.set_cons_zero, List.set_cons_succ]
      refine wpL_takeA (i := 8) (v := ?_) rfl (by kernel_rfl) (by kernel_rfl) (by kernel_rfl) (by kernel_rfl) (by decide) (fun _ _ _ h => h) (Or.inl ⟨by rfl, ?_⟩) hA hB ?_
      rotate_left
      · rintro wx ⟨hAx, hBx⟩
        (try dsimp only at hBx); (try dsimp only at hAx)
        go_simp
        try with_reducible rfl
      try simp only [Act.put, List.setIfInBounds_toArray, List.set_cons_zero, List.set_cons_succ]
      refine wpL_takeA (i := 9) rfl (by kernel_rfl) (by kernel_rfl) (by kernel_rfl) (by kernel_rfl) (by decide) (fun _ _ _ h => h) (yieldsIf_load_mid (by rfl) _ _ rfl bC (oC + k * 5) rfl [.slice D0 d0 f0, .slice D1 d1 f1, .slice D2 d2 f2, .slice D3 d3 f3, .slice D4 d4 f4] _ (fun wx hx => RGC.out wx hx.1) Try.underlying63 rfl (by kernel_rfl)) hA hB ?_
      try simp only [Act.put, List.setIfInBounds_toArray, List.set_cons_zero, List.set_cons_succ]
      refine wpL_takeA (i := 10) (v := ?_) rfl (by kernel_rfl) (by kernel_rfl) (by kernel_rfl) (by kernel_rfl) (by decide) (fun _ _ _ h => h) (Or.inl ⟨by rfl, ?_⟩) hA hB ?_
      rotate_left
      · rintro wx ⟨hAx, hBx⟩
        (try dsimp only at hBx); (try dsimp only at hAx)
        go_simp
        try with_reducible rfl
      try simp only [Act.put, List.setIfInBounds_toArray, List.set_cons_zero, List.set_cons_succ]
      refine wpL_takeA (i := 11) (v := ?_) rfl (by kernel_rfl) (by kernel_rfl) (by kernel_rfl) (by kernel_rfl) (by decide) (fun _ _ _ h => h) (Or.inl ⟨by rfl, ?_⟩) hA hB ?_
      rotate_left
      · rintro wx ⟨hAx, hBx⟩
        (try dsimp only at hBx); (try dsimp only at hAx)
        go_simp
        try with_reducible rfl
      try simp only [Act.put, List.setIfInBounds_toArray, List.set_cons_zero, List.set_cons_succ]
      refine wpL_one (i := 12) (by kernel_rfl) (StepL.mk rfl (fun K hK => ?_))
      go_simp
      have zA := hA.size
      have key := pstart_any u0 (But wr (MiX gm gs (.slice A (begunI cs n k).world.length c))) [.slice D0 d0 f0, .slice D1 d1 f1, .slice D2 d2 f2, .slice D3 d3 f3, .slice D4 d4 f4] (cs.getD k zeroCd) k n (fun i hi => Nat.lt_of_lt_of_le hi.1 hA.size) ((HCD.out.keep (hA.mono (fun i hi => (HCS2.out i hi).1))).more HCS2.out)
      refine key.mono ?_
      rintro e w3 ⟨cs3, rfl, hr3', hk3⟩
      obtain ⟨E1, E2, E3, E4, a1, b1, a2, b2, a3, b3, a4, b4, rfl, hr3⟩ := st_open hr3'
      have hA3 := Keep.trans hA hk3
      clear key hr3'
      refine hK.out _ _ (SAB.both hA3 trivial) (fun hSS => ?_)
      clear hK K hA hB
      have hB := hSS.2
      have hA := hSS.1 (by kernel_rfl)
      (try dsimp only at hB); (try dsimp only at hA); clear hSS
      try simp only [Act.put, List.setIfInBounds_toArray, List.set_cons_zero, List.set_cons_succ]
      refine wpL_takeA (i := 13) (v := ?_) rfl (by kernel_rfl) (by kernel_rfl) (by kernel_rfl) (by kernel_rfl) (by decide) (fun _ _ _ h => h) (Or.inl ⟨by rfl, ?_⟩) hA hB ?_
      rotate_left
      · rintro wx ⟨hAx, hBx⟩
        (try dsimp only at hBx); (try dsimp only at hAx)
        go_simp
        try with_reducible rfl
      try simp only [Act.put, List.setIfInBounds_toArray, List.set_cons_zero, List.set_cons_succ]
      refine wpL_one (i := 14) (by kernel_rfl) (StepL.mk rfl (fun K hK => ?_))
      refine step_store_blk rfl _ _ _ rfl gs (k * 4) 105 _ [.slice E1 a1 b1, .slice E2 a2 b2, .slice E3 a3 b3, .slice E4 a4 b4] rfl rfl (hA3.blk HMS.out HMS.out.lt) (by have := HMR.out.2.2.2.2.2.2.2.flen; have := HML.out; simp only [List.size_toArray, List.length_cons, List.length_nil]; omega) (by kernel_rfl) rfl ?_
      intro w4 hb4 hs4
      have hput := MiM.put (ss := (begunI cs n k).ss) (l := (begunI cs n k).world) HMR.out (p := k) (by have := HML.out; omega) hA3 rfl hr3 (fun i hi => by
        rcases hi with h | h
        · exact ⟨Nat.lt_of_lt_of_le h.1 hA3.size, h.2⟩
        · exact ⟨h.2, fun hh => Nat.lt_irrefl i (Nat.lt_of_lt_of_le (HX.out i hh).2 (Nat.le_trans zA h.1))⟩) hb4 hs4
      have hz4 := hs4.size
      have hz3 := hA3.size
      have hfr : Same (· < W.heap.size) w2 w4 := Same.trans HSR.out (Same.trans (hA3.mono (fun i (hi : i < W.heap.size) => by omega)) hs4 (fun i (hi : i < W.heap.size) => by show i ≠ gs; omega)) (fun i hi => hi)
      clear hb4 hs4 hr3 hk3
      refine hK.out _ _ (SAB.past (by kernel_rfl) trivial) (fun hSS => ?_)
      clear hK K hA hB
      have hB := hSS.2
      have hA : True := trivial
      (try dsimp only at hB); (try dsimp only at hA); clear hSS
      try simp only [Act.put, List.setIfInBounds_toArray, List.set_cons_zero, List.set_cons_succ]
      refine wpL_done (by kernel_rfl) ?_
      have hln : ((begunI cs n k).ss.set k (startS (cs.getD k zeroCd) k n)).length = n := by rw [List.length_set]; exact HML.out
      have hgt : ((begunI cs n k).ss.set k (startS (cs.getD k zeroCd) k n)).getD k zeroSt = startS (cs.getD k zeroCd) k n := getD_set_same (by have := HML.out; omega)
      have hshow := show_any w4 W.heap.size gm gs (.slice (some ⟨bC, oC, none⟩) n cC) A c _ ⟨(begunI cs n k).ss.set k (startS (cs.getD k zeroCd) k n), (begunI cs n k).world⟩ k 0 hput (by omega) (by rw [hln]; exact hn) (by rw [hln]; exact hk) (Nat.zero_le _) (by rw [hgt]; omega) (by show (startI cs k).world.length ≤ 1000000; omega)
      rw [hgt, List.drop_zero, begun_next cs hk HCL.out] at hshow
      have HSHOW := Lib.hid hshow
      have HFR := Lib.hid hfr
      clear hshow hfr
      clear hput hA3 hA hB hln hgt k0 k1 zA hz3
      go_wp2_with fail
      refine HSHOW.out.mono ?_
      rintro e w5 ⟨rfl, ⟨A5, c5, h5⟩, hs5⟩
      have hfin : Run1 cs n W.heap.size gm gs (.slice (some ⟨bC, oC, none⟩) n cC) w2 (.int .i64 ((k : Int) + 1)) w5 := ⟨k + 1, A5, c5, _, by simp, by omega, h5, Same.trans HFR.out hs5 (fun i hi => hi)⟩
      have HFIN := Lib.hid hfin
      clear hfin
      clear h5 hs5
      go_wp2_with fail
      go_roundw
      case rel => exact HFIN.out
      case measure => simp [intOf]; omega
    · have d1 : decide (k < n) = false := by simpa using hk
      have hkn' : n = cs.length := HCL.out
      have hke : k = cs.length := by omega
      have hm2 : MiM wr W.heap.size gm gs (.slice AC n cC) A c css (startI cs cs.length) := by
        have := hmr
        rw [hke, hkn', begun_done] at this
        rw [hkn']
        exact this
      have hrl2 : Run2 cs l W.heap.size gm gs (.slice AC n cC) wr (.int .i64 0) wr := ⟨0, A, c, css, _, rfl, Nat.zero_le _, rfl, by have := startI_world cs cs.length; omega, hm2, Same.refl _ _⟩
      have hfr : Keep W wr := Same.trans HFR0.out hsr (fun i hi => hi)
      have HRL2 := Lib.hid hrl2
      have HFR := Lib.hid hfr
      clear hrl2 hfr
      clear hm2 hmr hsr hke hkn' HREL0
      obtain ⟨wq, hwq⟩ : ∃ wq : World, wq = wr := ⟨_, rfl⟩
      subst hwq
      go_wp2_with fail
      go_loopw [55] (fun i wr => Run2 cs l W.heap.size gm gs (.slice AC n cC) wq i wr) (fun i _ => nl - (intOf i).toNat)
      case atStart => exact HRL2.out
      case round =>
        clear HRL2
        obtain ⟨j, A, c, css, m, rfl, hjl, hplay, hwl, hmr, hsr⟩ := hrel
        have hzr' := hsr.size
        have hks : Same S w wr := Same.trans (Same.mono (Keep.trans HKW.out HFR.out) HS.out) (hsr.mono (fun i (hi : S i) => by have := HS.out i hi; show i < W.heap.size; omega)) (fun i hi => hi)
        have hfrr : Keep W wr := Same.trans HFR.out hsr (fun i hi => hi)
        have hinv : InvI cs m := playI_inv _ _ (startI_inv cs) hplay
        by_cases hj : j < nl
        · obtain ⟨b', off', y, rfl, hbb, hy, hcy⟩ := (HL.out.keep hks).at_ encCh_len hj
          have hd1 : decide (j < nl) = true := by simpa using hj
          have hd2 : (0 : Int) ≤ j := by omega
          have hd3 : (j : Int) < nl := by omega
          have hrg : wr.rangeAt b' (off' + j * 6) [.int .i64 y.proc, .int .i64 y.kind, .int .i64 y.frm, .int .i64 y.idx, .int .i64 y.ord, .int .i64 y.val] := hcy
          have hnext := playI_next hplay hy
          have hj1 : j + 1 ≤ l.length := by have := HLL.out; omega
          have hcr := HC.out.keep hks
          have hzW := HFR.out.size
          clear hcy hy hbb hplay
          have HRG := Lib.hid hrg
          have HNEXT := Lib.hid hnext
          have HJ1 := Lib.hid hj1
          have HMR := Lib.hid hmr
          have HSR := Lib.hid hsr
          have HCR := Lib.hid hcr
          have HFRR := Lib.hid hfrr
          have HINV := Lib.hid hinv
          clear hrg hnext hj1 hmr hsr hcr hfrr hinv
          clear hks
          go_upto_region 16 with (first
            | (refine wpList_load_mid rfl _ (.tmp 57) rfl b' (off' + j * 6) rfl [.int .i64 y.proc, .int .i64 y.kind, .int .i64 y.frm, .int .i64 y.idx, .int .i64 y.ord, .int .i64 y.val] _ HRG.out Try.underlying45 rfl (by kernel_rfl) ?_)
            | (refine wpList_store_all rfl _ (.tmp 10) (.tmp 58) rfl wr.heap.size 45 _ [.int .i64 y.proc, .int .i64 y.kind, .int .i64 y.frm, .int .i64 y.idx, .int .i64 y.ord, .int .i64 y.val] rfl rfl (Blk.new _ _ _) rfl (by kernel_rfl) rfl ?_; intro w7 hb7 hs7))
          have hk7 : Keep wr w7 := Keep.write (Keep.new _ _) hs7 (Nat.le_refl _)
          have hz7 : wr.heap.size < w7.heap.size := hb7.lt
          have hm7 := HMR.out.keep hk7
          have hml : m.ss.length = cs.length := HINV.out.len
          have hcl := HCL.out
          obtain ⟨ev, er, hee⟩ : ∃ ev er, eventI m.ss y = (ev, er) := ⟨_, _, rfl⟩
          have hcall : Calls Try.prog 53 #[.pointer (some ⟨gm, 0, none⟩), .agg #[.int .i64 y.proc, .int .i64 y.kind, .int .i64 y.frm, .int .i64 y.idx, .int .i64 y.ord, .int .i64 y.val]] w7 (EvtPost (eventI m.ss y) w7) :=
            ievent_any w7 W.heap.size gm gs (.slice AC n cC) A c css m y hm7 (by omega) (fun p hp => by have := HINV.out.lens (p := p) (by omega); omega)
          rw [hee] at hcall
          have hnx := HNEXT.out
          rw [hee] at hnx
          clear hml hcl HNEXT
          have HEE := Lib.hid hee
          clear hee
          obtain ⟨v0, v1, v2, v3, v4, v5, v6⟩ := ev
          have HK7 := Lib.hid hk7
          have HB7 := Lib.hid hb7
          have HM7 := Lib.hid hm7
          have HCALL := Lib.hid hcall
          have HNX := Lib.hid hnx
          clear hk7 hb7 hm7 hcall hnx
          clear hs7
          go_wp2_with (refine wpList_load_all rfl _ (.tmp 10) rfl wr.heap.size 45 [.int .i64 y.proc, .int .i64 y.kind, .int .i64 y.frm, .int .i64 y.idx, .int .i64 y.ord, .int .i64 y.val] _ rfl HB7.out Try.underlying45 rfl (by kernel_rfl) ?_)
          refine HCALL.out.mono ?_
          rintro e w8 ⟨rfl, hk8⟩
          have hz8 := hk8.size
          have HK8 := Lib.hid hk8
          clear hk8
          simp only [encEv]
          go_upto_region 17 with (refine wpList_store_all rfl _ (.tmp 11) (.tmp 63) rfl w8.heap.size 50 _ [.int .i64 v0, .int .i64 v1, .int .i64 v2, .int .i64 v3, .int .i64 v4, .int .i64 v5, .int .i64 v6] rfl rfl (Blk.new _ _ _) rfl (by kernel_rfl) rfl ?_; intro w9 hb9 hs9)
          have hk9 : Keep w8 w9 := Keep.write (Keep.new _ _) hs9 (Nat.le_refl _)
          have hk89 := Keep.trans HK8.out hk9
          have hb79 := hk89.blk HB7.out hz7
          have hm9 := HM7.out.keep hk89
          have hk79 := Keep.trans HK7.out hk89
          have hkW9 := Keep.trans HFRR.out hk79
          have HB9 := Lib.hid hb9
          have HB79 := Lib.hid hb79
          have HM9 := Lib.hid hm9
          have HK79 := Lib.hid hk79
          have HKW9 := Lib.hid hkW9
          clear hb9 hb79 hm9 hk79 hkW9
          clear hs9 hk9 hk89
          cases q : (er != 0)
          case true =>
            have hne : er ≠ 0 := by simpa using q
            have hfin : IRunPost cs l (.slice AC n cC) w (.returned (.tuple #[.pointer none, .int .i64 er])) w9 := ⟨Keep.trans HKW.out HKW9.out, .inr ⟨er, by rw [HRUN.out]; exact HNX.out.2 hne, hne, rfl⟩⟩
            have HFIN := Lib.hid hfin
            clear hfin
            clear hne
            go_wp2_with fail
            go_ret2
            exact HFIN.out
          have he0 : er = 0 := by simpa using q
          subst he0
          have hok := eventI_ok (ss := m.ss) (x := y) (by rw [HEE.out])
          have hpp := okI_proc hok.1
          have hcl := HCL.out
          have hlen := HINV.out.len
          obtain ⟨p, hp⟩ : ∃ p : Nat, y.proc = p := ⟨y.proc.toNat, by omega⟩
          have hpn : p < n := by omega
          have x0 : w9.cell? ⟨wr.heap.size, 0, none⟩ = some (.int .i64 (p : Int)) := by rw [HB79.out.cell, ← hp]; rfl
          have hexe : Calls Try.prog 54 #[.pointer (some ⟨gm, 0, none⟩), .int .i64 p, .agg #[.int .i64 v0, .int .i64 v1, .int .i64 v2, .int .i64 v3, .int .i64 v4, .int .i64 v5, .int .i64 v6]] w9 (ExecPost W.heap.size gm gs (.slice AC n cC) (execI cs m p ⟨v0, v1, v2, v3, v4, v5, v6⟩) w9) :=
            execute_any w9 W.heap.size gm gs S AC A n cC c css cs m p ⟨v0, v1, v2, v3, v4, v5, v6⟩ HM9.out (HCR.out.keep (HK79.out.mono (fun i hi => by have := HS.out i hi; omega))) (fun i hi => by have := HS.out i hi; omega) HKW9.out.size HINV.out HIC.out hn hpn (by omega)
          have hwl9 := execI_world (cs := cs) (m := m) p ⟨v0, v1, v2, v3, v4, v5, v6⟩
          have hpl : playI cs (startI cs cs.length) (l.take (j + 1)) = .ok (execI cs m p ⟨v0, v1, v2, v3, v4, v5, v6⟩) := by have := HNX.out.1 rfl; rw [hp] at this; exact this
          clear hok hpp hcl hlen hp
          have HEXE := Lib.hid hexe
          have HWL9 := Lib.hid hwl9
          have HPL := Lib.hid hpl
          clear hexe hwl9 hpl
          go_wp2_with (refine wpList_load_all rfl _ (.tmp 11) rfl w8.heap.size 50 [.int .i64 v0, .int .i64 v1, .int .i64 v2, .int .i64 v3, .int .i64 v4, .int .i64 v5, .int .i64 v6] _ rfl HB9.out Try.underlying50 rfl (by kernel_rfl) ?_)
          refine HEXE.out.mono ?_
          rintro e w10 ⟨rfl, ⟨A10, c10, css10, h10⟩, hs10⟩
          have hfin : Run2 cs l W.heap.size gm gs (.slice AC n cC) wq (.int .i64 ((j : Int) + 1)) w10 := ⟨j + 1, A10, c10, css10, _, by simp, HJ1.out, HPL.out, by have := HWL9.out; omega, h10, Same.trans HSR.out (Same.trans (HK79.out.mono (fun i (hi : i < W.heap.size) => by omega)) hs10 (fun i hi => hi)) (fun i hi => hi)⟩
          have HFIN := Lib.hid hfin
          clear hfin
          clear h10 hs10
          go_wp2_with fail
          go_roundw
          case rel => exact HFIN.out
          case measure => simp [intOf]; omega
        · have hd1 : decide (j < nl) = false := by simpa using hj
          have hall : l.take j = l := List.take_of_length_le (by have := HLL.out; omega)
          rw [hall] at hplay
          have hfin : IRunPost cs l (.slice AC n cC) w (.returned (.tuple #[.pointer (some ⟨gm, 0, none⟩), .int .i64 0])) wr := ⟨Keep.trans HKW.out hfrr, .inl ⟨m, gm, W.heap.size, gs, A, c, css, by rw [HRUN.out]; exact hplay, rfl, by omega, hmr⟩⟩
          have HFIN := Lib.hid hfin
          clear hfin
          clear hall hplay hmr hsr hks hfrr hinv
          go_wp2_with fail
          go_ret2
          exact HFIN.out
/-- Play's answer: the states, or the error. -/
def PlayPost (cs : List Cd) (l : List Chc) (w : World) (e : Ending) (w' : World) : Prop :=
  Keep w w' ∧ ((∃ (m : Mi) (A : Option Addr) (c : Nat), runI cs l = .ok m ∧ e = .returned (.tuple #[.slice A m.ss.length c, .int .i64 0]) ∧ SlR w' (Bw w') 4 (StR w' (Bw w')) A m.ss.length c m.ss) ∨
    (∃ k : Int, runI cs l = .error k ∧ k ≠ 0 ∧ e = .returned (.tuple #[.slice none 0 0, .int .i64 k])))
def WorldPost (cs : List Cd) (l : List Chc) (w : World) (e : Ending) (w' : World) : Prop :=
  Keep w w' ∧ ((∃ (m : Mi) (A : Option Addr) (c : Nat), runI cs l = .ok m ∧ e = .returned (.tuple #[.slice A m.world.length c, .int .i64 0]) ∧ Sl encSh 4 w' (Bw w') A m.world.length c m.world) ∨
    (∃ k : Int, runI cs l = .error k ∧ k ≠ 0 ∧ e = .returned (.tuple #[.slice none 0 0, .int .i64 k])))
set_option maxHeartbeats 8000000 in
theorem iplay_any (w : World) (S : Nat → Prop) (AC AL : Option Addr) (n cC nl cl : Nat) (x1 x2 : Int) (cs : List Cd) (l : List Chc) (hS : ∀ i, S i → i < w.heap.size) (hC : CdsR w S AC n cC cs) (hic : ∀ c ∈ cs, c.init.length ≤ 1000000) (hl : Sl encCh 6 w S AL nl cl l) (hn : n ≤ 1000) (hnl : nl ≤ 1000) :
    Calls Try.prog 24 #[.agg #[.slice AC n cC, .int .i64 x1, .int .i64 x2], .slice AL nl cl] w (PlayPost cs l w) := by
  generalize hW : w.alloc (.cells #[.slice AC n cC, .int .i64 x1, .int .i64 x2] 59) = W
  have hkW : Keep w W := hW ▸ Keep.new w _
  have hbc : Blk W w.heap.size 59 #[.slice AC n cC, .int .i64 x1, .int .i64 x2] := hW ▸ Blk.new w _ _
  have hz := hbc.lt
  have hcall := idrun_any W S AC AL n cC nl cl x1 x2 cs l (fun i hi => by have := hS i hi; omega) (hC.keep (Same.mono hkW hS)) hic (hl.keep (Same.mono hkW hS)) hn hnl
  have HKW := Lib.hid hkW
  have HBC := Lib.hid hbc
  have HCALL := Lib.hid hcall
  clear hkW hbc hcall
  go_enter Try.func24, Try.ntmps24
  go_upto_region 1 with fail
  clear hW
  go_wp2_with (refine wpList_load_all rfl _ (.tmp 2) rfl w.heap.size 59 [.slice AC n cC, .int .i64 x1, .int .i64 x2] _ rfl HBC.out Try.underlying59 rfl (by kernel_rfl) ?_)
  refine HCALL.out.mono ?_
  rintro e w1 ⟨hk1, ⟨m, gm, base, gs, A, c, css, hrun, rfl, hbase, hm⟩ | ⟨k, hrun, hk0, rfl⟩⟩
  · have hm4 := hm.2.2.2.1
    have k1 : w1.cell? ⟨gm, 1, none⟩ = some (.slice (some ⟨gs, 0, none⟩) m.ss.length m.ss.length) := by rw [hm4.cell]; rfl
    have hms := hm.2.2.2.2.2.2.1
    have hst := hm.2.2.2.2.2.2.2
    have hlen := (runI_inv hrun).len
    have h5 := (runI_ok hrun).2.1
    have hrd : Reads w1 (Bw w1) 4 (some ⟨gs, 0, none⟩) m.ss.length css.flatten := ⟨hst.flen, fun _ => ⟨gs, 0, rfl, hms.lt, fun j u hu => by rw [hms.cell]; simpa using hu⟩⟩
    have hsl : SlR w1 (Bw w1) 4 (StR w1 (Bw w1)) (some ⟨gs, 0, none⟩) m.ss.length m.ss.length m.ss := hst.sl (S := Bw w1) (T := Bw w1) (Nat.le_refl _) (by simp [maxLen]; omega) hrd (fun i hi => hi) (fun i hi => hi.1)
    have hfin : PlayPost cs l w (.returned (.tuple #[.slice (some ⟨gs, 0, none⟩) m.ss.length m.ss.length, .int .i64 0])) w1 := ⟨Keep.trans HKW.out hk1, .inl ⟨m, _, _, hrun, rfl, hsl⟩⟩
    have HFIN := Lib.hid hfin
    clear hfin
    clear hm4 hms hst hlen h5 hrd hsl hm hk1 hrun
    go_wp2_with fail
    go_ret2
    exact HFIN.out
  · have t0 : (k != 0) = true := by simpa using hk0
    have hfin : PlayPost cs l w (.returned (.tuple #[.slice none 0 0, .int .i64 k])) w1 := ⟨Keep.trans HKW.out hk1, .inr ⟨k, hrun, hk0, rfl⟩⟩
    have HFIN := Lib.hid hfin
    clear hfin
    clear hk1 hrun hk0
    go_wp2_with fail
    go_ret2
    exact HFIN.out
set_option maxHeartbeats 8000000 in
theorem iworld_any (w : World) (S : Nat → Prop) (AC AL : Option Addr) (n cC nl cl : Nat) (x1 x2 : Int) (cs : List Cd) (l : List Chc) (hS : ∀ i, S i → i < w.heap.size) (hC : CdsR w S AC n cC cs) (hic : ∀ c ∈ cs, c.init.length ≤ 1000000) (hl : Sl encCh 6 w S AL nl cl l) (hn : n ≤ 1000) (hnl : nl ≤ 1000) :
    Calls Try.prog 25 #[.agg #[.slice AC n cC, .int .i64 x1, .int .i64 x2], .slice AL nl cl] w (WorldPost cs l w) := by
  generalize hW : w.alloc (.cells #[.slice AC n cC, .int .i64 x1, .int .i64 x2] 59) = W
  have hkW : Keep w W := hW ▸ Keep.new w _
  have hbc : Blk W w.heap.size 59 #[.slice AC n cC, .int .i64 x1, .int .i64 x2] := hW ▸ Blk.new w _ _
  have hz := hbc.lt
  have hcall := idrun_any W S AC AL n cC nl cl x1 x2 cs l (fun i hi => by have := hS i hi; omega) (hC.keep (Same.mono hkW hS)) hic (hl.keep (Same.mono hkW hS)) hn hnl
  have HKW := Lib.hid hkW
  have HBC := Lib.hid hbc
  have HCALL := Lib.hid hcall
  clear hkW hbc hcall
  go_enter Try.func25, Try.ntmps25
  go_upto_region 1 with fail
  clear hW
  go_wp2_with (refine wpList_load_all rfl _ (.tmp 2) rfl w.heap.size 59 [.slice AC n cC, .int .i64 x1, .int .i64 x2] _ rfl HBC.out Try.underlying59 rfl (by kernel_rfl) ?_)
  refine HCALL.out.mono ?_
  rintro e w1 ⟨hk1, ⟨m, gm, base, gs, A, c, css, hrun, rfl, hbase, hm⟩ | ⟨k, hrun, hk0, rfl⟩⟩
  · have hm4 := hm.2.2.2.1
    have k1 : w1.cell? ⟨gm, 2, none⟩ = some (.slice A m.world.length c) := by rw [hm4.cell]; rfl
    obtain ⟨A', c', he, hsl⟩ := Sl.of_own hm.2.2.2.2.1
    simp only [Value.slice.injEq, true_and] at he
    obtain ⟨rfl, rfl⟩ := he
    have hfin : WorldPost cs l w (.returned (.tuple #[.slice A m.world.length c, .int .i64 0])) w1 := ⟨Keep.trans HKW.out hk1, .inl ⟨m, _, _, hrun, rfl, hsl.more (fun i hi => hi.2)⟩⟩
    have HFIN := Lib.hid hfin
    clear hfin
    clear hm4 hsl hm hk1 hrun
    go_wp2_with fail
    go_ret2
    exact HFIN.out
  · have t0 : (k != 0) = true := by simpa using hk0
    have hfin : WorldPost cs l w (.returned (.tuple #[.slice none 0 0, .int .i64 k])) w1 := ⟨Keep.trans HKW.out hk1, .inr ⟨k, hrun, hk0, rfl⟩⟩
    have HFIN := Lib.hid hfin
    clear hfin
    clear hk1 hrun hk0
    go_wp2_with fail
    go_ret2
    exact HFIN.out
end Go.Proofs.Ythmepnpjagpcnaa
