import Derived.Test.YtecckbkobkfnmaaGreatDoorGQ
import Derived.Test.YtecckbkobkfnmaaGreatDoorSlices
-- Sched1
/- replay.possible and replay.choice: written by gen_sched.py. -/
set_option linter.unusedVariables false
set_option linter.unusedSimpArgs false
set_option maxRecDepth 100000
namespace Go.Proofs.YtecckbkobkfnmaaGreatDoor
open Go.RowKit Go.Proofs

structure Chc where
  proc : Int
  kind : Int
  frm : Int
  idx : Int
  ord : Int
  val : Int
def encCh (x : Chc) : List Value := [.int .i64 x.proc, .int .i64 x.kind, .int .i64 x.frm, .int .i64 x.idx, .int .i64 x.ord, .int .i64 x.val]
theorem encCh_len (x : Chc) : (encCh x).length = 6 := rfl
theorem encCh_one (d : Chc) : ∀ u ∈ encCh d, u.oneCell' = true := by
  intro u hu
  simp [encCh] at hu
  rcases hu with h | h | h | h | h | h <;> subst h <;> rfl
/-- One cell that leads to events. -/
def EvsR (w : World) (S : Nat → Prop) (cs : List Value) (l : List Ev) : Prop := ∃ (A : Option Addr) (n c : Nat), cs = [.slice A n c] ∧ Sl encEv 7 w S A n c l
theorem EvsR.keep {w w' : World} {S : Nat → Prop} (hk : Same S w w') (cs : List Value) (l : List Ev) (h : EvsR w S cs l) : EvsR w' S cs l := by
  obtain ⟨A, n, c, e, h⟩ := h
  exact ⟨A, n, c, e, h.keep hk⟩
theorem EvsR.more {w : World} {S T : Nat → Prop} (hk : ∀ i, S i → T i) (cs : List Value) (l : List Ev) (h : EvsR w S cs l) : EvsR w T cs l := by
  obtain ⟨A, n, c, e, h⟩ := h
  exact ⟨A, n, c, e, h.more hk⟩
/-- May the event of process q happen when the processes have arrived at these indexes? -/
def possS (l : List (List Ev)) (at_ : List Int) (q : Int) (e : Ev) : Bool :=
  if e.kind = 1 then
    decide (0 ≤ e.frm) && decide (e.frm < l.length) && decide (e.frm ≠ q) && decide (e.sIdx ≤ at_.getD e.frm.toNat 0) && labOk (l.getD e.frm.toNat []) e.sIdx && decide (labInc (l.getD e.frm.toNat []) e.sIdx = e.sInc) && decide (labIdx (l.getD e.frm.toNat []) e.sIdx = e.sIdx)
  else true
def chS (q : Int) (e : Ev) : Chc := if e.kind = 1 then ⟨q, e.kind, e.frm, e.sIdx, e.ord, 0⟩ else ⟨q, e.kind, 0, 0, 0, e.val⟩
def BoolPost (v : Bool) (w : World) (e : Ending) (w' : World) : Prop := e = .returned (.bool v) ∧ Keep w w'
def ChPost (x : Chc) (w : World) (e : Ending) (w' : World) : Prop := e = .returned (.agg (encCh x).toArray) ∧ Keep w w'
theorem bld_ch5 (a b c d e : Int) : Tryz.prog.built 54 [(0, .int .i64 a), (1, .int .i64 b), (2, .int .i64 c), (3, .int .i64 d), (4, .int .i64 e)] = some #[.int .i64 a, .int .i64 b, .int .i64 c, .int .i64 d, .int .i64 e, .int .i64 0] := by kernel_rfl
theorem bld_ch3 (a b c : Int) : Tryz.prog.built 54 [(0, .int .i64 a), (1, .int .i64 b), (5, .int .i64 c)] = some #[.int .i64 a, .int .i64 b, .int .i64 0, .int .i64 0, .int .i64 0, .int .i64 c] := by kernel_rfl
theorem bld_ste (A : Option Addr) (n c : Nat) : Tryz.prog.built 37 [(1, .slice A n c)] = some #[.slice none 0 0, .slice A n c, .slice none 0 0, .slice none 0 0] := by kernel_rfl
set_option maxHeartbeats 4000000 in
theorem choice_any (w : World) (q : Int) (e : Ev) : Calls Tryz.prog 48 #[.int .i64 q, .agg #[.int .i64 e.kind, .int .i64 e.inc, .int .i64 e.frm, .int .i64 e.sInc, .int .i64 e.sIdx, .int .i64 e.ord, .int .i64 e.val]] w (ChPost (chS q e) w) := by
  generalize hW : (w.alloc (.cells #[.int .i64 e.kind, .int .i64 e.inc, .int .i64 e.frm, .int .i64 e.sInc, .int .i64 e.sIdx, .int .i64 e.ord, .int .i64 e.val] 51)).alloc (.cells #[.int .i64 0, .int .i64 0, .int .i64 0, .int .i64 0, .int .i64 0, .int .i64 0] 54) = W
  have hkW : Keep w W := hW ▸ Keep.alloc (Keep.new w _) _
  have hb3 : Blk W w.heap.size 51 #[.int .i64 e.kind, .int .i64 e.inc, .int .i64 e.frm, .int .i64 e.sInc, .int .i64 e.sIdx, .int .i64 e.ord, .int .i64 e.val] := hW ▸ (Blk.new w _ _).alloc _
  have hb4 : Blk W (w.heap.size + 1) 54 #[.int .i64 0, .int .i64 0, .int .i64 0, .int .i64 0, .int .i64 0, .int .i64 0] := hW ▸ (by simpa using Blk.new (w.alloc _) _ _)
  have c0 : W.cell? ⟨w.heap.size, 0, none⟩ = some (.int .i64 e.kind) := by rw [hb3.cell]; rfl
  have c2 : W.cell? ⟨w.heap.size, 2, none⟩ = some (.int .i64 e.frm) := by rw [hb3.cell]; rfl
  have c4 : W.cell? ⟨w.heap.size, 4, none⟩ = some (.int .i64 e.sIdx) := by rw [hb3.cell]; rfl
  have c5 : W.cell? ⟨w.heap.size, 5, none⟩ = some (.int .i64 e.ord) := by rw [hb3.cell]; rfl
  have c6 : W.cell? ⟨w.heap.size, 6, none⟩ = some (.int .i64 e.val) := by rw [hb3.cell]; rfl
  have HKW := Lib.hid hkW
  have HB3 := Lib.hid hb3
  have HB4 := Lib.hid hb4
  clear hkW hb3 hb4
  by_cases hk : e.kind = 1
  · have t0 : (e.kind == 1) = true := by simpa using hk
    have hx : chS q e = ⟨q, e.kind, e.frm, e.sIdx, e.ord, 0⟩ := by unfold chS; rw [if_pos hk]
    have HX := Lib.hid hx
    clear hx
    clear hk
    go_enter Tryz.func48, Tryz.ntmps48
    go_upto_region 1 with fail
    clear hW
    go_wp2_with (first
      | (refine wpList_bld rfl 54 _ rfl _ [(0, .int .i64 q), (1, .int .i64 e.kind), (2, .int .i64 e.frm), (3, .int .i64 e.sIdx), (4, .int .i64 e.ord)] rfl (bld_ch5 _ _ _ _ _) ?_)
      | (refine wpList_store_all rfl _ (.tmp 4) (.tmp 18) rfl (w.heap.size + 1) 54 _ [.int .i64 q, .int .i64 e.kind, .int .i64 e.frm, .int .i64 e.sIdx, .int .i64 e.ord, .int .i64 0] rfl rfl HB4.out rfl (by kernel_rfl) rfl ?_; intro v6 hv6 hs6))
    exact bodyPost_ret (results_cell1 Tryz.results48 _ _ _ ⟨w.heap.size + 1, 0, none⟩ _ rfl (loadVar_blk [.int .i64 q, .int .i64 e.kind, .int .i64 e.frm, .int .i64 e.sIdx, .int .i64 e.ord, .int .i64 0] _ hv6 (fun j v hv => by simpa using hv) Tryz.underlying54 rfl (by kernel_rfl))) rfl ⟨by rw [HX.out]; rfl, Keep.write HKW.out hs6 (by omega)⟩
  · have t0 : (e.kind == 1) = false := by simpa using hk
    have hx : chS q e = ⟨q, e.kind, 0, 0, 0, e.val⟩ := by unfold chS; rw [if_neg hk]
    have HX := Lib.hid hx
    clear hx
    clear hk
    go_enter Tryz.func48, Tryz.ntmps48
    go_upto_region 1 with fail
    clear hW
    go_wp2_with (first
      | (refine wpList_bld rfl 54 _ rfl _ [(0, .int .i64 q), (1, .int .i64 e.kind), (5, .int .i64 e.val)] rfl (bld_ch3 _ _ _) ?_)
      | (refine wpList_store_all rfl _ (.tmp 4) (.tmp 24) rfl (w.heap.size + 1) 54 _ [.int .i64 q, .int .i64 e.kind, .int .i64 0, .int .i64 0, .int .i64 0, .int .i64 e.val] rfl rfl HB4.out rfl (by kernel_rfl) rfl ?_; intro v6 hv6 hs6))
    exact bodyPost_ret (results_cell1 Tryz.results48 _ _ _ ⟨w.heap.size + 1, 0, none⟩ _ rfl (loadVar_blk [.int .i64 q, .int .i64 e.kind, .int .i64 0, .int .i64 0, .int .i64 0, .int .i64 e.val] _ hv6 (fun j v hv => by simpa using hv) Tryz.underlying54 rfl (by kernel_rfl))) rfl ⟨by rw [HX.out]; rfl, Keep.write HKW.out hs6 (by omega)⟩
def PsC (W : World) (la lb : Int) (lo : Bool) (p o : Value) (wx : World) : Prop := ∃ g : Nat, p = .pointer (some ⟨g, 0, none⟩) ∧ o = .bool lo ∧ Blk wx g 49 #[.int .i64 la, .int .i64 lb] ∧ Keep W wx
set_option maxHeartbeats 8000000 in
theorem possible_any (w : World) (S : Nat → Prop) (A A2 : Option Addr) (n c n2 c2 : Nat) (l : List (List Ev)) (at_ : List Int) (q : Int) (e : Ev) (hS : ∀ i, S i → i < w.heap.size) (hl : SlR w S 1 (EvsR w S) A n c l) (ha : Sl encI 1 w S A2 n2 c2 at_) (hn2 : n2 = n) (hn : n ≤ 100000) (hlen : ∀ x ∈ l, x.length ≤ 1000000) :
    Calls Tryz.prog 47 #[.slice A n c, .slice A2 n2 c2, .int .i64 q, .agg #[.int .i64 e.kind, .int .i64 e.inc, .int .i64 e.frm, .int .i64 e.sInc, .int .i64 e.sIdx, .int .i64 e.ord, .int .i64 e.val]] w (BoolPost (possS l at_ q e) w) := by
  subst hn2
  generalize hW : w.alloc (.cells #[.int .i64 e.kind, .int .i64 e.inc, .int .i64 e.frm, .int .i64 e.sInc, .int .i64 e.sIdx, .int .i64 e.ord, .int .i64 e.val] 51) = W
  have hkW : Keep w W := hW ▸ Keep.new w _
  have hb7 : Blk W w.heap.size 51 #[.int .i64 e.kind, .int .i64 e.inc, .int .i64 e.frm, .int .i64 e.sInc, .int .i64 e.sIdx, .int .i64 e.ord, .int .i64 e.val] := hW ▸ Blk.new w _ _
  have hz := hb7.lt
  have c0 : W.cell? ⟨w.heap.size, 0, none⟩ = some (.int .i64 e.kind) := by rw [hb7.cell]; rfl
  have c2' : W.cell? ⟨w.heap.size, 2, none⟩ = some (.int .i64 e.frm) := by rw [hb7.cell]; rfl
  have c4 : W.cell? ⟨w.heap.size, 4, none⟩ = some (.int .i64 e.sIdx) := by rw [hb7.cell]; rfl
  have hnl := hl.1
  have hna := ha.1
  have haW := ha.keep (Same.mono hkW hS)
  have hlW := hl.keep (Same.mono hkW hS) (EvsR.keep (Same.mono hkW hS))
  have fin : ∀ b, possS l at_ q e = b → ∀ w', Keep W w' → BoolPost (possS l at_ q e) w (.returned (.bool b)) w' := fun b hb w' hk => ⟨by rw [hb], Keep.trans hkW hk⟩
  have hle : n2 = l.length := hnl
  have HKW := Lib.hid hkW
  have HB7 := Lib.hid hb7
  have HAW := Lib.hid haW
  have HLW := Lib.hid hlW
  have HNL := Lib.hid hnl
  have HNA := Lib.hid hna
  have HS := Lib.hid hS
  have HLEN := Lib.hid hlen
  have FIN := Lib.hid fin
  clear hkW hb7 haW hlW hnl hna hS hlen fin
  clear hl ha hle
  by_cases hk : e.kind = 1
  case neg =>
    have t0 : (e.kind != 1) = true := by simpa using hk
    have hp := FIN.out true (by unfold possS; rw [if_neg hk])
    have HP := Lib.hid hp
    clear hp
    clear hk
    go_enter Tryz.func47, Tryz.ntmps47
    go_upto_region 1 with fail
    clear hW
    go_wp2_with fail
    go_ret
    exact HP.out _ (Same.refl _ _)
  have t0 : (e.kind != 1) = false := by simpa using hk
  have hps : possS l at_ q e = (decide (0 ≤ e.frm) && decide (e.frm < l.length) && decide (e.frm ≠ q) && decide (e.sIdx ≤ at_.getD e.frm.toNat 0) && labOk (l.getD e.frm.toNat []) e.sIdx && decide (labInc (l.getD e.frm.toNat []) e.sIdx = e.sInc) && decide (labIdx (l.getD e.frm.toNat []) e.sIdx = e.sIdx)) := by unfold possS; rw [if_pos hk]
  have HPS := Lib.hid hps
  clear hps
  clear hk
  by_cases h1 : e.frm < 0
  · have t1 : decide (e.frm < 0) = true := by simpa using h1
    have hp := FIN.out false (by rw [HPS.out]; simp; omega)
    have HP := Lib.hid hp
    clear hp
    go_enter Tryz.func47, Tryz.ntmps47
    go_upto_region 1 with fail
    clear hW
    go_upto_region 3 with fail
    go_quiet (fail)
    go_wp2_with fail
    go_ret
    exact HP.out _ (Keep.draws _ _)
  have t1 : decide (e.frm < 0) = false := by simpa using h1
  by_cases h2 : (n2 : Int) ≤ e.frm
  · have t2 : decide ((n2 : Int) ≤ e.frm) = true := by simpa using h2
    have hp := FIN.out false (by rw [HPS.out]; have := HNL.out; simp; omega)
    have HP := Lib.hid hp
    clear hp
    go_enter Tryz.func47, Tryz.ntmps47
    go_upto_region 1 with fail
    clear hW
    go_upto_region 3 with fail
    go_quiet (fail)
    go_wp2_with fail
    go_ret
    exact HP.out _ (Keep.draws _ _)
  have t2 : decide ((n2 : Int) ≤ e.frm) = false := by simpa using h2
  by_cases h3 : e.frm = q
  · have t3 : (e.frm == q) = true := by simpa using h3
    have hq := h3
    have HQ := Lib.hid hq
    clear hq
    clear h3
    have hp := FIN.out false (by rw [HPS.out]; have := HQ.out; simp [this])
    have HP := Lib.hid hp
    clear hp
    go_enter Tryz.func47, Tryz.ntmps47
    go_upto_region 1 with fail
    clear hW
    go_upto_region 3 with fail
    go_quiet (fail)
    go_wp2_with fail
    go_ret
    exact HP.out _ (Keep.draws _ _)
  have t3 : (e.frm == q) = false := by simpa using h3
  obtain ⟨fr, hfr⟩ : ∃ fr : Nat, e.frm = fr := ⟨e.frm.toNat, by omega⟩
  have hfn : fr < n2 := by omega
  obtain ⟨b2, off2, av, rfl, hb2, hav, hcv⟩ := HAW.out.at_ encI_len hfn
  have hgd : at_.getD e.frm.toNat 0 = av := by rw [hfr]; simp [List.getD, hav]
  have c7 : W.cell? ⟨b2, off2 + fr, none⟩ = some (.int .i64 av) := by have := hcv 0 _ rfl; simpa using this
  have i0 : (0 : Int) ≤ e.frm := by omega
  have i1 : e.frm < (n2 : Int) := by omega
  have i2 : e.frm.toNat = fr := by omega
  clear hcv hav
  have HGD := Lib.hid hgd
  have HFR := Lib.hid hfr
  have H3 := Lib.hid h3
  clear hgd hfr h3
  by_cases h4 : av < e.sIdx
  · have t4 : decide (av < e.sIdx) = true := by simpa using h4
    have hp := FIN.out false (by rw [HPS.out]; rw [HGD.out]; simp; omega)
    have HP := Lib.hid hp
    clear hp
    go_enter Tryz.func47, Tryz.ntmps47
    go_upto_region 1 with fail
    clear hW
    go_upto_region 3 with fail
    go_quiet (fail)
    go_wp2_with fail
    go_ret
    exact HP.out _ (Keep.draws _ _)
  have t4 : decide (av < e.sIdx) = false := by simpa using h4
  obtain ⟨b1, off1, cs, evs, rfl, hb1, hev, ⟨Ae, ne, ce, rfl, hse⟩, -, hce⟩ := HLW.out.at_ hfn
  have hgl : l.getD e.frm.toNat [] = evs := by rw [HFR.out]; simp [List.getD, hev]
  have c8 : ∀ wx, Keep W wx → wx.cell? ⟨b1, off1 + fr, none⟩ = some (.slice Ae ne ce) := fun wx hx => (hx.cell (p := ⟨b1, off1 + fr, none⟩) (by have := HS.out _ hb1; have := HKW.out.size; show b1 < _; omega)).trans (by have := hce 0 _ rfl; simpa using this)
  have hpr : possS l at_ q e = (labOk evs e.sIdx && decide (labInc evs e.sIdx = e.sInc) && decide (labIdx evs e.sIdx = e.sIdx)) := by
    rw [HPS.out, hgl, HGD.out]
    have d1 : decide (0 ≤ e.frm) = true := by simp; omega
    have d2 : decide (e.frm < l.length) = true := by have := HNL.out; simp; omega
    have d3 : decide (e.frm ≠ q) = true := by have := H3.out; simp [this]
    have d4 : decide (e.sIdx ≤ av) = true := by simp; omega
    rw [d1, d2, d3, d4]
    simp
  have hel : evs.length ≤ 1000000 := HLEN.out _ (List.mem_of_getElem? hev)
  have f2 : ∀ wx, Keep W wx → wx.cell? ⟨w.heap.size, 2, none⟩ = some (.int .i64 e.frm) := fun wx hx => by rw [(hx.blk HB7.out HB7.out.lt).cell]; rfl
  have f4 : ∀ wx, Keep W wx → wx.cell? ⟨w.heap.size, 4, none⟩ = some (.int .i64 e.sIdx) := fun wx hx => by rw [(hx.blk HB7.out HB7.out.lt).cell]; rfl
  have HGL := Lib.hid hgl
  have HPR := Lib.hid hpr
  have HSE := Lib.hid hse
  have HEL := Lib.hid hel
  have C8 := Lib.hid c8
  have F2 := Lib.hid f2
  have F4 := Lib.hid f4
  clear hgl hpr hse hel c8 f2 f4
  clear hce hev
  go_enter Tryz.func47, Tryz.ntmps47
  go_upto_region 1 with fail
  clear hW
  go_upto_region 3 with fail
  go_quiet (fail)
  go_upto_region 5 with fail
  have hkq : Keep W (W.drewN nq) := Keep.draws W nq
  generalize hwq : W.drewN nq = Wq at hkq ⊢
  clear hwq c0 c2' c4 c7
  try simp only [Act.put, List.setIfInBounds_toArray, List.set_cons_zero, List.set_cons_succ]
  go_cut [9, 10] from 41 to 53 (fun p o wx => PsC W (labInc evs e.sIdx) (labIdx evs e.sIdx) (labOk evs e.sIdx) p o wx)
  case first =>
    have f2 := F2.out
    have f4 := F4.out
    have c8 := C8.out
    refine wp_region_L 14 (fun wx => Keep W wx) (fun _ => True) (by kernel_rfl) (Same.drew hkq) trivial (fun hA hB => ?_)
    generalize hu0 : Wq.drew = u0 at hA ⊢
    clear hu0
    have z0 := hA.size
    refine wpL_takeA (i := 0) (v := ?_) rfl (by kernel_rfl) (by kernel_rfl) (by kernel_rfl) (by kernel_rfl) (by decide) (fun _ _ _ h => h) (Or.inl ⟨by rfl, ?_⟩) hA hB ?_
    rotate_left
    · rintro wx ⟨hAx, hBx⟩
      (try dsimp only at hBx); (try dsimp only at hAx)
      go_simp
      try with_reducible rfl
    try simp only [Act.put, List.setIfInBounds_toArray, List.set_cons_zero, List.set_cons_succ]
    refine wpL_takeA (i := 1) (v := ?_) rfl (by kernel_rfl) (by kernel_rfl) (by kernel_rfl) (by kernel_rfl) (by decide) (fun _ _ _ h => h) (Or.inl ⟨by rfl, ?_⟩) hA hB ?_
    rotate_left
    · rintro wx ⟨hAx, hBx⟩
      (try dsimp only at hBx); (try dsimp only at hAx)
      go_simp
      try with_reducible rfl
    try simp only [Act.put, List.setIfInBounds_toArray, List.set_cons_zero, List.set_cons_succ]
    refine wpL_takeA (i := 2) (v := ?_) rfl (by kernel_rfl) (by kernel_rfl) (by kernel_rfl) (by kernel_rfl) (by decide) (fun _ _ _ h => h) (Or.inl ⟨by rfl, ?_⟩) hA hB ?_
    rotate_left
    · rintro wx ⟨hAx, hBx⟩
      (try dsimp only at hBx); (try dsimp only at hAx)
      go_simp
      try with_reducible rfl
    try simp only [Act.put, List.setIfInBounds_toArray, List.set_cons_zero, List.set_cons_succ]
    refine wpL_takeA (i := 3) (v := ?_) rfl (by kernel_rfl) (by kernel_rfl) (by kernel_rfl) (by kernel_rfl) (by decide) (fun _ _ _ h => h) (Or.inl ⟨by rfl, ?_⟩) hA hB ?_
    rotate_left
    · rintro wx ⟨hAx, hBx⟩
      (try dsimp only at hBx); (try dsimp only at hAx)
      go_simp
      try with_reducible rfl
    try simp only [Act.put, List.setIfInBounds_toArray, List.set_cons_zero, List.set_cons_succ]
    refine wpL_takeA (i := 4) (v := ?_) rfl (by kernel_rfl) (by kernel_rfl) (by kernel_rfl) (by kernel_rfl) (by decide) (fun _ _ _ h => h) (Or.inl ⟨by rfl, ?_⟩) hA hB ?_
    rotate_left
    · rintro wx ⟨hAx, hBx⟩
      (try dsimp only at hBx); (try dsimp only at hAx)
      go_simp
      try with_reducible rfl
    try simp only [Act.put, List.setIfInBounds_toArray, List.set_cons_zero, List.set_cons_succ]
    refine wpL_takeA (i := 5) rfl (by kernel_rfl) (by kernel_rfl) (by kernel_rfl) (by kernel_rfl) (by decide) (fun _ _ _ h => h) (yieldsIf_bld (by rfl) 37 _ rfl _ [(1, .slice Ae ne ce)] rfl (bld_ste _ _ _)) hA hB ?_
    try simp only [Act.put, List.setIfInBounds_toArray, List.set_cons_zero, List.set_cons_succ]
    refine wpL_takeA (i := 6) (v := ?_) rfl (by kernel_rfl) (by kernel_rfl) (by kernel_rfl) (by kernel_rfl) (by decide) (fun _ _ _ h => h) (Or.inl ⟨by rfl, ?_⟩) hA hB ?_
    rotate_left
    · rintro wx ⟨hAx, hBx⟩
      (try dsimp only at hBx); (try dsimp only at hAx)
      go_simp
      try with_reducible rfl
    try simp only [Act.put, List.setIfInBounds_toArray, List.set_cons_zero, List.set_cons_succ]
    refine wpL_takeA (i := 7) (v := ?_) rfl (by kernel_rfl) (by kernel_rfl) (by kernel_rfl) (by kernel_rfl) (by decide) (fun _ _ _ h => h) (Or.inl ⟨by rfl, ?_⟩) hA hB ?_
    rotate_left
    · rintro wx ⟨hAx, hBx⟩
      (try dsimp only at hBx); (try dsimp only at hAx)
      go_simp
      try with_reducible rfl
    try simp only [Act.put, List.setIfInBounds_toArray, List.set_cons_zero, List.set_cons_succ]
    refine wpL_takeA (i := 8) (v := ?_) rfl (by kernel_rfl) (by kernel_rfl) (by kernel_rfl) (by kernel_rfl) (by decide) (fun _ _ _ h => h) (Or.inl ⟨by rfl, ?_⟩) hA hB ?_
    rotate_left
    · rintro wx ⟨hAx, hBx⟩
      (try dsimp only at hBx); (try dsimp only at hAx)
      go_simp
      try with_reducible rfl
    try simp only [Act.put, List.setIfInBounds_toArray, List.set_cons_zero, List.set_cons_succ]
    clear f2 f4 c8
    refine wpL_two (i := 9) (j := 13) (by kernel_rfl) (StepL.mk rfl (fun K hK => ?_)) (StepL.mk rfl (fun K hK => ?_))
    · go_simp
      refine (plabel_any u0 S none Ae none none 0 0 ne ce 0 0 0 0 evs e.sIdx (fun i hi => by have := HS.out i hi; have := hA.size; omega) (HSE.out.keep (Same.mono hA (fun i hi => by have := HS.out i hi; omega))) HEL.out).mono ?_
      rintro e9 u1 ⟨rfl, hk11⟩
      have z1 := hk11.size
      have ha := Keep.trans hA hk11
      refine hK.out _ _ (SAB.both ha trivial) (fun hSS => ?_)
      clear hK K hA hB
      have hB := hSS.2
      have hA := hSS.1 (by kernel_rfl)
      (try dsimp only at hB); (try dsimp only at hA); clear hSS
      try simp only [Act.put, List.setIfInBounds_toArray, List.set_cons_zero, List.set_cons_succ]
      clear ha
      refine wpL_takeA (i := 10) (v := ?_) rfl (by kernel_rfl) (by kernel_rfl) (by kernel_rfl) (by kernel_rfl) (by decide) (fun _ _ _ h => h) (Or.inl ⟨by rfl, ?_⟩) hA hB ?_
      rotate_left
      · rintro wx ⟨hAx, hBx⟩
        (try dsimp only at hBx); (try dsimp only at hAx)
        go_simp
        try with_reducible rfl
      try simp only [Act.put, List.setIfInBounds_toArray, List.set_cons_zero, List.set_cons_succ]
      refine wpL_takeA (i := 11) (v := ?_) rfl (by kernel_rfl) (by kernel_rfl) (by kernel_rfl) (by kernel_rfl) (by decide) (fun _ _ _ h => h) (Or.inl ⟨by rfl, ?_⟩) hA hB ?_
      rotate_left
      · rintro wx ⟨hAx, hBx⟩
        (try dsimp only at hBx); (try dsimp only at hAx)
        go_simp
        try with_reducible rfl
      try simp only [Act.put, List.setIfInBounds_toArray, List.set_cons_zero, List.set_cons_succ]
      refine wpL_takeB (i := 12) (v := ?_) rfl (by kernel_rfl) (by kernel_rfl) (by kernel_rfl) (by decide) (fun _ _ _ h => h) (Or.inl ⟨by rfl, ?_⟩) (SAB.both hA hB) ?_
      rotate_left
      · intro wx hBx
        (try dsimp only at hBx)
        go_simp
        try with_reducible rfl
      try simp only [Act.put, List.setIfInBounds_toArray, List.set_cons_zero, List.set_cons_succ]
      refine wpL_one (i := 13) (by kernel_rfl) (StepL.mk rfl (fun K hK => ?_))
      go_simp
      generalize hq : u1.alloc (.cells #[.int .i64 0, .int .i64 0] 49) = u2
      have hb13 : Blk u2 u1.heap.size 49 #[.int .i64 0, .int .i64 0] := hq ▸ Blk.new _ _ _
      have hk12 : Keep u1 u2 := hq ▸ Keep.new _ _
      clear hq
      have y13 := hb13.lt
      have z2 := hk12.size
      have ha := Keep.trans hA hk12
      refine hK.out _ _ (SAB.both ha trivial) (fun hSS => ?_)
      clear hK K hA hB
      have hB := hSS.2
      have hA := hSS.1 (by kernel_rfl)
      (try dsimp only at hB); (try dsimp only at hA); clear hSS
      try simp only [Act.put, List.setIfInBounds_toArray, List.set_cons_zero, List.set_cons_succ]
      clear ha
      have b9 := hb13
      refine wpL_one (i := 14) (by kernel_rfl) (StepL.mk rfl (fun K hK => ?_))
      refine step_store_blk rfl _ _ _ rfl (u1.heap.size) 0 49 _ [.int .i64 (labInc evs e.sIdx), .int .i64 (labIdx evs e.sIdx)] rfl rfl b9 (by simp) (by kernel_rfl) rfl ?_
      intro v5 hv5 hs5
      rw [splice_all [.int .i64 (labInc evs e.sIdx), .int .i64 (labIdx evs e.sIdx)] #[.int .i64 0, .int .i64 0] rfl] at hv5
      have zA := hA.size
      have hfin : PsC W (labInc evs e.sIdx) (labIdx evs e.sIdx) (labOk evs e.sIdx) (.pointer (some ⟨u1.heap.size, 0, none⟩)) (.bool (labOk evs e.sIdx)) v5 := ⟨_, rfl, rfl, hv5, Keep.write hA hs5 (by omega)⟩
      refine hK.out _ _ (SAB.past (by kernel_rfl) trivial) (fun hSS => ?_)
      clear hK K hA hB
      have hB := hSS.2
      have hA : True := trivial
      (try dsimp only at hB); (try dsimp only at hA); clear hSS
      try simp only [Act.put, List.setIfInBounds_toArray, List.set_cons_zero, List.set_cons_succ]
      have HFIN := Lib.hid hfin
      clear hfin
      clear hv5 hs5 b9 hb13 hA hB hk11 hk12
      have hA : True := trivial
      have hB : True := trivial
      refine wpL_one (i := 15) (by kernel_rfl) (StepL.mk rfl (fun K hK => ?_))
      go_simp
      refine hK.out _ _ (SAB.past (by kernel_rfl) trivial) (fun hSS => ?_)
      clear hK K hA hB
      have hB := hSS.2
      have hA : True := trivial
      (try dsimp only at hB); (try dsimp only at hA); clear hSS
      try simp only [Act.put, List.setIfInBounds_toArray, List.set_cons_zero, List.set_cons_succ]
      refine wpL_done (by kernel_rfl) ?_
      go_wp2_with fail
      go_meet
      exact HFIN.out
    · go_simp
      generalize hq : u0.alloc (.cells #[.int .i64 0, .int .i64 0] 49) = u1
      have hb13 : Blk u1 u0.heap.size 49 #[.int .i64 0, .int .i64 0] := hq ▸ Blk.new _ _ _
      have hk11 : Keep u0 u1 := hq ▸ Keep.new _ _
      clear hq
      have y13 := hb13.lt
      have z1 := hk11.size
      have ha := Keep.trans hA hk11
      refine hK.out _ _ (SAB.both ha trivial) (fun hSS => ?_)
      clear hK K hA hB
      have hB := hSS.2
      have hA := hSS.1 (by kernel_rfl)
      (try dsimp only at hB); (try dsimp only at hA); clear hSS
      try simp only [Act.put, List.setIfInBounds_toArray, List.set_cons_zero, List.set_cons_succ]
      clear ha
      refine wpL_one (i := 9) (by kernel_rfl) (StepL.mk rfl (fun K hK => ?_))
      go_simp
      refine (plabel_any u1 S none Ae none none 0 0 ne ce 0 0 0 0 evs e.sIdx (fun i hi => by have := HS.out i hi; have := hA.size; omega) (HSE.out.keep (Same.mono hA (fun i hi => by have := HS.out i hi; omega))) HEL.out).mono ?_
      rintro e9 u2 ⟨rfl, hk12⟩
      have z2 := hk12.size
      have ha := Keep.trans hA hk12
      refine hK.out _ _ (SAB.both ha trivial) (fun hSS => ?_)
      clear hK K hA hB
      have hB := hSS.2
      have hA := hSS.1 (by kernel_rfl)
      (try dsimp only at hB); (try dsimp only at hA); clear hSS
      try simp only [Act.put, List.setIfInBounds_toArray, List.set_cons_zero, List.set_cons_succ]
      clear ha
      refine wpL_takeA (i := 10) (v := ?_) rfl (by kernel_rfl) (by kernel_rfl) (by kernel_rfl) (by kernel_rfl) (by decide) (fun _ _ _ h => h) (Or.inl ⟨by rfl, ?_⟩) hA hB ?_
      rotate_left
      · rintro wx ⟨hAx, hBx⟩
        (try dsimp only at hBx); (try dsimp only at hAx)
        go_simp
        try with_reducible rfl
      try simp only [Act.put, List.setIfInBounds_toArray, List.set_cons_zero, List.set_cons_succ]
      refine wpL_takeA (i := 11) (v := ?_) rfl (by kernel_rfl) (by kernel_rfl) (by kernel_rfl) (by kernel_rfl) (by decide) (fun _ _ _ h => h) (Or.inl ⟨by rfl, ?_⟩) hA hB ?_
      rotate_left
      · rintro wx ⟨hAx, hBx⟩
        (try dsimp only at hBx); (try dsimp only at hAx)
        go_simp
        try with_reducible rfl
      try simp only [Act.put, List.setIfInBounds_toArray, List.set_cons_zero, List.set_cons_succ]
      refine wpL_takeB (i := 12) (v := ?_) rfl (by kernel_rfl) (by kernel_rfl) (by kernel_rfl) (by decide) (fun _ _ _ h => h) (Or.inl ⟨by rfl, ?_⟩) (SAB.both hA hB) ?_
      rotate_left
      · intro wx hBx
        (try dsimp only at hBx)
        go_simp
        try with_reducible rfl
      try simp only [Act.put, List.setIfInBounds_toArray, List.set_cons_zero, List.set_cons_succ]
      have b9 := hk12.blk hb13 y13
      refine wpL_one (i := 14) (by kernel_rfl) (StepL.mk rfl (fun K hK => ?_))
      refine step_store_blk rfl _ _ _ rfl (u0.heap.size) 0 49 _ [.int .i64 (labInc evs e.sIdx), .int .i64 (labIdx evs e.sIdx)] rfl rfl b9 (by simp) (by kernel_rfl) rfl ?_
      intro v5 hv5 hs5
      rw [splice_all [.int .i64 (labInc evs e.sIdx), .int .i64 (labIdx evs e.sIdx)] #[.int .i64 0, .int .i64 0] rfl] at hv5
      have zA := hA.size
      have hfin : PsC W (labInc evs e.sIdx) (labIdx evs e.sIdx) (labOk evs e.sIdx) (.pointer (some ⟨u0.heap.size, 0, none⟩)) (.bool (labOk evs e.sIdx)) v5 := ⟨_, rfl, rfl, hv5, Keep.write hA hs5 (by omega)⟩
      refine hK.out _ _ (SAB.past (by kernel_rfl) trivial) (fun hSS => ?_)
      clear hK K hA hB
      have hB := hSS.2
      have hA : True := trivial
      (try dsimp only at hB); (try dsimp only at hA); clear hSS
      try simp only [Act.put, List.setIfInBounds_toArray, List.set_cons_zero, List.set_cons_succ]
      have HFIN := Lib.hid hfin
      clear hfin
      clear hv5 hs5 b9 hb13 hA hB hk11 hk12
      have hA : True := trivial
      have hB : True := trivial
      refine wpL_one (i := 15) (by kernel_rfl) (StepL.mk rfl (fun K hK => ?_))
      go_simp
      refine hK.out _ _ (SAB.past (by kernel_rfl) trivial) (fun hSS => ?_)
      clear hK K hA hB
      have hB := hSS.2
      have hA : True := trivial
      (try dsimp only at hB); (try dsimp only at hA); clear hSS
      try simp only [Act.put, List.setIfInBounds_toArray, List.set_cons_zero, List.set_cons_succ]
      refine wpL_done (by kernel_rfl) ?_
      go_wp2_with fail
      go_meet
      exact HFIN.out
  case rest =>
    obtain ⟨g, rfl, rfl, hbl, hkc⟩ := hcut
    have hbe := hkc.blk HB7.out HB7.out.lt
    have hpr := HPR.out
    have fin2 : ∀ b, (labOk evs e.sIdx && decide (labInc evs e.sIdx = e.sInc) && decide (labIdx evs e.sIdx = e.sIdx)) = b → BoolPost (possS l at_ q e) w (.returned (.bool b)) wc := fun b hb => FIN.out b (hpr.trans hb) wc hkc
    generalize labInc evs e.sIdx = la at *
    generalize labIdx evs e.sIdx = lb at *
    generalize labOk evs e.sIdx = lo at *
    have HBL := Lib.hid hbl
    have HBE := Lib.hid hbe
    have FIN2 := Lib.hid fin2
    clear hbl hbe fin2
    clear hpr hkc hkq
    cases lo with
    | false =>
      have hfin := FIN2.out false (by simp)
      have HFIN := Lib.hid hfin
      clear hfin
      go_wp2_with fail
      go_ret
      exact HFIN.out
    | true =>
      by_cases q1 : la = e.sInc
      case neg =>
        have hfin := FIN2.out false (by simp [q1])
        have HFIN := Lib.hid hfin
        clear hfin
        go_wp2_with (first
          | (refine wpList_load_allg (by rfl) _ (.tmp 9) rfl g 49 [.int .i64 la, .int .i64 lb] _ rfl HBL.out Tryz.underlying49 rfl (by kernel_rfl) ?_)
          | (refine wpList_load_blkg (by rfl) _ (.tmp 57) rfl w.heap.size 3 51 _ [.int .i64 e.sInc, .int .i64 e.sIdx] _ rfl HBE.out (lab_cells e.kind e.inc e.frm e.sInc e.sIdx e.ord e.val) Tryz.underlying49 rfl (by kernel_rfl) ?_))
        go_ret
        exact HFIN.out
      by_cases q2 : lb = e.sIdx
      case neg =>
        have hfin := FIN2.out false (by simp [q2])
        have HFIN := Lib.hid hfin
        clear hfin
        go_wp2_with (first
          | (refine wpList_load_allg (by rfl) _ (.tmp 9) rfl g 49 [.int .i64 la, .int .i64 lb] _ rfl HBL.out Tryz.underlying49 rfl (by kernel_rfl) ?_)
          | (refine wpList_load_blkg (by rfl) _ (.tmp 57) rfl w.heap.size 3 51 _ [.int .i64 e.sInc, .int .i64 e.sIdx] _ rfl HBE.out (lab_cells e.kind e.inc e.frm e.sInc e.sIdx e.ord e.val) Tryz.underlying49 rfl (by kernel_rfl) ?_))
        go_ret
        exact HFIN.out
      have hfin := FIN2.out true (by simp [q1, q2])
      have HFIN := Lib.hid hfin
      clear hfin
      go_wp2_with (first
        | (refine wpList_load_allg (by rfl) _ (.tmp 9) rfl g 49 [.int .i64 la, .int .i64 lb] _ rfl HBL.out Tryz.underlying49 rfl (by kernel_rfl) ?_)
        | (refine wpList_load_blkg (by rfl) _ (.tmp 57) rfl w.heap.size 3 51 _ [.int .i64 e.sInc, .int .i64 e.sIdx] _ rfl HBE.out (lab_cells e.kind e.inc e.frm e.sInc e.sIdx e.ord e.val) Tryz.underlying49 rfl (by kernel_rfl) ?_))
      go_ret
      exact HFIN.out
end Go.Proofs.YtecckbkobkfnmaaGreatDoor

-- SchedS
/- The order of events, in plain Lean. -/
set_option linter.unusedVariables false
set_option linter.unusedSimpArgs false
namespace Go.Proofs.YtecckbkobkfnmaaGreatDoor
open Go.RowKit Go.Proofs

def evAt (l : List (List Ev)) (at_ : List Int) (q : Nat) : Ev := (l.getD q []).getD (at_.getD q 0).toNat ⟨0, 0, 0, 0, 0, 0, 0⟩
def canS (l : List (List Ev)) (to_ at_ : List Int) (q : Nat) : Bool := decide (at_.getD q 0 < to_.getD q 0) && possS l at_ q (evAt l at_ q)
def incS (at_ : List Int) (q : Nat) : List Int := at_.set q (at_.getD q 0 + 1)
def FirstIs (p : Nat → Bool) (n q : Nat) : Prop := q < n ∧ p q = true ∧ ∀ i, i < q → p i = false
theorem FirstIs.eq {p : Nat → Bool} {n a b : Nat} (h : FirstIs p n a) (k : FirstIs p n b) : a = b := by
  rcases Nat.lt_trichotomy a b with q | q | q
  · have := k.2.2 a q; rw [h.2.1] at this; cases this
  · exact q
  · have := h.2.2 b q; rw [k.2.1] at this; cases this
inductive Sched (l : List (List Ev)) (to_ : List Int) : List Int → List Chc → Option (List Chc) → Prop
  | done {at_ : List Int} {out : List Chc} (h : at_ = to_) : Sched l to_ at_ out (some out)
  | stuck {at_ : List Int} {out : List Chc} (h : at_ ≠ to_) (hn : ∀ q, q < l.length → canS l to_ at_ q = false) : Sched l to_ at_ out none
  | step {at_ : List Int} {out : List Chc} {r : Option (List Chc)} {q : Nat} (h : at_ ≠ to_) (hq : FirstIs (canS l to_ at_) l.length q) (hs : Sched l to_ (incS at_ q) (out ++ [chS q (evAt l at_ q)]) r) : Sched l to_ at_ out r
theorem Sched.det {l : List (List Ev)} {to_ at_ : List Int} {out : List Chc} {r : Option (List Chc)} (h : Sched l to_ at_ out r) : ∀ {r' : Option (List Chc)}, Sched l to_ at_ out r' → r = r' := by
  induction h with
  | done h =>
    intro r' k
    cases k with
    | done _ => rfl
    | stuck g _ => exact absurd h g
    | step g _ _ => exact absurd h g
  | stuck h hn =>
    intro r' k
    cases k with
    | done g => exact absurd g h
    | stuck _ _ => rfl
    | step _ g _ => have := hn _ g.1; rw [g.2.1] at this; cases this
  | step h hq hs ih =>
    intro r' k
    cases k with
    | done g => exact absurd g h
    | stuck _ g => have := g _ hq.1; rw [hq.2.1] at this; cases this
    | step _ g ks => have e := hq.eq g; subst e; exact ih ks
/-- The indexes lie between 0 and the ends. -/
def Rng (l : List (List Ev)) (at_ to_ : List Int) : Prop :=
  at_.length = l.length ∧ to_.length = l.length ∧ ∀ q, q < l.length → 0 ≤ at_.getD q 0 ∧ at_.getD q 0 ≤ to_.getD q 0 ∧ to_.getD q 0 ≤ (l.getD q []).length
theorem getD_set_self {at_ : List Int} {q : Nat} {v : Int} (h : q < at_.length) : (at_.set q v).getD q 0 = v := by simp [List.getD, h]
theorem getD_set_other {at_ : List Int} {q i : Nat} {v : Int} (h : q ≠ i) : (at_.set q v).getD i 0 = at_.getD i 0 := by simp [List.getD, List.getElem?_set, h]
theorem Rng.inc {l : List (List Ev)} {at_ to_ : List Int} {q : Nat} (h : Rng l at_ to_) (hq : q < l.length) (hlt : at_.getD q 0 < to_.getD q 0) : Rng l (incS at_ q) to_ := by
  obtain ⟨h1, h2, h3⟩ := h
  refine ⟨by simp [incS, h1], h2, fun i hi => ?_⟩
  have := h3 i hi
  unfold incS
  by_cases e : q = i
  · subst e
    rw [getD_set_self (by omega)]
    omega
  · rw [getD_set_other e]
    exact this
/-- How many events are still to come. -/
def leftS : List Int → List Int → Nat
  | a :: ar, t :: ts => (t - a).toNat + leftS ar ts
  | _, _ => 0
theorem leftS_inc : ∀ (at_ to_ : List Int) (q : Nat), q < at_.length → q < to_.length → at_.getD q 0 < to_.getD q 0 → leftS (incS at_ q) to_ < leftS at_ to_
  | a :: ar, t :: ts, 0, _, _, h => by
    simp only [incS, List.getD_cons_zero, List.set_cons_zero, leftS] at h ⊢
    omega
  | a :: ar, t :: ts, q + 1, h1, h2, h => by
    have ih := leftS_inc ar ts q (by simpa using h1) (by simpa using h2) (by simpa using h)
    simp only [incS, List.getD_cons_succ, List.set_cons_succ, leftS] at ih ⊢
    omega
  | [], _, _, h1, _, _ => by simp at h1
  | _ :: _, [], _, _, h2, _ => by simp at h2
/-- The order of the events between two lists of indexes, or that there is none. -/
def SchIs (l : List (List Ev)) (from_ to_ : List Int) (r : Option (List Chc)) : Prop := (Rng l from_ to_ ∧ Sched l to_ from_ [] r) ∨ (¬ Rng l from_ to_ ∧ r = none)
theorem SchIs.det {l : List (List Ev)} {from_ to_ : List Int} {r r' : Option (List Chc)} (h : SchIs l from_ to_ r) (k : SchIs l from_ to_ r') : r = r' := by
  rcases h with ⟨h1, h2⟩ | ⟨h1, h2⟩
  · rcases k with ⟨k1, k2⟩ | ⟨k1, k2⟩
    · exact h2.det k2
    · exact absurd h1 k1
  · rcases k with ⟨k1, k2⟩ | ⟨k1, k2⟩
    · exact absurd k1 h1
    · rw [h2, k2]
end Go.Proofs.YtecckbkobkfnmaaGreatDoor

-- Sched2
/- replay.Schedule. -/
set_option linter.unusedVariables false
set_option linter.unusedSimpArgs false
set_option maxRecDepth 100000
namespace Go.Proofs.YtecckbkobkfnmaaGreatDoor
open Go.RowKit Go.Proofs

def SchPost (l : List (List Ev)) (fr to_ : List Int) (w : World) (e : Ending) (w' : World) : Prop :=
  ∃ r, SchIs l fr to_ r ∧ Keep w w' ∧ ((r = none ∧ e = .returned (.tuple #[.slice none 0 0, .bool false])) ∨ ∃ (out : List Chc) (A : Option Addr) (n c : Nat), r = some out ∧ e = .returned (.tuple #[.slice A n c, .bool true]) ∧ Sl encCh 6 w' (fun i => w.heap.size ≤ i ∧ i < w'.heap.size) A n c out)
theorem leftS_le {K : Nat} : ∀ (at_ to_ : List Int), (∀ q, q < at_.length → to_.getD q 0 - at_.getD q 0 ≤ K) → leftS at_ to_ ≤ at_.length * K
  | [], _, _ => by simp [leftS]
  | _ :: _, [], _ => by simp [leftS]
  | a :: ar, t :: ts, h => by
    have h0 := h 0 (by simp)
    have ih := leftS_le (K := K) ar ts (fun q hq => by have := h (q + 1) (by simpa using hq); simpa using this)
    simp at h0
    simp only [leftS, List.length_cons, Nat.add_mul]
    omega
theorem Rng.left {l : List (List Ev)} {at_ to_ : List Int} (h : Rng l at_ to_) (hl : ∀ x ∈ l, x.length ≤ 100000) : leftS at_ to_ ≤ l.length * 100000 := by
  have := leftS_le (K := 100000) at_ to_ (fun q hq => by
    have h3 := h.2.2 q (by rw [← h.1]; exact hq)
    have hx : (l.getD q []).length ≤ 100000 := by
      have hq' : q < l.length := by rw [← h.1]; exact hq
      simp only [List.getD, List.getElem?_eq_getElem hq', Option.getD_some]
      exact hl _ (List.getElem_mem hq')
    omega)
  rw [h.1] at this
  exact this
theorem getD_of {α : Type} {l : List α} {k : Nat} {a d : α} (h : l[k]? = some a) : l.getD k d = a := by simp [List.getD, h]
def ScL1 (l : List (List Ev)) (fr to_ : List Int) (W : World) (i : Value) (wr : World) : Prop := ∃ k : Nat, i = .int .i64 k ∧ k ≤ l.length ∧ (∀ q, q < k → 0 ≤ fr.getD q 0 ∧ fr.getD q 0 ≤ to_.getD q 0 ∧ to_.getD q 0 ≤ (l.getD q []).length) ∧ Keep W wr
def ScL2 (l : List (List Ev)) (fr to_ : List Int) (k B : Nat) (W : World) (Aa : Option Addr) (ca gk : Nat) (v : Value) (wr : World) : Prop :=
  ∃ (at_ : List Int) (out : List Chc), gk = leftS at_ to_ ∧ Rng l at_ to_ ∧ out.length + gk ≤ leftS fr to_ ∧ (∀ r, Sched l to_ at_ out r → Sched l to_ fr [] r) ∧ wr.ownsRow B 3 1 (.slice Aa k ca) k (at_.flatMap encI) ∧ wr.ownsRow B 54 6 v out.length (out.flatMap encCh) ∧ (∀ b, v.ownBlock = some b → Aa.map (·.block) ≠ some b) ∧ Keep W wr
def ScL3 (l : List (List Ev)) (to_ at_ : List Int) (out : List Chc) (k m B : Nat) (W : World) (Aa : Option Addr) (ca : Nat) (v : Value) (gk : Nat) (x i : Value) (wr : World) : Prop :=
  ∃ q : Nat, x = v ∧ i = .int .i64 q ∧ gk + q = k ∧ (∀ j, j < q → canS l to_ at_ j = false) ∧ wr.ownsRow B 3 1 (.slice Aa k ca) k (at_.flatMap encI) ∧ wr.ownsRow B 54 6 v m (out.flatMap encCh) ∧ Keep W wr
theorem info_Choice : (Tryz.prog.info? 54).map (fun i => (i.zero, i.size, i.bytes)) = some (some (.agg #[.int .i64 0, .int .i64 0, .int .i64 0, .int .i64 0, .int .i64 0, .int .i64 0]), 6, 48) := by kernel_rfl
theorem own_ints {w : World} {B k ca : Nat} {Aa : Option Addr} {l : List Int} (h : w.ownsRow B 3 1 (.slice Aa k ca) k (l.flatMap encI)) : Sl encI 1 w (fun i => B ≤ i ∧ i < w.heap.size) Aa k ca l := by
  obtain ⟨A', c', e1, h1, h2⟩ := own_form h
  simp only [Value.slice.injEq, true_and] at e1
  obtain ⟨rfl, rfl⟩ := e1
  have hl : k = l.length := by have := h.1; rw [flat_length encI_len] at this; omega
  exact ⟨hl, h1, h2, Reads.of_own h⟩
theorem own_chs {w : World} {B m c : Nat} {A : Option Addr} {l : List Chc} (h : w.ownsRow B 54 6 (.slice A m c) m (l.flatMap encCh)) : Sl encCh 6 w (fun i => B ≤ i ∧ i < w.heap.size) A m c l := by
  obtain ⟨A', c', e1, h1, h2⟩ := own_form h
  simp only [Value.slice.injEq, true_and] at e1
  obtain ⟨rfl, rfl⟩ := e1
  have hl : m = l.length := by have := h.1; rw [flat_length encCh_len] at this; omega
  exact ⟨hl, h1, h2, Reads.of_own h⟩
theorem builtS_ch (a b c d e f : Int) : builtS Tryz.prog 54 1 [(0, .agg #[.int .i64 a, .int .i64 b, .int .i64 c, .int .i64 d, .int .i64 e, .int .i64 f])] = some #[.int .i64 a, .int .i64 b, .int .i64 c, .int .i64 d, .int .i64 e, .int .i64 f] := by kernel_rfl
set_option maxHeartbeats 16000000 in
theorem schedule_any (w : World) (S : Nat → Prop) (A A1 A2 : Option Addr) (n c n1 c1 n2 c2 : Nat) (l : List (List Ev)) (fr to_ : List Int) (hS : ∀ i, S i → i < w.heap.size) (hl : SlR w S 1 (EvsR w S) A n c l) (hf : Sl encI 1 w S A1 n1 c1 fr) (ht : Sl encI 1 w S A2 n2 c2 to_)
    (hn : n ≤ 1000) (hlen : ∀ x ∈ l, x.length ≤ 100000) (hn1 : n1 ≤ 1000000) (hn2 : n2 ≤ 1000000) : Calls Tryz.prog 29 #[.slice A n c, .slice A1 n1 c1, .slice A2 n2 c2] w (SchPost l fr to_ w) := by
  have hnl := hl.1
  have hnf := hf.1
  have hnt := ht.1
  have bad : ¬ Rng l fr to_ → ∀ w', Keep w w' → SchPost l fr to_ w (.returned (.tuple #[.slice none 0 0, .bool false])) w' := fun h w' hk => ⟨none, .inr ⟨h, rfl⟩, hk, .inl ⟨rfl, rfl⟩⟩
  have BAD := Lib.hid bad
  have HLEN := Lib.hid hlen
  have HS := Lib.hid hS
  have HL := Lib.hid hl
  have HF := Lib.hid hf
  have HT := Lib.hid ht
  clear bad hlen hS hl hf ht
  by_cases h1 : n1 = n
  case neg =>
    have t1 : ((n1 : Int) != n) = true := by simp; omega
    have t1' : (n1 != n) = true := by simpa using h1
    have hb := BAD.out (fun h => h1 (by have := h.1; omega)) w (Same.refl _ _)
    have HB := Lib.hid hb
    have HNL := Lib.hid hnl
    have HNF := Lib.hid hnf
    have HNT := Lib.hid hnt
    clear hb hnl hnf hnt
    clear h1
    go_enter Tryz.func29, Tryz.ntmps29
    go_wp2_with fail
    go_step3
    go_wp2_with fail
    rw [Exit.noGoto_ret]
    go_ret2
    exact HB.out
  subst h1
  by_cases h2 : n2 = n1
  case neg =>
    have t2 : ((n2 : Int) != n1) = true := by simp; omega
    have t2' : (n2 != n1) = true := by simpa using h2
    have hb := BAD.out (fun h => h2 (by have := h.1; have := h.2.1; omega)) w (Same.refl _ _)
    have HB := Lib.hid hb
    have HNL := Lib.hid hnl
    have HNF := Lib.hid hnf
    have HNT := Lib.hid hnt
    clear hb hnl hnf hnt
    clear h2
    go_enter Tryz.func29, Tryz.ntmps29
    go_wp2_with fail
    go_step3
    go_wp2_with fail
    rw [Exit.noGoto_ret]
    go_ret2
    exact HB.out
  subst h2
  have hlf : fr.length = l.length ∧ to_.length = l.length := by omega
  have HNL := Lib.hid hnl
  have HNF := Lib.hid hnf
  have HNT := Lib.hid hnt
  have HLF := Lib.hid hlf
  clear hnl hnf hnt hlf
  go_enter Tryz.func29, Tryz.ntmps29
  go_wp2_with fail
  go_step3
  go_wp2_with fail
  go_loopw [28] (fun i wr => ScL1 l fr to_ w i wr) (fun i _ => n2 - (intOf i).toNat)
  case atStart => exact ⟨0, rfl, Nat.zero_le _, fun q hq => absurd hq (by omega), Same.refl _ _⟩
  case round =>
    obtain ⟨k, rfl, hkl, hall, hkr⟩ := hrel
    have hsm := Same.mono hkr HS.out
    by_cases hkn : k < n2
    · obtain ⟨b1, off1, fv, rfl, -, hfv, hc1⟩ := (HF.out.keep hsm).at_ encI_len hkn
      obtain ⟨b2, off2, tv, rfl, -, htv, hc2⟩ := (HT.out.keep hsm).at_ encI_len hkn
      obtain ⟨b0, off0, cs, evs, rfl, -, hev, ⟨Ae, ne, ce, rfl, hse⟩, -, hc0⟩ := (HL.out.keep hsm (EvsR.keep hsm)).at_ hkn
      have hd1 : decide (k < n2) = true := by simpa using hkn
      have hd2 : (0 : Int) ≤ k := by omega
      have hd3 : (k : Int) < n2 := by omega
      have x1 : wr.cell? ⟨b1, off1 + k, none⟩ = some (.int .i64 fv) := by have := hc1 0 _ rfl; simpa using this
      have x2 : wr.cell? ⟨b2, off2 + k, none⟩ = some (.int .i64 tv) := by have := hc2 0 _ rfl; simpa using this
      have x0 : wr.cell? ⟨b0, off0 + k, none⟩ = some (.slice Ae ne ce) := by have := hc0 0 _ rfl; simpa using this
      have g1 := getD_of (d := 0) hfv
      have g2 := getD_of (d := 0) htv
      have g0 := getD_of (d := []) hev
      have hne := hse.1
      have hkl1 : k + 1 ≤ l.length := by have := HNL.out; omega
      have hnx : ∀ w', Keep wr w' → ¬ (0 ≤ fv ∧ fv ≤ tv ∧ tv ≤ ne) → SchPost l fr to_ w (.returned (.tuple #[.slice none 0 0, .bool false])) w' := fun w' hk' hno => BAD.out (fun h => hno (by have := h.2.2 k (by omega); rw [g1, g2, g0] at this; omega)) w' (Keep.trans hkr hk')
      have hok : (0 ≤ fv ∧ fv ≤ tv ∧ tv ≤ ne) → ∀ w', Keep wr w' → ScL1 l fr to_ w (.int .i64 (k + 1)) w' := fun hr w' hk' => ⟨k + 1, by simp, hkl1, fun q hq => by
        rcases Nat.lt_or_ge q k with h | h
        · exact hall q h
        · obtain rfl : q = k := by omega
          rw [g1, g2, g0]
          omega, Keep.trans hkr hk'⟩
      have HNX := Lib.hid hnx
      have HOK := Lib.hid hok
      clear hnx hok
      clear hc1 hc2 hc0 hall g1 g2 g0 hne hse hfv htv hev hkl1 hkr hsm
      by_cases q1 : fv < 0
      · have t1 : decide (fv < 0) = true := by simpa using q1
        go_upto_region 6 with fail
        go_quiet (fail)
        go_wp2_with fail
        (try rw [Exit.noGoto_ret])
        go_ret2
        exact HNX.out _ (Keep.draws _ _) (by omega)
      have t1 : decide (fv < 0) = false := by simpa using q1
      by_cases q2 : tv < fv
      · have t2 : decide (tv < fv) = true := by simpa using q2
        go_upto_region 6 with fail
        go_quiet (fail)
        go_wp2_with fail
        (try rw [Exit.noGoto_ret])
        go_ret2
        exact HNX.out _ (Keep.draws _ _) (by omega)
      have t2 : decide (tv < fv) = false := by simpa using q2
      by_cases q3 : (ne : Int) < tv
      · have t3 : decide ((ne : Int) < tv) = true := by simpa using q3
        go_upto_region 6 with fail
        go_quiet (fail)
        go_wp2_with fail
        (try rw [Exit.noGoto_ret])
        go_ret2
        exact HNX.out _ (Keep.draws _ _) (by omega)
      have t3 : decide ((ne : Int) < tv) = false := by simpa using q3
      go_upto_region 6 with fail
      go_quiet (fail)
      go_wp2_with fail
      go_roundw
      case rel => exact HOK.out ⟨by omega, by omega, by omega⟩ _ (Keep.draws _ _)
      case measure => simp [intOf]; omega
    · have hd1 : decide (k < n2) = false := by simpa using hkn
      obtain rfl : k = n2 := by have := HNL.out; omega
      have hrng : Rng l fr to_ := ⟨HLF.out.1, HLF.out.2, fun q hq => hall q (by have := HNL.out; omega)⟩
      have hM := hrng.left HLEN.out
      obtain ⟨wd, rfl⟩ : ∃ wd : World, wd = wr := ⟨_, rfl⟩
      have hkd := hkr
      have hzd := hkd.size
      have key := cloneInts_any wd S A1 k c1 fr (HF.out.keep hsm) (fun i hi => by have := HS.out i hi; omega) (by omega)
      have hfd := HF.out.keep hsm
      have htd := HT.out.keep hsm
      have hld := HL.out.keep hsm (EvsR.keep hsm)
      have hMx : leftS fr to_ ≤ 100000000 := by have := HNL.out; omega
      have HRNG := Lib.hid hrng
      have KEY := Lib.hid key
      have HKD := Lib.hid hkd
      have HFD := Lib.hid hfd
      have HTD := Lib.hid htd
      have HLD := Lib.hid hld
      have HMX := Lib.hid hMx
      clear hrng key hkd hfd htd hld hMx
      clear hall hM hsm hkr
      go_wp2_with fail
      refine KEY.out.mono ?_
      rintro e w2 ⟨va, rfl, hoa, hka⟩
      have hfl : fr.length = k := by have := HNF.out; omega
      rw [hfl] at hoa
      obtain ⟨Aa, ca, hva, -, -⟩ := own_form hoa
      subst hva
      have hz2 := hka.size
      obtain ⟨iC, hi0, iz0, is0, ib0⟩ := info_of info_Choice
      have hrel0 : ScL2 l fr to_ k wd.heap.size wd Aa ca (leftS fr to_) (.slice none 0 0) w2 := ⟨fr, [], rfl, HRNG.out, by simp, fun r h => h, hoa, World.ownsRow_nil _ _ _ _, fun b hb => (by cases hb), hka⟩
      have HREL0 := Lib.hid hrel0
      have HI0 := Lib.hid hi0
      have IZ0 := Lib.hid iz0
      have IS0 := Lib.hid is0
      have IB0 := Lib.hid ib0
      clear hrel0 hi0 iz0 is0 ib0
      clear hoa hka KEY hfl
      go_wp2_with fail
      go_step3
      go_wp2_with fail
      go_loopg [11] (leftS fr to_) (fun gk v wr => ScL2 l fr to_ k wd.heap.size wd Aa ca gk v wr)
      case atStart => exact HREL0.out
      case round =>
        clear HREL0
        obtain ⟨at_, out, rfl, hr, hol, hsc, ho1, ho2, hdj, hkr⟩ := hrel
        obtain ⟨Av, cv, rfl, hv1, hv2⟩ := own_form ho2
        have hzr := hkr.size
        have key := equalInts_is wr _ S Aa A2 k k ca c2 at_ to_ (own_ints ho1) (HTD.out.keep (Same.mono hkr (fun i hi => by have := HS.out i hi; omega))) (by omega) (by omega)
        generalize hml : out.length = m at *
        have HR := Lib.hid hr
        have HSC := Lib.hid hsc
        have HO1 := Lib.hid ho1
        have HO2 := Lib.hid ho2
        have HDJ := Lib.hid hdj
        have HKR := Lib.hid hkr
        have KEY := Lib.hid key
        have HML := Lib.hid hml
        clear hr hsc ho1 ho2 hdj hkr key hml
        go_wp2_with fail
        refine KEY.out.mono ?_
        rintro e w3 ⟨b3, hb3, rfl, j3, hw3⟩
        have hk3 : Keep wr w3 := hw3 ▸ Keep.draws wr j3
        clear hw3 KEY
        cases b3 with
        | true =>
          have he : at_ = to_ := hb3.1 rfl
          have hfin : SchPost l fr to_ w (.returned (.tuple #[.slice Av m cv, .bool true])) w3 := ⟨some out, .inl ⟨HRNG.out, HSC.out _ (.done he)⟩, Keep.trans HKD.out (Keep.trans HKR.out hk3), .inr ⟨out, Av, m, cv, rfl, rfl, (own_chs (ownsRow_same HO2.out hk3 (fun i hi => hi.2))).more (fun i hi => ⟨by have := hi.1; omega, hi.2⟩)⟩⟩
          have HFIN := Lib.hid hfin
          clear hfin
          clear he hb3 hk3
          go_wp2_with fail
          (try rw [Exit.noGoto_ret])
          go_ret2
          exact HFIN.out
        | false =>
          have hne : at_ ≠ to_ := fun h => (by have := hb3.2 h; cases this)
          have hrel1 : ScL3 l to_ at_ out k m wd.heap.size wd Aa ca (.slice Av m cv) k (.slice Av m cv) (.int .i64 0) w3 := ⟨0, rfl, rfl, by omega, fun j hj => absurd hj (by omega), ownsRow_same HO1.out hk3 (fun i hi => hi.2), ownsRow_same HO2.out hk3 (fun i hi => hi.2), Keep.trans HKR.out hk3⟩
          have hm9 : m ≤ 100000000 := by have := HMX.out; omega
          have HREL1 := Lib.hid hrel1
          have HNE := Lib.hid hne
          clear hrel1 hne
          clear hb3 hk3
          obtain ⟨wo, rfl⟩ : ∃ wo : World, wo = wr := ⟨_, rfl⟩
          go_wp2_with fail
          go_loopg [11, 67] k (fun gk x i wr => ScL3 l to_ at_ out k m wd.heap.size wd Aa ca (.slice Av m cv) gk x i wr)
          case atStart => exact HREL1.out
          case round =>
            clear HREL1
            obtain ⟨q, rfl, rfl, hgq, hno, hp1, hp2, hkq⟩ := hrel
            have hzq := hkq.size
            have hsmq : Same S wd wr := Same.mono hkq (fun i hi => by have := HS.out i hi; omega)
            by_cases hqn : q < k
            · obtain ⟨g, cur, rfl, hbg, hbk, hcs, hnc, hcm, htk⟩ := own_open hp1 (by omega)
              obtain ⟨ga, oa, av, haa, -, hav, hca⟩ := (own_ints hp1).at_ encI_len hqn
              simp only [Option.some.injEq, Addr.mk.injEq, and_true] at haa
              obtain ⟨rfl, rfl⟩ := haa
              obtain ⟨b2, off2, tv, rfl, hS2, htv, hc2⟩ := (HTD.out.keep hsmq).at_ encI_len hqn
              obtain ⟨b0, off0, cs, evs, rfl, hS0, hev, ⟨Ae, ne, ce, rfl, hse⟩, -, hc0⟩ := (HLD.out.keep hsmq (EvsR.keep hsmq)).at_ hqn
              have hd1 : decide (q < k) = true := by simpa using hqn
              have hd2 : (0 : Int) ≤ q := by omega
              have hd3 : (q : Int) < k := by omega
              have x1 : wr.cell? ⟨g, q, none⟩ = some (.int .i64 av) := by have := hca 0 _ rfl; simpa using this
              have x2 : wr.cell? ⟨b2, off2 + q, none⟩ = some (.int .i64 tv) := by have := hc2 0 _ rfl; simpa using this
              have x0 : wr.cell? ⟨b0, off0 + q, none⟩ = some (.slice Ae ne ce) := by have := hc0 0 _ rfl; simpa using this
              have g1 := getD_of (d := 0) hav
              have g2 := getD_of (d := 0) htv
              have g0 := getD_of (d := []) hev
              have hrq := HR.out.2.2 q (by have := HNL.out; omega)
              rw [g1, g2, g0] at hrq
              have hne9 : ne = evs.length := hse.1
              obtain ⟨an, rfl⟩ : ∃ an : Nat, av = an := ⟨av.toNat, by omega⟩
              have hlb : g < wr.heap.size := hbk.lt
              have hl2 : b2 < wr.heap.size := by have := HS.out _ hS2; omega
              have y1 : ∀ wx, Keep wr wx → wx.cell? ⟨g, q, none⟩ = some (.int .i64 an) := fun wx hx => (hx.cell (p := ⟨g, q, none⟩) hlb).trans x1
              have y2 : ∀ wx, Keep wr wx → wx.cell? ⟨b2, off2 + q, none⟩ = some (.int .i64 tv) := fun wx hx => (hx.cell (p := ⟨b2, off2 + q, none⟩) hl2).trans x2
              by_cases hlt : (an : Int) < tv
              · have t1 : decide ((an : Int) < tv) = true := by simpa using hlt
                obtain ⟨be, oe, ev, rfl, hSe, hee, hce⟩ := hse.at_ encEv_len (k := an) (by omega)
                have hea : evAt l at_ q = ev := by unfold evAt; rw [g0, g1]; simp [List.getD, hee]
                have hcan : canS l to_ at_ q = possS l at_ q ev := by unfold canS; rw [g1, g2, hea]; simp [hlt]
                have i0 : (0 : Int) ≤ an := by omega
                have i1 : (an : Int) < ne := by omega
                have hre : ∀ wx, Keep wr wx → wx.rangeAt be (oe + an * 7) [.int .i64 ev.kind, .int .i64 ev.inc, .int .i64 ev.frm, .int .i64 ev.sInc, .int .i64 ev.sIdx, .int .i64 ev.ord, .int .i64 ev.val] := fun wx hx i u hu => (hx.cell (p := ⟨be, oe + an * 7 + i, none⟩) (by have := HS.out _ hSe; show be < _; omega)).trans (hce i u hu)
                have hcq : cur[q]? = some (.int .i64 (an : Int)) := by rw [← hbk.cell]; exact x1
                have hne5 : ne ≤ 100000 := by have := HLEN.out _ (List.mem_of_getElem? hev); omega
                have hav' := hav
                have g1' := g1
                have hlt2 : at_.getD q 0 < to_.getD q 0 := by rw [g1, g2]; exact hlt
                have HRE := Lib.hid hre
                have HNO := Lib.hid hno
                have HP1 := Lib.hid hp1
                have HP2 := Lib.hid hp2
                have HKQ := Lib.hid hkq
                have HBK := Lib.hid hbk
                have HTK := Lib.hid htk
                have HEA := Lib.hid hea
                have HCAN := Lib.hid hcan
                have HCS := Lib.hid hcs
                have HCQ := Lib.hid hcq
                have HAV' := Lib.hid hav'
                have G1' := Lib.hid g1'
                have HLT2 := Lib.hid hlt2
                clear hre hno hp1 hp2 hkq hbk htk hea hcan hcs hcq hav' g1' hlt2
                clear hca hc2 hc0 hce hee hav htv hev hse g1 g2 g0 hrq hne9 x1 x2
                go_upto_region 15 with fail
                refine wp_region_L 99 (fun _ => True) (fun wx => Keep wr wx) (by kernel_rfl) trivial (Same.drew (Same.refl _ _)) (fun hA hB => ?_)
                generalize hu0 : wr.drew = u0 at hB ⊢
                clear hu0
                refine wpL_takeB (i := 0) (v := ?_) rfl (by kernel_rfl) (by kernel_rfl) (by kernel_rfl) (by decide) (fun _ _ _ h => h) (Or.inl ⟨by rfl, ?_⟩) (SAB.both hA hB) ?_
                rotate_left
                · intro wx hBx
                  (try dsimp only at hBx)
                  go_simp
                  try with_reducible rfl
                try simp only [Act.put, List.setIfInBounds_toArray, List.set_cons_zero, List.set_cons_succ]
                refine wpL_takeB (i := 1) (v := ?_) rfl (by kernel_rfl) (by kernel_rfl) (by kernel_rfl) (by decide) (fun _ _ _ h => h) (Or.inl ⟨by rfl, ?_⟩) (SAB.both hA hB) ?_
                rotate_left
                · intro wx hBx
                  (try dsimp only at hBx)
                  go_simp
                  try with_reducible rfl
                try simp only [Act.put, List.setIfInBounds_toArray, List.set_cons_zero, List.set_cons_succ]
                refine wpL_takeB (i := 2) (v := ?_) rfl (by kernel_rfl) (by kernel_rfl) (by kernel_rfl) (by decide) (fun _ _ _ h => h) (Or.inl ⟨by rfl, ?_⟩) (SAB.both hA hB) ?_
                rotate_left
                · intro wx hBx
                  (try dsimp only at hBx)
                  go_simp
                  try with_reducible rfl
                try simp only [Act.put, List.setIfInBounds_toArray, List.set_cons_zero, List.set_cons_succ]
                refine wpL_takeB (i := 3) (v := ?_) rfl (by kernel_rfl) (by kernel_rfl) (by kernel_rfl) (by decide) (fun _ _ _ h => h) (Or.inl ⟨by rfl, ?_⟩) (SAB.both hA hB) ?_
                rotate_left
                · intro wx hBx
                  (try dsimp only at hBx)
                  go_simp
                  try with_reducible rfl
                try simp only [Act.put, List.setIfInBounds_toArray, List.set_cons_zero, List.set_cons_succ]
                refine wpL_takeB (i := 4) (v := ?_) rfl (by kernel_rfl) (by kernel_rfl) (by kernel_rfl) (by decide) (fun _ _ _ h => h) (Or.inl ⟨by rfl, ?_⟩) (SAB.both hA hB) ?_
                rotate_left
                · intro wx hBx
                  (try dsimp only at hBx)
                  go_simp
                  try with_reducible rfl
                try simp only [Act.put, List.setIfInBounds_toArray, List.set_cons_zero, List.set_cons_succ]
                refine wpL_takeB (i := 5) (v := ?_) rfl (by kernel_rfl) (by kernel_rfl) (by kernel_rfl) (by decide) (fun _ _ _ h => h) (Or.inl ⟨by rfl, ?_⟩) (SAB.both hA hB) ?_
                rotate_left
                · intro wx hBx
                  (try dsimp only at hBx)
                  go_simp
                  try with_reducible rfl
                try simp only [Act.put, List.setIfInBounds_toArray, List.set_cons_zero, List.set_cons_succ]
                refine wpL_takeB (i := 6) (v := ?_) rfl (by kernel_rfl) (by kernel_rfl) (by kernel_rfl) (by decide) (fun _ _ _ h => h) (Or.inl ⟨by rfl, ?_⟩) (SAB.both hA hB) ?_
                rotate_left
                · intro wx hBx
                  (try dsimp only at hBx)
                  go_simp
                  try with_reducible rfl
                try simp only [Act.put, List.setIfInBounds_toArray, List.set_cons_zero, List.set_cons_succ]
                refine wpL_takeB (i := 7) (v := ?_) rfl (by kernel_rfl) (by kernel_rfl) (by kernel_rfl) (by decide) (fun _ _ _ h => h) (Or.inl ⟨by rfl, ?_⟩) (SAB.both hA hB) ?_
                rotate_left
                · intro wx hBx
                  (try dsimp only at hBx)
                  go_simp
                  try with_reducible rfl
                try simp only [Act.put, List.setIfInBounds_toArray, List.set_cons_zero, List.set_cons_succ]
                refine wpL_takeB (i := 8) (v := ?_) rfl (by kernel_rfl) (by kernel_rfl) (by kernel_rfl) (by decide) (fun _ _ _ h => h) (Or.inl ⟨by rfl, ?_⟩) (SAB.both hA hB) ?_
                rotate_left
                · intro wx hBx
                  (try dsimp only at hBx)
                  go_simp
                  try with_reducible rfl
                try simp only [Act.put, List.setIfInBounds_toArray, List.set_cons_zero, List.set_cons_succ]
                refine wpL_takeB (i := 9) (v := ?_) rfl (by kernel_rfl) (by kernel_rfl) (by kernel_rfl) (by decide) (fun _ _ _ h => h) (Or.inl ⟨by rfl, ?_⟩) (SAB.both hA hB) ?_
                rotate_left
                · intro wx hBx
                  (try dsimp only at hBx)
                  go_simp
                  try with_reducible rfl
                try simp only [Act.put, List.setIfInBounds_toArray, List.set_cons_zero, List.set_cons_succ]
                refine wpL_takeB (i := 10) (v := ?_) rfl (by kernel_rfl) (by kernel_rfl) (by kernel_rfl) (by decide) (fun _ _ _ h => h) (Or.inl ⟨by rfl, ?_⟩) (SAB.both hA hB) ?_
                rotate_left
                · intro wx hBx
                  (try dsimp only at hBx)
                  go_simp
                  try with_reducible rfl
                try simp only [Act.put, List.setIfInBounds_toArray, List.set_cons_zero, List.set_cons_succ]
                refine wpL_takeB (i := 11) (v := ?_) rfl (by kernel_rfl) (by kernel_rfl) (by kernel_rfl) (by decide) (fun _ _ _ h => h) (Or.inl ⟨by rfl, ?_⟩) (SAB.both hA hB) ?_
                rotate_left
                · intro wx hBx
                  (try dsimp only at hBx)
                  go_simp
                  try with_reducible rfl
                try simp only [Act.put, List.setIfInBounds_toArray, List.set_cons_zero, List.set_cons_succ]
                refine wpL_takeB (i := 12) (v := ?_) rfl (by kernel_rfl) (by kernel_rfl) (by kernel_rfl) (by decide) (fun _ _ _ h => h) (Or.inl ⟨by rfl, ?_⟩) (SAB.both hA hB) ?_
                rotate_left
                · intro wx hBx
                  (try dsimp only at hBx)
                  go_simp
                  try with_reducible rfl
                try simp only [Act.put, List.setIfInBounds_toArray, List.set_cons_zero, List.set_cons_succ]
                refine wpL_takeB (i := 13) (v := ?_) rfl (by kernel_rfl) (by kernel_rfl) (by kernel_rfl) (by decide) (fun _ _ _ h => h) (Or.inl ⟨by rfl, ?_⟩) (SAB.both hA hB) ?_
                rotate_left
                · intro wx hBx
                  (try dsimp only at hBx)
                  go_simp
                  try with_reducible rfl
                try simp only [Act.put, List.setIfInBounds_toArray, List.set_cons_zero, List.set_cons_succ]
                refine wpL_takeB (i := 14) (v := ?_) rfl (by kernel_rfl) (by kernel_rfl) (by kernel_rfl) (by decide) (fun _ _ _ h => h) (Or.inl ⟨by rfl, ?_⟩) (SAB.both hA hB) ?_
                rotate_left
                · intro wx hBx
                  (try dsimp only at hBx)
                  go_simp
                  try with_reducible rfl
                try simp only [Act.put, List.setIfInBounds_toArray, List.set_cons_zero, List.set_cons_succ]
                refine wpL_takeB (i := 15) (v := ?_) rfl (by kernel_rfl) (by kernel_rfl) (by kernel_rfl) (by decide) (fun _ _ _ h => h) (Or.inl ⟨by rfl, ?_⟩) (SAB.both hA hB) ?_
                rotate_left
                · intro wx hBx
                  (try dsimp only at hBx)
                  go_simp
                  try with_reducible rfl
                try simp only [Act.put, List.setIfInBounds_toArray, List.set_cons_zero, List.set_cons_succ]
                refine wpL_takeB (i := 16) (v := ?_) rfl (by kernel_rfl) (by kernel_rfl) (by kernel_rfl) (by decide) (fun _ _ _ h => h) (Or.inl ⟨by rfl, ?_⟩) (SAB.both hA hB) ?_
                rotate_left
                · intro wx hBx
                  (try dsimp only at hBx)
                  go_simp
                  try with_reducible rfl
                try simp only [Act.put, List.setIfInBounds_toArray, List.set_cons_zero, List.set_cons_succ]
                refine wpL_takeB (i := 17) (v := ?_) rfl (by kernel_rfl) (by kernel_rfl) (by kernel_rfl) (by decide) (fun _ _ _ h => h) (Or.inl ⟨by rfl, ?_⟩) (SAB.both hA hB) ?_
                rotate_left
                · intro wx hBx
                  (try dsimp only at hBx)
                  go_simp
                  try with_reducible rfl
                try simp only [Act.put, List.setIfInBounds_toArray, List.set_cons_zero, List.set_cons_succ]
                refine wpL_takeB (i := 18) (v := ?_) rfl (by kernel_rfl) (by kernel_rfl) (by kernel_rfl) (by decide) (fun _ _ _ h => h) (Or.inl ⟨by rfl, ?_⟩) (SAB.both hA hB) ?_
                rotate_left
                · intro wx hBx
                  (try dsimp only at hBx)
                  go_simp
                  try with_reducible rfl
                try simp only [Act.put, List.setIfInBounds_toArray, List.set_cons_zero, List.set_cons_succ]
                refine wpL_takeB (i := 19) rfl (by kernel_rfl) (by kernel_rfl) (by kernel_rfl) (by decide) (fun _ _ _ h => h) (yieldsIf_load_mid (by rfl) _ _ rfl be (oe + an * 7) rfl [.int .i64 ev.kind, .int .i64 ev.inc, .int .i64 ev.frm, .int .i64 ev.sInc, .int .i64 ev.sIdx, .int .i64 ev.ord, .int .i64 ev.val] _ (fun wx hx => HRE.out wx hx) Tryz.underlying51 rfl (by kernel_rfl)) (SAB.both hA hB) ?_
                try simp only [Act.put, List.setIfInBounds_toArray, List.set_cons_zero, List.set_cons_succ]
                clear y1 y2
                refine wpL_one (i := 20) (by kernel_rfl) (StepL.mk rfl (fun K hK => ?_))
                go_simp
                have hzB := hB.size
                have hsx := (own_ints HP1.out).keep (Same.mono hB (fun i hi => hi.2))
                have hlx := (HLD.out.keep hsmq (EvsR.keep hsmq)).keep (Same.mono hB (fun i hi => by have := HS.out i hi; omega)) (EvsR.keep (Same.mono hB (fun i hi => by have := HS.out i hi; omega)))
                refine (possible_any u0 (fun i => i < u0.heap.size) _ _ _ _ _ _ l at_ q ev (fun i hi => hi) (hlx.more (fun i hi => by have := HS.out i hi; omega) (EvsR.more (fun i hi => by have := HS.out i hi; omega))) (hsx.more (fun i hi => by have := hi.2; omega)) rfl (by omega) (fun x hx => by have := HLEN.out x hx; omega)).mono ?_
                rintro e u1 ⟨rfl, hk1⟩
                have ha := Keep.trans hB hk1
                clear hsx hlx hzB
                refine hK.out _ _ (SAB.both trivial ha) (fun hSS => ?_)
                clear hK K hA hB
                have hB := hSS.2
                have hA := hSS.1 (by kernel_rfl)
                (try dsimp only at hB); (try dsimp only at hA); clear hSS
                try simp only [Act.put, List.setIfInBounds_toArray, List.set_cons_zero, List.set_cons_succ]
                clear ha
                rw [← HCAN.out]
                cases hcv : canS l to_ at_ q with
                | false =>
                  refine wpL_takeB (i := 21) (v := ?_) rfl (by kernel_rfl) (by kernel_rfl) (by kernel_rfl) (by decide) (fun _ _ _ h => h) (Or.inl ⟨by rfl, ?_⟩) (SAB.both hA hB) ?_
                  rotate_left
                  · intro wx hBx
                    (try dsimp only at hBx)
                    go_simp
                    try with_reducible rfl
                  try simp only [Act.put, List.setIfInBounds_toArray, List.set_cons_zero, List.set_cons_succ]
                  refine wpL_done (by kernel_rfl) ?_
                  have hfin : ScL3 l to_ at_ out k m wd.heap.size wd (some ⟨g, 0, none⟩) ca (.slice Av m cv) (gk - 1) (.slice Av m cv) (.int .i64 (q + 1)) u1 := ⟨q + 1, rfl, by simp, by omega, fun j hj => (by
                    rcases Nat.lt_or_ge j q with h | h
                    · exact HNO.out j h
                    · obtain rfl : j = q := by omega
                      exact hcv), ownsRow_same HP1.out hB (fun i hi => hi.2), ownsRow_same HP2.out hB (fun i hi => hi.2), Keep.trans HKQ.out hB⟩
                  have HFIN := Lib.hid hfin
                  have HCV := Lib.hid hcv
                  clear hfin hcv
                  clear hA hB hk1 hsmq
                  go_wp2_with fail
                  go_roundg (gk - 1)
                  case measure => omega
                  case rel => exact HFIN.out
                | true =>
                  refine wpL_takeB (i := 21) (v := ?_) rfl (by kernel_rfl) (by kernel_rfl) (by kernel_rfl) (by decide) (fun _ _ _ h => h) (Or.inl ⟨by rfl, ?_⟩) (SAB.both hA hB) ?_
                  rotate_left
                  · intro wx hBx
                    (try dsimp only at hBx)
                    go_simp
                    try with_reducible rfl
                  try simp only [Act.put, List.setIfInBounds_toArray, List.set_cons_zero, List.set_cons_succ]
                  refine wpL_done (by kernel_rfl) ?_
                  have hk2 := hB
                  have HCV := Lib.hid hcv
                  clear hcv
                  clear hA hB hk1
                  have x3 : u1.cell? ⟨g, q, none⟩ = some (.int .i64 an) := by rw [(hk2.blk HBK.out hlb).cell]; exact HCQ.out
                  have hz2 := hk2.size
                  have hre2 := HRE.out u1 hk2
                  have HK2 := Lib.hid hk2
                  have HRE2 := Lib.hid hre2
                  clear hk2 hre2
                  go_wp2_with (refine wpList_load_mid rfl _ (.tmp 101) rfl be (oe + an * 7) rfl [.int .i64 ev.kind, .int .i64 ev.inc, .int .i64 ev.frm, .int .i64 ev.sInc, .int .i64 ev.sIdx, .int .i64 ev.ord, .int .i64 ev.val] _ HRE2.out Tryz.underlying51 rfl (by kernel_rfl) ?_)
                  refine (choice_any u1 q ev).mono ?_
                  rintro e u2 ⟨rfl, hk3⟩
                  have hz3 := hk3.size
                  have hk13 := Keep.trans HK2.out hk3
                  have hqo := ownsRow_same HP2.out hk13 (fun i hi => hi.2)
                  have hqb := hk13.blk HBK.out hlb
                  have hzu : wd.heap.size ≤ u2.heap.size := by omega
                  generalize hch : chS q ev = ch at *
                  have HQO := Lib.hid hqo
                  have HQB := Lib.hid hqb
                  have HK13 := Lib.hid hk13
                  have HCH := Lib.hid hch
                  clear hqo hqb hk13 hch
                  clear hk3 x3
                  go_upto_region 17 with (first
                    | (refine wpList_buildS rfl 45 54 1 _ rfl Tryz.underlying45 _ [(0, .agg #[.int .i64 ch.proc, .int .i64 ch.kind, .int .i64 ch.frm, .int .i64 ch.idx, .int .i64 ch.ord, .int .i64 ch.val])] rfl (builtS_ch _ _ _ _ _ _) ?_)
                    | (refine wpList_append_any _ rfl (.tmp 94) (.tmp 104) 45 rfl wd.heap.size 54 iC _ 6 48 Tryz.underlying45 HI0.out IZ0.out IS0.out IB0.out rfl (by omega) (.slice Av m cv) m (out.flatMap encCh) rfl (ownsRow_same HQO.out (Keep.new _ _) (fun i hi => hi.2)) (fun i => i = u2.heap.size) (some ⟨u2.heap.size, 0, none⟩) 1 1 (encCh ch) rfl (Reads.new rfl) (encCh_one _) (by simp [maxLen]; omega) (by omega) (Nat.le_trans hzu (Keep.new _ _).size) ?_
                       intro vz wz howz hgz hatz))
                  have hgs : Same (fun i => i < u2.heap.size ∧ (Value.slice Av m cv).ownBlock ≠ some i) u2 wz := Same.grown ((Keep.new u2 _).mono (fun i hi => hi.1)) hgz (fun i hi => by have := hi.1; simp; omega) (fun k' hk' hS' => hS'.2 hk')
                  have hng : (Value.slice Av m cv).ownBlock ≠ some g := fun h => HDJ.out g h rfl
                  have hbz := hgs.blk HQB.out ⟨by have := HQB.out.lt; omega, hng⟩
                  have hvg : vz.ownBlock ≠ some g := fun h => by
                    rcases hatz with h1 | h1
                    · exact hng (h1 ▸ h)
                    · rw [h] at h1
                      have := HQB.out.lt
                      simp at h1
                      omega
                  have x4 : wz.cell? ⟨g, q, none⟩ = some (.int .i64 an) := by rw [hbz.cell]; exact HCQ.out
                  have hkz : Keep wd wz := Same.append (Keep.trans (Keep.trans HKQ.out HK13.out) (Keep.new _ _)) (ownsRow_same HQO.out (Keep.new _ _) (fun i hi => hi.2)) hgz (fun i hi => hi) (Nat.le_trans hzu (Keep.new _ _).size)
                  obtain ⟨Az, cz, hvz, -, -⟩ := own_form howz
                  subst hvz
                  have hqc : q < cur.size := by rcases Nat.lt_or_ge q cur.size with h | h; · exact h
                                                · have := HCQ.out; rw [Array.getElem?_eq_none h] at this; cases this
                  have HBZ := Lib.hid hbz
                  have HVG := Lib.hid hvg
                  have HKZ := Lib.hid hkz
                  have HOWZ := Lib.hid howz
                  clear hbz hvg hkz howz
                  clear hgs hng hgz hatz
                  go_wp2_with (refine wpList_store_one rfl _ (.tmp 111) (.tmp 110) rfl g q 3 cur (.int .i64 (an + 1)) rfl rfl HBZ.out hqc (by kernel_rfl) rfl rfl ?_; intro w9 hb9 hs9)
                  go_roundg (leftS (incS at_ q) to_)
                  case measure => exact leftS_inc at_ to_ q (by have := HR.out.1; have := HNL.out; omega) (by have := HR.out.2.1; have := HNL.out; omega) HLT2.out
                  case rel =>
                    have hql : q < l.length := by have := HNL.out; omega
                    have hi : incS at_ q = at_.set q ((an : Int) + 1) := by unfold incS; rw [G1'.out]
                    have hll := leftS_inc at_ to_ q (by have := HR.out.1; omega) (by have := HR.out.2.1; omega) HLT2.out
                    have hrow : w9.ownsRow wd.heap.size 3 1 (.slice (some ⟨g, 0, none⟩) k ca) k ((incS at_ q).flatMap encI) := by
                      rw [hi]
                      exact row_put (k := q) (o := 0) encI_len hbg (by simpa using hb9) HCS.out hnc hcm HTK.out (by have := HR.out.1; have := HNL.out; omega) HAV'.out (by omega) rfl
                    have hx : (out ++ [ch]).flatMap encCh = out.flatMap encCh ++ encCh ch := by simp
                    have hox : w9.ownsRow wd.heap.size 54 6 (.slice Az (m + 1) cz) (out ++ [ch]).length ((out ++ [ch]).flatMap encCh) := by
                      rw [hx, List.length_append, HML.out]
                      exact ownsRow_own HOWZ.out hs9 (fun b hb e => HVG.out (e ▸ hb))
                    exact ⟨incS at_ q, out ++ [ch], rfl, HR.out.inc hql HLT2.out, by have := HML.out; simp; omega, fun r h => HSC.out r (.step HNE.out ⟨hql, HCV.out, HNO.out⟩ (by rw [HEA.out, HCH.out]; exact h)), hrow, hox, fun b hb h => HVG.out (by simp at h; rw [h]; exact hb), Keep.write HKZ.out hs9 hbg⟩
              · have t1 : decide ((an : Int) < tv) = false := by simpa using hlt
                have hcf : canS l to_ at_ q = false := by unfold canS; rw [g1, g2]; simp [hlt]
                have hfin : ∀ wx, Keep wr wx → ScL3 l to_ at_ out k m wd.heap.size wd (some ⟨g, 0, none⟩) ca (.slice Av m cv) (gk - 1) (.slice Av m cv) (.int .i64 (q + 1)) wx := fun wx hx => ⟨q + 1, rfl, by simp, by omega, fun j hj => (by
                    rcases Nat.lt_or_ge j q with h | h
                    · exact hno j h
                    · obtain rfl : j = q := by omega
                      exact hcf), ownsRow_same hp1 hx (fun i hi => hi.2), ownsRow_same hp2 hx (fun i hi => hi.2), Keep.trans hkq hx⟩
                have HFIN := Lib.hid hfin
                clear hfin
                clear hca hc2 hc0 hav htv hev hse g1 g2 g0 hrq hne9 x1 x2 hno hp1 hp2 hkq hbk htk hcs hcf
                go_upto_region 15 with fail
                refine wp_region_L 99 (fun _ => True) (fun wx => Keep wr wx) (by kernel_rfl) trivial (Same.drew (Same.refl _ _)) (fun hA hB => ?_)
                generalize hu0 : wr.drew = u0 at hB ⊢
                clear hu0
                refine wpL_takeB (i := 0) (v := ?_) rfl (by kernel_rfl) (by kernel_rfl) (by kernel_rfl) (by decide) (fun _ _ _ h => h) (Or.inl ⟨by rfl, ?_⟩) (SAB.both hA hB) ?_
                rotate_left
                · intro wx hBx
                  (try dsimp only at hBx)
                  go_simp
                  try with_reducible rfl
                try simp only [Act.put, List.setIfInBounds_toArray, List.set_cons_zero, List.set_cons_succ]
                refine wpL_takeB (i := 1) (v := ?_) rfl (by kernel_rfl) (by kernel_rfl) (by kernel_rfl) (by decide) (fun _ _ _ h => h) (Or.inl ⟨by rfl, ?_⟩) (SAB.both hA hB) ?_
                rotate_left
                · intro wx hBx
                  (try dsimp only at hBx)
                  go_simp
                  try with_reducible rfl
                try simp only [Act.put, List.setIfInBounds_toArray, List.set_cons_zero, List.set_cons_succ]
                refine wpL_takeB (i := 2) (v := ?_) rfl (by kernel_rfl) (by kernel_rfl) (by kernel_rfl) (by decide) (fun _ _ _ h => h) (Or.inl ⟨by rfl, ?_⟩) (SAB.both hA hB) ?_
                rotate_left
                · intro wx hBx
                  (try dsimp only at hBx)
                  go_simp
                  try with_reducible rfl
                try simp only [Act.put, List.setIfInBounds_toArray, List.set_cons_zero, List.set_cons_succ]
                refine wpL_takeB (i := 3) (v := ?_) rfl (by kernel_rfl) (by kernel_rfl) (by kernel_rfl) (by decide) (fun _ _ _ h => h) (Or.inl ⟨by rfl, ?_⟩) (SAB.both hA hB) ?_
                rotate_left
                · intro wx hBx
                  (try dsimp only at hBx)
                  go_simp
                  try with_reducible rfl
                try simp only [Act.put, List.setIfInBounds_toArray, List.set_cons_zero, List.set_cons_succ]
                refine wpL_takeB (i := 4) (v := ?_) rfl (by kernel_rfl) (by kernel_rfl) (by kernel_rfl) (by decide) (fun _ _ _ h => h) (Or.inl ⟨by rfl, ?_⟩) (SAB.both hA hB) ?_
                rotate_left
                · intro wx hBx
                  (try dsimp only at hBx)
                  go_simp
                  try with_reducible rfl
                try simp only [Act.put, List.setIfInBounds_toArray, List.set_cons_zero, List.set_cons_succ]
                refine wpL_takeB (i := 5) (v := ?_) rfl (by kernel_rfl) (by kernel_rfl) (by kernel_rfl) (by decide) (fun _ _ _ h => h) (Or.inl ⟨by rfl, ?_⟩) (SAB.both hA hB) ?_
                rotate_left
                · intro wx hBx
                  (try dsimp only at hBx)
                  go_simp
                  try with_reducible rfl
                try simp only [Act.put, List.setIfInBounds_toArray, List.set_cons_zero, List.set_cons_succ]
                refine wpL_takeB (i := 6) (v := ?_) rfl (by kernel_rfl) (by kernel_rfl) (by kernel_rfl) (by decide) (fun _ _ _ h => h) (Or.inl ⟨by rfl, ?_⟩) (SAB.both hA hB) ?_
                rotate_left
                · intro wx hBx
                  (try dsimp only at hBx)
                  go_simp
                  try with_reducible rfl
                try simp only [Act.put, List.setIfInBounds_toArray, List.set_cons_zero, List.set_cons_succ]
                refine wpL_takeB (i := 7) (v := ?_) rfl (by kernel_rfl) (by kernel_rfl) (by kernel_rfl) (by decide) (fun _ _ _ h => h) (Or.inl ⟨by rfl, ?_⟩) (SAB.both hA hB) ?_
                rotate_left
                · intro wx hBx
                  (try dsimp only at hBx)
                  go_simp
                  try with_reducible rfl
                try simp only [Act.put, List.setIfInBounds_toArray, List.set_cons_zero, List.set_cons_succ]
                refine wpL_takeB (i := 8) (v := ?_) rfl (by kernel_rfl) (by kernel_rfl) (by kernel_rfl) (by decide) (fun _ _ _ h => h) (Or.inl ⟨by rfl, ?_⟩) (SAB.both hA hB) ?_
                rotate_left
                · intro wx hBx
                  (try dsimp only at hBx)
                  go_simp
                  try with_reducible rfl
                try simp only [Act.put, List.setIfInBounds_toArray, List.set_cons_zero, List.set_cons_succ]
                refine wpL_takeB (i := 9) (v := ?_) rfl (by kernel_rfl) (by kernel_rfl) (by kernel_rfl) (by decide) (fun _ _ _ h => h) (Or.inl ⟨by rfl, ?_⟩) (SAB.both hA hB) ?_
                rotate_left
                · intro wx hBx
                  (try dsimp only at hBx)
                  go_simp
                  try with_reducible rfl
                try simp only [Act.put, List.setIfInBounds_toArray, List.set_cons_zero, List.set_cons_succ]
                refine wpL_takeB (i := 10) (v := undef) rfl (by kernel_rfl) (by kernel_rfl) (by kernel_rfl) (by decide) (fun _ _ _ h => h) (Or.inr ⟨by rfl, rfl⟩) (SAB.both hA hB) ?_
                try simp only [Act.put, List.setIfInBounds_toArray, List.set_cons_zero, List.set_cons_succ]
                refine wpL_takeB (i := 11) (v := undef) rfl (by kernel_rfl) (by kernel_rfl) (by kernel_rfl) (by decide) (fun _ _ _ h => h) (Or.inr ⟨by rfl, rfl⟩) (SAB.both hA hB) ?_
                try simp only [Act.put, List.setIfInBounds_toArray, List.set_cons_zero, List.set_cons_succ]
                refine wpL_takeB (i := 12) (v := undef) rfl (by kernel_rfl) (by kernel_rfl) (by kernel_rfl) (by decide) (fun _ _ _ h => h) (Or.inr ⟨by rfl, rfl⟩) (SAB.both hA hB) ?_
                try simp only [Act.put, List.setIfInBounds_toArray, List.set_cons_zero, List.set_cons_succ]
                refine wpL_takeB (i := 13) (v := undef) rfl (by kernel_rfl) (by kernel_rfl) (by kernel_rfl) (by decide) (fun _ _ _ h => h) (Or.inr ⟨by rfl, rfl⟩) (SAB.both hA hB) ?_
                try simp only [Act.put, List.setIfInBounds_toArray, List.set_cons_zero, List.set_cons_succ]
                refine wpL_takeB (i := 14) (v := undef) rfl (by kernel_rfl) (by kernel_rfl) (by kernel_rfl) (by decide) (fun _ _ _ h => h) (Or.inr ⟨by rfl, rfl⟩) (SAB.both hA hB) ?_
                try simp only [Act.put, List.setIfInBounds_toArray, List.set_cons_zero, List.set_cons_succ]
                refine wpL_takeB (i := 15) (v := undef) rfl (by kernel_rfl) (by kernel_rfl) (by kernel_rfl) (by decide) (fun _ _ _ h => h) (Or.inr ⟨by rfl, rfl⟩) (SAB.both hA hB) ?_
                try simp only [Act.put, List.setIfInBounds_toArray, List.set_cons_zero, List.set_cons_succ]
                refine wpL_takeB (i := 16) (v := undef) rfl (by kernel_rfl) (by kernel_rfl) (by kernel_rfl) (by decide) (fun _ _ _ h => h) (Or.inr ⟨by rfl, rfl⟩) (SAB.both hA hB) ?_
                try simp only [Act.put, List.setIfInBounds_toArray, List.set_cons_zero, List.set_cons_succ]
                refine wpL_takeB (i := 17) (v := undef) rfl (by kernel_rfl) (by kernel_rfl) (by kernel_rfl) (by decide) (fun _ _ _ h => h) (Or.inr ⟨by rfl, rfl⟩) (SAB.both hA hB) ?_
                try simp only [Act.put, List.setIfInBounds_toArray, List.set_cons_zero, List.set_cons_succ]
                refine wpL_takeB (i := 18) (v := undef) rfl (by kernel_rfl) (by kernel_rfl) (by kernel_rfl) (by decide) (fun _ _ _ h => h) (Or.inr ⟨by rfl, rfl⟩) (SAB.both hA hB) ?_
                try simp only [Act.put, List.setIfInBounds_toArray, List.set_cons_zero, List.set_cons_succ]
                refine wpL_takeB (i := 19) (v := undef) rfl (by kernel_rfl) (by kernel_rfl) (by kernel_rfl) (by decide) (fun _ _ _ h => h) (Or.inr ⟨by rfl, rfl⟩) (SAB.both hA hB) ?_
                try simp only [Act.put, List.setIfInBounds_toArray, List.set_cons_zero, List.set_cons_succ]
                refine wpL_takeB (i := 20) (v := undef) rfl (by kernel_rfl) (by kernel_rfl) (by kernel_rfl) (by decide) (fun _ _ _ h => h) (Or.inr ⟨by rfl, rfl⟩) (SAB.both hA hB) ?_
                try simp only [Act.put, List.setIfInBounds_toArray, List.set_cons_zero, List.set_cons_succ]
                refine wpL_takeB (i := 21) (v := ?_) rfl (by kernel_rfl) (by kernel_rfl) (by kernel_rfl) (by decide) (fun _ _ _ h => h) (Or.inl ⟨by rfl, ?_⟩) (SAB.both hA hB) ?_
                rotate_left
                · intro wx hBx
                  (try dsimp only at hBx)
                  go_simp
                  try with_reducible rfl
                try simp only [Act.put, List.setIfInBounds_toArray, List.set_cons_zero, List.set_cons_succ]
                refine wpL_done (by kernel_rfl) ?_
                have hfin := HFIN.out u0 hB
                have HFIN := Lib.hid hfin
                clear hfin
                clear hA hB y1 y2
                go_wp2_with fail
                go_roundg (gk - 1)
                case measure => omega
                case rel => exact HFIN.out
            · have hd1 : decide (q < k) = false := by simpa using hqn
              have hfin : SchPost l fr to_ w (.returned (.tuple #[.slice none 0 0, .bool false])) wr := ⟨none, .inl ⟨HRNG.out, HSC.out _ (.stuck HNE.out (fun j hj => hno j (by have := HNL.out; omega)))⟩, Keep.trans HKD.out hkq, .inl ⟨rfl, rfl⟩⟩
              have HFIN := Lib.hid hfin
              clear hfin
              clear hno hp1 hp2 hkq hsmq
              go_wp2_with fail
              (try rw [Exit.noGoto_ret])
              go_ret2
              exact HFIN.out
end Go.Proofs.YtecckbkobkfnmaaGreatDoor

-- Wit
/- replay.Witness. -/
set_option linter.unusedVariables false
set_option linter.unusedSimpArgs false
set_option maxRecDepth 100000
namespace Go.Proofs.YtecckbkobkfnmaaGreatDoor
open Go.RowKit Go.Proofs

theorem run_make_row {P : Program} (t e : TypeId) (i : TypeInfo) (z : Value) (ht : P.underlying t = some (.slice e)) (hi : P.info? e = some i) (hz : i.zero = some z)
    (kl kc : IntKind) (n c : Nat) (hnc : n ≤ c) (hbytes : i.bytes * c ≤ 281474976710656) (h63 : c ≤ 9223372036854775807) (w : World) :
    (Instr.makeSlice t (.int kl (n : Int)) (.int kc (c : Int))).run P w = .ok (.slice (some ⟨w.heap.size, 0, none⟩) n c) (w.alloc (.cells (madeCells z.cells (c * i.size)) e)) := by
  have hb : (i.bytes : Int) * (c : Int) ≤ 281474976710656 := by
    have h : ((i.bytes * c : Nat) : Int) ≤ 281474976710656 := by omega
    rwa [Int.natCast_mul] at h
  have hr := run_make (P := P) w t e i z ht hi hz kl kc n c (by omega) (by omega) hb (by omega)
  simp only [Int.toNat_natCast] at hr
  exact hr
def zerosA (n : Nat) : Array Value := (List.replicate n (.int .i64 0)).toArray
theorem made_zeros (n : Nat) : madeCells (Value.cells (.int .i64 0)) (n * 1) = zerosA n := by
  apply Array.ext'
  have := toList_madeCells_one (.int .i64 0) n
  simpa [zerosA, Value.cells] using this
def zerosL (n : Nat) : List Int := List.replicate n 0
theorem zeros_flat (n : Nat) : (zerosL n).flatMap encI = List.replicate n (.int .i64 0) := by
  unfold zerosL
  induction n with
  | zero => rfl
  | succ n ih => rw [List.replicate_succ, List.flatMap_cons, ih, List.replicate_succ]; rfl
theorem own_zeros (w : World) (n : Nat) (hn : n ≤ 1000) : (w.alloc (.cells (zerosA n) 3)).ownsRow w.heap.size 3 1 (.slice (some ⟨w.heap.size, 0, none⟩) n n) n ((zerosL n).flatMap encI) := by
  rw [zeros_flat]
  refine ⟨by simp, .inr ⟨w.heap.size, n, zerosA n, rfl, Nat.le_refl _, heap_alloc_new w _, Nat.le_refl _, by simp [maxLen]; omega, by simp [zerosA], ?_⟩⟩
  simp [zerosA]
def lensL (l : List (List Ev)) : List Int := l.map (fun x => (x.length : Int))
def lensK (l : List (List Ev)) (k : Nat) : List Int := (lensL l).mapIdx (fun i x => if i < k then x else 0)
theorem lensK_zero (l : List (List Ev)) : lensK l 0 = zerosL l.length := by
  apply List.ext_getElem?
  intro i
  simp only [lensK, lensL, zerosL, List.getElem?_mapIdx, List.getElem?_map, List.getElem?_replicate]
  rcases Nat.lt_or_ge i l.length with h | h
  · simp [h, List.getElem?_eq_getElem h]
  · simp [List.getElem?_eq_none h, Nat.not_lt.2 h]
theorem lensK_len (l : List (List Ev)) (k : Nat) : (lensK l k).length = l.length := by simp [lensK, lensL]
theorem lensK_all (l : List (List Ev)) : lensK l l.length = lensL l := by
  apply List.ext_getElem?
  intro i
  simp only [lensK, List.getElem?_mapIdx]
  rcases Nat.lt_or_ge i l.length with h | h
  · cases (lensL l)[i]? <;> simp [h]
  · rw [List.getElem?_eq_none (by simp [lensL]; exact h)]; rfl
theorem lensK_at {l : List (List Ev)} {k : Nat} (h : k < l.length) : (lensK l k)[k]? = some 0 := by
  simp [lensK, lensL, List.getElem?_mapIdx, List.getElem?_eq_getElem h]
theorem lensK_succ {l : List (List Ev)} {k : Nat} {x : List Ev} (h : l[k]? = some x) : lensK l (k + 1) = (lensK l k).set k (x.length : Int) := by
  apply List.ext_getElem?
  intro i
  obtain ⟨hk, rfl⟩ := List.getElem?_eq_some_iff.1 h
  rw [List.getElem?_set]
  simp only [lensK, lensL, List.getElem?_mapIdx, List.getElem?_map, List.length_mapIdx, List.length_map]
  by_cases e : k = i
  · subst e
    simp [hk]
  · rw [if_neg e]
    cases l[i]? with
    | none => rfl
    | some y =>
      by_cases h1 : i < k
      · simp [h1, Nat.lt_succ_of_lt h1]
      · simp [h1, show ¬ i < k + 1 by omega]
def WtL (l : List (List Ev)) (n : Nat) (W : World) (i : Value) (wr : World) : Prop := ∃ k : Nat, i = .int .i64 k ∧ k ≤ n ∧ wr.ownsRow W.heap.size 3 1 (.slice (some ⟨W.heap.size, 0, none⟩) n n) n ((lensK l k).flatMap encI) ∧ Keep W wr
set_option maxHeartbeats 8000000 in
theorem witness_any (w : World) (S : Nat → Prop) (A : Option Addr) (n c : Nat) (l : List (List Ev)) (hS : ∀ i, S i → i < w.heap.size) (hl : SlR w S 1 (EvsR w S) A n c l) (hn : n ≤ 1000) (hlen : ∀ x ∈ l, x.length ≤ 100000) :
    Calls Tryz.prog 15 #[.slice A n c] w (SchPost l (zerosL l.length) (lensL l) w) := by
  obtain ⟨iI, hi0, iz0, is0, ib0⟩ := info_of info_Int
  have hmk := fun W => run_make_row (P := Tryz.prog) 27 3 iI _ Tryz.underlying27 hi0 iz0 .i64 .i64 n n (Nat.le_refl _) (by rw [ib0]; omega) (by omega) W
  rw [is0, made_zeros] at hmk
  have hnl := hl.1
  have hrel0 : WtL l n w (.int .i64 0) (w.alloc (.cells (zerosA n) 3)) := ⟨0, rfl, Nat.zero_le _, by rw [lensK_zero, ← hnl]; exact own_zeros w n hn, Keep.new _ _⟩
  have HS := Lib.hid hS
  have HL := Lib.hid hl
  have HNL := Lib.hid hnl
  have HLEN := Lib.hid hlen
  have HREL0 := Lib.hid hrel0
  clear hS hl hnl hlen hrel0
  clear hi0 iz0 is0 ib0
  go_enter Tryz.func15, Tryz.ntmps15
  go_wp2_with fail
  go_loopw [12] (fun i wr => WtL l n w i wr) (fun i _ => n - (intOf i).toNat)
  case atStart => exact HREL0.out
  case round =>
    clear HREL0
    obtain ⟨k, rfl, hkn', how, hkr⟩ := hrel
    have hzr := hkr.size
    have hsm := Same.mono hkr HS.out
    by_cases hkn : k < n
    · obtain ⟨g, cur, hg, hbg, hbk, hcs, hnc, hcm, htk⟩ := own_open how (by omega)
      simp only [Option.some.injEq, Addr.mk.injEq, and_true] at hg
      subst hg
      obtain ⟨b0, off0, cs, evs, rfl, hS0, hev, ⟨Ae, ne, ce, rfl, hse⟩, -, hc0⟩ := (HL.out.keep hsm (EvsR.keep hsm)).at_ hkn
      have hd1 : decide (k < n) = true := by simpa using hkn
      have hd2 : (0 : Int) ≤ k := by omega
      have hd3 : (k : Int) < n := by omega
      have x0 : wr.cell? ⟨b0, off0 + k, none⟩ = some (.slice Ae ne ce) := by have := hc0 0 _ rfl; simpa using this
      have hne := hse.1
      have hkc : k < cur.size := by omega
      have hkl : k < l.length := by have := HNL.out; omega
      have HNE := Lib.hid hne
      have HBK := Lib.hid hbk
      have HTK := Lib.hid htk
      have HKR := Lib.hid hkr
      have HCS := Lib.hid hcs
      have HEV := Lib.hid hev
      clear hne hbk htk hkr hcs hev
      clear hc0 hse hsm how
      go_wp2_with (refine wpList_store_one rfl _ (.tmp 21) (.tmp 20) rfl w.heap.size k 3 cur (.int .i64 ne) rfl rfl HBK.out hkc (by kernel_rfl) rfl rfl ?_; intro w9 hb9 hs9)
      go_roundw
      case rel => exact ⟨k + 1, by go_num, by omega, by rw [lensK_succ HEV.out, ← HNE.out]; exact row_put (k := k) (o := 0) encI_len hbg (by simpa using hb9) HCS.out hnc hcm HTK.out (by rw [lensK_len]; exact HNL.out.symm) (lensK_at hkl) (by omega) rfl, Keep.write HKR.out hs9 hbg⟩
      case measure => simp [intOf]; omega
    · have hd1 : decide (k < n) = false := by simpa using hkn
      obtain rfl : k = n := by omega
      have hfz := own_zeros wr k hn
      have hk2 : Keep wr (wr.alloc (.cells (zerosA k) 3)) := Keep.new _ _
      have how2 := ownsRow_same how hk2 (fun i hi => hi.2)
      have hl2 := (HL.out.keep hsm (EvsR.keep hsm)).keep (Same.mono hk2 (fun i hi => by have := HS.out i hi; omega)) (EvsR.keep (Same.mono hk2 (fun i hi => by have := HS.out i hi; omega)))
      have hkw := Keep.trans hkr hk2
      have hall : lensK l k = lensL l := by rw [HNL.out]; exact lensK_all l
      rw [hall] at how2
      have hzl : zerosL k = zerosL l.length := by rw [← HNL.out]
      rw [hzl] at hfz
      have hz2 := hk2.size
      have key := schedule_any (wr.alloc (.cells (zerosA k) 3)) (fun i => i < (wr.alloc (.cells (zerosA k) 3)).heap.size) A (some ⟨wr.heap.size, 0, none⟩) (some ⟨w.heap.size, 0, none⟩) k c k k k k l (zerosL l.length) (lensL l) (fun i hi => hi) (hl2.more (fun i hi => by have := HS.out i hi; omega) (EvsR.more (fun i hi => by have := HS.out i hi; omega))) ((own_ints hfz).more (fun i hi => hi.2)) ((own_ints how2).more (fun i hi => hi.2)) hn HLEN.out (by omega) (by omega)
      have KEY := Lib.hid key
      have HKW := Lib.hid hkw
      clear key hkw
      clear hfz how2 hl2 hk2 hall hzl hkr hsm how
      go_wp2_with fail
      refine KEY.out.mono ?_
      rintro e w3 ⟨r, hr, hk3, hcs⟩
      have hk := Keep.trans HKW.out hk3
      rcases hcs with ⟨rfl, rfl⟩ | ⟨out, A3, n3, c3, rfl, rfl, hs3⟩
      · have hfin : SchPost l (zerosL l.length) (lensL l) w (.returned (.tuple #[.slice none 0 0, .bool false])) w3 := ⟨none, hr, hk, .inl ⟨rfl, rfl⟩⟩
        have HFIN := Lib.hid hfin
        clear hfin
        clear hr hk hk3
        go_wp2_with fail
        go_ret2
        exact HFIN.out
      · have hfin : SchPost l (zerosL l.length) (lensL l) w (.returned (.tuple #[.slice A3 n3 c3, .bool true])) w3 := ⟨some out, hr, hk, .inr ⟨out, A3, n3, c3, rfl, rfl, hs3.more (fun i hi => ⟨by have := hi.1; omega, hi.2⟩)⟩⟩
        have HFIN := Lib.hid hfin
        clear hfin
        clear hr hk hk3 hs3
        go_wp2_with fail
        go_ret2
        exact HFIN.out
end Go.Proofs.YtecckbkobkfnmaaGreatDoor

-- Awake34
/- law34.awake. -/
set_option linter.unusedVariables false
set_option linter.unusedSimpArgs false
set_option maxRecDepth 100000
namespace Go.Proofs.YtecckbkobkfnmaaGreatDoor
open Go.RowKit Go.Proofs

def evA : Ev := ⟨1, 0, 1, 0, 1, 0, 0⟩
def evB : Ev := ⟨2, 0, 0, 0, 0, 0, 4⟩
theorem awake_sched : SchIs [[evA], [evB]] [0, 0] [1, 1] (some [⟨1, 2, 0, 0, 0, 4⟩, ⟨0, 1, 1, 1, 0, 0⟩]) := by
  refine .inl ⟨⟨rfl, rfl, fun q hq => ?_⟩, ?_⟩
  · rcases q with _ | _ | q
    · exact ⟨by decide, by decide, by decide⟩
    · exact ⟨by decide, by decide, by decide⟩
    · simp at hq; omega
  · refine .step (q := 1) (by decide) ⟨by decide, by decide, fun i hi => ?_⟩ ?_
    · obtain rfl : i = 0 := by omega
      decide
    · show Sched _ _ [0, 1] [⟨1, 2, 0, 0, 0, 4⟩] _
      refine .step (q := 0) (by decide) ⟨by decide, by decide, fun i hi => absurd hi (by omega)⟩ ?_
      show Sched _ _ [1, 1] [⟨1, 2, 0, 0, 0, 4⟩, ⟨0, 1, 1, 1, 0, 0⟩] _
      exact .done rfl
theorem bld_lab1 : Tryz.prog.built 49 [(1, .int .i64 1)] = some #[.int .i64 0, .int .i64 1] := by kernel_rfl
theorem bld_evA : Tryz.prog.built 51 [(0, .int .i64 1), (2, .int .i64 1), (3, .agg #[.int .i64 0, .int .i64 1])] = some #[.int .i64 1, .int .i64 0, .int .i64 1, .int .i64 0, .int .i64 1, .int .i64 0, .int .i64 0] := by kernel_rfl
theorem bld_evB : Tryz.prog.built 51 [(0, .int .i64 2), (5, .int .i64 4)] = some #[.int .i64 2, .int .i64 0, .int .i64 0, .int .i64 0, .int .i64 0, .int .i64 0, .int .i64 4] := by kernel_rfl
theorem built_evs2 (A B : Option Addr) (n c m d : Nat) : builtS Tryz.prog 33 2 [(0, .slice A n c), (1, .slice B m d)] = some #[.slice A n c, .slice B m d] := by kernel_rfl
theorem bld_chA : Tryz.prog.built 54 [(0, .int .i64 1), (1, .int .i64 2), (5, .int .i64 4)] = some #[.int .i64 1, .int .i64 2, .int .i64 0, .int .i64 0, .int .i64 0, .int .i64 4] := by kernel_rfl
theorem bld_chB : Tryz.prog.built 54 [(0, .int .i64 0), (1, .int .i64 1), (2, .int .i64 1), (3, .int .i64 1)] = some #[.int .i64 0, .int .i64 1, .int .i64 1, .int .i64 1, .int .i64 0, .int .i64 0] := by kernel_rfl
def Aw34Post (w : World) (e : Ending) (w' : World) : Prop := e = .returned (.bool true) ∧ Keep w w'
theorem two_evs (w : World) (a b : Ev) (W : World) (h1 : Blk W w.heap.size 51 (encEv a).toArray) (h2 : Blk W (w.heap.size + 1) 51 (encEv b).toArray) (h3 : Blk W (w.heap.size + 2) 33 #[.slice (some ⟨w.heap.size, 0, none⟩) 1 1, .slice (some ⟨w.heap.size + 1, 0, none⟩) 1 1]) :
    SlR W (fun i => i < W.heap.size) 1 (EvsR W (fun i => i < W.heap.size)) (some ⟨w.heap.size + 2, 0, none⟩) 2 2 [[a], [b]] := by
  have hm : 1 ≤ maxLen := by simp [maxLen]
  refine ⟨rfl, Nat.le_refl _, by simp [maxLen], [[.slice (some ⟨w.heap.size, 0, none⟩) 1 1], [.slice (some ⟨w.heap.size + 1, 0, none⟩) 1 1]], rfl, by simp, ⟨rfl, fun _ => ⟨w.heap.size + 2, 0, rfl, h3.lt, fun j u hu => ?_⟩⟩, fun k cs x e1 e2 => ?_⟩
  · rw [h3.cell]
    simpa using hu
  · rcases k with _ | _ | k
    · simp at e1 e2
      subst e1 e2
      exact ⟨_, 1, 1, rfl, rfl, Nat.le_refl _, hm, rfl, fun _ => ⟨w.heap.size, 0, rfl, h1.lt, fun j u hu => by rw [h1.cell]; simpa using hu⟩⟩
    · simp at e1 e2
      subst e1 e2
      exact ⟨_, 1, 1, rfl, rfl, Nat.le_refl _, hm, rfl, fun _ => ⟨w.heap.size + 1, 0, rfl, h2.lt, fun j u hu => by rw [h2.cell]; simpa using hu⟩⟩
    · simp at e1
section
variable {P : Program} {ops : Array Oper} {rest : List Oper} {op : Oper} {a : Act} {w : World} {Q : Exit → Act → World → Prop}
theorem wpList_load_range (hw : Region.wanted op (yielded ops a.tmps) = true) (ty : TypeId) (x : Operand) (ho : op.op = .load ty x)
    (g o : Nat) (vs : List Value) (d : TypeDesc) (hx : a.eval x = .pointer (some ⟨g, o, none⟩)) (hc : w.rangeAt g o vs)
    (hu : P.underlying ty = some d) (hd : d.isRow = true) (hi : (P.info? ty).map (·.size) = some vs.length)
    (h : wpList P ops Q rest (a.put op.dst (.agg vs.toArray)) w) : wpList P ops Q (op :: rest) a w :=
  wpList_step fun K hK => by
    rw [if_pos hw]
    exact wp_load_mid ty x ho g o hx vs d hc hu hd hi (hK _ _ h)
end
set_option maxHeartbeats 8000000 in
theorem awake34_any (w : World) : Calls Tryz.prog 4 #[] w (Aw34Post w) := by
  go_enter Tryz.func4, Tryz.ntmps4
  go_wp2_with (first
    | (refine wpList_bld rfl 49 _ rfl _ [(1, .int .i64 1)] rfl bld_lab1 ?_)
    | (refine wpList_bld rfl 51 _ rfl _ [(0, .int .i64 1), (2, .int .i64 1), (3, .agg #[.int .i64 0, .int .i64 1])] rfl bld_evA ?_)
    | (refine wpList_bld rfl 51 _ rfl _ [(0, .int .i64 2), (5, .int .i64 4)] rfl bld_evB ?_)
    | (refine wpList_buildS rfl 33 51 1 _ rfl Tryz.underlying33 _ [(0, .agg #[.int .i64 1, .int .i64 0, .int .i64 1, .int .i64 0, .int .i64 1, .int .i64 0, .int .i64 0])] rfl (built_ev _ _ _ _ _ _ _) ?_)
    | (refine wpList_buildS rfl 33 51 1 _ rfl Tryz.underlying33 _ [(0, .agg #[.int .i64 2, .int .i64 0, .int .i64 0, .int .i64 0, .int .i64 0, .int .i64 0, .int .i64 4])] rfl (built_ev _ _ _ _ _ _ _) ?_)
    | (refine wpList_buildS rfl 52 33 2 _ rfl Tryz.underlying52 _ [(0, .slice (some ⟨w.heap.size, 0, none⟩) 1 1), (1, .slice (some ⟨w.heap.size + 1, 0, none⟩) 1 1)] rfl (built_evs2 _ _ _ _ _ _) ?_))
  have h1 : Blk (((w.alloc (.cells (encEv evA).toArray 51)).alloc (.cells (encEv evB).toArray 51)).alloc (.cells #[.slice (some ⟨w.heap.size, 0, none⟩) 1 1, .slice (some ⟨w.heap.size + 1, 0, none⟩) 1 1] 33)) w.heap.size 51 (encEv evA).toArray := ((Blk.new w _ _).alloc _).alloc _
  have h2 : Blk (((w.alloc (.cells (encEv evA).toArray 51)).alloc (.cells (encEv evB).toArray 51)).alloc (.cells #[.slice (some ⟨w.heap.size, 0, none⟩) 1 1, .slice (some ⟨w.heap.size + 1, 0, none⟩) 1 1] 33)) (w.heap.size + 1) 51 (encEv evB).toArray := blkM w _ _ _ _
  have h3 : Blk (((w.alloc (.cells (encEv evA).toArray 51)).alloc (.cells (encEv evB).toArray 51)).alloc (.cells #[.slice (some ⟨w.heap.size, 0, none⟩) 1 1, .slice (some ⟨w.heap.size + 1, 0, none⟩) 1 1] 33)) (w.heap.size + 2) 33 #[.slice (some ⟨w.heap.size, 0, none⟩) 1 1, .slice (some ⟨w.heap.size + 1, 0, none⟩) 1 1] := blkL w _ _ _ _
  have hk3 : Keep w (((w.alloc (.cells (encEv evA).toArray 51)).alloc (.cells (encEv evB).toArray 51)).alloc (.cells #[.slice (some ⟨w.heap.size, 0, none⟩) 1 1, .slice (some ⟨w.heap.size + 1, 0, none⟩) 1 1] 33)) := Keep.alloc (Keep.alloc (Keep.new w _) _) _
  have key := witness_any _ (fun i => i < (((w.alloc (.cells (encEv evA).toArray 51)).alloc (.cells (encEv evB).toArray 51)).alloc (.cells #[.slice (some ⟨w.heap.size, 0, none⟩) 1 1, .slice (some ⟨w.heap.size + 1, 0, none⟩) 1 1] 33)).heap.size) _ 2 2 [[evA], [evB]] (fun i hi => hi) (two_evs w evA evB _ h1 h2 h3) (by omega) (by simp)
  refine key.mono ?_
  rintro e w4 ⟨r, hr, hk4, hcs⟩
  have hre := hr.det awake_sched
  subst hre
  have hkw := Keep.trans hk3 hk4
  clear key h1 h2 h3 hk3 hk4 hr
  rcases hcs with ⟨hno, -⟩ | ⟨out, A3, n3, c3, hout, rfl, hs3⟩
  · cases hno
  · injection hout with hout
    subst hout
    obtain ⟨q1, q2, q3, q4⟩ := hs3
    simp only [List.length_cons, List.length_nil, Nat.zero_add, Nat.reduceAdd] at q1
    subst q1
    obtain ⟨b, off, rfl, -, hc⟩ := q4.2 (by omega)
    have r0 : w4.rangeAt b off [.int .i64 1, .int .i64 2, .int .i64 0, .int .i64 0, .int .i64 0, .int .i64 4] := fun i v hv => by
      refine hc i v ?_
      rcases i with _ | _ | _ | _ | _ | _ | i
      · exact hv
      · exact hv
      · exact hv
      · exact hv
      · exact hv
      · exact hv
      · simp at hv
    have r1 : w4.rangeAt b (off + 6) [.int .i64 0, .int .i64 1, .int .i64 1, .int .i64 1, .int .i64 0, .int .i64 0] := fun i v hv => by
      have := hc (6 + i) v ?_
      · rw [Nat.add_assoc]; exact this
      rcases i with _ | _ | _ | _ | _ | _ | i
      · exact hv
      · exact hv
      · exact hv
      · exact hv
      · exact hv
      · exact hv
      · simp at hv
    have hfin : Aw34Post w (.returned (.bool true)) w4 := ⟨rfl, hkw⟩
    have R0 := Lib.hid r0
    have R1 := Lib.hid r1
    have HFIN := Lib.hid hfin
    clear r0 r1 hfin
    clear hc q4 q2 q3 hkw
    go_wp2_with (first
      | (refine wpList_load_range (by rfl) _ (.tmp 21) rfl b off [.int .i64 1, .int .i64 2, .int .i64 0, .int .i64 0, .int .i64 0, .int .i64 4] _ rfl R0.out Tryz.underlying54 rfl (by kernel_rfl) ?_)
      | (refine wpList_load_range (by rfl) _ (.tmp 28) rfl b (off + 6) [.int .i64 0, .int .i64 1, .int .i64 1, .int .i64 1, .int .i64 0, .int .i64 0] _ rfl R1.out Tryz.underlying54 rfl (by kernel_rfl) ?_))
    go_ret
    exact HFIN.out
end Go.Proofs.YtecckbkobkfnmaaGreatDoor
