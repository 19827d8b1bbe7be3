/- replay.possible and replay.choice: written by gen_sched.py. -/
import Derived.Test.YtcfpkmfppgodmaaChc
set_option linter.unusedVariables false
set_option linter.unusedSimpArgs false
set_option maxRecDepth 100000
namespace Go.Proofs.Ytcfpkmfppgodmaa
open Go.RowKit Go.Proofs

/-- One cell that leads to events. -/
def EvsR (w : World) (S : Nat → Prop) (cs : List Value) (l : List Ev) : Prop := ∃ (A : Option Addr) (n c : Nat), cs = [.slice A n c] ∧ Sl encEv 7 w S A n c l
theorem EvsR.keep {w w' : World} {S : Nat → Prop} (hk : Same S w w') (cs : List Value) (l : List Ev) (h : EvsR w S cs l) : EvsR w' S cs l := by
  obtain ⟨A, n, c, e, h⟩ := h
  exact ⟨A, n, c, e, h.keep hk⟩
theorem EvsR.more {w : World} {S T : Nat → Prop} (hk : ∀ i, S i → T i) (cs : List Value) (l : List Ev) (h : EvsR w S cs l) : EvsR w T cs l := by
  obtain ⟨A, n, c, e, h⟩ := h
  exact ⟨A, n, c, e, h.more hk⟩
/-- May the event of process q happen when the processes have arrived at these indexes? -/
def possS (l : List (List Ev)) (at_ : List Int) (q : Int) (e : Ev) : Bool :=
  if e.kind = 1 then
    decide (0 ≤ e.frm) && decide (e.frm < l.length) && decide (e.frm ≠ q) && decide (e.sIdx ≤ at_.getD e.frm.toNat 0) && labOk (l.getD e.frm.toNat []) e.sIdx && decide (labInc (l.getD e.frm.toNat []) e.sIdx = e.sInc) && decide (labIdx (l.getD e.frm.toNat []) e.sIdx = e.sIdx)
  else true
def chS (q : Int) (e : Ev) : Chc := if e.kind = 1 then ⟨q, e.kind, e.frm, e.sIdx, e.ord, 0⟩ else ⟨q, e.kind, 0, 0, 0, e.val⟩
def BoolPost (v : Bool) (w : World) (e : Ending) (w' : World) : Prop := e = .returned (.bool v) ∧ Keep w w'
def ChPost (x : Chc) (w : World) (e : Ending) (w' : World) : Prop := e = .returned (.agg (encCh x).toArray) ∧ Keep w w'
theorem bld_ch5 (a b c d e : Int) : Try.prog.built 45 [(0, .int .i64 a), (1, .int .i64 b), (2, .int .i64 c), (3, .int .i64 d), (4, .int .i64 e)] = some #[.int .i64 a, .int .i64 b, .int .i64 c, .int .i64 d, .int .i64 e, .int .i64 0] := by kernel_rfl
theorem bld_ch3 (a b c : Int) : Try.prog.built 45 [(0, .int .i64 a), (1, .int .i64 b), (5, .int .i64 c)] = some #[.int .i64 a, .int .i64 b, .int .i64 0, .int .i64 0, .int .i64 0, .int .i64 c] := by kernel_rfl
theorem bld_ste (A : Option Addr) (n c : Nat) : Try.prog.built 88 [(1, .slice A n c)] = some #[.slice none 0 0, .slice A n c, .slice none 0 0, .slice none 0 0] := by kernel_rfl
set_option maxHeartbeats 4000000 in
theorem choice_any (w : World) (q : Int) (e : Ev) : Calls Try.prog 28 #[.int .i64 q, .agg #[.int .i64 e.kind, .int .i64 e.inc, .int .i64 e.frm, .int .i64 e.sInc, .int .i64 e.sIdx, .int .i64 e.ord, .int .i64 e.val]] w (ChPost (chS q e) w) := by
  generalize hW : (w.alloc (.cells #[.int .i64 e.kind, .int .i64 e.inc, .int .i64 e.frm, .int .i64 e.sInc, .int .i64 e.sIdx, .int .i64 e.ord, .int .i64 e.val] 50)).alloc (.cells #[.int .i64 0, .int .i64 0, .int .i64 0, .int .i64 0, .int .i64 0, .int .i64 0] 45) = W
  have hkW : Keep w W := hW ▸ Keep.alloc (Keep.new w _) _
  have hb3 : Blk W w.heap.size 50 #[.int .i64 e.kind, .int .i64 e.inc, .int .i64 e.frm, .int .i64 e.sInc, .int .i64 e.sIdx, .int .i64 e.ord, .int .i64 e.val] := hW ▸ (Blk.new w _ _).alloc _
  have hb4 : Blk W (w.heap.size + 1) 45 #[.int .i64 0, .int .i64 0, .int .i64 0, .int .i64 0, .int .i64 0, .int .i64 0] := hW ▸ (by simpa using Blk.new (w.alloc _) _ _)
  have c0 : W.cell? ⟨w.heap.size, 0, none⟩ = some (.int .i64 e.kind) := by rw [hb3.cell]; rfl
  have c2 : W.cell? ⟨w.heap.size, 2, none⟩ = some (.int .i64 e.frm) := by rw [hb3.cell]; rfl
  have c4 : W.cell? ⟨w.heap.size, 4, none⟩ = some (.int .i64 e.sIdx) := by rw [hb3.cell]; rfl
  have c5 : W.cell? ⟨w.heap.size, 5, none⟩ = some (.int .i64 e.ord) := by rw [hb3.cell]; rfl
  have c6 : W.cell? ⟨w.heap.size, 6, none⟩ = some (.int .i64 e.val) := by rw [hb3.cell]; rfl
  have HKW := Lib.hid hkW
  have HB3 := Lib.hid hb3
  have HB4 := Lib.hid hb4
  clear hkW hb3 hb4
  by_cases hk : e.kind = 1
  · have t0 : (e.kind == 1) = true := by simpa using hk
    have hx : chS q e = ⟨q, e.kind, e.frm, e.sIdx, e.ord, 0⟩ := by unfold chS; rw [if_pos hk]
    have HX := Lib.hid hx
    clear hx
    clear hk
    go_enter Try.func28, Try.ntmps28
    go_upto_region 1 with fail
    clear hW
    go_wp2_with (first
      | (refine wpList_bld rfl 45 _ rfl _ [(0, .int .i64 q), (1, .int .i64 e.kind), (2, .int .i64 e.frm), (3, .int .i64 e.sIdx), (4, .int .i64 e.ord)] rfl (bld_ch5 _ _ _ _ _) ?_)
      | (refine wpList_store_all rfl _ (.tmp 4) (.tmp 18) rfl (w.heap.size + 1) 45 _ [.int .i64 q, .int .i64 e.kind, .int .i64 e.frm, .int .i64 e.sIdx, .int .i64 e.ord, .int .i64 0] rfl rfl HB4.out rfl (by kernel_rfl) rfl ?_; intro v6 hv6 hs6))
    exact bodyPost_ret (results_cell1 Try.results28 _ _ _ ⟨w.heap.size + 1, 0, none⟩ _ rfl (loadVar_blk [.int .i64 q, .int .i64 e.kind, .int .i64 e.frm, .int .i64 e.sIdx, .int .i64 e.ord, .int .i64 0] _ hv6 (fun j v hv => by simpa using hv) Try.underlying45 rfl (by kernel_rfl))) rfl ⟨by rw [HX.out]; rfl, Keep.write HKW.out hs6 (by omega)⟩
  · have t0 : (e.kind == 1) = false := by simpa using hk
    have hx : chS q e = ⟨q, e.kind, 0, 0, 0, e.val⟩ := by unfold chS; rw [if_neg hk]
    have HX := Lib.hid hx
    clear hx
    clear hk
    go_enter Try.func28, Try.ntmps28
    go_upto_region 1 with fail
    clear hW
    go_wp2_with (first
      | (refine wpList_bld rfl 45 _ rfl _ [(0, .int .i64 q), (1, .int .i64 e.kind), (5, .int .i64 e.val)] rfl (bld_ch3 _ _ _) ?_)
      | (refine wpList_store_all rfl _ (.tmp 4) (.tmp 24) rfl (w.heap.size + 1) 45 _ [.int .i64 q, .int .i64 e.kind, .int .i64 0, .int .i64 0, .int .i64 0, .int .i64 e.val] rfl rfl HB4.out rfl (by kernel_rfl) rfl ?_; intro v6 hv6 hs6))
    exact bodyPost_ret (results_cell1 Try.results28 _ _ _ ⟨w.heap.size + 1, 0, none⟩ _ rfl (loadVar_blk [.int .i64 q, .int .i64 e.kind, .int .i64 0, .int .i64 0, .int .i64 0, .int .i64 e.val] _ hv6 (fun j v hv => by simpa using hv) Try.underlying45 rfl (by kernel_rfl))) rfl ⟨by rw [HX.out]; rfl, Keep.write HKW.out hs6 (by omega)⟩
def PsC (W : World) (la lb : Int) (lo : Bool) (p o : Value) (wx : World) : Prop := ∃ g : Nat, p = .pointer (some ⟨g, 0, none⟩) ∧ o = .bool lo ∧ Blk wx g 48 #[.int .i64 la, .int .i64 lb] ∧ Keep W wx
set_option maxHeartbeats 8000000 in
theorem possible_any (w : World) (S : Nat → Prop) (A A2 : Option Addr) (n c n2 c2 : Nat) (l : List (List Ev)) (at_ : List Int) (q : Int) (e : Ev) (hS : ∀ i, S i → i < w.heap.size) (hl : SlR w S 1 (EvsR w S) A n c l) (ha : Sl encI 1 w S A2 n2 c2 at_) (hn2 : n2 = n) (hn : n ≤ 100000) (hlen : ∀ x ∈ l, x.length ≤ 1000000) :
    Calls Try.prog 27 #[.slice A n c, .slice A2 n2 c2, .int .i64 q, .agg #[.int .i64 e.kind, .int .i64 e.inc, .int .i64 e.frm, .int .i64 e.sInc, .int .i64 e.sIdx, .int .i64 e.ord, .int .i64 e.val]] w (BoolPost (possS l at_ q e) w) := by
  subst hn2
  generalize hW : w.alloc (.cells #[.int .i64 e.kind, .int .i64 e.inc, .int .i64 e.frm, .int .i64 e.sInc, .int .i64 e.sIdx, .int .i64 e.ord, .int .i64 e.val] 50) = W
  have hkW : Keep w W := hW ▸ Keep.new w _
  have hb7 : Blk W w.heap.size 50 #[.int .i64 e.kind, .int .i64 e.inc, .int .i64 e.frm, .int .i64 e.sInc, .int .i64 e.sIdx, .int .i64 e.ord, .int .i64 e.val] := hW ▸ Blk.new w _ _
  have hz := hb7.lt
  have c0 : W.cell? ⟨w.heap.size, 0, none⟩ = some (.int .i64 e.kind) := by rw [hb7.cell]; rfl
  have c2' : W.cell? ⟨w.heap.size, 2, none⟩ = some (.int .i64 e.frm) := by rw [hb7.cell]; rfl
  have c4 : W.cell? ⟨w.heap.size, 4, none⟩ = some (.int .i64 e.sIdx) := by rw [hb7.cell]; rfl
  have hnl := hl.1
  have hna := ha.1
  have haW := ha.keep (Same.mono hkW hS)
  have hlW := hl.keep (Same.mono hkW hS) (EvsR.keep (Same.mono hkW hS))
  have fin : ∀ b, possS l at_ q e = b → ∀ w', Keep W w' → BoolPost (possS l at_ q e) w (.returned (.bool b)) w' := fun b hb w' hk => ⟨by rw [hb], Keep.trans hkW hk⟩
  have hle : n2 = l.length := hnl
  have HKW := Lib.hid hkW
  have HB7 := Lib.hid hb7
  have HAW := Lib.hid haW
  have HLW := Lib.hid hlW
  have HNL := Lib.hid hnl
  have HNA := Lib.hid hna
  have HS := Lib.hid hS
  have HLEN := Lib.hid hlen
  have FIN := Lib.hid fin
  clear hkW hb7 haW hlW hnl hna hS hlen fin
  clear hl ha hle
  by_cases hk : e.kind = 1
  case neg =>
    have t0 : (e.kind != 1) = true := by simpa using hk
    have hp := FIN.out true (by unfold possS; rw [if_neg hk])
    have HP := Lib.hid hp
    clear hp
    clear hk
    go_enter Try.func27, Try.ntmps27
    go_upto_region 1 with fail
    clear hW
    go_wp2_with fail
    go_ret
    exact HP.out _ (Same.refl _ _)
  have t0 : (e.kind != 1) = false := by simpa using hk
  have hps : possS l at_ q e = (decide (0 ≤ e.frm) && decide (e.frm < l.length) && decide (e.frm ≠ q) && decide (e.sIdx ≤ at_.getD e.frm.toNat 0) && labOk (l.getD e.frm.toNat []) e.sIdx && decide (labInc (l.getD e.frm.toNat []) e.sIdx = e.sInc) && decide (labIdx (l.getD e.frm.toNat []) e.sIdx = e.sIdx)) := by unfold possS; rw [if_pos hk]
  have HPS := Lib.hid hps
  clear hps
  clear hk
  by_cases h1 : e.frm < 0
  · have t1 : decide (e.frm < 0) = true := by simpa using h1
    have hp := FIN.out false (by rw [HPS.out]; simp; omega)
    have HP := Lib.hid hp
    clear hp
    go_enter Try.func27, Try.ntmps27
    go_upto_region 1 with fail
    clear hW
    go_upto_region 3 with fail
    go_quiet (fail)
    go_wp2_with fail
    go_ret
    exact HP.out _ (Keep.draws _ _)
  have t1 : decide (e.frm < 0) = false := by simpa using h1
  by_cases h2 : (n2 : Int) ≤ e.frm
  · have t2 : decide ((n2 : Int) ≤ e.frm) = true := by simpa using h2
    have hp := FIN.out false (by rw [HPS.out]; have := HNL.out; simp; omega)
    have HP := Lib.hid hp
    clear hp
    go_enter Try.func27, Try.ntmps27
    go_upto_region 1 with fail
    clear hW
    go_upto_region 3 with fail
    go_quiet (fail)
    go_wp2_with fail
    go_ret
    exact HP.out _ (Keep.draws _ _)
  have t2 : decide ((n2 : Int) ≤ e.frm) = false := by simpa using h2
  by_cases h3 : e.frm = q
  · have t3 : (e.frm == q) = true := by simpa using h3
    have hq := h3
    have HQ := Lib.hid hq
    clear hq
    clear h3
    have hp := FIN.out false (by rw [HPS.out]; have := HQ.out; simp [this])
    have HP := Lib.hid hp
    clear hp
    go_enter Try.func27, Try.ntmps27
    go_upto_region 1 with fail
    clear hW
    go_upto_region 3 with fail
    go_quiet (fail)
    go_wp2_with fail
    go_ret
    exact HP.out _ (Keep.draws _ _)
  have t3 : (e.frm == q) = false := by simpa using h3
  obtain ⟨fr, hfr⟩ : ∃ fr : Nat, e.frm = fr := ⟨e.frm.toNat, by omega⟩
  have hfn : fr < n2 := by omega
  obtain ⟨b2, off2, av, rfl, hb2, hav, hcv⟩ := HAW.out.at_ encI_len hfn
  have hgd : at_.getD e.frm.toNat 0 = av := by rw [hfr]; simp [List.getD, hav]
  have c7 : W.cell? ⟨b2, off2 + fr, none⟩ = some (.int .i64 av) := by have := hcv 0 _ rfl; simpa using this
  have i0 : (0 : Int) ≤ e.frm := by omega
  have i1 : e.frm < (n2 : Int) := by omega
  have i2 : e.frm.toNat = fr := by omega
  clear hcv hav
  have HGD := Lib.hid hgd
  have HFR := Lib.hid hfr
  have H3 := Lib.hid h3
  clear hgd hfr h3
  by_cases h4 : av < e.sIdx
  · have t4 : decide (av < e.sIdx) = true := by simpa using h4
    have hp := FIN.out false (by rw [HPS.out]; rw [HGD.out]; simp; omega)
    have HP := Lib.hid hp
    clear hp
    go_enter Try.func27, Try.ntmps27
    go_upto_region 1 with fail
    clear hW
    go_upto_region 3 with fail
    go_quiet (fail)
    go_wp2_with fail
    go_ret
    exact HP.out _ (Keep.draws _ _)
  have t4 : decide (av < e.sIdx) = false := by simpa using h4
  obtain ⟨b1, off1, cs, evs, rfl, hb1, hev, ⟨Ae, ne, ce, rfl, hse⟩, -, hce⟩ := HLW.out.at_ hfn
  have hgl : l.getD e.frm.toNat [] = evs := by rw [HFR.out]; simp [List.getD, hev]
  have c8 : ∀ wx, Keep W wx → wx.cell? ⟨b1, off1 + fr, none⟩ = some (.slice Ae ne ce) := fun wx hx => (hx.cell (p := ⟨b1, off1 + fr, none⟩) (by have := HS.out _ hb1; have := HKW.out.size; show b1 < _; omega)).trans (by have := hce 0 _ rfl; simpa using this)
  have hpr : possS l at_ q e = (labOk evs e.sIdx && decide (labInc evs e.sIdx = e.sInc) && decide (labIdx evs e.sIdx = e.sIdx)) := by
    rw [HPS.out, hgl, HGD.out]
    have d1 : decide (0 ≤ e.frm) = true := by simp; omega
    have d2 : decide (e.frm < l.length) = true := by have := HNL.out; simp; omega
    have d3 : decide (e.frm ≠ q) = true := by have := H3.out; simp [this]
    have d4 : decide (e.sIdx ≤ av) = true := by simp; omega
    rw [d1, d2, d3, d4]
    simp
  have hel : evs.length ≤ 1000000 := HLEN.out _ (List.mem_of_getElem? hev)
  have f2 : ∀ wx, Keep W wx → wx.cell? ⟨w.heap.size, 2, none⟩ = some (.int .i64 e.frm) := fun wx hx => by rw [(hx.blk HB7.out HB7.out.lt).cell]; rfl
  have f4 : ∀ wx, Keep W wx → wx.cell? ⟨w.heap.size, 4, none⟩ = some (.int .i64 e.sIdx) := fun wx hx => by rw [(hx.blk HB7.out HB7.out.lt).cell]; rfl
  have HGL := Lib.hid hgl
  have HPR := Lib.hid hpr
  have HSE := Lib.hid hse
  have HEL := Lib.hid hel
  have C8 := Lib.hid c8
  have F2 := Lib.hid f2
  have F4 := Lib.hid f4
  clear hgl hpr hse hel c8 f2 f4
  clear hce hev
  go_enter Try.func27, Try.ntmps27
  go_upto_region 1 with fail
  clear hW
  go_upto_region 3 with fail
  go_quiet (fail)
  go_upto_region 5 with fail
  have hkq : Keep W (W.drewN nq) := Keep.draws W nq
  generalize hwq : W.drewN nq = Wq at hkq ⊢
  clear hwq c0 c2' c4 c7
  try simp only [Act.put, List.setIfInBounds_toArray, List.set_cons_zero, List.set_cons_succ]
  go_cut [9, 10] from 41 to 53 (fun p o wx => PsC W (labInc evs e.sIdx) (labIdx evs e.sIdx) (labOk evs e.sIdx) p o wx)
  case first =>
    have f2 := F2.out
    have f4 := F4.out
    have c8 := C8.out
    refine wp_region_L 14 (fun wx => Keep W wx) (fun _ => True) (by kernel_rfl) (Same.drew hkq) trivial (fun hA hB => ?_)
    generalize hu0 : Wq.drew = u0 at hA ⊢
    clear hu0
    have z0 := hA.size
    refine wpL_takeA (i := 0) (v := ?_) rfl (by kernel_rfl) (by kernel_rfl) (by kernel_rfl) (by kernel_rfl) (by decide) (fun _ _ _ h => h) (Or.inl ⟨by rfl, ?_⟩) hA hB ?_
    rotate_left
    · rintro wx ⟨hAx, hBx⟩
      (try dsimp only at hBx); (try dsimp only at hAx)
      go_simp
      try with_reducible rfl
    try simp only [Act.put, List.setIfInBounds_toArray, List.set_cons_zero, List.set_cons_succ]
    refine wpL_takeA (i := 1) (v := ?_) rfl (by kernel_rfl) (by kernel_rfl) (by kernel_rfl) (by kernel_rfl) (by decide) (fun _ _ _ h => h) (Or.inl ⟨by rfl, ?_⟩) hA hB ?_
    rotate_left
    · rintro wx ⟨hAx, hBx⟩
      (try dsimp only at hBx); (try dsimp only at hAx)
      go_simp
      try with_reducible rfl
    try simp only [Act.put, List.setIfInBounds_toArray, List.set_cons_zero, List.set_cons_succ]
    refine wpL_takeA (i := 2) (v := ?_) rfl (by kernel_rfl) (by kernel_rfl) (by kernel_rfl) (by kernel_rfl) (by decide) (fun _ _ _ h => h) (Or.inl ⟨by rfl, ?_⟩) hA hB ?_
    rotate_left
    · rintro wx ⟨hAx, hBx⟩
      (try dsimp only at hBx); (try dsimp only at hAx)
      go_simp
      try with_reducible rfl
    try simp only [Act.put, List.setIfInBounds_toArray, List.set_cons_zero, List.set_cons_succ]
    refine wpL_takeA (i := 3) (v := ?_) rfl (by kernel_rfl) (by kernel_rfl) (by kernel_rfl) (by kernel_rfl) (by decide) (fun _ _ _ h => h) (Or.inl ⟨by rfl, ?_⟩) hA hB ?_
    rotate_left
    · rintro wx ⟨hAx, hBx⟩
      (try dsimp only at hBx); (try dsimp only at hAx)
      go_simp
      try with_reducible rfl
    try simp only [Act.put, List.setIfInBounds_toArray, List.set_cons_zero, List.set_cons_succ]
    refine wpL_takeA (i := 4) (v := ?_) rfl (by kernel_rfl) (by kernel_rfl) (by kernel_rfl) (by kernel_rfl) (by decide) (fun _ _ _ h => h) (Or.inl ⟨by rfl, ?_⟩) hA hB ?_
    rotate_left
    · rintro wx ⟨hAx, hBx⟩
      (try dsimp only at hBx); (try dsimp only at hAx)
      go_simp
      try with_reducible rfl
    try simp only [Act.put, List.setIfInBounds_toArray, List.set_cons_zero, List.set_cons_succ]
    refine wpL_takeA (i := 5) rfl (by kernel_rfl) (by kernel_rfl) (by kernel_rfl) (by kernel_rfl) (by decide) (fun _ _ _ h => h) (yieldsIf_bld (by rfl) 88 _ rfl _ [(1, .slice Ae ne ce)] rfl (bld_ste _ _ _)) hA hB ?_
    try simp only [Act.put, List.setIfInBounds_toArray, List.set_cons_zero, List.set_cons_succ]
    refine wpL_takeA (i := 6) (v := ?_) rfl (by kernel_rfl) (by kernel_rfl) (by kernel_rfl) (by kernel_rfl) (by decide) (fun _ _ _ h => h) (Or.inl ⟨by rfl, ?_⟩) hA hB ?_
    rotate_left
    · rintro wx ⟨hAx, hBx⟩
      (try dsimp only at hBx); (try dsimp only at hAx)
      go_simp
      try with_reducible rfl
    try simp only [Act.put, List.setIfInBounds_toArray, List.set_cons_zero, List.set_cons_succ]
    refine wpL_takeA (i := 7) (v := ?_) rfl (by kernel_rfl) (by kernel_rfl) (by kernel_rfl) (by kernel_rfl) (by decide) (fun _ _ _ h => h) (Or.inl ⟨by rfl, ?_⟩) hA hB ?_
    rotate_left
    · rintro wx ⟨hAx, hBx⟩
      (try dsimp only at hBx); (try dsimp only at hAx)
      go_simp
      try with_reducible rfl
    try simp only [Act.put, List.setIfInBounds_toArray, List.set_cons_zero, List.set_cons_succ]
    refine wpL_takeA (i := 8) (v := ?_) rfl (by kernel_rfl) (by kernel_rfl) (by kernel_rfl) (by kernel_rfl) (by decide) (fun _ _ _ h => h) (Or.inl ⟨by rfl, ?_⟩) hA hB ?_
    rotate_left
    · rintro wx ⟨hAx, hBx⟩
      (try dsimp only at hBx); (try dsimp only at hAx)
      go_simp
      try with_reducible rfl
    try simp only [Act.put, List.setIfInBounds_toArray, List.set_cons_zero, List.set_cons_succ]
    clear f2 f4 c8
    refine wpL_two (i := 9) (j := 13) (by kernel_rfl) (StepL.mk rfl (fun K hK => ?_)) (StepL.mk rfl (fun K hK => ?_))
    · go_simp
      refine (plabel_any u0 S none Ae none none 0 0 ne ce 0 0 0 0 evs e.sIdx (fun i hi => by have := HS.out i hi; have := hA.size; omega) (HSE.out.keep (Same.mono hA (fun i hi => by have := HS.out i hi; omega))) HEL.out).mono ?_
      rintro e9 u1 ⟨rfl, hk11⟩
      have z1 := hk11.size
      have ha := Keep.trans hA hk11
      refine hK.out _ _ (SAB.both ha trivial) (fun hSS => ?_)
      clear hK K hA hB
      have hB := hSS.2
      have hA := hSS.1 (by kernel_rfl)
      (try dsimp only at hB); (try dsimp only at hA); clear hSS
      try simp only [Act.put, List.setIfInBounds_toArray, List.set_cons_zero, List.set_cons_succ]
      clear ha
      refine wpL_takeA (i := 10) (v := ?_) rfl (by kernel_rfl) (by kernel_rfl) (by kernel_rfl) (by kernel_rfl) (by decide) (fun _ _ _ h => h) (Or.inl ⟨by rfl, ?_⟩) hA hB ?_
      rotate_left
      · rintro wx ⟨hAx, hBx⟩
        (try dsimp only at hBx); (try dsimp only at hAx)
        go_simp
        try with_reducible rfl
      try simp only [Act.put, List.setIfInBounds_toArray, List.set_cons_zero, List.set_cons_succ]
      refine wpL_takeA (i := 11) (v := ?_) rfl (by kernel_rfl) (by kernel_rfl) (by kernel_rfl) (by kernel_rfl) (by decide) (fun _ _ _ h => h) (Or.inl ⟨by rfl, ?_⟩) hA hB ?_
      rotate_left
      · rintro wx ⟨hAx, hBx⟩
        (try dsimp only at hBx); (try dsimp only at hAx)
        go_simp
        try with_reducible rfl
      try simp only [Act.put, List.setIfInBounds_toArray, List.set_cons_zero, List.set_cons_succ]
      refine wpL_takeB (i := 12) (v := ?_) rfl (by kernel_rfl) (by kernel_rfl) (by kernel_rfl) (by decide) (fun _ _ _ h => h) (Or.inl ⟨by rfl, ?_⟩) (SAB.both hA hB) ?_
      rotate_left
      · intro wx hBx
        (try dsimp only at hBx)
        go_simp
        try with_reducible rfl
      try simp only [Act.put, List.setIfInBounds_toArray, List.set_cons_zero, List.set_cons_succ]
      refine wpL_one (i := 13) (by kernel_rfl) (StepL.mk rfl (fun K hK => ?_))
      go_simp
      generalize hq : u1.alloc (.cells #[.int .i64 0, .int .i64 0] 48) = u2
      have hb13 : Blk u2 u1.heap.size 48 #[.int .i64 0, .int .i64 0] := hq ▸ Blk.new _ _ _
      have hk12 : Keep u1 u2 := hq ▸ Keep.new _ _
      clear hq
      have y13 := hb13.lt
      have z2 := hk12.size
      have ha := Keep.trans hA hk12
      refine hK.out _ _ (SAB.both ha trivial) (fun hSS => ?_)
      clear hK K hA hB
      have hB := hSS.2
      have hA := hSS.1 (by kernel_rfl)
      (try dsimp only at hB); (try dsimp only at hA); clear hSS
      try simp only [Act.put, List.setIfInBounds_toArray, List.set_cons_zero, List.set_cons_succ]
      clear ha
      have b9 := hb13
      refine wpL_one (i := 14) (by kernel_rfl) (StepL.mk rfl (fun K hK => ?_))
      refine step_store_blk rfl _ _ _ rfl (u1.heap.size) 0 48 _ [.int .i64 (labInc evs e.sIdx), .int .i64 (labIdx evs e.sIdx)] rfl rfl b9 (by simp) (by kernel_rfl) rfl ?_
      intro v5 hv5 hs5
      rw [splice_all [.int .i64 (labInc evs e.sIdx), .int .i64 (labIdx evs e.sIdx)] #[.int .i64 0, .int .i64 0] rfl] at hv5
      have zA := hA.size
      have hfin : PsC W (labInc evs e.sIdx) (labIdx evs e.sIdx) (labOk evs e.sIdx) (.pointer (some ⟨u1.heap.size, 0, none⟩)) (.bool (labOk evs e.sIdx)) v5 := ⟨_, rfl, rfl, hv5, Keep.write hA hs5 (by omega)⟩
      refine hK.out _ _ (SAB.past (by kernel_rfl) trivial) (fun hSS => ?_)
      clear hK K hA hB
      have hB := hSS.2
      have hA : True := trivial
      (try dsimp only at hB); (try dsimp only at hA); clear hSS
      try simp only [Act.put, List.setIfInBounds_toArray, List.set_cons_zero, List.set_cons_succ]
      have HFIN := Lib.hid hfin
      clear hfin
      clear hv5 hs5 b9 hb13 hA hB hk11 hk12
      have hA : True := trivial
      have hB : True := trivial
      refine wpL_one (i := 15) (by kernel_rfl) (StepL.mk rfl (fun K hK => ?_))
      go_simp
      refine hK.out _ _ (SAB.past (by kernel_rfl) trivial) (fun hSS => ?_)
      clear hK K hA hB
      have hB := hSS.2
      have hA : True := trivial
      (try dsimp only at hB); (try dsimp only at hA); clear hSS
      try simp only [Act.put, List.setIfInBounds_toArray, List.set_cons_zero, List.set_cons_succ]
      refine wpL_done (by kernel_rfl) ?_
      go_wp2_with fail
      go_meet
      exact HFIN.out
    · go_simp
      generalize hq : u0.alloc (.cells #[.int .i64 0, .int .i64 0] 48) = u1
      have hb13 : Blk u1 u0.heap.size 48 #[.int .i64 0, .int .i64 0] := hq ▸ Blk.new _ _ _
      have hk11 : Keep u0 u1 := hq ▸ Keep.new _ _
      clear hq
      have y13 := hb13.lt
      have z1 := hk11.size
      have ha := Keep.trans hA hk11
      refine hK.out _ _ (SAB.both ha trivial) (fun hSS => ?_)
      clear hK K hA hB
      have hB := hSS.2
      have hA := hSS.1 (by kernel_rfl)
      (try dsimp only at hB); (try dsimp only at hA); clear hSS
      try simp only [Act.put, List.setIfInBounds_toArray, List.set_cons_zero, List.set_cons_succ]
      clear ha
      refine wpL_one (i := 9) (by kernel_rfl) (StepL.mk rfl (fun K hK => ?_))
      go_simp
      refine (plabel_any u1 S none Ae none none 0 0 ne ce 0 0 0 0 evs e.sIdx (fun i hi => by have := HS.out i hi; have := hA.size; omega) (HSE.out.keep (Same.mono hA (fun i hi => by have := HS.out i hi; omega))) HEL.out).mono ?_
      rintro e9 u2 ⟨rfl, hk12⟩
      have z2 := hk12.size
      have ha := Keep.trans hA hk12
      refine hK.out _ _ (SAB.both ha trivial) (fun hSS => ?_)
      clear hK K hA hB
      have hB := hSS.2
      have hA := hSS.1 (by kernel_rfl)
      (try dsimp only at hB); (try dsimp only at hA); clear hSS
      try simp only [Act.put, List.setIfInBounds_toArray, List.set_cons_zero, List.set_cons_succ]
      clear ha
      refine wpL_takeA (i := 10) (v := ?_) rfl (by kernel_rfl) (by kernel_rfl) (by kernel_rfl) (by kernel_rfl) (by decide) (fun _ _ _ h => h) (Or.inl ⟨by rfl, ?_⟩) hA hB ?_
      rotate_left
      · rintro wx ⟨hAx, hBx⟩
        (try dsimp only at hBx); (try dsimp only at hAx)
        go_simp
        try with_reducible rfl
      try simp only [Act.put, List.setIfInBounds_toArray, List.set_cons_zero, List.set_cons_succ]
      refine wpL_takeA (i := 11) (v := ?_) rfl (by kernel_rfl) (by kernel_rfl) (by kernel_rfl) (by kernel_rfl) (by decide) (fun _ _ _ h => h) (Or.inl ⟨by rfl, ?_⟩) hA hB ?_
      rotate_left
      · rintro wx ⟨hAx, hBx⟩
        (try dsimp only at hBx); (try dsimp only at hAx)
        go_simp
        try with_reducible rfl
      try simp only [Act.put, List.setIfInBounds_toArray, List.set_cons_zero, List.set_cons_succ]
      refine wpL_takeB (i := 12) (v := ?_) rfl (by kernel_rfl) (by kernel_rfl) (by kernel_rfl) (by decide) (fun _ _ _ h => h) (Or.inl ⟨by rfl, ?_⟩) (SAB.both hA hB) ?_
      rotate_left
      · intro wx hBx
        (try dsimp only at hBx)
        go_simp
        try with_reducible rfl
      try simp only [Act.put, List.setIfInBounds_toArray, List.set_cons_zero, List.set_cons_succ]
      have b9 := hk12.blk hb13 y13
      refine wpL_one (i := 14) (by kernel_rfl) (StepL.mk rfl (fun K hK => ?_))
      refine step_store_blk rfl _ _ _ rfl (u0.heap.size) 0 48 _ [.int .i64 (labInc evs e.sIdx), .int .i64 (labIdx evs e.sIdx)] rfl rfl b9 (by simp) (by kernel_rfl) rfl ?_
      intro v5 hv5 hs5
      rw [splice_all [.int .i64 (labInc evs e.sIdx), .int .i64 (labIdx evs e.sIdx)] #[.int .i64 0, .int .i64 0] rfl] at hv5
      have zA := hA.size
      have hfin : PsC W (labInc evs e.sIdx) (labIdx evs e.sIdx) (labOk evs e.sIdx) (.pointer (some ⟨u0.heap.size, 0, none⟩)) (.bool (labOk evs e.sIdx)) v5 := ⟨_, rfl, rfl, hv5, Keep.write hA hs5 (by omega)⟩
      refine hK.out _ _ (SAB.past (by kernel_rfl) trivial) (fun hSS => ?_)
      clear hK K hA hB
      have hB := hSS.2
      have hA : True := trivial
      (try dsimp only at hB); (try dsimp only at hA); clear hSS
      try simp only [Act.put, List.setIfInBounds_toArray, List.set_cons_zero, List.set_cons_succ]
      have HFIN := Lib.hid hfin
      clear hfin
      clear hv5 hs5 b9 hb13 hA hB hk11 hk12
      have hA : True := trivial
      have hB : True := trivial
      refine wpL_one (i := 15) (by kernel_rfl) (StepL.mk rfl (fun K hK => ?_))
      go_simp
      refine hK.out _ _ (SAB.past (by kernel_rfl) trivial) (fun hSS => ?_)
      clear hK K hA hB
      have hB := hSS.2
      have hA : True := trivial
      (try dsimp only at hB); (try dsimp only at hA); clear hSS
      try simp only [Act.put, List.setIfInBounds_toArray, List.set_cons_zero, List.set_cons_succ]
      refine wpL_done (by kernel_rfl) ?_
      go_wp2_with fail
      go_meet
      exact HFIN.out
  case rest =>
    obtain ⟨g, rfl, rfl, hbl, hkc⟩ := hcut
    have hbe := hkc.blk HB7.out HB7.out.lt
    have hpr := HPR.out
    have fin2 : ∀ b, (labOk evs e.sIdx && decide (labInc evs e.sIdx = e.sInc) && decide (labIdx evs e.sIdx = e.sIdx)) = b → BoolPost (possS l at_ q e) w (.returned (.bool b)) wc := fun b hb => FIN.out b (hpr.trans hb) wc hkc
    generalize labInc evs e.sIdx = la at *
    generalize labIdx evs e.sIdx = lb at *
    generalize labOk evs e.sIdx = lo at *
    have HBL := Lib.hid hbl
    have HBE := Lib.hid hbe
    have FIN2 := Lib.hid fin2
    clear hbl hbe fin2
    clear hpr hkc hkq
    cases lo with
    | false =>
      have hfin := FIN2.out false (by simp)
      have HFIN := Lib.hid hfin
      clear hfin
      go_wp2_with fail
      go_ret
      exact HFIN.out
    | true =>
      by_cases q1 : la = e.sInc
      case neg =>
        have hfin := FIN2.out false (by simp [q1])
        have HFIN := Lib.hid hfin
        clear hfin
        go_wp2_with (first
          | (refine wpList_load_allg (by rfl) _ (.tmp 9) rfl g 48 [.int .i64 la, .int .i64 lb] _ rfl HBL.out Try.underlying48 rfl (by kernel_rfl) ?_)
          | (refine wpList_load_blkg (by rfl) _ (.tmp 57) rfl w.heap.size 3 50 _ [.int .i64 e.sInc, .int .i64 e.sIdx] _ rfl HBE.out (lab_cells e.kind e.inc e.frm e.sInc e.sIdx e.ord e.val) Try.underlying48 rfl (by kernel_rfl) ?_))
        go_ret
        exact HFIN.out
      by_cases q2 : lb = e.sIdx
      case neg =>
        have hfin := FIN2.out false (by simp [q2])
        have HFIN := Lib.hid hfin
        clear hfin
        go_wp2_with (first
          | (refine wpList_load_allg (by rfl) _ (.tmp 9) rfl g 48 [.int .i64 la, .int .i64 lb] _ rfl HBL.out Try.underlying48 rfl (by kernel_rfl) ?_)
          | (refine wpList_load_blkg (by rfl) _ (.tmp 57) rfl w.heap.size 3 50 _ [.int .i64 e.sInc, .int .i64 e.sIdx] _ rfl HBE.out (lab_cells e.kind e.inc e.frm e.sInc e.sIdx e.ord e.val) Try.underlying48 rfl (by kernel_rfl) ?_))
        go_ret
        exact HFIN.out
      have hfin := FIN2.out true (by simp [q1, q2])
      have HFIN := Lib.hid hfin
      clear hfin
      go_wp2_with (first
        | (refine wpList_load_allg (by rfl) _ (.tmp 9) rfl g 48 [.int .i64 la, .int .i64 lb] _ rfl HBL.out Try.underlying48 rfl (by kernel_rfl) ?_)
        | (refine wpList_load_blkg (by rfl) _ (.tmp 57) rfl w.heap.size 3 50 _ [.int .i64 e.sInc, .int .i64 e.sIdx] _ rfl HBE.out (lab_cells e.kind e.inc e.frm e.sInc e.sIdx e.ord e.val) Try.underlying48 rfl (by kernel_rfl) ?_))
      go_ret
      exact HFIN.out
end Go.Proofs.Ytcfpkmfppgodmaa
