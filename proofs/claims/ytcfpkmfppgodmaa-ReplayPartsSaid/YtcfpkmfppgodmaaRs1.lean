/- ref32.Labelled, ref34.can, ref32.Full, ref34.SameChoices. -/
import Derived.Test.YtcfpkmfppgodmaaSched2
import Derived.Test.YtcfpkmfppgodmaaWit
set_option linter.unusedVariables false
set_option linter.unusedSimpArgs false
set_option maxRecDepth 100000
namespace Go.Proofs.Ytcfpkmfppgodmaa
open Go.RowKit Go.Proofs

/-- Is (li, lx) the label of its index? -/
def labS (evs : List Ev) (li lx : Int) : Bool := labOk evs lx && decide (labInc evs lx = li) && decide (labIdx evs lx = lx)
theorem labS_zero (evs : List Ev) (li : Int) : labS evs li 0 = decide (li = 0) := by
  unfold labS labOk labInc labIdx
  simp
  rw [eq_comm]
theorem labS_neg {evs : List Ev} {li lx : Int} (h : lx < 0) : labS evs li lx = false := by
  unfold labS labOk
  have : decide (0 ≤ lx ∧ lx ≤ (evs.length : Int)) = false := by simp; omega
  rw [this]
  simp
theorem labS_far {evs : List Ev} {li lx : Int} (h : (evs.length : Int) < lx) : labS evs li lx = false := by
  unfold labS labOk
  have : decide (0 ≤ lx ∧ lx ≤ (evs.length : Int)) = false := by simp; omega
  rw [this]
  simp
theorem labS_in {evs : List Ev} {li : Int} {k : Nat} {ev : Ev} (h : evs[k]? = some ev) : labS evs li ((k : Int) + 1) = decide (ev.inc = li) := by
  have hk := (List.getElem?_eq_some_iff.1 h).1
  unfold labS labOk labInc labIdx
  have h1 : (0 : Int) < (k : Int) + 1 ∧ (k : Int) + 1 ≤ evs.length := by omega
  rw [if_pos h1, if_pos h1]
  have h2 : ((k : Int) + 1).toNat - 1 = k := by omega
  rw [h2, getD_of h]
  have h3 : decide (0 ≤ (k : Int) + 1 ∧ (k : Int) + 1 ≤ (evs.length : Int)) = true := by simp; omega
  rw [h3]
  simp
set_option maxHeartbeats 4000000 in
theorem labelled_any (w : World) (S : Nat → Prop) (A : Option Addr) (n c : Nat) (evs : List Ev) (li lx : Int) (hS : ∀ i, S i → i < w.heap.size) (hl : Sl encEv 7 w S A n c evs) (hn : n ≤ 1000000) :
    Calls Try.prog 41 #[.slice A n c, .agg #[.int .i64 li, .int .i64 lx]] w (BoolPost (labS evs li lx) w) := by
  have hnl := hl.1
  generalize hW : w.alloc (.cells #[.int .i64 li, .int .i64 lx] 48) = W
  have hkW : Keep w W := hW ▸ Keep.new w _
  have hb : Blk W w.heap.size 48 #[.int .i64 li, .int .i64 lx] := hW ▸ Blk.new w _ _
  have c0 : W.cell? ⟨w.heap.size, 0, none⟩ = some (.int .i64 li) := by rw [hb.cell]; rfl
  have c1 : W.cell? ⟨w.heap.size, 1, none⟩ = some (.int .i64 lx) := by rw [hb.cell]; rfl
  have fin : ∀ b, labS evs li lx = b → ∀ w', Keep W w' → BoolPost (labS evs li lx) w (.returned (.bool b)) w' := fun b hb w' hk => ⟨by rw [hb], Keep.trans hkW hk⟩
  have hlW := hl.keep (Same.mono hkW hS)
  have HKW := Lib.hid hkW
  have HB := Lib.hid hb
  have FIN := Lib.hid fin
  have HLW := Lib.hid hlW
  have HNL := Lib.hid hnl
  clear hkW hb fin hlW hnl
  clear hl
  by_cases h0 : lx = 0
  · subst h0
    have hfin := FIN.out _ (labS_zero evs li) W (Same.refl _ _)
    have t1 : (li == 0) = decide (li = 0) := by by_cases h : li = 0 <;> simp [h]
    have HFIN := Lib.hid hfin
    have T1 := Lib.hid t1
    clear hfin t1
    go_enter Try.func41, Try.ntmps41
    go_upto_region 1 with fail
    clear hW
    go_wp2_with fail
    go_ret
    rw [T1.out]
    exact HFIN.out
  have t0 : (lx == 0) = false := by simpa using h0
  by_cases h1 : lx < 0
  · have t1 : decide ((0 : Int) < lx) = false := by simp; omega
    have hfin := FIN.out _ (labS_neg h1)
    have HFIN := Lib.hid hfin
    clear hfin
    clear h0
    go_enter Try.func41, Try.ntmps41
    go_upto_region 1 with fail
    clear hW
    go_upto_region 3 with fail
    go_quiet (fail)
    go_wp2_with fail
    go_ret
    exact HFIN.out _ (Keep.draws _ _)
  have t1 : decide ((0 : Int) < lx) = true := by simp; omega
  by_cases h2 : (n : Int) < lx
  · have t2 : decide (lx ≤ (n : Int)) = false := by simp; omega
    have hfin := FIN.out _ (labS_far (by have := HNL.out; omega))
    have HFIN := Lib.hid hfin
    clear hfin
    clear h0
    go_enter Try.func41, Try.ntmps41
    go_upto_region 1 with fail
    clear hW
    go_upto_region 3 with fail
    go_quiet (fail)
    go_wp2_with fail
    go_ret
    exact HFIN.out _ (Keep.draws _ _)
  have t2 : decide (lx ≤ (n : Int)) = true := by simp; omega
  obtain ⟨k, hk⟩ : ∃ k : Nat, lx = (k : Int) + 1 := ⟨(lx - 1).toNat, by omega⟩
  subst hk
  obtain ⟨b1, off1, ev, rfl, hb1, hev, hc1⟩ := HLW.out.at_ encEv_len (k := k) (by omega)
  have x1 : W.cell? ⟨b1, off1 + k * 7 + 1, none⟩ = some (.int .i64 ev.inc) := hc1 1 _ rfl
  have hfin := FIN.out _ (labS_in (li := li) hev)
  have t3 : (ev.inc == li) = decide (ev.inc = li) := by by_cases h : ev.inc = li <;> simp [h]
  have i1 : (k : Int) + 1 - 1 = k := by omega
  have i2 : (0 : Int) ≤ k := by omega
  have i3 : (k : Int) < n := by omega
  have HFIN := Lib.hid hfin
  have T3 := Lib.hid t3
  clear hfin t3
  clear h0 hc1 hev
  go_enter Try.func41, Try.ntmps41
  go_upto_region 1 with fail
  clear hW
  go_upto_region 3 with fail
  go_quiet (fail)
  go_wp2_with fail
  go_ret
  rw [T3.out]
  exact HFIN.out _ (Keep.draws _ _)
theorem possS_lab {l : List (List Ev)} {at_ : List Int} {q : Int} {e : Ev} (h : e.kind = 1) : possS l at_ q e = (decide (0 ≤ e.frm) && decide (e.frm < l.length) && decide (e.frm ≠ q) && labS (l.getD e.frm.toNat []) e.sInc e.sIdx && decide (e.sIdx ≤ at_.getD e.frm.toNat 0)) := by
  unfold possS labS
  rw [if_pos h]
  cases decide (0 ≤ e.frm) <;> cases decide (e.frm < (l.length : Int)) <;> cases decide (e.frm ≠ q) <;> cases decide (e.sIdx ≤ at_.getD e.frm.toNat 0) <;> simp
theorem Chc_ext (a b : Chc) : a = b ↔ a.proc = b.proc ∧ a.kind = b.kind ∧ a.frm = b.frm ∧ a.idx = b.idx ∧ a.ord = b.ord ∧ a.val = b.val := by
  cases a; cases b; simp
def zE7 : List Value := [.int .i64 0, .int .i64 0, .int .i64 0, .int .i64 0, .int .i64 0, .int .i64 0, .int .i64 0]
set_option maxHeartbeats 16000000 in
theorem can_any (w : World) (S : Nat → Prop) (A A2 : Option Addr) (n c n2 c2 : Nat) (l : List (List Ev)) (at_ : List Int) (q an : Nat) (evs : List Ev) (ev : Ev) (hS : ∀ i, S i → i < w.heap.size) (hl : SlR w S 1 (EvsR w S) A n c l) (ha : Sl encI 1 w S A2 n2 c2 at_) (hn2 : n2 = n) (hn : n ≤ 100000) (hlen : ∀ x ∈ l, x.length ≤ 1000000)
    (hq : l[q]? = some evs) (haq : at_[q]? = some (an : Int)) (hev : evs[an]? = some ev) :
    Calls Try.prog 29 #[.slice A n c, .slice A2 n2 c2, .int .i64 q] w (BoolPost (possS l at_ q ev) w) := by
  subst hn2
  have hnl := hl.1
  have hna := ha.1
  have hqn : q < n2 := by have := (List.getElem?_eq_some_iff.1 hq).1; omega
  have hann := (List.getElem?_eq_some_iff.1 hev).1
  obtain ⟨b0, off0, cs, evs', rfl, hSb0, hev', ⟨Ae, ne, ce, rfl, hse⟩, -, hc0⟩ := hl.at_ hqn
  have he1 : evs = evs' := by rw [hq] at hev'; injection hev'
  subst he1
  obtain ⟨b1, off1, av, rfl, hSb1, hav, hc1⟩ := ha.at_ encI_len hqn
  have he2 : (an : Int) = av := by rw [haq] at hav; injection hav
  subst he2
  have hne := hse.1
  obtain ⟨be, oe, ev', rfl, hSbe, hee, hce⟩ := hse.at_ encEv_len (k := an) (by omega)
  have he3 : ev = ev' := by rw [hev] at hee; injection hee
  subst he3
  have x0 : w.cell? ⟨b0, off0 + q, none⟩ = some (.slice (some ⟨be, oe, none⟩) ne ce) := by have := hc0 0 _ rfl; simpa using this
  have x1 : w.cell? ⟨b1, off1 + q, none⟩ = some (.int .i64 an) := by have := hc1 0 _ rfl; simpa using this
  have y0 : ∀ wx, Keep w wx → wx.cell? ⟨b0, off0 + q, none⟩ = some (.slice (some ⟨be, oe, none⟩) ne ce) := fun wx hx => (hx.cell (p := ⟨b0, off0 + q, none⟩) (hS _ hSb0)).trans x0
  have y1 : ∀ wx, Keep w wx → wx.cell? ⟨b1, off1 + q, none⟩ = some (.int .i64 an) := fun wx hx => (hx.cell (p := ⟨b1, off1 + q, none⟩) (hS _ hSb1)).trans x1
  have hre : ∀ wx, Keep w wx → wx.rangeAt be (oe + an * 7) [.int .i64 ev.kind, .int .i64 ev.inc, .int .i64 ev.frm, .int .i64 ev.sInc, .int .i64 ev.sIdx, .int .i64 ev.ord, .int .i64 ev.val] := fun wx hx i u hu => (hx.cell (p := ⟨be, oe + an * 7 + i, none⟩) (hS _ hSbe)).trans (hce i u hu)
  have i0 : (0 : Int) ≤ q := by omega
  have i1 : (q : Int) < n2 := by omega
  have i2 : (0 : Int) ≤ an := by omega
  have i3 : (an : Int) < ne := by omega
  have hq9 := hq
  have HL := Lib.hid hl
  have HA := Lib.hid ha
  have HS := Lib.hid hS
  have HRE := Lib.hid hre
  have HNL := Lib.hid hnl
  have HNA := Lib.hid hna
  have HLEN := Lib.hid hlen
  have HQ9 := Lib.hid hq9
  clear hl ha hS hre hnl hna hlen hq9
  clear hce hc0 hc1 x0 x1 hee hav hev' hse hne hq haq hev
  go_enter Try.func29, Try.ntmps29
  go_upto_region 1 with fail
  refine wp_region_L 99 (fun _ => True) (fun wx => Keep w wx) (by kernel_rfl) trivial (Same.drew (Same.refl _ _)) (fun hA hB => ?_)
  generalize hu0 : w.drew = u0 at hB ⊢
  clear hu0
  have hz0 := hB.size
  refine wpL_takeB (i := 0) (v := ?_) rfl (by kernel_rfl) (by kernel_rfl) (by kernel_rfl) (by decide) (fun _ _ _ h => h) (Or.inl ⟨by rfl, ?_⟩) (SAB.both hA hB) ?_
  rotate_left
  · intro wx hBx
    (try dsimp only at hBx)
    go_simp
    try with_reducible rfl
  try simp only [Act.put, List.setIfInBounds_toArray, List.set_cons_zero, List.set_cons_succ]
  refine wpL_takeB (i := 1) (v := ?_) rfl (by kernel_rfl) (by kernel_rfl) (by kernel_rfl) (by decide) (fun _ _ _ h => h) (Or.inl ⟨by rfl, ?_⟩) (SAB.both hA hB) ?_
  rotate_left
  · intro wx hBx
    (try dsimp only at hBx)
    go_simp
    try with_reducible rfl
  try simp only [Act.put, List.setIfInBounds_toArray, List.set_cons_zero, List.set_cons_succ]
  refine wpL_takeB (i := 2) (v := ?_) rfl (by kernel_rfl) (by kernel_rfl) (by kernel_rfl) (by decide) (fun _ _ _ h => h) (Or.inl ⟨by rfl, ?_⟩) (SAB.both hA hB) ?_
  rotate_left
  · intro wx hBx
    (try dsimp only at hBx)
    go_simp
    try with_reducible rfl
  try simp only [Act.put, List.setIfInBounds_toArray, List.set_cons_zero, List.set_cons_succ]
  refine wpL_takeB (i := 3) (v := ?_) rfl (by kernel_rfl) (by kernel_rfl) (by kernel_rfl) (by decide) (fun _ _ _ h => h) (Or.inl ⟨by rfl, ?_⟩) (SAB.both hA hB) ?_
  rotate_left
  · intro wx hBx
    (try dsimp only at hBx)
    go_simp
    try with_reducible rfl
  try simp only [Act.put, List.setIfInBounds_toArray, List.set_cons_zero, List.set_cons_succ]
  refine wpL_takeB (i := 4) (v := ?_) rfl (by kernel_rfl) (by kernel_rfl) (by kernel_rfl) (by decide) (fun _ _ _ h => h) (Or.inl ⟨by rfl, ?_⟩) (SAB.both hA hB) ?_
  rotate_left
  · intro wx hBx
    (try dsimp only at hBx)
    go_simp
    try with_reducible rfl
  try simp only [Act.put, List.setIfInBounds_toArray, List.set_cons_zero, List.set_cons_succ]
  refine wpL_takeB (i := 5) (v := ?_) rfl (by kernel_rfl) (by kernel_rfl) (by kernel_rfl) (by decide) (fun _ _ _ h => h) (Or.inl ⟨by rfl, ?_⟩) (SAB.both hA hB) ?_
  rotate_left
  · intro wx hBx
    (try dsimp only at hBx)
    go_simp
    try with_reducible rfl
  try simp only [Act.put, List.setIfInBounds_toArray, List.set_cons_zero, List.set_cons_succ]
  refine wpL_takeB (i := 6) (v := ?_) rfl (by kernel_rfl) (by kernel_rfl) (by kernel_rfl) (by decide) (fun _ _ _ h => h) (Or.inl ⟨by rfl, ?_⟩) (SAB.both hA hB) ?_
  rotate_left
  · intro wx hBx
    (try dsimp only at hBx)
    go_simp
    try with_reducible rfl
  try simp only [Act.put, List.setIfInBounds_toArray, List.set_cons_zero, List.set_cons_succ]
  refine wpL_takeB (i := 7) (v := ?_) rfl (by kernel_rfl) (by kernel_rfl) (by kernel_rfl) (by decide) (fun _ _ _ h => h) (Or.inl ⟨by rfl, ?_⟩) (SAB.both hA hB) ?_
  rotate_left
  · intro wx hBx
    (try dsimp only at hBx)
    go_simp
    try with_reducible rfl
  try simp only [Act.put, List.setIfInBounds_toArray, List.set_cons_zero, List.set_cons_succ]
  refine wpL_takeB (i := 8) (v := ?_) rfl (by kernel_rfl) (by kernel_rfl) (by kernel_rfl) (by decide) (fun _ _ _ h => h) (Or.inl ⟨by rfl, ?_⟩) (SAB.both hA hB) ?_
  rotate_left
  · intro wx hBx
    (try dsimp only at hBx)
    go_simp
    try with_reducible rfl
  try simp only [Act.put, List.setIfInBounds_toArray, List.set_cons_zero, List.set_cons_succ]
  refine wpL_takeB (i := 9) rfl (by kernel_rfl) (by kernel_rfl) (by kernel_rfl) (by decide) (fun _ _ _ h => h) (yieldsIf_load_mid (by rfl) _ _ rfl be (oe + an * 7) rfl [.int .i64 ev.kind, .int .i64 ev.inc, .int .i64 ev.frm, .int .i64 ev.sInc, .int .i64 ev.sIdx, .int .i64 ev.ord, .int .i64 ev.val] _ (fun wx hx => HRE.out wx hx) Try.underlying50 rfl (by kernel_rfl)) (SAB.both hA hB) ?_
  try simp only [Act.put, List.setIfInBounds_toArray, List.set_cons_zero, List.set_cons_succ]
  clear y0 y1
  refine wpL_one (i := 10) (by kernel_rfl) (StepL.mk rfl (fun K hK => ?_))
  go_simp
  have hk7 : Keep u0 (u0.alloc (.cells zE7.toArray 50)) := Keep.new _ _
  have hb7 : Blk (u0.alloc (.cells zE7.toArray 50)) u0.heap.size 50 zE7.toArray := Blk.new _ _ _
  have hB7 := Keep.trans hB hk7
  refine hK.out _ _ (SAB.both trivial hB7) (fun hSS => ?_)
  clear hK K hA hB
  have hB := hSS.2
  have hA := hSS.1 (by kernel_rfl)
  (try dsimp only at hB); (try dsimp only at hA); clear hSS
  try simp only [Act.put, List.setIfInBounds_toArray, List.set_cons_zero, List.set_cons_succ]
  generalize hu7 : u0.alloc (.cells #[.int .i64 0, .int .i64 0, .int .i64 0, .int .i64 0, .int .i64 0, .int .i64 0, .int .i64 0] 50) = u7 at *
  have hu7' : u0.alloc (.cells zE7.toArray 50) = u7 := hu7
  rw [hu7'] at hk7 hb7 hB7
  clear hu7 hu7'
  refine wpL_one (i := 11) (by kernel_rfl) (StepL.mk rfl (fun K hK => ?_))
  refine step_store_blk rfl _ _ _ rfl u0.heap.size 0 50 _ [.int .i64 ev.kind, .int .i64 ev.inc, .int .i64 ev.frm, .int .i64 ev.sInc, .int .i64 ev.sIdx, .int .i64 ev.ord, .int .i64 ev.val] rfl rfl hb7 (by simp [zE7]) (by kernel_rfl) rfl ?_
  intro v5 hv5 hs5
  rw [splice_all [.int .i64 ev.kind, .int .i64 ev.inc, .int .i64 ev.frm, .int .i64 ev.sInc, .int .i64 ev.sIdx, .int .i64 ev.ord, .int .i64 ev.val] zE7.toArray rfl] at hv5
  have hk5 : Keep w v5 := Keep.write hB7 hs5 hz0
  obtain ⟨g, hg⟩ : ∃ g, g = u0.heap.size := ⟨_, rfl⟩
  rw [← hg] at hv5
  rw [← hg]
  refine hK.out _ _ (SAB.both trivial hk5) (fun hSS => ?_)
  clear hK K hA hB
  have hB := hSS.2
  have hA : True := trivial
  (try dsimp only at hB); (try dsimp only at hA); clear hSS
  try simp only [Act.put, List.setIfInBounds_toArray, List.set_cons_zero, List.set_cons_succ]
  refine wpL_done (by kernel_rfl) ?_
  clear hA hB hB7 hk7 hb7 hs5 hg hz0
  have c0 : v5.cell? ⟨g, 0, none⟩ = some (.int .i64 ev.kind) := by rw [hv5.cell]; rfl
  have c2 : v5.cell? ⟨g, 2, none⟩ = some (.int .i64 ev.frm) := by rw [hv5.cell]; rfl
  have fin : ∀ b, possS l at_ q ev = b → ∀ w', Keep v5 w' → BoolPost (possS l at_ q ev) w (.returned (.bool b)) w' := fun b hb w' hk => ⟨by rw [hb], Keep.trans hk5 hk⟩
  have HV5 := Lib.hid hv5
  have HK5 := Lib.hid hk5
  have FIN := Lib.hid fin
  clear hv5 hk5 fin
  by_cases hk : ev.kind = 1
  case neg =>
    have t0 : (ev.kind != 1) = true := by simpa using hk
    have hp := FIN.out true (by unfold possS; rw [if_neg hk])
    have HP := Lib.hid hp
    clear hp
    clear hk
    go_wp2_with fail
    go_ret
    exact HP.out _ (Same.refl _ _)
  have t0 : (ev.kind != 1) = false := by simpa using hk
  have hps := possS_lab (l := l) (at_ := at_) (q := q) hk
  have HPS := Lib.hid hps
  clear hps
  clear hk
  by_cases h1 : ev.frm < 0
  · have t1 : decide ((0 : Int) ≤ ev.frm) = false := by simp; omega
    have hp := FIN.out false (by rw [HPS.out, t1]; simp)
    have HP := Lib.hid hp
    clear hp
    go_upto_region 4 with fail
    go_quiet (fail)
    go_wp2_with fail
    go_ret
    exact HP.out _ (Keep.draws _ _)
  have t1 : decide ((0 : Int) ≤ ev.frm) = true := by simp; omega
  by_cases h2 : (n2 : Int) ≤ ev.frm
  · have t2 : decide (ev.frm < (n2 : Int)) = false := by simp; omega
    have hp := FIN.out false (by rw [HPS.out, t1, ← HNL.out, t2]; simp)
    have HP := Lib.hid hp
    clear hp
    go_upto_region 4 with fail
    go_quiet (fail)
    go_wp2_with fail
    go_ret
    exact HP.out _ (Keep.draws _ _)
  have t2 : decide (ev.frm < (n2 : Int)) = true := by simp; omega
  by_cases h3 : ev.frm = q
  · have t3 : (ev.frm != (q : Int)) = false := by simpa using h3
    have hp := FIN.out false (by rw [HPS.out]; simp [h3])
    have h3' := h3
    have HP := Lib.hid hp
    have H3' := Lib.hid h3'
    clear hp h3'
    clear h3
    go_upto_region 4 with fail
    go_quiet (fail)
    go_wp2_with fail
    go_ret
    exact HP.out _ (Keep.draws _ _)
  have t3 : (ev.frm != (q : Int)) = true := by simpa using h3
  obtain ⟨fr, hfr⟩ : ∃ fr : Nat, ev.frm = fr := ⟨ev.frm.toNat, by omega⟩
  have hfn : fr < n2 := by omega
  have hzv := HK5.out.size
  have hgl := HV5.out.lt
  obtain ⟨bf, of_, cs, fs, hA9, hSf, hfs, ⟨Af, nf, cf, rfl, hsf⟩, -, hcf⟩ := HL.out.at_ hfn
  obtain ⟨ba, oa, fv, hA8, hSa, hfv, hca⟩ := HA.out.at_ encI_len hfn
  simp only [Option.some.injEq, Addr.mk.injEq, and_true] at hA9 hA8
  obtain ⟨rfl, rfl⟩ := hA9
  obtain ⟨rfl, rfl⟩ := hA8
  have hgd : at_.getD ev.frm.toNat 0 = fv := by rw [hfr]; exact getD_of hfv
  have hgf : l.getD ev.frm.toNat [] = fs := by rw [hfr]; exact getD_of hfs
  have hz9 := HS.out
  have y0 : ∀ wx, Keep v5 wx → wx.cell? ⟨b0, off0 + fr, none⟩ = some (.slice Af nf cf) := fun wx hx => ((Keep.trans HK5.out hx).cell (p := ⟨b0, off0 + fr, none⟩) (hz9 _ hSf)).trans (by have := hcf 0 _ rfl; simpa using this)
  have y1 : ∀ wx, Keep v5 wx → wx.cell? ⟨b1, off1 + fr, none⟩ = some (.int .i64 fv) := fun wx hx => ((Keep.trans HK5.out hx).cell (p := ⟨b1, off1 + fr, none⟩) (hz9 _ hSa)).trans (by have := hca 0 _ rfl; simpa using this)
  have z2 : ∀ wx, Keep v5 wx → wx.cell? ⟨g, 2, none⟩ = some (.int .i64 ev.frm) := fun wx hx => by rw [(hx.blk HV5.out hgl).cell]; rfl
  have z4 : ∀ wx, Keep v5 wx → wx.cell? ⟨g, 4, none⟩ = some (.int .i64 ev.sIdx) := fun wx hx => by rw [(hx.blk HV5.out hgl).cell]; rfl
  have hpr : possS l at_ q ev = (labS fs ev.sInc ev.sIdx && decide (ev.sIdx ≤ fv)) := by
    rw [HPS.out, hgd, hgf, t1, ← HNL.out, t2]
    simp [h3]
  have hfl : fs.length ≤ 1000000 := HLEN.out _ (List.mem_of_getElem? hfs)
  have hlb : ∀ u, Keep v5 u → Calls Try.prog 41 #[.slice Af nf cf, .agg #[.int .i64 ev.sInc, .int .i64 ev.sIdx]] u (BoolPost (labS fs ev.sInc ev.sIdx) u) := fun u hu =>
    labelled_any u S Af nf cf fs ev.sInc ev.sIdx (fun i hi => by have := hz9 i hi; have := hu.size; omega) (hsf.keep ((Keep.trans HK5.out hu).mono hz9)) (by rw [hsf.1]; exact hfl)
  have j0 : (0 : Int) ≤ ev.frm := by omega
  have j1 : ev.frm < (n2 : Int) := by omega
  have j2 : ev.frm.toNat = fr := by omega
  have HPR := Lib.hid hpr
  have HLB := Lib.hid hlb
  have HGD := Lib.hid hgd
  have HGF := Lib.hid hgf
  have H3 := Lib.hid h3
  have HFR := Lib.hid hfr
  have HZ9 := Lib.hid hz9
  clear hpr hlb hgd hgf h3 hfr hz9
  clear hcf hca hsf hfs hfv
  go_upto_region 4 with fail
  clear c0 c2
  refine wp_region_L 99 (fun _ => True) (fun wx => Keep v5 wx) (by kernel_rfl) trivial (Same.drew (Same.refl _ _)) (fun hA hB => ?_)
  generalize hu0 : v5.drew = u0 at hB ⊢
  clear hu0
  refine wpL_takeB (i := 0) (v := ?_) rfl (by kernel_rfl) (by kernel_rfl) (by kernel_rfl) (by decide) (fun _ _ _ h => h) (Or.inl ⟨by rfl, ?_⟩) (SAB.both hA hB) ?_
  rotate_left
  · intro wx hBx
    (try dsimp only at hBx)
    go_simp
    try with_reducible rfl
  try simp only [Act.put, List.setIfInBounds_toArray, List.set_cons_zero, List.set_cons_succ]
  refine wpL_takeB (i := 1) (v := ?_) rfl (by kernel_rfl) (by kernel_rfl) (by kernel_rfl) (by decide) (fun _ _ _ h => h) (Or.inl ⟨by rfl, ?_⟩) (SAB.both hA hB) ?_
  rotate_left
  · intro wx hBx
    (try dsimp only at hBx)
    go_simp
    try with_reducible rfl
  try simp only [Act.put, List.setIfInBounds_toArray, List.set_cons_zero, List.set_cons_succ]
  refine wpL_takeB (i := 2) (v := ?_) rfl (by kernel_rfl) (by kernel_rfl) (by kernel_rfl) (by decide) (fun _ _ _ h => h) (Or.inl ⟨by rfl, ?_⟩) (SAB.both hA hB) ?_
  rotate_left
  · intro wx hBx
    (try dsimp only at hBx)
    go_simp
    try with_reducible rfl
  try simp only [Act.put, List.setIfInBounds_toArray, List.set_cons_zero, List.set_cons_succ]
  refine wpL_takeB (i := 3) (v := ?_) rfl (by kernel_rfl) (by kernel_rfl) (by kernel_rfl) (by decide) (fun _ _ _ h => h) (Or.inl ⟨by rfl, ?_⟩) (SAB.both hA hB) ?_
  rotate_left
  · intro wx hBx
    (try dsimp only at hBx)
    go_simp
    try with_reducible rfl
  try simp only [Act.put, List.setIfInBounds_toArray, List.set_cons_zero, List.set_cons_succ]
  refine wpL_takeB (i := 4) (v := ?_) rfl (by kernel_rfl) (by kernel_rfl) (by kernel_rfl) (by decide) (fun _ _ _ h => h) (Or.inl ⟨by rfl, ?_⟩) (SAB.both hA hB) ?_
  rotate_left
  · intro wx hBx
    (try dsimp only at hBx)
    go_simp
    try with_reducible rfl
  try simp only [Act.put, List.setIfInBounds_toArray, List.set_cons_zero, List.set_cons_succ]
  refine wpL_takeB (i := 5) (v := ?_) rfl (by kernel_rfl) (by kernel_rfl) (by kernel_rfl) (by decide) (fun _ _ _ h => h) (Or.inl ⟨by rfl, ?_⟩) (SAB.both hA hB) ?_
  rotate_left
  · intro wx hBx
    (try dsimp only at hBx)
    go_simp
    try with_reducible rfl
  try simp only [Act.put, List.setIfInBounds_toArray, List.set_cons_zero, List.set_cons_succ]
  refine wpL_takeB (i := 6) (v := ?_) rfl (by kernel_rfl) (by kernel_rfl) (by kernel_rfl) (by decide) (fun _ _ _ h => h) (Or.inl ⟨by rfl, ?_⟩) (SAB.both hA hB) ?_
  rotate_left
  · intro wx hBx
    (try dsimp only at hBx)
    go_simp
    try with_reducible rfl
  try simp only [Act.put, List.setIfInBounds_toArray, List.set_cons_zero, List.set_cons_succ]
  refine wpL_takeB (i := 7) (v := ?_) rfl (by kernel_rfl) (by kernel_rfl) (by kernel_rfl) (by decide) (fun _ _ _ h => h) (Or.inl ⟨by rfl, ?_⟩) (SAB.both hA hB) ?_
  rotate_left
  · intro wx hBx
    (try dsimp only at hBx)
    go_simp
    try with_reducible rfl
  try simp only [Act.put, List.setIfInBounds_toArray, List.set_cons_zero, List.set_cons_succ]
  refine wpL_takeB (i := 8) (v := ?_) rfl (by kernel_rfl) (by kernel_rfl) (by kernel_rfl) (by decide) (fun _ _ _ h => h) (Or.inl ⟨by rfl, ?_⟩) (SAB.both hA hB) ?_
  rotate_left
  · intro wx hBx
    (try dsimp only at hBx)
    go_simp
    try with_reducible rfl
  try simp only [Act.put, List.setIfInBounds_toArray, List.set_cons_zero, List.set_cons_succ]
  refine wpL_takeB (i := 9) (v := ?_) rfl (by kernel_rfl) (by kernel_rfl) (by kernel_rfl) (by decide) (fun _ _ _ h => h) (Or.inl ⟨by rfl, ?_⟩) (SAB.both hA hB) ?_
  rotate_left
  · intro wx hBx
    (try dsimp only at hBx)
    go_simp
    try with_reducible rfl
  try simp only [Act.put, List.setIfInBounds_toArray, List.set_cons_zero, List.set_cons_succ]
  refine wpL_takeB (i := 10) (v := ?_) rfl (by kernel_rfl) (by kernel_rfl) (by kernel_rfl) (by decide) (fun _ _ _ h => h) (Or.inl ⟨by rfl, ?_⟩) (SAB.both hA hB) ?_
  rotate_left
  · intro wx hBx
    (try dsimp only at hBx)
    go_simp
    try with_reducible rfl
  try simp only [Act.put, List.setIfInBounds_toArray, List.set_cons_zero, List.set_cons_succ]
  refine wpL_takeB (i := 11) (v := ?_) rfl (by kernel_rfl) (by kernel_rfl) (by kernel_rfl) (by decide) (fun _ _ _ h => h) (Or.inl ⟨by rfl, ?_⟩) (SAB.both hA hB) ?_
  rotate_left
  · intro wx hBx
    (try dsimp only at hBx)
    go_simp
    try with_reducible rfl
  try simp only [Act.put, List.setIfInBounds_toArray, List.set_cons_zero, List.set_cons_succ]
  refine wpL_takeB (i := 12) (v := ?_) rfl (by kernel_rfl) (by kernel_rfl) (by kernel_rfl) (by decide) (fun _ _ _ h => h) (Or.inl ⟨by rfl, ?_⟩) (SAB.both hA hB) ?_
  rotate_left
  · intro wx hBx
    (try dsimp only at hBx)
    go_simp
    try with_reducible rfl
  try simp only [Act.put, List.setIfInBounds_toArray, List.set_cons_zero, List.set_cons_succ]
  refine wpL_takeB (i := 13) (v := ?_) rfl (by kernel_rfl) (by kernel_rfl) (by kernel_rfl) (by decide) (fun _ _ _ h => h) (Or.inl ⟨by rfl, ?_⟩) (SAB.both hA hB) ?_
  rotate_left
  · intro wx hBx
    (try dsimp only at hBx)
    go_simp
    try with_reducible rfl
  try simp only [Act.put, List.setIfInBounds_toArray, List.set_cons_zero, List.set_cons_succ]
  refine wpL_takeB (i := 14) (v := ?_) rfl (by kernel_rfl) (by kernel_rfl) (by kernel_rfl) (by decide) (fun _ _ _ h => h) (Or.inl ⟨by rfl, ?_⟩) (SAB.both hA hB) ?_
  rotate_left
  · intro wx hBx
    (try dsimp only at hBx)
    go_simp
    try with_reducible rfl
  try simp only [Act.put, List.setIfInBounds_toArray, List.set_cons_zero, List.set_cons_succ]
  refine wpL_takeB (i := 15) (v := ?_) rfl (by kernel_rfl) (by kernel_rfl) (by kernel_rfl) (by decide) (fun _ _ _ h => h) (Or.inl ⟨by rfl, ?_⟩) (SAB.both hA hB) ?_
  rotate_left
  · intro wx hBx
    (try dsimp only at hBx)
    go_simp
    try with_reducible rfl
  try simp only [Act.put, List.setIfInBounds_toArray, List.set_cons_zero, List.set_cons_succ]
  refine wpL_takeB (i := 16) (v := ?_) rfl (by kernel_rfl) (by kernel_rfl) (by kernel_rfl) (by decide) (fun _ _ _ h => h) (Or.inl ⟨by rfl, ?_⟩) (SAB.both hA hB) ?_
  rotate_left
  · intro wx hBx
    (try dsimp only at hBx)
    go_simp
    try with_reducible rfl
  try simp only [Act.put, List.setIfInBounds_toArray, List.set_cons_zero, List.set_cons_succ]
  refine wpL_takeB (i := 17) (v := ?_) rfl (by kernel_rfl) (by kernel_rfl) (by kernel_rfl) (by decide) (fun _ _ _ h => h) (Or.inl ⟨by rfl, ?_⟩) (SAB.both hA hB) ?_
  rotate_left
  · intro wx hBx
    (try dsimp only at hBx)
    go_simp
    try with_reducible rfl
  try simp only [Act.put, List.setIfInBounds_toArray, List.set_cons_zero, List.set_cons_succ]
  refine wpL_takeB (i := 18) (v := ?_) rfl (by kernel_rfl) (by kernel_rfl) (by kernel_rfl) (by decide) (fun _ _ _ h => h) (Or.inl ⟨by rfl, ?_⟩) (SAB.both hA hB) ?_
  rotate_left
  · intro wx hBx
    (try dsimp only at hBx)
    go_simp
    try with_reducible rfl
  try simp only [Act.put, List.setIfInBounds_toArray, List.set_cons_zero, List.set_cons_succ]
  refine wpL_takeB (i := 19) (v := ?_) rfl (by kernel_rfl) (by kernel_rfl) (by kernel_rfl) (by decide) (fun _ _ _ h => h) (Or.inl ⟨by rfl, ?_⟩) (SAB.both hA hB) ?_
  rotate_left
  · intro wx hBx
    (try dsimp only at hBx)
    go_simp
    try with_reducible rfl
  try simp only [Act.put, List.setIfInBounds_toArray, List.set_cons_zero, List.set_cons_succ]
  refine wpL_takeB (i := 20) (v := ?_) rfl (by kernel_rfl) (by kernel_rfl) (by kernel_rfl) (by decide) (fun _ _ _ h => h) (Or.inl ⟨by rfl, ?_⟩) (SAB.both hA hB) ?_
  rotate_left
  · intro wx hBx
    (try dsimp only at hBx)
    go_simp
    try with_reducible rfl
  try simp only [Act.put, List.setIfInBounds_toArray, List.set_cons_zero, List.set_cons_succ]
  refine wpL_takeB (i := 21) (v := ?_) rfl (by kernel_rfl) (by kernel_rfl) (by kernel_rfl) (by decide) (fun _ _ _ h => h) (Or.inl ⟨by rfl, ?_⟩) (SAB.both hA hB) ?_
  rotate_left
  · intro wx hBx
    (try dsimp only at hBx)
    go_simp
    try with_reducible rfl
  try simp only [Act.put, List.setIfInBounds_toArray, List.set_cons_zero, List.set_cons_succ]
  refine wpL_takeB (i := 22) (v := ?_) rfl (by kernel_rfl) (by kernel_rfl) (by kernel_rfl) (by decide) (fun _ _ _ h => h) (Or.inl ⟨by rfl, ?_⟩) (SAB.both hA hB) ?_
  rotate_left
  · intro wx hBx
    (try dsimp only at hBx)
    go_simp
    try with_reducible rfl
  try simp only [Act.put, List.setIfInBounds_toArray, List.set_cons_zero, List.set_cons_succ]
  refine wpL_takeB (i := 23) rfl (by kernel_rfl) (by kernel_rfl) (by kernel_rfl) (by decide) (fun _ _ _ h => h) (yieldsIf_load_mid (by rfl) _ _ rfl g 3 rfl [.int .i64 ev.sInc, .int .i64 ev.sIdx] _ (fun wx hx => fun i u hu => ((hx.blk HV5.out hgl).cell _).trans (by match i, hu with | 0, hu => exact hu | 1, hu => exact hu)) Try.underlying48 rfl (by kernel_rfl)) (SAB.both hA hB) ?_
  try simp only [Act.put, List.setIfInBounds_toArray, List.set_cons_zero, List.set_cons_succ]
  refine wpL_one (i := 24) (by kernel_rfl) (StepL.mk rfl (fun K hK => ?_))
  go_simp
  refine (HLB.out u0 hB).mono ?_
  rintro e9 u1 ⟨rfl, hk1⟩
  have hB1 := Keep.trans hB hk1
  refine hK.out _ _ (SAB.both trivial hB1) (fun hSS => ?_)
  clear hK K hA hB
  have hB := hSS.2
  have hA := hSS.1 (by kernel_rfl)
  (try dsimp only at hB); (try dsimp only at hA); clear hSS
  try simp only [Act.put, List.setIfInBounds_toArray, List.set_cons_zero, List.set_cons_succ]
  cases hlv : labS fs ev.sInc ev.sIdx with
  | false =>
    refine wpL_takeB (i := 25) (v := ?_) rfl (by kernel_rfl) (by kernel_rfl) (by kernel_rfl) (by decide) (fun _ _ _ h => h) (Or.inl ⟨by rfl, ?_⟩) (SAB.both hA hB) ?_
    rotate_left
    · intro wx hBx
      (try dsimp only at hBx)
      go_simp
      try with_reducible rfl
    try simp only [Act.put, List.setIfInBounds_toArray, List.set_cons_zero, List.set_cons_succ]
    refine wpL_takeB (i := 26) (v := ?_) rfl (by kernel_rfl) (by kernel_rfl) (by kernel_rfl) (by decide) (fun _ _ _ h => h) (Or.inl ⟨by rfl, ?_⟩) (SAB.both hA hB) ?_
    rotate_left
    · intro wx hBx
      (try dsimp only at hBx)
      go_simp
      try with_reducible rfl
    try simp only [Act.put, List.setIfInBounds_toArray, List.set_cons_zero, List.set_cons_succ]
    refine wpL_takeB (i := 27) (v := undef) rfl (by kernel_rfl) (by kernel_rfl) (by kernel_rfl) (by decide) (fun _ _ _ h => h) (Or.inr ⟨by rfl, rfl⟩) (SAB.both hA hB) ?_
    try simp only [Act.put, List.setIfInBounds_toArray, List.set_cons_zero, List.set_cons_succ]
    refine wpL_takeB (i := 28) (v := undef) rfl (by kernel_rfl) (by kernel_rfl) (by kernel_rfl) (by decide) (fun _ _ _ h => h) (Or.inr ⟨by rfl, rfl⟩) (SAB.both hA hB) ?_
    try simp only [Act.put, List.setIfInBounds_toArray, List.set_cons_zero, List.set_cons_succ]
    refine wpL_takeB (i := 29) (v := undef) rfl (by kernel_rfl) (by kernel_rfl) (by kernel_rfl) (by decide) (fun _ _ _ h => h) (Or.inr ⟨by rfl, rfl⟩) (SAB.both hA hB) ?_
    try simp only [Act.put, List.setIfInBounds_toArray, List.set_cons_zero, List.set_cons_succ]
    refine wpL_takeB (i := 30) (v := undef) rfl (by kernel_rfl) (by kernel_rfl) (by kernel_rfl) (by decide) (fun _ _ _ h => h) (Or.inr ⟨by rfl, rfl⟩) (SAB.both hA hB) ?_
    try simp only [Act.put, List.setIfInBounds_toArray, List.set_cons_zero, List.set_cons_succ]
    refine wpL_takeB (i := 31) (v := undef) rfl (by kernel_rfl) (by kernel_rfl) (by kernel_rfl) (by decide) (fun _ _ _ h => h) (Or.inr ⟨by rfl, rfl⟩) (SAB.both hA hB) ?_
    try simp only [Act.put, List.setIfInBounds_toArray, List.set_cons_zero, List.set_cons_succ]
    refine wpL_takeB (i := 32) (v := undef) rfl (by kernel_rfl) (by kernel_rfl) (by kernel_rfl) (by decide) (fun _ _ _ h => h) (Or.inr ⟨by rfl, rfl⟩) (SAB.both hA hB) ?_
    try simp only [Act.put, List.setIfInBounds_toArray, List.set_cons_zero, List.set_cons_succ]
    refine wpL_takeB (i := 33) (v := undef) rfl (by kernel_rfl) (by kernel_rfl) (by kernel_rfl) (by decide) (fun _ _ _ h => h) (Or.inr ⟨by rfl, rfl⟩) (SAB.both hA hB) ?_
    try simp only [Act.put, List.setIfInBounds_toArray, List.set_cons_zero, List.set_cons_succ]
    refine wpL_takeB (i := 34) (v := undef) rfl (by kernel_rfl) (by kernel_rfl) (by kernel_rfl) (by decide) (fun _ _ _ h => h) (Or.inr ⟨by rfl, rfl⟩) (SAB.both hA hB) ?_
    try simp only [Act.put, List.setIfInBounds_toArray, List.set_cons_zero, List.set_cons_succ]
    refine wpL_takeB (i := 35) (v := undef) rfl (by kernel_rfl) (by kernel_rfl) (by kernel_rfl) (by decide) (fun _ _ _ h => h) (Or.inr ⟨by rfl, rfl⟩) (SAB.both hA hB) ?_
    try simp only [Act.put, List.setIfInBounds_toArray, List.set_cons_zero, List.set_cons_succ]
    refine wpL_takeB (i := 36) (v := ?_) rfl (by kernel_rfl) (by kernel_rfl) (by kernel_rfl) (by decide) (fun _ _ _ h => h) (Or.inl ⟨by rfl, ?_⟩) (SAB.both hA hB) ?_
    rotate_left
    · intro wx hBx
      (try dsimp only at hBx)
      go_simp
      try with_reducible rfl
    try simp only [Act.put, List.setIfInBounds_toArray, List.set_cons_zero, List.set_cons_succ]
    refine wpL_takeB (i := 37) (v := ?_) rfl (by kernel_rfl) (by kernel_rfl) (by kernel_rfl) (by decide) (fun _ _ _ h => h) (Or.inl ⟨by rfl, ?_⟩) (SAB.both hA hB) ?_
    rotate_left
    · intro wx hBx
      (try dsimp only at hBx)
      go_simp
      try with_reducible rfl
    try simp only [Act.put, List.setIfInBounds_toArray, List.set_cons_zero, List.set_cons_succ]
    refine wpL_done (by kernel_rfl) ?_
    have hp := FIN.out false (by rw [HPR.out, hlv]; simp) _ hB1
    have HP := Lib.hid hp
    clear hp
    clear hA hB hB1 hk1 hlv y0 y1 z2 z4
    go_wp2_with fail
    go_ret
    exact HP.out
  | true =>
    have t5 : decide (ev.sIdx ≤ fv) = decide (ev.sIdx ≤ fv) := rfl
    refine wpL_takeB (i := 25) (v := ?_) rfl (by kernel_rfl) (by kernel_rfl) (by kernel_rfl) (by decide) (fun _ _ _ h => h) (Or.inl ⟨by rfl, ?_⟩) (SAB.both hA hB) ?_
    rotate_left
    · intro wx hBx
      (try dsimp only at hBx)
      go_simp
      try with_reducible rfl
    try simp only [Act.put, List.setIfInBounds_toArray, List.set_cons_zero, List.set_cons_succ]
    refine wpL_takeB (i := 26) (v := ?_) rfl (by kernel_rfl) (by kernel_rfl) (by kernel_rfl) (by decide) (fun _ _ _ h => h) (Or.inl ⟨by rfl, ?_⟩) (SAB.both hA hB) ?_
    rotate_left
    · intro wx hBx
      (try dsimp only at hBx)
      go_simp
      try with_reducible rfl
    try simp only [Act.put, List.setIfInBounds_toArray, List.set_cons_zero, List.set_cons_succ]
    refine wpL_takeB (i := 27) (v := ?_) rfl (by kernel_rfl) (by kernel_rfl) (by kernel_rfl) (by decide) (fun _ _ _ h => h) (Or.inl ⟨by rfl, ?_⟩) (SAB.both hA hB) ?_
    rotate_left
    · intro wx hBx
      (try dsimp only at hBx)
      go_simp
      try with_reducible rfl
    try simp only [Act.put, List.setIfInBounds_toArray, List.set_cons_zero, List.set_cons_succ]
    refine wpL_takeB (i := 28) (v := ?_) rfl (by kernel_rfl) (by kernel_rfl) (by kernel_rfl) (by decide) (fun _ _ _ h => h) (Or.inl ⟨by rfl, ?_⟩) (SAB.both hA hB) ?_
    rotate_left
    · intro wx hBx
      (try dsimp only at hBx)
      go_simp
      try with_reducible rfl
    try simp only [Act.put, List.setIfInBounds_toArray, List.set_cons_zero, List.set_cons_succ]
    refine wpL_takeB (i := 29) (v := ?_) rfl (by kernel_rfl) (by kernel_rfl) (by kernel_rfl) (by decide) (fun _ _ _ h => h) (Or.inl ⟨by rfl, ?_⟩) (SAB.both hA hB) ?_
    rotate_left
    · intro wx hBx
      (try dsimp only at hBx)
      go_simp
      try with_reducible rfl
    try simp only [Act.put, List.setIfInBounds_toArray, List.set_cons_zero, List.set_cons_succ]
    refine wpL_takeB (i := 30) (v := ?_) rfl (by kernel_rfl) (by kernel_rfl) (by kernel_rfl) (by decide) (fun _ _ _ h => h) (Or.inl ⟨by rfl, ?_⟩) (SAB.both hA hB) ?_
    rotate_left
    · intro wx hBx
      (try dsimp only at hBx)
      go_simp
      try with_reducible rfl
    try simp only [Act.put, List.setIfInBounds_toArray, List.set_cons_zero, List.set_cons_succ]
    refine wpL_takeB (i := 31) (v := ?_) rfl (by kernel_rfl) (by kernel_rfl) (by kernel_rfl) (by decide) (fun _ _ _ h => h) (Or.inl ⟨by rfl, ?_⟩) (SAB.both hA hB) ?_
    rotate_left
    · intro wx hBx
      (try dsimp only at hBx)
      go_simp
      try with_reducible rfl
    try simp only [Act.put, List.setIfInBounds_toArray, List.set_cons_zero, List.set_cons_succ]
    refine wpL_takeB (i := 32) (v := ?_) rfl (by kernel_rfl) (by kernel_rfl) (by kernel_rfl) (by decide) (fun _ _ _ h => h) (Or.inl ⟨by rfl, ?_⟩) (SAB.both hA hB) ?_
    rotate_left
    · intro wx hBx
      (try dsimp only at hBx)
      go_simp
      try with_reducible rfl
    try simp only [Act.put, List.setIfInBounds_toArray, List.set_cons_zero, List.set_cons_succ]
    refine wpL_takeB (i := 33) (v := ?_) rfl (by kernel_rfl) (by kernel_rfl) (by kernel_rfl) (by decide) (fun _ _ _ h => h) (Or.inl ⟨by rfl, ?_⟩) (SAB.both hA hB) ?_
    rotate_left
    · intro wx hBx
      (try dsimp only at hBx)
      go_simp
      try with_reducible rfl
    try simp only [Act.put, List.setIfInBounds_toArray, List.set_cons_zero, List.set_cons_succ]
    refine wpL_takeB (i := 34) (v := ?_) rfl (by kernel_rfl) (by kernel_rfl) (by kernel_rfl) (by decide) (fun _ _ _ h => h) (Or.inl ⟨by rfl, ?_⟩) (SAB.both hA hB) ?_
    rotate_left
    · intro wx hBx
      (try dsimp only at hBx)
      go_simp
      try with_reducible rfl
    try simp only [Act.put, List.setIfInBounds_toArray, List.set_cons_zero, List.set_cons_succ]
    refine wpL_takeB (i := 35) (v := ?_) rfl (by kernel_rfl) (by kernel_rfl) (by kernel_rfl) (by decide) (fun _ _ _ h => h) (Or.inl ⟨by rfl, ?_⟩) (SAB.both hA hB) ?_
    rotate_left
    · intro wx hBx
      (try dsimp only at hBx)
      go_simp
      try with_reducible rfl
    try simp only [Act.put, List.setIfInBounds_toArray, List.set_cons_zero, List.set_cons_succ]
    refine wpL_takeB (i := 36) (v := ?_) rfl (by kernel_rfl) (by kernel_rfl) (by kernel_rfl) (by decide) (fun _ _ _ h => h) (Or.inl ⟨by rfl, ?_⟩) (SAB.both hA hB) ?_
    rotate_left
    · intro wx hBx
      (try dsimp only at hBx)
      go_simp
      try with_reducible rfl
    try simp only [Act.put, List.setIfInBounds_toArray, List.set_cons_zero, List.set_cons_succ]
    refine wpL_takeB (i := 37) (v := ?_) rfl (by kernel_rfl) (by kernel_rfl) (by kernel_rfl) (by decide) (fun _ _ _ h => h) (Or.inl ⟨by rfl, ?_⟩) (SAB.both hA hB) ?_
    rotate_left
    · intro wx hBx
      (try dsimp only at hBx)
      go_simp
      try with_reducible rfl
    try simp only [Act.put, List.setIfInBounds_toArray, List.set_cons_zero, List.set_cons_succ]
    refine wpL_done (by kernel_rfl) ?_
    have hp := FIN.out (decide (ev.sIdx ≤ fv)) (by rw [HPR.out, hlv]; simp) _ hB1
    have HP := Lib.hid hp
    clear hp
    clear hA hB hB1 hk1 hlv y0 y1 z2 z4
    go_wp2_with fail
    go_ret
    exact HP.out
set_option maxHeartbeats 4000000 in
theorem chsame_any (w : World) (S T : Nat → Prop) (A A2 : Option Addr) (n n2 c c2 : Nat) (l l2 : List Chc) (hl : Sl encCh 6 w S A n c l) (hl2 : Sl encCh 6 w T A2 n2 c2 l2) (hn : n ≤ 1000000) (hn2 : n2 ≤ 1000000) :
    Calls Try.prog 18 #[.slice A n c, .slice A2 n2 c2] w (SameIs (l = l2) w) := by
  have hnl := hl.1
  have hnl2 := hl2.1
  by_cases hnn : n = n2
  case neg =>
    have hne : ¬ l = l2 := fun e => hnn (by rw [hnl, hnl2, e])
    have d0 : ((n : Int) != (n2 : Int)) = true := by simp; omega
    clear hl hl2 hnl hnl2
    have HNE := Lib.hid hne
    clear hne
    go_enter Try.func18, Try.ntmps18
    go_wp2_with fail
    go_ret
    exact ⟨false, by simpa using HNE.out, rfl, 0, rfl⟩
  subst hnn
  have HL := Lib.hid hl
  have HL2 := Lib.hid hl2
  have HNL := Lib.hid hnl
  have HNL2 := Lib.hid hnl2
  clear hl hl2 hnl hnl2
  go_enter Try.func18, Try.ntmps18
  go_wp2_with fail
  go_loopw [5] (fun i wr => SmRel l l2 n w i wr) (fun i _ => n - (intOf i).toNat)
  case atStart => exact ⟨0, 0, Nat.zero_le _, rfl, rfl, rfl⟩
  case round =>
    obtain ⟨k, m, hkn, rfl, htk, rfl⟩ := hrel
    by_cases hk : k < n
    · obtain ⟨b, off, d, rfl, _, hd, hcell⟩ := HL.out.at_ encCh_len hk
      obtain ⟨b2, off2, d2, rfl, _, hd2, hcell2⟩ := HL2.out.at_ encCh_len hk
      have hki : (0 : Int) ≤ (k : Int) := by omega
      have hki2 : (k : Int) < (n : Int) := by omega
      have hr1 : ∀ j, (w.drewN j).rangeAt b (off + k * 6) [.int .i64 d.proc, .int .i64 d.kind, .int .i64 d.frm, .int .i64 d.idx, .int .i64 d.ord, .int .i64 d.val] := fun j => hcell
      have hr2 : ∀ j, (w.drewN j).rangeAt b2 (off2 + k * 6) [.int .i64 d2.proc, .int .i64 d2.kind, .int .i64 d2.frm, .int .i64 d2.idx, .int .i64 d2.ord, .int .i64 d2.val] := fun j => hcell2
      clear hcell hcell2
      have hA : True := trivial
      have HD := Lib.hid hd
      have HD2 := Lib.hid hd2
      have HTK := Lib.hid htk
      have HR1 := Lib.hid hr1
      have HR2 := Lib.hid hr2
      clear hd hd2 htk hr1 hr2
      go_upto_region 6 with fail
      refine wp_region_L 99 (fun _ => True) (fun wx => ∃ j, wx = w.drewN j) (by kernel_rfl) trivial ⟨m + 1, rfl⟩ (fun _ hB => ?_)
      refine wpL_takeB (i := 0) (v := ?_) rfl (by kernel_rfl) (by kernel_rfl) (by kernel_rfl) (by decide) (fun _ _ _ h => h) (Or.inl ⟨by rfl, ?_⟩) (SAB.both hA hB) ?_
      rotate_left
      · intro wx hBx
        (try dsimp only at hBx)
        go_simp
        try with_reducible rfl
      try simp only [Act.put, List.setIfInBounds_toArray, List.set_cons_zero, List.set_cons_succ]
      refine wpL_takeB (i := 1) (v := ?_) rfl (by kernel_rfl) (by kernel_rfl) (by kernel_rfl) (by decide) (fun _ _ _ h => h) (Or.inl ⟨by rfl, ?_⟩) (SAB.both hA hB) ?_
      rotate_left
      · intro wx hBx
        (try dsimp only at hBx)
        go_simp
        try with_reducible rfl
      try simp only [Act.put, List.setIfInBounds_toArray, List.set_cons_zero, List.set_cons_succ]
      refine wpL_takeB (i := 2) (v := ?_) rfl (by kernel_rfl) (by kernel_rfl) (by kernel_rfl) (by decide) (fun _ _ _ h => h) (Or.inl ⟨by rfl, ?_⟩) (SAB.both hA hB) ?_
      rotate_left
      · intro wx hBx
        (try dsimp only at hBx)
        go_simp
        try with_reducible rfl
      try simp only [Act.put, List.setIfInBounds_toArray, List.set_cons_zero, List.set_cons_succ]
      refine wpL_takeB (i := 3) rfl (by kernel_rfl) (by kernel_rfl) (by kernel_rfl) (by decide) (fun _ _ _ h => h) (yieldsIf_load_mid (by rfl) _ _ rfl b (off + k * 6) rfl [.int .i64 d.proc, .int .i64 d.kind, .int .i64 d.frm, .int .i64 d.idx, .int .i64 d.ord, .int .i64 d.val] _ (fun wx hx => by obtain ⟨j, rfl⟩ := hx; exact HR1.out j) Try.underlying45 rfl (by kernel_rfl)) (SAB.both hA hB) ?_
      try simp only [Act.put, List.setIfInBounds_toArray, List.set_cons_zero, List.set_cons_succ]
      refine wpL_takeB (i := 4) (v := ?_) rfl (by kernel_rfl) (by kernel_rfl) (by kernel_rfl) (by decide) (fun _ _ _ h => h) (Or.inl ⟨by rfl, ?_⟩) (SAB.both hA hB) ?_
      rotate_left
      · intro wx hBx
        (try dsimp only at hBx)
        go_simp
        try with_reducible rfl
      try simp only [Act.put, List.setIfInBounds_toArray, List.set_cons_zero, List.set_cons_succ]
      refine wpL_takeB (i := 5) (v := ?_) rfl (by kernel_rfl) (by kernel_rfl) (by kernel_rfl) (by decide) (fun _ _ _ h => h) (Or.inl ⟨by rfl, ?_⟩) (SAB.both hA hB) ?_
      rotate_left
      · intro wx hBx
        (try dsimp only at hBx)
        go_simp
        try with_reducible rfl
      try simp only [Act.put, List.setIfInBounds_toArray, List.set_cons_zero, List.set_cons_succ]
      refine wpL_takeB (i := 6) (v := ?_) rfl (by kernel_rfl) (by kernel_rfl) (by kernel_rfl) (by decide) (fun _ _ _ h => h) (Or.inl ⟨by rfl, ?_⟩) (SAB.both hA hB) ?_
      rotate_left
      · intro wx hBx
        (try dsimp only at hBx)
        go_simp
        try with_reducible rfl
      try simp only [Act.put, List.setIfInBounds_toArray, List.set_cons_zero, List.set_cons_succ]
      refine wpL_takeB (i := 7) rfl (by kernel_rfl) (by kernel_rfl) (by kernel_rfl) (by decide) (fun _ _ _ h => h) (yieldsIf_load_mid (by rfl) _ _ rfl b2 (off2 + k * 6) rfl [.int .i64 d2.proc, .int .i64 d2.kind, .int .i64 d2.frm, .int .i64 d2.idx, .int .i64 d2.ord, .int .i64 d2.val] _ (fun wx hx => by obtain ⟨j, rfl⟩ := hx; exact HR2.out j) Try.underlying45 rfl (by kernel_rfl)) (SAB.both hA hB) ?_
      try simp only [Act.put, List.setIfInBounds_toArray, List.set_cons_zero, List.set_cons_succ]
      by_cases he : d = d2
      · subst he
        have ht2 := take_eq HTK.out HD.out HD2.out
        refine wpL_takeB (i := 8) rfl (by kernel_rfl) (by kernel_rfl) (by kernel_rfl) (by decide) (fun _ _ _ h => h) (yieldsIf_of (by rfl) (.bool false) (fun wx _ => by go_simp)) (SAB.both hA hB) ?_
        try simp only [Act.put, List.setIfInBounds_toArray, List.set_cons_zero, List.set_cons_succ]
        refine wpL_done (by kernel_rfl) ?_
        have HT2 := Lib.hid ht2
        clear ht2
        clear hA hB
        go_wp2_with fail
        go_roundw
        case rel => exact ⟨k + 1, m + 1, by omega, by go_num, HT2.out, rfl⟩
        case measure => simp [intOf]; omega
      · have hne := ne_at HD.out HD2.out he
        have himp : d.proc = d2.proc → d.kind = d2.kind → d.frm = d2.frm → d.idx = d2.idx → d.ord = d2.ord → ¬ d.val = d2.val := fun h0 h1 h2 h3 h4 h5 => he ((Chc_ext d d2).2 ⟨h0, h1, h2, h3, h4, h5⟩)
        refine wpL_takeB (i := 8) rfl (by kernel_rfl) (by kernel_rfl) (by kernel_rfl) (by decide) (fun _ _ _ h => h) (yieldsIf_of (by rfl) (.bool true) (fun wx _ => by go_simp; exact himp)) (SAB.both hA hB) ?_
        try simp only [Act.put, List.setIfInBounds_toArray, List.set_cons_zero, List.set_cons_succ]
        refine wpL_done (by kernel_rfl) ?_
        have HNE := Lib.hid hne
        clear hne
        clear hA hB he himp
        go_wp2_with fail
        go_ret
        exact ⟨false, by simpa using HNE.out, rfl, m + 1, rfl⟩
    · have hkl : l = l2 := by
        rw [List.take_of_length_le (by have := HNL.out; omega), List.take_of_length_le (by have := HNL2.out; omega)] at htk
        exact htk
      have HTK := Lib.hid htk
      have HKL := Lib.hid hkl
      clear htk hkl
      go_wp2_with fail
      go_ret
      exact ⟨true, by simpa using HKL.out, rfl, m, rfl⟩
end Go.Proofs.Ytcfpkmfppgodmaa
