/- The interpreter's machine: statement. -/
import Derived.Test.YthmepnpjagpcnaaMach5
set_option linter.unusedVariables false
set_option linter.unusedSimpArgs false
set_option maxRecDepth 100000
namespace Go.Proofs.Ythmepnpjagpcnaa
open Go.RowKit Go.Proofs

theorem mach_cells {w : World} {base g : Nat} {v : EnvS} {m : Ms} (h : Mach w base g v m) : w.cell? ⟨g, 3, none⟩ = some (.int .i64 v.self) ∧ w.cell? ⟨g, 4, none⟩ = some (.int .i64 v.procs) ∧ g < w.heap.size ∧ base ≤ g ∧ w.cell? ⟨g, 2, none⟩ = some (.int .i64 m.fuel) := by
  obtain ⟨C, E, hb, hc, hE, h1, h2, h3, h4⟩ := h
  exact ⟨by rw [hb.cell]; rfl, by rw [hb.cell]; rfl, hb.lt, h1, by rw [hb.cell]; rfl⟩
def LoopRel (base g : Nat) (v : EnvS) (s : Stm) (m : Ms) (w : World) (wr : World) : Prop :=
  ∃ m', (∀ r, Exec v (.loop s) m' r → Exec v (.loop s) m r) ∧ Mach wr base g v m' ∧ Same (· < base) w wr ∧ Fit m m'
def fuelAt (g : Nat) (w : World) : Nat := match w.cell? ⟨g, 2, none⟩ with | some (.int _ f) => f.toNat | _ => 0
theorem fuelAt_of {w : World} {base g : Nat} {v : EnvS} {m : Ms} (h : Mach w base g v m) : fuelAt g w = m.fuel := by
  unfold fuelAt
  rw [(mach_cells h).2.2.2.2]
  simp
set_option maxHeartbeats 16000000 in
theorem statement_any (n : Nat) (hls : ListSaid n) : StmtSaid (n + 1) := by
  intro w base g v m S b off s hS hbz hat hm hf h8
  obtain ⟨hSb, cs, hR, hcell⟩ := hat
  obtain ⟨kind, name, slot, size, place, value, body, els, o1, x1, n1, l1, z1, B1, p1, q1, o2, x2, n2, l2, z2, B2, p2, q2, A6, A7, m6, c6, m7, c7, hse, rfl, hpl, hva, hbo, hel⟩ := StmR.open_ hR
  have hbb := hS b hSb
  have c0 : ∀ wx, Same (· < base) w wx → wx.cell? ⟨b, off, none⟩ = some (.int .i64 kind) := fun wx hx => (hx.cell (p := ⟨b, off, none⟩) hbb).trans (hcell 0 _ rfl)
  have c2 : ∀ wx, Same (· < base) w wx → wx.cell? ⟨b, off + 2, none⟩ = some (.int .i64 slot) := fun wx hx => (hx.cell (p := ⟨b, off + 2, none⟩) hbb).trans (hcell 2 _ rfl)
  have c3 : ∀ wx, Same (· < base) w wx → wx.cell? ⟨b, off + 3, none⟩ = some (.int .i64 size) := fun wx hx => (hx.cell (p := ⟨b, off + 3, none⟩) hbb).trans (hcell 3 _ rfl)
  have c16 : ∀ wx, Same (· < base) w wx → wx.cell? ⟨b, off + 16, none⟩ = some (.slice A6 m6 c6) := fun wx hx => (hx.cell (p := ⟨b, off + 16, none⟩) hbb).trans (hcell 16 _ rfl)
  have c17 : ∀ wx, Same (· < base) w wx → wx.cell? ⟨b, off + 17, none⟩ = some (.slice A7 m7 c7) := fun wx hx => (hx.cell (p := ⟨b, off + 17, none⟩) hbb).trans (hcell 17 _ rfl)
  have eP : ∀ wx, Same (· < base) w wx → ExAt wx S 5 b (off + 4) place := fun wx hx => ExAt.keep ⟨hSb, _, hpl, fun j u hu => by
    have hj : j < 6 := (List.getElem?_eq_some_iff.1 hu).1
    rw [Nat.add_assoc]
    exact hcell (4 + j) u (by match j, hj with | 0, _ | 1, _ | 2, _ | 3, _ | 4, _ | 5, _ => exact hu)⟩ (hx.mono hS)
  have eV : ∀ wx, Same (· < base) w wx → ExAt wx S 5 b (off + 10) value := fun wx hx => ExAt.keep ⟨hSb, _, hva, fun j u hu => by
    have hj : j < 6 := (List.getElem?_eq_some_iff.1 hu).1
    rw [Nat.add_assoc]
    exact hcell (10 + j) u (by match j, hj with | 0, _ | 1, _ | 2, _ | 3, _ | 4, _ | 5, _ => exact hu)⟩ (hx.mono hS)
  have eB : ∀ wx, Same (· < base) w wx → SlR wx S 18 (StmR wx S n) A6 m6 c6 body := fun wx hx => hbo.keep (hx.mono hS) (StmR.keep (hx.mono hS) _)
  have eE : ∀ wx, Same (· < base) w wx → SlR wx S 18 (StmR wx S n) A7 m7 c7 els := fun wx hx => hel.keep (hx.mono hS) (StmR.keep (hx.mono hS) _)
  have slt : ∀ wx, Same (· < base) w wx → ∀ i, S i → i < wx.heap.size := fun wx hx i hi => Nat.lt_of_lt_of_le (hS i hi) (Nat.le_trans hbz hx.size)
  have key : ∀ (wx : World) (m' : Ms) (place : Ex) (o : Nat), Same (· < base) w wx → Mach wx base g v m' → ExAt wx S 5 b (off + o) place → Calls Try.prog 74 #[.pointer (some ⟨g, 0, none⟩), .pointer (some ⟨b, off + o, none⟩)] wx (ApplyPost (valS m'.cells v 5 place) wx) := fun wx m' place o hx hm' he => mvalue_any wx base g v m' S b (off + o) place (slt wx hx) hm' he
  have keyL : ∀ (wx : World) (m' : Ms) (A : Option Addr) (k c : Nat) (l : List Stm), Same (· < base) w wx → Mach wx base g v m' → SlR wx S 18 (StmR wx S n) A k c l → Fit m m' → Calls Try.prog 70 #[.pointer (some ⟨g, 0, none⟩), .slice A k c] wx (ExPost base g v (.list l) m' wx) := fun wx m' A k c l hx hm' he hft => hls wx base g v m' S A k c l hS (Nat.le_trans hbz hx.size) he hm' (Nat.le_trans hft.2.2 hf) (hft.2.1 h8)
  have keep : ∀ (wx wy : World), Same (· < base) w wx → Keep wx wy → Same (· < base) w wy := fun wx wy hx hk => Same.trans hx hk (fun i hi => Nat.lt_of_lt_of_le hi (Nat.le_trans hbz hx.size))
  have hmc := mach_cells hm
  have hg0 : base ≤ g := hmc.2.2.2.1
  clear hcell hR hpl hva hbo hel hmc
  subst hse
  have HS := Lib.hid hS
  have C0 := Lib.hid c0
  have C2 := Lib.hid c2
  have C3 := Lib.hid c3
  have C16 := Lib.hid c16
  have C17 := Lib.hid c17
  have EP := Lib.hid eP
  have EV := Lib.hid eV
  have EB := Lib.hid eB
  have EE := Lib.hid eE
  have SLT := Lib.hid slt
  have KEY := Lib.hid key
  have KEYL := Lib.hid keyL
  have KEEP := Lib.hid keep
  have HLS := Lib.hid hls
  have H8 := Lib.hid h8
  clear hS c0 c2 c3 c16 c17 eP eV eB eE slt key keyL keep hls h8
  go_enter Try.func71, Try.ntmps71
  go_wp2_with fail
  refine (mspend_any w base g v m hm (by omega)).mono ?_
  rintro e w1 (⟨hf0, rfl, hm1, hs1⟩ | ⟨hf0, rfl, hm1, hs1⟩)
  case inr =>
    go_wp2_with fail
    exact ⟨rfl, .inr ⟨m, .empty hf0, rfl, hm1, hs1⟩⟩
  have k0 := C0.out w1 hs1
  have fit1 := Fit.pay m
  have h81 : m.pay.effs.length ≤ 8 := H8.out
  have HM1 := Lib.hid hm1
  have HS1 := Lib.hid hs1
  have FIT1 := Lib.hid fit1
  have H81 := Lib.hid h81
  clear hm1 hs1 fit1 h81
  by_cases hk1 : kind = 1
  · subst hk1
    as_aux_lemma =>
    have e2 : ∀ wx, Same (· < base) w1 wx → wx.cell? ⟨b, off + 2, none⟩ = some (.int .i64 slot) := fun wx hx => C2.out wx (Same.trans HS1.out hx (fun _ h => h))
    have hA : True := trivial
    go_upto_region 3 with fail
    refine wp_region_L 99 (fun _ => True) (fun wx => Same (· < base) w1 wx) (by kernel_rfl) trivial (Same.drew (Same.refl _ _)) (fun _ hB => ?_)
    refine wpL_takeB (i := 0) (v := ?_) rfl (by kernel_rfl) (by kernel_rfl) (by kernel_rfl) (by decide) (fun _ _ _ h => h) (Or.inl ⟨by rfl, ?_⟩) (SAB.both hA hB) ?_
    rotate_left
    · intro wx hBx
      (try dsimp only at hBx)
      go_simp
      try with_reducible rfl
    try simp only [Act.put, List.setIfInBounds_toArray, List.set_cons_zero, List.set_cons_succ]
    refine wpL_takeB (i := 1) (v := ?_) rfl (by kernel_rfl) (by kernel_rfl) (by kernel_rfl) (by decide) (fun _ _ _ h => h) (Or.inl ⟨by rfl, ?_⟩) (SAB.both hA hB) ?_
    rotate_left
    · intro wx hBx
      (try dsimp only at hBx)
      go_simp
      try with_reducible rfl
    try simp only [Act.put, List.setIfInBounds_toArray, List.set_cons_zero, List.set_cons_succ]
    refine wpL_takeB (i := 2) (v := ?_) rfl (by kernel_rfl) (by kernel_rfl) (by kernel_rfl) (by decide) (fun _ _ _ h => h) (Or.inl ⟨by rfl, ?_⟩) (SAB.both hA hB) ?_
    rotate_left
    · intro wx hBx
      (try dsimp only at hBx)
      go_simp
      try with_reducible rfl
    try simp only [Act.put, List.setIfInBounds_toArray, List.set_cons_zero, List.set_cons_succ]
    refine wpL_takeB (i := 3) (v := ?_) rfl (by kernel_rfl) (by kernel_rfl) (by kernel_rfl) (by decide) (fun _ _ _ h => h) (Or.inl ⟨by rfl, ?_⟩) (SAB.both hA hB) ?_
    rotate_left
    · intro wx hBx
      (try dsimp only at hBx)
      go_simp
      try with_reducible rfl
    try simp only [Act.put, List.setIfInBounds_toArray, List.set_cons_zero, List.set_cons_succ]
    refine wpL_takeB (i := 4) (v := ?_) rfl (by kernel_rfl) (by kernel_rfl) (by kernel_rfl) (by decide) (fun _ _ _ h => h) (Or.inl ⟨by rfl, ?_⟩) (SAB.both hA hB) ?_
    rotate_left
    · intro wx hBx
      (try dsimp only at hBx)
      go_simp
      try with_reducible rfl
    try simp only [Act.put, List.setIfInBounds_toArray, List.set_cons_zero, List.set_cons_succ]
    refine wpL_takeB (i := 5) (v := ?_) rfl (by kernel_rfl) (by kernel_rfl) (by kernel_rfl) (by decide) (fun _ _ _ h => h) (Or.inl ⟨by rfl, ?_⟩) (SAB.both hA hB) ?_
    rotate_left
    · intro wx hBx
      (try dsimp only at hBx)
      go_simp
      try with_reducible rfl
    try simp only [Act.put, List.setIfInBounds_toArray, List.set_cons_zero, List.set_cons_succ]
    refine wpL_takeB (i := 6) (v := ?_) rfl (by kernel_rfl) (by kernel_rfl) (by kernel_rfl) (by decide) (fun _ _ _ h => h) (Or.inl ⟨by rfl, ?_⟩) (SAB.both hA hB) ?_
    rotate_left
    · intro wx hBx
      (try dsimp only at hBx)
      go_simp
      try with_reducible rfl
    try simp only [Act.put, List.setIfInBounds_toArray, List.set_cons_zero, List.set_cons_succ]
    refine wpL_takeB (i := 7) (v := ?_) rfl (by kernel_rfl) (by kernel_rfl) (by kernel_rfl) (by decide) (fun _ _ _ h => h) (Or.inl ⟨by rfl, ?_⟩) (SAB.both hA hB) ?_
    rotate_left
    · intro wx hBx
      (try dsimp only at hBx)
      go_simp
      try with_reducible rfl
    try simp only [Act.put, List.setIfInBounds_toArray, List.set_cons_zero, List.set_cons_succ]
    refine wpL_takeB (i := 8) (v := ?_) rfl (by kernel_rfl) (by kernel_rfl) (by kernel_rfl) (by decide) (fun _ _ _ h => h) (Or.inl ⟨by rfl, ?_⟩) (SAB.both hA hB) ?_
    rotate_left
    · intro wx hBx
      (try dsimp only at hBx)
      go_simp
      try with_reducible rfl
    try simp only [Act.put, List.setIfInBounds_toArray, List.set_cons_zero, List.set_cons_succ]
    clear e2
    refine wpL_one (i := 9) (by kernel_rfl) (StepL.mk rfl (fun K hK => ?_))
    go_simp
    refine (KEY.out w1.drew m.pay value 10 (Same.drew HS1.out) (HM1.out.keep (Keep.draws _ 1)) (EV.out _ (Same.drew HS1.out))).mono ?_
    rintro e w2 ⟨rfl, hk2⟩
    have hs2 : Same (· < base) w w2 := KEEP.out _ _ (Same.drew HS1.out) hk2
    have hs2' : Same (· < base) w1 w2 := Same.trans (Same.drew (Same.refl _ _)) hk2 (fun i hi => Nat.lt_of_lt_of_le hi (Nat.le_trans hbz HS1.out.size))
    have hm2 := (HM1.out.keep (Keep.draws _ 1)).keep hk2
    refine hK.out _ _ (SAB.both trivial hs2') (fun hSS => ?_)
    clear hK K hA hB
    have hB := hSS.2
    have hA := hSS.1 (by kernel_rfl)
    (try dsimp only at hB); (try dsimp only at hA); clear hSS
    try simp only [Act.put, List.setIfInBounds_toArray, List.set_cons_zero, List.set_cons_succ]
    refine wpL_one (i := 10) (by kernel_rfl) (StepL.mk rfl (fun K hK => ?_))
    go_simp
    refine (set_any w2 base g v m.pay slot _ hm2).mono ?_
    rintro e w3 ⟨rfl, hm3, hs3⟩
    have hs3' := Same.trans hs2 hs3 (fun _ h => h)
    refine hK.out _ _ (SAB.both trivial (Same.trans hs2' hs3 (fun _ h => h))) (fun hSS => ?_)
    clear hK K hA hB
    have hB := hSS.2
    have hA := hSS.1 (by kernel_rfl)
    (try dsimp only at hB); (try dsimp only at hA); clear hSS
    try simp only [Act.put, List.setIfInBounds_toArray, List.set_cons_zero, List.set_cons_succ]
    refine wpL_done (by kernel_rfl) ?_
    have HM3 := Lib.hid hm3
    have HS3' := Lib.hid hs3'
    clear hm3 hs3'
    clear hs3 hs2 hs2' hm2 hk2 hB hA
    go_wp2_with fail
    refine bodyPost_end (results_none Try.results71 _ _ _) rfl (.inl ⟨_, .simple hf0 (by simp [Stm.kind]) (by simp [Stm.kind]), rfl, ?_, HS3'.out⟩)
    exact HM3.out
  have a1 : (kind == 1) = false := by simpa using hk1
  by_cases hk2 : kind = 2
  · subst hk2
    as_aux_lemma =>
    go_wp2_with fail
    refine (KEY.out w1 m.pay place 4 HS1.out HM1.out (EP.out _ HS1.out)).mono ?_
    rintro e w2 ⟨rfl, hk2⟩
    have hs2 : Same (· < base) w w2 := KEEP.out _ _ HS1.out hk2
    have hm2 := HM1.out.keep hk2
    generalize hvp : valS m.pay.cells v 5 place = vp
    clear hk2
    have HS2 := Lib.hid hs2
    have HM2 := Lib.hid hm2
    have HVP := Lib.hid hvp
    clear hs2 hm2 hvp
    go_wp2_with fail
    refine (KEY.out w2 m.pay value 10 HS2.out HM2.out (EV.out _ HS2.out)).mono ?_
    rintro e w3 ⟨rfl, hk3⟩
    have hs3 : Same (· < base) w w3 := KEEP.out _ _ HS2.out hk3
    have hm3 := HM2.out.keep hk3
    have e2 := C2.out w3 hs3
    have e3 := C3.out w3 hs3
    generalize hvv : valS m.pay.cells v 5 value = vv
    clear hk3
    have HS3 := Lib.hid hs3
    have HM3 := Lib.hid hm3
    have HVV := Lib.hid hvv
    clear hs3 hm3 hvv
    by_cases hr : 0 ≤ vp ∧ vp < size
    · obtain ⟨hr1, hr2⟩ := hr
      have hsim : simpleS v (.mk 2 name slot size place value body els) m.pay = m.pay.set (wrap64 (slot + vp)) vv := by
        show (if _ then _ else _) = _
        rw [if_neg (by simp [Stm.kind]), if_pos (by simp [Stm.kind]), if_pos (by simp only [Stm.place, Stm.size]; rw [HVP.out]; exact ⟨hr1, hr2⟩)]
        simp only [Stm.place, Stm.slot, Stm.value]
        rw [HVP.out, HVV.out]
      have HSIM := Lib.hid hsim
      clear hsim
      go_wp2_with fail
      refine (set_any w3 base g v m.pay (wrap64 (slot + vp)) vv HM3.out).mono ?_
      rintro e w4 ⟨rfl, hm4, hs4⟩
      have hs4' := Same.trans HS3.out hs4 (fun _ h => h)
      rw [← HSIM.out] at hm4
      have HM4 := Lib.hid hm4
      have HS4' := Lib.hid hs4'
      clear hm4 hs4'
      clear hs4
      go_wp2_with fail
      exact bodyPost_end (results_none Try.results71 _ _ _) rfl (.inl ⟨_, .simple hf0 (by simp [Stm.kind]) (by simp [Stm.kind]), rfl, HM4.out, HS4'.out⟩)
    · have hsim : simpleS v (.mk 2 name slot size place value body els) m.pay = m.pay := by
        show (if _ then _ else _) = _
        rw [if_neg (by simp [Stm.kind]), if_pos (by simp [Stm.kind]), if_neg (by simp only [Stm.place, Stm.size]; rw [HVP.out]; exact hr)]
      have hm4 := HM3.out
      rw [← hsim] at hm4
      have HSIM := Lib.hid hsim
      have HM4 := Lib.hid hm4
      clear hsim hm4
      by_cases hr1 : 0 ≤ vp
      · have hr2 : ¬ vp < size := fun h => hr ⟨hr1, h⟩
        clear hr
        go_wp2_with fail
        exact bodyPost_end (results_none Try.results71 _ _ _) rfl (.inl ⟨_, .simple hf0 (by simp [Stm.kind]) (by simp [Stm.kind]), rfl, HM4.out, HS3.out⟩)
      · clear hr
        go_wp2_with fail
        exact bodyPost_end (results_none Try.results71 _ _ _) rfl (.inl ⟨_, .simple hf0 (by simp [Stm.kind]) (by simp [Stm.kind]), rfl, HM4.out, HS3.out⟩)
  have a2 : (kind == 2) = false := by simpa using hk2
  by_cases hk3 : kind = 3
  · subst hk3
    as_aux_lemma =>
    go_wp2_with fail
    refine (KEY.out w1 m.pay value 10 HS1.out HM1.out (EV.out _ HS1.out)).mono ?_
    rintro e w2 ⟨rfl, hk2⟩
    have hs2 : Same (· < base) w w2 := KEEP.out _ _ HS1.out hk2
    have hm2 := HM1.out.keep hk2
    have e16 := C16.out w2 hs2
    have e17 := C17.out w2 hs2
    clear hk2
    generalize hvv : valS m.pay.cells v 5 value = vv
    have HS2 := Lib.hid hs2
    have HM2 := Lib.hid hm2
    have HVV := Lib.hid hvv
    clear hs2 hm2 hvv
    cases hz : (vv != 0) with
    | true =>
      have hne : ¬ vv = 0 := by simpa using hz
      have hpick : (if valS m.cells v 5 (Stm.value (.mk 3 name slot size place value body els)) = 0 then Stm.els (.mk 3 name slot size place value body els) else Stm.body (.mk 3 name slot size place value body els)) = body := by
        rw [if_neg (by simp only [Stm.value]; exact fun h => hne (by rw [← HVV.out]; exact h))]; rfl
      have HPICK := Lib.hid hpick
      clear hpick
      clear hne
      go_wp2_with fail
      refine (KEYL.out w2 m.pay A6 m6 c6 body HS2.out HM2.out (EB.out _ HS2.out) FIT1.out).mono ?_
      rintro e w3 (⟨m3, hx3, rfl, hm3, hs3⟩ | ⟨m3, hx3, rfl, hm3, hs3⟩)
      · have hs3' := Same.trans HS2.out hs3 (fun _ h => h)
        have hx : Exec v (.stm (.mk 3 name slot size place value body els)) m (.done m3) := .ifE hf0 rfl (by rw [HPICK.out]; exact hx3)
        have HM3 := Lib.hid hm3
        have HS3' := Lib.hid hs3'
        have HX := Lib.hid hx
        clear hm3 hs3' hx
        clear hs3 hx3
        go_wp2_with fail
        exact bodyPost_end (results_none Try.results71 _ _ _) rfl (.inl ⟨_, HX.out, rfl, HM3.out, HS3'.out⟩)
      · have hs3' := Same.trans HS2.out hs3 (fun _ h => h)
        have hx : Exec v (.stm (.mk 3 name slot size place value body els)) m (.dead m3) := .ifE hf0 rfl (by rw [HPICK.out]; exact hx3)
        have HM3 := Lib.hid hm3
        have HS3' := Lib.hid hs3'
        have HX := Lib.hid hx
        clear hm3 hs3' hx
        clear hs3 hx3
        go_wp2_with fail
        exact ⟨rfl, .inr ⟨_, HX.out, rfl, HM3.out, HS3'.out⟩⟩
    | false =>
      have hne : vv = 0 := by simpa using hz
      have hpick : (if valS m.cells v 5 (Stm.value (.mk 3 name slot size place value body els)) = 0 then Stm.els (.mk 3 name slot size place value body els) else Stm.body (.mk 3 name slot size place value body els)) = els := by
        rw [if_pos (by simp only [Stm.value]; rw [← hne, ← HVV.out]; rfl)]; rfl
      have HPICK := Lib.hid hpick
      clear hpick
      clear hne
      go_wp2_with fail
      refine (KEYL.out w2 m.pay A7 m7 c7 els HS2.out HM2.out (EE.out _ HS2.out) FIT1.out).mono ?_
      rintro e w3 (⟨m3, hx3, rfl, hm3, hs3⟩ | ⟨m3, hx3, rfl, hm3, hs3⟩)
      · have hs3' := Same.trans HS2.out hs3 (fun _ h => h)
        have hx : Exec v (.stm (.mk 3 name slot size place value body els)) m (.done m3) := .ifE hf0 rfl (by rw [HPICK.out]; exact hx3)
        have HM3 := Lib.hid hm3
        have HS3' := Lib.hid hs3'
        have HX := Lib.hid hx
        clear hm3 hs3' hx
        clear hs3 hx3
        go_wp2_with fail
        exact bodyPost_end (results_none Try.results71 _ _ _) rfl (.inl ⟨_, HX.out, rfl, HM3.out, HS3'.out⟩)
      · have hs3' := Same.trans HS2.out hs3 (fun _ h => h)
        have hx : Exec v (.stm (.mk 3 name slot size place value body els)) m (.dead m3) := .ifE hf0 rfl (by rw [HPICK.out]; exact hx3)
        have HM3 := Lib.hid hm3
        have HS3' := Lib.hid hs3'
        have HX := Lib.hid hx
        clear hm3 hs3' hx
        clear hs3 hx3
        go_wp2_with fail
        exact ⟨rfl, .inr ⟨_, HX.out, rfl, HM3.out, HS3'.out⟩⟩
  have a3 : (kind == 3) = false := by simpa using hk3
  by_cases hk4 : kind = 4
  · subst hk4
    as_aux_lemma =>
    go_wp2_with fail
    go_loopw [] (fun wr => LoopRel base g v (.mk 4 name slot size place value body els) m.pay w wr) (fun wr => fuelAt g wr)
    case atStart => exact ⟨m.pay, fun r h => h, HM1.out, HS1.out, Fit.refl _⟩
    case round =>
      obtain ⟨m', hex, hmr, hsr, hfr⟩ := hrel
      have HEX := Lib.hid hex
      have HMR := Lib.hid hmr
      have HSR := Lib.hid hsr
      have HFR := Lib.hid hfr
      clear hex hmr hsr hfr
      go_wp2_with fail
      refine (KEY.out wr m' value 10 HSR.out HMR.out (EV.out _ HSR.out)).mono ?_
      rintro e w2 ⟨rfl, hk2⟩
      have hs2 : Same (· < base) w w2 := KEEP.out _ _ HSR.out hk2
      have hm2 := HMR.out.keep hk2
      have e16 := C16.out w2 hs2
      clear hk2
      generalize hvv : valS m'.cells v 5 value = vv
      have HS2 := Lib.hid hs2
      have HM2 := Lib.hid hm2
      have HVV := Lib.hid hvv
      clear hs2 hm2 hvv
      cases hz : (vv != 0) with
      | true =>
        have hne : valS m'.cells v 5 (Stm.value (.mk 4 name slot size place value body els)) ≠ 0 := by
          have : ¬ vv = 0 := by simpa using hz
          simp only [Stm.value]
          rw [HVV.out]
          exact this
        have HNE := Lib.hid hne
        clear hne
        go_wp2_with fail
        refine (KEYL.out w2 m' A6 m6 c6 body HS2.out HM2.out (EB.out _ HS2.out) (FIT1.out.trans HFR.out)).mono ?_
        rintro e w3 (⟨m3, hx3, rfl, hm3, hs3⟩ | ⟨m3, hx3, rfl, hm3, hs3⟩)
        · have hs3' := Same.trans HS2.out hs3 (fun _ h => h)
          have hfit3 := hx3.fit
          have hf3 : m3.fuel ≤ 1000 := by have := hfit3.2.2; have h2 := HFR.out.2.2; have h3 := FIT1.out.2.2; simp only [Res.st] at this; omega
          have HM3 := Lib.hid hm3
          have HS3' := Lib.hid hs3'
          have HX3 := Lib.hid hx3
          have HFIT3 := Lib.hid hfit3
          clear hm3 hs3' hx3 hfit3
          clear hs3
          go_wp2_with fail
          refine (mspend_any w3 base g v m3 HM3.out hf3).mono ?_
          rintro e w4 (⟨hf4, rfl, hm4, hs4⟩ | ⟨hf4, rfl, hm4, hs4⟩)
          · have hs4' := Same.trans HS3'.out hs4 (fun _ h => h)
            have HM4 := Lib.hid hm4
            have HS4' := Lib.hid hs4'
            clear hm4 hs4'
            clear hs4
            go_wp2_with fail
            go_roundw
            case rel => exact ⟨m3.pay, fun r h => HEX.out r (.again HNE.out HX3.out hf4 h), HM4.out, HS4'.out, (HFR.out.trans HFIT3.out).trans (Fit.pay _)⟩
            case measure =>
              rw [fuelAt_of HM4.out, fuelAt_of HMR.out]
              have := HFIT3.out.2.2
              simp only [Res.st] at this
              simp only [Ms.pay]
              omega
          · have hs4' := Same.trans HS3'.out hs4 (fun _ h => h)
            have hx : Exec v (.stm (.mk 4 name slot size place value body els)) m (.dead m3) := .whileE hf0 rfl (HEX.out _ (.out HNE.out HX3.out hf4))
            have HM4 := Lib.hid hm4
            have HS4' := Lib.hid hs4'
            have HX := Lib.hid hx
            clear hm4 hs4' hx
            clear hs4
            go_wp2_with fail
            exact ⟨rfl, .inr ⟨_, HX.out, rfl, HM4.out, HS4'.out⟩⟩
        · have hs3' := Same.trans HS2.out hs3 (fun _ h => h)
          have hx : Exec v (.stm (.mk 4 name slot size place value body els)) m (.dead m3) := .whileE hf0 rfl (HEX.out _ (.bodyDead HNE.out hx3))
          have HM3 := Lib.hid hm3
          have HS3' := Lib.hid hs3'
          have HX := Lib.hid hx
          clear hm3 hs3' hx
          clear hs3 hx3
          go_wp2_with fail
          exact ⟨rfl, .inr ⟨_, HX.out, rfl, HM3.out, HS3'.out⟩⟩
      | false =>
        have hne : valS m'.cells v 5 (Stm.value (.mk 4 name slot size place value body els)) = 0 := by
          have : vv = 0 := by simpa using hz
          simp only [Stm.value]
          rw [HVV.out]
          exact this
        have hx : Exec v (.stm (.mk 4 name slot size place value body els)) m (.done m') := .whileE hf0 rfl (HEX.out _ (.stop hne))
        have HX := Lib.hid hx
        clear hx
        clear hne
        go_wp2_with fail
        exact bodyPost_end (results_none Try.results71 _ _ _) rfl (.inl ⟨_, HX.out, rfl, HM2.out, HS2.out⟩)
  have a4 : (kind == 4) = false := by simpa using hk4
  by_cases hk5 : kind = 5
  · subst hk5
    as_aux_lemma =>
    go_wp2_with fail
    refine (KEY.out w1 m.pay place 4 HS1.out HM1.out (EP.out _ HS1.out)).mono ?_
    rintro e w2 ⟨rfl, hk2⟩
    have hs2 : Same (· < base) w w2 := KEEP.out _ _ HS1.out hk2
    have hm2 := HM1.out.keep hk2
    generalize hvp : valS m.pay.cells v 5 place = vp
    clear hk2
    have HS2 := Lib.hid hs2
    have HM2 := Lib.hid hm2
    have HVP := Lib.hid hvp
    clear hs2 hm2 hvp
    go_wp2_with fail
    refine (KEY.out w2 m.pay value 10 HS2.out HM2.out (EV.out _ HS2.out)).mono ?_
    rintro e w3 ⟨rfl, hk3⟩
    have hs3 : Same (· < base) w w3 := KEEP.out _ _ HS2.out hk3
    have hm3 := HM2.out.keep hk3
    obtain ⟨g3, g4, -, -, -⟩ := mach_cells hm3
    generalize hvv : valS m.pay.cells v 5 value = vv
    clear hk3
    have HS3 := Lib.hid hs3
    have HM3 := Lib.hid hm3
    have HVV := Lib.hid hvv
    clear hs3 hm3 hvv
    by_cases hr : 0 ≤ vp ∧ vp < v.procs ∧ vp ≠ v.self
    · obtain ⟨hr1, hr2, hr3⟩ := hr
      have hr3' : (vp != v.self) = true := by simpa using hr3
      have hsim : simpleS v (.mk 5 name slot size place value body els) m.pay = m.pay.eff ⟨1, vp, vv⟩ := by
        show (if _ then _ else _) = _
        rw [if_neg (by simp [Stm.kind]), if_neg (by simp [Stm.kind]), if_pos (by simp [Stm.kind]), if_pos (by simp only [Stm.place]; rw [HVP.out]; exact ⟨hr1, hr2, hr3⟩)]
        simp only [Stm.place, Stm.value]
        rw [HVP.out, HVV.out]
      have HSIM := Lib.hid hsim
      clear hsim
      clear hr3
      go_wp2_with fail
      refine (effect_any w3 base g v m.pay ⟨1, vp, vv⟩ HM3.out H81.out).mono ?_
      rintro e w4 ⟨rfl, hm4, hs4⟩
      have hs4' := Same.trans HS3.out hs4 (fun _ h => h)
      rw [← HSIM.out] at hm4
      have HM4 := Lib.hid hm4
      have HS4' := Lib.hid hs4'
      clear hm4 hs4'
      clear hs4
      go_wp2_with fail
      exact bodyPost_end (results_none Try.results71 _ _ _) rfl (.inl ⟨_, .simple hf0 (by simp [Stm.kind]) (by simp [Stm.kind]), rfl, HM4.out, HS4'.out⟩)
    · have hsim : simpleS v (.mk 5 name slot size place value body els) m.pay = m.pay := by
        show (if _ then _ else _) = _
        rw [if_neg (by simp [Stm.kind]), if_neg (by simp [Stm.kind]), if_pos (by simp [Stm.kind]), if_neg (by simp only [Stm.place]; rw [HVP.out]; exact hr)]
      have hm4 := HM3.out
      rw [← hsim] at hm4
      have HSIM := Lib.hid hsim
      have HM4 := Lib.hid hm4
      clear hsim hm4
      by_cases hr1 : 0 ≤ vp
      · by_cases hr2 : vp < v.procs
        · have hr3 : (vp != v.self) = false := by
            have : vp = v.self := Classical.byContradiction fun h => hr ⟨hr1, hr2, h⟩
            simpa using this
          clear hr
          go_wp2_with fail
          exact bodyPost_end (results_none Try.results71 _ _ _) rfl (.inl ⟨_, .simple hf0 (by simp [Stm.kind]) (by simp [Stm.kind]), rfl, HM4.out, HS3.out⟩)
        · clear hr
          go_wp2_with fail
          exact bodyPost_end (results_none Try.results71 _ _ _) rfl (.inl ⟨_, .simple hf0 (by simp [Stm.kind]) (by simp [Stm.kind]), rfl, HM4.out, HS3.out⟩)
      · clear hr
        go_wp2_with fail
        exact bodyPost_end (results_none Try.results71 _ _ _) rfl (.inl ⟨_, .simple hf0 (by simp [Stm.kind]) (by simp [Stm.kind]), rfl, HM4.out, HS3.out⟩)
  have a5 : (kind == 5) = false := by simpa using hk5
  by_cases hk6 : kind = 6
  · subst hk6
    as_aux_lemma =>
    go_wp2_with fail
    refine (KEY.out w1 m.pay value 10 HS1.out HM1.out (EV.out _ HS1.out)).mono ?_
    rintro e w3 ⟨rfl, hk3⟩
    have hs3 : Same (· < base) w w3 := KEEP.out _ _ HS1.out hk3
    have hm3 := HM1.out.keep hk3
    generalize hvv : valS m.pay.cells v 5 value = vv
    clear hk3
    have hsim : simpleS v (.mk 6 name slot size place value body els) m.pay = m.pay.eff ⟨2, 0, vv⟩ := by
      show (if _ then _ else _) = _
      rw [if_neg (by simp [Stm.kind]), if_neg (by simp [Stm.kind]), if_neg (by simp [Stm.kind]), if_pos (by simp [Stm.kind])]
      simp only [Stm.value]
      rw [hvv]
    have HS3 := Lib.hid hs3
    have HM3 := Lib.hid hm3
    have HVV := Lib.hid hvv
    have HSIM := Lib.hid hsim
    clear hs3 hm3 hvv hsim
    go_wp2_with fail
    refine (effect_any w3 base g v m.pay ⟨2, 0, vv⟩ HM3.out H81.out).mono ?_
    rintro e w4 ⟨rfl, hm4, hs4⟩
    have hs4' := Same.trans HS3.out hs4 (fun _ h => h)
    rw [← HSIM.out] at hm4
    have HM4 := Lib.hid hm4
    have HS4' := Lib.hid hs4'
    clear hm4 hs4'
    clear hs4
    go_wp2_with fail
    exact bodyPost_end (results_none Try.results71 _ _ _) rfl (.inl ⟨_, .simple hf0 (by simp [Stm.kind]) (by simp [Stm.kind]), rfl, HM4.out, HS4'.out⟩)
  have a6 : (kind == 6) = false := by simpa using hk6
  have hsim : simpleS v (.mk kind name slot size place value body els) m.pay = m.pay := by
    show (if _ then _ else _) = _
    rw [if_neg (by simpa [Stm.kind] using hk1), if_neg (by simpa [Stm.kind] using hk2), if_neg (by simpa [Stm.kind] using hk5), if_neg (by simpa [Stm.kind] using hk6)]
  have hm4 := HM1.out
  rw [← hsim] at hm4
  have HSIM := Lib.hid hsim
  have HM4 := Lib.hid hm4
  clear hsim hm4
  go_wp2_with fail
  exact bodyPost_end (results_none Try.results71 _ _ _) rfl (.inl ⟨_, .simple hf0 (by simpa [Stm.kind] using hk3) (by simpa [Stm.kind] using hk4), rfl, HM4.out, HS1.out⟩)
end Go.Proofs.Ythmepnpjagpcnaa
