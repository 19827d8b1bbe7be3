/- Readers of statements, said weakly: nested. -/
import Derived.Test.YtecckbkobkfnmaaDoorRead2
set_option linter.unusedVariables false
set_option linter.unusedSimpArgs false
set_option maxRecDepth 100000
namespace Go.Proofs.YtecckbkobkfnmaaDoor
open Go.RowKit Go.Proofs

def NestSaid (n : Nat) : Prop := ∀ (w : World) (S : Nat → Prop) (A : Option Addr) (m c : Nat) (l : List Stm), (∀ i, S i → i < w.heap.size) → SlR w S 18 (fun cs s => StmR w S n cs s) A m c l → l.length ≤ 1000 → (∀ a ∈ l, Stm.few 1000 n a) → Calls Tryd.prog 87 #[.slice A m c] w (SomeI 0 (n + 5) w)
def NestRel (n : Nat) (w : World) (m : Nat) (v i : Value) (wr : World) : Prop :=
  ∃ (k : Nat) (x : Int), v = .int .i64 x ∧ (0 ≤ x ∧ x ≤ n + 5) ∧ i = .int .i64 k ∧ k ≤ m ∧ Keep w wr
def max2 (a b : Int) : Int := if a < b then b else a
theorem max2_le {a b c : Int} (h1 : a ≤ c) (h2 : b ≤ c) (h3 : 0 ≤ a) : 0 ≤ max2 a b ∧ max2 a b ≤ c := by unfold max2; split <;> omega
theorem run_max2 {P : Program} (w : World) (a b : Int) : (Builtin.max2 (.int .i64 a) (.int .i64 b)).run P w = .ok (.int .i64 (max2 a b)) w := by
  unfold max2
  by_cases h : a < b
  · simp [Builtin.max2, h]
  · simp [Builtin.max2, h]
theorem run_max4 {P : Program} (w : World) (ats : Array TypeId) (ty : TypeId) (a b c d : Int) : (Builtin.max_ ats ty #[.int .i64 a, .int .i64 b, .int .i64 c, .int .i64 d]).run P w = .ok (.int .i64 (max2 (max2 (max2 a b) c) d)) w := by
  simp [Builtin.max_, List.foldlM, Sem.run_bind, run_max2]
set_option maxHeartbeats 4000000 in
theorem nest_any (n : Nat) (hn : n ≤ 100) (ih : ∀ k, n = k + 1 → NestSaid k) : NestSaid n := by
  intro w S A m c l hS hs hl hf
  have hml := hs.1
  have hm1 : m ≤ 1000 := by omega
  have HLS := Lib.hid hs
  clear hs
  have HS := Lib.hid hS
  have IH := Lib.hid ih
  have HF := Lib.hid hf
  have HML := Lib.hid hml
  clear hS ih hf hml
  clear hl
  go_enter Tryd.func87, Tryd.ntmps87
  go_wp2_with fail
  go_loopw [3, 4] (fun v i wr => NestRel n w m v i wr) (fun _ i _ => m - (intOf i).toNat)
  case atStart => exact ⟨0, 0, rfl, by omega, rfl, by omega, Same.refl _ _⟩
  case round =>
    obtain ⟨k, x, rfl, hx, rfl, hk, hkr⟩ := hrel
    obtain ⟨hx0, hxn⟩ := hx
    by_cases hkm : k < m
    · obtain ⟨b', off', cs', s, rfl, hSb, ha, hR, hll, hcell⟩ := HLS.out.at_ hkm
      obtain ⟨n', rfl⟩ : ∃ n', n = n' + 1 := by
        cases n with
        | zero => exact hR.elim
        | succ n' => exact ⟨n', rfl⟩
      have hRk := hR
      obtain ⟨kind, name, slot, size, place, value, body, els, o1, x1, n1, l1, z1, B1, p1, q1, o2, x2, n2, l2, z2, B2, p2, q2, A6, A7, m6, c6, m7, c7, hse, rfl, hpl, hva, hbo, hel⟩ := StmR.open_ hR
      have hfs := HF.out s (List.mem_of_getElem? ha)
      rw [hse] at hfs
      obtain ⟨f1, f2, f3, f4, f5, f6⟩ := hfs
      have hrP : ∀ wx, Keep wr wx → wx.rangeAt b' (off' + k * 18 + 4) [.int .i64 o1, .int .i64 x1, .string n1, .int .i64 l1, .int .i64 z1, .slice B1 p1 q1] := fun wx hx j u hu => by
        have hj : j < 6 := (List.getElem?_eq_some_iff.1 hu).1
        have := hcell (4 + j) u (by match j, hj with | 0, _ | 1, _ | 2, _ | 3, _ | 4, _ | 5, _ => exact hu)
        rw [Nat.add_assoc]
        exact ((Keep.trans hkr hx).cell (p := ⟨b', off' + k * 18 + (4 + j), none⟩) (HS.out b' hSb)).trans this
      have hrV : ∀ wx, Keep wr wx → wx.rangeAt b' (off' + k * 18 + 10) [.int .i64 o2, .int .i64 x2, .string n2, .int .i64 l2, .int .i64 z2, .slice B2 p2 q2] := fun wx hx j u hu => by
        have hj : j < 6 := (List.getElem?_eq_some_iff.1 hu).1
        have := hcell (10 + j) u (by match j, hj with | 0, _ | 1, _ | 2, _ | 3, _ | 4, _ | 5, _ => exact hu)
        rw [Nat.add_assoc]
        exact ((Keep.trans hkr hx).cell (p := ⟨b', off' + k * 18 + (10 + j), none⟩) (HS.out b' hSb)).trans this
      have c16 : ∀ wx, Keep wr wx → wx.cell? ⟨b', off' + k * 18 + 16, none⟩ = some (.slice A6 m6 c6) := fun wx hx => ((Keep.trans hkr hx).cell (p := ⟨b', off' + k * 18 + 16, none⟩) (HS.out b' hSb)).trans (hcell 16 _ rfl)
      have c17 : ∀ wx, Keep wr wx → wx.cell? ⟨b', off' + k * 18 + 17, none⟩ = some (.slice A7 m7 c7) := fun wx hx => ((Keep.trans hkr hx).cell (p := ⟨b', off' + k * 18 + 17, none⟩) (HS.out b' hSb)).trans (hcell 17 _ rfl)
      have hd1 : decide (k < m) = true := by simpa using hkm
      have hd2 : (0 : Int) ≤ k := by omega
      have hd3 : (k : Int) < m := by omega
      have hA : True := trivial
      have slt : ∀ wx, Keep wr wx → ∀ i, S i → i < wx.heap.size := fun wx hx i hi => Nat.lt_of_lt_of_le (HS.out i hi) (Keep.trans hkr hx).size
      have sam : ∀ wx, Keep wr wx → Same S w wx := fun wx hx => Same.mono (Keep.trans hkr hx) HS.out
      have ihn := IH.out n' rfl
      clear hcell hRk hse hR
      have HKR := Lib.hid hkr
      have HRP := Lib.hid hrP
      have HRV := Lib.hid hrV
      have HPL := Lib.hid hpl
      have HVA := Lib.hid hva
      have HBO := Lib.hid hbo
      have HEL := Lib.hid hel
      have F1 := Lib.hid f1
      have F2 := Lib.hid f2
      have F5 := Lib.hid f5
      have F6 := Lib.hid f6
      have HA := Lib.hid ha
      have SLT := Lib.hid slt
      have SAM := Lib.hid sam
      have IHN := Lib.hid ihn
      clear hkr hrP hrV hpl hva hbo hel f1 f2 f5 f6 ha slt sam ihn
      go_upto_region 5 with fail
      refine wp_region_L 99 (fun _ => True) (fun wx => Keep wr wx) (by kernel_rfl) trivial (Same.drew (Same.refl _ _)) (fun _ hB => ?_)
      refine wpL_takeB (i := 0) (v := ?_) rfl (by kernel_rfl) (by kernel_rfl) (by kernel_rfl) (by decide) (fun _ _ _ h => h) (Or.inl ⟨by rfl, ?_⟩) (SAB.both hA hB) ?_
      rotate_left
      · intro wx hBx
        (try dsimp only at hBx)
        go_simp
        try with_reducible rfl
      try simp only [Act.put, List.setIfInBounds_toArray, List.set_cons_zero, List.set_cons_succ]
      refine wpL_takeB (i := 1) (v := ?_) rfl (by kernel_rfl) (by kernel_rfl) (by kernel_rfl) (by decide) (fun _ _ _ h => h) (Or.inl ⟨by rfl, ?_⟩) (SAB.both hA hB) ?_
      rotate_left
      · intro wx hBx
        (try dsimp only at hBx)
        go_simp
        try with_reducible rfl
      try simp only [Act.put, List.setIfInBounds_toArray, List.set_cons_zero, List.set_cons_succ]
      refine wpL_takeB (i := 2) (v := ?_) rfl (by kernel_rfl) (by kernel_rfl) (by kernel_rfl) (by decide) (fun _ _ _ h => h) (Or.inl ⟨by rfl, ?_⟩) (SAB.both hA hB) ?_
      rotate_left
      · intro wx hBx
        (try dsimp only at hBx)
        go_simp
        try with_reducible rfl
      try simp only [Act.put, List.setIfInBounds_toArray, List.set_cons_zero, List.set_cons_succ]
      refine wpL_takeB (i := 3) (v := ?_) rfl (by kernel_rfl) (by kernel_rfl) (by kernel_rfl) (by decide) (fun _ _ _ h => h) (Or.inl ⟨by rfl, ?_⟩) (SAB.both hA hB) ?_
      rotate_left
      · intro wx hBx
        (try dsimp only at hBx)
        go_simp
        try with_reducible rfl
      try simp only [Act.put, List.setIfInBounds_toArray, List.set_cons_zero, List.set_cons_succ]
      refine wpL_takeB (i := 4) (v := ?_) rfl (by kernel_rfl) (by kernel_rfl) (by kernel_rfl) (by decide) (fun _ _ _ h => h) (Or.inl ⟨by rfl, ?_⟩) (SAB.both hA hB) ?_
      rotate_left
      · intro wx hBx
        (try dsimp only at hBx)
        go_simp
        try with_reducible rfl
      try simp only [Act.put, List.setIfInBounds_toArray, List.set_cons_zero, List.set_cons_succ]
      refine wpL_takeB (i := 5) rfl (by kernel_rfl) (by kernel_rfl) (by kernel_rfl) (by decide) (fun _ _ _ h => h) (yieldsIf_load_mid (by rfl) _ _ rfl b' (off' + k * 18 + 4) rfl [.int .i64 o1, .int .i64 x1, .string n1, .int .i64 l1, .int .i64 z1, .slice B1 p1 q1] _ (fun wx hx => HRP.out wx hx) Tryd.underlying106 rfl (by kernel_rfl)) (SAB.both hA hB) ?_
      try simp only [Act.put, List.setIfInBounds_toArray, List.set_cons_zero, List.set_cons_succ]
      refine wpL_takeB (i := 7) (v := ?_) rfl (by kernel_rfl) (by kernel_rfl) (by kernel_rfl) (by decide) (fun _ _ _ h => h) (Or.inl ⟨by rfl, ?_⟩) (SAB.both hA hB) ?_
      rotate_left
      · intro wx hBx
        (try dsimp only at hBx)
        go_simp
        try with_reducible rfl
      try simp only [Act.put, List.setIfInBounds_toArray, List.set_cons_zero, List.set_cons_succ]
      refine wpL_takeB (i := 8) (v := ?_) rfl (by kernel_rfl) (by kernel_rfl) (by kernel_rfl) (by decide) (fun _ _ _ h => h) (Or.inl ⟨by rfl, ?_⟩) (SAB.both hA hB) ?_
      rotate_left
      · intro wx hBx
        (try dsimp only at hBx)
        go_simp
        try with_reducible rfl
      try simp only [Act.put, List.setIfInBounds_toArray, List.set_cons_zero, List.set_cons_succ]
      refine wpL_takeB (i := 9) (v := ?_) rfl (by kernel_rfl) (by kernel_rfl) (by kernel_rfl) (by decide) (fun _ _ _ h => h) (Or.inl ⟨by rfl, ?_⟩) (SAB.both hA hB) ?_
      rotate_left
      · intro wx hBx
        (try dsimp only at hBx)
        go_simp
        try with_reducible rfl
      try simp only [Act.put, List.setIfInBounds_toArray, List.set_cons_zero, List.set_cons_succ]
      refine wpL_takeB (i := 10) (v := ?_) rfl (by kernel_rfl) (by kernel_rfl) (by kernel_rfl) (by decide) (fun _ _ _ h => h) (Or.inl ⟨by rfl, ?_⟩) (SAB.both hA hB) ?_
      rotate_left
      · intro wx hBx
        (try dsimp only at hBx)
        go_simp
        try with_reducible rfl
      try simp only [Act.put, List.setIfInBounds_toArray, List.set_cons_zero, List.set_cons_succ]
      refine wpL_takeB (i := 11) rfl (by kernel_rfl) (by kernel_rfl) (by kernel_rfl) (by decide) (fun _ _ _ h => h) (yieldsIf_load_mid (by rfl) _ _ rfl b' (off' + k * 18 + 10) rfl [.int .i64 o2, .int .i64 x2, .string n2, .int .i64 l2, .int .i64 z2, .slice B2 p2 q2] _ (fun wx hx => HRV.out wx hx) Tryd.underlying106 rfl (by kernel_rfl)) (SAB.both hA hB) ?_
      try simp only [Act.put, List.setIfInBounds_toArray, List.set_cons_zero, List.set_cons_succ]
      refine wpL_takeB (i := 13) (v := ?_) rfl (by kernel_rfl) (by kernel_rfl) (by kernel_rfl) (by decide) (fun _ _ _ h => h) (Or.inl ⟨by rfl, ?_⟩) (SAB.both hA hB) ?_
      rotate_left
      · intro wx hBx
        (try dsimp only at hBx)
        go_simp
        try with_reducible rfl
      try simp only [Act.put, List.setIfInBounds_toArray, List.set_cons_zero, List.set_cons_succ]
      refine wpL_takeB (i := 14) (v := ?_) rfl (by kernel_rfl) (by kernel_rfl) (by kernel_rfl) (by decide) (fun _ _ _ h => h) (Or.inl ⟨by rfl, ?_⟩) (SAB.both hA hB) ?_
      rotate_left
      · intro wx hBx
        (try dsimp only at hBx)
        go_simp
        try with_reducible rfl
      try simp only [Act.put, List.setIfInBounds_toArray, List.set_cons_zero, List.set_cons_succ]
      refine wpL_takeB (i := 15) (v := ?_) rfl (by kernel_rfl) (by kernel_rfl) (by kernel_rfl) (by decide) (fun _ _ _ h => h) (Or.inl ⟨by rfl, ?_⟩) (SAB.both hA hB) ?_
      rotate_left
      · intro wx hBx
        (try dsimp only at hBx)
        go_simp
        try with_reducible rfl
      try simp only [Act.put, List.setIfInBounds_toArray, List.set_cons_zero, List.set_cons_succ]
      refine wpL_takeB (i := 16) (v := ?_) rfl (by kernel_rfl) (by kernel_rfl) (by kernel_rfl) (by decide) (fun _ _ _ h => h) (Or.inl ⟨by rfl, ?_⟩) (SAB.both hA hB) ?_
      rotate_left
      · intro wx hBx
        (try dsimp only at hBx)
        go_simp
        try with_reducible rfl
      try simp only [Act.put, List.setIfInBounds_toArray, List.set_cons_zero, List.set_cons_succ]
      refine wpL_takeB (i := 17) (v := ?_) rfl (by kernel_rfl) (by kernel_rfl) (by kernel_rfl) (by decide) (fun _ _ _ h => h) (Or.inl ⟨by rfl, ?_⟩) (SAB.both hA hB) ?_
      rotate_left
      · intro wx hBx
        (try dsimp only at hBx)
        go_simp
        try with_reducible rfl
      try simp only [Act.put, List.setIfInBounds_toArray, List.set_cons_zero, List.set_cons_succ]
      refine wpL_takeB (i := 19) (v := ?_) rfl (by kernel_rfl) (by kernel_rfl) (by kernel_rfl) (by decide) (fun _ _ _ h => h) (Or.inl ⟨by rfl, ?_⟩) (SAB.both hA hB) ?_
      rotate_left
      · intro wx hBx
        (try dsimp only at hBx)
        go_simp
        try with_reducible rfl
      try simp only [Act.put, List.setIfInBounds_toArray, List.set_cons_zero, List.set_cons_succ]
      refine wpL_takeB (i := 20) (v := ?_) rfl (by kernel_rfl) (by kernel_rfl) (by kernel_rfl) (by decide) (fun _ _ _ h => h) (Or.inl ⟨by rfl, ?_⟩) (SAB.both hA hB) ?_
      rotate_left
      · intro wx hBx
        (try dsimp only at hBx)
        go_simp
        try with_reducible rfl
      try simp only [Act.put, List.setIfInBounds_toArray, List.set_cons_zero, List.set_cons_succ]
      refine wpL_takeB (i := 21) (v := ?_) rfl (by kernel_rfl) (by kernel_rfl) (by kernel_rfl) (by decide) (fun _ _ _ h => h) (Or.inl ⟨by rfl, ?_⟩) (SAB.both hA hB) ?_
      rotate_left
      · intro wx hBx
        (try dsimp only at hBx)
        go_simp
        try with_reducible rfl
      try simp only [Act.put, List.setIfInBounds_toArray, List.set_cons_zero, List.set_cons_succ]
      refine wpL_takeB (i := 22) (v := ?_) rfl (by kernel_rfl) (by kernel_rfl) (by kernel_rfl) (by decide) (fun _ _ _ h => h) (Or.inl ⟨by rfl, ?_⟩) (SAB.both hA hB) ?_
      rotate_left
      · intro wx hBx
        (try dsimp only at hBx)
        go_simp
        try with_reducible rfl
      try simp only [Act.put, List.setIfInBounds_toArray, List.set_cons_zero, List.set_cons_succ]
      refine wpL_takeB (i := 23) (v := ?_) rfl (by kernel_rfl) (by kernel_rfl) (by kernel_rfl) (by decide) (fun _ _ _ h => h) (Or.inl ⟨by rfl, ?_⟩) (SAB.both hA hB) ?_
      rotate_left
      · intro wx hBx
        (try dsimp only at hBx)
        go_simp
        try with_reducible rfl
      try simp only [Act.put, List.setIfInBounds_toArray, List.set_cons_zero, List.set_cons_succ]
      clear c16 c17
      refine wpL_one (i := 6) (by kernel_rfl) (StepL.mk rfl (fun K hK => ?_))
      go_simp
      refine (deep_all 5 (by omega) wr.drew S [.int .i64 o1, .int .i64 x1, .string n1, .int .i64 l1, .int .i64 z1, .slice B1 p1 q1] place (SLT.out _ hB) (ExR.keep (SAM.out _ hB) _ _ _ HPL.out) F1.out).mono ?_
      rintro e w1 ⟨y1, hy1, rfl, hk1⟩
      have hk1' : Keep wr w1 := Keep.trans hB hk1
      refine hK.out _ _ (SAB.both trivial hk1') (fun hSS => ?_)
      clear hK K hA hB
      have hB := hSS.2
      have hA := hSS.1 (by kernel_rfl)
      (try dsimp only at hB); (try dsimp only at hA); clear hSS
      try simp only [Act.put, List.setIfInBounds_toArray, List.set_cons_zero, List.set_cons_succ]
      refine wpL_one (i := 12) (by kernel_rfl) (StepL.mk rfl (fun K hK => ?_))
      go_simp
      refine (deep_all 5 (by omega) w1 S [.int .i64 o2, .int .i64 x2, .string n2, .int .i64 l2, .int .i64 z2, .slice B2 p2 q2] value (SLT.out _ hk1') (ExR.keep (SAM.out _ hk1') _ _ _ HVA.out) F2.out).mono ?_
      rintro e w2 ⟨y2, hy2, rfl, hk2⟩
      have hk2' : Keep wr w2 := Keep.trans hk1' hk2
      refine hK.out _ _ (SAB.both trivial hk2') (fun hSS => ?_)
      clear hK K hA hB
      have hB := hSS.2
      have hA := hSS.1 (by kernel_rfl)
      (try dsimp only at hB); (try dsimp only at hA); clear hSS
      try simp only [Act.put, List.setIfInBounds_toArray, List.set_cons_zero, List.set_cons_succ]
      refine wpL_one (i := 18) (by kernel_rfl) (StepL.mk rfl (fun K hK => ?_))
      go_simp
      refine (IHN.out w2 S A6 m6 c6 body (SLT.out _ hk2') (HBO.out.keep (SAM.out _ hk2') (StmR.keep (SAM.out _ hk2') _)) f3 F5.out).mono ?_
      rintro e w3 ⟨y3, hy3, rfl, hk3⟩
      have hk3' : Keep wr w3 := Keep.trans hk2' hk3
      refine hK.out _ _ (SAB.both trivial hk3') (fun hSS => ?_)
      clear hK K hA hB
      have hB := hSS.2
      have hA := hSS.1 (by kernel_rfl)
      (try dsimp only at hB); (try dsimp only at hA); clear hSS
      try simp only [Act.put, List.setIfInBounds_toArray, List.set_cons_zero, List.set_cons_succ]
      refine wpL_one (i := 24) (by kernel_rfl) (StepL.mk rfl (fun K hK => ?_))
      go_simp
      refine (IHN.out w3 S A7 m7 c7 els (SLT.out _ hk3') (HEL.out.keep (SAM.out _ hk3') (StmR.keep (SAM.out _ hk3') _)) f4 F6.out).mono ?_
      rintro e w4 ⟨y4, hy4, rfl, hk4⟩
      have hk4' : Keep wr w4 := Keep.trans hk3' hk4
      refine hK.out _ _ (SAB.both trivial hk4') (fun hSS => ?_)
      clear hK K hA hB
      have hB := hSS.2
      have hA := hSS.1 (by kernel_rfl)
      (try dsimp only at hB); (try dsimp only at hA); clear hSS
      try simp only [Act.put, List.setIfInBounds_toArray, List.set_cons_zero, List.set_cons_succ]
      refine wpL_takeB (i := 25) rfl (by kernel_rfl) (by kernel_rfl) (by kernel_rfl) (by decide) (fun _ _ _ h => h) (yieldsIf_of (by rfl) (.int .i64 (max2 (max2 (max2 y1 y2) y3) y4)) (fun wx _ => by go_simp; rw [run_max4]; rfl)) (SAB.both hA hB) ?_
      try simp only [Act.put, List.setIfInBounds_toArray, List.set_cons_zero, List.set_cons_succ]
      have hM : 0 ≤ max2 (max2 (max2 y1 y2) y3) y4 ∧ max2 (max2 (max2 y1 y2) y3) y4 ≤ (n' : Int) + 5 := by
        obtain ⟨a1, b1⟩ := hy1
        obtain ⟨a2, b2⟩ := hy2
        obtain ⟨a3, b3⟩ := hy3
        obtain ⟨a4, b4⟩ := hy4
        unfold max2
        split <;> split <;> split <;> omega
      generalize max2 (max2 (max2 y1 y2) y3) y4 = M at *
      obtain ⟨hM0, hM1⟩ := hM
      have yw : IntKind.i64.wrap (1 + M) = 1 + M := IntWalk.i64_in _ (by omega)
      refine wpL_takeB (i := 26) (v := ?_) rfl (by kernel_rfl) (by kernel_rfl) (by kernel_rfl) (by decide) (fun _ _ _ h => h) (Or.inl ⟨by rfl, ?_⟩) (SAB.both hA hB) ?_
      rotate_left
      · intro wx hBx
        (try dsimp only at hBx)
        go_simp
        try with_reducible rfl
      try simp only [Act.put, List.setIfInBounds_toArray, List.set_cons_zero, List.set_cons_succ]
      refine wpL_takeB (i := 27) rfl (by kernel_rfl) (by kernel_rfl) (by kernel_rfl) (by decide) (fun _ _ _ h => h) (yieldsIf_of (by rfl) (.int .i64 (max2 x (1 + M))) (fun wx _ => by unfold max2; go_simp)) (SAB.both hA hB) ?_
      try simp only [Act.put, List.setIfInBounds_toArray, List.set_cons_zero, List.set_cons_succ]
      refine wpL_takeB (i := 28) (v := ?_) rfl (by kernel_rfl) (by kernel_rfl) (by kernel_rfl) (by decide) (fun _ _ _ h => h) (Or.inl ⟨by rfl, ?_⟩) (SAB.both hA hB) ?_
      rotate_left
      · intro wx hBx
        (try dsimp only at hBx)
        go_simp
        try with_reducible rfl
      try simp only [Act.put, List.setIfInBounds_toArray, List.set_cons_zero, List.set_cons_succ]
      refine wpL_done (by kernel_rfl) ?_
      have hX : 0 ≤ max2 x (1 + M) ∧ max2 x (1 + M) ≤ ((n' + 1 : Nat) : Int) + 5 := by unfold max2; split <;> omega
      have hfin := Keep.trans HKR.out hk4'
      have HFIN := Lib.hid hfin
      clear hfin
      clear hk1 hk1' hk2 hk2' hk3 hk3' hk4 hk4' hA hB yw hy1 hy2 hy3 hy4
      go_wp2_with fail
      go_roundw
      case rel => exact ⟨k + 1, max2 x (1 + M), rfl, hX, by go_num, by omega, HFIN.out⟩
      case measure => simp [intOf]; omega
    · have hd1 : decide (k < m) = false := by simpa using hkm
      have HKR := Lib.hid hkr
      clear hkr
      go_wp2_with fail
      go_ret
      exact ⟨x, by omega, rfl, HKR.out⟩
theorem nest_all (n : Nat) (h : n ≤ 100) : NestSaid n := by
  induction n with
  | zero => exact nest_any 0 h (fun k e => by omega)
  | succ n ih =>
    refine nest_any (n + 1) h (fun k e => ?_)
    have e2 : k = n := by omega
    rw [e2]
    exact ih (by omega)
end Go.Proofs.YtecckbkobkfnmaaDoor
