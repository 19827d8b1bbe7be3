/- orphan.Track. -/
import Derived.Test.YtcfpkmfppgodmaaReach
set_option linter.unusedVariables false
set_option linter.unusedSimpArgs false
set_option maxRecDepth 100000
namespace Go.Proofs.Ytcfpkmfppgodmaa
open Go.RowKit Go.Proofs

theorem info_Labs2 : (Try.prog.info? 78).map (fun i => (i.zero, i.size, i.bytes)) = some (some (.slice none 0 0), 1, 24) := by kernel_rfl
theorem info_Bool : (Try.prog.info? 4).map (fun i => (i.zero, i.size, i.bytes)) = some (some (.bool false), 1, 1) := by kernel_rfl
theorem made_falses (n : Nat) : madeCells (Value.cells (.bool false)) (n * 1) = flags (List.replicate n false) := by
  apply Array.ext'
  have := toList_madeCells_one (.bool false) n
  simpa [Value.cells, flags] using this
def nilsA (n : Nat) : Array Value := (List.replicate n (.slice none 0 0)).toArray
theorem made_nilsA (n : Nat) : madeCells (Value.cells (.slice none 0 0)) (n * 1) = nilsA n := made_nils n
theorem builtS_labs2 (A : Option Addr) (n c : Nat) : builtS Try.prog 77 1 [(0, .slice A n c)] = some #[.slice A n c] := by kernel_rfl
def TrkPost (l : List (List Ev)) (w : World) (e : Ending) (w' : World) : Prop := ∃ (v : Value) (b : Bool), e = .returned (.tuple #[v, .bool b]) ∧ (b = true ↔ ∃ rk, LinFine (lensN l) l rk) ∧ Keep w w'
def csK (k n : Nat) : List Nat := List.replicate k 1 ++ List.replicate (n - k) 0
theorem csK_len {k n : Nat} (h : k ≤ n) : (csK k n).length = n := by simp [csK]; omega
theorem csK_at {k n : Nat} : (csK k n).getD k 0 = 0 := by
  unfold csK
  simp only [List.getD]
  rw [List.getElem?_append_right (by simp), List.length_replicate, Nat.sub_self, List.getElem?_replicate]
  split <;> rfl
theorem csK_set {k n : Nat} (h : k < n) : (csK k n).set k 1 = csK (k + 1) n := by
  unfold csK
  rw [List.set_append_right _ _ (by simp), List.length_replicate, Nat.sub_self]
  have : n - k = (n - (k + 1)) + 1 := by omega
  rw [this, List.replicate_succ, List.set_cons_zero, List.replicate_succ', List.append_assoc]
  rfl
theorem csK_zero (n : Nat) : csK 0 n = List.replicate n 0 := by simp [csK]
theorem csK_all (n : Nat) : csK n n = List.replicate n 1 := by simp [csK]
theorem repl_getD {α : Type} (n q : Nat) (a d : α) (h : q < n) : (List.replicate n a).getD q d = a := by simp [List.getD, h]
theorem falses_getD (n p : Nat) : (List.replicate n false).getD p false = false := by simp only [List.getD, List.getElem?_replicate]; split <;> rfl
def TkC (n : Nat) (A : Option Addr) (cA : Nat) (W : World) (p : Value) (wx : World) : Prop :=
  ∃ gt gv go : Nat, p = .pointer (some ⟨gt, 0, none⟩) ∧ W.heap.size ≤ gt ∧ W.heap.size ≤ gv ∧ W.heap.size ≤ go ∧ gv ≠ go ∧ gt ≠ gv ∧ gt ≠ go ∧ Blk wx gt 76 #[.slice A n cA, .slice (some ⟨gv, 0, none⟩) n n, .slice (some ⟨go, 0, none⟩) n n] ∧ Blk wx gv 78 (nilsA n) ∧ Blk wx go 4 (flags (List.replicate n false)) ∧ Keep W wx
def Tk1 (base gt gv go n : Nat) (A : Option Addr) (cA : Nat) (W : World) (i : Value) (wr : World) : Prop :=
  ∃ (k : Nat) (D : Nat → Prop) (vs : List Value), i = .int .i64 k ∧ k ≤ n ∧ TrM wr D base gt gv go n A n cA vs (csK k n) (List.replicate n false) ∧ Keep W wr
def Tk2 (l : List (List Ev)) (base gt gv go n : Nat) (A : Option Addr) (cA : Nat) (W : World) (i : Value) (wr : World) : Prop :=
  ∃ (k : Nat) (D : Nat → Prop) (vs : List Value) (cs : List Nat), i = .int .i64 k ∧ k ≤ n ∧ TrM wr D base gt gv go n A n cA vs cs (List.replicate n false) ∧ Rkd l cs ∧ Bd l cs ∧ (∀ p, p < k → (l.getD p []).length < cs.getD p 0) ∧ Keep W wr
theorem bld_tracker (A B C : Option Addr) (n c m d p e : Nat) : Try.prog.built 76 [(0, .slice A n c), (1, .slice B m d), (2, .slice C p e)] = some #[.slice A n c, .slice B m d, .slice C p e] := by kernel_rfl
set_option maxHeartbeats 16000000 in
theorem track_any (w : World) (S : Nat → Prop) (A : Option Addr) (n cA : Nat) (l : List (List Ev)) (hS : ∀ i, S i → i < w.heap.size) (hl : SlR w S 1 (EvsR w S) A n cA l) (hn : n ≤ 1000) (hlen : ∀ x ∈ l, x.length ≤ 100000) :
    Calls Try.prog 20 #[.slice A n cA] w (TrkPost l w) := by
  obtain ⟨iV, hi0, iz0, is0, ib0⟩ := info_of info_Labs2
  obtain ⟨iB, hj0, jz0, js0, jb0⟩ := info_of info_Bool
  obtain ⟨iL, hk0, kz0, ks0, kb0⟩ := info_of info_Label
  have hmv := fun W => run_make_row (P := Try.prog) 53 78 iV _ Try.underlying53 hi0 iz0 .i64 .i64 n n (Nat.le_refl _) (by rw [ib0]; omega) (by omega) W
  simp only [is0, made_nilsA] at hmv
  have hmb := fun W => run_make_row (P := Try.prog) 74 4 iB _ Try.underlying74 hj0 jz0 .i64 .i64 n n (Nat.le_refl _) (by rw [jb0]; omega) (by omega) W
  simp only [js0, made_falses] at hmb
  have hml := fun W => run_make_row (P := Try.prog) 77 48 iL _ Try.underlying77 hk0 kz0 .i64 .i64 n n (Nat.le_refl _) (by rw [kb0]; omega) (by omega) W
  simp only [ks0, made_lbs] at hml
  have hnl := hl.1
  have hlz : ∀ wx, Keep w wx → SlR wx S 1 (EvsR wx S) A n cA l := fun wx hk => hl.keep (hk.mono hS) (EvsR.keep (hk.mono hS))
  have HS := Lib.hid hS
  have HLZ := Lib.hid hlz
  have HLEN := Lib.hid hlen
  have HNL := Lib.hid hnl
  have HMV := Lib.hid hmv
  have HMB := Lib.hid hmb
  have HML := Lib.hid hml
  clear hS hlz hlen hnl hmv hmb hml
  clear hl hi0 iz0 is0 ib0 hj0 jz0 js0 jb0 hk0 kz0 ks0 kb0
  go_enter Try.func20, Try.ntmps20
  go_wp2_with fail
  refine (oall_any w S A n cA l HS.out (HLZ.out w (Same.refl _ _)) hn).mono ?_
  rintro e w1 ⟨A1, c1, rfl, hs1, hk1⟩
  have hz1 := hk1.size
  have hll : (lensL l).length = n := by simp [lensL]; exact HNL.out.symm
  rw [hll] at hs1 ⊢
  have hcons := cons_any w1 (fun i => i < w1.heap.size) A A1 n cA c1 l (fun i hi => hi) ((HLZ.out w1 hk1).more (fun i hi => by have := HS.out i hi; omega) (EvsR.more (fun i hi => by have := HS.out i hi; omega))) (hs1.more (fun i hi => hi.2)) hn HLEN.out
  have HCONS := Lib.hid hcons
  have HK1 := Lib.hid hk1
  clear hcons hk1
  clear hs1 hll
  go_wp2_with fail
  refine HCONS.out.mono ?_
  rintro e w2 ⟨bc, hbc, rfl, hk2⟩
  have hkw2 := Keep.trans HK1.out hk2
  have hz2 := hk2.size
  cases bc with
  | false =>
    have hfin : TrkPost l w (.returned (.tuple #[.slice none 0 0, .bool false])) w2 := ⟨_, false, rfl, ⟨nofun, fun ⟨rk, hf⟩ => hbc.2 hf.cons⟩, hkw2⟩
    have HFIN := Lib.hid hfin
    clear hfin
    clear hbc hk2 hkw2
    go_wp2_with fail
    go_ret2
    exact HFIN.out
  | true =>
  have hc : ConsL l := hbc.1 rfl
  have HC := Lib.hid hc
  have HKW2 := Lib.hid hkw2
  clear hc hkw2
  clear hbc hk2 HCONS HK1
  have hmv2 := HMV.out
  have hmb2 := HMB.out
  go_upto_region 3 with fail
  go_cut [4] from 13 to 21 (fun p wx => TkC n A cA w2 p wx)
  case first =>
    refine wp_region_L 99 (fun _ => True) (fun wx => Keep w2 wx) (by kernel_rfl) trivial (Same.drew (Same.refl _ _)) (fun hA hB => ?_)
    generalize hu0 : w2.drew = u0 at hB ⊢
    clear hu0
    refine wpL_takeB (i := 0) (v := ?_) rfl (by kernel_rfl) (by kernel_rfl) (by kernel_rfl) (by decide) (fun _ _ _ h => h) (Or.inl ⟨by rfl, ?_⟩) (SAB.both hA hB) ?_
    rotate_left
    · intro wx hBx
      (try dsimp only at hBx)
      go_simp
      try with_reducible rfl
    try simp only [Act.put, List.setIfInBounds_toArray, List.set_cons_zero, List.set_cons_succ]
    refine wpL_takeB (i := 1) (v := ?_) rfl (by kernel_rfl) (by kernel_rfl) (by kernel_rfl) (by decide) (fun _ _ _ h => h) (Or.inl ⟨by rfl, ?_⟩) (SAB.both hA hB) ?_
    rotate_left
    · intro wx hBx
      (try dsimp only at hBx)
      go_simp
      try with_reducible rfl
    try simp only [Act.put, List.setIfInBounds_toArray, List.set_cons_zero, List.set_cons_succ]
    refine wpL_takeB (i := 2) (v := ?_) rfl (by kernel_rfl) (by kernel_rfl) (by kernel_rfl) (by decide) (fun _ _ _ h => h) (Or.inl ⟨by rfl, ?_⟩) (SAB.both hA hB) ?_
    rotate_left
    · intro wx hBx
      (try dsimp only at hBx)
      go_simp
      try with_reducible rfl
    try simp only [Act.put, List.setIfInBounds_toArray, List.set_cons_zero, List.set_cons_succ]
    refine wpL_takeB (i := 4) (v := ?_) rfl (by kernel_rfl) (by kernel_rfl) (by kernel_rfl) (by decide) (fun _ _ _ h => h) (Or.inl ⟨by rfl, ?_⟩) (SAB.both hA hB) ?_
    rotate_left
    · intro wx hBx
      (try dsimp only at hBx)
      go_simp
      try with_reducible rfl
    try simp only [Act.put, List.setIfInBounds_toArray, List.set_cons_zero, List.set_cons_succ]
    refine wpL_takeB (i := 5) (v := ?_) rfl (by kernel_rfl) (by kernel_rfl) (by kernel_rfl) (by decide) (fun _ _ _ h => h) (Or.inl ⟨by rfl, ?_⟩) (SAB.both hA hB) ?_
    rotate_left
    · intro wx hBx
      (try dsimp only at hBx)
      go_simp
      try with_reducible rfl
    try simp only [Act.put, List.setIfInBounds_toArray, List.set_cons_zero, List.set_cons_succ]
    refine wpL_two (i := 3) (j := 6) (by kernel_rfl) (StepL.mk rfl (fun K hK => ?_)) (StepL.mk rfl (fun K hK => ?_))
    · go_simp
      have zz0 := hB.size
      have hk1 : Keep u0 (u0.alloc (.cells (nilsA n) 78)) := Keep.new _ _
      have hb1 : Blk (u0.alloc (.cells (nilsA n) 78)) u0.heap.size _ _ := Blk.new u0 _ _
      have hB1 := Keep.trans hB hk1
      generalize u0.alloc (.cells (nilsA n) 78) = u1 at *
      refine hK.out _ _ (SAB.both trivial hB1) (fun hSS => ?_)
      clear hK K hA hB
      have hB := hSS.2
      have hA := hSS.1 (by kernel_rfl)
      (try dsimp only at hB); (try dsimp only at hA); clear hSS
      try simp only [Act.put, List.setIfInBounds_toArray, List.set_cons_zero, List.set_cons_succ]
      refine wpL_one (i := 6) (by kernel_rfl) (StepL.mk rfl (fun K hK => ?_))
      go_simp
      have hk2 : Keep u1 (u1.alloc (.cells (flags (List.replicate n false)) 4)) := Keep.new _ _
      have hb2 : Blk (u1.alloc (.cells (flags (List.replicate n false)) 4)) u1.heap.size _ _ := Blk.new u1 _ _
      have hB2 := Keep.trans hB1 hk2
      generalize u1.alloc (.cells (flags (List.replicate n false)) 4) = u2 at *
      refine hK.out _ _ (SAB.both trivial hB2) (fun hSS => ?_)
      clear hK K hA hB
      have hB := hSS.2
      have hA := hSS.1 (by kernel_rfl)
      (try dsimp only at hB); (try dsimp only at hA); clear hSS
      try simp only [Act.put, List.setIfInBounds_toArray, List.set_cons_zero, List.set_cons_succ]
      refine wpL_takeB (i := 7) rfl (by kernel_rfl) (by kernel_rfl) (by kernel_rfl) (by decide) (fun _ _ _ h => h) (yieldsIf_bld (by rfl) 76 _ rfl _ [(0, .slice A n cA), (1, .slice (some ⟨u0.heap.size, 0, none⟩) n n), (2, .slice (some ⟨u1.heap.size, 0, none⟩) n n)] rfl (bld_tracker _ _ _ _ _ _ _ _ _)) (SAB.both hA hB) ?_
      try simp only [Act.put, List.setIfInBounds_toArray, List.set_cons_zero, List.set_cons_succ]
      refine wpL_one (i := 8) (by kernel_rfl) (StepL.mk rfl (fun K hK => ?_))
      go_simp
      have hk3 : Keep u2 (u2.alloc (.cells #[.slice A n cA, .slice (some ⟨u0.heap.size, 0, none⟩) n n, .slice (some ⟨u1.heap.size, 0, none⟩) n n] 76)) := Keep.new _ _
      have hb3 : Blk (u2.alloc (.cells #[.slice A n cA, .slice (some ⟨u0.heap.size, 0, none⟩) n n, .slice (some ⟨u1.heap.size, 0, none⟩) n n] 76)) u2.heap.size _ _ := Blk.new u2 _ _
      have hB3 := Keep.trans hB2 hk3
      generalize u2.alloc (.cells #[.slice A n cA, .slice (some ⟨u0.heap.size, 0, none⟩) n n, .slice (some ⟨u1.heap.size, 0, none⟩) n n] 76) = u3 at *
      refine hK.out _ _ (SAB.both trivial hB3) (fun hSS => ?_)
      clear hK K hA hB
      have hB := hSS.2
      have hA := hSS.1 (by kernel_rfl)
      (try dsimp only at hB); (try dsimp only at hA); clear hSS
      try simp only [Act.put, List.setIfInBounds_toArray, List.set_cons_zero, List.set_cons_succ]
      refine wpL_takeB (i := 9) (v := ?_) rfl (by kernel_rfl) (by kernel_rfl) (by kernel_rfl) (by decide) (fun _ _ _ h => h) (Or.inl ⟨by rfl, ?_⟩) (SAB.both hA hB) ?_
      rotate_left
      · intro wx hBx
        (try dsimp only at hBx)
        go_simp
        try with_reducible rfl
      try simp only [Act.put, List.setIfInBounds_toArray, List.set_cons_zero, List.set_cons_succ]
      refine wpL_done (by kernel_rfl) ?_
      have l1 := hb1.lt
      have l2 := hb2.lt
      have hb1' := hk3.blk (hk2.blk hb1 l1) (by omega)
      have hb2' := hk3.blk hb2 l2
      have hfin : TkC n A cA w2 (.pointer (some ⟨u2.heap.size, 0, none⟩)) u3 := ⟨_, u0.heap.size, u1.heap.size, rfl, by omega, by omega, by omega, by omega, by omega, by omega, hb3, hb1', hb2', hB3⟩
      have HFIN := Lib.hid hfin
      clear hfin
      clear hA hB hB1 hB2 hB3 hk1 hk2 hk3 hb1 hb2 hb3 hb1' hb2'
      go_wp2_with fail
      go_meet
      exact HFIN.out
    · go_simp
      have zz0 := hB.size
      have hk1 : Keep u0 (u0.alloc (.cells (flags (List.replicate n false)) 4)) := Keep.new _ _
      have hb1 : Blk (u0.alloc (.cells (flags (List.replicate n false)) 4)) u0.heap.size _ _ := Blk.new u0 _ _
      have hB1 := Keep.trans hB hk1
      generalize u0.alloc (.cells (flags (List.replicate n false)) 4) = u1 at *
      refine hK.out _ _ (SAB.both trivial hB1) (fun hSS => ?_)
      clear hK K hA hB
      have hB := hSS.2
      have hA := hSS.1 (by kernel_rfl)
      (try dsimp only at hB); (try dsimp only at hA); clear hSS
      try simp only [Act.put, List.setIfInBounds_toArray, List.set_cons_zero, List.set_cons_succ]
      refine wpL_one (i := 3) (by kernel_rfl) (StepL.mk rfl (fun K hK => ?_))
      go_simp
      have hk2 : Keep u1 (u1.alloc (.cells (nilsA n) 78)) := Keep.new _ _
      have hb2 : Blk (u1.alloc (.cells (nilsA n) 78)) u1.heap.size _ _ := Blk.new u1 _ _
      have hB2 := Keep.trans hB1 hk2
      generalize u1.alloc (.cells (nilsA n) 78) = u2 at *
      refine hK.out _ _ (SAB.both trivial hB2) (fun hSS => ?_)
      clear hK K hA hB
      have hB := hSS.2
      have hA := hSS.1 (by kernel_rfl)
      (try dsimp only at hB); (try dsimp only at hA); clear hSS
      try simp only [Act.put, List.setIfInBounds_toArray, List.set_cons_zero, List.set_cons_succ]
      refine wpL_takeB (i := 7) rfl (by kernel_rfl) (by kernel_rfl) (by kernel_rfl) (by decide) (fun _ _ _ h => h) (yieldsIf_bld (by rfl) 76 _ rfl _ [(0, .slice A n cA), (1, .slice (some ⟨u1.heap.size, 0, none⟩) n n), (2, .slice (some ⟨u0.heap.size, 0, none⟩) n n)] rfl (bld_tracker _ _ _ _ _ _ _ _ _)) (SAB.both hA hB) ?_
      try simp only [Act.put, List.setIfInBounds_toArray, List.set_cons_zero, List.set_cons_succ]
      refine wpL_one (i := 8) (by kernel_rfl) (StepL.mk rfl (fun K hK => ?_))
      go_simp
      have hk3 : Keep u2 (u2.alloc (.cells #[.slice A n cA, .slice (some ⟨u1.heap.size, 0, none⟩) n n, .slice (some ⟨u0.heap.size, 0, none⟩) n n] 76)) := Keep.new _ _
      have hb3 : Blk (u2.alloc (.cells #[.slice A n cA, .slice (some ⟨u1.heap.size, 0, none⟩) n n, .slice (some ⟨u0.heap.size, 0, none⟩) n n] 76)) u2.heap.size _ _ := Blk.new u2 _ _
      have hB3 := Keep.trans hB2 hk3
      generalize u2.alloc (.cells #[.slice A n cA, .slice (some ⟨u1.heap.size, 0, none⟩) n n, .slice (some ⟨u0.heap.size, 0, none⟩) n n] 76) = u3 at *
      refine hK.out _ _ (SAB.both trivial hB3) (fun hSS => ?_)
      clear hK K hA hB
      have hB := hSS.2
      have hA := hSS.1 (by kernel_rfl)
      (try dsimp only at hB); (try dsimp only at hA); clear hSS
      try simp only [Act.put, List.setIfInBounds_toArray, List.set_cons_zero, List.set_cons_succ]
      refine wpL_takeB (i := 9) (v := ?_) rfl (by kernel_rfl) (by kernel_rfl) (by kernel_rfl) (by decide) (fun _ _ _ h => h) (Or.inl ⟨by rfl, ?_⟩) (SAB.both hA hB) ?_
      rotate_left
      · intro wx hBx
        (try dsimp only at hBx)
        go_simp
        try with_reducible rfl
      try simp only [Act.put, List.setIfInBounds_toArray, List.set_cons_zero, List.set_cons_succ]
      refine wpL_done (by kernel_rfl) ?_
      have l1 := hb1.lt
      have l2 := hb2.lt
      have hb1' := hk3.blk (hk2.blk hb1 l1) (by omega)
      have hb2' := hk3.blk hb2 l2
      have hfin : TkC n A cA w2 (.pointer (some ⟨u2.heap.size, 0, none⟩)) u3 := ⟨_, u1.heap.size, u0.heap.size, rfl, by omega, by omega, by omega, by omega, by omega, by omega, hb3, hb2', hb1', hB3⟩
      have HFIN := Lib.hid hfin
      clear hfin
      clear hA hB hB1 hB2 hB3 hk1 hk2 hk3 hb1 hb2 hb3 hb1' hb2'
      go_wp2_with fail
      go_meet
      exact HFIN.out
  case rest =>
    obtain ⟨gt, gv, go, rfl, gtw, gvw, gow, hvg, htv, htg, hbt, hbv, hbo, hk3⟩ := hcut
    obtain ⟨w3, rfl⟩ : ∃ w3 : World, w3 = wc := ⟨_, rfl⟩
    have hz3 := hk3.size
    have hkw3 := Keep.trans HKW2.out hk3
    have ltt := hbt.lt
    have ltv := hbv.lt
    have lto := hbo.lt
    have htr0 : TrM w3 (fun i => i = gv ∨ i = go) w.heap.size gt gv go n A n cA (List.replicate n (.slice none 0 0)) (csK 0 n) (List.replicate n false) := by
      refine ⟨hbt, fun h => h.elim htv htg, hbv, by simp, csK_len (Nat.zero_le _), hbo, by simp, fun q v hv => ?_, fun q v b hv hb => ?_, fun p q v u b _ hp hq hb => ?_, .inl rfl, .inr rfl, hvg, fun i hi => ?_⟩
      · rw [List.getElem?_replicate] at hv
        split at hv
        · rename_i hq
          injection hv with hv
          subst hv
          rw [csK_zero, repl_getD n q 0 0 hq]
          exact ⟨[], World.ownsRow_nil _ _ _ _, by simp⟩
        · cases hv
      · rw [List.getElem?_replicate] at hv
        split at hv
        · injection hv with hv
          subst hv
          cases hb
        · cases hv
      · rw [List.getElem?_replicate] at hp
        split at hp
        · injection hp with hp
          subst hp
          cases hb
        · cases hp
      · rcases hi with h | h <;> omega
    have hrel0 : Tk1 w.heap.size gt gv go n A cA w (.int .i64 0) w3 := ⟨0, _, _, rfl, Nat.zero_le _, htr0, hkw3⟩
    have HREL0 := Lib.hid hrel0
    clear hrel0
    clear htr0 hbt hbv hbo hk3 hkw3 hmv2 hmb2
    go_wp2_with fail
    go_loopw [24] (fun i wr => Tk1 w.heap.size gt gv go n A cA w i wr) (fun i _ => n - (intOf i).toNat)
    case atStart => exact HREL0.out
    case round =>
      clear HREL0
      obtain ⟨k, D, vs, rfl, hkn', htr, hkr⟩ := hrel
      have hzr := hkr.size
      by_cases hkn : k < n
      · have t0 : decide (k < n) = true := by simpa using hkn
        have t0' : decide ((k : Int) < (n : Int)) = true := by simp; omega
        have i0 : (0 : Int) ≤ k := by omega
        have i1 : (k : Int) < n := by omega
        have z1 : ∀ wx, Keep wr wx → wx.cell? ⟨gt, 1, none⟩ = some (.slice (some ⟨gv, 0, none⟩) n n) := fun wx hx => by rw [(hx.blk htr.tr htr.tr.lt).cell]; rfl
        obtain ⟨vq, xs9, hv9, hr9, hxs9⟩ := htr.get hkn
        rw [csK_at] at hr9
        obtain ⟨A9, c9, hvq, -, -⟩ := own_form hr9
        have HTR := Lib.hid htr
        have HKR := Lib.hid hkr
        clear htr hkr
        go_upto_region 7 with fail
        refine wp_region_L 10 (fun wx => Keep wr wx) (fun _ => True) (by kernel_rfl) (Same.drew (Same.refl _ _)) trivial (fun hA hB => ?_)
        have hku : Keep wr wr.drew := Same.drew (Same.refl _ _)
        generalize hu0 : wr.drew = u0 at hA hku ⊢
        clear hu0
        have hmlu := HML.out u0
        refine wpL_takeA (i := 0) (v := ?_) rfl (by kernel_rfl) (by kernel_rfl) (by kernel_rfl) (by kernel_rfl) (by decide) (fun _ _ _ h => h) (Or.inl ⟨by rfl, ?_⟩) hA hB ?_
        rotate_left
        · rintro wx ⟨hAx, hBx⟩
          (try dsimp only at hBx); (try dsimp only at hAx)
          go_simp
          try with_reducible rfl
        try simp only [Act.put, List.setIfInBounds_toArray, List.set_cons_zero, List.set_cons_succ]
        refine wpL_takeA (i := 1) (v := ?_) rfl (by kernel_rfl) (by kernel_rfl) (by kernel_rfl) (by kernel_rfl) (by decide) (fun _ _ _ h => h) (Or.inl ⟨by rfl, ?_⟩) hA hB ?_
        rotate_left
        · rintro wx ⟨hAx, hBx⟩
          (try dsimp only at hBx); (try dsimp only at hAx)
          go_simp
          try with_reducible rfl
        try simp only [Act.put, List.setIfInBounds_toArray, List.set_cons_zero, List.set_cons_succ]
        refine wpL_takeA (i := 2) (v := ?_) rfl (by kernel_rfl) (by kernel_rfl) (by kernel_rfl) (by kernel_rfl) (by decide) (fun _ _ _ h => h) (Or.inl ⟨by rfl, ?_⟩) hA hB ?_
        rotate_left
        · rintro wx ⟨hAx, hBx⟩
          (try dsimp only at hBx); (try dsimp only at hAx)
          go_simp
          try with_reducible rfl
        try simp only [Act.put, List.setIfInBounds_toArray, List.set_cons_zero, List.set_cons_succ]
        refine wpL_takeA (i := 3) (v := ?_) rfl (by kernel_rfl) (by kernel_rfl) (by kernel_rfl) (by kernel_rfl) (by decide) (fun _ _ _ h => h) (Or.inl ⟨by rfl, ?_⟩) hA hB ?_
        rotate_left
        · rintro wx ⟨hAx, hBx⟩
          (try dsimp only at hBx); (try dsimp only at hAx)
          go_simp
          try with_reducible rfl
        try simp only [Act.put, List.setIfInBounds_toArray, List.set_cons_zero, List.set_cons_succ]
        refine wpL_takeA (i := 4) (v := ?_) rfl (by kernel_rfl) (by kernel_rfl) (by kernel_rfl) (by kernel_rfl) (by decide) (fun _ _ _ h => h) (Or.inl ⟨by rfl, ?_⟩) hA hB ?_
        rotate_left
        · rintro wx ⟨hAx, hBx⟩
          (try dsimp only at hBx); (try dsimp only at hAx)
          go_simp
          try with_reducible rfl
        try simp only [Act.put, List.setIfInBounds_toArray, List.set_cons_zero, List.set_cons_succ]
        refine wpL_takeA (i := 5) (v := ?_) rfl (by kernel_rfl) (by kernel_rfl) (by kernel_rfl) (by kernel_rfl) (by decide) (fun _ _ _ h => h) (Or.inl ⟨by rfl, ?_⟩) hA hB ?_
        rotate_left
        · rintro wx ⟨hAx, hBx⟩
          (try dsimp only at hBx); (try dsimp only at hAx)
          go_simp
          try with_reducible rfl
        try simp only [Act.put, List.setIfInBounds_toArray, List.set_cons_zero, List.set_cons_succ]
        refine wpL_takeA (i := 6) (v := ?_) rfl (by kernel_rfl) (by kernel_rfl) (by kernel_rfl) (by kernel_rfl) (by decide) (fun _ _ _ h => h) (Or.inl ⟨by rfl, ?_⟩) hA hB ?_
        rotate_left
        · rintro wx ⟨hAx, hBx⟩
          (try dsimp only at hBx); (try dsimp only at hAx)
          go_simp
          try with_reducible rfl
        try simp only [Act.put, List.setIfInBounds_toArray, List.set_cons_zero, List.set_cons_succ]
        clear z1
        refine wpL_one (i := 7) (by kernel_rfl) (StepL.mk rfl (fun K hK => ?_))
        go_simp
        have hb8 : Blk (u0.alloc (.cells ((List.replicate n ((0 : Int), (0 : Int))).flatMap encLb).toArray 48)) u0.heap.size _ _ := Blk.new u0 _ _
        have hk8 : Keep u0 (u0.alloc (.cells ((List.replicate n ((0 : Int), (0 : Int))).flatMap encLb).toArray 48)) := Keep.new _ _
        have hzu := hku.size
        have hA8 : Keep wr (u0.alloc (.cells ((List.replicate n ((0 : Int), (0 : Int))).flatMap encLb).toArray 48)) := Keep.trans hku hk8
        refine hK.out _ _ (SAB.both hA8 trivial) (fun hSS => ?_)
        clear hK K hA hB
        have hB := hSS.2
        have hA := hSS.1 (by kernel_rfl)
        (try dsimp only at hB); (try dsimp only at hA); clear hSS
        try simp only [Act.put, List.setIfInBounds_toArray, List.set_cons_zero, List.set_cons_succ]
        generalize hu1 : u0.alloc (.cells ((List.replicate n ((0 : Int), (0 : Int))).flatMap encLb).toArray 48) = u1 at *
        have hl8 := hb8.lt
        refine wpL_one (i := 8) (by kernel_rfl) (StepL.mk rfl (fun K hK => ?_))
        refine step_buildS rfl _ _ _ _ rfl Try.underlying78 _ [(0, .slice (some ⟨u0.heap.size, 0, none⟩) n n)] rfl (builtS_labs2 _ _ _) ?_
        have hk9 : Keep u1 (u1.alloc (.cells #[.slice (some ⟨u0.heap.size, 0, none⟩) n n] 77)) := Keep.new _ _
        have hA9 := Keep.trans hA8 hk9
        have hg9 : u1.grownBy (u1.alloc (.cells #[.slice (some ⟨u0.heap.size, 0, none⟩) n n] 77)) vq.ownBlock := ⟨rfl, rfl, rfl, hk9.size, fun k hk _ => hk9.block k hk⟩
        have hown9 : (u1.alloc (.cells #[.slice (some ⟨u0.heap.size, 0, none⟩) n n] 77)).ownsRow w.heap.size 77 1 (.slice (some ⟨u1.heap.size, 0, none⟩) 1 1) 1 [.slice (some ⟨u0.heap.size, 0, none⟩) n n] :=
          ⟨by simp, .inr ⟨u1.heap.size, 1, #[.slice (some ⟨u0.heap.size, 0, none⟩) n n], rfl, by omega, heap_alloc_new u1 _, Nat.le_refl _, by simp [maxLen], by simp, by simp⟩⟩
        refine hK.out _ _ (SAB.both hA9 trivial) (fun hSS => ?_)
        clear hK K hA hB
        have hB := hSS.2
        have hA := hSS.1 (by kernel_rfl)
        (try dsimp only at hB); (try dsimp only at hA); clear hSS
        try simp only [Act.put, List.setIfInBounds_toArray, List.set_cons_zero, List.set_cons_succ]
        generalize hu2 : u1.alloc (.cells #[.slice (some ⟨u0.heap.size, 0, none⟩) n n] 77) = u2 at *
        refine wpL_takeA (i := 9) (v := ?_) rfl (by kernel_rfl) (by kernel_rfl) (by kernel_rfl) (by kernel_rfl) (by decide) (fun _ _ _ h => h) (Or.inl ⟨by rfl, ?_⟩) hA hB ?_
        rotate_left
        · rintro wx ⟨hAx, hBx⟩
          (try dsimp only at hBx); (try dsimp only at hAx)
          go_simp
          try with_reducible rfl
        try simp only [Act.put, List.setIfInBounds_toArray, List.set_cons_zero, List.set_cons_succ]
        refine wpL_one (i := 10) (by kernel_rfl) (StepL.mk rfl (fun K hK => ?_))
        have htr1 := HTR.out.keep hA8
        have hD8 : ¬ D u0.heap.size := fun hd => by have := (HTR.out.low _ hd).2; omega
        have hx9 : VecR u1 D n (.slice (some ⟨u0.heap.size, 0, none⟩) n n) := ⟨_, _, List.replicate n (0, 0), rfl, by simp, Nat.le_refl _, by simp [maxLen]; omega, by simp [flat_length encLb_len], fun _ => ⟨u0.heap.size, 0, rfl, ⟨hl8, hD8⟩, fun j u hu => by rw [hb8.cell, Nat.zero_add, List.getElem?_toArray]; exact hu⟩⟩
        have hx90 : xs9 = [] := List.eq_nil_of_length_eq_zero (by have := hr9.1; omega)
        have hr91 := ownsRow_same hr9 hA8 (fun i hi => hi.2)
        have hvb9 := hk9.blk htr1.vec htr1.vec.lt
        refine step_store_one rfl _ _ _ rfl gv k 78 _ (.slice (some ⟨u1.heap.size, 0, none⟩) 1 1) rfl rfl hvb9 (by rw [List.size_toArray, htr1.vlen]; exact hkn) (by kernel_rfl) rfl rfl ?_
        intro wz hbz hsz
        have hpush := htr1.push (q := k) (x := .slice (some ⟨u0.heap.size, 0, none⟩) n n) hkn hv9 (by rw [csK_at]; exact hr91) (by rw [hx90]; simp) hx9 (by rw [csK_at, hx90]; exact hown9) hg9 (.inr rfl) (by simpa using hbz) hsz (by omega)
        rw [csK_at, csK_set hkn] at hpush
        have hfin : Tk1 w.heap.size gt gv go n A cA w (.int .i64 ((k : Int) + 1)) wz := ⟨k + 1, _, _, by go_num, by omega, hpush, Keep.write (Keep.trans HKR.out hA9) hsz (HTR.out.low _ HTR.out.dv).1⟩
        refine hK.out _ _ (SAB.past (by kernel_rfl) trivial) (fun hSS => ?_)
        clear hK K hA hB
        have hB := hSS.2
        have hA : True := trivial
        (try dsimp only at hB); (try dsimp only at hA); clear hSS
        try simp only [Act.put, List.setIfInBounds_toArray, List.set_cons_zero, List.set_cons_succ]
        refine wpL_done (by kernel_rfl) ?_
        have HFIN := Lib.hid hfin
        clear hfin
        clear hA hB hpush hbz hsz htr1 hx9 hr91 hvb9 hA9 hA8 hk9 hk8 hb8 hown9 hg9 hku hmlu hv9 hr9 hxs9 hu1 hu2
        go_wp2_with fail
        go_roundw
        case rel => exact HFIN.out
        case measure => simp [intOf]; omega
      · have t0 : decide (k < n) = false := by simpa using hkn
        have t0' : decide ((k : Int) < (n : Int)) = false := by simp; omega
        obtain rfl : n = k := by omega
        rw [csK_all] at htr
        have hrk0 := Rkd.init l n
        have hbd0 : Bd l (List.replicate n 1) := ⟨by simp; exact HNL.out, fun p hp => by rw [repl_getD n p 1 0 (by have := HNL.out; omega)]; omega⟩
        obtain ⟨w4, rfl⟩ : ∃ w4 : World, w4 = wr := ⟨_, rfl⟩
        have hrel2 : Tk2 l w.heap.size gt gv go n A cA w (.int .i64 0) w4 := ⟨0, D, vs, _, rfl, Nat.zero_le _, htr, hrk0, hbd0, fun p hp => absurd hp (by omega), hkr⟩
        have HREL2 := Lib.hid hrel2
        clear hrel2
        clear htr hkr hrk0 hbd0
        go_wp2_with fail
        go_loopw [40] (fun i wr => Tk2 l w.heap.size gt gv go n A cA w i wr) (fun i _ => n - (intOf i).toNat)
        case atStart => exact HREL2.out
        case round =>
          clear HREL2
          obtain ⟨q, D, vs, cs, rfl, hqn', htr, hrk, hbd, hall, hkr⟩ := hrel
          have hzr := hkr.size
          by_cases hqn : q < n
          · have t0 : decide (q < n) = true := by simpa using hqn
            have t0' : decide ((q : Int) < (n : Int)) = true := by simp; omega
            have i0 : (0 : Int) ≤ q := by omega
            have i1 : (q : Int) < n := by omega
            obtain ⟨c0, o0, cs0, evs, rfl, -, hevs, ⟨Ae, ne, ce, rfl, hse⟩, -, hc0⟩ := (HLZ.out wr hkr).at_ hqn
            have hgev := getD_of (d := ([] : List Ev)) hevs
            have x0 : wr.cell? ⟨c0, o0 + q, none⟩ = some (.slice Ae ne ce) := by have := hc0 0 _ rfl; simpa using this
            have hne : ne = (l.getD q []).length := by rw [hgev]; exact hse.1
            have hcall := reach_any l w.heap.size gt gv go n (some ⟨c0, o0, none⟩) cA S HS.out (by omega) hn HNL.out HLEN.out HC.out _ wr D vs cs (List.replicate n false) q ne (q : Int) (ne : Int) rfl rfl rfl hqn (by omega) hzr htr (HLZ.out wr hkr) hrk hbd
            have hlow := htr.low
            have hne2 := hne
            have HCALL := Lib.hid hcall
            have HALL := Lib.hid hall
            have HKR := Lib.hid hkr
            have HLOW := Lib.hid hlow
            have HNE2 := Lib.hid hne2
            clear hcall hall hkr hlow hne2
            clear htr hrk hbd hse hc0 hevs hgev hne
            go_wp2_with fail
            refine HCALL.out.mono ?_
            rintro e w5 ⟨bb, rfl, hsm, ht, hf⟩
            have hk5 : Keep w w5 := Same.trans HKR.out hsm (fun i hi => ⟨by omega, fun hd => by have := (HLOW.out i hd).1; omega⟩)
            cases bb with
            | false =>
              have hfin : TrkPost l w (.returned (.tuple #[.slice none 0 0, .bool false])) w5 := ⟨_, false, rfl, ⟨nofun, fun ⟨rk, hfi⟩ => absurd (fun p hp => by rw [falses_getD] at hp; cases hp) ((hf rfl).2 rk hfi)⟩, hk5⟩
              have HFIN := Lib.hid hfin
              clear hfin
              clear ht hf hsm hk5
              go_wp2_with fail
              go_ret2
              exact HFIN.out
            | true =>
              obtain ⟨D', vs', cs', htr', -, -, hadv, hlt, hrk', hbd'⟩ := ht rfl
              have hfin : Tk2 l w.heap.size gt gv go n (some ⟨c0, o0, none⟩) cA w (.int .i64 ((q : Int) + 1)) w5 := ⟨q + 1, D', vs', cs', by go_num, by omega, htr', hrk', hbd', fun p hp => by
                rcases Nat.lt_or_ge p q with h | h
                · have := HALL.out p h; have := hadv.2.1 p; omega
                · obtain rfl : p = q := by omega
                  have := HNE2.out; omega, hk5⟩
              have HFIN := Lib.hid hfin
              clear hfin
              clear ht hf hsm hk5 htr' hadv hlt hrk' hbd'
              go_wp2_with fail
              go_roundw
              case rel => exact HFIN.out
              case measure => simp [intOf]; omega
          · have t0 : decide (q < n) = false := by simpa using hqn
            have t0' : decide ((q : Int) < (n : Int)) = false := by simp; omega
            obtain ⟨rk, hfi⟩ := hrk.fine HC.out (fun p hp => hall p (by have := HNL.out; omega))
            have x1 : wr.cell? ⟨gt, 1, none⟩ = some (.slice (some ⟨gv, 0, none⟩) n n) := by rw [htr.tr.cell]; rfl
            have hfin : ∀ v, TrkPost l w (.returned (.tuple #[v, .bool true])) wr := fun v => ⟨v, true, rfl, ⟨fun _ => ⟨rk, hfi⟩, fun _ => rfl⟩, hkr⟩
            have HFIN := Lib.hid hfin
            clear hfin
            clear htr hrk hbd hall hkr hfi
            go_wp2_with fail
            go_ret2
            exact HFIN.out _
end Go.Proofs.Ytcfpkmfppgodmaa
