/- ref34.Witness and law34.size. -/
import Derived.Test.YtcfpkmfppgodmaaRs2
set_option linter.unusedVariables false
set_option linter.unusedSimpArgs false
set_option maxRecDepth 100000
namespace Go.Proofs.Ytcfpkmfppgodmaa
open Go.RowKit Go.Proofs

def sizeL : Nat → List (List Ev) → Nat
  | n, [] => n
  | n, x :: l => if n ≤ 100 then sizeL (n + x.length) l else n
def sizeS (l : List (List Ev)) : Nat := sizeL l.length l
theorem sizeL_le : ∀ (l : List (List Ev)) (n : Nat), sizeL n l ≤ 100 → n ≤ 100 ∧ ∀ x ∈ l, x.length ≤ 100
  | [], n, h => ⟨h, by simp⟩
  | x :: l, n, h => by
    rw [sizeL] at h
    split at h
    · have := sizeL_le l _ h
      refine ⟨by omega, fun y hy => ?_⟩
      rcases List.mem_cons.1 hy with e | hy
      · rw [e]; omega
      · exact this.2 y hy
    · omega
theorem sizeS_le {l : List (List Ev)} (h : sizeS l ≤ 100) : l.length ≤ 100 ∧ ∀ x ∈ l, x.length ≤ 100 := sizeL_le l _ h
def SzR (l : List (List Ev)) (n : Nat) (W : World) (v i : Value) (wr : World) : Prop := ∃ k m : Nat, v = .int .i64 m ∧ i = .int .i64 k ∧ k ≤ n ∧ sizeL m (l.drop k) = sizeS l ∧ m ≤ 281474976702464 ∧ ∃ j, wr = W.drewN j
def SizePost (l : List (List Ev)) (w : World) (e : Ending) (w' : World) : Prop := e = .returned (.int .i64 (sizeS l)) ∧ ∃ j, w' = w.drewN j
theorem sizeL_step {m : Nat} {l : List (List Ev)} {k : Nat} {x : List Ev} (h : l[k]? = some x) : sizeL m (l.drop k) = if m ≤ 100 then sizeL (m + x.length) (l.drop (k + 1)) else m := by
  obtain ⟨hk, e⟩ := List.getElem?_eq_some_iff.1 h
  rw [List.drop_eq_getElem_cons hk, e, sizeL]
set_option maxHeartbeats 8000000 in
theorem size_any (w : World) (S : Nat → Prop) (A : Option Addr) (n c : Nat) (l : List (List Ev)) (hl : SlR w S 1 (EvsR w S) A n c l) (hn : n ≤ 140737488351232) (hlx : ∀ x ∈ l, x.length ≤ 140737488351232) :
    Calls Try.prog 8 #[.slice A n c] w (SizePost l w) := by
  have hnl := hl.1
  have hnc := hl.2.1
  have hcm := hl.2.2.1
  have hrel0 : SzR l n w (.int .i64 n) (.int .i64 0) w := ⟨0, n, rfl, rfl, Nat.zero_le _, by rw [hnl]; rfl, by omega, 0, rfl⟩
  have HL := Lib.hid hl
  have HNL := Lib.hid hnl
  have HREL0 := Lib.hid hrel0
  have HLX := Lib.hid hlx
  clear hl hnl hrel0 hlx
  go_enter Try.func8, Try.ntmps8
  go_wp2_with fail
  go_loopw [3, 4] (fun v i wr => SzR l n w v i wr) (fun v i _ => n - (intOf i).toNat)
  case atStart => exact HREL0.out
  case round =>
    clear HREL0
    obtain ⟨k, m, rfl, rfl, hkn', hsz, hm, j, rfl⟩ := hrel
    by_cases hkn : k < n
    · obtain ⟨b0, off0, cs, evs, rfl, -, hev, ⟨Ae, ne, ce, rfl, hse⟩, -, hc0⟩ := HL.out.at_ hkn
      have hd1 : decide (k < n) = true := by simpa using hkn
      have hd1' : decide ((k : Int) < (n : Int)) = true := by simp; omega
      have hd2 : (0 : Int) ≤ k := by omega
      have hd3 : (k : Int) < n := by omega
      have x0 : ∀ j, (w.drewN j).cell? ⟨b0, off0 + k, none⟩ = some (.slice Ae ne ce) := fun j => by have := hc0 0 _ rfl; simpa using this
      have hst := sizeL_step (m := m) hev
      have hne := hse.1
      have hne3 := HLX.out _ (List.mem_of_getElem? hev)
      rw [← hne] at hne3
      by_cases hm1 : m ≤ 100
      · have hd4 : decide ((m : Int) ≤ 100) = true := by simp; omega
        rw [if_pos hm1] at hst
        rw [hst] at hsz
        have hfin : ∀ j, SzR l n w (.int .i64 ((m : Int) + ne)) (.int .i64 ((k : Int) + 1)) (w.drewN j) := fun j => ⟨k + 1, m + ne, by simp, by simp, by omega, by rw [hne]; exact hsz, by omega, j, rfl⟩
        have HFIN := Lib.hid hfin
        clear hfin
        clear hsz hst hc0 hse hev hne
        go_wp2_with fail
        go_roundw
        case rel => exact HFIN.out _
        case measure => simp [intOf]; omega
      · have hd4 : decide ((m : Int) ≤ 100) = false := by simp; omega
        rw [if_neg hm1] at hst
        rw [hst] at hsz
        have hfin : ∀ j, SizePost l w (.returned (.int .i64 m)) (w.drewN j) := fun j => ⟨by rw [← hsz], j, rfl⟩
        have HFIN := Lib.hid hfin
        clear hfin
        clear hsz hst hc0 hse hev hne
        go_wp2_with fail
        go_ret
        exact HFIN.out _
    · have hd1 : decide (k < n) = false := by simpa using hkn
      have hd1' : decide ((k : Int) < (n : Int)) = false := by simp; omega
      have hdr : l.drop k = [] := List.drop_eq_nil_of_le (by have := HNL.out; omega)
      rw [hdr] at hsz
      have hfin : ∀ j, SizePost l w (.returned (.int .i64 m)) (w.drewN j) := fun j => ⟨by rw [← hsz]; rfl, j, rfl⟩
      have HFIN := Lib.hid hfin
      clear hfin
      clear hsz hdr
      go_wp2_with fail
      go_ret
      exact HFIN.out _
set_option maxHeartbeats 8000000 in
theorem rwitness_any (w : World) (S : Nat → Prop) (A : Option Addr) (n c : Nat) (l : List (List Ev)) (hS : ∀ i, S i → i < w.heap.size) (hl : SlR w S 1 (EvsR w S) A n c l) (hn : n ≤ 1000) (hlen : ∀ x ∈ l, x.length ≤ 100000) :
    Calls Try.prog 17 #[.slice A n c] w (SchPost l (zerosL l.length) (lensL l) w) := by
  obtain ⟨iI, hi0, iz0, is0, ib0⟩ := info_of info_Int
  have hmk := fun W => run_make_row (P := Try.prog) 23 3 iI _ Try.underlying23 hi0 iz0 .i64 .i64 n n (Nat.le_refl _) (by rw [ib0]; omega) (by omega) W
  rw [is0, made_zeros] at hmk
  have hnl := hl.1
  have hup : ∀ u, Keep w u → SlR u (fun i => i < u.heap.size) 1 (EvsR u (fun i => i < u.heap.size)) A n c l := fun u hu => by
    have hz := hu.size
    exact (hl.keep (hu.mono hS) (EvsR.keep (hu.mono hS))).more (fun i hi => by have := hS i hi; omega) (EvsR.more (fun i hi => by have := hS i hi; omega))
  have hll : (lensL l).length = n := by simp [lensL]; omega
  have hzl : zerosL n = zerosL l.length := by rw [hnl]
  have fin : ∀ (u1 u2 : World) (e : Ending), Keep w u1 → SchPost l (zerosL l.length) (lensL l) u1 e u2 → SchPost l (zerosL l.length) (lensL l) w e u2 := by
    rintro u1 u2 e hk ⟨r, hr, hk2, hcs⟩
    have := hk.size
    refine ⟨r, hr, Keep.trans hk hk2, ?_⟩
    rcases hcs with h | ⟨out, A3, n3, c3, e1, e2, hs3⟩
    · exact .inl h
    · exact .inr ⟨out, A3, n3, c3, e1, e2, hs3.more (fun i hi => ⟨by have := hi.1; omega, hi.2⟩)⟩
  have last : ∀ (u : World) (c2 : Nat) (Az Af : Option Addr), Keep w u → Sl encI 1 u (fun i => i < u.heap.size) Az n n (zerosL n) → Sl encI 1 u (fun i => i < u.heap.size) Af n c2 (lensL l) →
      Calls Try.prog 15 #[.slice A n c, .slice Az n n, .slice Af n c2] u (SchPost l (zerosL l.length) (lensL l) w) := fun u c2 Az Af hk hz hf => by
    refine (rschedule_any u _ A Az Af n c n n n c2 l (zerosL n) (lensL l) (fun i hi => hi) (hup u hk) hz hf hn hlen (by omega) (by omega)).mono ?_
    intro e u2 hp
    rw [hzl] at hp
    exact fin u u2 e hk hp
  have mk : ∀ u, Keep w u → Sl encI 1 (u.alloc (.cells (zerosA n) 3)) (fun i => i < (u.alloc (.cells (zerosA n) 3)).heap.size) (some ⟨u.heap.size, 0, none⟩) n n (zerosL n) := fun u hu => (own_ints (own_zeros u n hn)).more (fun i hi => hi.2)
  have HS := Lib.hid hS
  have HL := Lib.hid hl
  have HNL := Lib.hid hnl
  have HLEN := Lib.hid hlen
  have HUP := Lib.hid hup
  have FIN := Lib.hid fin
  have LAST := Lib.hid last
  have MK := Lib.hid mk
  have HLL := Lib.hid hll
  have HZL := Lib.hid hzl
  clear hS hl hnl hlen hup fin last mk hll hzl
  clear hi0 iz0 is0 ib0
  go_enter Try.func17, Try.ntmps17
  go_upto_region 1 with fail
  refine wp_region_L 99 (fun _ => True) (fun wx => Keep w wx) (by kernel_rfl) trivial (Same.drew (Same.refl _ _)) (fun hA hB => ?_)
  generalize hu0 : w.drew = u0 at hB ⊢
  clear hu0
  refine wpL_takeB (i := 0) (v := ?_) rfl (by kernel_rfl) (by kernel_rfl) (by kernel_rfl) (by decide) (fun _ _ _ h => h) (Or.inl ⟨by rfl, ?_⟩) (SAB.both hA hB) ?_
  rotate_left
  · intro wx hBx
    (try dsimp only at hBx)
    go_simp
    try with_reducible rfl
  try simp only [Act.put, List.setIfInBounds_toArray, List.set_cons_zero, List.set_cons_succ]
  refine wpL_takeB (i := 1) (v := ?_) rfl (by kernel_rfl) (by kernel_rfl) (by kernel_rfl) (by decide) (fun _ _ _ h => h) (Or.inl ⟨by rfl, ?_⟩) (SAB.both hA hB) ?_
  rotate_left
  · intro wx hBx
    (try dsimp only at hBx)
    go_simp
    try with_reducible rfl
  try simp only [Act.put, List.setIfInBounds_toArray, List.set_cons_zero, List.set_cons_succ]
  refine wpL_takeB (i := 2) (v := ?_) rfl (by kernel_rfl) (by kernel_rfl) (by kernel_rfl) (by decide) (fun _ _ _ h => h) (Or.inl ⟨by rfl, ?_⟩) (SAB.both hA hB) ?_
  rotate_left
  · intro wx hBx
    (try dsimp only at hBx)
    go_simp
    try with_reducible rfl
  try simp only [Act.put, List.setIfInBounds_toArray, List.set_cons_zero, List.set_cons_succ]
  refine wpL_takeB (i := 4) (v := ?_) rfl (by kernel_rfl) (by kernel_rfl) (by kernel_rfl) (by decide) (fun _ _ _ h => h) (Or.inl ⟨by rfl, ?_⟩) (SAB.both hA hB) ?_
  rotate_left
  · intro wx hBx
    (try dsimp only at hBx)
    go_simp
    try with_reducible rfl
  try simp only [Act.put, List.setIfInBounds_toArray, List.set_cons_zero, List.set_cons_succ]
  refine wpL_two (i := 3) (j := 5) (by kernel_rfl) (StepL.mk rfl (fun K hK => ?_)) (StepL.mk rfl (fun K hK => ?_))
  · go_simp
    have hm1 := MK.out u0 hB
    have hk1 : Keep u0 (u0.alloc (.cells (zerosA n) 3)) := Keep.new _ _
    have hB1 := Keep.trans hB hk1
    generalize u0.alloc (.cells (zerosA n) 3) = u1 at *
    refine hK.out _ _ (SAB.both trivial hB1) (fun hSS => ?_)
    clear hK K hA hB
    have hB := hSS.2
    have hA := hSS.1 (by kernel_rfl)
    (try dsimp only at hB); (try dsimp only at hA); clear hSS
    try simp only [Act.put, List.setIfInBounds_toArray, List.set_cons_zero, List.set_cons_succ]
    refine wpL_one (i := 5) (by kernel_rfl) (StepL.mk rfl (fun K hK => ?_))
    go_simp
    refine (full_any u1 _ A n c l (fun i hi => hi) (HUP.out u1 hB) hn).mono ?_
    rintro e u2 ⟨Af, cf, rfl, hsf, hk2⟩
    have hz2 := hk2.size
    have hB2 := Keep.trans hB hk2
    rw [HLL.out] at hsf ⊢
    refine hK.out _ _ (SAB.both trivial hB2) (fun hSS => ?_)
    clear hK K hA hB
    have hB := hSS.2
    have hA := hSS.1 (by kernel_rfl)
    (try dsimp only at hB); (try dsimp only at hA); clear hSS
    try simp only [Act.put, List.setIfInBounds_toArray, List.set_cons_zero, List.set_cons_succ]
    refine wpL_one (i := 6) (by kernel_rfl) (StepL.mk rfl (fun K hK => ?_))
    go_simp
    refine (LAST.out u2 cf _ _ hB ((hm1.keep (hk2.mono (fun i hi => hi))).more (fun i (hi : i < u1.heap.size) => by omega)) (hsf.more (fun i hi => hi.2))).mono ?_
    rintro e u3 hp
    obtain ⟨r, hr, hk3, hcs⟩ := id hp
    rcases hcs with ⟨rfl, rfl⟩ | ⟨out, A3, n3, c3, rfl, rfl, hs3⟩
    · refine hK.out _ _ (SAB.both trivial hk3) (fun hSS => ?_)
      clear hK K hA hB
      have hB := hSS.2
      have hA : True := trivial
      (try dsimp only at hB); (try dsimp only at hA); clear hSS
      try simp only [Act.put, List.setIfInBounds_toArray, List.set_cons_zero, List.set_cons_succ]
      have HP := Lib.hid hp
      clear hp
      refine wpL_takeB (i := 7) (v := ?_) rfl (by kernel_rfl) (by kernel_rfl) (by kernel_rfl) (by decide) (fun _ _ _ h => h) (Or.inl ⟨by rfl, ?_⟩) (SAB.both hA hB) ?_
      rotate_left
      · intro wx hBx
        (try dsimp only at hBx)
        go_simp
        try with_reducible rfl
      try simp only [Act.put, List.setIfInBounds_toArray, List.set_cons_zero, List.set_cons_succ]
      refine wpL_takeB (i := 8) (v := ?_) rfl (by kernel_rfl) (by kernel_rfl) (by kernel_rfl) (by decide) (fun _ _ _ h => h) (Or.inl ⟨by rfl, ?_⟩) (SAB.both hA hB) ?_
      rotate_left
      · intro wx hBx
        (try dsimp only at hBx)
        go_simp
        try with_reducible rfl
      try simp only [Act.put, List.setIfInBounds_toArray, List.set_cons_zero, List.set_cons_succ]
      refine wpL_takeB (i := 9) (v := ?_) rfl (by kernel_rfl) (by kernel_rfl) (by kernel_rfl) (by decide) (fun _ _ _ h => h) (Or.inl ⟨by rfl, ?_⟩) (SAB.both hA hB) ?_
      rotate_left
      · intro wx hBx
        (try dsimp only at hBx)
        go_simp
        try with_reducible rfl
      try simp only [Act.put, List.setIfInBounds_toArray, List.set_cons_zero, List.set_cons_succ]
      refine wpL_takeB (i := 10) (v := ?_) rfl (by kernel_rfl) (by kernel_rfl) (by kernel_rfl) (by decide) (fun _ _ _ h => h) (Or.inl ⟨by rfl, ?_⟩) (SAB.both hA hB) ?_
      rotate_left
      · intro wx hBx
        (try dsimp only at hBx)
        go_simp
        try with_reducible rfl
      try simp only [Act.put, List.setIfInBounds_toArray, List.set_cons_zero, List.set_cons_succ]
      refine wpL_done (by kernel_rfl) ?_
      clear hA hB hB1 hB2 hr hk3
      go_wp2_with fail
      go_ret2
      exact HP.out
    · refine hK.out _ _ (SAB.both trivial hk3) (fun hSS => ?_)
      clear hK K hA hB
      have hB := hSS.2
      have hA : True := trivial
      (try dsimp only at hB); (try dsimp only at hA); clear hSS
      try simp only [Act.put, List.setIfInBounds_toArray, List.set_cons_zero, List.set_cons_succ]
      have HP := Lib.hid hp
      clear hp
      refine wpL_takeB (i := 7) (v := ?_) rfl (by kernel_rfl) (by kernel_rfl) (by kernel_rfl) (by decide) (fun _ _ _ h => h) (Or.inl ⟨by rfl, ?_⟩) (SAB.both hA hB) ?_
      rotate_left
      · intro wx hBx
        (try dsimp only at hBx)
        go_simp
        try with_reducible rfl
      try simp only [Act.put, List.setIfInBounds_toArray, List.set_cons_zero, List.set_cons_succ]
      refine wpL_takeB (i := 8) (v := ?_) rfl (by kernel_rfl) (by kernel_rfl) (by kernel_rfl) (by decide) (fun _ _ _ h => h) (Or.inl ⟨by rfl, ?_⟩) (SAB.both hA hB) ?_
      rotate_left
      · intro wx hBx
        (try dsimp only at hBx)
        go_simp
        try with_reducible rfl
      try simp only [Act.put, List.setIfInBounds_toArray, List.set_cons_zero, List.set_cons_succ]
      refine wpL_takeB (i := 9) (v := ?_) rfl (by kernel_rfl) (by kernel_rfl) (by kernel_rfl) (by decide) (fun _ _ _ h => h) (Or.inl ⟨by rfl, ?_⟩) (SAB.both hA hB) ?_
      rotate_left
      · intro wx hBx
        (try dsimp only at hBx)
        go_simp
        try with_reducible rfl
      try simp only [Act.put, List.setIfInBounds_toArray, List.set_cons_zero, List.set_cons_succ]
      refine wpL_takeB (i := 10) (v := ?_) rfl (by kernel_rfl) (by kernel_rfl) (by kernel_rfl) (by decide) (fun _ _ _ h => h) (Or.inl ⟨by rfl, ?_⟩) (SAB.both hA hB) ?_
      rotate_left
      · intro wx hBx
        (try dsimp only at hBx)
        go_simp
        try with_reducible rfl
      try simp only [Act.put, List.setIfInBounds_toArray, List.set_cons_zero, List.set_cons_succ]
      refine wpL_done (by kernel_rfl) ?_
      clear hA hB hB1 hB2 hr hk3
      go_wp2_with fail
      go_ret2
      exact HP.out
  · go_simp
    refine (full_any u0 _ A n c l (fun i hi => hi) (HUP.out u0 hB) hn).mono ?_
    rintro e u1 ⟨Af, cf, rfl, hsf, hk1⟩
    have hB1 := Keep.trans hB hk1
    rw [HLL.out] at hsf ⊢
    refine hK.out _ _ (SAB.both trivial hB1) (fun hSS => ?_)
    clear hK K hA hB
    have hB := hSS.2
    have hA := hSS.1 (by kernel_rfl)
    (try dsimp only at hB); (try dsimp only at hA); clear hSS
    try simp only [Act.put, List.setIfInBounds_toArray, List.set_cons_zero, List.set_cons_succ]
    refine wpL_one (i := 3) (by kernel_rfl) (StepL.mk rfl (fun K hK => ?_))
    go_simp
    have hm1 := MK.out u1 hB
    have hk2 : Keep u1 (u1.alloc (.cells (zerosA n) 3)) := Keep.new _ _
    have hB2 := Keep.trans hB hk2
    generalize u1.alloc (.cells (zerosA n) 3) = u2 at *
    have hz2 := hk2.size
    refine hK.out _ _ (SAB.both trivial hB2) (fun hSS => ?_)
    clear hK K hA hB
    have hB := hSS.2
    have hA := hSS.1 (by kernel_rfl)
    (try dsimp only at hB); (try dsimp only at hA); clear hSS
    try simp only [Act.put, List.setIfInBounds_toArray, List.set_cons_zero, List.set_cons_succ]
    refine wpL_one (i := 6) (by kernel_rfl) (StepL.mk rfl (fun K hK => ?_))
    go_simp
    refine (LAST.out u2 cf _ _ hB hm1 ((hsf.keep (hk2.mono (fun i hi => hi.2))).more (fun i hi => by have := hi.2; omega))).mono ?_
    rintro e u3 hp
    obtain ⟨r, hr, hk3, hcs⟩ := id hp
    rcases hcs with ⟨rfl, rfl⟩ | ⟨out, A3, n3, c3, rfl, rfl, hs3⟩
    · refine hK.out _ _ (SAB.both trivial hk3) (fun hSS => ?_)
      clear hK K hA hB
      have hB := hSS.2
      have hA : True := trivial
      (try dsimp only at hB); (try dsimp only at hA); clear hSS
      try simp only [Act.put, List.setIfInBounds_toArray, List.set_cons_zero, List.set_cons_succ]
      have HP := Lib.hid hp
      clear hp
      refine wpL_takeB (i := 7) (v := ?_) rfl (by kernel_rfl) (by kernel_rfl) (by kernel_rfl) (by decide) (fun _ _ _ h => h) (Or.inl ⟨by rfl, ?_⟩) (SAB.both hA hB) ?_
      rotate_left
      · intro wx hBx
        (try dsimp only at hBx)
        go_simp
        try with_reducible rfl
      try simp only [Act.put, List.setIfInBounds_toArray, List.set_cons_zero, List.set_cons_succ]
      refine wpL_takeB (i := 8) (v := ?_) rfl (by kernel_rfl) (by kernel_rfl) (by kernel_rfl) (by decide) (fun _ _ _ h => h) (Or.inl ⟨by rfl, ?_⟩) (SAB.both hA hB) ?_
      rotate_left
      · intro wx hBx
        (try dsimp only at hBx)
        go_simp
        try with_reducible rfl
      try simp only [Act.put, List.setIfInBounds_toArray, List.set_cons_zero, List.set_cons_succ]
      refine wpL_takeB (i := 9) (v := ?_) rfl (by kernel_rfl) (by kernel_rfl) (by kernel_rfl) (by decide) (fun _ _ _ h => h) (Or.inl ⟨by rfl, ?_⟩) (SAB.both hA hB) ?_
      rotate_left
      · intro wx hBx
        (try dsimp only at hBx)
        go_simp
        try with_reducible rfl
      try simp only [Act.put, List.setIfInBounds_toArray, List.set_cons_zero, List.set_cons_succ]
      refine wpL_takeB (i := 10) (v := ?_) rfl (by kernel_rfl) (by kernel_rfl) (by kernel_rfl) (by decide) (fun _ _ _ h => h) (Or.inl ⟨by rfl, ?_⟩) (SAB.both hA hB) ?_
      rotate_left
      · intro wx hBx
        (try dsimp only at hBx)
        go_simp
        try with_reducible rfl
      try simp only [Act.put, List.setIfInBounds_toArray, List.set_cons_zero, List.set_cons_succ]
      refine wpL_done (by kernel_rfl) ?_
      clear hA hB hB1 hB2 hr hk3
      go_wp2_with fail
      go_ret2
      exact HP.out
    · refine hK.out _ _ (SAB.both trivial hk3) (fun hSS => ?_)
      clear hK K hA hB
      have hB := hSS.2
      have hA : True := trivial
      (try dsimp only at hB); (try dsimp only at hA); clear hSS
      try simp only [Act.put, List.setIfInBounds_toArray, List.set_cons_zero, List.set_cons_succ]
      have HP := Lib.hid hp
      clear hp
      refine wpL_takeB (i := 7) (v := ?_) rfl (by kernel_rfl) (by kernel_rfl) (by kernel_rfl) (by decide) (fun _ _ _ h => h) (Or.inl ⟨by rfl, ?_⟩) (SAB.both hA hB) ?_
      rotate_left
      · intro wx hBx
        (try dsimp only at hBx)
        go_simp
        try with_reducible rfl
      try simp only [Act.put, List.setIfInBounds_toArray, List.set_cons_zero, List.set_cons_succ]
      refine wpL_takeB (i := 8) (v := ?_) rfl (by kernel_rfl) (by kernel_rfl) (by kernel_rfl) (by decide) (fun _ _ _ h => h) (Or.inl ⟨by rfl, ?_⟩) (SAB.both hA hB) ?_
      rotate_left
      · intro wx hBx
        (try dsimp only at hBx)
        go_simp
        try with_reducible rfl
      try simp only [Act.put, List.setIfInBounds_toArray, List.set_cons_zero, List.set_cons_succ]
      refine wpL_takeB (i := 9) (v := ?_) rfl (by kernel_rfl) (by kernel_rfl) (by kernel_rfl) (by decide) (fun _ _ _ h => h) (Or.inl ⟨by rfl, ?_⟩) (SAB.both hA hB) ?_
      rotate_left
      · intro wx hBx
        (try dsimp only at hBx)
        go_simp
        try with_reducible rfl
      try simp only [Act.put, List.setIfInBounds_toArray, List.set_cons_zero, List.set_cons_succ]
      refine wpL_takeB (i := 10) (v := ?_) rfl (by kernel_rfl) (by kernel_rfl) (by kernel_rfl) (by decide) (fun _ _ _ h => h) (Or.inl ⟨by rfl, ?_⟩) (SAB.both hA hB) ?_
      rotate_left
      · intro wx hBx
        (try dsimp only at hBx)
        go_simp
        try with_reducible rfl
      try simp only [Act.put, List.setIfInBounds_toArray, List.set_cons_zero, List.set_cons_succ]
      refine wpL_done (by kernel_rfl) ?_
      clear hA hB hB1 hB2 hr hk3
      go_wp2_with fail
      go_ret2
      exact HP.out
end Go.Proofs.Ytcfpkmfppgodmaa
