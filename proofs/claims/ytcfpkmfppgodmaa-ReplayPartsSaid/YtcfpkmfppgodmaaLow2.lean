/- orphan.Lower. -/
import Derived.Test.YtcfpkmfppgodmaaLower
import Derived.Test.YtcfpkmfppgodmaaParts
import Derived.Test.YtcfpkmfppgodmaaLins
set_option linter.unusedVariables false
set_option linter.unusedSimpArgs false
set_option maxRecDepth 100000
namespace Go.Proofs.Ytcfpkmfppgodmaa
open Go.RowKit Go.Proofs

/-- Indexes that lie in their lineages. -/
def InR (l : List (List Ev)) (ys : List Int) : Prop := ys.length = l.length ∧ ∀ q, q < l.length → 0 ≤ ys.getD q 0 ∧ ys.getD q 0 ≤ ((l.getD q []).length : Int)
/-- Every event up to the indexes of the processes below k can be in the cut. -/
def FitR (l : List (List Ev)) (ys : List Int) (k : Nat) : Prop := ∀ (q j : Nat) (e : Ev), q < k → (j : Int) < ys.getD q 0 → (l.getD q [])[j]? = some e → possS l ys q e = true
def LowPost (l : List (List Ev)) (n : Nat) (w : World) (e : Ending) (w' : World) : Prop :=
  ∃ (A : Option Addr) (c : Nat) (ys : List Int), e = .returned (.slice A n c) ∧ InR l ys ∧ FitR l ys l.length ∧ Sl encI 1 w' (New w' w.heap.size) A n c ys ∧ Keep w w'
theorem idxF_neg {p : Ev → Bool} : ∀ {k : Nat} {l : List Ev}, idxF p k l < 0 → ∀ (j : Nat) (e : Ev), l[j]? = some e → p e = false
  | k, [], _, j, e, h => by simp at h
  | k, x :: l, h, j, e, he => by
    unfold idxF at h
    cases hx : p x with
    | true => rw [hx] at h; simp at h; omega
    | false =>
      rw [hx] at h
      cases j with
      | zero => simp at he; rw [← he]; exact hx
      | succ j => exact idxF_neg (k := k + 1) (by simpa using h) j e (by simpa using he)
theorem idxF_le {p : Ev → Bool} : ∀ {k : Nat} {l : List Ev}, 0 ≤ idxF p k l → (k : Int) ≤ idxF p k l ∧ idxF p k l < k + l.length
  | k, [], h => by simp [idxF] at h
  | k, x :: l, h => by
    unfold idxF at h ⊢
    cases hx : p x with
    | true => simp; omega
    | false =>
      rw [hx] at h
      have := idxF_le (k := k + 1) (l := l) (by simpa using h)
      simp only [Bool.false_eq_true, if_false, List.length_cons]
      omega
theorem InR.set {l : List (List Ev)} {ys : List Int} {q : Nat} {v : Int} (h : InR l ys) (hq : q < l.length) (h0 : 0 ≤ v) (h1 : v ≤ ys.getD q 0) : InR l (ys.set q v) := by
  refine ⟨by simp [h.1], fun p hp => ?_⟩
  have h2 := h.2 p hp
  by_cases e : q = p
  · subst e
    rw [getD_set_self (by rw [h.1]; exact hq)]
    omega
  · rw [getD_set_other e]
    exact h2
theorem allL_set {l : List (List Ev)} {ys : List Int} {q : Nat} {v : Int} (h : InR l ys) (hq : q < l.length) (h0 : 0 ≤ v) (h1 : v < ys.getD q 0) : allL l (ys.set q v) < allL l ys := by
  have hs : (ys.set q v).getD q 0 = v := getD_set_self (by rw [h.1]; exact hq)
  have := sumR_up (f := fun p => ((ys.set q v).getD p 0).toNat) (g := fun p => (ys.getD p 0).toNat) (q := q) (d := (ys.getD q 0).toNat - v.toNat) (by
    show (ys.getD q 0).toNat = ((ys.set q v).getD q 0).toNat + _
    rw [hs]; omega) l.length hq (fun i hi hne => by
    show (ys.getD i 0).toNat = ((ys.set q v).getD i 0).toNat
    rw [getD_set_other (fun h => hne h.symm)])
  unfold allL
  omega
def Lw1 (l : List (List Ev)) (gr n : Nat) (W : World) (i : Value) (wr : World) : Prop :=
  ∃ (k : Nat) (ys : List Int), i = .int .i64 k ∧ k ≤ n ∧ ys.length = l.length ∧ (∀ q, q < k → 0 ≤ ys.getD q 0 ∧ ys.getD q 0 ≤ ((l.getD q []).length : Int)) ∧ Blk wr gr 3 (ys.flatMap encI).toArray ∧ Only gr W wr
def Lw2 (l : List (List Ev)) (gr : Nat) (W : World) (gk : Nat) (v : Value) (wr : World) : Prop :=
  ∃ ys : List Int, gk = allL l ys ∧ InR l ys ∧ Blk wr gr 3 (ys.flatMap encI).toArray ∧ Only gr W wr
def Lw3 (l : List (List Ev)) (gr n : Nat) (W : World) (ys : List Int) (gk : Nat) (i : Value) (wr : World) : Prop :=
  ∃ q : Nat, i = .int .i64 q ∧ gk + q = n ∧ FitR l ys q ∧ Blk wr gr 3 (ys.flatMap encI).toArray ∧ Only gr W wr
theorem sl_of_blk {w : World} {g n : Nat} {t : TypeId} {ys : List Int} {S : Nat → Prop} (hb : Blk w g t (ys.flatMap encI).toArray) (hS : S g) (hl : ys.length = n) (hn : n ≤ 1000) : Sl encI 1 w S (some ⟨g, 0, none⟩) n n ys := by
  refine ⟨hl.symm, Nat.le_refl _, by simp [maxLen]; omega, by rw [flat_length encI_len, hl], fun _ => ⟨g, 0, rfl, hS, fun j u hu => ?_⟩⟩
  rw [Nat.zero_add, hb.cell]
  simpa using hu
set_option maxHeartbeats 16000000 in
theorem lower_any (w : World) (S : Nat → Prop) (A A1 : Option Addr) (n c c1 : Nat) (l : List (List Ev)) (xs : List Int) (hS : ∀ i, S i → i < w.heap.size) (hl : SlR w S 1 (EvsR w S) A n c l) (hx : Sl encI 1 w S A1 n c1 xs) (hn : n ≤ 1000) (hlen : ∀ x ∈ l, x.length ≤ 100000) :
    Calls Try.prog 19 #[.slice A n c, .slice A1 n c1] w (LowPost l n w) := by
  obtain ⟨iI, hi0, iz0, is0, ib0⟩ := info_of info_Int
  have hmk := fun W => run_make_row (P := Try.prog) 23 3 iI _ Try.underlying23 hi0 iz0 .i64 .i64 n n (Nat.le_refl _) (by rw [ib0]; omega) (by omega) W
  simp only [is0, made_zeros] at hmk
  have hnl := hl.1
  have hnx := hx.1
  have hnc := hl.2.1
  have hnc1 := hx.2.1
  generalize hW : w.alloc (.cells #[.slice A n c] 22) = W
  have hkW : Keep w W := hW ▸ Keep.new w _
  have hbl : Blk W w.heap.size 22 #[.slice A n c] := hW ▸ Blk.new w _ _
  have x0 : W.cell? ⟨w.heap.size, 0, none⟩ = some (.slice A n c) := by rw [hbl.cell]; rfl
  have HS := Lib.hid hS
  have HL := Lib.hid hl
  have HX := Lib.hid hx
  have HLEN := Lib.hid hlen
  have HNL := Lib.hid hnl
  have HNX := Lib.hid hnx
  have HKW := Lib.hid hkW
  have HBL := Lib.hid hbl
  have HMK := Lib.hid hmk
  clear hS hl hx hlen hnl hnx hkW hbl hmk
  clear hi0 iz0 is0 ib0
  go_enter Try.func19, Try.ntmps19
  go_upto_region 1 with fail
  clear hW
  go_step3
  have hm2 := HMK.out
  go_upto_region 2 with (refine wpList_store_all rfl _ (.tmp 5) (.tmp 12) rfl (W.alloc (.cells (zerosA n) 3)).heap.size 23 _ [.slice (some ⟨W.heap.size, 0, none⟩) n n] rfl rfl (Blk.new _ _ _) rfl (by kernel_rfl) rfl ?_; intro w5 hb5 hs5)
  have hk1 : Keep W (W.alloc (.cells (zerosA n) 3)) := Keep.new _ _
  have hb1 : Blk (W.alloc (.cells (zerosA n) 3)) W.heap.size _ _ := Blk.new W _ _
  have hsz1 : (W.alloc (.cells (zerosA n) 3)).heap.size = W.heap.size + 1 := by simp only [World.alloc, Array.size_push]
  generalize W.alloc (.cells (zerosA n) 3) = W1 at *
  have hk2 : Keep W1 (W1.alloc (.cells #[.slice (some ⟨W.heap.size, 0, none⟩) n n] 23)) := Keep.new _ _
  have hb2 : Blk (W1.alloc (.cells #[.slice (some ⟨W.heap.size, 0, none⟩) n n] 23)) W1.heap.size _ _ := Blk.new W1 _ _
  generalize W1.alloc (.cells #[.slice (some ⟨W.heap.size, 0, none⟩) n n] 23) = w5 at *
  rw [hsz1] at hb2
  have l1 := hb1.lt
  have l2 := hb2.lt
  have hbr := hk2.blk hb1 l1
  have hk5 : Keep w w5 := Keep.trans HKW.out (Keep.trans hk1 hk2)
  have hbl5 := (Keep.trans hk1 hk2).blk HBL.out HBL.out.lt
  have hblw := HBL.out.lt
  obtain ⟨gr, hgr⟩ : ∃ g, g = W.heap.size := ⟨_, rfl⟩
  obtain ⟨gy, hgy⟩ : ∃ g, g = W.heap.size + 1 := ⟨_, rfl⟩
  obtain ⟨gl, hgl⟩ : ∃ g, g = w.heap.size := ⟨_, rfl⟩
  rw [← hgy] at hb2 ⊢
  rw [← hgr] at hb2 hbr ⊢
  rw [← hgl] at hbl5 ⊢
  have hgn : gy ≠ gr := by omega
  have hgm : gl ≠ gr := by omega
  have hgw : w.heap.size ≤ gl := by omega
  have hgv : w.heap.size ≤ gr := by omega
  have hgu : w.heap.size ≤ gy := by omega
  have hz5 := hk5.size
  have hkz : ∀ wx, Only gr w5 wx → Keep w wx := fun wx hk => Same.trans hk5 hk (fun i hi => by omega)
  have hlz : ∀ wx, Only gr w5 wx → SlR wx S 1 (EvsR wx S) A n c l := fun wx hk => HL.out.keep ((hkz wx hk).mono HS.out) (EvsR.keep ((hkz wx hk).mono HS.out))
  have hxz : ∀ wx, Only gr w5 wx → Sl encI 1 wx S A1 n c1 xs := fun wx hk => HX.out.keep ((hkz wx hk).mono HS.out)
  have hlb : ∀ wx, Only gr w5 wx → Blk wx gl 22 #[.slice A n c] := fun wx hk => hk.blk hbl5 ⟨by omega, by omega⟩
  have hyb : ∀ wx, Only gr w5 wx → Blk wx gy 23 #[.slice (some ⟨gr, 0, none⟩) n n] := fun wx hk => hk.blk hb2 ⟨by omega, by omega⟩
  have hrel0 : Lw1 l gr n w5 (.int .i64 0) w5 := ⟨0, zerosL n, rfl, Nat.zero_le _, by rw [← HNL.out]; simp [zerosL], fun q hq => absurd hq (by omega), by rw [zeros_flat]; exact hbr, Same.refl _ _⟩
  have x5 : w5.cell? ⟨gl, 0, none⟩ = some (.slice A n c) := by rw [hbl5.cell]; rfl
  have m1 : min (n : Int) (n : Int) = (n : Int) := by omega
  have m0 : min n n = n := Nat.min_self n
  have hrl : gr < w5.heap.size := hbr.lt
  have HKZ := Lib.hid hkz
  have HLZ := Lib.hid hlz
  have HXZ := Lib.hid hxz
  have HLB := Lib.hid hlb
  have HYB := Lib.hid hyb
  have HREL0 := Lib.hid hrel0
  clear hkz hlz hxz hlb hyb hrel0
  clear hk5 hbl5 hb2 hbr hk2 hk1 hb1 hgr hgy hgl hsz1 HBL HKW HMK HL HX hm2 l1 l2 x0 hblw
  go_wp2_with fail
  go_loopw [18] (fun i wr => Lw1 l gr n w5 i wr) (fun i _ => n - (intOf i).toNat)
  case atStart => exact HREL0.out
  case round =>
    clear HREL0 x5
    obtain ⟨k, ys, rfl, hkn', hyl, hyr, hrw, ho⟩ := hrel
    have hzr := ho.size
    by_cases hkn : k < n
    · obtain ⟨b0, o0, cs, evs, rfl, hS0, hev, ⟨Ae, ne, ce, rfl, hse⟩, -, hc0⟩ := (HLZ.out wr ho).at_ hkn
      obtain ⟨b1, o1, xv, rfl, hS1, hxv, hc1⟩ := (HXZ.out wr ho).at_ encI_len hkn
      have hd1 : decide (k < n) = true := by simpa using hkn
      have hd1' : decide ((k : Int) < (n : Int)) = true := by simp; omega
      have i0 : (0 : Int) ≤ k := by omega
      have i1 : (k : Int) < n := by omega
      have hb0l : b0 < wr.heap.size := by have := HS.out _ hS0; omega
      have hb1l : b1 < wr.heap.size := by have := HS.out _ hS1; omega
      have y0 : ∀ wx, Keep wr wx → wx.cell? ⟨b0, o0 + k, none⟩ = some (.slice Ae ne ce) := fun wx hx => (hx.cell (p := ⟨b0, o0 + k, none⟩) hb0l).trans (by have := hc0 0 _ rfl; simpa using this)
      have y1 : ∀ wx, Keep wr wx → wx.cell? ⟨b1, o1 + k, none⟩ = some (.int .i64 xv) := fun wx hx => (hx.cell (p := ⟨b1, o1 + k, none⟩) hb1l).trans (by have := hc1 0 _ rfl; simpa using this)
      have y2 : ∀ wx, Keep wr wx → wx.cell? ⟨gl, 0, none⟩ = some (.slice (some ⟨b0, o0, none⟩) n c) := fun wx hx => by rw [(hx.blk (HLB.out wr ho) (HLB.out wr ho).lt).cell]; rfl
      have y3 : ∀ wx, Keep wr wx → wx.cell? ⟨gy, 0, none⟩ = some (.slice (some ⟨gr, 0, none⟩) n n) := fun wx hx => by rw [(hx.blk (HYB.out wr ho) (HYB.out wr ho).lt).cell]; rfl
      have hne : ne = evs.length := hse.1
      have hgl : (l.getD k []).length = ne := by rw [getD_of hev, hne]
      have hkl : k < l.length := by have := HNL.out; omega
      obtain ⟨v, hvv⟩ : ∃ v, v = (if (ne : Int) < (if xv < 0 then 0 else xv) then (ne : Int) else if xv < 0 then 0 else xv) := ⟨_, rfl⟩
      have hv0 : 0 ≤ v ∧ v ≤ ne := by rw [hvv]; split <;> split <;> omega
      have hnx : ∀ w9, Blk w9 gr 3 ((ys.set k v).flatMap encI).toArray → Only gr w5 w9 → Lw1 l gr n w5 (.int .i64 ((k : Int) + 1)) w9 := fun w9 hb9 ho9 => ⟨k + 1, ys.set k v, by go_num, by omega, by simp [hyl], fun q hq => by
        by_cases e : k = q
        · subst e
          rw [getD_set_self (by omega), hgl]
          exact hv0
        · rw [getD_set_other e]
          exact hyr q (by omega), hb9, ho9⟩
      have hgr9 := hrw.lt
      have HO := Lib.hid ho
      have HRW := Lib.hid hrw
      have HNX := Lib.hid hnx
      have HVV := Lib.hid hvv
      have HYL := Lib.hid hyl
      clear ho hrw hnx hvv hyl
      clear hc0 hc1 hse hev hxv hyr hv0 hne hgl
      go_upto_region 5 with fail
      refine wp_region_L 14 (fun wx => Keep wr wx) (fun wx => Only gr wr wx) (by kernel_rfl) (Same.drew (Same.refl _ _)) (Same.drew (Same.refl _ _)) (fun hA hB => ?_)
      generalize hu0 : wr.drew = u0 at hA hB ⊢
      clear hu0
      refine wpL_takeA (i := 0) (v := ?_) rfl (by kernel_rfl) (by kernel_rfl) (by kernel_rfl) (by kernel_rfl) (by decide) (fun _ _ _ h => h) (Or.inl ⟨by rfl, ?_⟩) hA hB ?_
      rotate_left
      · rintro wx ⟨hAx, hBx⟩
        (try dsimp only at hBx); (try dsimp only at hAx)
        go_simp
        try with_reducible rfl
      try simp only [Act.put, List.setIfInBounds_toArray, List.set_cons_zero, List.set_cons_succ]
      refine wpL_takeA (i := 1) (v := ?_) rfl (by kernel_rfl) (by kernel_rfl) (by kernel_rfl) (by kernel_rfl) (by decide) (fun _ _ _ h => h) (Or.inl ⟨by rfl, ?_⟩) hA hB ?_
      rotate_left
      · rintro wx ⟨hAx, hBx⟩
        (try dsimp only at hBx); (try dsimp only at hAx)
        go_simp
        try with_reducible rfl
      try simp only [Act.put, List.setIfInBounds_toArray, List.set_cons_zero, List.set_cons_succ]
      refine wpL_takeA (i := 2) (v := ?_) rfl (by kernel_rfl) (by kernel_rfl) (by kernel_rfl) (by kernel_rfl) (by decide) (fun _ _ _ h => h) (Or.inl ⟨by rfl, ?_⟩) hA hB ?_
      rotate_left
      · rintro wx ⟨hAx, hBx⟩
        (try dsimp only at hBx); (try dsimp only at hAx)
        go_simp
        try with_reducible rfl
      try simp only [Act.put, List.setIfInBounds_toArray, List.set_cons_zero, List.set_cons_succ]
      refine wpL_takeA (i := 3) (v := ?_) rfl (by kernel_rfl) (by kernel_rfl) (by kernel_rfl) (by kernel_rfl) (by decide) (fun _ _ _ h => h) (Or.inl ⟨by rfl, ?_⟩) hA hB ?_
      rotate_left
      · rintro wx ⟨hAx, hBx⟩
        (try dsimp only at hBx); (try dsimp only at hAx)
        go_simp
        try with_reducible rfl
      try simp only [Act.put, List.setIfInBounds_toArray, List.set_cons_zero, List.set_cons_succ]
      refine wpL_takeA (i := 4) (v := ?_) rfl (by kernel_rfl) (by kernel_rfl) (by kernel_rfl) (by kernel_rfl) (by decide) (fun _ _ _ h => h) (Or.inl ⟨by rfl, ?_⟩) hA hB ?_
      rotate_left
      · rintro wx ⟨hAx, hBx⟩
        (try dsimp only at hBx); (try dsimp only at hAx)
        go_simp
        try with_reducible rfl
      try simp only [Act.put, List.setIfInBounds_toArray, List.set_cons_zero, List.set_cons_succ]
      refine wpL_takeA (i := 5) (v := ?_) rfl (by kernel_rfl) (by kernel_rfl) (by kernel_rfl) (by kernel_rfl) (by decide) (fun _ _ _ h => h) (Or.inl ⟨by rfl, ?_⟩) hA hB ?_
      rotate_left
      · rintro wx ⟨hAx, hBx⟩
        (try dsimp only at hBx); (try dsimp only at hAx)
        go_simp
        try with_reducible rfl
      try simp only [Act.put, List.setIfInBounds_toArray, List.set_cons_zero, List.set_cons_succ]
      refine wpL_takeA (i := 6) (v := ?_) rfl (by kernel_rfl) (by kernel_rfl) (by kernel_rfl) (by kernel_rfl) (by decide) (fun _ _ _ h => h) (Or.inl ⟨by rfl, ?_⟩) hA hB ?_
      rotate_left
      · rintro wx ⟨hAx, hBx⟩
        (try dsimp only at hBx); (try dsimp only at hAx)
        go_simp
        try with_reducible rfl
      try simp only [Act.put, List.setIfInBounds_toArray, List.set_cons_zero, List.set_cons_succ]
      refine wpL_takeA (i := 7) (v := ?_) rfl (by kernel_rfl) (by kernel_rfl) (by kernel_rfl) (by kernel_rfl) (by decide) (fun _ _ _ h => h) (Or.inl ⟨by rfl, ?_⟩) hA hB ?_
      rotate_left
      · rintro wx ⟨hAx, hBx⟩
        (try dsimp only at hBx); (try dsimp only at hAx)
        go_simp
        try with_reducible rfl
      try simp only [Act.put, List.setIfInBounds_toArray, List.set_cons_zero, List.set_cons_succ]
      refine wpL_takeA (i := 8) (v := ?_) rfl (by kernel_rfl) (by kernel_rfl) (by kernel_rfl) (by kernel_rfl) (by decide) (fun _ _ _ h => h) (Or.inl ⟨by rfl, ?_⟩) hA hB ?_
      rotate_left
      · rintro wx ⟨hAx, hBx⟩
        (try dsimp only at hBx); (try dsimp only at hAx)
        go_simp
        try with_reducible rfl
      try simp only [Act.put, List.setIfInBounds_toArray, List.set_cons_zero, List.set_cons_succ]
      refine wpL_takeA (i := 9) (v := ?_) rfl (by kernel_rfl) (by kernel_rfl) (by kernel_rfl) (by kernel_rfl) (by decide) (fun _ _ _ h => h) (Or.inl ⟨by rfl, ?_⟩) hA hB ?_
      rotate_left
      · rintro wx ⟨hAx, hBx⟩
        (try dsimp only at hBx); (try dsimp only at hAx)
        go_simp
        try with_reducible rfl
      try simp only [Act.put, List.setIfInBounds_toArray, List.set_cons_zero, List.set_cons_succ]
      refine wpL_takeA (i := 10) (v := ?_) rfl (by kernel_rfl) (by kernel_rfl) (by kernel_rfl) (by kernel_rfl) (by decide) (fun _ _ _ h => h) (Or.inl ⟨by rfl, ?_⟩) hA hB ?_
      rotate_left
      · rintro wx ⟨hAx, hBx⟩
        (try dsimp only at hBx); (try dsimp only at hAx)
        go_simp
        try with_reducible rfl
      try simp only [Act.put, List.setIfInBounds_toArray, List.set_cons_zero, List.set_cons_succ]
      refine wpL_takeA (i := 11) (v := ?_) rfl (by kernel_rfl) (by kernel_rfl) (by kernel_rfl) (by kernel_rfl) (by decide) (fun _ _ _ h => h) (Or.inl ⟨by rfl, ?_⟩) hA hB ?_
      rotate_left
      · rintro wx ⟨hAx, hBx⟩
        (try dsimp only at hBx); (try dsimp only at hAx)
        go_simp
        try with_reducible rfl
      try simp only [Act.put, List.setIfInBounds_toArray, List.set_cons_zero, List.set_cons_succ]
      refine wpL_takeA (i := 12) (v := ?_) rfl (by kernel_rfl) (by kernel_rfl) (by kernel_rfl) (by kernel_rfl) (by decide) (fun _ _ _ h => h) (Or.inl ⟨by rfl, ?_⟩) hA hB ?_
      rotate_left
      · rintro wx ⟨hAx, hBx⟩
        (try dsimp only at hBx); (try dsimp only at hAx)
        go_simp
        try with_reducible rfl
      try simp only [Act.put, List.setIfInBounds_toArray, List.set_cons_zero, List.set_cons_succ]
      refine wpL_takeA (i := 13) (v := ?_) rfl (by kernel_rfl) (by kernel_rfl) (by kernel_rfl) (by kernel_rfl) (by decide) (fun _ _ _ h => h) (Or.inl ⟨by rfl, ?_⟩) hA hB ?_
      rotate_left
      · rintro wx ⟨hAx, hBx⟩
        (try dsimp only at hBx); (try dsimp only at hAx)
        go_simp
        try with_reducible rfl
      try simp only [Act.put, List.setIfInBounds_toArray, List.set_cons_zero, List.set_cons_succ]
      rw [← HVV.out]
      have hrw := hA.blk HRW.out hgr9
      have hrl9 : (ys.flatMap encI).toArray.size = l.length := by simp [flat_length encI_len]; exact HYL.out
      refine wpL_one (i := 14) (by kernel_rfl) (StepL.mk rfl (fun K hK => ?_))
      refine step_store_one rfl _ _ _ rfl gr k 3 _ (.int .i64 v) rfl rfl hrw (by omega) (by kernel_rfl) rfl rfl ?_
      intro w9 hb9 hs9
      have hO9 : Only gr wr w9 := Same.trans hB hs9 (fun i hi => hi.2)
      refine hK.out _ _ (SAB.past (by kernel_rfl) hO9) (fun hSS => ?_)
      clear hK K hA hB
      have hB := hSS.2
      have hA : True := trivial
      (try dsimp only at hB); (try dsimp only at hA); clear hSS
      try simp only [Act.put, List.setIfInBounds_toArray, List.set_cons_zero, List.set_cons_succ]
      refine wpL_done (by kernel_rfl) ?_
      have hfin := HNX.out w9 (by rw [flatI_set]; exact hb9) (Only.trans HO.out hO9)
      have HFIN := Lib.hid hfin
      clear hfin
      clear hA hB hO9 hb9 hs9 hrw y0 y1 y2 y3
      go_wp2_with fail
      go_roundw
      case rel => exact HFIN.out
      case measure => simp [intOf]; omega
    · have hd1 : decide (k < n) = false := by simpa using hkn
      have hd1' : decide ((k : Int) < (n : Int)) = false := by simp; omega
      have hir : InR l ys := ⟨hyl, fun q hq => hyr q (by have := HNL.out; omega)⟩
      obtain ⟨w6, rfl⟩ : ∃ w6 : World, w6 = wr := ⟨_, rfl⟩
      have hrel1 : Lw2 l gr w5 (allL l ys) (.int .i64 0) w6 := ⟨ys, rfl, hir, hrw, ho⟩
      have x2 : w6.cell? ⟨gl, 0, none⟩ = some (.slice A n c) := by rw [(HLB.out w6 ho).cell]; rfl
      have HREL1 := Lib.hid hrel1
      clear hrel1
      clear hyr hrw ho hyl hir hd1 hd1' x2
      go_wp2_with fail
      go_step3
      go_wp2_with fail
      go_loopg [9] (allL l ys) (fun gk v wr => Lw2 l gr w5 gk v wr)
      case atStart => exact HREL1.out
      case round =>
        clear HREL1
        obtain ⟨ys2, rfl, hir, hrw, ho⟩ := hrel
        have hzr := ho.size
        have x2 : wr.cell? ⟨gl, 0, none⟩ = some (.slice A n c) := by rw [(HLB.out wr ho).cell]; rfl
        obtain ⟨wo, rfl⟩ : ∃ wo : World, wo = wr := ⟨_, rfl⟩
        have hrel2 : Lw3 l gr n w5 ys2 n (.int .i64 0) wo := ⟨0, rfl, rfl, fun q j e hq => absurd hq (by omega), hrw, ho⟩
        have HREL2 := Lib.hid hrel2
        have HIR := Lib.hid hir
        clear hrel2 hir
        clear hrw ho
        go_wp2_with fail
        go_loopg [38] n (fun gk i wr => Lw3 l gr n w5 ys2 gk i wr)
        case atStart => exact HREL2.out
        case round =>
          clear HREL2
          obtain ⟨q, rfl, hgq, hfit, hrw, ho⟩ := hrel
          by_cases hqn : q < n
          · obtain ⟨b0, o0, cs, evs, rfl, hS0, hev, ⟨Ae, ne, ce, rfl, hse⟩, -, hc0⟩ := (HLZ.out wr ho).at_ hqn
            have hd1 : decide (q < n) = true := by simpa using hqn
            have hd1' : decide ((q : Int) < (n : Int)) = true := by simp; omega
            have i0 : (0 : Int) ≤ q := by omega
            have i1 : (q : Int) < n := by omega
            have hzr := ho.size
            have x0 : wr.cell? ⟨b0, o0 + q, none⟩ = some (.slice Ae ne ce) := by have := hc0 0 _ rfl; simpa using this
            have hql : q < l.length := by have := HNL.out; omega
            have hge := getD_of (d := ([] : List Ev)) hev
            have hyq := HIR.out.2 q hql
            have hne := hse.1
            have hnce := hse.2.1
            rw [hge] at hyq
            obtain ⟨yn, hyn⟩ : ∃ yn : Nat, ys2.getD q 0 = yn := ⟨(ys2.getD q 0).toNat, by omega⟩
            rw [hyn] at hyq
            have hne5 : ne ≤ 100000 := by have := HLEN.out _ (List.mem_of_getElem? hev); omega
            have hev2 : (l.getD q []) = evs := hge
            have HRW := Lib.hid hrw
            have HFIT := Lib.hid hfit
            have HSE := Lib.hid hse
            have HEV2 := Lib.hid hev2
            have HYN := Lib.hid hyn
            have HO := Lib.hid ho
            clear hrw hfit hse hev2 hyn ho
            clear hc0 hev hge
            go_upto_region 10 with fail
            have hk7 : Keep wr (wr.alloc (.cells #[.int .i64 q] 3)) := Keep.new _ _
            have hb7 : Blk (wr.alloc (.cells #[.int .i64 q] 3)) wr.heap.size 3 #[.int .i64 q] := Blk.new wr _ _
            generalize wr.alloc (.cells #[.int .i64 q] 3) = w7 at *
            have hO7 : Only gr w5 w7 := Only.trans HO.out (hk7.only gr)
            have hz7 := hk7.size
            obtain ⟨gq, hgq9⟩ : ∃ g, g = wr.heap.size := ⟨_, rfl⟩
            rw [← hgq9] at hb7 ⊢
            have hgq8 : wr.heap.size ≤ gq := by omega
            have hgql := hb7.lt
            clear hgq9
            have hrw7 := hk7.blk HRW.out HRW.out.lt
            have hgr7 := HRW.out.lt
            have hbl7 := HLB.out w7 hO7
            have hby7 := HYB.out w7 hO7
            have x1 : w7.cell? ⟨gy, 0, none⟩ = some (.slice (some ⟨gr, 0, none⟩) n n) := by rw [hby7.cell]; rfl
            have x2 : w7.cell? ⟨gq, 0, none⟩ = some (.int .i64 q) := by rw [hb7.cell]; rfl
            have x3 : w7.cell? ⟨gr, q, none⟩ = some (.int .i64 (yn : Int)) := by rw [hrw7.cell, flatI_get (by rw [HIR.out.1]; exact hql), HYN.out]
            have j0 : (0 : Int) ≤ yn := by omega
            have j1 : (yn : Int) ≤ ce := by omega
            have hSw : ∀ i, S i → i < w7.heap.size := fun i hi => by have := HS.out i hi; omega
            have hevs7 : Sl encEv 7 w7 (fun i => i < w7.heap.size) Ae yn ce (evs.take yn) := ((HSE.out.keep (hk7.mono (fun i hi => by have := HS.out i hi; omega))).more hSw).to_ encEv_len (by omega)
            have hcap : Cap w7 (fun i => i < w7.heap.size) gl gy gq (some ⟨b0, o0, none⟩) n c (some ⟨gr, 0, none⟩) n l ys2 q :=
              ⟨hbl7, hby7, hb7, (HLZ.out w7 hO7).more hSw (EvsR.more hSw), sl_of_blk hrw7 (by omega) (by have := HIR.out.1; have := HNL.out; omega) hn, fun i hi => hi⟩
            have key := indexf_any w7 _ gl gy gq _ n c _ n l ys2 q hcap hn HLEN.out Ae yn ce (evs.take yn) hevs7 (by omega)
            have hytl : (evs.take yn).length = yn := by rw [List.length_take]; have := HSE.out.1; omega
            have hgyl := hby7.lt
            have KEY := Lib.hid key
            have HO7 := Lib.hid hO7
            have HRW7 := Lib.hid hrw7
            have HYTL := Lib.hid hytl
            have HB7 := Lib.hid hb7
            clear key hO7 hrw7 hytl hb7
            clear hevs7 hcap hbl7 hby7 hk7
            go_wp2_with fail
            refine KEY.out.mono ?_
            rintro e w8 ⟨rfl, hk8⟩
            have hO8 : Only gr w5 w8 := Only.trans HO7.out (hk8.only gr)
            have hrw8 := hk8.blk HRW7.out HRW7.out.lt
            have y2 : w8.cell? ⟨gq, 0, none⟩ = some (.int .i64 q) := by rw [(hk8.blk HB7.out HB7.out.lt).cell]; rfl
            have hz8 := hk8.size
            obtain ⟨iv, hiv⟩ : ∃ iv, iv = idxF (outS l ys2 q) 0 (evs.take yn) := ⟨_, rfl⟩
            rw [← hiv]
            have HO8 := Lib.hid hO8
            have HRW8 := Lib.hid hrw8
            have HIV := Lib.hid hiv
            clear hO8 hrw8 hiv
            clear hk8 x0 x1 x2 x3 KEY HO7 HRW7
            by_cases hi0 : 0 ≤ iv
            · have t0 : decide ((0 : Int) ≤ iv) = true := by simpa using hi0
              have hile := idxF_le (k := 0) (l := evs.take yn) (p := outS l ys2 q) (by rw [← HIV.out]; exact hi0)
              rw [← HIV.out, HYTL.out] at hile
              have y1 : w8.cell? ⟨gy, 0, none⟩ = some (.slice (some ⟨gr, 0, none⟩) n n) := by rw [(HYB.out w8 HO8.out).cell]; rfl
              have hlt : allL l (ys2.set q iv) < allL l ys2 := allL_set HIR.out hql hi0 (by rw [HYN.out]; omega)
              have hir2 : InR l (ys2.set q iv) := HIR.out.set hql hi0 (by rw [HYN.out]; omega)
              have hrl9 : (ys2.flatMap encI).toArray.size = n := by simp [flat_length encI_len]; have := HIR.out.1; have := HNL.out; omega
              have HIR2 := Lib.hid hir2
              clear hir2
              clear hile
              go_wp2_with (refine wpList_store_one rfl _ (.tmp 56) (.tmp 55) rfl gr q 3 _ (.int .i64 iv) rfl rfl HRW8.out (by omega) (by kernel_rfl) rfl rfl ?_; intro w9 hb9 hs9)
              go_roundg (allL l (ys2.set q iv))
              case measure => exact hlt
              case rel => exact ⟨_, rfl, HIR2.out, by rw [flatI_set]; exact hb9, Same.trans HO8.out hs9 (fun i hi => hi.2)⟩
            · have t0 : decide ((0 : Int) ≤ iv) = false := by simpa using hi0
              have hneg := idxF_neg (k := 0) (l := evs.take yn) (p := outS l ys2 q) (by rw [← HIV.out]; omega)
              have hfit2 : FitR l ys2 (q + 1) := fun p j e hp hj he => by
                by_cases hpq : p = q
                · subst hpq
                  rw [HEV2.out] at he
                  rw [HYN.out] at hj
                  have h2 := hneg j e (by rw [List.getElem?_take_of_lt (by omega)]; exact he)
                  simpa [outS] using h2
                · exact HFIT.out p j e (by omega) hj he
              have hfin : Lw3 l gr n w5 ys2 (gk - 1) (.int .i64 ((q : Int) + 1)) w8 := ⟨q + 1, by go_num, by omega, hfit2, HRW8.out, HO8.out⟩
              have HFIN := Lib.hid hfin
              clear hfin
              clear hneg hfit2
              go_wp2_with fail
              go_roundg (gk - 1)
              case measure => omega
              case rel => exact HFIN.out
          · have hqe : q = n := by omega
            have hd1 : decide (q < n) = false := by simpa using hqn
            have hd1' : decide ((q : Int) < (n : Int)) = false := by simp; omega
            have hrs := hrw
            have hkw := HKZ.out wr ho
            have hfa : FitR l ys2 l.length := by rw [← HNL.out, ← hqe]; exact hfit
            have hnl2 := HIR.out.1
            have hnn := HNL.out
            have hlt := hrw.lt
            have hsl : Sl encI 1 wr (New wr w.heap.size) (some ⟨gr, 0, none⟩) n n ys2 := sl_of_blk hrs ⟨by omega, by omega⟩ (by omega) hn
            have hfin : LowPost l n w (.returned (.slice (some ⟨gr, 0, none⟩) n n)) wr := ⟨_, n, ys2, rfl, HIR.out, hfa, hsl, hkw⟩
            have x3 : wr.cell? ⟨gy, 0, none⟩ = some (.slice (some ⟨gr, 0, none⟩) n n) := by rw [(HYB.out wr ho).cell]; rfl
            have HFIN := Lib.hid hfin
            clear hfin
            clear hfit hrw ho hrs hkw hfa hnl2 hnn hsl hqe hgq
            go_wp2_with fail
            (try rw [Exit.noGoto_ret])
            go_ret
            exact HFIN.out
end Go.Proofs.Ytcfpkmfppgodmaa
