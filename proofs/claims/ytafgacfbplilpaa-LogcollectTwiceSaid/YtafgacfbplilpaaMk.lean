/- Contracts of the maker's functions: New, Left, Next, Int, Event. -/
import Derived.Test.YtafgacfbplilpaaProg
import Derived.Test.YtafgacfbplilpaaData
set_option linter.unusedVariables false
set_option linter.unusedSimpArgs false
namespace Go.Proofs.Ytafgacfbplilpaa
open Go.RowKit Go.Proofs

/-- Block gc is a list of choices, r of which are left; it and its bytes lie below B. -/
def Cod (w : World) (B gc r : Nat) : Prop := gc < B ∧ B ≤ w.heap.size ∧ ∃ (A : Option Addr) (n c i : Nat), Blk w gc 76 #[.slice A n c, .int .i64 i] ∧ i + r = n ∧ n ≤ 4096 ∧
  ∀ j, j < n → ∃ ad b, A = some ⟨ad, b, none⟩ ∧ ad ≠ gc ∧ ad < B ∧ ∃ x : Nat, x < 256 ∧ w.cell? ⟨ad, b + j, none⟩ = some (.int .u8 x)
theorem Cod.lt {w : World} {B gc r : Nat} (h : Cod w B gc r) : gc < w.heap.size := by have := h.1; have := h.2.1; omega
theorem Cod.same {w w' : World} {B gc r : Nat} (h : Cod w B gc r) (k : Same (· < B) w w') : Cod w' B gc r := by
  obtain ⟨h1, h2, A, n, c, i, hb, hi, hn, hc⟩ := h
  refine ⟨h1, Nat.le_trans h2 k.size, A, n, c, i, k.blk hb h1, hi, hn, fun j hj => ?_⟩
  obtain ⟨ad, b, e, h3, h4, x, hx, hcell⟩ := hc j hj
  exact ⟨ad, b, e, h3, h4, x, hx, (k.cell (p := ⟨ad, b + j, none⟩) h4).trans hcell⟩
theorem Cod.keep {w w' : World} {B gc r : Nat} (h : Cod w B gc r) (k : Keep w w') : Cod w' B gc r := h.same (Same.mono k fun _ hi => Nat.lt_of_lt_of_le hi h.2.1)
theorem Cod.alloc {w : World} {B gc r : Nat} (h : Cod w B gc r) (o : Obj) : Cod (w.alloc o) B gc r := h.keep (Keep.new w o)

theorem Cod.write {w w' : World} {B gc r k : Nat} (h : Cod w B gc r) (s : Same (· ≠ k) w w') (hk : B ≤ k) : Cod w' B gc r := h.same (s.mono fun i hi => by omega)

theorem left_any (w : World) (B gc r : Nat) (h : Cod w B gc r) : Calls Try.prog 19 #[.pointer (some ⟨gc, 0, none⟩)] w fun e w' => e = .returned (.bool (decide (0 < r))) ∧ ∃ k, w' = w.drewN k := by
  obtain ⟨_, _, A, n, c, i, hb, hi, hn, hc⟩ := h
  have h0 := hb.cell 0
  have h1 := hb.cell 1
  simp at h0 h1
  have hr : decide (i < n) = decide (0 < r) := by simp; omega
  have HR := Lib.hid hr
  clear hr hb hc hi
  go_enter Try.func19, Try.ntmps19
  go_wp2
  go_quiet (fail)
  go_wp2
  go_ret
  exact ⟨by simp [← HR.out], _, rfl⟩

def NextPost (n : Int) (B gc r : Nat) (w : World) (e : Ending) (w' : World) : Prop :=
  ∃ v : Int, 0 ≤ v ∧ v < n ∧ e = .returned (.int .i64 v) ∧ Cod w' B gc (r - 1) ∧ Only gc w w'

theorem next_any (w : World) (B gc r : Nat) (n : Int) (h : Cod w B gc r) (hn : 1 ≤ n) (hn2 : n ≤ 4611686018427387904) : Calls Try.prog 13 #[.pointer (some ⟨gc, 0, none⟩), .int .i64 n] w (NextPost n B gc r w) := by
  have hl := left_any w B gc r h
  have HL := Lib.hid hl
  clear hl
  have H := Lib.hid h
  obtain ⟨hgB, hBw, A, len, c, i, hb, hi, hlen, hc⟩ := h
  by_cases hr : 0 < r
  · have hlt : i < len := by omega
    obtain ⟨ad, b, rfl, hne, hlt2, x, hx, hcell⟩ := hc i hlt
    have h0 := hb.cell 0
    have h1 := hb.cell 1
    have f1 := hb.frozen 1
    simp at h0 h1
    have hd : decide (0 < r) = true := by simp; omega
    have hb2 := fun k => Lib.hid (Blk.set_ (w := w.drewN k) hb 1 (.int .i64 (i + 1)))
    have q0 : ∀ k, ((w.drewN k).setCell ⟨gc, 1, none⟩ (.int .i64 (i + 1))).cell? ⟨gc, 0, none⟩ = some (.slice (some ⟨ad, b, none⟩) len c) := fun k => by rw [(hb2 k).out.cell]; simp
    have q1 : ∀ k, ((w.drewN k).setCell ⟨gc, 1, none⟩ (.int .i64 (i + 1))).cell? ⟨gc, 1, none⟩ = some (.int .i64 (i + 1)) := fun k => by rw [(hb2 k).out.cell]; simp
    have q2 : ∀ k, ((w.drewN k).setCell ⟨gc, 1, none⟩ (.int .i64 (i + 1))).cell? ⟨ad, b + i, none⟩ = some (.int .u8 x) := fun k => by rw [World.cell?_setCell_other _ _ _ _ (fun q => hne (congrArg Addr.block q).symm)]; exact hcell
    have HI := Lib.hid hi
    have HC := Lib.hid hc
    clear hi hc hb
    go_enter Try.func13, Try.ntmps13
    go_wp2_with (go_at_call 19; refine (HL.out).mono ?_; rintro e w' ⟨rfl, k, rfl⟩)
    go_quiet (fail)
    go_wp2
    go_ret
    refine ⟨x % n, Int.emod_nonneg _ (by omega), Int.emod_lt_of_pos _ (by omega), rfl, ⟨hgB, by simpa [World.setCell] using hBw, some ⟨ad, b, none⟩, len, c, i + 1, ?_, by have := HI.out; omega, hlen, fun j hj => ?_⟩, ?_⟩
    · exact (show Blk _ gc 76 _ from (hb2 k).out)
    · obtain ⟨ad', b', e, h3, h4, y, hy, hcy⟩ := HC.out j hj
      refine ⟨ad', b', e, h3, h4, y, hy, ?_⟩
      exact (World.cell?_setCell_other (w.drewN k) ⟨gc, 1, none⟩ ⟨ad', b' + j, none⟩ _ (fun q => h3 (congrArg Addr.block q).symm)).trans hcy
    · exact Same.drewN (Same.setCell (Same.drewN (Same.refl _ _) _) (fun h => h.2 rfl) _) _
  · have hd : decide (0 < r) = false := by simp; omega
    clear hc hb hi
    go_enter Try.func13, Try.ntmps13
    go_wp2_with (go_at_call 19; refine (HL.out).mono ?_; rintro e w' ⟨rfl, k, rfl⟩)
    go_ret
    refine ⟨0, by omega, by omega, rfl, ?_, ?_⟩
    · have := H.out
      rw [show r - 1 = r from by omega]
      exact this
    · exact Same.drewN (Same.refl _ _) _


def IntPost (B gc r : Nat) (w : World) (e : Ending) (w' : World) : Prop :=
  ∃ v : Int, (Lit.int .i64 v).wf = true ∧ e = .returned (.int .i64 v) ∧ (∃ r', r' ≤ r - 1 ∧ Cod w' B gc r') ∧ Only gc w w'

theorem int_any (w : World) (B gc r : Nat) (h : Cod w B gc r) : Calls Try.prog 34 #[.pointer (some ⟨gc, 0, none⟩)] w (IntPost B gc r w) := by
  have H := Lib.hid h
  clear h
  go_enter Try.func34, Try.ntmps34
  go_wp2_with fail
  refine (next_any _ B gc r 6 (H.out.alloc _) (by omega) (by omega)).mono ?_
  rintro e w1 ⟨v, hv0, hv1, rfl, hc1, ho1⟩
  have HC := Lib.hid hc1
  have HO := Lib.hid ho1
  clear hc1 ho1
  by_cases h5 : v = 5
  · have hv : (v == 5) = true := by simp [h5]
    have H5 := Lib.hid h5
    clear h5
    go_wp2_with fail
    refine (next_any _ B gc (r - 1) 10 HC.out (by omega) (by omega)).mono ?_
    rintro e w2 ⟨k, hk0, hk1, rfl, hc2, ho2⟩
    have ho := Only.trans HO.out ho2
    have hcell : ∃ x : Int, (Lit.int .i64 x).wf = true ∧ w2.cell? ⟨w.heap.size, k.toNat, none⟩ = some (.int .i64 x) := by
      have hlt := H.out.lt
      rw [ho.cell (p := ⟨w.heap.size, k.toNat, none⟩) ⟨by simp, by simp; omega⟩]
      obtain ⟨j, rfl⟩ := Int.eq_ofNat_of_zero_le hk0
      have hj : j < 10 := by omega
      simp only [Int.toNat_natCast]
      match j, hj with
      | 0, _ | 1, _ | 2, _ | 3, _ | 4, _ | 5, _ | 6, _ | 7, _ | 8, _ | 9, _ => refine ⟨_, ?_, by simp; rfl⟩; decide
    obtain ⟨x, hwx, hcx⟩ := hcell
    have HO2 := Lib.hid ho
    have HC2 := Lib.hid hc2
    clear ho ho2 hc2
    go_wp2
    go_ret
    exact ⟨x, hwx, rfl, ⟨r - 1 - 1, by omega, HC2.out⟩, Only.of_alloc HO2.out⟩
  · have hv : (v == 5) = false := by simp [h5]
    clear h5
    go_wp2_with fail
    refine (next_any _ B gc (r - 1) 12 HC.out (by omega) (by omega)).mono ?_
    rintro e w2 ⟨k, hk0, hk1, rfl, hc2, ho2⟩
    have HO2 := Lib.hid (Only.trans HO.out ho2)
    have HC2 := Lib.hid hc2
    clear ho2 hc2
    go_wp2
    go_ret
    exact ⟨k - 2, WalkArith.wf_i64 (by omega), rfl, ⟨r - 1 - 1, by omega, HC2.out⟩, Only.of_alloc HO2.out⟩


/-! ### Event -/
def EventPost (B gc r : Nat) (w : World) (e : Ending) (w' : World) : Prop :=
  ∃ x : Ev, e = .returned (.agg (encEv x).toArray) ∧ (∃ r', r' ≤ r - 1 ∧ Cod w' B gc r') ∧ Only gc w w'

set_option maxHeartbeats 2000000 in
theorem event_any (w : World) (B gc r : Nat) (h : Cod w B gc r) : Calls Try.prog 33 #[.pointer (some ⟨gc, 0, none⟩)] w (EventPost B gc r w) := by
  have H := Lib.hid h
  clear h
  go_enter Try.func33, Try.ntmps33
  go_wp2_with fail
  refine (next_any _ B gc r 3 (H.out.alloc _) (by omega) (by omega)).mono ?_
  rintro e w1 ⟨v1, hv10, hv11, rfl, hc1, ho1⟩
  have HC1 := Lib.hid hc1
  have HO1 := Lib.hid ho1
  clear hc1 ho1
  go_wp2_with fail
  refine (next_any _ B gc (r - 1) 3 HC1.out (by omega) (by omega)).mono ?_
  rintro e w2 ⟨v2, hv20, hv21, rfl, hc2, ho2⟩
  have HC2 := Lib.hid hc2
  have HO2 := Lib.hid ho2
  clear hc2 ho2
  go_wp2_with fail
  refine (int_any _ B gc _ HC2.out).mono ?_
  rintro e w3 ⟨v3, hv3, rfl, ⟨r3, hr3, hc3⟩, ho3⟩
  have HC3 := Lib.hid hc3
  have HO3 := Lib.hid ho3
  clear hc3 ho3
  have hbR : Blk w3 w.heap.size 71 _ := HO3.out.blk (HO2.out.blk (HO1.out.blk (Blk.new w _ _) ⟨by simp, by have := H.out.lt; omega⟩) ⟨by have := HO1.out.size; simp at this; omega, by have := H.out.lt; omega⟩) ⟨by have := HO1.out.size; have := HO2.out.size; simp at *; omega, by have := H.out.lt; omega⟩
  have hRc := hbR.cell
  have hRf := hbR.frozen
  have HR := Lib.hid hbR
  clear hbR
  have hsz : w.heap.size < w3.heap.size := HR.out.lt
  have hBw := H.out.2.1
  have hgw := H.out.lt
  by_cases h1 : v1 = 0
  · subst h1
    go_wp2_with fail
    refine (next_any _ B gc r3 3 (HC3.out.alloc _) (by omega) (by omega)).mono ?_
    rintro e w4 ⟨v4, hv40, hv41, rfl, hc4, ho4⟩
    have HC4 := Lib.hid hc4
    have HO4 := Lib.hid ho4
    clear hc4 ho4
    go_wp2_with fail
    refine (next_any _ B gc _ 2 HC4.out (by omega) (by omega)).mono ?_
    rintro e w5 ⟨v5, hv50, hv51, rfl, hc5, ho5⟩
    have HC5 := Lib.hid hc5
    have HO5 := Lib.hid ho5
    clear hc5 ho5
    go_wp2_with fail
    refine (next_any _ B gc _ 5 HC5.out (by omega) (by omega)).mono ?_
    rintro e w6 ⟨v6, hv60, hv61, rfl, hc6, ho6⟩
    have HC6 := Lib.hid hc6
    have HO6 := Lib.hid ho6
    clear hc6 ho6
    go_wp2_with fail
    refine (next_any _ B gc _ 3 HC6.out (by omega) (by omega)).mono ?_
    rintro e w7 ⟨v7, hv70, hv71, rfl, hc7, ho7⟩
    have HO47 := Lib.hid (Only.trans HO4.out (Only.trans HO5.out (Only.trans HO6.out ho7)))
    have hbN : Blk w7 w3.heap.size 71 _ := HO47.out.blk (Blk.new w3 _ _) ⟨by simp, by omega⟩
    have hbR7 : Blk w7 w.heap.size 71 _ := HO47.out.blk (HR.out.alloc _) ⟨by simp; omega, by have := H.out.lt; omega⟩
    have HC7 := Lib.hid hc7
    have HN := Lib.hid hbN
    have HR7 := Lib.hid hbR7
    have hz : w3.heap.size < w7.heap.size := hbN.lt
    clear hc7 ho7 hbN hbR7 hRc hRf
    go_wp2_with (first
      | (refine wpList_store_one rfl _ (.tmp 24) (.tmp 16) rfl w3.heap.size 2 71 _ (.int .i64 v4) rfl rfl HN.out (by simp) (by kernel_rfl) rfl rfl ?_; intro w8 hb8 hs8; have HB8 := Lib.hid hb8; have HS8 := Lib.hid hs8; clear hb8 hs8)
      | (refine wpList_store_blk rfl _ (.tmp 25) (.tmp 21) rfl w3.heap.size 3 71 _ [.int .i64 v5, .int .i64 v6] rfl rfl HB8.out (by simp) (by kernel_rfl) rfl ?_; intro w9 hb9 hs9; have HB9 := Lib.hid hb9; have HS9 := Lib.hid hs9; clear hb9 hs9)
      | (refine wpList_store_one rfl _ (.tmp 26) (.tmp 23) rfl w3.heap.size 5 71 _ (.int .i64 v7) rfl rfl HB9.out (by simp [splice]) (by kernel_rfl) rfl rfl ?_; intro w10 hb10 hs10; have HB10 := Lib.hid hb10; have HS10 := Lib.hid hs10; clear hb10 hs10)
      | (refine wpList_load_blk rfl _ (.tmp 3) rfl w3.heap.size 0 71 _ (encEv ⟨1, v2, v4, v5, v6, v7, v3⟩) _ rfl HB10.out (by simp [splice, encEv]) Try.underlying71 rfl (by kernel_rfl) ?_)
      | (refine wpList_store_blk rfl _ (.tmp 2) (.tmp 27) rfl w.heap.size 0 71 _ (encEv ⟨1, v2, v4, v5, v6, v7, v3⟩) rfl rfl (HS10.out.blk (HS9.out.blk (HS8.out.blk HR7.out (by omega)) (by omega)) (by omega)) (by simp [encEv]) (by kernel_rfl) rfl ?_; intro w11 hb11 hs11; have HB11 := Lib.hid hb11; have HS11 := Lib.hid hs11; clear hb11 hs11))
    refine bodyPost_ret (v := .agg (encEv ⟨1, v2, v4, v5, v6, v7, v3⟩).toArray) (by simp [results, Try.results33, go_sem, HB11.out.cell, splice, encEv]) rfl ⟨_, rfl, ⟨r3 - 1 - 1 - 1 - 1, by omega, (((HC7.out.write HS8.out (by omega)).write HS9.out (by omega)).write HS10.out (by omega)).write HS11.out (by omega)⟩, ?_⟩
    exact (((Only.of_alloc (Only.trans HO1.out (Only.trans HO2.out (Only.trans HO3.out (Only.of_alloc HO47.out))))).write HS8.out (by omega)).write HS9.out (by omega)).write HS10.out (by omega) |>.write HS11.out (by omega)
  · have hv : (1 + v1 == 1) = false := by simp; omega
    go_wp2_with (refine wpList_store_blk rfl _ (.tmp 2) (.tmp 27) rfl w.heap.size 0 71 _ _ rfl rfl (HR.out.alloc _) (by simp) (by kernel_rfl) rfl ?_; intro w4 hb4 hs4)
    refine bodyPost_ret (v := .agg (encEv ⟨1 + v1, v2, 0, 0, 0, 0, v3⟩).toArray) (by simp [results, Try.results33, go_sem, hb4.cell, splice, encEv]) rfl ⟨_, rfl, ⟨r3, by omega, (HC3.out.alloc _).write hs4 hBw⟩, ?_⟩
    exact Only.write (Only.alloc (Only.of_alloc (Only.trans HO1.out (Only.trans HO2.out HO3.out))) _) hs4 (Nat.le_refl _)

end Go.Proofs.Ytafgacfbplilpaa
