/- Contracts of the maker's functions: New, Left, Next, Int (blocks by a set). -/
import Derived.Test.YtcfpkmfppgodmaaProg
import Derived.Test.YtcfpkmfppgodmaaData
set_option linter.unusedVariables false
set_option linter.unusedSimpArgs false
namespace Go.Proofs.Ytcfpkmfppgodmaa
open Go.RowKit Go.Proofs

/-- Block gc is a list of choices, r of which are left; it and its bytes lie in blocks of D. -/
def Cod (w : World) (B : Nat → Prop) (gc r : Nat) : Prop := B gc ∧ (∀ i, B i → i < w.heap.size) ∧ ∃ (A : Option Addr) (n c i : Nat), Blk w gc 58 #[.slice A n c, .int .i64 i] ∧ i + r = n ∧ n ≤ 4096 ∧
  ∀ j, j < n → ∃ ad b, A = some ⟨ad, b, none⟩ ∧ ad ≠ gc ∧ B ad ∧ ∃ x : Nat, x < 256 ∧ w.cell? ⟨ad, b + j, none⟩ = some (.int .u8 x)
theorem Cod.lt {w : World} {B : Nat → Prop} {gc r : Nat} (h : Cod w B gc r) : gc < w.heap.size := h.2.1 _ h.1
theorem Cod.same {w w' : World} {B : Nat → Prop} {gc r : Nat} (h : Cod w B gc r) (k : Same B w w') : Cod w' B gc r := by
  obtain ⟨h1, h2, A, n, c, i, hb, hi, hn, hc⟩ := h
  refine ⟨h1, fun i hi => Nat.lt_of_lt_of_le (h2 i hi) k.size, A, n, c, i, k.blk hb h1, hi, hn, fun j hj => ?_⟩
  obtain ⟨ad, b, e, h3, h4, x, hx, hcell⟩ := hc j hj
  exact ⟨ad, b, e, h3, h4, x, hx, (k.cell (p := ⟨ad, b + j, none⟩) h4).trans hcell⟩
theorem Cod.keep {w w' : World} {B : Nat → Prop} {gc r : Nat} (h : Cod w B gc r) (k : Keep w w') : Cod w' B gc r := h.same (Same.mono k h.2.1)
theorem Cod.alloc {w : World} {B : Nat → Prop} {gc r : Nat} (h : Cod w B gc r) (o : Obj) : Cod (w.alloc o) B gc r := h.keep (Keep.new w o)
theorem Cod.write {w w' : World} {B : Nat → Prop} {gc r k : Nat} (h : Cod w B gc r) (s : Same (· ≠ k) w w') (hk : ¬ B k) : Cod w' B gc r := h.same (s.mono fun i hi e => hk (e ▸ hi))

theorem left_any (w : World) (B : Nat → Prop) (gc r : Nat) (h : Cod w B gc r) : Calls Try.prog 23 #[.pointer (some ⟨gc, 0, none⟩)] w fun e w' => e = .returned (.bool (decide (0 < r))) ∧ ∃ k, w' = w.drewN k := by
  obtain ⟨_, _, A, n, c, i, hb, hi, hn, hc⟩ := h
  have h0 := hb.cell 0
  have h1 := hb.cell 1
  simp at h0 h1
  have hr : decide (i < n) = decide (0 < r) := by simp; omega
  have HR := Lib.hid hr
  clear hr hb hc hi
  go_enter Try.func23, Try.ntmps23
  go_wp2
  go_quiet (fail)
  go_wp2
  go_ret
  exact ⟨by simp [← HR.out], _, rfl⟩

def NextPost (n : Int) (B : Nat → Prop) (gc r : Nat) (w : World) (e : Ending) (w' : World) : Prop :=
  ∃ v : Int, 0 ≤ v ∧ v < n ∧ e = .returned (.int .i64 v) ∧ Cod w' B gc (r - 1) ∧ Only gc w w'

theorem next_any (w : World) (B : Nat → Prop) (gc r : Nat) (n : Int) (h : Cod w B gc r) (hn : 1 ≤ n) (hn2 : n ≤ 4611686018427387904) : Calls Try.prog 12 #[.pointer (some ⟨gc, 0, none⟩), .int .i64 n] w (NextPost n B gc r w) := by
  have hl := left_any w B gc r h
  have HL := Lib.hid hl
  clear hl
  have H := Lib.hid h
  obtain ⟨hgB, hBw, A, len, c, i, hb, hi, hlen, hc⟩ := h
  by_cases hr : 0 < r
  · have hlt : i < len := by omega
    obtain ⟨ad, b, rfl, hne, hlt2, x, hx, hcell⟩ := hc i hlt
    have h0 := hb.cell 0
    have h1 := hb.cell 1
    have f1 := hb.frozen 1
    simp at h0 h1
    have hd : decide (0 < r) = true := by simp; omega
    have hb2 := fun k => Lib.hid (Blk.set_ (w := w.drewN k) hb 1 (.int .i64 (i + 1)))
    have q0 : ∀ k, ((w.drewN k).setCell ⟨gc, 1, none⟩ (.int .i64 (i + 1))).cell? ⟨gc, 0, none⟩ = some (.slice (some ⟨ad, b, none⟩) len c) := fun k => by rw [(hb2 k).out.cell]; simp
    have q1 : ∀ k, ((w.drewN k).setCell ⟨gc, 1, none⟩ (.int .i64 (i + 1))).cell? ⟨gc, 1, none⟩ = some (.int .i64 (i + 1)) := fun k => by rw [(hb2 k).out.cell]; simp
    have q2 : ∀ k, ((w.drewN k).setCell ⟨gc, 1, none⟩ (.int .i64 (i + 1))).cell? ⟨ad, b + i, none⟩ = some (.int .u8 x) := fun k => by rw [World.cell?_setCell_other _ _ _ _ (fun q => hne (congrArg Addr.block q).symm)]; exact hcell
    have HI := Lib.hid hi
    have HC := Lib.hid hc
    clear hi hc hb
    go_enter Try.func12, Try.ntmps12
    go_wp2_with (go_at_call 23; refine (HL.out).mono ?_; rintro e w' ⟨rfl, k, rfl⟩)
    go_quiet (fail)
    go_wp2
    go_ret
    refine ⟨x % n, Int.emod_nonneg _ (by omega), Int.emod_lt_of_pos _ (by omega), rfl, ⟨hgB, fun i hi => by simpa [World.setCell] using hBw i hi, some ⟨ad, b, none⟩, len, c, i + 1, ?_, by have := HI.out; omega, hlen, fun j hj => ?_⟩, ?_⟩
    · exact (show Blk _ gc 58 _ from (hb2 k).out)
    · obtain ⟨ad', b', e, h3, h4, y, hy, hcy⟩ := HC.out j hj
      refine ⟨ad', b', e, h3, h4, y, hy, ?_⟩
      exact (World.cell?_setCell_other (w.drewN k) ⟨gc, 1, none⟩ ⟨ad', b' + j, none⟩ _ (fun q => h3 (congrArg Addr.block q).symm)).trans hcy
    · exact Same.drewN (Same.setCell (Same.drewN (Same.refl _ _) _) (fun h => h.2 rfl) _) _
  · have hd : decide (0 < r) = false := by simp; omega
    clear hc hb hi
    go_enter Try.func12, Try.ntmps12
    go_wp2_with (go_at_call 23; refine (HL.out).mono ?_; rintro e w' ⟨rfl, k, rfl⟩)
    go_ret
    refine ⟨0, by omega, by omega, rfl, ?_, ?_⟩
    · have := H.out
      rw [show r - 1 = r from by omega]
      exact this
    · exact Same.drewN (Same.refl _ _) _


def IntPost (B : Nat → Prop) (gc r : Nat) (w : World) (e : Ending) (w' : World) : Prop :=
  ∃ v : Int, (Lit.int .i64 v).wf = true ∧ e = .returned (.int .i64 v) ∧ (∃ r', r' ≤ r - 1 ∧ Cod w' B gc r') ∧ Only gc w w'

theorem int_any (w : World) (B : Nat → Prop) (gc r : Nat) (h : Cod w B gc r) : Calls Try.prog 39 #[.pointer (some ⟨gc, 0, none⟩)] w (IntPost B gc r w) := by
  have H := Lib.hid h
  clear h
  go_enter Try.func39, Try.ntmps39
  go_wp2_with fail
  refine (next_any _ B gc r 6 (H.out.alloc _) (by omega) (by omega)).mono ?_
  rintro e w1 ⟨v, hv0, hv1, rfl, hc1, ho1⟩
  have HC := Lib.hid hc1
  have HO := Lib.hid ho1
  clear hc1 ho1
  by_cases h5 : v = 5
  · have hv : (v == 5) = true := by simp [h5]
    have H5 := Lib.hid h5
    clear h5
    go_wp2_with fail
    refine (next_any _ B gc (r - 1) 10 HC.out (by omega) (by omega)).mono ?_
    rintro e w2 ⟨k, hk0, hk1, rfl, hc2, ho2⟩
    have ho := Only.trans HO.out ho2
    have hcell : ∃ x : Int, (Lit.int .i64 x).wf = true ∧ w2.cell? ⟨w.heap.size, k.toNat, none⟩ = some (.int .i64 x) := by
      have hlt := H.out.lt
      rw [ho.cell (p := ⟨w.heap.size, k.toNat, none⟩) ⟨by simp, by simp; omega⟩]
      obtain ⟨j, rfl⟩ := Int.eq_ofNat_of_zero_le hk0
      have hj : j < 10 := by omega
      simp only [Int.toNat_natCast]
      match j, hj with
      | 0, _ | 1, _ | 2, _ | 3, _ | 4, _ | 5, _ | 6, _ | 7, _ | 8, _ | 9, _ => refine ⟨_, ?_, by simp; rfl⟩; decide
    obtain ⟨x, hwx, hcx⟩ := hcell
    have HO2 := Lib.hid ho
    have HC2 := Lib.hid hc2
    clear ho ho2 hc2
    go_wp2
    go_ret
    exact ⟨x, hwx, rfl, ⟨r - 1 - 1, by omega, HC2.out⟩, Only.of_alloc HO2.out⟩
  · have hv : (v == 5) = false := by simp [h5]
    clear h5
    go_wp2_with fail
    refine (next_any _ B gc (r - 1) 12 HC.out (by omega) (by omega)).mono ?_
    rintro e w2 ⟨k, hk0, hk1, rfl, hc2, ho2⟩
    have HO2 := Lib.hid (Only.trans HO.out ho2)
    have HC2 := Lib.hid hc2
    clear ho2 hc2
    go_wp2
    go_ret
    exact ⟨k - 2, WalkArith.wf_i64 (by omega), rfl, ⟨r - 1 - 1, by omega, HC2.out⟩, Only.of_alloc HO2.out⟩



/-! ### New -/
def encB (x : Int) : List Value := [.int .u8 x]
theorem encB_len (x : Int) : (encB x).length = 1 := rfl
def NewPost (S : Nat → Prop) (most : Nat) (w : World) (e : Ending) (w' : World) : Prop :=
  ∃ r, r ≤ most ∧ e = .returned (.pointer (some ⟨w.heap.size, 0, none⟩)) ∧ Cod w' (fun i => S i ∨ i = w.heap.size) w.heap.size r ∧ Keep w w'

theorem new_any (w : World) (A : Option Addr) (n c most : Nat) (zs : List Int) (S : Nat → Prop) (hS : ∀ i, S i → i < w.heap.size) (hl : Sl encB 1 w S A n c zs) (hz : ∀ x ∈ zs, 0 ≤ x ∧ x < 256) (hm : most ≤ 4096) :
    Calls Try.prog 9 #[.slice A n c, .int .i64 most] w (NewPost S most w) := by
  have HL := Lib.hid hl
  have HZ := Lib.hid hz
  have HS := Lib.hid hS
  have hnc := hl.2.1
  have hcm : c ≤ 9223372036854775807 := hl.2.2.1
  clear hl hz hS
  have key : ∀ (m : Nat), m ≤ n → m ≤ 4096 → Cod (w.alloc (.cells #[.slice A m c, .int .i64 0] 58)) (fun i => S i ∨ i = w.heap.size) w.heap.size m := by
    intro m hmn hm4
    have hall : ∀ i, (S i ∨ i = w.heap.size) → i < w.heap.size + 1 := fun i hi => hi.elim (fun h => by have := HS.out i h; omega) (fun h => by omega)
    refine ⟨.inr rfl, fun i hi => by simpa using hall i hi, A, m, c, 0, Blk.new _ _ _, by omega, hm4, fun j hj => ?_⟩
    obtain ⟨b, off, x, e, hb, hx, hcell⟩ := HL.out.at_ encB_len (k := j) (by omega)
    have h0 := hcell 0 _ rfl
    have hxz := HZ.out x (List.mem_of_getElem? hx)
    obtain ⟨y, rfl⟩ := Int.eq_ofNat_of_zero_le hxz.1
    have hbl := HS.out b hb
    refine ⟨b, off, e, by omega, .inl hb, y, by omega, ?_⟩
    rw [World.cell?_alloc_lt _ _ _ hbl]
    simpa using h0
  have HK := Lib.hid key
  clear key
  by_cases h : most < n
  · have h1 : (most : Int) < n := by omega
    have h2 : (0 : Int) ≤ most := by omega
    have h3 : (most : Int) ≤ c := by omega
    go_enter Try.func9, Try.ntmps9
    go_wp2_with fail
    go_ret
    exact ⟨most, Nat.le_refl _, rfl, HK.out most (by omega) hm, Keep.new _ _⟩
  · have h1 : ¬ (most : Int) < n := by omega
    go_enter Try.func9, Try.ntmps9
    go_wp2_with fail
    go_ret
    exact ⟨n, by omega, rfl, HK.out n (Nat.le_refl _) (by omega), Keep.new _ _⟩
end Go.Proofs.Ytcfpkmfppgodmaa
