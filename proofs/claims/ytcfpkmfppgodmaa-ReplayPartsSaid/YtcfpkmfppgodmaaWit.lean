/- replay.Witness. -/
import Derived.Test.YtcfpkmfppgodmaaSched2
set_option linter.unusedVariables false
set_option linter.unusedSimpArgs false
set_option maxRecDepth 100000
namespace Go.Proofs.Ytcfpkmfppgodmaa
open Go.RowKit Go.Proofs

def zerosA (n : Nat) : Array Value := (List.replicate n (.int .i64 0)).toArray
theorem made_zeros (n : Nat) : madeCells (Value.cells (.int .i64 0)) (n * 1) = zerosA n := by
  apply Array.ext'
  have := toList_madeCells_one (.int .i64 0) n
  simpa [zerosA, Value.cells] using this
def zerosL (n : Nat) : List Int := List.replicate n 0
theorem zeros_flat (n : Nat) : (zerosL n).flatMap encI = List.replicate n (.int .i64 0) := by
  unfold zerosL
  induction n with
  | zero => rfl
  | succ n ih => rw [List.replicate_succ, List.flatMap_cons, ih, List.replicate_succ]; rfl
theorem own_zeros (w : World) (n : Nat) (hn : n ≤ 1000) : (w.alloc (.cells (zerosA n) 3)).ownsRow w.heap.size 3 1 (.slice (some ⟨w.heap.size, 0, none⟩) n n) n ((zerosL n).flatMap encI) := by
  rw [zeros_flat]
  refine ⟨by simp, .inr ⟨w.heap.size, n, zerosA n, rfl, Nat.le_refl _, heap_alloc_new w _, Nat.le_refl _, by simp [maxLen]; omega, by simp [zerosA], ?_⟩⟩
  simp [zerosA]
def lensL (l : List (List Ev)) : List Int := l.map (fun x => (x.length : Int))
def lensK (l : List (List Ev)) (k : Nat) : List Int := (lensL l).mapIdx (fun i x => if i < k then x else 0)
theorem lensK_zero (l : List (List Ev)) : lensK l 0 = zerosL l.length := by
  apply List.ext_getElem?
  intro i
  simp only [lensK, lensL, zerosL, List.getElem?_mapIdx, List.getElem?_map, List.getElem?_replicate]
  rcases Nat.lt_or_ge i l.length with h | h
  · simp [h, List.getElem?_eq_getElem h]
  · simp [List.getElem?_eq_none h, Nat.not_lt.2 h]
theorem lensK_len (l : List (List Ev)) (k : Nat) : (lensK l k).length = l.length := by simp [lensK, lensL]
theorem lensK_all (l : List (List Ev)) : lensK l l.length = lensL l := by
  apply List.ext_getElem?
  intro i
  simp only [lensK, List.getElem?_mapIdx]
  rcases Nat.lt_or_ge i l.length with h | h
  · cases (lensL l)[i]? <;> simp [h]
  · rw [List.getElem?_eq_none (by simp [lensL]; exact h)]; rfl
theorem lensK_at {l : List (List Ev)} {k : Nat} (h : k < l.length) : (lensK l k)[k]? = some 0 := by
  simp [lensK, lensL, List.getElem?_mapIdx, List.getElem?_eq_getElem h]
theorem lensK_succ {l : List (List Ev)} {k : Nat} {x : List Ev} (h : l[k]? = some x) : lensK l (k + 1) = (lensK l k).set k (x.length : Int) := by
  apply List.ext_getElem?
  intro i
  obtain ⟨hk, rfl⟩ := List.getElem?_eq_some_iff.1 h
  rw [List.getElem?_set]
  simp only [lensK, lensL, List.getElem?_mapIdx, List.getElem?_map, List.length_mapIdx, List.length_map]
  by_cases e : k = i
  · subst e
    simp [hk]
  · rw [if_neg e]
    cases l[i]? with
    | none => rfl
    | some y =>
      by_cases h1 : i < k
      · simp [h1, Nat.lt_succ_of_lt h1]
      · simp [h1, show ¬ i < k + 1 by omega]
def WtL (l : List (List Ev)) (n : Nat) (W : World) (i : Value) (wr : World) : Prop := ∃ k : Nat, i = .int .i64 k ∧ k ≤ n ∧ wr.ownsRow W.heap.size 3 1 (.slice (some ⟨W.heap.size, 0, none⟩) n n) n ((lensK l k).flatMap encI) ∧ Keep W wr
set_option maxHeartbeats 8000000 in
theorem witness_any (w : World) (S : Nat → Prop) (A : Option Addr) (n c : Nat) (l : List (List Ev)) (hS : ∀ i, S i → i < w.heap.size) (hl : SlR w S 1 (EvsR w S) A n c l) (hn : n ≤ 1000) (hlen : ∀ x ∈ l, x.length ≤ 100000) :
    Calls Try.prog 16 #[.slice A n c] w (SchPost l (zerosL l.length) (lensL l) w) := by
  obtain ⟨iI, hi0, iz0, is0, ib0⟩ := info_of info_Int
  have hmk := fun W => run_make_row (P := Try.prog) 23 3 iI _ Try.underlying23 hi0 iz0 .i64 .i64 n n (Nat.le_refl _) (by rw [ib0]; omega) (by omega) W
  rw [is0, made_zeros] at hmk
  have hnl := hl.1
  have hrel0 : WtL l n w (.int .i64 0) (w.alloc (.cells (zerosA n) 3)) := ⟨0, rfl, Nat.zero_le _, by rw [lensK_zero, ← hnl]; exact own_zeros w n hn, Keep.new _ _⟩
  have HS := Lib.hid hS
  have HL := Lib.hid hl
  have HNL := Lib.hid hnl
  have HLEN := Lib.hid hlen
  have HREL0 := Lib.hid hrel0
  clear hS hl hnl hlen hrel0
  clear hi0 iz0 is0 ib0
  go_enter Try.func16, Try.ntmps16
  go_wp2_with fail
  go_loopw [12] (fun i wr => WtL l n w i wr) (fun i _ => n - (intOf i).toNat)
  case atStart => exact HREL0.out
  case round =>
    clear HREL0
    obtain ⟨k, rfl, hkn', how, hkr⟩ := hrel
    have hzr := hkr.size
    have hsm := Same.mono hkr HS.out
    by_cases hkn : k < n
    · obtain ⟨g, cur, hg, hbg, hbk, hcs, hnc, hcm, htk⟩ := own_open how (by omega)
      simp only [Option.some.injEq, Addr.mk.injEq, and_true] at hg
      subst hg
      obtain ⟨b0, off0, cs, evs, rfl, hS0, hev, ⟨Ae, ne, ce, rfl, hse⟩, -, hc0⟩ := (HL.out.keep hsm (EvsR.keep hsm)).at_ hkn
      have hd1 : decide (k < n) = true := by simpa using hkn
      have hd2 : (0 : Int) ≤ k := by omega
      have hd3 : (k : Int) < n := by omega
      have x0 : wr.cell? ⟨b0, off0 + k, none⟩ = some (.slice Ae ne ce) := by have := hc0 0 _ rfl; simpa using this
      have hne := hse.1
      have hkc : k < cur.size := by omega
      have hkl : k < l.length := by have := HNL.out; omega
      have HNE := Lib.hid hne
      have HBK := Lib.hid hbk
      have HTK := Lib.hid htk
      have HKR := Lib.hid hkr
      have HCS := Lib.hid hcs
      have HEV := Lib.hid hev
      clear hne hbk htk hkr hcs hev
      clear hc0 hse hsm how
      go_wp2_with (refine wpList_store_one rfl _ (.tmp 21) (.tmp 20) rfl w.heap.size k 3 cur (.int .i64 ne) rfl rfl HBK.out hkc (by kernel_rfl) rfl rfl ?_; intro w9 hb9 hs9)
      go_roundw
      case rel => exact ⟨k + 1, by go_num, by omega, by rw [lensK_succ HEV.out, ← HNE.out]; exact row_put (k := k) (o := 0) encI_len hbg (by simpa using hb9) HCS.out hnc hcm HTK.out (by rw [lensK_len]; exact HNL.out.symm) (lensK_at hkl) (by omega) rfl, Keep.write HKR.out hs9 hbg⟩
      case measure => simp [intOf]; omega
    · have hd1 : decide (k < n) = false := by simpa using hkn
      obtain rfl : k = n := by omega
      have hfz := own_zeros wr k hn
      have hk2 : Keep wr (wr.alloc (.cells (zerosA k) 3)) := Keep.new _ _
      have how2 := ownsRow_same how hk2 (fun i hi => hi.2)
      have hl2 := (HL.out.keep hsm (EvsR.keep hsm)).keep (Same.mono hk2 (fun i hi => by have := HS.out i hi; omega)) (EvsR.keep (Same.mono hk2 (fun i hi => by have := HS.out i hi; omega)))
      have hkw := Keep.trans hkr hk2
      have hall : lensK l k = lensL l := by rw [HNL.out]; exact lensK_all l
      rw [hall] at how2
      have hzl : zerosL k = zerosL l.length := by rw [← HNL.out]
      rw [hzl] at hfz
      have hz2 := hk2.size
      have key := schedule_any (wr.alloc (.cells (zerosA k) 3)) (fun i => i < (wr.alloc (.cells (zerosA k) 3)).heap.size) A (some ⟨wr.heap.size, 0, none⟩) (some ⟨w.heap.size, 0, none⟩) k c k k k k l (zerosL l.length) (lensL l) (fun i hi => hi) (hl2.more (fun i hi => by have := HS.out i hi; omega) (EvsR.more (fun i hi => by have := HS.out i hi; omega))) ((own_ints hfz).more (fun i hi => hi.2)) ((own_ints how2).more (fun i hi => hi.2)) hn HLEN.out (by omega) (by omega)
      have KEY := Lib.hid key
      have HKW := Lib.hid hkw
      clear key hkw
      clear hfz how2 hl2 hk2 hall hzl hkr hsm how
      go_wp2_with fail
      refine KEY.out.mono ?_
      rintro e w3 ⟨r, hr, hk3, hcs⟩
      have hk := Keep.trans HKW.out hk3
      rcases hcs with ⟨rfl, rfl⟩ | ⟨out, A3, n3, c3, rfl, rfl, hs3⟩
      · have hfin : SchPost l (zerosL l.length) (lensL l) w (.returned (.tuple #[.slice none 0 0, .bool false])) w3 := ⟨none, hr, hk, .inl ⟨rfl, rfl⟩⟩
        have HFIN := Lib.hid hfin
        clear hfin
        clear hr hk hk3
        go_wp2_with fail
        go_ret2
        exact HFIN.out
      · have hfin : SchPost l (zerosL l.length) (lensL l) w (.returned (.tuple #[.slice A3 n3 c3, .bool true])) w3 := ⟨some out, hr, hk, .inr ⟨out, A3, n3, c3, rfl, rfl, hs3.more (fun i hi => ⟨by have := hi.1; omega, hi.2⟩)⟩⟩
        have HFIN := Lib.hid hfin
        clear hfin
        clear hr hk hk3 hs3
        go_wp2_with fail
        go_ret2
        exact HFIN.out
end Go.Proofs.Ytcfpkmfppgodmaa
