/- Contracts of the maker's functions: Event, Events (blocks by a set). -/
import Derived.Test.YtcfpkmfppgodmaaMk2
import Derived.Test.YtcfpkmfppgodmaaGA
set_option linter.unusedVariables false
set_option linter.unusedSimpArgs false
namespace Go.Proofs.Ytcfpkmfppgodmaa
open Go.RowKit Go.Proofs

def EventPost (B : Nat → Prop) (gc r : Nat) (w : World) (e : Ending) (w' : World) : Prop :=
  ∃ x : Ev, e = .returned (.agg (encEv x).toArray) ∧ (∃ r', r' ≤ r - 1 ∧ Cod w' B gc r') ∧ Only gc w w'

set_option maxHeartbeats 2000000 in
theorem event_any (w : World) (B : Nat → Prop) (gc r : Nat) (h : Cod w B gc r) : Calls Try.prog 24 #[.pointer (some ⟨gc, 0, none⟩)] w (EventPost B gc r w) := by
  have H := Lib.hid h
  clear h
  go_enter Try.func24, Try.ntmps24
  go_wp2_with fail
  refine (next_any _ B gc r 3 (H.out.alloc _) (by omega) (by omega)).mono ?_
  rintro e w1 ⟨v1, hv10, hv11, rfl, hc1, ho1⟩
  have HC1 := Lib.hid hc1
  have HO1 := Lib.hid ho1
  clear hc1 ho1
  go_wp2_with fail
  refine (next_any _ B gc (r - 1) 3 HC1.out (by omega) (by omega)).mono ?_
  rintro e w2 ⟨v2, hv20, hv21, rfl, hc2, ho2⟩
  have HC2 := Lib.hid hc2
  have HO2 := Lib.hid ho2
  clear hc2 ho2
  go_wp2_with fail
  refine (int_any _ B gc _ HC2.out).mono ?_
  rintro e w3 ⟨v3, hv3, rfl, ⟨r3, hr3, hc3⟩, ho3⟩
  have HC3 := Lib.hid hc3
  have HO3 := Lib.hid ho3
  clear hc3 ho3
  have hbR : Blk w3 w.heap.size 50 _ := HO3.out.blk (HO2.out.blk (HO1.out.blk (Blk.new w _ _) ⟨by simp, by have := H.out.lt; omega⟩) ⟨by have := HO1.out.size; simp at this; omega, by have := H.out.lt; omega⟩) ⟨by have := HO1.out.size; have := HO2.out.size; simp at *; omega, by have := H.out.lt; omega⟩
  have hRc := hbR.cell
  have hRf := hbR.frozen
  have HR := Lib.hid hbR
  clear hbR
  have hsz : w.heap.size < w3.heap.size := HR.out.lt
  have hBw := H.out.2.1
  have hgw := H.out.lt
  by_cases h1 : v1 = 0
  · subst h1
    go_wp2_with fail
    refine (next_any _ B gc r3 3 (HC3.out.alloc _) (by omega) (by omega)).mono ?_
    rintro e w4 ⟨v4, hv40, hv41, rfl, hc4, ho4⟩
    have HC4 := Lib.hid hc4
    have HO4 := Lib.hid ho4
    clear hc4 ho4
    go_wp2_with fail
    refine (next_any _ B gc _ 2 HC4.out (by omega) (by omega)).mono ?_
    rintro e w5 ⟨v5, hv50, hv51, rfl, hc5, ho5⟩
    have HC5 := Lib.hid hc5
    have HO5 := Lib.hid ho5
    clear hc5 ho5
    go_wp2_with fail
    refine (next_any _ B gc _ 5 HC5.out (by omega) (by omega)).mono ?_
    rintro e w6 ⟨v6, hv60, hv61, rfl, hc6, ho6⟩
    have HC6 := Lib.hid hc6
    have HO6 := Lib.hid ho6
    clear hc6 ho6
    go_wp2_with fail
    refine (next_any _ B gc _ 3 HC6.out (by omega) (by omega)).mono ?_
    rintro e w7 ⟨v7, hv70, hv71, rfl, hc7, ho7⟩
    have HO47 := Lib.hid (Only.trans HO4.out (Only.trans HO5.out (Only.trans HO6.out ho7)))
    have hbN : Blk w7 w3.heap.size 50 _ := HO47.out.blk (Blk.new w3 _ _) ⟨by simp, by omega⟩
    have hbR7 : Blk w7 w.heap.size 50 _ := HO47.out.blk (HR.out.alloc _) ⟨by simp; omega, by have := H.out.lt; omega⟩
    have HC7 := Lib.hid hc7
    have HN := Lib.hid hbN
    have HR7 := Lib.hid hbR7
    have hz : w3.heap.size < w7.heap.size := hbN.lt
    clear hc7 ho7 hbN hbR7 hRc hRf
    go_wp2_with (first
      | (refine wpList_store_one rfl _ (.tmp 24) (.tmp 16) rfl w3.heap.size 2 50 _ (.int .i64 v4) rfl rfl HN.out (by simp) (by kernel_rfl) rfl rfl ?_; intro w8 hb8 hs8; have HB8 := Lib.hid hb8; have HS8 := Lib.hid hs8; clear hb8 hs8)
      | (refine wpList_store_blk rfl _ (.tmp 25) (.tmp 21) rfl w3.heap.size 3 50 _ [.int .i64 v5, .int .i64 v6] rfl rfl HB8.out (by simp) (by kernel_rfl) rfl ?_; intro w9 hb9 hs9; have HB9 := Lib.hid hb9; have HS9 := Lib.hid hs9; clear hb9 hs9)
      | (refine wpList_store_one rfl _ (.tmp 26) (.tmp 23) rfl w3.heap.size 5 50 _ (.int .i64 v7) rfl rfl HB9.out (by simp [splice]) (by kernel_rfl) rfl rfl ?_; intro w10 hb10 hs10; have HB10 := Lib.hid hb10; have HS10 := Lib.hid hs10; clear hb10 hs10)
      | (refine wpList_load_blk rfl _ (.tmp 3) rfl w3.heap.size 0 50 _ (encEv ⟨1, v2, v4, v5, v6, v7, v3⟩) _ rfl HB10.out (by simp [splice, encEv]) Try.underlying50 rfl (by kernel_rfl) ?_)
      | (refine wpList_store_blk rfl _ (.tmp 2) (.tmp 27) rfl w.heap.size 0 50 _ (encEv ⟨1, v2, v4, v5, v6, v7, v3⟩) rfl rfl (HS10.out.blk (HS9.out.blk (HS8.out.blk HR7.out (by omega)) (by omega)) (by omega)) (by simp [encEv]) (by kernel_rfl) rfl ?_; intro w11 hb11 hs11; have HB11 := Lib.hid hb11; have HS11 := Lib.hid hs11; clear hb11 hs11))
    refine bodyPost_ret (v := .agg (encEv ⟨1, v2, v4, v5, v6, v7, v3⟩).toArray) (by simp [results, Try.results24, go_sem, HB11.out.cell, splice, encEv]) rfl ⟨_, rfl, ⟨r3 - 1 - 1 - 1 - 1, by omega, (((HC7.out.write HS8.out (fun h => by have := hBw _ h; omega)).write HS9.out (fun h => by have := hBw _ h; omega)).write HS10.out (fun h => by have := hBw _ h; omega)).write HS11.out (fun h => by have := hBw _ h; omega)⟩, ?_⟩
    exact (((Only.of_alloc (Only.trans HO1.out (Only.trans HO2.out (Only.trans HO3.out (Only.of_alloc HO47.out))))).write HS8.out (by omega)).write HS9.out (by omega)).write HS10.out (by omega) |>.write HS11.out (by omega)
  · have hv : (1 + v1 == 1) = false := by simp; omega
    go_wp2_with (refine wpList_store_blk rfl _ (.tmp 2) (.tmp 27) rfl w.heap.size 0 50 _ _ rfl rfl (HR.out.alloc _) (by simp) (by kernel_rfl) rfl ?_; intro w4 hb4 hs4)
    refine bodyPost_ret (v := .agg (encEv ⟨1 + v1, v2, 0, 0, 0, 0, v3⟩).toArray) (by simp [results, Try.results24, go_sem, hb4.cell, splice, encEv]) rfl ⟨_, rfl, ⟨r3, by omega, (HC3.out.alloc _).write hs4 (fun h => by have := hBw _ h; omega)⟩, ?_⟩
    exact Only.write (Only.alloc (Only.of_alloc (Only.trans HO1.out (Only.trans HO2.out HO3.out))) _) hs4 (Nat.le_refl _)


def EventsPost (most : Nat) (B : Nat → Prop) (gc r : Nat) (w : World) (e : Ending) (w' : World) : Prop :=
  ∃ (A : Option Addr) (n c : Nat) (l : List Ev), e = .returned (.slice A n c) ∧ Sl encEv 7 w' (fun i => w.heap.size ≤ i ∧ i < w'.heap.size) A n c l ∧ n ≤ most ∧ (∃ r', Cod w' B gc r') ∧ Only gc w w'
def EventsRel (most : Nat) (B : Nat → Prop) (gc : Nat) (w : World) (v i : Value) (wr : World) : Prop :=
  ∃ (k : Nat) (l : List Ev), i = .int .i64 k ∧ l.length + k ≤ most ∧ wr.ownsRow w.heap.size 50 7 v l.length (l.flatMap encEv) ∧ (∃ r', Cod wr B gc r') ∧ Only gc w wr
end Go.Proofs.Ytcfpkmfppgodmaa
