import Derived.Test.YtecckbkobkfnmaaDoorMk2
import Derived.Test.YtecckbkobkfnmaaDoorSlices
import Derived.Test.YtecckbkobkfnmaaDoorRes3
import Derived.Test.YtecckbkobkfnmaaDoorGP
import Derived.Test.YtecckbkobkfnmaaDoorMkStmts
import Derived.Test.YtecckbkobkfnmaaDoorBase
import Derived.OpenShut
import Derived.Test.YtecckbkobkfnmaaDoorMkExpr
import Derived.ProofKit
import Derived.LaidMore
import Derived.Stop.Joined
-- MkEv
/- Contracts of the maker's functions: Event, Events (blocks by a set). -/
set_option linter.unusedVariables false
set_option linter.unusedSimpArgs false
namespace Go.Proofs.YtecckbkobkfnmaaDoor
open Go.RowKit Go.Proofs

def EventPost (B : Nat → Prop) (gc r : Nat) (w : World) (e : Ending) (w' : World) : Prop :=
  ∃ x : Ev, e = .returned (.agg (encEv x).toArray) ∧ (∃ r', r' ≤ r - 1 ∧ Cod w' B gc r') ∧ Only gc w w'

set_option maxHeartbeats 2000000 in
theorem event_any (w : World) (B : Nat → Prop) (gc r : Nat) (h : Cod w B gc r) : Calls Tryd.prog 37 #[.pointer (some ⟨gc, 0, none⟩)] w (EventPost B gc r w) := by
  have H := Lib.hid h
  clear h
  go_enter Tryd.func37, Tryd.ntmps37
  go_wp2_with fail
  refine (next_any _ B gc r 3 (H.out.alloc _) (by omega) (by omega)).mono ?_
  rintro e w1 ⟨v1, hv10, hv11, rfl, hc1, ho1⟩
  have HC1 := Lib.hid hc1
  have HO1 := Lib.hid ho1
  clear hc1 ho1
  go_wp2_with fail
  refine (next_any _ B gc (r - 1) 3 HC1.out (by omega) (by omega)).mono ?_
  rintro e w2 ⟨v2, hv20, hv21, rfl, hc2, ho2⟩
  have HC2 := Lib.hid hc2
  have HO2 := Lib.hid ho2
  clear hc2 ho2
  go_wp2_with fail
  refine (int_any _ B gc _ HC2.out).mono ?_
  rintro e w3 ⟨v3, hv3, rfl, ⟨r3, hr3, hc3⟩, ho3⟩
  have HC3 := Lib.hid hc3
  have HO3 := Lib.hid ho3
  clear hc3 ho3
  have hbR : Blk w3 w.heap.size 51 _ := HO3.out.blk (HO2.out.blk (HO1.out.blk (Blk.new w _ _) ⟨by simp, by have := H.out.lt; omega⟩) ⟨by have := HO1.out.size; simp at this; omega, by have := H.out.lt; omega⟩) ⟨by have := HO1.out.size; have := HO2.out.size; simp at *; omega, by have := H.out.lt; omega⟩
  have hRc := hbR.cell
  have hRf := hbR.frozen
  have HR := Lib.hid hbR
  clear hbR
  have hsz : w.heap.size < w3.heap.size := HR.out.lt
  have hBw := H.out.2.1
  have hgw := H.out.lt
  by_cases h1 : v1 = 0
  · subst h1
    go_wp2_with fail
    refine (next_any _ B gc r3 3 (HC3.out.alloc _) (by omega) (by omega)).mono ?_
    rintro e w4 ⟨v4, hv40, hv41, rfl, hc4, ho4⟩
    have HC4 := Lib.hid hc4
    have HO4 := Lib.hid ho4
    clear hc4 ho4
    go_wp2_with fail
    refine (next_any _ B gc _ 2 HC4.out (by omega) (by omega)).mono ?_
    rintro e w5 ⟨v5, hv50, hv51, rfl, hc5, ho5⟩
    have HC5 := Lib.hid hc5
    have HO5 := Lib.hid ho5
    clear hc5 ho5
    go_wp2_with fail
    refine (next_any _ B gc _ 5 HC5.out (by omega) (by omega)).mono ?_
    rintro e w6 ⟨v6, hv60, hv61, rfl, hc6, ho6⟩
    have HC6 := Lib.hid hc6
    have HO6 := Lib.hid ho6
    clear hc6 ho6
    go_wp2_with fail
    refine (next_any _ B gc _ 3 HC6.out (by omega) (by omega)).mono ?_
    rintro e w7 ⟨v7, hv70, hv71, rfl, hc7, ho7⟩
    have HO47 := Lib.hid (Only.trans HO4.out (Only.trans HO5.out (Only.trans HO6.out ho7)))
    have hbN : Blk w7 w3.heap.size 51 _ := HO47.out.blk (Blk.new w3 _ _) ⟨by simp, by omega⟩
    have hbR7 : Blk w7 w.heap.size 51 _ := HO47.out.blk (HR.out.alloc _) ⟨by simp; omega, by have := H.out.lt; omega⟩
    have HC7 := Lib.hid hc7
    have HN := Lib.hid hbN
    have HR7 := Lib.hid hbR7
    have hz : w3.heap.size < w7.heap.size := hbN.lt
    clear hc7 ho7 hbN hbR7 hRc hRf
    go_wp2_with (first
      | (refine wpList_store_one rfl _ (.tmp 24) (.tmp 16) rfl w3.heap.size 2 51 _ (.int .i64 v4) rfl rfl HN.out (by simp) (by kernel_rfl) rfl rfl ?_; intro w8 hb8 hs8; have HB8 := Lib.hid hb8; have HS8 := Lib.hid hs8; clear hb8 hs8)
      | (refine wpList_store_blk rfl _ (.tmp 25) (.tmp 21) rfl w3.heap.size 3 51 _ [.int .i64 v5, .int .i64 v6] rfl rfl HB8.out (by simp) (by kernel_rfl) rfl ?_; intro w9 hb9 hs9; have HB9 := Lib.hid hb9; have HS9 := Lib.hid hs9; clear hb9 hs9)
      | (refine wpList_store_one rfl _ (.tmp 26) (.tmp 23) rfl w3.heap.size 5 51 _ (.int .i64 v7) rfl rfl HB9.out (by simp [splice]) (by kernel_rfl) rfl rfl ?_; intro w10 hb10 hs10; have HB10 := Lib.hid hb10; have HS10 := Lib.hid hs10; clear hb10 hs10)
      | (refine wpList_load_blk rfl _ (.tmp 3) rfl w3.heap.size 0 51 _ (encEv ⟨1, v2, v4, v5, v6, v7, v3⟩) _ rfl HB10.out (by simp [splice, encEv]) Tryd.underlying51 rfl (by kernel_rfl) ?_)
      | (refine wpList_store_blk rfl _ (.tmp 2) (.tmp 27) rfl w.heap.size 0 51 _ (encEv ⟨1, v2, v4, v5, v6, v7, v3⟩) rfl rfl (HS10.out.blk (HS9.out.blk (HS8.out.blk HR7.out (by omega)) (by omega)) (by omega)) (by simp [encEv]) (by kernel_rfl) rfl ?_; intro w11 hb11 hs11; have HB11 := Lib.hid hb11; have HS11 := Lib.hid hs11; clear hb11 hs11))
    refine bodyPost_ret (v := .agg (encEv ⟨1, v2, v4, v5, v6, v7, v3⟩).toArray) (by simp [results, Tryd.results37, go_sem, HB11.out.cell, splice, encEv]) rfl ⟨_, rfl, ⟨r3 - 1 - 1 - 1 - 1, by omega, (((HC7.out.write HS8.out (fun h => by have := hBw _ h; omega)).write HS9.out (fun h => by have := hBw _ h; omega)).write HS10.out (fun h => by have := hBw _ h; omega)).write HS11.out (fun h => by have := hBw _ h; omega)⟩, ?_⟩
    exact (((Only.of_alloc (Only.trans HO1.out (Only.trans HO2.out (Only.trans HO3.out (Only.of_alloc HO47.out))))).write HS8.out (by omega)).write HS9.out (by omega)).write HS10.out (by omega) |>.write HS11.out (by omega)
  · have hv : (1 + v1 == 1) = false := by simp; omega
    go_wp2_with (refine wpList_store_blk rfl _ (.tmp 2) (.tmp 27) rfl w.heap.size 0 51 _ _ rfl rfl (HR.out.alloc _) (by simp) (by kernel_rfl) rfl ?_; intro w4 hb4 hs4)
    refine bodyPost_ret (v := .agg (encEv ⟨1 + v1, v2, 0, 0, 0, 0, v3⟩).toArray) (by simp [results, Tryd.results37, go_sem, hb4.cell, splice, encEv]) rfl ⟨_, rfl, ⟨r3, by omega, (HC3.out.alloc _).write hs4 (fun h => by have := hBw _ h; omega)⟩, ?_⟩
    exact Only.write (Only.alloc (Only.of_alloc (Only.trans HO1.out (Only.trans HO2.out HO3.out))) _) hs4 (Nat.le_refl _)


def EventsPost (most : Nat) (B : Nat → Prop) (gc r : Nat) (w : World) (e : Ending) (w' : World) : Prop :=
  ∃ (A : Option Addr) (n c : Nat) (l : List Ev), e = .returned (.slice A n c) ∧ Sl encEv 7 w' (fun i => w.heap.size ≤ i ∧ i < w'.heap.size) A n c l ∧ n ≤ most ∧ (∃ r', Cod w' B gc r') ∧ Only gc w w'
def EventsRel (most : Nat) (B : Nat → Prop) (gc : Nat) (w : World) (v i : Value) (wr : World) : Prop :=
  ∃ (k : Nat) (l : List Ev), i = .int .i64 k ∧ l.length + k ≤ most ∧ wr.ownsRow w.heap.size 51 7 v l.length (l.flatMap encEv) ∧ (∃ r', Cod wr B gc r') ∧ Only gc w wr
set_option maxHeartbeats 2000000 in
theorem events_any (w : World) (B : Nat → Prop) (gc r most : Nat) (hm : most ≤ 1000) (h : Cod w B gc r) : Calls Tryd.prog 21 #[.pointer (some ⟨gc, 0, none⟩), .int .i64 most] w (EventsPost most B gc r w) := by
  obtain ⟨i0, hi0, hz0, hz1, hz2⟩ := info_of info_Event
  have H := Lib.hid h
  have hBw := h.2.1
  have hgw := h.lt
  have HI := Lib.hid hi0
  have HZ0 := Lib.hid hz0
  have HZ1 := Lib.hid hz1
  have HZ2 := Lib.hid hz2
  clear h hi0 hz0 hz1 hz2
  go_enter Tryd.func21, Tryd.ntmps21
  go_wp2_with fail
  refine (next_any _ B gc r (most + 1) H.out (by omega) (by omega)).mono ?_
  rintro e w1 ⟨v1, hv10, hv11, rfl, hc1, ho1⟩
  obtain ⟨n1, rfl⟩ := Int.eq_ofNat_of_zero_le hv10
  have HC1 := Lib.hid hc1
  have HO1 := Lib.hid ho1
  clear hc1 ho1
  go_wp2_with fail
  go_loopw [5, 6] (fun v i wr => EventsRel most B gc w v i wr) (fun _ i _ => (intOf i).toNat)
  case atStart => exact ⟨n1, [], rfl, by simp; omega, World.ownsRow_nil _ _ _ _, ⟨_, HC1.out⟩, HO1.out⟩
  case round =>
    obtain ⟨k, l, rfl, hkl, hown, ⟨r', hcr⟩, hor⟩ := hrel
    have hownH := Lib.hid hown
    have horH := Lib.hid hor
    have hcrH := Lib.hid hcr
    have hsz := hor.size
    clear hown hor hcr
    by_cases hk : 0 < k
    · go_wp2_with fail
      refine (event_any _ B gc _ hcrH.out).mono ?_
      rintro e w4 ⟨x, rfl, ⟨r4, hr4, hc4⟩, ho4⟩
      have hown4 : w4.ownsRow w.heap.size 51 7 _ l.length (l.flatMap encEv) := ownsRow_same hownH.out ho4 (fun i hi => ⟨hi.2, by omega⟩)
      have HC4 := Lib.hid hc4
      have HO4 := Lib.hid (Only.trans horH.out ho4)
      have HW4 := Lib.hid hown4
      have hz4 := HO4.out.size
      clear hc4 ho4 hown4
      unfold encEv
      go_wp2_with (at_builtin; refine wpList_append_any _ rfl (.tmp 15) (.tmp 18) _ rfl w.heap.size 51 i0 _ 7 56 Tryd.underlying23 HI.out HZ0.out HZ1.out HZ2.out rfl (by omega) _ l.length (l.flatMap encEv) rfl (HW4.out.alloc _) _ (some ⟨w4.heap.size, 0, none⟩) 1 1 (encEv x) rfl (Reads.new rfl) (encEv_one _) (by simp [maxLen]; omega) (by omega) (by simp; omega) ?_; intro v5 w5 hown5 hg5 hat5)
      go_roundw
      case rel =>
        refine ⟨k - 1, l ++ [x], by go_num, by simp; omega, by simpa using hown5, ⟨r4, (HC4.out.alloc _).same ((Same.refl _ _).append (HW4.out.alloc _) hg5 (fun i hi => by have := hBw i hi; omega) (by simp; omega))⟩, ?_⟩
        exact (HO4.out.alloc _).append (HW4.out.alloc _) hg5 (fun i hi => hi.1) (by simp; omega)
      case measure => simp [intOf]; omega
    · go_wp2_with fail
      obtain ⟨A, c, rfl, hsl⟩ := Sl.of_own hownH.out
      go_ret
      exact ⟨A, _, c, l, rfl, hsl, by omega, ⟨_, hcrH.out⟩, horH.out⟩
end Go.Proofs.YtecckbkobkfnmaaDoor

-- MkSt
/- Contracts of the maker's functions: Code, State. -/
set_option linter.unusedVariables false
set_option linter.unusedSimpArgs false
set_option maxRecDepth 100000
namespace Go.Proofs.YtecckbkobkfnmaaDoor
open Go.RowKit Go.Proofs

def CodePost (B : Nat → Prop) (gc : Nat) (w : World) (e : Ending) (w' : World) : Prop := ∃ (cs : List Value) (c : Cd) (r' : Nat), e = .returned (.agg cs.toArray) ∧ CdR w' (New w' w.heap.size) cs c ∧ Cod w' B gc r' ∧ Only gc w w'
theorem cd_open {w : World} {S : Nat → Prop} {cs : List Value} {c : Cd} (h : CdR w S cs c) : ∃ (B0 B1 B2 B3 B4 : Option Addr) (p0 q0 p1 q1 p2 q2 p3 q3 p4 q4 : Nat), cs = [.slice B0 p0 q0, .slice B1 p1 q1, .slice B2 p2 q2, .slice B3 p3 q3, .slice B4 p4 q4] ∧ CdR w S [.slice B0 p0 q0, .slice B1 p1 q1, .slice B2 p2 q2, .slice B3 p3 q3, .slice B4 p4 q4] c := by
  have h' := h
  obtain ⟨A0, A1, A2, A3, A4, m0, c0, m1, c1, m2, c2, m3, c3, m4, c4, rfl, _⟩ := h
  exact ⟨A0, A1, A2, A3, A4, m0, c0, m1, c1, m2, c2, m3, c3, m4, c4, rfl, h'⟩
set_option maxHeartbeats 8000000 in
theorem code_any (w : World) (B : Nat → Prop) (gc r : Nat) (hcod : Cod w B gc r) (hgl : Glob w) : Calls Tryd.prog 19 #[.pointer (some ⟨gc, 0, none⟩)] w (CodePost B gc w) := by
  have hgw := hcod.lt
  have hBw := hcod.2.1
  generalize hW : w.alloc (.cells #[.slice none 0 0, .slice none 0 0, .slice none 0 0, .slice none 0 0, .slice none 0 0] 38) = W
  have hkW : Keep w W := hW ▸ Keep.new w _
  have hb2 : Blk W w.heap.size 38 #[.slice none 0 0, .slice none 0 0, .slice none 0 0, .slice none 0 0, .slice none 0 0] := hW ▸ Blk.new w _ _
  have hz := hb2.lt
  have hprog := program_any W B gc r (hcod.keep hkW) (hgl.keep hkW)
  have HCOD := Lib.hid hcod
  have HGL := Lib.hid hgl
  have HKW := Lib.hid hkW
  have HB2 := Lib.hid hb2
  have HPROG := Lib.hid hprog
  have HBW := Lib.hid hBw
  clear hcod hgl hkW hb2 hprog hBw
  go_enter Tryd.func19, Tryd.ntmps19
  go_wp2_with fail
  clear hW
  refine HPROG.out.mono ?_
  rintro e w1 ⟨p, cs1, r1, rfl, hp1, hr1, hc1, ho1⟩
  have hz1 := ho1.size
  have hb21 := ho1.blk HB2.out ⟨hz, by omega⟩
  have hres := resolve_any w1 (New w1 W.heap.size) cs1 p (fun i hi => hi.2) hp1
  obtain ⟨P0, P1, P2, P3, P4, a0, b0, a1, b1, a2, b2, a3, b3, a4, b4, rfl, -⟩ := hp1
  have HC1 := Lib.hid hc1
  have HO1 := Lib.hid ho1
  have HB21 := Lib.hid hb21
  have HRES := Lib.hid hres
  clear hc1 ho1 hb21 hres
  go_wp2_with fail
  refine HRES.out.mono ?_
  rintro e w2 ⟨cs2, x2, c, rfl, hcd, hk2⟩
  obtain ⟨D0, D1, D2, D3, D4, d0, f0, d1, f1, d2, f2, d3, f3, d4, f4, rfl, hcd⟩ := cd_open hcd
  have hz2 := hk2.size
  have hb22 := hk2.blk HB21.out HB21.out.lt
  have hc2 := HC1.out.keep hk2
  have ho2 := Only.keep HO1.out hk2
  have HCD := Lib.hid hcd
  have HK2 := Lib.hid hk2
  have HB22 := Lib.hid hb22
  have HC2 := Lib.hid hc2
  have HO2 := Lib.hid ho2
  clear hcd hk2 hb22 hc2 ho2
  go_upto_region 2 with (refine wpList_store_all rfl _ (.tmp 3) (.tmp 9) rfl w2.heap.size 38 _ [.slice D0 d0 f0, .slice D1 d1 f1, .slice D2 d2 f2, .slice D3 d3 f3, .slice D4 d4 f4] rfl rfl (Blk.new _ _ _) rfl (by kernel_rfl) rfl ?_; intro w3 hb3 hs3)
  have hk3 : Keep w2 w3 := Keep.write (Keep.new _ _) hs3 (Nat.le_refl _)
  have hz3 : w2.heap.size < w3.heap.size := hb3.lt
  have hb23 := hk3.blk HB22.out HB22.out.lt
  clear hs3
  have HK3 := Lib.hid hk3
  have HB3 := Lib.hid hb3
  have HB23 := Lib.hid hb23
  clear hk3 hb3 hb23
  go_wp2_with (first
    | (refine wpList_load_all rfl _ (.tmp 3) rfl w2.heap.size 38 [.slice D0 d0 f0, .slice D1 d1 f1, .slice D2 d2 f2, .slice D3 d3 f3, .slice D4 d4 f4] _ rfl HB3.out Tryd.underlying38 rfl (by kernel_rfl) ?_)
    | (refine wpList_store_all rfl _ (.tmp 2) (.tmp 11) rfl w.heap.size 38 _ [.slice D0 d0 f0, .slice D1 d1 f1, .slice D2 d2 f2, .slice D3 d3 f3, .slice D4 d4 f4] rfl rfl HB23.out rfl (by kernel_rfl) rfl ?_; intro wz hbz hwz; have HBZ := Lib.hid hbz; have HWZ := Lib.hid hwz; clear hbz hwz))
  have hzz := HWZ.out.size
  refine bodyPost_ret (results_cell1 Tryd.results19 _ _ _ ⟨w.heap.size, 0, none⟩ _ rfl (loadVar_blk [.slice D0 d0 f0, .slice D1 d1 f1, .slice D2 d2 f2, .slice D3 d3 f3, .slice D4 d4 f4] _ HBZ.out (fun j v hv => by simpa using hv) Tryd.underlying38 rfl (by kernel_rfl))) rfl ?_
  refine ⟨_, c, _, rfl, ?_, (HC2.out.keep HK3.out).write HWZ.out (fun h => by have := HBW.out _ h; omega), Only.write (Only.keep (Only.trans (HKW.out.only gc) HO2.out) HK3.out) HWZ.out (Nat.le_refl _)⟩
  refine ((HCD.out.keep (HK3.out.mono (fun i hi => hi.2))).keep (HWZ.out.mono (fun i (hi : New w2 w1.heap.size i) => by have := hi.1; omega))).more (fun i hi => ⟨by have := hi.1; omega, by have := hi.2; omega⟩)
end Go.Proofs.YtecckbkobkfnmaaDoor

-- MkSt2
/- Contracts of the maker's functions: State. -/
set_option linter.unusedVariables false
set_option linter.unusedSimpArgs false
set_option maxRecDepth 100000
namespace Go.Proofs.YtecckbkobkfnmaaDoor
open Go.RowKit Go.Proofs

def StatePost (most : Nat) (B : Nat → Prop) (gc : Nat) (w : World) (e : Ending) (w' : World) : Prop := ∃ (cs : List Value) (s : St) (r' : Nat), e = .returned (.agg cs.toArray) ∧ StR w' (New w' w.heap.size) cs s ∧ (s.cells.length ≤ 1000000 ∧ s.events.length ≤ most ∧ s.sent.length ≤ 8 * (most + 1) ∧ s.outs.length ≤ 8 * (most + 1)) ∧ Cod w' B gc r' ∧ Only gc w w'
set_option maxHeartbeats 8000000 in
theorem state_any (w : World) (B : Nat → Prop) (gc r most : Nat) (hm : most ≤ 1000) (hcod : Cod w B gc r) (hgl : Glob w) : Calls Tryd.prog 14 #[.pointer (some ⟨gc, 0, none⟩), .int .i64 most] w (StatePost most B gc w) := by
  have hgw := hcod.lt
  have hBw := hcod.2.1
  have hg2 := hgl.cod hcod
  generalize hW : w.alloc (.cells #[.slice none 0 0, .slice none 0 0, .slice none 0 0, .slice none 0 0] 27) = W
  have hkW : Keep w W := hW ▸ Keep.new w _
  have hb4 : Blk W w.heap.size 27 #[.slice none 0 0, .slice none 0 0, .slice none 0 0, .slice none 0 0] := hW ▸ Blk.new w _ _
  have hz := hb4.lt
  have hcode := code_any W B gc r (hcod.keep hkW) (hgl.keep hkW)
  have HCOD := Lib.hid hcod
  have HGL := Lib.hid hgl
  have HKW := Lib.hid hkW
  have HB4 := Lib.hid hb4
  have HCODE := Lib.hid hcode
  have HBW := Lib.hid hBw
  clear hcod hgl hkW hb4 hcode hBw
  go_enter Tryd.func14, Tryd.ntmps14
  go_wp2_with fail
  clear hW
  refine HCODE.out.mono ?_
  rintro e w1 ⟨cs1, c, r1, rfl, hcd, hc1, ho1⟩
  obtain ⟨D0, D1, D2, D3, D4, d0, f0, d1, f1, d2, f2, d3, f3, d4, f4, rfl, hcd⟩ := cd_open hcd
  have hz1 := ho1.size
  have HCD := Lib.hid hcd
  have HC1 := Lib.hid hc1
  have HO1 := Lib.hid ho1
  clear hcd hc1 ho1
  go_wp2_with fail
  refine (next_any w1 B gc r1 3 HC1.out (by omega) (by omega)).mono ?_
  rintro e w2 ⟨v2, hv20, hv21, rfl, hc2, ho2⟩
  have hz2 := ho2.size
  have HC2 := Lib.hid hc2
  have HO2 := Lib.hid ho2
  clear hc2 ho2
  go_wp2_with fail
  refine (events_any w2 B gc _ most hm HC2.out).mono ?_
  rintro e w3 ⟨Ae, ne, ce, l, rfl, hl3, hn3, ⟨r3, hc3⟩, ho3⟩
  have hz3 := ho3.size
  have hnl := hl3.1
  have hS3 : ∀ i, (New w1 W.heap.size i ∨ (w2.heap.size ≤ i ∧ i < w3.heap.size)) → i < w3.heap.size := fun i hi => hi.elim (fun h => by have := h.2; omega) (fun h => h.2)
  have ho13 := Only.trans HO2.out ho3
  have hcall := rreplay_any w3 (fun i => New w1 W.heap.size i ∨ (w2.heap.size ≤ i ∧ i < w3.heap.size)) [.slice D0 d0 f0, .slice D1 d1 f1, .slice D2 d2 f2, .slice D3 d3 f3, .slice D4 d4 f4] c v2 3 Ae ne ce l hS3 ((HCD.out.keep (ho13.mono (fun i (hi : New w1 W.heap.size i) => ⟨hi.2, by have := hi.1; omega⟩))).more (fun i hi => .inl hi)) (hl3.more (fun i hi => .inr hi)) (by omega)
  have hlen := replayS_len c v2 3 l
  have hin : c.init.length ≤ 1000000 := by obtain ⟨_, _, _, _, _, _, _, _, _, _, _, _, _, _, _, _, _, _, _, _, _, h⟩ := HCD.out; exact h
  have hb43 := (Only.trans HO1.out ho13).blk HB4.out ⟨hz, by omega⟩
  have how3 := Only.trans (HKW.out.only gc) (Only.trans HO1.out ho13)
  have HC3 := Lib.hid hc3
  have HCALL := Lib.hid hcall
  have HB43 := Lib.hid hb43
  have HOW3 := Lib.hid how3
  have HLEN := Lib.hid hlen
  have HIN := Lib.hid hin
  have HNL := Lib.hid hnl
  clear hc3 hcall hb43 how3 hlen hin hnl
  clear hl3 ho3 ho13 hS3
  go_wp2_with fail
  refine HCALL.out.mono ?_
  rintro e w4 ⟨cs4, rfl, hr4, hk4⟩
  obtain ⟨B1, B2, B3, B4, p1, q1, p2, q2, p3, q3, p4, q4, rfl, hr4⟩ := st_open hr4
  have hz4 := hk4.size
  have hb44 := hk4.blk HB43.out HB43.out.lt
  have HR4 := Lib.hid hr4
  have HK4 := Lib.hid hk4
  have HB44 := Lib.hid hb44
  clear hr4 hk4 hb44
  go_wp2_with (refine wpList_store_all rfl _ (.tmp 4) (.tmp 12) rfl w.heap.size 27 _ [.slice B1 p1 q1, .slice B2 p2 q2, .slice B3 p3 q3, .slice B4 p4 q4] rfl rfl HB44.out rfl (by kernel_rfl) rfl ?_; intro wz hbz hwz; have HBZ := Lib.hid hbz; have HWZ := Lib.hid hwz; clear hbz hwz)
  have hzz := HWZ.out.size
  refine bodyPost_ret (results_cell1 Tryd.results14 _ _ _ ⟨w.heap.size, 0, none⟩ _ rfl (load_st rfl HBZ.out)) rfl ?_
  refine ⟨_, replayS c v2 3 l, _, rfl, ?_, ⟨by have := HLEN.out; have := HIN.out; omega, by have := HLEN.out; have := HNL.out; omega, by have := HLEN.out; have := HNL.out; omega, by have := HLEN.out; have := HNL.out; omega⟩, (HC3.out.keep HK4.out).write HWZ.out (fun h => by have := HBW.out _ h; omega), Only.write (Only.keep HOW3.out HK4.out) HWZ.out (Nat.le_refl _)⟩
  refine (HR4.out.keep (HWZ.out.mono (fun i hi e => ?_))).more (fun i hi => ?_)
  · rcases hi with (h | h) | h
    · have := h.1; omega
    · omega
    · omega
  · rcases hi with (h | h) | h
    · exact ⟨by have := h.1; omega, by have := h.2; omega⟩
    · exact ⟨by omega, by omega⟩
    · exact ⟨by omega, by omega⟩
end Go.Proofs.YtecckbkobkfnmaaDoor

-- Adder
/- law06's adder: the code of the chapter's example. -/
set_option linter.unusedVariables false
set_option linter.unusedSimpArgs false
set_option maxRecDepth 100000
namespace Go.Proofs.YtecckbkobkfnmaaDoor
open Go.RowKit Go.Proofs

def xE : Ex := .mk 2 0 ⟨#[]⟩ 0 0 []
def addE : Ex := .mk 10 0 ⟨#[]⟩ 0 0 [xE, .mk 7 0 ⟨#[]⟩ 0 0 []]
def adderC : Cd := ⟨[0], [], [.mk 1 ⟨#[]⟩ 0 0 zeroEx addE [] [], .mk 6 ⟨#[]⟩ 0 0 zeroEx xE [] []], [], []⟩
def AdPost (w : World) (e : Ending) (w' : World) : Prop := ∃ cs : List Value, e = .returned (.agg cs.toArray) ∧ CdR w' (New w' w.heap.size) cs adderC ∧ Keep w w'
theorem built_i0 (a : Int) : builtS Tryd.prog 3 1 [(0, .int .i64 a)] = some #[.int .i64 a] := by kernel_rfl
theorem bld_ex7 : Tryd.prog.built 106 [(0, .int .i64 7)] = some #[.int .i64 7, .int .i64 0, .string ⟨#[]⟩, .int .i64 0, .int .i64 0, .slice none 0 0] := by kernel_rfl
theorem bld_ex10 (B : Option Addr) (p q : Nat) : Tryd.prog.built 106 [(0, .int .i64 10), (5, .slice B p q)] = some #[.int .i64 10, .int .i64 0, .string ⟨#[]⟩, .int .i64 0, .int .i64 0, .slice B p q] := by kernel_rfl
theorem bld_st1 (o4 x4 : Int) (n4 : ByteArray) (l4 z4 : Int) (B4 : Option Addr) (p4 q4 : Nat) : Tryd.prog.built 108 [(0, .int .i64 1), (5, .agg #[.int .i64 o4, .int .i64 x4, .string n4, .int .i64 l4, .int .i64 z4, .slice B4 p4 q4])] = some #[.int .i64 1, .string ⟨#[]⟩, .int .i64 0, .int .i64 0, .int .i64 0, .int .i64 0, .string ⟨#[]⟩, .int .i64 0, .int .i64 0, .slice none 0 0, .int .i64 o4, .int .i64 x4, .string n4, .int .i64 l4, .int .i64 z4, .slice B4 p4 q4, .slice none 0 0, .slice none 0 0] := by kernel_rfl
def st1C (B : Option Addr) : List Value := [.int .i64 1, .string ⟨#[]⟩, .int .i64 0, .int .i64 0, .int .i64 0, .int .i64 0, .string ⟨#[]⟩, .int .i64 0, .int .i64 0, .slice none 0 0, .int .i64 10, .int .i64 0, .string ⟨#[]⟩, .int .i64 0, .int .i64 0, .slice B 2 2, .slice none 0 0, .slice none 0 0]
def st2C : List Value := [.int .i64 6, .string ⟨#[]⟩, .int .i64 0, .int .i64 0, .int .i64 0, .int .i64 0, .string ⟨#[]⟩, .int .i64 0, .int .i64 0, .slice none 0 0, .int .i64 2, .int .i64 0, .string ⟨#[]⟩, .int .i64 0, .int .i64 0, .slice none 0 0, .slice none 0 0, .slice none 0 0]
theorem built_st2 (B : Option Addr) : builtS Tryd.prog 108 2 [(0, .agg (st1C B).toArray), (1, .agg st2C.toArray)] = some (st1C B ++ st2C).toArray := by kernel_rfl
theorem bld_code (A : Option Addr) (m c : Nat) (B : Option Addr) (p q : Nat) : Tryd.prog.built 38 [(0, .slice A m c), (2, .slice B p q)] = some #[.slice A m c, .slice none 0 0, .slice B p q, .slice none 0 0, .slice none 0 0] := by kernel_rfl

set_option maxHeartbeats 16000000 in
theorem adder_any (w : World) : Calls Tryd.prog 48 #[] w (AdPost w) := by
  go_enter Tryd.func48, Tryd.ntmps48
  go_upto_region 2 with fail
  generalize hW : (w.alloc (.cells #[.slice none 0 0, .slice none 0 0, .slice none 0 0, .slice none 0 0, .slice none 0 0] 38)).alloc (.cells #[.int .i64 2, .int .i64 0, .string ⟨#[]⟩, .int .i64 0, .int .i64 0, .slice none 0 0] 106) = W
  have hkW : Keep w W := hW ▸ Keep.alloc (Keep.new w _) _
  have hb0 : Blk W w.heap.size 38 #[.slice none 0 0, .slice none 0 0, .slice none 0 0, .slice none 0 0, .slice none 0 0] := hW ▸ (Blk.new w _ _).alloc _
  have hb1 : Blk W (w.heap.size + 1) 106 #[.int .i64 2, .int .i64 0, .string ⟨#[]⟩, .int .i64 0, .int .i64 0, .slice none 0 0] := hW ▸ (by simpa using Blk.new (w.alloc _) _ _)
  have hz : w.heap.size + 1 < W.heap.size := hb1.lt
  clear hW
  have HKW := Lib.hid hkW
  have HB0 := Lib.hid hb0
  have HB1 := Lib.hid hb1
  clear hkW hb0 hb1
  go_wp2_with (first
    | (refine wpList_buildS rfl 22 _ _ _ rfl Tryd.underlying22 _ [(0, .int .i64 0)] rfl (built_i0 _) ?_)
    | (refine wpList_load_all rfl _ (.tmp 1) rfl (w.heap.size + 1) 106 [.int .i64 2, .int .i64 0, .string ⟨#[]⟩, .int .i64 0, .int .i64 0, .slice none 0 0] _ rfl (HB1.out.alloc _) Tryd.underlying106 rfl (by kernel_rfl) ?_)
    | (refine wpList_load_all rfl _ (.tmp 1) rfl (w.heap.size + 1) 106 [.int .i64 2, .int .i64 0, .string ⟨#[]⟩, .int .i64 0, .int .i64 0, .slice none 0 0] _ rfl ((HB1.out.alloc _).alloc _) Tryd.underlying106 rfl (by kernel_rfl) ?_)
    | (refine wpList_bld rfl 106 _ rfl _ [(0, .int .i64 7)] rfl bld_ex7 ?_)
    | (refine wpList_buildS rfl 104 _ _ _ rfl Tryd.underlying104 _ [(0, .agg #[.int .i64 2, .int .i64 0, .string ⟨#[]⟩, .int .i64 0, .int .i64 0, .slice none 0 0]), (1, .agg #[.int .i64 7, .int .i64 0, .string ⟨#[]⟩, .int .i64 0, .int .i64 0, .slice none 0 0])] rfl (built_ex2 _ _ _ _ _ _ _ _ _ _ _ _ _ _ _ _) ?_)
    | (refine wpList_bld rfl 106 _ rfl _ [(0, .int .i64 10), (5, .slice (some ⟨W.heap.size + 1, 0, none⟩) 2 2)] rfl (bld_ex10 _ _ _) ?_)
    | (refine wpList_bld rfl 108 _ rfl _ [(0, .int .i64 1), (5, .agg #[.int .i64 10, .int .i64 0, .string ⟨#[]⟩, .int .i64 0, .int .i64 0, .slice (some ⟨W.heap.size + 1, 0, none⟩) 2 2])] rfl (bld_st1 _ _ _ _ _ _ _ _) ?_)
    | (refine wpList_bld rfl 108 _ rfl _ [(0, .int .i64 6), (5, .agg #[.int .i64 2, .int .i64 0, .string ⟨#[]⟩, .int .i64 0, .int .i64 0, .slice none 0 0])] rfl (bld_stm6 _ _ _ _ _ _ _ _) ?_)
    | (refine wpList_buildS rfl 36 _ _ _ rfl Tryd.underlying36 _ [(0, .agg (st1C (some ⟨W.heap.size + 1, 0, none⟩)).toArray), (1, .agg st2C.toArray)] rfl (built_st2 _) ?_)
    | (refine wpList_bld rfl 38 _ rfl _ [(0, .slice (some ⟨W.heap.size, 0, none⟩) 1 1), (2, .slice (some ⟨W.heap.size + 2, 0, none⟩) 2 2)] rfl (bld_code _ _ _ _ _ _) ?_)
    | (refine wpList_store_all rfl _ (.tmp 0) (.tmp 12) rfl w.heap.size 38 _ [.slice (some ⟨W.heap.size, 0, none⟩) 1 1, .slice none 0 0, .slice (some ⟨W.heap.size + 2, 0, none⟩) 2 2, .slice none 0 0, .slice none 0 0] rfl rfl (((HB0.out.alloc _).alloc _).alloc _) rfl (by kernel_rfl) rfl ?_; intro w2 hb2 hs2; have HB2 := Lib.hid hb2; have HS2 := Lib.hid hs2; clear hb2 hs2))
  refine bodyPost_ret (results_cell1 Tryd.results48 _ _ _ ⟨w.heap.size, 0, none⟩ _ rfl (loadVar_blk [.slice (some ⟨W.heap.size, 0, none⟩) 1 1, .slice none 0 0, .slice (some ⟨W.heap.size + 2, 0, none⟩) 2 2, .slice none 0 0, .slice none 0 0] _ HB2.out (fun j v hv => by simpa using hv) Tryd.underlying38 rfl (by kernel_rfl))) rfl ?_
  generalize hV : ((W.alloc (.cells #[.int .i64 0] 3)).alloc (.cells #[.int .i64 2, .int .i64 0, .string ⟨#[]⟩, .int .i64 0, .int .i64 0, .slice none 0 0, .int .i64 7, .int .i64 0, .string ⟨#[]⟩, .int .i64 0, .int .i64 0, .slice none 0 0] 106)).alloc (.cells (st1C (some ⟨W.heap.size + 1, 0, none⟩) ++ st2C).toArray 108) = V at *
  have hkV : Keep W V := hV ▸ Keep.alloc (Keep.alloc (Keep.new W _) _) _
  have c0 : Blk V W.heap.size 3 (encI 0).toArray := hV ▸ ((Blk.new W 3 _).alloc _).alloc _
  have c1 : Blk V (W.heap.size + 1) 106 (([.int .i64 2, .int .i64 0, .string ⟨#[]⟩, .int .i64 0, .int .i64 0, .slice none 0 0] : List Value) ++ ([.int .i64 7, .int .i64 0, .string ⟨#[]⟩, .int .i64 0, .int .i64 0, .slice none 0 0] : List Value)).toArray := hV ▸ (by simpa using (Blk.new (W.alloc (.cells #[.int .i64 0] 3)) 106 _).alloc _)
  have c2 : Blk V (W.heap.size + 2) 108 (st1C (some ⟨W.heap.size + 1, 0, none⟩) ++ st2C).toArray := hV ▸ (by simpa using Blk.new ((W.alloc (.cells #[.int .i64 0] 3)).alloc _) 108 _)
  have hzV := c2.lt
  have hz2 := HS2.out.size
  have d0 := HS2.out.blk c0 (by omega)
  have d1 := HS2.out.blk c1 (by omega)
  have d2 := HS2.out.blk c2 (by omega)
  have m0 : New w2 w.heap.size W.heap.size := ⟨by omega, by omega⟩
  have m1 : New w2 w.heap.size (W.heap.size + 1) := ⟨by omega, by omega⟩
  have m2 : New w2 w.heap.size (W.heap.size + 2) := ⟨by omega, by omega⟩
  have r1 : SlR w2 (New w2 w.heap.size) 6 (ExR w2 (New w2 w.heap.size) 4) (some ⟨W.heap.size + 1, 0, none⟩) 2 2 [xE, .mk 7 0 ⟨#[]⟩ 0 0 []] := SlR.two (R := fun w S cs e => ExR w S 4 cs e) d1 m1 rfl rfl (ExR.leaf 3 2 0 ⟨#[]⟩) (ExR.leaf 3 7 0 ⟨#[]⟩)
  have s1 : StmR w2 (New w2 w.heap.size) 3 (st1C (some ⟨W.heap.size + 1, 0, none⟩)) (.mk 1 ⟨#[]⟩ 0 0 zeroEx addE [] []) := ⟨I64.zero, I64.zero, [.int .i64 0, .int .i64 0, .string ⟨#[]⟩, .int .i64 0, .int .i64 0, .slice none 0 0], [.int .i64 10, .int .i64 0, .string ⟨#[]⟩, .int .i64 0, .int .i64 0, .slice (some ⟨W.heap.size + 1, 0, none⟩) 2 2], none, none, 0, 0, 0, 0, rfl, zeroEx_R 4, ⟨I64.zero, I64.zero, _, 2, 2, rfl, r1⟩, SlR.nil_, SlR.nil_⟩
  have s2 : StmR w2 (New w2 w.heap.size) 3 st2C (.mk 6 ⟨#[]⟩ 0 0 zeroEx xE [] []) := ⟨I64.zero, I64.zero, [.int .i64 0, .int .i64 0, .string ⟨#[]⟩, .int .i64 0, .int .i64 0, .slice none 0 0], [.int .i64 2, .int .i64 0, .string ⟨#[]⟩, .int .i64 0, .int .i64 0, .slice none 0 0], none, none, 0, 0, 0, 0, rfl, zeroEx_R 4, ExR.leaf 4 2 0 ⟨#[]⟩, SlR.nil_, SlR.nil_⟩
  have i1 : Sl encI 1 w2 (New w2 w.heap.size) (some ⟨W.heap.size, 0, none⟩) 1 1 [0] := ⟨rfl, Nat.le_refl _, by simp [maxLen], rfl, fun _ => ⟨_, 0, rfl, m0, fun j u hu => by rw [d0.cell]; simpa using hu⟩⟩
  exact ⟨_, rfl, ⟨_, none, _, none, none, 1, 1, 0, 0, 2, 2, 0, 0, 0, 0, rfl, i1, SlR.nil_, SlR.two (R := fun w S cs e => StmR w S 3 cs e) d2 m2 rfl rfl s1 s2, SlR.nil_, SlR.nil_, by show (1 : Nat) ≤ _; omega⟩, Keep.write (Keep.trans HKW.out hkV) HS2.out (Nat.le_refl _)⟩
end Go.Proofs.YtecckbkobkfnmaaDoor

-- Awake06a
/- What the adder's replay is. -/
set_option linter.unusedVariables false
set_option linter.unusedSimpArgs false
namespace Go.Proofs.YtecckbkobkfnmaaDoor
open Go.RowKit Go.Proofs

theorem adder_start : startS adderC 0 2 = ⟨[0], [], [], []⟩ := by
  unfold startS runS
  rw [show adderC.start = [] from rfl, execF_of (Exec.nil _)]
  rfl
theorem adder_run (c v r : Int) (h1 : valS [c] ⟨0, 2, 1, v⟩ 5 addE = r) (h2 : valS [r] ⟨0, 2, 1, v⟩ 5 xE = r) : Exec ⟨0, 2, 1, v⟩ (.list adderC.message) ⟨[c], [], 400⟩ (.done ⟨[r], [⟨2, 0, r⟩], 398⟩) := by
  have a1 := Exec.simple (v := ⟨0, 2, 1, v⟩) (s := .mk 1 ⟨#[]⟩ 0 0 zeroEx addE [] []) (m := ⟨[c], [], 400⟩) (by show (0 : Nat) < 400; omega) (by decide) (by decide)
  have e1 : simpleS ⟨0, 2, 1, v⟩ (.mk 1 ⟨#[]⟩ 0 0 zeroEx addE [] []) (Ms.pay ⟨[c], [], 400⟩) = ⟨[r], [], 399⟩ := by
    simp [simpleS, Stm.kind, Stm.slot, Stm.value, Ms.pay, Ms.set, h1]
  rw [e1] at a1
  have a2 := Exec.simple (v := ⟨0, 2, 1, v⟩) (s := .mk 6 ⟨#[]⟩ 0 0 zeroEx xE [] []) (m := ⟨[r], [], 399⟩) (by show (0 : Nat) < 399; omega) (by decide) (by decide)
  have e2 : simpleS ⟨0, 2, 1, v⟩ (.mk 6 ⟨#[]⟩ 0 0 zeroEx xE [] []) (Ms.pay ⟨[r], [], 399⟩) = ⟨[r], [⟨2, 0, r⟩], 398⟩ := by
    simp [simpleS, Stm.kind, Stm.slot, Stm.value, Ms.pay, Ms.eff, h2]
  rw [e2] at a2
  exact Exec.cons a1 (Exec.cons a2 (Exec.nil _))
theorem adder_next (c v r : Int) (evs : List Ev) (snd : List Snd) (outs : List Outp) (h1 : valS [c] ⟨0, 2, 1, v⟩ 5 addE = r) (h2 : valS [r] ⟨0, 2, 1, v⟩ 5 xE = r) :
    nextS adderC 0 2 ⟨[c], evs, snd, outs⟩ ⟨1, 0, 1, 0, 0, 0, v⟩ = ⟨[r], evs ++ [⟨1, 0, 1, 0, 0, 0, v⟩], snd, outs ++ [⟨evs.length + 1, r⟩]⟩ := by
  unfold nextS runS
  rw [if_pos rfl]
  dsimp only
  rw [execF_of (adder_run c v r h1 h2)]
  simp [sendsOf, outsOf, Res.st]
theorem adder_replay : replayS adderC 0 2 [⟨1, 0, 1, 0, 0, 0, 2⟩, ⟨1, 0, 1, 0, 0, 0, 3⟩] = ⟨[5], [⟨1, 0, 1, 0, 0, 0, 2⟩, ⟨1, 0, 1, 0, 0, 0, 3⟩], [], [⟨1, 2⟩, ⟨2, 5⟩]⟩ := by
  unfold replayS
  rw [adder_start, List.foldl_cons, List.foldl_cons, List.foldl_nil]
  rw [adder_next 0 2 2 [] [] [] (by simp [valS, addE, xE, applyS, cellS, wrap64]) (by simp [valS, addE, xE, applyS, cellS])]
  rw [adder_next 2 3 5 _ [] _ (by simp [valS, addE, xE, applyS, cellS, wrap64]) (by simp [valS, addE, xE, applyS, cellS])]
  rfl
end Go.Proofs.YtecckbkobkfnmaaDoor

-- Awake06
/- law06's awake. -/
set_option linter.unusedVariables false
set_option linter.unusedSimpArgs false
set_option maxRecDepth 100000
namespace Go.Proofs.YtecckbkobkfnmaaDoor
open Go.RowKit Go.Proofs

def AwPost (w : World) (e : Ending) (w' : World) : Prop := e = .returned (.bool true) ∧ Keep w w'
theorem built_ev2 (v v' : Int) : builtS Tryd.prog 51 2 [(0, .agg #[.int .i64 1, .int .i64 0, .int .i64 1, .int .i64 0, .int .i64 0, .int .i64 0, .int .i64 v]), (1, .agg #[.int .i64 1, .int .i64 0, .int .i64 1, .int .i64 0, .int .i64 0, .int .i64 0, .int .i64 v'])] = some #[.int .i64 1, .int .i64 0, .int .i64 1, .int .i64 0, .int .i64 0, .int .i64 0, .int .i64 v, .int .i64 1, .int .i64 0, .int .i64 1, .int .i64 0, .int .i64 0, .int .i64 0, .int .i64 v'] := by kernel_rfl
theorem bld_evw (v : Int) : Tryd.prog.built 51 [(0, .int .i64 1), (2, .int .i64 1), (5, .int .i64 v)] = some #[.int .i64 1, .int .i64 0, .int .i64 1, .int .i64 0, .int .i64 0, .int .i64 0, .int .i64 v] := by kernel_rfl
set_option maxHeartbeats 16000000 in
theorem awake06_any (w : World) : Calls Tryd.prog 18 #[] w (AwPost w) := by
  go_enter Tryd.func18, Tryd.ntmps18
  go_wp2_with fail
  refine (adder_any w).mono ?_
  rintro e w1 ⟨cs, rfl, hc, hk1⟩
  have hcc := hc
  obtain ⟨A0, A1, A2, A3, A4, m0, c0, m1, c1, m2, c2, m3, c3, m4, c4, rfl, -⟩ := hc
  generalize hV : w1.alloc (.cells #[.int .i64 1, .int .i64 0, .int .i64 1, .int .i64 0, .int .i64 0, .int .i64 0, .int .i64 2, .int .i64 1, .int .i64 0, .int .i64 1, .int .i64 0, .int .i64 0, .int .i64 0, .int .i64 3] 51) = V
  have hkV : Keep w1 V := hV ▸ Keep.new w1 _
  have hrd : Reads V (fun i => i = w1.heap.size) 7 (some ⟨w1.heap.size, 0, none⟩) 2 (([⟨1, 0, 1, 0, 0, 0, 2⟩, ⟨1, 0, 1, 0, 0, 0, 3⟩] : List Ev).flatMap encEv) := hV ▸ Reads.new rfl
  have hz1 := hk1.size
  have hzV : w1.heap.size < V.heap.size := by rw [← hV]; simp
  have key := preplay_any V (New V w.heap.size) [.slice A0 m0 c0, .slice A1 m1 c1, .slice A2 m2 c2, .slice A3 m3 c3, .slice A4 m4 c4] adderC 0 2 (some ⟨w1.heap.size, 0, none⟩) 2 2 [⟨1, 0, 1, 0, 0, 0, 2⟩, ⟨1, 0, 1, 0, 0, 0, 3⟩] (fun i hi => hi.2) ((hcc.keep (Same.mono hkV (fun i hi => hi.2))).more (fun i hi => ⟨hi.1, by have := hi.2; omega⟩)) ⟨rfl, Nat.le_refl _, by simp [maxLen], hrd.more (fun i hi => by subst hi; exact ⟨by omega, by omega⟩)⟩ (by simp)
  rw [adder_replay] at key
  have hkw := Keep.trans hk1 hkV
  have KEY := Lib.hid key
  have HKW := Lib.hid hkw
  clear key hkw
  clear hcc hkV hrd hk1
  go_wp2_with (first
    | (refine wpList_bld rfl 51 _ rfl _ [(0, .int .i64 1), (2, .int .i64 1), (5, .int .i64 2)] rfl (bld_evw _) ?_)
    | (refine wpList_bld rfl 51 _ rfl _ [(0, .int .i64 1), (2, .int .i64 1), (5, .int .i64 3)] rfl (bld_evw _) ?_)
    | (refine wpList_buildS rfl 23 _ _ _ rfl Tryd.underlying23 _ [(0, .agg #[.int .i64 1, .int .i64 0, .int .i64 1, .int .i64 0, .int .i64 0, .int .i64 0, .int .i64 2]), (1, .agg #[.int .i64 1, .int .i64 0, .int .i64 1, .int .i64 0, .int .i64 0, .int .i64 0, .int .i64 3])] rfl (built_ev2 _ _) ?_; rw [hV]))
  refine KEY.out.mono ?_
  rintro e w2 ⟨cs, rfl, hr, hk2⟩
  obtain ⟨B1, B2, B3, B4, p1, q1, p2, q2, p3, q3, p4, q4, rfl, h1, h2, h3, h4⟩ := hr
  have l1 := h1.1
  have l2 := h2.1
  have l4 := h4.1
  simp at l1 l2 l4
  obtain ⟨b1, o1, x1, rfl, s1, hx1, hc1⟩ := h1.at_ encI_len (k := 0) (by omega)
  obtain ⟨b4, o4, x4, rfl, s4, hx4, hc4⟩ := h4.at_ encOut_len (k := 1) (by omega)
  obtain rfl : x1 = 5 := by simpa using hx1.symm
  obtain rfl : x4 = ⟨2, 5⟩ := by simpa using hx4.symm
  have v1 : w2.cell? ⟨b1, o1, none⟩ = some (.int .i64 5) := by simpa using hc1 0 _ rfl
  have v4 : w2.cell? ⟨b4, o4 + 2, none⟩ = some (.int .i64 2) := by simpa using hc4 0 _ rfl
  have v5 : w2.cell? ⟨b4, o4 + 2 + 1, none⟩ = some (.int .i64 5) := by simpa using hc4 1 _ rfl
  have t1 : b1 < w2.heap.size := Sn.lt (fun i hi => hi.2) hk2.size b1 s1
  have t4 : b4 < w2.heap.size := Sn.lt (fun i hi => hi.2) hk2.size b4 s4
  clear s1 s4
  subst l1 l2 l4
  have hkw2 := Keep.trans HKW.out hk2
  clear h1 h2 h3 h4 hx1 hx4 hc1 hc4
  go_upto_region 2 with (refine wpList_store_all rfl _ (.tmp 1) (.tmp 6) rfl w2.heap.size 27 _ [.slice (some ⟨b1, o1, none⟩) 1 q1, .slice B2 2 q2, .slice B3 p3 q3, .slice (some ⟨b4, o4, none⟩) 2 q4] rfl rfl (Blk.new _ _ _) rfl (by kernel_rfl) rfl ?_; intro w3 hb3 hs3)
  have hk3 : Keep w2 w3 := Keep.write (Keep.new _ _) hs3 (Nat.le_refl _)
  replace v1 := (hk3.cell (p := ⟨b1, o1, none⟩) t1).trans v1
  replace v4 := (hk3.cell (p := ⟨b4, o4 + 2, none⟩) t4).trans v4
  replace v5 := (hk3.cell (p := ⟨b4, o4 + 2 + 1, none⟩) t4).trans v5
  have z0 : w3.cell? ⟨w2.heap.size, 0, none⟩ = some (.slice (some ⟨b1, o1, none⟩) 1 q1) := by rw [hb3.cell]; rfl
  have z1 : w3.cell? ⟨w2.heap.size, 1, none⟩ = some (.slice B2 2 q2) := by rw [hb3.cell]; rfl
  have z3 : w3.cell? ⟨w2.heap.size, 3, none⟩ = some (.slice (some ⟨b4, o4, none⟩) 2 q4) := by rw [hb3.cell]; rfl
  have hfin : AwPost w (.returned (.bool true)) w3 := ⟨rfl, Keep.trans hkw2 hk3⟩
  clear hb3 hs3 hk2 hk3 hkw2 hV KEY HKW
  have HFIN := Lib.hid hfin
  clear hfin
  try simp only [Act.put, List.setIfInBounds_toArray, List.set_cons_zero, List.set_cons_succ]
  go_wp2_with fail
  go_ret
  exact HFIN.out
end Go.Proofs.YtecckbkobkfnmaaDoor

-- RowIn
/- Slices of integers that came in, as the row's frame gives them, read as lists. -/
set_option linter.unusedVariables false
namespace Go.Proofs.YtecckbkobkfnmaaDoor
open Go.RowKit

theorem sl_of_ints {k : IntKind} {w : World} {a : Option Addr} {len cap : Nat} {zs : List Int}
    (h : (a = none ∧ len = 0 ∧ cap = 0 ∧ zs = []) ∨ ∃ x, a = some x ∧ len ≤ cap ∧ cap ≤ maxLen ∧ zs.length = cap ∧ (∀ i, i < zs.length → w.cell? (x.add i) = some (.int k (zs.getD i 0))) ∧ ∀ n ∈ zs, (Lit.int k n).wf = true) :
    Sl (fun x : Int => [.int k x]) 1 w (· < w.heap.size) a len cap (zs.take len) := by
  rcases h with ⟨rfl, rfl, rfl, rfl⟩ | ⟨x, rfl, h1, h2, h3, h4, _⟩
  · exact Sl.nil_
  · refine ⟨by simp; omega, h1, h2, by rw [flat_length (size := 1) (fun _ => rfl)]; simp; omega, fun hn => ?_⟩
    obtain ⟨b, off, spot⟩ := x
    have h0 := h4 0 (by omega)
    have hs : spot = none := by simpa [Addr.add] using World.cell?_spot h0
    subst hs
    refine ⟨b, off, rfl, ?_, fun j u hu => ?_⟩
    · have := World.block_lt_of_cell? w _ h0
      simpa [Addr.add] using this
    · have hj : j < len := by
        have := (List.getElem?_eq_some_iff.1 hu).1
        rw [flat_length (size := 1) (fun _ => rfl)] at this
        simp at this
        omega
      have hc := h4 j (by omega)
      rw [add_lit'] at hc
      rw [hc]
      have e : ((zs.take len).flatMap fun x : Int => [Value.int k x])[j]? = some (.int k (zs.getD j 0)) := by
        have := flat_get (enc := fun x : Int => [Value.int k x]) (size := 1) (fun _ => rfl) (zs.take len) j 0 (by simp; omega) (by omega)
        simp only [Nat.mul_one, Nat.add_zero] at this
        rw [this]
        simp [show j < zs.length by omega]
      rw [e] at hu
      exact hu
theorem wf_take {k : IntKind} {len : Nat} {zs : List Int} (h : ∀ n ∈ zs, (Lit.int k n).wf = true) : ∀ n ∈ zs.take len, (Lit.int k n).wf = true := fun n hn => h n (List.mem_of_mem_take hn)
theorem wf_ints {k : IntKind} {w : World} {a : Option Addr} {len cap : Nat} {zs : List Int}
    (h : (a = none ∧ len = 0 ∧ cap = 0 ∧ zs = []) ∨ ∃ x, a = some x ∧ len ≤ cap ∧ cap ≤ maxLen ∧ zs.length = cap ∧ (∀ i, i < zs.length → w.cell? (x.add i) = some (.int k (zs.getD i 0))) ∧ ∀ n ∈ zs, (Lit.int k n).wf = true) :
    ∀ n ∈ zs.take len, (Lit.int k n).wf = true := by
  rcases h with ⟨rfl, rfl, rfl, rfl⟩ | ⟨x, rfl, _, _, _, _, h⟩
  · simp
  · exact wf_take h
theorem i64_of_wf {x : Int} (h : (Lit.int .i64 x).wf = true) : I64 x := by
  have := bounds_i64 h
  exact ⟨by omega, by omega⟩
theorem u8_of_wf {x : Int} (h : (Lit.int .u8 x).wf = true) : 0 ≤ x ∧ x < 256 := by
  have := bounds_u8 h
  omega
end Go.Proofs.YtecckbkobkfnmaaDoor

-- Laid
/- What the listed variables hold, as the walks ask it. -/
set_option linter.unusedVariables false
namespace Go.Proofs.YtecckbkobkfnmaaDoor
open Go.ChangeShapes Go.WideShapes Go.ChangeAt Go.RowKit

/-- An array of strings that was read: its cells are strings. -/
theorem strs_of_trod {H : Type} {enc : TypeId × Value → H} {W : World} {base : Nat} {spare : Nat → Bool} {held : Bool} {t n fuel : Nat} {cs : List Value} {x : DataW H × List MemPlace} (ht : Tryd.prog.underlying t = some (.array n 9))
    (h : DataW.trod enc Tryd.prog W base spare held fuel t cs = some x) : ∀ i, i < n → ∃ s, cs[i]? = some (.string s) := by
  obtain ⟨xs, m, rfl, hx, hl, hn, hel⟩ := DataW.trod_array ht h
  intro i hi
  have hi' := hel i hi
  have c1 : Tryd.prog.cellsOf 9 = 1 := by kernel_rfl
  rw [c1, List.getElem?_eq_getElem (by omega)] at hi'
  obtain ⟨s, e1, _⟩ := DataW.trod_string Tryd.underlying9 hi'
  refine ⟨s, ?_⟩
  have := congrArg (fun l : List Value => l[0]?) e1
  simpa using this
theorem tScalars : (Tryd.prog.globals[0]?).map (·.type) = some 128 := by kernel_rfl
theorem tArrays : (Tryd.prog.globals[1]?).map (·.type) = some 130 := by kernel_rfl
theorem laid_in {W : World} {n1 n2 : String} {d1 d2 : DataW Unit} (gScalars : Tryd.prog.globalNamed n1 = some 0) (gArrays : Tryd.prog.globalNamed n2 = some 1) (h : laidMet Tryd.prog [(n1, d1), (n2, d2)] W) : Glob W := by
  obtain ⟨ps, ⟨g0, t0, cs0, f0, p0, q0, hg0, ht0, hv0, hd0, ⟨g1, t1, cs1, f1, p1, q1, hg1, ht1, hv1, hd1, _, _⟩, _⟩, _, _⟩ := h
  obtain rfl := Option.some.inj (gScalars.symm.trans hg0)
  obtain rfl := Option.some.inj (gArrays.symm.trans hg1)
  obtain rfl := Option.some.inj (tScalars.symm.trans ht0)
  obtain rfl := Option.some.inj (tArrays.symm.trans ht1)
  have h1 : ∀ i, i < 3 → ∃ s, W.cell? ⟨0, i, none⟩ = some (.string s) := fun i hi => by
    obtain ⟨s, hs⟩ := strs_of_trod Tryd.underlying128 hd0 i hi
    exact ⟨s, by rw [World.var?_cell hg0 hv0 i]; simpa using hs⟩
  have h2 : ∀ i, i < 2 → ∃ s, W.cell? ⟨1, i, none⟩ = some (.string s) := fun i hi => by
    obtain ⟨s, hs⟩ := strs_of_trod Tryd.underlying130 hd1 i hi
    exact ⟨s, by rw [World.var?_cell hg1 hv1 i]; simpa using hs⟩
  refine ⟨h1, h2, ?_⟩
  obtain ⟨s, hs⟩ := h1 0 (by omega)
  obtain ⟨s', hs'⟩ := h2 0 (by omega)
  have a := World.block_lt_of_cell? W _ hs
  have b := World.block_lt_of_cell? W _ hs'
  simp at a b
  omega
end Go.Proofs.YtecckbkobkfnmaaDoor
