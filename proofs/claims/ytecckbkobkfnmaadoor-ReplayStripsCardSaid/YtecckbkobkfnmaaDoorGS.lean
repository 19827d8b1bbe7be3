import Derived.Test.YtecckbkobkfnmaaDoorProcR2
import Derived.Test.YtecckbkobkfnmaaDoorGQ
import Derived.Test.YtecckbkobkfnmaaDoorSlices
-- Strip
/- Strip of replay and of ref34. -/
set_option linter.unusedVariables false
set_option linter.unusedSimpArgs false
set_option maxRecDepth 100000
namespace Go.Proofs.YtecckbkobkfnmaaDoor
open Go.RowKit Go.Proofs

def stripE (e : Ev) : Ev := { e with inc := 0, sInc := 0 }
def stripS (s : St) : St := { s with events := s.events.map stripE }
def stripK (l : List Ev) (k : Nat) : List Ev := l.mapIdx (fun i e => if i < k then stripE e else e)
theorem stripK_zero (l : List Ev) : stripK l 0 = l := by
  apply List.ext_getElem?
  intro i
  simp [stripK, List.getElem?_mapIdx]
theorem stripK_len (l : List Ev) (k : Nat) : (stripK l k).length = l.length := by simp [stripK]
theorem stripK_all (l : List Ev) : stripK l l.length = l.map stripE := by
  apply List.ext_getElem?
  intro i
  simp only [stripK, List.getElem?_mapIdx, List.getElem?_map]
  rcases Nat.lt_or_ge i l.length with h | h
  · simp [h]
  · rw [List.getElem?_eq_none h]; rfl
theorem stripK_at {l : List Ev} {k : Nat} {e : Ev} (h : l[k]? = some e) : (stripK l k)[k]? = some e := by simp [stripK, List.getElem?_mapIdx, h]
theorem stripK_succ {l : List Ev} {k : Nat} {e : Ev} (h : l[k]? = some e) : stripK l (k + 1) = (stripK l k).set k (stripE e) := by
  apply List.ext_getElem?
  intro i
  obtain ⟨hk, rfl⟩ := List.getElem?_eq_some_iff.1 h
  rw [List.getElem?_set]
  simp only [stripK, List.getElem?_mapIdx, List.length_mapIdx]
  by_cases e : k = i
  · subst e
    simp [hk]
  · rw [if_neg e]
    cases l[i]? with
    | none => rfl
    | some y =>
      by_cases h1 : i < k
      · simp [h1, Nat.lt_succ_of_lt h1]
      · simp [h1, show ¬ i < k + 1 by omega]
def SpL (l : List Ev) (n : Nat) (B g : Nat) (cs : Array Value) (v : Value) (W : World) (i : Value) (wr : World) : Prop :=
  ∃ k : Nat, i = .int .i64 k ∧ k ≤ n ∧ wr.ownsRow B 51 7 v n ((stripK l k).flatMap encEv) ∧ Blk wr g 27 cs ∧ Same (fun i => i < B ∧ i ≠ g) W wr
set_option maxHeartbeats 8000000 in
theorem pstrip_any (w : World) (S : Nat → Prop) (ss : List Value) (s : St) (hS : ∀ i, S i → i < w.heap.size) (hs : StR w S ss s) (h4 : s.events.length ≤ 1000000) : Calls Tryd.prog 16 #[.agg ss.toArray] w (StPost S (stripS s) w) := by
  obtain ⟨B1, B2, B3, B4, p1, q1, p2, q2, p3, q3, p4, q4, rfl, hst⟩ := st_open hs
  obtain ⟨x1, x2, x3, x4⟩ := st_sl hst
  show Calls Tryd.prog 16 #[.agg #[.slice B1 p1 q1, .slice B2 p2 q2, .slice B3 p3 q3, .slice B4 p4 q4]] w _
  generalize hW : (w.alloc (.cells #[.slice B1 p1 q1, .slice B2 p2 q2, .slice B3 p3 q3, .slice B4 p4 q4] 27)).alloc (.cells #[.slice none 0 0, .slice none 0 0, .slice none 0 0, .slice none 0 0] 27) = W
  have hkW : Keep w W := hW ▸ Keep.alloc (Keep.new w _) _
  have hb1 : Blk W w.heap.size 27 #[.slice B1 p1 q1, .slice B2 p2 q2, .slice B3 p3 q3, .slice B4 p4 q4] := hW ▸ (Blk.new w _ _).alloc _
  have hb2 : Blk W (w.heap.size + 1) 27 #[.slice none 0 0, .slice none 0 0, .slice none 0 0, .slice none 0 0] := hW ▸ (by simpa using Blk.new (w.alloc _) _ _)
  have hz := hb2.lt
  have hp2 : p2 ≤ 1000000 := by have := x2.1; omega
  have hpl := x2.1
  have e1 : W.cell? ⟨w.heap.size, 1, none⟩ = some (.slice B2 p2 q2) := by rw [hb1.cell]; rfl
  have key := cloneEvents_any W S B2 p2 q2 s.events (x2.keep (Same.mono hkW hS)) (fun i hi => by have := hS i hi; omega) (by omega)
  have HKW := Lib.hid hkW
  have HB1 := Lib.hid hb1
  have HB2 := Lib.hid hb2
  have X1 := Lib.hid x1
  have X2 := Lib.hid x2
  have X3 := Lib.hid x3
  have X4 := Lib.hid x4
  have HS := Lib.hid hS
  have HPL := Lib.hid hpl
  have KEY := Lib.hid key
  clear hkW hb1 hb2 x1 x2 x3 x4 hS hpl key
  clear hst hs
  go_enter Tryd.func16, Tryd.ntmps16
  go_upto_region 1 with fail
  clear hW
  go_wp2_with fail
  refine KEY.out.mono ?_
  rintro e w1 ⟨va, rfl, hoa, hka⟩
  rw [← HPL.out] at hoa
  obtain ⟨Av, cv, hva, -, -⟩ := own_form hoa
  subst hva
  have hz1 := hka.size
  have hb11 := hka.blk HB1.out HB1.out.lt
  have HOA := Lib.hid hoa
  have HKA := Lib.hid hka
  have HB11 := Lib.hid hb11
  clear hoa hka hb11
  clear KEY e1
  go_upto_region 2 with (refine wpList_store_one rfl _ (.tmp 7) (.tmp 6) rfl w.heap.size 1 27 _ (.slice Av p2 cv) rfl rfl HB11.out (by simp) (by kernel_rfl) rfl rfl ?_; intro w2 hb22 hs2)
  have hb2' : Blk w2 w.heap.size 27 #[.slice B1 p1 q1, .slice Av p2 cv, .slice B3 p3 q3, .slice B4 p4 q4] := by simpa using hb22
  have hz2 := hs2.size
  have ho2 := ownsRow_own HOA.out hs2 (fun b hb e => by have := (HOA.out.lt b hb).1; omega)
  have hsm2 : Same (fun i => i < W.heap.size ∧ i ≠ w.heap.size) W w2 := Same.trans (Same.mono HKA.out (fun i hi => hi.1)) hs2 (fun i hi => hi.2)
  have e1 : w2.cell? ⟨w.heap.size, 1, none⟩ = some (.slice Av p2 cv) := by rw [hb2'.cell]; rfl
  have hrel0 : SpL s.events p2 W.heap.size w.heap.size #[.slice B1 p1 q1, .slice Av p2 cv, .slice B3 p3 q3, .slice B4 p4 q4] (.slice Av p2 cv) W (.int .i64 0) w2 := ⟨0, rfl, Nat.zero_le _, by rw [stripK_zero]; exact ho2, hb2', hsm2⟩
  have HREL0 := Lib.hid hrel0
  clear hrel0
  clear hb22 hs2 hb2' ho2 hsm2
  go_wp2_with fail
  clear e1
  go_loopw [11] (fun i wr => SpL s.events p2 W.heap.size w.heap.size #[.slice B1 p1 q1, .slice Av p2 cv, .slice B3 p3 q3, .slice B4 p4 q4] (.slice Av p2 cv) W i wr) (fun i _ => p2 - (intOf i).toNat)
  case atStart => exact HREL0.out
  case round =>
    clear HREL0
    obtain ⟨k, rfl, hkn', how, hbs, hsm⟩ := hrel
    have e1 : wr.cell? ⟨w.heap.size, 1, none⟩ = some (.slice Av p2 cv) := by rw [hbs.cell]; rfl
    by_cases hkn : k < p2
    · obtain ⟨g, cur, rfl, hbg, hbk, hcs, hnc, hcm, htk⟩ := own_open how (by omega)
      have hd1 : decide (k < p2) = true := by simpa using hkn
      have hd2 : (0 : Int) ≤ k := by omega
      have hd3 : (k : Int) < p2 := by omega
      have hkx : k < s.events.length := by have := HPL.out; omega
      have hx : s.events[k]? = some s.events[k] := List.getElem?_eq_getElem hkx
      generalize s.events[k] = y at hx
      have hcz : k * 7 + 7 ≤ cur.size := by omega
      have HBK := Lib.hid hbk
      have HBS := Lib.hid hbs
      have HSM := Lib.hid hsm
      have HCS := Lib.hid hcs
      have HTK := Lib.hid htk
      have HX := Lib.hid hx
      clear hbk hbs hsm hcs htk hx
      clear how
      go_upto_region 6 with (refine wpList_store_one rfl _ (.tmp 18) (.const (.int .i64 0)) rfl g (k * 7 + 1) 51 cur (.int .i64 0) rfl rfl HBK.out (by omega) (by kernel_rfl) rfl rfl ?_; intro w7 hb7 hs7)
      have hbs7 := hs7.blk HBS.out (by show w.heap.size ≠ g; omega)
      clear e1
      have e1 : w7.cell? ⟨w.heap.size, 1, none⟩ = some (.slice (some ⟨g, 0, none⟩) p2 cv) := by rw [hbs7.cell]; rfl
      have hrow1 := row_put (k := k) (o := 1) (e' := { y with inc := 0 }) encEv_len hbg hb7 HCS.out hnc hcm HTK.out (by rw [stripK_len]; exact HPL.out.symm) (stripK_at HX.out) (by omega) rfl
      obtain ⟨g2, cur2, hg2, -, hbk2, hcs2, -, -, htk2⟩ := own_open hrow1 (by omega)
      simp only [Option.some.injEq, Addr.mk.injEq, and_true] at hg2
      subst hg2
      have hcz2 : k * 7 + 7 ≤ cur2.size := by omega
      have hgt : ((stripK s.events k).set k { y with inc := 0 })[k]? = some { y with inc := 0 } := by rw [List.getElem?_set_self (by rw [stripK_len]; exact hkx)]
      have HS7 := Lib.hid hs7
      have HBS7 := Lib.hid hbs7
      have HBK2 := Lib.hid hbk2
      have HCS2 := Lib.hid hcs2
      have HTK2 := Lib.hid htk2
      have HGT := Lib.hid hgt
      clear hs7 hbs7 hbk2 hcs2 htk2 hgt
      clear hb7 hrow1
      go_wp2_with (refine wpList_store_one rfl _ (.tmp 24) (.const (.int .i64 0)) rfl g (k * 7 + 3) 51 cur2 (.int .i64 0) rfl rfl HBK2.out (by omega) (by kernel_rfl) rfl rfl ?_; intro w8 hb8 hs8)
      have hrow2 := row_put (k := k) (o := 3) (e' := stripE y) encEv_len hbg hb8 HCS2.out hnc hcm HTK2.out (by simp [stripK_len]; exact HPL.out.symm) HGT.out (by omega) rfl
      rw [List.set_set, ← stripK_succ HX.out] at hrow2
      have hfin : SpL s.events p2 W.heap.size w.heap.size #[.slice B1 p1 q1, .slice (some ⟨g, 0, none⟩) p2 cv, .slice B3 p3 q3, .slice B4 p4 q4] (.slice (some ⟨g, 0, none⟩) p2 cv) W (.int .i64 (k + 1)) w8 := ⟨k + 1, by simp, by omega, hrow2, hs8.blk HBS7.out (by show w.heap.size ≠ g; omega), Same.trans HSM.out (Same.trans HS7.out hs8 (T := (· ≠ g)) (fun i hi => hi)) (fun i hi => by have := hi.1; show i ≠ g; omega)⟩
      have HFIN := Lib.hid hfin
      clear hfin
      clear hb8 hs8 hrow2
      go_roundw
      case rel => exact HFIN.out
      case measure => simp [intOf]; omega
    · have hd1 : decide (k < p2) = false := by simpa using hkn
      obtain rfl : k = p2 := by omega
      have hb2r := hsm.blk HB2.out ⟨hz, by omega⟩
      have hzr := hsm.size
      have hall : stripK s.events k = s.events.map stripE := by rw [HPL.out]; exact stripK_all _
      rw [hall] at how
      have hff := own_form how
      have HBS := Lib.hid hbs
      have HB2R := Lib.hid hb2r
      have HSM := Lib.hid hsm
      have HOW := Lib.hid how
      clear hbs hb2r hsm how
      clear e1 hall
      go_wp2_with (first
        | (refine wpList_load_all rfl _ (.tmp 1) rfl w.heap.size 27 [.slice B1 p1 q1, .slice Av k cv, .slice B3 p3 q3, .slice B4 p4 q4] _ rfl HBS.out Tryd.underlying27 rfl (by kernel_rfl) ?_)
        | (refine wpList_store_all rfl _ (.tmp 2) (.tmp 26) rfl (w.heap.size + 1) 27 _ [.slice B1 p1 q1, .slice Av k cv, .slice B3 p3 q3, .slice B4 p4 q4] rfl rfl HB2R.out rfl (by kernel_rfl) rfl ?_; intro wz hbz hsz))
      have hzz := hsz.size
      have hwz : Same (fun i => i < w.heap.size) W wz := Same.trans (HSM.out.mono (fun i (hi : i < w.heap.size) => ⟨by omega, by omega⟩)) hsz (fun i hi => by show i ≠ _; omega)
      have hkz : Keep w wz := Same.trans HKW.out hwz (fun i hi => hi)
      have hS2 : Same S w wz := Same.mono hkz HS.out
      have hev : Sl encEv 7 wz (fun i => W.heap.size ≤ i ∧ i < wr.heap.size) Av k cv (s.events.map stripE) := by
        obtain ⟨A', c', e1, h1, h2⟩ := hff
        simp only [Value.slice.injEq, true_and] at e1
        obtain ⟨rfl, rfl⟩ := e1
        exact Sl.keep ⟨by rw [List.length_map]; exact HPL.out, h1, h2, Reads.of_own HOW.out⟩ (hsz.mono (fun i hi => by have := hi.1; show i ≠ _; omega))
      exact bodyPost_ret (results_cell1 Tryd.results16 _ _ _ ⟨w.heap.size + 1, 0, none⟩ _ rfl (loadVar_blk [.slice B1 p1 q1, .slice Av k cv, .slice B3 p3 q3, .slice B4 p4 q4] _ hbz (fun j v hv => by simpa using hv) Tryd.underlying27 rfl (by kernel_rfl))) rfl
        ⟨[.slice B1 p1 q1, .slice Av k cv, .slice B3 p3 q3, .slice B4 p4 q4], rfl, st_mk (s := stripS s) ((X1.out.keep hS2).more (fun i hi => .inl hi)) (hev.more (fun i hi => .inr ⟨by have := hi.1; omega, by have := hi.2; omega⟩)) ((X3.out.keep hS2).more (fun i hi => .inl hi)) ((X4.out.keep hS2).more (fun i hi => .inl hi)), hkz⟩
end Go.Proofs.YtecckbkobkfnmaaDoor

-- Strip2
/- ref34.Strip. -/
set_option linter.unusedVariables false
set_option linter.unusedSimpArgs false
set_option maxRecDepth 100000
namespace Go.Proofs.YtecckbkobkfnmaaDoor
open Go.RowKit Go.Proofs

def SpR (l : List Ev) (B g : Nat) (b1 b3 b4 : Value) (W : World) (i : Value) (wr : World) : Prop :=
  ∃ (k : Nat) (v : Value), i = .int .i64 k ∧ k ≤ l.length ∧ wr.ownsRow B 51 7 v k (((l.take k).map stripE).flatMap encEv) ∧ (∀ b, v.ownBlock = some b → b ≠ g) ∧ Blk wr g 27 #[b1, v, b3, b4] ∧ Keep W wr
theorem strip_take {l : List Ev} {k : Nat} {x : Ev} (h : l[k]? = some x) : (l.take (k + 1)).map stripE = (l.take k).map stripE ++ [stripE x] := by
  obtain ⟨hk, rfl⟩ := List.getElem?_eq_some_iff.1 h
  rw [List.take_succ_eq_append_getElem hk, List.map_append]
  rfl
set_option maxHeartbeats 8000000 in
theorem rstrip_any (w : World) (S : Nat → Prop) (ss : List Value) (s : St) (hS : ∀ i, S i → i < w.heap.size) (hs : StR w S ss s) (h4 : s.events.length ≤ 1000000) : Calls Tryd.prog 17 #[.agg ss.toArray] w (StPost S (stripS s) w) := by
  obtain ⟨B1, B2, B3, B4, p1, q1, p2, q2, p3, q3, p4, q4, rfl, hst⟩ := st_open hs
  obtain ⟨x1, x2, x3, x4⟩ := st_sl hst
  obtain ⟨iE, hi0, iz0, is0, ib0⟩ := info_of info_Event
  show Calls Tryd.prog 17 #[.agg #[.slice B1 p1 q1, .slice B2 p2 q2, .slice B3 p3 q3, .slice B4 p4 q4]] w _
  generalize hW : (w.alloc (.cells #[.slice B1 p1 q1, .slice B2 p2 q2, .slice B3 p3 q3, .slice B4 p4 q4] 27)).alloc (.cells #[.slice none 0 0, .slice none 0 0, .slice none 0 0, .slice none 0 0] 27) = W
  have hkW : Keep w W := hW ▸ Keep.alloc (Keep.new w _) _
  have hb1 : Blk W w.heap.size 27 #[.slice B1 p1 q1, .slice B2 p2 q2, .slice B3 p3 q3, .slice B4 p4 q4] := hW ▸ (Blk.new w _ _).alloc _
  have hb2 : Blk W (w.heap.size + 1) 27 #[.slice none 0 0, .slice none 0 0, .slice none 0 0, .slice none 0 0] := hW ▸ (by simpa using Blk.new (w.alloc _) _ _)
  have hz := hb2.lt
  have hp2 : p2 ≤ 1000000 := by have := x2.1; omega
  have hpl := x2.1
  have hxW := (x2.keep (Same.mono hkW hS)).more (T := fun i => i < W.heap.size) (fun i hi => by have := hS i hi; omega)
  have HKW := Lib.hid hkW
  have HB1 := Lib.hid hb1
  have HB2 := Lib.hid hb2
  have X1 := Lib.hid x1
  have X2 := Lib.hid x2
  have X3 := Lib.hid x3
  have X4 := Lib.hid x4
  have HS := Lib.hid hS
  have HPL := Lib.hid hpl
  have HXW := Lib.hid hxW
  have HI0 := Lib.hid hi0
  have IZ0 := Lib.hid iz0
  have IS0 := Lib.hid is0
  have IB0 := Lib.hid ib0
  clear hkW hb1 hb2 x1 x2 x3 x4 hS hpl hxW hi0 iz0 is0 ib0
  clear hst hs
  go_enter Tryd.func17, Tryd.ntmps17
  go_upto_region 1 with fail
  clear hW
  go_upto_region 2 with (first
    | (refine wpList_load_all rfl _ (.tmp 1) rfl w.heap.size 27 [.slice B1 p1 q1, .slice B2 p2 q2, .slice B3 p3 q3, .slice B4 p4 q4] _ rfl HB1.out Tryd.underlying27 rfl (by kernel_rfl) ?_)
    | (refine wpList_store_all rfl _ (.tmp 3) (.tmp 6) rfl W.heap.size 27 _ [.slice B1 p1 q1, .slice B2 p2 q2, .slice B3 p3 q3, .slice B4 p4 q4] rfl rfl (Blk.new _ _ _) rfl (by kernel_rfl) rfl ?_; intro w1 hb3 hs1))
  have hk1 : Keep W w1 := Keep.write (Keep.new _ _) hs1 (Nat.le_refl _)
  have HB3 := Lib.hid hb3
  have HK1 := Lib.hid hk1
  clear hb3 hk1
  clear hs1
  go_upto_region 3 with (refine wpList_store_one rfl _ (.tmp 7) (.const (.slice none 0 0)) rfl W.heap.size 1 27 _ (.slice none 0 0) rfl rfl HB3.out (by simp) (by kernel_rfl) rfl rfl ?_; intro w2 hb32 hs2)
  have hrel0 : SpR s.events (W.heap.size + 1) W.heap.size (.slice B1 p1 q1) (.slice B3 p3 q3) (.slice B4 p4 q4) W (.int .i64 0) w2 := ⟨0, .slice none 0 0, rfl, Nat.zero_le _, World.ownsRow_nil _ _ _ _, fun b hb => (by cases hb), by simpa using hb32, Keep.write HK1.out hs2 (Nat.le_refl _)⟩
  have HREL0 := Lib.hid hrel0
  clear hrel0
  clear hb32 hs2
  go_wp2_with fail
  go_loopw [4] (fun i wr => SpR s.events (W.heap.size + 1) W.heap.size (.slice B1 p1 q1) (.slice B3 p3 q3) (.slice B4 p4 q4) W i wr) (fun i _ => p2 - (intOf i).toNat)
  case atStart => exact HREL0.out
  case round =>
    clear HREL0
    obtain ⟨k, v, rfl, hkl, how, hvg, hbt, hkr⟩ := hrel
    obtain ⟨Av, cv, rfl, -, -⟩ := own_form how
    have hzr := hkr.size
    have hlt := hbt.lt
    have hbs := hkr.blk HB1.out HB1.out.lt
    have e1 : wr.cell? ⟨w.heap.size, 1, none⟩ = some (.slice B2 p2 q2) := by rw [hbs.cell]; rfl
    by_cases hkn : k < p2
    · obtain ⟨b', off', y, rfl, hbb, hy, hcy⟩ := (HXW.out.keep hkr).at_ encEv_len hkn
      have hd1 : decide (k < p2) = true := by simpa using hkn
      have hd2 : (0 : Int) ≤ k := by omega
      have hd3 : (k : Int) < p2 := by omega
      have hkl1 : k + 1 ≤ s.events.length := by have := HPL.out; omega
      have hst := strip_take hy
      have hrg : wr.rangeAt b' (off' + k * 7) [.int .i64 y.kind, .int .i64 y.inc, .int .i64 y.frm, .int .i64 y.sInc, .int .i64 y.sIdx, .int .i64 y.ord, .int .i64 y.val] := hcy
      have HRG := Lib.hid hrg
      have HST := Lib.hid hst
      have HOW := Lib.hid how
      have HVG := Lib.hid hvg
      have HBT := Lib.hid hbt
      have HKR := Lib.hid hkr
      have HBS := Lib.hid hbs
      clear hrg hst how hvg hbt hkr hbs
      clear hcy hy
      go_upto_region 8 with (first
        | (refine wpList_load_mid rfl _ (.tmp 18) rfl b' (off' + k * 7) rfl [.int .i64 y.kind, .int .i64 y.inc, .int .i64 y.frm, .int .i64 y.sInc, .int .i64 y.sIdx, .int .i64 y.ord, .int .i64 y.val] _ HRG.out Tryd.underlying51 rfl (by kernel_rfl) ?_)
        | (refine wpList_store_all rfl _ (.tmp 5) (.tmp 19) rfl wr.heap.size 51 _ [.int .i64 y.kind, .int .i64 y.inc, .int .i64 y.frm, .int .i64 y.sInc, .int .i64 y.sIdx, .int .i64 y.ord, .int .i64 y.val] rfl rfl (Blk.new _ _ _) rfl (by kernel_rfl) rfl ?_; intro w7 hb7 hs7)
        | (refine wpList_store_one rfl _ (.tmp 20) (.const (.int .i64 0)) rfl wr.heap.size 1 51 _ (.int .i64 0) rfl rfl hb7 (by simp) (by kernel_rfl) rfl rfl ?_; intro w8 hb8 hs8)
        | (refine wpList_store_one rfl _ (.tmp 22) (.const (.int .i64 0)) rfl wr.heap.size 3 51 _ (.int .i64 0) rfl rfl hb8 (by simp) (by kernel_rfl) rfl rfl ?_; intro w9 hb9 hs9))
      have hb9' : Blk w9 wr.heap.size 51 #[.int .i64 y.kind, .int .i64 0, .int .i64 y.frm, .int .i64 0, .int .i64 y.sIdx, .int .i64 y.ord, .int .i64 y.val] := by simpa using hb9
      have hk9 : Keep wr w9 := Keep.write (Keep.write (Keep.write (Keep.new _ _) hs7 (Nat.le_refl _)) hs8 (Nat.le_refl _)) hs9 (Nat.le_refl _)
      have hz9 : wr.heap.size < w9.heap.size := hb9'.lt
      have hbt9 := hk9.blk HBT.out hlt
      have ho9 := ownsRow_same HOW.out hk9 (fun i hi => hi.2)
      have c3 : w9.cell? ⟨W.heap.size, 1, none⟩ = some (.slice Av k cv) := by rw [hbt9.cell]; rfl
      have hkk := Keep.trans HKR.out hk9
      have hnv : (Value.slice Av k cv).ownBlock ≠ some W.heap.size := fun h => HVG.out _ h rfl
      have HB9' := Lib.hid hb9'
      have HBT9 := Lib.hid hbt9
      have HO9 := Lib.hid ho9
      have HKK := Lib.hid hkk
      have HNV := Lib.hid hnv
      clear hb9' hbt9 ho9 hkk hnv
      clear hb7 hs7 hb8 hs8 hb9 hs9 hk9 e1
      go_wp2_with (first
        | (refine wpList_load_all rfl _ (.tmp 5) rfl wr.heap.size 51 [.int .i64 y.kind, .int .i64 0, .int .i64 y.frm, .int .i64 0, .int .i64 y.sIdx, .int .i64 y.ord, .int .i64 y.val] _ rfl HB9'.out Tryd.underlying51 rfl (by kernel_rfl) ?_)
        | (refine wpList_buildS rfl 23 51 1 _ rfl Tryd.underlying23 _ [(0, .agg #[.int .i64 y.kind, .int .i64 0, .int .i64 y.frm, .int .i64 0, .int .i64 y.sIdx, .int .i64 y.ord, .int .i64 y.val])] rfl (built_ev _ _ _ _ _ _ _) ?_)
        | (refine wpList_append_any _ rfl (.tmp 24) (.tmp 26) 23 rfl (W.heap.size + 1) 51 iE _ 7 56 Tryd.underlying23 HI0.out IZ0.out IS0.out IB0.out rfl (by omega) (.slice Av k cv) k (((s.events.take k).map stripE).flatMap encEv) rfl (ownsRow_same HO9.out (Keep.new _ _) (fun i hi => hi.2)) (fun i => i = w9.heap.size) (some ⟨w9.heap.size, 0, none⟩) 1 1 (encEv (stripE y)) rfl (Reads.new rfl) (encEv_one _) (by simp [maxLen]; omega) (by omega) (Nat.le_trans (show W.heap.size + 1 ≤ w9.heap.size by omega) (Keep.new _ _).size) ?_
           intro vz wz howz hgz hatz
           obtain ⟨Az, cz, hvz, -, -⟩ := own_form howz
           subst hvz
           have hgs : Same (fun i => i < w9.heap.size ∧ (Value.slice Av k cv).ownBlock ≠ some i) w9 wz := Same.grown ((Keep.new w9 _).mono (fun i hi => hi.1)) hgz (fun i hi => by have := hi.1; simp; omega) (fun k' hk' hS' => hS'.2 hk')
           have hbz := hgs.blk HBT9.out ⟨HBT9.out.lt, HNV.out⟩
           have hzn : (Value.slice Az (k + 1) cz).ownBlock ≠ some W.heap.size := fun h => by
             have := (howz.lt _ h).1
             omega
           clear hgz hatz)
        | (refine wpList_store_one rfl _ (.tmp 28) (.tmp 27) rfl W.heap.size 1 27 _ (.slice Az (k + 1) cz) rfl rfl hbz (by simp) (by kernel_rfl) rfl rfl ?_; intro wa hba hsa))
      have hfin : SpR s.events (W.heap.size + 1) W.heap.size (.slice B1 p1 q1) (.slice B3 p3 q3) (.slice B4 p4 q4) W (.int .i64 (k + 1)) wa := by
        have hx : ((s.events.take k).map stripE ++ [stripE y]).flatMap encEv = ((s.events.take k).map stripE).flatMap encEv ++ encEv (stripE y) := by simp
        rw [← hx, ← HST.out] at howz
        refine ⟨k + 1, _, by simp, hkl1, ownsRow_own howz hsa (fun b hb e => hzn (e ▸ hb)), fun b hb e => hzn (e ▸ hb), by simpa using hba, Keep.write (Same.trans HKK.out hgs (fun i hi => ⟨by omega, fun q => by have := (HO9.out.lt i q).1; omega⟩)) hsa (Nat.le_refl _)⟩
      have HFIN := Lib.hid hfin
      clear hfin
      clear howz hgs hbz hzn hba hsa
      go_roundw
      case rel => exact HFIN.out
      case measure => simp [intOf]; omega
    · have hd1 : decide (k < p2) = false := by simpa using hkn
      have hb2r := hkr.blk HB2.out HB2.out.lt
      have hall : s.events.take k = s.events := List.take_of_length_le (by have := HPL.out; omega)
      rw [hall] at how
      have hff := own_form how
      have hkp : k = s.events.length := by have := HPL.out; omega
      have HBT := Lib.hid hbt
      have HB2R := Lib.hid hb2r
      have HKR := Lib.hid hkr
      have HOW := Lib.hid how
      have HBS := Lib.hid hbs
      have HKP := Lib.hid hkp
      have HVG := Lib.hid hvg
      clear hbt hb2r hkr how hbs hkp hvg
      clear hall
      go_wp2_with (first
        | (refine wpList_load_all rfl _ (.tmp 3) rfl W.heap.size 27 [.slice B1 p1 q1, .slice Av k cv, .slice B3 p3 q3, .slice B4 p4 q4] _ rfl HBT.out Tryd.underlying27 rfl (by kernel_rfl) ?_)
        | (refine wpList_store_all rfl _ (.tmp 2) (.tmp 29) rfl (w.heap.size + 1) 27 _ [.slice B1 p1 q1, .slice Av k cv, .slice B3 p3 q3, .slice B4 p4 q4] rfl rfl HB2R.out rfl (by kernel_rfl) rfl ?_; intro wz hbz hsz))
      have hzz := hsz.size
      have hkz : Keep w wz := Keep.write (Keep.trans HKW.out HKR.out) hsz (by omega)
      have hS2 : Same S w wz := Same.mono hkz HS.out
      have hev : Sl encEv 7 wz (fun i => W.heap.size + 1 ≤ i ∧ i < wr.heap.size) Av k cv (s.events.map stripE) := by
        obtain ⟨A', c', e1, h1, h2⟩ := hff
        simp only [Value.slice.injEq, true_and] at e1
        obtain ⟨rfl, rfl⟩ := e1
        exact Sl.keep ⟨by rw [List.length_map]; exact HKP.out, h1, h2, Reads.of_own HOW.out⟩ (hsz.mono (fun i hi => by have := hi.1; show i ≠ _; omega))
      exact bodyPost_ret (results_cell1 Tryd.results17 _ _ _ ⟨w.heap.size + 1, 0, none⟩ _ rfl (loadVar_blk [.slice B1 p1 q1, .slice Av k cv, .slice B3 p3 q3, .slice B4 p4 q4] _ hbz (fun j v hv => by simpa using hv) Tryd.underlying27 rfl (by kernel_rfl))) rfl
        ⟨[.slice B1 p1 q1, .slice Av k cv, .slice B3 p3 q3, .slice B4 p4 q4], rfl, st_mk (s := stripS s) ((X1.out.keep hS2).more (fun i hi => .inl hi)) (hev.more (fun i hi => .inr ⟨by have := hi.1; omega, by have := hi.2; omega⟩)) ((X3.out.keep hS2).more (fun i hi => .inl hi)) ((X4.out.keep hS2).more (fun i hi => .inl hi)), hkz⟩
end Go.Proofs.YtecckbkobkfnmaaDoor
