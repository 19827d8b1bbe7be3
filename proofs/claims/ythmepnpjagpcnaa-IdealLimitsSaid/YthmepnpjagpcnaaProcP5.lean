/- process.Next. -/
import Derived.Test.YthmepnpjagpcnaaProcP3
import Derived.Test.YthmepnpjagpcnaaProcP4
import Derived.Test.YthmepnpjagpcnaaSlices
set_option linter.unusedVariables false
set_option linter.unusedSimpArgs false
set_option maxRecDepth 100000
namespace Go.Proofs.Ythmepnpjagpcnaa
open Go.RowKit Go.Proofs

theorem Reads.lab {w : World} {S : Nat → Prop} {L : Nat → Nat} {size : Nat} {A : Option Addr} {n : Nat} {xs : List Value} (h : Reads w S size A n xs) (hS : ∀ i, S i → Lab w L 0 i) : Reads w (Lab w L 0) size A n xs := h.more hS
set_option maxHeartbeats 16000000 in
theorem pnext_any (w : World) (S : Nat → Prop) (cs ss : List Value) (c : Cd) (s : St) (self procs : Int) (x : Ev) (hS : ∀ i, S i → i < w.heap.size) (hc : CdR w S cs c) (hs : StR w S ss s) (h1 : s.cells.length ≤ 1000000) (h2 : s.sent.length ≤ 1000000) (h3 : s.outs.length ≤ 1000000) (h4 : s.events.length ≤ 1000000) :
    Calls Try.prog 61 #[.agg cs.toArray, .int .i64 self, .int .i64 procs, .agg ss.toArray, .agg (encEv x).toArray] w (StPost S (nextS c self procs s x) w) := by
  have hcc := hc
  obtain ⟨A0, A1, A2, A3, A4, m0, c0, m1, c1, m2, c2, m3, c3, m4, c4, rfl, -, -, -, -, -, -⟩ := hc
  obtain ⟨B1, B2, B3, B4, p1, q1, p2, q2, p3, q3, p4, q4, rfl, g1, g2, g3, g4⟩ := hs
  have o2 := g2.1
  have o3 := g3.1
  have o4 := g4.1
  subst o2 o3 o4
  have b2 : s.events.length ≤ q2 ∧ q2 ≤ 9223372036854775807 := ⟨g2.2.1, g2.2.2.1⟩
  have b3 : s.sent.length ≤ q3 ∧ q3 ≤ 9223372036854775807 := ⟨g3.2.1, g3.2.2.1⟩
  have b4 : s.outs.length ≤ q4 ∧ q4 ≤ 9223372036854775807 := ⟨g4.2.1, g4.2.2.1⟩
  show Calls Try.prog 61 #[.agg #[.slice A0 m0 c0, .slice A1 m1 c1, .slice A2 m2 c2, .slice A3 m3 c3, .slice A4 m4 c4], .int .i64 self, .int .i64 procs, .agg #[.slice B1 p1 q1, .slice B2 s.events.length q2, .slice B3 s.sent.length q3, .slice B4 s.outs.length q4], .agg #[.int .i64 x.kind, .int .i64 x.inc, .int .i64 x.frm, .int .i64 x.sInc, .int .i64 x.sIdx, .int .i64 x.ord, .int .i64 x.val]] w _
  generalize hW : (((w.alloc (.cells #[.slice A0 m0 c0, .slice A1 m1 c1, .slice A2 m2 c2, .slice A3 m3 c3, .slice A4 m4 c4] 63)).alloc (.cells #[.slice B1 p1 q1, .slice B2 s.events.length q2, .slice B3 s.sent.length q3, .slice B4 s.outs.length q4] 105)).alloc (.cells #[.int .i64 x.kind, .int .i64 x.inc, .int .i64 x.frm, .int .i64 x.sInc, .int .i64 x.sIdx, .int .i64 x.ord, .int .i64 x.val] 50)).alloc (.cells #[.slice none 0 0, .slice none 0 0, .slice none 0 0, .slice none 0 0] 105) = W
  have hkW : Keep w W := hW ▸ Keep.alloc (Keep.alloc (Keep.alloc (Keep.new w _) _) _) _
  have hb5 : Blk W w.heap.size 63 #[.slice A0 m0 c0, .slice A1 m1 c1, .slice A2 m2 c2, .slice A3 m3 c3, .slice A4 m4 c4] := hW ▸ (((Blk.new w _ _).alloc _).alloc _).alloc _
  have hb8 : Blk W (w.heap.size + 1) 105 #[.slice B1 p1 q1, .slice B2 s.events.length q2, .slice B3 s.sent.length q3, .slice B4 s.outs.length q4] := hW ▸ blk4b w _ _ _ _ _
  have hb9 : Blk W (w.heap.size + 2) 50 #[.int .i64 x.kind, .int .i64 x.inc, .int .i64 x.frm, .int .i64 x.sInc, .int .i64 x.sIdx, .int .i64 x.ord, .int .i64 x.val] := hW ▸ blk4c w _ _ _ _ _
  have hb10 : Blk W (w.heap.size + 3) 105 #[.slice none 0 0, .slice none 0 0, .slice none 0 0, .slice none 0 0] := hW ▸ blk4d w _ _ _ _ _
  have hz : w.heap.size + 3 < W.heap.size := hb10.lt
  have f1 : W.cell? ⟨w.heap.size + 1, 1, none⟩ = some (.slice B2 s.events.length q2) := by rw [hb8.cell]; rfl
  obtain ⟨L, hLg, hLo, hLi⟩ := labs S (w.heap.size + 1)
  have HS := Lib.hid hS
  have HKW := Lib.hid hkW
  have HB5 := Lib.hid hb5
  have HB8 := Lib.hid hb8
  have HB9 := Lib.hid hb9
  have HB10 := Lib.hid hb10
  have HLO := Lib.hid hLo
  have HLI := Lib.hid hLi
  have G1 := Lib.hid g1
  have G2 := Lib.hid g2
  have G3 := Lib.hid g3
  have G4 := Lib.hid g4
  have HCC := Lib.hid hcc
  clear hS hkW hb5 hb8 hb9 hb10 hLo hLi g1 g2 g3 g4 hcc
  go_enter Try.func61, Try.ntmps61
  go_wp2_with fail
  clear hW
  refine (clipEvents_any W B2 s.events.length q2 b2.1 b2.2).mono ?_
  rintro e w1 ⟨rfl, hw⟩
  replace hw := hw.symm
  subst hw
  clear f1
  go_upto_region 2 with (refine wpList_store_one rfl _ (.tmp 14) _ rfl (w.heap.size + 1) 1 105 _ (.slice B2 s.events.length s.events.length) rfl rfl HB8.out (by simp) (by kernel_rfl) rfl rfl ?_; intro w2 hb2 hs2)
  have f2 : w2.cell? ⟨w.heap.size + 1, 2, none⟩ = some (.slice B3 s.sent.length q3) := by rw [hb2.cell]; rfl
  have HB2 := Lib.hid hb2
  have HS2 := Lib.hid hs2
  clear hb2 hs2
  go_wp2_with fail
  refine (clipSends_any w2 B3 s.sent.length q3 b3.1 b3.2).mono ?_
  rintro e w3 ⟨rfl, hw⟩
  replace hw := hw.symm
  subst hw
  clear f2
  go_upto_region 3 with (refine wpList_store_one rfl _ (.tmp 18) _ rfl (w.heap.size + 1) 2 105 _ (.slice B3 s.sent.length s.sent.length) rfl rfl HB2.out (by simp) (by kernel_rfl) rfl rfl ?_; intro w4 hb4 hs4)
  have f3 : w4.cell? ⟨w.heap.size + 1, 3, none⟩ = some (.slice B4 s.outs.length q4) := by rw [hb4.cell]; rfl
  have HB4 := Lib.hid hb4
  have HS4 := Lib.hid hs4
  clear hb4 hs4
  go_wp2_with fail
  refine (clipOuts_any w4 B4 s.outs.length q4 b4.1 b4.2).mono ?_
  rintro e w5 ⟨rfl, hw⟩
  replace hw := hw.symm
  subst hw
  clear f3
  go_upto_region 4 with (refine wpList_store_one rfl _ (.tmp 22) _ rfl (w.heap.size + 1) 3 105 _ (.slice B4 s.outs.length s.outs.length) rfl rfl HB4.out (by simp) (by kernel_rfl) rfl rfl ?_; intro w6 hb6 hs6)
  have hsq : Same (· ≠ w.heap.size + 1) W w6 := Same.trans HS2.out (Same.trans HS4.out hs6 (fun _ h => h)) (fun _ h => h)
  have hb6' : Blk w6 (w.heap.size + 1) 105 #[.slice B1 p1 q1, .slice B2 s.events.length s.events.length, .slice B3 s.sent.length s.sent.length, .slice B4 s.outs.length s.outs.length] := by simpa using hb6
  have hz6 := hsq.size
  have hkw6 : Keep w w6 := Keep.write HKW.out hsq (by omega)
  have hb56 := hsq.blk HB5.out (by omega)
  have hb96 := hsq.blk HB9.out (by omega)
  have hb106 := hsq.blk HB10.out (by omega)
  have hsS := Same.mono hkw6 HS.out
  have hSL : ∀ i, S i → Lab w6 L 0 i := fun i hi => ⟨by have := HS.out i hi; omega, (HLO.out i (by have := HS.out i hi; omega)).1 hi⟩
  have hst : StM w6 L (w.heap.size + 1) s := ⟨B1, B2, B3, B4, p1, q1, _, _, _, hb6', hLg, (G1.out.keep hsS).more (fun i hi => ⟨(hSL i hi).1, .inr (hSL i hi).2⟩), Gl.full ((G2.out.keep hsS).2.2.2.more hSL) (by simp [maxLen]; omega), Gl.full ((G3.out.keep hsS).2.2.2.more hSL) (by simp [maxLen]; omega), Gl.full ((G4.out.keep hsS).2.2.2.more hSL) (by simp [maxLen]; omega)⟩
  have key := hnext_any w6 L (w.heap.size + 1) s S A0 A1 A2 A3 A4 m0 c0 m1 c1 m2 c2 m3 c3 m4 c4 c self procs x hst hSL (HCC.out.keep hsS) h1 h2 h3 h4
  have HKW6 := Lib.hid hkw6
  have HB56 := Lib.hid hb56
  have HB96 := Lib.hid hb96
  have HB106 := Lib.hid hb106
  have KEY := Lib.hid key
  clear hkw6 hb56 hb96 hb106 key
  clear hb6 hb6' hs6 hsq hst hsS hSL
  clear HB2 HS2 HB4 HS4
  go_wp2_with (first
    | (refine wpList_load_all rfl _ (.tmp 5) rfl w.heap.size 63 [.slice A0 m0 c0, .slice A1 m1 c1, .slice A2 m2 c2, .slice A3 m3 c3, .slice A4 m4 c4] _ rfl HB56.out Try.underlying63 rfl (by kernel_rfl) ?_)
    | (refine wpList_bld rfl _ _ rfl _ [(0, .agg #[.slice A0 m0 c0, .slice A1 m1 c1, .slice A2 m2 c2, .slice A3 m3 c3, .slice A4 m4 c4]), (1, .int .i64 self), (2, .int .i64 procs)] rfl (bld_host A0 A1 A2 A3 A4 m0 c0 m1 c1 m2 c2 m3 c3 m4 c4 self procs) ?_)
    | (refine wpList_load_all rfl _ (.tmp 9) rfl (w.heap.size + 2) 50 [.int .i64 x.kind, .int .i64 x.inc, .int .i64 x.frm, .int .i64 x.sInc, .int .i64 x.sIdx, .int .i64 x.ord, .int .i64 x.val] _ rfl HB96.out Try.underlying50 rfl (by kernel_rfl) ?_))
  refine KEY.out.mono ?_
  rintro e w7 ⟨rfl, L', hL', hst7, hs7⟩
  obtain ⟨D1, D2, D3, D4, d1, f1, d2, f2, d3, f3, d4, f4, hbs, hr⟩ := hst7.open_
  have hz7 := hs7.size
  have hbr := hs7.blk HB106.out ⟨by omega, by have := HLI.out (w.heap.size + 3) (by omega); omega⟩
  have HBS := Lib.hid hbs
  have HR := Lib.hid hr
  have HS7 := Lib.hid hs7
  have HBR := Lib.hid hbr
  have HL' := Lib.hid hL'
  clear hbs hr hs7 hbr hL'
  clear hst7
  go_wp2_with (first
    | (refine wpList_load_all rfl _ (.tmp 8) rfl (w.heap.size + 1) 105 [.slice D1 d1 f1, .slice D2 d2 f2, .slice D3 d3 f3, .slice D4 d4 f4] _ rfl HBS.out Try.underlying105 rfl (by kernel_rfl) ?_)
    | (refine wpList_store_all rfl _ (.tmp 10) (.tmp 29) rfl (w.heap.size + 3) 105 _ [.slice D1 d1 f1, .slice D2 d2 f2, .slice D3 d3 f3, .slice D4 d4 f4] rfl rfl HBR.out rfl (by kernel_rfl) rfl ?_; intro wz hbq hwq; have HBQ := Lib.hid hbq; have HWQ := Lib.hid hwq; clear hbq hwq))
  refine bodyPost_ret (results_cell1 Try.results61 _ _ _ ⟨w.heap.size + 3, 0, none⟩ _ rfl (load_st rfl HBQ.out)) rfl ?_
  have hr' : StR w7 (Sn S w6 w7) [.slice D1 d1 f1, .slice D2 d2 f2, .slice D3 d3 f3, .slice D4 d4 f4] (nextS c self procs s x) := HR.out.more (fun i hi => by
    rcases Nat.lt_or_ge i w6.heap.size with h | h
    · rw [HL'.out i h] at hi
      exact .inl (labs_in HLO.out hi.2.1 hi.2.2)
    · exact .inr ⟨h, hi.1⟩)
  exact ⟨_, rfl, st_after HS.out (by omega) hr' HWQ.out (by omega) (by omega), Keep.write (Same.trans HKW6.out HS7.out (fun i hi => ⟨by omega, by have := HLI.out i (by omega); omega⟩)) HWQ.out (by omega)⟩
end Go.Proofs.Ythmepnpjagpcnaa
