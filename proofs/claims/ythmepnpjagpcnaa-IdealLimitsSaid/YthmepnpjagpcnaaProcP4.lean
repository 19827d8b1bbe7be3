/- process.Start. -/
import Derived.Test.YthmepnpjagpcnaaProcP2
set_option linter.unusedVariables false
set_option linter.unusedSimpArgs false
set_option maxRecDepth 100000
namespace Go.Proofs.Ythmepnpjagpcnaa
open Go.RowKit Go.Proofs

theorem bld_host (K0 K1 K2 K3 K4 : Option Addr) (y0 z0 y1 z1 y2 z2 y3 z3 y4 z4 : Nat) (self procs : Int) : Try.prog.built 130 [(0, .agg #[.slice K0 y0 z0, .slice K1 y1 z1, .slice K2 y2 z2, .slice K3 y3 z3, .slice K4 y4 z4]), (1, .int .i64 self), (2, .int .i64 procs)] =
    some #[.slice K0 y0 z0, .slice K1 y1 z1, .slice K2 y2 z2, .slice K3 y3 z3, .slice K4 y4 z4, .int .i64 self, .int .i64 procs] := by kernel_rfl
set_option maxHeartbeats 8000000 in
theorem pstart_any (w : World) (S : Nat → Prop) (cs : List Value) (c : Cd) (self procs : Int) (hS : ∀ i, S i → i < w.heap.size) (hc : CdR w S cs c) :
    Calls Try.prog 51 #[.agg cs.toArray, .int .i64 self, .int .i64 procs] w (StPost S (startS c self procs) w) := by
  have hcc := hc
  obtain ⟨A0, A1, A2, A3, A4, m0, c0, m1, c1, m2, c2, m3, c3, m4, c4, rfl, -, -, -, -, -, hin⟩ := hc
  generalize hW : (w.alloc (.cells #[.slice A0 m0 c0, .slice A1 m1 c1, .slice A2 m2 c2, .slice A3 m3 c3, .slice A4 m4 c4] 63)).alloc (.cells #[.slice none 0 0, .slice none 0 0, .slice none 0 0, .slice none 0 0] 105) = W
  have hkW : Keep w W := hW ▸ Keep.alloc (Keep.new w _) _
  have hb : Blk W w.heap.size 63 #[.slice A0 m0 c0, .slice A1 m1 c1, .slice A2 m2 c2, .slice A3 m3 c3, .slice A4 m4 c4] := hW ▸ (Blk.new w _ _).alloc _
  have hbr : Blk W (w.heap.size + 1) 105 #[.slice none 0 0, .slice none 0 0, .slice none 0 0, .slice none 0 0] := hW ▸ (by simpa using Blk.new (w.alloc _) _ _)
  have hz : w.heap.size + 1 < W.heap.size := hbr.lt
  have hsW := Same.mono hkW hS
  have key := hstart_any W S A0 A1 A2 A3 A4 m0 c0 m1 c1 m2 c2 m3 c3 m4 c4 c self procs (fun i hi => by have := hS i hi; omega) (hcc.keep hsW)
  have HS := Lib.hid hS
  have HKW := Lib.hid hkW
  have HB := Lib.hid hb
  have HBR := Lib.hid hbr
  have KEY := Lib.hid key
  clear hS hkW hb hbr key
  clear hcc hsW
  go_enter Try.func51, Try.ntmps51
  go_wp2_with (first
    | (refine wpList_load_all rfl _ (.tmp 3) rfl w.heap.size 63 [.slice A0 m0 c0, .slice A1 m1 c1, .slice A2 m2 c2, .slice A3 m3 c3, .slice A4 m4 c4] _ rfl HB.out Try.underlying63 rfl (by kernel_rfl) ?_)
    | (refine wpList_bld rfl _ _ rfl _ [(0, .agg #[.slice A0 m0 c0, .slice A1 m1 c1, .slice A2 m2 c2, .slice A3 m3 c3, .slice A4 m4 c4]), (1, .int .i64 self), (2, .int .i64 procs)] rfl (bld_host A0 A1 A2 A3 A4 m0 c0 m1 c1 m2 c2 m3 c3 m4 c4 self procs) ?_))
  clear hW
  refine KEY.out.mono ?_
  rintro e w1 ⟨cs1, rfl, hr1, hk1⟩
  obtain ⟨B1, B2, B3, B4, p1, q1, p2, q2, p3, q3, p4, q4, rfl, hr1⟩ := st_open hr1
  have hz1 := hk1.size
  have hb1 := hk1.blk HBR.out hz
  have HK1 := Lib.hid hk1
  have HR1 := Lib.hid hr1
  have HB1 := Lib.hid hb1
  clear hk1 hr1 hb1
  go_wp2_with (refine wpList_store_all rfl _ (.tmp 6) (.tmp 11) rfl (w.heap.size + 1) 105 _ [.slice B1 p1 q1, .slice B2 p2 q2, .slice B3 p3 q3, .slice B4 p4 q4] rfl rfl HB1.out rfl (by kernel_rfl) rfl ?_; intro wz hbz hwz; have HBZ := Lib.hid hbz; have HWZ := Lib.hid hwz; clear hbz hwz)
  refine bodyPost_ret (results_cell1 Try.results51 _ _ _ ⟨w.heap.size + 1, 0, none⟩ _ rfl (load_st rfl HBZ.out)) rfl ?_
  exact ⟨_, rfl, st_after HS.out (by omega) HR1.out HWZ.out (by omega) (by omega), Keep.write (Keep.trans HKW.out HK1.out) HWZ.out (by omega)⟩
end Go.Proofs.Ythmepnpjagpcnaa
