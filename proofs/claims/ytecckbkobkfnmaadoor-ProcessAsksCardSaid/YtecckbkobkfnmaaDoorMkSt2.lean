/- Contracts of the maker's functions: State. -/
import Derived.Test.YtecckbkobkfnmaaDoorGM
set_option linter.unusedVariables false
set_option linter.unusedSimpArgs false
set_option maxRecDepth 100000
namespace Go.Proofs.YtecckbkobkfnmaaDoor
open Go.RowKit Go.Proofs

def StatePost (most : Nat) (B : Nat → Prop) (gc : Nat) (w : World) (e : Ending) (w' : World) : Prop := ∃ (cs : List Value) (s : St) (r' : Nat), e = .returned (.agg cs.toArray) ∧ StR w' (New w' w.heap.size) cs s ∧ (s.cells.length ≤ 1000000 ∧ s.events.length ≤ most ∧ s.sent.length ≤ 8 * (most + 1) ∧ s.outs.length ≤ 8 * (most + 1)) ∧ Cod w' B gc r' ∧ Only gc w w'
set_option maxHeartbeats 8000000 in
theorem state_any (w : World) (B : Nat → Prop) (gc r most : Nat) (hm : most ≤ 1000) (hcod : Cod w B gc r) (hgl : Glob w) : Calls Tryd.prog 14 #[.pointer (some ⟨gc, 0, none⟩), .int .i64 most] w (StatePost most B gc w) := by
  have hgw := hcod.lt
  have hBw := hcod.2.1
  have hg2 := hgl.cod hcod
  generalize hW : w.alloc (.cells #[.slice none 0 0, .slice none 0 0, .slice none 0 0, .slice none 0 0] 27) = W
  have hkW : Keep w W := hW ▸ Keep.new w _
  have hb4 : Blk W w.heap.size 27 #[.slice none 0 0, .slice none 0 0, .slice none 0 0, .slice none 0 0] := hW ▸ Blk.new w _ _
  have hz := hb4.lt
  have hcode := code_any W B gc r (hcod.keep hkW) (hgl.keep hkW)
  have HCOD := Lib.hid hcod
  have HGL := Lib.hid hgl
  have HKW := Lib.hid hkW
  have HB4 := Lib.hid hb4
  have HCODE := Lib.hid hcode
  have HBW := Lib.hid hBw
  clear hcod hgl hkW hb4 hcode hBw
  go_enter Tryd.func14, Tryd.ntmps14
  go_wp2_with fail
  clear hW
  refine HCODE.out.mono ?_
  rintro e w1 ⟨cs1, c, r1, rfl, hcd, hc1, ho1⟩
  obtain ⟨D0, D1, D2, D3, D4, d0, f0, d1, f1, d2, f2, d3, f3, d4, f4, rfl, hcd⟩ := cd_open hcd
  have hz1 := ho1.size
  have HCD := Lib.hid hcd
  have HC1 := Lib.hid hc1
  have HO1 := Lib.hid ho1
  clear hcd hc1 ho1
  go_wp2_with fail
  refine (next_any w1 B gc r1 3 HC1.out (by omega) (by omega)).mono ?_
  rintro e w2 ⟨v2, hv20, hv21, rfl, hc2, ho2⟩
  have hz2 := ho2.size
  have HC2 := Lib.hid hc2
  have HO2 := Lib.hid ho2
  clear hc2 ho2
  go_wp2_with fail
  refine (events_any w2 B gc _ most hm HC2.out).mono ?_
  rintro e w3 ⟨Ae, ne, ce, l, rfl, hl3, hn3, ⟨r3, hc3⟩, ho3⟩
  have hz3 := ho3.size
  have hnl := hl3.1
  have hS3 : ∀ i, (New w1 W.heap.size i ∨ (w2.heap.size ≤ i ∧ i < w3.heap.size)) → i < w3.heap.size := fun i hi => hi.elim (fun h => by have := h.2; omega) (fun h => h.2)
  have ho13 := Only.trans HO2.out ho3
  have hcall := rreplay_any w3 (fun i => New w1 W.heap.size i ∨ (w2.heap.size ≤ i ∧ i < w3.heap.size)) [.slice D0 d0 f0, .slice D1 d1 f1, .slice D2 d2 f2, .slice D3 d3 f3, .slice D4 d4 f4] c v2 3 Ae ne ce l hS3 ((HCD.out.keep (ho13.mono (fun i (hi : New w1 W.heap.size i) => ⟨hi.2, by have := hi.1; omega⟩))).more (fun i hi => .inl hi)) (hl3.more (fun i hi => .inr hi)) (by omega)
  have hlen := replayS_len c v2 3 l
  have hin : c.init.length ≤ 1000000 := by obtain ⟨_, _, _, _, _, _, _, _, _, _, _, _, _, _, _, _, _, _, _, _, _, h⟩ := HCD.out; exact h
  have hb43 := (Only.trans HO1.out ho13).blk HB4.out ⟨hz, by omega⟩
  have how3 := Only.trans (HKW.out.only gc) (Only.trans HO1.out ho13)
  have HC3 := Lib.hid hc3
  have HCALL := Lib.hid hcall
  have HB43 := Lib.hid hb43
  have HOW3 := Lib.hid how3
  have HLEN := Lib.hid hlen
  have HIN := Lib.hid hin
  have HNL := Lib.hid hnl
  clear hc3 hcall hb43 how3 hlen hin hnl
  clear hl3 ho3 ho13 hS3
  go_wp2_with fail
  refine HCALL.out.mono ?_
  rintro e w4 ⟨cs4, rfl, hr4, hk4⟩
  obtain ⟨B1, B2, B3, B4, p1, q1, p2, q2, p3, q3, p4, q4, rfl, hr4⟩ := st_open hr4
  have hz4 := hk4.size
  have hb44 := hk4.blk HB43.out HB43.out.lt
  have HR4 := Lib.hid hr4
  have HK4 := Lib.hid hk4
  have HB44 := Lib.hid hb44
  clear hr4 hk4 hb44
  go_wp2_with (refine wpList_store_all rfl _ (.tmp 4) (.tmp 12) rfl w.heap.size 27 _ [.slice B1 p1 q1, .slice B2 p2 q2, .slice B3 p3 q3, .slice B4 p4 q4] rfl rfl HB44.out rfl (by kernel_rfl) rfl ?_; intro wz hbz hwz; have HBZ := Lib.hid hbz; have HWZ := Lib.hid hwz; clear hbz hwz)
  have hzz := HWZ.out.size
  refine bodyPost_ret (results_cell1 Tryd.results14 _ _ _ ⟨w.heap.size, 0, none⟩ _ rfl (load_st rfl HBZ.out)) rfl ?_
  refine ⟨_, replayS c v2 3 l, _, rfl, ?_, ⟨by have := HLEN.out; have := HIN.out; omega, by have := HLEN.out; have := HNL.out; omega, by have := HLEN.out; have := HNL.out; omega, by have := HLEN.out; have := HNL.out; omega⟩, (HC3.out.keep HK4.out).write HWZ.out (fun h => by have := HBW.out _ h; omega), Only.write (Only.keep HOW3.out HK4.out) HWZ.out (Nat.le_refl _)⟩
  refine (HR4.out.keep (HWZ.out.mono (fun i hi e => ?_))).more (fun i hi => ?_)
  · rcases hi with (h | h) | h
    · have := h.1; omega
    · omega
    · omega
  · rcases hi with (h | h) | h
    · exact ⟨by have := h.1; omega, by have := h.2; omega⟩
    · exact ⟨by omega, by omega⟩
    · exact ⟨by omega, by omega⟩
end Go.Proofs.YtecckbkobkfnmaaDoor
