/- replay.Recover. -/
import Derived.Test.YtecckbkobkfnmaaGreatDoorGS
import Derived.Test.YtecckbkobkfnmaaGreatDoorGP
set_option linter.unusedVariables false
set_option linter.unusedSimpArgs false
set_option maxRecDepth 100000
namespace Go.Proofs.YtecckbkobkfnmaaGreatDoor
open Go.RowKit Go.Proofs

/-- What a recovery returns, and of what size. -/
def RcPost (S : Nat → Prop) (c : Cd) (self procs : Int) (f : Int → Option Ev) (m : Nat) (s : St) (w : World) (e : Ending) (w' : World) : Prop :=
  ∃ (cs : List Value) (t : St), e = .returned (.agg cs.toArray) ∧ RecS c self procs f s t ∧ t.cells.length = s.cells.length ∧ t.sent.length ≤ s.sent.length + 8 * m ∧ t.outs.length ≤ s.outs.length + 8 * m ∧ t.events.length ≤ s.events.length + m ∧ StR w' (Sn S w w') cs t ∧ Keep w w'
theorem mapS_take {self : Int} {l : List Dt} {k : Nat} {d : Dt} (h : l[k]? = some d) : mapS self (l.take (k + 1)) = putS self (mapS self (l.take k)) d := by
  obtain ⟨hk, rfl⟩ := List.getElem?_eq_some_iff.1 h
  rw [List.take_succ_eq_append_getElem hk, mapS_snoc]
theorem putS_other {self : Int} {f : Int → Option Ev} {d : Dt} (h : (d.proc != self) = true) : putS self f d = f := by
  unfold putS
  rw [if_neg (fun hh => by rw [hh.1] at h; simp at h)]
theorem putS_worse {self : Int} {f : Int → Option Ev} {d : Dt} (h : better (f d.idx) d.ev = false) : putS self f d = f := by
  unfold putS
  rw [if_neg (fun hh => by rw [h] at hh; cases hh.2)]
theorem putS_put {self : Int} {f : Int → Option Ev} {d : Dt} (h1 : (d.proc != self) = false) (h : better (f d.idx) d.ev = true) : putS self f d = (fun j => if j = d.idx then some d.ev else f j) := by
  unfold putS
  rw [if_pos ⟨by simpa using h1, h⟩]
def RcL1 (self : Int) (l : List Dt) (b : Nat) (w1 : World) (i : Value) (wr : World) : Prop :=
  ∃ k m : Nat, i = .int .i64 k ∧ k ≤ l.length ∧ m ≤ k ∧ MapEv wr b m (mapS self (l.take k)) ∧ Same (fun i => i < w1.heap.size ∧ i ≠ b) w1 wr
def RcT (S : Nat → Prop) (g : Nat) (w : World) (i : Nat) : Prop := S i ∨ (g < i ∧ i < w.heap.size)
def RcL2 (S : Nat → Prop) (c : Cd) (self procs : Int) (f : Int → Option Ev) (l : List Dt) (s : St) (b m g : Nat) (w2 : World) (gk : Nat) (wr : World) : Prop :=
  ∃ (cs : List Value) (s' : St), gk = above l s'.events.length ∧ (∀ t, RecS c self procs f s' t → RecS c self procs f s t) ∧ s'.cells.length = s.cells.length ∧ s'.sent.length + 8 * gk ≤ s.sent.length + 8 * l.length ∧ s'.outs.length + 8 * gk ≤ s.outs.length + 8 * l.length ∧ s'.events.length + gk ≤ s.events.length + l.length ∧
    Blk wr g 37 cs.toArray ∧ StR wr (RcT S g wr) cs s' ∧ MapEv wr b m f ∧ Same (· < g) w2 wr
theorem above_le (l : List Dt) (n : Nat) : above l n ≤ l.length := List.length_filter_le _ _
set_option maxHeartbeats 16000000 in
theorem precover_any (w : World) (S : Nat → Prop) (cs ss : List Value) (c : Cd) (s : St) (self procs : Int) (A : Option Addr) (n cp : Nat) (l : List Dt) (hS : ∀ i, S i → i < w.heap.size) (hc : CdR w S cs c) (hs : StR w S ss s) (hl : Sl encDt 9 w S A n cp l) (hn : l.length ≤ 1000) (hix : ∀ d ∈ l, I64 d.idx)
    (h1 : s.cells.length ≤ 1000000) (h2 : s.sent.length ≤ 900000) (h3 : s.outs.length ≤ 900000) (h4 : s.events.length ≤ 900000) :
    Calls Tryz.prog 13 #[.agg cs.toArray, .int .i64 self, .int .i64 procs, .agg ss.toArray, .slice A n cp] w (RcPost S c self procs (mapS self l) l.length s w) := by
  obtain ⟨A0, A1, A2, A3, A4, m0, c0, m1, c1, m2, c2, m3, c3, m4, c4, rfl, hcd⟩ := cd_open2 hc
  obtain ⟨B1, B2, B3, B4, p1, q1, p2, q2, p3, q3, p4, q4, rfl, hst⟩ := st_open hs
  show Calls Tryz.prog 13 #[.agg #[.slice A0 m0 c0, .slice A1 m1 c1, .slice A2 m2 c2, .slice A3 m3 c3, .slice A4 m4 c4], .int .i64 self, .int .i64 procs, .agg #[.slice B1 p1 q1, .slice B2 p2 q2, .slice B3 p3 q3, .slice B4 p4 q4], .slice A n cp] w _
  generalize hW : ((w.alloc (.cells #[.slice A0 m0 c0, .slice A1 m1 c1, .slice A2 m2 c2, .slice A3 m3 c3, .slice A4 m4 c4] 30)).alloc (.cells #[.slice B1 p1 q1, .slice B2 p2 q2, .slice B3 p3 q3, .slice B4 p4 q4] 37)).alloc (.cells #[.slice none 0 0, .slice none 0 0, .slice none 0 0, .slice none 0 0] 37) = W
  have hkW : Keep w W := hW ▸ Keep.alloc (Keep.alloc (Keep.new w _) _) _
  have hb5 : Blk W w.heap.size 30 #[.slice A0 m0 c0, .slice A1 m1 c1, .slice A2 m2 c2, .slice A3 m3 c3, .slice A4 m4 c4] := hW ▸ ((Blk.new w _ _).alloc _).alloc _
  have hb8 : Blk W (w.heap.size + 1) 37 #[.slice B1 p1 q1, .slice B2 p2 q2, .slice B3 p3 q3, .slice B4 p4 q4] := hW ▸ blkM w _ _ _ _
  have hb10 : Blk W (w.heap.size + 2) 37 #[.slice none 0 0, .slice none 0 0, .slice none 0 0, .slice none 0 0] := hW ▸ blkL w _ _ _ _
  have hz : w.heap.size + 2 < W.heap.size := hb10.lt
  have hnl := hl.1
  have hn9 : n ≤ 1000 := by omega
  have HS := Lib.hid hS
  have HKW := Lib.hid hkW
  have HB5 := Lib.hid hb5
  have HB8 := Lib.hid hb8
  have HB10 := Lib.hid hb10
  have HCD := Lib.hid hcd
  have HST := Lib.hid hst
  have HL := Lib.hid hl
  have HIX := Lib.hid hix
  have HNL := Lib.hid hnl
  clear hS hkW hb5 hb8 hb10 hcd hst hl hix hnl
  clear hc hs
  have hmm := @run_makeMap Tryz.prog
  go_enter Tryz.func13, Tryz.ntmps13
  go_upto_region 2 with fail
  clear hW hmm
  generalize hw1 : W.alloc (.map #[] 0) = w1
  have hm0 : MapEv w1 W.heap.size 0 (mapS self (l.take 0)) := hw1 ▸ MapEv.made W
  have hk1 : Keep W w1 := hw1 ▸ Keep.new _ _
  clear hw1
  have hz1 : W.heap.size < w1.heap.size := hm0.lt
  have hrel0 : RcL1 self l W.heap.size w1 (.int .i64 0) w1 := ⟨0, 0, rfl, Nat.zero_le _, Nat.le_refl _, hm0, Same.refl _ _⟩
  have hkw1 := Keep.trans HKW.out hk1
  have hl1 := HL.out.keep (Same.mono hkw1 HS.out)
  have hcd1 := HCD.out.keep (Same.mono hkw1 HS.out)
  have hst1 := HST.out.keep (Same.mono hkw1 HS.out)
  have hb51 := hk1.blk HB5.out HB5.out.lt
  have hb81 := hk1.blk HB8.out HB8.out.lt
  have hb101 := hk1.blk HB10.out HB10.out.lt
  have HREL0 := Lib.hid hrel0
  have HKW1 := Lib.hid hkw1
  have HL1 := Lib.hid hl1
  have HCD1 := Lib.hid hcd1
  have HST1 := Lib.hid hst1
  have HB51 := Lib.hid hb51
  have HB81 := Lib.hid hb81
  have HB101 := Lib.hid hb101
  clear hrel0 hkw1 hl1 hcd1 hst1 hb51 hb81 hb101
  clear HCD HST HL HB5 HB8 HB10 hm0 hk1
  go_wp2_with fail
  go_loopw [22] (fun i wr => RcL1 self l W.heap.size w1 i wr) (fun i _ => n - (intOf i).toNat)
  case atStart => exact HREL0.out
  case round =>
    clear HREL0
    obtain ⟨k, m, rfl, hkl, hmk, hmap, hkr⟩ := hrel
    have hzr := hkr.size
    have hSr : ∀ i, S i → i < w1.heap.size ∧ i ≠ W.heap.size := fun i hi => by have := HS.out i hi; omega
    by_cases hk : k < n
    · obtain ⟨b, off, d, rfl, hSb, hd, hcell⟩ := (HL1.out.keep (hkr.mono hSr)).at_ encDt_len hk
      have hd1 : decide (k < n) = true := by simpa using hk
      have hd2 : (0 : Int) ≤ k := by omega
      have hd3 : (k : Int) < n := by omega
      have hix : I64 d.idx := HIX.out d (List.mem_of_getElem? hd)
      have hrg : wr.rangeAt b (off + k * 9) (encDt d) := hcell
      have htk := mapS_take (self := self) hd
      have hk1l : k + 1 ≤ l.length := by have := HNL.out; omega
      have HRG := Lib.hid hrg
      have HTK := Lib.hid htk
      have HKR := Lib.hid hkr
      have HMAP := Lib.hid hmap
      have HIX := Lib.hid hix
      have HK1L := Lib.hid hk1l
      have HSR := Lib.hid hSr
      clear hrg htk hkr hmap hix hk1l hSr
      clear hcell hd hSb hkl
      go_upto_region 5 with (first
        | (refine wpList_load_mid rfl _ (.tmp 24) rfl b (off + k * 9) rfl [.int .i64 d.proc, .int .i64 d.idx, .int .i64 d.ev.kind, .int .i64 d.ev.inc, .int .i64 d.ev.frm, .int .i64 d.ev.sInc, .int .i64 d.ev.sIdx, .int .i64 d.ev.ord, .int .i64 d.ev.val] _ HRG.out Tryz.underlying76 rfl (by kernel_rfl) ?_)
        | (refine wpList_store_all rfl _ (.tmp 13) (.tmp 25) rfl wr.heap.size 76 _ [.int .i64 d.proc, .int .i64 d.idx, .int .i64 d.ev.kind, .int .i64 d.ev.inc, .int .i64 d.ev.frm, .int .i64 d.ev.sInc, .int .i64 d.ev.sIdx, .int .i64 d.ev.ord, .int .i64 d.ev.val] rfl rfl (Blk.new _ _ _) rfl (by kernel_rfl) rfl ?_; intro w7 hb7 hs7))
      have hk7 : Keep wr w7 := Keep.write (Keep.new _ _) hs7 (Nat.le_refl _)
      have hz7 : wr.heap.size < w7.heap.size := hb7.lt
      have hm7 := HMAP.out.keep hk7 HMAP.out.lt
      have hkk := Same.trans HKR.out hk7 (fun i hi => by have := hi.1; omega)
      have e0 : w7.cell? ⟨wr.heap.size, 0, none⟩ = some (.int .i64 d.proc) := by rw [hb7.cell]; rfl
      have e1 : w7.cell? ⟨wr.heap.size, 1, none⟩ = some (.int .i64 d.idx) := by rw [hb7.cell]; rfl
      have HB7 := Lib.hid hb7
      have HM7 := Lib.hid hm7
      have HKK := Lib.hid hkk
      clear hb7 hm7 hkk
      clear hs7 hk7
      cases q1 : (d.proc != self)
      · have Q1 := Lib.hid q1
        clear q1
        have q1 := Q1.out
        go_upto_region 6 with fail
        generalize hf : mapS self (l.take k) d.idx = o
        have hb8 : ∀ (x : Ev), o.getD zeroEv = x → ∀ (q : Bool), o.isSome = q → True := fun _ _ _ _ => trivial
        clear hb8
        obtain ⟨x, hx⟩ : ∃ x, o.getD zeroEv = x := ⟨_, rfl⟩
        obtain ⟨q, hq⟩ : ∃ q, o.isSome = q := ⟨_, rfl⟩
        rw [← hf] at hx hq
        have HX := Lib.hid hx
        have HQ := Lib.hid hq
        have HF := Lib.hid hf
        clear hx hq hf
        go_upto_region 7 with (first
          | (refine wpList_look rfl (.tmp 31) (.tmp 33) 81 rfl HM7.out Tryz.underlying81 d.idx HIX.out rfl rfl x HX.out q HQ.out ?_)
          | (refine wpList_store_all rfl _ (.tmp 14) (.tmp 35) rfl w7.heap.size 51 _ [.int .i64 x.kind, .int .i64 x.inc, .int .i64 x.frm, .int .i64 x.sInc, .int .i64 x.sIdx, .int .i64 x.ord, .int .i64 x.val] rfl rfl (Blk.new _ _ _) rfl (by kernel_rfl) rfl ?_; intro w8 hb8 hs8))
        have hk8 : Keep w7 w8 := Keep.write (Keep.new _ _) hs8 (Nat.le_refl _)
        have hz8 : w7.heap.size < w8.heap.size := hb8.lt
        have hm8 := HM7.out.keep hk8 HM7.out.lt
        have hkk8 := Same.trans HKK.out hk8 (fun i hi => by have := hi.1; omega)
        have hb78 := hk8.blk HB7.out HB7.out.lt
        have HM8 := Lib.hid hm8
        have HKK8 := Lib.hid hkk8
        have HB78 := Lib.hid hb78
        have HB8 := Lib.hid hb8
        clear hm8 hkk8 hb78 hb8
        clear hs8 hk8 e0 e1
        -- the end of a round that puts
        have hput : ∀ (w9 wa : World), Keep w8 w9 → better (mapS self (l.take k) d.idx) d.ev = true → MapEv wa W.heap.size (m + 1) (fun j => if j = d.idx then some d.ev else mapS self (l.take k) j) → Same (fun i => i < w9.heap.size ∧ i ≠ W.heap.size) w9 wa → RcL1 self l W.heap.size w1 (.int .i64 ((k : Int) + 1)) wa := fun w9 wa h9 hbt hma hsa => by
          have hz9 := h9.size
          refine ⟨k + 1, m + 1, by simp, HK1L.out, by omega, ?_, Same.trans (Same.trans HKK8.out h9 (fun i hi => by have := hi.1; omega)) hsa (fun i hi => ⟨by have := hi.1; omega, hi.2⟩)⟩
          rw [HTK.out, putS_put Q1.out hbt]
          exact hma
        have hold : ∀ (w9 : World), Keep w8 w9 → better (mapS self (l.take k) d.idx) d.ev = false → RcL1 self l W.heap.size w1 (.int .i64 ((k : Int) + 1)) w9 := fun w9 h9 hbt => by
          refine ⟨k + 1, m, by simp, HK1L.out, by omega, ?_, Same.trans HKK8.out h9 (fun i hi => by have := hi.1; omega)⟩
          rw [HTK.out, putS_worse hbt]
          exact HM8.out.keep h9 HM8.out.lt
        have HPUT := Lib.hid hput
        have HOLD := Lib.hid hold
        clear hput hold
        cases o with
        | none =>
          obtain rfl : q = false := by have := HQ.out; rw [HF.out] at this; exact this.symm
          have hbt : better (mapS self (l.take k) d.idx) d.ev = true := by rw [HF.out]; rfl
          have e1 : w8.cell? ⟨wr.heap.size, 1, none⟩ = some (.int .i64 d.idx) := by rw [HB78.out.cell]; rfl
          have HBT := Lib.hid hbt
          clear hbt
          go_wp2_with (first
            | (refine wpList_load_blk rfl _ (.tmp 49) rfl wr.heap.size 2 76 _ [.int .i64 d.ev.kind, .int .i64 d.ev.inc, .int .i64 d.ev.frm, .int .i64 d.ev.sInc, .int .i64 d.ev.sIdx, .int .i64 d.ev.ord, .int .i64 d.ev.val] _ rfl HB78.out (fun j u hu => by rw [Nat.add_comm]; simpa using hu) Tryz.underlying51 rfl (by kernel_rfl) ?_)
            | (refine wpList_put rfl (.tmp 46) (.tmp 48) (.tmp 50) 81 rfl HM8.out (by simp [maxLen]; omega) Tryz.underlying81 d.idx HIX.out rfl rfl d.ev rfl ?_; intro wa hma hsa; have HMA := Lib.hid hma; have HSA := Lib.hid hsa; clear hma hsa))
          go_roundw
          case rel => exact HPUT.out w8 wa (Same.refl _ _) HBT.out HMA.out HSA.out
          case measure => simp [intOf]; omega
        | some y =>
          obtain rfl : q = true := by have := HQ.out; rw [HF.out] at this; exact this.symm
          obtain rfl : y = x := by have := HX.out; rw [HF.out] at this; exact this
          go_upto_region 7 with fail
          have hbt : better (mapS self (l.take k) d.idx) d.ev = decide (cmpEv y d.ev < 0) := by rw [HF.out]; rfl
          have HBT := Lib.hid hbt
          clear hbt
          go_wp2_with (first
            | (refine wpList_load_allg (by rfl) _ (.tmp 14) rfl w7.heap.size 51 [.int .i64 y.kind, .int .i64 y.inc, .int .i64 y.frm, .int .i64 y.sInc, .int .i64 y.sIdx, .int .i64 y.ord, .int .i64 y.val] _ rfl HB8.out Tryz.underlying51 rfl (by kernel_rfl) ?_)
            | (refine wpList_load_blkg (by rfl) _ (.tmp 41) rfl wr.heap.size 2 76 _ [.int .i64 d.ev.kind, .int .i64 d.ev.inc, .int .i64 d.ev.frm, .int .i64 d.ev.sInc, .int .i64 d.ev.sIdx, .int .i64 d.ev.ord, .int .i64 d.ev.val] _ rfl HB78.out (fun j u hu => by rw [Nat.add_comm]; simpa using hu) Tryz.underlying51 rfl (by kernel_rfl) ?_))
          refine (cmpEv_any w8 y d.ev).mono ?_
          rintro e w9 ⟨rfl, hk9⟩
          have hz9 := hk9.size
          have hb79 := hk9.blk HB78.out HB78.out.lt
          have hm9 := HM8.out.keep hk9 HM8.out.lt
          have e1 : w9.cell? ⟨wr.heap.size, 1, none⟩ = some (.int .i64 d.idx) := by rw [hb79.cell]; rfl
          generalize hv : cmpEv y d.ev = v at *
          have HK9 := Lib.hid hk9
          have HB79 := Lib.hid hb79
          have HM9 := Lib.hid hm9
          clear hk9 hb79 hm9
          by_cases hlt : v < 0
          · have t1 : decide (v < 0) = true := by simpa using hlt
            have hbt2 : better (mapS self (l.take k) d.idx) d.ev = true := by rw [HBT.out]; exact t1
            have HBT2 := Lib.hid hbt2
            have HV := Lib.hid hv
            clear hbt2 hv
            go_wp2_with (first
              | (refine wpList_load_blk rfl _ (.tmp 49) rfl wr.heap.size 2 76 _ [.int .i64 d.ev.kind, .int .i64 d.ev.inc, .int .i64 d.ev.frm, .int .i64 d.ev.sInc, .int .i64 d.ev.sIdx, .int .i64 d.ev.ord, .int .i64 d.ev.val] _ rfl HB79.out (fun j u hu => by rw [Nat.add_comm]; simpa using hu) Tryz.underlying51 rfl (by kernel_rfl) ?_)
              | (refine wpList_put rfl (.tmp 46) (.tmp 48) (.tmp 50) 81 rfl HM9.out (by simp [maxLen]; omega) Tryz.underlying81 d.idx HIX.out rfl rfl d.ev rfl ?_; intro wa hma hsa; have HMA := Lib.hid hma; have HSA := Lib.hid hsa; clear hma hsa))
            go_roundw
            case rel => exact HPUT.out w9 wa HK9.out HBT2.out HMA.out HSA.out
            case measure => simp [intOf]; omega
          · have t1 : decide (v < 0) = false := by simpa using hlt
            have hbt2 : better (mapS self (l.take k) d.idx) d.ev = false := by rw [HBT.out]; exact t1
            have HBT2 := Lib.hid hbt2
            have HV := Lib.hid hv
            clear hbt2 hv
            go_wp2_with fail
            go_roundw
            case rel => exact HOLD.out w9 HK9.out HBT2.out
            case measure => simp [intOf]; omega
      · have Q1 := Lib.hid q1
        clear q1
        have q1 := Q1.out
        go_wp2_with fail
        go_roundw
        case rel =>
          refine ⟨k + 1, m, by simp, HK1L.out, by omega, ?_, HKK.out⟩
          rw [HTK.out, putS_other Q1.out]
          exact HM7.out
        case measure => simp [intOf]; omega
    · have hd1 : decide (k < n) = false := by simpa using hk
      have htl : l.take k = l := List.take_of_length_le (by have := HNL.out; omega)
      rw [htl] at hmap
      have hb8r := hkr.blk HB81.out ⟨by have := HB81.out.lt; omega, by omega⟩
      have hb5r := hkr.blk HB51.out ⟨by have := HB51.out.lt; omega, by omega⟩
      have hb10r := hkr.blk HB101.out ⟨by have := HB101.out.lt; omega, by omega⟩
      have hstr := HST1.out.keep (hkr.mono hSr)
      have hcdr := HCD1.out.keep (hkr.mono hSr)
      have hkwr : Keep w wr := Same.trans HKW1.out hkr (fun i hi => ⟨by omega, by omega⟩)
      have HMAP := Lib.hid hmap
      have HB8R := Lib.hid hb8r
      have HB5R := Lib.hid hb5r
      have HB10R := Lib.hid hb10r
      have HSTR := Lib.hid hstr
      have HCDR := Lib.hid hcdr
      have HKWR := Lib.hid hkwr
      clear hmap hb8r hb5r hb10r hstr hcdr hkwr
      clear htl hkr HB81 HB51 HB101 HST1 HCD1 HKW1 HL1
      go_wp2_with (first
        | (refine wpList_load_all rfl _ (.tmp 8) rfl (w.heap.size + 1) 37 [.slice B1 p1 q1, .slice B2 p2 q2, .slice B3 p3 q3, .slice B4 p4 q4] _ rfl HB8R.out Tryz.underlying37 rfl (by kernel_rfl) ?_)
        | (refine wpList_store_all rfl _ (.tmp 16) (.tmp 52) rfl wr.heap.size 37 _ [.slice B1 p1 q1, .slice B2 p2 q2, .slice B3 p3 q3, .slice B4 p4 q4] rfl rfl (Blk.new _ _ _) rfl (by kernel_rfl) rfl ?_; intro w2 hb2 hs2; have HB2 := Lib.hid hb2; have HS2 := Lib.hid hs2; clear hb2 hs2))
      have hk2 : Keep wr w2 := Keep.write (Keep.new _ _) HS2.out (Nat.le_refl _)
      have hz2 : wr.heap.size < w2.heap.size := HB2.out.lt
      have hb52 := hk2.blk HB5R.out HB5R.out.lt
      have hb102 := hk2.blk HB10R.out HB10R.out.lt
      have hSw : ∀ i, S i → i < wr.heap.size := fun i hi => by have := HS.out i hi; omega
      have hst2 := HSTR.out.keep (Same.mono hk2 hSw)
      have hcd2 := HCDR.out.keep (Same.mono hk2 hSw)
      have hm2 := HMAP.out.keep hk2 HMAP.out.lt
      have hkw2 := Keep.trans HKWR.out hk2
      have hbg : W.heap.size < wr.heap.size := by omega
      have hrel0 : RcL2 S c self procs (mapS self l) l s W.heap.size m wr.heap.size w2 (above l s.events.length) w2 :=
        ⟨_, s, rfl, fun t ht => ht, rfl, by have := above_le l s.events.length; omega, by have := above_le l s.events.length; omega, by have := above_le l s.events.length; omega, HB2.out, hst2.more (fun i hi => .inl hi), hm2, Same.refl _ _⟩
      have HREL0 := Lib.hid hrel0
      have HB52 := Lib.hid hb52
      have HB102 := Lib.hid hb102
      have HCD2 := Lib.hid hcd2
      have HKW2 := Lib.hid hkw2
      clear hrel0 hb52 hb102 hcd2 hkw2
      clear HB2 HS2 HB8R HB5R HB10R HSTR HCDR HMAP HKWR hk2 hSw hst2 hm2
      generalize wr.heap.size = g at *
      clear wr
      simp only [Act.put]
      go_loopg [] (above l s.events.length) (fun gk wr => RcL2 S c self procs (mapS self l) l s W.heap.size m g w2 gk wr)
      case atStart => exact HREL0.out
      case round =>
        clear HREL0
        obtain ⟨cs', s', hgk, hto, b1, b2, b3, b4, hbs, hsr, hmp, hkx⟩ := hrel
        obtain ⟨C1, C2, C3, C4, r1, t1, r2, t2, r3, t3, r4, t4, rfl, hsx⟩ := st_open hsr
        clear hsr
        have hzx := hkx.size
        have hgx := hbs.lt
        have hr2 := (st_sl hsx).2.1.1
        have hr29 : r2 ≤ 901000 := by omega
        have cell1 : wr.cell? ⟨g, 1, none⟩ = some (.slice C2 r2 t2) := by rw [hbs.cell]; rfl
        have hI : I64 ((r2 : Int) + 1) := ⟨by omega, by omega⟩
        generalize hf : mapS self l ((r2 : Int) + 1) = o
        obtain ⟨x, hx⟩ : ∃ x, o.getD zeroEv = x := ⟨_, rfl⟩
        obtain ⟨q, hq⟩ : ∃ q, o.isSome = q := ⟨_, rfl⟩
        rw [← hf] at hx hq
        have hb5x := hkx.blk HB52.out (by omega)
        have hb10x := hkx.blk HB102.out (by omega)
        have hcdx := HCD2.out.keep (hkx.mono (fun i hi => by have := HS.out i hi; omega))
        have hkwx : Keep w wr := Same.trans HKW2.out hkx (fun i hi => by omega)
        have HX := Lib.hid hx
        have HQ := Lib.hid hq
        have HF := Lib.hid hf
        have HI := Lib.hid hI
        have HTO := Lib.hid hto
        have HBS := Lib.hid hbs
        have HSX := Lib.hid hsx
        have HMP := Lib.hid hmp
        have HKX := Lib.hid hkx
        have HR2 := Lib.hid hr2
        have HB5X := Lib.hid hb5x
        have HB10X := Lib.hid hb10x
        have HCDX := Lib.hid hcdx
        have HKWX := Lib.hid hkwx
        have HGK := Lib.hid hgk
        clear hx hq hf hI hto hbs hsx hmp hkx hr2 hb5x hb10x hcdx hkwx hgk
        go_upto_region 12 with (first
          | (refine wpList_look rfl (.tmp 54) (.tmp 58) 81 rfl HMP.out Tryz.underlying81 ((r2 : Int) + 1) HI.out rfl rfl x HX.out q HQ.out ?_)
          | (refine wpList_store_all rfl _ (.tmp 17) (.tmp 60) rfl wr.heap.size 51 _ [.int .i64 x.kind, .int .i64 x.inc, .int .i64 x.frm, .int .i64 x.sInc, .int .i64 x.sIdx, .int .i64 x.ord, .int .i64 x.val] rfl rfl (Blk.new _ _ _) rfl (by kernel_rfl) rfl ?_; intro w5 hb5 hs5))
        have hk5 : Keep wr w5 := Keep.write (Keep.new _ _) hs5 (Nat.le_refl _)
        have hz5 : wr.heap.size < w5.heap.size := hb5.lt
        have hbs5 := hk5.blk HBS.out hgx
        have hb55 := hk5.blk HB5X.out HB5X.out.lt
        have hb105 := hk5.blk HB10X.out HB10X.out.lt
        have hs5' : StR w5 (RcT S g w5) [.slice C1 r1 t1, .slice C2 r2 t2, .slice C3 r3 t3, .slice C4 r4 t4] s' := (HSX.out.keep (Same.mono hk5 (fun i hi => hi.elim (fun h => by have := HS.out i h; omega) (fun h => h.2)))).more (fun i hi => hi.imp id (fun h => ⟨h.1, by have := h.2; omega⟩))
        have hcd5 : CdR w5 (RcT S g w5) [.slice A0 m0 c0, .slice A1 m1 c1, .slice A2 m2 c2, .slice A3 m3 c3, .slice A4 m4 c4] c := (HCDX.out.keep (Same.mono hk5 (fun i hi => by have := HS.out i hi; omega))).more (fun i hi => .inl hi)
        have hm5 := HMP.out.keep hk5 HMP.out.lt
        have hkx5 : Same (· < g) w2 w5 := Same.trans HKX.out hk5 (fun i hi => by omega)
        have hkw5 := Keep.trans HKWX.out hk5
        have hT5 : ∀ i, RcT S g w5 i → i < w5.heap.size := fun i hi => hi.elim (fun h => by have := HS.out i h; omega) (fun h => h.2)
        have hTg : ∀ i, RcT S g w5 i → i ≠ g := fun i hi => hi.elim (fun h => by have := HS.out i h; omega) (fun h => by have := h.1; omega)
        have HB5 := Lib.hid hb5
        have HBS5 := Lib.hid hbs5
        have HB55 := Lib.hid hb55
        have HB105 := Lib.hid hb105
        have HS5' := Lib.hid hs5'
        have HCD5 := Lib.hid hcd5
        have HM5 := Lib.hid hm5
        have HKX5 := Lib.hid hkx5
        have HKW5 := Lib.hid hkw5
        have HT5 := Lib.hid hT5
        have HTG := Lib.hid hTg
        clear hb5 hbs5 hb55 hb105 hs5' hcd5 hm5 hkx5 hkw5 hT5 hTg
        clear hs5 hk5 cell1 HSX HBS HB5X HB10X HCDX HMP HKX HKWX
        cases o with
        | none =>
          obtain rfl : q = false := by have := HQ.out; rw [HF.out] at this; exact this.symm
          go_wp2_with (first
            | (refine wpList_load_all rfl _ (.tmp 16) rfl g 37 [.slice C1 r1 t1, .slice C2 r2 t2, .slice C3 r3 t3, .slice C4 r4 t4] _ rfl HBS5.out Tryz.underlying37 rfl (by kernel_rfl) ?_)
            | (refine wpList_store_all rfl _ (.tmp 10) (.tmp 64) rfl (w.heap.size + 2) 37 _ [.slice C1 r1 t1, .slice C2 r2 t2, .slice C3 r3 t3, .slice C4 r4 t4] rfl rfl HB105.out rfl (by kernel_rfl) rfl ?_; intro wz hbq hwq; have HBQ := Lib.hid hbq; have HWQ := Lib.hid hwq; clear hbq hwq))
          refine bodyPost_ret (results_cell1 Tryz.results13 _ _ _ ⟨w.heap.size + 2, 0, none⟩ _ rfl (load_st rfl HBQ.out)) rfl ?_
          have hzq := HWQ.out.size
          have hstop : mapS self l ((s'.events.length : Int) + 1) = none := by rw [← HR2.out]; exact HF.out
          refine ⟨_, s', rfl, HTO.out _ (.stop _ hstop), b1, by omega, by omega, by omega, (HS5'.out.keep (HWQ.out.mono (fun i hi => hi.elim (fun h => by have := HS.out i h; show i ≠ _; omega) (fun h => by have := h.1; show i ≠ _; omega)))).more (fun i hi => hi.elim .inl (fun h => .inr ⟨by have := h.1; omega, by have := h.2; omega⟩)), Keep.write HKW5.out HWQ.out (by omega)⟩
        | some y =>
          obtain rfl : q = true := by have := HQ.out; rw [HF.out] at this; exact this.symm
          obtain rfl : y = x := by have := HX.out; rw [HF.out] at this; exact this
          have hstep : mapS self l ((s'.events.length : Int) + 1) = some y := by rw [← HR2.out]; exact HF.out
          have hless := above_less hstep
          have hlen := nextS_len c self procs s' y
          have hevs := nextS_events c self procs s' y
          have HSTEP := Lib.hid hstep
          have HLEN := Lib.hid hlen
          have HEVS := Lib.hid hevs
          have HLESS := Lib.hid hless
          clear hstep hlen hevs hless
          go_wp2_with (first
            | (refine wpList_load_all rfl _ (.tmp 5) rfl w.heap.size 30 [.slice A0 m0 c0, .slice A1 m1 c1, .slice A2 m2 c2, .slice A3 m3 c3, .slice A4 m4 c4] _ rfl HB55.out Tryz.underlying30 rfl (by kernel_rfl) ?_)
            | (refine wpList_load_all rfl _ (.tmp 16) rfl g 37 [.slice C1 r1 t1, .slice C2 r2 t2, .slice C3 r3 t3, .slice C4 r4 t4] _ rfl HBS5.out Tryz.underlying37 rfl (by kernel_rfl) ?_)
            | (refine wpList_load_all rfl _ (.tmp 17) rfl wr.heap.size 51 [.int .i64 y.kind, .int .i64 y.inc, .int .i64 y.frm, .int .i64 y.sInc, .int .i64 y.sIdx, .int .i64 y.ord, .int .i64 y.val] _ rfl HB5.out Tryz.underlying51 rfl (by kernel_rfl) ?_))
          refine (pnext_any w5 (RcT S g w5) [.slice A0 m0 c0, .slice A1 m1 c1, .slice A2 m2 c2, .slice A3 m3 c3, .slice A4 m4 c4] [.slice C1 r1 t1, .slice C2 r2 t2, .slice C3 r3 t3, .slice C4 r4 t4] c s' self procs y HT5.out HCD5.out HS5'.out (by omega) (by omega) (by omega) (by omega)).mono ?_
          rintro e w6 ⟨cs6, rfl, hr6', hk6⟩
          obtain ⟨D1, D2, D3, D4, d1, f1, d2, f2, d3, f3, d4, f4, rfl, hr6⟩ := st_open hr6'
          clear hr6'
          have hz6 := hk6.size
          have hbs6 := hk6.blk HBS5.out HBS5.out.lt
          have HR6 := Lib.hid hr6
          have HK6 := Lib.hid hk6
          have HBS6 := Lib.hid hbs6
          clear hr6 hk6 hbs6
          go_wp2_with (refine wpList_store_all rfl _ (.tmp 16) (.tmp 70) rfl g 37 _ [.slice D1 d1 f1, .slice D2 d2 f2, .slice D3 d3 f3, .slice D4 d4 f4] rfl rfl HBS6.out rfl (by kernel_rfl) rfl ?_; intro w7 hb7 hs7; have HB7 := Lib.hid hb7; have HS7 := Lib.hid hs7; clear hb7 hs7)
          have hz7 := HS7.out.size
          have hfin : RcL2 S c self procs (mapS self l) l s W.heap.size m g w2 (above l (s'.events.length + 1)) w7 := by
            have h1 := HLEN.out
            have h2 := HLESS.out
            have h3 := HGK.out
            have h4 : (nextS c self procs s' y).events.length = s'.events.length + 1 := by rw [HEVS.out]; simp
            refine ⟨_, nextS c self procs s' y, by rw [h4], fun t ht => HTO.out t (.step _ _ y HSTEP.out ht), by omega, by omega, by omega, by omega, HB7.out, ?_, (HM5.out.keep HK6.out HM5.out.lt).keep HS7.out (by omega), Same.trans (Same.trans HKX5.out HK6.out (fun i hi => by omega)) HS7.out (fun i hi => by show i ≠ g; omega)⟩
            exact (HR6.out.keep (HS7.out.mono (fun i hi => hi.elim (fun h => HTG.out i h) (fun h => by have := h.1; show i ≠ g; omega)))).more (fun i hi => hi.elim (fun h => h.imp id (fun h => ⟨h.1, by have := h.2; omega⟩)) (fun h => .inr ⟨by have := h.1; omega, by have := h.2; omega⟩))
          have HFIN := Lib.hid hfin
          clear hfin
          go_roundg (above l (s'.events.length + 1))
          case measure => have := HLESS.out; have := HGK.out; omega
          case rel => exact HFIN.out
end Go.Proofs.YtecckbkobkfnmaaGreatDoor
