/- ref34.Recover (written by gen_recr.py). -/
import Derived.Test.YtecckbkobkfnmaaGreatDoorRec
import Derived.Test.YtecckbkobkfnmaaGreatDoorCmp27
import Derived.Test.YtecckbkobkfnmaaGreatDoorDet34
set_option linter.unusedVariables false
set_option linter.unusedSimpArgs false
set_option maxRecDepth 100000
namespace Go.Proofs.YtecckbkobkfnmaaGreatDoor
open Go.RowKit Go.Proofs

def zeroDt : Dt := ⟨0, 0, ⟨0, 0, 0, 0, 0, 0, 0⟩⟩
theorem bld_det0 : Tryz.prog.built 76 [] = some #[.int .i64 0, .int .i64 0, .int .i64 0, .int .i64 0, .int .i64 0, .int .i64 0, .int .i64 0, .int .i64 0, .int .i64 0] := by kernel_rfl
theorem bestS_take {self k : Int} {l : List Dt} {i : Nat} {d : Dt} (h : l[i]? = some d) : bestS self k (l.take (i + 1)) = pickS self k (bestS self k (l.take i)) d := by
  obtain ⟨hk, rfl⟩ := List.getElem?_eq_some_iff.1 h
  rw [List.take_succ_eq_append_getElem hk, bestS_snoc]
def RrO (S : Nat → Prop) (c : Cd) (self procs : Int) (f : Int → Option Ev) (l : List Dt) (s : St) (g : Nat) (w2 : World) (gk : Nat) (wr : World) : Prop :=
  ∃ (cs : List Value) (s' : St), gk = above l s'.events.length ∧ (∀ t, RecS c self procs f s' t → RecS c self procs f s t) ∧ s'.cells.length = s.cells.length ∧ s'.sent.length + 8 * gk ≤ s.sent.length + 8 * l.length ∧ s'.outs.length + 8 * gk ≤ s.outs.length + 8 * l.length ∧ s'.events.length + gk ≤ s.events.length + l.length ∧
    Blk wr g 37 cs.toArray ∧ StR wr (RcT S g wr) cs s' ∧ Same (· < g) w2 wr
def RrI (self k : Int) (l : List Dt) (b : Nat) (W : World) (fd i : Value) (wr : World) : Prop :=
  ∃ (j : Nat) (o : Option Dt), o = bestS self k (l.take j) ∧ i = .int .i64 j ∧ j ≤ l.length ∧ fd = .bool o.isSome ∧ Blk wr b 76 (encDt (o.getD zeroDt)).toArray ∧ Same (fun i => i < W.heap.size ∧ i ≠ b) W wr
set_option maxHeartbeats 16000000 in
theorem rrecover_any (w : World) (S : Nat → Prop) (cs ss : List Value) (c : Cd) (s : St) (self procs : Int) (A : Option Addr) (n cp : Nat) (l : List Dt) (hS : ∀ i, S i → i < w.heap.size) (hc : CdR w S cs c) (hs : StR w S ss s) (hl : Sl encDt 9 w S A n cp l) (hn : l.length ≤ 1000)
    (h1 : s.cells.length ≤ 1000000) (h2 : s.sent.length ≤ 900000) (h3 : s.outs.length ≤ 900000) (h4 : s.events.length ≤ 900000) :
    Calls Tryz.prog 14 #[.agg cs.toArray, .int .i64 self, .int .i64 procs, .agg ss.toArray, .slice A n cp] w (RcPost S c self procs (mapS self l) l.length s w) := by
  obtain ⟨A0, A1, A2, A3, A4, m0, c0, m1, c1, m2, c2, m3, c3, m4, c4, rfl, hcd⟩ := cd_open2 hc
  obtain ⟨B1, B2, B3, B4, p1, q1, p2, q2, p3, q3, p4, q4, rfl, hst⟩ := st_open hs
  show Calls Tryz.prog 14 #[.agg #[.slice A0 m0 c0, .slice A1 m1 c1, .slice A2 m2 c2, .slice A3 m3 c3, .slice A4 m4 c4], .int .i64 self, .int .i64 procs, .agg #[.slice B1 p1 q1, .slice B2 p2 q2, .slice B3 p3 q3, .slice B4 p4 q4], .slice A n cp] w _
  generalize hW : ((w.alloc (.cells #[.slice A0 m0 c0, .slice A1 m1 c1, .slice A2 m2 c2, .slice A3 m3 c3, .slice A4 m4 c4] 30)).alloc (.cells #[.slice B1 p1 q1, .slice B2 p2 q2, .slice B3 p3 q3, .slice B4 p4 q4] 37)).alloc (.cells #[.slice none 0 0, .slice none 0 0, .slice none 0 0, .slice none 0 0] 37) = W
  have hkW : Keep w W := hW ▸ Keep.alloc (Keep.alloc (Keep.new w _) _) _
  have hb5 : Blk W w.heap.size 30 #[.slice A0 m0 c0, .slice A1 m1 c1, .slice A2 m2 c2, .slice A3 m3 c3, .slice A4 m4 c4] := hW ▸ ((Blk.new w _ _).alloc _).alloc _
  have hb8 : Blk W (w.heap.size + 1) 37 #[.slice B1 p1 q1, .slice B2 p2 q2, .slice B3 p3 q3, .slice B4 p4 q4] := hW ▸ blkM w _ _ _ _
  have hb10 : Blk W (w.heap.size + 2) 37 #[.slice none 0 0, .slice none 0 0, .slice none 0 0, .slice none 0 0] := hW ▸ blkL w _ _ _ _
  have hz : w.heap.size + 2 < W.heap.size := hb10.lt
  have hnl := hl.1
  have hn9 : n ≤ 1000 := by omega
  have HS := Lib.hid hS
  have HKW := Lib.hid hkW
  have HB5 := Lib.hid hb5
  have HB8 := Lib.hid hb8
  have HB10 := Lib.hid hb10
  have HCD := Lib.hid hcd
  have HST := Lib.hid hst
  have HL := Lib.hid hl
  have HNL := Lib.hid hnl
  clear hS hkW hb5 hb8 hb10 hcd hst hl hnl
  clear hc hs
  go_enter Tryz.func14, Tryz.ntmps14
  go_upto_region 1 with fail
  clear hW
  go_wp2_with (first
    | (refine wpList_load_all rfl _ (.tmp 8) rfl (w.heap.size + 1) 37 [.slice B1 p1 q1, .slice B2 p2 q2, .slice B3 p3 q3, .slice B4 p4 q4] _ rfl HB8.out Tryz.underlying37 rfl (by kernel_rfl) ?_)
    | (refine wpList_store_all rfl _ (.tmp 11) (.tmp 16) rfl W.heap.size 37 _ [.slice B1 p1 q1, .slice B2 p2 q2, .slice B3 p3 q3, .slice B4 p4 q4] rfl rfl (Blk.new _ _ _) rfl (by kernel_rfl) rfl ?_; intro w2 hb2 hs2; have HB2 := Lib.hid hb2; have HS2 := Lib.hid hs2; clear hb2 hs2))
  have hk2 : Keep W w2 := Keep.write (Keep.new _ _) HS2.out (Nat.le_refl _)
  have hz2 : W.heap.size < w2.heap.size := HB2.out.lt
  have hb52 := hk2.blk HB5.out HB5.out.lt
  have hb102 := hk2.blk HB10.out HB10.out.lt
  have hkw2 := Keep.trans HKW.out hk2
  have hst2 := HST.out.keep (Same.mono hkw2 HS.out)
  have hcd2 := HCD.out.keep (Same.mono hkw2 HS.out)
  have hl2 := HL.out.keep (Same.mono hkw2 HS.out)
  have hrel0 : RrO S c self procs (mapS self l) l s W.heap.size w2 (above l s.events.length) w2 :=
    ⟨_, s, rfl, fun t ht => ht, rfl, by have := above_le l s.events.length; omega, by have := above_le l s.events.length; omega, by have := above_le l s.events.length; omega, HB2.out, hst2.more (fun i hi => .inl hi), Same.refl _ _⟩
  have HREL0 := Lib.hid hrel0
  have HB52 := Lib.hid hb52
  have HB102 := Lib.hid hb102
  have HKW2 := Lib.hid hkw2
  have HCD2 := Lib.hid hcd2
  have HL2 := Lib.hid hl2
  clear hrel0 hb52 hb102 hkw2 hcd2 hl2
  clear HB2 HS2 hk2 hst2 HB5 HB8 HB10 HKW HST HCD HL
  generalize W.heap.size = g at *
  simp only [Act.put]
  go_loopg [] (above l s.events.length) (fun gk wr => RrO S c self procs (mapS self l) l s g w2 gk wr)
  case atStart => exact HREL0.out
  case round =>
    clear HREL0
    obtain ⟨cs', s', hgk, hto, b1, b2, b3, b4, hbs, hsr, hkx⟩ := hrel
    obtain ⟨C1, C2, C3, C4, r1, t1, r2, t2, r3, t3, r4, t4, rfl, hsx⟩ := st_open hsr
    clear hsr
    have hzx := hkx.size
    have hgx := hbs.lt
    have hr2 := (st_sl hsx).2.1.1
    have hr29 : r2 ≤ 901000 := by omega
    have hb5x := hkx.blk HB52.out (by omega)
    have hb10x := hkx.blk HB102.out (by omega)
    have hcdx := HCD2.out.keep (hkx.mono (fun i hi => by have := HS.out i hi; show i < g; omega))
    have hlx := HL2.out.keep (hkx.mono (fun i hi => by have := HS.out i hi; show i < g; omega))
    have hkwx : Keep w wr := Same.trans HKW2.out hkx (fun i hi => by show i < g; omega)
    have HTO := Lib.hid hto
    have HBS := Lib.hid hbs
    have HSX := Lib.hid hsx
    have HKX := Lib.hid hkx
    have HR2 := Lib.hid hr2
    have HB5X := Lib.hid hb5x
    have HB10X := Lib.hid hb10x
    have HCDX := Lib.hid hcdx
    have HLX := Lib.hid hlx
    have HKWX := Lib.hid hkwx
    have HGK := Lib.hid hgk
    clear hto hbs hsx hkx hr2 hb5x hb10x hcdx hlx hkwx hgk
    -- the best determinant
    go_wp2_with (first
      | (refine wpList_bld rfl 76 _ rfl _ [] rfl bld_det0 ?_)
      | (refine wpList_store_all rfl _ (.tmp 13) (.tmp 17) rfl wr.heap.size 76 _ [.int .i64 0, .int .i64 0, .int .i64 0, .int .i64 0, .int .i64 0, .int .i64 0, .int .i64 0, .int .i64 0, .int .i64 0] rfl rfl (Blk.new _ _ _) rfl (by kernel_rfl) rfl ?_; intro w5 hb5 hs5; have HB5 := Lib.hid hb5; have HS5 := Lib.hid hs5; clear hb5 hs5))
    have hk5 : Keep wr w5 := Keep.write (Keep.new _ _) HS5.out (Nat.le_refl _)
    have hz5 : wr.heap.size < w5.heap.size := HB5.out.lt
    have hin0 : RrI self ((r2 : Int) + 1) l wr.heap.size w5 (.bool false) (.int .i64 0) w5 := ⟨0, none, rfl, rfl, Nat.zero_le _, rfl, HB5.out, Same.refl _ _⟩
    have hbs5 := hk5.blk HBS.out hgx
    have hb55 := hk5.blk HB5X.out HB5X.out.lt
    have hb105 := hk5.blk HB10X.out HB10X.out.lt
    have hs5' := (HSX.out.keep (Same.mono hk5 (fun i hi => hi.elim (fun h => by have := HS.out i h; omega) (fun h => h.2))))
    have hcd5 := HCDX.out.keep (Same.mono hk5 (fun i hi => by have := HS.out i hi; omega))
    have hl5 := HLX.out.keep (Same.mono hk5 (fun i hi => by have := HS.out i hi; omega))
    have hkx5 : Same (· < g) w2 w5 := Same.trans HKX.out hk5 (fun i hi => by have h : i < g := hi; omega)
    have hkw5 := Keep.trans HKWX.out hk5
    have HIN0 := Lib.hid hin0
    have HBS5 := Lib.hid hbs5
    have HB55 := Lib.hid hb55
    have HB105 := Lib.hid hb105
    have HS5' := Lib.hid hs5'
    have HCD5 := Lib.hid hcd5
    have HL5 := Lib.hid hl5
    have HKX5 := Lib.hid hkx5
    have HKW5 := Lib.hid hkw5
    clear hin0 hbs5 hb55 hb105 hs5' hcd5 hl5 hkx5 hkw5
    clear HB5 HS5 hk5 HBS HSX HB5X HB10X HCDX HLX HKX HKWX
    obtain ⟨b, hbe⟩ : ∃ b, b = wr.heap.size := ⟨_, rfl⟩
    have hgb : g < b := by omega
    rw [← hbe] at HIN0 hz5
    rw [← hbe]
    have hsz5 : ∀ i, RcT S g wr i → i < w5.heap.size ∧ i ≠ b := fun i hi => hi.elim (fun h => by have := HS.out i h; omega) (fun h => by have := h.2; omega)
    have HBE := Lib.hid hbe
    have HSZ5 := Lib.hid hsz5
    clear hbe hsz5
    try simp only [Act.put]
    go_loopw [12, 14] (fun fd i wy => RrI self ((r2 : Int) + 1) l b w5 fd i wy) (fun _ i _ => n - (intOf i).toNat)
    case atStart => exact HIN0.out
    case round =>
      clear HIN0
      obtain ⟨j, o, ho, rfl, hj, rfl, hbo, hsy⟩ := hrel
      have hzy := hsy.size
      have hSy : ∀ i, S i → i < w5.heap.size ∧ i ≠ b := fun i hi => by have := HS.out i hi; omega
      by_cases hjn : j < n
      · obtain ⟨bb, off, d, rfl, hSb, hd, hcell⟩ := (HL5.out.keep (hsy.mono hSy)).at_ encDt_len hjn
        have hd1 : decide (j < n) = true := by simpa using hjn
        have hd2 : (0 : Int) ≤ j := by omega
        have hd3 : (j : Int) < n := by omega
        have hrg : wr.rangeAt bb (off + j * 9) (encDt d) := hcell
        have htk := bestS_take (self := self) (k := (r2 : Int) + 1) hd
        have hj1 : j + 1 ≤ l.length := by have := HNL.out; omega
        have hbg1 := hsy.blk HBS5.out ⟨by omega, by omega⟩
        have HRG := Lib.hid hrg
        have HTK := Lib.hid htk
        have HSY := Lib.hid hsy
        have HBO := Lib.hid hbo
        have HO := Lib.hid ho
        have HJ1 := Lib.hid hj1
        have HBG1 := Lib.hid hbg1
        clear hrg htk hsy hbo ho hj1 hbg1
        clear hcell hd hSb hj hSy
        go_upto_region 7 with (first
          | (refine wpList_load_mid rfl _ (.tmp 26) rfl bb (off + j * 9) rfl [.int .i64 d.proc, .int .i64 d.idx, .int .i64 d.ev.kind, .int .i64 d.ev.inc, .int .i64 d.ev.frm, .int .i64 d.ev.sInc, .int .i64 d.ev.sIdx, .int .i64 d.ev.ord, .int .i64 d.ev.val] _ HRG.out Tryz.underlying76 rfl (by kernel_rfl) ?_)
          | (refine wpList_store_all rfl _ (.tmp 15) (.tmp 27) rfl wr.heap.size 76 _ [.int .i64 d.proc, .int .i64 d.idx, .int .i64 d.ev.kind, .int .i64 d.ev.inc, .int .i64 d.ev.frm, .int .i64 d.ev.sInc, .int .i64 d.ev.sIdx, .int .i64 d.ev.ord, .int .i64 d.ev.val] rfl rfl (Blk.new _ _ _) rfl (by kernel_rfl) rfl ?_; intro w7 hb7 hs7; have HB7 := Lib.hid hb7; have HS7 := Lib.hid hs7; clear hb7 hs7; refine Hid.out ?_))
        refine Lib.hid ?_
        have hk7 : Keep wr w7 := Keep.write (Keep.new _ _) HS7.out (Nat.le_refl _)
        have hz7 : wr.heap.size < w7.heap.size := HB7.out.lt
        have hbo7 := hk7.blk HBO.out HBO.out.lt
        have hbg7 := hk7.blk HBG1.out HBG1.out.lt
        have hfr7 : Same (fun i => i < w5.heap.size ∧ i ≠ b) w5 w7 := Same.trans HSY.out hk7 (fun i hi => by have := hi.1; omega)
        have e0 : w7.cell? ⟨wr.heap.size, 0, none⟩ = some (.int .i64 d.proc) := by rw [HB7.out.cell]; rfl
        have e1 : w7.cell? ⟨wr.heap.size, 1, none⟩ = some (.int .i64 d.idx) := by rw [HB7.out.cell]; rfl
        have eg : w7.cell? ⟨g, 1, none⟩ = some (.slice C2 r2 t2) := by rw [hbg7.cell]; rfl
        have hold : ∀ w9, Keep w7 w9 → pickS self ((r2 : Int) + 1) o d = o → RrI self ((r2 : Int) + 1) l b w5 (.bool o.isSome) (.int .i64 ((j : Int) + 1)) w9 := fun w9 h9 hp =>
          ⟨j + 1, o, by rw [HTK.out, ← HO.out]; exact hp.symm, by simp, HJ1.out, rfl, h9.blk hbo7 hbo7.lt, Same.trans hfr7 h9 (fun i hi => by have := hi.1; omega)⟩
        have HBO7 := Lib.hid hbo7
        have HBG7 := Lib.hid hbg7
        have HFR7 := Lib.hid hfr7
        have HOLD := Lib.hid hold
        clear hbo7 hbg7 hfr7 hold
        clear HS7 hk7
        cases c1 : (d.proc == self) with
        | false =>
          have hp : pickS self ((r2 : Int) + 1) o d = o := by unfold pickS; rw [if_neg (fun h => by rw [h.1] at c1; simp at c1)]
          have HP := Lib.hid hp
          clear hp
          go_wp2_with fail
          go_roundw
          case rel => exact HOLD.out _ (Same.refl _ _) HP.out
          case measure => simp [intOf]; omega
        | true =>
          have p1 : d.proc = self := by simpa using c1
          cases c2 : (d.idx == (r2 : Int) + 1) with
          | false =>
            have hp : pickS self ((r2 : Int) + 1) o d = o := by unfold pickS; rw [if_neg (fun h => by rw [h.2.1] at c2; simp at c2)]
            have HP := Lib.hid hp
            have P1 := Lib.hid p1
            clear hp p1
            go_wp2_with fail
            go_roundw
            case rel => exact HOLD.out _ (Same.refl _ _) HP.out
            case measure => simp [intOf]; omega
          | true =>
            have p2 : d.idx = (r2 : Int) + 1 := by simpa using c2
            cases o with
            | none =>
              have hpk : d.proc = self ∧ d.idx = (r2 : Int) + 1 ∧ betterD none d = true := ⟨p1, p2, rfl⟩
              have HPK := Lib.hid hpk
              have P1 := Lib.hid p1
              have P2 := Lib.hid p2
              clear hpk p1 p2
              go_upto_region 8 with fail
              refine wp_region_L 2 (fun wx => Keep w7 wx) (fun wx => Only b w7 wx) (by kernel_rfl) (Same.drew (Same.refl _ _)) (Same.drew (Same.refl _ _)) (fun hA hB => ?_)
              generalize hu0 : w7.drew = u0 at hA hB ⊢
              clear hu0
              refine wpL_takeA (i := 0) rfl (by kernel_rfl) (by kernel_rfl) (by kernel_rfl) (by kernel_rfl) (by decide) (fun _ _ _ h => h) (yieldsIf_blk (by rfl) _ _ rfl wr.heap.size 0 76 _ [.int .i64 d.proc, .int .i64 d.idx, .int .i64 d.ev.kind, .int .i64 d.ev.inc, .int .i64 d.ev.frm, .int .i64 d.ev.sInc, .int .i64 d.ev.sIdx, .int .i64 d.ev.ord, .int .i64 d.ev.val] _ rfl (fun wx hx => hx.1.blk HB7.out HB7.out.lt) (fun j u hu => by simpa using hu) Tryz.underlying76 rfl (by kernel_rfl)) hA hB ?_
              try simp only [Act.put, List.setIfInBounds_toArray, List.set_cons_zero, List.set_cons_succ]
              refine wpL_takeB (i := 1) (v := ?_) rfl (by kernel_rfl) (by kernel_rfl) (by kernel_rfl) (by decide) (fun _ _ _ h => h) (Or.inl ⟨by rfl, ?_⟩) (SAB.both hA hB) ?_
              rotate_left
              · intro wx hBx
                (try dsimp only at hBx)
                go_simp
                try with_reducible rfl
              try simp only [Act.put, List.setIfInBounds_toArray, List.set_cons_zero, List.set_cons_succ]
              refine wpL_one (i := 2) (by kernel_rfl) (StepL.mk rfl (fun K hK => ?_))
              refine step_store_blk rfl _ _ _ rfl b 0 76 _ [.int .i64 d.proc, .int .i64 d.idx, .int .i64 d.ev.kind, .int .i64 d.ev.inc, .int .i64 d.ev.frm, .int .i64 d.ev.sInc, .int .i64 d.ev.sIdx, .int .i64 d.ev.ord, .int .i64 d.ev.val] rfl rfl (hA.blk HBO7.out HBO7.out.lt) (by simp [encDt, encEv]) (by kernel_rfl) rfl ?_
              intro v5 hv5 hs5
              rw [splice_all [.int .i64 d.proc, .int .i64 d.idx, .int .i64 d.ev.kind, .int .i64 d.ev.inc, .int .i64 d.ev.frm, .int .i64 d.ev.sInc, .int .i64 d.ev.sIdx, .int .i64 d.ev.ord, .int .i64 d.ev.val] (encDt ((none : Option Dt).getD zeroDt)).toArray rfl] at hv5
              have hoz : Only b w7 v5 := Same.trans hB hs5 (fun i hi => hi.2)
              have hfin : RrI self ((r2 : Int) + 1) l b w5 (.bool true) (.int .i64 ((j : Int) + 1)) v5 := ⟨j + 1, some d, by rw [HTK.out, ← HO.out]; exact (if_pos HPK.out).symm, by simp, HJ1.out, rfl, hv5, Same.trans HFR7.out hoz (fun i hi => ⟨by have := hi.1; omega, hi.2⟩)⟩
              refine hK.out _ _ (SAB.past (by kernel_rfl) hoz) (fun hSS => ?_)
              clear hK K hA hB
              have hB := hSS.2
              have hA : True := trivial
              (try dsimp only at hB); (try dsimp only at hA); clear hSS
              try simp only [Act.put, List.setIfInBounds_toArray, List.set_cons_zero, List.set_cons_succ]
              refine wpL_done (by kernel_rfl) ?_
              have HFIN := Lib.hid hfin
              clear hfin
              clear hv5 hs5 hoz hA hB
              go_wp2_with fail
              go_roundw
              case rel => exact HFIN.out
              case measure => simp [intOf]; omega
            | some x =>
              have P1 := Lib.hid p1
              have P2 := Lib.hid p2
              clear p1 p2
              go_wp2_with (first
                | (refine wpList_load_allg (by rfl) _ (.tmp 15) rfl wr.heap.size 76 [.int .i64 d.proc, .int .i64 d.idx, .int .i64 d.ev.kind, .int .i64 d.ev.inc, .int .i64 d.ev.frm, .int .i64 d.ev.sInc, .int .i64 d.ev.sIdx, .int .i64 d.ev.ord, .int .i64 d.ev.val] _ rfl HB7.out Tryz.underlying76 rfl (by kernel_rfl) ?_)
                | (refine wpList_load_allg (by rfl) _ (.tmp 13) rfl b 76 [.int .i64 x.proc, .int .i64 x.idx, .int .i64 x.ev.kind, .int .i64 x.ev.inc, .int .i64 x.ev.frm, .int .i64 x.ev.sInc, .int .i64 x.ev.sIdx, .int .i64 x.ev.ord, .int .i64 x.ev.val] _ rfl HBO7.out Tryz.underlying76 rfl (by kernel_rfl) ?_))
              refine (cmp27_any w7 d x).mono ?_
              rintro e w8 ⟨rfl, hk8⟩
              have hz8 := hk8.size
              have hb8 := hk8.blk HB7.out HB7.out.lt
              have hbo8 := hk8.blk HBO7.out HBO7.out.lt
              have hfr8 : Same (fun i => i < w5.heap.size ∧ i ≠ b) w5 w8 := Same.trans HFR7.out hk8 (fun i hi => by have := hi.1; omega)
              obtain ⟨v, hv⟩ : ∃ v, v = cmpDt d x := ⟨_, rfl⟩
              rw [← hv]
              have HK8 := Lib.hid hk8
              have HB8 := Lib.hid hb8
              have HBO8 := Lib.hid hbo8
              have HFR8 := Lib.hid hfr8
              have HV := Lib.hid hv
              clear hk8 hb8 hbo8 hfr8 hv
              by_cases hlt : 0 < v
              · have q1 : decide (0 < v) = true := by simpa using hlt
                have hpk : d.proc = self ∧ d.idx = (r2 : Int) + 1 ∧ betterD (some x) d = true := ⟨P1.out, P2.out, by rw [HV.out] at hlt; simpa [betterD] using hlt⟩
                have HPK := Lib.hid hpk
                clear hpk
                go_upto_region 8 with fail
                refine wp_region_L 2 (fun wx => Keep w8 wx) (fun wx => Only b w8 wx) (by kernel_rfl) (Same.drew (Same.refl _ _)) (Same.drew (Same.refl _ _)) (fun hA hB => ?_)
                generalize hu0 : w8.drew = u0 at hA hB ⊢
                clear hu0
                refine wpL_takeA (i := 0) rfl (by kernel_rfl) (by kernel_rfl) (by kernel_rfl) (by kernel_rfl) (by decide) (fun _ _ _ h => h) (yieldsIf_blk (by rfl) _ _ rfl wr.heap.size 0 76 _ [.int .i64 d.proc, .int .i64 d.idx, .int .i64 d.ev.kind, .int .i64 d.ev.inc, .int .i64 d.ev.frm, .int .i64 d.ev.sInc, .int .i64 d.ev.sIdx, .int .i64 d.ev.ord, .int .i64 d.ev.val] _ rfl (fun wx hx => hx.1.blk HB8.out HB8.out.lt) (fun j u hu => by simpa using hu) Tryz.underlying76 rfl (by kernel_rfl)) hA hB ?_
                try simp only [Act.put, List.setIfInBounds_toArray, List.set_cons_zero, List.set_cons_succ]
                refine wpL_takeB (i := 1) (v := ?_) rfl (by kernel_rfl) (by kernel_rfl) (by kernel_rfl) (by decide) (fun _ _ _ h => h) (Or.inl ⟨by rfl, ?_⟩) (SAB.both hA hB) ?_
                rotate_left
                · intro wx hBx
                  (try dsimp only at hBx)
                  go_simp
                  try with_reducible rfl
                try simp only [Act.put, List.setIfInBounds_toArray, List.set_cons_zero, List.set_cons_succ]
                refine wpL_one (i := 2) (by kernel_rfl) (StepL.mk rfl (fun K hK => ?_))
                refine step_store_blk rfl _ _ _ rfl b 0 76 _ [.int .i64 d.proc, .int .i64 d.idx, .int .i64 d.ev.kind, .int .i64 d.ev.inc, .int .i64 d.ev.frm, .int .i64 d.ev.sInc, .int .i64 d.ev.sIdx, .int .i64 d.ev.ord, .int .i64 d.ev.val] rfl rfl (hA.blk HBO8.out HBO8.out.lt) (by simp [encDt, encEv]) (by kernel_rfl) rfl ?_
                intro v5 hv5 hs5
                rw [splice_all [.int .i64 d.proc, .int .i64 d.idx, .int .i64 d.ev.kind, .int .i64 d.ev.inc, .int .i64 d.ev.frm, .int .i64 d.ev.sInc, .int .i64 d.ev.sIdx, .int .i64 d.ev.ord, .int .i64 d.ev.val] (encDt ((some x).getD zeroDt)).toArray rfl] at hv5
                have hoz : Only b w8 v5 := Same.trans hB hs5 (fun i hi => hi.2)
                have hfin : RrI self ((r2 : Int) + 1) l b w5 (.bool true) (.int .i64 ((j : Int) + 1)) v5 := ⟨j + 1, some d, by rw [HTK.out, ← HO.out]; exact (if_pos HPK.out).symm, by simp, HJ1.out, rfl, hv5, Same.trans HFR8.out hoz (fun i hi => ⟨by have := hi.1; omega, hi.2⟩)⟩
                refine hK.out _ _ (SAB.past (by kernel_rfl) hoz) (fun hSS => ?_)
                clear hK K hA hB
                have hB := hSS.2
                have hA : True := trivial
                (try dsimp only at hB); (try dsimp only at hA); clear hSS
                try simp only [Act.put, List.setIfInBounds_toArray, List.set_cons_zero, List.set_cons_succ]
                refine wpL_done (by kernel_rfl) ?_
                have HFIN := Lib.hid hfin
                clear hfin
                clear hv5 hs5 hoz hA hB
                go_wp2_with fail
                go_roundw
                case rel => exact HFIN.out
                case measure => simp [intOf]; omega
              · have q1 : decide (0 < v) = false := by simpa using hlt
                have hp : pickS self ((r2 : Int) + 1) (some x) d = some x := by
                  unfold pickS
                  rw [if_neg (fun h => by have := h.2.2; rw [HV.out] at hlt; simp [betterD] at this; omega)]
                have HP := Lib.hid hp
                clear hp
                go_wp2_with fail
                go_roundw
                case rel => exact HOLD.out _ HK8.out HP.out
                case measure => simp [intOf]; omega
      · have hd1 : decide (j < n) = false := by simpa using hjn
        have htl : l.take j = l := List.take_of_length_le (by have := HNL.out; omega)
        rw [htl] at ho
        have hmap : mapS self l ((r2 : Int) + 1) = o.map (·.ev) := by rw [ho, best_is]
        have hb5y := hsy.blk HB55.out ⟨by have := HB55.out.lt; omega, by omega⟩
        have hb10y := hsy.blk HB105.out ⟨by have := HB105.out.lt; omega, by omega⟩
        have hbgy := hsy.blk HBS5.out ⟨by omega, by omega⟩
        have hsy' : StR wr (RcT S g wr) [.slice C1 r1 t1, .slice C2 r2 t2, .slice C3 r3 t3, .slice C4 r4 t4] s' := (HS5'.out.keep (hsy.mono HSZ5.out)).more (fun i hi => hi.imp id (fun h => ⟨h.1, by have := h.2; have := HBE.out; omega⟩))
        have hcdy : CdR wr (RcT S g wr) [.slice A0 m0 c0, .slice A1 m1 c1, .slice A2 m2 c2, .slice A3 m3 c3, .slice A4 m4 c4] c := (HCD5.out.keep (hsy.mono hSy)).more (fun i hi => .inl hi)
        have hkxy : Same (· < g) w2 wr := Same.trans HKX5.out hsy (fun i hi => by have h : i < g := hi; exact ⟨by omega, by omega⟩)
        have hkwy : Keep w wr := Same.trans HKW5.out hsy (fun i hi => ⟨by omega, by omega⟩)
        have hTy : ∀ i, RcT S g wr i → i < wr.heap.size := fun i hi => hi.elim (fun h => by have := HS.out i h; omega) (fun h => h.2)
        have hTg : ∀ i, RcT S g wr i → i ≠ g := fun i hi => hi.elim (fun h => by have := HS.out i h; omega) (fun h => by have := h.1; omega)
        have HMAP := Lib.hid hmap
        have HB5Y := Lib.hid hb5y
        have HB10Y := Lib.hid hb10y
        have HBGY := Lib.hid hbgy
        have HSY' := Lib.hid hsy'
        have HCDY := Lib.hid hcdy
        have HKXY := Lib.hid hkxy
        have HKWY := Lib.hid hkwy
        have HTY := Lib.hid hTy
        have HTG := Lib.hid hTg
        have HBO := Lib.hid hbo
        clear hmap hb5y hb10y hbgy hsy' hcdy hkxy hkwy hTy hTg hbo
        clear ho htl hsy HS5' HCD5 HKX5 HKW5 HB55 HB105 HBS5 HL5 hSy
        cases o with
        | none =>
          go_wp2_with (first
            | (refine wpList_load_all rfl _ (.tmp 11) rfl g 37 [.slice C1 r1 t1, .slice C2 r2 t2, .slice C3 r3 t3, .slice C4 r4 t4] _ rfl HBGY.out Tryz.underlying37 rfl (by kernel_rfl) ?_)
            | (refine wpList_store_all rfl _ (.tmp 10) (.tmp 54) rfl (w.heap.size + 2) 37 _ [.slice C1 r1 t1, .slice C2 r2 t2, .slice C3 r3 t3, .slice C4 r4 t4] rfl rfl HB10Y.out rfl (by kernel_rfl) rfl ?_; intro wz hbq hwq; have HBQ := Lib.hid hbq; have HWQ := Lib.hid hwq; clear hbq hwq))
          refine bodyPost_ret (results_cell1 Tryz.results14 _ _ _ ⟨w.heap.size + 2, 0, none⟩ _ rfl (load_st rfl HBQ.out)) rfl ?_
          have hzq := HWQ.out.size
          have hstop : mapS self l ((s'.events.length : Int) + 1) = none := by rw [← HR2.out]; exact HMAP.out
          refine ⟨_, s', rfl, HTO.out _ (.stop _ hstop), b1, by omega, by omega, by omega, (HSY'.out.keep (HWQ.out.mono (fun i hi => hi.elim (fun h => by have := HS.out i h; show i ≠ _; omega) (fun h => by have := h.1; show i ≠ _; omega)))).more (fun i hi => hi.elim .inl (fun h => .inr ⟨by have := h.1; omega, by have := h.2; omega⟩)), Keep.write HKWY.out HWQ.out (by omega)⟩
        | some x =>
          have hstep : mapS self l ((s'.events.length : Int) + 1) = some x.ev := by rw [← HR2.out]; exact HMAP.out
          have hless := above_less hstep
          have hlen := nextS_len c self procs s' x.ev
          have hevs := nextS_events c self procs s' x.ev
          have HSTEP := Lib.hid hstep
          have HLEN := Lib.hid hlen
          have HEVS := Lib.hid hevs
          have HLESS := Lib.hid hless
          clear hstep hlen hevs hless
          go_wp2_with (first
            | (refine wpList_load_all rfl _ (.tmp 5) rfl w.heap.size 30 [.slice A0 m0 c0, .slice A1 m1 c1, .slice A2 m2 c2, .slice A3 m3 c3, .slice A4 m4 c4] _ rfl HB5Y.out Tryz.underlying30 rfl (by kernel_rfl) ?_)
            | (refine wpList_load_all rfl _ (.tmp 11) rfl g 37 [.slice C1 r1 t1, .slice C2 r2 t2, .slice C3 r3 t3, .slice C4 r4 t4] _ rfl HBGY.out Tryz.underlying37 rfl (by kernel_rfl) ?_)
            | (refine wpList_load_blk rfl _ (.tmp 59) rfl b 2 76 _ [.int .i64 x.ev.kind, .int .i64 x.ev.inc, .int .i64 x.ev.frm, .int .i64 x.ev.sInc, .int .i64 x.ev.sIdx, .int .i64 x.ev.ord, .int .i64 x.ev.val] _ rfl HBO.out (fun j u hu => by rw [Nat.add_comm]; simpa [encDt, encEv] using hu) Tryz.underlying51 rfl (by kernel_rfl) ?_))
          refine (rnext_any wr (RcT S g wr) [.slice A0 m0 c0, .slice A1 m1 c1, .slice A2 m2 c2, .slice A3 m3 c3, .slice A4 m4 c4] [.slice C1 r1 t1, .slice C2 r2 t2, .slice C3 r3 t3, .slice C4 r4 t4] c s' self procs x.ev HTY.out HCDY.out HSY'.out (by omega) (by omega) (by omega) (by omega)).mono ?_
          rintro e w6 ⟨cs6, rfl, hr6', hk6⟩
          obtain ⟨D1, D2, D3, D4, d1, f1, d2, f2, d3, f3, d4, f4, rfl, hr6⟩ := st_open hr6'
          clear hr6'
          have hz6 := hk6.size
          have hbs6 := hk6.blk HBGY.out HBGY.out.lt
          have HR6 := Lib.hid hr6
          have HK6 := Lib.hid hk6
          have HBS6 := Lib.hid hbs6
          clear hr6 hk6 hbs6
          go_wp2_with (refine wpList_store_all rfl _ (.tmp 11) (.tmp 61) rfl g 37 _ [.slice D1 d1 f1, .slice D2 d2 f2, .slice D3 d3 f3, .slice D4 d4 f4] rfl rfl HBS6.out rfl (by kernel_rfl) rfl ?_; intro w7 hb7 hs7; have HB7 := Lib.hid hb7; have HS7 := Lib.hid hs7; clear hb7 hs7)
          have hz7 := HS7.out.size
          have hfin : RrO S c self procs (mapS self l) l s g w2 (above l (s'.events.length + 1)) w7 := by
            have h1 := HLEN.out
            have h2 := HLESS.out
            have h3 := HGK.out
            have h4 : (nextS c self procs s' x.ev).events.length = s'.events.length + 1 := by rw [HEVS.out]; simp
            refine ⟨_, nextS c self procs s' x.ev, by rw [h4], fun t ht => HTO.out t (.step _ _ x.ev HSTEP.out ht), by omega, by omega, by omega, by omega, HB7.out, ?_, Same.trans (Same.trans HKXY.out HK6.out (fun i hi => by have h : i < g := hi; omega)) HS7.out (fun i hi => by have h : i < g := hi; show i ≠ g; omega)⟩
            exact (HR6.out.keep (HS7.out.mono (fun i hi => hi.elim (fun h => HTG.out i h) (fun h => by have := h.1; show i ≠ g; omega)))).more (fun i hi => hi.elim (fun h => h.imp id (fun h => ⟨h.1, by have := h.2; omega⟩)) (fun h => .inr ⟨by have := h.1; omega, by have := h.2; omega⟩))
          have HFIN := Lib.hid hfin
          clear hfin
          go_roundg (above l (s'.events.length + 1))
          case measure => have := HLESS.out; have := HGK.out; omega
          case rel => exact HFIN.out
end Go.Proofs.YtecckbkobkfnmaaGreatDoor
