/- process.host.run. -/
import Derived.Test.YthmepnpjagpcnaaProcR3
import Derived.Test.YthmepnpjagpcnaaGl
set_option linter.unusedVariables false
set_option linter.unusedSimpArgs false
set_option maxRecDepth 100000
namespace Go.Proofs.Ythmepnpjagpcnaa
open Go.RowKit Go.Proofs

def Kinds (l : List Eff) : Prop := ∀ e ∈ l, e.kind = 1 ∨ e.kind = 2
theorem Ms.eff_kinds (m : Ms) (e : Eff) (h : Kinds m.effs) (he : e.kind = 1 ∨ e.kind = 2) : Kinds (m.eff e).effs := by
  unfold Ms.eff
  split
  · intro x hx
    simp at hx
    rcases hx with hx | hx
    · exact h x hx
    · subst hx; exact he
  · exact h
theorem simpleS_kinds (v : EnvS) (s : Stm) (m : Ms) (h : Kinds m.effs) : Kinds (simpleS v s m).effs := by
  unfold simpleS
  split
  · rw [(m.set_len _ _).2.1]; exact h
  · split
    · split
      · rw [(m.set_len _ _).2.1]; exact h
      · exact h
    · split
      · split
        · exact m.eff_kinds _ h (.inl rfl)
        · exact h
      · split
        · exact m.eff_kinds _ h (.inr rfl)
        · exact h
theorem Exec.kinds {v : EnvS} {t : Task} {m : Ms} {r : Res} (h : Exec v t m r) : Kinds m.effs → Kinds r.st.effs := by
  induction h with
  | nil m => exact fun h => h
  | cons _ _ i1 i2 => exact fun h => i2 (i1 h)
  | consDead _ i1 => exact i1
  | empty _ => exact fun h => h
  | simple _ _ _ => exact fun h => simpleS_kinds _ _ _ h
  | ifE _ _ _ i => exact i
  | whileE _ _ _ i => exact i
  | stop _ => exact fun h => h
  | bodyDead _ _ i => exact i
  | out _ _ _ i => exact i
  | again _ _ _ _ i1 i2 => exact fun h => i2 (i1 h)
theorem execF_kinds (v : EnvS) (body : List Stm) (cells : List Int) : Kinds (execF v body cells).effs := by
  by_cases hx : ∃ r, Exec v (.list body) ⟨cells, [], 400⟩ r
  · obtain ⟨r, h⟩ := hx
    rw [execF_of h]
    exact h.kinds (fun e he => by simp at he)
  · unfold execF
    rw [dif_neg hx]
    exact fun e he => by simp at he
/-- The blocks that are not the state's. -/
def Frm (w : World) (L : Nat → Nat) (i : Nat) : Prop := i < w.heap.size ∧ (L i = 0 ∨ 5 < L i)
def HrPost (L : Nat → Nat) (g : Nat) (s : St) (w : World) (e : Ending) (w' : World) : Prop := e = .returned (.tuple #[]) ∧ ∃ L', (∀ i, i < w.heap.size → L' i = L i) ∧ StM w' L' g s ∧ Same (Frm w L) w w'
def HrRel (L : Nat → Nat) (g : Nat) (ix : Int) (s : St) (effs : List Eff) (W : World) (o i : Value) (wr : World) : Prop :=
  ∃ (k : Nat) (L' : Nat → Nat), k ≤ effs.length ∧ i = .int .i64 k ∧ o = .int .i64 (cntS (effs.take k)) ∧ (∀ i, i < W.heap.size → L' i = L i) ∧ StM wr L' g { s with sent := s.sent ++ sendsOf ix 0 (effs.take k), outs := s.outs ++ outsOf ix (effs.take k) } ∧ Same (Frm W L) W wr
theorem StM.addSent {w w6 w7 w8 : World} {L : Nat → Nat} {g : Nat} {s : St} {A1 A2 A4 : Option Addr} {n1 c1 c2 c4 : Nat} {A' : Option Addr} {c' : Nat} (snd : Snd) (hg : L g = 1) (hgl : g < w.heap.size)
    (h2 : Sl encI 1 w (fun i => i < w.heap.size ∧ (L i = 2 ∨ L i = 0)) A1 n1 c1 s.cells) (h3 : Gl w L 3 50 7 A2 s.events.length c2 (s.events.flatMap encEv)) (h5 : Gl w L 5 133 2 A4 s.outs.length c4 (s.outs.flatMap encOut))
    (hk : Keep w w6) (hs7 : Same (fun k => k < w6.heap.size ∧ L k ≠ 4) w6 w7) (h4 : Gl w7 (ext L w6.heap.size (fun _ => 4)) 4 136 4 A' (s.sent.length + 1) c' (s.sent.flatMap encSnd ++ encSnd snd))
    (hs8 : Same (· ≠ g) w7 w8) (hb8 : Blk w8 g 105 #[.slice A1 n1 c1, .slice A2 s.events.length c2, .slice A' (s.sent.length + 1) c', .slice A4 s.outs.length c4]) :
    StM w8 (ext L w6.heap.size (fun _ => 4)) g { s with sent := s.sent ++ [snd] } ∧ Same (Frm w L) w w8 := by
  have z6 := hk.size
  have z7 := hs7.size
  have z8 := hs8.size
  have hL : ∀ i, i < w.heap.size → ext L w6.heap.size (fun _ => 4) i = L i := fun i hi => ext_old (by omega)
  have hs : Same (fun i => i < w.heap.size ∧ L i ≠ 4 ∧ i ≠ g) w w8 := Same.trans (Same.mono hk (fun i hi => hi.1)) (Same.trans (hs7.mono (T := fun i => i < w.heap.size ∧ L i ≠ 4 ∧ i ≠ g) (fun i hi => ⟨by omega, hi.2.1⟩)) hs8 (fun i hi => hi.2.2)) (fun i hi => hi)
  have hng : ∀ i, L i ≠ 1 → i ≠ g := fun i hi e => hi (by rw [e]; exact hg)
  refine ⟨⟨A1, A2, A', A4, n1, c1, c2, c', c4, by simpa using hb8, by rw [hL g hgl]; exact hg, slL h2 hs (fun i hi h => ⟨hi, by omega, hng i (by omega)⟩) hL, h3.same hs (fun i hi h => ⟨hi, by omega, hng i (by omega)⟩) hL, ?_, h5.same hs (fun i hi h => ⟨hi, by omega, hng i (by omega)⟩) hL⟩, hs.mono (fun i hi => ⟨hi.1, by have := hi.2; omega, hng i (by have := hi.2; omega)⟩)⟩
  have hg7 : ext L w6.heap.size (fun _ => 4) g = 1 := by rw [hL g hgl]; exact hg
  have := h4.same (L' := ext L w6.heap.size (fun _ => 4)) hs8 (fun i hi h e => by rw [e, hg7] at h; omega) (fun i hi => rfl)
  simpa using this
theorem StM.addOut {w w6 w7 w8 : World} {L : Nat → Nat} {g : Nat} {s : St} {A1 A2 A3 : Option Addr} {n1 c1 c2 c3 : Nat} {A' : Option Addr} {c' : Nat} (o : Outp) (hg : L g = 1) (hgl : g < w.heap.size)
    (h2 : Sl encI 1 w (fun i => i < w.heap.size ∧ (L i = 2 ∨ L i = 0)) A1 n1 c1 s.cells) (h3 : Gl w L 3 50 7 A2 s.events.length c2 (s.events.flatMap encEv)) (h4 : Gl w L 4 136 4 A3 s.sent.length c3 (s.sent.flatMap encSnd))
    (hk : Keep w w6) (hs7 : Same (fun k => k < w6.heap.size ∧ L k ≠ 5) w6 w7) (h5 : Gl w7 (ext L w6.heap.size (fun _ => 5)) 5 133 2 A' (s.outs.length + 1) c' (s.outs.flatMap encOut ++ encOut o))
    (hs8 : Same (· ≠ g) w7 w8) (hb8 : Blk w8 g 105 #[.slice A1 n1 c1, .slice A2 s.events.length c2, .slice A3 s.sent.length c3, .slice A' (s.outs.length + 1) c']) :
    StM w8 (ext L w6.heap.size (fun _ => 5)) g { s with outs := s.outs ++ [o] } ∧ Same (Frm w L) w w8 := by
  have z6 := hk.size
  have z7 := hs7.size
  have z8 := hs8.size
  have hL : ∀ i, i < w.heap.size → ext L w6.heap.size (fun _ => 5) i = L i := fun i hi => ext_old (by omega)
  have hs : Same (fun i => i < w.heap.size ∧ L i ≠ 5 ∧ i ≠ g) w w8 := Same.trans (Same.mono hk (fun i hi => hi.1)) (Same.trans (hs7.mono (T := fun i => i < w.heap.size ∧ L i ≠ 5 ∧ i ≠ g) (fun i hi => ⟨by omega, hi.2.1⟩)) hs8 (fun i hi => hi.2.2)) (fun i hi => hi)
  have hng : ∀ i, L i ≠ 1 → i ≠ g := fun i hi e => hi (by rw [e]; exact hg)
  refine ⟨⟨A1, A2, A3, A', n1, c1, c2, c3, c', by simpa using hb8, by rw [hL g hgl]; exact hg, slL h2 hs (fun i hi h => ⟨hi, by omega, hng i (by omega)⟩) hL, h3.same hs (fun i hi h => ⟨hi, by omega, hng i (by omega)⟩) hL, h4.same hs (fun i hi h => ⟨hi, by omega, hng i (by omega)⟩) hL, ?_⟩, hs.mono (fun i hi => ⟨hi.1, by have := hi.2; omega, hng i (by have := hi.2; omega)⟩)⟩
  have hg7 : ext L w6.heap.size (fun _ => 5) g = 1 := by rw [hL g hgl]; exact hg
  have := h5.same (L' := ext L w6.heap.size (fun _ => 5)) hs8 (fun i hi h e => by rw [e, hg7] at h; omega) (fun i hi => rfl)
  simpa using this
set_option maxHeartbeats 16000000 in
theorem hrun_any (w : World) (L : Nat → Nat) (g : Nat) (s : St) (S : Nat → Prop) (K0 K1 K2 K3 K4 A A2 : Option Addr) (y0 z0 y1 z1 y2 z2 y3 z3 y4 z4 m c n2 c2 : Nat) (self procs frm val ix : Int) (body : List Stm) (cells : List Int)
    (hst : StM w L g s) (hS : ∀ i, S i → i < w.heap.size ∧ L i = 0) (hsl : SlR w S 18 (StmR w S 3) A m c body) (hcl : Sl encI 1 w (fun i => i < w.heap.size) A2 n2 c2 cells) (h1 : cells.length ≤ 1000000) (h2 : s.sent.length ≤ 1000000) (h3 : s.outs.length ≤ 1000000) :
    Calls Try.prog 62 #[.agg #[.slice K0 y0 z0, .slice K1 y1 z1, .slice K2 y2 z2, .slice K3 y3 z3, .slice K4 y4 z4, .int .i64 self, .int .i64 procs], .pointer (some ⟨g, 0, none⟩), .slice A m c, .slice A2 n2 c2, .int .i64 frm, .int .i64 val, .int .i64 ix] w (HrPost L g (runS ⟨self, procs, frm, val⟩ body cells ix s) w) := by
  obtain ⟨i0, hi0, iz0, iz1, iz2⟩ := info_of info_Send
  obtain ⟨j0, hj0, jz0, jz1, jz2⟩ := info_of info_Output
  have hn2 := hcl.1
  have hn2' : n2 ≤ 1000000 := by omega
  obtain ⟨hgl, hLg⟩ := hst.lt
  generalize hW : w.alloc (.cells #[.slice K0 y0 z0, .slice K1 y1 z1, .slice K2 y2 z2, .slice K3 y3 z3, .slice K4 y4 z4, .int .i64 self, .int .i64 procs] 130) = W
  have hkW : Keep w W := hW ▸ Keep.new w _
  have hb7 : Blk W w.heap.size 130 #[.slice K0 y0 z0, .slice K1 y1 z1, .slice K2 y2 z2, .slice K3 y3 z3, .slice K4 y4 z4, .int .i64 self, .int .i64 procs] := hW ▸ Blk.new w _ _
  have e5 : W.cell? ⟨w.heap.size, 5, none⟩ = some (.int .i64 self) := by rw [hb7.cell]; rfl
  have e6 : W.cell? ⟨w.heap.size, 6, none⟩ = some (.int .i64 procs) := by rw [hb7.cell]; rfl
  have hzW := hb7.lt
  have HST := Lib.hid hst
  have HS := Lib.hid hS
  have HSL := Lib.hid hsl
  have HCL := Lib.hid hcl
  have HI0 := Lib.hid hi0
  have IZ0 := Lib.hid iz0
  have IZ1 := Lib.hid iz1
  have IZ2 := Lib.hid iz2
  have HJ0 := Lib.hid hj0
  have JZ0 := Lib.hid jz0
  have JZ1 := Lib.hid jz1
  have JZ2 := Lib.hid jz2
  have HN2 := Lib.hid hn2
  have HKW := Lib.hid hkW
  clear hst hS hsl hcl hi0 iz0 iz1 iz2 hj0 jz0 jz1 jz2 hn2 hkW
  clear hb7
  go_enter Try.func62, Try.ntmps62
  go_upto_region 2 with (refine wpList_store_all rfl _ (.tmp 14) (.tmp 26) rfl W.heap.size 146 _ [.int .i64 self, .int .i64 procs, .int .i64 frm, .int .i64 val] rfl rfl (Blk.new _ _ _) rfl (by kernel_rfl) rfl ?_; intro w2 hb2 hs2)
  clear hW
  have hk2 : Keep w w2 := Keep.write (Keep.trans HKW.out (Keep.new _ _)) hs2 (by omega)
  have hz2 : W.heap.size < w2.heap.size := hb2.lt
  have hcall := irun_any 3 w2 (fun i => i < w.heap.size) A A2 m c n2 c2 body cells ⟨self, procs, frm, val⟩ (fun i hi => by omega) ((HSL.out.keep (Same.mono hk2 (fun i hi => (HS.out i hi).1)) (StmR.keep (Same.mono hk2 (fun i hi => (HS.out i hi).1)) _)).more (fun i hi => (HS.out i hi).1) (StmR.more (fun i hi => (HS.out i hi).1) _)) (HCL.out.keep hk2) hn2'
  have HK2 := Lib.hid hk2
  have HB2 := Lib.hid hb2
  have HCALL := Lib.hid hcall
  clear hk2 hb2 hcall
  clear hs2 e5 e6
  go_wp2_with (refine wpList_load_all rfl _ (.tmp 14) rfl W.heap.size 146 [.int .i64 self, .int .i64 procs, .int .i64 frm, .int .i64 val] _ rfl HB2.out Try.underlying146 rfl (by kernel_rfl) ?_)
  refine HCALL.out.mono ?_
  rintro e w3 ⟨C, E, f, rfl, hcr, her, hdis, hk3⟩
  obtain ⟨Ac, cc, hC, hncc, hccm⟩ := own_form hcr
  subst hC
  obtain ⟨Ae, ce, hE, hnce, hcem⟩ := own_form her
  subst hE
  have hz3 := hk3.size
  have heff := (execF_fit ⟨self, procs, frm, val⟩ body cells).2
  have hkin := execF_kinds ⟨self, procs, frm, val⟩ body cells
  generalize hF : execF ⟨self, procs, frm, val⟩ body cells = FF at hcr her heff hkin hdis
  have hrun : runS ⟨self, procs, frm, val⟩ body cells ix s = { s with cells := FF.cells, sent := s.sent ++ sendsOf ix 0 FF.effs, outs := s.outs ++ outsOf ix FF.effs } := by rw [← hF]; rfl
  obtain ⟨L2, hL2⟩ : ∃ L2 : Nat → Nat, L2 = ext L w.heap.size (fun i => if Value.ownBlock (.slice Ac FF.cells.length cc) = some i then 2 else 0) := ⟨_, rfl⟩
  have hL2o : ∀ i, i < w.heap.size → L2 i = L i := fun i hi => by rw [hL2]; exact ext_old hi
  have hL2c : ∀ b, Value.ownBlock (.slice Ac FF.cells.length cc) = some b → L2 b = 2 := fun b hb => by
    have := (hcr.lt b hb).1
    rw [hL2, ext_new (by omega), if_pos hb]
  have hL2e : ∀ b, Value.ownBlock (.slice Ae FF.effs.length ce) = some b → L2 b = 0 := fun b hb => by
    have := (her.lt b hb).1
    rw [hL2, ext_new (by omega), if_neg (fun h => hdis b h hb)]
  have hst3 := (HST.out.keep (L' := L2) (Keep.trans HK2.out hk3) hL2o)
  obtain ⟨D1, D2, D3, D4, p1, q1, q2, q3, q4, hbg, hg1, -, t3, t4, t5⟩ := hst3
  have HCR := Lib.hid hcr
  have HER := Lib.hid her
  have HK3 := Lib.hid hk3
  have HF := Lib.hid hF
  have HRUN := Lib.hid hrun
  have HL2O := Lib.hid hL2o
  have HL2C := Lib.hid hL2c
  have HL2E := Lib.hid hL2e
  have HBG := Lib.hid hbg
  have T3 := Lib.hid t3
  have T4 := Lib.hid t4
  have T5 := Lib.hid t5
  have HKIN := Lib.hid hkin
  clear hcr her hk3 hF hrun hL2o hL2c hL2e hbg t3 t4 t5 hkin
  clear hdis hL2
  go_upto_region 4 with (refine wpList_store_one rfl _ (.tmp 38) _ rfl g 0 105 _ (.slice Ac FF.cells.length cc) rfl rfl HBG.out (by simp) (by kernel_rfl) rfl rfl ?_; intro w4 hb4 hs4)
  have hz4 := hs4.size
  have hng : ∀ i, L2 i ≠ 1 → i ≠ g := fun i hi e => hi (by rw [e]; exact hg1)
  have hcr4 := ownsRow_own HCR.out hs4 (fun b hb => hng b (by rw [HL2C.out b hb]; omega))
  have her4 := ownsRow_own HER.out hs4 (fun b hb => hng b (by rw [HL2E.out b hb]; omega))
  have hst4 : StM w4 L2 g { s with cells := FF.cells } := by
    obtain ⟨_, _, ee, pc⟩ := Sl.of_own hcr4
    injection ee with e1 _ e2
    subst e1 e2
    refine ⟨Ac, D2, D3, D4, FF.cells.length, cc, q2, q3, q4, by simpa using hb4, hg1, ?_, T3.out.same hs4 (fun i hi h => hng i (by omega)) (fun _ _ => rfl), T4.out.same hs4 (fun i hi h => hng i (by omega)) (fun _ _ => rfl), T5.out.same hs4 (fun i hi h => hng i (by omega)) (fun _ _ => rfl)⟩
    refine ⟨rfl, pc.2.1, pc.2.2.1, pc.2.2.2.1, fun hn => ?_⟩
    obtain ⟨b, off, e, hb, hcx⟩ := pc.2.2.2.2 hn
    have hob : Value.ownBlock (.slice Ac FF.cells.length cc) = some b := by
      rcases hcr4.2 with ⟨_, h0⟩ | ⟨gx, cap, cur, hv, _⟩
      · omega
      · injection hv with hv _ _
        rw [hv] at e
        injection e with e
        injection e with e1 e2
        rw [hv, e1]
        rfl
    exact ⟨b, off, e, ⟨hb.2, .inl (HL2C.out b hob)⟩, hcx⟩
  have hsw : Same (Frm w L) w w4 := Same.trans (Same.mono (Keep.trans HK2.out HK3.out) (fun i (hi : Frm w L i) => hi.1)) hs4 (fun i hi => hng i (by rw [HL2O.out i hi.1]; have := hi.2; omega))
  have hesl : Sl encEff 3 w4 (Lab w4 L2 0) Ae FF.effs.length ce FF.effs := by
    obtain ⟨_, _, ee, pc⟩ := Sl.of_own her4
    injection ee with e1 _ e2
    subst e1 e2
    refine ⟨rfl, pc.2.1, pc.2.2.1, pc.2.2.2.1, fun hn => ?_⟩
    obtain ⟨b, off, e, hb, hcx⟩ := pc.2.2.2.2 hn
    have hob : Value.ownBlock (.slice Ae FF.effs.length ce) = some b := by
      rcases her4.2 with ⟨_, h0⟩ | ⟨gx, cap, cur, hv, _⟩
      · omega
      · injection hv with hv _ _
        rw [hv] at e
        injection e with e
        injection e with e1 e2
        rw [hv, e1]
        rfl
    exact ⟨b, off, e, ⟨hb.2, HL2E.out b hob⟩, hcx⟩
  have hrel0 : HrRel L2 g ix { s with cells := FF.cells } FF.effs w4 (.int .i64 0) (.int .i64 0) w4 := ⟨0, L2, Nat.zero_le _, rfl, by simp [cntS], fun _ _ => rfl, by simpa [sendsOf, outsOf] using hst4, Same.refl _ _⟩
  have HSW := Lib.hid hsw
  have HESL := Lib.hid hesl
  have HREL0 := Lib.hid hrel0
  clear hsw hesl hrel0
  clear hb4 hs4 hcr4 her4 hst4 hng hg1
  clear T3 T4 T5 HBG HCR HER
  go_wp2_with fail
  go_loopw [17, 41] (fun o i wr => HrRel L2 g ix { s with cells := FF.cells } FF.effs w4 o i wr) (fun _ i _ => FF.effs.length - (intOf i).toNat)
  case atStart => exact HREL0.out
  case round =>
    clear HREL0
    obtain ⟨k, L', hk, rfl, rfl, hLL, hst, hsr⟩ := hrel
    have hzr := hsr.size
    have hcnt := cntS_le (FF.effs.take k)
    have hctk : (FF.effs.take k).length ≤ 8 := by rw [List.length_take]; omega
    have hln1 := sendsOf_len ix (FF.effs.take k) 0
    have hln2 := outsOf_len ix (FF.effs.take k)
    by_cases hkm : k < FF.effs.length
    case neg =>
      have hd1 : decide (k < FF.effs.length) = false := by simpa using hkm
      have hkl : FF.effs.take k = FF.effs := List.take_of_length_le (by omega)
      rw [hkl] at hst
      have hfin : HrPost L g (runS ⟨self, procs, frm, val⟩ body cells ix s) w (.returned (.tuple #[])) wr := by
        refine ⟨rfl, L', fun i hi => by rw [hLL i (by omega), HL2O.out i hi], by rw [HRUN.out]; exact hst, Same.trans HSW.out hsr (fun i hi => ⟨by have := hi.1; omega, by rw [HL2O.out i hi.1]; exact hi.2⟩)⟩
      have HFIN := Lib.hid hfin
      clear hfin
      clear hst hsr hLL hkl hln1 hln2 hctk hcnt
      as_aux_lemma =>
      go_wp2_with fail
      exact bodyPost_end (results_none Try.results62 _ _ _) rfl HFIN.out
    obtain ⟨be, oe, x, rfl, hbe, hx, hcx⟩ := (HESL.out.keep (hsr.mono (fun i hi => ⟨hi.1, .inl hi.2⟩))).at_ encEff_len hkm
    have hd1 : decide (k < FF.effs.length) = true := by simpa using hkm
    have hd2 : (0 : Int) ≤ k := by omega
    have hd3 : (k : Int) < FF.effs.length := by omega
    have hk1 : k + 1 ≤ FF.effs.length := by omega
    have htk := (take_snoc hx).1
    have t1 := sendsOf_snoc ix x (FF.effs.take k) 0
    have t2 := outsOf_snoc ix x (FF.effs.take k)
    have t3 := cntS_snoc (FF.effs.take k) x
    rw [← htk] at t1 t2 t3
    have hkx := HKIN.out x (List.mem_of_getElem? hx)
    have hrg : wr.rangeAt be (oe + k * 3) [.int .i64 x.kind, .int .i64 x.dst, .int .i64 x.val] := hcx
    generalize hX : s.sent ++ sendsOf ix 0 (FF.effs.take k) = X at hst
    generalize hY : s.outs ++ outsOf ix (FF.effs.take k) = Y at hst
    generalize hN : cntS (FF.effs.take k) = N at *
    have hN8 : N ≤ 8 := by omega
    have hXl : X.length ≤ 1000008 := by rw [← hX, List.length_append]; omega
    have hYl : Y.length ≤ 1000008 := by rw [← hY, List.length_append]; omega
    have hgr := hst.lt
    clear hcx hx htk hln1 hln2 hctk hcnt
    have HST := Lib.hid hst
    have HSR := Lib.hid hsr
    have HLL := Lib.hid hLL
    have HRG := Lib.hid hrg
    have HK1 := Lib.hid hk1
    have HBE := Lib.hid hbe
    clear hst hsr hLL hrg hk1 hbe
    go_upto_region 8 with (first
      | (refine wpList_load_mid rfl _ (.tmp 43) rfl be (oe + k * 3) rfl [.int .i64 x.kind, .int .i64 x.dst, .int .i64 x.val] _ HRG.out Try.underlying151 rfl (by kernel_rfl) ?_)
      | (refine wpList_store_all rfl _ (.tmp 19) (.tmp 44) rfl wr.heap.size 151 _ [.int .i64 x.kind, .int .i64 x.dst, .int .i64 x.val] rfl rfl (Blk.new _ _ _) rfl (by kernel_rfl) rfl ?_; intro w5 hb5 hs5))
    have hk5 : Keep wr w5 := Keep.write (Keep.new _ _) hs5 (Nat.le_refl _)
    have hz5 : wr.heap.size < w5.heap.size := hb5.lt
    obtain ⟨L5, hL5⟩ : ∃ L5 : Nat → Nat, L5 = ext L' wr.heap.size (fun _ => 0) := ⟨_, rfl⟩
    have hL5o : ∀ i, i < wr.heap.size → L5 i = L' i := fun i hi => by rw [hL5]; exact ext_old hi
    have hL5n : L5 wr.heap.size = 0 := by rw [hL5]; exact ext_new (Nat.le_refl _)
    clear hL5
    obtain ⟨D1, D2, D3, D4, p1, q1, q2, q3, q4, hbg, hg1, r2, r3, r4, r5⟩ := HST.out.keep (L' := L5) hk5 hL5o
    replace r4 : Gl w5 L5 4 136 4 D3 X.length q3 (X.flatMap encSnd) := r4
    replace r5 : Gl w5 L5 5 133 2 D4 Y.length q4 (Y.flatMap encOut) := r5
    have hg5 := hbg.lt
    have f0 : w5.cell? ⟨wr.heap.size, 0, none⟩ = some (.int .i64 x.kind) := by rw [hb5.cell]; rfl
    have g1 : ∀ wx, Same (fun i => i = g ∨ i = wr.heap.size) w5 wx → wx.cell? ⟨wr.heap.size, 1, none⟩ = some (.int .i64 x.dst) := fun wx hx => (hx.cell (p := ⟨wr.heap.size, 1, none⟩) (.inr rfl)).trans (by rw [hb5.cell]; rfl)
    have g2 : ∀ wx, Same (fun i => i = g ∨ i = wr.heap.size) w5 wx → wx.cell? ⟨wr.heap.size, 2, none⟩ = some (.int .i64 x.val) := fun wx hx => (hx.cell (p := ⟨wr.heap.size, 2, none⟩) (.inr rfl)).trans (by rw [hb5.cell]; rfl)
    have g3 : ∀ wx, Same (fun i => i = g ∨ i = wr.heap.size) w5 wx → wx.cell? ⟨g, 2, none⟩ = some (.slice D3 X.length q3) := fun wx hx => (hx.cell (p := ⟨g, 2, none⟩) (.inl rfl)).trans (by rw [hbg.cell]; rfl)
    have g4 : ∀ wx, Same (fun i => i = g ∨ i = wr.heap.size) w5 wx → wx.cell? ⟨g, 3, none⟩ = some (.slice D4 Y.length q4) := fun wx hx => (hx.cell (p := ⟨g, 3, none⟩) (.inl rfl)).trans (by rw [hbg.cell]; rfl)
    have hmc : X.length ≤ q3 ∧ q3 ≤ 9223372036854775807 := ⟨r4.1, r4.2.1⟩
    have hmd : Y.length ≤ q4 ∧ q4 ≤ 9223372036854775807 := ⟨r5.1, r5.2.1⟩
    clear hb5 hs5
    have HK5 := Lib.hid hk5
    have HBG := Lib.hid hbg
    have R2 := Lib.hid r2
    have R3 := Lib.hid r3
    have R4 := Lib.hid r4
    have R5 := Lib.hid r5
    have HL5O := Lib.hid hL5o
    clear hk5 hbg r2 r3 r4 r5 hL5o
    rcases hkx with hkx | hkx
    · have hkb : (x.kind == 1) = true := by simpa using hkx
      rw [if_pos hkx] at t1 t2 t3
      have t1' : s.sent ++ sendsOf ix 0 (FF.effs.take (k + 1)) = X ++ [⟨ix, N, x.dst, x.val⟩] := by rw [t1, ← List.append_assoc, hX]; simp
      have t2' : s.outs ++ outsOf ix (FF.effs.take (k + 1)) = Y := by rw [t2, List.append_nil]; exact hY
      clear t1 t2 hX hY hN g4 hkx
      have T1' := Lib.hid t1'
      have T2' := Lib.hid t2'
      have T3 := Lib.hid t3
      clear t1' t2' t3
      as_aux_lemma =>
      go_upto_region 10 with fail
      clear f0
      refine wp_region_L 16 (fun wx => Same (fun i => i = g ∨ i = wr.heap.size) w5 wx) (fun _ => True) (by kernel_rfl) (Same.drew (Same.refl _ _)) trivial (fun hA hB => ?_)
      refine wpL_takeA (i := 0) (v := ?_) rfl (by kernel_rfl) (by kernel_rfl) (by kernel_rfl) (by kernel_rfl) (by decide) (fun _ _ _ h => h) (Or.inl ⟨by rfl, ?_⟩) hA hB ?_
      rotate_left
      · rintro wx ⟨hAx, hBx⟩
        (try dsimp only at hBx); (try dsimp only at hAx)
        go_simp
        try with_reducible rfl
      try simp only [Act.put, List.setIfInBounds_toArray, List.set_cons_zero, List.set_cons_succ]
      refine wpL_takeA (i := 1) (v := ?_) rfl (by kernel_rfl) (by kernel_rfl) (by kernel_rfl) (by kernel_rfl) (by decide) (fun _ _ _ h => h) (Or.inl ⟨by rfl, ?_⟩) hA hB ?_
      rotate_left
      · rintro wx ⟨hAx, hBx⟩
        (try dsimp only at hBx); (try dsimp only at hAx)
        go_simp
        try with_reducible rfl
      try simp only [Act.put, List.setIfInBounds_toArray, List.set_cons_zero, List.set_cons_succ]
      refine wpL_takeA (i := 2) (v := ?_) rfl (by kernel_rfl) (by kernel_rfl) (by kernel_rfl) (by kernel_rfl) (by decide) (fun _ _ _ h => h) (Or.inl ⟨by rfl, ?_⟩) hA hB ?_
      rotate_left
      · rintro wx ⟨hAx, hBx⟩
        (try dsimp only at hBx); (try dsimp only at hAx)
        go_simp
        try with_reducible rfl
      try simp only [Act.put, List.setIfInBounds_toArray, List.set_cons_zero, List.set_cons_succ]
      refine wpL_takeA (i := 3) (v := ?_) rfl (by kernel_rfl) (by kernel_rfl) (by kernel_rfl) (by kernel_rfl) (by decide) (fun _ _ _ h => h) (Or.inl ⟨by rfl, ?_⟩) hA hB ?_
      rotate_left
      · rintro wx ⟨hAx, hBx⟩
        (try dsimp only at hBx); (try dsimp only at hAx)
        go_simp
        try with_reducible rfl
      try simp only [Act.put, List.setIfInBounds_toArray, List.set_cons_zero, List.set_cons_succ]
      refine wpL_takeA (i := 4) (v := ?_) rfl (by kernel_rfl) (by kernel_rfl) (by kernel_rfl) (by kernel_rfl) (by decide) (fun _ _ _ h => h) (Or.inl ⟨by rfl, ?_⟩) hA hB ?_
      rotate_left
      · rintro wx ⟨hAx, hBx⟩
        (try dsimp only at hBx); (try dsimp only at hAx)
        go_simp
        try with_reducible rfl
      try simp only [Act.put, List.setIfInBounds_toArray, List.set_cons_zero, List.set_cons_succ]
      refine wpL_takeA (i := 5) (v := ?_) rfl (by kernel_rfl) (by kernel_rfl) (by kernel_rfl) (by kernel_rfl) (by decide) (fun _ _ _ h => h) (Or.inl ⟨by rfl, ?_⟩) hA hB ?_
      rotate_left
      · rintro wx ⟨hAx, hBx⟩
        (try dsimp only at hBx); (try dsimp only at hAx)
        go_simp
        try with_reducible rfl
      try simp only [Act.put, List.setIfInBounds_toArray, List.set_cons_zero, List.set_cons_succ]
      refine wpL_takeA (i := 6) (v := ?_) rfl (by kernel_rfl) (by kernel_rfl) (by kernel_rfl) (by kernel_rfl) (by decide) (fun _ _ _ h => h) (Or.inl ⟨by rfl, ?_⟩) hA hB ?_
      rotate_left
      · rintro wx ⟨hAx, hBx⟩
        (try dsimp only at hBx); (try dsimp only at hAx)
        go_simp
        try with_reducible rfl
      try simp only [Act.put, List.setIfInBounds_toArray, List.set_cons_zero, List.set_cons_succ]
      refine wpL_takeA (i := 7) (v := ?_) rfl (by kernel_rfl) (by kernel_rfl) (by kernel_rfl) (by kernel_rfl) (by decide) (fun _ _ _ h => h) (Or.inl ⟨by rfl, ?_⟩) hA hB ?_
      rotate_left
      · rintro wx ⟨hAx, hBx⟩
        (try dsimp only at hBx); (try dsimp only at hAx)
        go_simp
        try with_reducible rfl
      try simp only [Act.put, List.setIfInBounds_toArray, List.set_cons_zero, List.set_cons_succ]
      refine wpL_takeA (i := 8) (v := ?_) rfl (by kernel_rfl) (by kernel_rfl) (by kernel_rfl) (by kernel_rfl) (by decide) (fun _ _ _ h => h) (Or.inl ⟨by rfl, ?_⟩) hA hB ?_
      rotate_left
      · rintro wx ⟨hAx, hBx⟩
        (try dsimp only at hBx); (try dsimp only at hAx)
        go_simp
        try with_reducible rfl
      try simp only [Act.put, List.setIfInBounds_toArray, List.set_cons_zero, List.set_cons_succ]
      refine wpL_takeA (i := 9) (v := ?_) rfl (by kernel_rfl) (by kernel_rfl) (by kernel_rfl) (by kernel_rfl) (by decide) (fun _ _ _ h => h) (Or.inl ⟨by rfl, ?_⟩) hA hB ?_
      rotate_left
      · rintro wx ⟨hAx, hBx⟩
        (try dsimp only at hBx); (try dsimp only at hAx)
        go_simp
        try with_reducible rfl
      try simp only [Act.put, List.setIfInBounds_toArray, List.set_cons_zero, List.set_cons_succ]
      refine wpL_takeA (i := 10) (v := ?_) rfl (by kernel_rfl) (by kernel_rfl) (by kernel_rfl) (by kernel_rfl) (by decide) (fun _ _ _ h => h) (Or.inl ⟨by rfl, ?_⟩) hA hB ?_
      rotate_left
      · rintro wx ⟨hAx, hBx⟩
        (try dsimp only at hBx); (try dsimp only at hAx)
        go_simp
        try with_reducible rfl
      try simp only [Act.put, List.setIfInBounds_toArray, List.set_cons_zero, List.set_cons_succ]
      refine wpL_takeA (i := 11) (v := ?_) rfl (by kernel_rfl) (by kernel_rfl) (by kernel_rfl) (by kernel_rfl) (by decide) (fun _ _ _ h => h) (Or.inl ⟨by rfl, ?_⟩) hA hB ?_
      rotate_left
      · rintro wx ⟨hAx, hBx⟩
        (try dsimp only at hBx); (try dsimp only at hAx)
        go_simp
        try with_reducible rfl
      try simp only [Act.put, List.setIfInBounds_toArray, List.set_cons_zero, List.set_cons_succ]
      clear g1 g2 g3
      refine wpL_one (i := 12) (by kernel_rfl) (StepL.mk rfl (fun K hK => ?_))
      refine step_buildS rfl _ _ _ _ rfl Try.underlying102 _ [(0, .agg #[.int .i64 ix, .int .i64 N, .int .i64 x.dst, .int .i64 x.val])] rfl (built_send _ _ _ _) ?_
      have hk6 : Keep w5 (w5.drew.alloc (.cells #[.int .i64 ix, .int .i64 N, .int .i64 x.dst, .int .i64 x.val] 136)) := Keep.alloc (Same.drew (Same.refl _ _)) _
      refine hK.out _ _ (SAB.both (hk6.mono (fun i hi => by omega)) trivial) (fun hSS => ?_)
      clear hK K hA hB
      have hB := hSS.2
      have hA := hSS.1 (by kernel_rfl)
      (try dsimp only at hB); (try dsimp only at hA); clear hSS
      try simp only [Act.put, List.setIfInBounds_toArray, List.set_cons_zero, List.set_cons_succ]
      refine wpL_one (i := 13) (by kernel_rfl) (StepL.mk rfl (fun K hK => ?_))
      refine step_append_gl (by rfl) (.tmp 53) (.tmp 61) _ (by rfl) i0 _ 32 Try.underlying102 HI0.out IZ0.out IZ1.out IZ2.out rfl (by omega) (by rfl) (R4.out.same (L' := L5) hk6 (fun i hi _ => hi) (fun _ _ => rfl)) _ (some ⟨w5.heap.size, 0, none⟩) 1 1 (encSnd ⟨ix, N, x.dst, x.val⟩) (by rfl) (Reads.new (w := w5.drew) rfl) (encSnd_one _) (by omega) (by simp [maxLen]; omega) (by omega) ?_
      intro A7 c7 w7 hgl7 hs7
      have hz6 := hk6.size
      have hs57 : Same (fun i => i < w5.heap.size ∧ L5 i ≠ 4) w5 w7 := Same.trans (Same.mono hk6 (fun i hi => hi.1)) hs7 (fun i hi => ⟨by omega, hi.2⟩)
      refine hK.out _ _ (SAB.both (hs57.mono (fun i hi => hi.elim (fun h => by subst h; exact ⟨hg5, by omega⟩) (fun h => by subst h; exact ⟨hz5, by omega⟩))) trivial) (fun hSS => ?_)
      clear hK K hA hB
      have hB := hSS.2
      have hA := hSS.1 (by kernel_rfl)
      (try dsimp only at hB); (try dsimp only at hA); clear hSS
      try simp only [Act.put, List.setIfInBounds_toArray, List.set_cons_zero, List.set_cons_succ]
      refine wpL_takeB (i := 14) (v := ?_) rfl (by kernel_rfl) (by kernel_rfl) (by kernel_rfl) (by decide) (fun _ _ _ h => h) (Or.inl ⟨by rfl, ?_⟩) (SAB.both hA hB) ?_
      rotate_left
      · intro wx hBx
        (try dsimp only at hBx)
        go_simp
        try with_reducible rfl
      try simp only [Act.put, List.setIfInBounds_toArray, List.set_cons_zero, List.set_cons_succ]
      refine wpL_takeB (i := 15) (v := ?_) rfl (by kernel_rfl) (by kernel_rfl) (by kernel_rfl) (by decide) (fun _ _ _ h => h) (Or.inl ⟨by rfl, ?_⟩) (SAB.both hA hB) ?_
      rotate_left
      · intro wx hBx
        (try dsimp only at hBx)
        go_simp
        try with_reducible rfl
      try simp only [Act.put, List.setIfInBounds_toArray, List.set_cons_zero, List.set_cons_succ]
      have hbg7 := hs57.blk HBG.out ⟨hg5, by omega⟩
      refine wpL_one (i := 16) (by kernel_rfl) (StepL.mk rfl (fun K hK => ?_))
      refine step_store_one rfl _ _ _ rfl g 2 105 _ (.slice A7 (X.length + 1) c7) rfl rfl hbg7 (by simp) (by kernel_rfl) rfl rfl ?_
      intro w8 hb8 hs8
      have hadd := StM.addSent (s := { s with cells := FF.cells, sent := X, outs := Y }) ⟨ix, N, x.dst, x.val⟩ hg1 hg5 R2.out R3.out R5.out hk6 hs7 hgl7 hs8 (by simpa using hb8)
      obtain ⟨Lx, hLx, hax, hay⟩ : ∃ Lx : Nat → Nat, (∀ i, i < w5.heap.size → Lx i = L5 i) ∧ StM w8 Lx g _ ∧ Same (Frm w5 L5) w5 w8 := ⟨_, fun i hi => ext_old (by omega), hadd.1, hadd.2⟩
      have hfin : HrRel L2 g ix { s with cells := FF.cells } FF.effs w4 (.int .i64 (N + 1)) (.int .i64 (k + 1)) w8 := by
        refine ⟨k + 1, Lx, HK1.out, by simp, by rw [T3.out]; simp, fun i hi => ?_, ?_, Same.trans HSR.out (Same.trans (Same.mono HK5.out (fun i (hi : Frm w4 L2 i) => by have := hi.1; omega)) hay (fun i hi => ⟨by have := hi.1; omega, by rw [HL5O.out i (by have := hi.1; omega), HLL.out i hi.1]; exact hi.2⟩)) (fun i hi => hi)⟩
        · rw [hLx i (by omega), HL5O.out i (by omega), HLL.out i hi]
        · show StM w8 _ g { s with cells := FF.cells, sent := s.sent ++ _, outs := s.outs ++ _ }
          rw [T1'.out, T2'.out]
          exact hax
      refine hK.out _ _ (SAB.past (by kernel_rfl) trivial) (fun hSS => ?_)
      clear hK K hA hB
      have hB := hSS.2
      have hA : True := trivial
      (try dsimp only at hB); (try dsimp only at hA); clear hSS
      try simp only [Act.put, List.setIfInBounds_toArray, List.set_cons_zero, List.set_cons_succ]
      refine wpL_done (by kernel_rfl) ?_
      have HFIN := Lib.hid hfin
      clear hfin
      clear hadd hax hay hLx hb8 hs8 hs7 hs57 hgl7 hk6 hA hB hbg7
      go_wp2_with fail
      go_roundw
      case rel => exact HFIN.out
      case measure => simp [intOf]; omega
    · have hkb1 : (x.kind == 1) = false := by simp; omega
      have hkb : (x.kind == 2) = true := by simpa using hkx
      have hkn : ¬ x.kind = 1 := by omega
      rw [if_neg hkn] at t1 t2 t3
      have t1' : s.sent ++ sendsOf ix 0 (FF.effs.take (k + 1)) = X := by rw [t1, List.append_nil]; exact hX
      have t2' : s.outs ++ outsOf ix (FF.effs.take (k + 1)) = Y ++ [⟨ix, x.val⟩] := by rw [t2, ← List.append_assoc, hY]
      clear t1 t2 hX hY hN g3 g1 hkx hkn
      have T1' := Lib.hid t1'
      have T2' := Lib.hid t2'
      have T3 := Lib.hid t3
      clear t1' t2' t3
      as_aux_lemma =>
      go_upto_region 13 with fail
      clear f0
      refine wp_region_L 13 (fun wx => Same (fun i => i = g ∨ i = wr.heap.size) w5 wx) (fun _ => True) (by kernel_rfl) (Same.drew (Same.refl _ _)) trivial (fun hA hB => ?_)
      refine wpL_takeA (i := 0) (v := ?_) rfl (by kernel_rfl) (by kernel_rfl) (by kernel_rfl) (by kernel_rfl) (by decide) (fun _ _ _ h => h) (Or.inl ⟨by rfl, ?_⟩) hA hB ?_
      rotate_left
      · rintro wx ⟨hAx, hBx⟩
        (try dsimp only at hBx); (try dsimp only at hAx)
        go_simp
        try with_reducible rfl
      try simp only [Act.put, List.setIfInBounds_toArray, List.set_cons_zero, List.set_cons_succ]
      refine wpL_takeA (i := 1) (v := ?_) rfl (by kernel_rfl) (by kernel_rfl) (by kernel_rfl) (by kernel_rfl) (by decide) (fun _ _ _ h => h) (Or.inl ⟨by rfl, ?_⟩) hA hB ?_
      rotate_left
      · rintro wx ⟨hAx, hBx⟩
        (try dsimp only at hBx); (try dsimp only at hAx)
        go_simp
        try with_reducible rfl
      try simp only [Act.put, List.setIfInBounds_toArray, List.set_cons_zero, List.set_cons_succ]
      refine wpL_takeA (i := 2) (v := ?_) rfl (by kernel_rfl) (by kernel_rfl) (by kernel_rfl) (by kernel_rfl) (by decide) (fun _ _ _ h => h) (Or.inl ⟨by rfl, ?_⟩) hA hB ?_
      rotate_left
      · rintro wx ⟨hAx, hBx⟩
        (try dsimp only at hBx); (try dsimp only at hAx)
        go_simp
        try with_reducible rfl
      try simp only [Act.put, List.setIfInBounds_toArray, List.set_cons_zero, List.set_cons_succ]
      refine wpL_takeA (i := 3) (v := ?_) rfl (by kernel_rfl) (by kernel_rfl) (by kernel_rfl) (by kernel_rfl) (by decide) (fun _ _ _ h => h) (Or.inl ⟨by rfl, ?_⟩) hA hB ?_
      rotate_left
      · rintro wx ⟨hAx, hBx⟩
        (try dsimp only at hBx); (try dsimp only at hAx)
        go_simp
        try with_reducible rfl
      try simp only [Act.put, List.setIfInBounds_toArray, List.set_cons_zero, List.set_cons_succ]
      refine wpL_takeA (i := 4) (v := ?_) rfl (by kernel_rfl) (by kernel_rfl) (by kernel_rfl) (by kernel_rfl) (by decide) (fun _ _ _ h => h) (Or.inl ⟨by rfl, ?_⟩) hA hB ?_
      rotate_left
      · rintro wx ⟨hAx, hBx⟩
        (try dsimp only at hBx); (try dsimp only at hAx)
        go_simp
        try with_reducible rfl
      try simp only [Act.put, List.setIfInBounds_toArray, List.set_cons_zero, List.set_cons_succ]
      refine wpL_takeA (i := 5) (v := ?_) rfl (by kernel_rfl) (by kernel_rfl) (by kernel_rfl) (by kernel_rfl) (by decide) (fun _ _ _ h => h) (Or.inl ⟨by rfl, ?_⟩) hA hB ?_
      rotate_left
      · rintro wx ⟨hAx, hBx⟩
        (try dsimp only at hBx); (try dsimp only at hAx)
        go_simp
        try with_reducible rfl
      try simp only [Act.put, List.setIfInBounds_toArray, List.set_cons_zero, List.set_cons_succ]
      refine wpL_takeA (i := 6) (v := ?_) rfl (by kernel_rfl) (by kernel_rfl) (by kernel_rfl) (by kernel_rfl) (by decide) (fun _ _ _ h => h) (Or.inl ⟨by rfl, ?_⟩) hA hB ?_
      rotate_left
      · rintro wx ⟨hAx, hBx⟩
        (try dsimp only at hBx); (try dsimp only at hAx)
        go_simp
        try with_reducible rfl
      try simp only [Act.put, List.setIfInBounds_toArray, List.set_cons_zero, List.set_cons_succ]
      refine wpL_takeA (i := 7) (v := ?_) rfl (by kernel_rfl) (by kernel_rfl) (by kernel_rfl) (by kernel_rfl) (by decide) (fun _ _ _ h => h) (Or.inl ⟨by rfl, ?_⟩) hA hB ?_
      rotate_left
      · rintro wx ⟨hAx, hBx⟩
        (try dsimp only at hBx); (try dsimp only at hAx)
        go_simp
        try with_reducible rfl
      try simp only [Act.put, List.setIfInBounds_toArray, List.set_cons_zero, List.set_cons_succ]
      refine wpL_takeA (i := 8) (v := ?_) rfl (by kernel_rfl) (by kernel_rfl) (by kernel_rfl) (by kernel_rfl) (by decide) (fun _ _ _ h => h) (Or.inl ⟨by rfl, ?_⟩) hA hB ?_
      rotate_left
      · rintro wx ⟨hAx, hBx⟩
        (try dsimp only at hBx); (try dsimp only at hAx)
        go_simp
        try with_reducible rfl
      try simp only [Act.put, List.setIfInBounds_toArray, List.set_cons_zero, List.set_cons_succ]
      clear g2 g4
      refine wpL_one (i := 9) (by kernel_rfl) (StepL.mk rfl (fun K hK => ?_))
      refine step_buildS rfl _ _ _ _ rfl Try.underlying103 _ [(0, .agg #[.int .i64 ix, .int .i64 x.val])] rfl (built_out _ _) ?_
      have hk6 : Keep w5 (w5.drew.alloc (.cells #[.int .i64 ix, .int .i64 x.val] 133)) := Keep.alloc (Same.drew (Same.refl _ _)) _
      refine hK.out _ _ (SAB.both (hk6.mono (fun i hi => by omega)) trivial) (fun hSS => ?_)
      clear hK K hA hB
      have hB := hSS.2
      have hA := hSS.1 (by kernel_rfl)
      (try dsimp only at hB); (try dsimp only at hA); clear hSS
      try simp only [Act.put, List.setIfInBounds_toArray, List.set_cons_zero, List.set_cons_succ]
      refine wpL_one (i := 10) (by kernel_rfl) (StepL.mk rfl (fun K hK => ?_))
      refine step_append_gl (by rfl) (.tmp 73) (.tmp 78) _ (by rfl) j0 _ 16 Try.underlying103 HJ0.out JZ0.out JZ1.out JZ2.out rfl (by omega) (by rfl) (R5.out.same (L' := L5) hk6 (fun i hi _ => hi) (fun _ _ => rfl)) _ (some ⟨w5.heap.size, 0, none⟩) 1 1 (encOut ⟨ix, x.val⟩) (by rfl) (Reads.new (w := w5.drew) rfl) (encOut_one _) (by omega) (by simp [maxLen]; omega) (by omega) ?_
      intro A7 c7 w7 hgl7 hs7
      have hz6 := hk6.size
      have hs57 : Same (fun i => i < w5.heap.size ∧ L5 i ≠ 5) w5 w7 := Same.trans (Same.mono hk6 (fun i hi => hi.1)) hs7 (fun i hi => ⟨by omega, hi.2⟩)
      refine hK.out _ _ (SAB.both (hs57.mono (fun i hi => hi.elim (fun h => by subst h; exact ⟨hg5, by omega⟩) (fun h => by subst h; exact ⟨hz5, by omega⟩))) trivial) (fun hSS => ?_)
      clear hK K hA hB
      have hB := hSS.2
      have hA := hSS.1 (by kernel_rfl)
      (try dsimp only at hB); (try dsimp only at hA); clear hSS
      try simp only [Act.put, List.setIfInBounds_toArray, List.set_cons_zero, List.set_cons_succ]
      refine wpL_takeB (i := 11) (v := ?_) rfl (by kernel_rfl) (by kernel_rfl) (by kernel_rfl) (by decide) (fun _ _ _ h => h) (Or.inl ⟨by rfl, ?_⟩) (SAB.both hA hB) ?_
      rotate_left
      · intro wx hBx
        (try dsimp only at hBx)
        go_simp
        try with_reducible rfl
      try simp only [Act.put, List.setIfInBounds_toArray, List.set_cons_zero, List.set_cons_succ]
      refine wpL_takeB (i := 12) (v := ?_) rfl (by kernel_rfl) (by kernel_rfl) (by kernel_rfl) (by decide) (fun _ _ _ h => h) (Or.inl ⟨by rfl, ?_⟩) (SAB.both hA hB) ?_
      rotate_left
      · intro wx hBx
        (try dsimp only at hBx)
        go_simp
        try with_reducible rfl
      try simp only [Act.put, List.setIfInBounds_toArray, List.set_cons_zero, List.set_cons_succ]
      have hbg7 := hs57.blk HBG.out ⟨hg5, by omega⟩
      refine wpL_one (i := 13) (by kernel_rfl) (StepL.mk rfl (fun K hK => ?_))
      refine step_store_one rfl _ _ _ rfl g 3 105 _ (.slice A7 (Y.length + 1) c7) rfl rfl hbg7 (by simp) (by kernel_rfl) rfl rfl ?_
      intro w8 hb8 hs8
      have hadd := StM.addOut (s := { s with cells := FF.cells, sent := X, outs := Y }) ⟨ix, x.val⟩ hg1 hg5 R2.out R3.out R4.out hk6 hs7 hgl7 hs8 (by simpa using hb8)
      obtain ⟨Lx, hLx, hax, hay⟩ : ∃ Lx : Nat → Nat, (∀ i, i < w5.heap.size → Lx i = L5 i) ∧ StM w8 Lx g _ ∧ Same (Frm w5 L5) w5 w8 := ⟨_, fun i hi => ext_old (by omega), hadd.1, hadd.2⟩
      have hfin : HrRel L2 g ix { s with cells := FF.cells } FF.effs w4 (.int .i64 N) (.int .i64 (k + 1)) w8 := by
        refine ⟨k + 1, Lx, HK1.out, by simp, by rw [T3.out]; simp, fun i hi => ?_, ?_, Same.trans HSR.out (Same.trans (Same.mono HK5.out (fun i (hi : Frm w4 L2 i) => by have := hi.1; omega)) hay (fun i hi => ⟨by have := hi.1; omega, by rw [HL5O.out i (by have := hi.1; omega), HLL.out i hi.1]; exact hi.2⟩)) (fun i hi => hi)⟩
        · rw [hLx i (by omega), HL5O.out i (by omega), HLL.out i hi]
        · show StM w8 _ g { s with cells := FF.cells, sent := s.sent ++ _, outs := s.outs ++ _ }
          rw [T1'.out, T2'.out]
          exact hax
      refine hK.out _ _ (SAB.past (by kernel_rfl) trivial) (fun hSS => ?_)
      clear hK K hA hB
      have hB := hSS.2
      have hA : True := trivial
      (try dsimp only at hB); (try dsimp only at hA); clear hSS
      try simp only [Act.put, List.setIfInBounds_toArray, List.set_cons_zero, List.set_cons_succ]
      refine wpL_done (by kernel_rfl) ?_
      have HFIN := Lib.hid hfin
      clear hfin
      clear hadd hax hay hLx hb8 hs8 hs7 hs57 hgl7 hk6 hA hB hbg7
      go_wp2_with fail
      go_roundw
      case rel => exact HFIN.out
      case measure => simp [intOf]; omega
end Go.Proofs.Ythmepnpjagpcnaa
