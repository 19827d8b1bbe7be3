/- process.host.start, process.Start. -/
import Derived.Test.YthmepnpjagpcnaaProcP1
set_option linter.unusedVariables false
set_option linter.unusedSimpArgs false
set_option maxRecDepth 100000
namespace Go.Proofs.Ythmepnpjagpcnaa
open Go.RowKit Go.Proofs

open Classical in
/-- Labels: 1 for block g, 0 for the blocks of S, 9 for the others. -/
theorem labs (S : Nat → Prop) (g : Nat) : ∃ L : Nat → Nat, L g = 1 ∧ (∀ i, i ≠ g → (S i → L i = 0) ∧ (¬ S i → L i = 9)) ∧ (∀ i, i ≠ g → L i = 0 ∨ L i = 9) := by
  refine ⟨fun i => if i = g then 1 else if S i then 0 else 9, by simp, fun i hi => ⟨fun h => by simp [hi, h], fun h => by simp [hi, h]⟩, fun i hi => ?_⟩
  by_cases h : S i <;> simp [hi, h]
theorem labs_in {S : Nat → Prop} {g : Nat} {L : Nat → Nat} (hLo : ∀ i, i ≠ g → (S i → L i = 0) ∧ (¬ S i → L i = 9)) {i : Nat} (hi : i ≠ g) (h : L i = 0 ∨ L i = 2 ∨ L i = 3 ∨ L i = 4 ∨ L i = 5) : S i :=
  Classical.byContradiction fun hn => by have := (hLo i hi).2 hn; omega
/-- Four cells that read as a state whose lists may be appended to. -/
def StV (w : World) (L : Nat → Nat) (cs : List Value) (s : St) : Prop :=
  ∃ (A1 A2 A3 A4 : Option Addr) (n1 c1 c2 c3 c4 : Nat), cs = [.slice A1 n1 c1, .slice A2 s.events.length c2, .slice A3 s.sent.length c3, .slice A4 s.outs.length c4] ∧ Sl encI 1 w (fun i => i < w.heap.size ∧ (L i = 2 ∨ L i = 0)) A1 n1 c1 s.cells ∧
    Gl w L 3 50 7 A2 s.events.length c2 (s.events.flatMap encEv) ∧ Gl w L 4 136 4 A3 s.sent.length c3 (s.sent.flatMap encSnd) ∧ Gl w L 5 133 2 A4 s.outs.length c4 (s.outs.flatMap encOut)
theorem StV.same {w w' : World} {L L' : Nat → Nat} {cs : List Value} {s : St} {T : Nat → Prop} (h : StV w L cs s) (hs : Same T w w') (hT : ∀ i, i < w.heap.size → (L i = 0 ∨ L i = 2 ∨ L i = 3 ∨ L i = 4 ∨ L i = 5) → T i) (hL : ∀ i, i < w.heap.size → L' i = L i) : StV w' L' cs s := by
  obtain ⟨A1, A2, A3, A4, n1, c1, c2, c3, c4, e, h2, h3, h4, h5⟩ := h
  exact ⟨A1, A2, A3, A4, n1, c1, c2, c3, c4, e, slL h2 hs (fun i hi h => hT i hi (by omega)) hL, h3.same hs (fun i hi h => hT i hi (by omega)) hL, h4.same hs (fun i hi h => hT i hi (by omega)) hL, h5.same hs (fun i hi h => hT i hi (by omega)) hL⟩
theorem StV.read {w : World} {L : Nat → Nat} {cs : List Value} {s : St} (h : StV w L cs s) : StR w (fun i => i < w.heap.size ∧ (L i = 0 ∨ L i = 2 ∨ L i = 3 ∨ L i = 4 ∨ L i = 5)) cs s := by
  obtain ⟨A1, A2, A3, A4, n1, c1, c2, c3, c4, e, h2, h3, h4, h5⟩ := h
  exact ⟨A1, A2, A3, A4, n1, c1, _, c2, _, c3, _, c4, e, h2.more (fun i hi => ⟨hi.1, by omega⟩), h3.sl.more (fun i hi => ⟨hi.1, by omega⟩), h4.sl.more (fun i hi => ⟨hi.1, by omega⟩), h5.sl.more (fun i hi => ⟨hi.1, by omega⟩)⟩
theorem StM.val {w : World} {L : Nat → Nat} {g : Nat} {s : St} (h : StM w L g s) : ∃ (B1 B2 B3 B4 : Option Addr) (p1 q1 p2 q2 p3 q3 p4 q4 : Nat), Blk w g 105 #[.slice B1 p1 q1, .slice B2 p2 q2, .slice B3 p3 q3, .slice B4 p4 q4] ∧ StV w L [.slice B1 p1 q1, .slice B2 p2 q2, .slice B3 p3 q3, .slice B4 p4 q4] s := by
  obtain ⟨A1, A2, A3, A4, n1, c1, c2, c3, c4, hb, h1, h2, h3, h4, h5⟩ := h
  exact ⟨A1, A2, A3, A4, n1, c1, _, c2, _, c3, _, c4, hb, A1, A2, A3, A4, n1, c1, c2, c3, c4, rfl, h2, h3, h4, h5⟩
theorem StV.put {w : World} {L : Nat → Nat} {g : Nat} {cs : List Value} {s : St} (h : StV w L cs s) (hb : Blk w g 105 cs.toArray) (hg : L g = 1) : StM w L g s := by
  obtain ⟨A1, A2, A3, A4, n1, c1, c2, c3, c4, rfl, h2, h3, h4, h5⟩ := h
  exact ⟨A1, A2, A3, A4, n1, c1, c2, c3, c4, hb, hg, h2, h3, h4, h5⟩
theorem StV.len {w : World} {L : Nat → Nat} {cs : List Value} {s : St} (h : StV w L cs s) : ∃ (B1 B2 B3 B4 : Option Addr) (p1 q1 p2 q2 p3 q3 p4 q4 : Nat), cs = [.slice B1 p1 q1, .slice B2 p2 q2, .slice B3 p3 q3, .slice B4 p4 q4] := by
  obtain ⟨A1, A2, A3, A4, n1, c1, c2, c3, c4, rfl, _⟩ := h
  exact ⟨A1, A2, A3, A4, n1, c1, _, c2, _, c3, _, c4, rfl⟩
/-- A state whose lists may be appended to; the blocks of S keep the label 0, the others that stood have 9. -/
def HsPost (S : Nat → Prop) (s : St) (w : World) (e : Ending) (w' : World) : Prop := ∃ (cs : List Value) (L : Nat → Nat), e = .returned (.agg cs.toArray) ∧ StV w' L cs s ∧ (∀ i, i < w.heap.size → (S i → L i = 0) ∧ (¬ S i → L i = 9)) ∧ Keep w w'
theorem HsPost.st {S : Nat → Prop} {s : St} {w w' : World} {e : Ending} (h : HsPost S s w e w') : StPost S s w e w' := by
  obtain ⟨cs, L, h1, h2, h3, h4⟩ := h
  refine ⟨cs, h1, h2.read.more (fun i hi => ?_), h4⟩
  rcases Nat.lt_or_ge i w.heap.size with h | h
  · exact .inl (Classical.byContradiction fun hn => by have := (h3 i h).2 hn; omega)
  · exact .inr ⟨h, hi.1⟩
def hostCells (K0 K1 K2 K3 K4 : Option Addr) (y0 z0 y1 z1 y2 z2 y3 z3 y4 z4 : Nat) (self procs : Int) : List Value := [.slice K0 y0 z0, .slice K1 y1 z1, .slice K2 y2 z2, .slice K3 y3 z3, .slice K4 y4 z4, .int .i64 self, .int .i64 procs]
set_option maxHeartbeats 16000000 in
theorem hstart_own (w : World) (S : Nat → Prop) (K0 K1 K2 K3 K4 : Option Addr) (y0 z0 y1 z1 y2 z2 y3 z3 y4 z4 : Nat) (c : Cd) (self procs : Int) (hS : ∀ i, S i → i < w.heap.size) (hc : CdR w S [.slice K0 y0 z0, .slice K1 y1 z1, .slice K2 y2 z2, .slice K3 y3 z3, .slice K4 y4 z4] c) :
    Calls Try.prog 58 #[.agg #[.slice K0 y0 z0, .slice K1 y1 z1, .slice K2 y2 z2, .slice K3 y3 z3, .slice K4 y4 z4, .int .i64 self, .int .i64 procs]] w (HsPost S (startS c self procs) w) := by
  obtain ⟨A0, A1, A2, A3, A4, m0, c0, m1, c1, m2, c2, m3, c3, m4, c4, e, u0, u1, u2, u3, u4, u5⟩ := hc
  injection e with e0 e
  injection e with e1 e
  injection e0 with e01 e02 e03
  injection e1 with e11 e12 e13
  subst e01 e02 e03 e11 e12 e13
  clear e u2 u3 u4
  generalize hW : ((w.alloc (.cells #[.slice K0 y0 z0, .slice K1 y1 z1, .slice K2 y2 z2, .slice K3 y3 z3, .slice K4 y4 z4, .int .i64 self, .int .i64 procs] 130)).alloc (.cells #[.slice none 0 0, .slice none 0 0, .slice none 0 0, .slice none 0 0] 105)).alloc (.cells #[.slice none 0 0, .slice none 0 0, .slice none 0 0, .slice none 0 0] 105) = W
  have hkW : Keep w W := hW ▸ Keep.alloc (Keep.alloc (Keep.new w _) _) _
  have hb1 : Blk W w.heap.size 130 #[.slice K0 y0 z0, .slice K1 y1 z1, .slice K2 y2 z2, .slice K3 y3 z3, .slice K4 y4 z4, .int .i64 self, .int .i64 procs] := hW ▸ ((Blk.new w _ _).alloc _).alloc _
  have hb2 : Blk W (w.heap.size + 1) 105 #[.slice none 0 0, .slice none 0 0, .slice none 0 0, .slice none 0 0] := hW ▸ blkM w _ _ _ _
  have hb3 : Blk W (w.heap.size + 2) 105 #[.slice none 0 0, .slice none 0 0, .slice none 0 0, .slice none 0 0] := hW ▸ blkL w _ _ _ _
  have hz : w.heap.size + 2 < W.heap.size := hb3.lt
  have hsW := Same.mono hkW hS
  have e0 : W.cell? ⟨w.heap.size, 0, none⟩ = some (.slice K0 y0 z0) := by rw [hb1.cell]; rfl
  have e1 : W.cell? ⟨w.heap.size, 1, none⟩ = some (.slice K1 y1 z1) := by rw [hb1.cell]; rfl
  have e5 : W.cell? ⟨w.heap.size, 5, none⟩ = some (.int .i64 self) := by rw [hb1.cell]; rfl
  obtain ⟨L, hLg, hLo, hLi⟩ := labs S (w.heap.size + 2)
  have hst : StM W L (w.heap.size + 2) ⟨[], [], [], []⟩ := ⟨none, none, none, none, 0, 0, 0, 0, 0, hb3, hLg, Sl.nil_, Gl.nil_, Gl.nil_, Gl.nil_⟩
  have key := hrun_any W L (w.heap.size + 2) ⟨[], [], [], []⟩ S K0 K1 K2 K3 K4 K1 K0 y0 z0 y1 z1 y2 z2 y3 z3 y4 z4 y1 z1 y0 z0 self procs self 0 0 c.start c.init hst (fun i hi => ⟨by have := hS i hi; omega, (hLo i (by have := hS i hi; omega)).1 hi⟩) (u1.keep hsW (StmR.keep hsW _)) ((u0.keep hsW).more (fun i hi => by have := hS i hi; omega)) u5 (by simp) (by simp)
  have hrun : runS ⟨self, procs, self, 0⟩ c.start c.init 0 ⟨[], [], [], []⟩ = startS c self procs := rfl
  rw [hrun] at key
  have HS := Lib.hid hS
  have KEY := Lib.hid key
  have HKW := Lib.hid hkW
  have HB1 := Lib.hid hb1
  have HB2 := Lib.hid hb2
  have HLO := Lib.hid hLo
  have HLI := Lib.hid hLi
  clear hS key hkW hb1 hb2 hLo hLi
  clear hb3 hst u0 u1 u5 hsW hrun
  go_enter Try.func58, Try.ntmps58
  go_wp2_with (refine wpList_load_all rfl _ (.tmp 1) rfl w.heap.size 130 [.slice K0 y0 z0, .slice K1 y1 z1, .slice K2 y2 z2, .slice K3 y3 z3, .slice K4 y4 z4, .int .i64 self, .int .i64 procs] _ rfl HB1.out Try.underlying130 rfl (by kernel_rfl) ?_)
  clear hW
  refine KEY.out.mono ?_
  rintro e w1 ⟨rfl, L', hL', hst1, hs1⟩
  obtain ⟨B1, B2, B3, B4, p1, q1, p2, q2, p3, q3, p4, q4, hbs, hr⟩ := hst1.val
  have hz1 := hs1.size
  have hbr := hs1.blk HB2.out ⟨by omega, by have := HLI.out (w.heap.size + 1) (by omega); omega⟩
  have HBS := Lib.hid hbs
  have HR := Lib.hid hr
  have HS1 := Lib.hid hs1
  have HBR := Lib.hid hbr
  have HL' := Lib.hid hL'
  clear hbs hr hs1 hbr hL'
  clear e0 e1 e5 hst1
  go_wp2_with (first
    | (refine wpList_load_all rfl _ (.tmp 3) rfl (w.heap.size + 2) 105 [.slice B1 p1 q1, .slice B2 p2 q2, .slice B3 p3 q3, .slice B4 p4 q4] _ rfl HBS.out Try.underlying105 rfl (by kernel_rfl) ?_)
    | (refine wpList_store_all rfl _ (.tmp 2) (.tmp 14) rfl (w.heap.size + 1) 105 _ [.slice B1 p1 q1, .slice B2 p2 q2, .slice B3 p3 q3, .slice B4 p4 q4] rfl rfl HBR.out rfl (by kernel_rfl) rfl ?_; intro wz hbq hwq; have HBQ := Lib.hid hbq; have HWQ := Lib.hid hwq; clear hbq hwq))
  refine bodyPost_ret (results_cell1 Try.results58 _ _ _ ⟨w.heap.size + 1, 0, none⟩ _ rfl (load_st rfl HBQ.out)) rfl ?_
  have hzq := HWQ.out.size
  have hL9 : L' (w.heap.size + 1) = 9 := by
    rw [HL'.out _ (by omega)]
    exact (HLO.out _ (by omega)).2 (fun h => by have := HS.out _ h; omega)
  refine ⟨_, L', rfl, HR.out.same HWQ.out (fun i hi h e => by rw [e, hL9] at h; omega) (fun _ _ => rfl), fun i hi => ?_, Keep.write (Same.trans HKW.out HS1.out (fun i hi => ⟨by omega, by have := HLI.out i (by omega); omega⟩)) HWQ.out (by omega)⟩
  rw [HL'.out i (by omega)]
  exact HLO.out i (by omega)
theorem hstart_any (w : World) (S : Nat → Prop) (K0 K1 K2 K3 K4 : Option Addr) (y0 z0 y1 z1 y2 z2 y3 z3 y4 z4 : Nat) (c : Cd) (self procs : Int) (hS : ∀ i, S i → i < w.heap.size) (hc : CdR w S [.slice K0 y0 z0, .slice K1 y1 z1, .slice K2 y2 z2, .slice K3 y3 z3, .slice K4 y4 z4] c) :
    Calls Try.prog 58 #[.agg #[.slice K0 y0 z0, .slice K1 y1 z1, .slice K2 y2 z2, .slice K3 y3 z3, .slice K4 y4 z4, .int .i64 self, .int .i64 procs]] w (StPost S (startS c self procs) w) :=
  (hstart_own w S K0 K1 K2 K3 K4 y0 z0 y1 z1 y2 z2 y3 z3 y4 z4 c self procs hS hc).mono (fun _ _ h => h.st)
end Go.Proofs.Ythmepnpjagpcnaa
