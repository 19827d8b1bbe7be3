/- process.host.next. -/
import Derived.Test.YthmepnpjagpcnaaProcP2
set_option linter.unusedVariables false
set_option linter.unusedSimpArgs false
set_option maxRecDepth 100000
namespace Go.Proofs.Ythmepnpjagpcnaa
open Go.RowKit Go.Proofs

theorem StM.addEvent {w w6 w7 w8 : World} {L : Nat → Nat} {g : Nat} {s : St} {A1 A3 A4 : Option Addr} {n1 c1 c3 c4 : Nat} {A' : Option Addr} {c' : Nat} (x : Ev) (hg : L g = 1) (hgl : g < w.heap.size)
    (h2 : Sl encI 1 w (fun i => i < w.heap.size ∧ (L i = 2 ∨ L i = 0)) A1 n1 c1 s.cells) (h4 : Gl w L 4 136 4 A3 s.sent.length c3 (s.sent.flatMap encSnd)) (h5 : Gl w L 5 133 2 A4 s.outs.length c4 (s.outs.flatMap encOut))
    (hk : Keep w w6) (hs7 : Same (fun k => k < w6.heap.size ∧ L k ≠ 3) w6 w7) (h3 : Gl w7 (ext L w6.heap.size (fun _ => 3)) 3 50 7 A' (s.events.length + 1) c' (s.events.flatMap encEv ++ encEv x))
    (hs8 : Same (· ≠ g) w7 w8) (hb8 : Blk w8 g 105 #[.slice A1 n1 c1, .slice A' (s.events.length + 1) c', .slice A3 s.sent.length c3, .slice A4 s.outs.length c4]) :
    StM w8 (ext L w6.heap.size (fun _ => 3)) g { s with events := s.events ++ [x] } ∧ Same (Frm w L) w w8 := by
  have z6 := hk.size
  have z7 := hs7.size
  have z8 := hs8.size
  have hL : ∀ i, i < w.heap.size → ext L w6.heap.size (fun _ => 3) i = L i := fun i hi => ext_old (by omega)
  have hs : Same (fun i => i < w.heap.size ∧ L i ≠ 3 ∧ i ≠ g) w w8 := Same.trans (Same.mono hk (fun i hi => hi.1)) (Same.trans (hs7.mono (T := fun i => i < w.heap.size ∧ L i ≠ 3 ∧ i ≠ g) (fun i hi => ⟨by omega, hi.2.1⟩)) hs8 (fun i hi => hi.2.2)) (fun i hi => hi)
  have hng : ∀ i, L i ≠ 1 → i ≠ g := fun i hi e => hi (by rw [e]; exact hg)
  refine ⟨⟨A1, A', A3, A4, n1, c1, c', c3, c4, by simpa using hb8, by rw [hL g hgl]; exact hg, slL h2 hs (fun i hi h => ⟨hi, by omega, hng i (by omega)⟩) hL, ?_, h4.same hs (fun i hi h => ⟨hi, by omega, hng i (by omega)⟩) hL, h5.same hs (fun i hi h => ⟨hi, by omega, hng i (by omega)⟩) hL⟩, hs.mono (fun i hi => ⟨hi.1, by have := hi.2; omega, hng i (by have := hi.2; omega)⟩)⟩
  have hg7 : ext L w6.heap.size (fun _ => 3) g = 1 := by rw [hL g hgl]; exact hg
  have := h3.same (L' := ext L w6.heap.size (fun _ => 3)) hs8 (fun i hi h e => by rw [e, hg7] at h; omega) (fun i hi => rfl)
  simpa using this
theorem HrPost.from_ {L L3 : Nat → Nat} {g : Nat} {s : St} {w w3 w' : World} {e : Ending} (h : HrPost L3 g s w3 e w') (hL : ∀ i, i < w.heap.size → L3 i = L i) (hs : Same (Frm w L) w w3) : HrPost L g s w e w' := by
  obtain ⟨h1, L', h2, h3, h4⟩ := h
  have z := hs.size
  exact ⟨h1, L', fun i hi => by rw [h2 i (by omega), hL i hi], h3, Same.trans hs h4 (fun i hi => ⟨by have := hi.1; omega, by rw [hL i hi.1]; exact hi.2⟩)⟩
set_option maxHeartbeats 16000000 in
theorem hnext_any (w : World) (L : Nat → Nat) (g : Nat) (s : St) (S : Nat → Prop) (K0 K1 K2 K3 K4 : Option Addr) (y0 z0 y1 z1 y2 z2 y3 z3 y4 z4 : Nat) (c : Cd) (self procs : Int) (x : Ev) (hst : StM w L g s) (hS : ∀ i, S i → i < w.heap.size ∧ L i = 0) (hc : CdR w S [.slice K0 y0 z0, .slice K1 y1 z1, .slice K2 y2 z2, .slice K3 y3 z3, .slice K4 y4 z4] c) (h1 : s.cells.length ≤ 1000000) (h2 : s.sent.length ≤ 1000000) (h3 : s.outs.length ≤ 1000000) (h4 : s.events.length ≤ 1000000) :
    Calls Try.prog 66 #[.agg #[.slice K0 y0 z0, .slice K1 y1 z1, .slice K2 y2 z2, .slice K3 y3 z3, .slice K4 y4 z4, .int .i64 self, .int .i64 procs], .pointer (some ⟨g, 0, none⟩), .agg (encEv x).toArray] w (HrPost L g (nextS c self procs s x) w) := by
  obtain ⟨A0, A1, A2, A3, A4, m0, c0, m1, c1, m2, c2, m3, c3, m4, c4, e, -, -, u2, u3, u4, -⟩ := hc
  injection e with e0 e
  injection e with e1 e
  injection e with e2 e
  injection e with e3 e
  injection e with e4 e
  injection e2 with e21 e22 e23
  injection e3 with e31 e32 e33
  injection e4 with e41 e42 e43
  subst e21 e22 e23 e31 e32 e33 e41 e42 e43
  clear e e0 e1
  obtain ⟨i0, hi0, iz0, iz1, iz2⟩ := info_of info_Event
  obtain ⟨hgl, hLg⟩ := hst.lt
  show Calls Try.prog 66 #[.agg #[.slice K0 y0 z0, .slice K1 y1 z1, .slice K2 y2 z2, .slice K3 y3 z3, .slice K4 y4 z4, .int .i64 self, .int .i64 procs], .pointer (some ⟨g, 0, none⟩), .agg #[.int .i64 x.kind, .int .i64 x.inc, .int .i64 x.frm, .int .i64 x.sInc, .int .i64 x.sIdx, .int .i64 x.ord, .int .i64 x.val]] w _
  generalize hW : (w.alloc (.cells #[.slice K0 y0 z0, .slice K1 y1 z1, .slice K2 y2 z2, .slice K3 y3 z3, .slice K4 y4 z4, .int .i64 self, .int .i64 procs] 130)).alloc (.cells #[.int .i64 x.kind, .int .i64 x.inc, .int .i64 x.frm, .int .i64 x.sInc, .int .i64 x.sIdx, .int .i64 x.ord, .int .i64 x.val] 50) = W
  have hkW : Keep w W := hW ▸ Keep.alloc (Keep.new w _) _
  have hb3 : Blk W w.heap.size 130 #[.slice K0 y0 z0, .slice K1 y1 z1, .slice K2 y2 z2, .slice K3 y3 z3, .slice K4 y4 z4, .int .i64 self, .int .i64 procs] := hW ▸ (Blk.new w _ _).alloc _
  have hb5 : Blk W (w.heap.size + 1) 50 #[.int .i64 x.kind, .int .i64 x.inc, .int .i64 x.frm, .int .i64 x.sInc, .int .i64 x.sIdx, .int .i64 x.ord, .int .i64 x.val] := hW ▸ (by simpa using Blk.new (w.alloc _) _ _)
  have hz : w.heap.size + 1 < W.heap.size := hb5.lt
  obtain ⟨L1, hL1⟩ : ∃ L1 : Nat → Nat, L1 = ext L w.heap.size (fun _ => 9) := ⟨_, rfl⟩
  have hL1o : ∀ i, i < w.heap.size → L1 i = L i := fun i hi => by rw [hL1]; exact ext_old hi
  have hL1n : ∀ i, w.heap.size ≤ i → L1 i = 9 := fun i hi => by rw [hL1]; exact ext_new hi
  have hstW := hst.keep (L' := L1) hkW hL1o
  obtain ⟨D1, D2, D3, D4, p1, q1, q2, q3, q4, hbg, hg1, r2, r3, r4, r5⟩ := hstW
  have hgW := hbg.lt
  have g1 : ∀ wx, Same (fun i => i = g ∨ i = w.heap.size + 1) W wx → wx.cell? ⟨g, 1, none⟩ = some (.slice D2 s.events.length q2) := fun wx hx => (hx.cell (p := ⟨g, 1, none⟩) (.inl rfl)).trans (by rw [hbg.cell]; rfl)
  have hmc : s.events.length ≤ q2 ∧ q2 ≤ 9223372036854775807 := ⟨r3.1, r3.2.1⟩
  have HS := Lib.hid hS
  have HKW := Lib.hid hkW
  have HB3 := Lib.hid hb3
  have HB5 := Lib.hid hb5
  have HL1O := Lib.hid hL1o
  have HL1N := Lib.hid hL1n
  have HI0 := Lib.hid hi0
  have IZ0 := Lib.hid iz0
  have IZ1 := Lib.hid iz1
  have IZ2 := Lib.hid iz2
  have R2 := Lib.hid r2
  have R3 := Lib.hid r3
  have R4 := Lib.hid r4
  have R5 := Lib.hid r5
  have HBG := Lib.hid hbg
  have U2 := Lib.hid u2
  have U3 := Lib.hid u3
  have U4 := Lib.hid u4
  clear hS hkW hb3 hb5 hL1o hL1n hi0 iz0 iz1 iz2 r2 r3 r4 r5 hbg u2 u3 u4
  clear hst hL1
  go_enter Try.func66, Try.ntmps66
  go_upto_region 1 with fail
  clear hW
  refine wp_region_L 10 (fun wx => Same (fun i => i = g ∨ i = w.heap.size + 1) W wx) (fun _ => True) (by kernel_rfl) (Same.drew (Same.refl _ _)) trivial (fun hA hB => ?_)
  refine wpL_takeA (i := 0) (v := ?_) rfl (by kernel_rfl) (by kernel_rfl) (by kernel_rfl) (by kernel_rfl) (by decide) (fun _ _ _ h => h) (Or.inl ⟨by rfl, ?_⟩) hA hB ?_
  rotate_left
  · rintro wx ⟨hAx, hBx⟩
    (try dsimp only at hBx); (try dsimp only at hAx)
    go_simp
    try with_reducible rfl
  try simp only [Act.put, List.setIfInBounds_toArray, List.set_cons_zero, List.set_cons_succ]
  refine wpL_takeA (i := 1) (v := ?_) rfl (by kernel_rfl) (by kernel_rfl) (by kernel_rfl) (by kernel_rfl) (by decide) (fun _ _ _ h => h) (Or.inl ⟨by rfl, ?_⟩) hA hB ?_
  rotate_left
  · rintro wx ⟨hAx, hBx⟩
    (try dsimp only at hBx); (try dsimp only at hAx)
    go_simp
    try with_reducible rfl
  try simp only [Act.put, List.setIfInBounds_toArray, List.set_cons_zero, List.set_cons_succ]
  refine wpL_takeA (i := 2) (v := ?_) rfl (by kernel_rfl) (by kernel_rfl) (by kernel_rfl) (by kernel_rfl) (by decide) (fun _ _ _ h => h) (Or.inl ⟨by rfl, ?_⟩) hA hB ?_
  rotate_left
  · rintro wx ⟨hAx, hBx⟩
    (try dsimp only at hBx); (try dsimp only at hAx)
    go_simp
    try with_reducible rfl
  try simp only [Act.put, List.setIfInBounds_toArray, List.set_cons_zero, List.set_cons_succ]
  refine wpL_takeA (i := 3) (v := ?_) rfl (by kernel_rfl) (by kernel_rfl) (by kernel_rfl) (by kernel_rfl) (by decide) (fun _ _ _ h => h) (Or.inl ⟨by rfl, ?_⟩) hA hB ?_
  rotate_left
  · rintro wx ⟨hAx, hBx⟩
    (try dsimp only at hBx); (try dsimp only at hAx)
    go_simp
    try with_reducible rfl
  try simp only [Act.put, List.setIfInBounds_toArray, List.set_cons_zero, List.set_cons_succ]
  refine wpL_takeA (i := 4) (v := ?_) rfl (by kernel_rfl) (by kernel_rfl) (by kernel_rfl) (by kernel_rfl) (by decide) (fun _ _ _ h => h) (Or.inl ⟨by rfl, ?_⟩) hA hB ?_
  rotate_left
  · rintro wx ⟨hAx, hBx⟩
    (try dsimp only at hBx); (try dsimp only at hAx)
    go_simp
    try with_reducible rfl
  try simp only [Act.put, List.setIfInBounds_toArray, List.set_cons_zero, List.set_cons_succ]
  refine wpL_takeA (i := 5) rfl (by kernel_rfl) (by kernel_rfl) (by kernel_rfl) (by kernel_rfl) (by decide) (fun _ _ _ h => h) (yieldsIf_blk (by rfl) _ _ rfl (w.heap.size + 1) 0 50 _ [.int .i64 x.kind, .int .i64 x.inc, .int .i64 x.frm, .int .i64 x.sInc, .int .i64 x.sIdx, .int .i64 x.ord, .int .i64 x.val] _ rfl (fun wx hx => hx.1.blk HB5.out (.inr rfl)) (fun j u hu => by simpa using hu) Try.underlying50 rfl (by kernel_rfl)) hA hB ?_
  try simp only [Act.put, List.setIfInBounds_toArray, List.set_cons_zero, List.set_cons_succ]
  clear g1
  refine wpL_one (i := 6) (by kernel_rfl) (StepL.mk rfl (fun K hK => ?_))
  refine step_buildS rfl _ _ _ _ rfl Try.underlying46 _ [(0, .agg #[.int .i64 x.kind, .int .i64 x.inc, .int .i64 x.frm, .int .i64 x.sInc, .int .i64 x.sIdx, .int .i64 x.ord, .int .i64 x.val])] rfl (built_ev _ _ _ _ _ _ _) ?_
  have hk6 : Keep W (W.drew.alloc (.cells #[.int .i64 x.kind, .int .i64 x.inc, .int .i64 x.frm, .int .i64 x.sInc, .int .i64 x.sIdx, .int .i64 x.ord, .int .i64 x.val] 50)) := Keep.alloc (Same.drew (Same.refl _ _)) _
  refine hK.out _ _ (SAB.both (hk6.mono (fun i hi => by omega)) trivial) (fun hSS => ?_)
  clear hK K hA hB
  have hB := hSS.2
  have hA := hSS.1 (by kernel_rfl)
  (try dsimp only at hB); (try dsimp only at hA); clear hSS
  try simp only [Act.put, List.setIfInBounds_toArray, List.set_cons_zero, List.set_cons_succ]
  refine wpL_one (i := 7) (by kernel_rfl) (StepL.mk rfl (fun K hK => ?_))
  refine step_append_gl (by rfl) (.tmp 11) (.tmp 13) _ (by rfl) i0 _ 56 Try.underlying46 HI0.out IZ0.out IZ1.out IZ2.out rfl (by omega) (by rfl) (R3.out.same (L' := L1) hk6 (fun i hi _ => hi) (fun _ _ => rfl)) _ (some ⟨W.heap.size, 0, none⟩) 1 1 (encEv x) (by rfl) (Reads.new (w := W.drew) rfl) (encEv_one _) (by omega) (by simp [maxLen]; omega) (by omega) ?_
  intro A7 c7 w7 hgl7 hs7
  have hz6 := hk6.size
  have hs57 : Same (fun i => i < W.heap.size ∧ L1 i ≠ 3) W w7 := Same.trans (Same.mono hk6 (fun i hi => hi.1)) hs7 (fun i hi => ⟨by omega, hi.2⟩)
  refine hK.out _ _ (SAB.both (hs57.mono (fun i hi => hi.elim (fun h => by subst h; exact ⟨hgW, by omega⟩) (fun h => by subst h; exact ⟨hz, by rw [HL1N.out _ (by omega)]; omega⟩))) trivial) (fun hSS => ?_)
  clear hK K hA hB
  have hB := hSS.2
  have hA := hSS.1 (by kernel_rfl)
  (try dsimp only at hB); (try dsimp only at hA); clear hSS
  try simp only [Act.put, List.setIfInBounds_toArray, List.set_cons_zero, List.set_cons_succ]
  refine wpL_takeB (i := 8) (v := ?_) rfl (by kernel_rfl) (by kernel_rfl) (by kernel_rfl) (by decide) (fun _ _ _ h => h) (Or.inl ⟨by rfl, ?_⟩) (SAB.both hA hB) ?_
  rotate_left
  · intro wx hBx
    (try dsimp only at hBx)
    go_simp
    try with_reducible rfl
  try simp only [Act.put, List.setIfInBounds_toArray, List.set_cons_zero, List.set_cons_succ]
  refine wpL_takeB (i := 9) (v := ?_) rfl (by kernel_rfl) (by kernel_rfl) (by kernel_rfl) (by decide) (fun _ _ _ h => h) (Or.inl ⟨by rfl, ?_⟩) (SAB.both hA hB) ?_
  rotate_left
  · intro wx hBx
    (try dsimp only at hBx)
    go_simp
    try with_reducible rfl
  try simp only [Act.put, List.setIfInBounds_toArray, List.set_cons_zero, List.set_cons_succ]
  have hbg7 := hs57.blk HBG.out ⟨hgW, by omega⟩
  refine wpL_one (i := 10) (by kernel_rfl) (StepL.mk rfl (fun K hK => ?_))
  refine step_store_one rfl _ _ _ rfl g 1 105 _ (.slice A7 (s.events.length + 1) c7) rfl rfl hbg7 (by simp) (by kernel_rfl) rfl rfl ?_
  intro w8 hb8 hs8
  have hadd := StM.addEvent x hg1 hgW R2.out R4.out R5.out hk6 hs7 hgl7 hs8 (by simpa using hb8)
  obtain ⟨L3, hL3, hst3, hs3⟩ : ∃ Lx : Nat → Nat, (∀ i, i < W.heap.size → Lx i = L1 i) ∧ StM w8 Lx g _ ∧ Same (Frm W L1) W w8 := ⟨_, fun i hi => ext_old (by omega), hadd.1, hadd.2⟩
  refine hK.out _ _ (SAB.past (by kernel_rfl) trivial) (fun hSS => ?_)
  clear hK K hA hB
  have hB := hSS.2
  have hA : True := trivial
  (try dsimp only at hB); (try dsimp only at hA); clear hSS
  try simp only [Act.put, List.setIfInBounds_toArray, List.set_cons_zero, List.set_cons_succ]
  refine wpL_done (by kernel_rfl) ?_
  have hz83 := hs3.size
  have hL3o : ∀ i, i < w.heap.size → L3 i = L i := fun i hi => by rw [hL3 i (by omega), HL1O.out i hi]
  have hsw : Same (Frm w L) w w8 := Same.trans (Same.mono HKW.out (fun i (hi : Frm w L i) => hi.1)) hs3 (fun i hi => ⟨by have := hi.1; omega, by rw [HL1O.out i hi.1]; exact hi.2⟩)
  have hsS : Same S w w8 := hsw.mono (fun i hi => ⟨(HS.out i hi).1, .inl (HS.out i hi).2⟩)
  have hb38 := hs3.blk HB3.out ⟨by omega, by rw [HL1N.out _ (by omega)]; omega⟩
  have hb58 := hs3.blk HB5.out ⟨by omega, by rw [HL1N.out _ (by omega)]; omega⟩
  clear hadd hb8 hs8 hs7 hs57 hgl7 hk6 hA hB hbg7 HBG R2 R3 R4 R5
  have hst3' := hst3
  obtain ⟨D1, D2, D3, D4, p1, q1, q2, q3, q4, hbg, hg1, r2, r3, r4, r5⟩ := hst3'
  have hgl8 := hbg.lt
  have r2' : Sl encI 1 w8 (fun i => i < w8.heap.size) D1 p1 q1 s.cells := Sl.more r2 (fun i hi => hi.1)
  have hmc3 : s.events.length + 1 ≤ q2 ∧ q2 ≤ 9223372036854775807 := ⟨by have := r3.1; simpa using this, r3.2.1⟩
  have f1 : w8.cell? ⟨g, 1, none⟩ = some (.slice D2 (s.events.length + 1) q2) := by rw [hbg.cell]; simp
  have f5 : w8.cell? ⟨w.heap.size + 1, 0, none⟩ = some (.int .i64 x.kind) := by rw [hb58.cell]; rfl
  have c0 : ∀ wx, Keep w8 wx → wx.cell? ⟨g, 0, none⟩ = some (.slice D1 p1 q1) := fun wx hx => (hx.cell (p := ⟨g, 0, none⟩) hgl8).trans (by rw [hbg.cell]; rfl)
  have cF : ∀ wx, Keep w8 wx → wx.cell? ⟨w.heap.size + 1, 2, none⟩ = some (.int .i64 x.frm) := fun wx hx => (hx.cell (p := ⟨w.heap.size + 1, 2, none⟩) hb58.lt).trans (by rw [hb58.cell]; rfl)
  have cV : ∀ wx, Keep w8 wx → wx.cell? ⟨w.heap.size + 1, 6, none⟩ = some (.int .i64 x.val) := fun wx hx => (hx.cell (p := ⟨w.heap.size + 1, 6, none⟩) hb58.lt).trans (by rw [hb58.cell]; rfl)
  have cS : ∀ wx, Keep w8 wx → wx.cell? ⟨w.heap.size, 5, none⟩ = some (.int .i64 self) := fun wx hx => (hx.cell (p := ⟨w.heap.size, 5, none⟩) hb38.lt).trans (by rw [hb38.cell]; rfl)
  have c2 : ∀ wx, Keep w8 wx → wx.cell? ⟨w.heap.size, 2, none⟩ = some (.slice K2 y2 z2) := fun wx hx => (hx.cell (p := ⟨w.heap.size, 2, none⟩) hb38.lt).trans (by rw [hb38.cell]; rfl)
  have c3 : ∀ wx, Keep w8 wx → wx.cell? ⟨w.heap.size, 3, none⟩ = some (.slice K3 y3 z3) := fun wx hx => (hx.cell (p := ⟨w.heap.size, 3, none⟩) hb38.lt).trans (by rw [hb38.cell]; rfl)
  have c4 : ∀ wx, Keep w8 wx → wx.cell? ⟨w.heap.size, 4, none⟩ = some (.slice K4 y4 z4) := fun wx hx => (hx.cell (p := ⟨w.heap.size, 4, none⟩) hb38.lt).trans (by rw [hb38.cell]; rfl)
  have hbk : ∀ wx, Keep w8 wx → Blk wx w.heap.size 130 #[.slice K0 y0 z0, .slice K1 y1 z1, .slice K2 y2 z2, .slice K3 y3 z3, .slice K4 y4 z4, .int .i64 self, .int .i64 procs] := fun wx hx => hx.blk hb38 hb38.lt
  have key : ∀ (wx : World) (A : Option Addr) (m c : Nat) (body : List Stm) (frm : Int), Keep w8 wx → SlR w S 18 (StmR w S 3) A m c body → Calls Try.prog 62 #[.agg #[.slice K0 y0 z0, .slice K1 y1 z1, .slice K2 y2 z2, .slice K3 y3 z3, .slice K4 y4 z4, .int .i64 self, .int .i64 procs], .pointer (some ⟨g, 0, none⟩), .slice A m c, .slice D1 p1 q1, .int .i64 frm, .int .i64 x.val, .int .i64 ((s.events.length : Int) + 1)] wx (HrPost L g (runS ⟨self, procs, frm, x.val⟩ body s.cells ((s.events.length : Int) + 1) { s with events := s.events ++ [x] }) w) := fun wx A m c body frm hx hb => by
    have hsx : Same S w wx := Same.trans hsS hx (fun i hi => by have := (HS.out i hi).1; omega)
    refine (hrun_any wx L3 g { s with events := s.events ++ [x] } S K0 K1 K2 K3 K4 A D1 y0 z0 y1 z1 y2 z2 y3 z3 y4 z4 m c p1 q1 self procs frm x.val ((s.events.length : Int) + 1) body s.cells (hst3.keep hx (fun _ _ => rfl)) (fun i hi => ⟨by have := (HS.out i hi).1; have := hx.size; omega, by rw [hL3o i (HS.out i hi).1]; exact (HS.out i hi).2⟩) (hb.keep hsx (StmR.keep hsx _)) ((r2'.keep hx).more (fun i hi => Nat.lt_of_lt_of_le hi hx.size)) h1 h2 h3).mono ?_
    intro e w' h
    exact HrPost.from_ h hL3o (Same.trans hsw hx (fun i hi => by have := hi.1; omega))
  have hnx : nextS c self procs s x = if x.kind = 1 then runS ⟨self, procs, x.frm, x.val⟩ c.message s.cells ((s.events.length : Int) + 1) { s with events := s.events ++ [x] } else if x.kind = 2 then runS ⟨self, procs, self, x.val⟩ c.tick s.cells ((s.events.length : Int) + 1) { s with events := s.events ++ [x] } else if x.kind = 3 then runS ⟨self, procs, self, x.val⟩ c.input s.cells ((s.events.length : Int) + 1) { s with events := s.events ++ [x] } else { s with events := s.events ++ [x] } := rfl
  have hend : HrPost L g { s with events := s.events ++ [x] } w (.returned (.tuple #[])) w8 := ⟨rfl, L3, hL3o, hst3, hsw⟩
  clear hb38 hb58 hsS hsw hst3 hL3 hL3o hs3 hg1 r2 r2' r3 r4 r5 hbg
  have KEY := Lib.hid key
  have HNX := Lib.hid hnx
  have HEND := Lib.hid hend
  have C0 := Lib.hid c0
  have CF := Lib.hid cF
  have CV := Lib.hid cV
  have CS := Lib.hid cS
  have C2 := Lib.hid c2
  have C3 := Lib.hid c3
  have C4 := Lib.hid c4
  have HBK := Lib.hid hbk
  clear key hnx hend c0 cF cV cS c2 c3 c4 hbk
  by_cases hk1 : x.kind = 1
  · have kb : (x.kind == 1) = true := by simpa using hk1
    have hq := HNX.out
    rw [if_pos hk1] at hq
    have hcall := fun wx (hx : Keep w8 wx) => KEY.out wx K2 y2 z2 c.message x.frm hx U2.out
    rw [← hq] at hcall
    have HCALL := Lib.hid hcall
    clear hcall
    clear hq
    as_aux_lemma =>
    go_upto_region 5 with fail
    have c0 := C0.out
    have cV := CV.out
    have cF := CF.out
    have c2 := C2.out
    clear f1 f5
    refine wp_region_L 14 (fun wx => Keep w8 wx) (fun _ => True) (by kernel_rfl) (Same.drew (Same.refl _ _)) trivial (fun hA hB => ?_)
    refine wpL_takeA (i := 0) rfl (by kernel_rfl) (by kernel_rfl) (by kernel_rfl) (by kernel_rfl) (by decide) (fun _ _ _ h => h) (yieldsIf_blk (by rfl) _ _ rfl w.heap.size 0 130 _ [.slice K0 y0 z0, .slice K1 y1 z1, .slice K2 y2 z2, .slice K3 y3 z3, .slice K4 y4 z4, .int .i64 self, .int .i64 procs] _ rfl (fun wx hx => HBK.out wx hx.1) (fun j u hu => by simpa using hu) Try.underlying130 rfl (by kernel_rfl)) hA hB ?_
    try simp only [Act.put, List.setIfInBounds_toArray, List.set_cons_zero, List.set_cons_succ]
    refine wpL_takeA (i := 1) (v := ?_) rfl (by kernel_rfl) (by kernel_rfl) (by kernel_rfl) (by kernel_rfl) (by decide) (fun _ _ _ h => h) (Or.inl ⟨by rfl, ?_⟩) hA hB ?_
    rotate_left
    · rintro wx ⟨hAx, hBx⟩
      (try dsimp only at hBx); (try dsimp only at hAx)
      go_simp
      try with_reducible rfl
    try simp only [Act.put, List.setIfInBounds_toArray, List.set_cons_zero, List.set_cons_succ]
    refine wpL_takeB (i := 2) (v := ?_) rfl (by kernel_rfl) (by kernel_rfl) (by kernel_rfl) (by decide) (fun _ _ _ h => h) (Or.inl ⟨by rfl, ?_⟩) (SAB.both hA hB) ?_
    rotate_left
    · intro wx hBx
      (try dsimp only at hBx)
      go_simp
      try with_reducible rfl
    try simp only [Act.put, List.setIfInBounds_toArray, List.set_cons_zero, List.set_cons_succ]
    refine wpL_takeB (i := 3) (v := ?_) rfl (by kernel_rfl) (by kernel_rfl) (by kernel_rfl) (by decide) (fun _ _ _ h => h) (Or.inl ⟨by rfl, ?_⟩) (SAB.both hA hB) ?_
    rotate_left
    · intro wx hBx
      (try dsimp only at hBx)
      go_simp
      try with_reducible rfl
    try simp only [Act.put, List.setIfInBounds_toArray, List.set_cons_zero, List.set_cons_succ]
    refine wpL_takeA (i := 4) (v := ?_) rfl (by kernel_rfl) (by kernel_rfl) (by kernel_rfl) (by kernel_rfl) (by decide) (fun _ _ _ h => h) (Or.inl ⟨by rfl, ?_⟩) hA hB ?_
    rotate_left
    · rintro wx ⟨hAx, hBx⟩
      (try dsimp only at hBx); (try dsimp only at hAx)
      go_simp
      try with_reducible rfl
    try simp only [Act.put, List.setIfInBounds_toArray, List.set_cons_zero, List.set_cons_succ]
    refine wpL_takeB (i := 5) (v := ?_) rfl (by kernel_rfl) (by kernel_rfl) (by kernel_rfl) (by decide) (fun _ _ _ h => h) (Or.inl ⟨by rfl, ?_⟩) (SAB.both hA hB) ?_
    rotate_left
    · intro wx hBx
      (try dsimp only at hBx)
      go_simp
      try with_reducible rfl
    try simp only [Act.put, List.setIfInBounds_toArray, List.set_cons_zero, List.set_cons_succ]
    refine wpL_takeB (i := 6) (v := ?_) rfl (by kernel_rfl) (by kernel_rfl) (by kernel_rfl) (by decide) (fun _ _ _ h => h) (Or.inl ⟨by rfl, ?_⟩) (SAB.both hA hB) ?_
    rotate_left
    · intro wx hBx
      (try dsimp only at hBx)
      go_simp
      try with_reducible rfl
    try simp only [Act.put, List.setIfInBounds_toArray, List.set_cons_zero, List.set_cons_succ]
    refine wpL_takeB (i := 7) (v := ?_) rfl (by kernel_rfl) (by kernel_rfl) (by kernel_rfl) (by decide) (fun _ _ _ h => h) (Or.inl ⟨by rfl, ?_⟩) (SAB.both hA hB) ?_
    rotate_left
    · intro wx hBx
      (try dsimp only at hBx)
      go_simp
      try with_reducible rfl
    try simp only [Act.put, List.setIfInBounds_toArray, List.set_cons_zero, List.set_cons_succ]
    refine wpL_takeA (i := 8) (v := ?_) rfl (by kernel_rfl) (by kernel_rfl) (by kernel_rfl) (by kernel_rfl) (by decide) (fun _ _ _ h => h) (Or.inl ⟨by rfl, ?_⟩) hA hB ?_
    rotate_left
    · rintro wx ⟨hAx, hBx⟩
      (try dsimp only at hBx); (try dsimp only at hAx)
      go_simp
      try with_reducible rfl
    try simp only [Act.put, List.setIfInBounds_toArray, List.set_cons_zero, List.set_cons_succ]
    refine wpL_takeB (i := 9) (v := ?_) rfl (by kernel_rfl) (by kernel_rfl) (by kernel_rfl) (by decide) (fun _ _ _ h => h) (Or.inl ⟨by rfl, ?_⟩) (SAB.both hA hB) ?_
    rotate_left
    · intro wx hBx
      (try dsimp only at hBx)
      go_simp
      try with_reducible rfl
    try simp only [Act.put, List.setIfInBounds_toArray, List.set_cons_zero, List.set_cons_succ]
    refine wpL_takeA (i := 10) (v := ?_) rfl (by kernel_rfl) (by kernel_rfl) (by kernel_rfl) (by kernel_rfl) (by decide) (fun _ _ _ h => h) (Or.inl ⟨by rfl, ?_⟩) hA hB ?_
    rotate_left
    · rintro wx ⟨hAx, hBx⟩
      (try dsimp only at hBx); (try dsimp only at hAx)
      go_simp
      try with_reducible rfl
    try simp only [Act.put, List.setIfInBounds_toArray, List.set_cons_zero, List.set_cons_succ]
    refine wpL_takeB (i := 11) (v := ?_) rfl (by kernel_rfl) (by kernel_rfl) (by kernel_rfl) (by decide) (fun _ _ _ h => h) (Or.inl ⟨by rfl, ?_⟩) (SAB.both hA hB) ?_
    rotate_left
    · intro wx hBx
      (try dsimp only at hBx)
      go_simp
      try with_reducible rfl
    try simp only [Act.put, List.setIfInBounds_toArray, List.set_cons_zero, List.set_cons_succ]
    refine wpL_takeA (i := 12) (v := ?_) rfl (by kernel_rfl) (by kernel_rfl) (by kernel_rfl) (by kernel_rfl) (by decide) (fun _ _ _ h => h) (Or.inl ⟨by rfl, ?_⟩) hA hB ?_
    rotate_left
    · rintro wx ⟨hAx, hBx⟩
      (try dsimp only at hBx); (try dsimp only at hAx)
      go_simp
      try with_reducible rfl
    try simp only [Act.put, List.setIfInBounds_toArray, List.set_cons_zero, List.set_cons_succ]
    refine wpL_takeA (i := 13) (v := ?_) rfl (by kernel_rfl) (by kernel_rfl) (by kernel_rfl) (by kernel_rfl) (by decide) (fun _ _ _ h => h) (Or.inl ⟨by rfl, ?_⟩) hA hB ?_
    rotate_left
    · rintro wx ⟨hAx, hBx⟩
      (try dsimp only at hBx); (try dsimp only at hAx)
      go_simp
      try with_reducible rfl
    try simp only [Act.put, List.setIfInBounds_toArray, List.set_cons_zero, List.set_cons_succ]
    clear c0 cV cF c2
    refine wpL_one (i := 14) (by kernel_rfl) (StepL.mk rfl (fun K hK => ?_))
    go_simp
    refine (HCALL.out _ hA).mono ?_
    rintro e w9 h9
    have he := h9.1
    subst he
    refine hK.out _ _ (SAB.past (by kernel_rfl) trivial) (fun hSS => ?_)
    clear hK K hA hB
    have hB := hSS.2
    have hA : True := trivial
    (try dsimp only at hB); (try dsimp only at hA); clear hSS
    try simp only [Act.put, List.setIfInBounds_toArray, List.set_cons_zero, List.set_cons_succ]
    refine wpL_done (by kernel_rfl) ?_
    have H9 := Lib.hid h9
    clear h9
    clear hA hB
    go_wp2_with fail
    exact bodyPost_end (results_none Try.results66 _ _ _) rfl H9.out
  have kf1 : (x.kind == 1) = false := by simpa using hk1
  by_cases hk2 : x.kind = 2
  · have kb : (x.kind == 2) = true := by simpa using hk2
    have hq := HNX.out
    rw [if_neg hk1, if_pos hk2] at hq
    have hcall := fun wx (hx : Keep w8 wx) => KEY.out wx K3 y3 z3 c.tick self hx U3.out
    rw [← hq] at hcall
    have HCALL := Lib.hid hcall
    clear hcall
    clear hq
    as_aux_lemma =>
    go_upto_region 7 with fail
    have c0 := C0.out
    have cV := CV.out
    have cS := CS.out
    have c3 := C3.out
    clear f1 f5
    refine wp_region_L 14 (fun wx => Keep w8 wx) (fun _ => True) (by kernel_rfl) (Same.drew (Same.refl _ _)) trivial (fun hA hB => ?_)
    refine wpL_takeA (i := 0) rfl (by kernel_rfl) (by kernel_rfl) (by kernel_rfl) (by kernel_rfl) (by decide) (fun _ _ _ h => h) (yieldsIf_blk (by rfl) _ _ rfl w.heap.size 0 130 _ [.slice K0 y0 z0, .slice K1 y1 z1, .slice K2 y2 z2, .slice K3 y3 z3, .slice K4 y4 z4, .int .i64 self, .int .i64 procs] _ rfl (fun wx hx => HBK.out wx hx.1) (fun j u hu => by simpa using hu) Try.underlying130 rfl (by kernel_rfl)) hA hB ?_
    try simp only [Act.put, List.setIfInBounds_toArray, List.set_cons_zero, List.set_cons_succ]
    refine wpL_takeA (i := 1) (v := ?_) rfl (by kernel_rfl) (by kernel_rfl) (by kernel_rfl) (by kernel_rfl) (by decide) (fun _ _ _ h => h) (Or.inl ⟨by rfl, ?_⟩) hA hB ?_
    rotate_left
    · rintro wx ⟨hAx, hBx⟩
      (try dsimp only at hBx); (try dsimp only at hAx)
      go_simp
      try with_reducible rfl
    try simp only [Act.put, List.setIfInBounds_toArray, List.set_cons_zero, List.set_cons_succ]
    refine wpL_takeB (i := 2) (v := ?_) rfl (by kernel_rfl) (by kernel_rfl) (by kernel_rfl) (by decide) (fun _ _ _ h => h) (Or.inl ⟨by rfl, ?_⟩) (SAB.both hA hB) ?_
    rotate_left
    · intro wx hBx
      (try dsimp only at hBx)
      go_simp
      try with_reducible rfl
    try simp only [Act.put, List.setIfInBounds_toArray, List.set_cons_zero, List.set_cons_succ]
    refine wpL_takeB (i := 3) (v := ?_) rfl (by kernel_rfl) (by kernel_rfl) (by kernel_rfl) (by decide) (fun _ _ _ h => h) (Or.inl ⟨by rfl, ?_⟩) (SAB.both hA hB) ?_
    rotate_left
    · intro wx hBx
      (try dsimp only at hBx)
      go_simp
      try with_reducible rfl
    try simp only [Act.put, List.setIfInBounds_toArray, List.set_cons_zero, List.set_cons_succ]
    refine wpL_takeA (i := 4) (v := ?_) rfl (by kernel_rfl) (by kernel_rfl) (by kernel_rfl) (by kernel_rfl) (by decide) (fun _ _ _ h => h) (Or.inl ⟨by rfl, ?_⟩) hA hB ?_
    rotate_left
    · rintro wx ⟨hAx, hBx⟩
      (try dsimp only at hBx); (try dsimp only at hAx)
      go_simp
      try with_reducible rfl
    try simp only [Act.put, List.setIfInBounds_toArray, List.set_cons_zero, List.set_cons_succ]
    refine wpL_takeB (i := 5) (v := ?_) rfl (by kernel_rfl) (by kernel_rfl) (by kernel_rfl) (by decide) (fun _ _ _ h => h) (Or.inl ⟨by rfl, ?_⟩) (SAB.both hA hB) ?_
    rotate_left
    · intro wx hBx
      (try dsimp only at hBx)
      go_simp
      try with_reducible rfl
    try simp only [Act.put, List.setIfInBounds_toArray, List.set_cons_zero, List.set_cons_succ]
    refine wpL_takeB (i := 6) (v := ?_) rfl (by kernel_rfl) (by kernel_rfl) (by kernel_rfl) (by decide) (fun _ _ _ h => h) (Or.inl ⟨by rfl, ?_⟩) (SAB.both hA hB) ?_
    rotate_left
    · intro wx hBx
      (try dsimp only at hBx)
      go_simp
      try with_reducible rfl
    try simp only [Act.put, List.setIfInBounds_toArray, List.set_cons_zero, List.set_cons_succ]
    refine wpL_takeB (i := 7) (v := ?_) rfl (by kernel_rfl) (by kernel_rfl) (by kernel_rfl) (by decide) (fun _ _ _ h => h) (Or.inl ⟨by rfl, ?_⟩) (SAB.both hA hB) ?_
    rotate_left
    · intro wx hBx
      (try dsimp only at hBx)
      go_simp
      try with_reducible rfl
    try simp only [Act.put, List.setIfInBounds_toArray, List.set_cons_zero, List.set_cons_succ]
    refine wpL_takeA (i := 8) (v := ?_) rfl (by kernel_rfl) (by kernel_rfl) (by kernel_rfl) (by kernel_rfl) (by decide) (fun _ _ _ h => h) (Or.inl ⟨by rfl, ?_⟩) hA hB ?_
    rotate_left
    · rintro wx ⟨hAx, hBx⟩
      (try dsimp only at hBx); (try dsimp only at hAx)
      go_simp
      try with_reducible rfl
    try simp only [Act.put, List.setIfInBounds_toArray, List.set_cons_zero, List.set_cons_succ]
    refine wpL_takeB (i := 9) (v := ?_) rfl (by kernel_rfl) (by kernel_rfl) (by kernel_rfl) (by decide) (fun _ _ _ h => h) (Or.inl ⟨by rfl, ?_⟩) (SAB.both hA hB) ?_
    rotate_left
    · intro wx hBx
      (try dsimp only at hBx)
      go_simp
      try with_reducible rfl
    try simp only [Act.put, List.setIfInBounds_toArray, List.set_cons_zero, List.set_cons_succ]
    refine wpL_takeA (i := 10) (v := ?_) rfl (by kernel_rfl) (by kernel_rfl) (by kernel_rfl) (by kernel_rfl) (by decide) (fun _ _ _ h => h) (Or.inl ⟨by rfl, ?_⟩) hA hB ?_
    rotate_left
    · rintro wx ⟨hAx, hBx⟩
      (try dsimp only at hBx); (try dsimp only at hAx)
      go_simp
      try with_reducible rfl
    try simp only [Act.put, List.setIfInBounds_toArray, List.set_cons_zero, List.set_cons_succ]
    refine wpL_takeB (i := 11) (v := ?_) rfl (by kernel_rfl) (by kernel_rfl) (by kernel_rfl) (by decide) (fun _ _ _ h => h) (Or.inl ⟨by rfl, ?_⟩) (SAB.both hA hB) ?_
    rotate_left
    · intro wx hBx
      (try dsimp only at hBx)
      go_simp
      try with_reducible rfl
    try simp only [Act.put, List.setIfInBounds_toArray, List.set_cons_zero, List.set_cons_succ]
    refine wpL_takeA (i := 12) (v := ?_) rfl (by kernel_rfl) (by kernel_rfl) (by kernel_rfl) (by kernel_rfl) (by decide) (fun _ _ _ h => h) (Or.inl ⟨by rfl, ?_⟩) hA hB ?_
    rotate_left
    · rintro wx ⟨hAx, hBx⟩
      (try dsimp only at hBx); (try dsimp only at hAx)
      go_simp
      try with_reducible rfl
    try simp only [Act.put, List.setIfInBounds_toArray, List.set_cons_zero, List.set_cons_succ]
    refine wpL_takeA (i := 13) (v := ?_) rfl (by kernel_rfl) (by kernel_rfl) (by kernel_rfl) (by kernel_rfl) (by decide) (fun _ _ _ h => h) (Or.inl ⟨by rfl, ?_⟩) hA hB ?_
    rotate_left
    · rintro wx ⟨hAx, hBx⟩
      (try dsimp only at hBx); (try dsimp only at hAx)
      go_simp
      try with_reducible rfl
    try simp only [Act.put, List.setIfInBounds_toArray, List.set_cons_zero, List.set_cons_succ]
    clear c0 cV cS c3
    refine wpL_one (i := 14) (by kernel_rfl) (StepL.mk rfl (fun K hK => ?_))
    go_simp
    refine (HCALL.out _ hA).mono ?_
    rintro e w9 h9
    have he := h9.1
    subst he
    refine hK.out _ _ (SAB.past (by kernel_rfl) trivial) (fun hSS => ?_)
    clear hK K hA hB
    have hB := hSS.2
    have hA : True := trivial
    (try dsimp only at hB); (try dsimp only at hA); clear hSS
    try simp only [Act.put, List.setIfInBounds_toArray, List.set_cons_zero, List.set_cons_succ]
    refine wpL_done (by kernel_rfl) ?_
    have H9 := Lib.hid h9
    clear h9
    clear hA hB
    go_wp2_with fail
    exact bodyPost_end (results_none Try.results66 _ _ _) rfl H9.out
  have kf2 : (x.kind == 2) = false := by simpa using hk2
  by_cases hk3 : x.kind = 3
  · have kb : (x.kind == 3) = true := by simpa using hk3
    have hq := HNX.out
    rw [if_neg hk1, if_neg hk2, if_pos hk3] at hq
    have hcall := fun wx (hx : Keep w8 wx) => KEY.out wx K4 y4 z4 c.input self hx U4.out
    rw [← hq] at hcall
    have HCALL := Lib.hid hcall
    clear hcall
    clear hq
    as_aux_lemma =>
    go_upto_region 9 with fail
    have c0 := C0.out
    have cV := CV.out
    have cS := CS.out
    have c4 := C4.out
    clear f1 f5
    refine wp_region_L 14 (fun wx => Keep w8 wx) (fun _ => True) (by kernel_rfl) (Same.drew (Same.refl _ _)) trivial (fun hA hB => ?_)
    refine wpL_takeA (i := 0) rfl (by kernel_rfl) (by kernel_rfl) (by kernel_rfl) (by kernel_rfl) (by decide) (fun _ _ _ h => h) (yieldsIf_blk (by rfl) _ _ rfl w.heap.size 0 130 _ [.slice K0 y0 z0, .slice K1 y1 z1, .slice K2 y2 z2, .slice K3 y3 z3, .slice K4 y4 z4, .int .i64 self, .int .i64 procs] _ rfl (fun wx hx => HBK.out wx hx.1) (fun j u hu => by simpa using hu) Try.underlying130 rfl (by kernel_rfl)) hA hB ?_
    try simp only [Act.put, List.setIfInBounds_toArray, List.set_cons_zero, List.set_cons_succ]
    refine wpL_takeA (i := 1) (v := ?_) rfl (by kernel_rfl) (by kernel_rfl) (by kernel_rfl) (by kernel_rfl) (by decide) (fun _ _ _ h => h) (Or.inl ⟨by rfl, ?_⟩) hA hB ?_
    rotate_left
    · rintro wx ⟨hAx, hBx⟩
      (try dsimp only at hBx); (try dsimp only at hAx)
      go_simp
      try with_reducible rfl
    try simp only [Act.put, List.setIfInBounds_toArray, List.set_cons_zero, List.set_cons_succ]
    refine wpL_takeB (i := 2) (v := ?_) rfl (by kernel_rfl) (by kernel_rfl) (by kernel_rfl) (by decide) (fun _ _ _ h => h) (Or.inl ⟨by rfl, ?_⟩) (SAB.both hA hB) ?_
    rotate_left
    · intro wx hBx
      (try dsimp only at hBx)
      go_simp
      try with_reducible rfl
    try simp only [Act.put, List.setIfInBounds_toArray, List.set_cons_zero, List.set_cons_succ]
    refine wpL_takeB (i := 3) (v := ?_) rfl (by kernel_rfl) (by kernel_rfl) (by kernel_rfl) (by decide) (fun _ _ _ h => h) (Or.inl ⟨by rfl, ?_⟩) (SAB.both hA hB) ?_
    rotate_left
    · intro wx hBx
      (try dsimp only at hBx)
      go_simp
      try with_reducible rfl
    try simp only [Act.put, List.setIfInBounds_toArray, List.set_cons_zero, List.set_cons_succ]
    refine wpL_takeA (i := 4) (v := ?_) rfl (by kernel_rfl) (by kernel_rfl) (by kernel_rfl) (by kernel_rfl) (by decide) (fun _ _ _ h => h) (Or.inl ⟨by rfl, ?_⟩) hA hB ?_
    rotate_left
    · rintro wx ⟨hAx, hBx⟩
      (try dsimp only at hBx); (try dsimp only at hAx)
      go_simp
      try with_reducible rfl
    try simp only [Act.put, List.setIfInBounds_toArray, List.set_cons_zero, List.set_cons_succ]
    refine wpL_takeB (i := 5) (v := ?_) rfl (by kernel_rfl) (by kernel_rfl) (by kernel_rfl) (by decide) (fun _ _ _ h => h) (Or.inl ⟨by rfl, ?_⟩) (SAB.both hA hB) ?_
    rotate_left
    · intro wx hBx
      (try dsimp only at hBx)
      go_simp
      try with_reducible rfl
    try simp only [Act.put, List.setIfInBounds_toArray, List.set_cons_zero, List.set_cons_succ]
    refine wpL_takeB (i := 6) (v := ?_) rfl (by kernel_rfl) (by kernel_rfl) (by kernel_rfl) (by decide) (fun _ _ _ h => h) (Or.inl ⟨by rfl, ?_⟩) (SAB.both hA hB) ?_
    rotate_left
    · intro wx hBx
      (try dsimp only at hBx)
      go_simp
      try with_reducible rfl
    try simp only [Act.put, List.setIfInBounds_toArray, List.set_cons_zero, List.set_cons_succ]
    refine wpL_takeB (i := 7) (v := ?_) rfl (by kernel_rfl) (by kernel_rfl) (by kernel_rfl) (by decide) (fun _ _ _ h => h) (Or.inl ⟨by rfl, ?_⟩) (SAB.both hA hB) ?_
    rotate_left
    · intro wx hBx
      (try dsimp only at hBx)
      go_simp
      try with_reducible rfl
    try simp only [Act.put, List.setIfInBounds_toArray, List.set_cons_zero, List.set_cons_succ]
    refine wpL_takeA (i := 8) (v := ?_) rfl (by kernel_rfl) (by kernel_rfl) (by kernel_rfl) (by kernel_rfl) (by decide) (fun _ _ _ h => h) (Or.inl ⟨by rfl, ?_⟩) hA hB ?_
    rotate_left
    · rintro wx ⟨hAx, hBx⟩
      (try dsimp only at hBx); (try dsimp only at hAx)
      go_simp
      try with_reducible rfl
    try simp only [Act.put, List.setIfInBounds_toArray, List.set_cons_zero, List.set_cons_succ]
    refine wpL_takeB (i := 9) (v := ?_) rfl (by kernel_rfl) (by kernel_rfl) (by kernel_rfl) (by decide) (fun _ _ _ h => h) (Or.inl ⟨by rfl, ?_⟩) (SAB.both hA hB) ?_
    rotate_left
    · intro wx hBx
      (try dsimp only at hBx)
      go_simp
      try with_reducible rfl
    try simp only [Act.put, List.setIfInBounds_toArray, List.set_cons_zero, List.set_cons_succ]
    refine wpL_takeA (i := 10) (v := ?_) rfl (by kernel_rfl) (by kernel_rfl) (by kernel_rfl) (by kernel_rfl) (by decide) (fun _ _ _ h => h) (Or.inl ⟨by rfl, ?_⟩) hA hB ?_
    rotate_left
    · rintro wx ⟨hAx, hBx⟩
      (try dsimp only at hBx); (try dsimp only at hAx)
      go_simp
      try with_reducible rfl
    try simp only [Act.put, List.setIfInBounds_toArray, List.set_cons_zero, List.set_cons_succ]
    refine wpL_takeB (i := 11) (v := ?_) rfl (by kernel_rfl) (by kernel_rfl) (by kernel_rfl) (by decide) (fun _ _ _ h => h) (Or.inl ⟨by rfl, ?_⟩) (SAB.both hA hB) ?_
    rotate_left
    · intro wx hBx
      (try dsimp only at hBx)
      go_simp
      try with_reducible rfl
    try simp only [Act.put, List.setIfInBounds_toArray, List.set_cons_zero, List.set_cons_succ]
    refine wpL_takeA (i := 12) (v := ?_) rfl (by kernel_rfl) (by kernel_rfl) (by kernel_rfl) (by kernel_rfl) (by decide) (fun _ _ _ h => h) (Or.inl ⟨by rfl, ?_⟩) hA hB ?_
    rotate_left
    · rintro wx ⟨hAx, hBx⟩
      (try dsimp only at hBx); (try dsimp only at hAx)
      go_simp
      try with_reducible rfl
    try simp only [Act.put, List.setIfInBounds_toArray, List.set_cons_zero, List.set_cons_succ]
    refine wpL_takeA (i := 13) (v := ?_) rfl (by kernel_rfl) (by kernel_rfl) (by kernel_rfl) (by kernel_rfl) (by decide) (fun _ _ _ h => h) (Or.inl ⟨by rfl, ?_⟩) hA hB ?_
    rotate_left
    · rintro wx ⟨hAx, hBx⟩
      (try dsimp only at hBx); (try dsimp only at hAx)
      go_simp
      try with_reducible rfl
    try simp only [Act.put, List.setIfInBounds_toArray, List.set_cons_zero, List.set_cons_succ]
    clear c0 cV cS c4
    refine wpL_one (i := 14) (by kernel_rfl) (StepL.mk rfl (fun K hK => ?_))
    go_simp
    refine (HCALL.out _ hA).mono ?_
    rintro e w9 h9
    have he := h9.1
    subst he
    refine hK.out _ _ (SAB.past (by kernel_rfl) trivial) (fun hSS => ?_)
    clear hK K hA hB
    have hB := hSS.2
    have hA : True := trivial
    (try dsimp only at hB); (try dsimp only at hA); clear hSS
    try simp only [Act.put, List.setIfInBounds_toArray, List.set_cons_zero, List.set_cons_succ]
    refine wpL_done (by kernel_rfl) ?_
    have H9 := Lib.hid h9
    clear h9
    clear hA hB
    go_wp2_with fail
    exact bodyPost_end (results_none Try.results66 _ _ _) rfl H9.out
  have kf3 : (x.kind == 3) = false := by simpa using hk3
  have hq := HNX.out
  rw [if_neg hk1, if_neg hk2, if_neg hk3] at hq
  have hend := HEND.out
  rw [← hq] at hend
  clear hq HEND
  have HEND := Lib.hid hend
  clear hend
  go_wp2_with fail
  exact bodyPost_end (results_none Try.results66 _ _ _) rfl HEND.out
end Go.Proofs.Ythmepnpjagpcnaa
