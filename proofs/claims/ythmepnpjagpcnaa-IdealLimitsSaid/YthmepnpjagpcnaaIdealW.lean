/- ideal: show and execute. -/
import Derived.Test.YthmepnpjagpcnaaIdealE
import Derived.Test.YthmepnpjagpcnaaProcP4
import Derived.Test.YthmepnpjagpcnaaProcP5
import Derived.Test.YthmepnpjagpcnaaIdealP
set_option linter.unusedVariables false
set_option linter.unusedSimpArgs false
set_option maxRecDepth 100000
namespace Go.Proofs.Ythmepnpjagpcnaa
open Go.RowKit Go.Proofs

section
variable {P : Program} {ops : Array Oper} {rest : List Oper} {o : Oper} {a : Act} {w : World} {Q : Exit → Act → World → Prop}
theorem wpList_yield (hgd : o.guard = none) (v : Value) (h : (execOp a.eval o).run P w = .ok (.value v) w) (k : wpList P ops Q rest (a.put o.dst v) w) : wpList P ops Q (o :: rest) a w :=
  wpList_plain hgd fun _ hK => by
    unfold Oper.wp
    rw [h]
    exact hK _ _ k
end
theorem info_Shown : (Try.prog.info? 101).map (fun i => (i.zero, i.size, i.bytes)) = some (some (.agg #[.int .i64 0, .int .i64 0, .int .i64 0, .int .i64 0]), 4, 32) := by kernel_rfl
theorem bld_shown (a b c d : Int) : Try.prog.built 101 [(0, .int .i64 a), (1, .int .i64 b), (2, .int .i64 c), (3, .int .i64 d)] = some #[.int .i64 a, .int .i64 b, .int .i64 c, .int .i64 d] := by kernel_rfl
theorem built_shown (a b c d : Int) : builtS Try.prog 101 1 [(0, .agg #[.int .i64 a, .int .i64 b, .int .i64 c, .int .i64 d])] = some #[.int .i64 a, .int .i64 b, .int .i64 c, .int .i64 d] := by kernel_rfl
/-- The machine's row of outputs has been appended to. -/
theorem MiM.grow {w u w' wz : World} {base gm gs : Nat} {VC : Value} {A A' : Option Addr} {c c' : Nat} {css : List (List Value)} {ss : List St} {l : List Sh} {x : Sh} (h : MiM w base gm gs VC A c css ⟨ss, l⟩) (hB : base ≤ w.heap.size) (hk : Keep w u)
    (hown : w'.ownsRow base 101 4 (.slice A' (l.length + 1) c') (l.length + 1) (l.flatMap encSh ++ encSh x)) (hg : u.grownBy w' (Value.slice A l.length c).ownBlock) (hat : (Value.slice A' (l.length + 1) c').ownBlock = (Value.slice A l.length c).ownBlock ∨ (Value.slice A' (l.length + 1) c').ownBlock = some u.heap.size)
    (hb : Blk wz gm 110 #[VC, .slice (some ⟨gs, 0, none⟩) ss.length ss.length, .slice A' (l.length + 1) c']) (hs : Same (· ≠ gm) w' wz) :
    MiM wz base gm gs VC A' c' css ⟨ss, l ++ [x]⟩ ∧ Same (· < base) w wz := by
  obtain ⟨h1, h2, h3, h4, h5, h6, h7, h8⟩ := h
  have hz := hk.size
  have lt4 := h4.lt
  have lt7 := h7.lt
  have hS : Same (But w (MiX gm gs (.slice A l.length c))) w w' := Same.grown (hk.mono (fun i hi => hi.1)) hg (fun i hi => by have := hi.1; omega) (fun k hk' hh => hh.2 (.inr (.inr hk')))
  have hS2 : Same (fun i => i < w.heap.size ∧ (Value.slice A l.length c).ownBlock ≠ some i) w w' := Same.grown (hk.mono (fun i hi => hi.1)) hg (fun i hi => by have := hi.1; omega) (fun k hk' hh => hh.2 hk')
  have hz2 := hS.size
  have hne : ∀ i, But w (MiX gm gs (.slice A l.length c)) i → ¬ MiX gm gs (.slice A' (l.length + 1) c') i := fun i hi hx => by
    rcases hx with e | e | e
    · exact hi.2 (.inl e)
    · exact hi.2 (.inr (.inl e))
    · rcases hat with ha | ha
      · rw [ha] at e; exact hi.2 (.inr (.inr e))
      · rw [ha] at e; injection e with e; have := hi.1; omega
  have hown' : ∀ b, (Value.slice A' (l.length + 1) c').ownBlock = some b → b ≠ gm ∧ b ≠ gs := fun b e => by
    rcases hat with ha | ha
    · rw [ha] at e; exact h6 b e
    · rw [ha] at e; injection e with e; omega
  refine ⟨⟨h1, h2, h3, ?_, ?_, ?_, hs.blk (hS2.blk h7 ⟨lt7, fun e => (h6 _ e).2 rfl⟩) (fun e => h3 e.symm), ?_⟩, ?_⟩
  · simpa using hb
  · have := ownsRow_own hown hs (fun b e => (hown' b e).1)
    simpa using this
  · simpa using hown'
  · have := (h8.same hS (fun i hi => hi) hne).same hs (X' := MiX gm gs (.slice A' (l.length + 1) c')) (fun i hi e => hi.2 (.inl e)) (fun i hi => hi.2)
    simpa using this
  · refine Same.trans (S := (· < base)) (T := (· ≠ gm)) ?_ hs (fun i hi => by have : i < base := hi; omega)
    refine hS2.mono (fun i (hi : i < base) => ⟨by omega, fun e => ?_⟩)
    have := (h5.lt i e).1
    omega
def NotOwn (V : Value) (w : World) (i : Nat) : Prop := i < w.heap.size ∧ V.ownBlock ≠ some i
def ShwRel (base gm gs : Nat) (VC : Value) (css : List (List Value)) (ss : List St) (world : List Sh) (p : Int) (l : List Outp) (W : World) (i : Value) (wr : World) : Prop :=
  ∃ (k : Nat) (A' : Option Addr) (c' : Nat), i = .int .i64 k ∧ k ≤ l.length ∧ MiM wr base gm gs VC A' c' css ⟨ss, world ++ showS p 0 (l.take k)⟩ ∧ Same (· < base) W wr ∧ W.heap.size ≤ wr.heap.size
def ShowPost (base gm gs : Nat) (VC : Value) (css : List (List Value)) (m : Mi) (w : World) (e : Ending) (w' : World) : Prop := e = .returned (.tuple #[]) ∧ (∃ (A' : Option Addr) (c' : Nat), MiM w' base gm gs VC A' c' css m) ∧ Same (· < base) w w'
theorem show_take {p : Int} {l : List Outp} {k : Nat} {y : Outp} (h : l[k]? = some y) : showS p 0 (l.take (k + 1)) = showS p 0 (l.take k) ++ [⟨p, y.idx, k, y.val⟩] := by
  obtain ⟨hk, e⟩ := List.getElem?_eq_some_iff.1 h
  rw [List.take_succ_eq_append_getElem hk, e, showS_snoc, List.length_take, Nat.min_eq_left (by omega)]
  simp
set_option maxHeartbeats 16000000 in
theorem show_any (w : World) (base gm gs : Nat) (VC : Value) (A : Option Addr) (c : Nat) (css : List (List Value)) (m : Mi) (p k0 : Nat) (hm : MiM w base gm gs VC A c css m) (hB : base ≤ w.heap.size) (hn : m.ss.length ≤ 1000) (hp : p < m.ss.length)
    (hk0 : k0 ≤ (m.ss.getD p zeroSt).outs.length) (ho : (m.ss.getD p zeroSt).outs.length ≤ 10000) (hw : m.world.length ≤ 1000000) :
    Calls Try.prog 52 #[.pointer (some ⟨gm, 0, none⟩), .int .i64 p, .int .i64 k0] w (ShowPost base gm gs VC css ⟨m.ss, m.world ++ showS p 0 ((m.ss.getD p zeroSt).outs.drop k0)⟩ w) := by
  obtain ⟨i0, hi0, iz0, is0, ib0⟩ := info_of info_Shown
  have hmm := hm
  obtain ⟨hb1, hb2, hb3, hb4, -, -, hb7, hb8⟩ := hm
  obtain ⟨B1, B2, B3, B4, p1, q1, p2, q2, p3, q3, p4, q4, hcs, hst⟩ := hb8.at_ hp
  have c3 : w.cell? ⟨gs, p * 4 + 3, none⟩ = some (.slice B4 p4 q4) := hb8.cell hb7 hcs rfl
  have m1 : w.cell? ⟨gm, 1, none⟩ = some (.slice (some ⟨gs, 0, none⟩) m.ss.length m.ss.length) := by rw [hb4.cell]; rfl
  have hso := (st_sl hst).2.2.2
  have hp4 := hso.1
  have hq4 := hso.2.1
  have hq4' : q4 ≤ 9223372036854775807 := hso.2.2.1
  generalize hos : (m.ss.getD p zeroSt).outs = outs at *
  subst hp4
  have d1 : (p : Int) < m.ss.length := by omega
  have d2 : (0 : Int) ≤ p := by omega
  have d3 : (0 : Int) ≤ k0 := by omega
  have d4 : (k0 : Int) ≤ outs.length := by omega
  have hz0 : p + 1 ≤ m.ss.length := hp
  clear hb4 hb7 hb8 hso hst
  have HMM := Lib.hid hmm
  have HCS := Lib.hid hcs
  have HI0 := Lib.hid hi0
  have IZ0 := Lib.hid iz0
  have IS0 := Lib.hid is0
  have IB0 := Lib.hid ib0
  have HOS := Lib.hid hos
  clear hmm hcs hi0 iz0 is0 ib0 hos
  go_enter Try.func52, Try.ntmps52
  go_wp2_with (refine wpList_yield rfl (.slice (cutA B4 q4 k0 2) (outs.length - k0) (q4 - k0)) (by go_simp; rfl) ?_)
  clear c3 m1
  go_loopw [19] (fun i wr => ShwRel base gm gs VC css m.ss m.world p (outs.drop k0) w i wr) (fun i _ => outs.length - k0 - (intOf i).toNat)
  case atStart => exact ⟨0, A, c, rfl, Nat.zero_le _, by simpa [showS] using HMM.out, Same.refl _ _, Nat.le_refl _⟩
  case round =>
    obtain ⟨k, A', c', rfl, hkl, hmr, hsr, hzr⟩ := hrel
    have hlen : (showS p 0 ((outs.drop k0).take k)).length ≤ 10000 := by rw [showS_len, List.length_take, List.length_drop]; omega
    have hkl2 : k ≤ outs.length - k0 := by simpa using hkl
    by_cases hk : k < outs.length - k0
    · have hst := hmr.2.2.2.2.2.2.2.of HCS.out hp
      have hso := (st_sl hst).2.2.2
      rw [HOS.out] at hso
      have hso := hso.from_ encOut_len hk0
      obtain ⟨b, off, y, hAe, hSb, hy, hcell⟩ := hso.at_ encOut_len hk
      have hAe : cutA B4 q4 k0 2 = some ⟨b, off, none⟩ := hAe
      rw [hAe]
      have t0 : decide (k < outs.length - k0) = true := by simpa using hk
      have t1 : (0 : Int) ≤ k := by omega
      have t2 : (k : Int) < (outs.length - k0 : Nat) := by omega
      have hrg : wr.rangeAt b (off + k * 2) [.int .i64 y.idx, .int .i64 y.val] := hcell
      have htk := show_take (p := p) hy
      have hk1 : k + 1 ≤ (outs.drop k0).length := by simp; omega
      clear hcell hso hst hSb hy
      have HRG := Lib.hid hrg
      have HTK := Lib.hid htk
      have HK1 := Lib.hid hk1
      have HMR := Lib.hid hmr
      have HSR := Lib.hid hsr
      have HAE := Lib.hid hAe
      clear hrg htk hk1 hmr hsr hAe
      go_upto_region 3 with (first
        | (refine wpList_load_mid rfl _ (.tmp 22) rfl b (off + k * 2) rfl [.int .i64 y.idx, .int .i64 y.val] _ HRG.out Try.underlying133 rfl (by kernel_rfl) ?_)
        | (refine wpList_store_all rfl _ (.tmp 7) (.tmp 23) rfl wr.heap.size 133 _ [.int .i64 y.idx, .int .i64 y.val] rfl rfl (Blk.new _ _ _) rfl (by kernel_rfl) rfl ?_; intro w7 hb7 hs7))
      have hk7 : Keep wr w7 := Keep.write (Keep.new _ _) hs7 (Nat.le_refl _)
      have hz7 : wr.heap.size < w7.heap.size := hb7.lt
      have hm7 := HMR.out.keep hk7
      have hwl : (m.world ++ showS p 0 ((outs.drop k0).take k)).length ≤ 1010000 := by rw [List.length_append]; omega
      generalize hX : m.world ++ showS p 0 ((outs.drop k0).take k) = X at *
      have ngm : NotOwn (.slice A' X.length c') w7 gm := ⟨hm7.2.2.2.1.lt, fun e => (hm7.2.2.2.2.2.1 gm e).1 rfl⟩
      have nwr : NotOwn (.slice A' X.length c') w7 wr.heap.size := ⟨hz7, fun e => by have := (HMR.out.2.2.2.2.1.lt _ e).2; omega⟩
      have g2 : ∀ wx, Same (NotOwn (.slice A' X.length c') w7) w7 wx → wx.cell? ⟨gm, 2, none⟩ = some (.slice A' X.length c') := fun wx hx => (hx.cell (p := ⟨gm, 2, none⟩) ngm).trans (by rw [hm7.2.2.2.1.cell]; rfl)
      have y0 : ∀ wx, Same (NotOwn (.slice A' X.length c') w7) w7 wx → wx.cell? ⟨wr.heap.size, 0, none⟩ = some (.int .i64 y.idx) := fun wx hx => (hx.cell (p := ⟨wr.heap.size, 0, none⟩) nwr).trans (by rw [hb7.cell]; rfl)
      have y1 : ∀ wx, Same (NotOwn (.slice A' X.length c') w7) w7 wx → wx.cell? ⟨wr.heap.size, 1, none⟩ = some (.int .i64 y.val) := fun wx hx => (hx.cell (p := ⟨wr.heap.size, 1, none⟩) nwr).trans (by rw [hb7.cell]; rfl)
      have HK7 := Lib.hid hk7
      have HM7 := Lib.hid hm7
      have HX := Lib.hid hX
      have NGM := Lib.hid ngm
      have NWR := Lib.hid nwr
      clear hk7 hm7 hX ngm nwr
      clear hb7 hs7
      refine wp_region_L 16 (fun wx => Same (NotOwn (.slice A' X.length c') w7) w7 wx) (fun _ => True) (by kernel_rfl) (Same.drew (Same.refl _ _)) trivial (fun hA hB' => ?_)
      have hB : True := trivial
      refine wpL_takeA (i := 0) (v := ?_) rfl (by kernel_rfl) (by kernel_rfl) (by kernel_rfl) (by kernel_rfl) (by decide) (fun _ _ _ h => h) (Or.inl ⟨by rfl, ?_⟩) hA hB ?_
      rotate_left
      · rintro wx ⟨hAx, hBx⟩
        (try dsimp only at hBx); (try dsimp only at hAx)
        go_simp
        try with_reducible rfl
      try simp only [Act.put, List.setIfInBounds_toArray, List.set_cons_zero, List.set_cons_succ]
      refine wpL_takeA (i := 1) (v := ?_) rfl (by kernel_rfl) (by kernel_rfl) (by kernel_rfl) (by kernel_rfl) (by decide) (fun _ _ _ h => h) (Or.inl ⟨by rfl, ?_⟩) hA hB ?_
      rotate_left
      · rintro wx ⟨hAx, hBx⟩
        (try dsimp only at hBx); (try dsimp only at hAx)
        go_simp
        try with_reducible rfl
      try simp only [Act.put, List.setIfInBounds_toArray, List.set_cons_zero, List.set_cons_succ]
      refine wpL_takeA (i := 2) (v := ?_) rfl (by kernel_rfl) (by kernel_rfl) (by kernel_rfl) (by kernel_rfl) (by decide) (fun _ _ _ h => h) (Or.inl ⟨by rfl, ?_⟩) hA hB ?_
      rotate_left
      · rintro wx ⟨hAx, hBx⟩
        (try dsimp only at hBx); (try dsimp only at hAx)
        go_simp
        try with_reducible rfl
      try simp only [Act.put, List.setIfInBounds_toArray, List.set_cons_zero, List.set_cons_succ]
      refine wpL_takeA (i := 3) (v := ?_) rfl (by kernel_rfl) (by kernel_rfl) (by kernel_rfl) (by kernel_rfl) (by decide) (fun _ _ _ h => h) (Or.inl ⟨by rfl, ?_⟩) hA hB ?_
      rotate_left
      · rintro wx ⟨hAx, hBx⟩
        (try dsimp only at hBx); (try dsimp only at hAx)
        go_simp
        try with_reducible rfl
      try simp only [Act.put, List.setIfInBounds_toArray, List.set_cons_zero, List.set_cons_succ]
      refine wpL_takeA (i := 4) (v := ?_) rfl (by kernel_rfl) (by kernel_rfl) (by kernel_rfl) (by kernel_rfl) (by decide) (fun _ _ _ h => h) (Or.inl ⟨by rfl, ?_⟩) hA hB ?_
      rotate_left
      · rintro wx ⟨hAx, hBx⟩
        (try dsimp only at hBx); (try dsimp only at hAx)
        go_simp
        try with_reducible rfl
      try simp only [Act.put, List.setIfInBounds_toArray, List.set_cons_zero, List.set_cons_succ]
      refine wpL_takeA (i := 5) (v := ?_) rfl (by kernel_rfl) (by kernel_rfl) (by kernel_rfl) (by kernel_rfl) (by decide) (fun _ _ _ h => h) (Or.inl ⟨by rfl, ?_⟩) hA hB ?_
      rotate_left
      · rintro wx ⟨hAx, hBx⟩
        (try dsimp only at hBx); (try dsimp only at hAx)
        go_simp
        try with_reducible rfl
      try simp only [Act.put, List.setIfInBounds_toArray, List.set_cons_zero, List.set_cons_succ]
      refine wpL_takeA (i := 6) (v := ?_) rfl (by kernel_rfl) (by kernel_rfl) (by kernel_rfl) (by kernel_rfl) (by decide) (fun _ _ _ h => h) (Or.inl ⟨by rfl, ?_⟩) hA hB ?_
      rotate_left
      · rintro wx ⟨hAx, hBx⟩
        (try dsimp only at hBx); (try dsimp only at hAx)
        go_simp
        try with_reducible rfl
      try simp only [Act.put, List.setIfInBounds_toArray, List.set_cons_zero, List.set_cons_succ]
      refine wpL_takeA (i := 7) (v := ?_) rfl (by kernel_rfl) (by kernel_rfl) (by kernel_rfl) (by kernel_rfl) (by decide) (fun _ _ _ h => h) (Or.inl ⟨by rfl, ?_⟩) hA hB ?_
      rotate_left
      · rintro wx ⟨hAx, hBx⟩
        (try dsimp only at hBx); (try dsimp only at hAx)
        go_simp
        try with_reducible rfl
      try simp only [Act.put, List.setIfInBounds_toArray, List.set_cons_zero, List.set_cons_succ]
      refine wpL_takeA (i := 8) (v := ?_) rfl (by kernel_rfl) (by kernel_rfl) (by kernel_rfl) (by kernel_rfl) (by decide) (fun _ _ _ h => h) (Or.inl ⟨by rfl, ?_⟩) hA hB ?_
      rotate_left
      · rintro wx ⟨hAx, hBx⟩
        (try dsimp only at hBx); (try dsimp only at hAx)
        go_simp
        try with_reducible rfl
      try simp only [Act.put, List.setIfInBounds_toArray, List.set_cons_zero, List.set_cons_succ]
      refine wpL_takeA (i := 9) (v := ?_) rfl (by kernel_rfl) (by kernel_rfl) (by kernel_rfl) (by kernel_rfl) (by decide) (fun _ _ _ h => h) (Or.inl ⟨by rfl, ?_⟩) hA hB ?_
      rotate_left
      · rintro wx ⟨hAx, hBx⟩
        (try dsimp only at hBx); (try dsimp only at hAx)
        go_simp
        try with_reducible rfl
      try simp only [Act.put, List.setIfInBounds_toArray, List.set_cons_zero, List.set_cons_succ]
      refine wpL_takeA (i := 10) (v := ?_) rfl (by kernel_rfl) (by kernel_rfl) (by kernel_rfl) (by kernel_rfl) (by decide) (fun _ _ _ h => h) (Or.inl ⟨by rfl, ?_⟩) hA hB ?_
      rotate_left
      · rintro wx ⟨hAx, hBx⟩
        (try dsimp only at hBx); (try dsimp only at hAx)
        go_simp
        try with_reducible rfl
      try simp only [Act.put, List.setIfInBounds_toArray, List.set_cons_zero, List.set_cons_succ]
      refine wpL_takeA (i := 11) rfl (by kernel_rfl) (by kernel_rfl) (by kernel_rfl) (by kernel_rfl) (by decide) (fun _ _ _ h => h) (yieldsIf_bld (by rfl) _ _ rfl _ [(0, .int .i64 p), (1, .int .i64 y.idx), (2, .int .i64 k), (3, .int .i64 y.val)] rfl (bld_shown _ _ _ _)) hA hB ?_
      try simp only [Act.put, List.setIfInBounds_toArray, List.set_cons_zero, List.set_cons_succ]
      refine wpL_one (i := 12) (by kernel_rfl) (StepL.mk rfl (fun K hK => ?_))
      refine step_buildS rfl _ _ _ _ rfl Try.underlying68 _ [(0, .agg #[.int .i64 p, .int .i64 y.idx, .int .i64 k, .int .i64 y.val])] rfl (built_shown _ _ _ _) ?_
      have hk1 : Keep w7 (w7.drew.alloc (.cells #[.int .i64 p, .int .i64 y.idx, .int .i64 k, .int .i64 y.val] 101)) := Keep.alloc (Same.drew (Same.refl _ _)) _
      have hrd := Reads.new (w := w7.drew) (e := 101) (cs := encSh ⟨p, y.idx, k, y.val⟩) (size := 4) (n := 1) rfl
      have hA1 : Same (NotOwn (.slice A' X.length c') w7) w7 (w7.drew.alloc (.cells #[.int .i64 p, .int .i64 y.idx, .int .i64 k, .int .i64 y.val] 101)) := hk1.mono (fun i hi => hi.1)
      refine hK.out _ _ (SAB.both hA1 trivial) (fun hSS => ?_)
      clear hK K hA hB
      have hB := hSS.2
      have hA := hSS.1 (by kernel_rfl)
      (try dsimp only at hB); (try dsimp only at hA); clear hSS
      try simp only [Act.put, List.setIfInBounds_toArray, List.set_cons_zero, List.set_cons_succ]
      generalize hwa : w7.drew.alloc (.cells #[.int .i64 p, .int .i64 y.idx, .int .i64 k, .int .i64 y.val] 101) = wa at *
      have hrd' : Reads wa (fun i => i = w7.heap.size) 4 (some ⟨w7.heap.size, 0, none⟩) 1 (encSh ⟨p, y.idx, k, y.val⟩) := hwa ▸ hrd
      clear hwa hrd
      refine wpL_one (i := 13) (by kernel_rfl) (StepL.mk rfl (fun K hK => ?_))
      refine step_append_any _ (by rfl) (.tmp 28) (.tmp 36) _ (by rfl) base 101 i0 _ 4 32 Try.underlying68 HI0.out IZ0.out IS0.out IB0.out rfl (by omega) (.slice A' X.length c') X.length (X.flatMap encSh) (by rfl) (ownsRow_same HM7.out.2.2.2.2.1 hk1 (fun i hi => hi.2)) _ (some ⟨w7.heap.size, 0, none⟩) 1 1 (encSh ⟨p, y.idx, k, y.val⟩) (by rfl) hrd' (encSh_one _) (by simp [maxLen]; omega) (by omega) (by have := hk1.size; have := HSR.out.size; omega) ?_
      intro vb wb hownb hgb hatb
      obtain ⟨Ab, cb, hvb, hnb, hcb⟩ := own_form hownb
      subst hvb
      have hA2 : Same (NotOwn (.slice A' X.length c') w7) w7 wb := Same.grown (hk1.mono (fun i hi => hi.1)) hgb (fun i hi => by have := hi.1; have := hk1.size; omega) (fun k hk hh => hh.2 hk)
      have hAb := hA2.blk HM7.out.2.2.2.1 NGM.out
      refine hK.out _ _ (SAB.both hA2 trivial) (fun hSS => ?_)
      clear hK K hA hB
      have hB := hSS.2
      have hA := hSS.1 (by kernel_rfl)
      (try dsimp only at hB); (try dsimp only at hA); clear hSS
      try simp only [Act.put, List.setIfInBounds_toArray, List.set_cons_zero, List.set_cons_succ]
      refine wpL_takeB (i := 14) (v := ?_) rfl (by kernel_rfl) (by kernel_rfl) (by kernel_rfl) (by decide) (fun _ _ _ h => h) (Or.inl ⟨by rfl, ?_⟩) (SAB.both hA hB) ?_
      rotate_left
      · intro wx hBx
        (try dsimp only at hBx)
        go_simp
        try with_reducible rfl
      try simp only [Act.put, List.setIfInBounds_toArray, List.set_cons_zero, List.set_cons_succ]
      refine wpL_takeA (i := 15) (v := ?_) rfl (by kernel_rfl) (by kernel_rfl) (by kernel_rfl) (by kernel_rfl) (by decide) (fun _ _ _ h => h) (Or.inl ⟨by rfl, ?_⟩) hA hB ?_
      rotate_left
      · rintro wx ⟨hAx, hBx⟩
        (try dsimp only at hBx); (try dsimp only at hAx)
        go_simp
        try with_reducible rfl
      try simp only [Act.put, List.setIfInBounds_toArray, List.set_cons_zero, List.set_cons_succ]
      refine wpL_one (i := 16) (by kernel_rfl) (StepL.mk rfl (fun K hK => ?_))
      refine step_store_one rfl _ _ _ rfl gm 2 110 _ (.slice Ab (X.length + 1) cb) rfl rfl hAb (by simp) (by kernel_rfl) rfl rfl ?_
      intro wc hbc hsc
      have hgr := HM7.out.grow (by have := HK7.out.size; have := HSR.out.size; omega) hk1 hownb hgb hatb (by simpa using hbc) hsc
      have hzc := hsc.size
      have hzb := hA2.size
      refine hK.out _ _ (SAB.past (by kernel_rfl) trivial) (fun hSS => ?_)
      clear hK K hA hB
      have hB := hSS.2
      have hA : True := trivial
      (try dsimp only at hB); (try dsimp only at hA); clear hSS
      try simp only [Act.put, List.setIfInBounds_toArray, List.set_cons_zero, List.set_cons_succ]
      refine wpL_done (by kernel_rfl) ?_
      rw [← HX.out, List.append_assoc, ← HTK.out] at hgr
      have hfin : ShwRel base gm gs VC css m.ss m.world p (outs.drop k0) w (.int .i64 ((k : Int) + 1)) wc := ⟨k + 1, Ab, cb, by simp, HK1.out, by have := hgr.1; rw [← HX.out] at *; simpa [showS_len] using this, Same.trans HSR.out (Same.trans (HK7.out.mono (fun i (hi : i < base) => by have := HSR.out.size; omega)) hgr.2 (fun i hi => hi)) (fun i hi => hi), by omega⟩
      have HFIN := Lib.hid hfin
      clear hfin
      clear hbc hsc hgr hAb hA2 hownb hgb hatb hrd' hA1 hk1 hA hB hB'
      go_wp2_with fail
      go_roundw
      case rel => exact HFIN.out
      case measure => simp [intOf]; omega
    · have t0 : decide (k < outs.length - k0) = false := by simpa using hk
      have hall : (outs.drop k0).take k = outs.drop k0 := List.take_of_length_le (by simp; omega)
      rw [hall] at hmr
      have hfin : ShowPost base gm gs VC css ⟨m.ss, m.world ++ showS p 0 (outs.drop k0)⟩ w (.returned (.tuple #[])) wr := ⟨rfl, ⟨A', c', hmr⟩, hsr⟩
      have HFIN := Lib.hid hfin
      have HMR := Lib.hid hmr
      clear hfin hmr
      go_wp2_with fail
      exact bodyPost_end (results_none Try.results52 _ _ _) rfl HFIN.out
/-- The machine's states have changed at one place. -/
theorem MiM.put {w w' wz : World} {base gm gs : Nat} {VC : Value} {A : Option Addr} {c : Nat} {css : List (List Value)} {ss : List St} {l : List Sh} {S : Nat → Prop} {cs : List Value} {s : St} {p : Nat} (h : MiM w base gm gs VC A c css ⟨ss, l⟩) (hp : p < ss.length) (hk : Keep w w') (hc : cs.length = 4)
    (hr : StR w' S cs s) (hS : ∀ i, S i → But w' (MiX gm gs (.slice A l.length c)) i) (hb : Blk wz gs 105 (splice css.flatten.toArray (p * 4) cs)) (hs : Same (· ≠ gs) w' wz) : MiM wz base gm gs VC A c (css.set p cs) ⟨ss.set p s, l⟩ := by
  have h' := h.keep hk
  obtain ⟨h1, h2, h3, h4, h5, h6, h7, h8⟩ := h'
  rw [splice_flatten h8.2.1 hc (by rw [h8.1]; exact hp)] at hb
  refine ⟨h1, h2, h3, ?_, ownsRow_own h5 hs (fun b e => (h6 b e).2), h6, hb, ?_⟩
  · have := hs.blk h4 h3
    simpa using this
  · exact (h8.set_ (hr.more hS) hc).same hs (fun i hi e => hi.2 (.inr (.inl e))) (fun i hi => hi.2)
def ExecPost (base gm gs : Nat) (VC : Value) (m : Mi) (w : World) (e : Ending) (w' : World) : Prop := e = .returned (.tuple #[]) ∧ (∃ (A' : Option Addr) (c' : Nat) (css : List (List Value)), MiM w' base gm gs VC A' c' css m) ∧ Same (· < base) w w'
set_option maxHeartbeats 16000000 in
theorem execute_any (w : World) (base gm gs : Nat) (C : Nat → Prop) (AC A : Option Addr) (n cC c : Nat) (css : List (List Value)) (cs : List Cd) (m : Mi) (p : Nat) (e : Ev) (hm : MiM w base gm gs (.slice AC n cC) A c css m) (hC : CdsR w C AC n cC cs) (hCb : ∀ i, C i → i < base) (hBw : base ≤ w.heap.size) (hi : InvI cs m) (hic : ∀ c ∈ cs, c.init.length ≤ 1000000) (hn : n ≤ 1000) (hp : p < n) (hw : m.world.length ≤ 900000) :
    Calls Try.prog 54 #[.pointer (some ⟨gm, 0, none⟩), .int .i64 p, .agg (encEv e).toArray] w (ExecPost base gm gs (.slice AC n cC) (execI cs m p e) w) := by
  have hcl : n = cs.length := hC.1
  have hml : m.ss.length = n := by rw [hi.len]; exact hcl.symm
  have hle := hi.lens (p := p) (by omega)
  have hin : (cs.getD p zeroCd).init.length ≤ 1000000 := hic _ (by simp [List.getD, show p < cs.length by omega])
  have hmm := hm
  obtain ⟨hb1, hb2, hb3, hb4, hb5, hb6, hb7, hb8⟩ := hm
  obtain ⟨B1, B2, B3, B4, p1, q1, p2, q2, p3, q3, p4, q4, hcs, hst⟩ := hb8.at_ (k := p) (by omega)
  obtain ⟨bC, oC, D0, D1, D2, D3, D4, d0, f0, d1, f1, d2, f2, d3, f3, d4, f4, rfl, hCbC, hcd, hcr⟩ := hC.at_ hp
  obtain ⟨s, hs⟩ : ∃ s, s = m.ss.getD p zeroSt := ⟨_, rfl⟩
  rw [← hs] at hst hle
  have hex : execI cs m p e = ⟨m.ss.set p (nextS (cs.getD p zeroCd) p n s e), m.world ++ showS p 0 ((nextS (cs.getD p zeroCd) p n s e).outs.drop s.outs.length)⟩ := by unfold execI; rw [hml, ← hs]
  rw [hex]
  obtain ⟨x0, x1, x2, x3, x4, x5, x6⟩ := e
  show Calls Try.prog 54 #[.pointer (some ⟨gm, 0, none⟩), .int .i64 p, .agg #[.int .i64 x0, .int .i64 x1, .int .i64 x2, .int .i64 x3, .int .i64 x4, .int .i64 x5, .int .i64 x6]] w _
  have hp4 : p4 = s.outs.length := (st_sl hst).2.2.2.1
  subst hp4
  generalize hW : w.alloc (.cells #[.int .i64 x0, .int .i64 x1, .int .i64 x2, .int .i64 x3, .int .i64 x4, .int .i64 x5, .int .i64 x6] 50) = W
  have hkW : Keep w W := hW ▸ Keep.new w _
  have hbe : Blk W w.heap.size 50 #[.int .i64 x0, .int .i64 x1, .int .i64 x2, .int .i64 x3, .int .i64 x4, .int .i64 x5, .int .i64 x6] := hW ▸ Blk.new w _ _
  have hz := hbe.lt
  have hmW := hmm.keep hkW
  have hzC : bC < w.heap.size := by have := hCb _ hCbC; omega
  have hm4 := hmW.2.2.2.1
  have c3 : W.cell? ⟨gs, p * 4 + 3, none⟩ = some (.slice B4 s.outs.length q4) := hmW.2.2.2.2.2.2.2.cell hmW.2.2.2.2.2.2.1 hcs rfl
  have m1 : W.cell? ⟨gm, 1, none⟩ = some (.slice (some ⟨gs, 0, none⟩) n n) := by rw [hm4.cell, hml]; rfl
  have k0 : ∀ wx, Keep W wx → wx.cell? ⟨gm, 0, none⟩ = some (.slice (some ⟨bC, oC, none⟩) n cC) := fun wx hx => (hx.cell (p := ⟨gm, 0, none⟩) hm4.lt).trans (by rw [hm4.cell]; rfl)
  have k1 : ∀ wx, Keep W wx → wx.cell? ⟨gm, 1, none⟩ = some (.slice (some ⟨gs, 0, none⟩) n n) := fun wx hx => (hx.cell (p := ⟨gm, 1, none⟩) hm4.lt).trans m1
  have rgC : ∀ wx, Keep W wx → wx.rangeAt bC (oC + p * 5) [.slice D0 d0 f0, .slice D1 d1 f1, .slice D2 d2 f2, .slice D3 d3 f3, .slice D4 d4 f4] := fun wx hx j u hu => ((Keep.trans hkW hx).cell (p := ⟨bC, oC + p * 5 + j, none⟩) hzC).trans (hcr j u hu)
  have rgS : ∀ wx, Keep W wx → wx.rangeAt gs (p * 4) [.slice B1 p1 q1, .slice B2 p2 q2, .slice B3 p3 q3, .slice B4 s.outs.length q4] := fun wx hx j u hu => by
    exact (hx.cell (p := ⟨gs, p * 4 + j, none⟩) hmW.2.2.2.2.2.2.1.lt).trans (hmW.2.2.2.2.2.2.2.cell hmW.2.2.2.2.2.2.1 hcs hu)
  have hstW := (hmW.2.2.2.2.2.2.2.of hcs (by omega))
  rw [← hs] at hstW
  have hcdW := hcd.keep (hkW.mono (fun i hi => by have := hCb i hi; omega))
  have g1 : (p : Int) < n := by omega
  have g2 : (0 : Int) ≤ p := by omega
  have hlb := nextS_len (cs.getD p zeroCd) p n s ⟨x0, x1, x2, x3, x4, x5, x6⟩
  obtain ⟨-, nb, hnb, -⟩ := nextS_adds (cs.getD p zeroCd) p n s ⟨x0, x1, x2, x3, x4, x5, x6⟩
  have hlb2 : s.outs.length ≤ (nextS (cs.getD p zeroCd) p n s ⟨x0, x1, x2, x3, x4, x5, x6⟩).outs.length := by rw [hnb, List.length_append]; omega
  clear hb4 hb7 hb8 hb5 hex hnb
  have HKW := Lib.hid hkW
  have HBE := Lib.hid hbe
  have HMW := Lib.hid hmW
  have HSTW := Lib.hid hstW
  have HCDW := Lib.hid hcdW
  have HCS := Lib.hid hcs
  have RGC := Lib.hid rgC
  have RGS := Lib.hid rgS
  have HCB := Lib.hid hCb
  have HML := Lib.hid hml
  have HIC := Lib.hid hic
  have HM4 := Lib.hid hm4
  have HI := Lib.hid hi
  have HCL := Lib.hid hcl
  clear hkW hbe hmW hstW hcdW hcs rgC rgS hCb hml hic hm4 hi hcl
  clear hmm hst hcd hcr hs
  go_enter Try.func54, Try.ntmps54
  go_upto_region 1 with fail
  clear hW
  go_upto_region 2 with fail
  clear c3 m1
  have hX : ∀ i, MiX gm gs (.slice A m.world.length c) i → base ≤ i ∧ i < W.heap.size := fun i hi => by
    rcases hi with h | h | h
    · rw [h]; exact ⟨hb1, HM4.out.lt⟩
    · rw [h]; exact ⟨hb2, HMW.out.2.2.2.2.2.2.1.lt⟩
    · exact HMW.out.2.2.2.2.1.lt i h
  have hCS : ∀ i, C i → But W (MiX gm gs (.slice A m.world.length c)) i := fun i hi => ⟨by have := HCB.out i hi; omega, fun h => by have := HCB.out i hi; have := hX i h; omega⟩
  have HCS2 := Lib.hid hCS
  clear hCS
  have HX := Lib.hid hX
  clear hX
  refine wp_region_L 28 (fun wx => Keep W wx) (fun _ => True) (by kernel_rfl) (Same.drew (Same.refl _ _)) trivial (fun hA hB' => ?_)
  have hB : True := trivial
  clear hB'
  refine wpL_takeA (i := 0) (v := ?_) rfl (by kernel_rfl) (by kernel_rfl) (by kernel_rfl) (by kernel_rfl) (by decide) (fun _ _ _ h => h) (Or.inl ⟨by rfl, ?_⟩) hA hB ?_
  rotate_left
  · rintro wx ⟨hAx, hBx⟩
    (try dsimp only at hBx); (try dsimp only at hAx)
    go_simp
    try with_reducible rfl
  try simp only [Act.put, List.setIfInBounds_toArray, List.set_cons_zero, List.set_cons_succ]
  refine wpL_takeA (i := 1) (v := ?_) rfl (by kernel_rfl) (by kernel_rfl) (by kernel_rfl) (by kernel_rfl) (by decide) (fun _ _ _ h => h) (Or.inl ⟨by rfl, ?_⟩) hA hB ?_
  rotate_left
  · rintro wx ⟨hAx, hBx⟩
    (try dsimp only at hBx); (try dsimp only at hAx)
    go_simp
    try with_reducible rfl
  try simp only [Act.put, List.setIfInBounds_toArray, List.set_cons_zero, List.set_cons_succ]
  refine wpL_takeA (i := 2) (v := ?_) rfl (by kernel_rfl) (by kernel_rfl) (by kernel_rfl) (by kernel_rfl) (by decide) (fun _ _ _ h => h) (Or.inl ⟨by rfl, ?_⟩) hA hB ?_
  rotate_left
  · rintro wx ⟨hAx, hBx⟩
    (try dsimp only at hBx); (try dsimp only at hAx)
    go_simp
    try with_reducible rfl
  try simp only [Act.put, List.setIfInBounds_toArray, List.set_cons_zero, List.set_cons_succ]
  refine wpL_takeA (i := 3) (v := ?_) rfl (by kernel_rfl) (by kernel_rfl) (by kernel_rfl) (by kernel_rfl) (by decide) (fun _ _ _ h => h) (Or.inl ⟨by rfl, ?_⟩) hA hB ?_
  rotate_left
  · rintro wx ⟨hAx, hBx⟩
    (try dsimp only at hBx); (try dsimp only at hAx)
    go_simp
    try with_reducible rfl
  try simp only [Act.put, List.setIfInBounds_toArray, List.set_cons_zero, List.set_cons_succ]
  refine wpL_takeA (i := 4) (v := ?_) rfl (by kernel_rfl) (by kernel_rfl) (by kernel_rfl) (by kernel_rfl) (by decide) (fun _ _ _ h => h) (Or.inl ⟨by rfl, ?_⟩) hA hB ?_
  rotate_left
  · rintro wx ⟨hAx, hBx⟩
    (try dsimp only at hBx); (try dsimp only at hAx)
    go_simp
    try with_reducible rfl
  try simp only [Act.put, List.setIfInBounds_toArray, List.set_cons_zero, List.set_cons_succ]
  refine wpL_takeA (i := 5) (v := ?_) rfl (by kernel_rfl) (by kernel_rfl) (by kernel_rfl) (by kernel_rfl) (by decide) (fun _ _ _ h => h) (Or.inl ⟨by rfl, ?_⟩) hA hB ?_
  rotate_left
  · rintro wx ⟨hAx, hBx⟩
    (try dsimp only at hBx); (try dsimp only at hAx)
    go_simp
    try with_reducible rfl
  try simp only [Act.put, List.setIfInBounds_toArray, List.set_cons_zero, List.set_cons_succ]
  refine wpL_takeA (i := 6) (v := ?_) rfl (by kernel_rfl) (by kernel_rfl) (by kernel_rfl) (by kernel_rfl) (by decide) (fun _ _ _ h => h) (Or.inl ⟨by rfl, ?_⟩) hA hB ?_
  rotate_left
  · rintro wx ⟨hAx, hBx⟩
    (try dsimp only at hBx); (try dsimp only at hAx)
    go_simp
    try with_reducible rfl
  try simp only [Act.put, List.setIfInBounds_toArray, List.set_cons_zero, List.set_cons_succ]
  refine wpL_takeA (i := 7) (v := ?_) rfl (by kernel_rfl) (by kernel_rfl) (by kernel_rfl) (by kernel_rfl) (by decide) (fun _ _ _ h => h) (Or.inl ⟨by rfl, ?_⟩) hA hB ?_
  rotate_left
  · rintro wx ⟨hAx, hBx⟩
    (try dsimp only at hBx); (try dsimp only at hAx)
    go_simp
    try with_reducible rfl
  try simp only [Act.put, List.setIfInBounds_toArray, List.set_cons_zero, List.set_cons_succ]
  refine wpL_takeA (i := 8) (v := ?_) rfl (by kernel_rfl) (by kernel_rfl) (by kernel_rfl) (by kernel_rfl) (by decide) (fun _ _ _ h => h) (Or.inl ⟨by rfl, ?_⟩) hA hB ?_
  rotate_left
  · rintro wx ⟨hAx, hBx⟩
    (try dsimp only at hBx); (try dsimp only at hAx)
    go_simp
    try with_reducible rfl
  try simp only [Act.put, List.setIfInBounds_toArray, List.set_cons_zero, List.set_cons_succ]
  refine wpL_takeA (i := 9) (v := ?_) rfl (by kernel_rfl) (by kernel_rfl) (by kernel_rfl) (by kernel_rfl) (by decide) (fun _ _ _ h => h) (Or.inl ⟨by rfl, ?_⟩) hA hB ?_
  rotate_left
  · rintro wx ⟨hAx, hBx⟩
    (try dsimp only at hBx); (try dsimp only at hAx)
    go_simp
    try with_reducible rfl
  try simp only [Act.put, List.setIfInBounds_toArray, List.set_cons_zero, List.set_cons_succ]
  refine wpL_takeA (i := 10) (v := ?_) rfl (by kernel_rfl) (by kernel_rfl) (by kernel_rfl) (by kernel_rfl) (by decide) (fun _ _ _ h => h) (Or.inl ⟨by rfl, ?_⟩) hA hB ?_
  rotate_left
  · rintro wx ⟨hAx, hBx⟩
    (try dsimp only at hBx); (try dsimp only at hAx)
    go_simp
    try with_reducible rfl
  try simp only [Act.put, List.setIfInBounds_toArray, List.set_cons_zero, List.set_cons_succ]
  refine wpL_takeA (i := 11) rfl (by kernel_rfl) (by kernel_rfl) (by kernel_rfl) (by kernel_rfl) (by decide) (fun _ _ _ h => h) (yieldsIf_load_mid (by rfl) _ _ rfl bC (oC + p * 5) rfl [.slice D0 d0 f0, .slice D1 d1 f1, .slice D2 d2 f2, .slice D3 d3 f3, .slice D4 d4 f4] _ (fun wx hx => RGC.out wx hx.1) Try.underlying63 rfl (by kernel_rfl)) hA hB ?_
  try simp only [Act.put, List.setIfInBounds_toArray, List.set_cons_zero, List.set_cons_succ]
  refine wpL_takeA (i := 12) (v := ?_) rfl (by kernel_rfl) (by kernel_rfl) (by kernel_rfl) (by kernel_rfl) (by decide) (fun _ _ _ h => h) (Or.inl ⟨by rfl, ?_⟩) hA hB ?_
  rotate_left
  · rintro wx ⟨hAx, hBx⟩
    (try dsimp only at hBx); (try dsimp only at hAx)
    go_simp
    try with_reducible rfl
  try simp only [Act.put, List.setIfInBounds_toArray, List.set_cons_zero, List.set_cons_succ]
  refine wpL_takeA (i := 13) (v := ?_) rfl (by kernel_rfl) (by kernel_rfl) (by kernel_rfl) (by kernel_rfl) (by decide) (fun _ _ _ h => h) (Or.inl ⟨by rfl, ?_⟩) hA hB ?_
  rotate_left
  · rintro wx ⟨hAx, hBx⟩
    (try dsimp only at hBx); (try dsimp only at hAx)
    go_simp
    try with_reducible rfl
  try simp only [Act.put, List.setIfInBounds_toArray, List.set_cons_zero, List.set_cons_succ]
  refine wpL_takeA (i := 14) (v := ?_) rfl (by kernel_rfl) (by kernel_rfl) (by kernel_rfl) (by kernel_rfl) (by decide) (fun _ _ _ h => h) (Or.inl ⟨by rfl, ?_⟩) hA hB ?_
  rotate_left
  · rintro wx ⟨hAx, hBx⟩
    (try dsimp only at hBx); (try dsimp only at hAx)
    go_simp
    try with_reducible rfl
  try simp only [Act.put, List.setIfInBounds_toArray, List.set_cons_zero, List.set_cons_succ]
  refine wpL_takeA (i := 15) (v := ?_) rfl (by kernel_rfl) (by kernel_rfl) (by kernel_rfl) (by kernel_rfl) (by decide) (fun _ _ _ h => h) (Or.inl ⟨by rfl, ?_⟩) hA hB ?_
  rotate_left
  · rintro wx ⟨hAx, hBx⟩
    (try dsimp only at hBx); (try dsimp only at hAx)
    go_simp
    try with_reducible rfl
  try simp only [Act.put, List.setIfInBounds_toArray, List.set_cons_zero, List.set_cons_succ]
  refine wpL_takeA (i := 16) (v := ?_) rfl (by kernel_rfl) (by kernel_rfl) (by kernel_rfl) (by kernel_rfl) (by decide) (fun _ _ _ h => h) (Or.inl ⟨by rfl, ?_⟩) hA hB ?_
  rotate_left
  · rintro wx ⟨hAx, hBx⟩
    (try dsimp only at hBx); (try dsimp only at hAx)
    go_simp
    try with_reducible rfl
  try simp only [Act.put, List.setIfInBounds_toArray, List.set_cons_zero, List.set_cons_succ]
  refine wpL_takeA (i := 17) (v := ?_) rfl (by kernel_rfl) (by kernel_rfl) (by kernel_rfl) (by kernel_rfl) (by decide) (fun _ _ _ h => h) (Or.inl ⟨by rfl, ?_⟩) hA hB ?_
  rotate_left
  · rintro wx ⟨hAx, hBx⟩
    (try dsimp only at hBx); (try dsimp only at hAx)
    go_simp
    try with_reducible rfl
  try simp only [Act.put, List.setIfInBounds_toArray, List.set_cons_zero, List.set_cons_succ]
  refine wpL_takeA (i := 18) (v := ?_) rfl (by kernel_rfl) (by kernel_rfl) (by kernel_rfl) (by kernel_rfl) (by decide) (fun _ _ _ h => h) (Or.inl ⟨by rfl, ?_⟩) hA hB ?_
  rotate_left
  · rintro wx ⟨hAx, hBx⟩
    (try dsimp only at hBx); (try dsimp only at hAx)
    go_simp
    try with_reducible rfl
  try simp only [Act.put, List.setIfInBounds_toArray, List.set_cons_zero, List.set_cons_succ]
  refine wpL_takeA (i := 19) (v := ?_) rfl (by kernel_rfl) (by kernel_rfl) (by kernel_rfl) (by kernel_rfl) (by decide) (fun _ _ _ h => h) (Or.inl ⟨by rfl, ?_⟩) hA hB ?_
  rotate_left
  · rintro wx ⟨hAx, hBx⟩
    (try dsimp only at hBx); (try dsimp only at hAx)
    go_simp
    try with_reducible rfl
  try simp only [Act.put, List.setIfInBounds_toArray, List.set_cons_zero, List.set_cons_succ]
  refine wpL_takeA (i := 20) (v := ?_) rfl (by kernel_rfl) (by kernel_rfl) (by kernel_rfl) (by kernel_rfl) (by decide) (fun _ _ _ h => h) (Or.inl ⟨by rfl, ?_⟩) hA hB ?_
  rotate_left
  · rintro wx ⟨hAx, hBx⟩
    (try dsimp only at hBx); (try dsimp only at hAx)
    go_simp
    try with_reducible rfl
  try simp only [Act.put, List.setIfInBounds_toArray, List.set_cons_zero, List.set_cons_succ]
  refine wpL_takeA (i := 21) (v := ?_) rfl (by kernel_rfl) (by kernel_rfl) (by kernel_rfl) (by kernel_rfl) (by decide) (fun _ _ _ h => h) (Or.inl ⟨by rfl, ?_⟩) hA hB ?_
  rotate_left
  · rintro wx ⟨hAx, hBx⟩
    (try dsimp only at hBx); (try dsimp only at hAx)
    go_simp
    try with_reducible rfl
  try simp only [Act.put, List.setIfInBounds_toArray, List.set_cons_zero, List.set_cons_succ]
  refine wpL_takeA (i := 22) (v := ?_) rfl (by kernel_rfl) (by kernel_rfl) (by kernel_rfl) (by kernel_rfl) (by decide) (fun _ _ _ h => h) (Or.inl ⟨by rfl, ?_⟩) hA hB ?_
  rotate_left
  · rintro wx ⟨hAx, hBx⟩
    (try dsimp only at hBx); (try dsimp only at hAx)
    go_simp
    try with_reducible rfl
  try simp only [Act.put, List.setIfInBounds_toArray, List.set_cons_zero, List.set_cons_succ]
  refine wpL_takeA (i := 23) (v := ?_) rfl (by kernel_rfl) (by kernel_rfl) (by kernel_rfl) (by kernel_rfl) (by decide) (fun _ _ _ h => h) (Or.inl ⟨by rfl, ?_⟩) hA hB ?_
  rotate_left
  · rintro wx ⟨hAx, hBx⟩
    (try dsimp only at hBx); (try dsimp only at hAx)
    go_simp
    try with_reducible rfl
  try simp only [Act.put, List.setIfInBounds_toArray, List.set_cons_zero, List.set_cons_succ]
  refine wpL_takeA (i := 24) rfl (by kernel_rfl) (by kernel_rfl) (by kernel_rfl) (by kernel_rfl) (by decide) (fun _ _ _ h => h) (yieldsIf_load_mid (by rfl) _ _ rfl gs (p * 4) rfl [.slice B1 p1 q1, .slice B2 p2 q2, .slice B3 p3 q3, .slice B4 s.outs.length q4] _ (fun wx hx => RGS.out wx hx.1) Try.underlying105 rfl (by kernel_rfl)) hA hB ?_
  try simp only [Act.put, List.setIfInBounds_toArray, List.set_cons_zero, List.set_cons_succ]
  refine wpL_takeA (i := 25) rfl (by kernel_rfl) (by kernel_rfl) (by kernel_rfl) (by kernel_rfl) (by decide) (fun _ _ _ h => h) (yieldsIf_blk (by rfl) _ _ rfl w.heap.size 0 50 _ [.int .i64 x0, .int .i64 x1, .int .i64 x2, .int .i64 x3, .int .i64 x4, .int .i64 x5, .int .i64 x6] _ rfl (fun wx hx => hx.1.blk HBE.out HBE.out.lt) (fun j u hu => by simpa using hu) Try.underlying50 rfl (by kernel_rfl)) hA hB ?_
  try simp only [Act.put, List.setIfInBounds_toArray, List.set_cons_zero, List.set_cons_succ]
  refine wpL_one (i := 26) (by kernel_rfl) (StepL.mk rfl (fun K hK => ?_))
  go_simp
  have key := pnext_any W.drew (But W (MiX gm gs (.slice A m.world.length c))) [.slice D0 d0 f0, .slice D1 d1 f1, .slice D2 d2 f2, .slice D3 d3 f3, .slice D4 d4 f4] [.slice B1 p1 q1, .slice B2 p2 q2, .slice B3 p3 q3, .slice B4 s.outs.length q4] (cs.getD p zeroCd) s p n ⟨x0, x1, x2, x3, x4, x5, x6⟩ (fun i hi => Nat.lt_of_lt_of_le hi.1 hA.size) ((HCDW.out.keep (hA.mono (fun i hi => by have := HCB.out i hi; omega))).more HCS2.out) (HSTW.out.keep (hA.mono (fun i hi => hi.1))) (by omega) (by omega) (by omega) (by omega)
  refine key.mono ?_
  rintro e w3 ⟨cs3, rfl, hr3', hk3⟩
  obtain ⟨E1, E2, E3, E4, a1, b1, a2, b2, a3, b3, a4, b4, rfl, hr3⟩ := st_open hr3'
  have hA3 := Keep.trans hA hk3
  clear key hr3'
  refine hK.out _ _ (SAB.both hA3 trivial) (fun hSS => ?_)
  clear hK K hA hB
  have hB := hSS.2
  have hA := hSS.1 (by kernel_rfl)
  (try dsimp only at hB); (try dsimp only at hA); clear hSS
  try simp only [Act.put, List.setIfInBounds_toArray, List.set_cons_zero, List.set_cons_succ]
  refine wpL_takeA (i := 27) (v := ?_) rfl (by kernel_rfl) (by kernel_rfl) (by kernel_rfl) (by kernel_rfl) (by decide) (fun _ _ _ h => h) (Or.inl ⟨by rfl, ?_⟩) hA hB ?_
  rotate_left
  · rintro wx ⟨hAx, hBx⟩
    (try dsimp only at hBx); (try dsimp only at hAx)
    go_simp
    try with_reducible rfl
  try simp only [Act.put, List.setIfInBounds_toArray, List.set_cons_zero, List.set_cons_succ]
  refine wpL_one (i := 28) (by kernel_rfl) (StepL.mk rfl (fun K hK => ?_))
  refine step_store_blk rfl _ _ _ rfl gs (p * 4) 105 _ [.slice E1 a1 b1, .slice E2 a2 b2, .slice E3 a3 b3, .slice E4 a4 b4] rfl rfl (hA3.blk HMW.out.2.2.2.2.2.2.1 HMW.out.2.2.2.2.2.2.1.lt) (by have := HMW.out.2.2.2.2.2.2.2.flen; have := HML.out; simp only [List.size_toArray, List.length_cons, List.length_nil]; omega) (by kernel_rfl) rfl ?_
  intro w4 hb4 hs4
  have hput := MiM.put (ss := m.ss) (l := m.world) HMW.out (p := p) (by have := HML.out; omega) hA3 rfl hr3 (fun i hi => by
    rcases hi with h | h
    · exact ⟨Nat.lt_of_lt_of_le h.1 hA3.size, h.2⟩
    · exact ⟨h.2, fun hh => Nat.lt_irrefl i (Nat.lt_of_lt_of_le (HX.out i hh).2 (show W.heap.size ≤ i from h.1))⟩) hb4 hs4
  have hz4 := hs4.size
  have hz3 := hA3.size
  have hfr : Same (· < base) w w4 := Same.trans (HKW.out.mono (fun i (hi : i < base) => by omega)) (Same.trans (hA3.mono (fun i (hi : i < base) => by omega)) hs4 (fun i (hi : i < base) => by show i ≠ gs; omega)) (fun i hi => hi)
  clear hb4 hs4 hr3 hk3
  refine hK.out _ _ (SAB.past (by kernel_rfl) trivial) (fun hSS => ?_)
  clear hK K hA hB
  have hB := hSS.2
  have hA : True := trivial
  (try dsimp only at hB); (try dsimp only at hA); clear hSS
  try simp only [Act.put, List.setIfInBounds_toArray, List.set_cons_zero, List.set_cons_succ]
  refine wpL_done (by kernel_rfl) ?_
  have hln : (m.ss.set p (nextS (cs.getD p zeroCd) p n s ⟨x0, x1, x2, x3, x4, x5, x6⟩)).length = n := by rw [List.length_set]; exact HML.out
  have hgt : (m.ss.set p (nextS (cs.getD p zeroCd) p n s ⟨x0, x1, x2, x3, x4, x5, x6⟩)).getD p zeroSt = (nextS (cs.getD p zeroCd) p n s ⟨x0, x1, x2, x3, x4, x5, x6⟩) := getD_set_same (by have := HML.out; omega)
  have hshow := show_any w4 base gm gs (.slice (some ⟨bC, oC, none⟩) n cC) A c _ ⟨m.ss.set p (nextS (cs.getD p zeroCd) p n s ⟨x0, x1, x2, x3, x4, x5, x6⟩), m.world⟩ p s.outs.length hput (by omega) (by rw [hln]; exact hn) (by rw [hln]; exact hp) (by rw [hgt]; exact hlb2) (by rw [hgt]; omega) (by show m.world.length ≤ 1000000; omega)
  rw [hgt] at hshow
  have HSHOW := Lib.hid hshow
  have HFR := Lib.hid hfr
  clear hshow hfr
  clear hput hA3 hA hB hln hgt k0 k1
  go_wp2_with fail
  refine HSHOW.out.mono ?_
  rintro e w5 ⟨rfl, ⟨A5, c5, h5⟩, hs5⟩
  have hfin : ExecPost base gm gs (.slice (some ⟨bC, oC, none⟩) n cC) ⟨m.ss.set p (nextS (cs.getD p zeroCd) p n s ⟨x0, x1, x2, x3, x4, x5, x6⟩), m.world ++ showS p 0 ((nextS (cs.getD p zeroCd) p n s ⟨x0, x1, x2, x3, x4, x5, x6⟩).outs.drop s.outs.length)⟩ w (.returned (.tuple #[])) w5 := ⟨rfl, ⟨A5, c5, _, h5⟩, Same.trans HFR.out hs5 (fun i hi => hi)⟩
  have HFIN := Lib.hid hfin
  clear hfin
  clear h5 hs5
  go_wp2_with fail
  exact bodyPost_end (results_none Try.results54 _ _ _) rfl HFIN.out
end Go.Proofs.Ythmepnpjagpcnaa
