/- The tracker of orphan in memory. No program in sight. -/
import Derived.Test.YtcfpkmfppgodmaaRank
set_option linter.unusedVariables false
set_option linter.unusedSimpArgs false
namespace Go.Proofs.Ytcfpkmfppgodmaa
open Go.RowKit Go.Proofs

/-- One vector: n labels in blocks that nobody writes. -/
def VecR (w : World) (D : Nat → Prop) (n : Nat) (x : Value) : Prop := ∃ (A : Option Addr) (c : Nat) (ms : List (Int × Int)), x = .slice A n c ∧ Sl encLb 2 w (fun i => i < w.heap.size ∧ ¬ D i) A n c ms
theorem VecR.keep {w w' : World} {D D' : Nat → Prop} {n : Nat} {x : Value} (h : VecR w D n x) (hs : Same (fun i => i < w.heap.size ∧ ¬ D i) w w') (hD : ∀ i, D' i → D i ∨ w.heap.size ≤ i) : VecR w' D' n x := by
  obtain ⟨A, c, ms, e, h⟩ := h
  have := hs.size
  exact ⟨A, c, ms, e, (h.keep hs).more (fun i hi => ⟨by have := hi.1; omega, fun hd => by rcases hD i hd with h1 | h1; · exact hi.2 h1
                                                                                          · have := hi.1; omega⟩)⟩
def flags (ow : List Bool) : Array Value := (ow.map (Value.bool)).toArray
theorem flags_set (ow : List Bool) (q : Nat) (b : Bool) : (flags ow).setIfInBounds q (.bool b) = flags (ow.set q b) := by simp [flags, List.map_set]
theorem flags_get {ow : List Bool} {q : Nat} (h : q < ow.length) : (flags ow)[q]? = some (.bool (ow.getD q false)) := by simp [flags, List.getD, h]
/-- The tracker: its own block gt, its vectors' block gv, its flags' block go; D: all that it may write. -/
structure TrM (w : World) (D : Nat → Prop) (base gt gv go n : Nat) (A : Option Addr) (nA cA : Nat) (vs : List Value) (cs : List Nat) (ow : List Bool) : Prop where
  tr : Blk w gt 76 #[.slice A nA cA, .slice (some ⟨gv, 0, none⟩) n n, .slice (some ⟨go, 0, none⟩) n n]
  trD : ¬ D gt
  vec : Blk w gv 78 vs.toArray
  vlen : vs.length = n
  clen : cs.length = n
  flg : Blk w go 4 (flags ow)
  olen : ow.length = n
  row : ∀ (q : Nat) (v : Value), vs[q]? = some v → ∃ xs : List Value, w.ownsRow base 77 1 v (cs.getD q 0) xs ∧ ∀ x ∈ xs, VecR w D n x
  own : ∀ (q : Nat) (v : Value) (b : Nat), vs[q]? = some v → v.ownBlock = some b → D b ∧ b ≠ gv ∧ b ≠ go
  dis : ∀ (p q : Nat) (v u : Value) (b : Nat), p ≠ q → vs[p]? = some v → vs[q]? = some u → v.ownBlock = some b → u.ownBlock ≠ some b
  dv : D gv
  dg : D go
  vg : gv ≠ go
  low : ∀ i, D i → base ≤ i ∧ i < w.heap.size
section
variable {w w' u wb wz : World} {D : Nat → Prop} {base gt gv go n q : Nat} {A : Option Addr} {nA cA : Nat} {vs : List Value} {cs : List Nat} {ow : List Bool}
theorem TrM.keep (h : TrM w D base gt gv go n A nA cA vs cs ow) (hk : Keep w w') : TrM w' D base gt gv go n A nA cA vs cs ow := by
  have hz := hk.size
  refine ⟨hk.blk h.tr h.tr.lt, h.trD, hk.blk h.vec h.vec.lt, h.vlen, h.clen, hk.blk h.flg h.flg.lt, h.olen, fun q v hv => ?_, h.own, h.dis, h.dv, h.dg, h.vg, fun i hi => ⟨(h.low i hi).1, by have := (h.low i hi).2; omega⟩⟩
  obtain ⟨xs, h1, h2⟩ := h.row q v hv
  exact ⟨xs, ownsRow_same h1 hk (fun i hi => hi.2), fun x hx => (h2 x hx).keep (hk.mono (fun i hi => hi.1)) (fun i hi => .inl hi)⟩
/-- A write somewhere else. -/
theorem TrM.far (h : TrM w D base gt gv go n A nA cA vs cs ow) {b : Nat} (hs : Same (· ≠ b) w w') (hb : ¬ D b) (hbt : b ≠ gt) (hv : ∀ (q : Nat) (v : Value) (xs : List Value), vs[q]? = some v → w.ownsRow base 77 1 v (cs.getD q 0) xs → (∀ x ∈ xs, VecR w D n x) → ∀ x ∈ xs, VecR w' D n x) : TrM w' D base gt gv go n A nA cA vs cs ow := by
  have hz := hs.size
  refine ⟨hs.blk h.tr (fun e => hbt e.symm), h.trD, hs.blk h.vec (fun e => hb (e ▸ h.dv)), h.vlen, h.clen, hs.blk h.flg (fun e => hb (e ▸ h.dg)), h.olen, fun q v hv' => ?_, h.own, h.dis, h.dv, h.dg, h.vg, fun i hi => ⟨(h.low i hi).1, by have := (h.low i hi).2; omega⟩⟩
  obtain ⟨xs, h1, h2⟩ := h.row q v hv'
  exact ⟨xs, ownsRow_own h1 hs (fun b' hb' e => hb (e ▸ (h.own q v b' hv' hb').1)), hv q v xs hv' h1 h2⟩
/-- A flag set. -/
theorem TrM.flag (h : TrM w D base gt gv go n A nA cA vs cs ow) {b : Bool} (hb : Blk w' go 4 ((flags ow).setIfInBounds q (.bool b))) (hs : Same (· ≠ go) w w') : TrM w' D base gt gv go n A nA cA vs cs (ow.set q b) := by
  have hz := hs.size
  refine ⟨hs.blk h.tr (fun e => h.trD (e ▸ h.dg)), h.trD, hs.blk h.vec h.vg, h.vlen, h.clen, by rw [← flags_set]; exact hb, by simp [h.olen], fun q v hv => ?_, h.own, h.dis, h.dv, h.dg, h.vg, fun i hi => ⟨(h.low i hi).1, by have := (h.low i hi).2; omega⟩⟩
  obtain ⟨xs, h1, h2⟩ := h.row q v hv
  exact ⟨xs, ownsRow_own h1 hs (fun b' hb' => (h.own q v b' hv hb').2.2), fun x hx => (h2 x hx).keep (hs.mono (fun i hi e => hi.2 (e ▸ h.dg))) (fun i hi => .inl hi)⟩
theorem TrM.get (h : TrM w D base gt gv go n A nA cA vs cs ow) (hq : q < n) : ∃ v xs, vs[q]? = some v ∧ w.ownsRow base 77 1 v (cs.getD q 0) xs ∧ ∀ x ∈ xs, VecR w D n x := by
  have hql : q < vs.length := by rw [h.vlen]; exact hq
  have hv : vs[q]? = some vs[q] := List.getElem?_eq_getElem hql
  obtain ⟨xs, h1, h2⟩ := h.row q _ hv
  exact ⟨_, xs, hv, h1, h2⟩
/-- Vector k of process q, in memory. -/
theorem TrM.at_ (h : TrM w D base gt gv go n A nA cA vs cs ow) (hq : q < n) {k : Nat} (hk : k < cs.getD q 0) : ∃ (b c : Nat) (X : Option Addr) (cx : Nat) (ms : List (Int × Int)), vs[q]? = some (.slice (some ⟨b, 0, none⟩) (cs.getD q 0) c) ∧ b < w.heap.size ∧ w.cell? ⟨b, k, none⟩ = some (.slice X n cx) ∧ Sl encLb 2 w (fun i => i < w.heap.size ∧ ¬ D i) X n cx ms ∧ D b := by
  obtain ⟨v, xs, hv, h1, h2⟩ := h.get hq
  obtain ⟨A, c, rfl, -, -⟩ := own_form h1
  have hxl : xs.length = cs.getD q 0 := by have := h1.1; omega
  have hkx : k < xs.length := by omega
  obtain ⟨X, cx, ms, hx, hs⟩ := h2 xs[k] (List.getElem_mem hkx)
  obtain ⟨g, cur, rfl, hbg, hblk, hcs, hnc, hcm, htk⟩ := own_open (size := 1) h1 (by omega)
  refine ⟨g, c, X, cx, ms, hv, hblk.lt, ?_, hs, (h.own q _ g hv rfl).1⟩
  have hc := h1.cells (g := g) rfl k xs[k] (List.getElem?_eq_getElem hkx)
  rw [add_lit', Nat.zero_add] at hc
  rw [hc, hx]
/-- Behind an append onto the row of process q. -/
theorem TrM.push {v vb : Value} {xs : List Value} {x : Value} (h : TrM u D base gt gv go n A nA cA vs cs ow) (hq : q < n) (hv : vs[q]? = some v) (hr : u.ownsRow base 77 1 v (cs.getD q 0) xs) (hxs : ∀ y ∈ xs, VecR u D n y) (hx : VecR u D n x) (hown : wb.ownsRow base 77 1 vb (cs.getD q 0 + 1) (xs ++ [x])) (hg : u.grownBy wb v.ownBlock)
    (hat : vb.ownBlock = v.ownBlock ∨ vb.ownBlock = some u.heap.size) (hb : Blk wz gv 78 (vs.set q vb).toArray) (hs : Same (· ≠ gv) wb wz) (hbase : base ≤ u.heap.size) :
    TrM wz (fun i => D i ∨ vb.ownBlock = some i) base gt gv go n A nA cA (vs.set q vb) (cs.set q (cs.getD q 0 + 1)) ow := by
  have hS : Same (fun i => i < u.heap.size ∧ v.ownBlock ≠ some i) u wb := Same.grown (Same.refl _ _) hg (fun i hi => hi.1) (fun k hk hh => hh.2 hk)
  have hz1 := hS.size
  have hz2 := hs.size
  have hql : q < vs.length := by rw [h.vlen]; exact hq
  have hqc : q < cs.length := by rw [h.clen]; exact hq
  have hnew : ∀ i, vb.ownBlock = some i → i < u.heap.size → v.ownBlock = some i := fun i e hi => by
    rcases hat with h3 | h3
    · rw [← h3]; exact e
    · rw [h3] at e; injection e with e; omega
  have hown0 : ∀ i, v.ownBlock = some i → D i := fun i e => (h.own q v i hv e).1
  have hSD : Same (fun i => i < u.heap.size ∧ ¬ D i) u wz := Same.trans (hS.mono (fun i hi => ⟨hi.1, fun e => hi.2 (hown0 i e)⟩)) hs (fun i hi e => hi.2 (e ▸ h.dv))
  have hVR : ∀ y, VecR u D n y → VecR wz (fun i => D i ∨ vb.ownBlock = some i) n y := fun y hy => hy.keep hSD (fun i hi => by
    rcases hi with h1 | h1
    · exact .inl h1
    · rcases Nat.lt_or_ge i u.heap.size with h2 | h2
      · exact .inl (hown0 i (hnew i h1 h2))
      · exact .inr h2)
  have hogv : ∀ i, vb.ownBlock = some i → i ≠ gv ∧ i ≠ go ∧ i ≠ gt := fun i e => by
    rcases Nat.lt_or_ge i u.heap.size with h2 | h2
    · have h3 := hnew i e h2
      have h4 := h.own q v i hv h3
      exact ⟨h4.2.1, h4.2.2, fun e2 => h.trD (e2 ▸ h4.1)⟩
    · have h3 := h.vec.lt
      have h4 := h.flg.lt
      have h5 := h.tr.lt
      omega
  have hnv : ∀ i, v.ownBlock = some i → i ≠ gt := fun i e e2 => h.trD (e2 ▸ hown0 i e)
  have hset : ∀ (p : Nat) (y : Value), (vs.set q vb)[p]? = some y → (p = q ∧ y = vb) ∨ (q ≠ p ∧ vs[p]? = some y) := fun p y hy => by
    rw [List.getElem?_set] at hy
    by_cases e : q = p
    · subst e
      rw [if_pos rfl, if_pos hql] at hy
      injection hy with hy
      exact .inl ⟨rfl, hy.symm⟩
    · rw [if_neg e] at hy
      exact .inr ⟨e, hy⟩
  have hlow := h.low
  refine ⟨?_, ?_, hb, by simp [h.vlen], by simp [h.clen], ?_, h.olen, fun p y hy => ?_, fun p y b hy hyb => ?_, fun p r y z b hpr hy hz hyb => ?_, .inl h.dv, .inl h.dg, h.vg, fun i hi => ?_⟩
  · have h1 := hS.blk h.tr ⟨h.tr.lt, fun e => hnv gt e rfl⟩
    exact hs.blk h1 (fun e => h.trD (e ▸ h.dv))
  · rintro (h1 | h1)
    · exact h.trD h1
    · exact (hogv gt h1).2.2 rfl
  · have h1 := hS.blk h.flg ⟨h.flg.lt, fun e => (h.own q v go hv e).2.2 rfl⟩
    exact hs.blk h1 (fun e => h.vg e.symm)
  · rcases hset p y hy with ⟨rfl, rfl⟩ | ⟨hne, hy⟩
    · rw [getD_setN hqc]
      refine ⟨xs ++ [x], ownsRow_own hown hs (fun b hb e => (hogv b hb).1 e), fun z hz => ?_⟩
      rcases List.mem_append.1 hz with h1 | h1
      · exact hVR z (hxs z h1)
      · simp at h1
        subst h1
        exact hVR z hx
    · rw [getD_setM hne]
      obtain ⟨ys, h1, h2⟩ := h.row p y hy
      have h3 := ownsRow_own h1 hS (fun b hb => ⟨(h1.lt b hb).2, fun e => h.dis q p v y b hne hv hy e hb⟩)
      exact ⟨ys, ownsRow_own h3 hs (fun b hb => (h.own p y b hy hb).2.1), fun z hz => hVR z (h2 z hz)⟩
  · rcases hset p y hy with ⟨rfl, rfl⟩ | ⟨hne, hy⟩
    · exact ⟨.inr hyb, (hogv b hyb).1, (hogv b hyb).2.1⟩
    · have := h.own p y b hy hyb
      exact ⟨.inl this.1, this.2⟩
  · rcases hset p y hy with ⟨e1, e2⟩ | ⟨hne, hy'⟩
    · rcases hset r z hz with ⟨e3, e4⟩ | ⟨hne2, hz'⟩
      · exact absurd (e1.trans e3.symm) hpr
      · intro e
        subst e2
        have hlt := (hlow b (h.own r z b hz' e).1).2
        exact h.dis q r v z b hne2 hv hz' (hnew b hyb hlt) e
    · rcases hset r z hz with ⟨e3, e4⟩ | ⟨hne2, hz'⟩
      · intro e
        subst e4
        have hlt := (hlow b (h.own p y b hy' hyb).1).2
        exact h.dis q p v y b hne hv hy' (hnew b e hlt) hyb
      · exact h.dis p r y z b hpr hy' hz' hyb
  · rcases hi with h1 | h1
    · have := hlow i h1
      exact ⟨this.1, by omega⟩
    · have := hown.lt i h1
      exact ⟨this.1, by omega⟩
end
end Go.Proofs.Ytcfpkmfppgodmaa
