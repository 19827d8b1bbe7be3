/- A pattern in memory, while the maker makes it. -/
import Derived.Test.YtcfpkmfppgodmaaPat3
import Derived.Test.YtcfpkmfppgodmaaMk2
set_option linter.unusedVariables false
set_option linter.unusedSimpArgs false
set_option maxRecDepth 100000
namespace Go.Proofs.Ytcfpkmfppgodmaa
open Go.RowKit Go.Proofs

/-- The blocks from base on, but the messages' own and the pattern's. -/
def Ns (w : World) (base g6 : Nat) (V : Value) (i : Nat) : Prop := base ≤ i ∧ i < w.heap.size ∧ V.ownBlock ≠ some i ∧ i ≠ g6
structure PtM (w : World) (base g6 n : Nat) (A1 A2 A3 : Option Addr) (c1 c2 m c3 : Nat) (ls : List Nat) (arcs : List Arc) (L : Nat) : Prop where
  blk : Blk w g6 32 #[.slice A1 n c1, .slice A2 n c2, .slice A3 m c3]
  len : Sl encI 1 w (Ns w base g6 (.slice A3 m c3)) A1 n c1 (intsN ls)
  ck : CkR w (Ns w base g6 (.slice A3 m c3)) A2 n c2 L
  row : w.ownsRow base 62 4 (.slice A3 m c3) m (arcs.flatMap encArc)
  own : (Value.slice A3 m c3).ownBlock ≠ some g6
  pat : PatR ls arcs
  hm : arcs.length = m
  low : base ≤ g6
section
variable {w w' u1 wz wb : World} {base g6 n : Nat} {A1 A2 A3 A2' A1' A3' : Option Addr} {c1 c2 m c3 c1' c2' c3' : Nat} {ls ls' : List Nat} {arcs arcs' : List Arc} {L : Nat}
theorem PtM.same (h : PtM w base g6 n A1 A2 A3 c1 c2 m c3 ls arcs L) (hs : Same (fun i => base ≤ i ∧ i < w.heap.size) w w') : PtM w' base g6 n A1 A2 A3 c1 c2 m c3 ls arcs L := by
  have hz := hs.size
  have hN : ∀ i, Ns w base g6 (.slice A3 m c3) i → base ≤ i ∧ i < w.heap.size := fun i hi => ⟨hi.1, hi.2.1⟩
  have hU : ∀ i, Ns w base g6 (.slice A3 m c3) i → Ns w' base g6 (.slice A3 m c3) i := fun i hi => ⟨hi.1, by have := hi.2.1; omega, hi.2.2⟩
  exact ⟨hs.blk h.blk ⟨h.low, h.blk.lt⟩, (h.len.keep (hs.mono hN)).more hU, (h.ck.keep (hs.mono hN)).more hU, ownsRow_same h.row hs (fun i hi => hi), h.own, h.pat, h.hm, h.low⟩
theorem PtM.keep (h : PtM w base g6 n A1 A2 A3 c1 c2 m c3 ls arcs L) (hs : Keep w w') : PtM w' base g6 n A1 A2 A3 c1 c2 m c3 ls arcs L := h.same (hs.mono (fun i hi => hi.2))
theorem PtM.le {L' : Nat} (h : PtM w base g6 n A1 A2 A3 c1 c2 m c3 ls arcs L) (hL : L ≤ L') : PtM w base g6 n A1 A2 A3 c1 c2 m c3 ls arcs L' := ⟨h.blk, h.len, h.ck.le hL, h.row, h.own, h.pat, h.hm, h.low⟩
/-- Behind Mark. -/
theorem PtM.mark (h : PtM w base g6 n A1 A2 A3 c1 c2 m c3 ls arcs L) (hk : Keep w u1) (hC : CkR u1 (fun i => Ns w base g6 (.slice A3 m c3) i ∨ New u1 w.heap.size i) A2' n c2' (L + 1))
    (hb : Blk wz g6 32 #[.slice A1 n c1, .slice A2' n c2', .slice A3 m c3]) (hs : Same (· ≠ g6) u1 wz) : PtM wz base g6 n A1 A2' A3 c1 c2' m c3 ls arcs (L + 1) := by
  have hz := hk.size
  have hz2 := hs.size
  have hg := h.blk.lt
  have hlow := h.low
  have hU : ∀ i, Ns w base g6 (.slice A3 m c3) i → Ns wz base g6 (.slice A3 m c3) i := fun i hi => ⟨hi.1, by have := hi.2.1; omega, hi.2.2⟩
  have hks : Same (Ns w base g6 (.slice A3 m c3)) w wz := Same.trans (hk.mono (fun i hi => hi.2.1)) hs (fun i hi => hi.2.2.2)
  refine ⟨hb, (h.len.keep hks).more hU, (hC.keep (hs.mono (fun i hi => ?_))).more (fun i hi => ?_), ownsRow_own (ownsRow_same h.row hk (fun i hi => hi.2)) hs (fun b hb e => h.own (e ▸ hb)), h.own, h.pat, h.hm, h.low⟩
  · rcases hi with hi | hi
    · exact hi.2.2.2
    · have := hi.1; show i ≠ g6; omega
  · rcases hi with hi | hi
    · exact hU i hi
    · refine ⟨by have := hi.1; omega, by have := hi.2; omega, fun e => ?_, by have := hi.1; omega⟩
      have := (h.row.lt i e).2
      have := hi.1
      omega
theorem own_sl {v : World} {A : Option Addr} {c k : Nat} {l : List Int} (h : v.ownsRow k 3 1 (.slice A n c) n (l.flatMap encI)) : Sl encI 1 v (fun i => (Value.slice A n c).ownBlock = some i ∧ k ≤ i ∧ i < v.heap.size) A n c l := by
  obtain ⟨A', c', e1, h1, h2⟩ := own_form h
  simp only [Value.slice.injEq, true_and] at e1
  obtain ⟨rfl, rfl⟩ := e1
  have hl : n = l.length := by have := h.1; rw [flat_length encI_len] at this; omega
  refine ⟨hl, h1, h2, h.1, fun h0 => ?_⟩
  obtain ⟨b, off, e, hS, hc⟩ := (Reads.of_own h).2 h0
  refine ⟨b, off, e, ⟨?_, hS⟩, hc⟩
  rcases h.2 with ⟨-, hn⟩ | ⟨g, cap, cur, e2, -⟩
  · omega
  · rw [e2]
    simp only [Value.slice.injEq] at e2
    have := e2.1
    rw [e] at this
    injection this with this
    injection this with h3 h4
    subst h3
    rfl
/-- Behind an event. -/
theorem PtM.event (h : PtM w base g6 n A1 A2 A3 c1 c2 m c3 ls arcs L) (hk : Keep w u1) (h1 : u1.ownsRow w.heap.size 3 1 (.slice A1' n c1') n ((intsN ls').flatMap encI)) (h2 : u1.ownsRow w.heap.size 62 4 (.slice A3' arcs'.length c3') arcs'.length (arcs'.flatMap encArc))
    (hd : ∀ b, (Value.slice A1' n c1').ownBlock = some b → (Value.slice A3' arcs'.length c3').ownBlock ≠ some b) (hp : PatR ls' arcs')
    (hb : Blk wz g6 32 #[.slice A1' n c1', .slice A2 n c2, .slice A3' arcs'.length c3']) (hs : Same (· ≠ g6) u1 wz) : PtM wz base g6 n A1' A2 A3' c1' c2 arcs'.length c3' ls' arcs' L := by
  have hz := hk.size
  have hz2 := hs.size
  have hg := h.blk.lt
  have hlow := h.low
  have hks : Same (Ns w base g6 (.slice A3 m c3)) w wz := Same.trans (hk.mono (fun i hi => hi.2.1)) hs (fun i hi => hi.2.2.2)
  have hU : ∀ i, Ns w base g6 (.slice A3 m c3) i → Ns wz base g6 (.slice A3' arcs'.length c3') i := fun i hi => ⟨hi.1, by have := hi.2.1; omega, fun e => by have := (h2.lt i e).1; have := hi.2.1; omega, hi.2.2.2⟩
  refine ⟨hb, ((own_sl h1).keep (hs.mono (fun i hi => by have := hi.2.1; show i ≠ g6; omega))).more (fun i hi => ⟨by have := hi.2.1; omega, by have := hi.2.2; omega, hd i hi.1, by have := hi.2.1; omega⟩), (h.ck.keep hks).more hU, own_low (ownsRow_own h2 hs (fun b hb e => by have := (h2.lt b hb).1; omega)) (by omega), fun e => by have := (h2.lt g6 e).1; omega, hp, rfl, h.low⟩
/-- Behind a message that is on its way. -/
theorem PtM.transit {a : Arc} (h : PtM w base g6 n A1 A2 A3 c1 c2 m c3 ls arcs L) (hk : Keep w u1) (hown : wb.ownsRow base 62 4 (.slice A3' (m + 1) c3') (m + 1) (arcs.flatMap encArc ++ encArc a)) (hg : u1.grownBy wb (Value.slice A3 m c3).ownBlock) (hat : (Value.slice A3' (m + 1) c3').ownBlock = (Value.slice A3 m c3).ownBlock ∨ (Value.slice A3' (m + 1) c3').ownBlock = some u1.heap.size)
    (hp : PatR ls (arcs ++ [a])) (hb : Blk wz g6 32 #[.slice A1 n c1, .slice A2 n c2, .slice A3' (m + 1) c3']) (hs : Same (· ≠ g6) wb wz) : PtM wz base g6 n A1 A2 A3' c1 c2 (m + 1) c3' ls (arcs ++ [a]) L := by
  have hz := hk.size
  have hz2 := hs.size
  have hgl := h.blk.lt
  have hlow := h.low
  have hS : Same (fun i => i < w.heap.size ∧ (Value.slice A3 m c3).ownBlock ≠ some i) w wb := Same.grown (hk.mono (fun i hi => hi.1)) hg (fun i hi => by have := hi.1; omega) (fun k hk hh => hh.2 hk)
  have hz3 := hS.size
  have hks : Same (Ns w base g6 (.slice A3 m c3)) w wz := Same.trans (hS.mono (fun i hi => ⟨hi.2.1, hi.2.2.1⟩)) hs (fun i hi => hi.2.2.2)
  have hv : ∀ i, i < w.heap.size → (Value.slice A3 m c3).ownBlock ≠ some i → (Value.slice A3' (m + 1) c3').ownBlock ≠ some i := fun i h1 h2 e => by
    rcases hat with h3 | h3
    · exact h2 (h3 ▸ e)
    · rw [h3] at e; injection e with e; omega
  have hU : ∀ i, Ns w base g6 (.slice A3 m c3) i → Ns wz base g6 (.slice A3' (m + 1) c3') i := fun i hi => ⟨hi.1, by have := hi.2.1; omega, hv i hi.2.1 hi.2.2.1, hi.2.2.2⟩
  have hfl : (arcs ++ [a]).flatMap encArc = arcs.flatMap encArc ++ encArc a := by simp
  have hog : (Value.slice A3' (m + 1) c3').ownBlock ≠ some g6 := hv g6 hgl h.own
  refine ⟨hb, (h.len.keep hks).more hU, (h.ck.keep hks).more hU, ?_, hog, hp, by rw [List.length_append, h.hm]; rfl, h.low⟩
  rw [hfl]
  exact ownsRow_own hown hs (fun b hb e => hog (e ▸ hb))
end
end Go.Proofs.Ytcfpkmfppgodmaa
