/- Small words for the walks of law06 and law34. -/
import Derived.Test.YthmepnpjagpcnaaSame2
import Derived.Test.YthmepnpjagpcnaaProcR3
set_option linter.unusedVariables false
set_option linter.unusedSimpArgs false
set_option maxRecDepth 100000
namespace Go.Proofs.Ythmepnpjagpcnaa
open Go.RowKit Go.Proofs

theorem st_sl {w : World} {S : Nat → Prop} {B1 B2 B3 B4 : Option Addr} {p1 q1 p2 q2 p3 q3 p4 q4 : Nat} {s : St} (h : StR w S [.slice B1 p1 q1, .slice B2 p2 q2, .slice B3 p3 q3, .slice B4 p4 q4] s) :
    Sl encI 1 w S B1 p1 q1 s.cells ∧ Sl encEv 7 w S B2 p2 q2 s.events ∧ Sl encSnd 4 w S B3 p3 q3 s.sent ∧ Sl encOut 2 w S B4 p4 q4 s.outs := by
  obtain ⟨A1, A2, A3, A4, n1, c1, n2, c2, n3, c3, n4, c4, e, h1, h2, h3, h4⟩ := h
  simp only [List.cons.injEq, Value.slice.injEq, and_true] at e
  obtain ⟨⟨rfl, rfl, rfl⟩, ⟨rfl, rfl, rfl⟩, ⟨rfl, rfl, rfl⟩, rfl, rfl, rfl⟩ := e
  exact ⟨h1, h2, h3, h4⟩
theorem st_mk {w : World} {S : Nat → Prop} {B1 B2 B3 B4 : Option Addr} {p1 q1 p2 q2 p3 q3 p4 q4 : Nat} {s : St}
    (h1 : Sl encI 1 w S B1 p1 q1 s.cells) (h2 : Sl encEv 7 w S B2 p2 q2 s.events) (h3 : Sl encSnd 4 w S B3 p3 q3 s.sent) (h4 : Sl encOut 2 w S B4 p4 q4 s.outs) :
    StR w S [.slice B1 p1 q1, .slice B2 p2 q2, .slice B3 p3 q3, .slice B4 p4 q4] s := ⟨B1, B2, B3, B4, p1, q1, p2, q2, p3, q3, p4, q4, rfl, h1, h2, h3, h4⟩
theorem cd_init {w : World} {S : Nat → Prop} {B0 B1 B2 B3 B4 : Option Addr} {p0 q0 p1 q1 p2 q2 p3 q3 p4 q4 : Nat} {c : Cd} (h : CdR w S [.slice B0 p0 q0, .slice B1 p1 q1, .slice B2 p2 q2, .slice B3 p3 q3, .slice B4 p4 q4] c) : p0 = c.init.length := by
  obtain ⟨A0, A1, A2, A3, A4, m0, c0, m1, c1, m2, c2, m3, c3, m4, c4, e, h0, h1, h2, h3, h4, h5⟩ := h
  simp only [List.cons.injEq, Value.slice.injEq, and_true] at e
  obtain ⟨⟨rfl, rfl, rfl⟩, -⟩ := e
  exact h0.1
theorem drop_cons {α : Type} {l : List α} {k : Nat} {y : α} (h : l[k]? = some y) : l.drop k = y :: l.drop (k + 1) := by
  obtain ⟨hk, rfl⟩ := List.getElem?_eq_some_iff.1 h
  exact List.drop_eq_getElem_cons hk
theorem cd_open2 {w : World} {S : Nat → Prop} {cs : List Value} {c : Cd} (h : CdR w S cs c) : ∃ (B0 B1 B2 B3 B4 : Option Addr) (p0 q0 p1 q1 p2 q2 p3 q3 p4 q4 : Nat), cs = [.slice B0 p0 q0, .slice B1 p1 q1, .slice B2 p2 q2, .slice B3 p3 q3, .slice B4 p4 q4] ∧ CdR w S [.slice B0 p0 q0, .slice B1 p1 q1, .slice B2 p2 q2, .slice B3 p3 q3, .slice B4 p4 q4] c := by
  have h' := h
  obtain ⟨A0, A1, A2, A3, A4, m0, c0, m1, c1, m2, c2, m3, c3, m4, c4, rfl, _⟩ := h
  exact ⟨A0, A1, A2, A3, A4, m0, c0, m1, c1, m2, c2, m3, c3, m4, c4, rfl, h'⟩
/-- The blocks of a world but one. -/
def Bx (g : Nat) (w : World) (i : Nat) : Prop := i < w.heap.size ∧ i ≠ g
def Bw (w : World) (i : Nat) : Prop := i < w.heap.size
section
variable {P : Program} {ops : Array Oper} {o : Oper} {a : Act} {w : World} {K : Act → World → Prop} {Q : Exit → Act → World → Prop} {E : Prop}
theorem step_load_blk (hgd : o.guard = none) (ty : TypeId) (x : Operand) (ho : o.op = .load ty x)
    (g off : Nat) (t : TypeId) (cs : Array Value) (vs : List Value) (d : TypeDesc) (hx : a.eval x = .pointer (some ⟨g, off, none⟩)) (hb : Blk w g t cs) (hvs : ∀ j v, vs[j]? = some v → cs[off + j]? = some v)
    (hu : P.underlying ty = some d) (hd : d.isRow = true) (hi : (P.info? ty).map (·.size) = some vs.length)
    (h : K (a.put o.dst (.agg vs.toArray)) w) : if Region.wanted o (yielded ops a.tmps) = true then Oper.wp P o a w K Q else E := by
  have hw : Region.wanted o (yielded ops a.tmps) = true := by simp [Region.wanted, hgd]
  rw [if_pos hw]
  have hy := yieldsIf_blk (T := fun w' => w' = w) hw ty x ho g off t cs vs d hx (fun w' e => e ▸ hb) hvs hu hd hi
  rcases hy with ⟨_, hr⟩ | hn
  · have e := hr w rfl
    unfold Oper.wp
    rw [e]
    exact h
  · simp_all
end
/-- Two variables that hold states. -/
def Bg (g h : Nat) (w : World) (i : Nat) : Prop := i < w.heap.size ∧ i ≠ g ∧ i ≠ h
def TwoSt (W : World) (g h : Nat) (s t : St) (wx : World) : Prop :=
  ∃ cs ct : List Value, Blk wx g 105 cs.toArray ∧ Blk wx h 105 ct.toArray ∧ StR wx (Bg g h wx) cs s ∧ StR wx (Bg g h wx) ct t ∧ Keep W wx
def TwoV (W : World) (s t : St) (p q : Value) (wx : World) : Prop := ∃ g h : Nat, p = .pointer (some ⟨g, 0, none⟩) ∧ q = .pointer (some ⟨h, 0, none⟩) ∧ g ≠ h ∧ W.heap.size ≤ g ∧ W.heap.size ≤ h ∧ TwoSt W g h s t wx
theorem two_put2 {W u u5 u6 : World} {g h : Nat} {cs ct : List Value} {s t : St} {S1 S2 : Nat → Prop} (hgh : g ≠ h) (hg : W.heap.size ≤ g) (hh : W.heap.size ≤ h) (hgl : g < u.heap.size) (hhl : h < u.heap.size)
    (h1 : ∀ i, S1 i → Bg g h u i) (h2 : ∀ i, S2 i → Bg g h u i) (r1 : StR u S1 cs s) (r2 : StR u S2 ct t) (hk : Keep W u)
    (b5 : Blk u5 g 105 cs.toArray) (s5 : Same (· ≠ g) u u5) (b6 : Blk u6 h 105 ct.toArray) (s6 : Same (· ≠ h) u5 u6) : TwoSt W g h s t u6 := by
  have z5 := s5.size
  have z6 := s6.size
  have sb : Same (Bg g h u) u u6 := Same.trans (s5.mono (fun i (hi : Bg g h u i) => hi.2.1)) s6 (fun i hi => hi.2.2)
  have up : ∀ i, Bg g h u i → Bg g h u6 i := fun i hi => ⟨by have := hi.1; omega, hi.2⟩
  exact ⟨cs, ct, s6.blk b5 hgh, b6, ((r1.more h1).keep sb).more up, ((r2.more h2).keep sb).more up, Same.trans hk (Same.trans (s5.mono (fun i (hi : i < W.heap.size) => by show i ≠ g; omega)) s6 (fun i hi => by show i ≠ h; omega)) (fun i hi => hi)⟩
theorem fine_replay (cd : Cd) (me : Int) (l : List Ev) (hi : cd.init.length ≤ 1000000) (hl : l.length ≤ 100) : Fine (replayS cd me 3 l) := by
  have h := replayS_len cd me 3 l
  have he := replayS_events cd me 3 l
  exact ⟨by omega, by rw [he]; omega, by omega, by omega⟩
end Go.Proofs.Ythmepnpjagpcnaa
