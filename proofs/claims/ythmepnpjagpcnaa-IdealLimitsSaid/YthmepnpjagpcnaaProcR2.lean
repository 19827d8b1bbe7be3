/- The reference's Start, Next, Replay. -/
import Derived.Test.YthmepnpjagpcnaaProcR1
set_option linter.unusedVariables false
set_option linter.unusedSimpArgs false
set_option maxRecDepth 100000
namespace Go.Proofs.Ythmepnpjagpcnaa
open Go.RowKit Go.Proofs

/-- Five cells that read as a code. -/
def CdR (w : World) (S : Nat → Prop) (cs : List Value) (c : Cd) : Prop :=
  ∃ (A0 A1 A2 A3 A4 : Option Addr) (m0 c0 m1 c1 m2 c2 m3 c3 m4 c4 : Nat), cs = [.slice A0 m0 c0, .slice A1 m1 c1, .slice A2 m2 c2, .slice A3 m3 c3, .slice A4 m4 c4] ∧ Sl encI 1 w S A0 m0 c0 c.init ∧
    SlR w S 18 (StmR w S 3) A1 m1 c1 c.start ∧ SlR w S 18 (StmR w S 3) A2 m2 c2 c.message ∧ SlR w S 18 (StmR w S 3) A3 m3 c3 c.tick ∧ SlR w S 18 (StmR w S 3) A4 m4 c4 c.input ∧ c.init.length ≤ 1000000
theorem CdR.keep {w w' : World} {S : Nat → Prop} {cs : List Value} {c : Cd} (h : CdR w S cs c) (hk : Same S w w') : CdR w' S cs c := by
  obtain ⟨A0, A1, A2, A3, A4, m0, c0, m1, c1, m2, c2, m3, c3, m4, c4, e, h0, h1, h2, h3, h4, h5⟩ := h
  exact ⟨A0, A1, A2, A3, A4, m0, c0, m1, c1, m2, c2, m3, c3, m4, c4, e, h0.keep hk, h1.keep hk (StmR.keep hk _), h2.keep hk (StmR.keep hk _), h3.keep hk (StmR.keep hk _), h4.keep hk (StmR.keep hk _), h5⟩
theorem CdR.more {w : World} {S T : Nat → Prop} {cs : List Value} {c : Cd} (h : CdR w S cs c) (hk : ∀ i, S i → T i) : CdR w T cs c := by
  obtain ⟨A0, A1, A2, A3, A4, m0, c0, m1, c1, m2, c2, m3, c3, m4, c4, e, h0, h1, h2, h3, h4, h5⟩ := h
  exact ⟨A0, A1, A2, A3, A4, m0, c0, m1, c1, m2, c2, m3, c3, m4, c4, e, h0.more hk, h1.more hk (StmR.more hk _), h2.more hk (StmR.more hk _), h3.more hk (StmR.more hk _), h4.more hk (StmR.more hk _), h5⟩
theorem st_open {w : World} {S : Nat → Prop} {cs : List Value} {s : St} (h : StR w S cs s) : ∃ (B1 B2 B3 B4 : Option Addr) (p1 q1 p2 q2 p3 q3 p4 q4 : Nat), cs = [.slice B1 p1 q1, .slice B2 p2 q2, .slice B3 p3 q3, .slice B4 p4 q4] ∧ StR w S [.slice B1 p1 q1, .slice B2 p2 q2, .slice B3 p3 q3, .slice B4 p4 q4] s := by
  have h' := h
  obtain ⟨A1, A2, A3, A4, n1, c1, n2, c2, n3, c3, n4, c4, rfl, _⟩ := h
  exact ⟨A1, A2, A3, A4, n1, c1, n2, c2, n3, c3, n4, c4, rfl, h'⟩
/-- A state that came from a call stays, though block b, which stood before the call, is written. -/
theorem st_after {S : Nat → Prop} {w W w1 wz : World} {cs : List Value} {s : St} {b : Nat} (hS : ∀ i, S i → i < w.heap.size) (hW : w.heap.size ≤ W.heap.size) (h : StR w1 (Sn S W w1) cs s) (hs : Same (· ≠ b) w1 wz) (h1 : w.heap.size ≤ b) (h2 : b < W.heap.size) : StR wz (Sn S w wz) cs s :=
  (h.keep (hs.mono (fun i hi e => hi.elim (fun hi => by have := hS i hi; omega) (fun hi => by omega)))).more (Sn.mono hW hs.size)
theorem load_st {w : World} {b : Nat} {cs : List Value} (hl : cs.length = 4) (hb : Blk w b 105 cs.toArray) : (loadVar 105 ⟨b, 0, none⟩).run Try.prog w = .ok (.agg cs.toArray) w :=
  loadVar_blk cs _ hb (fun j v hv => by simpa using hv) Try.underlying105 rfl (by rw [hl]; kernel_rfl)
theorem bld_env4 (a b c d : Int) : Try.prog.built 146 [(0, .int .i64 a), (1, .int .i64 b), (2, .int .i64 c), (3, .int .i64 d)] = some #[.int .i64 a, .int .i64 b, .int .i64 c, .int .i64 d] := by kernel_rfl
theorem blk4b (w : World) (o1 o3 o4 : Obj) (t : TypeId) (cs : Array Value) : Blk ((((w.alloc o1).alloc (.cells cs t)).alloc o3).alloc o4) (w.heap.size + 1) t cs := (blkM w o1 o3 t cs).alloc o4
theorem blk4c (w : World) (o1 o2 o4 : Obj) (t : TypeId) (cs : Array Value) : Blk ((((w.alloc o1).alloc o2).alloc (.cells cs t)).alloc o4) (w.heap.size + 2) t cs := (blkL w o1 o2 t cs).alloc o4
theorem blk4d (w : World) (o1 o2 o3 : Obj) (t : TypeId) (cs : Array Value) : Blk ((((w.alloc o1).alloc o2).alloc o3).alloc (.cells cs t)) (w.heap.size + 3) t cs := by simpa using Blk.new (((w.alloc o1).alloc o2).alloc o3) t cs
theorem built_ev (a b c d e f g : Int) : builtS Try.prog 50 1 [(0, .agg #[.int .i64 a, .int .i64 b, .int .i64 c, .int .i64 d, .int .i64 e, .int .i64 f, .int .i64 g])] = some #[.int .i64 a, .int .i64 b, .int .i64 c, .int .i64 d, .int .i64 e, .int .i64 f, .int .i64 g] := by kernel_rfl
/-- The events have been copied and have one more; nothing else of W is changed. -/
def NxtRel (W : World) (b : Nat) (x y z : Value) (evs : List Ev) (wx : World) : Prop :=
  ∃ A c, Blk wx b 105 #[x, .slice A evs.length c, y, z] ∧ Sl encEv 7 wx (fun i => W.heap.size ≤ i ∧ i < wx.heap.size) A evs.length c evs ∧ Same (fun i => i < W.heap.size ∧ i ≠ b) W wx
end Go.Proofs.Ythmepnpjagpcnaa
