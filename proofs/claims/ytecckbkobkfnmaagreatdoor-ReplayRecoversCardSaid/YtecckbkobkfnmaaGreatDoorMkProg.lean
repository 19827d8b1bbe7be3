/- The maker's Program: some program (written by gen_prog.py). -/
import Derived.Test.YtecckbkobkfnmaaGreatDoorMkStmts
set_option linter.unusedVariables false
set_option linter.unusedSimpArgs false
set_option maxRecDepth 100000
namespace Go.Proofs.YtecckbkobkfnmaaGreatDoor
open Go.RowKit Go.Proofs

structure Vr where
  name : ByteArray
  size : Int
  init : Int
def encVr (v : Vr) : List Value := [.string v.name, .int .i64 v.size, .int .i64 v.init]
theorem encVr_len (v : Vr) : (encVr v).length = 3 := rfl
/-- A program's five cells: declarations and four handlers, of at most three levels. -/
structure Prg where
  vars : List Vr
  start : List Stm
  message : List Stm
  tick : List Stm
  input : List Stm
def StmsR (w : World) (S : Nat → Prop) (A : Option Addr) (m c : Nat) (l : List Stm) : Prop := SlR w S 18 (fun cs s => StmR w S 3 cs s) A m c l ∧ l.length ≤ 100 ∧ ∀ a ∈ l, Stm.few 1000 3 a
theorem StmsR.keep {w w' : World} {S : Nat → Prop} {A : Option Addr} {m c : Nat} {l : List Stm} (h : StmsR w S A m c l) (hk : Same S w w') : StmsR w' S A m c l := ⟨h.1.keep hk (StmR.keep hk 3), h.2⟩
theorem StmsR.more {w : World} {S T : Nat → Prop} {A : Option Addr} {m c : Nat} {l : List Stm} (h : StmsR w S A m c l) (hS : ∀ i, S i → T i) : StmsR w T A m c l := ⟨h.1.more hS (StmR.more hS 3), h.2⟩
def PrgR (w : World) (S : Nat → Prop) (cs : List Value) (p : Prg) : Prop :=
  ∃ (A A1 A2 A3 A4 : Option Addr) (m c m1 c1 m2 c2 m3 c3 m4 c4 : Nat), cs = [.slice A m c, .slice A1 m1 c1, .slice A2 m2 c2, .slice A3 m3 c3, .slice A4 m4 c4] ∧ Sl encVr 3 w S A m c p.vars ∧ p.vars.length ≤ 100 ∧ (∀ v ∈ p.vars, (0 ≤ v.size ∧ v.size ≤ 100) ∧ -100 ≤ v.init ∧ v.init ≤ 100) ∧
    StmsR w S A1 m1 c1 p.start ∧ StmsR w S A2 m2 c2 p.message ∧ StmsR w S A3 m3 c3 p.tick ∧ StmsR w S A4 m4 c4 p.input
theorem PrgR.keep {w w' : World} {S : Nat → Prop} {cs : List Value} {p : Prg} (h : PrgR w S cs p) (hk : Same S w w') : PrgR w' S cs p := by
  obtain ⟨A, A1, A2, A3, A4, m, c, m1, c1, m2, c2, m3, c3, m4, c4, e, h0, hl, hv, h1, h2, h3, h4⟩ := h
  exact ⟨A, A1, A2, A3, A4, m, c, m1, c1, m2, c2, m3, c3, m4, c4, e, h0.keep hk, hl, hv, h1.keep hk, h2.keep hk, h3.keep hk, h4.keep hk⟩
theorem PrgR.more {w : World} {S T : Nat → Prop} {cs : List Value} {p : Prg} (h : PrgR w S cs p) (hS : ∀ i, S i → T i) : PrgR w T cs p := by
  obtain ⟨A, A1, A2, A3, A4, m, c, m1, c1, m2, c2, m3, c3, m4, c4, e, h0, hl, hv, h1, h2, h3, h4⟩ := h
  exact ⟨A, A1, A2, A3, A4, m, c, m1, c1, m2, c2, m3, c3, m4, c4, e, h0.more hS, hl, hv, h1.more hS, h2.more hS, h3.more hS, h4.more hS⟩
theorem stm_few_up {w : World} {S : Nat → Prop} {k : Nat} : ∀ {n m : Nat} {cs : List Value} {s : Stm}, StmR w S n cs s → Stm.few k n s → Stm.few k m s
  | n + 1, 0, cs, .mk kind name slot size place value body els, h, hf => trivial
  | n + 1, m + 1, cs, .mk kind name slot size place value body els, h, hf => by
    obtain ⟨_, _, ps, vs, A, A2, m', c, m2, c2, e, hp, hv, hb, he⟩ := h
    obtain ⟨f1, f2, f3, f4, f5, f6⟩ := hf
    have key : ∀ (A : Option Addr) (mm c : Nat) (l : List Stm), SlR w S 18 (StmR w S n) A mm c l → (∀ a ∈ l, Stm.few k n a) → ∀ a ∈ l, Stm.few k m a := fun A mm c l hs hl a ha => by
      obtain ⟨j, hj, rfl⟩ := List.mem_iff_getElem.1 ha
      obtain ⟨_, _, cs', a', _, _, ha', hR, _⟩ := hs.at_ (k := j) (by have := hs.1; omega)
      rw [List.getElem?_eq_getElem hj] at ha'
      injection ha' with ha'
      rw [ha']
      refine stm_few_up hR (hl a' ?_)
      rw [← ha']
      exact List.getElem_mem hj
    exact ⟨f1, f2, f3, f4, key A m' c body hb f5, key A2 m2 c2 els he f6⟩
theorem StmR.upto {w : World} {S : Nat → Prop} {cs : List Value} {e : Stm} : ∀ {n m : Nat}, n ≤ m → StmR w S n cs e → StmR w S m cs e
  | n, 0, hm, h => by have e : n = 0 := by omega
                      rw [e] at h; exact h.elim
  | n, m + 1, hm, h => by
    rcases Nat.lt_or_ge n (m + 1) with hlt | hge
    · exact StmR.up _ _ _ (StmR.upto (by omega) h)
    · have e : n = m + 1 := by omega
      rw [← e]
      exact h
/-- What Stmts gave, at three levels. -/
theorem stms_of {n most : Nat} {wc wn : World} {base : Nat} {A : Option Addr} {m c : Nat} {l : List Stm} (hn : n ≤ 3) (hm : most ≤ 100) (hb : base ≤ wc.heap.size) (h : SlR wn (New wn wc.heap.size) 18 (fun cs s => StmR wn (New wn wc.heap.size) n cs s) A m c l) (hl : l.length ≤ most) (hf : ∀ a ∈ l, Stm.few 1000 n a) : StmsR wn (New wn base) A m c l := by
  have h' := slr_in hb h
  refine ⟨h'.more (fun _ h => h) (fun _ _ => StmR.upto hn), by omega, fun a ha => ?_⟩
  obtain ⟨j, hj, rfl⟩ := List.mem_iff_getElem.1 ha
  obtain ⟨_, _, cs', a', _, _, ha', hR, _⟩ := h'.at_ (k := j) (by have := h'.1; omega)
  rw [List.getElem?_eq_getElem hj] at ha'
  injection ha' with ha'
  rw [ha']
  refine stm_few_up hR (hf a' ?_)
  rw [← ha']
  exact List.getElem_mem hj
theorem stms_step {gc base : Nat} {wc wn : World} {A : Option Addr} {m c : Nat} {l : List Stm} (hb : gc < base) (ho : Only gc wc wn) (h : StmsR wc (New wc base) A m c l) : StmsR wn (New wn base) A m c l := ⟨slr_step hb ho h.1, h.2⟩
theorem stms_write {k base : Nat} {wc wn : World} {A : Option Addr} {m c : Nat} {l : List Stm} (hk : k < base) (hs : Same (· ≠ k) wc wn) (h : StmsR wc (New wc base) A m c l) : StmsR wn (New wn base) A m c l :=
  (h.keep (hs.mono (fun i (hi : New wc base i) => by have := hi.1; omega))).more (fun i hi => ⟨hi.1, Nat.lt_of_lt_of_le hi.2 hs.size⟩)
theorem built_vars (x : Int) (a : Int) (z : Int) : builtS Tryz.prog 64 5 [(0, .agg #[.string ⟨#[120]⟩, .int .i64 0, .int .i64 x]), (1, .agg #[.string ⟨#[97]⟩, .int .i64 a, .int .i64 0]), (2, .agg #[.string ⟨#[121]⟩, .int .i64 0, .int .i64 0]), (3, .agg #[.string ⟨#[122]⟩, .int .i64 0, .int .i64 z]), (4, .agg #[.string ⟨#[98]⟩, .int .i64 2, .int .i64 0])] =
    some #[.string ⟨#[120]⟩, .int .i64 0, .int .i64 x, .string ⟨#[97]⟩, .int .i64 a, .int .i64 0, .string ⟨#[121]⟩, .int .i64 0, .int .i64 0, .string ⟨#[122]⟩, .int .i64 0, .int .i64 z, .string ⟨#[98]⟩, .int .i64 2, .int .i64 0] := by kernel_rfl
theorem blk2 (w : World) (o : Obj) (t : TypeId) (cs : Array Value) : Blk ((w.alloc o).alloc (.cells cs t)) (w.heap.size + 1) t cs := by simpa using Blk.new (w.alloc o) t cs
def PrgPost (B : Nat → Prop) (gc r : Nat) (w : World) (e : Ending) (w' : World) : Prop :=
  ∃ (p : Prg) (cs : List Value) (r' : Nat), e = .returned (.agg cs.toArray) ∧ PrgR w' (New w' w.heap.size) cs p ∧ r' ≤ r ∧ Cod w' B gc r' ∧ Only gc w w'
end Go.Proofs.YtecckbkobkfnmaaGreatDoor
