/- Words for make.Codes.Pattern, Cut, Lineages. -/
import Derived.Test.YtcfpkmfppgodmaaPat4
set_option linter.unusedVariables false
set_option linter.unusedSimpArgs false
set_option maxRecDepth 100000
namespace Go.Proofs.Ytcfpkmfppgodmaa
open Go.RowKit Go.Proofs

theorem bld_pat1 (A1 : Option Addr) (n1 c1 : Nat) : Try.prog.built 32 [(0, .slice A1 n1 c1)] = some #[.slice A1 n1 c1, .slice none 0 0, .slice none 0 0] := by kernel_rfl
theorem bld_arc3 (a b c : Int) : Try.prog.built 62 [(0, .int .i64 a), (1, .int .i64 b), (2, .int .i64 c)] = some #[.int .i64 a, .int .i64 b, .int .i64 c, .int .i64 0] := by kernel_rfl
theorem builtS_sl (A : Option Addr) (n c : Nat) : builtS Try.prog 23 1 [(0, .slice A n c)] = some #[.slice A n c] := by kernel_rfl
def IntsV (w : World) (S : Nat → Prop) (cs : List Value) (l : List Int) : Prop := IntsR w S cs l
theorem IntsV.good : Good IntsV := ⟨fun hk h => IntsR.keep hk _ _ h, fun hS h => IntsR.more hS _ _ h⟩
def PatnPost (B : Nat → Prop) (gc most : Nat) (w : World) (e : Ending) (w' : World) : Prop :=
  ∃ (A1 A2 A3 : Option Addr) (n c1 c2 m c3 : Nat) (ls : List Nat) (arcs : List Arc), e = .returned (.agg #[.slice A1 n c1, .slice A2 n c2, .slice A3 m c3]) ∧ 2 ≤ n ∧ n ≤ 4 ∧ ls.length = n ∧ (∀ q, ls.getD q 0 ≤ most) ∧ m ≤ most ∧ PatR ls arcs ∧
    Sl encI 1 w' (New w' w.heap.size) A1 n c1 (intsN ls) ∧ Sl encArc 4 w' (New w' w.heap.size) A3 m c3 arcs ∧ (∃ r', Cod w' B gc r') ∧ Only gc w w'
def Pn1 (B : Nat → Prop) (gc g6 gl base n : Nat) (w : World) (i : Value) (wr : World) : Prop :=
  ∃ (v : Value) (k : Nat), i = .int .i64 k ∧ k ≤ n ∧ Blk wr g6 32 #[.slice (some ⟨gl, 0, none⟩) n n, v, .slice none 0 0] ∧ Grow IntsV 1 23 wr base v (List.replicate k [0]) ∧ Blk wr gl 3 (zerosA n) ∧ Blk wr w.heap.size 32 #[.slice none 0 0, .slice none 0 0, .slice none 0 0] ∧ (∃ r', Cod wr B gc r') ∧ Only gc w wr ∧ base ≤ wr.heap.size
def Pn2 (B : Nat → Prop) (gc g6 n most : Nat) (w : World) (i : Value) (wr : World) : Prop :=
  ∃ (k : Nat) (A1 A2 A3 : Option Addr) (c1 c2 m c3 : Nat) (ls : List Nat) (arcs : List Arc), i = .int .i64 k ∧ k ≤ most ∧ PtM wr (w.heap.size + 1) g6 n A1 A2 A3 c1 c2 m c3 ls arcs (k + 1) ∧ ls.length = n ∧ (∀ q, ls.getD q 0 ≤ k) ∧ m ≤ k ∧ Blk wr w.heap.size 32 #[.slice none 0 0, .slice none 0 0, .slice none 0 0] ∧ (∃ r', Cod wr B gc r') ∧ Only gc w wr
theorem intsN_zeros (n : Nat) : intsN (List.replicate n 0) = zerosL n := by simp [intsN, zerosL]
def TrX (w : World) (gc : Nat) (V : Value) (wx : World) : Prop := Same (fun i => i < w.heap.size ∧ i ≠ gc ∧ V.ownBlock ≠ some i) w wx
theorem tmod_ne {q n : Nat} {v : Int} (hq : q < n) (h0 : 0 ≤ v) (h1 : v < (n : Int) - 1) : ∃ s : Nat, ((q : Int) + 1 + v).tmod n = s ∧ s < n ∧ s ≠ q := by
  obtain ⟨a, rfl⟩ : ∃ a : Nat, v = a := ⟨v.toNat, by omega⟩
  have e : (q : Int) + 1 + a = ((q + 1 + a : Nat) : Int) := by omega
  rw [e]
  refine ⟨(q + 1 + a) % n, by rw [Int.tmod_eq_emod_of_nonneg (by omega)]; rfl, Nat.mod_lt _ (by omega), ?_⟩
  rcases Nat.lt_or_ge (q + 1 + a) n with h | h
  · rw [Nat.mod_eq_of_lt h]; omega
  · have h2 : (q + 1 + a) % n = q + 1 + a - n := by
      rw [Nat.mod_eq_sub_mod h, Nat.mod_eq_of_lt (by omega)]
    omega
theorem upN_le {ls : List Nat} {q i : Nat} (h : ∀ p, ls.getD p 0 ≤ i) (hq : q < ls.length) : ∀ p, (upN ls q).getD p 0 ≤ i + 1 := fun p => by
  by_cases e : q = p
  · subst e; rw [upN_self hq]; have := h q; omega
  · rw [upN_other e]; have := h p; omega
end Go.Proofs.Ytcfpkmfppgodmaa
