/- The reference's execute. -/
import Derived.Test.YthmepnpjagpcnaaRMach5
set_option linter.unusedVariables false
set_option linter.unusedSimpArgs false
set_option maxRecDepth 100000
namespace Go.Proofs.Ythmepnpjagpcnaa
open Go.RowKit Go.Proofs

theorem info_Send : (Try.prog.info? 136).map (fun i => (i.zero, i.size, i.bytes)) = some (some (.agg #[.int .i64 0, .int .i64 0, .int .i64 0, .int .i64 0]), 4, 32) := by kernel_rfl
theorem info_Output : (Try.prog.info? 133).map (fun i => (i.zero, i.size, i.bytes)) = some (some (.agg #[.int .i64 0, .int .i64 0]), 2, 16) := by kernel_rfl
theorem built_send (a b c d : Int) : builtS Try.prog 136 1 [(0, .agg #[.int .i64 a, .int .i64 b, .int .i64 c, .int .i64 d])] = some #[.int .i64 a, .int .i64 b, .int .i64 c, .int .i64 d] := by kernel_rfl
theorem built_out (a b : Int) : builtS Try.prog 133 1 [(0, .agg #[.int .i64 a, .int .i64 b])] = some #[.int .i64 a, .int .i64 b] := by kernel_rfl
theorem blkM (w : World) (o1 o3 : Obj) (t : TypeId) (cs : Array Value) : Blk (((w.alloc o1).alloc (.cells cs t)).alloc o3) (w.heap.size + 1) t cs := by simpa using (Blk.new (w.alloc o1) t cs).alloc o3
theorem blkL (w : World) (o1 o2 : Obj) (t : TypeId) (cs : Array Value) : Blk (((w.alloc o1).alloc o2).alloc (.cells cs t)) (w.heap.size + 2) t cs := by simpa using Blk.new ((w.alloc o1).alloc o2) t cs
def cntS (l : List Eff) : Nat := (l.filter (fun e => e.kind == 1)).length
theorem cntS_le (l : List Eff) : cntS l ≤ l.length := List.length_filter_le _ _
theorem cntS_snoc (l : List Eff) (e : Eff) : cntS (l ++ [e]) = cntS l + (if e.kind = 1 then 1 else 0) := by
  unfold cntS
  rw [List.filter_append, List.length_append]
  by_cases h : e.kind = 1 <;> simp [h]
theorem sendsOf_snoc (ix : Int) (e : Eff) : ∀ (l : List Eff) (o : Int), sendsOf ix o (l ++ [e]) = sendsOf ix o l ++ (if e.kind = 1 then [⟨ix, o + cntS l, e.dst, e.val⟩] else [])
  | [], o => by simp [sendsOf, cntS]
  | x :: l, o => by
    rw [List.cons_append, sendsOf, sendsOf]
    by_cases hx : x.kind = 1
    · rw [if_pos hx, if_pos hx, sendsOf_snoc ix e l (o + 1), List.cons_append]
      have : cntS (x :: l) = cntS l + 1 := by simp [cntS, hx]
      have e2 : o + 1 + (cntS l : Int) = o + ((cntS l + 1 : Nat) : Int) := by omega
      rw [this, e2]
    · rw [if_neg hx, if_neg hx, sendsOf_snoc ix e l o]
      have : cntS (x :: l) = cntS l := by simp [cntS, hx]
      rw [this]
theorem outsOf_snoc (ix : Int) (e : Eff) : ∀ l : List Eff, outsOf ix (l ++ [e]) = outsOf ix l ++ (if e.kind = 1 then [] else [⟨ix, e.val⟩])
  | [] => by simp [outsOf]
  | x :: l => by
    rw [List.cons_append, outsOf, outsOf]
    by_cases hx : x.kind = 1
    · rw [if_pos hx, if_pos hx, outsOf_snoc ix e l]
    · rw [if_neg hx, if_neg hx, outsOf_snoc ix e l, List.cons_append]
theorem sendsOf_len (ix : Int) : ∀ (l : List Eff) (o : Int), (sendsOf ix o l).length ≤ l.length
  | [], _ => by simp [sendsOf]
  | x :: l, o => by
    rw [sendsOf]
    split
    · have := sendsOf_len ix l (o + 1); simp; omega
    · have := sendsOf_len ix l o; simp; omega
theorem outsOf_len (ix : Int) : ∀ l : List Eff, (outsOf ix l).length ≤ l.length
  | [] => by simp [outsOf]
  | x :: l => by
    rw [outsOf]
    split
    · have := outsOf_len ix l; simp; omega
    · have := outsOf_len ix l; simp; omega
/-- The blocks of S, and those that came since w. -/
def Sn (S : Nat → Prop) (w w' : World) (i : Nat) : Prop := S i ∨ (w.heap.size ≤ i ∧ i < w'.heap.size)
def StPost (S : Nat → Prop) (s : St) (w : World) (e : Ending) (w' : World) : Prop := ∃ cs, e = .returned (.agg cs.toArray) ∧ StR w' (Sn S w w') cs s ∧ Keep w w'
theorem Sn.lt {S : Nat → Prop} {w w' : World} (hS : ∀ i, S i → i < w.heap.size) (hk : w.heap.size ≤ w'.heap.size) : ∀ i, Sn S w w' i → i < w'.heap.size := fun i hi => hi.elim (fun h => Nat.lt_of_lt_of_le (hS i h) hk) (fun h => h.2)
theorem Sn.mono {S : Nat → Prop} {w W w1 w2 : World} (h1 : w.heap.size ≤ W.heap.size) (h2 : w1.heap.size ≤ w2.heap.size) : ∀ i, Sn S W w1 i → Sn S w w2 i := fun i hi => hi.elim .inl (fun h => .inr ⟨by omega, by omega⟩)
def ExeRel (B : Nat) (ix : Int) (s : St) (effs : List Eff) (W : World) (a b o i : Value) (wr : World) : Prop :=
  ∃ k : Nat, k ≤ effs.length ∧ i = .int .i64 k ∧ o = .int .i64 (cntS (effs.take k)) ∧ wr.ownsRow B 136 4 a (s.sent ++ sendsOf ix 0 (effs.take k)).length ((s.sent ++ sendsOf ix 0 (effs.take k)).flatMap encSnd) ∧
    wr.ownsRow B 133 2 b (s.outs ++ outsOf ix (effs.take k)).length ((s.outs ++ outsOf ix (effs.take k)).flatMap encOut) ∧ (∀ g, a.ownBlock = some g → b.ownBlock ≠ some g) ∧ Same (· < B) W wr
theorem one_of {α : Type} {enc : α → List Value} (h : ∀ a, ∀ u ∈ enc a, u.oneCell' = true) (l : List α) : ∀ u ∈ l.flatMap enc, u.oneCell' = true := fun u hu => by obtain ⟨x, _, hx⟩ := List.mem_flatMap.1 hu; exact h x u hx
end Go.Proofs.Ythmepnpjagpcnaa
