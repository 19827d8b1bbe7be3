/- More laws of append: onto a slice without room; onto a slice that lies alone in its block. No program in sight. -/
import Derived.Test.YtcfpkmfppgodmaaData
set_option linter.unusedVariables false
namespace Go.Proofs.Ytcfpkmfppgodmaa
open Go.RowKit

section
variable {P : Program} (w : World)
theorem owns_grown (base : Nat) (e : TypeId) (z : Value) (size n m c : Nat) (xs news : List Value) (hx : xs.length = n * size) (hl : news.length = m * size) (hzs : z.cells.size = size) (hbase : base ≤ w.heap.size) (hc : n + m ≤ c) (hcm : c ≤ maxLen) :
    (w.drew.alloc (.cells (xs.toArray ++ news.toArray ++ Builtin.zeroCells z.cells (c - (n + m))) e)).ownsRow base e size (.slice (some ⟨w.heap.size, 0, none⟩) (n + m) c) (n + m) (xs ++ news) := by
  have hlen : (xs ++ news).length = (n + m) * size := by rw [List.length_append, hx, hl, Nat.add_mul]
  refine ⟨hlen, .inr ⟨w.heap.size, _, _, rfl, hbase, heap_alloc_new w.drew _, hc, hcm, ?_, ?_⟩⟩
  · simp only [Array.size_append, List.size_toArray, size_zeroCells, hzs, hx, hl, ← Nat.add_mul]
    congr 1
    omega
  · simp only [Array.toList_append, List.append_assoc]
    rw [← List.append_assoc, ← hlen]
    exact List.take_left
/-- append(s, x..) where s has no room. -/
theorem run_append_full (base : Nat) (t ty e : TypeId) (i : TypeInfo) (z : Value) (size bytes : Nat) (ht : P.underlying t = some (.slice e)) (hi : P.info? e = some i) (hz : i.zero = some z)
    (hsize : i.size = size) (hby : i.bytes = bytes) (hzs : z.cells.size = size)
    (S : Nat → Prop) (A : Option Addr) (n : Nat) (xs : List Value) (hr : Reads w S size A n xs)
    (T : Nat → Prop) (B : Option Addr) (m c : Nat) (news : List Value) (hs : Reads w T size B m news) (hm : 0 < m)
    (h63 : n + m ≤ maxLen) (hbytes : (n + m) * bytes ≤ 140737488355328) (hbase : base ≤ w.heap.size) :
    ∃ v' w', (Builtin.append_ #[t, t] ty #[.slice A n n, .slice B m c]).run P w = .ok v' w' ∧ w'.ownsRow base e size v' (n + m) (xs ++ news) ∧ Keep w w' ∧ v'.ownBlock = some w.heap.size := by
  subst hsize
  subst hby
  have hsmall : n + m ≤ 9223372036854775807 := by simp only [maxLen] at h63; omega
  obtain ⟨b, off, rfl, _, hcs⟩ := hs.2 hm
  have hnews : ∀ j u, news[j]? = some u → w.cell? ((⟨b, off, none⟩ : Addr).add j) = some u := fun j u hu => by rw [add_lit']; exact hcs j u hu
  have kp : ∀ o : Obj, Keep w (w.drew.alloc o) := fun o => ⟨rfl, rfl, rfl, by simp, fun k hk => Below.heap_alloc w.drew o k hk⟩
  cases A with
  | none =>
    have hn : n = 0 := by
      rcases Nat.eq_zero_or_pos n with h0 | h0
      · exact h0
      · obtain ⟨_, _, h, _⟩ := hr.2 h0
        cases h
    subst hn
    have hx : xs = [] := List.eq_nil_of_length_eq_zero (by simpa using hr.1)
    subst hx
    have hrun := run_append_nil (P := P) w t ty e i z ht hi hz ⟨b, off, none⟩ m c news hs.1 hnews hm (by omega) (by have hb := hbytes; simp only [Nat.zero_add] at hb; omega)
    have ho := owns_grown w base e z i.size 0 m (grownCap w m 0 e) [] news (by simp) hs.1 hzs hbase (by have := grownCap_ge w m 0 e; omega) (grownCap_le_maxLen w m 0 e (by simpa using h63))
    simp only [Nat.zero_add, List.nil_append, Array.empty_append] at ho ⊢
    exact ⟨_, _, hrun, ho, kp _, rfl⟩
  | some a =>
    have holds : ∀ j u, xs[j]? = some u → w.cell? (a.add j) = some u := by
      intro j u hu
      rcases Nat.eq_zero_or_pos n with h0 | h0
      · subst h0
        have hx : xs = [] := List.eq_nil_of_length_eq_zero (by simpa using hr.1)
        subst hx
        simp at hu
      · obtain ⟨b', off', h, _, hc'⟩ := hr.2 h0
        injection h with h
        subst h
        rw [add_lit']
        exact hc' j u hu
    have hrun := run_append_grow (P := P) w t ty e i z ht hi hz a n n xs hr.1 holds ⟨b, off, none⟩ m c news hs.1 hnews (by omega) (by omega) (growslice_fits (by omega) hbytes)
    exact ⟨_, _, hrun, owns_grown w base e z i.size n m _ xs news hr.1 hs.1 hzs hbase (grownCap_ge w (n + m) n e) (grownCap_le_maxLen w (n + m) n e h63), kp _, rfl⟩
theorem wp_append_full {o : Oper} {a : Act} {K : Act → World → Prop} {Q : Exit → Act → World → Prop} (s x : Operand) (t : TypeId)
    (ho : o.op = .call { callee := .builtin .append, args := #[s, x], argTypes := #[t, t] })
    (base : Nat) (e : TypeId) (i : TypeInfo) (z : Value) (size bytes : Nat) (ht : P.underlying t = some (.slice e)) (hi : P.info? e = some i) (hz : i.zero = some z)
    (hsize : i.size = size) (hby : i.bytes = bytes) (hzs : z.cells.size = size)
    (S : Nat → Prop) (A : Option Addr) (n : Nat) (xs : List Value) (hsv : a.eval s = .slice A n n) (hr : Reads w S size A n xs)
    (T : Nat → Prop) (B : Option Addr) (m c : Nat) (news : List Value) (hx : a.eval x = .slice B m c) (hs : Reads w T size B m news) (hm : 0 < m)
    (h63 : n + m ≤ maxLen) (hbytes : (n + m) * bytes ≤ 140737488355328) (hbase : base ≤ w.heap.size)
    (h : ∀ v' w', w'.ownsRow base e size v' (n + m) (xs ++ news) → Keep w w' → v'.ownBlock = some w.heap.size → K (a.put o.dst v') w') : o.wp P a w K Q := by
  obtain ⟨v', w', hrun, h2, h3, h4⟩ := run_append_full (P := P) w base t o.type e i z size bytes ht hi hz hsize hby hzs S A n xs hr T B m c news hs hm h63 hbytes hbase
  unfold Oper.wp execOp
  simp only [ho, resolve, invoke, builtin, Sem.run_bind, Sem.run_pure, Result.andThen_ok, List.map_toArray, List.map_cons, List.map_nil, hsv, hx, hrun]
  exact h v' w' h2 h3 h4
theorem wpList_append_full {ops : Array Oper} {rest : List Oper} {o : Oper} {a : Act} {Q : Exit → Act → World → Prop} (hgd : o.guard = none) (s x : Operand) (t : TypeId)
    (ho : o.op = .call { callee := .builtin .append, args := #[s, x], argTypes := #[t, t] })
    (base : Nat) (e : TypeId) (i : TypeInfo) (z : Value) (size bytes : Nat) (ht : P.underlying t = some (.slice e)) (hi : P.info? e = some i) (hz : i.zero = some z)
    (hsize : i.size = size) (hby : i.bytes = bytes) (hzs : z.cells.size = size)
    (S : Nat → Prop) (A : Option Addr) (n : Nat) (xs : List Value) (hsv : a.eval s = .slice A n n) (hr : Reads w S size A n xs)
    (T : Nat → Prop) (B : Option Addr) (m c : Nat) (news : List Value) (hx : a.eval x = .slice B m c) (hs : Reads w T size B m news) (hm : 0 < m)
    (h63 : n + m ≤ maxLen) (hbytes : (n + m) * bytes ≤ 140737488355328) (hbase : base ≤ w.heap.size)
    (h : ∀ v' w', w'.ownsRow base e size v' (n + m) (xs ++ news) → Keep w w' → v'.ownBlock = some w.heap.size → wpList P ops Q rest (a.put o.dst v') w') : wpList P ops Q (o :: rest) a w :=
  wpList_plain hgd fun _ hK => wp_append_full w s x t ho base e i z size bytes ht hi hz hsize hby hzs S A n xs hsv hr T B m c news hx hs hm h63 hbytes hbase fun v' w' h2 h3 h4 => hK _ _ (h v' w' h2 h3 h4)
theorem step_append_full {ops : Array Oper} {o : Oper} {a : Act} {K : Act → World → Prop} {Q : Exit → Act → World → Prop} {E : Prop} (hgd : o.guard = none) (s x : Operand) (t : TypeId)
    (ho : o.op = .call { callee := .builtin .append, args := #[s, x], argTypes := #[t, t] })
    (base : Nat) (e : TypeId) (i : TypeInfo) (z : Value) (size bytes : Nat) (ht : P.underlying t = some (.slice e)) (hi : P.info? e = some i) (hz : i.zero = some z)
    (hsize : i.size = size) (hby : i.bytes = bytes) (hzs : z.cells.size = size)
    (S : Nat → Prop) (A : Option Addr) (n : Nat) (xs : List Value) (hsv : a.eval s = .slice A n n) (hr : Reads w S size A n xs)
    (T : Nat → Prop) (B : Option Addr) (m c : Nat) (news : List Value) (hx : a.eval x = .slice B m c) (hs : Reads w T size B m news) (hm : 0 < m)
    (h63 : n + m ≤ maxLen) (hbytes : (n + m) * bytes ≤ 140737488355328) (hbase : base ≤ w.heap.size)
    (h : ∀ v' w', w'.ownsRow base e size v' (n + m) (xs ++ news) → Keep w w' → v'.ownBlock = some w.heap.size → K (a.put o.dst v') w') :
    if Region.wanted o (yielded ops a.tmps) = true then Oper.wp P o a w K Q else E := by
  have hw : Region.wanted o (yielded ops a.tmps) = true := by simp [Region.wanted, hgd]
  rw [if_pos hw]
  exact wp_append_full w s x t ho base e i z size bytes ht hi hz hsize hby hzs S A n xs hsv hr T B m c news hx hs hm h63 hbytes hbase h
end

theorem Sl.of_own' {α : Type} {enc : α → List Value} {size n base : Nat} {e : TypeId} {v : Value} {w : World} {l : List α} (h : w.ownsRow base e size v n (l.flatMap enc)) (hn : n = l.length) : ∃ A c, v = .slice A n c ∧ Sl enc size w (fun i => base ≤ i ∧ i < w.heap.size) A n c l := by
  subst hn
  exact Sl.of_own h
theorem Sl.from_some {α : Type} {enc : α → List Value} {size : Nat} {w : World} {S : Nat → Prop} {b off n c : Nat} {l : List α} (h : Sl enc size w S (some ⟨b, off, none⟩) n c l) (hs : ∀ a, (enc a).length = size) {k : Nat} (hk : k ≤ n) :
    Sl enc size w S (some ⟨b, off + k * size, none⟩) (n - k) (c - k) (l.drop k) := by
  refine ⟨by rw [List.length_drop, h.1], by have := h.2.1; omega, by have := h.2.2.1; omega, ?_⟩
  rw [← flat_drop hs]
  refine ⟨by rw [List.length_drop, h.2.2.2.1, Nat.sub_mul], fun hn => ?_⟩
  obtain ⟨b', off', e, hb, hcell⟩ := h.2.2.2.2 (by omega)
  injection e with e
  injection e with e1 e2
  subst e1 e2
  refine ⟨b, off + k * size, rfl, hb, fun j u hu => ?_⟩
  rw [Nat.add_assoc]
  exact hcell _ u (by rw [← hu, List.getElem?_drop])
theorem Sl.end_ {α : Type} {enc : α → List Value} {size : Nat} {w : World} {S : Nat → Prop} (A : Option Addr) (l : List α) (h : l.length = 0) : Sl enc size w S A 0 0 l := by
  obtain rfl : l = [] := List.eq_nil_of_length_eq_zero h
  exact ⟨rfl, Nat.le_refl _, by simp [maxLen], by simpa using Reads.none_⟩
/-! ### links and packets -/
structure Pk where
  seq : Int
  ack : Int
  val : Int
def encPk (p : Pk) : List Value := [.int .i64 p.seq, .int .i64 p.ack, .int .i64 p.val]
theorem encPk_len (x : Pk) : (encPk x).length = 3 := rfl
theorem encPk_one (d : Pk) : ∀ u ∈ encPk d, u.oneCell' = true := by
  intro u hu
  simp [encPk] at hu
  rcases hu with h | h | h <;> subst h <;> rfl
structure Lk where
  win : Int
  base : Int
  kept : List Int
  want : Int
  early : List Pk
/-- Five cells that read as a link. -/
def LkR (w : World) (S : Nat → Prop) (cs : List Value) (k : Lk) : Prop :=
  ∃ (A1 A2 : Option Addr) (n1 c1 n2 c2 : Nat), cs = [.int .i64 k.win, .int .i64 k.base, .slice A1 n1 c1, .int .i64 k.want, .slice A2 n2 c2] ∧ Sl encI 1 w S A1 n1 c1 k.kept ∧ Sl encPk 3 w S A2 n2 c2 k.early
theorem LkR.keep {w w' : World} {S : Nat → Prop} {cs : List Value} {k : Lk} (h : LkR w S cs k) (hk : Same S w w') : LkR w' S cs k := by
  obtain ⟨A1, A2, n1, c1, n2, c2, e, h1, h2⟩ := h
  exact ⟨A1, A2, n1, c1, n2, c2, e, h1.keep hk, h2.keep hk⟩
theorem LkR.more {w : World} {S T : Nat → Prop} {cs : List Value} {k : Lk} (h : LkR w S cs k) (hk : ∀ i, S i → T i) : LkR w T cs k := by
  obtain ⟨A1, A2, n1, c1, n2, c2, e, h1, h2⟩ := h
  exact ⟨A1, A2, n1, c1, n2, c2, e, h1.more hk, h2.more hk⟩
end Go.Proofs.Ytcfpkmfppgodmaa
