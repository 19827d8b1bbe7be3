/- A slice that may be appended to: it lies, from some offset on, in a block that nobody else's data lie in. No program in sight. -/
import Derived.Test.YtcfpkmfppgodmaaApp
import Derived.Deep.AppendSrc
set_option linter.unusedVariables false
set_option linter.unusedSimpArgs false
namespace Go.Proofs.Ytcfpkmfppgodmaa
open Go.RowKit

/-- The slice is nil, or lies in a block of S with room up to its capacity; its elements' cells are xs. -/
def Ap (w : World) (S : Nat → Prop) (e : TypeId) (size : Nat) (A : Option Addr) (n c : Nat) (xs : List Value) : Prop :=
  xs.length = n * size ∧ n ≤ c ∧ c ≤ maxLen ∧ ((A = none ∧ c = 0) ∨
    ∃ (b off : Nat) (cur : Array Value), A = some ⟨b, off, none⟩ ∧ S b ∧ w.heap[b]? = some (.cells cur e (0, 0)) ∧ off + c * size ≤ cur.size ∧ ∀ (j : Nat) (u : Value), xs[j]? = some u → cur[off + j]? = some u)
section
variable {w w' : World} {S T : Nat → Prop} {e : TypeId} {size n c : Nat} {A : Option Addr} {xs : List Value}
theorem Ap.nil_ : Ap w S e size none 0 0 [] := ⟨by simp, Nat.le_refl _, by simp [maxLen], .inl ⟨rfl, rfl⟩⟩
theorem Ap.reads (h : Ap w S e size A n c xs) : Reads w S size A n xs := by
  refine ⟨h.1, fun hn => ?_⟩
  rcases h.2.2.2 with ⟨_, h0⟩ | ⟨b, off, cur, e1, hb, hh, hf, hc⟩
  · have := h.2.1; omega
  · exact ⟨b, off, e1, hb, fun j u hu => by rw [cell_of_row w b (off + j) cur e (0, 0) hh]; exact hc j u hu⟩
theorem Ap.keep (h : Ap w S e size A n c xs) (hk : Same S w w') : Ap w' S e size A n c xs := by
  refine ⟨h.1, h.2.1, h.2.2.1, h.2.2.2.imp id ?_⟩
  rintro ⟨b, off, cur, e1, hb, hh, hf, hc⟩
  exact ⟨b, off, cur, e1, hb, (hk.block b hb).trans hh, hf, hc⟩
theorem Ap.more (h : Ap w S e size A n c xs) (hS : ∀ i, S i → i < w.heap.size → T i) : Ap w T e size A n c xs := by
  refine ⟨h.1, h.2.1, h.2.2.1, h.2.2.2.imp id ?_⟩
  rintro ⟨b, off, cur, e1, hb, hh, hf, hc⟩
  exact ⟨b, off, cur, e1, hS b hb (Array.getElem?_eq_some_iff.1 hh).1, hh, hf, hc⟩
theorem Ap.from_ (h : Ap w S e size A n c xs) {k : Nat} (hk : k ≤ n) : Ap w S e size (if c = k then A else A.map (·.add (k * size))) (n - k) (c - k) (xs.drop (k * size)) := by
  have h2 := h.2.1
  refine ⟨by rw [List.length_drop, h.1, Nat.sub_mul], by omega, by have := h.2.2.1; omega, ?_⟩
  rcases h.2.2.2 with ⟨rfl, h0⟩ | ⟨b, off, cur, rfl, hb, hh, hf, hc⟩
  · subst h0
    obtain rfl : k = 0 := by omega
    exact .inl ⟨by simp, rfl⟩
  · by_cases hck : c = k
    · rw [if_pos hck]
      subst hck
      refine .inr ⟨b, off, cur, rfl, hb, hh, by simp; omega, fun j u hu => ?_⟩
      rw [List.drop_of_length_le (by rw [h.1]; exact Nat.mul_le_mul_right _ h2)] at hu
      cases hu
    · rw [if_neg hck]
      refine .inr ⟨b, off + k * size, cur, by simp [add_lit'], hb, hh, ?_, fun j u hu => ?_⟩
      · have : k * size + (c - k) * size = c * size := by rw [← Nat.add_mul]; congr 1; omega
        omega
      · rw [Nat.add_assoc]
        exact hc _ u (by rw [← hu, List.getElem?_drop])
theorem Ap.of_own {base : Nat} {v : Value} (h : w.ownsRow base e size v n xs) : ∃ A c, v = .slice A n c ∧ Ap w (fun i => base ≤ i ∧ i < w.heap.size) e size A n c xs := by
  rcases h.2 with ⟨rfl, rfl⟩ | ⟨g, cap, cur, rfl, hbg, hh, hnc, hcm, hcs, htake⟩
  · exact ⟨none, 0, rfl, h.1, Nat.le_refl _, by simp [maxLen], .inl ⟨rfl, rfl⟩⟩
  · refine ⟨_, cap, rfl, h.1, hnc, hcm, .inr ⟨g, 0, cur, rfl, ⟨hbg, (Array.getElem?_eq_some_iff.1 hh).1⟩, hh, by rw [Nat.zero_add, hcs]; exact Nat.le_refl _, fun j u hu => ?_⟩⟩
    rw [Nat.zero_add]
    rw [← htake, List.getElem?_take] at hu
    split at hu
    · simpa using hu
    · cases hu
end
theorem setCells_heap_at (g : Nat) (t : TypeId) : ∀ (vs : List Value) (o : Nat) (w : World) (cs : Array Value), w.heap[g]? = some (.cells cs t (0, 0)) → (w.setCells g o vs).heap[g]? = some (.cells (splice cs o vs) t (0, 0)) :=
  fun vs o w cs h => Blk.setCells (g := g) (t := t) vs o w cs h
theorem splice_get : ∀ (vs : List Value) (o : Nat) (cs : Array Value), o + vs.length ≤ cs.size → ∀ j, (splice cs o vs)[j]? = if o ≤ j ∧ j < o + vs.length then vs[j - o]? else cs[j]?
  | [], o, cs, _, j => by simp [splice]; intro h1 h2; omega
  | v :: vs, o, cs, h, j => by
    simp at h
    rw [splice, splice_get vs (o + 1) _ (by simp; omega) j]
    by_cases h1 : o + 1 ≤ j ∧ j < o + 1 + vs.length
    · rw [if_pos h1, if_pos (by simp; omega)]
      have : j - o = (j - (o + 1)) + 1 := by omega
      rw [this, List.getElem?_cons_succ]
    · rw [if_neg h1]
      by_cases h2 : j = o
      · subst h2
        rw [if_pos (by simp), Nat.sub_self]
        simp [Array.getElem?_setIfInBounds, show j < cs.size by omega]
      · rw [if_neg (by simp; omega), Array.getElem?_setIfInBounds_ne (by omega)]
theorem splice_len : ∀ (vs : List Value) (o : Nat) (cs : Array Value), (splice cs o vs).size = cs.size
  | [], _, _ => rfl
  | v :: vs, o, cs => by rw [splice, splice_len vs]; simp
section
variable {P : Program} (w : World)
theorem src_of_reads {size : Nat} {tx e' : TypeId} (hk : P.underlying tx = some (.slice e')) {T : Nat → Prop} {B : Option Addr} {m c : Nat} {news : List Value} (hr : Reads w T size B m news) (h1 : ∀ u ∈ news, u.oneCell' = true) : Src P size tx (.slice B m c) m news w := by
  rcases B with _ | ad
  · have hm : m = 0 := by
      rcases Nat.eq_zero_or_pos m with h0 | h0
      · exact h0
      · obtain ⟨_, _, h, _⟩ := hr.2 h0
        cases h
    subst hm
    have hn : news = [] := List.eq_nil_of_length_eq_zero (by simpa using hr.1)
    subst hn
    exact Src.ofNil w hk c
  · refine Src.ofSlice w hk ad m c news hr.1 (fun j u hu => ?_) h1
    rcases Nat.eq_zero_or_pos m with h0 | h0
    · subst h0
      have hn : news = [] := List.eq_nil_of_length_eq_zero (by simpa using hr.1)
      subst hn
      simp at hu
    · obtain ⟨b, off, h, _, hc⟩ := hr.2 h0
      injection h with h
      subst h
      rw [add_lit']
      exact hc j u hu
theorem run_append_ap (t ty e : TypeId) (i : TypeInfo) (z : Value) (size bytes : Nat) (ht : P.underlying t = some (.slice e)) (hi : P.info? e = some i) (hz : i.zero = some z)
    (hsize : i.size = size) (hby : i.bytes = bytes) (hzs : z.cells.size = size) (hsz : 0 < size)
    (S : Nat → Prop) (A : Option Addr) (n c : Nat) (xs : List Value) (ha : Ap w S e size A n c xs)
    (T : Nat → Prop) (B : Option Addr) (m c2 : Nat) (news : List Value) (hr : Reads w T size B m news) (h1 : ∀ u ∈ news, u.oneCell' = true)
    (h63 : n + m ≤ maxLen) (hbytes : (n + m) * bytes ≤ 140737488355328) :
    ∃ A' c' w', (Builtin.append_ #[t, t] ty #[.slice A n c, .slice B m c2]).run P w = .ok (.slice A' (n + m) c') w' ∧
      Ap w' (fun k => S k ∨ (w.heap.size ≤ k ∧ k < w'.heap.size)) e size A' (n + m) c' (xs ++ news) ∧ Same (fun k => k < w.heap.size ∧ ¬ S k) w w' := by
  rcases ha.2.2.2 with ⟨rfl, hc0⟩ | ⟨b, off, cur, rfl, hSb, hh, hf, hc⟩
  · subst hc0
    obtain rfl : n = 0 := by have := ha.2.1; omega
    obtain rfl : xs = [] := List.eq_nil_of_length_eq_zero (by simpa using ha.1)
    obtain ⟨v', w', hrun, ho, hg, _⟩ := run_append_any (P := P) w w.heap.size t ty e i z size bytes ht hi hz hsize hby hzs hsz (.slice none 0 0) 0 [] (World.ownsRow_nil w w.heap.size e size) T B m c2 news hr h1 h63 hbytes (Nat.le_refl _)
    obtain ⟨A', c', rfl, hap⟩ := Ap.of_own ho
    exact ⟨A', c', w', hrun, hap.more (fun k hk _ => .inr hk), Same.mono (Same.append (Same.refl (· < w.heap.size) w) (World.ownsRow_nil w w.heap.size e size) hg (fun _ h => h) (Nat.le_refl _)) (fun k hk => hk.1)⟩
  · subst hsize
    subst hby
    have hs := src_of_reads (P := P) w (c := c2) ht hr h1
    have hxl := ha.1
    have hnl := hr.1
    by_cases hroom : n + m ≤ c
    · have hmul : n * i.size + m * i.size ≤ c * i.size := by rw [← Nat.add_mul]; exact Nat.mul_le_mul_right _ hroom
      have hcell : ∀ j, j < news.length → (w.cell? ⟨b, off + n * i.size + j, none⟩).isSome = true := fun j hj => by
        rw [cell_of_row w b _ cur e (0, 0) hh]
        simp
        omega
      have hfr : ∀ j, j < news.length → w.frozen? ⟨b, off + n * i.size + j, none⟩ = false := fun j _ => Blk.frozen (w := w) hh _
      have hrun := run_append_room_src w t t ty e i ht hi b off n c (.slice B m c2) m news hs hroom hcell hfr
      refine ⟨_, _, _, hrun, ⟨by rw [List.length_append, hxl, hnl, Nat.add_mul], hroom, ha.2.2.1, .inr ⟨b, off, _, rfl, .inl hSb, setCells_heap_at b e news _ w cur hh, by rw [splice_len]; exact hf, fun j u hu => ?_⟩⟩, Same.mono (setCells_same b w _ news) (fun k hk e1 => hk.2 (e1 ▸ hSb))⟩
      rw [splice_get news _ cur (by omega)]
      by_cases hj : j < xs.length
      · rw [if_neg (by omega)]
        rw [List.getElem?_append_left hj] at hu
        exact hc j u hu
      · rw [List.getElem?_append_right (by omega)] at hu
        have hlt := (List.getElem?_eq_some_iff.1 hu).1
        rw [if_pos (by omega)]
        rw [← hu]
        congr 1
        omega
    · have hold : (Builtin.firstCells i.size n (.slice (some ⟨b, off, none⟩) n c)).run P w.drew = .ok xs.toArray w.drew :=
        run_firstCells_some w.drew i.size n ⟨b, off, none⟩ n c xs hxl (fun j u hu => by rw [add_lit']; exact (cell_of_row w b (off + j) cur e (0, 0) hh).trans (hc j u hu))
      have hsmall : n + m ≤ 9223372036854775807 := by simp only [maxLen] at h63; omega
      have hrun := run_append_grow_src w t t ty e i z ht hi hz (some ⟨b, off, none⟩) n c xs hold (.slice B m c2) m news hs (by omega) (by omega) (growslice_fits (by omega) hbytes)
      have ho := owns_grown w w.heap.size e z i.size n m _ xs news hxl hnl hzs (Nat.le_refl _) (grownCap_ge w (n + m) c e) (grownCap_le_maxLen w (n + m) c e h63)
      have earr : (xs ++ news).toArray = xs.toArray ++ news.toArray := by simp
      rw [earr] at hrun
      obtain ⟨A', c', hv, hap⟩ := Ap.of_own ho
      rw [hv] at hrun
      exact ⟨A', c', _, hrun, hap.more (fun k hk _ => .inr hk), ⟨rfl, rfl, rfl, by simp, fun k hk => Below.heap_alloc w.drew _ k hk.1⟩⟩
theorem wp_append_ap {o : Oper} {a : Act} {K : Act → World → Prop} {Q : Exit → Act → World → Prop} (s x : Operand) (t : TypeId)
    (ho : o.op = .call { callee := .builtin .append, args := #[s, x], argTypes := #[t, t] })
    (e : TypeId) (i : TypeInfo) (z : Value) (size bytes : Nat) (ht : P.underlying t = some (.slice e)) (hi : P.info? e = some i) (hz : i.zero = some z)
    (hsize : i.size = size) (hby : i.bytes = bytes) (hzs : z.cells.size = size) (hsz : 0 < size)
    (S : Nat → Prop) (A : Option Addr) (n c : Nat) (xs : List Value) (hsv : a.eval s = .slice A n c) (ha : Ap w S e size A n c xs)
    (T : Nat → Prop) (B : Option Addr) (m c2 : Nat) (news : List Value) (hx : a.eval x = .slice B m c2) (hr : Reads w T size B m news) (h1 : ∀ u ∈ news, u.oneCell' = true)
    (h63 : n + m ≤ maxLen) (hbytes : (n + m) * bytes ≤ 140737488355328)
    (h : ∀ A' c' w', Ap w' (fun k => S k ∨ (w.heap.size ≤ k ∧ k < w'.heap.size)) e size A' (n + m) c' (xs ++ news) → Same (fun k => k < w.heap.size ∧ ¬ S k) w w' → K (a.put o.dst (.slice A' (n + m) c')) w') : o.wp P a w K Q := by
  obtain ⟨A', c', w', hrun, h2, h3⟩ := run_append_ap (P := P) w t o.type e i z size bytes ht hi hz hsize hby hzs hsz S A n c xs ha T B m c2 news hr h1 h63 hbytes
  unfold Oper.wp execOp
  simp only [ho, resolve, invoke, builtin, Sem.run_bind, Sem.run_pure, Result.andThen_ok, List.map_toArray, List.map_cons, List.map_nil, hsv, hx, hrun]
  exact h A' c' w' h2 h3
theorem wpList_append_ap {ops : Array Oper} {rest : List Oper} {o : Oper} {a : Act} {Q : Exit → Act → World → Prop} (hgd : o.guard = none) (s x : Operand) (t : TypeId)
    (ho : o.op = .call { callee := .builtin .append, args := #[s, x], argTypes := #[t, t] })
    (e : TypeId) (i : TypeInfo) (z : Value) (size bytes : Nat) (ht : P.underlying t = some (.slice e)) (hi : P.info? e = some i) (hz : i.zero = some z)
    (hsize : i.size = size) (hby : i.bytes = bytes) (hzs : z.cells.size = size) (hsz : 0 < size)
    (S : Nat → Prop) (A : Option Addr) (n c : Nat) (xs : List Value) (hsv : a.eval s = .slice A n c) (ha : Ap w S e size A n c xs)
    (T : Nat → Prop) (B : Option Addr) (m c2 : Nat) (news : List Value) (hx : a.eval x = .slice B m c2) (hr : Reads w T size B m news) (h1 : ∀ u ∈ news, u.oneCell' = true)
    (h63 : n + m ≤ maxLen) (hbytes : (n + m) * bytes ≤ 140737488355328)
    (h : ∀ A' c' w', Ap w' (fun k => S k ∨ (w.heap.size ≤ k ∧ k < w'.heap.size)) e size A' (n + m) c' (xs ++ news) → Same (fun k => k < w.heap.size ∧ ¬ S k) w w' → wpList P ops Q rest (a.put o.dst (.slice A' (n + m) c')) w') : wpList P ops Q (o :: rest) a w :=
  wpList_plain hgd fun _ hK => wp_append_ap w s x t ho e i z size bytes ht hi hz hsize hby hzs hsz S A n c xs hsv ha T B m c2 news hx hr h1 h63 hbytes fun A' c' w' h2 h3 => hK _ _ (h A' c' w' h2 h3)
theorem step_append_ap {ops : Array Oper} {o : Oper} {a : Act} {K : Act → World → Prop} {Q : Exit → Act → World → Prop} {E : Prop} (hgd : o.guard = none) (s x : Operand) (t : TypeId)
    (ho : o.op = .call { callee := .builtin .append, args := #[s, x], argTypes := #[t, t] })
    (e : TypeId) (i : TypeInfo) (z : Value) (size bytes : Nat) (ht : P.underlying t = some (.slice e)) (hi : P.info? e = some i) (hz : i.zero = some z)
    (hsize : i.size = size) (hby : i.bytes = bytes) (hzs : z.cells.size = size) (hsz : 0 < size)
    (S : Nat → Prop) (A : Option Addr) (n c : Nat) (xs : List Value) (hsv : a.eval s = .slice A n c) (ha : Ap w S e size A n c xs)
    (T : Nat → Prop) (B : Option Addr) (m c2 : Nat) (news : List Value) (hx : a.eval x = .slice B m c2) (hr : Reads w T size B m news) (h1 : ∀ u ∈ news, u.oneCell' = true)
    (h63 : n + m ≤ maxLen) (hbytes : (n + m) * bytes ≤ 140737488355328)
    (h : ∀ A' c' w', Ap w' (fun k => S k ∨ (w.heap.size ≤ k ∧ k < w'.heap.size)) e size A' (n + m) c' (xs ++ news) → Same (fun k => k < w.heap.size ∧ ¬ S k) w w' → K (a.put o.dst (.slice A' (n + m) c')) w') :
    if Region.wanted o (yielded ops a.tmps) = true then Oper.wp P o a w K Q else E := by
  have hw : Region.wanted o (yielded ops a.tmps) = true := by simp [Region.wanted, hgd]
  rw [if_pos hw]
  exact wp_append_ap w s x t ho e i z size bytes ht hi hz hsize hby hzs hsz S A n c xs hsv ha T B m c2 news hx hr h1 h63 hbytes h
end
end Go.Proofs.Ytcfpkmfppgodmaa
