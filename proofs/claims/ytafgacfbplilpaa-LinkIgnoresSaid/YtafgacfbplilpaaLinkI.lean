/- What stays true of a link and its packets at every step. No program in sight. -/
import Derived.Test.YtafgacfbplilpaaLinkS
set_option linter.unusedVariables false
set_option linter.unusedSimpArgs false
namespace Go.Proofs.Ytafgacfbplilpaa
open Go.RowKit Go.Proofs

theorem asc_ge {l : List Pk} (h : Asc l) {a : Int} (ha : ∀ q ∈ l, a < q.seq) : ∀ (i : Nat) (q : Pk), l[i]? = some q → a + 1 + i ≤ q.seq
  | 0, q, hq => by have := ha q (List.mem_of_getElem? hq); simp; omega
  | i + 1, q, hq => by
    have hlt := (List.getElem?_eq_some_iff.1 hq).1
    have h1 := asc_ge h ha i l[i] (List.getElem?_eq_getElem (by omega))
    have h2 := h i (i + 1) l[i] q (by omega) (List.getElem?_eq_getElem (by omega)) hq
    omega
theorem asc_len {l : List Pk} (h : Asc l) {a b : Int} (ha : ∀ q ∈ l, a < q.seq ∧ q.seq < a + b) (hb : 1 ≤ b) : (l.length : Int) < b := by
  by_cases h0 : l.length = 0
  · omega
  · have h1 := asc_ge h (fun q hq => (ha q hq).1) (l.length - 1) l[l.length - 1] (List.getElem?_eq_getElem (by omega))
    have h2 := (ha l[l.length - 1] (List.getElem_mem _)).2
    omega
theorem asc_drop {l : List Pk} (h : Asc l) (d : Nat) : Asc (l.drop d) := fun i j a b hij ha hb => h (d + i) (d + j) a b (by omega) (by simpa using ha) (by simpa using hb)
theorem posS_spec (l : List Pk) (s : Int) : posS l s ≤ l.length ∧ (∀ i q, i < posS l s → l[i]? = some q → q.seq < s) ∧ (∀ q, l[posS l s]? = some q → s ≤ q.seq) := by
  unfold posS
  induction l with
  | nil => simp
  | cons a l ih =>
    by_cases h : a.seq < s
    · simp only [List.takeWhile_cons, h, decide_true, if_true, List.length_cons]
      refine ⟨by omega, fun i q hi hq => ?_, fun q hq => ih.2.2 q (by simpa using hq)⟩
      cases i with
      | zero => simp at hq; subst hq; exact h
      | succ i => exact ih.2.1 i q (by omega) (by simpa using hq)
    · simp only [List.takeWhile_cons, h, decide_false]
      refine ⟨by simp, fun i q hi _ => by simp at hi, fun q hq => ?_⟩
      simp at hq
      subst hq
      omega
theorem insertS_mem {l : List Pk} {p q : Pk} (h : q ∈ insertS l p) : q = p ∨ q ∈ l := by
  have key : q ∈ l.take (posS l p.seq) ++ [p] ++ l.drop (posS l p.seq) → q = p ∨ q ∈ l := fun h => by
    simp only [List.mem_append, List.mem_singleton] at h
    rcases h with (h | h) | h
    · exact .inr (List.mem_of_mem_take h)
    · exact .inl h
    · exact .inr (List.mem_of_mem_drop h)
  unfold insertS at h
  split at h
  · split at h
    · exact .inr h
    · exact key h
  · exact key h
theorem asc_ins {l : List Pk} (h : Asc l) {p : Pk} {k : Nat} (hk : k ≤ l.length) (h1 : ∀ i q, i < k → l[i]? = some q → q.seq < p.seq) (h2 : ∀ i q, k ≤ i → l[i]? = some q → p.seq < q.seq) : Asc (l.take k ++ [p] ++ l.drop k) := by
  have get : ∀ i a, (l.take k ++ [p] ++ l.drop k)[i]? = some a → (i < k ∧ l[i]? = some a) ∨ (i = k ∧ a = p) ∨ (k < i ∧ l[i - 1]? = some a) := fun i a hi => by
    rw [List.append_assoc] at hi
    by_cases hik : i < k
    · rw [List.getElem?_append_left (by simp; omega), List.getElem?_take, if_pos hik] at hi
      exact .inl ⟨hik, hi⟩
    · rw [List.getElem?_append_right (by simp; omega)] at hi
      have hl : (l.take k).length = k := by simp; omega
      rw [hl] at hi
      by_cases e : i = k
      · subst e
        simp at hi
        exact .inr (.inl ⟨rfl, hi.symm⟩)
      · obtain ⟨j, rfl⟩ : ∃ j, i = k + 1 + j := ⟨i - k - 1, by omega⟩
        have : k + 1 + j - k = j + 1 := by omega
        rw [this] at hi
        simp at hi
        refine .inr (.inr ⟨by omega, ?_⟩)
        rw [show k + 1 + j - 1 = k + j by omega]
        exact hi
  intro i j a b hij ha hb
  have g1 := get i a ha
  have g2 := get j b hb
  clear ha hb get
  rcases g1 with ⟨hi, ga⟩ | ⟨hi, ga⟩ | ⟨hi, ga⟩ <;> rcases g2 with ⟨hj, gb⟩ | ⟨hj, gb⟩ | ⟨hj, gb⟩
  · exact h i j a b hij ga gb
  · rw [gb]; exact h1 i a hi ga
  · exact h i (j - 1) a b (by omega) ga gb
  · omega
  · omega
  · rw [ga]; exact h2 (j - 1) b (by omega) gb
  · omega
  · omega
  · exact h (i - 1) (j - 1) a b (by omega) ga gb
theorem asc_insertS {l : List Pk} (h : Asc l) (p : Pk) : Asc (insertS l p) := by
  obtain ⟨h1, h2, h3⟩ := posS_spec l p.seq
  have key : (∀ q, l[posS l p.seq]? = some q → q.seq ≠ p.seq) → Asc (l.take (posS l p.seq) ++ [p] ++ l.drop (posS l p.seq)) := fun hn => asc_ins h h1 h2 (fun i q hi hq => by
    have hlt := (List.getElem?_eq_some_iff.1 hq).1
    have hp := List.getElem?_eq_getElem (l := l) (i := posS l p.seq) (by omega)
    have a1 := h3 _ hp
    have a2 := hn _ hp
    by_cases e : i = posS l p.seq
    · subst e; rw [hp] at hq; injection hq with hq; subst hq; omega
    · have := h _ i _ q (by omega) hp hq; omega)
  unfold insertS
  split
  · rename_i q hq
    split
    · exact h
    · rename_i hne
      exact key (fun q' hq' => by rw [hq] at hq'; injection hq' with hq'; subst hq'; exact hne)
  · rename_i hq
    exact key (fun q' hq' => by rw [hq] at hq'; cases hq')
theorem drainN_spec : ∀ (l : List Pk) (w : Int), (∀ i, i < drainN l w → ∃ q, l[i]? = some q ∧ q.seq = w + i) ∧ (∀ q, l[drainN l w]? = some q → q.seq ≠ w + drainN l w)
  | [], w => ⟨fun i hi => by simp [drainN] at hi, fun q hq => by simp at hq⟩
  | a :: l, w => by
    obtain ⟨h1, h2⟩ := drainN_spec l (w + 1)
    by_cases e : a.seq = w
    · have hd : drainN (a :: l) w = drainN l (w + 1) + 1 := by simp [drainN, e]
      rw [hd]
      refine ⟨fun i hi => ?_, fun q hq hs => ?_⟩
      · cases i with
        | zero => exact ⟨a, rfl, by simpa using e⟩
        | succ i =>
          obtain ⟨q, hq, hs⟩ := h1 i (by omega)
          exact ⟨q, by simpa using hq, by rw [hs]; omega⟩
      · simp at hq
        exact h2 q hq (by omega)
    · have hd : drainN (a :: l) w = 0 := by simp [drainN, e]
      rw [hd]
      exact ⟨fun i hi => by omega, fun q hq hs => by simp at hq; subst hq; simp at hs; exact e hs⟩

/-- What stays true. -/
structure Inv (st : Ws) (r : Nat) : Prop where
  win0 : 1 ≤ st.k.win
  win1 : st.k.win ≤ 8
  base1 : 1 ≤ st.k.base
  sum : st.k.base + st.k.kept.length = st.inn.length + 1
  keptv : st.k.kept = st.inn.drop (st.k.base - 1).toNat
  keptl : st.k.kept.length ≤ st.k.win
  want : st.k.want = st.out.length + 1
  outl : st.out.length ≤ st.inn.length
  outp : st.out = st.inn.take st.out.length
  bw : st.k.base ≤ st.k.want
  data : ∀ p ∈ st.data, 1 ≤ p.seq ∧ st.inn[(p.seq - 1).toNat]? = some p.val
  ack : ∀ p ∈ st.ack, p.seq = 0 ∧ 0 ≤ p.ack ∧ p.ack < st.k.want
  early : ∀ q ∈ st.k.early, (st.k.want < q.seq ∧ q.seq < st.k.want + st.k.win) ∧ st.inn[(q.seq - 1).toNat]? = some q.val
  asc : Asc st.k.early
  ldata : st.data.length + 8 * r ≤ 2000
  lack : st.ack.length + r ≤ 240
  linn : st.inn.length + r ≤ 240
theorem Inv.early_len {st : Ws} {r : Nat} (h : Inv st r) : st.k.early.length ≤ 8 := by
  have := asc_len h.asc (fun q hq => (h.early q hq).1) h.win0
  have := h.win1
  omega
theorem arriveD_len (k : Lk) (p : Pk) : (arriveD k p).length ≤ 1 + k.early.length := by
  unfold arriveD
  split
  · simp; omega
  · simp
theorem Inv.ok {st : Ws} {r : Nat} (h : Inv st r) : Ok st := by
  have h1 := h.win1
  have h2 := h.keptl
  have h3 := h.sum
  have h4 := h.linn
  have h5 := h.want
  have h6 := h.outl
  have h7 := h.early_len
  have h8 := h.base1
  have h9 := h.ldata
  have h10 := h.lack
  refine ⟨h.win0, h1, by omega, by omega, by omega, by omega, by omega, by omega, h.asc, by omega, by omega, by omega, by omega, fun p hp => ?_, fun p hp => ?_, fun p hp => ?_⟩
  · obtain ⟨a, b⟩ := h.data p hp
    have := (List.getElem?_eq_some_iff.1 b).1
    exact ⟨by omega, by omega⟩
  · obtain ⟨_, a, b⟩ := h.ack p hp
    exact ⟨by omega, by omega⟩
  · have := arriveD_len st.k p; omega
theorem Inv.start (win : Int) (h0 : 1 ≤ win) (h1 : win ≤ 8) (r : Nat) (hr : r ≤ 240) : Inv ⟨⟨win, 1, [], 1, []⟩, [], [], [], []⟩ r :=
  ⟨h0, h1, by simp, by simp, by simp, by simp; omega, by simp, by simp, by simp, by simp, by simp, by simp, by simp, fun i j a b _ h => by simp at h, by simp; omega, by simpa using hr, by simpa using hr⟩
theorem Inv.less {st : Ws} {r r' : Nat} (h : Inv st r) (hr : r' ≤ r) : Inv st r' :=
  ⟨h.win0, h.win1, h.base1, h.sum, h.keptv, h.keptl, h.want, h.outl, h.outp, h.bw, h.data, h.ack, h.early, h.asc, by have := h.ldata; omega, by have := h.lack; omega, by have := h.linn; omega⟩
theorem take_more (l : List Int) (n : Nat) (x : Int) (h : l[n]? = some x) : l.take (n + 1) = l.take n ++ [x] := by
  rw [List.take_add_one, h]; rfl
/-- What an arrival leaves of the link, beside what is true before. -/
theorem Inv.arr {st : Ws} {r : Nat} (h : Inv st r) {p : Pk} (hp : 1 ≤ p.seq ∧ st.inn[(p.seq - 1).toNat]? = some p.val) (data' : List Pk) (hd : ∀ q ∈ data', 1 ≤ q.seq ∧ st.inn[(q.seq - 1).toNat]? = some q.val) (r' : Nat) (hr : r' < r) (hdl : data'.length ≤ st.data.length) :
    Inv { st with data := data', k := arriveS st.k p, out := st.out ++ arriveD st.k p, ack := st.ack ++ [⟨0, (arriveS st.k p).want - 1, 0⟩] } r' := by
  have hw := h.want
  have hol := h.outl
  have hwk : st.k.want ≤ (arriveS st.k p).want := by
    unfold arriveS
    split
    · simp; omega
    · split <;> simp
  have hack : ∀ q ∈ st.ack ++ [⟨0, (arriveS st.k p).want - 1, 0⟩], q.seq = 0 ∧ 0 ≤ q.ack ∧ q.ack < (arriveS st.k p).want := fun q hq => by
    rcases List.mem_append.1 hq with hq | hq
    · have := h.ack q hq; exact ⟨this.1, this.2.1, by omega⟩
    · simp at hq; subst hq; exact ⟨rfl, by show 0 ≤ (arriveS st.k p).want - 1; omega, by show (arriveS st.k p).want - 1 < (arriveS st.k p).want; omega⟩
  have lens : (st.ack ++ [(⟨0, (arriveS st.k p).want - 1, 0⟩ : Pk)]).length + r' ≤ 240 := by have := h.lack; simp; omega
  have hl1 := h.ldata
  have hl2 := h.linn
  by_cases hs : p.seq = st.k.want
  · have e1 : arriveS st.k p = { st.k with want := st.k.want + 1 + drainN st.k.early (st.k.want + 1), early := st.k.early.drop (drainN st.k.early (st.k.want + 1)) } := if_pos hs
    have e2 : arriveD st.k p = p.val :: (st.k.early.take (drainN st.k.early (st.k.want + 1))).map (·.val) := if_pos hs
    obtain ⟨d1, d2⟩ := drainN_spec st.k.early (st.k.want + 1)
    have dle := drainN_le st.k.early (st.k.want + 1)
    have hv : st.inn[st.out.length]? = some p.val := by
      have := hp.2
      rw [hs, hw, show (((st.out.length : Int) + 1 - 1).toNat) = st.out.length by omega] at this
      exact this
    have hout : ∀ d, d ≤ drainN st.k.early (st.k.want + 1) → st.out ++ p.val :: (st.k.early.take d).map (·.val) = st.inn.take (st.out.length + 1 + d) := by
      intro d
      induction d with
      | zero =>
        intro _
        rw [Nat.add_zero, take_more _ _ _ hv]
        simp
        exact h.outp
      | succ d ih =>
        intro hd'
        obtain ⟨q, hq, hqs⟩ := d1 d (by omega)
        have hqv := (h.early q (List.mem_of_getElem? hq)).2
        rw [hqs, hw, show (((st.out.length : Int) + 1 + 1 + d - 1).toNat) = st.out.length + 1 + d by omega] at hqv
        rw [show st.out.length + 1 + (d + 1) = (st.out.length + 1 + d) + 1 by omega, take_more _ _ _ hqv, ← ih (by omega), List.take_add_one, hq]
        simp
    have hfull := hout _ (Nat.le_refl _)
    have hlen : (arriveD st.k p).length = 1 + drainN st.k.early (st.k.want + 1) := by rw [e2]; simp; omega
    have htot : st.out.length + 1 + drainN st.k.early (st.k.want + 1) ≤ st.inn.length := by
      have := congrArg List.length hfull
      rw [← e2, List.length_append, hlen, List.length_take] at this
      omega
    refine ⟨by rw [e1]; exact h.win0, by rw [e1]; exact h.win1, by rw [e1]; exact h.base1, by rw [e1]; exact h.sum, by rw [e1]; exact h.keptv, by rw [e1]; exact h.keptl, ?_, ?_, ?_, ?_, hd, hack, ?_, by rw [e1]; exact asc_drop h.asc _, by simp only; omega, lens, by simp only; omega⟩
    · simp only [List.length_append, hlen]; rw [e1]; simp only; omega
    · simp only [List.length_append, hlen]; omega
    · simp only [List.length_append, hlen]
      rw [show st.out.length + (1 + drainN st.k.early (st.k.want + 1)) = st.out.length + 1 + drainN st.k.early (st.k.want + 1) by omega, ← hfull, e2]
    · have := h.bw
      have hb : (arriveS st.k p).base = st.k.base := by rw [e1]
      simp only
      omega
    · intro q hq
      rw [e1] at hq ⊢
      simp only at hq ⊢
      have hm := List.mem_of_mem_drop hq
      obtain ⟨⟨a1, a2⟩, a3⟩ := h.early q hm
      refine ⟨⟨?_, by show q.seq < st.k.want + 1 + (drainN st.k.early (st.k.want + 1) : Int) + st.k.win; omega⟩, a3⟩
      obtain ⟨j, hj, rfl⟩ := List.mem_iff_getElem.1 hq
      have hj' : st.k.early[drainN st.k.early (st.k.want + 1) + j]? = some ((st.k.early.drop (drainN st.k.early (st.k.want + 1)))[j]) := by
        rw [List.getElem_drop]
        exact List.getElem?_eq_getElem _
      have hge := asc_ge h.asc (fun q hq => (h.early q hq).1.1) _ _ hj'
      by_cases h0 : j = 0
      · subst h0
        have := d2 _ hj'
        simp at this hge ⊢
        omega
      · omega
  · have e2 : arriveD st.k p = [] := if_neg hs
    by_cases hc : st.k.want < p.seq ∧ p.seq - st.k.want < st.k.win
    · have e1 : arriveS st.k p = { st.k with early := insertS st.k.early ⟨p.seq, 0, p.val⟩ } := (if_neg hs).trans (if_pos hc)
      refine ⟨by rw [e1]; exact h.win0, by rw [e1]; exact h.win1, by rw [e1]; exact h.base1, by rw [e1]; exact h.sum, by rw [e1]; exact h.keptv, by rw [e1]; exact h.keptl, by rw [e1, e2]; simpa using hw, by rw [e2]; simpa using hol, by rw [e2]; simpa using h.outp, by rw [e1]; exact h.bw, hd, hack, fun q hq => ?_, by rw [e1]; exact asc_insertS h.asc _, by simp only; omega, lens, by simp only; omega⟩
      rw [e1] at hq ⊢
      simp only at hq ⊢
      rcases insertS_mem hq with rfl | hm
      · exact ⟨⟨hc.1, by simp only; omega⟩, hp.2⟩
      · exact h.early q hm
    · have e1 : arriveS st.k p = st.k := (if_neg hs).trans (if_neg hc)
      refine ⟨by rw [e1]; exact h.win0, by rw [e1]; exact h.win1, by rw [e1]; exact h.base1, by rw [e1]; exact h.sum, by rw [e1]; exact h.keptv, by rw [e1]; exact h.keptl, by rw [e1, e2]; simpa using hw, by rw [e2]; simpa using hol, by rw [e2]; simpa using h.outp, by rw [e1]; exact h.bw, hd, hack, by rw [e1]; exact h.early, by rw [e1]; exact h.asc, by simp only; omega, lens, by simp only; omega⟩
theorem Inv.conf {st : Ws} {r : Nat} (h : Inv st r) {p : Pk} (hp : p.seq = 0 ∧ 0 ≤ p.ack ∧ p.ack < st.k.want) (ack' : List Pk) (ha : ∀ q ∈ ack', q ∈ st.ack) (hal : ack'.length ≤ st.ack.length) (r' : Nat) (hr : r' ≤ r) :
    Inv { st with ack := ack', k := confirmS st.k p } r' := by
  have h' := h.less hr
  have hl := h'.lack
  have ha' : ∀ q ∈ ack', q.seq = 0 ∧ 0 ≤ q.ack ∧ q.ack < st.k.want := fun q hq => h.ack q (ha q hq)
  by_cases hc : p.seq = 0 ∧ st.k.base ≤ p.ack ∧ p.ack - st.k.base < st.k.kept.length
  · have e : confirmS st.k p = { st.k with kept := st.k.kept.drop (p.ack - st.k.base + 1).toNat, base := p.ack + 1 } := if_pos hc
    have hs := h.sum
    have hb := h.base1
    have hk := h.keptl
    rw [e]
    refine ⟨h.win0, h.win1, by simp only; omega, by simp only [List.length_drop]; omega, ?_, by simp only [List.length_drop]; omega, h.want, h.outl, h.outp, by simp only; omega, h.data, ha', h.early, h.asc, h'.ldata, by simp only; omega, h'.linn⟩
    simp only
    rw [h.keptv, List.drop_drop]
    congr 1
    omega
  · have e : confirmS st.k p = st.k := if_neg hc
    rw [e]
    exact ⟨h.win0, h.win1, h.base1, h.sum, h.keptv, h.keptl, h.want, h.outl, h.outp, h.bw, h.data, ha', h.early, h.asc, h'.ldata, by simp only; omega, h'.linn⟩
theorem mem_cut {α : Type} {l : List α} {n : Nat} {q : α} (h : q ∈ l.take n ++ l.drop (n + 1)) : q ∈ l := by
  rcases List.mem_append.1 h with h | h
  · exact List.mem_of_mem_take h
  · exact List.mem_of_mem_drop h
theorem Inv.offer {st : Ws} {r : Nat} (h : Inv st r) (v : Int) (hf : ¬ st.k.win ≤ st.k.kept.length) (r' : Nat) (hr : r' < r) : Inv { st with k := { st.k with kept := st.k.kept ++ [v] }, inn := st.inn ++ [v] } r' := by
  have h' := h.less (Nat.le_of_lt hr)
  have hs := h.sum
  have hb := h.base1
  have hl := h.linn
  have ho := h.outl
  have grow : ∀ (n : Nat) (x : Int), st.inn[n]? = some x → (st.inn ++ [v])[n]? = some x := fun n x hx => by
    rw [List.getElem?_append_left (List.getElem?_eq_some_iff.1 hx).1]; exact hx
  refine ⟨h.win0, h.win1, hb, by simp; omega, ?_, by simp; omega, h.want, by simp; omega, ?_, h.bw, fun p hp => ⟨(h.data p hp).1, grow _ _ (h.data p hp).2⟩, h.ack, fun q hq => ⟨(h.early q hq).1, grow _ _ (h.early q hq).2⟩, h.asc, h'.ldata, h'.lack, by simp; omega⟩
  · simp only
    rw [List.drop_append_of_le_length (by omega), ← h.keptv]
  · simp only
    rw [List.take_append_of_le_length (by omega)]
    exact h.outp
theorem Inv.packets {st : Ws} {r : Nat} (h : Inv st r) : ∀ q ∈ packetsS st.k, 1 ≤ q.seq ∧ st.inn[(q.seq - 1).toNat]? = some q.val := by
  intro q hq
  unfold packetsS packetsTo at hq
  obtain ⟨i, hi, rfl⟩ := List.mem_map.1 hq
  simp at hi
  have hb := h.base1
  refine ⟨by simp only; omega, ?_⟩
  have hk := h.keptv
  have hg : st.k.kept[i]? = st.inn[(st.k.base - 1).toNat + i]? := by rw [hk, List.getElem?_drop]
  simp only
  rw [show (st.k.base + (i : Int) - 1).toNat = (st.k.base - 1).toNat + i by omega, ← hg]
  simp [hi]
theorem Inv.step {st st' : Ws} {r r' : Nat} (h : Inv st r) (hs : StepR st st') (hr : r' ≤ r - 1) (h0 : 0 < r) : Inv st' r' := by
  have h' := h.less (show r' ≤ r by omega)
  cases hs with
  | same => exact h'
  | offer v hf => exact h.offer v hf r' (by omega)
  | packets =>
    have hp := h.packets
    have hl := h.ldata
    have hk := h.keptl
    have hw := h.win1
    have hlen : (packetsS st.k).length ≤ 8 := by rw [packetsS, packetsTo_len]; omega
    exact ⟨h.win0, h.win1, h.base1, h.sum, h.keptv, h.keptl, h.want, h.outl, h.outp, h.bw, fun p hq => (List.mem_append.1 hq).elim (h.data p) (hp p), h.ack, h.early, h.asc, by simp only [List.length_append]; omega, h'.lack, h'.linn⟩
  | arriveKeep n p hp => exact h.arr (h.data p (List.mem_of_getElem? hp)) st.data h.data r' (by omega) (Nat.le_refl _)
  | arrive n p hp => exact h.arr (h.data p (List.mem_of_getElem? hp)) _ (fun q hq => h.data q (mem_cut hq)) r' (by omega) (by simp; omega)
  | confirm n p hp => exact h.conf (h.ack p (List.mem_of_getElem? hp)) _ (fun q hq => mem_cut hq) (by simp; omega) r' (by omega)
  | lose => exact ⟨h.win0, h.win1, h.base1, h.sum, h.keptv, h.keptl, h.want, h.outl, h.outp, h.bw, fun p hq => h.data p (List.mem_of_mem_drop hq), h.ack, h.early, h.asc, by have := h'.ldata; simp; omega, h'.lack, h'.linn⟩
end Go.Proofs.Ytafgacfbplilpaa
