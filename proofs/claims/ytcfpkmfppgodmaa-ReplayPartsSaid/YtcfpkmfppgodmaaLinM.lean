/- Lists that are made and grown in place. No program in sight. -/
import Derived.Test.YtcfpkmfppgodmaaSched1
import Derived.Test.YtcfpkmfppgodmaaRow
import Derived.Test.YtcfpkmfppgodmaaGA
import Derived.Test.YtcfpkmfppgodmaaBlk
set_option linter.unusedVariables false
set_option linter.unusedSimpArgs false
namespace Go.Proofs.Ytcfpkmfppgodmaa
open Go.RowKit Go.Proofs

theorem own_lowM {w : World} {base base' n size : Nat} {e : TypeId} {v : Value} {xs : List Value} (h : w.ownsRow base e size v n xs) (hb : base' ≤ base) : w.ownsRow base' e size v n xs := by
  refine ⟨h.1, ?_⟩
  rcases h.2 with hn | ⟨g, cap, cur, e1, hbg, rest⟩
  · exact .inl hn
  · exact .inr ⟨g, cap, cur, e1, Nat.le_trans hb hbg, rest⟩
theorem getD_setL {α : Type} {l : List α} {q : Nat} {x d : α} (h : q < l.length) : (l.set q x).getD q d = x := by simp [List.getD, h]
theorem getD_setO {α : Type} {l : List α} {q p : Nat} {x d : α} (h : q ≠ p) : (l.set q x).getD p d = l.getD p d := by simp [List.getD, List.getElem?_set, h]
/-- A made list of lists of events: its cells in block gl, each list in a block of its own. -/
structure LinM (w : World) (base gl n : Nat) (vs : List Value) (l : List (List Ev)) : Prop where
  blk : Blk w gl 46 vs.toArray
  low : base ≤ gl
  vlen : vs.length = n
  llen : l.length = n
  row : ∀ (q : Nat) (v : Value), vs[q]? = some v → w.ownsRow base 50 7 v (l.getD q []).length ((l.getD q []).flatMap encEv)
  own : ∀ (q : Nat) (v : Value), vs[q]? = some v → v.ownBlock ≠ some gl
  dis : ∀ (p q : Nat) (v u : Value) (b : Nat), p ≠ q → vs[p]? = some v → vs[q]? = some u → v.ownBlock = some b → u.ownBlock ≠ some b
section
variable {w w' u wb wz : World} {base gl n q : Nat} {vs : List Value} {l : List (List Ev)} {v vb : Value}
theorem LinM.init (hb : Blk w gl 46 (List.replicate n (.slice none 0 0)).toArray) (hl : base ≤ gl) : LinM w base gl n (List.replicate n (.slice none 0 0)) (List.replicate n []) := by
  have hv : ∀ (q : Nat) (v : Value), (List.replicate n (Value.slice none 0 0))[q]? = some v → v = .slice none 0 0 := fun q v h => by
    rw [List.getElem?_replicate] at h
    split at h
    · injection h with h; exact h.symm
    · cases h
  have hg : ∀ q, (List.replicate n ([] : List Ev)).getD q [] = [] := fun q => by simp only [List.getD, List.getElem?_replicate]; split <;> rfl
  refine ⟨hb, hl, by simp, by simp, fun q v h => ?_, fun q v h => ?_, fun p q v u b _ h1 h2 h3 => ?_⟩
  · rw [hg, hv q v h]; exact World.ownsRow_nil _ _ _ _
  · rw [hv q v h]; exact nofun
  · rw [hv p v h1] at h3; cases h3
theorem LinM.same (h : LinM w base gl n vs l) (hs : Same (fun i => base ≤ i ∧ i < w.heap.size) w w') : LinM w' base gl n vs l :=
  ⟨hs.blk h.blk ⟨h.low, h.blk.lt⟩, h.low, h.vlen, h.llen, fun q v hv => ownsRow_same (h.row q v hv) hs (fun i hi => hi), h.own, h.dis⟩
theorem LinM.keep (h : LinM w base gl n vs l) (hs : Keep w w') : LinM w' base gl n vs l := h.same (hs.mono (fun i hi => hi.2))
theorem LinM.lt (h : LinM w base gl n vs l) {b : Nat} (hv : vs[q]? = some v) (hb : v.ownBlock = some b) : base ≤ b ∧ b < w.heap.size := (h.row q v hv).lt b hb
theorem LinM.get (h : LinM w base gl n vs l) (hq : q < n) : ∃ v, vs[q]? = some v := ⟨_, List.getElem?_eq_getElem (by rw [h.vlen]; exact hq)⟩
/-- Behind an append onto list q. -/
theorem LinM.push {e : Ev} (h : LinM u base gl n vs l) (hv : vs[q]? = some v) (hown : wb.ownsRow base 50 7 vb ((l.getD q []).length + 1) ((l.getD q []).flatMap encEv ++ encEv e)) (hg : u.grownBy wb v.ownBlock)
    (hat : vb.ownBlock = v.ownBlock ∨ vb.ownBlock = some u.heap.size) (hb : Blk wz gl 46 (vs.set q vb).toArray) (hs : Same (· ≠ gl) wb wz) : LinM wz base gl n (vs.set q vb) (l.set q (l.getD q [] ++ [e])) := by
  have hS : Same (fun i => i < u.heap.size ∧ v.ownBlock ≠ some i) u wb := Same.grown (Same.refl _ _) hg (fun i hi => hi.1) (fun k hk hh => hh.2 hk)
  have hgl := h.blk.lt
  have hqn : q < n := by rw [← h.vlen]; exact (List.getElem?_eq_some_iff.1 hv).1
  have hlq : q < l.length := by rw [h.llen]; exact hqn
  have hlow := h.low
  have hz1 := hS.size
  have hvb : ∀ i, i < u.heap.size → v.ownBlock ≠ some i → vb.ownBlock ≠ some i := fun i h1 h2 e => by
    rcases hat with h3 | h3
    · exact h2 (h3 ▸ e)
    · rw [h3] at e; injection e with e; omega
  have hog : vb.ownBlock ≠ some gl := hvb gl hgl (h.own q v hv)
  have hset : ∀ (p : Nat) (x : Value), (vs.set q vb)[p]? = some x → (p = q ∧ x = vb) ∨ (q ≠ p ∧ vs[p]? = some x) := fun p x hx => by
    rw [List.getElem?_set] at hx
    by_cases e : q = p
    · subst e
      rw [if_pos rfl, if_pos (by rw [h.vlen]; exact hqn)] at hx
      injection hx with hx
      exact .inl ⟨rfl, hx.symm⟩
    · rw [if_neg e] at hx
      exact .inr ⟨e, hx⟩
  refine ⟨hb, hlow, by simp [h.vlen], by simp [h.llen], fun p x hx => ?_, fun p x hx => ?_, fun p r x y b hpr hx hy hxb => ?_⟩
  · rcases hset p x hx with ⟨rfl, rfl⟩ | ⟨hne, hx⟩
    · rw [getD_setL hlq]
      have := ownsRow_own hown hs (fun b hb e => hog (e ▸ hb))
      rw [List.length_append, List.flatMap_append]
      simpa using this
    · rw [getD_setO hne]
      have h1 := ownsRow_own (h.row p x hx) hS (fun b hb => ⟨(h.lt hx hb).2, fun e => h.dis q p v x b hne hv hx e hb⟩)
      exact ownsRow_own h1 hs (fun b hb e => h.own p x hx (e ▸ hb))
  · rcases hset p x hx with ⟨rfl, rfl⟩ | ⟨hne, hx⟩
    · exact hog
    · exact h.own p x hx
  · rcases hset p x hx with ⟨e1, e2⟩ | ⟨hne, hx'⟩
    · rcases hset r y hy with ⟨e3, e4⟩ | ⟨hne2, hy'⟩
      · exact absurd (e1.trans e3.symm) hpr
      · intro e
        subst e2
        have h1 := (h.lt hy' e).2
        exact hvb b h1 (fun e2 => h.dis q r v y b (by rw [← e1]; exact hpr) hv hy' e2 e) hxb
    · rcases hset r y hy with ⟨e3, e4⟩ | ⟨hne2, hy'⟩
      · subst e4
        have h1 := (h.lt hx' hxb).2
        exact hvb b h1 (fun e2 => h.dis q p v x b (by rw [← e3]; exact hpr.symm) hv hx' e2 hxb)
      · exact h.dis p r x y b hpr hx' hy' hxb
/-- List q changed in its block. -/
theorem LinM.row_ {b : Nat} {l' : List Ev} (h : LinM w base gl n vs l) (hv : vs[q]? = some v) (hvb : v.ownBlock = some b) (hs : Same (· ≠ b) w wz) (hrow : wz.ownsRow base 50 7 v l'.length (l'.flatMap encEv)) : LinM wz base gl n vs (l.set q l') := by
  have hqn : q < n := by rw [← h.vlen]; exact (List.getElem?_eq_some_iff.1 hv).1
  have hlq : q < l.length := by rw [h.llen]; exact hqn
  refine ⟨hs.blk h.blk (fun e => h.own q v hv (e ▸ hvb)), h.low, h.vlen, by simp [h.llen], fun p x hx => ?_, h.own, h.dis⟩
  by_cases e : q = p
  · subst e
    rw [hv] at hx
    injection hx with hx
    subst hx
    rw [getD_setL hlq]
    exact hrow
  · rw [getD_setO e]
    exact ownsRow_own (h.row p x hx) hs (fun b' hb' e2 => h.dis q p v x b e hv hx hvb (e2 ▸ hb'))
/-- Element k of list q lies in a block that is known whole. -/
theorem LinM.at_ (h : LinM w base gl n vs l) (hq : q < n) {k : Nat} (hk : k < (l.getD q []).length) : ∃ (b c : Nat) (cur : Array Value) (e : Ev), vs[q]? = some (.slice (some ⟨b, 0, none⟩) (l.getD q []).length c) ∧ base ≤ b ∧ b ≠ gl ∧ Blk w b 50 cur ∧ cur.size = c * 7 ∧ (l.getD q []).length ≤ c ∧ c ≤ maxLen ∧
    cur.toList.take ((l.getD q []).length * 7) = (l.getD q []).flatMap encEv ∧ (l.getD q [])[k]? = some e ∧ ∀ j x, (encEv e)[j]? = some x → cur[k * 7 + j]? = some x := by
  obtain ⟨v, hv⟩ := h.get hq
  have hr := h.row q v hv
  obtain ⟨A, c, rfl, -, -⟩ := own_form hr
  obtain ⟨b, cur, rfl, hb, hblk, hcs, hnc, hcm, htk⟩ := own_open hr (by omega)
  refine ⟨b, c, cur, (l.getD q [])[k], hv, hb, fun e => h.own q _ hv (e ▸ rfl), hblk, hcs, hnc, hcm, htk, List.getElem?_eq_getElem hk, fun j x hx => ?_⟩
  have hj : j < 7 := by rw [← encEv_len (l.getD q [])[k]]; exact (List.getElem?_eq_some_iff.1 hx).1
  refine row_of_take htk _ x ?_
  rw [flat_get encEv_len _ k j hk hj]
  exact hx
/-- Behind a store into one cell of element k of list q. -/
theorem LinM.put {b c k o : Nat} {cur : Array Value} {e e' : Ev} {x : Value} (h : LinM w base gl n vs l) (hv : vs[q]? = some (.slice (some ⟨b, 0, none⟩) (l.getD q []).length c)) (hcs : cur.size = c * 7) (hnc : (l.getD q []).length ≤ c) (hcm : c ≤ maxLen)
    (htk : cur.toList.take ((l.getD q []).length * 7) = (l.getD q []).flatMap encEv) (he : (l.getD q [])[k]? = some e) (ho : o < 7) (henc : encEv e' = (encEv e).set o x)
    (hb : Blk wz b 50 (cur.setIfInBounds (k * 7 + o) x)) (hs : Same (· ≠ b) w wz) : LinM wz base gl n vs (l.set q ((l.getD q []).set k e')) := by
  have hlt := h.lt hv rfl
  refine h.row_ hv rfl hs ?_
  rw [List.length_set]
  exact row_put encEv_len hlt.1 hb hcs hnc hcm htk rfl he ho henc
/-- Behind a store of a whole element k of list q. -/
theorem LinM.putAll {b c k : Nat} {cur : Array Value} {e' : Ev} (h : LinM w base gl n vs l) (hv : vs[q]? = some (.slice (some ⟨b, 0, none⟩) (l.getD q []).length c)) (hcs : cur.size = c * 7) (hnc : (l.getD q []).length ≤ c) (hcm : c ≤ maxLen)
    (htk : cur.toList.take ((l.getD q []).length * 7) = (l.getD q []).flatMap encEv) (hk : k < (l.getD q []).length)
    (hb : Blk wz b 50 (splice cur (k * 7) (encEv e'))) (hs : Same (· ≠ b) w wz) : LinM wz base gl n vs (l.set q ((l.getD q []).set k e')) := by
  have hlt := h.lt hv rfl
  have hin : k * 7 + (encEv e').length ≤ cur.size := by
    rw [encEv_len, hcs]
    omega
  refine h.row_ hv rfl hs ?_
  rw [List.length_set]
  refine own_close encEv_len hlt.1 hb (by rw [splice_size]; exact hcs) hnc hcm (Row.set_ encEv_len hk (row_of_take htk) (fun j hj => ?_) (fun r x hx => ?_)) (by simp)
  · rw [splice_at _ _ _ hin, encEv_len, if_neg (by omega)]
  · have hr : r < 7 := by rw [← encEv_len e']; exact (List.getElem?_eq_some_iff.1 hx).1
    rw [splice_at _ _ _ hin, encEv_len, if_pos (by omega)]
    have : k * 7 + r - k * 7 = r := by omega
    rw [this]
    exact hx
theorem LinM.slr (h : LinM w base gl n vs l) (hn : n ≤ maxLen) : SlR w (fun i => base ≤ i ∧ i < w.heap.size) 1 (EvsR w (fun i => base ≤ i ∧ i < w.heap.size)) (some ⟨gl, 0, none⟩) n n l := by
  have hfl : (vs.map (fun v => [v])).flatten = vs := by
    clear h
    induction vs with
    | nil => rfl
    | cons a t ih => simp [ih]
  refine ⟨h.llen.symm, Nat.le_refl _, hn, vs.map (fun v => [v]), by simp [h.vlen], ?_, ?_, fun k cs a h1 h2 => ?_⟩
  · intro cs hcs
    obtain ⟨v, -, rfl⟩ := List.mem_map.1 hcs
    rfl
  · rw [hfl]
    refine ⟨by rw [h.vlen, Nat.mul_one], fun _ => ⟨gl, 0, rfl, ⟨h.low, h.blk.lt⟩, fun j x hx => ?_⟩⟩
    rw [h.blk.cell, Nat.zero_add, List.getElem?_toArray]
    exact hx
  · rw [List.getElem?_map] at h1
    obtain ⟨v, hv, rfl⟩ := Option.map_eq_some_iff.1 h1
    have hr := h.row k v hv
    have ha : l.getD k [] = a := by simp [List.getD, h2]
    rw [ha] at hr
    obtain ⟨A, c, rfl, hs⟩ := Sl.of_own hr
    exact ⟨A, _, c, rfl, hs⟩
end
end Go.Proofs.Ytcfpkmfppgodmaa
