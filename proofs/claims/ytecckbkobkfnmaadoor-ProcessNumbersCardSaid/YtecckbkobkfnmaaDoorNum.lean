/- How sends and outputs are numbered, in plain Lean. -/
import Derived.Test.YtecckbkobkfnmaaDoorProcS
set_option linter.unusedVariables false
set_option linter.unusedSimpArgs false
namespace Go.Proofs.YtecckbkobkfnmaaDoor
open Go.RowKit Go.Proofs

/-- The effects that a handler makes are none to itself or to nobody. -/
def EffOk (v : EnvS) (e : Eff) : Prop := e.kind = 1 → 0 ≤ e.dst ∧ e.dst < v.procs ∧ e.dst ≠ v.self
theorem simpleS_ok (v : EnvS) (s : Stm) (m : Ms) (h : ∀ e ∈ m.effs, EffOk v e) : ∀ e ∈ (simpleS v s m).effs, EffOk v e := by
  unfold simpleS
  split
  · rw [(Ms.set_len _ _ _).2.1]; exact h
  · split
    · split
      · rw [(Ms.set_len _ _ _).2.1]; exact h
      · exact h
    · split
      · split
        · rename_i hd
          unfold Ms.eff
          split
          · intro e he
            simp at he
            rcases he with he | he
            · exact h e he
            · subst he; exact fun _ => hd
          · exact h
        · exact h
      · split
        · unfold Ms.eff
          split
          · intro e he
            simp at he
            rcases he with he | he
            · exact h e he
            · subst he; exact fun h1 => by simp at h1
          · exact h
        · exact h
theorem Exec.ok {v : EnvS} {t : Task} {m : Ms} {r : Res} (h : Exec v t m r) : (∀ e ∈ m.effs, EffOk v e) → ∀ e ∈ r.st.effs, EffOk v e := by
  induction h with
  | nil m => exact fun h => h
  | cons h1 h2 ih1 ih2 => exact fun h => ih2 (ih1 h)
  | consDead h1 ih1 => exact fun h => ih1 h
  | empty h0 => exact fun h => h
  | simple h h3 h4 => exact fun h => simpleS_ok _ _ _ h
  | ifE h h3 h1 ih => exact fun h => ih h
  | whileE h h4 h1 ih => exact fun h => ih h
  | stop h => exact fun h => h
  | bodyDead h h1 ih => exact fun h => ih h
  | out h h1 h0 ih => exact fun h => ih h
  | again h h1 h0 h2 ih1 ih2 => exact fun h => ih2 (ih1 h)
theorem execF_ok (v : EnvS) (body : List Stm) (cells : List Int) : ∀ e ∈ (execF v body cells).effs, EffOk v e := by
  by_cases hx : ∃ r, Exec v (.list body) ⟨cells, [], 400⟩ r
  · obtain ⟨r, h⟩ := hx
    rw [execF_of h]
    exact h.ok (by simp)
  · unfold execF
    rw [dif_neg hx]
    simp
/-- Sends that are numbered well, behind one with index i and ordinal o. -/
def Nmb (n me : Int) : Int → Int → List Snd → Prop
  | _, _, [] => True
  | i, o, y :: l => i ≤ y.idx ∧ y.idx ≤ n ∧ 0 ≤ y.to ∧ y.to ≤ 2 ∧ y.to ≠ me ∧ 0 ≤ y.ord ∧ y.ord < 8 ∧ (i < y.idx → y.ord = 0) ∧ (i = y.idx → y.ord = o + 1) ∧ Nmb n me y.idx y.ord l
theorem Nmb.app {n me m : Int} {b : List Snd} (hb : ∀ i o, i < m → Nmb n me i o b) : ∀ (l : List Snd) (i o : Int), i < m → (∀ y ∈ l, y.idx < m) → Nmb n me i o l → Nmb n me i o (l ++ b)
  | [], i, o, hi, _, _ => hb i o hi
  | y :: l, i, o, hi, hl, h => by
    obtain ⟨h1, h2, h3, h4, h5, h6, h7, h8, h9, h10⟩ := h
    exact ⟨h1, h2, h3, h4, h5, h6, h7, h8, h9, Nmb.app hb l y.idx y.ord (hl y (by simp)) (fun z hz => hl z (by simp [hz])) h10⟩
theorem Nmb.block {n me m : Int} (hm : m ≤ n) (v : EnvS) (hv : v.procs = 3) (hs : v.self = me) : ∀ (effs : List Eff) (k i o : Int), 0 ≤ k → (i < m ∧ k = 0 ∨ i = m ∧ k = o + 1) → k + effs.length ≤ 8 → (∀ e ∈ effs, EffOk v e) → Nmb n me i o (sendsOf m k effs)
  | [], k, i, o, _, _, _, _ => trivial
  | e :: l, k, i, o, hk, hi, hl, he => by
    unfold sendsOf
    have hl' : k + 1 + (l.length : Int) ≤ 8 := by simp at hl; omega
    split
    · rename_i h1
      obtain ⟨d1, d2, d3⟩ := he e (by simp) h1
      exact ⟨by show i ≤ m; omega, hm, d1, by show e.dst ≤ 2; omega, by rw [← hs]; exact d3, hk, by show k < 8; omega, fun q => by show k = 0; have q' : i < m := q; omega, fun q => by show k = o + 1; have q' : i = m := q; omega, Nmb.block hm v hv hs l (k + 1) m k (by omega) (.inr ⟨rfl, rfl⟩) hl' (fun x hx => he x (by simp [hx]))⟩
    · exact Nmb.block hm v hv hs l k i o hk hi (by omega) (fun x hx => he x (by simp [hx]))
theorem Nmb.mono {n n' me : Int} (hn : n ≤ n') : ∀ (l : List Snd) (i o : Int), Nmb n me i o l → Nmb n' me i o l
  | [], _, _, _ => trivial
  | y :: l, i, o, h => by
    obtain ⟨h1, h2, h3, h4, h5, h6, h7, h8, h9, h10⟩ := h
    exact ⟨h1, by omega, h3, h4, h5, h6, h7, h8, h9, Nmb.mono hn l _ _ h10⟩
theorem sendsOf_idx (m : Int) : ∀ (effs : List Eff) (k : Int), ∀ y ∈ sendsOf m k effs, y.idx = m
  | [], _, y, h => by simp [sendsOf] at h
  | e :: l, k, y, h => by
    unfold sendsOf at h
    split at h
    · rcases List.mem_cons.1 h with h | h
      · rw [h]
      · exact sendsOf_idx m l _ y h
    · exact sendsOf_idx m l _ y h
/-- Outputs whose indexes do not fall. -/
def Onb (n : Int) : Int → List Outp → Prop
  | _, [] => True
  | i, y :: l => i ≤ y.idx ∧ y.idx ≤ n ∧ Onb n y.idx l
theorem Onb.mono {n n' : Int} (hn : n ≤ n') : ∀ (l : List Outp) (i : Int), Onb n i l → Onb n' i l
  | [], _, _ => trivial
  | y :: l, i, h => ⟨h.1, by have := h.2.1; omega, Onb.mono hn l _ h.2.2⟩
theorem Onb.app {n m : Int} {b : List Outp} (hb : ∀ i, i ≤ m → Onb n i b) : ∀ (l : List Outp) (i : Int), i ≤ m → (∀ y ∈ l, y.idx ≤ m) → Onb n i l → Onb n i (l ++ b)
  | [], i, hi, _, _ => hb i hi
  | y :: l, i, hi, hl, h => ⟨h.1, h.2.1, Onb.app hb l y.idx (hl y (by simp)) (fun z hz => hl z (by simp [hz])) h.2.2⟩
theorem Onb.block {n m : Int} (hm : m ≤ n) : ∀ (effs : List Eff) (i : Int), i ≤ m → Onb n i (outsOf m effs)
  | [], i, _ => trivial
  | e :: l, i, hi => by
    unfold outsOf
    split
    · exact Onb.block hm l i hi
    · exact ⟨hi, hm, Onb.block hm l m (Int.le_refl m)⟩
theorem outsOf_idx (m : Int) : ∀ (effs : List Eff), ∀ y ∈ outsOf m effs, y.idx = m
  | [], y, h => by simp [outsOf] at h
  | e :: l, y, h => by
    unfold outsOf at h
    split at h
    · exact outsOf_idx m l y h
    · rcases List.mem_cons.1 h with h | h
      · rw [h]
      · exact outsOf_idx m l y h
/-- A state whose sends and outputs are numbered well. -/
def NumS (me : Int) (s : St) : Prop :=
  Nmb s.events.length me 0 (-1) s.sent ∧ (∀ y ∈ s.sent, y.idx ≤ s.events.length) ∧ Onb s.events.length 0 s.outs ∧ (∀ y ∈ s.outs, y.idx ≤ s.events.length)
theorem NumS.run {me : Int} {s : St} (h : NumS me s) (v : EnvS) (hv : v.procs = 3) (hs : v.self = me) (body : List Stm) (cells : List Int) (e : Ev) :
    NumS me (runS v body cells (s.events.length + 1) { s with events := s.events ++ [e] }) := by
  obtain ⟨h1, h2, h3, h4⟩ := h
  have hf := execF_fit v body cells
  have ho := execF_ok v body cells
  have hl : (((s.events ++ [e]).length : Nat) : Int) = s.events.length + 1 := by simp
  unfold NumS runS
  simp only [hl]
  refine ⟨?_, ?_, ?_, ?_⟩
  · exact Nmb.app (m := s.events.length + 1) (fun i o hi => Nmb.block (Int.le_refl _) v hv hs _ 0 i o (Int.le_refl _) (.inl ⟨hi, rfl⟩) (by have := hf.2; omega) ho) _ _ _ (by omega) (fun y hy => by have := h2 y hy; omega) (Nmb.mono (by omega) _ _ _ h1)
  · intro y hy
    rcases List.mem_append.1 hy with hy | hy
    · have := h2 y hy; omega
    · rw [sendsOf_idx _ _ _ y hy]; omega
  · exact Onb.app (m := s.events.length + 1) (fun i hi => Onb.block (Int.le_refl _) _ i hi) _ _ (by omega) (fun y hy => by have := h4 y hy; omega) (Onb.mono (by omega) _ _ h3)
  · intro y hy
    rcases List.mem_append.1 hy with hy | hy
    · have := h4 y hy; omega
    · rw [outsOf_idx _ _ y hy]; omega
theorem NumS.start (c : Cd) (me : Int) : NumS me (startS c me 3) := by
  have hf := execF_fit ⟨me, 3, me, 0⟩ c.start c.init
  have ho := execF_ok ⟨me, 3, me, 0⟩ c.start c.init
  unfold NumS startS runS
  simp only [List.nil_append, List.length_nil]
  refine ⟨?_, ?_, ?_, ?_⟩
  · exact Nmb.block (by simp) ⟨me, 3, me, 0⟩ rfl rfl _ 0 0 (-1) (Int.le_refl _) (.inr ⟨rfl, by omega⟩) (by have := hf.2; omega) ho
  · intro y hy
    rw [sendsOf_idx _ _ _ y hy]; simp
  · exact Onb.block (by simp) _ 0 (Int.le_refl _)
  · intro y hy
    rw [outsOf_idx _ _ y hy]; simp
theorem NumS.next {me : Int} {s : St} (h : NumS me s) (c : Cd) (e : Ev) : NumS me (nextS c me 3 s e) := by
  unfold nextS
  split
  · exact h.run ⟨me, 3, e.frm, e.val⟩ rfl rfl _ _ e
  · split
    · exact h.run ⟨me, 3, me, e.val⟩ rfl rfl _ _ e
    · split
      · exact h.run ⟨me, 3, me, e.val⟩ rfl rfl _ _ e
      · obtain ⟨h1, h2, h3, h4⟩ := h
        have hl : (((s.events ++ [e]).length : Nat) : Int) = s.events.length + 1 := by simp
        unfold NumS
        simp only [hl]
        exact ⟨Nmb.mono (by omega) _ _ _ h1, fun y hy => by have := h2 y hy; omega, Onb.mono (by omega) _ _ h3, fun y hy => by have := h4 y hy; omega⟩
theorem NumS.replay (c : Cd) (me : Int) (l : List Ev) : NumS me (replayS c me 3 l) := by
  have key : ∀ (l : List Ev) (s : St), NumS me s → NumS me (l.foldl (nextS c me 3) s) := by
    intro l
    induction l with
    | nil => intro s h; exact h
    | cons e l ih => intro s h; exact ih _ (h.next c e)
  exact key l _ (NumS.start c me)
/-- What the law's first loop asks at an element. -/
theorem Nmb.at_ {n me : Int} : ∀ {l : List Snd} {i o : Int} {y : Snd} {m : List Snd}, l = y :: m → Nmb n me i o l → i ≤ y.idx ∧ y.idx ≤ n ∧ 0 ≤ y.to ∧ y.to ≤ 2 ∧ y.to ≠ me ∧ 0 ≤ y.ord ∧ y.ord < 8 ∧ (i < y.idx → y.ord = 0) ∧ (i = y.idx → y.ord = o + 1) ∧ Nmb n me y.idx y.ord m := by
  intro l i o y m e h
  rw [e] at h
  exact h
end Go.Proofs.YtecckbkobkfnmaaDoor
