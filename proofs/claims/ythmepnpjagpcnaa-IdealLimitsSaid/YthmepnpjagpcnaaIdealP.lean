/- Plain laws of the machine that never fails: beginnings, exchanges, deliveries, outputs. No program in sight. -/
import Derived.Test.YthmepnpjagpcnaaIdealS
set_option linter.unusedVariables false
set_option linter.unusedSimpArgs false
namespace Go.Proofs.Ythmepnpjagpcnaa
open Go.RowKit Go.Proofs

/-! ### runs -/
theorem runI_ok {cs : List Cd} {l : List Chc} {m : Mi} (h : runI cs l = .ok m) : 1 ≤ cs.length ∧ cs.length ≤ 5 ∧ l.length ≤ 320 ∧ playI cs (startI cs cs.length) l = .ok m := by
  unfold runI at h
  split at h
  · cases h
  · split at h
    · cases h
    · exact ⟨by omega, by omega, by omega, h⟩
theorem runI_of {cs : List Cd} {l : List Chc} (h1 : 1 ≤ cs.length) (h5 : cs.length ≤ 5) (hl : l.length ≤ 320) : runI cs l = playI cs (startI cs cs.length) l := by
  unfold runI
  rw [if_neg (by omega), if_neg (by omega)]
theorem runI_inv {cs : List Cd} {l : List Chc} {m : Mi} (h : runI cs l = .ok m) : InvI cs m := playI_inv l _ (startI_inv cs) (runI_ok h).2.2.2
theorem playI_take {cs : List Cd} {m m' : Mi} {l : List Chc} (k : Nat) (h : playI cs m l = .ok m') : ∃ m1, playI cs m (l.take k) = .ok m1 ∧ playI cs m1 (l.drop k) = .ok m' := by
  rw [← List.take_append_drop k l, playI_app] at h
  split at h
  · rename_i m1 h1; exact ⟨m1, h1, h⟩
  · cases h
theorem playI_world {cs : List Cd} {m' : Mi} : ∀ (l : List Chc) (m : Mi), playI cs m l = .ok m' → ∃ a, m'.world = m.world ++ a
  | [], m, h => by injection h with h; exact ⟨[], by rw [h]; simp⟩
  | x :: l, m, h => by
    obtain ⟨a, ha⟩ := playI_world l _ (playI_cons_ok h).2
    exact ⟨_, by rw [ha, execI, List.append_assoc]⟩
theorem runI_pre {cs : List Cd} {l : List Chc} {m : Mi} (k : Nat) (h : runI cs l = .ok m) : ∃ m1, runI cs (l.take k) = .ok m1 ∧ ∃ a, m.world = m1.world ++ a := by
  obtain ⟨h1, h5, hl, hp⟩ := runI_ok h
  obtain ⟨m1, hm1, hm2⟩ := playI_take k hp
  refine ⟨m1, ?_, playI_world _ _ hm2⟩
  rw [runI_of h1 h5 (by rw [List.length_take]; omega)]
  exact hm1

/-! ### what an event adds -/
theorem runS_sent (v : EnvS) (body : List Stm) (cells : List Int) (k : Int) (s : St) : ∃ a, (runS v body cells k s).sent = s.sent ++ a ∧ ∀ y ∈ a, y.idx = k := by
  refine ⟨_, rfl, ?_⟩
  intro y hy
  have key : ∀ (l : List Eff) (o : Int), ∀ y ∈ sendsOf k o l, y.idx = k := by
    intro l
    induction l with
    | nil => intro o y hy; simp [sendsOf] at hy
    | cons e l ih =>
      intro o y hy
      rw [sendsOf] at hy
      split at hy
      · rcases List.mem_cons.1 hy with h | h
        · rw [h]
        · exact ih _ y h
      · exact ih _ y hy
  exact key _ _ y hy
theorem runS_outs (v : EnvS) (body : List Stm) (cells : List Int) (k : Int) (s : St) : ∃ a, (runS v body cells k s).outs = s.outs ++ a ∧ ∀ y ∈ a, y.idx = k := by
  refine ⟨_, rfl, ?_⟩
  intro y hy
  have key : ∀ (l : List Eff), ∀ y ∈ outsOf k l, y.idx = k := by
    intro l
    induction l with
    | nil => intro y hy; simp [outsOf] at hy
    | cons e l ih =>
      intro y hy
      rw [outsOf] at hy
      split at hy
      · exact ih y hy
      · rcases List.mem_cons.1 hy with h | h
        · rw [h]
        · exact ih y h
  exact key _ y hy
theorem nextS_adds (c : Cd) (p n : Int) (s : St) (e : Ev) : (∃ a, (nextS c p n s e).sent = s.sent ++ a ∧ ∀ y ∈ a, y.idx = s.events.length + 1) ∧ (∃ b, (nextS c p n s e).outs = s.outs ++ b ∧ ∀ y ∈ b, y.idx = s.events.length + 1) := by
  unfold nextS
  split
  · exact ⟨runS_sent _ _ _ _ _, runS_outs _ _ _ _ _⟩
  · split
    · exact ⟨runS_sent _ _ _ _ _, runS_outs _ _ _ _ _⟩
    · split
      · exact ⟨runS_sent _ _ _ _ _, runS_outs _ _ _ _ _⟩
      · exact ⟨⟨[], by simp, by simp⟩, [], by simp, by simp⟩
theorem replayS_idx (c : Cd) (p n : Int) (l : List Ev) : (∀ y ∈ (replayS c p n l).sent, 0 ≤ y.idx ∧ y.idx ≤ l.length) ∧ (∀ y ∈ (replayS c p n l).outs, 0 ≤ y.idx ∧ y.idx ≤ l.length) := by
  obtain ⟨k, hk⟩ : ∃ k, k = l.length := ⟨_, rfl⟩
  induction k generalizing l with
  | zero =>
    obtain rfl : l = [] := List.eq_nil_of_length_eq_zero hk.symm
    obtain ⟨a, ha, h1⟩ := runS_sent ⟨p, n, p, 0⟩ c.start c.init 0 ⟨[], [], [], []⟩
    obtain ⟨b, hb, h2⟩ := runS_outs ⟨p, n, p, 0⟩ c.start c.init 0 ⟨[], [], [], []⟩
    have e : replayS c p n [] = runS ⟨p, n, p, 0⟩ c.start c.init 0 ⟨[], [], [], []⟩ := rfl
    rw [e, ha, hb]
    simp only [List.nil_append, List.length_nil]
    exact ⟨fun y hy => by have := h1 y hy; omega, fun y hy => by have := h2 y hy; omega⟩
  | succ k ih =>
    have hne : l ≠ [] := by intro e; rw [e] at hk; simp at hk
    obtain ⟨l0, x, rfl⟩ : ∃ l0 x, l = l0 ++ [x] := ⟨_, _, (List.dropLast_concat_getLast hne).symm⟩
    have h0 := ih l0 (by simp at hk; omega)
    obtain ⟨⟨a, ha, h1⟩, b, hb, h2⟩ := nextS_adds c p n (replayS c p n l0) x
    rw [replayS_events] at h1 h2
    rw [replayS_snoc, ha, hb]
    simp only [List.length_append, List.length_cons, List.length_nil]
    refine ⟨fun y hy => ?_, fun y hy => ?_⟩
    · rcases List.mem_append.1 hy with h | h
      · have := h0.1 y h; omega
      · have := h1 y h; omega
    · rcases List.mem_append.1 hy with h | h
      · have := h0.2 y h; omega
      · have := h2 y h; omega
theorem InvI.idx {cs : List Cd} {m : Mi} (h : InvI cs m) {p : Nat} (hp : p < cs.length) : (∀ y ∈ (m.ss.getD p zeroSt).sent, 0 ≤ y.idx ∧ y.idx ≤ (m.ss.getD p zeroSt).events.length) ∧ (∀ y ∈ (m.ss.getD p zeroSt).outs, 0 ≤ y.idx ∧ y.idx ≤ (m.ss.getD p zeroSt).events.length) := by
  have h1 := replayS_idx (cs.getD p zeroCd) p cs.length (m.ss.getD p zeroSt).events
  rw [← h.st p hp] at h1
  exact h1

/-! ### neighbours that can be exchanged -/
theorem execI_get {cs : List Cd} {m : Mi} {p : Nat} {e : Ev} (hp : p < m.ss.length) : (execI cs m p e).ss.getD p zeroSt = nextS (cs.getD p zeroCd) p m.ss.length (m.ss.getD p zeroSt) e := by
  simp only [execI]
  rw [getD_set_same hp]
theorem execI_other {cs : List Cd} {m : Mi} {p q : Nat} {e : Ev} (hpq : p ≠ q) : (execI cs m p e).ss.getD q zeroSt = m.ss.getD q zeroSt := by
  simp only [execI]
  rw [getD_set_diff hpq]
theorem execI_len {cs : List Cd} {m : Mi} {p : Nat} {e : Ev} : (execI cs m p e).ss.length = m.ss.length := by simp [execI]
/-- The event of a choice in other states, which are the same for those who take part. -/
theorem eventI_same {ss tt : List St} {x : Chc} (hl : ss.length = tt.length) (he : (stAt ss x.proc).events = (stAt tt x.proc).events) (hf : x.kind = 1 → findI (stAt ss x.frm).sent x = findI (stAt tt x.frm).sent x) : eventI ss x = eventI tt x := by
  unfold eventI
  rw [hl, he]
  by_cases hk : x.kind = 1
  · rw [hf hk]
  · simp only [hk, ne_eq, not_false_eq_true, if_true]
theorem findI_app {l a : List Snd} {x : Chc} (h : ∀ y ∈ a, y.idx ≠ x.idx) : findI (l ++ a) x = findI l x := by
  unfold findI
  rw [List.find?_append]
  have : a.find? (hitM x) = none := by
    rw [List.find?_eq_none]
    intro y hy hh
    simp only [hitM, Bool.and_eq_true, beq_iff_eq] at hh
    exact h y hy hh.1.1
  rw [this]
  simp
theorem findI_app_some {l a : List Snd} {x : Chc} {s : Snd} (h : findI l x = some s) : findI (l ++ a) x = some s := by
  unfold findI at h ⊢
  rw [List.find?_append, h]
  rfl
theorem eventI_find {ss : List St} {x : Chc} (h : (eventI ss x).2 = 0) (h1 : x.kind = 1) : ∃ s, findI (stAt ss x.frm).sent x = some s ∧ recvS (stAt ss x.proc).events x.frm 0 x.idx x.ord = 0 ∧ (eventI ss x).1 = ⟨1, 0, x.frm, 0, x.idx, x.ord, s.val⟩ := by
  have hk := eventI_ok h
  unfold eventI at h ⊢
  rw [if_neg (by rw [hk.1]; simp), if_neg (by omega), if_neg (by omega)] at h ⊢
  cases hf : findI (stAt ss x.frm).sent x with
  | none => rw [hf] at h; simp at h
  | some s =>
    rw [hf] at h
    simp only at h ⊢
    by_cases hr : recvS (stAt ss x.proc).events x.frm 0 x.idx x.ord ≠ 0
    · rw [if_pos hr] at h; simp at h
    · refine ⟨s, rfl, by simpa using hr, ?_⟩
      rw [if_neg hr]
theorem playI_ss {cs : List Cd} {t : Mi} : ∀ (l : List Chc) (m m' : Mi), m.ss = m'.ss → playI cs m l = .ok t → ∃ u, playI cs m' l = .ok u ∧ u.ss = t.ss
  | [], m, m', e, h => by injection h with h; exact ⟨m', rfl, by rw [← h, e]⟩
  | x :: l, m, m', e, h => by
    have h := playI_cons_ok h
    rw [e] at h
    obtain ⟨u, hu, hs⟩ := playI_ss l _ (execI cs m' x.proc.toNat (eventI m'.ss x).1) (by simp only [execI, e]) h.2
    exact ⟨u, by rw [playI, if_pos h.1]; exact hu, hs⟩
theorem toNat_ne {a b : Int} (ha : 0 ≤ a) (hb : 0 ≤ b) (h : a ≠ b) : a.toNat ≠ b.toNat := by omega
theorem exchange {cs : List Cd} {m t : Mi} {a b : Chc} {rest : List Chc} (hi : InvI cs m) (hp : a.proc ≠ b.proc) (hab : ¬ (b.kind = 1 ∧ b.frm = a.proc ∧ ((m.ss.getD a.proc.toNat zeroSt).events.length : Int) < b.idx)) (h : playI cs m (a :: b :: rest) = .ok t) :
    ∃ u, playI cs m (b :: a :: rest) = .ok u ∧ u.ss = t.ss := by
  obtain ⟨ha, h⟩ := playI_cons_ok h
  obtain ⟨hb, h⟩ := playI_cons_ok h
  have ka := eventI_ok ha
  have kb := eventI_ok hb
  rw [execI_len] at kb
  have pa := okI_proc ka.1
  have pb := okI_proc kb.1
  have hne : a.proc.toNat ≠ b.proc.toNat := toNat_ne pa.1 pb.1 hp
  have hl := hi.len
  have grow := nextS_adds (cs.getD a.proc.toNat zeroCd) a.proc.toNat m.ss.length (m.ss.getD a.proc.toNat zeroSt) (eventI m.ss a).1
  -- the second one's event is the same without the first
  have eb : eventI (execI cs m a.proc.toNat (eventI m.ss a).1).ss b = eventI m.ss b := by
    refine eventI_same execI_len (by simp only [stAt]; rw [execI_other hne]) (fun h1 => ?_)
    have fb := okI_frm kb.1 h1
    by_cases hf : b.frm = a.proc
    · obtain ⟨⟨ad, had, hidx⟩, -⟩ := grow
      have hle : b.idx ≤ (m.ss.getD a.proc.toNat zeroSt).events.length := by
        rcases Classical.em ((m.ss.getD a.proc.toNat zeroSt).events.length < b.idx) with hh | hh
        · exact absurd ⟨h1, hf, hh⟩ hab
        · omega
      simp only [stAt, hf]
      rw [execI_get (by omega), had]
      exact findI_app (fun y hy e => by have := hidx y hy; omega)
    · have : a.proc.toNat ≠ b.frm.toNat := toNat_ne pa.1 fb.1 (fun e => hf e.symm)
      simp only [stAt]
      rw [execI_other this]
  rw [eb] at hb h
  have ea : eventI (execI cs m b.proc.toNat (eventI m.ss b).1).ss a = eventI m.ss a := by
    refine eventI_same execI_len (by simp only [stAt]; rw [execI_other (Ne.symm hne)]) (fun h1 => ?_)
    have fa := okI_frm ka.1 h1
    obtain ⟨s, hs, -, -⟩ := eventI_find ha h1
    by_cases hf : a.frm = b.proc
    · obtain ⟨⟨ad, had, -⟩, -⟩ := nextS_adds (cs.getD b.proc.toNat zeroCd) b.proc.toNat m.ss.length (m.ss.getD b.proc.toNat zeroSt) (eventI m.ss b).1
      rw [hs]
      simp only [stAt, hf] at hs ⊢
      rw [execI_get (by omega), had]
      exact findI_app_some hs
    · have : b.proc.toNat ≠ a.frm.toNat := toNat_ne pb.1 fa.1 (fun e => hf e.symm)
      simp only [stAt]
      rw [execI_other this]
  have hss : (execI cs (execI cs m a.proc.toNat (eventI m.ss a).1) b.proc.toNat (eventI m.ss b).1).ss = (execI cs (execI cs m b.proc.toNat (eventI m.ss b).1) a.proc.toNat (eventI m.ss a).1).ss := by
    have e1 := execI_other (cs := cs) (m := m) (e := (eventI m.ss a).1) hne
    have e2 := execI_other (cs := cs) (m := m) (e := (eventI m.ss b).1) (Ne.symm hne)
    have e3 : (execI cs m a.proc.toNat (eventI m.ss a).1).ss.length = m.ss.length := execI_len
    have e4 : (execI cs m b.proc.toNat (eventI m.ss b).1).ss.length = m.ss.length := execI_len
    simp only [execI] at e1 e2 e3 e4 ⊢
    rw [e1, e2, e3, e4]
    exact List.set_comm _ _ hne
  obtain ⟨u, hu, hs⟩ := playI_ss rest _ _ hss h
  refine ⟨u, ?_, hs⟩
  rw [playI, if_pos hb, playI, ea, if_pos ha]
  exact hu
theorem exchange_run {cs : List Cd} {l : List Chc} {m t : Mi} {k : Nat} {a b : Chc} (hk : k + 1 < l.length) (ha : l[k]? = some a) (hb : l[k + 1]? = some b) (hm : runI cs (l.take k) = .ok m) (ht : runI cs l = .ok t) (hp : a.proc ≠ b.proc)
    (hab : ¬ (b.kind = 1 ∧ b.frm = a.proc ∧ ((m.ss.getD a.proc.toNat zeroSt).events.length : Int) < b.idx)) : ∃ u, runI cs ((l.set k b).set (k + 1) a) = .ok u ∧ u.ss = t.ss := by
  obtain ⟨h1, h5, hl, hp1⟩ := runI_ok ht
  obtain ⟨-, -, -, hp2⟩ := runI_ok hm
  have hinv := runI_inv hm
  obtain ⟨m1, hm1, hm2⟩ := playI_take k hp1
  rw [hp2] at hm1
  injection hm1 with hm1
  subst hm1
  have e1 : l.drop k = a :: b :: l.drop (k + 2) := by rw [drop_cons ha, drop_cons hb]
  rw [e1] at hm2
  obtain ⟨u, hu, hs⟩ := exchange hinv hp hab hm2
  refine ⟨u, ?_, hs⟩
  have e2 : (l.set k b).set (k + 1) a = l.take k ++ (b :: a :: l.drop (k + 2)) := by
    apply List.ext_getElem?
    intro i
    rw [List.getElem?_set, List.getElem?_set]
    have hlt : (l.take k).length = k := by rw [List.length_take]; omega
    by_cases hik : i < k
    · rw [if_neg (by omega), if_neg (by omega), List.getElem?_append_left (by omega), List.getElem?_take, if_pos hik]
    · rw [List.getElem?_append_right (by omega), hlt]
      by_cases h0 : i = k
      · subst h0
        rw [if_neg (by omega), if_pos rfl, if_pos (by omega), Nat.sub_self]
        rfl
      · by_cases h00 : i = k + 1
        · subst h00
          rw [if_pos rfl, if_pos (by simp; omega)]
          have : k + 1 - k = 1 := by omega
          rw [this]
          rfl
        · rw [if_neg (by omega), if_neg (by omega)]
          obtain ⟨j, hj⟩ : ∃ j, i = k + 2 + j := ⟨i - (k + 2), by omega⟩
          subst hj
          have : k + 2 + j - k = j + 2 := by omega
          rw [this, List.getElem?_cons_succ, List.getElem?_cons_succ, List.getElem?_drop]
  rw [runI_of h1 h5 (by simp; omega), e2, playI_app, hp2]
  exact hu

/-! ### messages -/
def UniqS (l : List Snd) : Prop := l.Pairwise (fun a b => ¬ (a.idx = b.idx ∧ a.ord = b.ord))
theorem UniqS.eq {l : List Snd} (h : UniqS l) {a b : Snd} (ha : a ∈ l) (hb : b ∈ l) (h1 : a.idx = b.idx) (h2 : a.ord = b.ord) : a = b := by
  unfold UniqS at h
  induction l with
  | nil => cases ha
  | cons x l ih =>
    rw [List.pairwise_cons] at h
    rcases List.mem_cons.1 ha with ha' | ha'
    · rcases List.mem_cons.1 hb with hb' | hb'
      · rw [ha', hb']
      · rw [ha'] at h1 h2; exact absurd ⟨h1, h2⟩ (h.1 b hb')
    · rcases List.mem_cons.1 hb with hb' | hb'
      · rw [hb'] at h1 h2; exact absurd ⟨h1.symm, h2.symm⟩ (h.1 a ha')
      · exact ih h.2 ha' hb'
theorem sendsOf_uniq (k : Int) : ∀ (l : List Eff) (o : Int), (∀ y ∈ sendsOf k o l, y.idx = k ∧ o ≤ y.ord) ∧ UniqS (sendsOf k o l)
  | [], o => ⟨by simp [sendsOf], by simp [sendsOf, UniqS]⟩
  | e :: l, o => by
    rw [sendsOf]
    split
    · have ih := sendsOf_uniq k l (o + 1)
      refine ⟨fun y hy => ?_, ?_⟩
      · rcases List.mem_cons.1 hy with h | h
        · rw [h]; exact ⟨rfl, Int.le_refl _⟩
        · have := ih.1 y h; exact ⟨this.1, by omega⟩
      · unfold UniqS
        rw [List.pairwise_cons]
        exact ⟨fun y hy hh => by have := (ih.1 y hy).2; have := hh.2; simp only at this; omega, ih.2⟩
    · exact sendsOf_uniq k l o
theorem UniqS.app {l a : List Snd} {k : Int} (h : UniqS l) (ha : UniqS a) (hl : ∀ y ∈ l, y.idx < k) (hk : ∀ y ∈ a, y.idx = k) : UniqS (l ++ a) := by
  unfold UniqS at *
  rw [List.pairwise_append]
  exact ⟨h, ha, fun x hx y hy hh => by have := hl x hx; have := hk y hy; omega⟩
theorem nextS_uniq {c : Cd} {p n : Int} {s : St} {e : Ev} (h : UniqS s.sent) (hl : ∀ y ∈ s.sent, y.idx ≤ s.events.length) : UniqS (nextS c p n s e).sent := by
  have key : ∀ (v : EnvS) (body : List Stm) (t : St), t.sent = s.sent → UniqS (runS v body s.cells (s.events.length + 1) t).sent := fun v body t ht => by
    show UniqS (t.sent ++ _)
    rw [ht]
    exact h.app (sendsOf_uniq _ _ _).2 (k := (s.events.length : Int) + 1) (fun y hy => by have := hl y hy; omega) (fun y hy => ((sendsOf_uniq _ _ _).1 y hy).1)
  unfold nextS
  split
  · exact key _ _ _ rfl
  · split
    · exact key _ _ _ rfl
    · split
      · exact key _ _ _ rfl
      · exact h
theorem replayS_uniq (c : Cd) (p n : Int) (l : List Ev) : UniqS (replayS c p n l).sent := by
  obtain ⟨k, hk⟩ : ∃ k, k = l.length := ⟨_, rfl⟩
  induction k generalizing l with
  | zero =>
    obtain rfl : l = [] := List.eq_nil_of_length_eq_zero hk.symm
    show UniqS ([] ++ sendsOf 0 0 _)
    rw [List.nil_append]
    exact (sendsOf_uniq _ _ _).2
  | succ k ih =>
    have hne : l ≠ [] := by intro e; rw [e] at hk; simp at hk
    obtain ⟨l0, x, rfl⟩ : ∃ l0 x, l = l0 ++ [x] := ⟨_, _, (List.dropLast_concat_getLast hne).symm⟩
    rw [replayS_snoc]
    exact nextS_uniq (ih l0 (by simp at hk; omega)) (fun y hy => by rw [replayS_events]; exact ((replayS_idx c p n l0).1 y hy).2)
theorem recvAt_pos {p : Ev → Bool} : ∀ (l : List Ev) (k : Nat), 0 ≤ recvAt p k l ∧ ((∃ e ∈ l, p e = true) → recvAt p k l ≠ 0)
  | [], k => ⟨by simp [recvAt], by rintro ⟨e, he, _⟩; cases he⟩
  | x :: l, k => by
    have ih := recvAt_pos (p := p) l (k + 1)
    rw [recvAt]
    split
    · exact ⟨by omega, fun _ => by omega⟩
    · rename_i hx
      refine ⟨ih.1, ?_⟩
      rintro ⟨e, he, hp⟩
      rcases List.mem_cons.1 he with h | h
      · subst h; exact absurd hp hx
      · exact ih.2 ⟨e, h, hp⟩
theorem recvAt_zero {p : Ev → Bool} : ∀ (l : List Ev) (k : Nat), (∀ e ∈ l, p e = false) → recvAt p k l = 0
  | [], k, _ => rfl
  | x :: l, k, h => by
    rw [recvAt, if_neg (by rw [h x (by simp)]; simp)]
    exact recvAt_zero l (k + 1) (fun e he => h e (by simp [he]))
/-- What has happened stays; a choice's event stands in its process. -/
theorem playI_grow {cs : List Cd} {t : Mi} : ∀ (l : List Chc) (m : Mi), InvI cs m → playI cs m l = .ok t → ∀ q, ∃ a b, (t.ss.getD q zeroSt).events = (m.ss.getD q zeroSt).events ++ a ∧ (t.ss.getD q zeroSt).sent = (m.ss.getD q zeroSt).sent ++ b ∧ a.length ≤ l.length
  | [], m, hi, h, q => by injection h with h; subst h; exact ⟨[], [], by simp, by simp, by simp⟩
  | x :: l, m, hi, h, q => by
    obtain ⟨h0, h⟩ := playI_cons_ok h
    obtain ⟨a, b, ha, hb, hab⟩ := playI_grow l _ (step_inv hi h0) h q
    have hp := okI_proc (eventI_ok h0).1
    by_cases hq : x.proc.toNat = q
    · subst hq
      rw [execI_get hp.2] at ha hb
      obtain ⟨⟨c, hc, -⟩, -⟩ := nextS_adds (cs.getD x.proc.toNat zeroCd) x.proc.toNat m.ss.length (m.ss.getD x.proc.toNat zeroSt) (eventI m.ss x).1
      rw [nextS_events] at ha
      rw [hc] at hb
      exact ⟨_, _, by rw [ha, List.append_assoc], by rw [hb, List.append_assoc], by simp; omega⟩
    · rw [execI_other hq] at ha hb
      exact ⟨a, b, ha, hb, by simp; omega⟩
theorem playI_done {cs : List Cd} {t : Mi} {y : Chc} : ∀ (l : List Chc) (m : Mi), InvI cs m → playI cs m l = .ok t → y ∈ l → y.kind = 1 →
    okI cs.length y = true ∧ ∃ s v, findI (stAt t.ss y.frm).sent y = some s ∧ (⟨1, 0, y.frm, 0, y.idx, y.ord, v⟩ : Ev) ∈ (stAt t.ss y.proc).events
  | x :: l, m, hi, h, hy, h1 => by
    obtain ⟨h0, h⟩ := playI_cons_ok h
    rcases List.mem_cons.1 hy with e | hy
    · subst e
      have hk := eventI_ok h0
      have hp := okI_proc hk.1
      have hl := hi.len
      obtain ⟨s, hs, -, hev⟩ := eventI_find h0 h1
      refine ⟨hl ▸ hk.1, s, s.val, ?_, ?_⟩
      · obtain ⟨a, b, -, hb, -⟩ := playI_grow l _ (step_inv hi h0) h y.frm.toNat
        have hf := okI_frm hk.1 h1
        have : y.proc.toNat ≠ y.frm.toNat := toNat_ne hp.1 hf.1 (fun e => hf.2.2 e.symm)
        rw [execI_other this] at hb
        simp only [stAt] at hs ⊢
        rw [hb]
        exact findI_app_some hs
      · obtain ⟨a, b, ha, -, -⟩ := playI_grow l _ (step_inv hi h0) h y.proc.toNat
        rw [execI_get hp.2, nextS_events, hev] at ha
        simp only [stAt]
        rw [ha]
        simp
    · exact playI_done l _ (step_inv hi h0) h hy h1
/-- A message that was received: again, to another one, and one that was never sent. -/
theorem delivers {cs : List Cd} {l : List Chc} {t : Mi} {y : Chc} (ht : runI cs l = .ok t) (hl : l.length ≤ 60) (hy : y ∈ l) (h1 : y.kind = 1) :
    okI cs.length y = true ∧ runI cs (l ++ [y]) = .error 15 ∧ (∀ q : Int, q ≠ y.proc → ∀ u, runI cs (l ++ [{ y with proc := q }]) ≠ .ok u) ∧ runI cs (l ++ [{ y with idx := (stAt t.ss y.frm).events.length + 1 }]) = .error 11 := by
  obtain ⟨c1, c5, _, hp⟩ := runI_ok ht
  have hi := runI_inv ht
  have hlen := hi.len
  have hi0 := startI_inv cs
  obtain ⟨hok, s, v, hf, hev⟩ := playI_done l _ hi0 hp hy h1
  have few : ∀ q, q < cs.length → (t.ss.getD q zeroSt).events.length < 64 := fun q hq => by
    obtain ⟨a, b, ha, -, hab⟩ := playI_grow l _ hi0 hp q
    rw [ha, startI_get cs _ q hq, startS_eq, replayS_events]
    simp
    omega
  have hpr := okI_proc hok
  have hfr := okI_frm hok h1
  have run : ∀ x, runI cs (l ++ [x]) = if (eventI t.ss x).2 = 0 then .ok (execI cs t x.proc.toNat (eventI t.ss x).1) else .error (eventI t.ss x).2 := fun x => by
    rw [runI_of c1 c5 (by simp; omega)]
    exact playI_snoc hp x
  refine ⟨hok, ?_, ?_, ?_⟩
  · have e : (eventI t.ss y).2 = 15 := by
      unfold eventI
      rw [if_neg (by rw [hlen, hok]; simp), if_neg (by have := few _ hpr.2; simp only [stAt]; omega), if_neg (by omega), hf]
      have : recvS (stAt t.ss y.proc).events y.frm 0 y.idx y.ord ≠ 0 := (recvAt_pos _ 0).2 ⟨_, hev, by simp [recvP]⟩
      simp only
      rw [if_pos this]
    rw [run, e]
    rfl
  · intro q hq u
    rw [run]
    by_cases h0 : (eventI t.ss { y with proc := q }).2 = 0
    · obtain ⟨s', hs', -, -⟩ := eventI_find h0 h1
      simp only at hs'
      have hu : UniqS (stAt t.ss y.frm).sent := by
        have := replayS_uniq (cs.getD y.frm.toNat zeroCd) y.frm.toNat cs.length (t.ss.getD y.frm.toNat zeroSt).events
        rw [← hi.st _ hfr.2.1] at this
        exact this
      unfold findI at hf hs'
      have m1 := List.mem_of_find?_eq_some hf
      have m2 := List.mem_of_find?_eq_some hs'
      have g1 := List.find?_some hf
      have g2 := List.find?_some hs'
      simp only [hitM, Bool.and_eq_true, beq_iff_eq] at g1 g2
      have := hu.eq m1 m2 (by rw [g1.1.1, g2.1.1]) (by rw [g1.1.2, g2.1.2])
      rw [this, g2.2] at g1
      exact absurd g1.2 hq
    · rw [if_neg h0]
      exact fun h => by cases h
  · have e : (eventI t.ss { y with idx := (stAt t.ss y.frm).events.length + 1 }).2 = 11 := by
      have hok' : okI t.ss.length { y with idx := (stAt t.ss y.frm).events.length + 1 } = true := by rw [hlen]; exact hok
      unfold eventI
      rw [if_neg (by rw [hok']; simp), if_neg (by have := few _ hpr.2; simp only [stAt]; omega), if_neg (by simp only; omega)]
      have : findI (stAt t.ss y.frm).sent { y with idx := (stAt t.ss y.frm).events.length + 1 } = none := by
        unfold findI
        rw [List.find?_eq_none]
        intro z hz hh
        simp only [hitM, Bool.and_eq_true, beq_iff_eq] at hh
        have := ((hi.idx hfr.2.1).1 z hz).2
        simp only [stAt] at hh
        omega
      simp only
      rw [this]
    rw [run, e]
    rfl

/-! ### outputs -/
def worldOf (p : Nat) (w : List Sh) : List Sh := w.filter (fun x => x.proc == p)
def zeroOut : Outp := ⟨0, 0⟩
def OutOk (p : Nat) (outs : List Outp) (ws : List Sh) : Prop :=
  ws.length = outs.length ∧ ∀ i, i < outs.length → ∃ o : Int, ws[i]? = some ⟨p, (outs.getD i zeroOut).idx, o, (outs.getD i zeroOut).val⟩ ∧ (i = 0 → o = 0) ∧ (0 < i → ((outs.getD (i - 1) zeroOut).idx = (outs.getD i zeroOut).idx ↔ 0 < o))
theorem showS_get (p : Int) : ∀ (l : List Outp) (k : Int) (i : Nat), i < l.length → (showS p k l)[i]? = some ⟨p, (l.getD i zeroOut).idx, k + i, (l.getD i zeroOut).val⟩
  | o :: l, k, 0, _ => by simp [showS]
  | o :: l, k, i + 1, h => by
    rw [showS, List.getElem?_cons_succ, showS_get p l (k + 1) i (by simpa using h)]
    have : k + 1 + (i : Int) = k + ((i + 1 : Nat) : Int) := by omega
    rw [this]
    rfl
theorem getD_left {α : Type} {l a : List α} {i : Nat} {d : α} (h : i < l.length) : (l ++ a).getD i d = l.getD i d := by simp only [List.getD, List.getElem?_append_left h]
theorem getD_right {α : Type} {l a : List α} {i : Nat} {d : α} (h : l.length ≤ i) : (l ++ a).getD i d = a.getD (i - l.length) d := by simp only [List.getD, List.getElem?_append_right h]
theorem getD_mem {α : Type} {l : List α} {i : Nat} {d : α} (h : i < l.length) : l.getD i d ∈ l := by simp [List.getD, h]
theorem OutOk.app {p : Nat} {outs a : List Outp} {ws : List Sh} {k : Int} (h : OutOk p outs ws) (hl : ∀ y ∈ outs, y.idx < k) (hk : ∀ y ∈ a, y.idx = k) : OutOk p (outs ++ a) (ws ++ showS p 0 a) := by
  refine ⟨by simp [h.1, showS_len], fun i hi => ?_⟩
  by_cases h1 : i < outs.length
  · obtain ⟨o, h2, h3, h4⟩ := h.2 i h1
    rw [getD_left h1, List.getElem?_append_left (by rw [h.1]; exact h1)]
    refine ⟨o, h2, h3, fun h5 => ?_⟩
    rw [getD_left (by omega)]
    exact h4 h5
  · have hia : i - outs.length < a.length := by simp at hi; omega
    rw [getD_right (by omega), List.getElem?_append_right (by rw [h.1]; omega), h.1, showS_get p a 0 _ hia]
    refine ⟨_, rfl, fun h0 => by omega, fun h0 => ?_⟩
    have e1 := hk _ (getD_mem (d := zeroOut) hia)
    by_cases h2 : i - 1 < outs.length
    · rw [getD_left h2, e1]
      have := hl _ (getD_mem (d := zeroOut) h2)
      omega
    · rw [getD_right (by omega), e1, hk _ (getD_mem (d := zeroOut) (by omega))]
      omega
theorem worldOf_app (p : Nat) (a b : List Sh) : worldOf p (a ++ b) = worldOf p a ++ worldOf p b := List.filter_append _ _
theorem worldOf_show (p q : Nat) : ∀ (l : List Outp) (k : Int), worldOf q (showS p k l) = if p = q then showS p k l else []
  | [], k => by simp [worldOf, showS]
  | o :: l, k => by
    have ih := worldOf_show p q l (k + 1)
    unfold worldOf at ih ⊢
    rw [showS]
    by_cases h : p = q
    · subst h
      rw [if_pos rfl] at ih ⊢
      rw [List.filter_cons_of_pos (by simp), ih]
    · rw [if_neg h] at ih ⊢
      rw [List.filter_cons_of_neg (by simp; omega), ih]
theorem worldOf_at {p : Nat} {w : List Sh} {j : Nat} {x : Sh} (h : w[j]? = some x) (hx : x.proc = p) : (worldOf p w)[(worldOf p (w.take j)).length]? = some x := by
  obtain ⟨hj, e⟩ := List.getElem?_eq_some_iff.1 h
  have : w = w.take j ++ x :: w.drop (j + 1) := by rw [← drop_cons h, List.take_append_drop]
  have e2 : worldOf p w = worldOf p (w.take j) ++ x :: worldOf p (w.drop (j + 1)) := by
    conv => lhs; rw [this]
    rw [worldOf_app]
    congr 1
    unfold worldOf
    rw [List.filter_cons_of_pos (by simpa using hx)]
  rw [e2, List.getElem?_append_right (Nat.le_refl _), Nat.sub_self]
  rfl
theorem worldOf_take {p : Nat} {w : List Sh} {j : Nat} {x : Sh} (h : w[j]? = some x) : (worldOf p (w.take (j + 1))).length = (worldOf p (w.take j)).length + (if x.proc = p then 1 else 0) := by
  obtain ⟨hj, e⟩ := List.getElem?_eq_some_iff.1 h
  rw [List.take_succ_eq_append_getElem hj, worldOf_app, List.length_append, e]
  congr 1
  unfold worldOf
  by_cases hp : x.proc = p
  · rw [List.filter_cons_of_pos (by simpa using hp), if_pos hp]; rfl
  · rw [List.filter_cons_of_neg (by simpa using hp), if_neg hp]; rfl
def outSum (ss : List St) : Nat := (ss.map (fun s => s.outs.length)).sum
theorem outSum_app (a b : List St) : outSum (a ++ b) = outSum a + outSum b := by simp [outSum]
theorem outSum_take {ss : List St} {p : Nat} (h : p < ss.length) : outSum (ss.take (p + 1)) = outSum (ss.take p) + (ss.getD p zeroSt).outs.length := by
  rw [List.take_succ_eq_append_getElem h, outSum_app]
  simp [outSum, List.getD, h]
theorem outSum_set : ∀ (ss : List St) (p : Nat) (s : St), p < ss.length → outSum (ss.set p s) + (ss.getD p zeroSt).outs.length = outSum ss + s.outs.length
  | x :: ss, 0, s, _ => by simp [outSum]; omega
  | x :: ss, p + 1, s, h => by
    have := outSum_set ss p s (by simpa using h)
    simp only [outSum, List.set_cons_succ, List.map_cons, List.sum_cons, List.getD_cons_succ] at this ⊢
    omega
structure OutInv (m : Mi) : Prop where
  of : ∀ p, p < m.ss.length → OutOk p (m.ss.getD p zeroSt).outs (worldOf p m.world)
  no : ∀ p, m.ss.length ≤ p → worldOf p m.world = []
  sum : m.world.length = outSum m.ss
theorem startI_out (cs : List Cd) : ∀ k, OutInv (startI cs k)
  | 0 => ⟨fun p hp => by simp [startI] at hp, fun p _ => by simp [startI, worldOf], by simp [startI, outSum]⟩
  | k + 1 => by
    have ih := startI_out cs k
    have hl := startI_len cs k
    have hidx := (replayS_idx (cs.getD k zeroCd) k cs.length []).2
    rw [← startS_eq] at hidx
    refine ⟨fun p hp => ?_, fun p hp => ?_, ?_⟩
    · simp only [startI, List.length_append, hl, List.length_cons, List.length_nil] at hp
      simp only [startI]
      rw [worldOf_app, worldOf_show]
      by_cases hpk : p < k
      · rw [if_neg (by omega), List.append_nil, getD_left (by omega)]
        exact ih.of p (by omega)
      · obtain rfl : p = k := by omega
        rw [if_pos rfl, ih.no p (by omega), getD_right (by omega), hl, Nat.sub_self]
        have : OutOk p ([] ++ (startS (cs.getD p zeroCd) p cs.length).outs) ([] ++ showS p 0 (startS (cs.getD p zeroCd) p cs.length).outs) :=
          OutOk.app (k := 0) ⟨rfl, fun i hi => by simp at hi⟩ (by simp) (fun y hy => by have := hidx y hy; simp at this; omega)
        simpa using this
    · simp only [startI, List.length_append, hl, List.length_cons, List.length_nil] at hp
      simp only [startI]
      rw [worldOf_app, worldOf_show, if_neg (by omega), ih.no p (by omega)]
      rfl
    · simp only [startI, List.length_append, showS_len]
      rw [outSum_app, ih.sum]
      simp [outSum]
theorem execI_out {cs : List Cd} {m : Mi} {p : Nat} {e : Ev} (hi : InvI cs m) (hp : p < cs.length) (h : OutInv m) : OutInv (execI cs m p e) := by
  have hl := hi.len
  obtain ⟨-, b, hb, hidx⟩ := nextS_adds (cs.getD p zeroCd) p m.ss.length (m.ss.getD p zeroSt) e
  have hd : (nextS (cs.getD p zeroCd) p m.ss.length (m.ss.getD p zeroSt) e).outs.drop (m.ss.getD p zeroSt).outs.length = b := by rw [hb]; simp
  have hworld : (execI cs m p e).world = m.world ++ showS p 0 b := by simp only [execI, hd]
  have hlen : (execI cs m p e).ss.length = m.ss.length := execI_len
  refine ⟨fun q hq => ?_, fun q hq => ?_, ?_⟩
  · rw [hlen] at hq
    rw [hworld, worldOf_app, worldOf_show]
    by_cases hpq : p = q
    · subst hpq
      rw [if_pos rfl, execI_get hq, hb]
      exact (h.of p hq).app (fun y hy => by have := ((hi.idx hp).2 y hy).2; omega) hidx
    · rw [if_neg hpq, List.append_nil, execI_other hpq]
      exact h.of q hq
  · rw [hlen] at hq
    rw [hworld, worldOf_app, worldOf_show, if_neg (by omega), h.no q hq]
    rfl
  · rw [hworld, List.length_append, showS_len, h.sum]
    have := outSum_set m.ss p (nextS (cs.getD p zeroCd) p m.ss.length (m.ss.getD p zeroSt) e) (by omega)
    rw [hb, List.length_append] at this
    show _ = outSum (m.ss.set p _)
    omega
theorem playI_out {cs : List Cd} {t : Mi} : ∀ (l : List Chc) (m : Mi), InvI cs m → OutInv m → playI cs m l = .ok t → OutInv t
  | [], m, hi, ho, h => by injection h with h; exact h ▸ ho
  | x :: l, m, hi, ho, h => by
    obtain ⟨h0, h⟩ := playI_cons_ok h
    have hp := okI_proc (eventI_ok h0).1
    exact playI_out l _ (step_inv hi h0) (execI_out hi (by have := hi.len; omega) ho) h
theorem runI_out {cs : List Cd} {l : List Chc} {t : Mi} (h : runI cs l = .ok t) : OutInv t := playI_out l _ (startI_inv cs) (startI_out cs _) (runI_ok h).2.2.2
theorem getD_lt {α : Type} {l : List α} {i : Nat} {d : α} (h : i < l.length) : l.getD i d = l[i] := by simp [List.getD, h]
end Go.Proofs.Ythmepnpjagpcnaa
