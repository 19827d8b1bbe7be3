/- The machine that never fails, in plain Lean. -/
import Derived.Test.YtcfpkmfppgodmaaGA
import Derived.Test.YtcfpkmfppgodmaaChc
set_option linter.unusedVariables false
set_option linter.unusedSimpArgs false
namespace Go.Proofs.Ytcfpkmfppgodmaa
open Go.RowKit Go.Proofs

structure Sh where
  proc : Int
  idx : Int
  ord : Int
  val : Int
def encSh (x : Sh) : List Value := [.int .i64 x.proc, .int .i64 x.idx, .int .i64 x.ord, .int .i64 x.val]
theorem encSh_len (x : Sh) : (encSh x).length = 4 := rfl
theorem encSh_one (d : Sh) : ∀ u ∈ encSh d, u.oneCell' = true := by
  intro u hu
  simp [encSh] at hu
  rcases hu with h | h | h | h <;> subst h <;> rfl
structure Mi where
  ss : List St
  world : List Sh
def zeroEv : Ev := ⟨0, 0, 0, 0, 0, 0, 0⟩
def zeroSt : St := ⟨[], [], [], []⟩
def zeroCd : Cd := ⟨[], [], [], [], []⟩
def hitM (x : Chc) (s : Snd) : Bool := s.idx == x.idx && s.ord == x.ord && s.to == x.proc
def findI (l : List Snd) (x : Chc) : Option Snd := l.find? (hitM x)
def procI (n : Nat) (p : Int) : Bool := decide (0 ≤ p) && decide (p < n)
/-- The choice names processes and a kind that there are. -/
def okI (n : Nat) (x : Chc) : Bool := procI n x.proc && (x.kind == 1 || x.kind == 2 || x.kind == 3) && (!(x.kind == 1) || procI n x.frm && !(x.frm == x.proc))
def stAt (ss : List St) (p : Int) : St := ss.getD p.toNat zeroSt
def eventI (ss : List St) (x : Chc) : Ev × Int :=
  if okI ss.length x = false then (zeroEv, 3)
  else if 64 ≤ (stAt ss x.proc).events.length then (zeroEv, 4)
  else if x.kind ≠ 1 then (⟨x.kind, 0, 0, 0, 0, 0, x.val⟩, 0)
  else match findI (stAt ss x.frm).sent x with
    | none => (zeroEv, 11)
    | some s => if recvS (stAt ss x.proc).events x.frm 0 x.idx x.ord ≠ 0 then (zeroEv, 15) else (⟨1, 0, x.frm, 0, x.idx, x.ord, s.val⟩, 0)
def showS (p : Int) : Int → List Outp → List Sh
  | _, [] => []
  | ord, o :: l => ⟨p, o.idx, ord, o.val⟩ :: showS p (ord + 1) l
theorem showS_snoc (p : Int) (o : Outp) : ∀ (l : List Outp) (k : Int), showS p k (l ++ [o]) = showS p k l ++ [⟨p, o.idx, k + l.length, o.val⟩]
  | [], k => by simp [showS]
  | x :: l, k => by
    rw [List.cons_append, showS, showS, showS_snoc p o l (k + 1), List.cons_append, List.length_cons]
    have : k + 1 + (l.length : Int) = k + ((l.length + 1 : Nat) : Int) := by omega
    rw [this]
theorem showS_len (p : Int) : ∀ (l : List Outp) (k : Int), (showS p k l).length = l.length
  | [], _ => rfl
  | x :: l, k => by rw [showS, List.length_cons, List.length_cons, showS_len p l]
noncomputable def execI (cs : List Cd) (m : Mi) (p : Nat) (e : Ev) : Mi :=
  ⟨m.ss.set p (nextS (cs.getD p zeroCd) p m.ss.length (m.ss.getD p zeroSt) e), m.world ++ showS p 0 ((nextS (cs.getD p zeroCd) p m.ss.length (m.ss.getD p zeroSt) e).outs.drop (m.ss.getD p zeroSt).outs.length)⟩
noncomputable def playI (cs : List Cd) : Mi → List Chc → Except Int Mi
  | m, [] => .ok m
  | m, x :: l => if (eventI m.ss x).2 = 0 then playI cs (execI cs m x.proc.toNat (eventI m.ss x).1) l else .error (eventI m.ss x).2
noncomputable def startI (cs : List Cd) : Nat → Mi
  | 0 => ⟨[], []⟩
  | k + 1 => ⟨(startI cs k).ss ++ [startS (cs.getD k zeroCd) k cs.length], (startI cs k).world ++ showS k 0 (startS (cs.getD k zeroCd) k cs.length).outs⟩
noncomputable def runI (cs : List Cd) (l : List Chc) : Except Int Mi :=
  if cs.length < 1 ∨ 5 < cs.length then .error 3
  else if 320 < l.length then .error 4
  else playI cs (startI cs cs.length) l
theorem eventI_err (ss : List St) (x : Chc) : (eventI ss x).2 = 0 ∨ (eventI ss x).2 = 3 ∨ (eventI ss x).2 = 4 ∨ (eventI ss x).2 = 11 ∨ (eventI ss x).2 = 15 := by
  unfold eventI
  split
  · simp
  · split
    · simp
    · split
      · simp
      · split
        · simp
        · split <;> simp
theorem okI_proc {n : Nat} {x : Chc} (h : okI n x = true) : 0 ≤ x.proc ∧ x.proc.toNat < n := by
  simp only [okI, procI, Bool.and_eq_true, decide_eq_true_eq] at h
  omega
theorem okI_frm {n : Nat} {x : Chc} (h : okI n x = true) (h1 : x.kind = 1) : 0 ≤ x.frm ∧ x.frm.toNat < n ∧ x.frm ≠ x.proc := by
  simp only [okI, procI, h1, Bool.and_eq_true, decide_eq_true_eq, beq_self_eq_true, Bool.not_true, Bool.false_or, Bool.not_eq_true', beq_eq_false_iff_ne] at h
  obtain ⟨_, ⟨a, b⟩, c⟩ := h
  exact ⟨a, by omega, c⟩
theorem eventI_ok {ss : List St} {x : Chc} (h : (eventI ss x).2 = 0) : okI ss.length x = true ∧ (stAt ss x.proc).events.length < 64 := by
  unfold eventI at h
  split at h
  · simp at h
  · rename_i h1
    split at h
    · simp at h
    · rename_i h2
      exact ⟨by simpa using h1, by omega⟩
theorem playI_app (cs : List Cd) : ∀ (l l2 : List Chc) (m : Mi), playI cs m (l ++ l2) = (match playI cs m l with | .ok m' => playI cs m' l2 | .error k => .error k)
  | [], l2, m => rfl
  | x :: l, l2, m => by
    rw [List.cons_append, playI, playI]
    split
    · exact playI_app cs l l2 _
    · rfl
theorem playI_snoc {cs : List Cd} {m m' : Mi} {l : List Chc} (h : playI cs m l = .ok m') (x : Chc) : playI cs m (l ++ [x]) = if (eventI m'.ss x).2 = 0 then .ok (execI cs m' x.proc.toNat (eventI m'.ss x).1) else .error (eventI m'.ss x).2 := by
  rw [playI_app, h]
  show playI cs m' [x] = _
  rw [playI]
  rfl
theorem playI_cons_ok {cs : List Cd} {m m' : Mi} {x : Chc} {l : List Chc} (h : playI cs m (x :: l) = .ok m') : (eventI m.ss x).2 = 0 ∧ playI cs (execI cs m x.proc.toNat (eventI m.ss x).1) l = .ok m' := by
  rw [playI] at h
  split at h
  · rename_i h0; exact ⟨h0, h⟩
  · cases h
/-- The errors that there are. -/
theorem playI_err {cs : List Cd} {k : Int} : ∀ (l : List Chc) (m : Mi), playI cs m l = .error k → k = 3 ∨ k = 4 ∨ k = 11 ∨ k = 15
  | [], m, h => by cases h
  | x :: l, m, h => by
    rw [playI] at h
    split at h
    · exact playI_err l _ h
    · injection h with h
      have := eventI_err m.ss x
      omega
theorem runI_err {cs : List Cd} {k : Int} {l : List Chc} (h : runI cs l = .error k) : k = 3 ∨ k = 4 ∨ k = 11 ∨ k = 15 := by
  unfold runI at h
  split at h
  · injection h with h; omega
  · split at h
    · injection h with h; omega
    · exact playI_err _ _ h
/-! ### what holds of every machine that is reached -/
/-- Each state is the replay of its events; the number of outputs shown is bounded. -/
structure InvI (cs : List Cd) (m : Mi) : Prop where
  len : m.ss.length = cs.length
  st : ∀ p, p < cs.length → m.ss.getD p zeroSt = replayS (cs.getD p zeroCd) p cs.length (m.ss.getD p zeroSt).events
  few : ∀ p, p < cs.length → (m.ss.getD p zeroSt).events.length ≤ 64
theorem startI_len (cs : List Cd) : ∀ k, (startI cs k).ss.length = k
  | 0 => rfl
  | k + 1 => by rw [startI]; simp [startI_len cs k]
theorem startI_get (cs : List Cd) : ∀ k p, p < k → (startI cs k).ss.getD p zeroSt = startS (cs.getD p zeroCd) p cs.length
  | k + 1, p, h => by
    have hl := startI_len cs k
    rw [startI]
    by_cases hp : p < k
    · have := startI_get cs k p hp
      simp only [List.getD, List.getElem?_append_left (show p < (startI cs k).ss.length by omega)] at this ⊢
      exact this
    · obtain rfl : p = k := by omega
      simp only [List.getD, List.getElem?_append_right (show (startI cs p).ss.length ≤ p by omega), hl, Nat.sub_self]
      rfl
theorem startS_eq (c : Cd) (p n : Int) : startS c p n = replayS c p n [] := rfl
theorem startI_inv (cs : List Cd) : InvI cs (startI cs cs.length) :=
  ⟨startI_len cs _, fun p hp => by rw [startI_get cs _ p hp, startS_eq, replayS_events], fun p hp => by rw [startI_get cs _ p hp, startS_eq, replayS_events]; simp⟩
theorem getD_set_same {α : Type} {l : List α} {k : Nat} {v d : α} (h : k < l.length) : (l.set k v).getD k d = v := by simp [List.getD, h]
theorem getD_set_diff {α : Type} {l : List α} {k i : Nat} {v d : α} (h : k ≠ i) : (l.set k v).getD i d = l.getD i d := by simp [List.getD, List.getElem?_set, h]
theorem execI_inv {cs : List Cd} {m : Mi} (h : InvI cs m) {p : Nat} (hp : p < cs.length) (e : Ev) (h64 : (m.ss.getD p zeroSt).events.length < 64) : InvI cs (execI cs m p e) := by
  have hl := h.len
  refine ⟨by simp [execI, hl], fun q hq => ?_, fun q hq => ?_⟩
  · by_cases hpq : p = q
    · subst hpq
      simp only [execI]
      rw [getD_set_same (by omega), nextS_events, replayS_snoc, ← h.st p hp, hl]
    · simp only [execI]
      rw [getD_set_diff hpq]
      exact h.st q hq
  · by_cases hpq : p = q
    · subst hpq
      simp only [execI]
      rw [getD_set_same (by omega), nextS_events, List.length_append, List.length_cons, List.length_nil]
      omega
    · simp only [execI]
      rw [getD_set_diff hpq]
      exact h.few q hq
theorem step_inv {cs : List Cd} {m : Mi} (h : InvI cs m) {x : Chc} (hx : (eventI m.ss x).2 = 0) : InvI cs (execI cs m x.proc.toNat (eventI m.ss x).1) := by
  have h1 := eventI_ok hx
  have h2 := okI_proc h1.1
  exact execI_inv h (by have := h.len; omega) _ h1.2
theorem playI_inv {cs : List Cd} {m' : Mi} : ∀ (l : List Chc) (m : Mi), InvI cs m → playI cs m l = .ok m' → InvI cs m'
  | [], m, hi, h => by injection h with h; exact h ▸ hi
  | x :: l, m, hi, h => by
    have h := playI_cons_ok h
    exact playI_inv l _ (step_inv hi h.1) h.2
theorem InvI.lens {cs : List Cd} {m : Mi} (h : InvI cs m) {p : Nat} (hp : p < cs.length) : (m.ss.getD p zeroSt).cells.length = (cs.getD p zeroCd).init.length ∧ (m.ss.getD p zeroSt).sent.length ≤ 8 * ((m.ss.getD p zeroSt).events.length + 1) ∧ (m.ss.getD p zeroSt).outs.length ≤ 8 * ((m.ss.getD p zeroSt).events.length + 1) ∧ (m.ss.getD p zeroSt).events.length ≤ 64 := by
  have h1 := replayS_len (cs.getD p zeroCd) p cs.length (m.ss.getD p zeroSt).events
  rw [← h.st p hp] at h1
  exact ⟨h1.1, h1.2.1, h1.2.2.1, h.few p hp⟩
theorem execI_world {cs : List Cd} {m : Mi} (p : Nat) (e : Ev) : (execI cs m p e).world.length ≤ m.world.length + 8 := by
  have := (nextS_len (cs.getD p zeroCd) p m.ss.length (m.ss.getD p zeroSt) e).2.2
  simp only [execI, List.length_append, showS_len, List.length_drop]
  omega
theorem startI_world (cs : List Cd) : ∀ k, (startI cs k).world.length ≤ 8 * k
  | 0 => by simp [startI]
  | k + 1 => by
    have := startI_world cs k
    have h2 := (replayS_len (cs.getD k zeroCd) k cs.length []).2.2.1
    rw [startI, startS_eq]
    simp only [List.length_append, showS_len]
    rw [List.length_nil] at h2
    omega
end Go.Proofs.Ytcfpkmfppgodmaa
