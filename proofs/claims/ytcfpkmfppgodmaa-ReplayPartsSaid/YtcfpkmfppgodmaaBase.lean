/- Memory words that all proofs of this seat use: a block known whole, a frame over a set of blocks, a slice that reads as a list of rows. No program in sight. -/
import Derived.WalkKit
import Derived.WalkSpells
import Derived.WalkLawsBesides
import Derived.Outline
import Derived.Below
import Derived.Laws.OwnMore
import Derived.Maps.AppendAt
import Derived.Deep.AppendLies
import Derived.Deep.Draws
import Derived.Deep.QuietTactic
import Derived.BigQuiet
import Derived.RegionTactic
import Derived.OwnWalk
import Derived.StillTailTactics
import Derived.Deep.RegionHeld3
import Derived.Deep.LoopGhost
import Derived.Laws.Rows
import Derived.Deep.MidRow
import Derived.Lib.Hide
set_option linter.unusedVariables false
set_option linter.unusedSimpArgs false
namespace Go.Proofs.Ytcfpkmfppgodmaa
open Go.RowKit

/-! ### a block known whole -/
def Blk (w : World) (g : Nat) (t : TypeId) (cs : Array Value) : Prop := w.heap[g]? = some (.cells cs t (0, 0))
section
variable {w w' : World} {g : Nat} {t : TypeId} {cs : Array Value}
theorem Blk.lt (h : Blk w g t cs) : g < w.heap.size := by
  rcases Nat.lt_or_ge g w.heap.size with hlt | hge
  · exact hlt
  · unfold Blk at h; rw [Array.getElem?_eq_none hge] at h; cases h
theorem Blk.cell (h : Blk w g t cs) (i : Nat) : w.cell? ⟨g, i, none⟩ = cs[i]? := cell_of_row w g i cs t (0, 0) h
theorem Blk.frozen (h : Blk w g t cs) (i : Nat) : w.frozen? ⟨g, i, none⟩ = false := by
  unfold Blk at h
  simp [World.frozen?, h]
theorem Blk.new (w : World) (t : TypeId) (cs : Array Value) : Blk (w.alloc (.cells cs t)) w.heap.size t cs := heap_alloc_new w _
theorem Blk.drewN (h : Blk w g t cs) (n : Nat) : Blk (w.drewN n) g t cs := h
theorem Blk.alloc (h : Blk w g t cs) (o : Obj) : Blk (w.alloc o) g t cs := (Below.heap_alloc w o g h.lt).trans h
theorem Blk.set_ (h : Blk w g t cs) (i : Nat) (u : Value) : Blk (w.setCell ⟨g, i, none⟩ u) g t (cs.setIfInBounds i u) := by
  unfold Blk at h ⊢
  simp [World.setCell, Array.getElem?_modify, h]
theorem Blk.far (h : Blk w g t cs) {p : Addr} (hp : g ≠ p.block) (u : Value) : Blk (w.setCell p u) g t cs := (Below.heap_setCell w p u g hp).trans h
end

/-! ### the frame -/
/-- The blocks of S are in w' as they were in w; no block has gone; the streams are as they were. -/
structure Same (S : Nat → Prop) (w w' : World) : Prop where
  os : w'.os = w.os
  tape : w'.tape = w.tape
  output : w'.output = w.output
  size : w.heap.size ≤ w'.heap.size
  block : ∀ k, S k → w'.heap[k]? = w.heap[k]?
section
variable {S T : Nat → Prop} {a b c w w' : World}
theorem Same.refl (S : Nat → Prop) (w : World) : Same S w w := ⟨rfl, rfl, rfl, Nat.le_refl _, fun _ _ => rfl⟩
theorem Same.trans (h : Same S a b) (k : Same T b c) (hS : ∀ i, S i → T i) : Same S a c :=
  ⟨k.os.trans h.os, k.tape.trans h.tape, k.output.trans h.output, Nat.le_trans h.size k.size, fun i hi => (k.block i (hS i hi)).trans (h.block i hi)⟩
theorem Same.mono (h : Same S a b) (hS : ∀ i, T i → S i) : Same T a b := ⟨h.os, h.tape, h.output, h.size, fun i hi => h.block i (hS i hi)⟩
theorem Same.drew (h : Same S a b) : Same S a b.drew := ⟨h.os, h.tape, h.output, h.size, h.block⟩
theorem Same.drewN (h : Same S a b) (n : Nat) : Same S a (b.drewN n) := ⟨h.os, h.tape, h.output, h.size, h.block⟩
theorem Same.alloc (h : Same S a b) (hS : ∀ i, S i → i < b.heap.size) (o : Obj) : Same S a (b.alloc o) :=
  ⟨h.os, h.tape, h.output, Nat.le_trans h.size (by simp), fun i hi => (Below.heap_alloc b o i (hS i hi)).trans (h.block i hi)⟩
theorem Same.setCell (h : Same S a b) {p : Addr} (hp : ¬ S p.block) (u : Value) : Same S a (b.setCell p u) :=
  ⟨h.os, h.tape, h.output, by simpa [World.setCell] using h.size, fun i hi => (Below.heap_setCell b p u i (fun e => hp (e ▸ hi))).trans (h.block i hi)⟩
theorem Same.grown {row : Option Nat} (h : Same S a b) (hg : b.grownBy c row) (hS : ∀ i, S i → i < b.heap.size) (hr : ∀ k, row = some k → ¬ S k) : Same S a c :=
  ⟨hg.os.trans h.os, hg.tape.trans h.tape, hg.output.trans h.output, Nat.le_trans h.size hg.size, fun i hi => (hg.block i (hS i hi) (fun e => hr i e.symm hi)).trans (h.block i hi)⟩
theorem Same.cell (h : Same S w w') {p : Addr} (hp : S p.block) : w'.cell? p = w.cell? p := World.cell?_of_block (h.block p.block hp)
theorem Same.frozen (h : Same S w w') {p : Addr} (hp : S p.block) : w'.frozen? p = w.frozen? p := World.frozen?_of_block (h.block p.block hp)
theorem Same.blk {g : Nat} {t : TypeId} {cs : Array Value} (h : Same S w w') (hb : Blk w g t cs) (hg : S g) : Blk w' g t cs := (h.block g hg).trans hb
theorem Same.below {B : Nat} (h : Same (· < B) w w') : Below B w w' := ⟨h.os, h.tape, h.output, h.size, h.block⟩
theorem Same.of_below {B : Nat} (h : Below B w w') : Same (· < B) w w' := ⟨h.os, h.tape, h.output, h.size, h.block⟩
end
/-- What a call leaves that writes nothing that was there. -/
abbrev Keep (w w' : World) : Prop := Same (· < w.heap.size) w w'
/-- What a call leaves that writes block g alone of what was there. -/
abbrev Only (g : Nat) (w w' : World) : Prop := Same (fun i => i < w.heap.size ∧ i ≠ g) w w'
theorem Keep.trans {a b c : World} (h : Keep a b) (k : Keep b c) : Keep a c := Same.trans h k fun _ hi => Nat.lt_of_lt_of_le hi h.size
theorem Keep.only {a b : World} (h : Keep a b) (g : Nat) : Only g a b := h.mono fun _ hi => hi.1
theorem Only.trans {g : Nat} {a b c : World} (h : Only g a b) (k : Only g b c) : Only g a c := Same.trans h k fun _ hi => ⟨Nat.lt_of_lt_of_le hi.1 h.size, hi.2⟩
theorem Only.keep {g : Nat} {a b c : World} (h : Only g a b) (k : Keep b c) : Only g a c := Only.trans h (k.only g)
theorem Only.write {g k : Nat} {a b c : World} (h : Only g a b) (s : Same (· ≠ k) b c) (hk : a.heap.size ≤ k) : Only g a c := Same.trans h s fun i hi => by omega
theorem Keep.write {k : Nat} {a b c : World} (h : Keep a b) (s : Same (· ≠ k) b c) (hk : a.heap.size ≤ k) : Keep a c := Same.trans h s fun i hi => by omega
theorem Only.alloc {g : Nat} {a b : World} (h : Only g a b) (o : Obj) : Only g a (b.alloc o) := Same.alloc h (fun i hi => Nat.lt_of_lt_of_le hi.1 h.size) o
theorem Keep.alloc {a b : World} (h : Keep a b) (o : Obj) : Keep a (b.alloc o) := Same.alloc h (fun i hi => Nat.lt_of_lt_of_le hi h.size) o
theorem Keep.new (w : World) (o : Obj) : Keep w (w.alloc o) := (Same.refl _ _).alloc (fun _ h => h) o
theorem Keep.of_alloc {a b : World} {o : Obj} (h : Keep (a.alloc o) b) : Keep a b := Keep.trans (Keep.new a o) h
theorem Only.of_alloc {g : Nat} {a b : World} {o : Obj} (h : Only g (a.alloc o) b) : Only g a b := Only.trans ((Keep.new a o).only g) h
theorem Keep.draws (w : World) (n : Nat) : Keep w (w.drewN n) := (Same.refl _ _).drewN n
/-- An append onto a row of the call's own (from base on). -/
theorem Same.append {S : Nat → Prop} {a b c : World} {base n size : Nat} {e : TypeId} {v : Value} {xs : List Value} (h : Same S a b) (ho : b.ownsRow base e size v n xs) (hg : b.grownBy c v.ownBlock)
    (hS : ∀ i, S i → i < base) (hB : base ≤ b.heap.size) : Same S a c :=
  h.grown hg (fun i hi => Nat.lt_of_lt_of_le (hS i hi) hB) (fun k hk hs => by have := (ho.lt k hk).1; have := hS k hs; omega)

/-! ### a slice that reads as a list of cells, nil let in -/
def Reads (w : World) (S : Nat → Prop) (size : Nat) (A : Option Addr) (n : Nat) (xs : List Value) : Prop :=
  xs.length = n * size ∧ (0 < n → ∃ b off, A = some ⟨b, off, none⟩ ∧ S b ∧ ∀ j u, xs[j]? = some u → w.cell? ⟨b, off + j, none⟩ = some u)
section
variable {w w' : World} {S T : Nat → Prop} {size n : Nat} {A : Option Addr} {xs : List Value}
theorem Reads.none_ {A : Option Addr} : Reads w S size A 0 [] := ⟨by simp, fun h => absurd h (by omega)⟩
theorem Reads.keep (h : Reads w S size A n xs) (hk : Same S w w') : Reads w' S size A n xs :=
  ⟨h.1, fun hn => by
    obtain ⟨b, off, e, hb, hc⟩ := h.2 hn
    exact ⟨b, off, e, hb, fun j u hu => (hk.cell (p := ⟨b, off + j, none⟩) hb).trans (hc j u hu)⟩⟩
theorem Reads.more (h : Reads w S size A n xs) (hB : ∀ i, S i → T i) : Reads w T size A n xs :=
  ⟨h.1, fun hn => by
    obtain ⟨b, off, e, hb, hc⟩ := h.2 hn
    exact ⟨b, off, e, hB _ hb, hc⟩⟩
theorem add_lit' (b off k : Nat) : (⟨b, off, none⟩ : Addr).add k = ⟨b, off + k, none⟩ := by unfold Addr.add; split <;> simp_all
/-- A cut s[k:]. -/
theorem Reads.from_ (h : Reads w S size A n xs) {k cap : Nat} (hk : k ≤ n) (hc : n ≤ cap) :
    Reads w S size (if cap = k then A else A.map (·.add (k * size))) (n - k) (xs.drop (k * size)) := by
  refine ⟨by rw [List.length_drop, h.1, Nat.sub_mul], fun hn => ?_⟩
  obtain ⟨b, off, rfl, hb, hcell⟩ := h.2 (by omega)
  rw [if_neg (by omega)]
  refine ⟨b, off + k * size, by simp [add_lit'], hb, fun j u hu => ?_⟩
  rw [Nat.add_assoc]
  exact hcell _ u (by rw [← hu, List.getElem?_drop])
/-- A cut s[:k]. -/
theorem Reads.to_ (h : Reads w S size A n xs) {k : Nat} (hk : k ≤ n) : Reads w S size A k (xs.take (k * size)) := by
  refine ⟨by rw [List.length_take, h.1, Nat.min_eq_left (Nat.mul_le_mul_right _ hk)], fun hn => ?_⟩
  obtain ⟨b, off, rfl, hb, hcell⟩ := h.2 (by omega)
  refine ⟨b, off, rfl, hb, fun j u hu => hcell j u ?_⟩
  rw [List.getElem?_take] at hu
  split at hu
  · exact hu
  · cases hu
theorem Reads.of_own {base : Nat} {e : TypeId} {c : Nat} (h : w.ownsRow base e size (.slice A n c) n xs) : Reads w (fun i => base ≤ i ∧ i < w.heap.size) size A n xs := by
  refine ⟨h.1, fun hn => ?_⟩
  rcases h.2 with ⟨_, h0⟩ | ⟨g, cap, cur, hv, hbg, hh, hnc, hcm, hcs, htake⟩
  · omega
  · have hA : A = some ⟨g, 0, none⟩ := by injection hv
    subst hA
    refine ⟨g, 0, rfl, ⟨hbg, (Array.getElem?_eq_some_iff.1 hh).1⟩, fun j u hu => ?_⟩
    have := h.cells (g := g) rfl j u hu
    rwa [add_lit'] at this
theorem own_form {base : Nat} {e : TypeId} {v : Value} (h : w.ownsRow base e size v n xs) : ∃ A c, v = .slice A n c ∧ n ≤ c ∧ c ≤ maxLen := by
  rcases h.2 with ⟨rfl, rfl⟩ | ⟨g, cap, cur, rfl, _, _, hnc, hcm, _⟩
  · exact ⟨none, 0, rfl, Nat.le_refl _, by simp [maxLen]⟩
  · exact ⟨_, cap, rfl, hnc, hcm⟩
end

/-- A row of the call's own (from base on) is kept if the blocks from base on that were there are. -/
theorem ownsRow_same {w w' : World} {S : Nat → Prop} {base n size : Nat} {e : TypeId} {v : Value} {xs : List Value} (h : w.ownsRow base e size v n xs) (k : Same S w w') (hS : ∀ i, base ≤ i ∧ i < w.heap.size → S i) : w'.ownsRow base e size v n xs := by
  refine ⟨h.1, ?_⟩
  rcases h.2 with hn | ⟨g, cap, cur, rfl, hb, hgg, rest⟩
  · exact .inl hn
  · exact .inr ⟨g, cap, cur, rfl, hb, (k.block g (hS g ⟨hb, (Array.getElem?_eq_some_iff.1 hgg).1⟩)).trans hgg, rest⟩

/-! ### lists of rows -/
theorem flat_length {α : Type} {enc : α → List Value} {size : Nat} (hs : ∀ a, (enc a).length = size) : ∀ l : List α, (l.flatMap enc).length = l.length * size
  | [] => by simp
  | a :: l => by rw [List.flatMap_cons, List.length_append, hs, flat_length hs l, List.length_cons, Nat.add_mul]; omega
theorem flat_get {α : Type} {enc : α → List Value} {size : Nat} (hs : ∀ a, (enc a).length = size) : ∀ (l : List α) (k j : Nat) (hk : k < l.length), j < size → (l.flatMap enc)[k * size + j]? = (enc l[k])[j]?
  | a :: l, 0, j, _, hj => by
    rw [List.flatMap_cons, List.getElem?_append_left (by rw [hs]; omega)]; simp
  | a :: l, k + 1, j, hk, hj => by
    rw [List.flatMap_cons, List.getElem?_append_right (by rw [hs, Nat.add_mul]; omega), hs]
    have : (k + 1) * size + j - size = k * size + j := by rw [Nat.add_mul]; omega
    rw [this, flat_get hs l k j (by simpa using hk) hj]; simp
theorem flat_take {α : Type} {enc : α → List Value} {size : Nat} (hs : ∀ a, (enc a).length = size) : ∀ (l : List α) (k : Nat), (l.flatMap enc).take (k * size) = (l.take k).flatMap enc
  | l, 0 => by simp
  | [], k + 1 => by simp
  | a :: l, k + 1 => by
    rw [List.flatMap_cons, List.take_succ_cons, List.flatMap_cons, List.take_append, hs, List.take_of_length_le (by rw [hs, Nat.add_mul]; omega)]
    have : (k + 1) * size - size = k * size := by rw [Nat.add_mul]; omega
    rw [this, flat_take hs l k]
theorem flat_drop {α : Type} {enc : α → List Value} {size : Nat} (hs : ∀ a, (enc a).length = size) : ∀ (l : List α) (k : Nat), (l.flatMap enc).drop (k * size) = (l.drop k).flatMap enc
  | l, 0 => by simp
  | [], k + 1 => by simp
  | a :: l, k + 1 => by
    rw [List.flatMap_cons, List.drop_succ_cons, List.drop_append, hs, List.drop_of_length_le (by rw [hs, Nat.add_mul]; omega)]
    have : (k + 1) * size - size = k * size := by rw [Nat.add_mul]; omega
    rw [this, flat_drop hs l k]; simp
/-- A slice value's three parts read as the list l, each element by its cells enc. -/
def Sl {α : Type} (enc : α → List Value) (size : Nat) (w : World) (S : Nat → Prop) (A : Option Addr) (n c : Nat) (l : List α) : Prop :=
  n = l.length ∧ n ≤ c ∧ c ≤ maxLen ∧ Reads w S size A n (l.flatMap enc)
section
variable {α : Type} {enc : α → List Value} {size : Nat} {w w' : World} {S T : Nat → Prop} {A : Option Addr} {n c : Nat} {l : List α}
theorem Sl.keep (h : Sl enc size w S A n c l) (hk : Same S w w') : Sl enc size w' S A n c l := ⟨h.1, h.2.1, h.2.2.1, h.2.2.2.keep hk⟩
theorem Sl.more (h : Sl enc size w S A n c l) (hB : ∀ i, S i → T i) : Sl enc size w T A n c l := ⟨h.1, h.2.1, h.2.2.1, h.2.2.2.more hB⟩
theorem Sl.nil_ : Sl enc size w S none 0 0 ([] : List α) := ⟨rfl, Nat.le_refl _, by simp [maxLen], by simpa using Reads.none_⟩
theorem Sl.at_ (h : Sl enc size w S A n c l) (hs : ∀ a, (enc a).length = size) {k : Nat} (hk : k < n) :
    ∃ (b off : Nat) (a : α), A = some ⟨b, off, none⟩ ∧ S b ∧ l[k]? = some a ∧ ∀ j u, (enc a)[j]? = some u → w.cell? ⟨b, off + k * size + j, none⟩ = some u := by
  obtain ⟨b, off, e, hb, hc⟩ := h.2.2.2.2 (by omega)
  have hk' : k < l.length := by have := h.1; omega
  refine ⟨b, off, l[k], e, hb, List.getElem?_eq_getElem hk', fun j u hu => ?_⟩
  have hj : j < size := by rw [← hs l[k]]; exact (List.getElem?_eq_some_iff.1 hu).1
  rw [Nat.add_assoc]
  exact hc _ u (by rw [flat_get hs l k j hk' hj]; exact hu)
theorem Sl.from_ (h : Sl enc size w S A n c l) (hs : ∀ a, (enc a).length = size) {k : Nat} (hk : k ≤ n) :
    Sl enc size w S (if c = k then A else A.map (·.add (k * size))) (n - k) (c - k) (l.drop k) := by
  refine ⟨by rw [List.length_drop, h.1], by have := h.2.1; omega, by have := h.2.2.1; omega, ?_⟩
  rw [← flat_drop hs]
  exact h.2.2.2.from_ hk h.2.1
theorem Sl.to_ (h : Sl enc size w S A n c l) (hs : ∀ a, (enc a).length = size) {k : Nat} (hk : k ≤ n) : Sl enc size w S A k c (l.take k) := by
  refine ⟨by rw [List.length_take]; have := h.1; omega, by have := h.2.1; omega, h.2.2.1, ?_⟩
  rw [← flat_take hs]
  exact h.2.2.2.to_ hk
theorem Sl.of_own {base : Nat} {e : TypeId} {v : Value} (h : w.ownsRow base e size v l.length (l.flatMap enc)) : ∃ A c, v = .slice A l.length c ∧ Sl enc size w (fun i => base ≤ i ∧ i < w.heap.size) A l.length c l := by
  obtain ⟨A, c, rfl, h1, h2⟩ := own_form h
  exact ⟨A, c, rfl, rfl, h1, h2, Reads.of_own h⟩
end

/-- The same where an element's cells stand in a relation to it. -/
def SlR {α : Type} (w : World) (S : Nat → Prop) (size : Nat) (R : List Value → α → Prop) (A : Option Addr) (n c : Nat) (l : List α) : Prop :=
  n = l.length ∧ n ≤ c ∧ c ≤ maxLen ∧ ∃ css : List (List Value), css.length = n ∧ (∀ cs ∈ css, cs.length = size) ∧ Reads w S size A n css.flatten ∧ ∀ (k : Nat) (cs : List Value) (a : α), css[k]? = some cs → l[k]? = some a → R cs a
theorem flatten_get {size : Nat} : ∀ (css : List (List Value)) (k j : Nat) (hk : k < css.length), (∀ cs ∈ css, cs.length = size) → j < size → css.flatten[k * size + j]? = css[k][j]?
  | cs :: css, 0, j, _, hs, hj => by
    rw [List.flatten_cons, List.getElem?_append_left (by rw [hs cs (by simp)]; omega)]; simp
  | cs :: css, k + 1, j, hk, hs, hj => by
    rw [List.flatten_cons, List.getElem?_append_right (by rw [hs cs (by simp), Nat.add_mul]; omega), hs cs (by simp)]
    have : (k + 1) * size + j - size = k * size + j := by rw [Nat.add_mul]; omega
    rw [this, flatten_get css k j (by simpa using hk) (fun c hc => hs c (by simp [hc])) hj]; simp
section
variable {α : Type} {size : Nat} {R R' : List Value → α → Prop} {w w' : World} {S T : Nat → Prop} {A : Option Addr} {n c : Nat} {l : List α}
theorem SlR.at_ (h : SlR w S size R A n c l) {k : Nat} (hk : k < n) :
    ∃ (b off : Nat) (cs : List Value) (a : α), A = some ⟨b, off, none⟩ ∧ S b ∧ l[k]? = some a ∧ R cs a ∧ cs.length = size ∧ ∀ j u, cs[j]? = some u → w.cell? ⟨b, off + k * size + j, none⟩ = some u := by
  obtain ⟨h1, _, _, css, h4, h5, h6, h7⟩ := h
  obtain ⟨b, off, e, hb, hc⟩ := h6.2 (by omega)
  have hk' : k < css.length := by omega
  have hkl : k < l.length := by omega
  have hl : css[k].length = size := h5 _ (List.getElem_mem hk')
  refine ⟨b, off, css[k], l[k], e, hb, List.getElem?_eq_getElem hkl, h7 k _ _ (List.getElem?_eq_getElem hk') (List.getElem?_eq_getElem hkl), hl, fun j u hu => ?_⟩
  have hj : j < size := by rw [← hl]; exact (List.getElem?_eq_some_iff.1 hu).1
  rw [Nat.add_assoc]
  exact hc _ u (by rw [flatten_get css k j hk' h5 hj]; exact hu)
theorem SlR.keep (h : SlR w S size R A n c l) (hk : Same S w w') (hR : ∀ cs a, R cs a → R' cs a) : SlR w' S size R' A n c l := by
  obtain ⟨h1, h2, h3, css, h4, h5, h6, h7⟩ := h
  exact ⟨h1, h2, h3, css, h4, h5, h6.keep hk, fun k cs a e1 e2 => hR _ _ (h7 k cs a e1 e2)⟩
theorem SlR.more (h : SlR w S size R A n c l) (hS : ∀ i, S i → T i) (hR : ∀ cs a, R cs a → R' cs a) : SlR w T size R' A n c l := by
  obtain ⟨h1, h2, h3, css, h4, h5, h6, h7⟩ := h
  exact ⟨h1, h2, h3, css, h4, h5, h6.more hS, fun k cs a e1 e2 => hR _ _ (h7 k cs a e1 e2)⟩
theorem SlR.nil_ : SlR w S size R none 0 0 ([] : List α) := ⟨rfl, Nat.le_refl _, by simp [maxLen], [], rfl, by simp, Reads.none_, by simp⟩
end
def I64 (x : Int) : Prop := -9223372036854775808 ≤ x ∧ x ≤ 9223372036854775807
theorem I64.wf {x : Int} (h : I64 x) : (Lit.int .i64 x).wf = true := WalkArith.wf_i64 h

/-! ### append onto a row of the call's own, the source nil, empty or not -/
section
variable {P : Program} (w : World)
theorem run_append_of_nil (base : Nat) (t ty e : TypeId) (i : TypeInfo) (size : Nat) (ht : P.underlying t = some (.slice e)) (hi : P.info? e = some i)
    (v : Value) (n : Nat) (xs : List Value) (hown : w.ownsRow base e size v n xs) (c : Nat) : (Builtin.append_ #[t, t] ty #[v, .slice none 0 c]).run P w = .ok v w := by
  rcases hown.2 with ⟨rfl, rfl⟩ | ⟨g, cap, cur, rfl, _, _, hnc, _⟩
  · simp [Builtin.append_, run_underlying ht, sizeOf, typeInfo, hi, Builtin.lenOf, Builtin.firstCells]
  · simp [Builtin.append_, run_underlying ht, sizeOf, typeInfo, hi, Builtin.lenOf, Builtin.firstCells, hnc, storeCells]
theorem run_append_any (base : Nat) (t ty e : TypeId) (i : TypeInfo) (z : Value) (size bytes : Nat) (ht : P.underlying t = some (.slice e)) (hi : P.info? e = some i) (hz : i.zero = some z)
    (hsize : i.size = size) (hby : i.bytes = bytes) (hzs : z.cells.size = size) (hsz : 0 < size)
    (v : Value) (n : Nat) (xs : List Value) (hown : w.ownsRow base e size v n xs)
    (S : Nat → Prop) (A : Option Addr) (m c : Nat) (news : List Value) (hr : Reads w S size A m news) (h1 : ∀ u ∈ news, u.oneCell' = true)
    (h63 : n + m ≤ maxLen) (hbytes : (n + m) * bytes ≤ 140737488355328) (hbase : base ≤ w.heap.size) :
    ∃ v' w', (Builtin.append_ #[t, t] ty #[v, .slice A m c]).run P w = .ok v' w' ∧ w'.ownsRow base e size v' (n + m) (xs ++ news) ∧ w.grownBy w' v.ownBlock ∧
      (v'.ownBlock = v.ownBlock ∨ v'.ownBlock = some w.heap.size) := by
  rcases A with _ | ad
  · have hm : m = 0 := by
      rcases Nat.eq_zero_or_pos m with h0 | h0
      · exact h0
      · obtain ⟨_, _, h, _⟩ := hr.2 h0
        cases h
    subst hm
    have hn : news = [] := List.eq_nil_of_length_eq_zero (by simpa using hr.1)
    subst hn
    exact ⟨v, w, run_append_of_nil w base t ty e i size ht hi v n xs hown c, by simpa using hown, World.grownBy.refl w _, .inl rfl⟩
  · have hcells : ∀ j u, news[j]? = some u → w.cell? (ad.add j) = some u := by
      intro j u hu
      rcases Nat.eq_zero_or_pos m with h0 | h0
      · subst h0
        have hn : news = [] := List.eq_nil_of_length_eq_zero (by simpa using hr.1)
        subst hn
        simp at hu
      · obtain ⟨b, off, h, _, hc⟩ := hr.2 h0
        injection h with h
        subst h
        rw [add_lit']
        exact hc j u hu
    obtain ⟨v', w', hrun, h2, h3, _, h5⟩ := run_append_own_at (P := P) w base t ty e i z size bytes ht hi hz hsize hby hzs hsz v n xs hown ad m c news hr.1 hcells h1 h63 hbytes hbase
    exact ⟨v', w', hrun, h2, h3, h5⟩
theorem wp_append_any {o : Oper} {a : Act} {K : Act → World → Prop} {Q : Exit → Act → World → Prop} (s x : Operand) (t : TypeId)
    (ho : o.op = .call { callee := .builtin .append, args := #[s, x], argTypes := #[t, t] })
    (base : Nat) (e : TypeId) (i : TypeInfo) (z : Value) (size bytes : Nat) (ht : P.underlying t = some (.slice e)) (hi : P.info? e = some i) (hz : i.zero = some z)
    (hsize : i.size = size) (hby : i.bytes = bytes) (hzs : z.cells.size = size) (hsz : 0 < size)
    (v : Value) (n : Nat) (xs : List Value) (hs : a.eval s = v) (hown : w.ownsRow base e size v n xs)
    (S : Nat → Prop) (A : Option Addr) (m c : Nat) (news : List Value) (hx : a.eval x = .slice A m c) (hr : Reads w S size A m news) (h1 : ∀ u ∈ news, u.oneCell' = true)
    (h63 : n + m ≤ maxLen) (hbytes : (n + m) * bytes ≤ 140737488355328) (hbase : base ≤ w.heap.size)
    (h : ∀ v' w', w'.ownsRow base e size v' (n + m) (xs ++ news) → w.grownBy w' v.ownBlock → (v'.ownBlock = v.ownBlock ∨ v'.ownBlock = some w.heap.size) → K (a.put o.dst v') w') : o.wp P a w K Q := by
  obtain ⟨v', w', hrun, h2, h3, h4⟩ := run_append_any (P := P) w base t o.type e i z size bytes ht hi hz hsize hby hzs hsz v n xs hown S A m c news hr h1 h63 hbytes hbase
  unfold Oper.wp execOp
  simp only [ho, resolve, invoke, builtin, Sem.run_bind, Sem.run_pure, Result.andThen_ok, List.map_toArray, List.map_cons, List.map_nil, hs, hx, hrun]
  exact h v' w' h2 h3 h4
theorem wpList_append_any {ops : Array Oper} {rest : List Oper} {o : Oper} {a : Act} {Q : Exit → Act → World → Prop} (hgd : o.guard = none) (s x : Operand) (t : TypeId)
    (ho : o.op = .call { callee := .builtin .append, args := #[s, x], argTypes := #[t, t] })
    (base : Nat) (e : TypeId) (i : TypeInfo) (z : Value) (size bytes : Nat) (ht : P.underlying t = some (.slice e)) (hi : P.info? e = some i) (hz : i.zero = some z)
    (hsize : i.size = size) (hby : i.bytes = bytes) (hzs : z.cells.size = size) (hsz : 0 < size)
    (v : Value) (n : Nat) (xs : List Value) (hs : a.eval s = v) (hown : w.ownsRow base e size v n xs)
    (S : Nat → Prop) (A : Option Addr) (m c : Nat) (news : List Value) (hx : a.eval x = .slice A m c) (hr : Reads w S size A m news) (h1 : ∀ u ∈ news, u.oneCell' = true)
    (h63 : n + m ≤ maxLen) (hbytes : (n + m) * bytes ≤ 140737488355328) (hbase : base ≤ w.heap.size)
    (h : ∀ v' w', w'.ownsRow base e size v' (n + m) (xs ++ news) → w.grownBy w' v.ownBlock → (v'.ownBlock = v.ownBlock ∨ v'.ownBlock = some w.heap.size) → wpList P ops Q rest (a.put o.dst v') w') : wpList P ops Q (o :: rest) a w :=
  wpList_plain hgd fun _ hK => wp_append_any w s x t ho base e i z size bytes ht hi hz hsize hby hzs hsz v n xs hs hown S A m c news hx hr h1 h63 hbytes hbase fun v' w' h2 h3 h4 => hK _ _ (h v' w' h2 h3 h4)
theorem step_append_any {ops : Array Oper} {o : Oper} {a : Act} {K : Act → World → Prop} {Q : Exit → Act → World → Prop} {E : Prop} (hgd : o.guard = none) (s x : Operand) (t : TypeId)
    (ho : o.op = .call { callee := .builtin .append, args := #[s, x], argTypes := #[t, t] })
    (base : Nat) (e : TypeId) (i : TypeInfo) (z : Value) (size bytes : Nat) (ht : P.underlying t = some (.slice e)) (hi : P.info? e = some i) (hz : i.zero = some z)
    (hsize : i.size = size) (hby : i.bytes = bytes) (hzs : z.cells.size = size) (hsz : 0 < size)
    (v : Value) (n : Nat) (xs : List Value) (hs : a.eval s = v) (hown : w.ownsRow base e size v n xs)
    (S : Nat → Prop) (A : Option Addr) (m c : Nat) (news : List Value) (hx : a.eval x = .slice A m c) (hr : Reads w S size A m news) (h1 : ∀ u ∈ news, u.oneCell' = true)
    (h63 : n + m ≤ maxLen) (hbytes : (n + m) * bytes ≤ 140737488355328) (hbase : base ≤ w.heap.size)
    (h : ∀ v' w', w'.ownsRow base e size v' (n + m) (xs ++ news) → w.grownBy w' v.ownBlock → (v'.ownBlock = v.ownBlock ∨ v'.ownBlock = some w.heap.size) → K (a.put o.dst v') w') :
    if Region.wanted o (yielded ops a.tmps) = true then Oper.wp P o a w K Q else E := by
  have hw : Region.wanted o (yielded ops a.tmps) = true := by simp [Region.wanted, hgd]
  rw [if_pos hw]
  exact wp_append_any w s x t ho base e i z size bytes ht hi hz hsize hby hzs hsz v n xs hs hown S A m c news hx hr h1 h63 hbytes hbase h
end
theorem Reads.new {w : World} {e : TypeId} {cs : List Value} {size n : Nat} (h : cs.length = n * size) : Reads (w.alloc (.cells cs.toArray e)) (fun i => i = w.heap.size) size (some ⟨w.heap.size, 0, none⟩) n cs :=
  ⟨h, fun _ => ⟨w.heap.size, 0, rfl, rfl, fun j u hu => by
    rw [(Blk.new w e cs.toArray).cell]
    simpa using hu⟩⟩
theorem Reads.new2 {w : World} {o : Obj} {m : Nat} {e : TypeId} {cs : List Value} {size n : Nat} (h : cs.length = n * size) : Reads (((w.alloc o).drewN m).alloc (.cells cs.toArray e)) (fun i => i = w.heap.size + 1) size (some ⟨w.heap.size + 1, 0, none⟩) n cs := by
  have := Reads.new (w := (w.alloc o).drewN m) (e := e) h
  simpa using this
theorem Reads.newd {w : World} {m : Nat} {e : TypeId} {cs : List Value} {size n : Nat} (h : cs.length = n * size) : Reads ((w.drewN m).alloc (.cells cs.toArray e)) (fun i => i = w.heap.size) size (some ⟨w.heap.size, 0, none⟩) n cs :=
  Reads.new (w := w.drewN m) (e := e) h
theorem ownsRow_drewN {w : World} {base n size : Nat} {e : TypeId} {v : Value} {xs : List Value} (h : w.ownsRow base e size v n xs) (k : Nat) : (w.drewN k).ownsRow base e size v n xs := h
theorem info_of {P : Program} {e : TypeId} {z : Value} {size bytes : Nat} (h : (P.info? e).map (fun i => (i.zero, i.size, i.bytes)) = some (some z, size, bytes)) :
    ∃ i, P.info? e = some i ∧ i.zero = some z ∧ i.size = size ∧ i.bytes = bytes := by
  cases hi : P.info? e with
  | none => rw [hi] at h; cases h
  | some i =>
    rw [hi] at h
    simp only [Option.map_some, Option.some.injEq, Prod.mk.injEq] at h
    exact ⟨i, rfl, h.1, h.2.1, h.2.2⟩

/-! ### stores into a block known whole -/
theorem setCells_heap (g : Nat) : ∀ (vs : List Value) (o : Nat) (w : World) (k : Nat), k ≠ g → (w.setCells g o vs).heap[k]? = w.heap[k]?
  | [], _, _, _, _ => rfl
  | v :: vs, o, w, k, hk => by
    show ((w.setCell ⟨g, o, none⟩ v).setCells g (o + 1) vs).heap[k]? = _
    rw [setCells_heap g vs (o + 1) _ k hk, Below.heap_setCell _ _ _ _ hk]
theorem setCells_same (g : Nat) (w : World) (o : Nat) (vs : List Value) : Same (· ≠ g) w (w.setCells g o vs) := by
  have key : ∀ (vs : List Value) (o : Nat) (w : World), (w.setCells g o vs).os = w.os ∧ (w.setCells g o vs).tape = w.tape ∧ (w.setCells g o vs).output = w.output ∧ (w.setCells g o vs).heap.size = w.heap.size := by
    intro vs
    induction vs with
    | nil => intro o w; exact ⟨rfl, rfl, rfl, rfl⟩
    | cons v vs ih =>
      intro o w
      have := ih (o + 1) (w.setCell ⟨g, o, none⟩ v)
      have hsz : (w.setCell ⟨g, o, none⟩ v).heap.size = w.heap.size := by simp [World.setCell]
      exact ⟨this.1, this.2.1, this.2.2.1, this.2.2.2.trans hsz⟩
  have := key vs o w
  exact ⟨this.1, this.2.1, this.2.2.1, by rw [this.2.2.2]; exact Nat.le_refl _, fun k hk => setCells_heap g vs o w k hk⟩
def splice (cs : Array Value) : Nat → List Value → Array Value
  | _, [] => cs
  | o, v :: vs => splice (cs.setIfInBounds o v) (o + 1) vs
theorem Blk.setCells {g : Nat} {t : TypeId} : ∀ (vs : List Value) (o : Nat) (w : World) (cs : Array Value), Blk w g t cs → Blk (w.setCells g o vs) g t (splice cs o vs)
  | [], _, _, _, h => h
  | v :: vs, o, w, _, h => Blk.setCells vs (o + 1) (w.setCell ⟨g, o, none⟩ v) _ (h.set_ o v)
theorem Blk.there {w : World} {g : Nat} {t : TypeId} {cs : Array Value} (h : Blk w g t cs) {o n : Nat} (hn : o + n ≤ cs.size) : w.there g o n := fun j hj =>
  ⟨by rw [h.cell]; simp; omega, h.frozen _⟩
section
variable {P : Program} {ops : Array Oper} {rest : List Oper} {op : Oper} {a : Act} {w : World} {Q : Exit → Act → World → Prop}
/-- A struct stored into a block known whole. -/
theorem wpList_store_blk (hgd : op.guard = none) (ty : TypeId) (x y : Operand) (ho : op.op = .store ty x y)
    (g o : Nat) (t : TypeId) (cs : Array Value) (vs : List Value) (hx : a.eval x = .pointer (some ⟨g, o, none⟩)) (hy : a.eval y = .agg vs.toArray) (hb : Blk w g t cs) (hfit : o + vs.length ≤ cs.size)
    (hi : (P.info? ty).map (·.size) = some vs.length) (h1 : vs.all (·.oneCell') = true)
    (h : ∀ w', Blk w' g t (splice cs o vs) → Same (· ≠ g) w w' → wpList P ops Q rest (a.put op.dst undef) w') : wpList P ops Q (op :: rest) a w := by
  refine wpList_store_mid hgd ty x y ho g o vs.toArray hx hy (hb.there (by simpa using hfit)) (by simpa using hi) (by simpa using h1) ?_
  exact h _ (by simpa using hb.setCells vs o) (by simpa using setCells_same g w o vs)
theorem run_storeVar_one (g o : Nat) (ty : TypeId) (v : Value) (ht : w.there g o 1) (hi : (P.info? ty).map (·.size) = some 1) (hv : v.cells = #[v]) (h1 : v.oneCell' = true) :
    (storeVar ty ⟨g, o, none⟩ v).run P w = .ok () (w.setCell ⟨g, o, none⟩ v) := by
  have := run_storeCells_cells (P := P) g o [v] 0 w (fun j hj => by simpa using (ht j (by simpa using hj)).1) (fun j hj => by simpa using (ht j (by simpa using hj)).2)
    (fun u hu => by simp at hu; subst hu; exact h1)
  cases hq : P.info? ty with
  | none => simp [hq] at hi
  | some i =>
    have hs : i.size = 1 := by simpa [hq] using hi
    simp only [Nat.add_zero] at this
    have e : w.setCells g o [v] = w.setCell ⟨g, o, none⟩ v := rfl
    rw [e] at this
    simp [storeVar, sizeOf, typeInfo, hq, hv, hs, this]
/-- One cell stored into a block known whole. -/
theorem wpList_store_one (hgd : op.guard = none) (ty : TypeId) (x y : Operand) (ho : op.op = .store ty x y)
    (g o : Nat) (t : TypeId) (cs : Array Value) (v : Value) (hx : a.eval x = .pointer (some ⟨g, o, none⟩)) (hy : a.eval y = v) (hb : Blk w g t cs) (hfit : o < cs.size)
    (hi : (P.info? ty).map (·.size) = some 1) (hv : v.cells = #[v]) (h1 : v.oneCell' = true)
    (h : ∀ w', Blk w' g t (cs.setIfInBounds o v) → Same (· ≠ g) w w' → wpList P ops Q rest (a.put op.dst undef) w') : wpList P ops Q (op :: rest) a w :=
  wpList_plain hgd fun _ hK => by
    unfold Oper.wp execOp
    simp only [ho, hx, hy, Instr.storeAt, Instr.sureAddr, Sem.run_bind, Sem.run_pure, Result.andThen_ok, run_storeVar_one g o ty v (hb.there (by omega)) hi hv h1]
    exact hK _ _ (h _ (hb.set_ o v) (setCells_same g w o [v]))
/-- A struct loaded out of a block known whole. -/
theorem wpList_load_blk (hgd : op.guard = none) (ty : TypeId) (x : Operand) (ho : op.op = .load ty x)
    (g o : Nat) (t : TypeId) (cs : Array Value) (vs : List Value) (d : TypeDesc) (hx : a.eval x = .pointer (some ⟨g, o, none⟩)) (hb : Blk w g t cs) (hvs : ∀ j v, vs[j]? = some v → cs[o + j]? = some v)
    (hu : P.underlying ty = some d) (hd : d.isRow = true) (hi : (P.info? ty).map (·.size) = some vs.length)
    (h : wpList P ops Q rest (a.put op.dst (.agg vs.toArray)) w) : wpList P ops Q (op :: rest) a w :=
  wpList_load_mid hgd ty x ho g o hx vs d (fun j v hv => by rw [hb.cell]; exact hvs j v hv) hu hd hi h
end

/-! ### results that lie in memory -/
theorem results_cell1 {fn : Func} {p : Tmp} {ty : TypeId} (h : fn.results = #[.cell p ty]) (tmps : Array Value) (P : Program) (w : World) (a : Addr) (v : Value)
    (hp : tmps.getD p undef = .pointer (some a)) (hl : (loadVar ty a).run P w = .ok v w) : (results fn tmps).run P w = .ok v w := by
  simp only [results, h]
  simp only [Array.getD_eq_getD_getElem?] at hp
  simp [Sem.run_bind, Result.andThen, hp, asAddr, hl]
theorem results_cell_tmp' {fn : Func} {p u : Tmp} {ty : TypeId} (h : fn.results = #[.cell p ty, .tmp u]) (tmps : Array Value) (P : Program) (w : World) (a : Addr) (v x : Value)
    (hp : tmps.getD p undef = .pointer (some a)) (hx : tmps.getD u undef = x) (hl : (loadVar ty a).run P w = .ok v w) : (results fn tmps).run P w = .ok (.tuple #[v, x]) w := by
  simp only [results, h]
  simp only [Array.getD_eq_getD_getElem?] at hp hx
  simp [Sem.run_bind, Result.andThen, hp, asAddr, hl, hx]
theorem results_cell_tmp_cell {fn : Func} {p u q : Tmp} {ty ty2 : TypeId} (h : fn.results = #[.cell p ty, .tmp u, .cell q ty2]) (tmps : Array Value) (P : Program) (w : World) (a b : Addr) (v x y : Value)
    (hp : tmps.getD p undef = .pointer (some a)) (hx : tmps.getD u undef = x) (hq : tmps.getD q undef = .pointer (some b)) (hl : (loadVar ty a).run P w = .ok v w) (hl2 : (loadVar ty2 b).run P w = .ok y w) :
    (results fn tmps).run P w = .ok (.tuple #[v, x, y]) w := by
  simp only [results, h]
  simp only [Array.getD_eq_getD_getElem?] at hp hx hq
  simp [Sem.run_bind, Result.andThen, hp, asAddr, hl, hx, hq, hl2]
/-- The load of a struct out of a block known whole. -/
theorem loadVar_blk {P : Program} {w : World} {g o : Nat} {t ty : TypeId} {cs : Array Value} (vs : List Value) (d : TypeDesc) (hb : Blk w g t cs) (hvs : ∀ j v, vs[j]? = some v → cs[o + j]? = some v)
    (hu : P.underlying ty = some d) (hd : d.isRow = true) (hi : (P.info? ty).map (·.size) = some vs.length) : (loadVar ty ⟨g, o, none⟩).run P w = .ok (.agg vs.toArray) w :=
  run_loadVar_mid w g o ty vs d (fun j v hv => by rw [hb.cell]; exact hvs j v hv) hu hd hi
end Go.Proofs.Ytcfpkmfppgodmaa
