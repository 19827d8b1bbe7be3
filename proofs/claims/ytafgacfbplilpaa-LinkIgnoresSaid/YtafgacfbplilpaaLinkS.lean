/- The state of the link's laws: a link with packets on the way. The step, in parts. -/
import Derived.Test.YtafgacfbplilpaaLinkB
import Derived.Test.YtafgacfbplilpaaLink7
import Derived.Test.YtafgacfbplilpaaApd
import Derived.Test.YtafgacfbplilpaaMk2
set_option linter.unusedVariables false
set_option linter.unusedSimpArgs false
namespace Go.Proofs.Ytafgacfbplilpaa
open Go.RowKit Go.Proofs

theorem insertS_len (l : List Pk) (p : Pk) : (insertS l p).length ≤ l.length + 1 := by
  unfold insertS
  split
  · split
    · omega
    · simp; omega
  · simp; omega
structure Ws where
  k : Lk
  data : List Pk
  ack : List Pk
  inn : List Int
  out : List Int
/-- The blocks of a label. -/
def Lab (w : World) (L : Nat → Nat) (a : Nat) (i : Nat) : Prop := i < w.heap.size ∧ L i = a
/-- Labels of new blocks. -/
def ext (L : Nat → Nat) (n0 : Nat) (F : Nat → Nat) (i : Nat) : Nat := if i < n0 then L i else F i
theorem ext_old {L : Nat → Nat} {n0 : Nat} {F : Nat → Nat} {i : Nat} (h : i < n0) : ext L n0 F i = L i := if_pos h
theorem ext_new {L : Nat → Nat} {n0 : Nat} {F : Nat → Nat} {i : Nat} (h : n0 ≤ i) : ext L n0 F i = F i := if_neg (by omega)
theorem Lab.old {w w' : World} {L F : Nat → Nat} {a i : Nat} (h : Lab w L a i) (hz : w.heap.size ≤ w'.heap.size) : Lab w' (ext L w.heap.size F) a i := ⟨by have := h.1; omega, by rw [ext_old h.1]; exact h.2⟩
theorem Lab.new {w w' : World} {L F : Nat → Nat} {a i : Nat} (h0 : w.heap.size ≤ i) (h1 : i < w'.heap.size) (h2 : F i = a) : Lab w' (ext L w.heap.size F) a i := ⟨h1, by rw [ext_new h0]; exact h2⟩
/-- The nine cells of the state's block. -/
structure Cls where
  B1 : Option Addr
  m1 : Nat
  d1 : Nat
  B2 : Option Addr
  m2 : Nat
  d2 : Nat
  A1 : Option Addr
  n1 : Nat
  c1 : Nat
  A2 : Option Addr
  n2 : Nat
  c2 : Nat
  A3 : Option Addr
  n3 : Nat
  c3 : Nat
  A4 : Option Addr
  n4 : Nat
  c4 : Nat
def Cls.k (C : Cls) (k : Lk) : List Value := [.int .i64 k.win, .int .i64 k.base, .slice C.B1 C.m1 C.d1, .int .i64 k.want, .slice C.B2 C.m2 C.d2]
def Cls.all (C : Cls) (k : Lk) : List Value := [.int .i64 k.win, .int .i64 k.base, .slice C.B1 C.m1 C.d1, .int .i64 k.want, .slice C.B2 C.m2 C.d2, .slice C.A1 C.n1 C.c1, .slice C.A2 C.n2 C.c2, .slice C.A3 C.n3 C.c3, .slice C.A4 C.n4 C.c4]
theorem Cls.sub (C : Cls) (k : Lk) (j : Nat) (v : Value) (h : (C.k k)[j]? = some v) : (C.all k).toArray[0 + j]? = some v := by
  have e : C.all k = C.k k ++ [.slice C.A1 C.n1 C.c1, .slice C.A2 C.n2 C.c2, .slice C.A3 C.n3 C.c3, .slice C.A4 C.n4 C.c4] := rfl
  rw [Nat.zero_add, List.getElem?_toArray, e, List.getElem?_append_left (List.getElem?_eq_some_iff.1 h).1]
  exact h
/-- What lies in memory of a state. -/
structure Pcs (S0 S1 S2 S3 S4 : Nat → Prop) (g : Nat) (C : Cls) (st : Ws) (w : World) : Prop where
  blk : Blk w g 41 (C.all st.k).toArray
  kept : Sl encI 1 w S0 C.B1 C.m1 C.d1 st.k.kept
  early : Sl encPk 3 w S0 C.B2 C.m2 C.d2 st.k.early
  data : Ap w S1 48 3 C.A1 C.n1 C.c1 (st.data.flatMap encPk)
  ack : Ap w S2 48 3 C.A2 C.n2 C.c2 (st.ack.flatMap encPk)
  inn : Ap w S3 3 1 C.A3 C.n3 C.c3 (st.inn.flatMap encI)
  out : Ap w S4 3 1 C.A4 C.n4 C.c4 (st.out.flatMap encI)
  ldata : C.n1 = st.data.length
  lack : C.n2 = st.ack.length
  linn : C.n3 = st.inn.length
  lout : C.n4 = st.out.length
theorem Pcs.same {S0 S1 S2 S3 S4 T : Nat → Prop} {g : Nat} {C : Cls} {st : Ws} {w w' : World} (h : Pcs S0 S1 S2 S3 S4 g C st w) (hs : Same T w w') (hg : T g) (h0 : ∀ i, S0 i → T i) (h1 : ∀ i, S1 i → T i) (h2 : ∀ i, S2 i → T i) (h3 : ∀ i, S3 i → T i) (h4 : ∀ i, S4 i → T i) : Pcs S0 S1 S2 S3 S4 g C st w' :=
  ⟨hs.blk h.blk hg, h.kept.keep (hs.mono h0), h.early.keep (hs.mono h0), h.data.keep (hs.mono h1), h.ack.keep (hs.mono h2), h.inn.keep (hs.mono h3), h.out.keep (hs.mono h4), h.ldata, h.lack, h.linn, h.lout⟩
theorem Pcs.lk {S0 S1 S2 S3 S4 : Nat → Prop} {g : Nat} {C : Cls} {st : Ws} {w : World} (h : Pcs S0 S1 S2 S3 S4 g C st w) : LkR w S0 (C.k st.k) st.k := ⟨C.B1, C.B2, C.m1, C.d1, C.m2, C.d2, rfl, h.kept, h.early⟩
/-- The state st lies at block g, the choices at block gc; each part in blocks of its own label. -/
def WS (w : World) (L : Nat → Nat) (g gc : Nat) (st : Ws) (r : Nat) : Prop :=
  L g = 5 ∧ (∃ C, Pcs (Lab w L 0) (Lab w L 1) (Lab w L 2) (Lab w L 3) (Lab w L 4) g C st w) ∧ Cod w (Lab w L 6) gc r
/-- The steps. -/
inductive StepR : Ws → Ws → Prop
  | same (s : Ws) : StepR s s
  | offer (s : Ws) (v : Int) (h : ¬ s.k.win ≤ s.k.kept.length) : StepR s { s with k := { s.k with kept := s.k.kept ++ [v] }, inn := s.inn ++ [v] }
  | packets (s : Ws) : StepR s { s with data := s.data ++ packetsS s.k }
  | arriveKeep (s : Ws) (n : Nat) (p : Pk) (h : s.data[n]? = some p) : StepR s { s with k := arriveS s.k p, out := s.out ++ arriveD s.k p, ack := s.ack ++ [⟨0, (arriveS s.k p).want - 1, 0⟩] }
  | arrive (s : Ws) (n : Nat) (p : Pk) (h : s.data[n]? = some p) : StepR s { s with data := s.data.take n ++ s.data.drop (n + 1), k := arriveS s.k p, out := s.out ++ arriveD s.k p, ack := s.ack ++ [⟨0, (arriveS s.k p).want - 1, 0⟩] }
  | confirm (s : Ws) (n : Nat) (p : Pk) (h : s.ack[n]? = some p) : StepR s { s with ack := s.ack.take n ++ s.ack.drop (n + 1), k := confirmS s.k p }
  | lose (s : Ws) : StepR s { s with data := s.data.drop 1 }
/-- What a step leaves. -/
def StepPost (L : Nat → Nat) (g gc : Nat) (st : Ws) (r : Nat) (w : World) (e : Ending) (w' : World) : Prop :=
  ∃ (L' : Nat → Nat) (st' : Ws) (r' : Nat), e = .returned (.bool true) ∧ StepR st st' ∧ r' ≤ r - 1 ∧ WS w' L' g gc st' r' ∧ (∀ i, i < w.heap.size → L' i = L i) ∧ Same (fun i => i < w.heap.size ∧ (L i = 0 ∨ L i = 6) ∧ i ≠ gc) w w'
def CutF (w : World) (s : Value) (wx : World) : Prop := s = .bool false ∧ Keep w wx
def CutT (w1 : World) (s : Value) (wx : World) : Prop := s = .bool true ∧ w1 = wx
def CutN (w1 : World) (B : Nat → Prop) (gc r n2 : Nat) (s : Value) (wx : World) : Prop := ∃ n r' : Nat, n < n2 ∧ s = .int .i64 n ∧ r' ≤ r ∧ Cod wx B gc r' ∧ Only gc w1 wx
def CutK (X : World) (S : Nat → Prop) (k : Lk) (s : Value) (wx : World) : Prop :=
  ∃ (b : Nat) (cs : List Value), s = .pointer (some ⟨b, 0, none⟩) ∧ X.heap.size ≤ b ∧ Blk wx b 35 cs.toArray ∧ LkR wx (fun i => S i ∨ (X.heap.size ≤ i ∧ i < wx.heap.size ∧ i ≠ b)) cs k ∧ Keep X wx
theorem Ap.sl {α : Type} {enc : α → List Value} {w : World} {S : Nat → Prop} {e : TypeId} {size n c : Nat} {A : Option Addr} {l : List α} (h : Ap w S e size A n c (l.flatMap enc)) (hn : n = l.length) : Sl enc size w S A n c l := ⟨hn, h.2.1, h.2.2.1, h.reads⟩
/-- An acknowledgement is taken out. -/
def CutE (w4 : World) (g : Nat) (st : Ws) (C : Cls) (n : Nat) (wx : World) : Prop :=
  ∃ (A' : Option Addr) (c' : Nat), Blk wx g 41 (({ C with A2 := A', n2 := C.n2 - 1, c2 := c' } : Cls).all st.k).toArray ∧
    Ap wx (fun i => w4.heap.size ≤ i ∧ i < wx.heap.size) 48 3 A' (C.n2 - 1) c' ((st.ack.take n ++ st.ack.drop (n + 1)).flatMap encPk) ∧ Same (fun i => i < w4.heap.size ∧ i ≠ g) w4 wx
/-- A packet is taken out. -/
def CutD (w4 : World) (g : Nat) (st : Ws) (C : Cls) (n : Nat) (wx : World) : Prop :=
  ∃ (A' : Option Addr) (c' : Nat), Blk wx g 41 (({ C with A1 := A', n1 := C.n1 - 1, c1 := c' } : Cls).all st.k).toArray ∧
    Ap wx (fun i => w4.heap.size ≤ i ∧ i < wx.heap.size) 48 3 A' (C.n1 - 1) c' ((st.data.take n ++ st.data.drop (n + 1)).flatMap encPk) ∧ Same (fun i => i < w4.heap.size ∧ i ≠ g) w4 wx
theorem Blk.snd (w : World) (o : Obj) (t : TypeId) (cs : Array Value) : Blk ((w.alloc o).alloc (.cells cs t)) (w.heap.size + 1) t cs := by simpa using Blk.new (w.alloc o) t cs
/-- A packet is taken out, or left. -/
def CutA (w4 : World) (g : Nat) (st : Ws) (C : Cls) (S1 : Nat → Prop) (n : Nat) (wx : World) : Prop :=
  ∃ (data' : List Pk) (A' : Option Addr) (n' c' : Nat), (data' = st.data ∨ data' = st.data.take n ++ st.data.drop (n + 1)) ∧ n' = data'.length ∧
    Blk wx g 41 (({ C with A1 := A', n1 := n', c1 := c' } : Cls).all st.k).toArray ∧ Ap wx (fun i => S1 i ∨ (w4.heap.size ≤ i ∧ i < wx.heap.size)) 48 3 A' n' c' (data'.flatMap encPk) ∧ Same (fun i => i < w4.heap.size ∧ i ≠ g) w4 wx
/-- An arrival's three results, in variables. -/
def CutR (X : World) (S : Nat → Prop) (k : Lk) (d : List Int) (s15 s16 s17 : Value) (wx : World) : Prop :=
  ∃ (b15 b17 : Nat) (cs : List Value) (A : Option Addr) (n c : Nat), s15 = .pointer (some ⟨b15, 0, none⟩) ∧ s16 = .slice A n c ∧ s17 = .pointer (some ⟨b17, 0, none⟩) ∧ X.heap.size ≤ b15 ∧ X.heap.size ≤ b17 ∧
    Blk wx b15 35 cs.toArray ∧ Blk wx b17 48 #[.int .i64 0, .int .i64 (k.want - 1), .int .i64 0] ∧ LkR wx (fun i => S i ∨ (X.heap.size ≤ i ∧ i < wx.heap.size ∧ i ≠ b15 ∧ i ≠ b17)) cs k ∧
    Sl encI 1 wx (fun i => X.heap.size ≤ i ∧ i < wx.heap.size ∧ i ≠ b15 ∧ i ≠ b17) A n c d ∧ Keep X wx
/-- The end of an arrival. -/
def CutZ (X : World) (g : Nat) (S2 S4 : Nat → Prop) (cs : List Value) (C : Cls) (ack : List Pk) (out : List Int) (nd : Nat) (wx : World) : Prop :=
  ∃ (A2 A4 : Option Addr) (c2 c4 lo4 hi4 lo2 hi2 : Nat), X.heap.size ≤ lo4 ∧ hi4 ≤ lo2 ∧ hi2 ≤ wx.heap.size ∧ lo4 ≤ hi4 ∧
    Blk wx g 41 (cs ++ ([.slice C.A1 C.n1 C.c1, .slice A2 (C.n2 + 1) c2, .slice C.A3 C.n3 C.c3, .slice A4 (C.n4 + nd) c4] : List Value)).toArray ∧
    Ap wx (fun i => S2 i ∨ (lo2 ≤ i ∧ i < hi2)) 48 3 A2 (C.n2 + 1) c2 (ack.flatMap encPk) ∧ Ap wx (fun i => S4 i ∨ (lo4 ≤ i ∧ i < hi4)) 3 1 A4 (C.n4 + nd) c4 (out.flatMap encI) ∧
    Same (fun i => i < X.heap.size ∧ i ≠ g ∧ ¬ S2 i ∧ ¬ S4 i) X wx
/-- What the step asks of a state. -/
structure Ok (st : Ws) : Prop where
  win0 : 1 ≤ st.k.win
  win1 : st.k.win ≤ 8
  kept : st.k.kept.length ≤ 8
  base0 : 0 ≤ st.k.base
  base1 : st.k.base ≤ 100000
  want0 : 0 ≤ st.k.want
  want1 : st.k.want ≤ 100000
  early : st.k.early.length ≤ 100
  asc : Asc st.k.early
  data : st.data.length ≤ 100000
  ack : st.ack.length ≤ 100000
  inn : st.inn.length ≤ 100000
  out : st.out.length ≤ 100000
  dseq : ∀ p ∈ st.data, I64 p.seq
  aack : ∀ p ∈ st.ack, I64 p.ack
  delivered : ∀ p ∈ st.data, (arriveD st.k p).length ≤ 1000
theorem Cod.more {w : World} {B B' : Nat → Prop} {gc r : Nat} (h : Cod w B gc r) (hB : ∀ i, B i → B' i) (hB' : ∀ i, B' i → i < w.heap.size) : Cod w B' gc r := by
  obtain ⟨h1, h2, A, n, c, i, hb, hi, hn, hc⟩ := h
  refine ⟨hB _ h1, hB', A, n, c, i, hb, hi, hn, fun j hj => ?_⟩
  obtain ⟨ad, b, e, h3, h4, x⟩ := hc j hj
  exact ⟨ad, b, e, h3, hB _ h4, x⟩
/-- The end of a step: all parts in their last world, under labels that say where the new blocks belong. -/
theorem StepPost.mk' {L : Nat → Nat} {g gc : Nat} {st : Ws} {r : Nat} {w w' : World} (F : Nat → Nat) {st' : Ws} {r' : Nat} {C : Cls} {S0 S1 S2 S3 S4 : Nat → Prop} (hstep : StepR st st') (hr : r' ≤ r - 1) (hz : w.heap.size ≤ w'.heap.size) (hg : g < w.heap.size) (hLg : L g = 5)
    (hp : Pcs S0 S1 S2 S3 S4 g C st' w') (hc : Cod w' (Lab w L 6) gc r')
    (h0 : ∀ i, S0 i → i < w'.heap.size ∧ ext L w.heap.size F i = 0) (h1 : ∀ i, S1 i → i < w'.heap.size → ext L w.heap.size F i = 1) (h2 : ∀ i, S2 i → i < w'.heap.size → ext L w.heap.size F i = 2) (h3 : ∀ i, S3 i → i < w'.heap.size → ext L w.heap.size F i = 3) (h4 : ∀ i, S4 i → i < w'.heap.size → ext L w.heap.size F i = 4)
    (hs : Same (fun i => i < w.heap.size ∧ (L i = 0 ∨ L i = 6) ∧ i ≠ gc) w w') : StepPost L g gc st r w (.returned (.bool true)) w' :=
  ⟨ext L w.heap.size F, st', r', rfl, hstep, hr, ⟨by rw [ext_old hg]; exact hLg, ⟨C, hp.blk, hp.kept.more h0, hp.early.more h0, hp.data.more (fun i hi hl => ⟨hl, h1 i hi hl⟩), hp.ack.more (fun i hi hl => ⟨hl, h2 i hi hl⟩), hp.inn.more (fun i hi hl => ⟨hl, h3 i hi hl⟩), hp.out.more (fun i hi hl => ⟨hl, h4 i hi hl⟩), hp.ldata, hp.lack, hp.linn, hp.lout⟩,
    hc.more (fun i hi => ⟨by have := hi.1; omega, by rw [ext_old hi.1]; exact hi.2⟩) (fun i hi => hi.1)⟩, fun i hi => ext_old hi, hs⟩
end Go.Proofs.Ytafgacfbplilpaa
