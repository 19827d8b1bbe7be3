/- Slices that may be appended to: a row of the call's own, or somebody's slice without room. Labels of blocks. -/
import Derived.Test.YthmepnpjagpcnaaApp
import Derived.Test.YthmepnpjagpcnaaMach3
import Derived.Test.YthmepnpjagpcnaaProg
set_option linter.unusedVariables false
set_option linter.unusedSimpArgs false
namespace Go.Proofs.Ythmepnpjagpcnaa
open Go.RowKit Go.Proofs

/-- The blocks of a label. -/
def Lab (w : World) (L : Nat → Nat) (a : Nat) (i : Nat) : Prop := i < w.heap.size ∧ L i = a
/-- Labels of new blocks. -/
def ext (L : Nat → Nat) (n0 : Nat) (F : Nat → Nat) (i : Nat) : Nat := if i < n0 then L i else F i
theorem ext_old {L : Nat → Nat} {n0 : Nat} {F : Nat → Nat} {i : Nat} (h : i < n0) : ext L n0 F i = L i := if_pos h
theorem ext_new {L : Nat → Nat} {n0 : Nat} {F : Nat → Nat} {i : Nat} (h : n0 ≤ i) : ext L n0 F i = F i := if_neg (by omega)
def Gl (w : World) (L : Nat → Nat) (a : Nat) (e : TypeId) (size : Nat) (A : Option Addr) (n c : Nat) (xs : List Value) : Prop :=
  n ≤ c ∧ c ≤ maxLen ∧ ((w.ownsRow 0 e size (.slice A n c) n xs ∧ ∀ b, Value.ownBlock (.slice A n c) = some b → L b = a) ∨ (c = n ∧ Reads w (Lab w L 0) size A n xs))
section
variable {w w' : World} {L L' : Nat → Nat} {a : Nat} {e : TypeId} {size : Nat} {A : Option Addr} {n c : Nat} {xs : List Value} {T : Nat → Prop}
theorem Gl.same (h : Gl w L a e size A n c xs) (hs : Same T w w') (hT : ∀ i, i < w.heap.size → (L i = a ∨ L i = 0) → T i) (hL : ∀ i, i < w.heap.size → L' i = L i) : Gl w' L' a e size A n c xs := by
  obtain ⟨h1, h2, h3⟩ := h
  refine ⟨h1, h2, ?_⟩
  rcases h3 with ⟨h3, h4⟩ | ⟨h3, h4⟩
  · exact .inl ⟨ownsRow_own h3 hs (fun b hb => hT b (h3.lt b hb).2 (.inl (h4 b hb))), fun b hb => by rw [hL b (h3.lt b hb).2]; exact h4 b hb⟩
  · exact .inr ⟨h3, (h4.keep (hs.mono (fun i hi => hT i hi.1 (.inr hi.2)))).more (fun i hi => ⟨Nat.lt_of_lt_of_le hi.1 hs.size, by rw [hL i hi.1]; exact hi.2⟩)⟩
theorem Gl.reads (h : Gl w L a e size A n c xs) : Reads w (fun i => i < w.heap.size ∧ (L i = a ∨ L i = 0)) size A n xs := by
  obtain ⟨h1, h2, h3⟩ := h
  rcases h3 with ⟨h3, h4⟩ | ⟨h3, h4⟩
  · have hr := Reads.of_own h3
    refine ⟨hr.1, fun hn => ?_⟩
    obtain ⟨b, off, e, hb, hc⟩ := hr.2 hn
    rcases h3.2 with ⟨h0, h00⟩ | ⟨g, cap, cur, hv, _⟩
    · omega
    · injection hv with hv
      rw [e] at hv
      injection hv with hv
      injection hv with hv1 hv2
      refine ⟨b, off, e, ⟨hb.2, .inl (h4 b ?_)⟩, hc⟩
      rw [e, hv2]
      rfl
  · exact h4.more (fun i hi => ⟨hi.1, .inr hi.2⟩)
theorem Gl.sl {α : Type} {enc : α → List Value} {l : List α} (h : Gl w L a e size A l.length c (l.flatMap enc)) : Sl enc size w (fun i => i < w.heap.size ∧ (L i = a ∨ L i = 0)) A l.length c l := ⟨rfl, h.1, h.2.1, h.reads⟩
theorem Gl.nil_ : Gl w L a e size none 0 0 [] := ⟨Nat.le_refl _, by simp [maxLen], .inl ⟨World.ownsRow_nil _ _ _ _, fun b hb => by cases hb⟩⟩
theorem Gl.full (h : Reads w (Lab w L 0) size A n xs) (hn : n ≤ maxLen) : Gl w L a e size A n n xs := ⟨Nat.le_refl _, hn, .inr ⟨rfl, h⟩⟩
variable {P : Program}
theorem run_append_gl (t ty : TypeId) (i : TypeInfo) (z : Value) (bytes : Nat) (ht : P.underlying t = some (.slice e)) (hi : P.info? e = some i) (hz : i.zero = some z)
    (hsize : i.size = size) (hby : i.bytes = bytes) (hzs : z.cells.size = size) (hsz : 0 < size) (h : Gl w L a e size A n c xs)
    (T : Nat → Prop) (B : Option Addr) (m c2 : Nat) (news : List Value) (hr : Reads w T size B m news) (h1 : ∀ u ∈ news, u.oneCell' = true) (hm : 0 < m)
    (h63 : n + m ≤ maxLen) (hbytes : (n + m) * bytes ≤ 140737488355328) :
    ∃ A' c' w', (Builtin.append_ #[t, t] ty #[.slice A n c, .slice B m c2]).run P w = .ok (.slice A' (n + m) c') w' ∧ Gl w' (ext L w.heap.size (fun _ => a)) a e size A' (n + m) c' (xs ++ news) ∧ Same (fun k => k < w.heap.size ∧ L k ≠ a) w w' := by
  obtain ⟨g1, g2, g3⟩ := h
  rcases g3 with ⟨g3, g4⟩ | ⟨g3, g4⟩
  · obtain ⟨v', w', hrun, hown, hg, hat⟩ := run_append_any (P := P) w 0 t ty e i z size bytes ht hi hz hsize hby hzs hsz (.slice A n c) n xs g3 T B m c2 news hr h1 h63 hbytes (Nat.zero_le _)
    obtain ⟨A', c', rfl, hn', hc'⟩ := own_form hown
    refine ⟨A', c', w', hrun, ⟨hn', hc', .inl ⟨hown, fun b hb => ?_⟩⟩, Same.grown (Same.refl _ _) hg (fun i hi => hi.1) (fun k hk hh => hh.2 (g4 k hk))⟩
    rcases hat with h | h
    · rw [h] at hb
      rw [ext_old (g3.lt b hb).2]
      exact g4 b hb
    · rw [h] at hb
      injection hb with hb
      rw [ext_new (by omega)]
  · subst g3
    obtain ⟨v', w', hrun, hown, hk, hat⟩ := run_append_full (P := P) w 0 t ty e i z size bytes ht hi hz hsize hby hzs _ A c xs g4 T B m c2 news hr hm h63 hbytes (Nat.zero_le _)
    obtain ⟨A', c', rfl, hn', hc'⟩ := own_form hown
    refine ⟨A', c', w', hrun, ⟨hn', hc', .inl ⟨hown, fun b hb => ?_⟩⟩, hk.mono (fun i hi => hi.1)⟩
    rw [hat] at hb
    injection hb with hb
    rw [ext_new (by omega)]
theorem step_append_gl {ops : Array Oper} {o : Oper} {ac : Act} {K : Act → World → Prop} {Q : Exit → Act → World → Prop} {E : Prop} (hgd : o.guard = none) (s x : Operand) (t : TypeId)
    (ho : o.op = .call { callee := .builtin .append, args := #[s, x], argTypes := #[t, t] })
    (i : TypeInfo) (z : Value) (bytes : Nat) (ht : P.underlying t = some (.slice e)) (hi : P.info? e = some i) (hz : i.zero = some z)
    (hsize : i.size = size) (hby : i.bytes = bytes) (hzs : z.cells.size = size) (hsz : 0 < size) (hsv : ac.eval s = .slice A n c) (hg : Gl w L a e size A n c xs)
    (T : Nat → Prop) (B : Option Addr) (m c2 : Nat) (news : List Value) (hx : ac.eval x = .slice B m c2) (hr : Reads w T size B m news) (h1 : ∀ u ∈ news, u.oneCell' = true) (hm : 0 < m)
    (h63 : n + m ≤ maxLen) (hbytes : (n + m) * bytes ≤ 140737488355328)
    (h : ∀ A' c' w', Gl w' (ext L w.heap.size (fun _ => a)) a e size A' (n + m) c' (xs ++ news) → Same (fun k => k < w.heap.size ∧ L k ≠ a) w w' → K (ac.put o.dst (.slice A' (n + m) c')) w') :
    if Region.wanted o (yielded ops ac.tmps) = true then Oper.wp P o ac w K Q else E := by
  have hw : Region.wanted o (yielded ops ac.tmps) = true := by simp [Region.wanted, hgd]
  rw [if_pos hw]
  obtain ⟨A', c', w', hrun, h2, h3⟩ := run_append_gl (P := P) t o.type i z bytes ht hi hz hsize hby hzs hsz hg T B m c2 news hr h1 hm h63 hbytes
  unfold Oper.wp execOp
  simp only [ho, resolve, invoke, builtin, Sem.run_bind, Sem.run_pure, Result.andThen_ok, List.map_toArray, List.map_cons, List.map_nil, hsv, hx, hrun]
  exact h A' c' w' h2 h3
end
/-- The state s at block g, a label for each of its parts: 1 the block itself, 2 the cells, 3 the events, 4 the messages, 5 the outputs; 0 is everybody else's. -/
def StM (w : World) (L : Nat → Nat) (g : Nat) (s : St) : Prop :=
  ∃ (A1 A2 A3 A4 : Option Addr) (n1 c1 c2 c3 c4 : Nat), Blk w g 105 #[.slice A1 n1 c1, .slice A2 s.events.length c2, .slice A3 s.sent.length c3, .slice A4 s.outs.length c4] ∧ L g = 1 ∧ Sl encI 1 w (fun i => i < w.heap.size ∧ (L i = 2 ∨ L i = 0)) A1 n1 c1 s.cells ∧
    Gl w L 3 50 7 A2 s.events.length c2 (s.events.flatMap encEv) ∧ Gl w L 4 136 4 A3 s.sent.length c3 (s.sent.flatMap encSnd) ∧ Gl w L 5 133 2 A4 s.outs.length c4 (s.outs.flatMap encOut)
theorem slL {α : Type} {enc : α → List Value} {size : Nat} {w w' : World} {L L' : Nat → Nat} {a : Nat} {A : Option Addr} {n c : Nat} {l : List α} {T : Nat → Prop} (h : Sl enc size w (fun i => i < w.heap.size ∧ (L i = a ∨ L i = 0)) A n c l) (hs : Same T w w') (hT : ∀ i, i < w.heap.size → (L i = a ∨ L i = 0) → T i) (hL : ∀ i, i < w.heap.size → L' i = L i) : Sl enc size w' (fun i => i < w'.heap.size ∧ (L' i = a ∨ L' i = 0)) A n c l :=
  (h.keep (hs.mono (fun i hi => hT i hi.1 hi.2))).more (fun i hi => ⟨Nat.lt_of_lt_of_le hi.1 hs.size, by rw [hL i hi.1]; exact hi.2⟩)
theorem StM.keep {w w' : World} {L L' : Nat → Nat} {g : Nat} {s : St} (h : StM w L g s) (hk : Keep w w') (hL : ∀ i, i < w.heap.size → L' i = L i) : StM w' L' g s := by
  obtain ⟨A1, A2, A3, A4, n1, c1, c2, c3, c4, hb, h1, h2, h3, h4, h5⟩ := h
  exact ⟨A1, A2, A3, A4, n1, c1, c2, c3, c4, hk.blk hb hb.lt, by rw [hL g hb.lt]; exact h1, slL h2 hk (fun i hi _ => hi) hL, h3.same hk (fun i hi _ => hi) hL, h4.same hk (fun i hi _ => hi) hL, h5.same hk (fun i hi _ => hi) hL⟩
theorem StM.lt {w : World} {L : Nat → Nat} {g : Nat} {s : St} (h : StM w L g s) : g < w.heap.size ∧ L g = 1 := by
  obtain ⟨A1, A2, A3, A4, n1, c1, c2, c3, c4, hb, h1, _⟩ := h
  exact ⟨hb.lt, h1⟩
/-- The state's four cells, read. -/
theorem StM.open_ {w : World} {L : Nat → Nat} {g : Nat} {s : St} (h : StM w L g s) : ∃ (B1 B2 B3 B4 : Option Addr) (p1 q1 p2 q2 p3 q3 p4 q4 : Nat), Blk w g 105 #[.slice B1 p1 q1, .slice B2 p2 q2, .slice B3 p3 q3, .slice B4 p4 q4] ∧ StR w (fun i => i < w.heap.size ∧ i ≠ g ∧ (L i = 0 ∨ L i = 2 ∨ L i = 3 ∨ L i = 4 ∨ L i = 5)) [.slice B1 p1 q1, .slice B2 p2 q2, .slice B3 p3 q3, .slice B4 p4 q4] s := by
  obtain ⟨A1, A2, A3, A4, n1, c1, c2, c3, c4, hb, h1, h2, h3, h4, h5⟩ := h
  have hne : ∀ i a, a ≠ 1 → (L i = a ∨ L i = 0) → i ≠ g := fun i a ha h e => by subst e; omega
  refine ⟨A1, A2, A3, A4, n1, c1, _, c2, _, c3, _, c4, hb, A1, A2, A3, A4, n1, c1, _, c2, _, c3, _, c4, rfl, h2.more (fun i hi => ⟨hi.1, hne i 2 (by omega) hi.2, by omega⟩), h3.sl.more (fun i hi => ⟨hi.1, hne i 3 (by omega) hi.2, by omega⟩), h4.sl.more (fun i hi => ⟨hi.1, hne i 4 (by omega) hi.2, by omega⟩), h5.sl.more (fun i hi => ⟨hi.1, hne i 5 (by omega) hi.2, by omega⟩)⟩
end Go.Proofs.Ythmepnpjagpcnaa
