import Derived.Test.YthmepnpjagpcnaaBase
import Derived.OpenShut
import Derived.Test.YthmepnpjagpcnaaIdealN
import Derived.Test.YthmepnpjagpcnaaBlk
import Derived.Test.YthmepnpjagpcnaaStm
import Derived.Test.YthmepnpjagpcnaaIdealM
import Derived.Test.YthmepnpjagpcnaaIdealP
import Derived.Test.YthmepnpjagpcnaaEval2
-- RowIn
/- Slices of integers that came in, as the row's frame gives them, read as lists. -/
set_option linter.unusedVariables false
namespace Go.Proofs.Ythmepnpjagpcnaa
open Go.RowKit

theorem sl_of_ints {k : IntKind} {w : World} {a : Option Addr} {len cap : Nat} {zs : List Int}
    (h : (a = none ∧ len = 0 ∧ cap = 0 ∧ zs = []) ∨ ∃ x, a = some x ∧ len ≤ cap ∧ cap ≤ maxLen ∧ zs.length = cap ∧ (∀ i, i < zs.length → w.cell? (x.add i) = some (.int k (zs.getD i 0))) ∧ ∀ n ∈ zs, (Lit.int k n).wf = true) :
    Sl (fun x : Int => [.int k x]) 1 w (· < w.heap.size) a len cap (zs.take len) := by
  rcases h with ⟨rfl, rfl, rfl, rfl⟩ | ⟨x, rfl, h1, h2, h3, h4, _⟩
  · exact Sl.nil_
  · refine ⟨by simp; omega, h1, h2, by rw [flat_length (size := 1) (fun _ => rfl)]; simp; omega, fun hn => ?_⟩
    obtain ⟨b, off, spot⟩ := x
    have h0 := h4 0 (by omega)
    have hs : spot = none := by simpa [Addr.add] using World.cell?_spot h0
    subst hs
    refine ⟨b, off, rfl, ?_, fun j u hu => ?_⟩
    · have := World.block_lt_of_cell? w _ h0
      simpa [Addr.add] using this
    · have hj : j < len := by
        have := (List.getElem?_eq_some_iff.1 hu).1
        rw [flat_length (size := 1) (fun _ => rfl)] at this
        simp at this
        omega
      have hc := h4 j (by omega)
      rw [add_lit'] at hc
      rw [hc]
      have e : ((zs.take len).flatMap fun x : Int => [Value.int k x])[j]? = some (.int k (zs.getD j 0)) := by
        have := flat_get (enc := fun x : Int => [Value.int k x]) (size := 1) (fun _ => rfl) (zs.take len) j 0 (by simp; omega) (by omega)
        simp only [Nat.mul_one, Nat.add_zero] at this
        rw [this]
        simp [show j < zs.length by omega]
      rw [e] at hu
      exact hu
theorem wf_take {k : IntKind} {len : Nat} {zs : List Int} (h : ∀ n ∈ zs, (Lit.int k n).wf = true) : ∀ n ∈ zs.take len, (Lit.int k n).wf = true := fun n hn => h n (List.mem_of_mem_take hn)
theorem wf_ints {k : IntKind} {w : World} {a : Option Addr} {len cap : Nat} {zs : List Int}
    (h : (a = none ∧ len = 0 ∧ cap = 0 ∧ zs = []) ∨ ∃ x, a = some x ∧ len ≤ cap ∧ cap ≤ maxLen ∧ zs.length = cap ∧ (∀ i, i < zs.length → w.cell? (x.add i) = some (.int k (zs.getD i 0))) ∧ ∀ n ∈ zs, (Lit.int k n).wf = true) :
    ∀ n ∈ zs.take len, (Lit.int k n).wf = true := by
  rcases h with ⟨rfl, rfl, rfl, rfl⟩ | ⟨x, rfl, _, _, _, _, h⟩
  · simp
  · exact wf_take h
theorem i64_of_wf {x : Int} (h : (Lit.int .i64 x).wf = true) : I64 x := by
  have := bounds_i64 h
  exact ⟨by omega, by omega⟩
theorem u8_of_wf {x : Int} (h : (Lit.int .u8 x).wf = true) : 0 ≤ x ∧ x < 256 := by
  have := bounds_u8 h
  omega
end Go.Proofs.Ythmepnpjagpcnaa

-- Lim40
/- The limits of the machine that never fails, in plain Lean. -/
set_option linter.unusedVariables false
set_option linter.unusedSimpArgs false
namespace Go.Proofs.Ythmepnpjagpcnaa
open Go.RowKit Go.Proofs

def tickC : Chc := ⟨0, 2, 0, 0, 0, 0⟩
def zeroC : Chc := ⟨0, 0, 0, 0, 0, 0⟩
def noCds (k : Nat) : List Cd := List.replicate k zeroCd
theorem tick_run (cs : List Cd) : ∀ (j : Nat) (m : Mi), 0 < m.ss.length → (m.ss.getD 0 zeroSt).events.length ≤ 64 →
    ((m.ss.getD 0 zeroSt).events.length + j ≤ 64 → ∃ m', playI cs m (List.replicate j tickC) = .ok m') ∧ (64 < (m.ss.getD 0 zeroSt).events.length + j → playI cs m (List.replicate j tickC) = .error 4)
  | 0, m, h0, h1 => ⟨fun _ => ⟨m, rfl⟩, fun h => by omega⟩
  | j + 1, m, h0, h1 => by
    have hok : okI m.ss.length tickC = true := by simp [okI, procI, tickC]; exact h0
    have hst : stAt m.ss tickC.proc = m.ss.getD 0 zeroSt := rfl
    by_cases hf : 64 ≤ (m.ss.getD 0 zeroSt).events.length
    · have he : eventI m.ss tickC = (zeroEv, 4) := by
        unfold eventI
        rw [if_neg (by rw [hok]; decide), hst, if_pos hf]
      refine ⟨fun h => by omega, fun _ => ?_⟩
      rw [List.replicate_succ, playI, he]
      rfl
    · have he : eventI m.ss tickC = (⟨2, 0, 0, 0, 0, 0, 0⟩, 0) := by
        unfold eventI
        rw [if_neg (by rw [hok]; decide), hst, if_neg hf, if_pos (by decide)]
        rfl
      have hl : (execI cs m 0 ⟨2, 0, 0, 0, 0, 0, 0⟩).ss.length = m.ss.length := by simp [execI]
      have hev : ((execI cs m 0 ⟨2, 0, 0, 0, 0, 0, 0⟩).ss.getD 0 zeroSt).events.length = (m.ss.getD 0 zeroSt).events.length + 1 := by
        simp only [execI]
        rw [getD_set_same (by omega), nextS_events]
        simp
      have ih := tick_run cs j (execI cs m 0 ⟨2, 0, 0, 0, 0, 0, 0⟩) (by omega) (by omega)
      rw [hev] at ih
      have hp : playI cs m (List.replicate (j + 1) tickC) = playI cs (execI cs m 0 ⟨2, 0, 0, 0, 0, 0, 0⟩) (List.replicate j tickC) := by
        rw [List.replicate_succ, playI, he]
        rfl
      rw [hp]
      exact ⟨fun h => ih.1 (by omega), fun h => ih.2 (by omega)⟩
/-- The answer to j ticks at k processes without code. -/
def limE (k j : Nat) : Int := if k < 1 ∨ 5 < k then 3 else if 64 < j then 4 else 0
theorem lim_run (k j : Nat) (hj : j ≤ 320) : (limE k j = 0 → ∃ m, runI (noCds k) (List.replicate j tickC) = .ok m) ∧ (limE k j ≠ 0 → runI (noCds k) (List.replicate j tickC) = .error (limE k j)) := by
  have hlen : (noCds k).length = k := by simp [noCds]
  unfold limE runI
  rw [hlen]
  by_cases h1 : k < 1 ∨ 5 < k
  · rw [if_pos h1, if_pos h1]
    exact ⟨fun h => by omega, fun _ => rfl⟩
  · rw [if_neg h1, if_neg h1, if_neg (show ¬ 320 < (List.replicate j tickC).length by simp; omega)]
    have hss : (startI (noCds k) k).ss.length = k := startI_len _ _
    have hg := startI_get (noCds k) k 0 (by omega)
    have he : ((startI (noCds k) k).ss.getD 0 zeroSt).events.length = 0 := by rw [hg, startS_eq, replayS_events]; rfl
    have h := tick_run (noCds k) j (startI (noCds k) k) (by omega) (by omega)
    rw [he] at h
    by_cases h2 : 64 < j
    · rw [if_pos h2]
      exact ⟨fun h => by omega, fun _ => h.2 (by omega)⟩
    · rw [if_neg h2]
      exact ⟨fun _ => h.1 (by omega), fun h => absurd rfl h⟩
theorem lim_many (k : Nat) (l : List Chc) (hl : 320 < l.length) : runI (noCds k) l = .error (if k < 1 ∨ 5 < k then 3 else 4) := by
  have hlen : (noCds k).length = k := by simp [noCds]
  unfold runI
  rw [hlen]
  by_cases h1 : k < 1 ∨ 5 < k
  · rw [if_pos h1, if_pos h1]
  · rw [if_neg h1, if_neg h1, if_pos hl]
end Go.Proofs.Ythmepnpjagpcnaa

-- Bx
/- A slice literal whose world is abstract behind it. -/
set_option linter.unusedVariables false
set_option linter.unusedSimpArgs false
namespace Go.Proofs.Ythmepnpjagpcnaa
open Go.RowKit Go.Proofs

section
variable {P : Program} {ops : Array Oper} {rest : List Oper} {o : Oper} {a : Act} {w : World} {Q : Exit → Act → World → Prop}
/-- A slice literal, the world abstract behind it. -/
theorem wpList_buildX (hg : o.guard = none) (t e : TypeId) (len : Nat) (parts : Array (Nat × Operand)) (ho : o.op = .buildSlice t len parts) (hu : P.underlying t = some (.slice e)) (cells : Array Value)
    (vs : List (Nat × Value)) (hp : parts.toList.map (fun p => (p.1, a.eval p.2)) = vs) (hf : builtS P e len vs = some cells)
    (h : ∀ w', Blk w' w.heap.size e cells → Keep w w' → w.heap.size < w'.heap.size → wpList P ops Q rest (a.put o.dst (.slice (some ⟨w.heap.size, 0, none⟩) len len)) w') : wpList P ops Q (o :: rest) a w :=
  wpList_buildS hg t e len parts ho hu cells vs hp hf (h _ (Blk.new _ _ _) (Keep.new _ _) (by simp))
end
def exC (op val : Int) (name : ByteArray) (A : Option Addr) (m : Nat) : List Value := [.int .i64 op, .int .i64 val, .string name, .int .i64 0, .int .i64 0, .slice A m m]
def stC (k : Int) (name : ByteArray) (ps vs : List Value) (A : Option Addr) (m : Nat) : List Value := .int .i64 k :: .string name :: .int .i64 0 :: .int .i64 0 :: (ps ++ (vs ++ [.slice A m m, .slice none 0 0]))
def z6 : List Value := [.int .i64 0, .int .i64 0, .string ⟨#[]⟩, .int .i64 0, .int .i64 0, .slice none 0 0]
section
variable {w : World} {S : Nat → Prop}
theorem st_leaf {k : Int} {name : ByteArray} {ps vs : List Value} {p v : Ex} (hp : ExR w S 5 ps p) (hv : ExR w S 5 vs v) (n : Nat) : StmR w S (n + 1) (stC k name ps vs none 0) (.mk k name 0 0 p v [] []) :=
  ⟨I64.zero, I64.zero, ps, vs, none, none, 0, 0, 0, 0, rfl, hp, hv, SlR.nil_, SlR.nil_⟩
end
end Go.Proofs.Ythmepnpjagpcnaa

-- Cdv
/- Codes as elements of a list. -/
set_option linter.unusedVariables false
set_option linter.unusedSimpArgs false
set_option maxRecDepth 100000
namespace Go.Proofs.Ythmepnpjagpcnaa
open Go.RowKit Go.Proofs

def CdV (w : World) (S : Nat → Prop) (cs : List Value) (c : Cd) : Prop := CdR w S cs c
theorem CdV.good : Good CdV := ⟨fun hk h => h.keep hk, fun hS h => h.more hS⟩
def nil5c : List Value := [.slice none 0 0, .slice none 0 0, .slice none 0 0, .slice none 0 0, .slice none 0 0]
theorem info_Code : (Try.prog.info? 63).map (fun i => (i.zero, i.size, i.bytes)) = some (some (.agg nil5c.toArray), 5, 120) := by kernel_rfl
theorem built_cd1 (A0 A1 A2 A3 A4 : Option Addr) (n0 c0 n1 c1 n2 c2 n3 c3 n4 c4 : Nat) : builtS Try.prog 63 1 [(0, .agg #[.slice A0 n0 c0, .slice A1 n1 c1, .slice A2 n2 c2, .slice A3 n3 c3, .slice A4 n4 c4])] = some #[.slice A0 n0 c0, .slice A1 n1 c1, .slice A2 n2 c2, .slice A3 n3 c3, .slice A4 n4 c4] := by kernel_rfl
end Go.Proofs.Ythmepnpjagpcnaa

-- IdealA
/- law40.awake. -/
set_option linter.unusedVariables false
set_option linter.unusedSimpArgs false
set_option maxRecDepth 100000
namespace Go.Proofs.Ythmepnpjagpcnaa
open Go.RowKit Go.Proofs

/-! ### what the chapter's example is -/
def oneEx : Ex := .mk 1 1 ⟨#[]⟩ 0 0 []
def outSt : Stm := .mk 6 ⟨#[]⟩ 0 0 zeroEx oneEx [] []
def cdA : Cd := ⟨[], [outSt], [], [], []⟩
theorem cdA_start : startS cdA 0 1 = ⟨[], [], [], [⟨0, 1⟩]⟩ := by
  have a1 := Exec.simple (v := ⟨0, 1, 0, 0⟩) (s := outSt) (m := ⟨[], [], 400⟩) (by show (0 : Nat) < 400; omega) (by decide) (by decide)
  have e1 : simpleS ⟨0, 1, 0, 0⟩ outSt (Ms.pay ⟨[], [], 400⟩) = ⟨[], [⟨2, 0, 1⟩], 399⟩ := by
    simp [simpleS, outSt, oneEx, Stm.kind, Stm.slot, Stm.value, Ms.pay, Ms.eff, valS]
  rw [e1] at a1
  have a2 := Exec.cons a1 (Exec.nil _)
  unfold startS runS
  rw [show cdA.start = [outSt] from rfl, show cdA.init = [] from rfl, execF_of a2]
  simp [Res.st, sendsOf, outsOf]
theorem runA0 : ∃ m, runI [cdA] [] = .ok m ∧ m.world = [⟨0, 0, 0, 1⟩] := by
  refine ⟨_, by rw [runI_of (by simp) (by simp) (by simp)]; rfl, ?_⟩
  show (startI [cdA] 1).world = _
  simp only [startI]
  rw [show ([cdA] : List Cd).getD 0 zeroCd = cdA from rfl]
  have : (([cdA] : List Cd).length : Int) = 1 := rfl
  rw [this, show ((0 : Nat) : Int) = 0 from rfl, cdA_start]
  rfl
theorem runA1 : ∃ m, runI [cdA] [⟨0, 2, 0, 0, 0, 3⟩] = .ok m ∧ m.ss.length = 1 ∧ (m.ss.getD 0 zeroSt).events.length = 1 := by
  have hl : (startI [cdA] 1).ss.length = 1 := startI_len _ _
  have hg : (startI [cdA] 1).ss.getD 0 zeroSt = startS cdA 0 1 := startI_get [cdA] 1 0 (by omega)
  have hev : eventI (startI [cdA] 1).ss ⟨0, 2, 0, 0, 0, 3⟩ = (⟨2, 0, 0, 0, 0, 0, 3⟩, 0) := by
    unfold eventI
    rw [if_neg (by rw [hl]; decide), if_neg (by show ¬ 64 ≤ ((startI [cdA] 1).ss.getD 0 zeroSt).events.length; rw [hg, cdA_start]; simp), if_pos (by simp)]
  refine ⟨execI [cdA] (startI [cdA] 1) 0 ⟨2, 0, 0, 0, 0, 0, 3⟩, ?_, by rw [execI_len, hl], ?_⟩
  · rw [runI_of (by simp) (by simp) (by simp)]
    show playI [cdA] (startI [cdA] 1) [_] = _
    rw [playI, hev]
    rfl
  · rw [execI_get (by omega), nextS_events, hg, cdA_start]
    rfl
theorem bld_exA : Try.prog.built 97 [(0, .int .i64 1), (1, .int .i64 1)] = some #[.int .i64 1, .int .i64 1, .string ⟨#[]⟩, .int .i64 0, .int .i64 0, .slice none 0 0] := by kernel_rfl
def stA1 : List Value := stC 6 ⟨#[]⟩ z6 (exC 1 1 ⟨#[]⟩ none 0) none 0
theorem bld_stA1 : Try.prog.built 99 [(0, .int .i64 6), (5, .agg #[.int .i64 1, .int .i64 1, .string ⟨#[]⟩, .int .i64 0, .int .i64 0, .slice none 0 0])] = some stA1.toArray := by kernel_rfl
theorem built_stA1 : builtS Try.prog 99 1 [(0, .agg stA1.toArray)] = some stA1.toArray := by kernel_rfl
theorem bld_cdA (A : Option Addr) : Try.prog.built 63 [(1, .slice A 1 1)] = some #[.slice none 0 0, .slice A 1 1, .slice none 0 0, .slice none 0 0, .slice none 0 0] := by kernel_rfl
theorem bld_cfA (A : Option Addr) : Try.prog.built 59 [(0, .slice A 1 1)] = some #[.slice A 1 1, .int .i64 0, .int .i64 0] := by kernel_rfl
theorem bld_chT : Try.prog.built 45 [(1, .int .i64 2), (5, .int .i64 3)] = some #[.int .i64 0, .int .i64 2, .int .i64 0, .int .i64 0, .int .i64 0, .int .i64 3] := by kernel_rfl
theorem built_chA (a b c d e f : Int) : builtS Try.prog 45 1 [(0, .agg #[.int .i64 a, .int .i64 b, .int .i64 c, .int .i64 d, .int .i64 e, .int .i64 f])] = some #[.int .i64 a, .int .i64 b, .int .i64 c, .int .i64 d, .int .i64 e, .int .i64 f] := by kernel_rfl
def Aw40Post (w : World) (e : Ending) (w' : World) : Prop := e = .returned (.bool true) ∧ Keep w w'
theorem load_range_w {P : Program} {ops : Array Oper} {rest : List Oper} {op : Oper} {a : Act} {w : World} {Q : Exit → Act → World → Prop} (hw : Region.wanted op (yielded ops a.tmps) = true) (ty : TypeId) (x : Operand) (ho : op.op = .load ty x)
    (g o : Nat) (vs : List Value) (d : TypeDesc) (hx : a.eval x = .pointer (some ⟨g, o, none⟩)) (hc : w.rangeAt g o vs)
    (hu : P.underlying ty = some d) (hd : d.isRow = true) (hi : (P.info? ty).map (·.size) = some vs.length)
    (h : wpList P ops Q rest (a.put op.dst (.agg vs.toArray)) w) : wpList P ops Q (op :: rest) a w :=
  wpList_step fun K hK => by
    rw [if_pos hw]
    exact wp_load_mid ty x ho g o hx vs d hc hu hd hi (hK _ _ h)
set_option maxHeartbeats 16000000 in
theorem awake40_any (w : World) : Calls Try.prog 22 #[] w (Aw40Post w) := by
  go_enter Try.func22, Try.ntmps22
  go_wp2_with (first
    | (refine wpList_bld rfl 97 _ rfl _ [(0, .int .i64 1), (1, .int .i64 1)] rfl bld_exA ?_)
    | (refine wpList_bld rfl 99 _ rfl _ [(0, .int .i64 6), (5, .agg #[.int .i64 1, .int .i64 1, .string ⟨#[]⟩, .int .i64 0, .int .i64 0, .slice none 0 0])] rfl bld_stA1 ?_; refine Hid.out ?_))
  refine Lib.hid ?_
  go_wp2_with (refine wpList_buildX rfl 61 99 1 _ rfl Try.underlying61 _ [(0, .agg stA1.toArray)] rfl built_stA1 ?_; intro w1 hb1 hk1 hz1; refine Hid.out ?_)
  refine Lib.hid ?_
  have HB1 := Lib.hid hb1
  have HK1 := Lib.hid hk1
  clear hb1 hk1
  go_wp2_with (first
    | (refine wpList_bld rfl 63 _ rfl _ [(1, .slice (some ⟨w.heap.size, 0, none⟩) 1 1)] rfl (bld_cdA _) ?_)
    | (refine wpList_buildX rfl 57 63 1 _ rfl Try.underlying57 _ [(0, .agg #[.slice none 0 0, .slice (some ⟨w.heap.size, 0, none⟩) 1 1, .slice none 0 0, .slice none 0 0, .slice none 0 0])] rfl (built_cd1 _ _ _ _ _ _ _ _ _ _ _ _ _ _ _) ?_; intro w2 hb2 hk2 hz2; refine Hid.out ?_))
  refine Lib.hid ?_
  have HB2 := Lib.hid hb2
  have HK2 := Lib.hid hk2
  clear hb2 hk2
  go_upto_region 2 with (first
    | (refine wpList_bld rfl 59 _ rfl _ [(0, .slice (some ⟨w1.heap.size, 0, none⟩) 1 1)] rfl (bld_cfA _) ?_)
    | (refine wpList_store_all rfl _ (.tmp 1) (.tmp 11) rfl w2.heap.size 59 _ [.slice (some ⟨w1.heap.size, 0, none⟩) 1 1, .int .i64 0, .int .i64 0] rfl rfl (Blk.new _ _ _) rfl (by kernel_rfl) rfl ?_; intro w3 hb3 hs3))
  have hk3 : Keep w2 w3 := Keep.write (Keep.new _ _) hs3 (Nat.le_refl _)
  have hz3 : w2.heap.size < w3.heap.size := hb3.lt
  have c1 := (Keep.trans HK2.out hk3).blk HB1.out (by omega)
  have c2 := hk3.blk HB2.out (by omega)
  have hw3 := Keep.trans (Keep.trans HK1.out HK2.out) hk3
  have hstm : StmR w3 (Bw w3) 3 stA1 outSt := st_leaf (zeroEx_R 4) (ExR.leaf 4 1 1 ⟨#[]⟩) 2
  have hcd : CdV w3 (Bw w3) [.slice none 0 0, .slice (some ⟨w.heap.size, 0, none⟩) 1 1, .slice none 0 0, .slice none 0 0, .slice none 0 0] cdA := ⟨none, _, none, none, none, 0, 0, 1, 1, 0, 0, 0, 0, 0, 0, rfl, Sl.nil_, SlR.one (R := fun w S cs s => StmR w S 3 cs s) c1 (by show w.heap.size < w3.heap.size; omega) rfl hstm, SlR.nil_, SlR.nil_, SlR.nil_, by simp [cdA]⟩
  have hcds : CdsR w3 (Bw w3) (some ⟨w1.heap.size, 0, none⟩) 1 1 [cdA] := SlR.one (R := CdV) c2 (by show w1.heap.size < w3.heap.size; omega) rfl hcd
  have hini : ∀ c ∈ [cdA], c.init.length ≤ 1000000 := by intro c hc; simp at hc; subst hc; simp [cdA]
  have hworld := iworld_any w3 (Bw w3) (some ⟨w1.heap.size, 0, none⟩) none 1 1 0 0 0 0 [cdA] [] (fun i hi => hi) hcds hini Sl.nil_ (by omega) (by omega)
  have HB3 := Lib.hid hb3
  have HW3 := Lib.hid hw3
  have HCDS := Lib.hid hcds
  have HINI := Lib.hid hini
  have HWORLD := Lib.hid hworld
  clear hb3 hw3 hcds hini hworld
  clear hs3 hk3 c1 c2 hstm hcd
  go_wp2_with (refine wpList_load_all rfl _ (.tmp 1) rfl w2.heap.size 59 [.slice (some ⟨w1.heap.size, 0, none⟩) 1 1, .int .i64 0, .int .i64 0] _ rfl HB3.out Try.underlying59 rfl (by kernel_rfl) ?_)
  refine HWORLD.out.mono ?_
  obtain ⟨ma, hma, hmw⟩ := runA0
  rintro e w4 ⟨hk4, ⟨m, A4, c4, hrun, rfl, hsl4⟩ | ⟨k, hrun, -, -⟩⟩
  case inr => rw [hma] at hrun; cases hrun
  rw [hma] at hrun
  injection hrun with hrun
  subst hrun
  rw [hmw] at hsl4
  rw [hmw]
  have hz4 := hk4.size
  obtain ⟨b4, o4, x4, hA4, hb4, hx4, hcx4⟩ := hsl4.at_ encSh_len (k := 0) (by simp)
  subst hA4
  simp only [List.length_cons, List.length_nil, Nat.zero_add, Nat.zero_mul, Nat.add_zero, List.getElem?_cons_zero, Option.some.injEq] at hx4 hcx4
  subst hx4
  have hc4 : 1 ≤ c4 := by have := hsl4.2.1; simpa using this
  have hb43 := hk4.blk HB3.out hz3
  have HB43 := Lib.hid hb43
  have HK4 := Lib.hid hk4
  have HCX4 := Lib.hid hcx4
  clear hb43 hk4 hcx4
  clear hsl4 hma hmw
  simp only [List.length_cons, List.length_nil, Nat.zero_add]
  go_wp2_with (first
    | (refine wpList_load_all rfl _ (.tmp 1) rfl w2.heap.size 59 [.slice (some ⟨w1.heap.size, 0, none⟩) 1 1, .int .i64 0, .int .i64 0] _ rfl HB43.out Try.underlying59 rfl (by kernel_rfl) ?_)
    | (refine wpList_bld rfl 45 _ rfl _ [(1, .int .i64 2), (5, .int .i64 3)] rfl bld_chT ?_)
    | (refine wpList_buildX rfl 38 45 1 _ rfl Try.underlying38 _ [(0, .agg #[.int .i64 0, .int .i64 2, .int .i64 0, .int .i64 0, .int .i64 0, .int .i64 3])] rfl (built_chA _ _ _ _ _ _) ?_; intro w5 hb5 hk5 hz5; refine Hid.out ?_))
  refine Lib.hid ?_
  have hcl5 : Sl encCh 6 w5 (Bw w5) (some ⟨w4.heap.size, 0, none⟩) 1 1 [⟨0, 2, 0, 0, 0, 3⟩] := ⟨rfl, Nat.le_refl _, by simp [maxLen], rfl, fun _ => ⟨_, 0, rfl, hz5, fun j u hu => by rw [hb5.cell]; simpa [encCh] using hu⟩⟩
  have hk35 := Keep.trans HK4.out hk5
  have hplay := iplay_any w5 (Bw w5) (some ⟨w1.heap.size, 0, none⟩) (some ⟨w4.heap.size, 0, none⟩) 1 1 1 1 0 0 [cdA] [⟨0, 2, 0, 0, 0, 3⟩] (fun i hi => hi) ((HCDS.out.keep hk35).more (fun i hi => Nat.lt_of_lt_of_le hi hk35.size)) HINI.out hcl5 (by omega) (by omega)
  have hcx5 : w5.rangeAt b4 o4 (encSh ⟨0, 0, 0, 1⟩) := fun j u hu => (hk5.cell (p := ⟨b4, o4 + j, none⟩) hb4).trans (HCX4.out j u hu)
  have hk05 := Keep.trans HW3.out hk35
  have HPLAY := Lib.hid hplay
  have HCX5 := Lib.hid hcx5
  have HK05 := Lib.hid hk05
  clear hplay hcx5 hk05
  clear hcl5 hk35 hb5 hk5 HCX4
  go_wp2_with fail
  refine HPLAY.out.mono ?_
  obtain ⟨mb, hmb, hml, hme⟩ := runA1
  rintro e w6 ⟨hk6, ⟨m, A6, c6, hrun, rfl, hsl6⟩ | ⟨k, hrun, -, -⟩⟩
  case inr => rw [hmb] at hrun; cases hrun
  rw [hmb] at hrun
  injection hrun with hrun
  subst hrun
  rw [hml] at hsl6
  rw [hml]
  obtain ⟨b, off, cs, a, hA6, hSb, ha, hR, hcl, hcc⟩ := SlR.at_ hsl6 (k := 0) (by omega)
  subst hA6
  obtain ⟨B1, B2, B3, B4, p1, q1, p2, q2, p3, q3, p4, q4, e2, hR'⟩ := st_open hR
  subst e2
  have hev := (st_sl hR').2.1.1
  have hae : mb.ss.getD 0 zeroSt = a := by simp [List.getD, ha]
  rw [hae] at hme
  rw [hme] at hev
  subst hev
  have y1 : w6.cell? ⟨b, off + 1, none⟩ = some (.slice B2 1 q2) := by have := hcc 1 _ rfl; simpa using this
  have hc6 : 1 ≤ c6 := by have := hsl6.2.1; omega
  have r4 : w6.rangeAt b4 o4 [.int .i64 0, .int .i64 0, .int .i64 0, .int .i64 1] := fun j u hu => (hk6.cell (p := ⟨b4, o4 + j, none⟩) (Nat.lt_of_lt_of_le hb4 (Nat.le_of_lt hz5))).trans (HCX5.out j u hu)
  have hfin : Aw40Post w (.returned (.bool true)) w6 := ⟨rfl, Keep.trans HK05.out hk6⟩
  have HFIN := Lib.hid hfin
  have R4 := Lib.hid r4
  clear hfin r4
  clear hcc hcl hR hR' ha hSb hsl6 hk6 hmb hml hme hae
  go_wp2_with (refine load_range_w (by rfl) _ (.tmp 37) rfl b4 o4 [.int .i64 0, .int .i64 0, .int .i64 0, .int .i64 1] _ rfl R4.out Try.underlying101 rfl (by kernel_rfl) ?_)
  go_ret
  exact HFIN.out
end Go.Proofs.Ythmepnpjagpcnaa

-- Law40L
/- The law IdealLimits. -/
set_option linter.unusedVariables false
set_option linter.unusedSimpArgs false
set_option maxRecDepth 100000
namespace Go.Proofs.Ythmepnpjagpcnaa
open Go.RowKit Go.Proofs

theorem cdV_zero (w : World) (S : Nat → Prop) : CdV w S nil5c zeroCd := ⟨none, none, none, none, none, 0, 0, 0, 0, 0, 0, 0, 0, 0, 0, rfl, Sl.nil_, SlR.nil_, SlR.nil_, SlR.nil_, SlR.nil_, by simp [zeroCd]⟩
theorem bld_cd0 : Try.prog.built 63 [] = some nil5c.toArray := by kernel_rfl
theorem built_cd0 : builtS Try.prog 63 1 [(0, .agg nil5c.toArray)] = some nil5c.toArray := by kernel_rfl
theorem bld_tick : Try.prog.built 45 [(1, .int .i64 2)] = some (encCh tickC).toArray := by kernel_rfl
theorem noCds_snoc (j : Nat) : noCds j ++ [zeroCd] = noCds (j + 1) := by simp [noCds, List.replicate_succ']
/-- m choices, the first j of which are ticks. -/
def tickK (j m : Nat) : List Chc := List.replicate j tickC ++ List.replicate (m - j) zeroC
theorem tickK_len {j m : Nat} (h : j ≤ m) : (tickK j m).length = m := by simp [tickK]; omega
theorem tickK_succ {j m : Nat} (h : j < m) : (tickK j m).set j tickC = tickK (j + 1) m := by
  unfold tickK
  have e : m - j = (m - (j + 1)) + 1 := by omega
  rw [e, List.replicate_succ, List.set_append_right _ _ (by simp), List.length_replicate, Nat.sub_self, List.set_cons_zero, List.replicate_succ', List.append_assoc]
  rfl
theorem tickK_all (m : Nat) : tickK m m = List.replicate m tickC := by simp [tickK]
def rowC (l : List Chc) : Array Value := (l.map encCh).flatten.toArray
theorem made_chs (m : Nat) : madeCells (Value.cells (.agg (encCh zeroC).toArray)) (m * 6) = rowC (List.replicate m zeroC) := by
  have h0 : (rowC (List.replicate m zeroC)).toList = List.replicate (m * 6) (.int .i64 0) := by
    simp only [rowC, List.map_replicate]
    rw [show encCh zeroC = List.replicate 6 (.int .i64 0) from rfl, List.flatten_replicate_replicate]
  apply Array.ext'
  rw [h0]
  have hc : Value.cells (.agg (encCh zeroC).toArray) = #[.int .i64 0, .int .i64 0, .int .i64 0, .int .i64 0, .int .i64 0, .int .i64 0] := rfl
  rw [hc]
  apply List.ext_getElem?
  intro j
  by_cases hj : j < m * 6
  · have hr : j % 6 < 6 := Nat.mod_lt _ (by omega)
    simp only [madeCells, Array.getElem?_toList, Array.getElem?_ofFn, List.getElem?_replicate, hj, dite_true, if_true]
    generalize hq : j % 6 = r at hr
    have : r = 0 ∨ r = 1 ∨ r = 2 ∨ r = 3 ∨ r = 4 ∨ r = 5 := by omega
    rcases this with rfl | rfl | rfl | rfl | rfl | rfl <;> simp <;> exact ⟨j, by simp [hj], by simp [hq]⟩
  · simp [madeCells, hj]
theorem rowC_len (l : List Chc) : (rowC l).size = l.length * 6 := by
  simp only [rowC, List.size_toArray]
  rw [cells_len (size := 6) _ (by intro c hc; obtain ⟨x, -, rfl⟩ := List.mem_map.1 hc; rfl), List.length_map]
theorem rowC_set {l : List Chc} {k : Nat} {x : Chc} (hk : k < l.length) : splice (rowC l) (k * 6) (encCh x) = rowC (l.set k x) := by
  unfold rowC
  rw [splice_flatten (size := 6) (by intro c hc; obtain ⟨x, -, rfl⟩ := List.mem_map.1 hc; rfl) rfl (by simpa using hk), List.map_set]
theorem rowC_sl {w : World} {g n : Nat} {l : List Chc} {S : Nat → Prop} (hb : Blk w g 45 (rowC l)) (hn : l.length = n) (hS : S g) (hm : n ≤ 1000) : Sl encCh 6 w S (some ⟨g, 0, none⟩) n n l := by
  have he : l.flatMap encCh = (l.map encCh).flatten := by rw [List.flatMap_def]
  refine ⟨hn.symm, Nat.le_refl _, by simp [maxLen]; omega, ⟨by rw [flat_length encCh_len, hn], fun _ => ⟨g, 0, rfl, hS, fun j u hu => ?_⟩⟩⟩
  rw [hb.cell, Nat.zero_add]
  rw [he] at hu
  simpa [rowC] using hu
/-- j codes stand in the configuration. -/
def LmRel (base g7 k : Nat) (W : World) (i : Value) (wr : World) : Prop :=
  ∃ (v : Value) (j : Nat), i = .int .i64 j ∧ j ≤ k ∧ Blk wr g7 59 #[v, .int .i64 0, .int .i64 0] ∧ Grow CdV 5 63 wr base v (noCds j) ∧ Keep W wr ∧ base ≤ wr.heap.size
def Lm2 (g m : Nat) (W : World) (i : Value) (wr : World) : Prop :=
  ∃ j : Nat, i = .int .i64 j ∧ j ≤ m ∧ Blk wr g 45 (rowC (tickK j m)) ∧ Same (· ≠ g) W wr
def CfL (g7 : Nat) (A : Option Addr) (k c : Nat) (w : World) : Prop := Blk w g7 59 #[.slice A k c, .int .i64 0, .int .i64 0] ∧ CdsR w (Bw w) A k c (noCds k)
def EndsE (E : Int) (u : World) (e : Ending) (w' : World) : Prop := (∃ V, e = .returned (.tuple #[V, .int .i64 E])) ∧ Keep u w'
def RunE (k : Nat) (l : List Chc) (E : Int) : Prop := (E = 0 ∧ ∃ m, runI (noCds k) l = .ok m) ∨ runI (noCds k) l = .error E
theorem noCds_few (k : Nat) : ∀ c ∈ noCds k, c.init.length ≤ 1000000 := by intro c hc; rw [List.eq_of_mem_replicate hc]; simp [zeroCd]
theorem lim_play (u : World) (AC AL : Option Addr) (k cC q c : Nat) (l : List Chc) (E : Int) (hcd : CdsR u (Bw u) AC k cC (noCds k)) (hsl : Sl encCh 6 u (Bw u) AL q c l) (hk : k ≤ 1000) (hq : q ≤ 1000) (hE : RunE k l E) :
    Calls Try.prog 24 #[.agg #[.slice AC k cC, .int .i64 0, .int .i64 0], .slice AL q c] u (EndsE E u) := by
  refine (iplay_any u (Bw u) AC AL k cC q c 0 0 (noCds k) l (fun i hi => hi) hcd (noCds_few k) hsl hk hq).mono ?_
  rintro e w' ⟨hkk, ⟨m, A, c', hrun, rfl, hs⟩ | ⟨k', hrun, h0, rfl⟩⟩
  · rcases hE with ⟨rfl, -⟩ | hE
    · exact ⟨⟨_, rfl⟩, hkk⟩
    · rw [hE] at hrun; cases hrun
  · rcases hE with ⟨-, m, hE⟩ | hE
    · rw [hE] at hrun; cases hrun
    · rw [hE] at hrun; injection hrun with hh; subst hh; exact ⟨⟨_, rfl⟩, hkk⟩
theorem lim_world (u : World) (AC AL : Option Addr) (k cC q c : Nat) (l : List Chc) (E : Int) (hcd : CdsR u (Bw u) AC k cC (noCds k)) (hsl : Sl encCh 6 u (Bw u) AL q c l) (hk : k ≤ 1000) (hq : q ≤ 1000) (hE : RunE k l E) :
    Calls Try.prog 25 #[.agg #[.slice AC k cC, .int .i64 0, .int .i64 0], .slice AL q c] u (EndsE E u) := by
  refine (iworld_any u (Bw u) AC AL k cC q c 0 0 (noCds k) l (fun i hi => hi) hcd (noCds_few k) hsl hk hq).mono ?_
  rintro e w' ⟨hkk, ⟨m, A, c', hrun, rfl, hs⟩ | ⟨k', hrun, h0, rfl⟩⟩
  · rcases hE with ⟨rfl, -⟩ | hE
    · exact ⟨⟨_, rfl⟩, hkk⟩
    · rw [hE] at hrun; cases hrun
  · rcases hE with ⟨-, m, hE⟩ | hE
    · rw [hE] at hrun; cases hrun
    · rw [hE] at hrun; injection hrun with hh; subst hh; exact ⟨⟨_, rfl⟩, hkk⟩
theorem lim_E (k j : Nat) (hj : j ≤ 320) : RunE k (List.replicate j tickC) (limE k j) := by
  by_cases h : limE k j = 0
  · exact .inl ⟨h, (lim_run k j hj).1 h⟩
  · exact .inr ((lim_run k j hj).2 h)
def bigE (k : Nat) : Int := if k < 1 ∨ 5 < k then 3 else 4
def manyC : List Chc := List.replicate 321 zeroC
theorem manyC_len : manyC.length = 321 := by simp [manyC]
theorem big_E (k : Nat) : RunE k manyC (bigE k) := .inr (lim_many k _ (by rw [manyC_len]; omega))
set_option maxHeartbeats 16000000 in
theorem idealLimits_walk (w : World) (A : Option Addr) (n0 c0 : Nat) (x1 x2 : Int) (hx1 : I64 x1) (hx2 : I64 x2) : Calls Try.prog 7 #[.slice A n0 c0, .int .i64 x1, .int .i64 x2] w (Aw40Post w) := by
  obtain ⟨i0, hi0, iz0, is0, ib0⟩ := info_of info_Code
  obtain ⟨iC, hiC, izC, isC, ibC⟩ := info_of info_Choice
  have hmk := fun (n : Nat) (hn : n ≤ 1000) W => run_make_row (P := Try.prog) 38 45 iC (.agg (encCh zeroC).toArray) Try.underlying38 hiC izC .i64 .i64 n n (Nat.le_refl _) (by rw [ibC]; omega) (by omega) W
  simp only [isC, made_chs] at hmk
  have HX1 := Lib.hid hx1
  have HX2 := Lib.hid hx2
  have HI0 := Lib.hid hi0
  have IZ0 := Lib.hid iz0
  have IS0 := Lib.hid is0
  have IB0 := Lib.hid ib0
  have HMK := Lib.hid hmk
  clear hx1 hx2 hi0 iz0 is0 ib0 hmk
  clear hiC izC isC ibC
  go_enter Try.func7, Try.ntmps7
  go_wp2_with fail
  refine (awake40_any w).mono ?_
  rintro e w1 ⟨rfl, hk1⟩
  have hz1 := hk1.size
  have HK1 := Lib.hid hk1
  clear hk1
  go_upto_region 4 with fail
  generalize hW : w1.alloc (.cells #[.slice none 0 0, .int .i64 0, .int .i64 0] 59) = W
  have hkW : Keep w W := hW ▸ Keep.alloc HK1.out _
  have hb7 : Blk W w1.heap.size 59 #[.slice none 0 0, .int .i64 0, .int .i64 0] := hW ▸ Blk.new w1 _ _
  have hz := hb7.lt
  have HKW := Lib.hid hkW
  have HB7 := Lib.hid hb7
  clear hkW hb7
  clear hW
  obtain ⟨g7, hg7⟩ : ∃ g7, g7 = w1.heap.size := ⟨_, rfl⟩
  rw [← hg7] at hz HB7
  rw [← hg7]
  have hwg : w.heap.size ≤ g7 := by omega
  clear hg7
  go_wp2_with fail
  refine (mod_any x1 8 W HX1.out (by omega) (by omega)).mono ?_
  rintro e w2 ⟨rfl, hq⟩
  subst hq
  obtain ⟨k0, k1⟩ := modS_lt x1 8 (by omega)
  obtain ⟨k, hk⟩ : ∃ k : Nat, modS x1 8 = k := ⟨(modS x1 8).toNat, by omega⟩
  rw [hk] at k0 k1 ⊢
  have hk8 : k < 8 := by omega
  clear hk
  have hrel0 : LmRel W.heap.size g7 k w (.int .i64 0) W := ⟨.slice none 0 0, 0, rfl, Nat.zero_le _, HB7.out, Grow.nil_, HKW.out, Nat.le_refl _⟩
  have HREL0 := Lib.hid hrel0
  clear hrel0
  obtain ⟨base, hbase⟩ : ∃ base, base = W.heap.size := ⟨_, rfl⟩
  rw [← hbase] at HREL0 hz
  go_wp2_with fail
  go_loopw [9] (fun i wr => LmRel base g7 k w i wr) (fun i _ => k - (intOf i).toNat)
  case atStart => exact HREL0.out
  case round =>
    clear HREL0
    obtain ⟨v, j, rfl, hjk, hb, hgr, hkr, hbs⟩ := hrel
    have hzr := hkr.size
    by_cases hj : j < k
    · have t0 : decide (j < k) = true := by simpa using hj
      have t1 : decide ((j : Int) < (k : Int)) = true := by simp; omega
      have c7 : wr.cell? ⟨g7, 0, none⟩ = some v := by rw [hb.cell]; rfl
      have hV : ∀ b, v.ownBlock = some b → base ≤ b ∧ b < wr.heap.size := by obtain ⟨css, h1, h2, h3, h4⟩ := hgr; exact h3.lt
      have HB := Lib.hid hb
      have HGR := Lib.hid hgr
      have HKR := Lib.hid hkr
      have HV := Lib.hid hV
      clear hb hgr hkr hV
      go_wp2_with (first
        | (refine wpList_bld rfl 63 _ rfl _ [] rfl bld_cd0 ?_)
        | (refine wpList_buildX rfl 57 63 1 _ rfl Try.underlying57 _ [(0, .agg nil5c.toArray)] rfl built_cd0 ?_; intro w3 hb3 hk3 hz3; refine Hid.out ?_))
      refine Lib.hid ?_
      obtain ⟨css, q1, q2, q3, q4⟩ := HGR.out
      have hlen : (noCds j).length = j := by simp [noCds]
      have hrd : Reads w3 (fun i => i = wr.heap.size) 5 (some ⟨wr.heap.size, 0, none⟩) 1 nil5c := ⟨rfl, fun _ => ⟨_, 0, rfl, rfl, fun i u hu => by rw [hb3.cell]; simpa using hu⟩⟩
      rw [hlen] at q3
      have q3' := ownsRow_same q3 hk3 (fun i hi => hi.2)
      have HB3 := Lib.hid hb3
      have HK3 := Lib.hid hk3
      have Q3' := Lib.hid q3'
      have HRD := Lib.hid hrd
      clear hb3 hk3 q3' hrd
      go_wp2_with (at_builtin; refine wpList_append_any _ rfl (.tmp 31) (.tmp 33) 57 rfl base 63 i0 _ 5 120 Try.underlying57 HI0.out IZ0.out IS0.out IB0.out rfl (by omega) v j css.flatten rfl Q3'.out _ (some ⟨wr.heap.size, 0, none⟩) 1 1 nil5c rfl HRD.out (by intro u hu; simp [nil5c] at hu; subst hu; rfl) (by simp [maxLen]; omega) (by omega) (by omega) ?_; intro vb wb hownb hgb hatb; refine Hid.out ?_)
      refine Lib.hid ?_
      have hA3 : Same (fun i => i < wr.heap.size ∧ v.ownBlock ≠ some i) wr wb := Same.grown (HK3.out.mono (fun i hi => hi.1)) hgb (fun i hi => by have := hi.1; omega) (fun k hk hh => hh.2 hk)
      have n7 : v.ownBlock ≠ some g7 := fun e => by have := (HV.out _ e).1; omega
      have hl7 := HB.out.lt
      have hb7 := hA3.blk HB.out ⟨hl7, n7⟩
      have hpush := Grow.push CdV.good (a := zeroCd) q1 q2 q4 HK3.out (by rw [hlen]; exact hownb) hgb hatb rfl (cdV_zero _ _)
      rw [noCds_snoc] at hpush
      obtain ⟨Ab, cb, hvb, hnb, hcb⟩ := own_form hownb
      subst hvb
      have hzb := hA3.size
      have HB7 := Lib.hid hb7
      have HPUSH := Lib.hid hpush
      have HA3 := Lib.hid hA3
      clear hb7 hpush hA3
      clear q1 q2 q3 q4 hownb hgb hatb
      go_wp2_with (refine wpList_store_one rfl _ (.tmp 35) (.tmp 34) rfl g7 0 59 _ (.slice Ab (j + 1) cb) rfl rfl HB7.out (by simp) (by kernel_rfl) rfl rfl ?_; intro wc hbc hsc)
      have hzc := hsc.size
      have hfin : LmRel base g7 k w (.int .i64 ((j : Int) + 1)) wc := ⟨.slice Ab (j + 1) cb, j + 1, by go_num, by omega, by simpa using hbc, HPUSH.out.same CdV.good hsc (fun i h1 h2 => by show i ≠ g7; omega), Same.trans HKR.out (Same.trans (S := fun i => i < w.heap.size) (HA3.out.mono (fun i (hi : i < w.heap.size) => ⟨by omega, fun e => by have := (HV.out _ e).1; omega⟩)) hsc (fun i (hi : i < w.heap.size) => by show i ≠ g7; omega)) (fun i hi => hi), by omega⟩
      have HFIN := Lib.hid hfin
      clear hfin
      clear hbc hsc
      go_wp2_with fail
      go_roundw
      case rel => exact HFIN.out
      case measure => simp [intOf]; omega
    · have t0 : decide (j < k) = false := by simpa using hj
      have t1 : decide ((j : Int) < (k : Int)) = false := by simp; omega
      obtain rfl : j = k := by omega
      obtain ⟨AC, cC, hv, hsl⟩ := hgr.done CdV.good
      subst hv
      have hlen : (noCds j).length = j := by simp [noCds]
      rw [hlen] at hsl
      have hcd : CdsR wr (New wr base) AC j cC (noCds j) := hsl
      have hini : ∀ c ∈ noCds j, c.init.length ≤ 1000000 := by intro c hc; rw [List.eq_of_mem_replicate hc]; simp [zeroCd]
      have hl7 := hb.lt
      have HB := Lib.hid hb
      have HCD := Lib.hid hcd
      have HINI := Lib.hid hini
      have HKR := Lib.hid hkr
      have HLEN := Lib.hid hlen
      clear hb hcd hini hkr hlen
      clear hsl hgr
      go_wp2_with fail
      refine (mod_any x2 3 wr HX2.out (by omega) (by omega)).mono ?_
      rintro e w2 ⟨rfl, hq⟩
      subst hq
      obtain ⟨m0, m1⟩ := modS_lt x2 3 (by omega)
      obtain ⟨d, hd⟩ : ∃ d : Nat, modS x2 3 = d := ⟨(modS x2 3).toNat, by omega⟩
      rw [hd] at m0 m1 ⊢
      clear hd
      obtain ⟨m, hm⟩ : ∃ m : Nat, (63 : Int) + (d : Int) = m := ⟨63 + d, by omega⟩
      have hmk1 := HMK.out m (by omega)
      go_upto_region 12 with fail
      generalize hW2 : wr.alloc (.cells (rowC (List.replicate m zeroC)) 45) = W2
      have hkW2 : Keep wr W2 := hW2 ▸ Keep.new _ _
      have hbr : Blk W2 wr.heap.size 45 (rowC (tickK 0 m)) := hW2 ▸ Blk.new _ _ _
      have hm63 : 63 ≤ m ∧ m ≤ 65 := by omega
      have hl8 := hbr.lt
      have hb2 := hkW2.blk HB.out hl7
      have hcd2 := (HCD.out.keep (hkW2.mono (fun i (hi : New wr base i) => hi.2))).more (T := fun i => i < wr.heap.size) (fun i hi => hi.2)
      have hk2 := Keep.trans HKR.out hkW2
      have hlen := HLEN.out
      rw [hlen] at hb2
      have hrel1 : Lm2 wr.heap.size m W2 (.int .i64 0) W2 := ⟨0, rfl, Nat.zero_le _, hbr, Same.refl _ _⟩
      obtain ⟨g, hg⟩ : ∃ g, g = wr.heap.size := ⟨_, rfl⟩
      rw [← hg] at hrel1 hl8 hl7 hcd2 hzr
      rw [← hg]
      have HCD2 := Lib.hid hcd2
      have HB2 := Lib.hid hb2
      have HK2 := Lib.hid hk2
      have HREL1 := Lib.hid hrel1
      clear hcd2 hb2 hk2 hrel1
      clear hW2 hkW2 hmk1 hbr HB HCD HKR hg HLEN hlen hm
      go_wp2_with fail
      go_loopw [12] (fun i wx => Lm2 g m W2 i wx) (fun i _ => m - (intOf i).toNat)
      case atStart => exact HREL1.out
      case round =>
        clear HREL1
        obtain ⟨q, rfl, hqm, hbq, hsq⟩ := hrel
        have hzq := hsq.size
        by_cases hq : q < m
        · have s0 : decide (q < m) = true := by simpa using hq
          have s1 : decide ((q : Int) < (m : Int)) = true := by simp; omega
          have s2 : (0 : Int) ≤ q := by omega
          have s3 : (q : Int) < m := by omega
          have hql : q < (tickK q m).length := by rw [tickK_len (by omega)]; exact hq
          have hqs : q * 6 + 6 ≤ (rowC (tickK q m)).size := by rw [rowC_len, tickK_len (by omega)]; omega
          have HBQ := Lib.hid hbq
          have HSQ := Lib.hid hsq
          have HQL := Lib.hid hql
          clear hbq hsq hql
          go_wp2_with (first
            | (refine wpList_bld rfl 45 _ rfl _ [(1, .int .i64 2)] rfl bld_tick ?_)
            | (refine wpList_store_blk rfl _ (.tmp 49) (.tmp 48) rfl g (q * 6) 45 _ (encCh tickC) rfl rfl HBQ.out hqs (by kernel_rfl) rfl ?_; intro w9 hb9 hs9))
          go_roundw
          case rel =>
            rw [rowC_set HQL.out, tickK_succ hq] at hb9
            exact ⟨q + 1, by go_num, by omega, hb9, Same.trans HSQ.out hs9 (fun i hi => hi)⟩
          case measure => simp [intOf]; omega
        · have s0 : decide (q < m) = false := by simpa using hq
          have s1 : decide ((q : Int) < (m : Int)) = false := by simp; omega
          obtain rfl : q = m := by omega
          rw [tickK_all] at hbq
          have hq1 := HK2.out
          have hsz := hq1.size
          have hb7 := hsq.blk HB2.out (by omega)
          have hcdw := (HCD2.out.keep (hsq.mono (fun i (hi : i < g) => by omega))).more (T := Bw wr) (fun i (hi : i < g) => by show i < wr.heap.size; omega)
          have hslw := rowC_sl (S := Bw wr) (n := q) hbq (by simp) (by show g < wr.heap.size; omega) (by omega)
          have hk3 : Keep w wr := Same.trans HK2.out hsq (fun i (hi : i < w.heap.size) => by show i ≠ g; omega)
          have key1 := fun u (hu : Keep wr u) => lim_play u AC _ j cC q q _ (limE j q) ((hcdw.keep hu).more (fun i hi => Nat.lt_of_lt_of_le hi hu.size)) ((hslw.keep hu).more (fun i hi => Nat.lt_of_lt_of_le hi hu.size)) (by omega) (by omega) (lim_E j q (by omega))
          have key2 := fun u (hu : Keep wr u) => lim_world u AC _ j cC q q _ (limE j q) ((hcdw.keep hu).more (fun i hi => Nat.lt_of_lt_of_le hi hu.size)) ((hslw.keep hu).more (fun i hi => Nat.lt_of_lt_of_le hi hu.size)) (by omega) (by omega) (lim_E j q (by omega))
          have hl7 := hb7.lt
          have HB7 := Lib.hid hb7
          have HCDW := Lib.hid hcdw
          have HK3 := Lib.hid hk3
          have KEY1 := Lib.hid key1
          have KEY2 := Lib.hid key2
          clear hb7 hcdw hk3 key1 key2
          clear hq1 hsq HCD2 HB2 HK2 hslw hbq
          go_wp2_with (refine wpList_load_all rfl _ (.tmp 7) rfl g7 59 [.slice AC j cC, .int .i64 0, .int .i64 0] _ rfl HB7.out Try.underlying59 rfl (by kernel_rfl) ?_)
          refine (KEY1.out wr (Same.refl _ _)).mono ?_
          rintro e w4 ⟨⟨V1, rfl⟩, hk4⟩
          have hb4 := hk4.blk HB7.out hl7
          have hl4 := hb4.lt
          have HB4 := Lib.hid hb4
          have HK4 := Lib.hid hk4
          clear hb4 hk4
          go_wp2_with (refine wpList_load_all rfl _ (.tmp 7) rfl g7 59 [.slice AC j cC, .int .i64 0, .int .i64 0] _ rfl HB4.out Try.underlying59 rfl (by kernel_rfl) ?_)
          refine (KEY2.out w4 HK4.out).mono ?_
          rintro e w5 ⟨⟨V2, rfl⟩, hk5⟩
          have hb5 := hk5.blk HB4.out hl4
          have hl5 := hb5.lt
          have hk35 := Keep.trans HK4.out hk5
          have HB5 := Lib.hid hb5
          have HK35 := Lib.hid hk35
          clear hb5 hk35
          clear hk5
          go_upto_region 17 with fail
          have hmk3 : ∀ u : World, (Instr.makeSlice 38 (.int .i64 321) (.int .i64 321)).run Try.prog u = .ok (.slice (some ⟨u.heap.size, 0, none⟩) 321 321) (u.alloc (.cells (rowC manyC) 45)) := fun u => HMK.out 321 (by omega) u
          refine wp_region_L 99 (fun _ => True) (fun wx => Keep w5 wx) (by kernel_rfl) trivial (Same.drew (Same.refl _ _)) (fun hA hB => ?_)
          generalize hu0 : w5.drew = u0 at hB ⊢
          clear hu0
          refine wpL_takeB (i := 0) rfl (by kernel_rfl) (by kernel_rfl) (by kernel_rfl) (by decide) (fun _ _ _ h => h) (yieldsIf_blk (by rfl) _ _ rfl g7 0 59 _ [.slice AC j cC, .int .i64 0, .int .i64 0] _ rfl (fun wx hx => hx.blk HB5.out hl5) (fun j u hu => by simpa using hu) Try.underlying59 rfl (by kernel_rfl)) (SAB.both hA hB) ?_
          try simp only [Act.put, List.setIfInBounds_toArray, List.set_cons_zero, List.set_cons_succ]
          refine wpL_one (i := 1) (by kernel_rfl) (StepL.mk rfl (fun K hK => ?_))
          go_simp
          have hk7 : Keep u0 (u0.alloc (.cells (rowC manyC) 45)) := Keep.new _ _
          have hb9 : Blk (u0.alloc (.cells (rowC manyC) 45)) u0.heap.size 45 (rowC manyC) := Blk.new _ _ _
          have hB7 := Keep.trans hB hk7
          refine hK.out _ _ (SAB.both trivial hB7) (fun hSS => ?_)
          clear hK K hA hB
          have hB := hSS.2
          have hA := hSS.1 (by kernel_rfl)
          (try dsimp only at hB); (try dsimp only at hA); clear hSS
          try simp only [Act.put, List.setIfInBounds_toArray, List.set_cons_zero, List.set_cons_succ]
          generalize u0.alloc (.cells (rowC manyC) 45) = u7 at *
          refine wpL_one (i := 2) (by kernel_rfl) (StepL.mk rfl (fun K hK => ?_))
          go_simp
          refine (lim_play u7 AC (some ⟨u0.heap.size, 0, none⟩) j cC 321 321 manyC (bigE j) ((HCDW.out.keep (Keep.trans HK35.out hB7)).more (fun i hi => Nat.lt_of_lt_of_le hi (Keep.trans HK35.out hB7).size)) (rowC_sl hb9 manyC_len hb9.lt (by omega)) (by omega) (by omega) (big_E j)).mono ?_
          rintro e u8 ⟨⟨V3, rfl⟩, hk8⟩
          have hB8 := Keep.trans hB7 hk8
          refine hK.out _ _ (SAB.both trivial hB8) (fun hSS => ?_)
          clear hK K hA hB
          have hB := hSS.2
          have hA := hSS.1 (by kernel_rfl)
          (try dsimp only at hB); (try dsimp only at hA); clear hSS
          try simp only [Act.put, List.setIfInBounds_toArray, List.set_cons_zero, List.set_cons_succ]
          refine wpL_takeB (i := 3) (v := ?_) rfl (by kernel_rfl) (by kernel_rfl) (by kernel_rfl) (by decide) (fun _ _ _ h => h) (Or.inl ⟨by rfl, ?_⟩) (SAB.both hA hB) ?_
          rotate_left
          · intro wx hBx
            (try dsimp only at hBx)
            go_simp
            try with_reducible rfl
          try simp only [Act.put, List.setIfInBounds_toArray, List.set_cons_zero, List.set_cons_succ]
          refine wpL_takeB (i := 4) (v := ?_) rfl (by kernel_rfl) (by kernel_rfl) (by kernel_rfl) (by decide) (fun _ _ _ h => h) (Or.inl ⟨by rfl, ?_⟩) (SAB.both hA hB) ?_
          rotate_left
          · intro wx hBx
            (try dsimp only at hBx)
            go_simp
            try with_reducible rfl
          try simp only [Act.put, List.setIfInBounds_toArray, List.set_cons_zero, List.set_cons_succ]
          refine wpL_takeB (i := 5) (v := ?_) rfl (by kernel_rfl) (by kernel_rfl) (by kernel_rfl) (by decide) (fun _ _ _ h => h) (Or.inl ⟨by rfl, ?_⟩) (SAB.both hA hB) ?_
          rotate_left
          · intro wx hBx
            (try dsimp only at hBx)
            go_simp
            try with_reducible rfl
          try simp only [Act.put, List.setIfInBounds_toArray, List.set_cons_zero, List.set_cons_succ]
          refine wpL_takeB (i := 6) (v := ?_) rfl (by kernel_rfl) (by kernel_rfl) (by kernel_rfl) (by decide) (fun _ _ _ h => h) (Or.inl ⟨by rfl, ?_⟩) (SAB.both hA hB) ?_
          rotate_left
          · intro wx hBx
            (try dsimp only at hBx)
            go_simp
            try with_reducible rfl
          try simp only [Act.put, List.setIfInBounds_toArray, List.set_cons_zero, List.set_cons_succ]
          refine wpL_takeB (i := 7) (v := ?_) rfl (by kernel_rfl) (by kernel_rfl) (by kernel_rfl) (by decide) (fun _ _ _ h => h) (Or.inl ⟨by rfl, ?_⟩) (SAB.both hA hB) ?_
          rotate_left
          · intro wx hBx
            (try dsimp only at hBx)
            go_simp
            try with_reducible rfl
          try simp only [Act.put, List.setIfInBounds_toArray, List.set_cons_zero, List.set_cons_succ]
          refine wpL_done (by kernel_rfl) ?_
          have hend : Keep w u8 := Keep.trans (Keep.trans HK3.out HK35.out) hB8
          have hfin : ∀ b, b = true → Aw40Post w (.returned (.bool b)) u8 := fun b hb => ⟨by rw [hb], hend⟩
          have HEND := Lib.hid hend
          have HFIN := Lib.hid hfin
          clear hend hfin
          clear hB hB7 hB8 hk7 hk8 hb9 HB5 HB4 HB7 hmk3
          by_cases h1 : j < 1
          · have e1 : limE j q = 3 := by unfold limE; rw [if_pos (.inl h1)]
            have e2 : bigE j = 3 := by unfold bigE; rw [if_pos (.inl h1)]
            rw [e1, e2]
            have r1 : decide ((j : Int) < 1) = true := by simp; omega
            by_cases h6 : 64 < q
            · have r6 : decide ((64 : Int) < (q : Int)) = true := by simp; omega
              go_wp2_with fail
              go_ret
              exact HFIN.out _ rfl
            · have r6 : decide ((64 : Int) < (q : Int)) = false := by simp; omega
              go_wp2_with fail
              go_ret
              exact HFIN.out _ rfl
          · have r1 : decide ((j : Int) < 1) = false := by simp; omega
            by_cases h5 : 5 < j
            · have e1 : limE j q = 3 := by unfold limE; rw [if_pos (.inr h5)]
              have e2 : bigE j = 3 := by unfold bigE; rw [if_pos (.inr h5)]
              rw [e1, e2]
              have r5 : decide ((5 : Int) < (j : Int)) = true := by simp; omega
              by_cases h6 : 64 < q
              · have r6 : decide ((64 : Int) < (q : Int)) = true := by simp; omega
                go_wp2_with fail
                go_ret
                exact HFIN.out _ rfl
              · have r6 : decide ((64 : Int) < (q : Int)) = false := by simp; omega
                go_wp2_with fail
                go_ret
                exact HFIN.out _ rfl
            · have r5 : decide ((5 : Int) < (j : Int)) = false := by simp; omega
              have e2 : bigE j = 4 := by unfold bigE; rw [if_neg (by omega)]
              by_cases h6 : 64 < q
              · have r6 : decide ((64 : Int) < (q : Int)) = true := by simp; omega
                have e1 : limE j q = 4 := by unfold limE; rw [if_neg (by omega), if_pos h6]
                rw [e1, e2]
                go_wp2_with fail
                go_ret
                exact HFIN.out _ rfl
              · have r6 : decide ((64 : Int) < (q : Int)) = false := by simp; omega
                have e1 : limE j q = 0 := by unfold limE; rw [if_neg (by omega), if_neg h6]
                rw [e1, e2]
                go_wp2_with fail
                go_ret
                exact HFIN.out _ rfl
end Go.Proofs.Ythmepnpjagpcnaa
