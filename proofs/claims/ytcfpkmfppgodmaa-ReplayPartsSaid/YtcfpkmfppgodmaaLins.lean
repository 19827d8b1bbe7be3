/- make.Codes.Lineages. -/
import Derived.Test.YtcfpkmfppgodmaaPat5
import Derived.Test.YtcfpkmfppgodmaaLinP
import Derived.Test.YtcfpkmfppgodmaaSpl
import Derived.Test.YtcfpkmfppgodmaaAwake34
import Derived.Test.YtcfpkmfppgodmaaRs1
set_option linter.unusedVariables false
set_option linter.unusedSimpArgs false
set_option maxRecDepth 100000
namespace Go.Proofs.Ytcfpkmfppgodmaa
open Go.RowKit Go.Proofs

theorem results_tmp_cell {fn : Func} {p u : Tmp} {ty : TypeId} (h : fn.results = #[.tmp u, .cell p ty]) (tmps : Array Value) (P : Program) (w : World) (a : Addr) (v x : Value)
    (hp : tmps.getD p undef = .pointer (some a)) (hx : tmps.getD u undef = x) (hl : (loadVar ty a).run P w = .ok v w) : (results fn tmps).run P w = .ok (.tuple #[x, v]) w := by
  simp only [results, h]
  simp only [Array.getD_eq_getD_getElem?] at hp hx
  simp [Sem.run_bind, Result.andThen, hp, asAddr, hl, hx]
theorem info_Evs : (Try.prog.info? 46).map (fun i => (i.zero, i.size, i.bytes)) = some (some (.slice none 0 0), 1, 24) := by kernel_rfl
theorem made_nils (n : Nat) : madeCells (Value.cells (.slice none 0 0)) (n * 1) = (List.replicate n (.slice none 0 0)).toArray := by
  apply Array.ext'
  have := toList_madeCells_one (.slice none 0 0) n
  simpa [Value.cells] using this
theorem bld_ev2 (a : Int) : Try.prog.built 50 [(0, .int .i64 2), (5, .int .i64 a)] = some #[.int .i64 2, .int .i64 0, .int .i64 0, .int .i64 0, .int .i64 0, .int .i64 0, .int .i64 a] := by kernel_rfl
theorem bld_ev5 (a b c : Int) : Try.prog.built 50 [(0, .int .i64 1), (1, .int .i64 a), (2, .int .i64 b), (5, .int .i64 1), (4, .int .i64 c)] = some #[.int .i64 1, .int .i64 a, .int .i64 b, .int .i64 0, .int .i64 0, .int .i64 c, .int .i64 1] := by kernel_rfl
theorem bld_lab2 (a b : Int) : Try.prog.built 48 [(0, .int .i64 a), (1, .int .i64 b)] = some #[.int .i64 a, .int .i64 b] := by kernel_rfl
def LinPost (B : Nat → Prop) (gc most : Nat) (w : World) (e : Ending) (w' : World) : Prop :=
  ∃ (A1 A2 A3 : Option Addr) (n c1 n2 c2 m c3 base gl : Nat) (ls : List Nat) (vs : List Value) (l : List (List Ev)) (rk : Nat → Nat → Nat),
    e = .returned (.tuple #[.slice (some ⟨gl, 0, none⟩) n n, .agg #[.slice A1 n c1, .slice A2 n2 c2, .slice A3 m c3]]) ∧ 2 ≤ n ∧ n ≤ 4 ∧ ls.length = n ∧ (∀ q, ls.getD q 0 ≤ most) ∧ LinFine ls l rk ∧
    Sl encI 1 w' (fun i => w.heap.size ≤ i ∧ i < base) A1 n c1 (intsN ls) ∧ w.heap.size ≤ base ∧ LinM w' base gl n vs l ∧ (∃ r', Cod w' B gc r') ∧ Only gc w w'
/-- The numbers 'rise'. -/
def Ln1 (B : Nat → Prop) (gc gr n : Nat) (w2 : World) (i : Value) (wr : World) : Prop :=
  ∃ (k : Nat) (rs : List Int), i = .int .i64 k ∧ k ≤ n ∧ rs.length = n ∧ (∀ j, j < k → 1 ≤ rs.getD j 0 ∧ rs.getD j 0 ≤ 6) ∧ Blk wr gr 3 (rs.flatMap encI).toArray ∧ (∃ r', Cod wr B gc r') ∧ Only gc w2 wr ∧ w2.heap.size ≤ gr
/-- Lists of ticks. -/
def Tk (l : List (List Ev)) : Prop := ∀ (q k : Nat) (e : Ev), (l.getD q [])[k]? = some e → e.kind = 2
def Ln2 (B : Nat → Prop) (gc gl n : Nat) (ls : List Nat) (w3 : World) (i : Value) (wr : World) : Prop :=
  ∃ (k : Nat) (vs : List Value) (l : List (List Ev)), i = .int .i64 k ∧ k ≤ n ∧ LinM wr w3.heap.size gl n vs l ∧ (∀ p, p < k → (l.getD p []).length = ls.getD p 0) ∧ (∀ p, k ≤ p → l.getD p [] = []) ∧ Tk l ∧ (∃ r', Cod wr B gc r') ∧ Only gc w3 wr
def Ln3 (B : Nat → Prop) (gc gl n q : Nat) (ls : List Nat) (w3 : World) (i : Value) (wr : World) : Prop :=
  ∃ (k : Nat) (vs : List Value) (l : List (List Ev)), i = .int .i64 ((k : Int) + 1) ∧ k ≤ ls.getD q 0 ∧ LinM wr w3.heap.size gl n vs l ∧ (∀ p, p < q → (l.getD p []).length = ls.getD p 0) ∧ (l.getD q []).length = k ∧ (∀ p, q < p → l.getD p [] = []) ∧ Tk l ∧ (∃ r', Cod wr B gc r') ∧ Only gc w3 wr
def Ln4 (B : Nat → Prop) (gc gl n : Nat) (ls : List Nat) (w3 : World) (i : Value) (wr : World) : Prop :=
  ∃ (k : Nat) (vs : List Value) (l : List (List Ev)), i = .int .i64 k ∧ k ≤ n ∧ LinM wr w3.heap.size gl n vs l ∧ (∀ p, p < n → (l.getD p []).length = ls.getD p 0) ∧ Tk l ∧ (∃ r', Cod wr B gc r') ∧ Only gc w3 wr
def Ln5 (B : Nat → Prop) (gc gl n q : Nat) (ls : List Nat) (w3 : World) (u i : Value) (wr : World) : Prop :=
  ∃ (k up : Nat) (vs : List Value) (l : List (List Ev)), u = .int .i64 up ∧ up ≤ k ∧ i = .int .i64 ((k : Int) + 1) ∧ k ≤ ls.getD q 0 ∧ LinM wr w3.heap.size gl n vs l ∧ (∀ p, p < n → (l.getD p []).length = ls.getD p 0) ∧ Tk l ∧ (∃ r', Cod wr B gc r') ∧ Only gc w3 wr
def Ln6 (B : Nat → Prop) (gc gl n m : Nat) (ls : List Nat) (arcs : List Arc) (inc : Nat → Nat → Int) (w3 : World) (i : Value) (wr : World) : Prop :=
  ∃ (k : Nat) (vs : List Value) (l : List (List Ev)), i = .int .i64 k ∧ k ≤ m ∧ LinM wr w3.heap.size gl n vs l ∧ LinI ls arcs k inc l ∧ (∃ r', Cod wr B gc r') ∧ Only gc w3 wr
theorem flatI_map : ∀ (rs : List Int), rs.flatMap encI = rs.map (Value.int .i64)
  | [] => rfl
  | a :: t => by rw [List.flatMap_cons, flatI_map t]; rfl
theorem flatI_set (rs : List Int) (k : Nat) (x : Int) : ((rs.set k x).flatMap encI).toArray = (rs.flatMap encI).toArray.setIfInBounds k (.int .i64 x) := by
  rw [flatI_map, flatI_map, List.map_set, List.setIfInBounds_toArray]
theorem flatI_get {rs : List Int} {k : Nat} (h : k < rs.length) : (rs.flatMap encI).toArray[k]? = some (.int .i64 (rs.getD k 0)) := by
  rw [flatI_map, List.getElem?_toArray, List.getElem?_map, List.getElem?_eq_getElem h]
  simp [List.getD, h]
theorem getD_repl (n q : Nat) : (List.replicate n ([] : List Ev)).getD q [] = [] := by simp only [List.getD, List.getElem?_replicate]; split <;> rfl
theorem sl_ints_cell {w : World} {S : Nat → Prop} {b off n c q : Nat} {ls : List Nat} (h : Sl encI 1 w S (some ⟨b, off, none⟩) n c (intsN ls)) (hq : q < n) : w.cell? ⟨b, off + q, none⟩ = some (.int .i64 (ls.getD q 0 : Nat)) := by
  have hl := h.1
  rw [intsN_len] at hl
  obtain ⟨b1, off1, a, e, -, ha, hc⟩ := h.at_ encI_len hq
  simp only [Option.some.injEq, Addr.mk.injEq, and_true] at e
  obtain ⟨rfl, rfl⟩ := e
  rw [intsN_get (by omega)] at ha
  injection ha with ha
  have := hc 0 _ rfl
  rw [← ha] at this
  simpa using this
theorem Tk.push {l : List (List Ev)} {q : Nat} {e : Ev} (h : Tk l) (hq : q < l.length) (he : e.kind = 2) : Tk (l.set q (l.getD q [] ++ [e])) := fun p k x hx => by
  by_cases e' : q = p
  · subst e'
    rw [getD_setL hq] at hx
    rcases Nat.lt_or_ge k (l.getD q []).length with h1 | h1
    · rw [List.getElem?_append_left h1] at hx
      exact h q k x hx
    · rw [List.getElem?_append_right h1] at hx
      have hm := List.mem_of_getElem? hx
      simp at hm
      rw [hm]; exact he
  · rw [getD_setO e'] at hx
    exact h p k x hx
theorem Tk.set_ {l : List (List Ev)} {q k : Nat} {e : Ev} {o : Int} (h : Tk l) (hq : q < l.length) (he : e.kind = 2) : Tk (l.set q ((l.getD q []).set k (e.put 1 o))) := fun p j x hx => by
  by_cases e' : q = p
  · subst e'
    rw [getD_setL hq, List.getElem?_set] at hx
    split at hx
    · split at hx
      · injection hx with hx
        rw [← hx]; exact he
      · cases hx
    · exact h q j x hx
  · rw [getD_setO e'] at hx
    exact h p j x hx
def LnE (B : Nat → Prop) (gc : Nat) (w6 : World) (inc fr : Int) (p : Value) (wx : World) : Prop :=
  ∃ (g : Nat) (v : Int), p = .pointer (some ⟨g, 0, none⟩) ∧ w6.heap.size ≤ g ∧ Blk wx g 50 (encEv ⟨1, inc, fr, 0, 0, v, 1⟩).toArray ∧ (∃ r', Cod wx B gc r') ∧ Only gc w6 wx
def LnF (gc : Nat) (w6 : World) (g8 : Nat) (vs : List Value) (wx : World) : Prop := Only gc w6 wx ∧ Blk wx g8 50 vs.toArray
set_option maxHeartbeats 32000000 in
theorem lineages_any (w : World) (B : Nat → Prop) (gc r most : Nat) (hcod : Cod w B gc r) (hmost : most ≤ 60) : Calls Try.prog 10 #[.pointer (some ⟨gc, 0, none⟩), .int .i64 most] w (LinPost B gc most w) := by
  obtain ⟨iI, hi0, iz0, is0, ib0⟩ := info_of info_Int
  obtain ⟨iE, hj0, jz0, js0, jb0⟩ := info_of info_Event
  obtain ⟨iL, hk0, kz0, ks0, kb0⟩ := info_of info_Evs
  have hmk := fun (n : Nat) (hn : n ≤ 1000) W => run_make_row (P := Try.prog) 23 3 iI _ Try.underlying23 hi0 iz0 .i64 .i64 n n (Nat.le_refl _) (by rw [ib0]; omega) (by omega) W
  simp only [is0, made_zeros] at hmk
  have hml := fun (n : Nat) (hn : n ≤ 1000) W => run_make_row (P := Try.prog) 22 46 iL _ Try.underlying22 hk0 kz0 .i64 .i64 n n (Nat.le_refl _) (by rw [kb0]; omega) (by omega) W
  simp only [ks0, made_nils] at hml
  have hBw := hcod.2.1
  have hgw := hcod.lt
  generalize hW : w.alloc (.cells #[.slice none 0 0, .slice none 0 0, .slice none 0 0] 32) = W
  have hkW : Keep w W := hW ▸ Keep.new w _
  have hbr : Blk W w.heap.size 32 #[.slice none 0 0, .slice none 0 0, .slice none 0 0] := hW ▸ Blk.new w _ _
  have hz := hbr.lt
  have hcW := hcod.keep hkW
  have HKW := Lib.hid hkW
  have HBR := Lib.hid hbr
  have HCW := Lib.hid hcW
  have HBW := Lib.hid hBw
  have HMK := Lib.hid hmk
  have HML := Lib.hid hml
  have HI0 := Lib.hid hi0
  have IZ0 := Lib.hid iz0
  have IS0 := Lib.hid is0
  have IB0 := Lib.hid ib0
  have HJ0 := Lib.hid hj0
  have JZ0 := Lib.hid jz0
  have JS0 := Lib.hid js0
  have JB0 := Lib.hid jb0
  have HK0 := Lib.hid hk0
  have KZ0 := Lib.hid kz0
  have KS0 := Lib.hid ks0
  have KB0 := Lib.hid kb0
  clear hkW hbr hcW hBw hmk hml hi0 iz0 is0 ib0 hj0 jz0 js0 jb0 hk0 kz0 ks0 kb0
  clear hcod
  go_enter Try.func10, Try.ntmps10
  go_upto_region 1 with fail
  clear hW
  go_wp2_with fail
  refine (pattern_any W B gc r most HCW.out hmost).mono ?_
  rintro e w1 ⟨A1, A2, A3, n, c1, c2, m0, c30, ls, arcs0, rfl, hn2, hn4, hls, hle, hmm0, hpat0, hs1, hs3, ⟨r1, hc1⟩, ho1⟩
  have hz1 := ho1.size
  have hbr1 := ho1.blk HBR.out ⟨hz, by omega⟩
  have how1 : Only gc w w1 := Only.trans (HKW.out.only gc) ho1
  have hred := reduce_any w1 (fun i => i < w1.heap.size) A1 A2 A3 n c1 n c2 m0 c30 arcs0 (fun i hi => hi) (hs3.more (fun i hi => hi.2)) (by omega)
  have hs1 := hs1.more (T := fun i => w.heap.size + 1 ≤ i ∧ i < w1.heap.size) (fun i hi => ⟨by have := hi.1; omega, hi.2⟩)
  have hlm0 := hs3.1
  have HC1 := Lib.hid hc1
  have HBR1 := Lib.hid hbr1
  have HOW1 := Lib.hid how1
  have HRED := Lib.hid hred
  have HS1 := Lib.hid hs1
  have HPAT0 := Lib.hid hpat0
  have HLS := Lib.hid hls
  have HLE := Lib.hid hle
  have HLM0 := Lib.hid hlm0
  clear hc1 hbr1 how1 hred hs1 hpat0 hls hle hlm0
  clear ho1 hs3
  go_wp2_with fail
  refine HRED.out.mono ?_
  rintro e w2 ⟨A4, c4, rfl, hs4, hk2⟩
  have hz2 := hk2.size
  have hbr2 := hk2.blk HBR1.out (by have := HBR1.out.lt; omega)
  have hc2 := HC1.out.keep hk2
  have how2 := Only.keep HOW1.out hk2
  have hs12 := HS1.out.keep (hk2.mono (fun i hi => hi.2))
  have hpat := HPAT0.out.reduce
  have hra := redA_le arcs0 arcs0.length
  rw [List.take_length] at hra
  have hat : ∀ a ∈ redA arcs0, a.at_ ≠ 0 := fun a ha => by
    have := (List.mem_filter.1 ha).2
    simpa using this
  obtain ⟨arcs, harcs⟩ : ∃ arcs, arcs = redA arcs0 := ⟨_, rfl⟩
  have hpat' : PatR ls arcs := by rw [harcs]; exact hpat
  rw [← harcs] at hs4 hat hra
  rw [← harcs]
  obtain ⟨m, hm⟩ : ∃ m, m = arcs.length := ⟨_, rfl⟩
  rw [← hm] at hs4
  rw [← hm]
  have hm60 : m ≤ 60 := by have := HLM0.out; omega
  have hs4 := hs4.more (T := fun i => w.heap.size + 1 ≤ i ∧ i < w2.heap.size) (fun i hi => ⟨by have := hi.1; omega, hi.2⟩)
  have hs12 := hs12.more (T := fun i => w.heap.size + 1 ≤ i ∧ i < w2.heap.size) (fun i hi => ⟨hi.1, by have := hi.2; omega⟩)
  have HBR2 := Lib.hid hbr2
  have HC2 := Lib.hid hc2
  have HOW2 := Lib.hid how2
  have HS12 := Lib.hid hs12
  have HAT := Lib.hid hat
  have HPAT' := Lib.hid hpat'
  have HM := Lib.hid hm
  have HS4 := Lib.hid hs4
  clear hbr2 hc2 how2 hs12 hat hpat' hm hs4
  clear harcs hpat hra HRED HPAT0 HLM0 HS1 HBR1 HC1 HOW1 hk2
  go_upto_region 2 with fail
  generalize hW3 : w2.alloc (.cells #[.slice A1 n c1, .slice A2 n c2, .slice A4 m c4] 32) = w3
  have hk3 : Keep w2 w3 := hW3 ▸ Keep.new _ _
  obtain ⟨g6, hg6⟩ : ∃ g6, g6 = w2.heap.size := ⟨_, rfl⟩
  have hb63 : Blk w3 g6 32 #[.slice A1 n c1, .slice A2 n c2, .slice A4 m c4] := hg6 ▸ hW3 ▸ Blk.new w2 _ _
  rw [← hg6]
  have hgw6 : w.heap.size < g6 := by have := HBR2.out.lt; omega
  have hbr3 := hk3.blk HBR2.out (by have := HBR2.out.lt; omega)
  have hg6w : w2.heap.size ≤ g6 := by omega
  have hc3 := HC2.out.keep hk3
  have how3 := Only.keep HOW2.out hk3
  have hs13 := HS12.out.keep (hk3.mono (fun i hi => hi.2))
  have hs43 := HS4.out.keep (hk3.mono (fun i hi => hi.2))
  have hz3 := hk3.size
  have hl63 := hb63.lt
  have HB63 := Lib.hid hb63
  have HBR3 := Lib.hid hbr3
  have HC3 := Lib.hid hc3
  have HOW3 := Lib.hid how3
  have HS13 := Lib.hid hs13
  have HS43 := Lib.hid hs43
  clear hb63 hbr3 hc3 how3 hs13 hs43
  clear hW3 hk3 HBR2 HC2 HOW2 HS12 HS4 hg6
  have c60 : w3.cell? ⟨g6, 0, none⟩ = some (.slice A1 n c1) := by rw [HB63.out.cell]; rfl
  have hmk1 := HMK.out n (by omega)
  have hrel0 : ∀ j, Ln1 B gc w3.heap.size n w3 (.int .i64 0) ((w3.drewN j).alloc (.cells (zerosA n) 3)) := fun j => ⟨0, zerosL n, rfl, Nat.zero_le _, by simp [zerosL], fun j hj => absurd hj (by omega), by rw [zeros_flat]; exact Blk.new (w3.drewN j) _ _, ⟨_, (HC3.out.keep (Keep.draws w3 j)).keep (Keep.new _ _)⟩, (Keep.trans (Keep.draws w3 j) (Keep.new _ _)).only gc, Nat.le_refl _⟩
  have HREL0 := Lib.hid hrel0
  clear hrel0
  go_wp2_with fail
  go_loopw [9] (fun i wr => Ln1 B gc w3.heap.size n w3 i wr) (fun i _ => n - (intOf i).toNat)
  case atStart => first | exact HREL0.out 0 | exact HREL0.out _
  case round =>
    clear HREL0 c60 hmk1
    obtain ⟨k, rs, rfl, hkn', hrl, hrs, hbr4, ⟨r4, hc4⟩, how4, hgr⟩ := hrel
    have hz4 := how4.size
    by_cases hkn : k < n
    · have t0 : decide (k < n) = true := by simpa using hkn
      have t0' : decide ((k : Int) < (n : Int)) = true := by simp; omega
      have i0 : (0 : Int) ≤ k := by omega
      have i1 : (k : Int) < n := by omega
      have HRS := Lib.hid hrs
      have HBR4 := Lib.hid hbr4
      have HC4 := Lib.hid hc4
      have HOW4 := Lib.hid how4
      clear hrs hbr4 hc4 how4
      go_wp2_with fail
      refine (next_any wr B gc r4 6 HC4.out (by omega) (by omega)).mono ?_
      rintro e w5 ⟨v, hv0, hv1, rfl, hc5, ho5⟩
      have hz5 := ho5.size
      have hbr5 := ho5.blk HBR4.out ⟨HBR4.out.lt, by omega⟩
      have how5 : Only gc w3 w5 := Only.trans HOW4.out ho5
      have hcl : (rs.flatMap encI).toArray.size = n := by simp [flat_length encI_len, hrl]
      have HC5 := Lib.hid hc5
      have HBR5 := Lib.hid hbr5
      have HOW5 := Lib.hid how5
      clear hc5 hbr5 how5
      clear HC4 HBR4 HOW4 ho5
      go_wp2_with (refine wpList_store_one rfl _ (.tmp 38) (.tmp 37) rfl w3.heap.size k 3 _ (.int .i64 (1 + v)) rfl rfl HBR5.out (by omega) (by kernel_rfl) rfl rfl ?_; intro w6 hb6 hs6)
      go_roundw
      case rel =>
        refine ⟨k + 1, rs.set k (1 + v), by go_num, by omega, by simp [hrl], fun j hj => ?_, by rw [flatI_set]; exact hb6, ⟨_, HC5.out.write hs6 (fun hh => by have := HBW.out _ hh; omega)⟩, Only.write HOW5.out hs6 (Nat.le_refl _), Nat.le_refl _⟩
        by_cases e : k = j
        · subst e; rw [getD_set_self (by omega)]; omega
        · rw [getD_set_other e]; exact HRS.out j (by omega)
      case measure => simp [intOf]; omega
    · have t0 : decide (k < n) = false := by simpa using hkn
      have t0' : decide ((k : Int) < (n : Int)) = false := by simp; omega
      obtain rfl : n = k := by omega
      obtain ⟨w4, rfl⟩ : ∃ w4 : World, w4 = wr := ⟨_, rfl⟩
      obtain ⟨bl, ol, lv0, rfl, -, -, -⟩ := HS13.out.at_ encI_len (k := 0) (by omega)
      have hgw4 : gc < w4.heap.size := by omega
      have zb6 : ∀ wx, Only gc w4 wx → Blk wx g6 32 #[.slice (some ⟨bl, ol, none⟩) n c1, .slice A2 n c2, .slice A4 m c4] := fun wx hx => (Only.trans how4 hx).blk HB63.out ⟨hl63, by omega⟩
      have zbr : ∀ wx, Only gc w4 wx → Blk wx w.heap.size 32 #[.slice none 0 0, .slice none 0 0, .slice none 0 0] := fun wx hx => (Only.trans how4 hx).blk HBR3.out ⟨by omega, by omega⟩
      have zs1 : ∀ wx, Only gc w4 wx → Sl encI 1 wx (fun i => w.heap.size + 1 ≤ i ∧ i < w2.heap.size) (some ⟨bl, ol, none⟩) n c1 (intsN ls) := fun wx hx => HS13.out.keep ((Only.trans how4 hx).mono (fun i hi => ⟨by have := hi.2; omega, by have := hi.1; omega⟩))
      have zs4 : ∀ wx, Only gc w4 wx → Sl encArc 4 wx (fun i => w.heap.size + 1 ≤ i ∧ i < w2.heap.size) A4 m c4 arcs := fun wx hx => HS43.out.keep ((Only.trans how4 hx).mono (fun i hi => ⟨by have := hi.2; omega, by have := hi.1; omega⟩))
      have zr : ∀ wx, Only gc w4 wx → Blk wx w3.heap.size 3 (rs.flatMap encI).toArray := fun wx hx => Same.blk hx hbr4 ⟨hbr4.lt, by omega⟩
      have how4w : Only gc w w4 := Only.trans HOW3.out how4
      have hml1 := HML.out n (by omega)
      have hrel2 : Ln2 B gc w4.heap.size n ls w4 (.int .i64 0) (w4.alloc (.cells (List.replicate n (.slice none 0 0)).toArray 46)) := ⟨0, _, _, rfl, Nat.zero_le _, LinM.init (Blk.new _ _ _) (Nat.le_refl _), fun p hp => absurd hp (by omega), fun p _ => getD_repl _ _, (fun q j e he => (by rw [getD_repl] at he; cases he) : Tk (List.replicate n [])), ⟨_, hc4.keep (Keep.new _ _)⟩, (Keep.new _ _).only gc⟩
      have HREL2 := Lib.hid hrel2
      have ZB6 := Lib.hid zb6
      have ZBR := Lib.hid zbr
      have ZS1 := Lib.hid zs1
      have ZS4 := Lib.hid zs4
      have ZR := Lib.hid zr
      have HOW4W := Lib.hid how4w
      have HRS := Lib.hid hrs
      clear hrel2 zb6 zbr zs1 zs4 zr how4w hrs
      clear hbr4 hc4 how4 HS13 HS43 HB63 HBR3 HOW3
      go_wp2_with fail
      go_loopw [11] (fun i wr => Ln2 B gc w4.heap.size n ls w4 i wr) (fun i _ => n - (intOf i).toNat)
      case atStart => exact HREL2.out
      case round =>
        clear HREL2 hml1
        obtain ⟨q, vs, l, rfl, hqn', hlm, hlens, hnil, htk, hcr, how⟩ := hrel
        by_cases hqn : q < n
        · have t1 : decide (q < n) = true := by simpa using hqn
          have t1' : decide ((q : Int) < (n : Int)) = true := by simp; omega
          obtain ⟨w5, rfl⟩ : ∃ w5 : World, w5 = wr := ⟨_, rfl⟩
          obtain ⟨x, hx⟩ : ∃ x, x = ls.getD q 0 := ⟨_, rfl⟩
          have hx60 : x ≤ 60 := by have := HLE.out q; omega
          have hrel3 : Ln3 B gc w4.heap.size n q ls w4 (.int .i64 1) w5 := ⟨0, vs, l, rfl, Nat.zero_le _, hlm, hlens, by rw [hnil q (Nat.le_refl _)]; rfl, fun p hp => hnil p (by omega), htk, hcr, how⟩
          have HREL3 := Lib.hid hrel3
          have HX := Lib.hid hx
          clear hrel3 hx
          clear hlm hlens hnil htk hcr how
          go_wp2_with fail
          go_loopw [12] (fun i wr => Ln3 B gc w4.heap.size n q ls w4 i wr) (fun i _ => x + 1 - (intOf i).toNat)
          case atStart => exact HREL3.out
          case round =>
            clear HREL3
            obtain ⟨k, vs, l, rfl, hkx', hlm, hlens, hlk, hnil, htk, ⟨r5, hc5⟩, how⟩ := hrel
            have c6 : wr.cell? ⟨g6, 0, none⟩ = some (.slice (some ⟨bl, ol, none⟩) n c1) := by rw [(ZB6.out wr how).cell]; rfl
            have cl : wr.cell? ⟨bl, ol + q, none⟩ = some (.int .i64 x) := by rw [HX.out]; exact sl_ints_cell (ZS1.out wr how) hqn
            have i0 : (0 : Int) ≤ q := by omega
            have i1 : (q : Int) < n := by omega
            rw [← HX.out] at hkx'
            have hz5 := how.size
            by_cases hkx : k < x
            · have t2 : decide ((k : Int) + 1 ≤ x) = true := by simp; omega
              obtain ⟨v, hv⟩ := hlm.get hqn
              have hrow := hlm.row q v hv
              rw [hlk] at hrow
              obtain ⟨Av, cv, rfl, hv1, hv2⟩ := own_form hrow
              have y0 : ∀ wx, TrX wr gc (.slice Av k cv) wx → wx.cell? ⟨w4.heap.size, q, none⟩ = some (.slice Av k cv) := fun wx hx => by rw [(Same.blk hx hlm.blk ⟨hlm.blk.lt, by omega, hlm.own q _ hv⟩).cell, List.getElem?_toArray]; exact hv
              have HLM := Lib.hid hlm
              have HLENS := Lib.hid hlens
              have HLK := Lib.hid hlk
              have HNIL := Lib.hid hnil
              have HTK := Lib.hid htk
              have HC5 := Lib.hid hc5
              have HOW := Lib.hid how
              have HV := Lib.hid hv
              clear hlm hlens hlk hnil htk hc5 how hv
              clear hrow
              go_upto_region 15 with fail
              clear c6 cl
              refine wp_region_L 12 (fun wx => TrX wr gc (.slice Av k cv) wx) (fun _ => True) (by kernel_rfl) (Same.drew (Same.refl _ _)) trivial (fun hA hB => ?_)
              have hku : Keep wr wr.drew := Same.drew (Same.refl _ _)
              generalize hu0 : wr.drew = u0 at hA hku ⊢
              clear hu0
              refine wpL_takeA (i := 0) (v := ?_) rfl (by kernel_rfl) (by kernel_rfl) (by kernel_rfl) (by kernel_rfl) (by decide) (fun _ _ _ h => h) (Or.inl ⟨by rfl, ?_⟩) hA hB ?_
              rotate_left
              · rintro wx ⟨hAx, hBx⟩
                (try dsimp only at hBx); (try dsimp only at hAx)
                go_simp
                try with_reducible rfl
              try simp only [Act.put, List.setIfInBounds_toArray, List.set_cons_zero, List.set_cons_succ]
              refine wpL_takeA (i := 1) (v := ?_) rfl (by kernel_rfl) (by kernel_rfl) (by kernel_rfl) (by kernel_rfl) (by decide) (fun _ _ _ h => h) (Or.inl ⟨by rfl, ?_⟩) hA hB ?_
              rotate_left
              · rintro wx ⟨hAx, hBx⟩
                (try dsimp only at hBx); (try dsimp only at hAx)
                go_simp
                try with_reducible rfl
              try simp only [Act.put, List.setIfInBounds_toArray, List.set_cons_zero, List.set_cons_succ]
              refine wpL_takeA (i := 2) (v := ?_) rfl (by kernel_rfl) (by kernel_rfl) (by kernel_rfl) (by kernel_rfl) (by decide) (fun _ _ _ h => h) (Or.inl ⟨by rfl, ?_⟩) hA hB ?_
              rotate_left
              · rintro wx ⟨hAx, hBx⟩
                (try dsimp only at hBx); (try dsimp only at hAx)
                go_simp
                try with_reducible rfl
              try simp only [Act.put, List.setIfInBounds_toArray, List.set_cons_zero, List.set_cons_succ]
              refine wpL_takeA (i := 3) (v := ?_) rfl (by kernel_rfl) (by kernel_rfl) (by kernel_rfl) (by kernel_rfl) (by decide) (fun _ _ _ h => h) (Or.inl ⟨by rfl, ?_⟩) hA hB ?_
              rotate_left
              · rintro wx ⟨hAx, hBx⟩
                (try dsimp only at hBx); (try dsimp only at hAx)
                go_simp
                try with_reducible rfl
              try simp only [Act.put, List.setIfInBounds_toArray, List.set_cons_zero, List.set_cons_succ]
              refine wpL_takeA (i := 4) (v := ?_) rfl (by kernel_rfl) (by kernel_rfl) (by kernel_rfl) (by kernel_rfl) (by decide) (fun _ _ _ h => h) (Or.inl ⟨by rfl, ?_⟩) hA hB ?_
              rotate_left
              · rintro wx ⟨hAx, hBx⟩
                (try dsimp only at hBx); (try dsimp only at hAx)
                go_simp
                try with_reducible rfl
              try simp only [Act.put, List.setIfInBounds_toArray, List.set_cons_zero, List.set_cons_succ]
              refine wpL_takeA (i := 5) (v := ?_) rfl (by kernel_rfl) (by kernel_rfl) (by kernel_rfl) (by kernel_rfl) (by decide) (fun _ _ _ h => h) (Or.inl ⟨by rfl, ?_⟩) hA hB ?_
              rotate_left
              · rintro wx ⟨hAx, hBx⟩
                (try dsimp only at hBx); (try dsimp only at hAx)
                go_simp
                try with_reducible rfl
              try simp only [Act.put, List.setIfInBounds_toArray, List.set_cons_zero, List.set_cons_succ]
              refine wpL_takeA (i := 6) (v := ?_) rfl (by kernel_rfl) (by kernel_rfl) (by kernel_rfl) (by kernel_rfl) (by decide) (fun _ _ _ h => h) (Or.inl ⟨by rfl, ?_⟩) hA hB ?_
              rotate_left
              · rintro wx ⟨hAx, hBx⟩
                (try dsimp only at hBx); (try dsimp only at hAx)
                go_simp
                try with_reducible rfl
              try simp only [Act.put, List.setIfInBounds_toArray, List.set_cons_zero, List.set_cons_succ]
              clear y0
              refine wpL_one (i := 7) (by kernel_rfl) (StepL.mk rfl (fun K hK => ?_))
              go_simp
              refine (next_any u0 B gc _ 4 (HC5.out.keep hku) (by omega) (by omega)).mono ?_
              rintro e u1 ⟨v2, hw0, hw1, rfl, hc8, ho8⟩
              have hzu := hku.size
              have hz8 := ho8.size
              have hA8 : TrX wr gc (.slice Av k cv) u1 := Same.trans (hku.mono (fun i hi => hi.1)) ho8 (fun i hi => ⟨by have := hi.1; omega, hi.2.1⟩)
              have how8 : Only gc w4 u1 := Only.trans (Only.keep HOW.out hku) ho8
              have hm8 := (HLM.out.keep hku).same (ho8.mono (fun i hi => ⟨hi.2, by have := hi.1; omega⟩))
              refine hK.out _ _ (SAB.both hA8 trivial) (fun hSS => ?_)
              clear hK K hA hB
              have hB := hSS.2
              have hA := hSS.1 (by kernel_rfl)
              (try dsimp only at hB); (try dsimp only at hA); clear hSS
              try simp only [Act.put, List.setIfInBounds_toArray, List.set_cons_zero, List.set_cons_succ]
              refine wpL_takeA (i := 8) rfl (by kernel_rfl) (by kernel_rfl) (by kernel_rfl) (by kernel_rfl) (by decide) (fun _ _ _ h => h) (yieldsIf_bld (by rfl) 50 _ rfl _ [(0, .int .i64 2), (5, .int .i64 v2)] rfl (bld_ev2 _)) hA hB ?_
              try simp only [Act.put, List.setIfInBounds_toArray, List.set_cons_zero, List.set_cons_succ]
              refine wpL_one (i := 9) (by kernel_rfl) (StepL.mk rfl (fun K hK => ?_))
              refine step_buildS rfl _ _ _ _ rfl Try.underlying46 _ [(0, .agg #[.int .i64 2, .int .i64 0, .int .i64 0, .int .i64 0, .int .i64 0, .int .i64 0, .int .i64 v2])] rfl (built_ev _ _ _ _ _ _ _) ?_
              have hkb : Keep u1 (u1.alloc (.cells #[.int .i64 2, .int .i64 0, .int .i64 0, .int .i64 0, .int .i64 0, .int .i64 0, .int .i64 v2] 50)) := Keep.new _ _
              have hrd := Reads.new (w := u1) (e := 50) (cs := [.int .i64 2, .int .i64 0, .int .i64 0, .int .i64 0, .int .i64 0, .int .i64 0, .int .i64 v2]) (size := 7) (n := 1) rfl
              have hA9 : TrX wr gc (.slice Av k cv) (u1.alloc (.cells #[.int .i64 2, .int .i64 0, .int .i64 0, .int .i64 0, .int .i64 0, .int .i64 0, .int .i64 v2] 50)) := Same.trans hA8 hkb (fun i hi => by have := hi.1; omega)
              refine hK.out _ _ (SAB.both hA9 trivial) (fun hSS => ?_)
              clear hK K hA hB
              have hB := hSS.2
              have hA := hSS.1 (by kernel_rfl)
              (try dsimp only at hB); (try dsimp only at hA); clear hSS
              try simp only [Act.put, List.setIfInBounds_toArray, List.set_cons_zero, List.set_cons_succ]
              generalize hu2 : u1.alloc (.cells #[.int .i64 2, .int .i64 0, .int .i64 0, .int .i64 0, .int .i64 0, .int .i64 0, .int .i64 v2] 50) = u2 at *
              have hz9 := hkb.size
              have hm9 := hm8.keep hkb
              have hc9 := hc8.keep hkb
              have how9 := Only.keep how8 hkb
              have hrow9 := hm9.row q _ HV.out
              rw [HLK.out] at hrow9
              refine wpL_one (i := 10) (by kernel_rfl) (StepL.mk rfl (fun K hK => ?_))
              refine step_append_any _ (by rfl) (.tmp 60) (.tmp 64) _ (by rfl) w4.heap.size 50 iE _ 7 56 Try.underlying46 HJ0.out JZ0.out JS0.out JB0.out rfl (by omega) (.slice Av k cv) k ((l.getD q []).flatMap encEv) (by rfl) hrow9 _ (some ⟨u1.heap.size, 0, none⟩) 1 1 (encEv ⟨2, 0, 0, 0, 0, 0, v2⟩) (by rfl) hrd (encEv_one _) (by simp [maxLen]; omega) (by omega) (by omega) ?_
              intro vb wb hownb hgb' hatb
              obtain ⟨Ab, cb, hvb, hnb, hcb⟩ := own_form hownb
              subst hvb
              have hnr : ∀ b, b < w4.heap.size → (Value.slice Av k cv).ownBlock ≠ some b := fun b hb e => by have := (hm9.lt HV.out e).1; omega
              have hG : Same (fun i => i < u2.heap.size ∧ (Value.slice Av k cv).ownBlock ≠ some i) u2 wb := Same.grown (Same.refl _ _) hgb' (fun i hi => hi.1) (fun k hk hh => hh.2 hk)
              have hAb : TrX wr gc (.slice Av k cv) wb := Same.trans hA9 hG (fun i hi => ⟨by have := hi.1; omega, hi.2.2⟩)
              have hcb9 := hc9.same (hG.mono (fun i hi => ⟨by have := HBW.out i hi; omega, hnr i (by have := HBW.out i hi; omega)⟩))
              have hob9 : Only gc w4 wb := Same.trans how9 hG (fun i hi => ⟨by have := hi.1; omega, hnr i hi.1⟩)
              have hblk9 := hG.blk hm9.blk ⟨hm9.blk.lt, hm9.own q _ HV.out⟩
              refine hK.out _ _ (SAB.both hAb trivial) (fun hSS => ?_)
              clear hK K hA hB
              have hB := hSS.2
              have hA := hSS.1 (by kernel_rfl)
              (try dsimp only at hB); (try dsimp only at hA); clear hSS
              try simp only [Act.put, List.setIfInBounds_toArray, List.set_cons_zero, List.set_cons_succ]
              refine wpL_takeA (i := 11) (v := ?_) rfl (by kernel_rfl) (by kernel_rfl) (by kernel_rfl) (by kernel_rfl) (by decide) (fun _ _ _ h => h) (Or.inl ⟨by rfl, ?_⟩) hA hB ?_
              rotate_left
              · rintro wx ⟨hAx, hBx⟩
                (try dsimp only at hBx); (try dsimp only at hAx)
                go_simp
                try with_reducible rfl
              try simp only [Act.put, List.setIfInBounds_toArray, List.set_cons_zero, List.set_cons_succ]
              refine wpL_one (i := 12) (by kernel_rfl) (StepL.mk rfl (fun K hK => ?_))
              refine step_store_one rfl _ _ _ rfl w4.heap.size q 46 _ (.slice Ab (k + 1) cb) rfl rfl hblk9 (by rw [List.size_toArray, hm9.vlen]; exact hqn) (by kernel_rfl) rfl rfl ?_
              intro wz hbz hsz
              have hmz := hm9.push (e := ⟨2, 0, 0, 0, 0, 0, v2⟩) HV.out (by rw [HLK.out]; exact hownb) hgb' hatb (by simpa using hbz) hsz
              have hlql : q < l.length := by rw [hm9.llen]; exact hqn
              refine hK.out _ _ (SAB.past (by kernel_rfl) trivial) (fun hSS => ?_)
              clear hK K hA hB
              have hB := hSS.2
              have hA : True := trivial
              (try dsimp only at hB); (try dsimp only at hA); clear hSS
              try simp only [Act.put, List.setIfInBounds_toArray, List.set_cons_zero, List.set_cons_succ]
              refine wpL_done (by kernel_rfl) ?_
              have hfin : Ln3 B gc w4.heap.size n q ls w4 (.int .i64 ((k : Int) + 1 + 1)) wz := ⟨k + 1, _, _, by go_num, by rw [← HX.out]; omega, hmz, fun p hp => by rw [getD_setO (by omega)]; exact HLENS.out p hp, by rw [getD_setL hlql, List.length_append, HLK.out]; rfl, fun p hp => by rw [getD_setO (by omega)]; exact HNIL.out p hp, HTK.out.push hlql rfl, ⟨_, hcb9.write hsz (fun hh => by have := HBW.out _ hh; omega)⟩, Only.write hob9 hsz (Nat.le_refl _)⟩
              have HFIN := Lib.hid hfin
              clear hfin
              clear hA hB hmz hbz hsz hblk9 hob9 hcb9 hAb hG hnr hownb hgb' hatb hrow9 how9 hc9 hm9 hA9 hrd hkb hm8 how8 hA8 hc8 ho8 hku hu2
              go_wp2_with fail
              go_roundw
              case rel => exact HFIN.out
              case measure => simp [intOf]; omega
            · have t2 : decide ((k : Int) + 1 ≤ x) = false := by simp; omega
              obtain rfl : x = k := by omega
              have hfin : Ln2 B gc w4.heap.size n ls w4 (.int .i64 ((q : Int) + 1)) wr := ⟨q + 1, vs, l, by go_num, by omega, hlm, fun p hp => by
                rcases Nat.lt_or_ge p q with h | h
                · exact hlens p h
                · obtain rfl : p = q := by omega
                  rw [hlk]; exact HX.out, fun p hp => hnil p (by omega), htk, ⟨_, hc5⟩, how⟩
              have HFIN := Lib.hid hfin
              clear hfin
              clear hlm hlens hlk hnil htk hc5 how
              go_wp2_with fail
              go_roundw
              case rel => exact HFIN.out
              case measure => simp [intOf]; omega
        · have t1 : decide (q < n) = false := by simpa using hqn
          have t1' : decide ((q : Int) < (n : Int)) = false := by simp; omega
          obtain rfl : n = q := by omega
          have hrel4 : Ln4 B gc w4.heap.size n ls w4 (.int .i64 0) wr := ⟨0, vs, l, rfl, Nat.zero_le _, hlm, hlens, htk, hcr, how⟩
          have HREL4 := Lib.hid hrel4
          clear hrel4
          clear hlm hlens hnil htk hcr how
          go_wp2_with fail
          go_loopw [13] (fun i wr => Ln4 B gc w4.heap.size n ls w4 i wr) (fun i _ => n - (intOf i).toNat)
          case atStart => exact HREL4.out
          case round =>
            clear HREL4
            obtain ⟨q, vs, l, rfl, hqn', hlm, hlens, htk, hcr, how⟩ := hrel
            by_cases hqn : q < n
            · have t1 : decide (q < n) = true := by simpa using hqn
              have t1' : decide ((q : Int) < (n : Int)) = true := by simp; omega
              obtain ⟨w5, rfl⟩ : ∃ w5 : World, w5 = wr := ⟨_, rfl⟩
              obtain ⟨x, hx⟩ : ∃ x, x = ls.getD q 0 := ⟨_, rfl⟩
              have hx60 : x ≤ 60 := by have := HLE.out q; omega
              have hrel5 : Ln5 B gc w4.heap.size n q ls w4 (.int .i64 0) (.int .i64 1) w5 := ⟨0, 0, vs, l, rfl, Nat.le_refl _, rfl, Nat.zero_le _, hlm, hlens, htk, hcr, how⟩
              obtain ⟨rv, hrv⟩ : ∃ rv, rv = rs.getD q 0 := ⟨_, rfl⟩
              have hr1 := HRS.out q hqn
              rw [← hrv] at hr1
              obtain ⟨hrv1, hrv6⟩ := hr1
              have HREL5 := Lib.hid hrel5
              have HX := Lib.hid hx
              have HRV := Lib.hid hrv
              clear hrel5 hx hrv
              clear hlm hlens htk hcr how
              go_wp2_with fail
              go_loopw [14, 15] (fun u i wr => Ln5 B gc w4.heap.size n q ls w4 u i wr) (fun u i _ => x + 1 - (intOf i).toNat)
              case atStart => exact HREL5.out
              case round =>
                clear HREL5
                obtain ⟨k, up, vs, l, rfl, hup, rfl, hkx', hlm, hlens, htk, ⟨r5, hc5⟩, how⟩ := hrel
                have c6 : wr.cell? ⟨g6, 0, none⟩ = some (.slice (some ⟨bl, ol, none⟩) n c1) := by rw [(ZB6.out wr how).cell]; rfl
                have cl : wr.cell? ⟨bl, ol + q, none⟩ = some (.int .i64 x) := by rw [HX.out]; exact sl_ints_cell (ZS1.out wr how) hqn
                have cr : wr.cell? ⟨w3.heap.size, q, none⟩ = some (.int .i64 rv) := by rw [(ZR.out wr how).cell, flatI_get (by omega), HRV.out]
                have i0 : (0 : Int) ≤ q := by omega
                have i1 : (q : Int) < n := by omega
                rw [← HX.out] at hkx'
                have hz5 := how.size
                by_cases hkx : k < x
                · have t2 : decide ((k : Int) + 1 ≤ x) = true := by simp; omega
                  have HLM := Lib.hid hlm
                  have HLENS := Lib.hid hlens
                  have HTK := Lib.hid htk
                  have HC5 := Lib.hid hc5
                  have HOW := Lib.hid how
                  clear hlm hlens htk hc5 how
                  go_wp2_with fail
                  refine (next_any wr B gc r5 rv HC5.out (by omega) (by omega)).mono ?_
                  rintro e w6 ⟨v, hv0, hv1, rfl, hc6, ho6⟩
                  have hz6 := ho6.size
                  clear c6 cl cr
                  have hm6 := HLM.out.same (ho6.mono (fun i hi => ⟨hi.2, by have := hi.1; omega⟩))
                  have how6 : Only gc w4 w6 := Only.trans HOW.out ho6
                  obtain ⟨b, c', cur, ev, hv', hbb, hbg, hblk, hcs, hnc, hcm', htk', hev, hcells⟩ := hm6.at_ hqn (k := k) (by rw [HLENS.out q hqn, ← HX.out]; omega)
                  have hlq := HLENS.out q hqn
                  rw [← HX.out] at hlq
                  have hv9 := hv'
                  rw [hlq] at hv9
                  have hcc : k * 7 + 7 ≤ cur.size := by rw [hlq] at hnc; omega
                  have x0 : w6.cell? ⟨w4.heap.size, q, none⟩ = some (.slice (some ⟨b, 0, none⟩) x c') := by rw [hm6.blk.cell, List.getElem?_toArray]; exact hv9
                  have fin : ∀ (u : Nat) (w7 : World), u ≤ k + 1 → Blk w7 b 50 (cur.setIfInBounds (k * 7 + 1) (.int .i64 u)) → Same (· ≠ b) w6 w7 → Ln5 B gc w4.heap.size n q ls w4 (.int .i64 u) (.int .i64 ((k : Int) + 1 + 1)) w7 := fun u w7 hu hb7 hs7 =>
                    ⟨k + 1, u, vs, _, rfl, hu, by go_num, by rw [← HX.out]; omega, hm6.put hv' hcs hnc hcm' htk' hev (by omega) (Ev.put_enc ev 1 u (by omega)) hb7 hs7, fun p hp => by rw [len_set (by rw [hm6.llen]; exact hqn)]; exact HLENS.out p hp, HTK.out.set_ (by rw [hm6.llen]; exact hqn) (HTK.out q k ev hev), ⟨_, hc6.write hs7 (fun hh => by have := HBW.out _ hh; omega)⟩, Only.write how6 hs7 hbb⟩
                  have e1 : (k : Int) + 1 - 1 = k := by omega
                  have j0 : (0 : Int) ≤ k := by omega
                  have j1 : (k : Int) < x := by omega
                  have HBLK := Lib.hid hblk
                  have FIN := Lib.hid fin
                  clear hblk fin
                  clear hm6 how6 hv' hv9 hnc hcs htk' hev hcells hlq hcm' ho6 hc6 HLM HOW HC5
                  by_cases e3 : v = 1
                  · have t3 : (v == 1) = true := by simpa using e3
                    clear e3
                    go_wp2_with (refine wpList_store_one rfl _ (.tmp 98) (.tmp 96) rfl b (k * 7 + 1) 50 cur (.int .i64 ((up : Int) + 1)) rfl rfl HBLK.out (by omega) (by kernel_rfl) rfl rfl ?_; intro w7 hb7 hs7)
                    go_roundw
                    case rel => exact FIN.out (up + 1) w7 (by omega) hb7 hs7
                    case measure => simp [intOf]; omega
                  · have t3 : (v == 1) = false := by simpa using e3
                    clear e3
                    go_wp2_with (refine wpList_store_one rfl _ (.tmp 98) (.tmp 96) rfl b (k * 7 + 1) 50 cur (.int .i64 (up : Int)) rfl rfl HBLK.out (by omega) (by kernel_rfl) rfl rfl ?_; intro w7 hb7 hs7)
                    go_roundw
                    case rel => exact FIN.out up w7 (by omega) hb7 hs7
                    case measure => simp [intOf]; omega
                · have t2 : decide ((k : Int) + 1 ≤ x) = false := by simp; omega
                  have hfin : Ln4 B gc w4.heap.size n ls w4 (.int .i64 ((q : Int) + 1)) wr := ⟨q + 1, vs, l, by go_num, by omega, hlm, hlens, htk, ⟨_, hc5⟩, how⟩
                  have HFIN := Lib.hid hfin
                  clear hfin
                  clear hlm hlens htk hc5 how
                  go_wp2_with fail
                  go_roundw
                  case rel => exact HFIN.out
                  case measure => simp [intOf]; omega
            · have t1 : decide (q < n) = false := by simpa using hqn
              have t1' : decide ((q : Int) < (n : Int)) = false := by simp; omega
              obtain ⟨inc, hli⟩ := LinI.zero (arcs := arcs) (l := l) (ls := ls) (by rw [hlm.llen]; exact HLS.out.symm) (fun p hp => hlens p (by have := HLS.out; omega)) htk
              have hrel6 : Ln6 B gc w4.heap.size n m ls arcs inc w4 (.int .i64 0) wr := ⟨0, vs, l, rfl, Nat.zero_le _, hlm, hli, hcr, how⟩
              obtain ⟨rk, TT, hpo1, hpo2, hpo3⟩ := id HPAT'.out
              have hpo : ∀ a ∈ arcs, a.frm < n ∧ a.to_ < n ∧ a.frm ≠ a.to_ ∧ a.idx ≤ ls.getD a.frm 0 ∧ a.at_ ≤ ls.getD a.to_ 0 := fun a ha => by
                obtain ⟨h1, h2, h3, h4, h5, -⟩ := hpo3 a ha
                have := HLS.out
                exact ⟨by omega, by omega, h3, h4, h5⟩
              have HREL6 := Lib.hid hrel6
              have HPO := Lib.hid hpo
              clear hrel6 hpo
              clear hlm hlens htk hcr how hli hpo1 hpo2 hpo3
              go_wp2_with fail
              go_loopw [16] (fun i wr => Ln6 B gc w4.heap.size n m ls arcs inc w4 i wr) (fun i _ => m - (intOf i).toNat)
              case atStart => exact HREL6.out
              case round =>
                clear HREL6
                obtain ⟨i, vs, l, rfl, him, hlm, hli, ⟨r5, hc5⟩, how⟩ := hrel
                by_cases him2 : i < m
                · obtain ⟨ba, oa, a, rfl, -, ha, hca⟩ := (ZS4.out wr how).at_ encArc_len him2
                  obtain ⟨pa1, pa2, pa3, pa4, pa5⟩ := HPO.out a (List.mem_of_getElem? ha)
                  have pa6 := HAT.out a (List.mem_of_getElem? ha)
                  obtain ⟨fr, ix, tq, tt⟩ := a
                  simp only at pa1 pa2 pa3 pa4 pa5 pa6
                  have t1 : decide (i < m) = true := by simpa using him2
                  have t1' : decide ((i : Int) < (m : Int)) = true := by simp; omega
                  have i0 : (0 : Int) ≤ i := by omega
                  have i1 : (i : Int) < m := by omega
                  have c6 : wr.cell? ⟨g6, 2, none⟩ = some (.slice (some ⟨ba, oa, none⟩) m c4) := by rw [(ZB6.out wr how).cell]; rfl
                  have hra : wr.rangeAt ba (oa + i * 4) [.int .i64 fr, .int .i64 ix, .int .i64 tq, .int .i64 tt] := fun j u hu => hca j u hu
                  have hz5 := how.size
                  have HRA := Lib.hid hra
                  have HLM := Lib.hid hlm
                  have HLI := Lib.hid hli
                  have HC5 := Lib.hid hc5
                  have HOW := Lib.hid how
                  have HA := Lib.hid ha
                  clear hra hlm hli hc5 how ha
                  clear hca
                  go_upto_region 30 with (refine wpList_load_range rfl _ (.tmp 109) rfl ba (oa + i * 4) [.int .i64 fr, .int .i64 ix, .int .i64 tq, .int .i64 tt] _ rfl HRA.out Try.underlying62 rfl (by kernel_rfl) ?_)
                  generalize hW6 : wr.alloc (.cells #[.int .i64 fr, .int .i64 ix, .int .i64 tq, .int .i64 tt] 62) = w6
                  have hk6 : Keep wr w6 := hW6 ▸ Keep.new _ _
                  have hb7 : Blk w6 wr.heap.size 62 #[.int .i64 fr, .int .i64 ix, .int .i64 tq, .int .i64 tt] := hW6 ▸ Blk.new _ _ _
                  obtain ⟨g7, hg7⟩ : ∃ g7, g7 = wr.heap.size := ⟨_, rfl⟩
                  rw [← hg7] at hb7
                  rw [← hg7]
                  have hg7l := hb7.lt
                  have hg7w : gc < g7 := by omega
                  have hz6 := hk6.size
                  have hlm6 := HLM.out.keep hk6
                  have hc66 := HC5.out.keep hk6
                  have how6 := Only.keep HOW.out hk6
                  have hlen1 : (l.getD tq []).length = ls.getD tq 0 := HLI.out.lens tq (by have := HLS.out; omega)
                  have htt60 : tt ≤ 60 := by have := HLE.out tq; omega
                  have hix60 : ix ≤ 60 := by have := HLE.out fr; omega
                  obtain ⟨b, c', cur, ev, hv', hbb, hbg, hblk, hcs, hnc, hcm', htk', hev, hcells⟩ := hlm6.at_ (q := tq) (k := tt - 1) (by omega) (by omega)
                  obtain ⟨len, hlen⟩ : ∃ len, len = (l.getD tq []).length := ⟨_, rfl⟩
                  rw [← hlen] at hv'
                  have hbl := hblk.lt
                  have htl : (tt : Int) - 1 < len := by omega
                  have htl0 : (0 : Int) ≤ (tt : Int) - 1 := by omega
                  have hton : (tq : Int) < n := by omega
                  have hto0 : (0 : Int) ≤ tq := by omega
                  have etn : ((tt : Int) - 1).toNat = tt - 1 := by omega
                  have ettc : (tt : Int) - 1 = ((tt - 1 : Nat) : Int) := by omega
                  have hinc : ev.inc = inc tq (tt - 1) := HLI.out.old hev
                  have hwr1 : IntKind.i64.wrap ((tt : Int) - 1) = (tt : Int) - 1 := IntWalk.i64_in _ (by omega)
                  obtain ⟨kt, hkt⟩ : ∃ kt, kt = tt - 1 := ⟨_, rfl⟩
                  rw [← hkt] at etn ettc hinc hcells hev
                  have hwr1b : IntKind.i64.wrap (kt : Int) = (kt : Int) := IntWalk.i64_in _ (by omega)
                  have hkt0 : (0 : Int) ≤ (kt : Int) := by omega
                  have hkt1 : (kt : Int) < len := by omega
                  have hkt2 : kt < len := by omega
                  have HKT := Lib.hid hkt
                  have HINC := Lib.hid hinc
                  clear hkt hinc
                  have z7 : ∀ (j : Nat) (u : Value), [(.int .i64 fr : Value), .int .i64 ix, .int .i64 tq, .int .i64 tt][j]? = some u → ∀ wx, Only gc w6 wx → wx.cell? ⟨g7, j, none⟩ = some u := fun j u hu wx hx => by
                    rw [(Same.blk hx hb7 ⟨hg7l, by omega⟩).cell]; simpa using hu
                  have zb : ∀ (j : Nat) (u : Value), (encEv ev)[j]? = some u → ∀ wx, Only gc w6 wx → wx.cell? ⟨b, kt * 7 + j, none⟩ = some u := fun j u hu wx hx => by
                    rw [(Same.blk hx hblk ⟨hbl, by omega⟩).cell]; exact hcells j u hu
                  have zg : ∀ (q : Nat) (v : Value), vs[q]? = some v → ∀ wx, Only gc w6 wx → wx.cell? ⟨w4.heap.size, q, none⟩ = some v := fun q v hv wx hx => by
                    rw [(Same.blk hx hlm6.blk ⟨hlm6.blk.lt, by omega⟩).cell, List.getElem?_toArray]; exact hv
                  have hb77 := hb7
                  have Z7 := Lib.hid z7
                  have ZB := Lib.hid zb
                  have ZG := Lib.hid zg
                  have HB77 := Lib.hid hb77
                  have HLM6 := Lib.hid hlm6
                  have HC66 := Lib.hid hc66
                  have HOW6 := Lib.hid how6
                  have HBLK := Lib.hid hblk
                  have HV' := Lib.hid hv'
                  have HEV := Lib.hid hev
                  have HLEN := Lib.hid hlen
                  have HLEN1 := Lib.hid hlen1
                  clear z7 zb zg hb77 hlm6 hc66 how6 hblk hv' hev hlen hlen1
                  clear hW6 hk6 hb7 hcells c6 HLM HC5 HOW HRA hg7
                  have y0 := Z7.out 0 _ rfl
                  have y1 := Z7.out 1 _ rfl
                  have y2 := Z7.out 2 _ rfl
                  have y3 := Z7.out 3 _ rfl
                  have yb := ZB.out 1 _ rfl
                  have yg := ZG.out tq _ HV'.out
                  go_cut [18] from 111 to 126 (fun p wx => LnE B gc w6 ev.inc fr p wx)
                  case first =>
                    refine wp_region_L 99 (fun _ => True) (fun wx => Only gc w6 wx) (by kernel_rfl) trivial (Same.drew (Same.refl _ _)) (fun hA hB => ?_)
                    have hku : Keep w6 w6.drew := Same.drew (Same.refl _ _)
                    generalize hu0 : w6.drew = u0 at hB hku ⊢
                    clear hu0
                    refine wpL_takeB (i := 0) (v := ?_) rfl (by kernel_rfl) (by kernel_rfl) (by kernel_rfl) (by decide) (fun _ _ _ h => h) (Or.inl ⟨by rfl, ?_⟩) (SAB.both hA hB) ?_
                    rotate_left
                    · intro wx hBx
                      (try dsimp only at hBx)
                      go_simp
                      try with_reducible rfl
                    try simp only [Act.put, List.setIfInBounds_toArray, List.set_cons_zero, List.set_cons_succ]
                    refine wpL_takeB (i := 1) (v := ?_) rfl (by kernel_rfl) (by kernel_rfl) (by kernel_rfl) (by decide) (fun _ _ _ h => h) (Or.inl ⟨by rfl, ?_⟩) (SAB.both hA hB) ?_
                    rotate_left
                    · intro wx hBx
                      (try dsimp only at hBx)
                      go_simp
                      try with_reducible rfl
                    try simp only [Act.put, List.setIfInBounds_toArray, List.set_cons_zero, List.set_cons_succ]
                    refine wpL_takeB (i := 2) (v := ?_) rfl (by kernel_rfl) (by kernel_rfl) (by kernel_rfl) (by decide) (fun _ _ _ h => h) (Or.inl ⟨by rfl, ?_⟩) (SAB.both hA hB) ?_
                    rotate_left
                    · intro wx hBx
                      (try dsimp only at hBx)
                      go_simp
                      try with_reducible rfl
                    try simp only [Act.put, List.setIfInBounds_toArray, List.set_cons_zero, List.set_cons_succ]
                    refine wpL_takeB (i := 3) (v := ?_) rfl (by kernel_rfl) (by kernel_rfl) (by kernel_rfl) (by decide) (fun _ _ _ h => h) (Or.inl ⟨by rfl, ?_⟩) (SAB.both hA hB) ?_
                    rotate_left
                    · intro wx hBx
                      (try dsimp only at hBx)
                      go_simp
                      try with_reducible rfl
                    try simp only [Act.put, List.setIfInBounds_toArray, List.set_cons_zero, List.set_cons_succ]
                    refine wpL_takeB (i := 4) (v := ?_) rfl (by kernel_rfl) (by kernel_rfl) (by kernel_rfl) (by decide) (fun _ _ _ h => h) (Or.inl ⟨by rfl, ?_⟩) (SAB.both hA hB) ?_
                    rotate_left
                    · intro wx hBx
                      (try dsimp only at hBx)
                      go_simp
                      try with_reducible rfl
                    try simp only [Act.put, List.setIfInBounds_toArray, List.set_cons_zero, List.set_cons_succ]
                    refine wpL_takeB (i := 5) (v := ?_) rfl (by kernel_rfl) (by kernel_rfl) (by kernel_rfl) (by decide) (fun _ _ _ h => h) (Or.inl ⟨by rfl, ?_⟩) (SAB.both hA hB) ?_
                    rotate_left
                    · intro wx hBx
                      (try dsimp only at hBx)
                      go_simp
                      try with_reducible rfl
                    try simp only [Act.put, List.setIfInBounds_toArray, List.set_cons_zero, List.set_cons_succ]
                    refine wpL_takeB (i := 6) (v := ?_) rfl (by kernel_rfl) (by kernel_rfl) (by kernel_rfl) (by decide) (fun _ _ _ h => h) (Or.inl ⟨by rfl, ?_⟩) (SAB.both hA hB) ?_
                    rotate_left
                    · intro wx hBx
                      (try dsimp only at hBx)
                      go_simp
                      try with_reducible rfl
                    try simp only [Act.put, List.setIfInBounds_toArray, List.set_cons_zero, List.set_cons_succ]
                    refine wpL_takeB (i := 7) (v := ?_) rfl (by kernel_rfl) (by kernel_rfl) (by kernel_rfl) (by decide) (fun _ _ _ h => h) (Or.inl ⟨by rfl, ?_⟩) (SAB.both hA hB) ?_
                    rotate_left
                    · intro wx hBx
                      (try dsimp only at hBx)
                      go_simp
                      try with_reducible rfl
                    try simp only [Act.put, List.setIfInBounds_toArray, List.set_cons_zero, List.set_cons_succ]
                    refine wpL_takeB (i := 8) (v := ?_) rfl (by kernel_rfl) (by kernel_rfl) (by kernel_rfl) (by decide) (fun _ _ _ h => h) (Or.inl ⟨by rfl, ?_⟩) (SAB.both hA hB) ?_
                    rotate_left
                    · intro wx hBx
                      (try dsimp only at hBx)
                      go_simp
                      try with_reducible rfl
                    try simp only [Act.put, List.setIfInBounds_toArray, List.set_cons_zero, List.set_cons_succ]
                    refine wpL_takeB (i := 9) (v := ?_) rfl (by kernel_rfl) (by kernel_rfl) (by kernel_rfl) (by decide) (fun _ _ _ h => h) (Or.inl ⟨by rfl, ?_⟩) (SAB.both hA hB) ?_
                    rotate_left
                    · intro wx hBx
                      (try dsimp only at hBx)
                      go_simp
                      try with_reducible rfl
                    try simp only [Act.put, List.setIfInBounds_toArray, List.set_cons_zero, List.set_cons_succ]
                    refine wpL_takeB (i := 10) (v := ?_) rfl (by kernel_rfl) (by kernel_rfl) (by kernel_rfl) (by decide) (fun _ _ _ h => h) (Or.inl ⟨by rfl, ?_⟩) (SAB.both hA hB) ?_
                    rotate_left
                    · intro wx hBx
                      (try dsimp only at hBx)
                      go_simp
                      try with_reducible rfl
                    try simp only [Act.put, List.setIfInBounds_toArray, List.set_cons_zero, List.set_cons_succ]
                    refine wpL_takeB (i := 11) (v := ?_) rfl (by kernel_rfl) (by kernel_rfl) (by kernel_rfl) (by decide) (fun _ _ _ h => h) (Or.inl ⟨by rfl, ?_⟩) (SAB.both hA hB) ?_
                    rotate_left
                    · intro wx hBx
                      (try dsimp only at hBx)
                      go_simp
                      try with_reducible rfl
                    try simp only [Act.put, List.setIfInBounds_toArray, List.set_cons_zero, List.set_cons_succ]
                    refine wpL_takeB (i := 12) (v := ?_) rfl (by kernel_rfl) (by kernel_rfl) (by kernel_rfl) (by decide) (fun _ _ _ h => h) (Or.inl ⟨by rfl, ?_⟩) (SAB.both hA hB) ?_
                    rotate_left
                    · intro wx hBx
                      (try dsimp only at hBx)
                      go_simp
                      try with_reducible rfl
                    try simp only [Act.put, List.setIfInBounds_toArray, List.set_cons_zero, List.set_cons_succ]
                    refine wpL_takeB (i := 13) (v := ?_) rfl (by kernel_rfl) (by kernel_rfl) (by kernel_rfl) (by decide) (fun _ _ _ h => h) (Or.inl ⟨by rfl, ?_⟩) (SAB.both hA hB) ?_
                    rotate_left
                    · intro wx hBx
                      (try dsimp only at hBx)
                      go_simp
                      try with_reducible rfl
                    try simp only [Act.put, List.setIfInBounds_toArray, List.set_cons_zero, List.set_cons_succ]
                    clear y0 y1 y2 y3 yb yg
                    refine wpL_two (i := 14) (j := 16) (by kernel_rfl) (StepL.mk rfl (fun K hK => ?_)) (StepL.mk rfl (fun K hK => ?_))
                    · go_simp
                      refine (next_any u0 B gc _ 2 (HC66.out.keep hku) (by omega) (by omega)).mono ?_
                      rintro e u1 ⟨v, hv0, hv1, rfl, hc7, ho7⟩
                      have hB7 : Only gc w6 u1 := Only.trans (hku.only gc) ho7
                      refine hK.out _ _ (SAB.both trivial hB7) (fun hSS => ?_)
                      clear hK K hA hB
                      have hB := hSS.2
                      have hA := hSS.1 (by kernel_rfl)
                      (try dsimp only at hB); (try dsimp only at hA); clear hSS
                      try simp only [Act.put, List.setIfInBounds_toArray, List.set_cons_zero, List.set_cons_succ]
                      refine wpL_takeB (i := 15) rfl (by kernel_rfl) (by kernel_rfl) (by kernel_rfl) (by decide) (fun _ _ _ h => h) (yieldsIf_bld (by rfl) 50 _ rfl _ [(0, .int .i64 1), (1, .int .i64 ev.inc), (2, .int .i64 fr), (5, .int .i64 1), (4, .int .i64 v)] rfl (bld_ev5 _ _ _)) (SAB.both hA hB) ?_
                      try simp only [Act.put, List.setIfInBounds_toArray, List.set_cons_zero, List.set_cons_succ]
                      refine wpL_one (i := 16) (by kernel_rfl) (StepL.mk rfl (fun K hK => ?_))
                      go_simp
                      have hk8 : Keep u1 (u1.alloc (.cells zE7.toArray 50)) := Keep.new _ _
                      have hb8 : Blk (u1.alloc (.cells zE7.toArray 50)) u1.heap.size 50 zE7.toArray := Blk.new _ _ _
                      have hB8 := Only.keep hB7 hk8
                      refine hK.out _ _ (SAB.both trivial hB8) (fun hSS => ?_)
                      clear hK K hA hB
                      have hB := hSS.2
                      have hA := hSS.1 (by kernel_rfl)
                      (try dsimp only at hB); (try dsimp only at hA); clear hSS
                      try simp only [Act.put, List.setIfInBounds_toArray, List.set_cons_zero, List.set_cons_succ]
                      generalize hu8 : u1.alloc (.cells #[.int .i64 0, .int .i64 0, .int .i64 0, .int .i64 0, .int .i64 0, .int .i64 0, .int .i64 0] 50) = u8 at *
                      have hu8' : u1.alloc (.cells zE7.toArray 50) = u8 := hu8
                      rw [hu8'] at hk8 hb8 hB8
                      clear hu8 hu8'
                      refine wpL_one (i := 17) (by kernel_rfl) (StepL.mk rfl (fun K hK => ?_))
                      refine step_store_blk rfl _ _ _ rfl u1.heap.size 0 50 _ (encEv ⟨1, ev.inc, fr, 0, 0, v, 1⟩) rfl rfl hb8 (by simp [zE7, encEv_len]) (by kernel_rfl) rfl ?_
                      intro v9 hv9 hs9
                      have hz9 := hB7.size
                      rw [splice_all (encEv ⟨1, ev.inc, fr, 0, 0, v, 1⟩) zE7.toArray rfl] at hv9
                      have hB9 : Only gc w6 v9 := Only.write hB8 hs9 hz9
                      have hfin : LnE B gc w6 ev.inc fr (.pointer (some ⟨u1.heap.size, 0, none⟩)) v9 := ⟨_, v, rfl, by omega, hv9, ⟨_, (hc7.keep hk8).write hs9 (fun hh => by have := HBW.out _ hh; omega)⟩, hB9⟩
                      refine hK.out _ _ (SAB.both trivial hB9) (fun hSS => ?_)
                      clear hK K hA hB
                      have hB := hSS.2
                      have hA : True := trivial
                      (try dsimp only at hB); (try dsimp only at hA); clear hSS
                      try simp only [Act.put, List.setIfInBounds_toArray, List.set_cons_zero, List.set_cons_succ]
                      refine wpL_done (by kernel_rfl) ?_
                      have HFIN := Lib.hid hfin
                      clear hfin
                      clear hA hB hB9 hv9 hs9 hb8 hk8 hB8 hB7 hc7 ho7 hku
                      go_wp2_with fail
                      go_meet
                      exact HFIN.out
                    · go_simp
                      have hk8 : Keep u0 (u0.alloc (.cells zE7.toArray 50)) := Keep.new _ _
                      have hb8 : Blk (u0.alloc (.cells zE7.toArray 50)) u0.heap.size 50 zE7.toArray := Blk.new _ _ _
                      have hB8 := Only.keep hB hk8
                      have hc68 := (HC66.out.keep hku).keep hk8
                      refine hK.out _ _ (SAB.both trivial hB8) (fun hSS => ?_)
                      clear hK K hA hB
                      have hB := hSS.2
                      have hA := hSS.1 (by kernel_rfl)
                      (try dsimp only at hB); (try dsimp only at hA); clear hSS
                      try simp only [Act.put, List.setIfInBounds_toArray, List.set_cons_zero, List.set_cons_succ]
                      generalize hu8 : u0.alloc (.cells #[.int .i64 0, .int .i64 0, .int .i64 0, .int .i64 0, .int .i64 0, .int .i64 0, .int .i64 0] 50) = u8 at *
                      have hu8' : u0.alloc (.cells zE7.toArray 50) = u8 := hu8
                      rw [hu8'] at hk8 hb8 hB8 hc68
                      clear hu8 hu8'
                      have hzu := hku.size
                      refine wpL_one (i := 14) (by kernel_rfl) (StepL.mk rfl (fun K hK => ?_))
                      go_simp
                      refine (next_any u8 B gc _ 2 hc68 (by omega) (by omega)).mono ?_
                      rintro e u1 ⟨v, hv0, hv1, rfl, hc7, ho7⟩
                      have hB7 : Only gc w6 u1 := Only.trans hB8 ho7
                      have hb81 := ho7.blk hb8 ⟨hb8.lt, by omega⟩
                      refine hK.out _ _ (SAB.both trivial hB7) (fun hSS => ?_)
                      clear hK K hA hB
                      have hB := hSS.2
                      have hA := hSS.1 (by kernel_rfl)
                      (try dsimp only at hB); (try dsimp only at hA); clear hSS
                      try simp only [Act.put, List.setIfInBounds_toArray, List.set_cons_zero, List.set_cons_succ]
                      refine wpL_takeB (i := 15) rfl (by kernel_rfl) (by kernel_rfl) (by kernel_rfl) (by decide) (fun _ _ _ h => h) (yieldsIf_bld (by rfl) 50 _ rfl _ [(0, .int .i64 1), (1, .int .i64 ev.inc), (2, .int .i64 fr), (5, .int .i64 1), (4, .int .i64 v)] rfl (bld_ev5 _ _ _)) (SAB.both hA hB) ?_
                      try simp only [Act.put, List.setIfInBounds_toArray, List.set_cons_zero, List.set_cons_succ]
                      refine wpL_one (i := 17) (by kernel_rfl) (StepL.mk rfl (fun K hK => ?_))
                      refine step_store_blk rfl _ _ _ rfl u0.heap.size 0 50 _ (encEv ⟨1, ev.inc, fr, 0, 0, v, 1⟩) rfl rfl hb81 (by simp [zE7, encEv_len]) (by kernel_rfl) rfl ?_
                      intro v9 hv9 hs9
                      rw [splice_all (encEv ⟨1, ev.inc, fr, 0, 0, v, 1⟩) zE7.toArray rfl] at hv9
                      have hB9 : Only gc w6 v9 := Only.write hB7 hs9 hzu
                      have hfin : LnE B gc w6 ev.inc fr (.pointer (some ⟨u0.heap.size, 0, none⟩)) v9 := ⟨_, v, rfl, by omega, hv9, ⟨_, hc7.write hs9 (fun hh => by have := HBW.out _ hh; omega)⟩, hB9⟩
                      refine hK.out _ _ (SAB.both trivial hB9) (fun hSS => ?_)
                      clear hK K hA hB
                      have hB := hSS.2
                      have hA : True := trivial
                      (try dsimp only at hB); (try dsimp only at hA); clear hSS
                      try simp only [Act.put, List.setIfInBounds_toArray, List.set_cons_zero, List.set_cons_succ]
                      refine wpL_done (by kernel_rfl) ?_
                      have HFIN := Lib.hid hfin
                      clear hfin
                      clear hA hB hB9 hv9 hs9 hb8 hb81 hk8 hB8 hB7 hc7 hc68 ho7 hku
                      go_wp2_with fail
                      go_meet
                      exact HFIN.out
                  case rest =>
                    obtain ⟨g8, v, rfl, hg8, hb8, hc8, how8⟩ := hcut
                    have hlql : tq < l.length := by rw [HLM6.out.llen]; exact pa2
                    have hkc : kt * 7 + 7 ≤ cur.size := by have := HLEN.out; omega
                    have fin : ∀ (u w10 : World) (sI v : Int), Only gc w6 u → (∃ r', Cod u B gc r') → (sI = if ix = 0 then 0 else inc fr (ix - 1)) → Blk w10 b 50 (splice cur (kt * 7) (encEv ⟨1, ev.inc, fr, sI, ix, v, 1⟩)) → Same (· ≠ b) u w10 → Ln6 B gc w4.heap.size n m ls arcs inc w4 (.int .i64 ((i : Int) + 1)) w10 := by
                      intro u w10 sI v hu hcu hsI hb hs
                      have hmu := HLM6.out.same (hu.mono (fun i hi => ⟨hi.2, by have := hi.1; omega⟩))
                      have hlen2 := HLEN.out
                      have hvv := HV'.out
                      rw [hlen2] at hvv
                      rw [hlen2] at htl
                      refine ⟨i + 1, vs, _, by go_num, by omega, hmu.putAll hvv hcs hnc hcm' htk' (by omega) hb hs, ?_, ?_, Only.write (Only.trans HOW6.out hu) hs hbb⟩
                      · have := HLI.out.step (e := ⟨1, ev.inc, fr, sI, ix, v, 1⟩) HA.out (by show tq < ls.length; have := HLS.out; omega) (by show 1 ≤ tt; omega) pa5 (by show ev.inc = inc tq (tt - 1); rw [← HKT.out]; exact HINC.out) rfl rfl rfl hsI
                        rw [HKT.out]
                        exact this
                      · obtain ⟨r', hcu⟩ := hcu
                        exact ⟨r', hcu.write hs (fun hh => by have := HBW.out _ hh; omega)⟩
                    have y0 := Z7.out 0 _ rfl
                    have y1 := Z7.out 1 _ rfl
                    have FIN := Lib.hid fin
                    clear fin
                    clear hcs hnc hcm' htk'
                    by_cases hix : ix = 0
                    · subst hix
                      have t3 : decide (0 < ((0 : Nat) : Int)) = false := by simp
                      have y1' := y1 wc how8
                      clear y0 y1
                      have y2 := Z7.out 2 _ rfl
                      have y3 := Z7.out 3 _ rfl
                      have yg := ZG.out tq _ HV'.out
                      have HB8 := Lib.hid hb8
                      have HOW8 := Lib.hid how8
                      have HC8 := Lib.hid hc8
                      clear hb8 how8 hc8
                      go_upto_region 33 with fail
                      have hku : Keep wc wc.drew := Same.drew (Same.refl _ _)
                      have hA0 : LnF gc w6 g8 (encEv ⟨1, ev.inc, fr, 0, 0, v, 1⟩) wc.drew := ⟨Only.keep HOW8.out hku, hku.blk HB8.out HB8.out.lt⟩
                      have y2' : ∀ wx, LnF gc w6 g8 (encEv ⟨1, ev.inc, fr, 0, 0, v, 1⟩) wx → wx.cell? ⟨g7, 2, none⟩ = some (.int .i64 tq) := fun wx hx => y2 wx hx.1
                      have y3' : ∀ wx, LnF gc w6 g8 (encEv ⟨1, ev.inc, fr, 0, 0, v, 1⟩) wx → wx.cell? ⟨g7, 3, none⟩ = some (.int .i64 tt) := fun wx hx => y3 wx hx.1
                      have yg' : ∀ wx, LnF gc w6 g8 (encEv ⟨1, ev.inc, fr, 0, 0, v, 1⟩) wx → wx.cell? ⟨w4.heap.size, tq, none⟩ = some (.slice (some ⟨b, 0, none⟩) len c') := fun wx hx => yg wx hx.1
                      clear y2 y3 yg
                      refine wp_region_L 10 (fun wx => LnF gc w6 g8 (encEv ⟨1, ev.inc, fr, 0, 0, v, 1⟩) wx) (fun _ => True) (by kernel_rfl) hA0 trivial (fun hA hB => ?_)
                      generalize hu0 : wc.drew = u0 at hA hku hA0 ⊢
                      clear hu0 hA0
                      refine wpL_takeA (i := 0) (v := ?_) rfl (by kernel_rfl) (by kernel_rfl) (by kernel_rfl) (by kernel_rfl) (by decide) (fun _ _ _ h => h) (Or.inl ⟨by rfl, ?_⟩) hA hB ?_
                      rotate_left
                      · rintro wx ⟨hAx, hBx⟩
                        (try dsimp only at hBx); (try dsimp only at hAx)
                        go_simp
                        try with_reducible rfl
                      try simp only [Act.put, List.setIfInBounds_toArray, List.set_cons_zero, List.set_cons_succ]
                      refine wpL_takeA (i := 1) (v := ?_) rfl (by kernel_rfl) (by kernel_rfl) (by kernel_rfl) (by kernel_rfl) (by decide) (fun _ _ _ h => h) (Or.inl ⟨by rfl, ?_⟩) hA hB ?_
                      rotate_left
                      · rintro wx ⟨hAx, hBx⟩
                        (try dsimp only at hBx); (try dsimp only at hAx)
                        go_simp
                        try with_reducible rfl
                      try simp only [Act.put, List.setIfInBounds_toArray, List.set_cons_zero, List.set_cons_succ]
                      refine wpL_takeA (i := 2) (v := ?_) rfl (by kernel_rfl) (by kernel_rfl) (by kernel_rfl) (by kernel_rfl) (by decide) (fun _ _ _ h => h) (Or.inl ⟨by rfl, ?_⟩) hA hB ?_
                      rotate_left
                      · rintro wx ⟨hAx, hBx⟩
                        (try dsimp only at hBx); (try dsimp only at hAx)
                        go_simp
                        try with_reducible rfl
                      try simp only [Act.put, List.setIfInBounds_toArray, List.set_cons_zero, List.set_cons_succ]
                      refine wpL_takeA (i := 3) (v := ?_) rfl (by kernel_rfl) (by kernel_rfl) (by kernel_rfl) (by kernel_rfl) (by decide) (fun _ _ _ h => h) (Or.inl ⟨by rfl, ?_⟩) hA hB ?_
                      rotate_left
                      · rintro wx ⟨hAx, hBx⟩
                        (try dsimp only at hBx); (try dsimp only at hAx)
                        go_simp
                        try with_reducible rfl
                      try simp only [Act.put, List.setIfInBounds_toArray, List.set_cons_zero, List.set_cons_succ]
                      refine wpL_takeA (i := 4) (v := ?_) rfl (by kernel_rfl) (by kernel_rfl) (by kernel_rfl) (by kernel_rfl) (by decide) (fun _ _ _ h => h) (Or.inl ⟨by rfl, ?_⟩) hA hB ?_
                      rotate_left
                      · rintro wx ⟨hAx, hBx⟩
                        (try dsimp only at hBx); (try dsimp only at hAx)
                        go_simp
                        try with_reducible rfl
                      try simp only [Act.put, List.setIfInBounds_toArray, List.set_cons_zero, List.set_cons_succ]
                      refine wpL_takeA (i := 5) (v := ?_) rfl (by kernel_rfl) (by kernel_rfl) (by kernel_rfl) (by kernel_rfl) (by decide) (fun _ _ _ h => h) (Or.inl ⟨by rfl, ?_⟩) hA hB ?_
                      rotate_left
                      · rintro wx ⟨hAx, hBx⟩
                        (try dsimp only at hBx); (try dsimp only at hAx)
                        go_simp
                        try with_reducible rfl
                      try simp only [Act.put, List.setIfInBounds_toArray, List.set_cons_zero, List.set_cons_succ]
                      refine wpL_takeA (i := 6) (v := ?_) rfl (by kernel_rfl) (by kernel_rfl) (by kernel_rfl) (by kernel_rfl) (by decide) (fun _ _ _ h => h) (Or.inl ⟨by rfl, ?_⟩) hA hB ?_
                      rotate_left
                      · rintro wx ⟨hAx, hBx⟩
                        (try dsimp only at hBx); (try dsimp only at hAx)
                        go_simp
                        try with_reducible rfl
                      try simp only [Act.put, List.setIfInBounds_toArray, List.set_cons_zero, List.set_cons_succ]
                      refine wpL_takeA (i := 7) (v := ?_) rfl (by kernel_rfl) (by kernel_rfl) (by kernel_rfl) (by kernel_rfl) (by decide) (fun _ _ _ h => h) (Or.inl ⟨by rfl, ?_⟩) hA hB ?_
                      rotate_left
                      · rintro wx ⟨hAx, hBx⟩
                        (try dsimp only at hBx); (try dsimp only at hAx)
                        go_simp
                        try with_reducible rfl
                      try simp only [Act.put, List.setIfInBounds_toArray, List.set_cons_zero, List.set_cons_succ]
                      refine wpL_takeA (i := 8) rfl (by kernel_rfl) (by kernel_rfl) (by kernel_rfl) (by kernel_rfl) (by decide) (fun _ _ _ h => h) (yieldsIf_blk (by rfl) 50 _ rfl g8 0 50 (encEv ⟨1, ev.inc, fr, 0, 0, v, 1⟩).toArray (encEv ⟨1, ev.inc, fr, 0, 0, v, 1⟩) _ (by rfl) (fun wx hx => hx.1.2) (fun j u hu => by simpa using hu) Try.underlying50 rfl (by kernel_rfl)) hA hB ?_
                      try simp only [Act.put, List.setIfInBounds_toArray, List.set_cons_zero, List.set_cons_succ]
                      refine wpL_takeA (i := 9) (v := ?_) rfl (by kernel_rfl) (by kernel_rfl) (by kernel_rfl) (by kernel_rfl) (by decide) (fun _ _ _ h => h) (Or.inl ⟨by rfl, ?_⟩) hA hB ?_
                      rotate_left
                      · rintro wx ⟨hAx, hBx⟩
                        (try dsimp only at hBx); (try dsimp only at hAx)
                        go_simp
                        try with_reducible rfl
                      try simp only [Act.put, List.setIfInBounds_toArray, List.set_cons_zero, List.set_cons_succ]
                      clear y2' y3' yg'
                      refine wpL_one (i := 10) (by kernel_rfl) (StepL.mk rfl (fun K hK => ?_))
                      have hb9 := Same.blk hA.1 HBLK.out ⟨hbl, by omega⟩
                      refine step_store_blk rfl _ _ _ rfl b (kt * 7) 50 cur (encEv ⟨1, ev.inc, fr, 0, 0, v, 1⟩) rfl rfl hb9 (by rw [encEv_len]; omega) (by kernel_rfl) rfl ?_
                      intro w10 hb10 hs10
                      have hfin := FIN.out u0 w10 0 v hA.1 (by obtain ⟨r', h⟩ := HC8.out; exact ⟨r', h.keep hku⟩) (by simp) hb10 hs10
                      refine hK.out _ _ (SAB.past (by kernel_rfl) trivial) (fun hSS => ?_)
                      clear hK K hA hB
                      have hB := hSS.2
                      have hA : True := trivial
                      (try dsimp only at hB); (try dsimp only at hA); clear hSS
                      try simp only [Act.put, List.setIfInBounds_toArray, List.set_cons_zero, List.set_cons_succ]
                      refine wpL_done (by kernel_rfl) ?_
                      have HFIN := Lib.hid hfin
                      clear hfin
                      clear hA hB hb9 hb10 hs10 hku
                      go_wp2_with fail
                      go_roundw
                      case rel => exact HFIN.out
                      case measure => simp [intOf]; omega
                    · have hix1 : 0 < ix := by omega
                      have t3 : decide (0 < (ix : Int)) = true := by simp; omega
                      have hlen3 : (l.getD fr []).length = ls.getD fr 0 := HLI.out.lens fr (by have := HLS.out; omega)
                      obtain ⟨b2, c2', cur2, ev2, hv2, hbb2, hbg2, hblk2, -, -, -, -, hev2, hcells2⟩ := HLM6.out.at_ (q := fr) (k := ix - 1) (by omega) (by omega)
                      have hinc2 : ev2.inc = inc fr (ix - 1) := HLI.out.old hev2
                      have hv2' := hv2
                      rw [hlen3] at hv2'
                      obtain ⟨len2, hlen2⟩ : ∃ len2, len2 = ls.getD fr 0 := ⟨_, rfl⟩
                      rw [← hlen2] at hv2' pa4
                      have hb2l := hblk2.lt
                      have yg2 := ZG.out fr _ hv2'
                      obtain ⟨ki, hki⟩ : ∃ ki, ki = ix - 1 := ⟨_, rfl⟩
                      have eki : (ix : Int) - 1 = (ki : Int) := by omega
                      have hwr2 : IntKind.i64.wrap ((ix : Int) - 1) = (ix : Int) - 1 := IntWalk.i64_in _ (by omega)
                      have hwr2b : IntKind.i64.wrap (ki : Int) = (ki : Int) := IntWalk.i64_in _ (by omega)
                      have hki0 : (0 : Int) ≤ (ki : Int) := by omega
                      have hki1 : (ki : Int) < len2 := by omega
                      have hki2 : ki < len2 := by omega
                      have hkix : ki + 1 = ix := by omega
                      have HKI := Lib.hid hki
                      have HKIX := Lib.hid hkix
                      clear hki hkix
                      have yb2 : ∀ wx, Only gc w6 wx → wx.cell? ⟨b2, ki * 7 + 1, none⟩ = some (.int .i64 ev2.inc) := fun wx hx => by
                        rw [(Same.blk hx hblk2 ⟨hb2l, by omega⟩).cell, HKI.out]; exact hcells2 1 _ rfl
                      have kb0 : (0 : Int) ≤ (ix : Int) - 1 := by omega
                      have kb1 : (ix : Int) - 1 < len2 := by omega
                      have kf0 : (0 : Int) ≤ fr := by omega
                      have kf1 : (fr : Int) < n := by omega
                      have ekt : ((ix : Int) - 1).toNat = ki := by omega
                      have y1' := y1 wc how8
                      have HOW8 := Lib.hid how8
                      have HC8 := Lib.hid hc8
                      have HINC2 := Lib.hid hinc2
                      have HEV2 := Lib.hid hev2
                      clear how8 hc8 hinc2 hev2
                      clear hcells2 hblk2 hv2 hv2' hlen3 hlen2
                      go_upto_region 32 with fail
                      clear y1'
                      refine wp_region_L 99 (fun _ => True) (fun wx => Only gc w6 wx) (by kernel_rfl) trivial (Only.keep HOW8.out (Same.drew (Same.refl _ _))) (fun hA hB => ?_)
                      have hku : Keep wc wc.drew := Same.drew (Same.refl _ _)
                      generalize hu0 : wc.drew = u0 at hB hku ⊢
                      clear hu0
                      refine wpL_takeB (i := 0) (v := ?_) rfl (by kernel_rfl) (by kernel_rfl) (by kernel_rfl) (by decide) (fun _ _ _ h => h) (Or.inl ⟨by rfl, ?_⟩) (SAB.both hA hB) ?_
                      rotate_left
                      · intro wx hBx
                        (try dsimp only at hBx)
                        go_simp
                        try with_reducible rfl
                      try simp only [Act.put, List.setIfInBounds_toArray, List.set_cons_zero, List.set_cons_succ]
                      refine wpL_takeB (i := 1) (v := ?_) rfl (by kernel_rfl) (by kernel_rfl) (by kernel_rfl) (by decide) (fun _ _ _ h => h) (Or.inl ⟨by rfl, ?_⟩) (SAB.both hA hB) ?_
                      rotate_left
                      · intro wx hBx
                        (try dsimp only at hBx)
                        go_simp
                        try with_reducible rfl
                      try simp only [Act.put, List.setIfInBounds_toArray, List.set_cons_zero, List.set_cons_succ]
                      refine wpL_takeB (i := 2) (v := ?_) rfl (by kernel_rfl) (by kernel_rfl) (by kernel_rfl) (by decide) (fun _ _ _ h => h) (Or.inl ⟨by rfl, ?_⟩) (SAB.both hA hB) ?_
                      rotate_left
                      · intro wx hBx
                        (try dsimp only at hBx)
                        go_simp
                        try with_reducible rfl
                      try simp only [Act.put, List.setIfInBounds_toArray, List.set_cons_zero, List.set_cons_succ]
                      refine wpL_takeB (i := 3) (v := ?_) rfl (by kernel_rfl) (by kernel_rfl) (by kernel_rfl) (by decide) (fun _ _ _ h => h) (Or.inl ⟨by rfl, ?_⟩) (SAB.both hA hB) ?_
                      rotate_left
                      · intro wx hBx
                        (try dsimp only at hBx)
                        go_simp
                        try with_reducible rfl
                      try simp only [Act.put, List.setIfInBounds_toArray, List.set_cons_zero, List.set_cons_succ]
                      refine wpL_takeB (i := 4) (v := ?_) rfl (by kernel_rfl) (by kernel_rfl) (by kernel_rfl) (by decide) (fun _ _ _ h => h) (Or.inl ⟨by rfl, ?_⟩) (SAB.both hA hB) ?_
                      rotate_left
                      · intro wx hBx
                        (try dsimp only at hBx)
                        go_simp
                        try with_reducible rfl
                      try simp only [Act.put, List.setIfInBounds_toArray, List.set_cons_zero, List.set_cons_succ]
                      refine wpL_takeB (i := 5) (v := ?_) rfl (by kernel_rfl) (by kernel_rfl) (by kernel_rfl) (by decide) (fun _ _ _ h => h) (Or.inl ⟨by rfl, ?_⟩) (SAB.both hA hB) ?_
                      rotate_left
                      · intro wx hBx
                        (try dsimp only at hBx)
                        go_simp
                        try with_reducible rfl
                      try simp only [Act.put, List.setIfInBounds_toArray, List.set_cons_zero, List.set_cons_succ]
                      refine wpL_takeB (i := 6) (v := ?_) rfl (by kernel_rfl) (by kernel_rfl) (by kernel_rfl) (by decide) (fun _ _ _ h => h) (Or.inl ⟨by rfl, ?_⟩) (SAB.both hA hB) ?_
                      rotate_left
                      · intro wx hBx
                        (try dsimp only at hBx)
                        go_simp
                        try with_reducible rfl
                      try simp only [Act.put, List.setIfInBounds_toArray, List.set_cons_zero, List.set_cons_succ]
                      refine wpL_takeB (i := 7) (v := ?_) rfl (by kernel_rfl) (by kernel_rfl) (by kernel_rfl) (by decide) (fun _ _ _ h => h) (Or.inl ⟨by rfl, ?_⟩) (SAB.both hA hB) ?_
                      rotate_left
                      · intro wx hBx
                        (try dsimp only at hBx)
                        go_simp
                        try with_reducible rfl
                      try simp only [Act.put, List.setIfInBounds_toArray, List.set_cons_zero, List.set_cons_succ]
                      refine wpL_takeB (i := 8) (v := ?_) rfl (by kernel_rfl) (by kernel_rfl) (by kernel_rfl) (by decide) (fun _ _ _ h => h) (Or.inl ⟨by rfl, ?_⟩) (SAB.both hA hB) ?_
                      rotate_left
                      · intro wx hBx
                        (try dsimp only at hBx)
                        go_simp
                        try with_reducible rfl
                      try simp only [Act.put, List.setIfInBounds_toArray, List.set_cons_zero, List.set_cons_succ]
                      refine wpL_takeB (i := 9) (v := ?_) rfl (by kernel_rfl) (by kernel_rfl) (by kernel_rfl) (by decide) (fun _ _ _ h => h) (Or.inl ⟨by rfl, ?_⟩) (SAB.both hA hB) ?_
                      rotate_left
                      · intro wx hBx
                        (try dsimp only at hBx)
                        go_simp
                        try with_reducible rfl
                      try simp only [Act.put, List.setIfInBounds_toArray, List.set_cons_zero, List.set_cons_succ]
                      refine wpL_takeB (i := 10) (v := ?_) rfl (by kernel_rfl) (by kernel_rfl) (by kernel_rfl) (by decide) (fun _ _ _ h => h) (Or.inl ⟨by rfl, ?_⟩) (SAB.both hA hB) ?_
                      rotate_left
                      · intro wx hBx
                        (try dsimp only at hBx)
                        go_simp
                        try with_reducible rfl
                      try simp only [Act.put, List.setIfInBounds_toArray, List.set_cons_zero, List.set_cons_succ]
                      refine wpL_takeB (i := 11) (v := ?_) rfl (by kernel_rfl) (by kernel_rfl) (by kernel_rfl) (by decide) (fun _ _ _ h => h) (Or.inl ⟨by rfl, ?_⟩) (SAB.both hA hB) ?_
                      rotate_left
                      · intro wx hBx
                        (try dsimp only at hBx)
                        go_simp
                        try with_reducible rfl
                      try simp only [Act.put, List.setIfInBounds_toArray, List.set_cons_zero, List.set_cons_succ]
                      refine wpL_takeB (i := 12) (v := ?_) rfl (by kernel_rfl) (by kernel_rfl) (by kernel_rfl) (by decide) (fun _ _ _ h => h) (Or.inl ⟨by rfl, ?_⟩) (SAB.both hA hB) ?_
                      rotate_left
                      · intro wx hBx
                        (try dsimp only at hBx)
                        go_simp
                        try with_reducible rfl
                      try simp only [Act.put, List.setIfInBounds_toArray, List.set_cons_zero, List.set_cons_succ]
                      refine wpL_takeB (i := 13) rfl (by kernel_rfl) (by kernel_rfl) (by kernel_rfl) (by decide) (fun _ _ _ h => h) (yieldsIf_bld (by rfl) 48 _ rfl _ [(0, .int .i64 ev2.inc), (1, .int .i64 ix)] rfl (bld_lab2 _ _)) (SAB.both hA hB) ?_
                      try simp only [Act.put, List.setIfInBounds_toArray, List.set_cons_zero, List.set_cons_succ]
                      refine wpL_takeB (i := 14) (v := ?_) rfl (by kernel_rfl) (by kernel_rfl) (by kernel_rfl) (by decide) (fun _ _ _ h => h) (Or.inl ⟨by rfl, ?_⟩) (SAB.both hA hB) ?_
                      rotate_left
                      · intro wx hBx
                        (try dsimp only at hBx)
                        go_simp
                        try with_reducible rfl
                      try simp only [Act.put, List.setIfInBounds_toArray, List.set_cons_zero, List.set_cons_succ]
                      clear y0 y1 yg2 yb2
                      refine wpL_one (i := 15) (by kernel_rfl) (StepL.mk rfl (fun K hK => ?_))
                      have hb9 := hku.blk hb8 hb8.lt
                      refine step_store_blk rfl _ _ _ rfl g8 3 50 _ [.int .i64 ev2.inc, .int .i64 ix] rfl rfl hb9 (by simp [encEv]) (by kernel_rfl) rfl ?_
                      intro w9 hbw9 hs9
                      have hsp : splice (encEv ⟨1, ev.inc, fr, 0, 0, v, 1⟩).toArray 3 [.int .i64 ev2.inc, .int .i64 ix] = (encEv ⟨1, ev.inc, fr, ev2.inc, ix, v, 1⟩).toArray := rfl
                      rw [hsp] at hbw9
                      have ho9 : Only gc w6 w9 := Only.write hB hs9 hg8
                      have hc9 : ∃ r', Cod w9 B gc r' := by obtain ⟨r', h⟩ := HC8.out; exact ⟨r', (h.keep hku).write hs9 (fun hh => by have := HBW.out _ hh; omega)⟩
                      refine hK.out _ _ (SAB.both trivial ho9) (fun hSS => ?_)
                      clear hK K hA hB
                      have hB := hSS.2
                      have hA : True := trivial
                      (try dsimp only at hB); (try dsimp only at hA); clear hSS
                      try simp only [Act.put, List.setIfInBounds_toArray, List.set_cons_zero, List.set_cons_succ]
                      refine wpL_done (by kernel_rfl) ?_
                      clear hA hB hb9 hs9 hku hb8
                      have y2 := Z7.out 2 _ rfl
                      have y3 := Z7.out 3 _ rfl
                      have yg := ZG.out tq _ HV'.out
                      have HBW9 := Lib.hid hbw9
                      have HO9 := Lib.hid ho9
                      have HC9 := Lib.hid hc9
                      clear hbw9 ho9 hc9
                      go_upto_region 33 with fail
                      have hku : Keep w9 w9.drew := Same.drew (Same.refl _ _)
                      have hA0 : LnF gc w6 g8 (encEv ⟨1, ev.inc, fr, ev2.inc, ix, v, 1⟩) w9.drew := ⟨Only.keep HO9.out hku, hku.blk HBW9.out HBW9.out.lt⟩
                      have y2' : ∀ wx, LnF gc w6 g8 (encEv ⟨1, ev.inc, fr, ev2.inc, ix, v, 1⟩) wx → wx.cell? ⟨g7, 2, none⟩ = some (.int .i64 tq) := fun wx hx => y2 wx hx.1
                      have y3' : ∀ wx, LnF gc w6 g8 (encEv ⟨1, ev.inc, fr, ev2.inc, ix, v, 1⟩) wx → wx.cell? ⟨g7, 3, none⟩ = some (.int .i64 tt) := fun wx hx => y3 wx hx.1
                      have yg' : ∀ wx, LnF gc w6 g8 (encEv ⟨1, ev.inc, fr, ev2.inc, ix, v, 1⟩) wx → wx.cell? ⟨w4.heap.size, tq, none⟩ = some (.slice (some ⟨b, 0, none⟩) len c') := fun wx hx => yg wx hx.1
                      clear y2 y3 yg
                      refine wp_region_L 10 (fun wx => LnF gc w6 g8 (encEv ⟨1, ev.inc, fr, ev2.inc, ix, v, 1⟩) wx) (fun _ => True) (by kernel_rfl) hA0 trivial (fun hA hB => ?_)
                      generalize hu0 : w9.drew = u0 at hA hku hA0 ⊢
                      clear hu0 hA0
                      refine wpL_takeA (i := 0) (v := ?_) rfl (by kernel_rfl) (by kernel_rfl) (by kernel_rfl) (by kernel_rfl) (by decide) (fun _ _ _ h => h) (Or.inl ⟨by rfl, ?_⟩) hA hB ?_
                      rotate_left
                      · rintro wx ⟨hAx, hBx⟩
                        (try dsimp only at hBx); (try dsimp only at hAx)
                        go_simp
                        try with_reducible rfl
                      try simp only [Act.put, List.setIfInBounds_toArray, List.set_cons_zero, List.set_cons_succ]
                      refine wpL_takeA (i := 1) (v := ?_) rfl (by kernel_rfl) (by kernel_rfl) (by kernel_rfl) (by kernel_rfl) (by decide) (fun _ _ _ h => h) (Or.inl ⟨by rfl, ?_⟩) hA hB ?_
                      rotate_left
                      · rintro wx ⟨hAx, hBx⟩
                        (try dsimp only at hBx); (try dsimp only at hAx)
                        go_simp
                        try with_reducible rfl
                      try simp only [Act.put, List.setIfInBounds_toArray, List.set_cons_zero, List.set_cons_succ]
                      refine wpL_takeA (i := 2) (v := ?_) rfl (by kernel_rfl) (by kernel_rfl) (by kernel_rfl) (by kernel_rfl) (by decide) (fun _ _ _ h => h) (Or.inl ⟨by rfl, ?_⟩) hA hB ?_
                      rotate_left
                      · rintro wx ⟨hAx, hBx⟩
                        (try dsimp only at hBx); (try dsimp only at hAx)
                        go_simp
                        try with_reducible rfl
                      try simp only [Act.put, List.setIfInBounds_toArray, List.set_cons_zero, List.set_cons_succ]
                      refine wpL_takeA (i := 3) (v := ?_) rfl (by kernel_rfl) (by kernel_rfl) (by kernel_rfl) (by kernel_rfl) (by decide) (fun _ _ _ h => h) (Or.inl ⟨by rfl, ?_⟩) hA hB ?_
                      rotate_left
                      · rintro wx ⟨hAx, hBx⟩
                        (try dsimp only at hBx); (try dsimp only at hAx)
                        go_simp
                        try with_reducible rfl
                      try simp only [Act.put, List.setIfInBounds_toArray, List.set_cons_zero, List.set_cons_succ]
                      refine wpL_takeA (i := 4) (v := ?_) rfl (by kernel_rfl) (by kernel_rfl) (by kernel_rfl) (by kernel_rfl) (by decide) (fun _ _ _ h => h) (Or.inl ⟨by rfl, ?_⟩) hA hB ?_
                      rotate_left
                      · rintro wx ⟨hAx, hBx⟩
                        (try dsimp only at hBx); (try dsimp only at hAx)
                        go_simp
                        try with_reducible rfl
                      try simp only [Act.put, List.setIfInBounds_toArray, List.set_cons_zero, List.set_cons_succ]
                      refine wpL_takeA (i := 5) (v := ?_) rfl (by kernel_rfl) (by kernel_rfl) (by kernel_rfl) (by kernel_rfl) (by decide) (fun _ _ _ h => h) (Or.inl ⟨by rfl, ?_⟩) hA hB ?_
                      rotate_left
                      · rintro wx ⟨hAx, hBx⟩
                        (try dsimp only at hBx); (try dsimp only at hAx)
                        go_simp
                        try with_reducible rfl
                      try simp only [Act.put, List.setIfInBounds_toArray, List.set_cons_zero, List.set_cons_succ]
                      refine wpL_takeA (i := 6) (v := ?_) rfl (by kernel_rfl) (by kernel_rfl) (by kernel_rfl) (by kernel_rfl) (by decide) (fun _ _ _ h => h) (Or.inl ⟨by rfl, ?_⟩) hA hB ?_
                      rotate_left
                      · rintro wx ⟨hAx, hBx⟩
                        (try dsimp only at hBx); (try dsimp only at hAx)
                        go_simp
                        try with_reducible rfl
                      try simp only [Act.put, List.setIfInBounds_toArray, List.set_cons_zero, List.set_cons_succ]
                      refine wpL_takeA (i := 7) (v := ?_) rfl (by kernel_rfl) (by kernel_rfl) (by kernel_rfl) (by kernel_rfl) (by decide) (fun _ _ _ h => h) (Or.inl ⟨by rfl, ?_⟩) hA hB ?_
                      rotate_left
                      · rintro wx ⟨hAx, hBx⟩
                        (try dsimp only at hBx); (try dsimp only at hAx)
                        go_simp
                        try with_reducible rfl
                      try simp only [Act.put, List.setIfInBounds_toArray, List.set_cons_zero, List.set_cons_succ]
                      refine wpL_takeA (i := 8) rfl (by kernel_rfl) (by kernel_rfl) (by kernel_rfl) (by kernel_rfl) (by decide) (fun _ _ _ h => h) (yieldsIf_blk (by rfl) 50 _ rfl g8 0 50 (encEv ⟨1, ev.inc, fr, ev2.inc, ix, v, 1⟩).toArray (encEv ⟨1, ev.inc, fr, ev2.inc, ix, v, 1⟩) _ (by rfl) (fun wx hx => hx.1.2) (fun j u hu => by simpa using hu) Try.underlying50 rfl (by kernel_rfl)) hA hB ?_
                      try simp only [Act.put, List.setIfInBounds_toArray, List.set_cons_zero, List.set_cons_succ]
                      refine wpL_takeA (i := 9) (v := ?_) rfl (by kernel_rfl) (by kernel_rfl) (by kernel_rfl) (by kernel_rfl) (by decide) (fun _ _ _ h => h) (Or.inl ⟨by rfl, ?_⟩) hA hB ?_
                      rotate_left
                      · rintro wx ⟨hAx, hBx⟩
                        (try dsimp only at hBx); (try dsimp only at hAx)
                        go_simp
                        try with_reducible rfl
                      try simp only [Act.put, List.setIfInBounds_toArray, List.set_cons_zero, List.set_cons_succ]
                      clear y2' y3' yg'
                      refine wpL_one (i := 10) (by kernel_rfl) (StepL.mk rfl (fun K hK => ?_))
                      have hb9 := Same.blk hA.1 HBLK.out ⟨hbl, by omega⟩
                      refine step_store_blk rfl _ _ _ rfl b (kt * 7) 50 cur (encEv ⟨1, ev.inc, fr, ev2.inc, ix, v, 1⟩) rfl rfl hb9 (by rw [encEv_len]; omega) (by kernel_rfl) rfl ?_
                      intro w10 hb10 hs10
                      have hfin := FIN.out u0 w10 ev2.inc v hA.1 (by obtain ⟨r', h⟩ := HC9.out; exact ⟨r', h.keep hku⟩) (by rw [if_neg hix]; exact HINC2.out) hb10 hs10
                      refine hK.out _ _ (SAB.past (by kernel_rfl) trivial) (fun hSS => ?_)
                      clear hK K hA hB
                      have hB := hSS.2
                      have hA : True := trivial
                      (try dsimp only at hB); (try dsimp only at hA); clear hSS
                      try simp only [Act.put, List.setIfInBounds_toArray, List.set_cons_zero, List.set_cons_succ]
                      refine wpL_done (by kernel_rfl) ?_
                      have HFIN := Lib.hid hfin
                      clear hfin
                      clear hA hB hb9 hb10 hs10 hku
                      go_wp2_with fail
                      go_roundw
                      case rel => exact HFIN.out
                      case measure => simp [intOf]; omega
                · have t1 : decide (i < m) = false := by simpa using him2
                  have t1' : decide ((i : Int) < (m : Int)) = false := by simp; omega
                  obtain rfl : m = i := by omega
                  have hb6 := ZB6.out wr how
                  have hbr := ZBR.out wr how
                  have c6 : wr.cell? ⟨g6, 2, none⟩ = some (.slice A4 m c4) := by rw [hb6.cell]; rfl
                  have hs1 := ZS1.out wr how
                  have hz5 := how.size
                  have howw : Only gc w wr := Only.trans HOW4W.out how
                  have hli' : LinI ls arcs arcs.length inc l := by rw [← HM.out]; exact hli
                  obtain ⟨rk, hfine⟩ := hli'.fine HPAT'.out HAT.out
                  have HB6 := Lib.hid hb6
                  have HBR := Lib.hid hbr
                  have HS1 := Lib.hid hs1
                  have HLM := Lib.hid hlm
                  have HC5 := Lib.hid hc5
                  have HOWW := Lib.hid howw
                  have HFINE := Lib.hid hfine
                  clear hb6 hbr hs1 hlm hc5 howw hfine
                  clear hli hli' how
                  go_upto_region 34 with fail
                  refine wp_region_L 3 (fun wx => Keep wr wx) (fun _ => True) (by kernel_rfl) (Same.drew (Same.refl _ _)) trivial (fun hA hB => ?_)
                  generalize hu0 : wr.drew = u0 at hA ⊢
                  clear hu0
                  refine wpL_takeA (i := 0) (v := ?_) rfl (by kernel_rfl) (by kernel_rfl) (by kernel_rfl) (by kernel_rfl) (by decide) (fun _ _ _ h => h) (Or.inl ⟨by rfl, ?_⟩) hA hB ?_
                  rotate_left
                  · rintro wx ⟨hAx, hBx⟩
                    (try dsimp only at hBx); (try dsimp only at hAx)
                    go_simp
                    try with_reducible rfl
                  try simp only [Act.put, List.setIfInBounds_toArray, List.set_cons_zero, List.set_cons_succ]
                  refine wpL_takeA (i := 1) rfl (by kernel_rfl) (by kernel_rfl) (by kernel_rfl) (by kernel_rfl) (by decide) (fun _ _ _ h => h) (yieldsIf_blk (by rfl) 32 _ rfl g6 0 32 _ [.slice (some ⟨bl, ol, none⟩) n c1, .slice A2 n c2, .slice A4 m c4] _ (by rfl) (fun wx hx => Same.blk hx.1 HB6.out HB6.out.lt) (fun j u hu => by simpa using hu) Try.underlying32 rfl (by kernel_rfl)) hA hB ?_
                  try simp only [Act.put, List.setIfInBounds_toArray, List.set_cons_zero, List.set_cons_succ]
                  refine wpL_takeA (i := 2) (v := ?_) rfl (by kernel_rfl) (by kernel_rfl) (by kernel_rfl) (by kernel_rfl) (by decide) (fun _ _ _ h => h) (Or.inl ⟨by rfl, ?_⟩) hA hB ?_
                  rotate_left
                  · rintro wx ⟨hAx, hBx⟩
                    (try dsimp only at hBx); (try dsimp only at hAx)
                    go_simp
                    try with_reducible rfl
                  try simp only [Act.put, List.setIfInBounds_toArray, List.set_cons_zero, List.set_cons_succ]
                  refine wpL_one (i := 3) (by kernel_rfl) (StepL.mk rfl (fun K hK => ?_))
                  refine step_store_blk rfl _ _ _ rfl w.heap.size 0 32 _ [.slice (some ⟨bl, ol, none⟩) n c1, .slice A2 n c2, .slice A4 m c4] rfl rfl (hA.blk HBR.out HBR.out.lt) (by simp) (by kernel_rfl) rfl ?_
                  intro v6 hv6 hs6
                  rw [splice_all [.slice (some ⟨bl, ol, none⟩) n c1, .slice A2 n c2, .slice A4 m c4] #[.slice none 0 0, .slice none 0 0, .slice none 0 0] rfl] at hv6
                  have hku := hA
                  have hzu := hku.size
                  refine hK.out _ _ (SAB.past (by kernel_rfl) trivial) (fun hSS => ?_)
                  clear hK K hA hB
                  have hB := hSS.2
                  have hA : True := trivial
                  (try dsimp only at hB); (try dsimp only at hA); clear hSS
                  try simp only [Act.put, List.setIfInBounds_toArray, List.set_cons_zero, List.set_cons_succ]
                  refine wpL_done (by kernel_rfl) ?_
                  clear hA hB
                  have HKU := Lib.hid hku
                  have HS6 := Lib.hid hs6
                  have HV6 := Lib.hid hv6
                  clear hku hs6 hv6
                  go_wp2_with fail
                  have hs6 := HS6.out
                  have hku := HKU.out
                  have hz6 := hs6.size
                  refine bodyPost_ret (results_tmp_cell Try.results10 _ _ _ ⟨w.heap.size, 0, none⟩ _ _ rfl rfl (loadVar_blk [.slice (some ⟨bl, ol, none⟩) n c1, .slice A2 n c2, .slice A4 m c4] _ HV6.out (fun j v hv => by simpa using hv) Try.underlying32 rfl (by kernel_rfl))) rfl ?_
                  have hks : ∀ (T : Nat → Prop), (∀ i, T i → i < wr.heap.size ∧ i ≠ w.heap.size) → Same T wr v6 := fun T hT => Same.trans (hku.mono (fun i hi => (hT i hi).1)) hs6 (fun i hi => (hT i hi).2)
                  exact ⟨some ⟨bl, ol, none⟩, A2, A4, n, c1, n, c2, m, c4, w4.heap.size, w4.heap.size, ls, vs, l, rk, rfl, hn2, hn4, HLS.out, HLE.out, HFINE.out, (HS1.out.keep (hks _ (fun i hi => by have := hi.1; have := hi.2; omega))).more (fun i hi => ⟨by have := hi.1; omega, by have := hi.2; omega⟩), by omega, HLM.out.same (hks _ (fun i hi => by have := hi.1; have := hi.2; omega)), ⟨_, (HC5.out.keep hku).write hs6 (fun hh => by have := HBW.out _ hh; omega)⟩, Only.write (Only.keep HOWW.out hku) hs6 (Nat.le_refl _)⟩
end Go.Proofs.Ytcfpkmfppgodmaa
