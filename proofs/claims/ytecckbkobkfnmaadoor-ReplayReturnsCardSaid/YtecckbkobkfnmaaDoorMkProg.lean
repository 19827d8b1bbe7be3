/- The maker's Program: some program (written by gen_prog.py). -/
import Derived.Test.YtecckbkobkfnmaaDoorMkStmts
set_option linter.unusedVariables false
set_option linter.unusedSimpArgs false
set_option maxRecDepth 100000
namespace Go.Proofs.YtecckbkobkfnmaaDoor
open Go.RowKit Go.Proofs

structure Vr where
  name : ByteArray
  size : Int
  init : Int
def encVr (v : Vr) : List Value := [.string v.name, .int .i64 v.size, .int .i64 v.init]
theorem encVr_len (v : Vr) : (encVr v).length = 3 := rfl
/-- A program's five cells: declarations and four handlers, of at most three levels. -/
structure Prg where
  vars : List Vr
  start : List Stm
  message : List Stm
  tick : List Stm
  input : List Stm
def StmsR (w : World) (S : Nat → Prop) (A : Option Addr) (m c : Nat) (l : List Stm) : Prop := SlR w S 18 (fun cs s => StmR w S 3 cs s) A m c l ∧ l.length ≤ 100 ∧ ∀ a ∈ l, Stm.few 1000 3 a
theorem StmsR.keep {w w' : World} {S : Nat → Prop} {A : Option Addr} {m c : Nat} {l : List Stm} (h : StmsR w S A m c l) (hk : Same S w w') : StmsR w' S A m c l := ⟨h.1.keep hk (StmR.keep hk 3), h.2⟩
theorem StmsR.more {w : World} {S T : Nat → Prop} {A : Option Addr} {m c : Nat} {l : List Stm} (h : StmsR w S A m c l) (hS : ∀ i, S i → T i) : StmsR w T A m c l := ⟨h.1.more hS (StmR.more hS 3), h.2⟩
def PrgR (w : World) (S : Nat → Prop) (cs : List Value) (p : Prg) : Prop :=
  ∃ (A A1 A2 A3 A4 : Option Addr) (m c m1 c1 m2 c2 m3 c3 m4 c4 : Nat), cs = [.slice A m c, .slice A1 m1 c1, .slice A2 m2 c2, .slice A3 m3 c3, .slice A4 m4 c4] ∧ Sl encVr 3 w S A m c p.vars ∧ p.vars.length ≤ 100 ∧ (∀ v ∈ p.vars, (0 ≤ v.size ∧ v.size ≤ 100) ∧ -100 ≤ v.init ∧ v.init ≤ 100) ∧
    StmsR w S A1 m1 c1 p.start ∧ StmsR w S A2 m2 c2 p.message ∧ StmsR w S A3 m3 c3 p.tick ∧ StmsR w S A4 m4 c4 p.input
theorem PrgR.keep {w w' : World} {S : Nat → Prop} {cs : List Value} {p : Prg} (h : PrgR w S cs p) (hk : Same S w w') : PrgR w' S cs p := by
  obtain ⟨A, A1, A2, A3, A4, m, c, m1, c1, m2, c2, m3, c3, m4, c4, e, h0, hl, hv, h1, h2, h3, h4⟩ := h
  exact ⟨A, A1, A2, A3, A4, m, c, m1, c1, m2, c2, m3, c3, m4, c4, e, h0.keep hk, hl, hv, h1.keep hk, h2.keep hk, h3.keep hk, h4.keep hk⟩
theorem PrgR.more {w : World} {S T : Nat → Prop} {cs : List Value} {p : Prg} (h : PrgR w S cs p) (hS : ∀ i, S i → T i) : PrgR w T cs p := by
  obtain ⟨A, A1, A2, A3, A4, m, c, m1, c1, m2, c2, m3, c3, m4, c4, e, h0, hl, hv, h1, h2, h3, h4⟩ := h
  exact ⟨A, A1, A2, A3, A4, m, c, m1, c1, m2, c2, m3, c3, m4, c4, e, h0.more hS, hl, hv, h1.more hS, h2.more hS, h3.more hS, h4.more hS⟩
theorem stm_few_up {w : World} {S : Nat → Prop} {k : Nat} : ∀ {n m : Nat} {cs : List Value} {s : Stm}, StmR w S n cs s → Stm.few k n s → Stm.few k m s
  | n + 1, 0, cs, .mk kind name slot size place value body els, h, hf => trivial
  | n + 1, m + 1, cs, .mk kind name slot size place value body els, h, hf => by
    obtain ⟨_, _, ps, vs, A, A2, m', c, m2, c2, e, hp, hv, hb, he⟩ := h
    obtain ⟨f1, f2, f3, f4, f5, f6⟩ := hf
    have key : ∀ (A : Option Addr) (mm c : Nat) (l : List Stm), SlR w S 18 (StmR w S n) A mm c l → (∀ a ∈ l, Stm.few k n a) → ∀ a ∈ l, Stm.few k m a := fun A mm c l hs hl a ha => by
      obtain ⟨j, hj, rfl⟩ := List.mem_iff_getElem.1 ha
      obtain ⟨_, _, cs', a', _, _, ha', hR, _⟩ := hs.at_ (k := j) (by have := hs.1; omega)
      rw [List.getElem?_eq_getElem hj] at ha'
      injection ha' with ha'
      rw [ha']
      refine stm_few_up hR (hl a' ?_)
      rw [← ha']
      exact List.getElem_mem hj
    exact ⟨f1, f2, f3, f4, key A m' c body hb f5, key A2 m2 c2 els he f6⟩
theorem StmR.upto {w : World} {S : Nat → Prop} {cs : List Value} {e : Stm} : ∀ {n m : Nat}, n ≤ m → StmR w S n cs e → StmR w S m cs e
  | n, 0, hm, h => by have e : n = 0 := by omega
                      rw [e] at h; exact h.elim
  | n, m + 1, hm, h => by
    rcases Nat.lt_or_ge n (m + 1) with hlt | hge
    · exact StmR.up _ _ _ (StmR.upto (by omega) h)
    · have e : n = m + 1 := by omega
      rw [← e]
      exact h
/-- What Stmts gave, at three levels. -/
theorem stms_of {n most : Nat} {wc wn : World} {base : Nat} {A : Option Addr} {m c : Nat} {l : List Stm} (hn : n ≤ 3) (hm : most ≤ 100) (hb : base ≤ wc.heap.size) (h : SlR wn (New wn wc.heap.size) 18 (fun cs s => StmR wn (New wn wc.heap.size) n cs s) A m c l) (hl : l.length ≤ most) (hf : ∀ a ∈ l, Stm.few 1000 n a) : StmsR wn (New wn base) A m c l := by
  have h' := slr_in hb h
  refine ⟨h'.more (fun _ h => h) (fun _ _ => StmR.upto hn), by omega, fun a ha => ?_⟩
  obtain ⟨j, hj, rfl⟩ := List.mem_iff_getElem.1 ha
  obtain ⟨_, _, cs', a', _, _, ha', hR, _⟩ := h'.at_ (k := j) (by have := h'.1; omega)
  rw [List.getElem?_eq_getElem hj] at ha'
  injection ha' with ha'
  rw [ha']
  refine stm_few_up hR (hf a' ?_)
  rw [← ha']
  exact List.getElem_mem hj
theorem stms_step {gc base : Nat} {wc wn : World} {A : Option Addr} {m c : Nat} {l : List Stm} (hb : gc < base) (ho : Only gc wc wn) (h : StmsR wc (New wc base) A m c l) : StmsR wn (New wn base) A m c l := ⟨slr_step hb ho h.1, h.2⟩
theorem stms_write {k base : Nat} {wc wn : World} {A : Option Addr} {m c : Nat} {l : List Stm} (hk : k < base) (hs : Same (· ≠ k) wc wn) (h : StmsR wc (New wc base) A m c l) : StmsR wn (New wn base) A m c l :=
  (h.keep (hs.mono (fun i (hi : New wc base i) => by have := hi.1; omega))).more (fun i hi => ⟨hi.1, Nat.lt_of_lt_of_le hi.2 hs.size⟩)
theorem built_vars (x : Int) (a : Int) (z : Int) : builtS Tryd.prog 110 5 [(0, .agg #[.string ⟨#[120]⟩, .int .i64 0, .int .i64 x]), (1, .agg #[.string ⟨#[97]⟩, .int .i64 a, .int .i64 0]), (2, .agg #[.string ⟨#[121]⟩, .int .i64 0, .int .i64 0]), (3, .agg #[.string ⟨#[122]⟩, .int .i64 0, .int .i64 z]), (4, .agg #[.string ⟨#[98]⟩, .int .i64 2, .int .i64 0])] =
    some #[.string ⟨#[120]⟩, .int .i64 0, .int .i64 x, .string ⟨#[97]⟩, .int .i64 a, .int .i64 0, .string ⟨#[121]⟩, .int .i64 0, .int .i64 0, .string ⟨#[122]⟩, .int .i64 0, .int .i64 z, .string ⟨#[98]⟩, .int .i64 2, .int .i64 0] := by kernel_rfl
theorem blk2 (w : World) (o : Obj) (t : TypeId) (cs : Array Value) : Blk ((w.alloc o).alloc (.cells cs t)) (w.heap.size + 1) t cs := by simpa using Blk.new (w.alloc o) t cs
def PrgPost (B : Nat → Prop) (gc r : Nat) (w : World) (e : Ending) (w' : World) : Prop :=
  ∃ (p : Prg) (cs : List Value) (r' : Nat), e = .returned (.agg cs.toArray) ∧ PrgR w' (New w' w.heap.size) cs p ∧ r' ≤ r ∧ Cod w' B gc r' ∧ Only gc w w'
set_option maxHeartbeats 8000000 in
theorem program_any (w : World) (B : Nat → Prop) (gc r : Nat) (hcod : Cod w B gc r) (hgl : Glob w) : Calls Tryd.prog 50 #[.pointer (some ⟨gc, 0, none⟩)] w (PrgPost B gc r w) := by
  have hg2 := hgl.cod hcod
  have hgw := hcod.lt
  have hBw := hcod.2.1
  have HCOD := Lib.hid hcod
  have HGL := Lib.hid hgl
  have HBW := Lib.hid hBw
  clear hcod hgl hBw
  go_enter Tryd.func50, Tryd.ntmps50
  go_wp2_with fail
  generalize hW : w.alloc (.cells #[.slice none 0 0, .slice none 0 0, .slice none 0 0, .slice none 0 0, .slice none 0 0] 91) = W
  have hbW : Blk W w.heap.size 91 _ := hW ▸ Blk.new _ _ _
  have hkW : Keep w W := hW ▸ Keep.new _ _
  have hzW : w.heap.size < W.heap.size := hbW.lt
  clear hW
  refine (next_any W B gc r 7 (HCOD.out.keep hkW) (by omega) (by omega)).mono ?_
  rintro e w1 ⟨v1, hv10, hv11, rfl, hc1, ho1⟩
  have hz1 := ho1.size
  have hb1 := ho1.blk hbW ⟨hzW, by omega⟩
  have ho1' : Only gc w w1 := Only.trans (hkW.only gc) ho1
  clear ho1 hbW hkW
  have HC1 := Lib.hid hc1
  have HB1 := Lib.hid hb1
  have HO1' := Lib.hid ho1'
  clear hc1 hb1 ho1'
  go_wp2_with fail
  refine (next_any w1 B gc _ 5 HC1.out (by omega) (by omega)).mono ?_
  rintro e w2 ⟨v2, hv20, hv21, rfl, hc2, ho2⟩
  have hz2 := ho2.size
  have hb2 := ho2.blk HB1.out ⟨by omega, by omega⟩
  have ho2' := Only.trans HO1'.out ho2
  clear ho2
  have HC2 := Lib.hid hc2
  have HB2 := Lib.hid hb2
  have HO2' := Lib.hid ho2'
  clear hc2 hb2 ho2'
  go_wp2_with fail
  refine (next_any w2 B gc _ 3 HC2.out (by omega) (by omega)).mono ?_
  rintro e w3 ⟨v3, hv30, hv31, rfl, hc3, ho3⟩
  have hz3 := ho3.size
  have hb3 := ho3.blk HB2.out ⟨by omega, by omega⟩
  have ho3' := Only.trans HO2'.out ho3
  clear ho3
  have HC3 := Lib.hid hc3
  have HB3 := Lib.hid hb3
  have HO3' := Lib.hid ho3'
  clear hc3 hb3 ho3'
  go_upto_region 2 with (first
    | (refine wpList_buildS rfl _ _ _ _ rfl Tryd.underlying89 _ [(0, .agg #[.string ⟨#[120]⟩, .int .i64 0, .int .i64 (v1 - 2)]), (1, .agg #[.string ⟨#[97]⟩, .int .i64 (1 + v2), .int .i64 0]), (2, .agg #[.string ⟨#[121]⟩, .int .i64 0, .int .i64 0]), (3, .agg #[.string ⟨#[122]⟩, .int .i64 0, .int .i64 v3]), (4, .agg #[.string ⟨#[98]⟩, .int .i64 2, .int .i64 0])] rfl (built_vars _ _ _) ?_)
    | (refine wpList_store_all rfl _ (.tmp 3) (.tmp 18) rfl (w3.heap.size + 1) 91 _ [.slice (some ⟨w3.heap.size, 0, none⟩) 5 5, .slice none 0 0, .slice none 0 0, .slice none 0 0, .slice none 0 0] rfl rfl (blk2 w3 _ _ _) rfl (by kernel_rfl) rfl ?_; intro w4 hb4 hs4; have HB4 := Lib.hid hb4; have HS4 := Lib.hid hs4; clear hb4 hs4))
  have hk34 : Keep w3 w4 := Keep.write (Keep.alloc (Keep.new w3 _) _) HS4.out (by omega)
  have hz4 : w3.heap.size + 1 < w4.heap.size := HB4.out.lt
  have hvb : Blk w4 w3.heap.size 110 ([⟨⟨#[120]⟩, 0, v1 - 2⟩, ⟨⟨#[97]⟩, 1 + v2, 0⟩, ⟨⟨#[121]⟩, 0, 0⟩, ⟨⟨#[122]⟩, 0, v3⟩, ⟨⟨#[98]⟩, 2, 0⟩].flatMap encVr).toArray := HS4.out.blk ((Blk.new w3 _ _).alloc _) (by omega)
  have hvs : Sl encVr 3 w4 (fun i => i = w3.heap.size) (some ⟨w3.heap.size, 0, none⟩) 5 5 [⟨⟨#[120]⟩, 0, v1 - 2⟩, ⟨⟨#[97]⟩, 1 + v2, 0⟩, ⟨⟨#[121]⟩, 0, 0⟩, ⟨⟨#[122]⟩, 0, v3⟩, ⟨⟨#[98]⟩, 2, 0⟩] :=
    ⟨rfl, Nat.le_refl _, by simp [maxLen], rfl, fun _ => ⟨w3.heap.size, 0, rfl, rfl, fun j u hu => by rw [hvb.cell, Nat.zero_add]; simpa using hu⟩⟩
  obtain ⟨vars, hvars⟩ : ∃ vars : List Vr, vars = [⟨⟨#[120]⟩, 0, v1 - 2⟩, ⟨⟨#[97]⟩, 1 + v2, 0⟩, ⟨⟨#[121]⟩, 0, 0⟩, ⟨⟨#[122]⟩, 0, v3⟩, ⟨⟨#[98]⟩, 2, 0⟩] := ⟨_, rfl⟩
  rw [← hvars] at hvs
  have hvok : vars.length ≤ 100 ∧ ∀ v ∈ vars, (0 ≤ v.size ∧ v.size ≤ 100) ∧ -100 ≤ v.init ∧ v.init ≤ 100 := by
    rw [hvars]
    refine ⟨by simp, fun v hv => ?_⟩
    simp at hv
    rcases hv with h | h | h | h | h <;> subst h <;> simp <;> omega
  have hc4 := HC3.out.keep hk34
  have ho4 : Only gc w w4 := Only.keep HO3'.out hk34
  have hr4 := hk34.blk HB3.out (by omega)
  have hb4 := HB4.out
  have hgl4 := HGL.out.only hg2 ho4
  clear HB4 HS4 hvb hvars
  have HC4 := Lib.hid hc4
  have HO4 := Lib.hid ho4
  have HR4 := Lib.hid hr4
  have HB4 := Lib.hid hb4
  have HVS := Lib.hid hvs
  have HVOK := Lib.hid hvok
  have HGL4 := Lib.hid hgl4
  clear hc4 ho4 hr4 hb4 hvs hvok hgl4
  go_wp2_with fail
  refine (stmts_all 2 (by omega) (by omega) 3 w4 B gc _ (by omega) HC4.out HGL4.out).mono ?_
  rintro e w5 ⟨l5, A5, m5, c5, r5, rfl, hx5, hlen5, hf5, hr5', hc5, ho5'⟩
  have hz5 := ho5'.size
  have hs5 := stms_of (base := w4.heap.size) (by omega) (by omega) (by omega) hx5 hlen5 hf5
  have hb5 := ho5'.blk HB4.out ⟨by omega, by omega⟩
  have hr5 := ho5'.blk HR4.out ⟨by omega, by omega⟩
  have hvs5 := HVS.out.keep (ho5'.mono (fun i hi => ⟨by omega, by omega⟩))
  have ho5 := Only.trans HO4.out ho5'
  have hgl5 := HGL4.out.only hg2 ho5'
  have HC5 := Lib.hid hc5
  have HS5 := Lib.hid hs5
  have HB5 := Lib.hid hb5
  have HR5 := Lib.hid hr5
  have HVS5 := Lib.hid hvs5
  have HO5 := Lib.hid ho5
  have HGL5 := Lib.hid hgl5
  clear hc5 hs5 hb5 hr5 hvs5 ho5 hgl5
  clear hx5 hf5 ho5'
  go_upto_region 3 with (refine wpList_store_one rfl _ (.tmp 21) _ rfl (w3.heap.size + 1) 1 91 _ (.slice A5 m5 c5) rfl rfl HB5.out (by simp) (by kernel_rfl) rfl rfl ?_; intro w6 hb6 hw6)
  have hb6' : Blk w6 (w3.heap.size + 1) 91 #[.slice (some ⟨w3.heap.size, 0, none⟩) 5 5, .slice A5 m5 c5, .slice none 0 0, .slice none 0 0, .slice none 0 0] := by simpa using hb6
  have hz6 := hw6.size
  have hc6 := HC5.out.write hw6 (fun hh => by have := HBW.out _ hh; omega)
  have ho6 := HO5.out.write hw6 (by omega)
  have hr6 := hw6.blk HR5.out (by omega)
  have hvs6 := HVS5.out.keep (hw6.mono (fun i hi => by omega))
  have hs5_6 := stms_write (by omega) hw6 HS5.out
  have hgl6 := HGL.out.only hg2 ho6
  have HB6 := Lib.hid hb6'
  clear hb6 hb6' hw6
  have HC6 := Lib.hid hc6
  have HO6 := Lib.hid ho6
  have HR6 := Lib.hid hr6
  have HVS6 := Lib.hid hvs6
  have HGL6 := Lib.hid hgl6
  have HS5_6 := Lib.hid hs5_6
  clear hc6 ho6 hr6 hvs6 hgl6 hs5_6
  go_wp2_with fail
  refine (stmts_all 3 (by omega) (by omega) 4 w6 B gc _ (by omega) HC6.out HGL6.out).mono ?_
  rintro e w7 ⟨l7, A7, m7, c7, r7, rfl, hx7, hlen7, hf7, hr7', hc7, ho7'⟩
  have hz7 := ho7'.size
  have hs7 := stms_of (base := w4.heap.size) (by omega) (by omega) (by omega) hx7 hlen7 hf7
  have hs5_7 := stms_step (by omega) ho7' HS5_6.out
  have hb7 := ho7'.blk HB6.out ⟨by omega, by omega⟩
  have hr7 := ho7'.blk HR6.out ⟨by omega, by omega⟩
  have hvs7 := HVS6.out.keep (ho7'.mono (fun i hi => ⟨by omega, by omega⟩))
  have ho7 := Only.trans HO6.out ho7'
  have hgl7 := HGL6.out.only hg2 ho7'
  have HC7 := Lib.hid hc7
  have HS7 := Lib.hid hs7
  have HB7 := Lib.hid hb7
  have HR7 := Lib.hid hr7
  have HVS7 := Lib.hid hvs7
  have HO7 := Lib.hid ho7
  have HGL7 := Lib.hid hgl7
  have HS5_7 := Lib.hid hs5_7
  clear hc7 hs7 hb7 hr7 hvs7 ho7 hgl7 hs5_7
  clear hx7 hf7 ho7'
  go_upto_region 4 with (refine wpList_store_one rfl _ (.tmp 24) _ rfl (w3.heap.size + 1) 2 91 _ (.slice A7 m7 c7) rfl rfl HB7.out (by simp) (by kernel_rfl) rfl rfl ?_; intro w8 hb8 hw8)
  have hb8' : Blk w8 (w3.heap.size + 1) 91 #[.slice (some ⟨w3.heap.size, 0, none⟩) 5 5, .slice A5 m5 c5, .slice A7 m7 c7, .slice none 0 0, .slice none 0 0] := by simpa using hb8
  have hz8 := hw8.size
  have hc8 := HC7.out.write hw8 (fun hh => by have := HBW.out _ hh; omega)
  have ho8 := HO7.out.write hw8 (by omega)
  have hr8 := hw8.blk HR7.out (by omega)
  have hvs8 := HVS7.out.keep (hw8.mono (fun i hi => by omega))
  have hs5_8 := stms_write (by omega) hw8 HS5_7.out
  have hs7_8 := stms_write (by omega) hw8 HS7.out
  have hgl8 := HGL.out.only hg2 ho8
  have HB8 := Lib.hid hb8'
  clear hb8 hb8' hw8
  have HC8 := Lib.hid hc8
  have HO8 := Lib.hid ho8
  have HR8 := Lib.hid hr8
  have HVS8 := Lib.hid hvs8
  have HGL8 := Lib.hid hgl8
  have HS5_8 := Lib.hid hs5_8
  have HS7_8 := Lib.hid hs7_8
  clear hc8 ho8 hr8 hvs8 hgl8 hs5_8 hs7_8
  go_wp2_with fail
  refine (stmts_all 2 (by omega) (by omega) 3 w8 B gc _ (by omega) HC8.out HGL8.out).mono ?_
  rintro e w9 ⟨l9, A9, m9, c9, r9, rfl, hx9, hlen9, hf9, hr9', hc9, ho9'⟩
  have hz9 := ho9'.size
  have hs9 := stms_of (base := w4.heap.size) (by omega) (by omega) (by omega) hx9 hlen9 hf9
  have hs5_9 := stms_step (by omega) ho9' HS5_8.out
  have hs7_9 := stms_step (by omega) ho9' HS7_8.out
  have hb9 := ho9'.blk HB8.out ⟨by omega, by omega⟩
  have hr9 := ho9'.blk HR8.out ⟨by omega, by omega⟩
  have hvs9 := HVS8.out.keep (ho9'.mono (fun i hi => ⟨by omega, by omega⟩))
  have ho9 := Only.trans HO8.out ho9'
  have hgl9 := HGL8.out.only hg2 ho9'
  have HC9 := Lib.hid hc9
  have HS9 := Lib.hid hs9
  have HB9 := Lib.hid hb9
  have HR9 := Lib.hid hr9
  have HVS9 := Lib.hid hvs9
  have HO9 := Lib.hid ho9
  have HGL9 := Lib.hid hgl9
  have HS5_9 := Lib.hid hs5_9
  have HS7_9 := Lib.hid hs7_9
  clear hc9 hs9 hb9 hr9 hvs9 ho9 hgl9 hs5_9 hs7_9
  clear hx9 hf9 ho9'
  go_upto_region 5 with (refine wpList_store_one rfl _ (.tmp 27) _ rfl (w3.heap.size + 1) 3 91 _ (.slice A9 m9 c9) rfl rfl HB9.out (by simp) (by kernel_rfl) rfl rfl ?_; intro w10 hb10 hw10)
  have hb10' : Blk w10 (w3.heap.size + 1) 91 #[.slice (some ⟨w3.heap.size, 0, none⟩) 5 5, .slice A5 m5 c5, .slice A7 m7 c7, .slice A9 m9 c9, .slice none 0 0] := by simpa using hb10
  have hz10 := hw10.size
  have hc10 := HC9.out.write hw10 (fun hh => by have := HBW.out _ hh; omega)
  have ho10 := HO9.out.write hw10 (by omega)
  have hr10 := hw10.blk HR9.out (by omega)
  have hvs10 := HVS9.out.keep (hw10.mono (fun i hi => by omega))
  have hs5_10 := stms_write (by omega) hw10 HS5_9.out
  have hs7_10 := stms_write (by omega) hw10 HS7_9.out
  have hs9_10 := stms_write (by omega) hw10 HS9.out
  have hgl10 := HGL.out.only hg2 ho10
  have HB10 := Lib.hid hb10'
  clear hb10 hb10' hw10
  have HC10 := Lib.hid hc10
  have HO10 := Lib.hid ho10
  have HR10 := Lib.hid hr10
  have HVS10 := Lib.hid hvs10
  have HGL10 := Lib.hid hgl10
  have HS5_10 := Lib.hid hs5_10
  have HS7_10 := Lib.hid hs7_10
  have HS9_10 := Lib.hid hs9_10
  clear hc10 ho10 hr10 hvs10 hgl10 hs5_10 hs7_10 hs9_10
  go_wp2_with fail
  refine (stmts_all 2 (by omega) (by omega) 2 w10 B gc _ (by omega) HC10.out HGL10.out).mono ?_
  rintro e w11 ⟨l11, A11, m11, c11, r11, rfl, hx11, hlen11, hf11, hr11', hc11, ho11'⟩
  have hz11 := ho11'.size
  have hs11 := stms_of (base := w4.heap.size) (by omega) (by omega) (by omega) hx11 hlen11 hf11
  have hs5_11 := stms_step (by omega) ho11' HS5_10.out
  have hs7_11 := stms_step (by omega) ho11' HS7_10.out
  have hs9_11 := stms_step (by omega) ho11' HS9_10.out
  have hb11 := ho11'.blk HB10.out ⟨by omega, by omega⟩
  have hr11 := ho11'.blk HR10.out ⟨by omega, by omega⟩
  have hvs11 := HVS10.out.keep (ho11'.mono (fun i hi => ⟨by omega, by omega⟩))
  have ho11 := Only.trans HO10.out ho11'
  have hgl11 := HGL10.out.only hg2 ho11'
  have HC11 := Lib.hid hc11
  have HS11 := Lib.hid hs11
  have HB11 := Lib.hid hb11
  have HR11 := Lib.hid hr11
  have HVS11 := Lib.hid hvs11
  have HO11 := Lib.hid ho11
  have HGL11 := Lib.hid hgl11
  have HS5_11 := Lib.hid hs5_11
  have HS7_11 := Lib.hid hs7_11
  have HS9_11 := Lib.hid hs9_11
  clear hc11 hs11 hb11 hr11 hvs11 ho11 hgl11 hs5_11 hs7_11 hs9_11
  clear hx11 hf11 ho11'
  go_upto_region 6 with (refine wpList_store_one rfl _ (.tmp 30) _ rfl (w3.heap.size + 1) 4 91 _ (.slice A11 m11 c11) rfl rfl HB11.out (by simp) (by kernel_rfl) rfl rfl ?_; intro w12 hb12 hw12)
  have hb12' : Blk w12 (w3.heap.size + 1) 91 #[.slice (some ⟨w3.heap.size, 0, none⟩) 5 5, .slice A5 m5 c5, .slice A7 m7 c7, .slice A9 m9 c9, .slice A11 m11 c11] := by simpa using hb12
  have hz12 := hw12.size
  have hc12 := HC11.out.write hw12 (fun hh => by have := HBW.out _ hh; omega)
  have ho12 := HO11.out.write hw12 (by omega)
  have hr12 := hw12.blk HR11.out (by omega)
  have hvs12 := HVS11.out.keep (hw12.mono (fun i hi => by omega))
  have hs5_12 := stms_write (by omega) hw12 HS5_11.out
  have hs7_12 := stms_write (by omega) hw12 HS7_11.out
  have hs9_12 := stms_write (by omega) hw12 HS9_11.out
  have hs11_12 := stms_write (by omega) hw12 HS11.out
  have hgl12 := HGL.out.only hg2 ho12
  have HB12 := Lib.hid hb12'
  clear hb12 hb12' hw12
  have HC12 := Lib.hid hc12
  have HO12 := Lib.hid ho12
  have HR12 := Lib.hid hr12
  have HVS12 := Lib.hid hvs12
  have HGL12 := Lib.hid hgl12
  have HS5_12 := Lib.hid hs5_12
  have HS7_12 := Lib.hid hs7_12
  have HS9_12 := Lib.hid hs9_12
  have HS11_12 := Lib.hid hs11_12
  clear hc12 ho12 hr12 hvs12 hgl12 hs5_12 hs7_12 hs9_12 hs11_12
  go_wp2_with (first
    | (refine wpList_load_all rfl _ (.tmp 3) rfl (w3.heap.size + 1) 91 [.slice (some ⟨w3.heap.size, 0, none⟩) 5 5, .slice A5 m5 c5, .slice A7 m7 c7, .slice A9 m9 c9, .slice A11 m11 c11] _ rfl HB12.out Tryd.underlying91 rfl (by kernel_rfl) ?_)
    | (refine wpList_store_all rfl _ (.tmp 2) (.tmp 31) rfl w.heap.size 91 _ [.slice (some ⟨w3.heap.size, 0, none⟩) 5 5, .slice A5 m5 c5, .slice A7 m7 c7, .slice A9 m9 c9, .slice A11 m11 c11] rfl rfl HR12.out rfl (by kernel_rfl) rfl ?_; intro wz hbz hwz; have HBZ := Lib.hid hbz; have HWZ := Lib.hid hwz; clear hbz hwz))
  have hzz := HWZ.out.size
  have more : ∀ i, New wz w4.heap.size i → New wz w.heap.size i := fun i hi => ⟨by have := hi.1; omega, hi.2⟩
  refine bodyPost_ret (results_cell1 Tryd.results50 _ _ _ ⟨w.heap.size, 0, none⟩ _ rfl (loadVar_blk [.slice (some ⟨w3.heap.size, 0, none⟩) 5 5, .slice A5 m5 c5, .slice A7 m7 c7, .slice A9 m9 c9, .slice A11 m11 c11] _ HBZ.out (fun j v hv => by simpa using hv) Tryd.underlying91 rfl (by kernel_rfl))) rfl ?_
  refine ⟨⟨vars, l5, l7, l9, l11⟩, [.slice (some ⟨w3.heap.size, 0, none⟩) 5 5, .slice A5 m5 c5, .slice A7 m7 c7, .slice A9 m9 c9, .slice A11 m11 c11], _, rfl, ?_, by omega, HC12.out.write HWZ.out (fun hh => by have := HBW.out _ hh; omega), HO12.out.write HWZ.out (Nat.le_refl _)⟩
  exact ⟨_, _, _, _, _, _, _, _, _, _, _, _, _, _, _, rfl, (HVS12.out.keep (HWZ.out.mono (fun i hi => by omega))).more (fun i hi => ⟨by omega, by omega⟩), HVOK.out.1, HVOK.out.2, (stms_write (by omega) HWZ.out HS5_12.out).more more, (stms_write (by omega) HWZ.out HS7_12.out).more more, (stms_write (by omega) HWZ.out HS9_12.out).more more, (stms_write (by omega) HWZ.out HS11_12.out).more more⟩
end Go.Proofs.YtecckbkobkfnmaaDoor
