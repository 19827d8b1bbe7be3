/- Contracts: place (written by gen_place.py). -/
import Derived.Test.YtfleindknalckaaDoorRen
import Derived.Test.YtfleindknalckaaDoorRowIn
set_option linter.unusedVariables false
set_option linter.unusedSimpArgs false
namespace Go.Proofs.YtfleindknalckaaDoor
open Go.RowKit Go.Proofs

theorem flatten_take {size : Nat} : ∀ (css : List (List Value)) (k : Nat), (∀ cs ∈ css, cs.length = size) → css.flatten.take (k * size) = (css.take k).flatten
  | [], k, _ => by simp
  | cs :: css, 0, _ => by simp
  | cs :: css, k + 1, h => by
    rw [List.flatten_cons, List.take_succ_cons, List.flatten_cons, List.take_append, h cs (by simp), List.take_of_length_le (by rw [h cs (by simp), Nat.add_mul]; omega)]
    have : (k + 1) * size - size = k * size := by rw [Nat.add_mul]; omega
    rw [this, flatten_take css k (fun c hc => h c (by simp [hc]))]
theorem SlR.to_ {α : Type} {w : World} {S : Nat → Prop} {size : Nat} {R : List Value → α → Prop} {A : Option Addr} {n c : Nat} {l : List α} (h : SlR w S size R A n c l) {k : Nat} (hk : k ≤ n) : SlR w S size R A k c (l.take k) := by
  obtain ⟨h1, h2, h3, css, h4, h5, h6, h7⟩ := h
  refine ⟨by rw [List.length_take]; omega, by omega, h3, css.take k, by rw [List.length_take]; omega, fun cs hc => h5 cs (List.mem_of_mem_take hc), ?_, fun j cs a e1 e2 => ?_⟩
  · rw [← flatten_take css k h5]
    exact h6.to_ hk
  · rw [List.getElem?_take] at e1 e2
    split at e1
    · rename_i hj
      rw [if_pos hj] at e2
      exact h7 j cs a e1 e2
    · cases e1
def PlacePost (n : Nat) (B : Nat → Prop) (gc r : Nat) (w : World) (en : Ending) (w' : World) : Prop :=
  ∃ (e : Ex) (cs : List Value) (r' : Nat), en = .returned (.agg cs.toArray) ∧ ExR w' (New w' w.heap.size) (n + 1) cs e ∧ r' ≤ r ∧ Cod w' B gc r' ∧ Only gc w w'
def PlaceSaid (n : Nat) : Prop := ∀ (w : World) (B S : Nat → Prop) (gc r : Nat) (cs : List Value) (e : Ex), Cod w B gc r → (∀ i, S i → i < w.heap.size ∧ i ≠ gc) → ExR w S n cs e → Ex.few 1000 n e → Calls Tryd.prog 8 #[.pointer (some ⟨gc, 0, none⟩), .agg cs.toArray] w (PlacePost n B gc r w)
def PlaceRel (n : Nat) (B : Nat → Prop) (gc r : Nat) (W : World) (args : List Ex) (v i : Value) (wr : World) : Prop :=
  ∃ (k r' : Nat) (l : List Ex), i = .int .i64 k ∧ k ≤ args.length ∧ l.length = k ∧ Grow (fun w S cs e => ExR w S (n + 1) cs e) 6 31 wr W.heap.size v l ∧ r' ≤ r ∧ Cod wr B gc r' ∧ Only gc W wr
def PlCut (w : World) (gc : Nat) (B : Nat → Prop) (r : Nat) (op val : Int) (name : ByteArray) (A : Option Addr) (m c : Nat) (wx : World) : Prop :=
  ∃ (slot size : Int) (r' : Nat), I64 slot ∧ I64 size ∧ r' ≤ r ∧ Cod wx B gc r' ∧ Blk wx w.heap.size 31 #[.int .i64 op, .int .i64 val, .string name, .int .i64 slot, .int .i64 size, .slice A m c] ∧
    Blk wx (w.heap.size + 1) 31 #[.int .i64 0, .int .i64 0, .string ⟨#[]⟩, .int .i64 0, .int .i64 0, .slice none 0 0] ∧ Only gc w wx
/-- Behind the switch: some list. -/
def SwCut (n : Nat) (W : World) (gc : Nat) (B : Nat → Prop) (r : Nat) (v : Value) (wx : World) : Prop :=
  ∃ (A : Option Addr) (m c r' : Nat) (l : List Ex), v = .slice A m c ∧ SlR wx (New wx W.heap.size) 6 (fun cs e => ExR wx (New wx W.heap.size) (n + 1) cs e) A m c l ∧ r' ≤ r ∧ Cod wx B gc r' ∧ Only gc W wx
set_option maxHeartbeats 4000000 in
set_option maxRecDepth 100000 in
theorem place_succ (n : Nat) (ih : PlaceSaid n) : PlaceSaid (n + 1) := by
  intro w B S gc r cs e hcod hS hx hf
  obtain ⟨op, val, name, slot, size, args⟩ := e
  have hx' := hx
  obtain ⟨hsl, hsz, A, m, c, rfl, hargs⟩ := hx'
  obtain ⟨hf1, hf2⟩ := hf
  obtain ⟨i0, hi0, iz0, iz1, iz2⟩ := info_of info_Ex
  have hml := hargs.1
  have hm1 : m ≤ 1000 := by omega
  have hmc := hargs.2.1
  have hcm : c ≤ 9223372036854775807 := hargs.2.2.1
  have hgw := hcod.lt
  have hbb0 := hcod.2.1
  have HS := Lib.hid hS
  have HX := Lib.hid hx
  have IH := Lib.hid ih
  have HF2 := Lib.hid hf2
  have HARGS := Lib.hid hargs
  have HSL := Lib.hid hsl
  have HSZ := Lib.hid hsz
  have HI0 := Lib.hid hi0
  have IZ0 := Lib.hid iz0
  have IZ1 := Lib.hid iz1
  have IZ2 := Lib.hid iz2
  have HML := Lib.hid hml
  have HCOD := Lib.hid hcod
  have HBB0 := Lib.hid hbb0
  clear hS hx ih hf2 hargs hsl hsz hi0 iz0 iz1 iz2 hml hcod hbb0
  clear hf1
  go_enter Tryd.func8, Tryd.ntmps8
  go_upto_region 1 with fail
  generalize hW0 : (w.alloc (.cells #[.int .i64 op, .int .i64 val, .string name, .int .i64 slot, .int .i64 size, .slice A m c] 31)).alloc (.cells #[.int .i64 0, .int .i64 0, .string ⟨#[]⟩, .int .i64 0, .int .i64 0, .slice none 0 0] 31) = W0
  have hkW : Keep w W0 := hW0 ▸ Keep.alloc (Keep.new w _) _
  have hb1 : Blk W0 w.heap.size 31 _ := hW0 ▸ (Blk.new w _ _).alloc _
  have hb2 : Blk W0 (w.heap.size + 1) 31 #[.int .i64 0, .int .i64 0, .string ⟨#[]⟩, .int .i64 0, .int .i64 0, .slice none 0 0] := by
    have := Blk.new (w.alloc (.cells #[.int .i64 op, .int .i64 val, .string name, .int .i64 slot, .int .i64 size, .slice A m c] 31)) 31 #[.int .i64 0, .int .i64 0, .string ⟨#[]⟩, .int .i64 0, .int .i64 0, .slice none 0 0]
    rw [hW0] at this
    simpa using this
  have hz0 : w.heap.size + 1 < W0.heap.size := hb2.lt
  have c0 : W0.cell? ⟨w.heap.size, 0, none⟩ = some (.int .i64 op) := by rw [hb1.cell]; rfl
  clear hW0
  have HKW := Lib.hid hkW
  have HB1 := Lib.hid hb1
  have HB2 := Lib.hid hb2
  clear hkW hb1 hb2
  go_cut [14] from 7 to 13 (fun s14 wx => CutTB W0 (op == 2 || op == 3) s14 wx)
  case first =>
    by_cases h2 : op = 2
    · have d2 : (op == 2) = true := by simpa using h2
      clear h2
      go_wp2_with fail
      go_meet
      exact ⟨by rw [d2]; rfl, rfl⟩
    · have d2 : (op == 2) = false := by simpa using h2
      go_wp2_with fail
      go_meet
      exact ⟨by rw [d2]; rfl, rfl⟩
  case rest =>
    obtain ⟨rfl, rfl⟩ := hcut
    go_upto_if 14 with fail
    go_cut [] from 14 to 30 (fun wx => PlCut w gc B r op val name A m c wx)
    case first =>
      generalize hbb : (op == 2 || op == 3) = bb
      have HBB := Lib.hid hbb
      clear hbb
      cases bb with
      | true =>
        go_wp2_with fail
        refine (next_any W0 B gc r 8 (HCOD.out.keep HKW.out) (by omega) (by omega)).mono ?_
        rintro e w1 ⟨v1, hv10, hv11, rfl, hc1, ho1⟩
        have hb1' := ho1.blk HB1.out ⟨by omega, by omega⟩
        have hb2' := ho1.blk HB2.out ⟨by omega, by omega⟩
        have hz1 := ho1.size
        have ho1' : Only gc w w1 := Only.trans (HKW.out.only gc) ho1
        have HC1 := Lib.hid hc1
        have HB1' := Lib.hid hb1'
        have HB2' := Lib.hid hb2'
        have HO1' := Lib.hid ho1'
        clear hc1 hb1' hb2' ho1'
        clear ho1
        go_wp2_with fail
        refine (next_any w1 B gc _ 6 HC1.out (by omega) (by omega)).mono ?_
        rintro e w2 ⟨v2, hv20, hv21, rfl, hc2, ho2⟩
        have hb3 := ho2.blk HB1'.out ⟨by omega, by omega⟩
        have hb4 := ho2.blk HB2'.out ⟨by omega, by omega⟩
        have hz2 := ho2.size
        have ho2' := Only.trans HO1'.out ho2
        have hi1 : I64 (v1 - 1) := ⟨by omega, by omega⟩
        have hi2 : I64 v2 := ⟨by omega, by omega⟩
        have HC2 := Lib.hid hc2
        have HB3 := Lib.hid hb3
        have HB4 := Lib.hid hb4
        have HO2' := Lib.hid ho2'
        have HI1 := Lib.hid hi1
        have HI2 := Lib.hid hi2
        clear hc2 hb3 hb4 ho2' hi1 hi2
        clear ho2
        go_upto_region 3 with (first
          | (refine wpList_store_one rfl _ (.tmp 20) _ rfl w.heap.size 3 31 _ (.int .i64 (v1 - 1)) rfl rfl HB3.out (by simp) (by kernel_rfl) rfl rfl ?_; intro w3 hb5 hs3; have HB5 := Lib.hid hb5; have HS3 := Lib.hid hs3; clear hb5 hs3)
          | (refine wpList_store_one rfl _ (.tmp 21) _ rfl w.heap.size 4 31 _ (.int .i64 v2) rfl rfl HB5.out (by simp) (by kernel_rfl) rfl rfl ?_; intro w4 hb6 hs4; have HB6 := Lib.hid hb6; have HS4 := Lib.hid hs4; clear hb6 hs4))
        have hc4 := (HC2.out.write HS3.out (fun hh => by have := HBB0.out _ hh; omega)).write HS4.out (fun hh => by have := HBB0.out _ hh; omega)
        have hb6 : Blk w4 w.heap.size 31 #[.int .i64 op, .int .i64 val, .string name, .int .i64 (v1 - 1), .int .i64 v2, .slice A m c] := by simpa using HB6.out
        have hb7 := HS4.out.blk (HS3.out.blk HB4.out (by omega)) (by omega)
        have ho4 := (HO2'.out.write HS3.out (Nat.le_refl _)).write HS4.out (Nat.le_refl _)
        have hz3 := HS3.out.size
        have hz4 := HS4.out.size
        clear HB6 HS3 HS4 HB5
        have HC4 := Lib.hid hc4
        have HB6 := Lib.hid hb6
        have HB7 := Lib.hid hb7
        have HO4 := Lib.hid ho4
        clear hc4 hb6 hb7 ho4
        go_wp2_with fail
        refine (next_any w4 B gc _ 10 HC4.out (by omega) (by omega)).mono ?_
        rintro e w5 ⟨v5, hv50, hv51, rfl, hc5, ho5⟩
        have hz5 := ho5.size
        have hb8 := ho5.blk HB6.out ⟨by omega, by omega⟩
        have hb9 := ho5.blk HB7.out ⟨by omega, by omega⟩
        have ho5' := Only.trans HO4.out ho5
        have HC5 := Lib.hid hc5
        have HB8 := Lib.hid hb8
        have HB9 := Lib.hid hb9
        have HO5' := Lib.hid ho5'
        clear hc5 hb8 hb9 ho5'
        clear ho5
        by_cases h9 : v5 = 9
        · have d9 : (v5 == 9) = true := by simpa using h9
          clear h9
          go_wp2_with fail
          refine (int_any w5 B gc _ HC5.out).mono ?_
          rintro e w6 ⟨v6, hwf6, rfl, ⟨r6, hr6, hc6⟩, ho6⟩
          have hz6 := ho6.size
          have hb8' := ho6.blk HB8.out ⟨by omega, by omega⟩
          have hb9' := ho6.blk HB9.out ⟨by omega, by omega⟩
          have ho6' := Only.trans HO5'.out ho6
          have HC6 := Lib.hid hc6
          have HB8' := Lib.hid hb8'
          have HB9' := Lib.hid hb9'
          have HO6' := Lib.hid ho6'
          have HWF6 := Lib.hid hwf6
          clear hc6 hb8' hb9' ho6' hwf6
          clear ho6
          go_wp2_with fail
          refine (int_any w6 B gc _ HC6.out).mono ?_
          rintro e w7 ⟨v7, hwf7, rfl, ⟨r7, hr7, hc7⟩, ho7⟩
          have hz7 := ho7.size
          have hba := ho7.blk HB8'.out ⟨by omega, by omega⟩
          have hbb' := ho7.blk HB9'.out ⟨by omega, by omega⟩
          have ho7' := Only.trans HO6'.out ho7
          have HC7 := Lib.hid hc7
          have HBA := Lib.hid hba
          have HBB' := Lib.hid hbb'
          have HO7' := Lib.hid ho7'
          have HWF7 := Lib.hid hwf7
          clear hc7 hba hbb' ho7' hwf7
          clear ho7
          go_wp2_with (first
            | (refine wpList_store_one rfl _ (.tmp 29) _ rfl w.heap.size 3 31 _ (.int .i64 v6) rfl rfl HBA.out (by simp) (by kernel_rfl) rfl rfl ?_; intro w8 hbx hsx; have HBX := Lib.hid hbx; have HSX := Lib.hid hsx; clear hbx hsx)
            | (refine wpList_store_one rfl _ (.tmp 30) _ rfl w.heap.size 4 31 _ (.int .i64 v7) rfl rfl HBX.out (by simp) (by kernel_rfl) rfl rfl ?_; intro w9 hby hsy; have HBY := Lib.hid hby; have HSY := Lib.hid hsy; clear hby hsy))
          go_meet
          exact ⟨v6, v7, r7, i64_of_wf HWF6.out, i64_of_wf HWF7.out, by omega, (HC7.out.write HSX.out (fun hh => by have := HBB0.out _ hh; omega)).write HSY.out (fun hh => by have := HBB0.out _ hh; omega), by simpa using HBY.out, HSY.out.blk (HSX.out.blk HBB'.out (by omega)) (by omega), (HO7'.out.write HSX.out (Nat.le_refl _)).write HSY.out (Nat.le_refl _)⟩
        · have d9 : (v5 == 9) = false := by simpa using h9
          go_wp2_with fail
          go_meet
          exact ⟨v1 - 1, v2, _, HI1.out, HI2.out, by omega, HC5.out, HB8.out, HB9.out, HO5'.out⟩
      | false =>
        go_wp2_with fail
        go_meet
        exact ⟨slot, size, r, HSL.out, HSZ.out, Nat.le_refl _, HCOD.out.keep HKW.out, HB1.out, HB2.out, HKW.out.only gc⟩
    case rest =>
      obtain ⟨slot', size', r', hsl', hsz', hr', hc', hbW, hbR, hoW⟩ := hcut
      obtain ⟨W, rfl⟩ : ∃ W : World, W = wc := ⟨_, rfl⟩
      have hzW : w.heap.size + 1 < W.heap.size := hbR.lt
      have c5 : W.cell? ⟨w.heap.size, 5, none⟩ = some (.slice A m c) := by rw [hbW.cell]; rfl
      clear c0
      have HSL' := Lib.hid hsl'
      have HSZ' := Lib.hid hsz'
      have HC' := Lib.hid hc'
      have HBW := Lib.hid hbW
      have HBR := Lib.hid hbR
      have HOW := Lib.hid hoW
      clear hsl' hsz' hc' hbW hbR hoW
      go_wp2_with fail
      go_loopw [5, 34] (fun v i wr => PlaceRel n B gc r' W args v i wr) (fun _ i _ => m - (intOf i).toNat)
      case atStart => exact ⟨0, r', [], rfl, by omega, rfl, Grow.nil_, Nat.le_refl _, HC'.out, Same.refl _ _⟩
      case round =>
        obtain ⟨k, r3, l, rfl, hk, hll, hgr, hr3, hc3, hor⟩ := hrel
        have c5r : wr.cell? ⟨w.heap.size, 5, none⟩ = some (.slice A m c) := (hor.cell (p := ⟨w.heap.size, 5, none⟩) ⟨by simp; omega, by simp; omega⟩).trans c5
        have hzr := hor.size
        have hkm' : k ≤ m := by have := HML.out; omega
        by_cases hkm : k < m
        · obtain ⟨b', off', cs', a, rfl, hSb, ha, hR, hl, hcell⟩ := HARGS.out.at_ hkm
          have how : Only gc w wr := Only.trans HOW.out hor
          have hrg : wr.rangeAt b' (off' + k * 6) cs' := fun j u hu => (how.cell (p := ⟨b', off' + k * 6 + j, none⟩) (HS.out b' hSb)).trans (hcell j u hu)
          have hRr := ExR.keep (Same.mono how HS.out) _ _ _ hR
          have hfa := HF2.out a (List.mem_of_getElem? ha)
          have hd1 : decide (k < m) = true := by simpa using hkm
          have hd2 : (0 : Int) ≤ k := by omega
          have hd3 : (k : Int) < m := by omega
          have hlen := hR.len
          clear hR hcell
          have HGR := Lib.hid hgr
          have HOR := Lib.hid hor
          have HRG := Lib.hid hrg
          have HRR := Lib.hid hRr
          have HFA := Lib.hid hfa
          have HA := Lib.hid ha
          have HOW := Lib.hid how
          have HLEN := Lib.hid hlen
          have HC3 := Lib.hid hc3
          clear hgr hor hrg hRr hfa ha how hlen hc3
          go_wp2_with (refine wpList_load_mid rfl _ (.tmp 42) rfl b' (off' + k * 6) rfl cs' _ HRG.out Tryd.underlying31 rfl (info_ex HLEN.out) ?_)
          refine (IH.out wr B S gc r3 cs' a HC3.out (fun i hi => ⟨Nat.lt_of_lt_of_le (HS.out i hi).1 HOW.out.size, (HS.out i hi).2⟩) HRR.out HFA.out).mono ?_
          rintro e w3 ⟨e3, cs3, r4, rfl, hx3, hr4, hc4, ho3⟩
          obtain ⟨op3, val3, name3, slot3, size3, args3, A3, m3, c3, he3, rfl⟩ := ExR.open_ hx3
          have hz3 := ho3.size
          have hgr3 := Grow.same (ExR.good (n + 1)) HGR.out ho3 (fun i h1 h2 => ⟨h2, by omega⟩)
          obtain ⟨css, g1, g2, g3, g4⟩ := hgr3
          have hel := ExR.more (T := Rest w3 W.heap.size _) (fun i hi => ⟨by have := hi.1; omega, hi.2, HGR.out.fresh hi.1⟩) _ _ _ hx3
          have ho3' : Only gc W w3 := Only.trans HOR.out ho3
          have hone := hx3.one'
          have G1 := Lib.hid g1
          have G2 := Lib.hid g2
          have G3 := Lib.hid g3
          have G4 := Lib.hid g4
          have HEL := Lib.hid hel
          have HO3' := Lib.hid ho3'
          have HONE := Lib.hid hone
          have HC4 := Lib.hid hc4
          clear g1 g2 g3 g4 hel ho3' hone hc4
          clear hx3 ho3 he3
          go_wp2_with (first
            | (refine wpList_buildS rfl _ _ _ _ rfl Tryd.underlying29 _ [(0, .agg #[.int .i64 op3, .int .i64 val3, .string name3, .int .i64 slot3, .int .i64 size3, .slice A3 m3 c3])] rfl (built_ex1 _ _ _ _ _ _ _ _) ?_)
            | (at_builtin; refine wpList_append_any _ rfl (.tmp 37) (.tmp 45) _ rfl W.heap.size 31 i0 _ 6 72 Tryd.underlying29 HI0.out IZ0.out IZ1.out IZ2.out rfl (by omega) _ l.length css.flatten rfl (G3.out.alloc _) _ (some ⟨w3.heap.size, 0, none⟩) 1 1 [.int .i64 op3, .int .i64 val3, .string name3, .int .i64 slot3, .int .i64 size3, .slice A3 m3 c3] rfl (Reads.new rfl) HONE.out (by simp [maxLen]; omega) (by omega) (by simp; omega) ?_; intro v5 w5 hown5 hg5 hat5))
          go_roundw
          case rel =>
            refine ⟨k + 1, r4, l ++ [e3], by go_num, by have := HML.out; omega, by simp [hll], Grow.push (ExR.good (n + 1)) G1.out G2.out G4.out (Keep.new w3 _) hown5 hg5 hat5 rfl HEL.out, by omega, ?_, ?_⟩
            · exact (HC4.out.alloc _).same (Same.append (Same.refl _ _) (G3.out.alloc _) hg5 (fun i hi => by have := HBB0.out i hi; omega) (by simp; omega))
            · exact Same.append (Only.alloc HO3'.out _) (G3.out.alloc _) hg5 (fun i hi => hi.1) (by simp; omega)
          case measure => simp [intOf]; omega
        · have hkn : k = args.length := by have := HML.out; omega
          have hd1 : decide (k < m) = false := by simpa using hkm
          have hb1 := hor.blk HBW.out ⟨by omega, by omega⟩
          have hb2r := hor.blk HBR.out ⟨by omega, by omega⟩
          have HGR := Lib.hid hgr
          have HOR := Lib.hid hor
          have HB1 := Lib.hid hb1
          have HB2R := Lib.hid hb2r
          have HKN := Lib.hid hkn
          have HC3 := Lib.hid hc3
          clear hgr hor hb1 hb2r hkn hc3
          clear c5r
          go_wp2_with fail
          refine (next_any wr B gc _ 12 HC3.out (by omega) (by omega)).mono ?_
          rintro e w3 ⟨v3, hv30, hv31, rfl, hc4, ho3⟩
          have hz3 := ho3.size
          have hb1' := ho3.blk HB1.out ⟨by omega, by omega⟩
          have hb2' := ho3.blk HB2R.out ⟨by omega, by omega⟩
          have hgr3 := Grow.same (ExR.good (n + 1)) HGR.out ho3 (fun i h1 h2 => ⟨h2, by omega⟩)
          have ho3' : Only gc W w3 := Only.trans HOR.out ho3
          have HC4 := Lib.hid hc4
          have HB1' := Lib.hid hb1'
          have HB2' := Lib.hid hb2'
          have HGR3 := Lib.hid hgr3
          have HO3' := Lib.hid ho3'
          clear hc4 hb1' hb2' hgr3 ho3'
          clear ho3
          go_upto_block 2 with fail
          go_cut [5] from 50 to 66 (fun s5 wx => SwCut n W gc B r3 s5 wx)
          case first =>
            by_cases h10 : v3 = 10
            · have d10 : (v3 == 10) = true := by simpa using h10
              clear h10
              obtain ⟨A5, c5', hv5, hsl5⟩ := Grow.done (ExR.good (n + 1)) HGR3.out
              subst hv5
              have hl1 : l.length ≤ 1000 := by omega
              have hlc := hsl5.2.1
              have hcc : c5' ≤ 9223372036854775807 := hsl5.2.2.1
              have HSL5 := Lib.hid hsl5
              have HLL := Lib.hid hll
              clear hsl5 hll
              go_wp2_with fail
              refine (next_any w3 B gc _ ((l.length : Int) + 1) HC4.out (by omega) (by omega)).mono ?_
              rintro e w4 ⟨v4, hv40, hv41, rfl, hc5, ho4⟩
              obtain ⟨j, rfl⟩ := Int.eq_ofNat_of_zero_le hv40
              have hj1 : (0 : Int) ≤ j := by omega
              have hj2 : (j : Int) ≤ c5' := by omega
              have hz4 := ho4.size
              have ho4' : Only gc W w4 := Only.trans HO3'.out ho4
              have hs4 : Same (New w3 W.heap.size) w3 w4 := ho4.mono (fun i (hi : New w3 W.heap.size i) => ⟨hi.2, by have := hi.1; omega⟩)
              have hsl6 := ((HSL5.out.to_ (k := j) (by omega)).keep hs4 (ExR.keep hs4 _)).more (T := New w4 W.heap.size) (fun i hi => ⟨hi.1, by have := hi.2; omega⟩) (ExR.more (T := New w4 W.heap.size) (fun i (hi : New w3 W.heap.size i) => ⟨hi.1, by have := hi.2; omega⟩) _)
              have HC5 := Lib.hid hc5
              have HO4' := Lib.hid ho4'
              have HSL6 := Lib.hid hsl6
              clear hc5 ho4' hsl6
              clear ho4 hs4
              go_wp2_with fail
              go_meet
              exact ⟨A5, j, c5', _, _, rfl, HSL6.out, by omega, HC5.out, HO4'.out⟩
            · have d10 : (v3 == 10) = false := by simpa using h10
              by_cases h11 : v3 = 11
              · have d11 : (v3 == 11) = true := by simpa using h11
                clear h11 h10
                go_wp2_with fail
                refine (next_any w3 B gc _ 30 HC4.out (by omega) (by omega)).mono ?_
                rintro e w4 ⟨v4, hv40, hv41, rfl, hc5, ho4⟩
                have hz4 := ho4.size
                have ho4' : Only gc W w4 := Only.trans HO3'.out ho4
                have hgr4 := Grow.same (ExR.good (n + 1)) HGR3.out ho4 (fun i h1 h2 => ⟨h2, by omega⟩)
                have hl1 : l.length ≤ 1000 := by omega
                obtain ⟨css, g1, g2, g3, g4⟩ := hgr4
                have G1 := Lib.hid g1
                have G2 := Lib.hid g2
                have G3 := Lib.hid g3
                have G4 := Lib.hid g4
                have HO4' := Lib.hid ho4'
                have HC5 := Lib.hid hc5
                have HLL := Lib.hid hll
                clear g1 g2 g3 g4 ho4' hc5 hll
                clear ho4
                go_wp2_with (first
                  | (refine wpList_buildS rfl _ _ _ _ rfl Tryd.underlying29 _ [(0, .agg #[.int .i64 v4, .int .i64 3, .string ⟨#[]⟩, .int .i64 0, .int .i64 0, .slice none 0 0])] rfl (built_ex1 _ _ _ _ _ _ _ _) ?_)
                  | (at_builtin; refine wpList_append_any _ rfl (.tmp 61) (.tmp 65) _ rfl W.heap.size 31 i0 _ 6 72 Tryd.underlying29 HI0.out IZ0.out IZ1.out IZ2.out rfl (by omega) _ l.length css.flatten rfl (G3.out.alloc _) _ (some ⟨w4.heap.size, 0, none⟩) 1 1 [.int .i64 v4, .int .i64 3, .string ⟨#[]⟩, .int .i64 0, .int .i64 0, .slice none 0 0] rfl (Reads.new rfl) (ExR.one' (ExR.leaf (w := w4) (S := fun _ => False) 0 v4 3 ⟨#[]⟩)) (by simp [maxLen]; omega) (by omega) (by simp; omega) ?_; intro v5 w5 hown5 hg5 hat5))
                have hgp := Grow.push (ExR.good (n + 1)) G1.out G2.out G4.out (Keep.new w4 _) hown5 hg5 hat5 rfl (ExR.leaf n v4 3 ⟨#[]⟩)
                obtain ⟨A6, c6, hv6, hsl6⟩ := Grow.done (ExR.good (n + 1)) hgp
                have hc6 := (HC5.out.alloc (.cells #[.int .i64 v4, .int .i64 3, .string ⟨#[]⟩, .int .i64 0, .int .i64 0, .slice none 0 0] 31)).same (Same.append (Same.refl _ _) (G3.out.alloc _) hg5 (fun i hi => by have := HBB0.out i hi; omega) (by simp; omega))
                have ho6 := Same.append (Only.alloc HO4'.out (.cells #[.int .i64 v4, .int .i64 3, .string ⟨#[]⟩, .int .i64 0, .int .i64 0, .slice none 0 0] 31)) (G3.out.alloc _) hg5 (fun i hi => hi.1) (by simp; omega)
                go_meet
                exact ⟨A6, _, c6, _, _, hv6, hsl6, by omega, hc6, ho6⟩
              · have d11 : (v3 == 11) = false := by simpa using h11
                obtain ⟨A5, c5', hv5, hsl5⟩ := Grow.done (ExR.good (n + 1)) HGR3.out
                subst hv5
                have HSL5 := Lib.hid hsl5
                have HLL := Lib.hid hll
                clear hsl5 hll
                go_wp2_with fail
                go_meet
                exact ⟨A5, _, c5', _, _, rfl, HSL5.out, by omega, HC4.out, HO3'.out⟩
          case rest =>
            obtain ⟨A5, m5, c5', r5, l5, rfl, hsl5, hr5, hc5, ho5⟩ := hcut
            obtain ⟨w8, rfl⟩ : ∃ w8 : World, w8 = wc := ⟨_, rfl⟩
            have hz8 := ho5.size
            have hb3 := ho5.blk HBW.out ⟨by omega, by omega⟩
            have hb4 := ho5.blk HBR.out ⟨by omega, by omega⟩
            have how : Only gc w w8 := Only.trans HOW.out ho5
            have HB3 := Lib.hid hb3
            have HB4 := Lib.hid hb4
            have HSL5 := Lib.hid hsl5
            have HOW := Lib.hid how
            have HC5 := Lib.hid hc5
            clear hb3 hb4 hsl5 how hc5
            clear ho5 c5
            go_upto_region 17 with (refine wpList_store_one rfl _ (.tmp 68) _ rfl w.heap.size 5 31 _ (.slice A5 m5 c5') rfl rfl HB3.out (by simp) (by kernel_rfl) rfl rfl ?_; intro w6 hb6 hs6)
            have hb6' : Blk w6 w.heap.size 31 #[.int .i64 op, .int .i64 val, .string name, .int .i64 slot', .int .i64 size', .slice A5 m5 c5'] := by simpa using hb6
            have HB6 := Lib.hid hb6'
            have HS6 := Lib.hid hs6
            clear hb6 hs6 hb6'
            go_wp2_with (first
              | (refine wpList_load_all rfl _ (.tmp 3) rfl w.heap.size 31 [.int .i64 op, .int .i64 val, .string name, .int .i64 slot', .int .i64 size', .slice A5 m5 c5'] _ rfl HB6.out Tryd.underlying31 rfl (by kernel_rfl) ?_)
              | (refine wpList_store_all rfl _ (.tmp 4) (.tmp 69) rfl (w.heap.size + 1) 31 _ [.int .i64 op, .int .i64 val, .string name, .int .i64 slot', .int .i64 size', .slice A5 m5 c5'] rfl rfl (HS6.out.blk HB4.out (by omega)) rfl (by kernel_rfl) rfl ?_; intro w7 hb7 hs7; have HB7 := Lib.hid hb7; have HS7 := Lib.hid hs7; clear hb7 hs7))
            have h67 : Same (New w8 W.heap.size) w8 w7 := Same.trans (HS6.out.mono (fun i (hi : New w8 W.heap.size i) => by have := hi.1; omega)) HS7.out (fun i hi => by have := hi.1; omega)
            have hz7 := h67.size
            have hm : ∀ i, New w8 W.heap.size i → New w7 w.heap.size i := fun i hi => ⟨by have := hi.1; omega, by have := hi.2; omega⟩
            refine bodyPost_ret (expr_end Tryd.results8 rfl HB7.out rfl) rfl ⟨.mk op val name slot' size' l5, _, r5, rfl, ?_, by omega, (HC5.out.write HS6.out (fun hh => by have := HBB0.out _ hh; omega)).write HS7.out (fun hh => by have := HBB0.out _ hh; omega), (HOW.out.write HS6.out (Nat.le_refl _)).write HS7.out (by omega)⟩
            exact ⟨HSL'.out, HSZ'.out, A5, _, c5', rfl, ((HSL5.out.keep h67 (ExR.keep h67 _)).more hm (ExR.more hm _))⟩
theorem place_all : ∀ n, PlaceSaid n
  | 0 => fun _ _ _ _ _ _ _ _ _ h => h.elim
  | n + 1 => place_succ n (place_all n)
end Go.Proofs.YtfleindknalckaaDoor
