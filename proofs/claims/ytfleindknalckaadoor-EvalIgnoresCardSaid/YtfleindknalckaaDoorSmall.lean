/- Contracts: small. -/
import Derived.Test.YtfleindknalckaaDoorRen
set_option linter.unusedVariables false
set_option linter.unusedSimpArgs false
namespace Go.Proofs.YtfleindknalckaaDoor
open Go.RowKit Go.Proofs

/-- The slots and sizes that are read are small. -/
def smallP : Nat → Ex → Prop
  | 0, _ => True
  | n + 1, .mk op _ _ slot size args => ((op = 2 ∨ op = 3) → (0 ≤ slot ∧ slot < 6) ∧ 0 ≤ size ∧ size < 4) ∧ ∀ a ∈ args, smallP n a
def SmallPost (n : Nat) (B : Nat → Prop) (gc r : Nat) (w : World) (en : Ending) (w' : World) : Prop :=
  ∃ (e : Ex) (cs : List Value) (r' : Nat), en = .returned (.agg cs.toArray) ∧ ExR w' (New w' w.heap.size) n cs e ∧ Ex.few 1000 n e ∧ smallP n e ∧ r' ≤ r ∧ Cod w' B gc r' ∧ Only gc w w'
def SmallSaid (n : Nat) : Prop := ∀ (w : World) (B S : Nat → Prop) (gc r : Nat) (cs : List Value) (e : Ex), Cod w B gc r → (∀ i, S i → i < w.heap.size ∧ i ≠ gc) → ExR w S n cs e → Ex.few 1000 n e → Calls Tryd.prog 12 #[.pointer (some ⟨gc, 0, none⟩), .agg cs.toArray] w (SmallPost n B gc r w)
def SmallRel (n : Nat) (B : Nat → Prop) (gc r : Nat) (W : World) (args : List Ex) (v i : Value) (wr : World) : Prop :=
  ∃ (k r' : Nat) (l : List Ex), i = .int .i64 k ∧ k ≤ args.length ∧ l.length = k ∧ Grow (fun w S cs e => ExR w S n cs e) 6 31 wr W.heap.size v l ∧ (∀ a ∈ l, Ex.few 1000 n a ∧ smallP n a) ∧ r' ≤ r ∧ Cod wr B gc r' ∧ Only gc W wr
def SmCut (w : World) (gc : Nat) (B : Nat → Prop) (r : Nat) (op val : Int) (name : ByteArray) (A : Option Addr) (m c : Nat) (wx : World) : Prop :=
  ∃ (slot size : Int) (r' : Nat), I64 slot ∧ I64 size ∧ ((op = 2 ∨ op = 3) → (0 ≤ slot ∧ slot < 6) ∧ 0 ≤ size ∧ size < 4) ∧ r' ≤ r ∧ Cod wx B gc r' ∧ Blk wx w.heap.size 31 #[.int .i64 op, .int .i64 val, .string name, .int .i64 slot, .int .i64 size, .slice A m c] ∧
    Blk wx (w.heap.size + 1) 31 #[.int .i64 0, .int .i64 0, .string ⟨#[]⟩, .int .i64 0, .int .i64 0, .slice none 0 0] ∧ Only gc w wx
theorem smallP_few {n : Nat} {l : List Ex} (h : ∀ a ∈ l, Ex.few 1000 n a ∧ smallP n a) {e : Ex} (he : Ex.few 1000 n e ∧ smallP n e) : ∀ a ∈ l ++ [e], Ex.few 1000 n a ∧ smallP n a := fun a ha => by
  rcases List.mem_append.1 ha with h1 | h1
  · exact h a h1
  · simp at h1; subst h1; exact he
set_option maxHeartbeats 4000000 in
set_option maxRecDepth 100000 in
theorem small_succ (n : Nat) (ih : SmallSaid n) : SmallSaid (n + 1) := by
  intro w B S gc r cs e hcod hS hx hf
  obtain ⟨op, val, name, slot, size, args⟩ := e
  have hx' := hx
  obtain ⟨hsl, hsz, A, m, c, rfl, hargs⟩ := hx'
  obtain ⟨hf1, hf2⟩ := hf
  obtain ⟨i0, hi0, iz0, iz1, iz2⟩ := info_of info_Ex
  have hml := hargs.1
  have hm1 : m ≤ 1000 := by omega
  have hmc := hargs.2.1
  have hcm : c ≤ 9223372036854775807 := hargs.2.2.1
  have hgw := hcod.lt
  have hbb0 := hcod.2.1
  have HS := Lib.hid hS
  have HX := Lib.hid hx
  have IH := Lib.hid ih
  have HF2 := Lib.hid hf2
  have HARGS := Lib.hid hargs
  have HSL := Lib.hid hsl
  have HSZ := Lib.hid hsz
  have HI0 := Lib.hid hi0
  have IZ0 := Lib.hid iz0
  have IZ1 := Lib.hid iz1
  have IZ2 := Lib.hid iz2
  have HML := Lib.hid hml
  have HCOD := Lib.hid hcod
  have HBB0 := Lib.hid hbb0
  clear hS hx ih hf2 hargs hsl hsz hi0 iz0 iz1 iz2 hml hcod hbb0
  clear hf1
  go_enter Tryd.func12, Tryd.ntmps12
  go_upto_region 1 with fail
  generalize hW0 : (w.alloc (.cells #[.int .i64 op, .int .i64 val, .string name, .int .i64 slot, .int .i64 size, .slice A m c] 31)).alloc (.cells #[.int .i64 0, .int .i64 0, .string ⟨#[]⟩, .int .i64 0, .int .i64 0, .slice none 0 0] 31) = W0
  have hkW : Keep w W0 := hW0 ▸ Keep.alloc (Keep.new w _) _
  have hb1 : Blk W0 w.heap.size 31 _ := hW0 ▸ (Blk.new w _ _).alloc _
  have hb2 : Blk W0 (w.heap.size + 1) 31 #[.int .i64 0, .int .i64 0, .string ⟨#[]⟩, .int .i64 0, .int .i64 0, .slice none 0 0] := by
    have := Blk.new (w.alloc (.cells #[.int .i64 op, .int .i64 val, .string name, .int .i64 slot, .int .i64 size, .slice A m c] 31)) 31 #[.int .i64 0, .int .i64 0, .string ⟨#[]⟩, .int .i64 0, .int .i64 0, .slice none 0 0]
    rw [hW0] at this
    simpa using this
  have hz0 : w.heap.size + 1 < W0.heap.size := hb2.lt
  have c0 : W0.cell? ⟨w.heap.size, 0, none⟩ = some (.int .i64 op) := by rw [hb1.cell]; rfl
  clear hW0
  have HKW := Lib.hid hkW
  have HB1 := Lib.hid hb1
  have HB2 := Lib.hid hb2
  clear hkW hb1 hb2
  go_cut [14] from 7 to 13 (fun s14 wx => CutTB W0 (op == 2 || op == 3) s14 wx)
  case first =>
    by_cases h2 : op = 2
    · have d2 : (op == 2) = true := by simpa using h2
      clear h2
      go_wp2_with fail
      go_meet
      exact ⟨by rw [d2]; rfl, rfl⟩
    · have d2 : (op == 2) = false := by simpa using h2
      go_wp2_with fail
      go_meet
      exact ⟨by rw [d2]; rfl, rfl⟩
  case rest =>
    obtain ⟨rfl, rfl⟩ := hcut
    go_upto_if 14 with fail
    go_cut [] from 14 to 20 (fun wx => SmCut w gc B r op val name A m c wx)
    case first =>
      generalize hbb : (op == 2 || op == 3) = bb
      have HBB := Lib.hid hbb
      clear hbb
      cases bb with
      | true =>
        go_wp2_with fail
        refine (next_any W0 B gc r 6 (HCOD.out.keep HKW.out) (by omega) (by omega)).mono ?_
        rintro e w1 ⟨v1, hv10, hv11, rfl, hc1, ho1⟩
        have hb1' := ho1.blk HB1.out ⟨by omega, by omega⟩
        have hb2' := ho1.blk HB2.out ⟨by omega, by omega⟩
        have hz1 := ho1.size
        have ho1' : Only gc w w1 := Only.trans (HKW.out.only gc) ho1
        have HC1 := Lib.hid hc1
        have HB1' := Lib.hid hb1'
        have HB2' := Lib.hid hb2'
        have HO1' := Lib.hid ho1'
        clear hc1 hb1' hb2' ho1'
        clear ho1
        go_wp2_with fail
        refine (next_any w1 B gc _ 4 HC1.out (by omega) (by omega)).mono ?_
        rintro e w2 ⟨v2, hv20, hv21, rfl, hc2, ho2⟩
        have hb3 := ho2.blk HB1'.out ⟨by omega, by omega⟩
        have hb4 := ho2.blk HB2'.out ⟨by omega, by omega⟩
        have hz2 := ho2.size
        have ho2' := Only.trans HO1'.out ho2
        have hi1 : I64 v1 := ⟨by omega, by omega⟩
        have hi2 : I64 v2 := ⟨by omega, by omega⟩
        have HC2 := Lib.hid hc2
        have HB3 := Lib.hid hb3
        have HB4 := Lib.hid hb4
        have HO2' := Lib.hid ho2'
        have HI1 := Lib.hid hi1
        have HI2 := Lib.hid hi2
        clear hc2 hb3 hb4 ho2' hi1 hi2
        clear ho2
        go_wp2_with (first
          | (refine wpList_store_one rfl _ (.tmp 19) _ rfl w.heap.size 3 31 _ (.int .i64 v1) rfl rfl HB3.out (by simp) (by kernel_rfl) rfl rfl ?_; intro w3 hb5 hs3; have HB5 := Lib.hid hb5; have HS3 := Lib.hid hs3; clear hb5 hs3)
          | (refine wpList_store_one rfl _ (.tmp 20) _ rfl w.heap.size 4 31 _ (.int .i64 v2) rfl rfl HB5.out (by simp) (by kernel_rfl) rfl rfl ?_; intro w4 hb6 hs4; have HB6 := Lib.hid hb6; have HS4 := Lib.hid hs4; clear hb6 hs4))
        go_meet
        refine ⟨v1, v2, r - 1 - 1, HI1.out, HI2.out, fun _ => ⟨⟨hv10, hv11⟩, hv20, hv21⟩, by omega, (HC2.out.write HS3.out (fun hh => by have := HBB0.out _ hh; omega)).write HS4.out (fun hh => by have := HBB0.out _ hh; omega), by simpa using HB6.out, HS4.out.blk (HS3.out.blk HB4.out (by omega)) (by omega), (HO2'.out.write HS3.out (Nat.le_refl _)).write HS4.out (Nat.le_refl _)⟩
      | false =>
        go_wp2_with fail
        go_meet
        exact ⟨slot, size, r, HSL.out, HSZ.out, fun h => by have := HBB.out; rcases h with h | h <;> simp [h] at this, Nat.le_refl _, HCOD.out.keep HKW.out, HB1.out, HB2.out, HKW.out.only gc⟩
    case rest =>
      obtain ⟨slot', size', r', hsl', hsz', hsm, hr', hc', hbW, hbR, hoW⟩ := hcut
      obtain ⟨W, rfl⟩ : ∃ W : World, W = wc := ⟨_, rfl⟩
      have hzW : w.heap.size + 1 < W.heap.size := hbR.lt
      have c5 : W.cell? ⟨w.heap.size, 5, none⟩ = some (.slice A m c) := by rw [hbW.cell]; rfl
      clear c0
      have HSL' := Lib.hid hsl'
      have HSZ' := Lib.hid hsz'
      have HSM := Lib.hid hsm
      have HC' := Lib.hid hc'
      have HBW := Lib.hid hbW
      have HBR := Lib.hid hbR
      have HOW := Lib.hid hoW
      clear hsl' hsz' hsm hc' hbW hbR hoW
      go_wp2_with fail
      go_loopw [5, 24] (fun v i wr => SmallRel n B gc r' W args v i wr) (fun _ i _ => m - (intOf i).toNat)
      case atStart => exact ⟨0, r', [], rfl, by omega, rfl, Grow.nil_, by simp, Nat.le_refl _, HC'.out, Same.refl _ _⟩
      case round =>
        obtain ⟨k, r3, l, rfl, hk, hll, hgr, hlp, hr3, hc3, hor⟩ := hrel
        have c5r : wr.cell? ⟨w.heap.size, 5, none⟩ = some (.slice A m c) := (hor.cell (p := ⟨w.heap.size, 5, none⟩) ⟨by simp; omega, by simp; omega⟩).trans c5
        have hzr := hor.size
        have hkm' : k ≤ m := by have := HML.out; omega
        by_cases hkm : k < m
        · obtain ⟨b', off', cs', a, rfl, hSb, ha, hR, hl, hcell⟩ := HARGS.out.at_ hkm
          have how : Only gc w wr := Only.trans HOW.out hor
          have hrg : wr.rangeAt b' (off' + k * 6) cs' := fun j u hu => (how.cell (p := ⟨b', off' + k * 6 + j, none⟩) (HS.out b' hSb)).trans (hcell j u hu)
          have hRr := ExR.keep (Same.mono how HS.out) _ _ _ hR
          have hfa := HF2.out a (List.mem_of_getElem? ha)
          have hd1 : decide (k < m) = true := by simpa using hkm
          have hd2 : (0 : Int) ≤ k := by omega
          have hd3 : (k : Int) < m := by omega
          have hlen := hR.len
          clear hR hcell
          have HGR := Lib.hid hgr
          have HOR := Lib.hid hor
          have HRG := Lib.hid hrg
          have HRR := Lib.hid hRr
          have HFA := Lib.hid hfa
          have HA := Lib.hid ha
          have HOW := Lib.hid how
          have HLEN := Lib.hid hlen
          have HC3 := Lib.hid hc3
          have HLP := Lib.hid hlp
          clear hgr hor hrg hRr hfa ha how hlen hc3 hlp
          go_wp2_with (refine wpList_load_mid rfl _ (.tmp 32) rfl b' (off' + k * 6) rfl cs' _ HRG.out Tryd.underlying31 rfl (info_ex HLEN.out) ?_)
          refine (IH.out wr B S gc r3 cs' a HC3.out (fun i hi => ⟨Nat.lt_of_lt_of_le (HS.out i hi).1 HOW.out.size, (HS.out i hi).2⟩) HRR.out HFA.out).mono ?_
          rintro e w3 ⟨e3, cs3, r4, rfl, hx3, hf3, hp3, hr4, hc4, ho3⟩
          obtain ⟨op3, val3, name3, slot3, size3, args3, A3, m3, c3, he3, rfl⟩ := ExR.open_ hx3
          have hz3 := ho3.size
          have hgr3 := Grow.same (ExR.good n) HGR.out ho3 (fun i h1 h2 => ⟨h2, by omega⟩)
          obtain ⟨css, g1, g2, g3, g4⟩ := hgr3
          have hel := ExR.more (T := Rest w3 W.heap.size _) (fun i hi => ⟨by have := hi.1; omega, hi.2, HGR.out.fresh hi.1⟩) _ _ _ hx3
          have ho3' : Only gc W w3 := Only.trans HOR.out ho3
          have hone := hx3.one'
          have hpf := And.intro hf3 hp3
          have G1 := Lib.hid g1
          have G2 := Lib.hid g2
          have G3 := Lib.hid g3
          have G4 := Lib.hid g4
          have HEL := Lib.hid hel
          have HO3' := Lib.hid ho3'
          have HONE := Lib.hid hone
          have HPF := Lib.hid hpf
          have HC4 := Lib.hid hc4
          clear g1 g2 g3 g4 hel ho3' hone hpf hc4
          clear hx3 ho3 he3 hf3 hp3
          go_wp2_with (first
            | (refine wpList_buildS rfl _ _ _ _ rfl Tryd.underlying29 _ [(0, .agg #[.int .i64 op3, .int .i64 val3, .string name3, .int .i64 slot3, .int .i64 size3, .slice A3 m3 c3])] rfl (built_ex1 _ _ _ _ _ _ _ _) ?_)
            | (at_builtin; refine wpList_append_any _ rfl (.tmp 27) (.tmp 35) _ rfl W.heap.size 31 i0 _ 6 72 Tryd.underlying29 HI0.out IZ0.out IZ1.out IZ2.out rfl (by omega) _ l.length css.flatten rfl (G3.out.alloc _) _ (some ⟨w3.heap.size, 0, none⟩) 1 1 [.int .i64 op3, .int .i64 val3, .string name3, .int .i64 slot3, .int .i64 size3, .slice A3 m3 c3] rfl (Reads.new rfl) HONE.out (by simp [maxLen]; omega) (by omega) (by simp; omega) ?_; intro v5 w5 hown5 hg5 hat5))
          go_roundw
          case rel =>
            refine ⟨k + 1, r4, l ++ [e3], by go_num, by have := HML.out; omega, by simp [hll], Grow.push (ExR.good n) G1.out G2.out G4.out (Keep.new w3 _) hown5 hg5 hat5 rfl HEL.out, smallP_few HLP.out HPF.out, by omega, ?_, ?_⟩
            · exact (HC4.out.alloc _).same (Same.append (Same.refl _ _) (G3.out.alloc _) hg5 (fun i hi => by have := HBB0.out i hi; omega) (by simp; omega))
            · exact Same.append (Only.alloc HO3'.out _) (G3.out.alloc _) hg5 (fun i hi => hi.1) (by simp; omega)
          case measure => simp [intOf]; omega
        · have hkn : k = args.length := by have := HML.out; omega
          obtain ⟨A5, c5', hv5, hsl5⟩ := Grow.done (ExR.good n) hgr
          subst hv5
          have hd1 : decide (k < m) = false := by simpa using hkm
          have hb1 := hor.blk HBW.out ⟨by omega, by omega⟩
          have hb2r := hor.blk HBR.out ⟨by omega, by omega⟩
          have how : Only gc w wr := Only.trans HOW.out hor
          have HGR := Lib.hid hgr
          have HOR := Lib.hid hor
          have HB1 := Lib.hid hb1
          have HB2R := Lib.hid hb2r
          have HSL5 := Lib.hid hsl5
          have HOW := Lib.hid how
          have HKN := Lib.hid hkn
          have HC3 := Lib.hid hc3
          have HLP := Lib.hid hlp
          have HLL := Lib.hid hll
          clear hgr hor hb1 hb2r hsl5 how hkn hc3 hlp hll
          clear c5r
          go_upto_region 10 with (refine wpList_store_one rfl _ (.tmp 39) _ rfl w.heap.size 5 31 _ (.slice A5 l.length c5') rfl rfl HB1.out (by simp) (by kernel_rfl) rfl rfl ?_; intro w6 hb6 hs6)
          have hb6' : Blk w6 w.heap.size 31 #[.int .i64 op, .int .i64 val, .string name, .int .i64 slot', .int .i64 size', .slice A5 l.length c5'] := by simpa using hb6
          have HB6 := Lib.hid hb6'
          have HS6 := Lib.hid hs6
          clear hb6 hs6 hb6'
          go_wp2_with (first
            | (refine wpList_load_all rfl _ (.tmp 3) rfl w.heap.size 31 [.int .i64 op, .int .i64 val, .string name, .int .i64 slot', .int .i64 size', .slice A5 l.length c5'] _ rfl HB6.out Tryd.underlying31 rfl (by kernel_rfl) ?_)
            | (refine wpList_store_all rfl _ (.tmp 4) (.tmp 40) rfl (w.heap.size + 1) 31 _ [.int .i64 op, .int .i64 val, .string name, .int .i64 slot', .int .i64 size', .slice A5 l.length c5'] rfl rfl (HS6.out.blk HB2R.out (by omega)) rfl (by kernel_rfl) rfl ?_; intro w7 hb7 hs7; have HB7 := Lib.hid hb7; have HS7 := Lib.hid hs7; clear hb7 hs7))
          have h67 : Same (New wr W.heap.size) wr w7 := Same.trans (HS6.out.mono (fun i (hi : New wr W.heap.size i) => by have := hi.1; omega)) HS7.out (fun i hi => by have := hi.1; omega)
          have hz7 := h67.size
          have hm : ∀ i, New wr W.heap.size i → New w7 w.heap.size i := fun i hi => ⟨by have := hi.1; omega, by have := hi.2; omega⟩
          refine bodyPost_ret (expr_end Tryd.results12 rfl HB7.out rfl) rfl ⟨.mk op val name slot' size' l, _, r3, rfl, ?_, ⟨by have := HLL.out; have := HML.out; omega, fun a ha => (HLP.out a ha).1⟩, ⟨HSM.out, fun a ha => (HLP.out a ha).2⟩, by omega, (HC3.out.write HS6.out (fun hh => by have := HBB0.out _ hh; omega)).write HS7.out (fun hh => by have := HBB0.out _ hh; omega), (HOW.out.write HS6.out (Nat.le_refl _)).write HS7.out (by omega)⟩
          exact ⟨HSL'.out, HSZ'.out, A5, _, c5', rfl, ((HSL5.out.keep h67 (ExR.keep h67 n)).more hm (ExR.more hm n))⟩
theorem small_all : ∀ n, SmallSaid n
  | 0 => fun _ _ _ _ _ _ _ _ _ h => h.elim
  | n + 1 => small_succ n (small_all n)
end Go.Proofs.YtfleindknalckaaDoor
