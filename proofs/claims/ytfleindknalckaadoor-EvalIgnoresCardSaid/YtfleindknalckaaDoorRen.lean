/- Contracts: renamed. -/
import Derived.Test.YtfleindknalckaaDoorMkExpr
set_option linter.unusedVariables false
set_option linter.unusedSimpArgs false
namespace Go.Proofs.YtfleindknalckaaDoor
open Go.RowKit Go.Proofs

theorem info_Ex : (Tryd.prog.info? 31).map (fun i => (i.zero, i.size, i.bytes)) = some (some (.agg #[.int .i64 0, .int .i64 0, .string ⟨#[]⟩, .int .i64 0, .int .i64 0, .slice none 0 0]), 6, 72) := by kernel_rfl
abbrev otherB : ByteArray := ⟨#[111, 116, 104, 101, 114]⟩
def renS : Nat → Ex → Ex
  | 0, e => e
  | n + 1, .mk op val _ slot size args => .mk op val otherB slot size (args.map (renS n))
theorem valS_succ (cells : List Int) (v : EnvS) (n : Nat) (op val : Int) (name : ByteArray) (slot size : Int) (args : List Ex) : valS cells v (n + 1) (.mk op val name slot size args) =
    if op = 1 then val else if op = 2 then cellS cells slot else if op = 3 then idxS cells slot size (argS cells v n args 0)
    else if op = 4 then v.self else if op = 5 then v.procs else if op = 6 then v.frm else if op = 7 then v.val else if op < 8 ∨ 22 < op then 0
    else applyS op (argS cells v n args 0) (argS cells v n args 1) := by rw [valS]; rfl
theorem renS_val (cells : List Int) (v : EnvS) : ∀ (n : Nat) (e : Ex), valS cells v n (renS n e) = valS cells v n e
  | 0, e => rfl
  | n + 1, .mk op val name slot size args => by
    have h : ∀ i : Nat, argS cells v n (args.map (renS n)) i = argS cells v n args i := fun i => by
      unfold argS
      rw [List.getElem?_map]
      cases args[i]? with
      | none => rfl
      | some a => exact renS_val cells v n a
    rw [renS, valS_succ, valS_succ, h 0, h 1]
theorem renS_few (k : Nat) : ∀ (n : Nat) (e : Ex), Ex.few k n e → Ex.few k n (renS n e)
  | 0, e, _ => trivial
  | n + 1, .mk op val name slot size args, h => ⟨by simpa using h.1, fun a ha => by
    obtain ⟨b, hb, rfl⟩ := List.mem_map.1 ha
    exact renS_few k n b (h.2 b hb)⟩

def RenPost (n : Nat) (e : Ex) (w : World) (en : Ending) (w' : World) : Prop :=
  ∃ cs, en = .returned (.agg cs.toArray) ∧ ExR w' (New w' w.heap.size) n cs (renS n e) ∧ Keep w w'
def RenSaid (n : Nat) : Prop := ∀ (w : World) (S : Nat → Prop) (cs : List Value) (e : Ex), (∀ i, S i → i < w.heap.size) → ExR w S n cs e → Ex.few 1000 n e → Calls Tryd.prog 13 #[.agg cs.toArray] w (RenPost n e w)
def RenRel (n : Nat) (W : World) (args : List Ex) (v i : Value) (wr : World) : Prop :=
  ∃ k : Nat, i = .int .i64 k ∧ k ≤ args.length ∧ Grow (fun w S cs e => ExR w S n cs e) 6 31 wr W.heap.size v ((args.take k).map (renS n)) ∧ Keep W wr
set_option maxHeartbeats 4000000 in
set_option maxRecDepth 100000 in
theorem ren_succ (n : Nat) (ih : RenSaid n) : RenSaid (n + 1) := by
  intro w S cs e hS hx hf
  obtain ⟨op, val, name, slot, size, args⟩ := e
  have hx' := hx
  obtain ⟨hsl, hsz, A, m, c, rfl, hargs⟩ := hx'
  obtain ⟨hf1, hf2⟩ := hf
  obtain ⟨i0, hi0, iz0, iz1, iz2⟩ := info_of info_Ex
  have hml := hargs.1
  have hm1 : m ≤ 1000 := by omega
  have hmc := hargs.2.1
  have hcm : c ≤ 9223372036854775807 := hargs.2.2.1
  have HS := Lib.hid hS
  have HX := Lib.hid hx
  have IH := Lib.hid ih
  have HF2 := Lib.hid hf2
  have HARGS := Lib.hid hargs
  have HSL := Lib.hid hsl
  have HSZ := Lib.hid hsz
  have HI0 := Lib.hid hi0
  have IZ0 := Lib.hid iz0
  have IZ1 := Lib.hid iz1
  have IZ2 := Lib.hid iz2
  have HML := Lib.hid hml
  clear hS hx ih hf2 hargs hsl hsz hi0 iz0 iz1 iz2 hml
  clear hf1
  go_enter Tryd.func13, Tryd.ntmps13
  go_upto_region 3 with (refine wpList_store_one rfl _ (.tmp 5) _ rfl w.heap.size 2 31 _ (.string ⟨#[111, 116, 104, 101, 114]⟩) rfl rfl ((Blk.new w _ _).alloc _) (by simp) (by kernel_rfl) rfl rfl ?_; intro W hbW hsW)
  have hkW : Keep w W := Keep.write (Keep.alloc (Keep.new w _) _) hsW (Nat.le_refl _)
  have hb2 : Blk W (w.heap.size + 1) 31 #[.int .i64 0, .int .i64 0, .string ⟨#[]⟩, .int .i64 0, .int .i64 0, .slice none 0 0] := hsW.blk (by have := Blk.new (w.alloc (.cells #[.int .i64 op, .int .i64 val, .string name, .int .i64 slot, .int .i64 size, .slice A m c] 31)) 31 #[.int .i64 0, .int .i64 0, .string ⟨#[]⟩, .int .i64 0, .int .i64 0, .slice none 0 0]; simpa using this) (by omega)
  have hzW : w.heap.size + 1 < W.heap.size := hb2.lt
  have hbW' : Blk W w.heap.size 31 #[.int .i64 op, .int .i64 val, .string otherB, .int .i64 slot, .int .i64 size, .slice A m c] := by simpa using hbW
  have c5 : W.cell? ⟨w.heap.size, 5, none⟩ = some (.slice A m c) := by rw [hbW'.cell]; rfl
  clear hbW hsW
  have HBW' := Lib.hid hbW'
  have HKW := Lib.hid hkW
  have HB2 := Lib.hid hb2
  clear hbW' hkW hb2
  go_wp2_with fail
  go_loopw [3, 9] (fun v i wr => RenRel n W args v i wr) (fun _ i _ => m - (intOf i).toNat)
  case atStart => exact ⟨0, rfl, by omega, by simpa using Grow.nil_, Same.refl _ _⟩
  case round =>
    obtain ⟨k, rfl, hk, hgr, hkr⟩ := hrel
    have c5r : wr.cell? ⟨w.heap.size, 5, none⟩ = some (.slice A m c) := (hkr.cell (p := ⟨w.heap.size, 5, none⟩) (by simp; omega)).trans c5
    have hzr := hkr.size
    have hkm' : k ≤ m := by have := HML.out; omega
    by_cases hkm : k < m
    · obtain ⟨b', off', cs', a, rfl, hSb, ha, hR, hl, hcell⟩ := HARGS.out.at_ hkm
      have hkw : Keep w wr := Keep.trans HKW.out hkr
      have hrg : wr.rangeAt b' (off' + k * 6) cs' := fun j u hu => (hkw.cell (p := ⟨b', off' + k * 6 + j, none⟩) (HS.out b' hSb)).trans (hcell j u hu)
      have hRr := ExR.keep (Same.mono hkw HS.out) _ _ _ hR
      have hfa := HF2.out a (List.mem_of_getElem? ha)
      have hd1 : decide (k < m) = true := by simpa using hkm
      have hd2 : (0 : Int) ≤ k := by omega
      have hd3 : (k : Int) < m := by omega
      have hlen := hR.len
      clear hR hcell
      have HGR := Lib.hid hgr
      have HKR := Lib.hid hkr
      have HRG := Lib.hid hrg
      have HRR := Lib.hid hRr
      have HFA := Lib.hid hfa
      have HA := Lib.hid ha
      have HKW := Lib.hid hkw
      have HLEN := Lib.hid hlen
      clear hgr hkr hrg hRr hfa ha hkw hlen
      go_wp2_with (refine wpList_load_mid rfl _ (.tmp 16) rfl b' (off' + k * 6) rfl cs' _ HRG.out Tryd.underlying31 rfl (info_ex HLEN.out) ?_)
      refine (IH.out wr S cs' a (fun i hi => Nat.lt_of_lt_of_le (HS.out i hi) HKW.out.size) HRR.out HFA.out).mono ?_
      rintro e w3 ⟨cs3, rfl, hx3, hk3⟩
      obtain ⟨op3, val3, name3, slot3, size3, args3, A3, m3, c3, he3, rfl⟩ := ExR.open_ hx3
      have hz3 := hk3.size
      have hgr3 := Grow.same (ExR.good n) HGR.out hk3 (fun i h1 h2 => h2)
      obtain ⟨css, g1, g2, g3, g4⟩ := hgr3
      have hel := ExR.more (T := Rest w3 W.heap.size _) (fun i hi => ⟨by have := hi.1; omega, hi.2, HGR.out.fresh hi.1⟩) _ _ _ hx3
      have hk3' : Keep W w3 := Keep.trans HKR.out hk3
      have hone := hx3.one'
      have hll : ((args.take k).map (renS n)).length = k := by have := HML.out; simp; omega
      have hnx : (args.take (k + 1)).map (renS n) = (args.take k).map (renS n) ++ [renS n a] := by
        rw [List.take_add_one, HA.out]; simp
      generalize (args.take k).map (renS n) = l at *
      have G1 := Lib.hid g1
      have G2 := Lib.hid g2
      have G3 := Lib.hid g3
      have G4 := Lib.hid g4
      have HEL := Lib.hid hel
      have HK3' := Lib.hid hk3'
      have HONE := Lib.hid hone
      have HNX := Lib.hid hnx
      clear g1 g2 g3 g4 hel hk3' hone hnx
      clear hx3 hk3 he3
      go_wp2_with (first
        | (refine wpList_buildS rfl _ _ _ _ rfl Tryd.underlying29 _ [(0, .agg #[.int .i64 op3, .int .i64 val3, .string name3, .int .i64 slot3, .int .i64 size3, .slice A3 m3 c3])] rfl (built_ex1 _ _ _ _ _ _ _ _) ?_)
        | (at_builtin; refine wpList_append_any _ rfl (.tmp 12) (.tmp 19) _ rfl W.heap.size 31 i0 _ 6 72 Tryd.underlying29 HI0.out IZ0.out IZ1.out IZ2.out rfl (by omega) _ l.length css.flatten rfl (G3.out.alloc _) _ (some ⟨w3.heap.size, 0, none⟩) 1 1 [.int .i64 op3, .int .i64 val3, .string name3, .int .i64 slot3, .int .i64 size3, .slice A3 m3 c3] rfl (Reads.new rfl) HONE.out (by simp [maxLen]; omega) (by omega) (by simp; omega) ?_; intro v5 w5 hown5 hg5 hat5))
      go_roundw
      case rel =>
        refine ⟨k + 1, by go_num, by have := HML.out; omega, ?_, ?_⟩
        · rw [HNX.out]
          exact Grow.push (ExR.good n) G1.out G2.out G4.out (Keep.new w3 _) hown5 hg5 hat5 rfl HEL.out
        · exact Same.append (Keep.alloc HK3'.out _) (G3.out.alloc _) hg5 (fun i hi => hi) (by simp; omega)
      case measure => simp [intOf]; omega
    · have hkn : k = args.length := by have := HML.out; omega
      have hgr' := hgr
      rw [hkn, List.take_length] at hgr'
      obtain ⟨A5, c5', hv5, hsl5⟩ := Grow.done (ExR.good n) hgr'
      rw [List.length_map] at hv5 hsl5
      subst hv5
      have hd1 : decide (k < m) = false := by simpa using hkm
      have hb1 := hkr.blk HBW'.out (by omega)
      have hb2r := hkr.blk HB2.out (by omega)
      have hkw : Keep w wr := Keep.trans HKW.out hkr
      have HGR := Lib.hid hgr
      have HKR := Lib.hid hkr
      have HB1 := Lib.hid hb1
      have HB2R := Lib.hid hb2r
      have HSL5 := Lib.hid hsl5
      have HKW := Lib.hid hkw
      have HKN := Lib.hid hkn
      clear hgr hkr hb1 hb2r hsl5 hkw hkn
      clear hgr' c5r
      go_upto_region 9 with (refine wpList_store_one rfl _ (.tmp 23) _ rfl w.heap.size 5 31 _ (.slice A5 args.length c5') rfl rfl HB1.out (by simp) (by kernel_rfl) rfl rfl ?_; intro w6 hb6 hs6)
      have hb6' : Blk w6 w.heap.size 31 #[.int .i64 op, .int .i64 val, .string otherB, .int .i64 slot, .int .i64 size, .slice A5 args.length c5'] := by simpa using hb6
      have HB6 := Lib.hid hb6'
      have HS6 := Lib.hid hs6
      clear hb6 hs6 hb6'
      go_wp2_with (first
        | (refine wpList_load_all rfl _ (.tmp 1) rfl w.heap.size 31 [.int .i64 op, .int .i64 val, .string otherB, .int .i64 slot, .int .i64 size, .slice A5 args.length c5'] _ rfl HB6.out Tryd.underlying31 rfl (by kernel_rfl) ?_)
        | (refine wpList_store_all rfl _ (.tmp 2) (.tmp 24) rfl (w.heap.size + 1) 31 _ [.int .i64 op, .int .i64 val, .string otherB, .int .i64 slot, .int .i64 size, .slice A5 args.length c5'] rfl rfl (HS6.out.blk HB2R.out (by omega)) rfl (by kernel_rfl) rfl ?_; intro w7 hb7 hs7; have HB7 := Lib.hid hb7; have HS7 := Lib.hid hs7; clear hb7 hs7))
      have h67 : Same (New wr W.heap.size) wr w7 := Same.trans (HS6.out.mono (fun i (hi : New wr W.heap.size i) => by have := hi.1; omega)) HS7.out (fun i hi => by have := hi.1; omega)
      have hz7 := h67.size
      have hm : ∀ i, New wr W.heap.size i → New w7 w.heap.size i := fun i hi => ⟨by have := hi.1; omega, by have := hi.2; omega⟩
      refine bodyPost_ret (expr_end Tryd.results13 rfl HB7.out rfl) rfl ⟨_, rfl, ?_, Keep.write (Keep.write HKW.out HS6.out (Nat.le_refl _)) HS7.out (by omega)⟩
      exact ⟨HSL.out, HSZ.out, A5, _, c5', rfl, ((HSL5.out.keep h67 (ExR.keep h67 n)).more hm (ExR.more hm n))⟩
theorem ren_all : ∀ n, RenSaid n
  | 0 => fun _ _ _ _ _ h => h.elim
  | n + 1 => ren_succ n (ren_all n)
end Go.Proofs.YtfleindknalckaaDoor
