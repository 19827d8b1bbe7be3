/- Contracts: mentions. -/
import Derived.Test.YtfleindknalckaaDoorSmall
set_option linter.unusedVariables false
set_option linter.unusedSimpArgs false
namespace Go.Proofs.YtfleindknalckaaDoor
open Go.RowKit Go.Proofs

def mentTop (op slot size k : Int) : Bool := (op == 2 && slot == k) || (op == 3 && decide (slot ≤ k) && decide (k < slot + size))
def mentS : Nat → Ex → Int → Bool
  | 0, _, _ => false
  | n + 1, .mk op _ _ slot size args, k => mentTop op slot size k || args.any (fun a => mentS n a k)
theorem cellS_set (cells : List Int) (k : Nat) (x j : Int) (h : j ≠ k) : cellS (cells.set k x) j = cellS cells j := by
  unfold cellS
  simp only [List.length_set]
  split
  · rfl
  · rename_i hj
    have : k ≠ j.toNat := by omega
    simp [List.getElem?_set_ne this]
theorem ment_val (cells : List Int) (v : EnvS) (k : Nat) (x : Int) : ∀ (n : Nat) (e : Ex), smallP n e → mentS n e k = false → valS (cells.set k x) v n e = valS cells v n e
  | 0, e, _, _ => rfl
  | n + 1, .mk op val name slot size args, hs, hm => by
    simp only [mentS, Bool.or_eq_false_iff] at hm
    obtain ⟨ht, ha⟩ := hm
    have harg : ∀ i : Nat, argS (cells.set k x) v n args i = argS cells v n args i := fun i => by
      unfold argS
      cases h : args[i]? with
      | none => rfl
      | some a =>
        have hmem := List.mem_of_getElem? h
        refine ment_val cells v k x n a (hs.2 a hmem) ?_
        rw [List.any_eq_false] at ha
        simpa using ha a hmem
    rw [valS_succ, valS_succ, harg 0, harg 1]
    by_cases h2 : op = 2
    · subst h2
      rw [if_neg (by omega), if_pos rfl, if_neg (by omega), if_pos rfl]
      refine cellS_set cells k x slot ?_
      simp [mentTop] at ht
      exact ht
    · by_cases h3 : op = 3
      · subst h3
        rw [if_neg (by omega), if_neg (by omega), if_pos rfl, if_neg (by omega), if_neg (by omega), if_pos rfl]
        have hsm := hs.1 (.inr rfl)
        simp [mentTop] at ht
        unfold idxS
        split
        · rfl
        · rename_i hi
          have hw : wrap64 (slot + argS cells v n args 0) = slot + argS cells v n args 0 := by unfold wrap64; omega
          rw [hw]
          refine cellS_set cells k x _ ?_
          intro he
          have := ht (by omega)
          omega
      · simp only [h2, h3, if_false]
def MentPost (n : Nat) (e : Ex) (k : Int) (w : World) (en : Ending) (w' : World) : Prop := en = .returned (.bool (mentS n e k)) ∧ Keep w w'
def MentSaid (n : Nat) : Prop := ∀ (w : World) (S : Nat → Prop) (cs : List Value) (e : Ex) (k : Int), (∀ i, S i → i < w.heap.size) → ExR w S n cs e → Ex.few 1000 n e → smallP n e → Calls Tryd.prog 15 #[.agg cs.toArray, .int .i64 k] w (MentPost n e k w)
def MentRel (n : Nat) (W : World) (args : List Ex) (kk : Int) (i : Value) (wr : World) : Prop :=
  ∃ k : Nat, i = .int .i64 k ∧ k ≤ args.length ∧ (∀ j a, j < k → args[j]? = some a → mentS n a kk = false) ∧ Keep W wr
set_option maxHeartbeats 4000000 in
set_option maxRecDepth 100000 in
theorem ment_succ (n : Nat) (ih : MentSaid n) : MentSaid (n + 1) := by
  intro w S cs e kk hS hx hf hsm
  obtain ⟨op, val, name, slot, size, args⟩ := e
  have hx' := hx
  obtain ⟨hsl, hsz, A, m, c, rfl, hargs⟩ := hx'
  obtain ⟨hf1, hf2⟩ := hf
  obtain ⟨hsm1, hsm2⟩ := hsm
  have hml := hargs.1
  have hm1 : m ≤ 1000 := by omega
  have HS := Lib.hid hS
  have HX := Lib.hid hx
  have IH := Lib.hid ih
  have HF2 := Lib.hid hf2
  have HARGS := Lib.hid hargs
  have HSL := Lib.hid hsl
  have HSZ := Lib.hid hsz
  have HML := Lib.hid hml
  have HSM1 := Lib.hid hsm1
  have HSM2 := Lib.hid hsm2
  clear hS hx ih hf2 hargs hsl hsz hml hsm1 hsm2
  clear hf1
  go_enter Tryd.func15, Tryd.ntmps15
  go_upto_region 1 with fail
  generalize hW : w.alloc (.cells #[.int .i64 op, .int .i64 val, .string name, .int .i64 slot, .int .i64 size, .slice A m c] 31) = W
  have hkW : Keep w W := hW ▸ Keep.new w _
  have hb1 : Blk W w.heap.size 31 #[.int .i64 op, .int .i64 val, .string name, .int .i64 slot, .int .i64 size, .slice A m c] := hW ▸ Blk.new w _ _
  have hzW := hb1.lt
  have c0 : W.cell? ⟨w.heap.size, 0, none⟩ = some (.int .i64 op) := by rw [hb1.cell]; rfl
  have c3 : W.cell? ⟨w.heap.size, 3, none⟩ = some (.int .i64 slot) := by rw [hb1.cell]; rfl
  have c4 : W.cell? ⟨w.heap.size, 4, none⟩ = some (.int .i64 size) := by rw [hb1.cell]; rfl
  have c5 : W.cell? ⟨w.heap.size, 5, none⟩ = some (.slice A m c) := by rw [hb1.cell]; rfl
  clear hW
  have HKW := Lib.hid hkW
  have HB1 := Lib.hid hb1
  clear hkW hb1
  go_cut [34] from 6 to 33 (fun s34 wx => CutTB W (mentTop op slot size kk) s34 wx)
  case first =>
    by_cases h2 : op = 2
    · have d2 : (op == 2) = true := by simpa using h2
      have d3 : (op == 3) = false := by rw [h2]; rfl
      clear h2
      by_cases hk : slot = kk
      · have dk : (slot == kk) = true := by simpa using hk
        clear hk
        go_wp2_with fail
        go_meet
        exact ⟨by simp [mentTop, d2, dk], rfl⟩
      · have dk : (slot == kk) = false := by simpa using hk
        go_wp2_with fail
        go_meet
        exact ⟨by simp [mentTop, d2, d3, dk], rfl⟩
    · have d2 : (op == 2) = false := by simpa using h2
      by_cases h3 : op = 3
      · have d3 : (op == 3) = true := by simpa using h3
        have hb := HSM1.out (.inr h3)
        obtain ⟨⟨hb1, hb2⟩, hb3, hb4⟩ := hb
        have y1 : IntKind.i64.wrap (slot + size) = slot + size := IntWalk.i64_in _ (by omega)
        clear h3 h2
        by_cases hk : slot ≤ kk
        · have dk : decide (slot ≤ kk) = true := by simpa using hk
          by_cases hl : kk < slot + size
          · have dl : decide (kk < slot + size) = true := by simpa using hl
            go_wp2_with fail
            go_meet
            exact ⟨by simp [mentTop, d2, d3, dk, dl, hk, hl], rfl⟩
          · have dl : decide (kk < slot + size) = false := by simpa using hl
            go_wp2_with fail
            go_meet
            exact ⟨by simp [mentTop, d2, d3, dk, dl, hk], rfl⟩
        · have dk : decide (slot ≤ kk) = false := by simpa using hk
          go_wp2_with fail
          go_meet
          exact ⟨by simp [mentTop, d2, d3, dk], rfl⟩
      · have d3 : (op == 3) = false := by simpa using h3
        go_wp2_with fail
        go_meet
        exact ⟨by simp [mentTop, d2, d3], rfl⟩
  case rest =>
    obtain ⟨rfl, rfl⟩ := hcut
    generalize hbb : mentTop op slot size kk = bb
    clear c0 c3 c4
    cases bb with
    | true =>
      have HBB := Lib.hid hbb
      clear hbb
      go_wp2_with fail
      go_ret
      exact ⟨by simp [mentS, HBB.out], HKW.out⟩
    | false =>
      have HBB := Lib.hid hbb
      clear hbb
      go_wp2_with fail
      go_loopw [38] (fun i wr => MentRel n W args kk i wr) (fun i _ => m - (intOf i).toNat)
      case atStart => exact ⟨0, rfl, by omega, fun j a hj => by omega, Same.refl _ _⟩
      case round =>
        obtain ⟨k, rfl, hk, hno, hkr⟩ := hrel
        have c5r : wr.cell? ⟨w.heap.size, 5, none⟩ = some (.slice A m c) := (hkr.cell (p := ⟨w.heap.size, 5, none⟩) (by simp; omega)).trans c5
        have hzr := hkr.size
        have hkm' : k ≤ m := by have := HML.out; omega
        by_cases hkm : k < m
        · obtain ⟨b', off', cs', a, rfl, hSb, ha, hR, hl, hcell⟩ := HARGS.out.at_ hkm
          have hkw : Keep w wr := Keep.trans HKW.out hkr
          have hrg : wr.rangeAt b' (off' + k * 6) cs' := fun j u hu => (hkw.cell (p := ⟨b', off' + k * 6 + j, none⟩) (HS.out b' hSb)).trans (hcell j u hu)
          have hRr := ExR.keep (Same.mono hkw HS.out) _ _ _ hR
          have hmem := List.mem_of_getElem? ha
          have hfa := HF2.out a hmem
          have hsa := HSM2.out a hmem
          have hd1 : decide (k < m) = true := by simpa using hkm
          have hd2 : (0 : Int) ≤ k := by omega
          have hd3 : (k : Int) < m := by omega
          have hlen := hR.len
          clear hR hcell
          have HKR := Lib.hid hkr
          have HRG := Lib.hid hrg
          have HRR := Lib.hid hRr
          have HFA := Lib.hid hfa
          have HA := Lib.hid ha
          have HKW := Lib.hid hkw
          have HLEN := Lib.hid hlen
          have HNO := Lib.hid hno
          have HSA := Lib.hid hsa
          have HMEM := Lib.hid hmem
          clear hkr hrg hRr hfa ha hkw hlen hno hsa hmem
          go_wp2_with (refine wpList_load_mid rfl _ (.tmp 44) rfl b' (off' + k * 6) rfl cs' _ HRG.out Tryd.underlying31 rfl (info_ex HLEN.out) ?_)
          refine (IH.out wr S cs' a kk (fun i hi => Nat.lt_of_lt_of_le (HS.out i hi) HKW.out.size) HRR.out HFA.out HSA.out).mono ?_
          rintro e w3 ⟨rfl, hk3⟩
          generalize hba : mentS n a kk = ba
          have hkw3 := Keep.trans HKW.out hk3
          have hkr3 := Keep.trans HKR.out hk3
          have HBA := Lib.hid hba
          have HKW3 := Lib.hid hkw3
          have HKR3 := Lib.hid hkr3
          clear hba hkw3 hkr3
          clear hk3
          cases ba with
          | true =>
            go_wp2_with fail
            go_ret
            refine ⟨?_, HKW3.out⟩
            have : mentS (n + 1) (.mk op val name slot size args) kk = true := by
              simp only [mentS, Bool.or_eq_true, List.any_eq_true]
              exact .inr ⟨a, HMEM.out, HBA.out⟩
            rw [this]
            rfl
          | false =>
            go_wp2_with fail
            go_roundw
            case rel =>
              refine ⟨k + 1, by go_num, by have := HML.out; omega, fun j a' hj ha' => ?_, HKR3.out⟩
              rcases Nat.lt_or_ge j k with hjk | hjk
              · exact HNO.out j a' hjk ha'
              · have e : j = k := by omega
                rw [e, HA.out] at ha'
                injection ha' with ha'
                rw [← ha']
                exact HBA.out
            case measure => simp [intOf]; omega
        · have hd1 : decide (k < m) = false := by simpa using hkm
          have hkn : k = args.length := by have := HML.out; omega
          have hkw : Keep w wr := Keep.trans HKW.out hkr
          have hall : mentS (n + 1) (.mk op val name slot size args) kk = false := by
            simp only [mentS, HBB.out, Bool.false_or, List.any_eq_false]
            intro a ha
            obtain ⟨j, hj, rfl⟩ := List.mem_iff_getElem.1 ha
            have := hno j _ (by omega) (List.getElem?_eq_getElem hj)
            simpa using this
          have HKW := Lib.hid hkw
          have HALL := Lib.hid hall
          have HKN := Lib.hid hkn
          have HNO := Lib.hid hno
          have HKR := Lib.hid hkr
          clear hkw hall hkn hno hkr
          go_wp2_with fail
          go_ret
          exact ⟨by rw [HALL.out]; rfl, HKW.out⟩
theorem ment_all : ∀ n, MentSaid n
  | 0 => fun _ _ _ _ _ _ h => h.elim
  | n + 1 => ment_succ n (ment_all n)
end Go.Proofs.YtfleindknalckaaDoor
