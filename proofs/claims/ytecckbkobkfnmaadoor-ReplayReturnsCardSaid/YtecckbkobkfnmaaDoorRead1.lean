/- Readers of expressions, said weakly: deep, Operands, zero. -/
import Derived.Test.YtecckbkobkfnmaaDoorMkProg
import Derived.Test.YtecckbkobkfnmaaDoorRef04
set_option linter.unusedVariables false
set_option linter.unusedSimpArgs false
set_option maxRecDepth 100000
namespace Go.Proofs.YtecckbkobkfnmaaDoor
open Go.RowKit Go.Proofs

/-- Some bool; nothing that was there is written. -/
def SomeB (w : World) (e : Ending) (w' : World) : Prop := ∃ b, e = .returned (.bool b) ∧ Keep w w'
def SomeI (lo hi : Int) (w : World) (e : Ending) (w' : World) : Prop := ∃ v, (lo ≤ v ∧ v ≤ hi) ∧ e = .returned (.int .i64 v) ∧ Keep w w'
theorem operands_any (w : World) (op : Int) : Calls Tryd.prog 98 #[.int .i64 op] w (SomeI (-1) 2 w) := by
  by_cases h1 : op = 1 ∨ op = 2 ∨ (4 ≤ op ∧ op ≤ 7)
  · rcases h1 with h | h | h
    · subst h
      go_enter Tryd.func98, Tryd.ntmps98
      go_wp2_with fail
      go_ret
      exact ⟨0, by omega, rfl, Same.refl _ _⟩
    · subst h
      go_enter Tryd.func98, Tryd.ntmps98
      go_wp2_with fail
      go_ret
      exact ⟨0, by omega, rfl, Same.refl _ _⟩
    · have a1 : (op == 1) = false := by simp; omega
      have a2 : (op == 2) = false := by simp; omega
      go_enter Tryd.func98, Tryd.ntmps98
      go_wp2_with fail
      go_ret
      exact ⟨0, by omega, rfl, Same.refl _ _⟩
  · have a1 : (op == 1) = false := by simp; omega
    have a2 : (op == 2) = false := by simp; omega
    by_cases h2 : op = 3 ∨ op = 8 ∨ op = 9
    · rcases h2 with h | h | h <;> subst h <;>
      · go_enter Tryd.func98, Tryd.ntmps98
        go_wp2_with fail
        go_ret
        exact ⟨1, by omega, rfl, Same.refl _ _⟩
    · have a3 : (op == 3) = false := by simp; omega
      have a8 : (op == 8) = false := by simp; omega
      have a9 : (op == 9) = false := by simp; omega
      by_cases h4 : 4 ≤ op
      · have h7 : ¬ op ≤ 7 := by omega
        by_cases h5 : 10 ≤ op
        · by_cases h6 : op ≤ 22
          · go_enter Tryd.func98, Tryd.ntmps98
            go_wp2_with fail
            go_ret
            exact ⟨2, by omega, rfl, Same.refl _ _⟩
          · go_enter Tryd.func98, Tryd.ntmps98
            go_wp2_with fail
            go_ret
            exact ⟨-1, by omega, rfl, Same.refl _ _⟩
        · omega
      · have h5 : ¬ 10 ≤ op := by omega
        go_enter Tryd.func98, Tryd.ntmps98
        go_wp2_with fail
        go_ret
        exact ⟨-1, by omega, rfl, Same.refl _ _⟩
theorem zero_any (w : World) (op val slot size : Int) (name : ByteArray) (A : Option Addr) (m c : Nat) : Calls Tryd.prog 92 #[.agg #[.int .i64 op, .int .i64 val, .string name, .int .i64 slot, .int .i64 size, .slice A m c]] w (SomeB w) := by
  go_enter Tryd.func92, Tryd.ntmps92
  go_wp2_with fail
  all_goals (go_ret; exact ⟨_, rfl, Keep.new _ _⟩)
def DeepSaid (n : Nat) : Prop := ∀ (w : World) (S : Nat → Prop) (cs : List Value) (e : Ex), (∀ i, S i → i < w.heap.size) → ExR w S n cs e → Ex.few 1000 n e → Calls Tryd.prog 97 #[.agg cs.toArray] w (SomeI 1 n w)
def DeepRel (n : Nat) (W : World) (args : List Ex) (v i : Value) (wr : World) : Prop :=
  ∃ (k : Nat) (x : Int), v = .int .i64 x ∧ (0 ≤ x ∧ x ≤ n) ∧ i = .int .i64 k ∧ k ≤ args.length ∧ Keep W wr
set_option maxHeartbeats 4000000 in
theorem deep_succ (n : Nat) (hn : n ≤ 1000) (ih : DeepSaid n) : DeepSaid (n + 1) := by
  intro w S cs e hS hx hf
  obtain ⟨op, val, name, slot, size, args⟩ := e
  obtain ⟨hsl, hsz, A, m, c, rfl, hargs⟩ := hx
  obtain ⟨hf1, hf2⟩ := hf
  have hml := hargs.1
  have hm1 : m ≤ 1000 := by omega
  have HS := Lib.hid hS
  have IH := Lib.hid ih
  have HF2 := Lib.hid hf2
  have HARGS := Lib.hid hargs
  have HML := Lib.hid hml
  clear hS ih hf2 hargs hml
  clear hf1 hsl hsz
  go_enter Tryd.func97, Tryd.ntmps97
  go_upto_region 1 with fail
  generalize hW : w.alloc (.cells #[.int .i64 op, .int .i64 val, .string name, .int .i64 slot, .int .i64 size, .slice A m c] 106) = W
  have hkW : Keep w W := hW ▸ Keep.new w _
  have hb1 : Blk W w.heap.size 106 #[.int .i64 op, .int .i64 val, .string name, .int .i64 slot, .int .i64 size, .slice A m c] := hW ▸ Blk.new w _ _
  have hzW := hb1.lt
  have c5 : W.cell? ⟨w.heap.size, 5, none⟩ = some (.slice A m c) := by rw [hb1.cell]; rfl
  clear hW hb1
  have HKW := Lib.hid hkW
  clear hkW
  go_wp2_with fail
  go_loopw [3, 4] (fun v i wr => DeepRel n W args v i wr) (fun _ i _ => m - (intOf i).toNat)
  case atStart => exact ⟨0, 0, rfl, by omega, rfl, by omega, Same.refl _ _⟩
  case round =>
    obtain ⟨k, x, rfl, hx, rfl, hk, hkr⟩ := hrel
    obtain ⟨hx0, hxn⟩ := hx
    have c5r : wr.cell? ⟨w.heap.size, 5, none⟩ = some (.slice A m c) := (hkr.cell (p := ⟨w.heap.size, 5, none⟩) (by simp; omega)).trans c5
    have hzr := hkr.size
    have hkm' : k ≤ m := by have := HML.out; omega
    by_cases hkm : k < m
    · obtain ⟨b', off', cs', a, rfl, hSb, ha, hR, hl, hcell⟩ := HARGS.out.at_ hkm
      have hkw : Keep w wr := Keep.trans HKW.out hkr
      have hrg : wr.rangeAt b' (off' + k * 6) cs' := fun j u hu => (hkw.cell (p := ⟨b', off' + k * 6 + j, none⟩) (HS.out b' hSb)).trans (hcell j u hu)
      have hRr := ExR.keep (Same.mono hkw HS.out) _ _ _ hR
      have hfa := HF2.out a (List.mem_of_getElem? ha)
      have hd1 : decide (k < m) = true := by simpa using hkm
      have hd2 : (0 : Int) ≤ k := by omega
      have hd3 : (k : Int) < m := by omega
      have hlen := hR.len
      clear hR hcell ha
      have HKR := Lib.hid hkr
      have HRG := Lib.hid hrg
      have HRR := Lib.hid hRr
      have HFA := Lib.hid hfa
      have HKW := Lib.hid hkw
      have HLEN := Lib.hid hlen
      clear hkr hrg hRr hfa hkw hlen
      go_wp2_with (refine wpList_load_mid rfl _ (.tmp 16) rfl b' (off' + k * 6) rfl cs' _ HRG.out Tryd.underlying106 rfl (info_ex HLEN.out) ?_)
      refine (IH.out wr S cs' a (fun i hi => Nat.lt_of_lt_of_le (HS.out i hi) HKW.out.size) HRR.out HFA.out).mono ?_
      rintro e w3 ⟨y, hy, rfl, hk3⟩
      obtain ⟨hy0, hyn⟩ := hy
      have hkr3 := Keep.trans HKR.out hk3
      have HKR3 := Lib.hid hkr3
      clear hkr3
      clear hk3
      go_wp2_with fail
      go_roundw
      case rel => exact ⟨k + 1, (if x < y then y else x), rfl, by split <;> omega, by go_num, by have := HML.out; omega, HKR3.out⟩
      case measure => simp [intOf]; omega
    · have hd1 : decide (k < m) = false := by simpa using hkm
      have hkw : Keep w wr := Keep.trans HKW.out hkr
      have HKW := Lib.hid hkw
      have HKR := Lib.hid hkr
      clear hkw hkr
      go_wp2_with fail
      go_ret
      exact ⟨x + 1, by omega, rfl, HKW.out⟩
theorem deep_all : ∀ n, n ≤ 1000 → DeepSaid n
  | 0, _ => fun _ _ _ _ _ h => h.elim
  | n + 1, h => deep_succ n (by omega) (deep_all n (by omega))
end Go.Proofs.YtecckbkobkfnmaaDoor
