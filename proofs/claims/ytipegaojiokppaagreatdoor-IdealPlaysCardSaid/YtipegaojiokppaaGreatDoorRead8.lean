import Derived.Test.YtipegaojiokppaaGreatDoorGB
import Derived.Test.YtipegaojiokppaaGreatDoorMach8
set_option linter.unusedVariables false
set_option linter.unusedSimpArgs false
set_option maxRecDepth 100000
namespace Go.Proofs.YtipegaojiokppaaGreatDoor
open Go.RowKit Go.Proofs
theorem wpList_load_midg {P : Program} {ops : Array Oper} {rest : List Oper} {op : Oper} {a : Act} {w : World} {Q : Exit → Act → World → Prop} (hw : Region.wanted op (yielded ops a.tmps) = true) (ty : TypeId) (x : Operand) (ho : op.op = .load ty x)
  (g o : Nat) (hx : a.eval x = .pointer (some ⟨g,o,none⟩)) (vs : List Value) (d : TypeDesc) (hr : w.rangeAt g o vs)
  (hu : P.underlying ty = some d) (hd : d.isRow = true) (hi : (P.info? ty).map (·.size) = some vs.length)
  (h : wpList P ops Q rest (a.put op.dst (.agg vs.toArray)) w) : wpList P ops Q (op :: rest) a w:=
 wpList_step fun K hK=>by
  rw [if_pos hw]
  exact wp_load_mid ty x ho g o hx vs d hr hu hd hi (hK _ _ h)
def LkRel (w : World) (m : Nat) (s i : Value) (wr : World) : Prop:=∃ (k : Nat) (x : Int),s = .int .i64 x ∧ (0 ≤ x ∧ x ≤ 2147483648) ∧ i = .int .i64 k ∧ k ≤ m ∧ Keep w wr
set_option maxHeartbeats 8000000 in
theorem lookup_any (w : World) (S : Nat → Prop) (A : Option Addr) (m c : Nat) (vs : List Vr) (name : ByteArray) (hS : ∀ i,S i → i < w.heap.size) (hv : VarsR w S A m c vs) : Calls Tryz.prog 78 #[.slice A m c,.string name] w (LookPost w):=by
 obtain ⟨hsl,hm,hi⟩:=hv
 have hmc:=hsl.2.1
 have hcm : c ≤ 9223372036854775807:=hsl.2.2.1
 have HS:=Lib.hid hS
 have HSL:=Lib.hid hsl
 have HI:=Lib.hid hi
 clear hS hsl hi
 go_enter Tryz.func78,Tryz.ntmps78
 go_wp2_with fail
 go_loopw [7,8] (fun s i wr=>LkRel w m s i wr) (fun _ i _=>m - (intOf i).toNat)
 case atStart=>exact ⟨0,0,rfl,by omega,rfl,by omega,Same.refl _ _⟩
 case round=>
  obtain ⟨k,x,rfl,⟨hx0,hx1⟩,rfl,hk,hkr⟩:=hrel
  by_cases hkm : k < m
  case neg=>
   have hd1 : decide (k < m) = false:=by simpa using hkm
   have HKR:=Lib.hid hkr
   clear hkr
   go_wp2_with fail
   refine bodyPost_ret (results_tmp3' Tryz.results78 _ _ _) rfl ?_
   exact ⟨_,_,_,rfl,⟨by omega,by omega⟩,⟨by omega,by omega⟩,HKR.out⟩
  obtain ⟨b',off',v,rfl,hSb,hv,hcell⟩:=(HSL.out.keep (Same.mono hkr HS.out)).at_ encVr_len hkm
  have hvi:=HI.out v (List.mem_of_getElem? hv)
  have c0 : wr.cell? ⟨b',off' + k * 3,none⟩ = some (.string v.name):=hcell 0 _ rfl
  have c1 : wr.cell? ⟨b',off' + k * 3 + 1,none⟩ = some (.int .i64 v.size):=hcell 1 _ rfl
  have hrg : wr.rangeAt b' (off' + k * 3) [.string v.name,.int .i64 v.size,.int .i64 v.init]:=hcell
  have hd1 : decide (k < m) = true:=by simpa using hkm
  have hd2 : (0 : Int) ≤ k:=by omega
  have hd3 : (k : Int) < m:=by omega
  obtain ⟨hvi1,hvi2⟩:=hvi
  clear hcell hv
  have HKR:=Lib.hid hkr
  have HRG:=Lib.hid hrg
  clear hkr hrg
  cases q : (v.name.toList == name.toList) with
  | true=>
   by_cases hz : v.size < 0
   ·go_wp2_with fail
    go_quiet (fail)
    go_wp2_with fail
    refine bodyPost_ret (results_tmp3' Tryz.results78 _ _ _) rfl ?_
    exact ⟨_,_,_,rfl,⟨by omega,by omega⟩,⟨by omega,by omega⟩,Same.drewN HKR.out _⟩
   ·go_wp2_with fail
    go_quiet (fail)
    go_wp2_with fail
    refine bodyPost_ret (results_tmp3' Tryz.results78 _ _ _) rfl ?_
    exact ⟨_,_,_,rfl,⟨by omega,by omega⟩,⟨by omega,by omega⟩,Same.drewN HKR.out _⟩
  | false=>
   go_wp2_with (refine wpList_load_mid rfl _ (.tmp 32) rfl b' (off' + k * 3) rfl [.string v.name,.int .i64 v.size,.int .i64 v.init] _ HRG.out Tryz.underlying116 rfl (by kernel_rfl) ?_)
   refine (cells_any wr v.name v.size v.init).mono ?_
   rintro e w1 ⟨y,⟨hy0,hy1⟩,rfl,hk1⟩
   have hkr1:=Keep.trans HKR.out hk1
   have HKR1:=Lib.hid hkr1
   clear hkr1
   clear hk1 c0 c1
   by_cases hgt : 2147483648 < x + y
   ·have hd4 : decide (2147483648 < x + y) = true:=by simpa using hgt
    go_wp2_with fail
    refine bodyPost_ret (results_tmp3' Tryz.results78 _ _ _) rfl ?_
    exact ⟨_,_,_,rfl,⟨by omega,by omega⟩,⟨by omega,by omega⟩,HKR1.out⟩
   ·have hd4 : decide (2147483648 < x + y) = false:=by simpa using hgt
    go_wp2_with fail
    go_roundw
    case rel=>exact ⟨k + 1,x + y,rfl,⟨by omega,by omega⟩,by go_num,by omega,HKR1.out⟩
    case measure=>simp [intOf]; omega
end Go.Proofs.YtipegaojiokppaaGreatDoor
