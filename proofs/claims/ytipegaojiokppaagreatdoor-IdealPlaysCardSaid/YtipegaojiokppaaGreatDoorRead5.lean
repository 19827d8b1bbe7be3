import Derived.Test.YtipegaojiokppaaGreatDoorGB
set_option linter.unusedVariables false
set_option linter.unusedSimpArgs false
set_option maxRecDepth 100000
namespace Go.Proofs.YtipegaojiokppaaGreatDoor
open Go.RowKit Go.Proofs
def opsS (op : Int) : Int:=if op = 1 ∨ op = 2 ∨ (4 ≤ op ∧ op ≤ 7) then 0 else if op = 3 ∨ op = 8 ∨ op = 9 then 1 else if 10 ≤ op ∧ op ≤ 22 then 2 else -1
theorem operands_is (w : World) (op : Int) : Calls Tryz.prog 95 #[.int .i64 op] w (fun e w'=>e = .returned (.int .i64 (opsS op)) ∧ w' = w):=by
 generalize hr : opsS op = r
 have HR:=Lib.hid hr
 clear hr
 by_cases h1 : op = 1 ∨ op = 2 ∨ (4 ≤ op ∧ op ≤ 7)
 ·rcases h1 with h | h | h
  ·subst h
   have e : r = 0:=by rw [← HR.out]; unfold opsS; (repeat' split) <;> omega
   subst e
   go_enter Tryz.func95,Tryz.ntmps95
   go_wp2_with fail
   go_ret
   exact ⟨rfl,rfl⟩
  ·subst h
   have e : r = 0:=by rw [← HR.out]; unfold opsS; (repeat' split) <;> omega
   subst e
   go_enter Tryz.func95,Tryz.ntmps95
   go_wp2_with fail
   go_ret
   exact ⟨rfl,rfl⟩
  ·have a1 : (op == 1) = false:=by simp; omega
   have a2 : (op == 2) = false:=by simp; omega
   have e : r = 0:=by rw [← HR.out]; unfold opsS; (repeat' split) <;> omega
   subst e
   go_enter Tryz.func95,Tryz.ntmps95
   go_wp2_with fail
   go_ret
   exact ⟨rfl,rfl⟩
 ·have a1 : (op == 1) = false:=by simp; omega
  have a2 : (op == 2) = false:=by simp; omega
  by_cases h2 : op = 3 ∨ op = 8 ∨ op = 9
  ·rcases h2 with h | h | h <;> subst h <;>
   ·have e : r = 1:=by rw [← HR.out]; unfold opsS; (repeat' split) <;> omega
    subst e
    go_enter Tryz.func95,Tryz.ntmps95
    go_wp2_with fail
    go_ret
    exact ⟨rfl,rfl⟩
  ·have a3 : (op == 3) = false:=by simp; omega
   have a8 : (op == 8) = false:=by simp; omega
   have a9 : (op == 9) = false:=by simp; omega
   by_cases h4 : 4 ≤ op
   ·have h7 : ¬ op ≤ 7:=by omega
    by_cases h5 : 10 ≤ op
    ·by_cases h6 : op ≤ 22
     ·have e : r = 2:=by rw [← HR.out]; unfold opsS; (repeat' split) <;> omega
      subst e
      go_enter Tryz.func95,Tryz.ntmps95
      go_wp2_with fail
      go_ret
      exact ⟨rfl,rfl⟩
     ·have e : r = -1:=by rw [← HR.out]; unfold opsS; (repeat' split) <;> omega
      subst e
      go_enter Tryz.func95,Tryz.ntmps95
      go_wp2_with fail
      go_ret
      exact ⟨rfl,rfl⟩
    ·omega
   ·have h5 : ¬ 10 ≤ op:=by omega
    have e : r = -1:=by rw [← HR.out]; unfold opsS; (repeat' split) <;> omega
    subst e
    go_enter Tryz.func95,Tryz.ntmps95
    go_wp2_with fail
    go_ret
    exact ⟨rfl,rfl⟩
theorem valid_q (b : ByteArray) (w : World) (n : Nat) : Calls Tryz.prog 76 #[.string b] (w.drewN n) fun e w''=>e = .returned (.bool (validB b)) ∧ ∃ m,w'' = w.drewN m:=Calls.quiet_of_same (valid_is b _)
theorem operands_q (op : Int) (w : World) (n : Nat) : Calls Tryz.prog 95 #[.int .i64 op] (w.drewN n) fun e w''=>e = .returned (.int .i64 (opsS op)) ∧ ∃ m,w'' = w.drewN m:=Calls.quiet_of_same (operands_is _ op)
def GoodSaid (n : Nat) : Prop:=∀ (w : World) (S : Nat → Prop) (cs : List Value) (e : Ex),(∀ i,S i → i < w.heap.size) → ExR w S n cs e → Ex.few 1000 n e → Calls Tryz.prog 88 #[.agg cs.toArray] w (SomeB w)
def IdxRel (W : World) (m : Nat) (i : Value) (wr : World) : Prop:=∃ k : Nat,i = .int .i64 k ∧ k ≤ m ∧ Keep W wr
def CutB (W : World) (s : Value) (wx : World) : Prop:=∃ b,s = .bool b ∧ Keep W wx
set_option maxHeartbeats 4000000 in
theorem good_succ (n : Nat) (ih : GoodSaid n) : GoodSaid (n + 1):=by
 intro w S cs e hS hx hf
 obtain ⟨op,val,name,slot,size,args⟩:=e
 obtain ⟨hsl,hsz,A,m,c,rfl,hargs⟩:=hx
 obtain ⟨hf1,hf2⟩:=hf
 have hml:=hargs.1
 have hm1 : m ≤ 1000:=by omega
 have HS:=Lib.hid hS
 have IH:=Lib.hid ih
 have HF2:=Lib.hid hf2
 have HARGS:=Lib.hid hargs
 have HSL:=Lib.hid hsl
 have HSZ:=Lib.hid hsz
 have HML:=Lib.hid hml
 clear hS ih hf2 hargs hsl hsz hml
 clear hf1
 have hnamed : ∃ nb : Bool,nb = ((op == 2) || (op == 3)):=⟨_,rfl⟩
 obtain ⟨nb,hnb⟩:=hnamed
 go_enter Tryz.func88,Tryz.ntmps88
 go_upto_region 1 with fail
 generalize hW : w.alloc (.cells #[.int .i64 op,.int .i64 val,.string name,.int .i64 slot,.int .i64 size,.slice A m c] 68) = W
 have hkW : Keep w W:=hW ▸ Keep.new w _
 have hb1 : Blk W w.heap.size 68 #[.int .i64 op,.int .i64 val,.string name,.int .i64 slot,.int .i64 size,.slice A m c]:=hW ▸ Blk.new w _ _
 have hzW:=hb1.lt
 have c0 : W.cell? ⟨w.heap.size,0,none⟩ = some (.int .i64 op):=by rw [hb1.cell]; rfl
 have c1 : W.cell? ⟨w.heap.size,1,none⟩ = some (.int .i64 val):=by rw [hb1.cell]; rfl
 have c2 : W.cell? ⟨w.heap.size,2,none⟩ = some (.string name):=by rw [hb1.cell]; rfl
 have c3 : W.cell? ⟨w.heap.size,3,none⟩ = some (.int .i64 slot):=by rw [hb1.cell]; rfl
 have c4 : W.cell? ⟨w.heap.size,4,none⟩ = some (.int .i64 size):=by rw [hb1.cell]; rfl
 have c5 : W.cell? ⟨w.heap.size,5,none⟩ = some (.slice A m c):=by rw [hb1.cell]; rfl
 clear hW
 have HKW:=Lib.hid hkW
 have HB1:=Lib.hid hb1
 clear hkW hb1
 go_cut [3] from 5 to 12 (fun s3 wx=>CutTB W nb s3 wx)
 case first=>
  have HNB:=Lib.hid hnb
  clear hnb
  cases q2 : (op == 2) with
  | true=>
   go_wp2_with fail
   go_meet
   exact ⟨by rw [HNB.out,q2]; rfl,rfl⟩
  | false=>
   go_wp2_with fail
   go_meet
   exact ⟨by rw [HNB.out,q2]; rfl,rfl⟩
 case rest=>
  obtain ⟨rfl,rfl⟩:=hcut
  clear hnb
  go_upto_region 2 with fail
  go_cut [67] from 13 to 66 (fun s wx=>CutB W s wx)
  case first=>
   cases q1 : (opsS op != (m : Int)) with
   | true=>
    as_aux_lemma=>
    go_wp2_with fail
    go_quiet (first | (go_at_call 95; exact operands_q _ _ _) | (go_at_call 76; exact valid_q _ _ _))
    go_wp2_with fail
    go_meet
    exact ⟨_,rfl,(Same.refl _ _).drewN _⟩
   | false=>
    cases q2 : (slot != 0) with
    | true=>
     as_aux_lemma=>
     go_wp2_with fail
     go_quiet (first | (go_at_call 95; exact operands_q _ _ _) | (go_at_call 76; exact valid_q _ _ _))
     go_wp2_with fail
     go_meet
     exact ⟨_,rfl,(Same.refl _ _).drewN _⟩
    | false=>
     cases q3 : (size != 0) with
     | true=>
      as_aux_lemma=>
      go_wp2_with fail
      go_quiet (first | (go_at_call 95; exact operands_q _ _ _) | (go_at_call 76; exact valid_q _ _ _))
      go_wp2_with fail
      go_meet
      exact ⟨_,rfl,(Same.refl _ _).drewN _⟩
     | false=>
      cases nb with
      | true=>
       cases q4 : validB name with
       | true=>
        cases q6 : (op == 1) with
        | true=>
         have q6n : (op != 1) = false:=by simp [bne,q6]
         cases q7 : decide (val < 0) with
         | true=>
          as_aux_lemma=>
          go_wp2_with fail
          go_quiet (first | (go_at_call 95; exact operands_q _ _ _) | (go_at_call 76; exact valid_q _ _ _))
          go_wp2_with fail
          go_meet
          exact ⟨_,rfl,(Same.refl _ _).drewN _⟩
         | false=>
          as_aux_lemma=>
          go_wp2_with fail
          go_quiet (first | (go_at_call 95; exact operands_q _ _ _) | (go_at_call 76; exact valid_q _ _ _))
          go_wp2_with fail
          go_meet
          exact ⟨_,rfl,(Same.refl _ _).drewN _⟩
        | false=>
         have q6n : (op != 1) = true:=by simp [bne,q6]
         cases q8 : (val != 0) with
         | true=>
          as_aux_lemma=>
          go_wp2_with fail
          go_quiet (first | (go_at_call 95; exact operands_q _ _ _) | (go_at_call 76; exact valid_q _ _ _))
          go_wp2_with fail
          go_meet
          exact ⟨_,rfl,(Same.refl _ _).drewN _⟩
         | false=>
          as_aux_lemma=>
          go_wp2_with fail
          go_quiet (first | (go_at_call 95; exact operands_q _ _ _) | (go_at_call 76; exact valid_q _ _ _))
          go_wp2_with fail
          go_meet
          exact ⟨_,rfl,(Same.refl _ _).drewN _⟩
       | false=>
        as_aux_lemma=>
        go_wp2_with fail
        go_quiet (first | (go_at_call 95; exact operands_q _ _ _) | (go_at_call 76; exact valid_q _ _ _))
        go_wp2_with fail
        go_meet
        exact ⟨_,rfl,(Same.refl _ _).drewN _⟩
      | false=>
       cases q5 : name.toList.isEmpty with
       | true=>
        cases q6 : (op == 1) with
        | true=>
         have q6n : (op != 1) = false:=by simp [bne,q6]
         cases q7 : decide (val < 0) with
         | true=>
          as_aux_lemma=>
          go_wp2_with fail
          go_quiet (first | (go_at_call 95; exact operands_q _ _ _) | (go_at_call 76; exact valid_q _ _ _))
          go_wp2_with fail
          go_meet
          exact ⟨_,rfl,(Same.refl _ _).drewN _⟩
         | false=>
          as_aux_lemma=>
          go_wp2_with fail
          go_quiet (first | (go_at_call 95; exact operands_q _ _ _) | (go_at_call 76; exact valid_q _ _ _))
          go_wp2_with fail
          go_meet
          exact ⟨_,rfl,(Same.refl _ _).drewN _⟩
        | false=>
         have q6n : (op != 1) = true:=by simp [bne,q6]
         cases q8 : (val != 0) with
         | true=>
          as_aux_lemma=>
          go_wp2_with fail
          go_quiet (first | (go_at_call 95; exact operands_q _ _ _) | (go_at_call 76; exact valid_q _ _ _))
          go_wp2_with fail
          go_meet
          exact ⟨_,rfl,(Same.refl _ _).drewN _⟩
         | false=>
          as_aux_lemma=>
          go_wp2_with fail
          go_quiet (first | (go_at_call 95; exact operands_q _ _ _) | (go_at_call 76; exact valid_q _ _ _))
          go_wp2_with fail
          go_meet
          exact ⟨_,rfl,(Same.refl _ _).drewN _⟩
       | false=>
        as_aux_lemma=>
        go_wp2_with fail
        go_quiet (first | (go_at_call 95; exact operands_q _ _ _) | (go_at_call 76; exact valid_q _ _ _))
        go_wp2_with fail
        go_meet
        exact ⟨_,rfl,(Same.refl _ _).drewN _⟩
  case rest=>
   obtain ⟨b,rfl,hkx⟩:=hcut
   have hkwx : Keep w wc:=Keep.trans HKW.out hkx
   have c5x : wc.cell? ⟨w.heap.size,5,none⟩ = some (.slice A m c):=(hkx.cell (p:=⟨w.heap.size,5,none⟩) (by simp; omega)).trans c5
   have hzx:=hkx.size
   clear c0 c1 c2 c3 c4 c5 hkx
   cases b with
   | true=>
    have HKWX:=Lib.hid hkwx
    clear hkwx
    go_wp2_with fail
    go_ret
    exact ⟨_,rfl,HKWX.out⟩
   | false=>
    have HKWX:=Lib.hid hkwx
    clear hkwx
    go_wp2_with fail
    go_loopw [4] (fun i wr=>IdxRel wc m i wr) (fun i _=>m - (intOf i).toNat)
    case atStart=>exact ⟨0,rfl,by omega,Same.refl _ _⟩
    case round=>
     obtain ⟨k,rfl,hk,hkr⟩:=hrel
     have c5r : wr.cell? ⟨w.heap.size,5,none⟩ = some (.slice A m c):=(hkr.cell (p:=⟨w.heap.size,5,none⟩) (by simp; omega)).trans c5x
     have hkw : Keep w wr:=Keep.trans HKWX.out hkr
     by_cases hkm : k < m
     ·obtain ⟨b',off',cs',a,rfl,hSb,ha,hR,hl,hcell⟩:=HARGS.out.at_ hkm
      have hrg : wr.rangeAt b' (off' + k * 6) cs':=fun j u hu=>(hkw.cell (p:=⟨b',off' + k * 6 + j,none⟩) (HS.out b' hSb)).trans (hcell j u hu)
      have hRr:=ExR.keep (Same.mono hkw HS.out) _ _ _ hR
      have hfa:=HF2.out a (List.mem_of_getElem? ha)
      have hd1 : decide (k < m) = true:=by simpa using hkm
      have hd2 : (0 : Int) ≤ k:=by omega
      have hd3 : (k : Int) < m:=by omega
      have hlen:=hR.len
      clear hR hcell ha
      have HKR:=Lib.hid hkr
      have HRG:=Lib.hid hrg
      have HRR:=Lib.hid hRr
      have HFA:=Lib.hid hfa
      have HKW:=Lib.hid hkw
      have HLEN:=Lib.hid hlen
      clear hkr hrg hRr hfa hkw hlen
      go_wp2_with (refine wpList_load_mid rfl _ (.tmp 78) rfl b' (off' + k * 6) rfl cs' _ HRG.out Tryz.underlying68 rfl (info_ex HLEN.out) ?_)
      refine (IH.out wr S cs' a (fun i hi=>Nat.lt_of_lt_of_le (HS.out i hi) HKW.out.size) HRR.out HFA.out).mono ?_
      rintro e w3 ⟨y,rfl,hk3⟩
      have hkr3:=Keep.trans HKR.out hk3
      have hkw3:=Keep.trans HKW.out hk3
      have HKR3:=Lib.hid hkr3
      have HKW3:=Lib.hid hkw3
      clear hkr3 hkw3
      clear hk3
      cases y with
      | true=>
       go_wp2_with fail
       go_roundw
       case rel=>exact ⟨k + 1,by go_num,by omega,HKR3.out⟩
       case measure=>simp [intOf]; omega
      | false=>
       go_wp2_with fail
       go_ret
       exact ⟨_,rfl,HKW3.out⟩
     ·have hd1 : decide (k < m) = false:=by simpa using hkm
      have HKW:=Lib.hid hkw
      have HKR:=Lib.hid hkr
      clear hkw hkr
      go_wp2_with fail
      go_ret
      exact ⟨_,rfl,HKW.out⟩
theorem good_all : ∀ n,GoodSaid n
 | 0=>fun _ _ _ _ _ h=>h.elim
 | n + 1=>good_succ n (good_all n)
end Go.Proofs.YtipegaojiokppaaGreatDoor
