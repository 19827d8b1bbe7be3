import Derived.Test.YtipegaojiokppaaGreatDoorRead7
import Derived.Test.YtipegaojiokppaaGreatDoorRead8
set_option linter.unusedVariables false
set_option linter.unusedSimpArgs false
set_option maxRecDepth 100000
namespace Go.Proofs.YtipegaojiokppaaGreatDoor
open Go.RowKit Go.Proofs
def ErrPost (w : World) (e : Ending) (w' : World) : Prop:=∃ x : Int,e = .returned (.int .i64 x) ∧ Keep w w'
set_option maxHeartbeats 16000000 in
theorem check_any (w : World) (S : Nat → Prop) (V A1 A2 A3 A4 : Option Addr) (vm vc m1 c1 m2 c2 m3 c3 m4 c4 : Nat) (vs : List Vr) (l1 l2 l3 l4 : List Stm) (hS : ∀ i,S i → i < w.heap.size) (hv : VarsR w S V vm vc vs) (h1 : StmsR w S A1 m1 c1 l1) (h2 : StmsR w S A2 m2 c2 l2) (h3 : StmsR w S A3 m3 c3 l3) (h4 : StmsR w S A4 m4 c4 l4) :
  Calls Tryz.prog 66 #[.agg #[.slice V vm vc,.slice A1 m1 c1,.slice A2 m2 c2,.slice A3 m3 c3,.slice A4 m4 c4]] w (ErrPost w):=by
 generalize hW : w.alloc (.cells #[.slice V vm vc,.slice A1 m1 c1,.slice A2 m2 c2,.slice A3 m3 c3,.slice A4 m4 c4] 119) = W
 have hkW : Keep w W:=hW ▸ Keep.new w _
 have hb : Blk W w.heap.size 119 #[.slice V vm vc,.slice A1 m1 c1,.slice A2 m2 c2,.slice A3 m3 c3,.slice A4 m4 c4]:=hW ▸ Blk.new w _ _
 have hz:=hb.lt
 have sam : ∀ wx,Keep W wx → Same S w wx:=fun wx hx=>Same.mono (Keep.trans hkW hx) hS
 have slt : ∀ wx,Keep W wx → ∀ i,S i → i < wx.heap.size:=fun wx hx i hi=>Nat.lt_of_lt_of_le (hS i hi) (Keep.trans hkW hx).size
 have keyD:=depth_any W S V A1 A2 A3 A4 vm vc m1 c1 m2 c2 m3 c3 m4 c4 l1 l2 l3 l4 (slt W (Same.refl _ _)) (h1.keep (sam W (Same.refl _ _))) (h2.keep (sam W (Same.refl _ _))) (h3.keep (sam W (Same.refl _ _))) (h4.keep (sam W (Same.refl _ _)))
 have keyF : ∀ (wx : World) (A : Option Addr) (m c : Nat) (l : List Stm),Keep W wx → StmsR w S A m c l → Calls Tryz.prog 77 #[.slice A m c] wx (SomeB wx):=fun wx A m c l hx h=>fine_all 3 wx S A m c l (slt wx hx) (h.1.keep (sam wx hx) (StmR.keep (sam wx hx) _)) (by have:=h.2.1; omega) h.2.2
 have c0 : ∀ wx,Keep W wx → wx.cell? ⟨w.heap.size,0,none⟩ = some (.slice V vm vc):=fun wx hx=>(hx.cell (p:=⟨w.heap.size,0,none⟩) hz).trans (by rw [hb.cell]; rfl)
 have e1 : ∀ wx,Keep W wx → wx.cell? ⟨w.heap.size,1,none⟩ = some (.slice A1 m1 c1):=fun wx hx=>(hx.cell (p:=⟨w.heap.size,1,none⟩) hz).trans (by rw [hb.cell]; rfl)
 have e2 : ∀ wx,Keep W wx → wx.cell? ⟨w.heap.size,2,none⟩ = some (.slice A2 m2 c2):=fun wx hx=>(hx.cell (p:=⟨w.heap.size,2,none⟩) hz).trans (by rw [hb.cell]; rfl)
 have e3 : ∀ wx,Keep W wx → wx.cell? ⟨w.heap.size,3,none⟩ = some (.slice A3 m3 c3):=fun wx hx=>(hx.cell (p:=⟨w.heap.size,3,none⟩) hz).trans (by rw [hb.cell]; rfl)
 have e4 : ∀ wx,Keep W wx → wx.cell? ⟨w.heap.size,4,none⟩ = some (.slice A4 m4 c4):=fun wx hx=>(hx.cell (p:=⟨w.heap.size,4,none⟩) hz).trans (by rw [hb.cell]; rfl)
 have hvm:=hv.2.1
 have hvc : vm ≤ vc ∧ vc ≤ 9223372036854775807:=⟨hv.1.2.1,hv.1.2.2.1⟩
 have HS:=Lib.hid hS
 have HV:=Lib.hid hv
 have H1:=Lib.hid h1
 have H2:=Lib.hid h2
 have H3:=Lib.hid h3
 have H4:=Lib.hid h4
 have HKW:=Lib.hid hkW
 have HB:=Lib.hid hb
 have SAM:=Lib.hid sam
 have SLT:=Lib.hid slt
 have KEYD:=Lib.hid keyD
 have KEYF:=Lib.hid keyF
 have C0:=Lib.hid c0
 have E1:=Lib.hid e1
 have E2:=Lib.hid e2
 have E3:=Lib.hid e3
 have E4:=Lib.hid e4
 clear hS hv h1 h2 h3 h4 hkW hb sam slt keyD keyF c0 e1 e2 e3 e4
 go_enter Tryz.func66,Tryz.ntmps66
 go_wp2_with (refine wpList_load_all rfl _ (.tmp 1) rfl w.heap.size 119 [.slice V vm vc,.slice A1 m1 c1,.slice A2 m2 c2,.slice A3 m3 c3,.slice A4 m4 c4] _ rfl HB.out Tryz.underlying119 rfl (by kernel_rfl) ?_)
 clear hW
 refine KEYD.out.mono ?_
 rintro e w1 ⟨d,⟨hd0,hd1⟩,rfl,hk1⟩
 have hd16 : decide (16 < d) = false:=by simp; omega
 have HK1:=Lib.hid hk1
 clear hk1
 go_wp2_with fail
 go_loopw [3] (fun i wr=>IdxRel W vm i wr) (fun i _=>vm - (intOf i).toNat)
 case atStart=>exact ⟨0,rfl,by omega,HK1.out⟩
 case round=>
  obtain ⟨k,rfl,hk,hkr⟩:=hrel
  have y0:=C0.out wr hkr
  by_cases hkm : k < vm
  ·obtain ⟨b',off',v,rfl,hSb,hvv,hcell⟩:=(HV.out.1.keep (SAM.out wr hkr)).at_ encVr_len hkm
   have hrg : wr.rangeAt b' (off' + k * 3) [.string v.name,.int .i64 v.size,.int .i64 v.init]:=hcell
   have hq1 : decide (k < vm) = true:=by simpa using hkm
   have hq2 : (0 : Int) ≤ k:=by omega
   have hq3 : (k : Int) < vm:=by omega
   clear hcell hvv hSb
   have HKR:=Lib.hid hkr
   have HRG:=Lib.hid hrg
   clear hkr hrg
   go_upto_region 7 with (first
    | (refine wpList_load_mid rfl _ (.tmp 18) rfl b' (off' + k * 3) rfl [.string v.name,.int .i64 v.size,.int .i64 v.init] _ HRG.out Tryz.underlying116 rfl (by kernel_rfl) ?_)
    | (refine wpList_store_all rfl _ (.tmp 4) (.tmp 19) rfl wr.heap.size 116 _ [.string v.name,.int .i64 v.size,.int .i64 v.init] rfl rfl (Blk.new _ _ _) rfl (by kernel_rfl) rfl ?_; intro w2 hb2 hs2))
   have hk2 : Keep wr w2:=Keep.write (Keep.new _ _) hs2 (Nat.le_refl _)
   have hkW2:=Keep.trans HKR.out hk2
   have z0 : w2.cell? ⟨wr.heap.size,0,none⟩ = some (.string v.name):=by rw [hb2.cell]; rfl
   have z1 : w2.cell? ⟨wr.heap.size,1,none⟩ = some (.int .i64 v.size):=by rw [hb2.cell]; rfl
   have z2 : w2.cell? ⟨wr.heap.size,2,none⟩ = some (.int .i64 v.init):=by rw [hb2.cell]; rfl
   clear hb2 hs2 hk2 y0
   have HKW2:=Lib.hid hkW2
   clear hkW2
   try simp only [Act.put,List.setIfInBounds_toArray,List.set_cons_zero,List.set_cons_succ]
   go_cut [43] from 15 to 42 (fun s wx=>CutB w2 s wx)
   case first=>
    as_aux_lemma=>
    cases qv : validB v.name with
    | true=>
     cases qs : decide (v.size < 0) with
     | true=>
      go_wp2_with (go_at_call 76; refine (valid_is v.name _).mono ?_; rw [qv]; rintro e w3 ⟨rfl,hw3⟩; replace hw3:=hw3.symm; subst hw3)
      go_meet
      exact ⟨_,rfl,Same.refl _ _⟩
     | false=>
      cases qn : (v.size != 0) with
      | true=>
       cases qi : (v.init != 0) with
       | true=>
        go_wp2_with (go_at_call 76; refine (valid_is v.name _).mono ?_; rw [qv]; rintro e w3 ⟨rfl,hw3⟩; replace hw3:=hw3.symm; subst hw3)
        go_meet
        exact ⟨_,rfl,Same.refl _ _⟩
       | false=>
        cases qm : (v.init == -9223372036854775808) with
        | true=>
         go_wp2_with (go_at_call 76; refine (valid_is v.name _).mono ?_; rw [qv]; rintro e w3 ⟨rfl,hw3⟩; replace hw3:=hw3.symm; subst hw3)
         go_meet
         exact ⟨_,rfl,Same.refl _ _⟩
        | false=>
         go_wp2_with (go_at_call 76; refine (valid_is v.name _).mono ?_; rw [qv]; rintro e w3 ⟨rfl,hw3⟩; replace hw3:=hw3.symm; subst hw3)
         go_meet
         exact ⟨_,rfl,Same.refl _ _⟩
      | false=>
       cases qm : (v.init == -9223372036854775808) with
       | true=>
        go_wp2_with (go_at_call 76; refine (valid_is v.name _).mono ?_; rw [qv]; rintro e w3 ⟨rfl,hw3⟩; replace hw3:=hw3.symm; subst hw3)
        go_meet
        exact ⟨_,rfl,Same.refl _ _⟩
       | false=>
        go_wp2_with (go_at_call 76; refine (valid_is v.name _).mono ?_; rw [qv]; rintro e w3 ⟨rfl,hw3⟩; replace hw3:=hw3.symm; subst hw3)
        go_meet
        exact ⟨_,rfl,Same.refl _ _⟩
    | false=>
     go_wp2_with (go_at_call 76; refine (valid_is v.name _).mono ?_; rw [qv]; rintro e w3 ⟨rfl,hw3⟩; replace hw3:=hw3.symm; subst hw3)
     go_meet
     exact ⟨_,rfl,Same.refl _ _⟩
   case rest=>
    obtain ⟨b,rfl,hk3⟩:=hcut
    have hkW3:=Keep.trans HKW2.out hk3
    have hfin:=Keep.trans HKW.out hkW3
    clear hk3 z0 z1 z2
    have HKW3:=Lib.hid hkW3
    have HFIN:=Lib.hid hfin
    clear hkW3 hfin
    cases b with
    | true=>
     go_wp2_with fail
     go_ret
     exact ⟨_,rfl,HFIN.out⟩
    | false=>
     go_wp2_with fail
     go_roundw
     case rel=>exact ⟨k + 1,by go_num,by omega,HKW3.out⟩
     case measure=>simp [intOf]; omega
  ·have hq1 : decide (k < vm) = false:=by simpa using hkm
   have y1:=E1.out wr hkr
   have HKR:=Lib.hid hkr
   clear hkr
   go_wp2_with fail
   refine (KEYF.out wr A1 m1 c1 l1 HKR.out H1.out).mono ?_
   rintro e w2 ⟨y,rfl,hk2⟩
   have hkW2:=Keep.trans HKR.out hk2
   have hfin2:=Keep.trans HKW.out hkW2
   have y2:=E2.out w2 hkW2
   clear hk2 y0 y1
   have HKW2:=Lib.hid hkW2
   have HFIN2:=Lib.hid hfin2
   clear hkW2 hfin2
   cases y with
   | false=>
    go_wp2_with fail
    go_ret
    exact ⟨_,rfl,HFIN2.out⟩
   | true=>
    go_wp2_with fail
    refine (KEYF.out w2 A2 m2 c2 l2 HKW2.out H2.out).mono ?_
    rintro e w3 ⟨y,rfl,hk3⟩
    have hkW3:=Keep.trans HKW2.out hk3
    have hfin3:=Keep.trans HKW.out hkW3
    have y3:=E3.out w3 hkW3
    clear hk3 y2
    have HKW3:=Lib.hid hkW3
    have HFIN3:=Lib.hid hfin3
    clear hkW3 hfin3
    cases y with
    | false=>
     go_wp2_with fail
     go_ret
     exact ⟨_,rfl,HFIN3.out⟩
    | true=>
     go_wp2_with fail
     refine (KEYF.out w3 A3 m3 c3 l3 HKW3.out H3.out).mono ?_
     rintro e w4 ⟨y,rfl,hk4⟩
     have hkW4:=Keep.trans HKW3.out hk4
     have hfin4:=Keep.trans HKW.out hkW4
     have y4:=E4.out w4 hkW4
     clear hk4 y3
     have HKW4:=Lib.hid hkW4
     have HFIN4:=Lib.hid hfin4
     clear hkW4 hfin4
     cases y with
     | false=>
      go_wp2_with fail
      go_ret
      exact ⟨_,rfl,HFIN4.out⟩
     | true=>
      go_wp2_with fail
      refine (KEYF.out w4 A4 m4 c4 l4 HKW4.out H4.out).mono ?_
      rintro e w5 ⟨y,rfl,hk5⟩
      have hfin5:=Keep.trans (Keep.trans HKW.out HKW4.out) hk5
      clear hk5 y4
      have HFIN5:=Lib.hid hfin5
      clear hfin5
      cases y with
      | false=>
       go_wp2_with fail
       go_ret
       exact ⟨_,rfl,HFIN5.out⟩
      | true=>
       go_wp2_with fail
       go_ret
       exact ⟨_,rfl,HFIN5.out⟩
end Go.Proofs.YtipegaojiokppaaGreatDoor
