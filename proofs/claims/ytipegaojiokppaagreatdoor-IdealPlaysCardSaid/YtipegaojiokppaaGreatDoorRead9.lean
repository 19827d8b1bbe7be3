import Derived.Test.YtipegaojiokppaaGreatDoorRead8
import Derived.Test.YtipegaojiokppaaGreatDoorRead5
set_option linter.unusedVariables false
set_option linter.unusedSimpArgs false
set_option maxRecDepth 100000
namespace Go.Proofs.YtipegaojiokppaaGreatDoor
open Go.RowKit Go.Proofs
theorem VarsR.keep {w w' : World} {S : Nat → Prop} {A : Option Addr} {m c : Nat} {vs : List Vr} (h : VarsR w S A m c vs) (hk : Same S w w') : VarsR w' S A m c vs:=⟨h.1.keep hk,h.2⟩
def NamesSaid (n : Nat) : Prop:=∀ (w : World) (S : Nat → Prop) (V : Option Addr) (vm vc : Nat) (vs : List Vr) (cs : List Value) (e : Ex),(∀ i,S i → i < w.heap.size) → VarsR w S V vm vc vs → ExR w S n cs e → Ex.few 1000 n e → Calls Tryz.prog 79 #[.slice V vm vc,.agg cs.toArray] w (SomeB w)
set_option maxHeartbeats 8000000 in
theorem names_succ (n : Nat) (ih : NamesSaid n) : NamesSaid (n + 1):=by
 intro w S V vm vc vs cs e hS hvr hx hf
 obtain ⟨op,val,name,slot,size,args⟩:=e
 obtain ⟨hsl,hsz,A,m,c,rfl,hargs⟩:=hx
 obtain ⟨hf1,hf2⟩:=hf
 have hml:=hargs.1
 have hm1 : m ≤ 1000:=by omega
 generalize hW : w.alloc (.cells #[.int .i64 op,.int .i64 val,.string name,.int .i64 slot,.int .i64 size,.slice A m c] 68) = W
 have hkW : Keep w W:=hW ▸ Keep.new w _
 have hb1 : Blk W w.heap.size 68 #[.int .i64 op,.int .i64 val,.string name,.int .i64 slot,.int .i64 size,.slice A m c]:=hW ▸ Blk.new w _ _
 have hzW:=hb1.lt
 have c2 : W.cell? ⟨w.heap.size,2,none⟩ = some (.string name):=by rw [hb1.cell]; rfl
 have HS:=Lib.hid hS
 have HVR:=Lib.hid hvr
 have IH:=Lib.hid ih
 have HF2:=Lib.hid hf2
 have HARGS:=Lib.hid hargs
 have HML:=Lib.hid hml
 have HKW:=Lib.hid hkW
 have HB1:=Lib.hid hb1
 clear hS hvr ih hf2 hargs hml hkW hb1
 clear hf1 hsl hsz
 go_enter Tryz.func79,Tryz.ntmps79
 go_wp2_with fail
 clear hW
 refine (lookup_any W S V vm vc vs name (fun i hi=>by have:=HS.out i hi; omega) (HVR.out.keep (Same.mono HKW.out HS.out))).mono ?_
 rintro e w1 ⟨ls,lz,lb,rfl,-,-,hk1⟩
 have hkw1:=Keep.trans HKW.out hk1
 have hz1:=hk1.size
 have c0 : w1.cell? ⟨w.heap.size,0,none⟩ = some (.int .i64 op):=(hk1.cell (p:=⟨w.heap.size,0,none⟩) hzW).trans (by rw [HB1.out.cell]; rfl)
 have c5 : w1.cell? ⟨w.heap.size,5,none⟩ = some (.slice A m c):=(hk1.cell (p:=⟨w.heap.size,5,none⟩) hzW).trans (by rw [HB1.out.cell]; rfl)
 clear hk1 c2
 have HKW1:=Lib.hid hkw1
 clear hkw1
 go_upto_region 2 with fail
 go_cut [28] from 17 to 27 (fun s wx=>CutB w1 s wx)
 case first=>
  cases q2 : (op == 2) with
  | true=>
   cases q3 : (op == 3) with
   | true=>
    cases lb with
    | true=>
     go_wp2_with fail
     go_meet
     exact ⟨_,rfl,Same.refl _ _⟩
    | false=>
     go_wp2_with fail
     go_meet
     exact ⟨_,rfl,Same.refl _ _⟩
   | false=>
    cases lb with
    | true=>
     go_wp2_with fail
     go_meet
     exact ⟨_,rfl,Same.refl _ _⟩
    | false=>
     go_wp2_with fail
     go_meet
     exact ⟨_,rfl,Same.refl _ _⟩
  | false=>
   cases q3 : (op == 3) with
   | true=>
    cases lb with
    | true=>
     go_wp2_with fail
     go_meet
     exact ⟨_,rfl,Same.refl _ _⟩
    | false=>
     go_wp2_with fail
     go_meet
     exact ⟨_,rfl,Same.refl _ _⟩
   | false=>
    cases lb with
    | true=>
     go_wp2_with fail
     go_meet
     exact ⟨_,rfl,Same.refl _ _⟩
    | false=>
     go_wp2_with fail
     go_meet
     exact ⟨_,rfl,Same.refl _ _⟩
 case rest=>
  obtain ⟨b,rfl,hkx⟩:=hcut
  have hkwx:=Keep.trans HKW1.out hkx
  have c5x : wc.cell? ⟨w.heap.size,5,none⟩ = some (.slice A m c):=(hkx.cell (p:=⟨w.heap.size,5,none⟩) (by simp; omega)).trans c5
  have hzx:=hkx.size
  clear c0 c5 hkx
  have HKWX:=Lib.hid hkwx
  clear hkwx
  cases b with
  | true=>
   go_wp2_with fail
   go_ret
   exact ⟨_,rfl,HKWX.out⟩
  | false=>
   go_wp2_with fail
   go_loopw [8] (fun i wr=>IdxRel wc m i wr) (fun i _=>m - (intOf i).toNat)
   case atStart=>exact ⟨0,rfl,by omega,Same.refl _ _⟩
   case round=>
    obtain ⟨k,rfl,hk,hkr⟩:=hrel
    have c5r : wr.cell? ⟨w.heap.size,5,none⟩ = some (.slice A m c):=(hkr.cell (p:=⟨w.heap.size,5,none⟩) (by simp; omega)).trans c5x
    have hkw : Keep w wr:=Keep.trans HKWX.out hkr
    by_cases hkm : k < m
    ·obtain ⟨b',off',cs',a,rfl,hSb,ha,hR,hl,hcell⟩:=HARGS.out.at_ hkm
     have hrg : wr.rangeAt b' (off' + k * 6) cs':=fun j u hu=>(hkw.cell (p:=⟨b',off' + k * 6 + j,none⟩) (HS.out b' hSb)).trans (hcell j u hu)
     have hRr:=ExR.keep (Same.mono hkw HS.out) _ _ _ hR
     have hfa:=HF2.out a (List.mem_of_getElem? ha)
     have hd1 : decide (k < m) = true:=by simpa using hkm
     have hd2 : (0 : Int) ≤ k:=by omega
     have hd3 : (k : Int) < m:=by omega
     have hlen:=hR.len
     clear hR hcell ha
     have HKR:=Lib.hid hkr
     have HRG:=Lib.hid hrg
     have HRR:=Lib.hid hRr
     have HFA:=Lib.hid hfa
     have HKW:=Lib.hid hkw
     have HLEN:=Lib.hid hlen
     clear hkr hrg hRr hfa hkw hlen
     go_wp2_with (refine wpList_load_mid rfl _ (.tmp 40) rfl b' (off' + k * 6) rfl cs' _ HRG.out Tryz.underlying68 rfl (info_ex HLEN.out) ?_)
     refine (IH.out wr S V vm vc vs cs' a (fun i hi=>Nat.lt_of_lt_of_le (HS.out i hi) HKW.out.size) (HVR.out.keep (Same.mono HKW.out HS.out)) HRR.out HFA.out).mono ?_
     rintro e w3 ⟨y,rfl,hk3⟩
     have hkr3:=Keep.trans HKR.out hk3
     have hkw3:=Keep.trans HKW.out hk3
     have HKR3:=Lib.hid hkr3
     have HKW3:=Lib.hid hkw3
     clear hkr3 hkw3
     clear hk3
     cases y with
     | true=>
      go_wp2_with fail
      go_roundw
      case rel=>exact ⟨k + 1,by go_num,by omega,HKR3.out⟩
      case measure=>simp [intOf]; omega
     | false=>
      go_wp2_with fail
      go_ret
      exact ⟨_,rfl,HKW3.out⟩
    ·have hd1 : decide (k < m) = false:=by simpa using hkm
     have HKW:=Lib.hid hkw
     have HKR:=Lib.hid hkr
     clear hkw hkr
     go_wp2_with fail
     go_ret
     exact ⟨_,rfl,HKW.out⟩
theorem names_all : ∀ n,NamesSaid n
 | 0=>fun _ _ _ _ _ _ _ _ _ _ h=>h.elim
 | n + 1=>names_succ n (names_all n)
def DeclSaid (n : Nat) : Prop:=∀ (w : World) (S : Nat → Prop) (V : Option Addr) (vm vc : Nat) (vs : List Vr) (A : Option Addr) (m c : Nat) (l : List Stm),(∀ i,S i → i < w.heap.size) → VarsR w S V vm vc vs → SlR w S 18 (fun cs s=>StmR w S n cs s) A m c l → l.length ≤ 1000 → (∀ a ∈ l,Stm.few 1000 n a) → Calls Tryz.prog 68 #[.slice V vm vc,.slice A m c] w (SomeB w)
set_option maxHeartbeats 16000000 in
theorem decl_any (n : Nat) (ih : ∀ k,n = k + 1 → DeclSaid k) : DeclSaid n:=by
 intro w S V vm vc vs A m c l hS hvr hsl hl hf
 have hml:=hsl.1
 have hm1 : m ≤ 1000:=by omega
 have HS:=Lib.hid hS
 have HVR:=Lib.hid hvr
 have HSL:=Lib.hid hsl
 have IH:=Lib.hid ih
 have HF:=Lib.hid hf
 have HML:=Lib.hid hml
 clear hS hvr hsl ih hf hml
 clear hl
 go_enter Tryz.func68,Tryz.ntmps68
 go_wp2_with fail
 go_loopw [5] (fun i wr=>IdxRel w m i wr) (fun i _=>m - (intOf i).toNat)
 case atStart=>exact ⟨0,rfl,by omega,Same.refl _ _⟩
 case round=>
  obtain ⟨k,rfl,hk,hkr⟩:=hrel
  by_cases hkm : k < m
  case neg=>
   have hd1 : decide (k < m) = false:=by simpa using hkm
   have HKR:=Lib.hid hkr
   clear hkr
   go_wp2_with fail
   go_ret
   exact ⟨_,rfl,HKR.out⟩
  obtain ⟨b',off',cs',s,rfl,hSb,ha,hR,hll,hcell⟩:=HSL.out.at_ hkm
  obtain ⟨n',rfl⟩ : ∃ n',n = n' + 1:=by
   cases n with
   | zero=>exact hR.elim
   | succ n'=>exact ⟨n',rfl⟩
  obtain ⟨kind,name,slot,size,place,value,body,els,o1,x1,n1,l1,z1,B1,p1,q1,o2,x2,n2,l2,z2,B2,p2,q2,A6,A7,m6,c6,m7,c7,hse,rfl,hpl,hva,hbo,hel⟩:=StmR.open_ hR
  have hfs:=HF.out s (List.mem_of_getElem? ha)
  rw [hse] at hfs
  obtain ⟨f1,f2,f3,f4,f5,f6⟩:=hfs
  have hd1 : decide (k < m) = true:=by simpa using hkm
  have hd2 : (0 : Int) ≤ k:=by omega
  have hd3 : (k : Int) < m:=by omega
  have ihn:=IH.out n' rfl
  have e0 : ∀ wx,Keep w wx → wx.cell? ⟨b',off' + k * 18,none⟩ = some (.int .i64 kind):=fun wx hx=>(hx.cell (p:=⟨b',off' + k * 18,none⟩) (HS.out b' hSb)).trans (hcell 0 _ rfl)
  have e1 : ∀ wx,Keep w wx → wx.cell? ⟨b',off' + k * 18 + 1,none⟩ = some (.string name):=fun wx hx=>(hx.cell (p:=⟨b',off' + k * 18 + 1,none⟩) (HS.out b' hSb)).trans (hcell 1 _ rfl)
  have e16 : ∀ wx,Keep w wx → wx.cell? ⟨b',off' + k * 18 + 16,none⟩ = some (.slice A6 m6 c6):=fun wx hx=>(hx.cell (p:=⟨b',off' + k * 18 + 16,none⟩) (HS.out b' hSb)).trans (hcell 16 _ rfl)
  have e17 : ∀ wx,Keep w wx → wx.cell? ⟨b',off' + k * 18 + 17,none⟩ = some (.slice A7 m7 c7):=fun wx hx=>(hx.cell (p:=⟨b',off' + k * 18 + 17,none⟩) (HS.out b' hSb)).trans (hcell 17 _ rfl)
  have rP : ∀ wx,Keep w wx → wx.rangeAt b' (off' + k * 18 + 4) [.int .i64 o1,.int .i64 x1,.string n1,.int .i64 l1,.int .i64 z1,.slice B1 p1 q1]:=fun wx hx j u hu=>by
   have hj : j < 6:=(List.getElem?_eq_some_iff.1 hu).1
   have:=hcell (4 + j) u (by match j,hj with | 0,_ | 1,_ | 2,_ | 3,_ | 4,_ | 5,_=>exact hu)
   rw [Nat.add_assoc]
   exact (hx.cell (p:=⟨b',off' + k * 18 + (4 + j),none⟩) (HS.out b' hSb)).trans this
  have rV : ∀ wx,Keep w wx → wx.rangeAt b' (off' + k * 18 + 10) [.int .i64 o2,.int .i64 x2,.string n2,.int .i64 l2,.int .i64 z2,.slice B2 p2 q2]:=fun wx hx j u hu=>by
   have hj : j < 6:=(List.getElem?_eq_some_iff.1 hu).1
   have:=hcell (10 + j) u (by match j,hj with | 0,_ | 1,_ | 2,_ | 3,_ | 4,_ | 5,_=>exact hu)
   rw [Nat.add_assoc]
   exact (hx.cell (p:=⟨b',off' + k * 18 + (10 + j),none⟩) (HS.out b' hSb)).trans this
  have slt : ∀ wx,Keep w wx → ∀ i,S i → i < wx.heap.size:=fun wx hx i hi=>Nat.lt_of_lt_of_le (HS.out i hi) hx.size
  have sam : ∀ wx,Keep w wx → Same S w wx:=fun wx hx=>Same.mono hx HS.out
  have keyL : ∀ wx,Keep w wx → Calls Tryz.prog 78 #[.slice V vm vc,.string name] wx (LookPost wx):=fun wx hx=>lookup_any wx S V vm vc vs name (slt wx hx) (HVR.out.keep (sam wx hx))
  have keyP : ∀ wx,Keep w wx → Calls Tryz.prog 79 #[.slice V vm vc,.agg #[.int .i64 o1,.int .i64 x1,.string n1,.int .i64 l1,.int .i64 z1,.slice B1 p1 q1]] wx (SomeB wx):=fun wx hx=>names_all 5 wx S V vm vc vs [.int .i64 o1,.int .i64 x1,.string n1,.int .i64 l1,.int .i64 z1,.slice B1 p1 q1] place (slt wx hx) (HVR.out.keep (sam wx hx)) (ExR.keep (sam wx hx) _ _ _ hpl) f1
  have keyV : ∀ wx,Keep w wx → Calls Tryz.prog 79 #[.slice V vm vc,.agg #[.int .i64 o2,.int .i64 x2,.string n2,.int .i64 l2,.int .i64 z2,.slice B2 p2 q2]] wx (SomeB wx):=fun wx hx=>names_all 5 wx S V vm vc vs [.int .i64 o2,.int .i64 x2,.string n2,.int .i64 l2,.int .i64 z2,.slice B2 p2 q2] value (slt wx hx) (HVR.out.keep (sam wx hx)) (ExR.keep (sam wx hx) _ _ _ hva) f2
  have keyB : ∀ wx,Keep w wx → Calls Tryz.prog 68 #[.slice V vm vc,.slice A6 m6 c6] wx (SomeB wx):=fun wx hx=>ihn wx S V vm vc vs A6 m6 c6 body (slt wx hx) (HVR.out.keep (sam wx hx)) (hbo.keep (sam wx hx) (StmR.keep (sam wx hx) _)) f3 f5
  have keyE : ∀ wx,Keep w wx → Calls Tryz.prog 68 #[.slice V vm vc,.slice A7 m7 c7] wx (SomeB wx):=fun wx hx=>ihn wx S V vm vc vs A7 m7 c7 els (slt wx hx) (HVR.out.keep (sam wx hx)) (hel.keep (sam wx hx) (StmR.keep (sam wx hx) _)) f4 f6
  have k1:=e1 wr hkr
  clear hcell hR hll hse ha f1 f2 f3 f4 f5 f6 hpl hva hbo hel ihn slt sam hSb
  have HKR:=Lib.hid hkr
  have E0:=Lib.hid e0
  have E1:=Lib.hid e1
  have E16:=Lib.hid e16
  have E17:=Lib.hid e17
  have RP:=Lib.hid rP
  have RV:=Lib.hid rV
  have KEYL:=Lib.hid keyL
  have KEYP:=Lib.hid keyP
  have KEYV:=Lib.hid keyV
  have KEYB:=Lib.hid keyB
  have KEYE:=Lib.hid keyE
  clear hkr e0 e1 e16 e17 rP rV keyL keyP keyV keyB keyE
  go_wp2_with fail
  refine (KEYL.out wr HKR.out).mono ?_
  rintro e w1 ⟨ls,lz,lb,rfl,-,-,hk1⟩
  have hkw1:=Keep.trans HKR.out hk1
  have y0:=E0.out w1 hkw1
  clear hk1 k1
  have HKW1:=Lib.hid hkw1
  clear hkw1
  go_upto_region 5 with fail
  go_cut [43] from 26 to 42 (fun s wx=>CutB w1 s wx)
  case first=>
   cases q1 : (kind == 1) with
   | true=>
    cases q2 : (kind == 2) with
    | true=>
     cases lb with
     | true=>
      go_wp2_with fail
      go_meet
      exact ⟨_,rfl,Same.refl _ _⟩
     | false=>
      go_wp2_with fail
      go_meet
      exact ⟨_,rfl,Same.refl _ _⟩
    | false=>
     cases lb with
     | true=>
      go_wp2_with fail
      go_meet
      exact ⟨_,rfl,Same.refl _ _⟩
     | false=>
      go_wp2_with fail
      go_meet
      exact ⟨_,rfl,Same.refl _ _⟩
   | false=>
    cases q2 : (kind == 2) with
    | true=>
     cases lb with
     | true=>
      go_wp2_with fail
      go_meet
      exact ⟨_,rfl,Same.refl _ _⟩
     | false=>
      go_wp2_with fail
      go_meet
      exact ⟨_,rfl,Same.refl _ _⟩
    | false=>
     cases lb with
     | true=>
      go_wp2_with fail
      go_meet
      exact ⟨_,rfl,Same.refl _ _⟩
     | false=>
      go_wp2_with fail
      go_meet
      exact ⟨_,rfl,Same.refl _ _⟩
  case rest=>
   obtain ⟨b,rfl,hkx⟩:=hcut
   obtain ⟨w2,hw2⟩ : ∃ w2 : World,w2 = wc:=⟨_,rfl⟩
   subst hw2
   have hkw2:=Keep.trans HKW1.out hkx
   clear hkx y0
   have HKW2:=Lib.hid hkw2
   clear hkw2
   cases b with
   | true=>
    go_wp2_with fail
    go_ret
    exact ⟨_,rfl,HKW2.out⟩
   | false=>
    go_wp2_with (refine wpList_load_mid rfl _ (.tmp 48) rfl b' (off' + k * 18 + 4) rfl [.int .i64 o1,.int .i64 x1,.string n1,.int .i64 l1,.int .i64 z1,.slice B1 p1 q1] _ (RP.out w2 HKW2.out) Tryz.underlying68 rfl (by kernel_rfl) ?_)
    refine (KEYP.out w2 HKW2.out).mono ?_
    rintro e w3 ⟨y,rfl,hk3⟩
    have hkw3:=Keep.trans HKW2.out hk3
    clear hk3
    have HKW3:=Lib.hid hkw3
    clear hkw3
    cases y with
    | false=>
     go_wp2_with fail
     go_ret
     exact ⟨_,rfl,HKW3.out⟩
    | true=>
     go_wp2_with (refine wpList_load_midg (by rfl) _ (.tmp 57) rfl b' (off' + k * 18 + 10) rfl [.int .i64 o2,.int .i64 x2,.string n2,.int .i64 l2,.int .i64 z2,.slice B2 p2 q2] _ (RV.out w3 HKW3.out) Tryz.underlying68 rfl (by kernel_rfl) ?_)
     refine (KEYV.out w3 HKW3.out).mono ?_
     rintro e w4 ⟨y,rfl,hk4⟩
     have hkw4:=Keep.trans HKW3.out hk4
     have y16:=E16.out w4 hkw4
     clear hk4
     have HKW4:=Lib.hid hkw4
     clear hkw4
     cases y with
     | false=>
      go_wp2_with fail
      go_ret
      exact ⟨_,rfl,HKW4.out⟩
     | true=>
      go_wp2_with fail
      refine (KEYB.out w4 HKW4.out).mono ?_
      rintro e w5 ⟨y,rfl,hk5⟩
      have hkw5:=Keep.trans HKW4.out hk5
      have y17:=E17.out w5 hkw5
      clear hk5 y16
      have HKW5:=Lib.hid hkw5
      clear hkw5
      cases y with
      | false=>
       go_wp2_with fail
       go_ret
       exact ⟨_,rfl,HKW5.out⟩
      | true=>
       go_wp2_with fail
       refine (KEYE.out w5 HKW5.out).mono ?_
       rintro e w6 ⟨y,rfl,hk6⟩
       have hkw6:=Keep.trans HKW5.out hk6
       clear hk6 y17
       have HKW6:=Lib.hid hkw6
       clear hkw6
       cases y with
       | false=>
        go_wp2_with fail
        go_ret
        exact ⟨_,rfl,HKW6.out⟩
       | true=>
        go_wp2_with fail
        go_roundw
        case rel=>exact ⟨k + 1,by go_num,by omega,HKW6.out⟩
        case measure=>simp [intOf]; omega
theorem decl_all : ∀ n,DeclSaid n
 | 0=>decl_any 0 (fun k e=>by omega)
 | n + 1=>decl_any (n + 1) (fun k e=>by
  have e2 : k = n:=by omega
  rw [e2]
  exact decl_all n)
end Go.Proofs.YtipegaojiokppaaGreatDoor
