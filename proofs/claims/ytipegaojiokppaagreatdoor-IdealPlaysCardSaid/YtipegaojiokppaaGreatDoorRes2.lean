import Derived.Test.YtipegaojiokppaaGreatDoorRes1
set_option linter.unusedVariables false
set_option linter.unusedSimpArgs false
set_option maxRecDepth 100000
namespace Go.Proofs.YtipegaojiokppaaGreatDoor
open Go.RowKit Go.Proofs
def StsPost (n : Nat) (w : World) (en : Ending) (w' : World) : Prop:=
 ∃ (A : Option Addr) (m c : Nat) (l : List Stm) (b : Bool),en = .returned (.tuple #[.slice A m c,.bool b]) ∧ SlR w' (New w' w.heap.size) 18 (fun cs s=>StmR w' (New w' w.heap.size) n cs s) A m c l ∧ Keep w w'
def StsSaid (n : Nat) : Prop:=∀ (w : World) (S : Nat → Prop) (V : Option Addr) (vm vc : Nat) (vs : List Vr) (A : Option Addr) (m c : Nat) (l : List Stm),(∀ i,S i → i < w.heap.size) → VarsR w S V vm vc vs → SlR w S 18 (fun cs s=>StmR w S n cs s) A m c l → l.length ≤ 1000 → (∀ a ∈ l,Stm.few 1000 n a) → Calls Tryz.prog 69 #[.slice V vm vc,.slice A m c] w (StsPost n w)
def StsRel (n : Nat) (W : World) (m : Nat) (v s7 i : Value) (wr : World) : Prop:=
 ∃ (k : Nat) (b : Bool) (l : List Stm),s7 = .bool b ∧ i = .int .i64 k ∧ k ≤ m ∧ l.length = k ∧ Grow (fun w S cs s=>StmR w S n cs s) 18 70 wr W.heap.size v l ∧ Keep W wr
def StsCut (W : World) (b9 : Nat) (f : Int → Int → Array Value) (s7 : Value) (wx : World) : Prop:=
 ∃ (b : Bool) (s z : Int),s7 = .bool b ∧ I64 s ∧ I64 z ∧ Blk wx b9 70 (f s z) ∧ Same (fun i=>i < W.heap.size ∧ i ≠ b9) W wx
set_option maxHeartbeats 16000000 in
theorem sts_any (n : Nat) (ih : ∀ k,n = k + 1 → StsSaid k) : StsSaid n:=by
 intro w S V vm vc vs A m c l hS hvr hsl hl hf
 obtain ⟨i0,hi0,iz0,iz1,iz2⟩:=info_of info_Stm
 have hml:=hsl.1
 have hm1 : m ≤ 1000:=by omega
 have HS:=Lib.hid hS
 have HVR:=Lib.hid hvr
 have HSL:=Lib.hid hsl
 have IH:=Lib.hid ih
 have HF:=Lib.hid hf
 have HML:=Lib.hid hml
 have HI0:=Lib.hid hi0
 have IZ0:=Lib.hid iz0
 have IZ1:=Lib.hid iz1
 have IZ2:=Lib.hid iz2
 clear hS hvr hsl ih hf hml hi0 iz0 iz1 iz2
 clear hl
 go_enter Tryz.func69,Tryz.ntmps69
 go_wp2_with fail
 go_loopw [6,7,8] (fun v s i wr=>StsRel n w m v s i wr) (fun _ _ i _=>m - (intOf i).toNat)
 case atStart=>exact ⟨0,true,[],rfl,rfl,Nat.zero_le _,rfl,Grow.nil_,Same.refl _ _⟩
 case round=>
  obtain ⟨k,b,lo,rfl,rfl,hk,hlk,hgr,hkr⟩:=hrel
  obtain ⟨v6,hv6⟩ : ∃ v6 : Value,v6 = u6:=⟨_,rfl⟩
  subst hv6
  by_cases hkm : k < m
  case neg=>
   have hd1 : decide (k < m) = false:=by simpa using hkm
   obtain ⟨A8,c8,hv8,hsl8⟩:=Grow.done (StmR.good n) hgr
   rw [hlk] at hv8 hsl8
   subst hv8
   have HGR:=Lib.hid hgr
   have HKR:=Lib.hid hkr
   have HSL8:=Lib.hid hsl8
   clear hgr hkr hsl8
   go_wp2_with fail
   refine bodyPost_ret (results_tmp2 Tryz.results69 _ _ _) rfl ?_
   exact ⟨A8,k,c8,lo,b,rfl,HSL8.out,HKR.out⟩
  obtain ⟨b',off',cs',s,rfl,hSb,ha,hR,hll,hcell⟩:=HSL.out.at_ hkm
  obtain ⟨n',rfl⟩ : ∃ n',n = n' + 1:=by
   cases n with
   | zero=>exact hR.elim
   | succ n'=>exact ⟨n',rfl⟩
  have hss : I64 s.slot ∧ I64 s.size:=by obtain ⟨_,_,_,_,_,_,_,_⟩:=s; exact ⟨hR.1,hR.2.1⟩
  obtain ⟨kind,name,slot,size,place,value,body,els,o1,x1,n1,l1,z1,B1,p1,q1,o2,x2,n2,l2,z2,B2,p2,q2,A6,A7,m6,c6,m7,c7,hse,rfl,hpl,hva,hbo,hel⟩:=StmR.open_ hR
  have hfs:=HF.out s (List.mem_of_getElem? ha)
  rw [hse] at hfs hss
  simp only [Stm.slot,Stm.size] at hss
  obtain ⟨f1,f2,f3,f4,f5,f6⟩:=hfs
  have hrg : wr.rangeAt b' (off' + k * 18) [.int .i64 kind,.string name,.int .i64 slot,.int .i64 size,.int .i64 o1,.int .i64 x1,.string n1,.int .i64 l1,.int .i64 z1,.slice B1 p1 q1,.int .i64 o2,.int .i64 x2,.string n2,.int .i64 l2,.int .i64 z2,.slice B2 p2 q2,.slice A6 m6 c6,.slice A7 m7 c7]:=fun j u hu=>(hkr.cell (p:=⟨b',off' + k * 18 + j,none⟩) (HS.out b' hSb)).trans (hcell j u hu)
  have hd1 : decide (k < m) = true:=by simpa using hkm
  have hd2 : (0 : Int) ≤ k:=by omega
  have hd3 : (k : Int) < m:=by omega
  have ihn:=IH.out n' rfl
  clear hcell hR hll hse ha hSb
  have HRG:=Lib.hid hrg
  have HKR:=Lib.hid hkr
  have HPL:=Lib.hid hpl
  have HVA:=Lib.hid hva
  have HBO:=Lib.hid hbo
  have HEL:=Lib.hid hel
  have IHN:=Lib.hid ihn
  have F1:=Lib.hid f1
  have F2:=Lib.hid f2
  have F5:=Lib.hid f5
  have F6:=Lib.hid f6
  have HSS:=Lib.hid hss
  have HGR:=Lib.hid hgr
  clear hrg hkr hpl hva hbo hel ihn f1 f2 f5 f6 hss hgr
  go_upto_region 7 with (first
   | (refine wpList_load_mid rfl _ (.tmp 29) rfl b' (off' + k * 18) rfl [.int .i64 kind,.string name,.int .i64 slot,.int .i64 size,.int .i64 o1,.int .i64 x1,.string n1,.int .i64 l1,.int .i64 z1,.slice B1 p1 q1,.int .i64 o2,.int .i64 x2,.string n2,.int .i64 l2,.int .i64 z2,.slice B2 p2 q2,.slice A6 m6 c6,.slice A7 m7 c7] _ HRG.out Tryz.underlying70 rfl (by kernel_rfl) ?_)
   | (refine wpList_store_all rfl _ (.tmp 9) (.tmp 30) rfl wr.heap.size 70 _ [.int .i64 kind,.string name,.int .i64 slot,.int .i64 size,.int .i64 o1,.int .i64 x1,.string n1,.int .i64 l1,.int .i64 z1,.slice B1 p1 q1,.int .i64 o2,.int .i64 x2,.string n2,.int .i64 l2,.int .i64 z2,.slice B2 p2 q2,.slice A6 m6 c6,.slice A7 m7 c7] rfl rfl (Blk.new _ _ _) rfl (by kernel_rfl) rfl ?_; intro w1 hb1 hs1))
  have hk1 : Keep wr w1:=Keep.write (Keep.new _ _) hs1 (Nat.le_refl _)
  have hkw1 : Keep w w1:=Keep.trans HKR.out hk1
  have hz1 : wr.heap.size < w1.heap.size:=hb1.lt
  have c0 : w1.cell? ⟨wr.heap.size,0,none⟩ = some (.int .i64 kind):=by rw [hb1.cell]; rfl
  have c1 : w1.cell? ⟨wr.heap.size,1,none⟩ = some (.string name):=by rw [hb1.cell]; rfl
  have slt : ∀ wx,Keep w wx → ∀ i,S i → i < wx.heap.size:=fun wx hx i hi=>Nat.lt_of_lt_of_le (HS.out i hi) hx.size
  have sam : ∀ wx,Keep w wx → Same S w wx:=fun wx hx=>Same.mono hx HS.out
  have keyL : Calls Tryz.prog 78 #[.slice V vm vc,.string name] w1 (LookPost w1):=lookup_any w1 S V vm vc vs name (slt w1 hkw1) (HVR.out.keep (sam w1 hkw1))
  have keyP : ∀ wx,Keep w wx → Calls Tryz.prog 80 #[.slice V vm vc,.agg #[.int .i64 o1,.int .i64 x1,.string n1,.int .i64 l1,.int .i64 z1,.slice B1 p1 q1]] wx (ExpPost 5 wx):=fun wx hx=>exp_all 5 wx S V vm vc vs [.int .i64 o1,.int .i64 x1,.string n1,.int .i64 l1,.int .i64 z1,.slice B1 p1 q1] place (slt wx hx) (HVR.out.keep (sam wx hx)) (ExR.keep (sam wx hx) _ _ _ HPL.out) F1.out
  have keyV : ∀ wx,Keep w wx → Calls Tryz.prog 80 #[.slice V vm vc,.agg #[.int .i64 o2,.int .i64 x2,.string n2,.int .i64 l2,.int .i64 z2,.slice B2 p2 q2]] wx (ExpPost 5 wx):=fun wx hx=>exp_all 5 wx S V vm vc vs [.int .i64 o2,.int .i64 x2,.string n2,.int .i64 l2,.int .i64 z2,.slice B2 p2 q2] value (slt wx hx) (HVR.out.keep (sam wx hx)) (ExR.keep (sam wx hx) _ _ _ HVA.out) F2.out
  have keyB : ∀ wx,Keep w wx → Calls Tryz.prog 69 #[.slice V vm vc,.slice A6 m6 c6] wx (StsPost n' wx):=fun wx hx=>IHN.out wx S V vm vc vs A6 m6 c6 body (slt wx hx) (HVR.out.keep (sam wx hx)) (HBO.out.keep (sam wx hx) (StmR.keep (sam wx hx) _)) f3 F5.out
  have keyE : ∀ wx,Keep w wx → Calls Tryz.prog 69 #[.slice V vm vc,.slice A7 m7 c7] wx (StsPost n' wx):=fun wx hx=>IHN.out wx S V vm vc vs A7 m7 c7 els (slt wx hx) (HVR.out.keep (sam wx hx)) (HEL.out.keep (sam wx hx) (StmR.keep (sam wx hx) _)) f4 F6.out
  have HK1:=Lib.hid hk1
  have HKW1:=Lib.hid hkw1
  have HB1:=Lib.hid hb1
  have KEYL:=Lib.hid keyL
  have KEYP:=Lib.hid keyP
  have KEYV:=Lib.hid keyV
  have KEYB:=Lib.hid keyB
  have KEYE:=Lib.hid keyE
  clear hk1 hkw1 hb1 keyL keyP keyV keyB keyE
  clear hs1 slt sam HRG HPL HVA HBO HEL IHN F1 F2 F5 F6 f3 f4
  try simp only [Act.put,List.setIfInBounds_toArray,List.set_cons_zero,List.set_cons_succ]
  obtain ⟨nb,hnb⟩ : ∃ nb : Bool,nb = ((kind == 1) || (kind == 2)):=⟨_,rfl⟩
  go_cut [38] from 21 to 37 (fun s wx=>CutTB w1 nb s wx)
  case first=>
   have HNB:=Lib.hid hnb
   clear hnb
   cases q1 : (kind == 1) with
   | true=>
    go_wp2_with fail
    go_meet
    exact ⟨by rw [HNB.out,q1]; rfl,rfl⟩
   | false=>
    go_wp2_with fail
    go_meet
    exact ⟨by rw [HNB.out,q1]; rfl,rfl⟩
  case rest=>
   obtain ⟨rfl,hww⟩:=hcut
   subst hww
   clear hnb
   go_upto_if 38 with fail
   go_cut [7,10,11,12] from 39 to 59 (fun s7 _ _ _ wx=>StsCut w1 wr.heap.size (fun s z=>#[.int .i64 kind,.string name,.int .i64 s,.int .i64 z,.int .i64 o1,.int .i64 x1,.string n1,.int .i64 l1,.int .i64 z1,.slice B1 p1 q1,.int .i64 o2,.int .i64 x2,.string n2,.int .i64 l2,.int .i64 z2,.slice B2 p2 q2,.slice A6 m6 c6,.slice A7 m7 c7]) s7 wx)
   case first=>
    cases nb with
    | false=>
     go_wp2_with fail
     go_meet
     exact ⟨b,slot,size,rfl,HSS.out.1,HSS.out.2,HB1.out,Same.refl _ _⟩
    | true=>
     as_aux_lemma=>
     go_wp2_with fail
     refine KEYL.out.mono ?_
     rintro e w2 ⟨ls,lz,lb,rfl,hls,hlz,hk2⟩
     have hb2:=hk2.blk HB1.out hz1
     have HB2:=Lib.hid hb2
     have HK2:=Lib.hid hk2
     have HLS:=Lib.hid hls
     have HLZ:=Lib.hid hlz
     clear hb2 hk2 hls hlz
     clear c1 c0
     go_upto_region 10 with (first
      | (refine wpList_store_one rfl _ (.tmp 49) _ rfl wr.heap.size 2 70 _ (.int .i64 ls) rfl rfl HB2.out (by simp) (by kernel_rfl) rfl rfl ?_; intro w3 hb3 hs3; have HB3Q:=Lib.hid hb3; have HS3:=Lib.hid hs3; clear hb3 hs3)
      | (refine wpList_store_one rfl _ (.tmp 50) _ rfl wr.heap.size 3 70 _ (.int .i64 lz) rfl rfl HB3Q.out (by simp) (by kernel_rfl) rfl rfl ?_; intro w4 hb4 hs4; have HB4Q:=Lib.hid hb4; have HS4:=Lib.hid hs4; clear hb4 hs4))
     have hs24:=Same.trans HS3.out HS4.out (fun _ h=>h)
     have hb4' : Blk w4 wr.heap.size 70 #[.int .i64 kind,.string name,.int .i64 ls,.int .i64 lz,.int .i64 o1,.int .i64 x1,.string n1,.int .i64 l1,.int .i64 z1,.slice B1 p1 q1,.int .i64 o2,.int .i64 x2,.string n2,.int .i64 l2,.int .i64 z2,.slice B2 p2 q2,.slice A6 m6 c6,.slice A7 m7 c7]:=by simpa using HB4Q.out
     have y0 : w4.cell? ⟨wr.heap.size,0,none⟩ = some (.int .i64 kind):=by rw [hb4'.cell]; rfl
     have hyes : ∀ bb : Bool,StsCut w1 wr.heap.size (fun s z=>#[.int .i64 kind,.string name,.int .i64 s,.int .i64 z,.int .i64 o1,.int .i64 x1,.string n1,.int .i64 l1,.int .i64 z1,.slice B1 p1 q1,.int .i64 o2,.int .i64 x2,.string n2,.int .i64 l2,.int .i64 z2,.slice B2 p2 q2,.slice A6 m6 c6,.slice A7 m7 c7]) (.bool bb) w4:=fun bb=>⟨bb,ls,lz,rfl,HLS.out,HLZ.out,hb4',Same.trans (Same.mono HK2.out (fun i hi=>hi.1)) hs24 (fun i hi=>hi.2)⟩
     clear HB3Q HS3 HB4Q HS4 hs24 hb4'
     have HYES:=Lib.hid hyes
     clear hyes
     cases b with
     | false=>
      go_wp2_with fail
      go_meet
      exact HYES.out _
     | true=>
      cases q2 : (kind == 2) with
      | true=>
       cases qg : decide (0 < lz) with
       | true=>
        go_wp2_with fail
        go_meet
        exact HYES.out _
       | false=>
        go_wp2_with fail
        go_meet
        exact HYES.out _
      | false=>
       cases qg : decide (0 < lz) with
       | true=>
        go_wp2_with fail
        go_meet
        exact HYES.out _
       | false=>
        go_wp2_with fail
        go_meet
        exact HYES.out _
   case rest=>
    obtain ⟨b2,sl,zl,rfl,hsl0,hzl0,hb2,hsc⟩:=hcut
    obtain ⟨w2,hw2⟩ : ∃ w2 : World,w2 = wc:=⟨_,rfl⟩
    subst hw2
    have hz2:=hsc.size
    have hk12 : Keep wr w2:=Same.trans HK1.out hsc (fun i hi=>⟨by omega,by omega⟩)
    have hkw2 : Keep w w2:=Keep.trans HKR.out hk12
    replace hb2 : Blk w2 wr.heap.size 70 #[.int .i64 kind,.string name,.int .i64 sl,.int .i64 zl,.int .i64 o1,.int .i64 x1,.string n1,.int .i64 l1,.int .i64 z1,.slice B1 p1 q1,.int .i64 o2,.int .i64 x2,.string n2,.int .i64 l2,.int .i64 z2,.slice B2 p2 q2,.slice A6 m6 c6,.slice A7 m7 c7]:=hb2
    clear c0 c1 hsc
    have HSL0:=Lib.hid hsl0
    have HZL0:=Lib.hid hzl0
    have HB2:=Lib.hid hb2
    have HK12:=Lib.hid hk12
    have HKW2:=Lib.hid hkw2
    clear hsl0 hzl0 hb2 hk12 hkw2
    go_wp2_with (refine wpList_load_blk rfl _ (.tmp 62) rfl wr.heap.size 4 70 _ [.int .i64 o1,.int .i64 x1,.string n1,.int .i64 l1,.int .i64 z1,.slice B1 p1 q1] _ rfl HB2.out (fun j u hu=>by match j,hu with | 0,hu | 1,hu | 2,hu | 3,hu | 4,hu | 5,hu=>exact hu) Tryz.underlying68 rfl (by kernel_rfl) ?_)
    refine (KEYP.out w2 HKW2.out).mono ?_
    rintro e w3 ⟨cs3,y3,e3,rfl,hx3,hk3⟩
    obtain ⟨o3,x3,n3,l3,z3,a3,B3,p3,q3,-,rfl⟩:=ExR.open_ hx3
    have hz3:=hk3.size
    have HX3:=Lib.hid hx3
    have HK3:=Lib.hid hk3
    clear hx3 hk3
    go_upto_region 12 with (refine wpList_store_all rfl _ (.tmp 13) (.tmp 65) rfl w3.heap.size 68 _ [.int .i64 o3,.int .i64 x3,.string n3,.int .i64 l3,.int .i64 z3,.slice B3 p3 q3] rfl rfl (Blk.new _ _ _) rfl (by kernel_rfl) rfl ?_; intro w4 hb4 hs4)
    have hk4 : Keep w3 w4:=Keep.write (Keep.new _ _) hs4 (Nat.le_refl _)
    have hz4 : w3.heap.size < w4.heap.size:=hb4.lt
    have hk24:=Keep.trans HK3.out hk4
    have hb24:=hk24.blk HB2.out HB2.out.lt
    have hkw4:=Keep.trans HKW2.out hk24
    have HK4:=Lib.hid hk4
    have HB4:=Lib.hid hb4
    have HK24:=Lib.hid hk24
    have HB24:=Lib.hid hb24
    have HKW4:=Lib.hid hkw4
    clear hk4 hb4 hk24 hb24 hkw4
    clear hs4
    go_wp2_with (refine wpList_load_blk rfl _ (.tmp 69) rfl wr.heap.size 10 70 _ [.int .i64 o2,.int .i64 x2,.string n2,.int .i64 l2,.int .i64 z2,.slice B2 p2 q2] _ rfl HB24.out (fun j u hu=>by match j,hu with | 0,hu | 1,hu | 2,hu | 3,hu | 4,hu | 5,hu=>exact hu) Tryz.underlying68 rfl (by kernel_rfl) ?_)
    refine (KEYV.out w4 HKW4.out).mono ?_
    rintro e w5 ⟨cs5,y5,e5,rfl,hx5,hk5⟩
    obtain ⟨o4,x4,n4,l4,z4,a4,B4,p4,q4,-,rfl⟩:=ExR.open_ hx5
    have hz5:=hk5.size
    have HX5:=Lib.hid hx5
    have HK5:=Lib.hid hk5
    clear hx5 hk5
    go_upto_region 13 with (refine wpList_store_all rfl _ (.tmp 15) (.tmp 72) rfl w5.heap.size 68 _ [.int .i64 o4,.int .i64 x4,.string n4,.int .i64 l4,.int .i64 z4,.slice B4 p4 q4] rfl rfl (Blk.new _ _ _) rfl (by kernel_rfl) rfl ?_; intro w6 hb6 hs6)
    have hk6 : Keep w5 w6:=Keep.write (Keep.new _ _) hs6 (Nat.le_refl _)
    have hz6 : w5.heap.size < w6.heap.size:=hb6.lt
    have hk46:=Keep.trans HK5.out hk6
    have hb26:=hk46.blk HB24.out HB24.out.lt
    have hkw6:=Keep.trans HKW4.out hk46
    have y16 : w6.cell? ⟨wr.heap.size,16,none⟩ = some (.slice A6 m6 c6):=by rw [hb26.cell]; rfl
    have HK6:=Lib.hid hk6
    have HB6:=Lib.hid hb6
    have HK46:=Lib.hid hk46
    have HB26:=Lib.hid hb26
    have HKW6:=Lib.hid hkw6
    clear hk6 hb6 hk46 hb26 hkw6
    clear hs6
    go_wp2_with fail
    refine (KEYB.out w6 HKW6.out).mono ?_
    rintro e w7 ⟨A8,m8,c8,lb8,y7,rfl,hx7,hk7⟩
    have hz7:=hk7.size
    have hb27:=hk7.blk HB26.out HB26.out.lt
    have hkw7:=Keep.trans HKW6.out hk7
    have y17 : w7.cell? ⟨wr.heap.size,17,none⟩ = some (.slice A7 m7 c7):=by rw [hb27.cell]; rfl
    clear y16
    have HX7:=Lib.hid hx7
    have HK7:=Lib.hid hk7
    have HB27:=Lib.hid hb27
    have HKW7:=Lib.hid hkw7
    clear hx7 hk7 hb27 hkw7
    go_wp2_with fail
    refine (KEYE.out w7 HKW7.out).mono ?_
    rintro e w8 ⟨A9,m9,c9,lb9,y8,rfl,hx8,hk8⟩
    have hz8:=hk8.size
    have hb28:=hk8.blk HB27.out HB27.out.lt
    have hk68:=Keep.trans HK7.out hk8
    have hk48:=Keep.trans HK46.out hk68
    have hk28:=Keep.trans HK24.out hk48
    have hb48:=hk48.blk HB4.out HB4.out.lt
    have hb68:=hk68.blk HB6.out HB6.out.lt
    clear y17
    have l2_:=HB2.out.lt
    have l4_:=HB4.out.lt
    have l6_:=HB6.out.lt
    have HX8:=Lib.hid hx8
    have HK8:=Lib.hid hk8
    have HB28:=Lib.hid hb28
    have HK68:=Lib.hid hk68
    have HK48:=Lib.hid hk48
    have HK28:=Lib.hid hk28
    have HB48:=Lib.hid hb48
    have HB68:=Lib.hid hb68
    clear hx8 hk8 hb28 hk68 hk48 hk28 hb48 hb68
    go_upto_region 15 with fail
    refine wp_region_L 99 (fun _=>True) (fun wx=>Same (fun i=>i = w3.heap.size ∨ i = w5.heap.size) w8 wx) (by kernel_rfl) trivial (Same.drew (Same.refl _ _)) (fun hA hB=>?_)
    refine wpL_takeB (i:=0) rfl (by kernel_rfl) (by kernel_rfl) (by kernel_rfl) (by decide) (fun _ _ _ h=>h) (yieldsIf_blk (by rfl) _ _ rfl w3.heap.size 0 68 _ [.int .i64 o3,.int .i64 x3,.string n3,.int .i64 l3,.int .i64 z3,.slice B3 p3 q3] _ rfl (fun wx hx=>hx.blk HB48.out (.inl rfl)) (fun j u hu=>by simpa using hu) Tryz.underlying68 rfl (by kernel_rfl)) (SAB.both hA hB) ?_
    try simp only [Act.put,List.setIfInBounds_toArray,List.set_cons_zero,List.set_cons_succ]
    refine wpL_takeB (i:=1) rfl (by kernel_rfl) (by kernel_rfl) (by kernel_rfl) (by decide) (fun _ _ _ h=>h) (yieldsIf_blk (by rfl) _ _ rfl w5.heap.size 0 68 _ [.int .i64 o4,.int .i64 x4,.string n4,.int .i64 l4,.int .i64 z4,.slice B4 p4 q4] _ rfl (fun wx hx=>hx.blk HB68.out (.inr rfl)) (fun j u hu=>by simpa using hu) Tryz.underlying68 rfl (by kernel_rfl)) (SAB.both hA hB) ?_
    try simp only [Act.put,List.setIfInBounds_toArray,List.set_cons_zero,List.set_cons_succ]
    refine wpL_takeB (i:=2) (v:=?_) rfl (by kernel_rfl) (by kernel_rfl) (by kernel_rfl) (by decide) (fun _ _ _ h=>h) (Or.inl ⟨by rfl,?_⟩) (SAB.both hA hB) ?_
    rotate_left
    ·intro wx hBx
     (try dsimp only at hBx)
     go_simp
     try with_reducible rfl
    try simp only [Act.put,List.setIfInBounds_toArray,List.set_cons_zero,List.set_cons_succ]
    refine wpL_takeB (i:=3) (v:=?_) rfl (by kernel_rfl) (by kernel_rfl) (by kernel_rfl) (by decide) (fun _ _ _ h=>h) (Or.inl ⟨by rfl,?_⟩) (SAB.both hA hB) ?_
    rotate_left
    ·intro wx hBx
     (try dsimp only at hBx)
     go_simp
     try with_reducible rfl
    try simp only [Act.put,List.setIfInBounds_toArray,List.set_cons_zero,List.set_cons_succ]
    refine wpL_takeB (i:=4) (v:=?_) rfl (by kernel_rfl) (by kernel_rfl) (by kernel_rfl) (by decide) (fun _ _ _ h=>h) (Or.inl ⟨by rfl,?_⟩) (SAB.both hA hB) ?_
    rotate_left
    ·intro wx hBx
     (try dsimp only at hBx)
     go_simp
     try with_reducible rfl
    try simp only [Act.put,List.setIfInBounds_toArray,List.set_cons_zero,List.set_cons_succ]
    refine wpL_one (i:=5) (by kernel_rfl) (StepL.mk rfl (fun K hK=>?_))
    refine step_store_blk rfl _ _ _ rfl wr.heap.size 4 70 _ [.int .i64 o3,.int .i64 x3,.string n3,.int .i64 l3,.int .i64 z3,.slice B3 p3 q3] rfl rfl HB28.out (by simp) (by kernel_rfl) rfl ?_
    intro wa hba hsa0
    have hsa : Same (· ≠ wr.heap.size) w8 wa:=Same.trans (Same.drew (Same.refl _ _)) hsa0 (fun _ h=>h)
    clear hsa0
    have hsa' : Same (fun i=>i = w3.heap.size ∨ i = w5.heap.size) w8 wa:=hsa.mono (fun i hi=>by omega)
    refine hK.out _ _ (SAB.both trivial hsa') (fun hSS=>?_)
    clear hK K hA hB
    have hB:=hSS.2
    have hA:=hSS.1 (by kernel_rfl)
    (try dsimp only at hB); (try dsimp only at hA); clear hSS
    try simp only [Act.put,List.setIfInBounds_toArray,List.set_cons_zero,List.set_cons_succ]
    refine wpL_takeB (i:=6) (v:=?_) rfl (by kernel_rfl) (by kernel_rfl) (by kernel_rfl) (by decide) (fun _ _ _ h=>h) (Or.inl ⟨by rfl,?_⟩) (SAB.both hA hB) ?_
    rotate_left
    ·intro wx hBx
     (try dsimp only at hBx)
     go_simp
     try with_reducible rfl
    try simp only [Act.put,List.setIfInBounds_toArray,List.set_cons_zero,List.set_cons_succ]
    refine wpL_one (i:=7) (by kernel_rfl) (StepL.mk rfl (fun K hK=>?_))
    refine step_store_blk rfl _ _ _ rfl wr.heap.size 10 70 _ [.int .i64 o4,.int .i64 x4,.string n4,.int .i64 l4,.int .i64 z4,.slice B4 p4 q4] rfl rfl hba (by simp [splice_size]) (by kernel_rfl) rfl ?_
    intro wb hbb hsb
    have hsb' : Same (fun i=>i = w3.heap.size ∨ i = w5.heap.size) w8 wb:=Same.trans hsa' hsb (fun i hi=>by omega)
    refine hK.out _ _ (SAB.both trivial hsb') (fun hSS=>?_)
    clear hK K hA hB
    have hB:=hSS.2
    have hA:=hSS.1 (by kernel_rfl)
    (try dsimp only at hB); (try dsimp only at hA); clear hSS
    try simp only [Act.put,List.setIfInBounds_toArray,List.set_cons_zero,List.set_cons_succ]
    refine wpL_takeB (i:=8) (v:=?_) rfl (by kernel_rfl) (by kernel_rfl) (by kernel_rfl) (by decide) (fun _ _ _ h=>h) (Or.inl ⟨by rfl,?_⟩) (SAB.both hA hB) ?_
    rotate_left
    ·intro wx hBx
     (try dsimp only at hBx)
     go_simp
     try with_reducible rfl
    try simp only [Act.put,List.setIfInBounds_toArray,List.set_cons_zero,List.set_cons_succ]
    refine wpL_one (i:=9) (by kernel_rfl) (StepL.mk rfl (fun K hK=>?_))
    refine step_store_one rfl _ _ _ rfl wr.heap.size 16 70 _ (.slice A8 m8 c8) rfl rfl hbb (by simp [splice_size]) (by kernel_rfl) rfl rfl ?_
    intro wd hbd hsd
    have hsd' : Same (fun i=>i = w3.heap.size ∨ i = w5.heap.size) w8 wd:=Same.trans hsb' hsd (fun i hi=>by omega)
    refine hK.out _ _ (SAB.both trivial hsd') (fun hSS=>?_)
    clear hK K hA hB
    have hB:=hSS.2
    have hA:=hSS.1 (by kernel_rfl)
    (try dsimp only at hB); (try dsimp only at hA); clear hSS
    try simp only [Act.put,List.setIfInBounds_toArray,List.set_cons_zero,List.set_cons_succ]
    refine wpL_takeB (i:=10) (v:=?_) rfl (by kernel_rfl) (by kernel_rfl) (by kernel_rfl) (by decide) (fun _ _ _ h=>h) (Or.inl ⟨by rfl,?_⟩) (SAB.both hA hB) ?_
    rotate_left
    ·intro wx hBx
     (try dsimp only at hBx)
     go_simp
     try with_reducible rfl
    try simp only [Act.put,List.setIfInBounds_toArray,List.set_cons_zero,List.set_cons_succ]
    refine wpL_one (i:=11) (by kernel_rfl) (StepL.mk rfl (fun K hK=>?_))
    refine step_store_one rfl _ _ _ rfl wr.heap.size 17 70 _ (.slice A9 m9 c9) rfl rfl hbd (by simp [splice_size]) (by kernel_rfl) rfl rfl ?_
    intro we hbe hse
    have hse' : Same (fun i=>i = w3.heap.size ∨ i = w5.heap.size) w8 we:=Same.trans hsd' hse (fun i hi=>by omega)
    refine hK.out _ _ (SAB.both trivial hse') (fun hSS=>?_)
    clear hK K hA hB
    have hB:=hSS.2
    have hA:=hSS.1 (by kernel_rfl)
    (try dsimp only at hB); (try dsimp only at hA); clear hSS
    try simp only [Act.put,List.setIfInBounds_toArray,List.set_cons_zero,List.set_cons_succ]
    refine wpL_done (by kernel_rfl) ?_
    have hbz : Blk we wr.heap.size 70 #[.int .i64 kind,.string name,.int .i64 sl,.int .i64 zl,.int .i64 o3,.int .i64 x3,.string n3,.int .i64 l3,.int .i64 z3,.slice B3 p3 q3,.int .i64 o4,.int .i64 x4,.string n4,.int .i64 l4,.int .i64 z4,.slice B4 p4 q4,.slice A8 m8 c8,.slice A9 m9 c9]:=by simpa [splice] using hbe
    have hs8e : Same (· ≠ wr.heap.size) w8 we:=Same.trans hsa (Same.trans hsb (Same.trans hsd hse (fun _ h=>h)) (fun _ h=>h)) (fun _ h=>h)
    have hze:=hs8e.size
    have hkre : Keep wr we:=Keep.write (Keep.trans HK12.out HK28.out) hs8e (Nat.le_refl _)
    have hxs : ∀ i,New w3 w2.heap.size i ∨ New w5 w4.heap.size i ∨ New w7 w6.heap.size i ∨ New w8 w7.heap.size i → Rest we w.heap.size v6 i:=fun i hi=>by
     have hge : wr.heap.size ≤ i ∧ i < we.heap.size:=by
      rcases hi with h | h | h | h
      ·exact ⟨by have:=h.1; omega,by have:=h.2; omega⟩
      ·exact ⟨by have:=h.1; omega,by have:=h.2; omega⟩
      ·exact ⟨by have:=h.1; omega,by have:=h.2; omega⟩
      ·exact ⟨by have:=h.1; omega,by have:=h.2; omega⟩
     exact ⟨by have:=HKR.out.size; omega,hge.2,HGR.out.fresh hge.1⟩
    have E3 : ExR we (Rest we w.heap.size v6) 5 [.int .i64 o3,.int .i64 x3,.string n3,.int .i64 l3,.int .i64 z3,.slice B3 p3 q3] e3:=ExR.more (fun i hi=>hxs i (.inl hi)) _ _ _ (ExR.keep (Same.trans (Same.mono (Keep.trans HK4.out HK48.out) (fun i (hi : New w3 w2.heap.size i)=>hi.2)) hs8e (fun i hi=>by have:=hi.1; omega)) _ _ _ HX3.out)
    have E5 : ExR we (Rest we w.heap.size v6) 5 [.int .i64 o4,.int .i64 x4,.string n4,.int .i64 l4,.int .i64 z4,.slice B4 p4 q4] e5:=ExR.more (fun i hi=>hxs i (.inr (.inl hi))) _ _ _ (ExR.keep (Same.trans (Same.mono (Keep.trans HK6.out HK68.out) (fun i (hi : New w5 w4.heap.size i)=>hi.2)) hs8e (fun i hi=>by have:=hi.1; omega)) _ _ _ HX5.out)
    have s7e : Same (New w7 w6.heap.size) w7 we:=Same.trans (Same.mono HK8.out (fun i (hi : New w7 w6.heap.size i)=>hi.2)) hs8e (fun i hi=>by have:=hi.1; omega)
    have E7 : SlR we (Rest we w.heap.size v6) 18 (StmR we (Rest we w.heap.size v6) n') A8 m8 c8 lb8:=(HX7.out.keep s7e (StmR.keep s7e _)).more (fun i hi=>hxs i (.inr (.inr (.inl hi)))) (StmR.more (fun i hi=>hxs i (.inr (.inr (.inl hi)))) _)
    have s8e : Same (New w8 w7.heap.size) w8 we:=hs8e.mono (fun i hi=>by have:=hi.1; omega)
    have E8 : SlR we (Rest we w.heap.size v6) 18 (StmR we (Rest we w.heap.size v6) n') A9 m9 c9 lb9:=(HX8.out.keep s8e (StmR.keep s8e _)).more (fun i hi=>hxs i (.inr (.inr (.inr hi)))) (StmR.more (fun i hi=>hxs i (.inr (.inr (.inr hi)))) _)
    have hst : StmR we (Rest we w.heap.size v6) (n' + 1) [.int .i64 kind,.string name,.int .i64 sl,.int .i64 zl,.int .i64 o3,.int .i64 x3,.string n3,.int .i64 l3,.int .i64 z3,.slice B3 p3 q3,.int .i64 o4,.int .i64 x4,.string n4,.int .i64 l4,.int .i64 z4,.slice B4 p4 q4,.slice A8 m8 c8,.slice A9 m9 c9] (.mk kind name sl zl e3 e5 lb8 lb9):=⟨HSL0.out,HZL0.out,[.int .i64 o3,.int .i64 x3,.string n3,.int .i64 l3,.int .i64 z3,.slice B3 p3 q3],[.int .i64 o4,.int .i64 x4,.string n4,.int .i64 l4,.int .i64 z4,.slice B4 p4 q4],A8,A9,m8,c8,m9,c9,rfl,E3,E5,E7,E8⟩
    have hgre:=Grow.same (StmR.good (n' + 1)) HGR.out hkre (fun i h1 h2=>h2)
    obtain ⟨css,g1,g2,g3,g4⟩:=hgre
    rw [hlk] at g1 g3
    have hone:=hst.one'
    have hkwe:=Keep.trans HKR.out hkre
    have hzwe:=hkwe.size
    clear hba hsa hsa' hbb hsb hsb' hbd hsd hsd' hbe hse hse' hs8e hxs E3 E5 E7 E8 s7e s8e hA hB
    have HBZ:=Lib.hid hbz
    have HKRE:=Lib.hid hkre
    have HST:=Lib.hid hst
    have G1:=Lib.hid g1
    have G2:=Lib.hid g2
    have G3:=Lib.hid g3
    have G4:=Lib.hid g4
    have HONE:=Lib.hid hone
    have HKWE:=Lib.hid hkwe
    clear hbz hkre hst g1 g2 g3 g4 hone hkwe
    go_upto_region 17 with (first
     | (refine wpList_load_all rfl _ (.tmp 9) rfl wr.heap.size 70 [.int .i64 kind,.string name,.int .i64 sl,.int .i64 zl,.int .i64 o3,.int .i64 x3,.string n3,.int .i64 l3,.int .i64 z3,.slice B3 p3 q3,.int .i64 o4,.int .i64 x4,.string n4,.int .i64 l4,.int .i64 z4,.slice B4 p4 q4,.slice A8 m8 c8,.slice A9 m9 c9] _ rfl HBZ.out Tryz.underlying70 rfl (by kernel_rfl) ?_)
     | (refine wpList_buildS rfl _ _ _ _ rfl Tryz.underlying61 _ [(0,.agg #[.int .i64 kind,.string name,.int .i64 sl,.int .i64 zl,.int .i64 o3,.int .i64 x3,.string n3,.int .i64 l3,.int .i64 z3,.slice B3 p3 q3,.int .i64 o4,.int .i64 x4,.string n4,.int .i64 l4,.int .i64 z4,.slice B4 p4 q4,.slice A8 m8 c8,.slice A9 m9 c9])] rfl (built_stm1 _ _ _ _ _ _ _ _ _ _ _ _ _ _ _ _ _ _ _ _ _ _ _ _ _ _) ?_)
     | (at_builtin; refine wpList_append_any _ rfl (.tmp 96) (.tmp 98) _ rfl w.heap.size 70 i0 _ 18 232 Tryz.underlying61 HI0.out IZ0.out IZ1.out IZ2.out rfl (by omega) v6 k css.flatten rfl (G3.out.alloc _) _ (some ⟨we.heap.size,0,none⟩) 1 1 [.int .i64 kind,.string name,.int .i64 sl,.int .i64 zl,.int .i64 o3,.int .i64 x3,.string n3,.int .i64 l3,.int .i64 z3,.slice B3 p3 q3,.int .i64 o4,.int .i64 x4,.string n4,.int .i64 l4,.int .i64 z4,.slice B4 p4 q4,.slice A8 m8 c8,.slice A9 m9 c9] rfl (Reads.new rfl) HONE.out (by simp [maxLen]; omega) (by omega) (by simp; omega) ?_; intro v9 w9 hown9 hg9 hat9))
    have hgrow:=Grow.push (w:=we) (l:=lo) (a:=.mk kind name sl zl e3 e5 lb8 lb9) (StmR.good (n' + 1)) (by rw [hlk]; exact G1.out) G2.out G4.out (Keep.new we _) (by rw [hlk]; exact hown9) hg9 hat9 rfl HST.out
    have hkfin : Keep w w9:=Same.append (Keep.alloc HKWE.out _) (G3.out.alloc _) hg9 (fun i hi=>hi) (by simp; omega)
    have hfin : ∀ bb : Bool,StsRel (n' + 1) w m v9 (.bool bb) (.int .i64 (k + 1)) w9:=fun bb=>⟨k + 1,bb,lo ++ [.mk kind name sl zl e3 e5 lb8 lb9],rfl,by simp,by omega,by simp [hlk],hgrow,hkfin⟩
    have HFIN:=Lib.hid hfin
    clear hfin
    clear hgrow hkfin hown9 hg9 hat9
    cases b2 with
    | false=>
     go_wp2_with fail
     go_roundw
     case rel=>exact HFIN.out _
     case measure=>simp [intOf]; omega
    | true=>
     cases y3 with
     | false=>
      go_wp2_with fail
      go_roundw
      case rel=>exact HFIN.out _
      case measure=>simp [intOf]; omega
     | true=>
      cases y5 with
      | false=>
       go_wp2_with fail
       go_roundw
       case rel=>exact HFIN.out _
       case measure=>simp [intOf]; omega
      | true=>
       cases y7 with
       | false=>
        go_wp2_with fail
        go_roundw
        case rel=>exact HFIN.out _
        case measure=>simp [intOf]; omega
       | true=>
        go_wp2_with fail
        go_roundw
        case rel=>exact HFIN.out _
        case measure=>simp [intOf]; omega
theorem sts_all : ∀ n,StsSaid n
 | 0=>sts_any 0 (fun k e=>by omega)
 | n + 1=>sts_any (n + 1) (fun k e=>by
  have e2 : k = n:=by omega
  rw [e2]
  exact sts_all n)
end Go.Proofs.YtipegaojiokppaaGreatDoor
