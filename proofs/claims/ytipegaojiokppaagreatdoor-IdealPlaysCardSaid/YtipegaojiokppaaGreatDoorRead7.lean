import Derived.Test.YtipegaojiokppaaGreatDoorRead5
set_option linter.unusedVariables false
set_option linter.unusedSimpArgs false
set_option maxRecDepth 100000
namespace Go.Proofs.YtipegaojiokppaaGreatDoor
open Go.RowKit Go.Proofs
def CutB3 (W : World) (s5 s6 s7 : Value) (wx : World) : Prop:=∃ b5 b6 b7,s5 = .bool b5 ∧ s6 = .bool b6 ∧ s7 = .bool b7 ∧ Keep W wx
def FineSaid (n : Nat) : Prop:=∀ (w : World) (S : Nat → Prop) (A : Option Addr) (m c : Nat) (l : List Stm),(∀ i,S i → i < w.heap.size) → SlR w S 18 (fun cs s=>StmR w S n cs s) A m c l → l.length ≤ 1000 → (∀ a ∈ l,Stm.few 1000 n a) → Calls Tryz.prog 77 #[.slice A m c] w (SomeB w)
set_option maxHeartbeats 16000000 in
theorem fine_any (n : Nat) (ih : ∀ k,n = k + 1 → FineSaid k) : FineSaid n:=by
 intro w S A m c l hS hsl hl hf
 have hml:=hsl.1
 have hm1 : m ≤ 1000:=by omega
 have HS:=Lib.hid hS
 have HSL:=Lib.hid hsl
 have IH:=Lib.hid ih
 have HF:=Lib.hid hf
 have HML:=Lib.hid hml
 clear hS hsl ih hf hml
 clear hl
 go_enter Tryz.func77,Tryz.ntmps77
 go_wp2_with fail
 go_loopw [3] (fun i wr=>IdxRel w m i wr) (fun i _=>m - (intOf i).toNat)
 case atStart=>exact ⟨0,rfl,by omega,Same.refl _ _⟩
 case round=>
  obtain ⟨k,rfl,hk,hkr⟩:=hrel
  by_cases hkm : k < m
  case neg=>
   have hd1 : decide (k < m) = false:=by simpa using hkm
   have HKR:=Lib.hid hkr
   clear hkr
   go_wp2_with fail
   go_ret
   exact ⟨_,rfl,HKR.out⟩
  obtain ⟨b',off',cs',s,rfl,hSb,ha,hR,hll,hcell⟩:=HSL.out.at_ hkm
  obtain ⟨n',rfl⟩ : ∃ n',n = n' + 1:=by
   cases n with
   | zero=>exact hR.elim
   | succ n'=>exact ⟨n',rfl⟩
  obtain ⟨kind,name,slot,size,place,value,body,els,o1,x1,n1,l1,z1,B1,p1,q1,o2,x2,n2,l2,z2,B2,p2,q2,A6,A7,m6,c6,m7,c7,hse,rfl,hpl,hva,hbo,hel⟩:=StmR.open_ hR
  have hfs:=HF.out s (List.mem_of_getElem? ha)
  rw [hse] at hfs
  obtain ⟨f1,f2,f3,f4,f5,f6⟩:=hfs
  have hrg : wr.rangeAt b' (off' + k * 18) [.int .i64 kind,.string name,.int .i64 slot,.int .i64 size,.int .i64 o1,.int .i64 x1,.string n1,.int .i64 l1,.int .i64 z1,.slice B1 p1 q1,.int .i64 o2,.int .i64 x2,.string n2,.int .i64 l2,.int .i64 z2,.slice B2 p2 q2,.slice A6 m6 c6,.slice A7 m7 c7]:=fun j u hu=>(hkr.cell (p:=⟨b',off' + k * 18 + j,none⟩) (HS.out b' hSb)).trans (hcell j u hu)
  have hd1 : decide (k < m) = true:=by simpa using hkm
  have hd2 : (0 : Int) ≤ k:=by omega
  have hd3 : (k : Int) < m:=by omega
  have ihn:=IH.out n' rfl
  clear hcell hR hll hse ha hSb
  have HRG:=Lib.hid hrg
  have HKR:=Lib.hid hkr
  have HPL:=Lib.hid hpl
  have HVA:=Lib.hid hva
  have HBO:=Lib.hid hbo
  have HEL:=Lib.hid hel
  have IHN:=Lib.hid ihn
  have F1:=Lib.hid f1
  have F2:=Lib.hid f2
  have F5:=Lib.hid f5
  have F6:=Lib.hid f6
  clear hrg hkr hpl hva hbo hel ihn f1 f2 f5 f6
  go_upto_region 5 with (first
   | (refine wpList_load_mid rfl _ (.tmp 16) rfl b' (off' + k * 18) rfl [.int .i64 kind,.string name,.int .i64 slot,.int .i64 size,.int .i64 o1,.int .i64 x1,.string n1,.int .i64 l1,.int .i64 z1,.slice B1 p1 q1,.int .i64 o2,.int .i64 x2,.string n2,.int .i64 l2,.int .i64 z2,.slice B2 p2 q2,.slice A6 m6 c6,.slice A7 m7 c7] _ HRG.out Tryz.underlying70 rfl (by kernel_rfl) ?_)
   | (refine wpList_store_all rfl _ (.tmp 4) (.tmp 17) rfl wr.heap.size 70 _ [.int .i64 kind,.string name,.int .i64 slot,.int .i64 size,.int .i64 o1,.int .i64 x1,.string n1,.int .i64 l1,.int .i64 z1,.slice B1 p1 q1,.int .i64 o2,.int .i64 x2,.string n2,.int .i64 l2,.int .i64 z2,.slice B2 p2 q2,.slice A6 m6 c6,.slice A7 m7 c7] rfl rfl (Blk.new _ _ _) rfl (by kernel_rfl) rfl ?_; intro w1 hb1 hs1))
  have hk1 : Keep wr w1:=Keep.write (Keep.new _ _) hs1 (Nat.le_refl _)
  have hkw1 : Keep w w1:=Keep.trans HKR.out hk1
  have bS : ∀ wx,Keep w1 wx → Blk wx wr.heap.size 70 #[.int .i64 kind,.string name,.int .i64 slot,.int .i64 size,.int .i64 o1,.int .i64 x1,.string n1,.int .i64 l1,.int .i64 z1,.slice B1 p1 q1,.int .i64 o2,.int .i64 x2,.string n2,.int .i64 l2,.int .i64 z2,.slice B2 p2 q2,.slice A6 m6 c6,.slice A7 m7 c7]:=fun wx hx=>hx.blk hb1 hb1.lt
  have c0 : ∀ wx,Keep w1 wx → wx.cell? ⟨wr.heap.size,0,none⟩ = some (.int .i64 kind):=fun wx hx=>by rw [(bS wx hx).cell]; rfl
  have c1 : ∀ wx,Keep w1 wx → wx.cell? ⟨wr.heap.size,1,none⟩ = some (.string name):=fun wx hx=>by rw [(bS wx hx).cell]; rfl
  have c2 : ∀ wx,Keep w1 wx → wx.cell? ⟨wr.heap.size,2,none⟩ = some (.int .i64 slot):=fun wx hx=>by rw [(bS wx hx).cell]; rfl
  have c3 : ∀ wx,Keep w1 wx → wx.cell? ⟨wr.heap.size,3,none⟩ = some (.int .i64 size):=fun wx hx=>by rw [(bS wx hx).cell]; rfl
  have c16 : ∀ wx,Keep w1 wx → wx.cell? ⟨wr.heap.size,16,none⟩ = some (.slice A6 m6 c6):=fun wx hx=>by rw [(bS wx hx).cell]; rfl
  have c17 : ∀ wx,Keep w1 wx → wx.cell? ⟨wr.heap.size,17,none⟩ = some (.slice A7 m7 c7):=fun wx hx=>by rw [(bS wx hx).cell]; rfl
  have slt : ∀ wx,Keep w1 wx → ∀ i,S i → i < wx.heap.size:=fun wx hx i hi=>Nat.lt_of_lt_of_le (HS.out i hi) (Keep.trans hkw1 hx).size
  have sam : ∀ wx,Keep w1 wx → Same S w wx:=fun wx hx=>Same.mono (Keep.trans hkw1 hx) HS.out
  have keyP : ∀ wx,Keep w1 wx → Calls Tryz.prog 88 #[.agg #[.int .i64 o1,.int .i64 x1,.string n1,.int .i64 l1,.int .i64 z1,.slice B1 p1 q1]] wx (SomeB wx):=fun wx hx=>good_all 5 wx S [.int .i64 o1,.int .i64 x1,.string n1,.int .i64 l1,.int .i64 z1,.slice B1 p1 q1] place (slt wx hx) (ExR.keep (sam wx hx) _ _ _ HPL.out) F1.out
  have keyV : ∀ wx,Keep w1 wx → Calls Tryz.prog 88 #[.agg #[.int .i64 o2,.int .i64 x2,.string n2,.int .i64 l2,.int .i64 z2,.slice B2 p2 q2]] wx (SomeB wx):=fun wx hx=>good_all 5 wx S [.int .i64 o2,.int .i64 x2,.string n2,.int .i64 l2,.int .i64 z2,.slice B2 p2 q2] value (slt wx hx) (ExR.keep (sam wx hx) _ _ _ HVA.out) F2.out
  have keyB : ∀ wx,Keep w1 wx → Calls Tryz.prog 77 #[.slice A6 m6 c6] wx (SomeB wx):=fun wx hx=>IHN.out wx S A6 m6 c6 body (slt wx hx) (HBO.out.keep (sam wx hx) (StmR.keep (sam wx hx) _)) f3 F5.out
  have keyE : ∀ wx,Keep w1 wx → Calls Tryz.prog 77 #[.slice A7 m7 c7] wx (SomeB wx):=fun wx hx=>IHN.out wx S A7 m7 c7 els (slt wx hx) (HEL.out.keep (sam wx hx) (StmR.keep (sam wx hx) _)) f4 F6.out
  have k0:=c0 w1 (Same.refl _ _)
  have HK1:=Lib.hid hk1
  have HKW1:=Lib.hid hkw1
  have BS:=Lib.hid bS
  have C0:=Lib.hid c0
  have C1:=Lib.hid c1
  have C2:=Lib.hid c2
  have C3:=Lib.hid c3
  have C16:=Lib.hid c16
  have C17:=Lib.hid c17
  have KEYP:=Lib.hid keyP
  have KEYV:=Lib.hid keyV
  have KEYB:=Lib.hid keyB
  have KEYE:=Lib.hid keyE
  clear hk1 hkw1 bS c0 c1 c2 c3 c16 c17 keyP keyV keyB keyE
  clear hb1 hs1 slt sam HRG HPL HVA HBO HEL IHN F1 F2 F5 F6 f3 f4
  try simp only [Act.put,List.setIfInBounds_toArray,List.set_cons_zero,List.set_cons_succ]
  go_cut [5,6,7] from 8 to 41 (fun s5 s6 s7 wx=>CutB3 w1 s5 s6 s7 wx)
  case first=>
   cases d1 : (kind == 1) with
   | true=>
    cases d2 : (kind == 2) with
    | true=>
     cases d3 : (kind == 3) with
     | true=>go_quiet (fail); go_wp2_with fail; go_meet; exact ⟨_,_,_,rfl,rfl,rfl,Keep.draws _ _⟩
     | false=>go_quiet (fail); go_wp2_with fail; go_meet; exact ⟨_,_,_,rfl,rfl,rfl,Keep.draws _ _⟩
    | false=>
     cases d3 : (kind == 3) with
     | true=>go_quiet (fail); go_wp2_with fail; go_meet; exact ⟨_,_,_,rfl,rfl,rfl,Keep.draws _ _⟩
     | false=>go_quiet (fail); go_wp2_with fail; go_meet; exact ⟨_,_,_,rfl,rfl,rfl,Keep.draws _ _⟩
   | false=>
    cases d2 : (kind == 2) with
    | true=>
     cases d3 : (kind == 3) with
     | true=>go_quiet (fail); go_wp2_with fail; go_meet; exact ⟨_,_,_,rfl,rfl,rfl,Keep.draws _ _⟩
     | false=>go_quiet (fail); go_wp2_with fail; go_meet; exact ⟨_,_,_,rfl,rfl,rfl,Keep.draws _ _⟩
    | false=>
     cases d3 : (kind == 3) with
     | true=>go_quiet (fail); go_wp2_with fail; go_meet; exact ⟨_,_,_,rfl,rfl,rfl,Keep.draws _ _⟩
     | false=>go_quiet (fail); go_wp2_with fail; go_meet; exact ⟨_,_,_,rfl,rfl,rfl,Keep.draws _ _⟩
  case rest=>
   obtain ⟨b5,b6,b7,rfl,rfl,rfl,hkc⟩:=hcut
   obtain ⟨w2,hw2⟩ : ∃ w2 : World,w2 = wc:=⟨_,rfl⟩
   subst hw2
   clear k0
   have HKC:=Lib.hid hkc
   clear hkc
   go_upto_region 6 with fail
   go_cut [83] from 42 to 82 (fun s wx=>CutB w2 s wx)
   case first=>
    as_aux_lemma=>
    have e0:=C0.out w2 HKC.out
    have e1:=C1.out w2 HKC.out
    have e2:=C2.out w2 HKC.out
    have e3:=C3.out w2 HKC.out
    cases qa : decide (kind < 1) with
    | true=>
     go_wp2_with fail
     go_meet
     exact ⟨_,rfl,Same.refl _ _⟩
    | false=>
     cases qb : decide (6 < kind) with
     | true=>
      go_wp2_with fail
      go_meet
      exact ⟨_,rfl,Same.refl _ _⟩
     | false=>
      cases qc : (slot != 0) with
      | true=>
       go_wp2_with fail
       go_meet
       exact ⟨_,rfl,Same.refl _ _⟩
      | false=>
       cases qd : (size != 0) with
       | true=>
        go_wp2_with fail
        go_meet
        exact ⟨_,rfl,Same.refl _ _⟩
       | false=>
        cases b5 with
        | true=>
         cases qv : validB name with
         | true=>
          go_wp2_with (first | (go_at_call 76; refine (valid_is name _).mono ?_; rw [qv]; rintro e w3 ⟨rfl,hw3⟩; replace hw3:=hw3.symm; subst hw3) | (refine wpList_load_blkg (by rfl) _ (.tmp 79) rfl wr.heap.size 10 70 _ [.int .i64 o2,.int .i64 x2,.string n2,.int .i64 l2,.int .i64 z2,.slice B2 p2 q2] _ rfl (BS.out w2 HKC.out) (fun j u hu=>by match j,hu with | 0,hu | 1,hu | 2,hu | 3,hu | 4,hu | 5,hu=>exact hu) Tryz.underlying68 rfl (by kernel_rfl) ?_))
          refine (KEYV.out w2 HKC.out).mono ?_
          rintro e w3 ⟨bg,rfl,hk3⟩
          go_wp2_with fail
          go_meet
          exact ⟨_,rfl,hk3⟩
         | false=>
          go_wp2_with (go_at_call 76; refine (valid_is name _).mono ?_; rw [qv]; rintro e w3 ⟨rfl,hw3⟩; replace hw3:=hw3.symm; subst hw3)
          go_meet
          exact ⟨_,rfl,Same.refl _ _⟩
        | false=>
         cases qe : name.toList.isEmpty with
         | true=>
          go_wp2_with (refine wpList_load_blkg (by rfl) _ (.tmp 79) rfl wr.heap.size 10 70 _ [.int .i64 o2,.int .i64 x2,.string n2,.int .i64 l2,.int .i64 z2,.slice B2 p2 q2] _ rfl (BS.out w2 HKC.out) (fun j u hu=>by match j,hu with | 0,hu | 1,hu | 2,hu | 3,hu | 4,hu | 5,hu=>exact hu) Tryz.underlying68 rfl (by kernel_rfl) ?_)
          refine (KEYV.out w2 HKC.out).mono ?_
          rintro e w3 ⟨bg,rfl,hk3⟩
          go_wp2_with fail
          go_meet
          exact ⟨_,rfl,hk3⟩
         | false=>
          go_wp2_with fail
          go_meet
          exact ⟨_,rfl,Same.refl _ _⟩
   case rest=>
    obtain ⟨b,rfl,hk3⟩:=hcut
    obtain ⟨w3,hw3⟩ : ∃ w3 : World,w3 = wc:=⟨_,rfl⟩
    subst hw3
    have hk13:=Keep.trans HKC.out hk3
    have hkw3:=Keep.trans HKW1.out hk13
    clear hk3
    have HK13:=Lib.hid hk13
    have HKW3:=Lib.hid hkw3
    clear hk13 hkw3
    cases b with
    | true=>
     go_wp2_with fail
     go_ret
     exact ⟨_,rfl,HKW3.out⟩
    | false=>
     go_upto_region 8 with fail
     go_cut [121] from 84 to 120 (fun s wx=>CutB w3 s wx)
     case first=>
      have e0:=C0.out w3 HK13.out
      have hz : ∀ wx,Keep w3 wx → wx.cell? ⟨wr.heap.size,0,none⟩ = some (.int .i64 kind):=fun wx hx=>C0.out wx (Keep.trans HK13.out hx)
      have hz16 : ∀ wx,Keep w3 wx → wx.cell? ⟨wr.heap.size,16,none⟩ = some (.slice A6 m6 c6):=fun wx hx=>C16.out wx (Keep.trans HK13.out hx)
      have hz17 : ∀ wx,Keep w3 wx → wx.cell? ⟨wr.heap.size,17,none⟩ = some (.slice A7 m7 c7):=fun wx hx=>C17.out wx (Keep.trans HK13.out hx)
      cases b6 with
      | true=>
       as_aux_lemma=>
       go_wp2_with (refine wpList_load_blkg (by rfl) _ (.tmp 86) rfl wr.heap.size 4 70 _ [.int .i64 o1,.int .i64 x1,.string n1,.int .i64 l1,.int .i64 z1,.slice B1 p1 q1] _ rfl (BS.out w3 HK13.out) (fun j u hu=>by match j,hu with | 0,hu | 1,hu | 2,hu | 3,hu | 4,hu | 5,hu=>exact hu) Tryz.underlying68 rfl (by kernel_rfl) ?_)
       refine (KEYP.out w3 HK13.out).mono ?_
       rintro e w4 ⟨bg,rfl,hk4⟩
       have y0:=hz w4 hk4
       have y16:=hz16 w4 hk4
       have y17:=hz17 w4 hk4
       cases bg with
       | true=>
        cases b7 with
        | true=>
         cases q3 : (kind != 3) with
         | true=>
          cases q7 : decide (0 < m7) with
          | true=>
           go_wp2_with fail
           go_meet
           exact ⟨_,rfl,hk4⟩
          | false=>
           go_wp2_with fail
           go_meet
           exact ⟨_,rfl,hk4⟩
         | false=>
          go_wp2_with fail
          go_meet
          exact ⟨_,rfl,hk4⟩
        | false=>
         cases q6 : decide (0 < m6) with
         | true=>
          go_wp2_with fail
          go_meet
          exact ⟨_,rfl,hk4⟩
         | false=>
          cases q3 : (kind != 3) with
          | true=>
           cases q7 : decide (0 < m7) with
           | true=>
            go_wp2_with fail
            go_meet
            exact ⟨_,rfl,hk4⟩
           | false=>
            go_wp2_with fail
            go_meet
            exact ⟨_,rfl,hk4⟩
          | false=>
           go_wp2_with fail
           go_meet
           exact ⟨_,rfl,hk4⟩
       | false=>
        go_wp2_with fail
        go_meet
        exact ⟨_,rfl,hk4⟩
      | false=>
       as_aux_lemma=>
       go_wp2_with (refine wpList_load_blkg (by rfl) _ (.tmp 95) rfl wr.heap.size 4 70 _ [.int .i64 o1,.int .i64 x1,.string n1,.int .i64 l1,.int .i64 z1,.slice B1 p1 q1] _ rfl (BS.out w3 HK13.out) (fun j u hu=>by match j,hu with | 0,hu | 1,hu | 2,hu | 3,hu | 4,hu | 5,hu=>exact hu) Tryz.underlying68 rfl (by kernel_rfl) ?_)
       refine (zero_any w3 o1 x1 l1 z1 n1 B1 p1 q1).mono ?_
       rintro e w4 ⟨bg,rfl,hk4⟩
       have y0:=hz w4 hk4
       have y16:=hz16 w4 hk4
       have y17:=hz17 w4 hk4
       cases bg with
       | true=>
        cases b7 with
        | true=>
         cases q3 : (kind != 3) with
         | true=>
          cases q7 : decide (0 < m7) with
          | true=>
           go_wp2_with fail
           go_meet
           exact ⟨_,rfl,hk4⟩
          | false=>
           go_wp2_with fail
           go_meet
           exact ⟨_,rfl,hk4⟩
         | false=>
          go_wp2_with fail
          go_meet
          exact ⟨_,rfl,hk4⟩
        | false=>
         cases q6 : decide (0 < m6) with
         | true=>
          go_wp2_with fail
          go_meet
          exact ⟨_,rfl,hk4⟩
         | false=>
          cases q3 : (kind != 3) with
          | true=>
           cases q7 : decide (0 < m7) with
           | true=>
            go_wp2_with fail
            go_meet
            exact ⟨_,rfl,hk4⟩
           | false=>
            go_wp2_with fail
            go_meet
            exact ⟨_,rfl,hk4⟩
          | false=>
           go_wp2_with fail
           go_meet
           exact ⟨_,rfl,hk4⟩
       | false=>
        go_wp2_with fail
        go_meet
        exact ⟨_,rfl,hk4⟩
     case rest=>
      obtain ⟨b,rfl,hk4⟩:=hcut
      obtain ⟨w4,hw4⟩ : ∃ w4 : World,w4 = wc:=⟨_,rfl⟩
      subst hw4
      have hk14:=Keep.trans HK13.out hk4
      have hkw4:=Keep.trans HKW3.out hk4
      have e16:=C16.out w4 hk14
      clear hk4
      have HK14:=Lib.hid hk14
      have HKW4:=Lib.hid hkw4
      clear hk14 hkw4
      cases b with
      | true=>
       go_wp2_with fail
       go_ret
       exact ⟨_,rfl,HKW4.out⟩
      | false=>
       go_wp2_with fail
       refine (KEYB.out w4 HK14.out).mono ?_
       rintro e w5 ⟨bb,rfl,hk5⟩
       have hk15:=Keep.trans HK14.out hk5
       have hkw5:=Keep.trans HKW4.out hk5
       have e17:=C17.out w5 hk15
       clear hk5 e16
       have HK15:=Lib.hid hk15
       have HKW5:=Lib.hid hkw5
       clear hk15 hkw5
       cases bb with
       | false=>
        go_wp2_with fail
        go_ret
        exact ⟨_,rfl,HKW5.out⟩
       | true=>
        go_wp2_with fail
        refine (KEYE.out w5 HK15.out).mono ?_
        rintro e w6 ⟨be,rfl,hk6⟩
        have hkw6:=Keep.trans HKW5.out hk6
        have HKW6:=Lib.hid hkw6
        clear hkw6
        clear hk6 e17
        cases be with
        | false=>
         go_wp2_with fail
         go_ret
         exact ⟨_,rfl,HKW6.out⟩
        | true=>
         go_wp2_with fail
         go_roundw
         case rel=>exact ⟨k + 1,by go_num,by omega,HKW6.out⟩
         case measure=>simp [intOf]; omega
theorem fine_all : ∀ n,FineSaid n
 | 0=>fine_any 0 (fun k e=>by omega)
 | n + 1=>fine_any (n + 1) (fun k e=>by
  have e2 : k = n:=by omega
  rw [e2]
  exact fine_all n)
end Go.Proofs.YtipegaojiokppaaGreatDoor
