import Derived.Test.YtipegaojiokppaaGreatDoorRead9
import Derived.Test.YtipegaojiokppaaGreatDoorProcR1
set_option linter.unusedVariables false
set_option linter.unusedSimpArgs false
set_option maxRecDepth 100000
namespace Go.Proofs.YtipegaojiokppaaGreatDoor
open Go.RowKit Go.Proofs
theorem info_Exx : (Tryz.prog.info? 68).map (fun i=>(i.zero,i.size,i.bytes)) = some (some (.agg #[.int .i64 0,.int .i64 0,.string ⟨#[]⟩,.int .i64 0,.int .i64 0,.slice none 0 0]),6,72):=by kernel_rfl
def ExpPost (n : Nat) (w : World) (en : Ending) (w' : World) : Prop:=
 ∃ (cs : List Value) (b : Bool) (e : Ex),en = .returned (.tuple #[.agg cs.toArray,.bool b]) ∧ ExR w' (New w' w.heap.size) n cs e ∧ Keep w w'
def ExpSaid (n : Nat) : Prop:=∀ (w : World) (S : Nat → Prop) (V : Option Addr) (vm vc : Nat) (vs : List Vr) (cs : List Value) (e : Ex),(∀ i,S i → i < w.heap.size) → VarsR w S V vm vc vs → ExR w S n cs e → Ex.few 1000 n e → Calls Tryz.prog 80 #[.slice V vm vc,.agg cs.toArray] w (ExpPost n w)
def ExpCut (W : World) (b6 : Nat) (op val : Int) (name : ByteArray) (s7 : Value) (wx : World) : Prop:=
 ∃ (b : Bool) (s z : Int),s7 = .bool b ∧ I64 s ∧ I64 z ∧ Blk wx b6 68 #[.int .i64 op,.int .i64 val,.string name,.int .i64 s,.int .i64 z,.slice none 0 0] ∧ Same (fun i=>i < W.heap.size ∧ i ≠ b6) W wx
def ExpRel (n : Nat) (W : World) (b6 : Nat) (op val : Int) (name : ByteArray) (s z : Int) (m : Nat) (s7 i : Value) (wr : World) : Prop:=
 ∃ (k : Nat) (b : Bool) (A5 : Option Addr) (c5 : Nat) (l : List Ex),s7 = .bool b ∧ i = .int .i64 k ∧ k ≤ m ∧ l.length = k ∧ Blk wr b6 68 #[.int .i64 op,.int .i64 val,.string name,.int .i64 s,.int .i64 z,.slice A5 k c5] ∧ Grow (fun w S cs e=>ExR w S n cs e) 6 68 wr W.heap.size (.slice A5 k c5) l ∧ Same (fun i=>i < W.heap.size ∧ i ≠ b6) W wr
set_option maxHeartbeats 16000000 in
theorem exp_succ (n : Nat) (ih : ExpSaid n) : ExpSaid (n + 1):=by
 intro w S V vm vc vs cs e hS hvr hx hf
 obtain ⟨op,val,name,slot,size,args⟩:=e
 obtain ⟨hsl,hsz,A,m,c,rfl,hargs⟩:=hx
 obtain ⟨hf1,hf2⟩:=hf
 obtain ⟨i0,hi0,iz0,iz1,iz2⟩:=info_of info_Exx
 have hml:=hargs.1
 have hm1 : m ≤ 1000:=by omega
 have hmc:=hargs.2.1
 have hcm : c ≤ 9223372036854775807:=hargs.2.2.1
 have hbE : Blk ((w.alloc (.cells #[.int .i64 op,.int .i64 val,.string name,.int .i64 slot,.int .i64 size,.slice A m c] 68)).alloc (.cells #[.int .i64 0,.int .i64 0,.string ⟨#[]⟩,.int .i64 0,.int .i64 0,.slice none 0 0] 68)) w.heap.size 68 #[.int .i64 op,.int .i64 val,.string name,.int .i64 slot,.int .i64 size,.slice A m c]:=(Blk.new w _ _).alloc _
 have HS:=Lib.hid hS
 have HVR:=Lib.hid hvr
 have IH:=Lib.hid ih
 have HF2:=Lib.hid hf2
 have HARGS:=Lib.hid hargs
 have HSL:=Lib.hid hsl
 have HSZ:=Lib.hid hsz
 have HI0:=Lib.hid hi0
 have IZ0:=Lib.hid iz0
 have IZ1:=Lib.hid iz1
 have IZ2:=Lib.hid iz2
 have HML:=Lib.hid hml
 have HBE:=Lib.hid hbE
 clear hS hvr ih hf2 hargs hsl hsz hi0 iz0 iz1 iz2 hml hbE
 clear hf1
 go_enter Tryz.func80,Tryz.ntmps80
 go_upto_region 4 with (refine wpList_load_all rfl _ (.tmp 3) rfl w.heap.size 68 [.int .i64 op,.int .i64 val,.string name,.int .i64 slot,.int .i64 size,.slice A m c] _ rfl HBE.out Tryz.underlying68 rfl (by kernel_rfl) ?_)
 generalize hW : ((w.alloc (.cells #[.int .i64 op,.int .i64 val,.string name,.int .i64 slot,.int .i64 size,.slice A m c] 68)).alloc (.cells #[.int .i64 0,.int .i64 0,.string ⟨#[]⟩,.int .i64 0,.int .i64 0,.slice none 0 0] 68)).alloc (.cells #[.int .i64 op,.int .i64 val,.string name,.int .i64 slot,.int .i64 size,.slice none 0 0] 68) = W
 have hkW : Keep w W:=hW ▸ Keep.alloc (Keep.alloc (Keep.new w _) _) _
 have hb3 : Blk W w.heap.size 68 #[.int .i64 op,.int .i64 val,.string name,.int .i64 slot,.int .i64 size,.slice A m c]:=hW ▸ ((Blk.new w _ _).alloc _).alloc _
 have hb4 : Blk W (w.heap.size + 1) 68 #[.int .i64 0,.int .i64 0,.string ⟨#[]⟩,.int .i64 0,.int .i64 0,.slice none 0 0]:=hW ▸ blkM w _ _ _ _
 have hbW' : Blk W (w.heap.size + 2) 68 #[.int .i64 op,.int .i64 val,.string name,.int .i64 slot,.int .i64 size,.slice none 0 0]:=hW ▸ blkL w _ _ _ _
 have hzW : w.heap.size + 2 < W.heap.size:=hbW'.lt
 clear hW
 have c0 : W.cell? ⟨w.heap.size,0,none⟩ = some (.int .i64 op):=by rw [hb3.cell]; rfl
 have c2 : W.cell? ⟨w.heap.size,2,none⟩ = some (.string name):=by rw [hb3.cell]; rfl
 have HBW':=Lib.hid hbW'
 have HB3:=Lib.hid hb3
 have HB4:=Lib.hid hb4
 have HKW:=Lib.hid hkW
 clear hbW' hb3 hb4 hkW
 try simp only [Act.put,List.setIfInBounds_toArray,List.set_cons_zero,List.set_cons_succ]
 obtain ⟨nb,hnb⟩ : ∃ nb : Bool,nb = ((op == 2) || (op == 3)):=⟨_,rfl⟩
 go_cut [23] from 16 to 22 (fun s wx=>CutTB W nb s wx)
 case first=>
  have HNB:=Lib.hid hnb
  clear hnb
  cases q2 : (op == 2) with
  | true=>
   go_wp2_with fail
   go_meet
   exact ⟨by rw [HNB.out,q2]; rfl,rfl⟩
  | false=>
   go_wp2_with fail
   go_meet
   exact ⟨by rw [HNB.out,q2]; rfl,rfl⟩
 case rest=>
  obtain ⟨rfl,hww⟩:=hcut
  subst hww
  clear hnb
  go_upto_if 23 with fail
  go_cut [7,8,9,10] from 24 to 41 (fun s7 _ _ _ wx=>ExpCut W (w.heap.size + 2) op val name s7 wx)
  case first=>
   have hlook:=lookup_any W S V vm vc vs name (fun i hi=>by have:=HS.out i hi; omega) (HVR.out.keep (Same.mono HKW.out HS.out))
   have HLOOK:=Lib.hid hlook
   clear hlook
   have hno : ∀ b,ExpCut W (w.heap.size + 2) op val name (.bool b) W:=fun b=>⟨b,slot,size,rfl,HSL.out,HSZ.out,HBW'.out,Same.refl _ _⟩
   have hyes : ∀ (b : Bool) (ls lz : Int) (w1 w3 : World),I64 ls → I64 lz → Keep W w1 → Blk w3 (w.heap.size + 2) 68 #[.int .i64 op,.int .i64 val,.string name,.int .i64 ls,.int .i64 lz,.slice none 0 0] → Same (· ≠ w.heap.size + 2) w1 w3 → ExpCut W (w.heap.size + 2) op val name (.bool b) w3:=fun b ls lz w1 w3 h1 h2 hk hb hs=>⟨b,ls,lz,rfl,h1,h2,hb,Same.trans (Same.mono hk (fun i hi=>hi.1)) hs (fun i hi=>hi.2)⟩
   have HNO:=Lib.hid hno
   have HYES:=Lib.hid hyes
   clear hno hyes
   cases nb with
   | true=>
    go_wp2_with fail
    refine HLOOK.out.mono ?_
    rintro e w1 ⟨ls,lz,lb,rfl,hls,hlz,hk1⟩
    have hb1:=hk1.blk HBW'.out hzW
    have c01 : w1.cell? ⟨w.heap.size,0,none⟩ = some (.int .i64 op):=(hk1.cell (p:=⟨w.heap.size,0,none⟩) (by simp; omega)).trans c0
    have HB1:=Lib.hid hb1
    have HK1:=Lib.hid hk1
    have HLS:=Lib.hid hls
    have HLZ:=Lib.hid hlz
    clear hb1 hk1 hls hlz
    clear c2
    go_upto_region 7 with (first
     | (refine wpList_store_one rfl _ (.tmp 34) _ rfl (w.heap.size + 2) 3 68 _ (.int .i64 ls) rfl rfl HB1.out (by simp) (by kernel_rfl) rfl rfl ?_; intro w2 hb2 hs2; have HB2:=Lib.hid hb2; have HS2:=Lib.hid hs2; clear hb2 hs2)
     | (refine wpList_store_one rfl _ (.tmp 35) _ rfl (w.heap.size + 2) 4 68 _ (.int .i64 lz) rfl rfl HB2.out (by simp) (by kernel_rfl) rfl rfl ?_; intro w3 hb3 hs3; have HB3Q:=Lib.hid hb3; have HS3:=Lib.hid hs3; clear hb3 hs3))
    have hs13:=Same.trans HS2.out HS3.out (fun _ h=>h)
    have hb3' : Blk w3 (w.heap.size + 2) 68 #[.int .i64 op,.int .i64 val,.string name,.int .i64 ls,.int .i64 lz,.slice none 0 0]:=by simpa using HB3Q.out
    have c03 : w3.cell? ⟨w.heap.size,0,none⟩ = some (.int .i64 op):=(hs13.cell (p:=⟨w.heap.size,0,none⟩) (by simp)).trans c01
    clear HB2 HS2 HB3Q HS3 c01
    have HS13:=Lib.hid hs13
    have HB3':=Lib.hid hb3'
    clear hs13 hb3'
    cases q3 : (op == 3) with
    | true=>
     cases qg : decide (0 < lz) with
     | true=>
      go_wp2_with fail
      go_meet
      exact HYES.out _ ls lz w1 w3 HLS.out HLZ.out HK1.out HB3'.out HS13.out
     | false=>
      go_wp2_with fail
      go_meet
      exact HYES.out _ ls lz w1 w3 HLS.out HLZ.out HK1.out HB3'.out HS13.out
    | false=>
     cases qg : decide (0 < lz) with
     | true=>
      go_wp2_with fail
      go_meet
      exact HYES.out _ ls lz w1 w3 HLS.out HLZ.out HK1.out HB3'.out HS13.out
     | false=>
      go_wp2_with fail
      go_meet
      exact HYES.out _ ls lz w1 w3 HLS.out HLZ.out HK1.out HB3'.out HS13.out
   | false=>
    go_wp2_with fail
    go_meet
    exact HNO.out _
  case rest=>
   obtain ⟨b0,sl,zl,rfl,hsl0,hzl0,hb60,hsc⟩:=hcut
   obtain ⟨w2,hw2⟩ : ∃ w2 : World,w2 = wc:=⟨_,rfl⟩
   subst hw2
   have hz2:=hsc.size
   have hb32:=hsc.blk HB3.out ⟨by omega,by omega⟩
   have hb42:=hsc.blk HB4.out ⟨by omega,by omega⟩
   have hkw2 : Keep w w2:=Same.trans HKW.out hsc (fun i hi=>⟨by omega,by omega⟩)
   have c5 : w2.cell? ⟨w.heap.size,5,none⟩ = some (.slice A m c):=by rw [hb32.cell]; rfl
   have hrel0 : ExpRel n w2 (w.heap.size + 2) op val name sl zl m (.bool b0) (.int .i64 0) w2:=⟨0,b0,none,0,[],rfl,rfl,Nat.zero_le _,rfl,hb60,Grow.nil_,Same.refl _ _⟩
   have hb6l:=hb60.lt
   have HSL0:=Lib.hid hsl0
   have HZL0:=Lib.hid hzl0
   have HB32:=Lib.hid hb32
   have HB42:=Lib.hid hb42
   have HKW2:=Lib.hid hkw2
   have HREL0:=Lib.hid hrel0
   clear hsl0 hzl0 hb32 hb42 hkw2 hrel0
   clear hb60 hsc c0 c2
   go_wp2_with fail
   go_loopw [7,11] (fun s i wr=>ExpRel n w2 (w.heap.size + 2) op val name sl zl m s i wr) (fun _ i _=>m - (intOf i).toNat)
   case atStart=>exact HREL0.out
   case round=>
    clear HREL0
    obtain ⟨k,b,A5,c5',l,rfl,rfl,hk,hlk,hb6,hgr,hsr⟩:=hrel
    have hzr:=hsr.size
    have c5r : wr.cell? ⟨w.heap.size,5,none⟩ = some (.slice A m c):=(hsr.cell (p:=⟨w.heap.size,5,none⟩) ⟨by show w.heap.size < _; omega,by show w.heap.size ≠ _; omega⟩).trans c5
    have hkw : Keep w wr:=Same.trans HKW2.out hsr (fun i hi=>⟨by omega,by omega⟩)
    by_cases hkm : k < m
    ·obtain ⟨b',off',cs',a,rfl,hSb,ha,hR,hl,hcell⟩:=HARGS.out.at_ hkm
     have hrg : wr.rangeAt b' (off' + k * 6) cs':=fun j u hu=>(hkw.cell (p:=⟨b',off' + k * 6 + j,none⟩) (HS.out b' hSb)).trans (hcell j u hu)
     have hRr:=ExR.keep (Same.mono hkw HS.out) _ _ _ hR
     have hfa:=HF2.out a (List.mem_of_getElem? ha)
     have hd1 : decide (k < m) = true:=by simpa using hkm
     have hd2 : (0 : Int) ≤ k:=by omega
     have hd3 : (k : Int) < m:=by omega
     have hlen:=hR.len
     clear hR hcell ha
     have HGR:=Lib.hid hgr
     have HSR:=Lib.hid hsr
     have HRG:=Lib.hid hrg
     have HRR:=Lib.hid hRr
     have HFA:=Lib.hid hfa
     have HKW:=Lib.hid hkw
     have HLEN:=Lib.hid hlen
     have HB6:=Lib.hid hb6
     clear hgr hsr hrg hRr hfa hkw hlen hb6
     go_wp2_with (refine wpList_load_mid rfl _ (.tmp 54) rfl b' (off' + k * 6) rfl cs' _ HRG.out Tryz.underlying68 rfl (info_ex HLEN.out) ?_)
     refine (IH.out wr S V vm vc vs cs' a (fun i hi=>Nat.lt_of_lt_of_le (HS.out i hi) HKW.out.size) (HVR.out.keep (Same.mono HKW.out HS.out)) HRR.out HFA.out).mono ?_
     rintro e w3 ⟨cs3,y,e3,rfl,hx3,hk3⟩
     obtain ⟨op3,val3,name3,slot3,size3,args3,A3,m3,c3,he3,rfl⟩:=ExR.open_ hx3
     have hz3:=hk3.size
     have hb63:=hk3.blk HB6.out HB6.out.lt
     have HX3:=Lib.hid hx3
     have HK3:=Lib.hid hk3
     have HB63:=Lib.hid hb63
     clear hx3 hk3 hb63
     clear c5r
     go_upto_region 12 with (refine wpList_store_all rfl _ (.tmp 12) (.tmp 57) rfl w3.heap.size 68 _ [.int .i64 op3,.int .i64 val3,.string name3,.int .i64 slot3,.int .i64 size3,.slice A3 m3 c3] rfl rfl (Blk.new _ _ _) rfl (by kernel_rfl) rfl ?_; intro w4 hb4 hs4)
     have hk4 : Keep w3 w4:=Keep.write (Keep.new _ _) hs4 (Nat.le_refl _)
     have hz4 : w3.heap.size < w4.heap.size:=hb4.lt
     clear hs4
     have hk34:=Keep.trans HK3.out hk4
     have hb64:=hk4.blk HB63.out HB63.out.lt
     have c64 : w4.cell? ⟨w.heap.size + 2,5,none⟩ = some (.slice A5 k c5'):=by rw [hb64.cell]; rfl
     have hgr4:=Grow.same (ExR.good n) HGR.out hk34 (fun i h1 h2=>h2)
     obtain ⟨css,g1,g2,g3,g4⟩:=hgr4
     have hx4:=ExR.keep (hk4.mono (fun i (hi : New w3 wr.heap.size i)=>hi.2)) _ _ _ HX3.out
     have hel:=ExR.more (T:=Rest w4 w2.heap.size (.slice A5 k c5')) (fun i hi=>⟨by have:=hi.1; omega,by have:=hi.2; omega,HGR.out.fresh hi.1⟩) _ _ _ hx4
     have hone:=hx4.one'
     have hlen6 : ([.int .i64 op3,.int .i64 val3,.string name3,.int .i64 slot3,.int .i64 size3,.slice A3 m3 c3] : List Value).length = 6:=rfl
     have hqn:=HGR.out.len
     rw [hlk] at g1 g3
     have HK4:=Lib.hid hk4
     have HB4:=Lib.hid hb4
     have HK34:=Lib.hid hk34
     have HB64:=Lib.hid hb64
     have G1:=Lib.hid g1
     have G2:=Lib.hid g2
     have G3:=Lib.hid g3
     have G4:=Lib.hid g4
     have HEL:=Lib.hid hel
     have HONE:=Lib.hid hone
     clear hk4 hb4 hk34 hb64 g1 g2 g3 g4 hel hone
     clear hx4 he3
     go_upto_region 13 with (first
      | (refine wpList_load_all rfl _ (.tmp 12) rfl w3.heap.size 68 [.int .i64 op3,.int .i64 val3,.string name3,.int .i64 slot3,.int .i64 size3,.slice A3 m3 c3] _ rfl HB4.out Tryz.underlying68 rfl (by kernel_rfl) ?_)
      | (refine wpList_buildS rfl _ _ _ _ rfl Tryz.underlying66 _ [(0,.agg #[.int .i64 op3,.int .i64 val3,.string name3,.int .i64 slot3,.int .i64 size3,.slice A3 m3 c3])] rfl (built_ex1 _ _ _ _ _ _ _ _) ?_)
      | (at_builtin; refine wpList_append_any _ rfl (.tmp 60) (.tmp 62) _ rfl w2.heap.size 68 i0 _ 6 72 Tryz.underlying66 HI0.out IZ0.out IZ1.out IZ2.out rfl (by omega) (.slice A5 k c5') k css.flatten rfl (G3.out.alloc _) _ (some ⟨w4.heap.size,0,none⟩) 1 1 [.int .i64 op3,.int .i64 val3,.string name3,.int .i64 slot3,.int .i64 size3,.slice A3 m3 c3] rfl (Reads.new rfl) HONE.out (by simp [maxLen]; omega) (by omega) (by simp; omega) ?_; intro v5 w5 hown5 hg5 hat5; have hform:=own_form hown5; obtain ⟨A8,c8,hv5,hn8,hc8⟩:=hform; subst hv5; have HOWN5:=Lib.hid hown5; have HG5:=Lib.hid hg5; have HAT5:=Lib.hid hat5; clear hown5 hg5 hat5)
      | (refine wpList_store_one rfl _ (.tmp 64) _ rfl (w.heap.size + 2) 5 68 _ (.slice A8 (k + 1) c8) rfl rfl ((Same.append (S:=(· < w2.heap.size)) ((Keep.new w4 _).mono (fun i hi=>by omega)) (G3.out.alloc _) HG5.out (fun i hi=>hi) (by simp; omega)).blk HB64.out hb6l) (by simp) (by kernel_rfl) rfl rfl ?_; intro w6 hb6' hs6))
     have hz4a : w4.heap.size ≤ (w4.alloc (.cells #[.int .i64 op3,.int .i64 val3,.string name3,.int .i64 slot3,.int .i64 size3,.slice A3 m3 c3] 68)).heap.size:=by simp
     have hs45 : Same (· < w2.heap.size) w4 w5:=Same.append (S:=(· < w2.heap.size)) ((Keep.new w4 _).mono (fun i hi=>by omega)) (G3.out.alloc _) HG5.out (fun i hi=>hi) (by simp; omega)
     have hz6:=hs6.size
     have hz5:=hs45.size
     have hgrow5:=Grow.push (w:=w4) (l:=l) (a:=e3) (ExR.good n) (by rw [hlk]; exact G1.out) G2.out G4.out (Keep.new w4 _) (by rw [hlk]; exact HOWN5.out) HG5.out HAT5.out rfl HEL.out
     have hgrow6:=Grow.same (T:=(· ≠ w.heap.size + 2)) (ExR.good n) hgrow5 hs6 (fun i h1 h2=>by omega)
     have hb66 : Blk w6 (w.heap.size + 2) 68 #[.int .i64 op,.int .i64 val,.string name,.int .i64 sl,.int .i64 zl,.slice A8 (k + 1) c8]:=by simpa using hb6'
     have hfin : ∀ bb : Bool,ExpRel n w2 (w.heap.size + 2) op val name sl zl m (.bool bb) (.int .i64 (k + 1)) w6:=fun bb=>⟨k + 1,bb,A8,c8,l ++ [e3],rfl,by simp,by omega,by simp [hlk],hb66,hgrow6,Same.trans HSR.out (Same.trans (Same.mono HK34.out (fun i (hi : i < w2.heap.size ∧ i ≠ w.heap.size + 2)=>by omega)) (Same.trans (hs45.mono (fun i (hi : i < w2.heap.size ∧ i ≠ w.heap.size + 2)=>hi.1)) hs6 (fun i hi=>hi.2)) (fun i hi=>hi)) (fun i hi=>hi)⟩
     have HFIN:=Lib.hid hfin
     clear hfin
     clear hgrow5 hgrow6 hb66 hb6' hs6 hs45 c64
     cases b with
     | true=>
      go_wp2_with fail
      go_roundw
      case rel=>exact HFIN.out _
      case measure=>simp [intOf]; omega
     | false=>
      go_wp2_with fail
      go_roundw
      case rel=>exact HFIN.out _
      case measure=>simp [intOf]; omega
    ·skip
     have hd1 : decide (k < m) = false:=by simpa using hkm
     obtain ⟨A8,c8,hv8,hsl8⟩:=Grow.done (ExR.good n) hgr
     rw [hlk] at hv8 hsl8
     injection hv8 with hv81 _ hv82
     subst hv81 hv82
     have hb4r:=hsr.blk HB42.out ⟨by omega,by omega⟩
     have HB6:=Lib.hid hb6
     have HB4R:=Lib.hid hb4r
     have HSL8:=Lib.hid hsl8
     have HSR:=Lib.hid hsr
     have HKW:=Lib.hid hkw
     clear hb6 hb4r hsl8 hsr hkw
     clear hgr
     go_wp2_with (first
      | (refine wpList_load_all rfl _ (.tmp 6) rfl (w.heap.size + 2) 68 [.int .i64 op,.int .i64 val,.string name,.int .i64 sl,.int .i64 zl,.slice A5 k c5'] _ rfl HB6.out Tryz.underlying68 rfl (by kernel_rfl) ?_)
      | (refine wpList_store_all rfl _ (.tmp 4) (.tmp 69) rfl (w.heap.size + 1) 68 _ [.int .i64 op,.int .i64 val,.string name,.int .i64 sl,.int .i64 zl,.slice A5 k c5'] rfl rfl HB4R.out rfl (by kernel_rfl) rfl ?_; intro w7 hb7 hs7; have HB7:=Lib.hid hb7; have HS7:=Lib.hid hs7; clear hb7 hs7))
     have hz7:=HS7.out.size
     have hm : ∀ i,New wr w2.heap.size i → New w7 w.heap.size i:=fun i hi=>⟨by have:=hi.1; omega,by have:=hi.2; omega⟩
     have h67 : Same (New wr w2.heap.size) wr w7:=HS7.out.mono (fun i hi=>by have:=hi.1; omega)
     refine bodyPost_ret (results_cell_tmp' Tryz.results80 _ _ _ ⟨w.heap.size + 1,0,none⟩ _ _ rfl rfl (loadVar_blk [.int .i64 op,.int .i64 val,.string name,.int .i64 sl,.int .i64 zl,.slice A5 k c5'] _ HB7.out (fun j v hv=>by simpa using hv) Tryz.underlying68 rfl (by kernel_rfl))) rfl ?_
     refine ⟨[.int .i64 op,.int .i64 val,.string name,.int .i64 sl,.int .i64 zl,.slice A5 k c5'],b,.mk op val name sl zl l,rfl,⟨HSL0.out,HZL0.out,A5,k,c5',rfl,?_⟩,Keep.write HKW.out HS7.out (by omega)⟩
     exact (HSL8.out.keep h67 (ExR.keep h67 n)).more hm (ExR.more hm n)
theorem exp_all : ∀ n,ExpSaid n
 | 0=>fun _ _ _ _ _ _ _ _ _ _ h=>h.elim
 | n + 1=>exp_succ n (exp_all n)
end Go.Proofs.YtipegaojiokppaaGreatDoor
