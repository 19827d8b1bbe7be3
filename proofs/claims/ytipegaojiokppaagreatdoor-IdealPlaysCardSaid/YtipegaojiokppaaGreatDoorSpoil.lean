import Derived.Test.YtipegaojiokppaaGreatDoorGL
import Derived.Test.YtipegaojiokppaaGreatDoorGQ
set_option linter.unusedVariables false
set_option linter.unusedSimpArgs false
set_option maxRecDepth 100000
namespace Go.Proofs.YtipegaojiokppaaGreatDoor
open Go.RowKit Go.Proofs
def CIntPost (B : Nat → Prop) (gc r : Nat) (w : World) (e : Ending) (w' : World) : Prop:=
 ∃ v : Int,(Lit.int .i64 v).wf = true ∧ e = .returned (.int .i64 v) ∧ (∃ r',r' ≤ r - 1 ∧ Cod w' B gc r') ∧ Only gc w w'
theorem cint_any (w : World) (B : Nat → Prop) (gc r : Nat) (h : Cod w B gc r) : Calls Tryz.prog 26 #[.pointer (some ⟨gc,0,none⟩)] w (CIntPost B gc r w):=by
 have H:=Lib.hid h
 clear h
 go_enter Tryz.func26,Tryz.ntmps26
 go_wp2_with fail
 refine (next_any _ B gc r 6 (H.out.alloc _) (by omega) (by omega)).mono ?_
 rintro e w1 ⟨v,hv0,hv1,rfl,hc1,ho1⟩
 have HC:=Lib.hid hc1
 have HO:=Lib.hid ho1
 clear hc1 ho1
 by_cases h5 : v = 5
 ·have hv : (v == 5) = true:=by simp [h5]
  have H5:=Lib.hid h5
  clear h5
  go_wp2_with fail
  refine (next_any _ B gc (r - 1) 10 HC.out (by omega) (by omega)).mono ?_
  rintro e w2 ⟨k,hk0,hk1,rfl,hc2,ho2⟩
  have ho:=Only.trans HO.out ho2
  have hcell : ∃ x : Int,(Lit.int .i64 x).wf = true ∧ w2.cell? ⟨w.heap.size,k.toNat,none⟩ = some (.int .i64 x):=by
   have hlt:=H.out.lt
   rw [ho.cell (p:=⟨w.heap.size,k.toNat,none⟩) ⟨by simp,by simp; omega⟩]
   obtain ⟨j,rfl⟩:=Int.eq_ofNat_of_zero_le hk0
   have hj : j < 10:=by omega
   simp only [Int.toNat_natCast]
   match j,hj with
   | 0,_ | 1,_ | 2,_ | 3,_ | 4,_ | 5,_ | 6,_ | 7,_ | 8,_ | 9,_=>refine ⟨_,?_,by simp; rfl⟩; decide
  obtain ⟨x,hwx,hcx⟩:=hcell
  have HO2:=Lib.hid ho
  have HC2:=Lib.hid hc2
  clear ho ho2 hc2
  go_wp2
  go_ret
  exact ⟨x,hwx,rfl,⟨r - 1 - 1,by omega,HC2.out⟩,Only.of_alloc HO2.out⟩
 ·have hv : (v == 5) = false:=by simp [h5]
  clear h5
  go_wp2_with fail
  refine (next_any _ B gc (r - 1) 12 HC.out (by omega) (by omega)).mono ?_
  rintro e w2 ⟨k,hk0,hk1,rfl,hc2,ho2⟩
  have HO2:=Lib.hid (Only.trans HO.out ho2)
  have HC2:=Lib.hid hc2
  clear ho2 hc2
  go_wp2
  go_ret
  exact ⟨k - 2,WalkArith.wf_i64 (by omega),rfl,⟨r - 1 - 1,by omega,HC2.out⟩,Only.of_alloc HO2.out⟩
def SpoilPost (B : Nat → Prop) (gc nl : Nat) (w : World) (e : Ending) (w' : World) : Prop:=
 ∃ (A : Option Addr) (c : Nat) (l' : List Chc),e = .returned (.slice A nl c) ∧ Sl encCh 6 w' (fun i=>i < w'.heap.size ∧ i ≠ gc) A nl c l' ∧ (∃ r',Cod w' B gc r') ∧ Only gc w w'
theorem spoil_fin {w w7 w8 : World} {B : Nat → Prop} {gc g nl c r : Nat} {l : List Chc} (hown : w8.ownsRow w.heap.size 57 6 (.slice (some ⟨g,0,none⟩) nl c) nl (l.flatMap encCh)) (hc : Cod w7 B gc r) (ho : Only gc w w7) (hs : Same (fun i=>i ≠ g) w7 w8) (hg : w.heap.size ≤ g) (hB : ¬ B g) (hl : l.length = nl) (hgw : gc < w.heap.size) :
  SpoilPost B gc nl w (.returned (.slice (some ⟨g,0,none⟩) nl c)) w8:=by
 subst hl
 obtain ⟨A,c',he,hsl⟩:=Sl.of_own (enc:=encCh) hown
 simp only [Value.slice.injEq,true_and] at he
 obtain ⟨rfl,rfl⟩:=he
 exact ⟨_,_,l,rfl,hsl.more (fun i hi=>⟨hi.2,by have:=hi.1; omega⟩),⟨r,hc.write hs hB⟩,Same.trans ho hs (fun i hi=>by show i ≠ g; have:=hi.1; omega)⟩
set_option maxHeartbeats 16000000 in
theorem spoil_any (w : World) (S B : Nat → Prop) (gc r : Nat) (AL : Option Addr) (nl c : Nat) (l : List Chc) (hcod : Cod w B gc r) (hsl : Sl encCh 6 w S AL nl c l) (hS : ∀ i,S i → i < w.heap.size ∧ i ≠ gc) (hn : nl ≤ 1000) :
  Calls Tryz.prog 11 #[.pointer (some ⟨gc,0,none⟩),.slice AL nl c] w (SpoilPost B gc nl w):=by
 by_cases h0 : nl = 0
 ·subst h0
  have e0 : ((((0 : Nat) : Int)) == 0) = true:=rfl
  have hfin : ∀ k,SpoilPost B gc 0 w (.returned (.slice AL 0 c)) (w.drewN k):=fun k=>⟨AL,c,l,rfl,(hsl.keep ((Keep.draws _ _).mono (fun i hi=>(hS i hi).1))).more (fun i hi=>⟨by have:=(hS i hi).1; have:=(Keep.draws w k).size; omega,(hS i hi).2⟩),⟨r,hcod.keep (Keep.draws _ _)⟩,(Keep.draws w k).mono (fun i hi=>hi.1)⟩
  have HFIN:=Lib.hid hfin
  clear hfin
  clear hsl hcod hS
  go_enter Tryz.func11,Tryz.ntmps11
  go_wp2_with fail
  go_ret
  exact HFIN.out 0
 obtain ⟨i0,hi0,iz0,is0,ib0⟩:=info_of info_Choice
 have e0 : ((nl : Int) == 0) = false:=by simp; omega
 have hgw:=hcod.lt
 have hbw:=hcod.2.1
 have hll:=hsl.1.symm
 have hone:=one_of encCh_one l
 have hrd:=(hsl.more hS).2.2.2
 have HGW:=Lib.hid hgw
 have HBW:=Lib.hid hbw
 have HLL:=Lib.hid hll
 have HONE:=Lib.hid hone
 have HRD:=Lib.hid hrd
 have HCOD:=Lib.hid hcod
 have HI0:=Lib.hid hi0
 have IZ0:=Lib.hid iz0
 have IS0:=Lib.hid is0
 have IB0:=Lib.hid ib0
 clear hgw hbw hll hone hrd hcod hi0 iz0 is0 ib0
 clear hsl hS
 go_enter Tryz.func11,Tryz.ntmps11
 go_wp2_with (at_builtin; refine wpList_append_any _ rfl (.const (.slice none 0 0)) (.tmp 11) 23 rfl w.heap.size 57 i0 _ 6 48 Tryz.underlying23 HI0.out IZ0.out IS0.out IB0.out rfl (by omega) (.slice none 0 0) 0 [] rfl (World.ownsRow_nil _ _ _ _) _ AL nl c (l.flatMap encCh) rfl HRD.out HONE.out (by simp [maxLen]; omega) (by omega) (Nat.le_refl _) ?_; intro v5 w5 howz hgz hatz; have HOW5:=Lib.hid howz; have HG5:=Lib.hid hgz; clear howz hgz hatz; refine Hid.out ?_)
 refine Lib.hid ?_
 have hown5 : w5.ownsRow w.heap.size 57 6 v5 nl (l.flatMap encCh):=by simpa using HOW5.out
 have hk5 : Keep w w5:=Same.append (Same.refl _ _) (World.ownsRow_nil _ w.heap.size 57 6) HG5.out (fun i hi=>hi) (Nat.le_refl _)
 have hz5:=hk5.size
 obtain ⟨A5,c5,rfl,-,-⟩:=own_form hown5
 obtain ⟨g,cur,rfl,hgb,hbk,hcs,hnc,hcm,htk⟩:=own_open hown5 (by omega)
 have hcod5:=HCOD.out.keep hk5
 have HGB:=Lib.hid hgb
 have HBK:=Lib.hid hbk
 have HCS:=Lib.hid hcs
 have HNC:=Lib.hid hnc
 have HCM:=Lib.hid hcm
 have HTK:=Lib.hid htk
 have HK5:=Lib.hid hk5
 have HCOD5:=Lib.hid hcod5
 clear hgb hbk hcs hnc hcm htk hk5 hcod5
 clear hown5 HOW5 HG5
 go_wp2_with fail
 refine (next_any w5 B gc r (nl : Int) HCOD5.out (by omega) (by omega)).mono ?_
 rintro e w6 ⟨k0,hk0,hk1,rfl,hc6,ho6⟩
 obtain ⟨k,rfl⟩:=Int.eq_ofNat_of_zero_le hk0
 have hkn : k < nl:=by omega
 obtain ⟨y,hy⟩ : ∃ y,l[k]? = some y:=⟨l[k]'(by have:=HLL.out; omega),List.getElem?_eq_getElem _⟩
 obtain ⟨yp,yk,yf,yi,yo,yv⟩:=y
 have hb6:=ho6.blk HBK.out ⟨HBK.out.lt,by have:=HGB.out; have:=HGW.out; omega⟩
 have ho06 : Only gc w w6:=Only.trans (HK5.out.mono (fun i hi=>hi.1)) ho6
 have HC6:=Lib.hid hc6
 have HO06:=Lib.hid ho06
 have HB6:=Lib.hid hb6
 have HY:=Lib.hid hy
 clear hc6 ho06 hb6 hy
 clear ho6 hk0
 go_wp2_with fail
 refine (next_any w6 B gc _ 6 HC6.out (by omega) (by omega)).mono ?_
 rintro e w7 ⟨t,ht0,ht6,rfl,hc7,ho7⟩
 have hb7:=ho7.blk HB6.out ⟨HB6.out.lt,by have:=HGB.out; have:=HGW.out; omega⟩
 have ho07:=Only.trans HO06.out ho7
 have hsz : k * 6 + 6 ≤ cur.size:=by have:=HCS.out; have:=HNC.out; have h1 : (k + 1) * 6 ≤ c5 * 6:=Nat.mul_le_mul_right 6 (by omega); omega
 have hgx : g ≠ gc:=by have:=HGB.out; have:=HGW.out; omega
 have hrow : ∀ (j : Nat) (u : Value),(encCh ⟨yp,yk,yf,yi,yo,yv⟩)[j]? = some u → cur[k * 6 + j]? = some u:=fun j u hu=>by
  have hr : j < 6:=(List.getElem?_eq_some_iff.1 hu).1
  have h:=row_of_take HTK.out (k * 6 + j) u
  rw [flat_get encCh_len l k j (by have:=HLL.out; omega) hr] at h
  have e : l[k]'(by have:=HLL.out; omega) = ⟨yp,yk,yf,yi,yo,yv⟩:=by have h1:=HY.out; rw [List.getElem?_eq_getElem (by have:=HLL.out; omega)] at h1; injection h1
  rw [e] at h
  exact h hu
 have q1 : (k : Int) < nl:=by omega
 have q2 : (0 : Int) ≤ k:=by omega
 have hc7':=hc7
 have HB7:=Lib.hid hb7
 have HO07:=Lib.hid ho07
 have HROW:=Lib.hid hrow
 have HC7:=Lib.hid hc7
 clear hb7 ho07 hrow hc7
 clear hc7' ho7 HBK HK5 HCOD5 HCOD HC6 HB6 HO06 hk1
 have hts : t = 0 ∨ t = 1 ∨ t = 2 ∨ t = 3 ∨ t = 4 ∨ t = 5:=by omega
 clear ht0 ht6
 rcases hts with rfl | rfl | rfl | rfl | rfl | rfl
 ·go_wp2_with fail
  refine (cint_any w7 B gc _ HC7.out).mono ?_
  rintro e w8p ⟨x,-,rfl,⟨r8,-,hc8⟩,ho8⟩
  have hb8p:=ho8.blk HB7.out ⟨HB7.out.lt,hgx⟩
  have hox:=Only.trans HO07.out ho8
  have hcodx:=hc8
  have HB8P:=Lib.hid hb8p
  have HOX:=Lib.hid hox
  have HCODX:=Lib.hid hcodx
  clear hb8p hox hcodx
  clear ho8 hc8
  go_upto_region 18 with (refine wpList_store_one rfl _ (.tmp 27) (.tmp 25) rfl g (k * 6 + 0) 57 cur (.int .i64 x) rfl rfl HB8P.out (by omega) (by kernel_rfl) rfl rfl ?_; intro w8 hb8 hs8)
  have hzf:=hs8.size
  have hgf : g < w8.heap.size:=hb8.lt
  have hown:=row_put (enc:=encCh) (e:=(⟨yp,yk,yf,yi,yo,yv⟩ : Chc)) (e':=(⟨x,yk,yf,yi,yo,yv⟩ : Chc)) (o:=0) encCh_len HGB.out hb8 HCS.out HNC.out HCM.out HTK.out HLL.out HY.out (by decide) rfl
  have hfin : SpoilPost B gc nl w (.returned (.slice (some ⟨g,0,none⟩) nl c5)) w8:=spoil_fin hown HCODX.out HOX.out hs8 (by have:=HGB.out; omega) (fun hh=>by have:=HBW.out _ hh; have:=HGB.out; omega) (by simpa using HLL.out) HGW.out
  have HFIN:=Lib.hid hfin
  clear hfin
  clear hown hb8 hs8
  go_wp2_with fail
  go_ret
  exact HFIN.out
 ·go_wp2_with fail
  refine (cint_any w7 B gc _ HC7.out).mono ?_
  rintro e w8p ⟨x,-,rfl,⟨r8,-,hc8⟩,ho8⟩
  have hb8p:=ho8.blk HB7.out ⟨HB7.out.lt,hgx⟩
  have hox:=Only.trans HO07.out ho8
  have hcodx:=hc8
  have HB8P:=Lib.hid hb8p
  have HOX:=Lib.hid hox
  have HCODX:=Lib.hid hcodx
  clear hb8p hox hcodx
  clear ho8 hc8
  go_upto_region 18 with (refine wpList_store_one rfl _ (.tmp 34) (.tmp 32) rfl g (k * 6 + 1) 57 cur (.int .i64 x) rfl rfl HB8P.out (by omega) (by kernel_rfl) rfl rfl ?_; intro w8 hb8 hs8)
  have hzf:=hs8.size
  have hgf : g < w8.heap.size:=hb8.lt
  have hown:=row_put (enc:=encCh) (e:=(⟨yp,yk,yf,yi,yo,yv⟩ : Chc)) (e':=(⟨yp,x,yf,yi,yo,yv⟩ : Chc)) (o:=1) encCh_len HGB.out hb8 HCS.out HNC.out HCM.out HTK.out HLL.out HY.out (by decide) rfl
  have hfin : SpoilPost B gc nl w (.returned (.slice (some ⟨g,0,none⟩) nl c5)) w8:=spoil_fin hown HCODX.out HOX.out hs8 (by have:=HGB.out; omega) (fun hh=>by have:=HBW.out _ hh; have:=HGB.out; omega) (by simpa using HLL.out) HGW.out
  have HFIN:=Lib.hid hfin
  clear hfin
  clear hown hb8 hs8
  go_wp2_with fail
  go_ret
  exact HFIN.out
 ·go_wp2_with fail
  refine (cint_any w7 B gc _ HC7.out).mono ?_
  rintro e w8p ⟨x,-,rfl,⟨r8,-,hc8⟩,ho8⟩
  have hb8p:=ho8.blk HB7.out ⟨HB7.out.lt,hgx⟩
  have hox:=Only.trans HO07.out ho8
  have hcodx:=hc8
  have HB8P:=Lib.hid hb8p
  have HOX:=Lib.hid hox
  have HCODX:=Lib.hid hcodx
  clear hb8p hox hcodx
  clear ho8 hc8
  go_upto_region 18 with (refine wpList_store_one rfl _ (.tmp 41) (.tmp 39) rfl g (k * 6 + 2) 57 cur (.int .i64 x) rfl rfl HB8P.out (by omega) (by kernel_rfl) rfl rfl ?_; intro w8 hb8 hs8)
  have hzf:=hs8.size
  have hgf : g < w8.heap.size:=hb8.lt
  have hown:=row_put (enc:=encCh) (e:=(⟨yp,yk,yf,yi,yo,yv⟩ : Chc)) (e':=(⟨yp,yk,x,yi,yo,yv⟩ : Chc)) (o:=2) encCh_len HGB.out hb8 HCS.out HNC.out HCM.out HTK.out HLL.out HY.out (by decide) rfl
  have hfin : SpoilPost B gc nl w (.returned (.slice (some ⟨g,0,none⟩) nl c5)) w8:=spoil_fin hown HCODX.out HOX.out hs8 (by have:=HGB.out; omega) (fun hh=>by have:=HBW.out _ hh; have:=HGB.out; omega) (by simpa using HLL.out) HGW.out
  have HFIN:=Lib.hid hfin
  clear hfin
  clear hown hb8 hs8
  go_wp2_with fail
  go_ret
  exact HFIN.out
 ·have c3 : ∀ wx,Only gc w7 wx → wx.cell? ⟨g,k * 6 + 3,none⟩ = some (.int .i64 yi):=fun wx hx=>by rw [(hx.blk HB7.out ⟨HB7.out.lt,hgx⟩).cell]; exact HROW.out 3 _ rfl
  go_upto_region 13 with fail
  refine wp_region_L 10 (fun wx=>Only gc w7 wx) (fun _=>True) (by kernel_rfl) (Same.drew (Same.refl _ _)) trivial (fun hA hB=>?_)
  have hku : Keep w7 w7.drew:=Same.drew (Same.refl _ _)
  generalize hu0 : w7.drew = u0 at hA hku ⊢
  clear hu0
  refine wpL_takeB (i:=0) (v:=?_) rfl (by kernel_rfl) (by kernel_rfl) (by kernel_rfl) (by decide) (fun _ _ _ h=>h) (Or.inl ⟨by rfl,?_⟩) (SAB.both hA hB) ?_
  rotate_left
  ·intro wx hBx
   (try dsimp only at hBx)
   go_simp
   try with_reducible rfl
  try simp only [Act.put,List.setIfInBounds_toArray,List.set_cons_zero,List.set_cons_succ]
  refine wpL_takeB (i:=1) (v:=?_) rfl (by kernel_rfl) (by kernel_rfl) (by kernel_rfl) (by decide) (fun _ _ _ h=>h) (Or.inl ⟨by rfl,?_⟩) (SAB.both hA hB) ?_
  rotate_left
  ·intro wx hBx
   (try dsimp only at hBx)
   go_simp
   try with_reducible rfl
  try simp only [Act.put,List.setIfInBounds_toArray,List.set_cons_zero,List.set_cons_succ]
  refine wpL_takeB (i:=2) (v:=?_) rfl (by kernel_rfl) (by kernel_rfl) (by kernel_rfl) (by decide) (fun _ _ _ h=>h) (Or.inl ⟨by rfl,?_⟩) (SAB.both hA hB) ?_
  rotate_left
  ·intro wx hBx
   (try dsimp only at hBx)
   go_simp
   try with_reducible rfl
  try simp only [Act.put,List.setIfInBounds_toArray,List.set_cons_zero,List.set_cons_succ]
  refine wpL_takeA (i:=3) (v:=?_) rfl (by kernel_rfl) (by kernel_rfl) (by kernel_rfl) (by kernel_rfl) (by decide) (fun _ _ _ h=>h) (Or.inl ⟨by rfl,?_⟩) hA hB ?_
  rotate_left
  ·rintro wx ⟨hAx,hBx⟩
   (try dsimp only at hBx); (try dsimp only at hAx)
   go_simp
   try with_reducible rfl
  try simp only [Act.put,List.setIfInBounds_toArray,List.set_cons_zero,List.set_cons_succ]
  refine wpL_takeB (i:=4) (v:=?_) rfl (by kernel_rfl) (by kernel_rfl) (by kernel_rfl) (by decide) (fun _ _ _ h=>h) (Or.inl ⟨by rfl,?_⟩) (SAB.both hA hB) ?_
  rotate_left
  ·intro wx hBx
   (try dsimp only at hBx)
   go_simp
   try with_reducible rfl
  try simp only [Act.put,List.setIfInBounds_toArray,List.set_cons_zero,List.set_cons_succ]
  refine wpL_one (i:=5) (by kernel_rfl) (StepL.mk rfl (fun K hK=>?_))
  go_simp
  refine (next_any u0 B gc _ 3 (HC7.out.keep hku) (by omega) (by omega)).mono ?_
  rintro e u1 ⟨qq,hq0,hq3,rfl,hc8,ho8⟩
  have hA1 : Only gc w7 u1:=Only.trans hA ho8
  have hw1 : IntKind.i64.wrap (1 + qq) = 1 + qq:=IntWalk.i64_in _ (by omega)
  refine hK.out _ _ (SAB.both hA1 trivial) (fun hSS=>?_)
  clear hK K hA hB
  have hB:=hSS.2
  have hA:=hSS.1 (by kernel_rfl)
  (try dsimp only at hB); (try dsimp only at hA); clear hSS
  try simp only [Act.put,List.setIfInBounds_toArray,List.set_cons_zero,List.set_cons_succ]
  refine wpL_takeB (i:=6) (v:=?_) rfl (by kernel_rfl) (by kernel_rfl) (by kernel_rfl) (by decide) (fun _ _ _ h=>h) (Or.inl ⟨by rfl,?_⟩) (SAB.both hA hB) ?_
  rotate_left
  ·intro wx hBx
   (try dsimp only at hBx)
   go_simp
   try with_reducible rfl
  try simp only [Act.put,List.setIfInBounds_toArray,List.set_cons_zero,List.set_cons_succ]
  refine wpL_takeB (i:=7) (v:=?_) rfl (by kernel_rfl) (by kernel_rfl) (by kernel_rfl) (by decide) (fun _ _ _ h=>h) (Or.inl ⟨by rfl,?_⟩) (SAB.both hA hB) ?_
  rotate_left
  ·intro wx hBx
   (try dsimp only at hBx)
   go_simp
   try with_reducible rfl
  try simp only [Act.put,List.setIfInBounds_toArray,List.set_cons_zero,List.set_cons_succ]
  refine wpL_takeB (i:=8) (v:=?_) rfl (by kernel_rfl) (by kernel_rfl) (by kernel_rfl) (by decide) (fun _ _ _ h=>h) (Or.inl ⟨by rfl,?_⟩) (SAB.both hA hB) ?_
  rotate_left
  ·intro wx hBx
   (try dsimp only at hBx)
   go_simp
   try with_reducible rfl
  try simp only [Act.put,List.setIfInBounds_toArray,List.set_cons_zero,List.set_cons_succ]
  refine wpL_takeB (i:=9) (v:=?_) rfl (by kernel_rfl) (by kernel_rfl) (by kernel_rfl) (by decide) (fun _ _ _ h=>h) (Or.inl ⟨by rfl,?_⟩) (SAB.both hA hB) ?_
  rotate_left
  ·intro wx hBx
   (try dsimp only at hBx)
   go_simp
   try with_reducible rfl
  try simp only [Act.put,List.setIfInBounds_toArray,List.set_cons_zero,List.set_cons_succ]
  refine wpL_one (i:=10) (by kernel_rfl) (StepL.mk rfl (fun K hK=>?_))
  obtain ⟨x,hx⟩ : ∃ x,x = IntKind.i64.wrap (yi + (1 + qq)):=⟨_,rfl⟩
  try rw [← hx]
  refine step_store_one rfl _ _ _ rfl g (k * 6 + 3) 57 cur (.int .i64 x) rfl rfl (hA1.blk HB7.out ⟨HB7.out.lt,hgx⟩) (by omega) (by kernel_rfl) rfl rfl ?_
  intro w8 hb8 hs8
  have hox:=Only.trans HO07.out hA1
  have hcodx:=hc8
  refine hK.out _ _ (SAB.past (by kernel_rfl) trivial) (fun hSS=>?_)
  clear hK K hA hB
  have hB:=hSS.2
  have hA : True:=trivial
  (try dsimp only at hB); (try dsimp only at hA); clear hSS
  try simp only [Act.put,List.setIfInBounds_toArray,List.set_cons_zero,List.set_cons_succ]
  refine wpL_done (by kernel_rfl) ?_
  have HOX:=Lib.hid hox
  have HCODX:=Lib.hid hcodx
  clear hox hcodx
  clear ho8 hc8 c3 hA hB hx hA1
  have hzf:=hs8.size
  have hgf : g < w8.heap.size:=hb8.lt
  have hown:=row_put (enc:=encCh) (e:=(⟨yp,yk,yf,yi,yo,yv⟩ : Chc)) (e':=(⟨yp,yk,yf,x,yo,yv⟩ : Chc)) (o:=3) encCh_len HGB.out hb8 HCS.out HNC.out HCM.out HTK.out HLL.out HY.out (by decide) rfl
  have hfin : SpoilPost B gc nl w (.returned (.slice (some ⟨g,0,none⟩) nl c5)) w8:=spoil_fin hown HCODX.out HOX.out hs8 (by have:=HGB.out; omega) (fun hh=>by have:=HBW.out _ hh; have:=HGB.out; omega) (by simpa using HLL.out) HGW.out
  have HFIN:=Lib.hid hfin
  clear hfin
  clear hown hb8 hs8
  go_wp2_with fail
  go_ret
  exact HFIN.out
 ·have c4 : w7.cell? ⟨g,k * 6 + 4,none⟩ = some (.int .i64 yo):=by rw [HB7.out.cell]; exact HROW.out 4 _ rfl
  have hox:=HO07.out
  have hcodx:=HC7.out
  have HOX:=Lib.hid hox
  have HCODX:=Lib.hid hcodx
  clear hox hcodx
  have f4:=HB7.out.frozen (k * 6 + 4)
  go_upto_region 18 with fail
  have hb8:=Blk.set_ (w:=w7) HB7.out (k * 6 + 4) (.int .i64 (wrap64 (yo + 1)))
  have hs8 : Same (fun i=>i ≠ g) w7 (w7.setCell ⟨g,k * 6 + 4,none⟩ (.int .i64 (wrap64 (yo + 1)))):=Same.setCell (Same.refl _ _) (fun h=>h rfl) _
  clear c4 f4
  generalize w7.setCell ⟨g,k * 6 + 4,none⟩ (.int .i64 (wrap64 (yo + 1))) = w8 at hb8 hs8 ⊢
  try simp only [Act.put]
  have hzf:=hs8.size
  have hgf : g < w8.heap.size:=hb8.lt
  have hown:=row_put (enc:=encCh) (e:=(⟨yp,yk,yf,yi,yo,yv⟩ : Chc)) (e':=(⟨yp,yk,yf,yi,wrap64 (yo + 1),yv⟩ : Chc)) (o:=4) encCh_len HGB.out hb8 HCS.out HNC.out HCM.out HTK.out HLL.out HY.out (by decide) rfl
  have hfin : SpoilPost B gc nl w (.returned (.slice (some ⟨g,0,none⟩) nl c5)) w8:=spoil_fin hown HCODX.out HOX.out hs8 (by have:=HGB.out; omega) (fun hh=>by have:=HBW.out _ hh; have:=HGB.out; omega) (by simpa using HLL.out) HGW.out
  have HFIN:=Lib.hid hfin
  clear hfin
  clear hown hb8 hs8
  go_wp2_with fail
  go_ret
  exact HFIN.out
 ·have hox:=HO07.out
  have hcodx:=HC7.out
  have HOX:=Lib.hid hox
  have HCODX:=Lib.hid hcodx
  clear hox hcodx
  go_upto_region 18 with (refine wpList_store_one rfl _ (.tmp 67) (.const (.int .i64 1)) rfl g (k * 6 + 1) 57 cur (.int .i64 1) rfl rfl HB7.out (by omega) (by kernel_rfl) rfl rfl ?_; intro w8 hb8 hs8)
  have hzf:=hs8.size
  have hgf : g < w8.heap.size:=hb8.lt
  have hown:=row_put (enc:=encCh) (e:=(⟨yp,yk,yf,yi,yo,yv⟩ : Chc)) (e':=(⟨yp,1,yf,yi,yo,yv⟩ : Chc)) (o:=1) encCh_len HGB.out hb8 HCS.out HNC.out HCM.out HTK.out HLL.out HY.out (by decide) rfl
  have hfin : SpoilPost B gc nl w (.returned (.slice (some ⟨g,0,none⟩) nl c5)) w8:=spoil_fin hown HCODX.out HOX.out hs8 (by have:=HGB.out; omega) (fun hh=>by have:=HBW.out _ hh; have:=HGB.out; omega) (by simpa using HLL.out) HGW.out
  have HFIN:=Lib.hid hfin
  clear hfin
  clear hown hb8 hs8
  go_wp2_with fail
  go_ret
  exact HFIN.out
end Go.Proofs.YtipegaojiokppaaGreatDoor
