import Derived.Test.YtipegaojiokppaaGreatDoorGL
import Derived.Test.YtipegaojiokppaaGreatDoorEval2
set_option linter.unusedVariables false
set_option linter.unusedSimpArgs false
set_option maxRecDepth 100000
namespace Go.Proofs.YtipegaojiokppaaGreatDoor
open Go.RowKit Go.Proofs
def RunK (cs : List Cd) (L : List Chc) (k : Int) : Prop:=((∃ u,runI cs L = .ok u) ∧ k = 0) ∨ (runI cs L = .error k ∧ k ≠ 0)
def DlTry (P : Int → Prop) (W : World) (v : Value) (wx : World) : Prop:=∃ k : Int,v = .int .i64 k ∧ P k ∧ Keep W wx
def DlRel (nl : Nat) (W : World) (i : Value) (wr : World) : Prop:=∃ j : Nat,i = .int .i64 j ∧ j ≤ nl ∧ Keep W wr
theorem nextq (p d : Int) (n : Nat) (hp : 0 ≤ p ∧ p < n) (hd : 0 ≤ d ∧ d < (n : Int) - 1) (hn : n = 2 ∨ n = 3) : 0 ≤ (p + 1 + d).tmod n ∧ (p + 1 + d).tmod n < n ∧ (p + 1 + d).tmod n ≠ p:=by
 have e : (p + 1 + d).tmod n = (p + 1 + d) % n:=Int.tmod_eq_emod_of_nonneg (by omega)
 rw [e]
 rcases hn with h | h <;> subst h <;> omega
theorem try_calls {u : World} {AC AL : Option Addr} {n cC nl c : Nat} {v0 : Int} {cs : List Cd} {l : List Chc} (hcd : CdsR u (Bw u) AC n cC cs) (hini : ∀ c ∈ cs,c.init.length ≤ 1000000) (hout : Sl encCh 6 u (Bw u) AL nl c l) (hn3 : n ≤ 3) (hl25 : nl ≤ 25) (hnl : nl = l.length) (y : Chc) :
  ∀ wx,Keep u wx → ∀ v,wx.ownsRow u.heap.size 57 6 v (nl + 1) ((l ++ [y]).flatMap encCh) → ∃ (Ab : Option Addr) (cb : Nat),v = .slice Ab (nl + 1) cb ∧
   Calls Tryz.prog 12 #[.agg #[.slice AC n cC,.int .i64 1,.int .i64 v0],.slice Ab (nl + 1) cb] wx (fun e w'=>∃ (q8 : Value) (q : Int),e = .returned (.tuple #[q8,.int .i64 q]) ∧ RunK cs (l ++ [y]) q ∧ Keep wx w'):=fun wx hu v hv=>by
 have hlen : (l ++ [y]).length = nl + 1:=by rw [List.length_append,← hnl]; rfl
 obtain ⟨Ab,cb,he,hsl⟩:=Sl.of_own (w:=wx) (enc:=encCh) (l:=l ++ [y]) (v:=v) (base:=u.heap.size) (size:=6) (e:=57) (by rw [hlen]; exact hv)
 subst he
 rw [hlen] at hsl ⊢
 refine ⟨Ab,cb,rfl,?_⟩
 refine (iplay_any wx (Bw wx) AC Ab n cC (nl + 1) cb 1 v0 cs (l ++ [y]) (fun i hi=>hi) (cds_up hcd hu) hini (hsl.more (fun i hi=>hi.2)) (by omega) (by omega)).mono ?_
 rintro e w' ⟨hk,⟨m9,A9,c9,hr9,rfl,-⟩ | ⟨k9,hr9,hk9,rfl⟩⟩
 ·exact ⟨_,0,rfl,.inl ⟨⟨m9,hr9⟩,rfl⟩,hk⟩
 ·exact ⟨_,k9,rfl,.inr ⟨hr9,hk9⟩,hk⟩
set_option maxHeartbeats 32000000 in
theorem idealDelivers_walk (w : World) (A : Option Addr) (n0 c0 : Nat) (zs : List Int) (x1 : Int) (hx1 : I64 x1) (hg : Glob w) (hz : Sl encB 1 w (· < w.heap.size) A n0 c0 zs) (hz8 : ∀ y ∈ zs,0 ≤ y ∧ y < 256) : Calls Tryz.prog 7 #[.slice A n0 c0,.int .i64 x1] w (Aw40Post w):=by
 have HG:=Lib.hid hg
 have HZ:=Lib.hid hz
 have HZ8:=Lib.hid hz8
 have HX1:=Lib.hid hx1
 clear hg hz hz8 hx1
 go_enter Tryz.func7,Tryz.ntmps7
 go_wp2_with fail
 refine (awake40_any w).mono ?_
 rintro e w1 ⟨rfl,hk1⟩
 have hz1:=hk1.size
 have HK1:=Lib.hid hk1
 clear hk1
 go_wp2_with fail
 refine (scene_any w1 A n0 c0 zs (HG.out.keep HK1.out) ((HZ.out.keep HK1.out).more (fun i hi=>by have : i < w.heap.size:=hi; show i < w1.heap.size; omega)) HZ8.out).mono ?_
 rintro e w2 ⟨AC,n,cC,v,cs,AL,c,l,m,gc,r,B,rfl,hcds,hn2,hn3,hini,hsl,hl25,hrun,-,-,-,hk2⟩
 have hz2:=hk2.size
 have hlc:=hsl.2.1
 have hlm : c ≤ 9223372036854775807:=hsl.2.2.1
 obtain ⟨nl,hnl⟩ : ∃ nl,nl = l.length:=⟨_,rfl⟩
 rw [← hnl] at hsl hl25 hlc
 rw [← hnl]
 have hk02:=Keep.trans HK1.out hk2
 have hcl:=hcds.1
 have HCDS:=Lib.hid hcds
 have HINI:=Lib.hid hini
 have HSL:=Lib.hid hsl
 have HRUN:=Lib.hid hrun
 have HK02:=Lib.hid hk02
 have HNL:=Lib.hid hnl
 have HCL:=Lib.hid hcl
 clear hcds hini hsl hrun hk02 hnl hcl
 clear hk2
 go_upto_region 4 with (refine wpList_store_all rfl _ (.tmp 5) (.tmp 23) rfl w2.heap.size 27 _ [.slice AC n cC,.int .i64 1,.int .i64 v] rfl rfl (Blk.new _ _ _) rfl (by kernel_rfl) rfl ?_; intro w3 hb3 hs3)
 have hk3 : Keep w2 w3:=Keep.write (Keep.new _ _) hs3 (Nat.le_refl _)
 have hz3 : w2.heap.size < w3.heap.size:=hb3.lt
 have hcd3:=(HCDS.out.keep (hk3.mono (fun i (hi : ScS w1 w2 gc i)=>hi.2.1))).more (T:=Bw w3) (fun i hi=>by have:=hi.2.1; show i < w3.heap.size; omega)
 have hsl3:=(HSL.out.keep (hk3.mono (fun i (hi : ScS w1 w2 gc i)=>hi.2.1))).more (T:=Bw w3) (fun i hi=>by have:=hi.2.1; show i < w3.heap.size; omega)
 have hk03:=Keep.trans HK02.out hk3
 have HB3:=Lib.hid hb3
 have HCD3:=Lib.hid hcd3
 have HSL3:=Lib.hid hsl3
 have HK03:=Lib.hid hk03
 clear hb3 hcd3 hsl3 hk03
 clear hs3 hk3 HCDS HSL HK02
 have hplay:=play_ok w3 AC AL n cC nl c 1 v cs l m HCD3.out HINI.out HSL3.out (by omega) (by omega) HRUN.out
 have HPLAY:=Lib.hid hplay
 clear hplay
 go_wp2_with (refine wpList_load_all rfl _ (.tmp 5) rfl w2.heap.size 27 [.slice AC n cC,.int .i64 1,.int .i64 v] _ rfl HB3.out Tryz.underlying27 rfl (by kernel_rfl) ?_)
 refine HPLAY.out.mono ?_
 rintro e w5 ⟨A5,c5,rfl,hst5,hk5⟩
 have hz5:=hk5.size
 have hb5:=hk5.blk HB3.out hz3
 have cc0 : w5.cell? ⟨w2.heap.size,0,none⟩ = some (.slice AC n cC):=by rw [hb5.cell]; rfl
 have hnn : ((n : Int) != (n : Int)) = false:=by simp
 have hcd5:=cds_up HCD3.out hk5
 have hsl5:=chs_up HSL3.out hk5
 have hk05:=Keep.trans HK03.out hk5
 have hmn : n = m.ss.length:=by rw [(runI_inv HRUN.out).len]; exact HCL.out
 obtain ⟨i0,hi0,iz0,is0,ib0⟩:=info_of info_Choice
 have HST5:=Lib.hid hst5
 have HB5:=Lib.hid hb5
 have HCD5:=Lib.hid hcd5
 have HSL5:=Lib.hid hsl5
 have HK05:=Lib.hid hk05
 have HMN:=Lib.hid hmn
 have HI0:=Lib.hid hi0
 have IZ0:=Lib.hid iz0
 have IS0:=Lib.hid is0
 have IB0:=Lib.hid ib0
 clear hst5 hb5 hcd5 hsl5 hk05 hmn hi0 iz0 is0 ib0
 clear hk5
 go_wp2_with fail
 clear cc0 hnn
 go_loopw [10] (fun i wr=>DlRel nl w5 i wr) (fun i _=>nl - (intOf i).toNat)
 case atStart=>exact ⟨0,rfl,Nat.zero_le _,Same.refl _ _⟩
 case round=>
  obtain ⟨j,rfl,hjl,hkr⟩:=hrel
  have hzr:=hkr.size
  by_cases hj : j < nl
  ·obtain ⟨bL,oL,y,rfl,hbL,hy,hcy⟩:=(chs_up HSL5.out hkr).at_ encCh_len hj
   obtain ⟨yp,yk,yf,yi,yo,yv⟩:=y
   have t0 : decide (j < nl) = true:=by simpa using hj
   have t1 : (0 : Int) ≤ j:=by omega
   have t2 : (j : Int) < nl:=by omega
   have y1 : wr.cell? ⟨bL,oL + j * 6 + 1,none⟩ = some (.int .i64 yk):=hcy 1 _ rfl
   by_cases hk1 : yk = 1
   case neg=>
    have t3 : (yk != 1) = true:=by simpa using hk1
    have hfin : DlRel nl w5 (.int .i64 ((j : Int) + 1)) wr:=⟨j + 1,by simp,by omega,hkr⟩
    have HFIN:=Lib.hid hfin
    clear hfin
    clear hkr hcy hy hk1
    go_wp2_with fail
    go_roundw
    case rel=>exact HFIN.out
    case measure=>simp [intOf]; omega
   subst hk1
   have t3 : ((1 : Int) != 1) = false:=rfl
   obtain ⟨hok,hd1,hd3,hd2⟩:=delivers HRUN.out (by have:=HNL.out; omega) (List.mem_of_getElem? hy) rfl
   have hpr:=okI_proc hok
   have hfr:=okI_frm hok rfl
   simp only at hpr hfr hd2 hd3
   obtain ⟨f,hfe⟩ : ∃ f : Nat,yf = f:=⟨yf.toNat,by omega⟩
   subst hfe
   have hcln:=HCL.out
   have hfn : f < n:=by omega
   have hpn : yp < n:=by omega
   have hp0 : 0 ≤ yp:=hpr.1
   have hrg : wr.rangeAt bL (oL + j * 6) [.int .i64 yp,.int .i64 1,.int .i64 f,.int .i64 yi,.int .i64 yo,.int .i64 yv]:=hcy
   clear hok hpr hfr hcln hcy hy
   have HRG:=Lib.hid hrg
   have HD1:=Lib.hid hd1
   have HD2:=Lib.hid hd2
   have HD3:=Lib.hid hd3
   have HKR:=Lib.hid hkr
   clear hrg hd1 hd2 hd3 hkr
   go_upto_region 12 with (first
    | (refine wpList_load_mid rfl _ (.tmp 56) rfl bL (oL + j * 6) rfl [.int .i64 yp,.int .i64 1,.int .i64 f,.int .i64 yi,.int .i64 yo,.int .i64 yv] _ HRG.out Tryz.underlying57 rfl (by kernel_rfl) ?_)
    | (refine wpList_store_all rfl _ (.tmp 11) (.tmp 57) rfl wr.heap.size 57 _ [.int .i64 yp,.int .i64 1,.int .i64 f,.int .i64 yi,.int .i64 yo,.int .i64 yv] rfl rfl (Blk.new _ _ _) rfl (by kernel_rfl) rfl ?_; intro w7 hb7 hs7))
   clear y1
   have hk7 : Keep wr w7:=Keep.write (Keep.new _ _) hs7 (Nat.le_refl _)
   have hz7 : wr.heap.size < w7.heap.size:=hb7.lt
   obtain ⟨g,hg⟩ : ∃ g,g = wr.heap.size:=⟨_,rfl⟩
   rw [← hg] at hb7
   rw [← hg]
   have hgr : wr.heap.size ≤ g:=by omega
   have hg7 : g < w7.heap.size:=by omega
   have hg5 : w5.heap.size ≤ g:=by omega
   have hcg : w2.heap.size < g:=by omega
   clear hg
   have hk57:=Keep.trans HKR.out hk7
   have hbc7:=hk57.blk HB5.out HB5.out.lt
   have hcdW:=cds_up HCD5.out hk57
   have houtW:=chs_up HSL5.out hk57
   have HBCF:=Lib.hid hbc7
   have HBY:=Lib.hid hb7
   have HK57:=Lib.hid hk57
   have HKR7:=Lib.hid hk7
   clear hbc7 hb7 hk57 hk7 hs7
   have htry:=try_calls (v0:=v) hcdW HINI.out houtW hn3 hl25 HNL.out (⟨yp,1,f,yi,yo,yv⟩ : Chc)
   have HOUT:=Lib.hid houtW
   have HTRY:=Lib.hid htry
   clear htry houtW hcdW
   try simp only [Act.put]
   go_upto_region 12 with fail
   go_cut [12,13] from 58 to 67 (fun _ zz wx=>DlTry (RunK cs (l ++ [(⟨yp,1,f,yi,yo,yv⟩ : Chc)])) w7 zz wx)
   case first=>
    refine wp_region_L 99 (fun _=>True) (fun wx=>Keep w7 wx) (by kernel_rfl) trivial (Same.drew (Same.refl _ _)) (fun hA hB=>?_)
    generalize hu0 : w7.drew = u0 at hB ⊢
    clear hu0
    have hzu:=hB.size
    refine wpL_takeB (i:=0) rfl (by kernel_rfl) (by kernel_rfl) (by kernel_rfl) (by decide) (fun _ _ _ h=>h) (yieldsIf_blk (by rfl) _ _ rfl w2.heap.size 0 27 _ [.slice AC n cC,.int .i64 1,.int .i64 v] _ rfl (fun wx hx=>hx.blk HBCF.out HBCF.out.lt) (fun j u hu=>by simpa using hu) Tryz.underlying27 rfl (by kernel_rfl)) (SAB.both hA hB) ?_
    try simp only [Act.put,List.setIfInBounds_toArray,List.set_cons_zero,List.set_cons_succ]
    refine wpL_takeB (i:=1) (v:=?_) rfl (by kernel_rfl) (by kernel_rfl) (by kernel_rfl) (by decide) (fun _ _ _ h=>h) (Or.inl ⟨by rfl,?_⟩) (SAB.both hA hB) ?_
    rotate_left
    ·intro wx hBx
     (try dsimp only at hBx)
     go_simp
     try with_reducible rfl
    try simp only [Act.put,List.setIfInBounds_toArray,List.set_cons_zero,List.set_cons_succ]
    refine wpL_takeB (i:=3) rfl (by kernel_rfl) (by kernel_rfl) (by kernel_rfl) (by decide) (fun _ _ _ h=>h) (yieldsIf_blk (by rfl) _ _ rfl g 0 57 _ [.int .i64 yp,.int .i64 1,.int .i64 f,.int .i64 yi,.int .i64 yo,.int .i64 yv] _ rfl (fun wx hx=>hx.blk HBY.out HBY.out.lt) (fun j u hu=>by simpa using hu) Tryz.underlying57 rfl (by kernel_rfl)) (SAB.both hA hB) ?_
    try simp only [Act.put,List.setIfInBounds_toArray,List.set_cons_zero,List.set_cons_succ]
    refine wpL_two (i:=2) (j:=4) (by kernel_rfl) (StepL.mk rfl (fun K hK=>?_)) (StepL.mk rfl (fun K hK=>?_))
    ·refine step_append_any _ (by rfl) (.const (.slice none 0 0)) (.tmp 60) _ (by rfl) u0.heap.size 57 i0 _ 6 48 Tryz.underlying23 HI0.out IZ0.out IS0.out IB0.out rfl (by omega) (.slice none 0 0) 0 [] (by rfl) (World.ownsRow_nil _ _ _ _) _ (some ⟨bL,oL,none⟩) nl c (l.flatMap encCh) (by rfl) (HOUT.out.keep hB).2.2.2 (one_of encCh_one _) (by simp [maxLen]; omega) (by omega) (Nat.le_refl _) ?_
     intro va wa howna hga hata
     have hB1 : Keep u0 wa:=Same.append (Same.refl _ _) (World.ownsRow_nil _ u0.heap.size 57 6) hga (fun i hi=>hi) (Nat.le_refl _)
     have hB2:=Keep.trans hB hB1
     have howna' : wa.ownsRow u0.heap.size 57 6 va nl (l.flatMap encCh):=by simpa using howna
     refine hK.out _ _ (SAB.both trivial hB2) (fun hSS=>?_)
     clear hK K hA hB
     have hB:=hSS.2
     have hA:=hSS.1 (by kernel_rfl)
     (try dsimp only at hB); (try dsimp only at hA); clear hSS
     try simp only [Act.put,List.setIfInBounds_toArray,List.set_cons_zero,List.set_cons_succ]
     refine wpL_one (i:=4) (by kernel_rfl) (StepL.mk rfl (fun K hK=>?_))
     refine step_buildS rfl _ _ _ _ rfl Tryz.underlying23 _ [(0,.agg #[.int .i64 yp,.int .i64 1,.int .i64 f,.int .i64 yi,.int .i64 yo,.int .i64 yv])] rfl (built_ch1 _ _ _ _ _ _) ?_
     have hk1 : Keep wa (wa.alloc (.cells #[.int .i64 yp,.int .i64 1,.int .i64 f,.int .i64 yi,.int .i64 yo,.int .i64 yv] 57)):=Keep.new _ _
     have hrd:=Reads.new (w:=wa) (e:=57) (cs:=[.int .i64 yp,.int .i64 1,.int .i64 f,.int .i64 yi,.int .i64 yo,.int .i64 yv]) (size:=6) (n:=1) rfl
     have hB3:=Keep.trans hB2 hk1
     refine hK.out _ _ (SAB.both trivial hB3) (fun hSS=>?_)
     clear hK K hA hB
     have hB:=hSS.2
     have hA:=hSS.1 (by kernel_rfl)
     (try dsimp only at hB); (try dsimp only at hA); clear hSS
     try simp only [Act.put,List.setIfInBounds_toArray,List.set_cons_zero,List.set_cons_succ]
     generalize hwb : wa.alloc (.cells #[.int .i64 yp,.int .i64 1,.int .i64 f,.int .i64 yi,.int .i64 yo,.int .i64 yv] 57) = wb at *
     clear hwb
     have hownb':=ownsRow_same howna' hk1 (fun i hi=>hi.2)
     have hzb:=hk1.size
     have hza:=hB1.size
     refine wpL_one (i:=5) (by kernel_rfl) (StepL.mk rfl (fun K hK=>?_))
     refine step_append_any _ (by rfl) (.tmp 61) (.tmp 63) _ (by rfl) u0.heap.size 57 i0 _ 6 48 Tryz.underlying23 HI0.out IZ0.out IS0.out IB0.out rfl (by omega) va nl (l.flatMap encCh) (by rfl) hownb' _ (some ⟨wa.heap.size,0,none⟩) 1 1 [.int .i64 yp,.int .i64 1,.int .i64 f,.int .i64 yi,.int .i64 yo,.int .i64 yv] (by rfl) hrd (encCh_one (⟨yp,1,f,yi,yo,yv⟩ : Chc)) (by simp [maxLen]; omega) (by omega) (by omega) ?_
     intro vb wd hownd' hgd hatd
     have hB4 : Keep w7 wd:=Same.append hB3 hownb' hgd (fun i (hi : i < w7.heap.size)=>by omega) (by omega)
     have hownd : wd.ownsRow w7.heap.size 57 6 vb (nl + 1) ((l ++ [(⟨yp,1,f,yi,yo,yv⟩ : Chc)]).flatMap encCh):=by have:=ownsRow_less hownd' hzu; simpa [encCh] using this
     refine hK.out _ _ (SAB.both trivial hB4) (fun hSS=>?_)
     clear hK K hA hB
     have hB:=hSS.2
     have hA:=hSS.1 (by kernel_rfl)
     (try dsimp only at hB); (try dsimp only at hA); clear hSS
     try simp only [Act.put,List.setIfInBounds_toArray,List.set_cons_zero,List.set_cons_succ]
     refine wpL_one (i:=6) (by kernel_rfl) (StepL.mk rfl (fun K hK=>?_))
     go_simp
     obtain ⟨Ab,cb,hvb,hcall⟩:=HTRY.out wd hB4 vb hownd
     subst hvb
     refine hcall.mono ?_
     rintro e w30 ⟨q8,kq,rfl,hkq,hk30⟩
     have hB5:=Keep.trans hB4 hk30
     refine hK.out _ _ (SAB.both trivial hB5) (fun hSS=>?_)
     clear hK K hA hB
     have hB:=hSS.2
     have hA:=hSS.1 (by kernel_rfl)
     (try dsimp only at hB); (try dsimp only at hA); clear hSS
     try simp only [Act.put,List.setIfInBounds_toArray,List.set_cons_zero,List.set_cons_succ]
     refine wpL_takeB (i:=7) (v:=?_) rfl (by kernel_rfl) (by kernel_rfl) (by kernel_rfl) (by decide) (fun _ _ _ h=>h) (Or.inl ⟨by rfl,?_⟩) (SAB.both hA hB) ?_
     rotate_left
     ·intro wx hBx
      (try dsimp only at hBx)
      go_simp
      try with_reducible rfl
     try simp only [Act.put,List.setIfInBounds_toArray,List.set_cons_zero,List.set_cons_succ]
     refine wpL_takeB (i:=8) (v:=?_) rfl (by kernel_rfl) (by kernel_rfl) (by kernel_rfl) (by decide) (fun _ _ _ h=>h) (Or.inl ⟨by rfl,?_⟩) (SAB.both hA hB) ?_
     rotate_left
     ·intro wx hBx
      (try dsimp only at hBx)
      go_simp
      try with_reducible rfl
     try simp only [Act.put,List.setIfInBounds_toArray,List.set_cons_zero,List.set_cons_succ]
     refine wpL_takeB (i:=9) (v:=?_) rfl (by kernel_rfl) (by kernel_rfl) (by kernel_rfl) (by decide) (fun _ _ _ h=>h) (Or.inl ⟨by rfl,?_⟩) (SAB.both hA hB) ?_
     rotate_left
     ·intro wx hBx
      (try dsimp only at hBx)
      go_simp
      try with_reducible rfl
     try simp only [Act.put,List.setIfInBounds_toArray,List.set_cons_zero,List.set_cons_succ]
     refine wpL_takeB (i:=10) (v:=?_) rfl (by kernel_rfl) (by kernel_rfl) (by kernel_rfl) (by decide) (fun _ _ _ h=>h) (Or.inl ⟨by rfl,?_⟩) (SAB.both hA hB) ?_
     rotate_left
     ·intro wx hBx
      (try dsimp only at hBx)
      go_simp
      try with_reducible rfl
     try simp only [Act.put,List.setIfInBounds_toArray,List.set_cons_zero,List.set_cons_succ]
     refine wpL_takeB (i:=11) (v:=?_) rfl (by kernel_rfl) (by kernel_rfl) (by kernel_rfl) (by decide) (fun _ _ _ h=>h) (Or.inl ⟨by rfl,?_⟩) (SAB.both hA hB) ?_
     rotate_left
     ·intro wx hBx
      (try dsimp only at hBx)
      go_simp
      try with_reducible rfl
     try simp only [Act.put,List.setIfInBounds_toArray,List.set_cons_zero,List.set_cons_succ]
     refine wpL_done (by kernel_rfl) ?_
     have hfin : DlTry (RunK cs (l ++ [(⟨yp,1,f,yi,yo,yv⟩ : Chc)])) w7 (.int .i64 kq) w30:=⟨kq,rfl,hkq,hB5⟩
     have HFIN:=Lib.hid hfin
     clear hfin
     clear hB5 hB4 hk30 hkq hcall hA hB
     go_wp2_with fail
     go_meet
     exact HFIN.out
    ·refine step_buildS rfl _ _ _ _ rfl Tryz.underlying23 _ [(0,.agg #[.int .i64 yp,.int .i64 1,.int .i64 f,.int .i64 yi,.int .i64 yo,.int .i64 yv])] rfl (built_ch1 _ _ _ _ _ _) ?_
     have hk1 : Keep u0 (u0.alloc (.cells #[.int .i64 yp,.int .i64 1,.int .i64 f,.int .i64 yi,.int .i64 yo,.int .i64 yv] 57)):=Keep.new _ _
     have hrd:=Reads.new (w:=u0) (e:=57) (cs:=[.int .i64 yp,.int .i64 1,.int .i64 f,.int .i64 yi,.int .i64 yo,.int .i64 yv]) (size:=6) (n:=1) rfl
     have hB1:=Keep.trans hB hk1
     have hlt1 : u0.heap.size < (u0.alloc (.cells #[.int .i64 yp,.int .i64 1,.int .i64 f,.int .i64 yi,.int .i64 yo,.int .i64 yv] 57)).heap.size:=by simp
     refine hK.out _ _ (SAB.both trivial hB1) (fun hSS=>?_)
     clear hK K hA hB
     have hB:=hSS.2
     have hA:=hSS.1 (by kernel_rfl)
     (try dsimp only at hB); (try dsimp only at hA); clear hSS
     try simp only [Act.put,List.setIfInBounds_toArray,List.set_cons_zero,List.set_cons_succ]
     generalize hwb : u0.alloc (.cells #[.int .i64 yp,.int .i64 1,.int .i64 f,.int .i64 yi,.int .i64 yo,.int .i64 yv] 57) = wa at *
     clear hwb
     refine wpL_one (i:=2) (by kernel_rfl) (StepL.mk rfl (fun K hK=>?_))
     refine step_append_any _ (by rfl) (.const (.slice none 0 0)) (.tmp 60) _ (by rfl) wa.heap.size 57 i0 _ 6 48 Tryz.underlying23 HI0.out IZ0.out IS0.out IB0.out rfl (by omega) (.slice none 0 0) 0 [] (by rfl) (World.ownsRow_nil _ _ _ _) _ (some ⟨bL,oL,none⟩) nl c (l.flatMap encCh) (by rfl) (HOUT.out.keep hB1).2.2.2 (one_of encCh_one _) (by simp [maxLen]; omega) (by omega) (Nat.le_refl _) ?_
     intro va wb howna hga hata
     have hk2 : Keep wa wb:=Same.append (Same.refl _ _) (World.ownsRow_nil _ wa.heap.size 57 6) hga (fun i hi=>hi) (Nat.le_refl _)
     have hB2:=Keep.trans hB1 hk2
     have howna' : wb.ownsRow wa.heap.size 57 6 va nl (l.flatMap encCh):=by simpa using howna
     refine hK.out _ _ (SAB.both trivial hB2) (fun hSS=>?_)
     clear hK K hA hB
     have hB:=hSS.2
     have hA:=hSS.1 (by kernel_rfl)
     (try dsimp only at hB); (try dsimp only at hA); clear hSS
     try simp only [Act.put,List.setIfInBounds_toArray,List.set_cons_zero,List.set_cons_succ]
     have hzb:=hk2.size
     have hzB1:=hB1.size
     refine wpL_one (i:=5) (by kernel_rfl) (StepL.mk rfl (fun K hK=>?_))
     refine step_append_any _ (by rfl) (.tmp 61) (.tmp 63) _ (by rfl) wa.heap.size 57 i0 _ 6 48 Tryz.underlying23 HI0.out IZ0.out IS0.out IB0.out rfl (by omega) va nl (l.flatMap encCh) (by rfl) howna' _ (some ⟨u0.heap.size,0,none⟩) 1 1 [.int .i64 yp,.int .i64 1,.int .i64 f,.int .i64 yi,.int .i64 yo,.int .i64 yv] (by rfl) (hrd.keep (hk2.mono (fun i hi=>by omega))) (encCh_one (⟨yp,1,f,yi,yo,yv⟩ : Chc)) (by simp [maxLen]; omega) (by omega) (by omega) ?_
     intro vb wd hownd' hgd hatd
     have hB4 : Keep w7 wd:=Same.append hB2 howna' hgd (fun i (hi : i < w7.heap.size)=>by omega) (by omega)
     have hownd : wd.ownsRow w7.heap.size 57 6 vb (nl + 1) ((l ++ [(⟨yp,1,f,yi,yo,yv⟩ : Chc)]).flatMap encCh):=by have:=ownsRow_less hownd' (Nat.le_trans hzu (Nat.le_of_lt hlt1)); simpa [encCh] using this
     refine hK.out _ _ (SAB.both trivial hB4) (fun hSS=>?_)
     clear hK K hA hB
     have hB:=hSS.2
     have hA:=hSS.1 (by kernel_rfl)
     (try dsimp only at hB); (try dsimp only at hA); clear hSS
     try simp only [Act.put,List.setIfInBounds_toArray,List.set_cons_zero,List.set_cons_succ]
     refine wpL_one (i:=6) (by kernel_rfl) (StepL.mk rfl (fun K hK=>?_))
     go_simp
     obtain ⟨Ab,cb,hvb,hcall⟩:=HTRY.out wd hB4 vb hownd
     subst hvb
     refine hcall.mono ?_
     rintro e w30 ⟨q8,kq,rfl,hkq,hk30⟩
     have hB5:=Keep.trans hB4 hk30
     refine hK.out _ _ (SAB.both trivial hB5) (fun hSS=>?_)
     clear hK K hA hB
     have hB:=hSS.2
     have hA:=hSS.1 (by kernel_rfl)
     (try dsimp only at hB); (try dsimp only at hA); clear hSS
     try simp only [Act.put,List.setIfInBounds_toArray,List.set_cons_zero,List.set_cons_succ]
     refine wpL_takeB (i:=7) (v:=?_) rfl (by kernel_rfl) (by kernel_rfl) (by kernel_rfl) (by decide) (fun _ _ _ h=>h) (Or.inl ⟨by rfl,?_⟩) (SAB.both hA hB) ?_
     rotate_left
     ·intro wx hBx
      (try dsimp only at hBx)
      go_simp
      try with_reducible rfl
     try simp only [Act.put,List.setIfInBounds_toArray,List.set_cons_zero,List.set_cons_succ]
     refine wpL_takeB (i:=8) (v:=?_) rfl (by kernel_rfl) (by kernel_rfl) (by kernel_rfl) (by decide) (fun _ _ _ h=>h) (Or.inl ⟨by rfl,?_⟩) (SAB.both hA hB) ?_
     rotate_left
     ·intro wx hBx
      (try dsimp only at hBx)
      go_simp
      try with_reducible rfl
     try simp only [Act.put,List.setIfInBounds_toArray,List.set_cons_zero,List.set_cons_succ]
     refine wpL_takeB (i:=9) (v:=?_) rfl (by kernel_rfl) (by kernel_rfl) (by kernel_rfl) (by decide) (fun _ _ _ h=>h) (Or.inl ⟨by rfl,?_⟩) (SAB.both hA hB) ?_
     rotate_left
     ·intro wx hBx
      (try dsimp only at hBx)
      go_simp
      try with_reducible rfl
     try simp only [Act.put,List.setIfInBounds_toArray,List.set_cons_zero,List.set_cons_succ]
     refine wpL_takeB (i:=10) (v:=?_) rfl (by kernel_rfl) (by kernel_rfl) (by kernel_rfl) (by decide) (fun _ _ _ h=>h) (Or.inl ⟨by rfl,?_⟩) (SAB.both hA hB) ?_
     rotate_left
     ·intro wx hBx
      (try dsimp only at hBx)
      go_simp
      try with_reducible rfl
     try simp only [Act.put,List.setIfInBounds_toArray,List.set_cons_zero,List.set_cons_succ]
     refine wpL_takeB (i:=11) (v:=?_) rfl (by kernel_rfl) (by kernel_rfl) (by kernel_rfl) (by decide) (fun _ _ _ h=>h) (Or.inl ⟨by rfl,?_⟩) (SAB.both hA hB) ?_
     rotate_left
     ·intro wx hBx
      (try dsimp only at hBx)
      go_simp
      try with_reducible rfl
     try simp only [Act.put,List.setIfInBounds_toArray,List.set_cons_zero,List.set_cons_succ]
     refine wpL_done (by kernel_rfl) ?_
     have hfin : DlTry (RunK cs (l ++ [(⟨yp,1,f,yi,yo,yv⟩ : Chc)])) w7 (.int .i64 kq) w30:=⟨kq,rfl,hkq,hB5⟩
     have HFIN:=Lib.hid hfin
     clear hfin
     clear hB5 hB4 hk30 hkq hcall hA hB
     go_wp2_with fail
     go_meet
     exact HFIN.out
   case rest=>
    obtain ⟨w8,hw8⟩ : ∃ w8 : World,w8 = wc:=⟨_,rfl⟩
    subst hw8
    obtain ⟨k1,rfl,hk1',hkw8⟩:=hcut
    have h15 : k1 = 15:=by rcases hk1' with ⟨⟨u',hu'⟩,-⟩ | ⟨h,-⟩; (rw [HD1.out] at hu'; cases hu'); (rw [HD1.out] at h; injection h with h; exact h.symm)
    subst h15
    have hz8:=hkw8.size
    have hb8:=hkw8.blk HBY.out HBY.out.lt
    have hbc8:=hkw8.blk HBCF.out HBCF.out.lt
    have hk58:=Keep.trans HK57.out hkw8
    have hkr8:=Keep.trans HKR7.out hkw8
    obtain ⟨m0,m1'⟩:=modS_lt x1 ((n : Int) - 1) (by omega)
    obtain ⟨d,hd⟩ : ∃ d,d = modS x1 ((n : Int) - 1):=⟨_,rfl⟩
    rw [← hd] at m0 m1'
    obtain ⟨q0,q1,hqp⟩:=nextq yp d n ⟨by omega,by omega⟩ ⟨m0,m1'⟩ (by omega)
    obtain ⟨q,hq⟩ : ∃ q,(yp + 1 + d).tmod n = q:=⟨_,rfl⟩
    rw [hq] at q0 q1 hqp
    have hw1 : IntKind.i64.wrap (yp + 1) = yp + 1:=IntWalk.i64_in _ (by omega)
    have hw2 : IntKind.i64.wrap ((n : Int) - 1) = (n : Int) - 1:=IntWalk.i64_in _ (by omega)
    have hw3 : IntKind.i64.wrap (yp + 1 + d) = yp + 1 + d:=IntWalk.i64_in _ (by omega)
    have hw4 : IntKind.i64.wrap q = q:=IntWalk.i64_in _ (by omega)
    have hnz : ((n : Int) == 0) = false:=by simp; omega
    have hnz1 : (n = 0) = False:=by simp; omega
    have hnz2 : ¬ ((n : Int) = 0):=by omega
    have c0 : ∀ wx,Keep w8 wx → wx.cell? ⟨g,0,none⟩ = some (.int .i64 yp):=fun wx hx=>(hx.cell (p:=⟨g,0,none⟩) hb8.lt).trans (by rw [hb8.cell]; rfl)
    have HB8:=Lib.hid hb8
    have HBC8:=Lib.hid hbc8
    have HK58:=Lib.hid hk58
    have HKR8:=Lib.hid hkr8
    have HD:=Lib.hid hd
    clear hb8 hbc8 hk58 hkr8 hd
    clear hk1' hkw8 HBY HBCF
    -- another process
    go_upto_region 15 with fail
    refine wp_region_L 13 (fun wx=>Keep w8 wx) (fun _=>True) (by kernel_rfl) (Same.drew (Same.refl _ _)) trivial (fun hA hB=>?_)
    generalize hu0 : w8.drew = u0 at hA ⊢
    clear hu0
    refine wpL_takeB (i:=0) (v:=?_) rfl (by kernel_rfl) (by kernel_rfl) (by kernel_rfl) (by decide) (fun _ _ _ h=>h) (Or.inl ⟨by rfl,?_⟩) (SAB.both hA hB) ?_
    rotate_left
    ·intro wx hBx
     (try dsimp only at hBx)
     go_simp
     try with_reducible rfl
    try simp only [Act.put,List.setIfInBounds_toArray,List.set_cons_zero,List.set_cons_succ]
    refine wpL_takeA (i:=1) (v:=?_) rfl (by kernel_rfl) (by kernel_rfl) (by kernel_rfl) (by kernel_rfl) (by decide) (fun _ _ _ h=>h) (Or.inl ⟨by rfl,?_⟩) hA hB ?_
    rotate_left
    ·rintro wx ⟨hAx,hBx⟩
     (try dsimp only at hBx); (try dsimp only at hAx)
     go_simp
     try with_reducible rfl
    try simp only [Act.put,List.setIfInBounds_toArray,List.set_cons_zero,List.set_cons_succ]
    refine wpL_takeB (i:=2) (v:=?_) rfl (by kernel_rfl) (by kernel_rfl) (by kernel_rfl) (by decide) (fun _ _ _ h=>h) (Or.inl ⟨by rfl,?_⟩) (SAB.both hA hB) ?_
    rotate_left
    ·intro wx hBx
     (try dsimp only at hBx)
     go_simp
     try with_reducible rfl
    try simp only [Act.put,List.setIfInBounds_toArray,List.set_cons_zero,List.set_cons_succ]
    refine wpL_takeB (i:=3) (v:=?_) rfl (by kernel_rfl) (by kernel_rfl) (by kernel_rfl) (by decide) (fun _ _ _ h=>h) (Or.inl ⟨by rfl,?_⟩) (SAB.both hA hB) ?_
    rotate_left
    ·intro wx hBx
     (try dsimp only at hBx)
     go_simp
     try with_reducible rfl
    try simp only [Act.put,List.setIfInBounds_toArray,List.set_cons_zero,List.set_cons_succ]
    refine wpL_takeB (i:=4) (v:=?_) rfl (by kernel_rfl) (by kernel_rfl) (by kernel_rfl) (by decide) (fun _ _ _ h=>h) (Or.inl ⟨by rfl,?_⟩) (SAB.both hA hB) ?_
    rotate_left
    ·intro wx hBx
     (try dsimp only at hBx)
     go_simp
     try with_reducible rfl
    try simp only [Act.put,List.setIfInBounds_toArray,List.set_cons_zero,List.set_cons_succ]
    refine wpL_takeB (i:=5) (v:=?_) rfl (by kernel_rfl) (by kernel_rfl) (by kernel_rfl) (by decide) (fun _ _ _ h=>h) (Or.inl ⟨by rfl,?_⟩) (SAB.both hA hB) ?_
    rotate_left
    ·intro wx hBx
     (try dsimp only at hBx)
     go_simp
     try with_reducible rfl
    try simp only [Act.put,List.setIfInBounds_toArray,List.set_cons_zero,List.set_cons_succ]
    refine wpL_takeB (i:=6) (v:=?_) rfl (by kernel_rfl) (by kernel_rfl) (by kernel_rfl) (by decide) (fun _ _ _ h=>h) (Or.inl ⟨by rfl,?_⟩) (SAB.both hA hB) ?_
    rotate_left
    ·intro wx hBx
     (try dsimp only at hBx)
     go_simp
     try with_reducible rfl
    try simp only [Act.put,List.setIfInBounds_toArray,List.set_cons_zero,List.set_cons_succ]
    refine wpL_takeB (i:=9) (v:=?_) rfl (by kernel_rfl) (by kernel_rfl) (by kernel_rfl) (by decide) (fun _ _ _ h=>h) (Or.inl ⟨by rfl,?_⟩) (SAB.both hA hB) ?_
    rotate_left
    ·intro wx hBx
     (try dsimp only at hBx)
     go_simp
     try with_reducible rfl
    try simp only [Act.put,List.setIfInBounds_toArray,List.set_cons_zero,List.set_cons_succ]
    refine wpL_takeB (i:=10) (v:=?_) rfl (by kernel_rfl) (by kernel_rfl) (by kernel_rfl) (by decide) (fun _ _ _ h=>h) (Or.inl ⟨by rfl,?_⟩) (SAB.both hA hB) ?_
    rotate_left
    ·intro wx hBx
     (try dsimp only at hBx)
     go_simp
     try with_reducible rfl
    try simp only [Act.put,List.setIfInBounds_toArray,List.set_cons_zero,List.set_cons_succ]
    refine wpL_one (i:=7) (by kernel_rfl) (StepL.mk rfl (fun K hK=>?_))
    go_simp
    refine (mod_any x1 ((n : Int) - 1) u0 HX1.out (by omega) (by omega)).mono ?_
    rintro e u1 ⟨rfl,hqq⟩
    subst hqq
    rw [← HD.out]
    refine hK.out _ _ (SAB.both hA trivial) (fun hSS=>?_)
    clear hK K hA hB
    have hB:=hSS.2
    have hA:=hSS.1 (by kernel_rfl)
    (try dsimp only at hB); (try dsimp only at hA); clear hSS
    try simp only [Act.put,List.setIfInBounds_toArray,List.set_cons_zero,List.set_cons_succ]
    refine wpL_takeB (i:=8) (v:=?_) rfl (by kernel_rfl) (by kernel_rfl) (by kernel_rfl) (by decide) (fun _ _ _ h=>h) (Or.inl ⟨by rfl,?_⟩) (SAB.both hA hB) ?_
    rotate_left
    ·intro wx hBx
     (try dsimp only at hBx)
     go_simp
     try with_reducible rfl
    try simp only [Act.put,List.setIfInBounds_toArray,List.set_cons_zero,List.set_cons_succ]
    refine wpL_takeB (i:=11) (v:=?_) rfl (by kernel_rfl) (by kernel_rfl) (by kernel_rfl) (by decide) (fun _ _ _ h=>h) (Or.inl ⟨by rfl,?_⟩) (SAB.both hA hB) ?_
    rotate_left
    ·intro wx hBx
     (try dsimp only at hBx)
     go_simp
     try with_reducible rfl
    try simp only [Act.put,List.setIfInBounds_toArray,List.set_cons_zero,List.set_cons_succ]
    refine wpL_takeB (i:=12) (v:=?_) rfl (by kernel_rfl) (by kernel_rfl) (by kernel_rfl) (by decide) (fun _ _ _ h=>h) (Or.inl ⟨by rfl,?_⟩) (SAB.both hA hB) ?_
    rotate_left
    ·intro wx hBx
     (try dsimp only at hBx)
     go_simp
     try with_reducible rfl
    try simp only [Act.put,List.setIfInBounds_toArray,List.set_cons_zero,List.set_cons_succ]
    refine wpL_one (i:=13) (by kernel_rfl) (StepL.mk rfl (fun K hK=>?_))
    refine step_store_one rfl _ _ _ rfl g 0 57 _ (.int .i64 q) rfl rfl (hA.blk HB8.out HB8.out.lt) (by simp) (by kernel_rfl) rfl rfl ?_
    intro w9 hb9 hs9
    have hz9:=hs9.size
    have hzA:=hA.size
    have hby : Blk w9 g 57 #[.int .i64 q,.int .i64 1,.int .i64 f,.int .i64 yi,.int .i64 yo,.int .i64 yv]:=by simpa using hb9
    have hk59 : Keep w5 w9:=Keep.write (Keep.trans HK58.out hA) hs9 hg5
    have hkr9 : Keep wr w9:=Keep.write (Keep.trans HKR8.out hA) hs9 hgr
    have hbcf:=(Same.mono hs9 (fun i (hi : i < g)=>by show i ≠ g; omega)).blk (hA.blk HBC8.out HBC8.out.lt) hcg
    refine hK.out _ _ (SAB.past (by kernel_rfl) trivial) (fun hSS=>?_)
    clear hK K hA hB
    have hB:=hSS.2
    have hA : True:=trivial
    (try dsimp only at hB); (try dsimp only at hA); clear hSS
    try simp only [Act.put,List.setIfInBounds_toArray,List.set_cons_zero,List.set_cons_succ]
    refine wpL_done (by kernel_rfl) ?_
    have hcdW:=cds_up HCD5.out hk59
    have houtW:=chs_up HSL5.out hk59
    have HBCF:=Lib.hid hbcf
    have HBY:=Lib.hid hby
    have HK59:=Lib.hid hk59
    have HKR9:=Lib.hid hkr9
    clear hbcf hby hk59 hkr9 hb9 hs9 hA hB c0 hw1 hw2 hw3 hw4 hnz hnz1 hnz2 hq
    try simp only [Act.put]
    have htry:=try_calls (v0:=v) hcdW HINI.out houtW hn3 hl25 HNL.out (⟨q,1,f,yi,yo,yv⟩ : Chc)
    have HOUT:=Lib.hid houtW
    have HTRY:=Lib.hid htry
    clear htry houtW hcdW
    try simp only [Act.put]
    go_upto_region 16 with fail
    go_cut [14,15] from 83 to 92 (fun _ zz wx=>DlTry (RunK cs (l ++ [(⟨q,1,f,yi,yo,yv⟩ : Chc)])) w9 zz wx)
    case first=>
     refine wp_region_L 99 (fun _=>True) (fun wx=>Keep w9 wx) (by kernel_rfl) trivial (Same.drew (Same.refl _ _)) (fun hA hB=>?_)
     generalize hu0 : w9.drew = u0 at hB ⊢
     clear hu0
     have hzu:=hB.size
     refine wpL_takeB (i:=0) rfl (by kernel_rfl) (by kernel_rfl) (by kernel_rfl) (by decide) (fun _ _ _ h=>h) (yieldsIf_blk (by rfl) _ _ rfl w2.heap.size 0 27 _ [.slice AC n cC,.int .i64 1,.int .i64 v] _ rfl (fun wx hx=>hx.blk HBCF.out HBCF.out.lt) (fun j u hu=>by simpa using hu) Tryz.underlying27 rfl (by kernel_rfl)) (SAB.both hA hB) ?_
     try simp only [Act.put,List.setIfInBounds_toArray,List.set_cons_zero,List.set_cons_succ]
     refine wpL_takeB (i:=1) (v:=?_) rfl (by kernel_rfl) (by kernel_rfl) (by kernel_rfl) (by decide) (fun _ _ _ h=>h) (Or.inl ⟨by rfl,?_⟩) (SAB.both hA hB) ?_
     rotate_left
     ·intro wx hBx
      (try dsimp only at hBx)
      go_simp
      try with_reducible rfl
     try simp only [Act.put,List.setIfInBounds_toArray,List.set_cons_zero,List.set_cons_succ]
     refine wpL_takeB (i:=3) rfl (by kernel_rfl) (by kernel_rfl) (by kernel_rfl) (by decide) (fun _ _ _ h=>h) (yieldsIf_blk (by rfl) _ _ rfl g 0 57 _ [.int .i64 q,.int .i64 1,.int .i64 f,.int .i64 yi,.int .i64 yo,.int .i64 yv] _ rfl (fun wx hx=>hx.blk HBY.out HBY.out.lt) (fun j u hu=>by simpa using hu) Tryz.underlying57 rfl (by kernel_rfl)) (SAB.both hA hB) ?_
     try simp only [Act.put,List.setIfInBounds_toArray,List.set_cons_zero,List.set_cons_succ]
     refine wpL_two (i:=2) (j:=4) (by kernel_rfl) (StepL.mk rfl (fun K hK=>?_)) (StepL.mk rfl (fun K hK=>?_))
     ·refine step_append_any _ (by rfl) (.const (.slice none 0 0)) (.tmp 85) _ (by rfl) u0.heap.size 57 i0 _ 6 48 Tryz.underlying23 HI0.out IZ0.out IS0.out IB0.out rfl (by omega) (.slice none 0 0) 0 [] (by rfl) (World.ownsRow_nil _ _ _ _) _ (some ⟨bL,oL,none⟩) nl c (l.flatMap encCh) (by rfl) (HOUT.out.keep hB).2.2.2 (one_of encCh_one _) (by simp [maxLen]; omega) (by omega) (Nat.le_refl _) ?_
      intro va wa howna hga hata
      have hB1 : Keep u0 wa:=Same.append (Same.refl _ _) (World.ownsRow_nil _ u0.heap.size 57 6) hga (fun i hi=>hi) (Nat.le_refl _)
      have hB2:=Keep.trans hB hB1
      have howna' : wa.ownsRow u0.heap.size 57 6 va nl (l.flatMap encCh):=by simpa using howna
      refine hK.out _ _ (SAB.both trivial hB2) (fun hSS=>?_)
      clear hK K hA hB
      have hB:=hSS.2
      have hA:=hSS.1 (by kernel_rfl)
      (try dsimp only at hB); (try dsimp only at hA); clear hSS
      try simp only [Act.put,List.setIfInBounds_toArray,List.set_cons_zero,List.set_cons_succ]
      refine wpL_one (i:=4) (by kernel_rfl) (StepL.mk rfl (fun K hK=>?_))
      refine step_buildS rfl _ _ _ _ rfl Tryz.underlying23 _ [(0,.agg #[.int .i64 q,.int .i64 1,.int .i64 f,.int .i64 yi,.int .i64 yo,.int .i64 yv])] rfl (built_ch1 _ _ _ _ _ _) ?_
      have hk1 : Keep wa (wa.alloc (.cells #[.int .i64 q,.int .i64 1,.int .i64 f,.int .i64 yi,.int .i64 yo,.int .i64 yv] 57)):=Keep.new _ _
      have hrd:=Reads.new (w:=wa) (e:=57) (cs:=[.int .i64 q,.int .i64 1,.int .i64 f,.int .i64 yi,.int .i64 yo,.int .i64 yv]) (size:=6) (n:=1) rfl
      have hB3:=Keep.trans hB2 hk1
      refine hK.out _ _ (SAB.both trivial hB3) (fun hSS=>?_)
      clear hK K hA hB
      have hB:=hSS.2
      have hA:=hSS.1 (by kernel_rfl)
      (try dsimp only at hB); (try dsimp only at hA); clear hSS
      try simp only [Act.put,List.setIfInBounds_toArray,List.set_cons_zero,List.set_cons_succ]
      generalize hwb : wa.alloc (.cells #[.int .i64 q,.int .i64 1,.int .i64 f,.int .i64 yi,.int .i64 yo,.int .i64 yv] 57) = wb at *
      clear hwb
      have hownb':=ownsRow_same howna' hk1 (fun i hi=>hi.2)
      have hzb:=hk1.size
      have hza:=hB1.size
      refine wpL_one (i:=5) (by kernel_rfl) (StepL.mk rfl (fun K hK=>?_))
      refine step_append_any _ (by rfl) (.tmp 86) (.tmp 88) _ (by rfl) u0.heap.size 57 i0 _ 6 48 Tryz.underlying23 HI0.out IZ0.out IS0.out IB0.out rfl (by omega) va nl (l.flatMap encCh) (by rfl) hownb' _ (some ⟨wa.heap.size,0,none⟩) 1 1 [.int .i64 q,.int .i64 1,.int .i64 f,.int .i64 yi,.int .i64 yo,.int .i64 yv] (by rfl) hrd (encCh_one (⟨q,1,f,yi,yo,yv⟩ : Chc)) (by simp [maxLen]; omega) (by omega) (by omega) ?_
      intro vb wd hownd' hgd hatd
      have hB4 : Keep w9 wd:=Same.append hB3 hownb' hgd (fun i (hi : i < w9.heap.size)=>by omega) (by omega)
      have hownd : wd.ownsRow w9.heap.size 57 6 vb (nl + 1) ((l ++ [(⟨q,1,f,yi,yo,yv⟩ : Chc)]).flatMap encCh):=by have:=ownsRow_less hownd' hzu; simpa [encCh] using this
      refine hK.out _ _ (SAB.both trivial hB4) (fun hSS=>?_)
      clear hK K hA hB
      have hB:=hSS.2
      have hA:=hSS.1 (by kernel_rfl)
      (try dsimp only at hB); (try dsimp only at hA); clear hSS
      try simp only [Act.put,List.setIfInBounds_toArray,List.set_cons_zero,List.set_cons_succ]
      refine wpL_one (i:=6) (by kernel_rfl) (StepL.mk rfl (fun K hK=>?_))
      go_simp
      obtain ⟨Ab,cb,hvb,hcall⟩:=HTRY.out wd hB4 vb hownd
      subst hvb
      refine hcall.mono ?_
      rintro e w30 ⟨q8,kq,rfl,hkq,hk30⟩
      have hB5:=Keep.trans hB4 hk30
      refine hK.out _ _ (SAB.both trivial hB5) (fun hSS=>?_)
      clear hK K hA hB
      have hB:=hSS.2
      have hA:=hSS.1 (by kernel_rfl)
      (try dsimp only at hB); (try dsimp only at hA); clear hSS
      try simp only [Act.put,List.setIfInBounds_toArray,List.set_cons_zero,List.set_cons_succ]
      refine wpL_takeB (i:=7) (v:=?_) rfl (by kernel_rfl) (by kernel_rfl) (by kernel_rfl) (by decide) (fun _ _ _ h=>h) (Or.inl ⟨by rfl,?_⟩) (SAB.both hA hB) ?_
      rotate_left
      ·intro wx hBx
       (try dsimp only at hBx)
       go_simp
       try with_reducible rfl
      try simp only [Act.put,List.setIfInBounds_toArray,List.set_cons_zero,List.set_cons_succ]
      refine wpL_takeB (i:=8) (v:=?_) rfl (by kernel_rfl) (by kernel_rfl) (by kernel_rfl) (by decide) (fun _ _ _ h=>h) (Or.inl ⟨by rfl,?_⟩) (SAB.both hA hB) ?_
      rotate_left
      ·intro wx hBx
       (try dsimp only at hBx)
       go_simp
       try with_reducible rfl
      try simp only [Act.put,List.setIfInBounds_toArray,List.set_cons_zero,List.set_cons_succ]
      refine wpL_takeB (i:=9) (v:=?_) rfl (by kernel_rfl) (by kernel_rfl) (by kernel_rfl) (by decide) (fun _ _ _ h=>h) (Or.inl ⟨by rfl,?_⟩) (SAB.both hA hB) ?_
      rotate_left
      ·intro wx hBx
       (try dsimp only at hBx)
       go_simp
       try with_reducible rfl
      try simp only [Act.put,List.setIfInBounds_toArray,List.set_cons_zero,List.set_cons_succ]
      refine wpL_takeB (i:=10) (v:=?_) rfl (by kernel_rfl) (by kernel_rfl) (by kernel_rfl) (by decide) (fun _ _ _ h=>h) (Or.inl ⟨by rfl,?_⟩) (SAB.both hA hB) ?_
      rotate_left
      ·intro wx hBx
       (try dsimp only at hBx)
       go_simp
       try with_reducible rfl
      try simp only [Act.put,List.setIfInBounds_toArray,List.set_cons_zero,List.set_cons_succ]
      refine wpL_takeB (i:=11) (v:=?_) rfl (by kernel_rfl) (by kernel_rfl) (by kernel_rfl) (by decide) (fun _ _ _ h=>h) (Or.inl ⟨by rfl,?_⟩) (SAB.both hA hB) ?_
      rotate_left
      ·intro wx hBx
       (try dsimp only at hBx)
       go_simp
       try with_reducible rfl
      try simp only [Act.put,List.setIfInBounds_toArray,List.set_cons_zero,List.set_cons_succ]
      refine wpL_done (by kernel_rfl) ?_
      have hfin : DlTry (RunK cs (l ++ [(⟨q,1,f,yi,yo,yv⟩ : Chc)])) w9 (.int .i64 kq) w30:=⟨kq,rfl,hkq,hB5⟩
      have HFIN:=Lib.hid hfin
      clear hfin
      clear hB5 hB4 hk30 hkq hcall hA hB
      go_wp2_with fail
      go_meet
      exact HFIN.out
     ·refine step_buildS rfl _ _ _ _ rfl Tryz.underlying23 _ [(0,.agg #[.int .i64 q,.int .i64 1,.int .i64 f,.int .i64 yi,.int .i64 yo,.int .i64 yv])] rfl (built_ch1 _ _ _ _ _ _) ?_
      have hk1 : Keep u0 (u0.alloc (.cells #[.int .i64 q,.int .i64 1,.int .i64 f,.int .i64 yi,.int .i64 yo,.int .i64 yv] 57)):=Keep.new _ _
      have hrd:=Reads.new (w:=u0) (e:=57) (cs:=[.int .i64 q,.int .i64 1,.int .i64 f,.int .i64 yi,.int .i64 yo,.int .i64 yv]) (size:=6) (n:=1) rfl
      have hB1:=Keep.trans hB hk1
      have hlt1 : u0.heap.size < (u0.alloc (.cells #[.int .i64 q,.int .i64 1,.int .i64 f,.int .i64 yi,.int .i64 yo,.int .i64 yv] 57)).heap.size:=by simp
      refine hK.out _ _ (SAB.both trivial hB1) (fun hSS=>?_)
      clear hK K hA hB
      have hB:=hSS.2
      have hA:=hSS.1 (by kernel_rfl)
      (try dsimp only at hB); (try dsimp only at hA); clear hSS
      try simp only [Act.put,List.setIfInBounds_toArray,List.set_cons_zero,List.set_cons_succ]
      generalize hwb : u0.alloc (.cells #[.int .i64 q,.int .i64 1,.int .i64 f,.int .i64 yi,.int .i64 yo,.int .i64 yv] 57) = wa at *
      clear hwb
      refine wpL_one (i:=2) (by kernel_rfl) (StepL.mk rfl (fun K hK=>?_))
      refine step_append_any _ (by rfl) (.const (.slice none 0 0)) (.tmp 85) _ (by rfl) wa.heap.size 57 i0 _ 6 48 Tryz.underlying23 HI0.out IZ0.out IS0.out IB0.out rfl (by omega) (.slice none 0 0) 0 [] (by rfl) (World.ownsRow_nil _ _ _ _) _ (some ⟨bL,oL,none⟩) nl c (l.flatMap encCh) (by rfl) (HOUT.out.keep hB1).2.2.2 (one_of encCh_one _) (by simp [maxLen]; omega) (by omega) (Nat.le_refl _) ?_
      intro va wb howna hga hata
      have hk2 : Keep wa wb:=Same.append (Same.refl _ _) (World.ownsRow_nil _ wa.heap.size 57 6) hga (fun i hi=>hi) (Nat.le_refl _)
      have hB2:=Keep.trans hB1 hk2
      have howna' : wb.ownsRow wa.heap.size 57 6 va nl (l.flatMap encCh):=by simpa using howna
      refine hK.out _ _ (SAB.both trivial hB2) (fun hSS=>?_)
      clear hK K hA hB
      have hB:=hSS.2
      have hA:=hSS.1 (by kernel_rfl)
      (try dsimp only at hB); (try dsimp only at hA); clear hSS
      try simp only [Act.put,List.setIfInBounds_toArray,List.set_cons_zero,List.set_cons_succ]
      have hzb:=hk2.size
      have hzB1:=hB1.size
      refine wpL_one (i:=5) (by kernel_rfl) (StepL.mk rfl (fun K hK=>?_))
      refine step_append_any _ (by rfl) (.tmp 86) (.tmp 88) _ (by rfl) wa.heap.size 57 i0 _ 6 48 Tryz.underlying23 HI0.out IZ0.out IS0.out IB0.out rfl (by omega) va nl (l.flatMap encCh) (by rfl) howna' _ (some ⟨u0.heap.size,0,none⟩) 1 1 [.int .i64 q,.int .i64 1,.int .i64 f,.int .i64 yi,.int .i64 yo,.int .i64 yv] (by rfl) (hrd.keep (hk2.mono (fun i hi=>by omega))) (encCh_one (⟨q,1,f,yi,yo,yv⟩ : Chc)) (by simp [maxLen]; omega) (by omega) (by omega) ?_
      intro vb wd hownd' hgd hatd
      have hB4 : Keep w9 wd:=Same.append hB2 howna' hgd (fun i (hi : i < w9.heap.size)=>by omega) (by omega)
      have hownd : wd.ownsRow w9.heap.size 57 6 vb (nl + 1) ((l ++ [(⟨q,1,f,yi,yo,yv⟩ : Chc)]).flatMap encCh):=by have:=ownsRow_less hownd' (Nat.le_trans hzu (Nat.le_of_lt hlt1)); simpa [encCh] using this
      refine hK.out _ _ (SAB.both trivial hB4) (fun hSS=>?_)
      clear hK K hA hB
      have hB:=hSS.2
      have hA:=hSS.1 (by kernel_rfl)
      (try dsimp only at hB); (try dsimp only at hA); clear hSS
      try simp only [Act.put,List.setIfInBounds_toArray,List.set_cons_zero,List.set_cons_succ]
      refine wpL_one (i:=6) (by kernel_rfl) (StepL.mk rfl (fun K hK=>?_))
      go_simp
      obtain ⟨Ab,cb,hvb,hcall⟩:=HTRY.out wd hB4 vb hownd
      subst hvb
      refine hcall.mono ?_
      rintro e w30 ⟨q8,kq,rfl,hkq,hk30⟩
      have hB5:=Keep.trans hB4 hk30
      refine hK.out _ _ (SAB.both trivial hB5) (fun hSS=>?_)
      clear hK K hA hB
      have hB:=hSS.2
      have hA:=hSS.1 (by kernel_rfl)
      (try dsimp only at hB); (try dsimp only at hA); clear hSS
      try simp only [Act.put,List.setIfInBounds_toArray,List.set_cons_zero,List.set_cons_succ]
      refine wpL_takeB (i:=7) (v:=?_) rfl (by kernel_rfl) (by kernel_rfl) (by kernel_rfl) (by decide) (fun _ _ _ h=>h) (Or.inl ⟨by rfl,?_⟩) (SAB.both hA hB) ?_
      rotate_left
      ·intro wx hBx
       (try dsimp only at hBx)
       go_simp
       try with_reducible rfl
      try simp only [Act.put,List.setIfInBounds_toArray,List.set_cons_zero,List.set_cons_succ]
      refine wpL_takeB (i:=8) (v:=?_) rfl (by kernel_rfl) (by kernel_rfl) (by kernel_rfl) (by decide) (fun _ _ _ h=>h) (Or.inl ⟨by rfl,?_⟩) (SAB.both hA hB) ?_
      rotate_left
      ·intro wx hBx
       (try dsimp only at hBx)
       go_simp
       try with_reducible rfl
      try simp only [Act.put,List.setIfInBounds_toArray,List.set_cons_zero,List.set_cons_succ]
      refine wpL_takeB (i:=9) (v:=?_) rfl (by kernel_rfl) (by kernel_rfl) (by kernel_rfl) (by decide) (fun _ _ _ h=>h) (Or.inl ⟨by rfl,?_⟩) (SAB.both hA hB) ?_
      rotate_left
      ·intro wx hBx
       (try dsimp only at hBx)
       go_simp
       try with_reducible rfl
      try simp only [Act.put,List.setIfInBounds_toArray,List.set_cons_zero,List.set_cons_succ]
      refine wpL_takeB (i:=10) (v:=?_) rfl (by kernel_rfl) (by kernel_rfl) (by kernel_rfl) (by decide) (fun _ _ _ h=>h) (Or.inl ⟨by rfl,?_⟩) (SAB.both hA hB) ?_
      rotate_left
      ·intro wx hBx
       (try dsimp only at hBx)
       go_simp
       try with_reducible rfl
      try simp only [Act.put,List.setIfInBounds_toArray,List.set_cons_zero,List.set_cons_succ]
      refine wpL_takeB (i:=11) (v:=?_) rfl (by kernel_rfl) (by kernel_rfl) (by kernel_rfl) (by decide) (fun _ _ _ h=>h) (Or.inl ⟨by rfl,?_⟩) (SAB.both hA hB) ?_
      rotate_left
      ·intro wx hBx
       (try dsimp only at hBx)
       go_simp
       try with_reducible rfl
      try simp only [Act.put,List.setIfInBounds_toArray,List.set_cons_zero,List.set_cons_succ]
      refine wpL_done (by kernel_rfl) ?_
      have hfin : DlTry (RunK cs (l ++ [(⟨q,1,f,yi,yo,yv⟩ : Chc)])) w9 (.int .i64 kq) w30:=⟨kq,rfl,hkq,hB5⟩
      have HFIN:=Lib.hid hfin
      clear hfin
      clear hB5 hB4 hk30 hkq hcall hA hB
      go_wp2_with fail
      go_meet
      exact HFIN.out
    case rest=>
     obtain ⟨w10,hw10⟩ : ∃ w10 : World,w10 = wc:=⟨_,rfl⟩
     subst hw10
     obtain ⟨k2,rfl,hk2',hkw10⟩:=hcut
     have hne : (k2 == 0) = false:=by
      rcases hk2' with ⟨⟨u',hu'⟩,-⟩ | ⟨-,h⟩
      ·exact absurd hu' (HD3.out q hqp u')
      ·simpa using h
     have hz10:=hkw10.size
     have hb10:=hkw10.blk HBY.out HBY.out.lt
     have hk510:=Keep.trans HK59.out hkw10
     have rg10 : w10.rangeAt bL (oL + j * 6) [.int .i64 yp,.int .i64 1,.int .i64 f,.int .i64 yi,.int .i64 yo,.int .i64 yv]:=fun jj u hu=>((Keep.trans HKR9.out hkw10).cell (p:=⟨bL,oL + j * 6 + jj,none⟩) hbL).trans (HRG.out jj u hu)
     have hbc10:=hkw10.blk HBCF.out HBCF.out.lt
     have HB10:=Lib.hid hb10
     have HK510:=Lib.hid hk510
     have RG10:=Lib.hid rg10
     have HBC10:=Lib.hid hbc10
     clear hb10 hk510 rg10 hbc10
     have HKRW:=Lib.hid hkw10
     clear hk2' hkw10 HBY HBCF HK59
     -- a message that was never sent
     go_upto_region 20 with (first
      | (refine wpList_load_mid rfl _ (.tmp 97) rfl bL (oL + j * 6) rfl [.int .i64 yp,.int .i64 1,.int .i64 f,.int .i64 yi,.int .i64 yo,.int .i64 yv] _ RG10.out Tryz.underlying57 rfl (by kernel_rfl) ?_)
      | (refine wpList_store_all rfl _ (.tmp 11) (.tmp 98) rfl g 57 _ [.int .i64 yp,.int .i64 1,.int .i64 f,.int .i64 yi,.int .i64 yo,.int .i64 yv] rfl rfl HB10.out rfl (by kernel_rfl) rfl ?_; intro w11 hb11 hs11))
     have hz11:=hs11.size
     have hk511 : Keep w5 w11:=Keep.write HK510.out hs11 hg5
     obtain ⟨bS,oS,B1,B2,B3,B4,p1,q1,p2,q2,p3,q3,p4,q4,rfl,hbS,hsk,hrgS⟩:=sts_at (sts_up HST5.out hk511) hfn
     have f1 : w11.cell? ⟨bS,oS + f * 4 + 1,none⟩ = some (.slice B2 p2 q2):=hrgS 1 _ rfl
     have b2 : w11.cell? ⟨g,2,none⟩ = some (.int .i64 (f : Int)):=by rw [hb11.cell]; rfl
     have hev:=(st_sl hsk).2.1.1
     have hp2 : p2 ≤ 1000000:=by have:=(fine_run HINI.out HRUN.out f (by rw [← HMN.out]; exact hfn)).2.1; omega
     have s1 : (f : Int) < n:=by omega
     have s2 : (0 : Int) ≤ f:=by omega
     obtain ⟨ix,hix⟩ : ∃ ix : Int,ix = (p2 : Int) + 1:=⟨_,rfl⟩
     have hbcf:=(Same.mono hs11 (fun i (hi : i < g)=>by show i ≠ g; omega)).blk HBC10.out hcg
     have HB11:=Lib.hid hb11
     have HK511:=Lib.hid hk511
     have HEV:=Lib.hid hev
     have HBCF:=Lib.hid hbcf
     clear hb11 hk511 hev hbcf
     have hkr11 : Keep wr w11:=Keep.write (Keep.trans HKR9.out HKRW.out) hs11 hgr
     have HKR11:=Lib.hid hkr11
     clear hkr11
     clear hrgS hsk hs11
     go_upto_region 21 with (refine wpList_store_one rfl _ (.tmp 107) (.tmp 106) rfl g 3 57 _ (.int .i64 ((p2 : Int) + 1)) rfl rfl HB11.out (by simp) (by kernel_rfl) rfl rfl ?_; intro w12 hb12 hs12)
     have hby : Blk w12 g 57 #[.int .i64 yp,.int .i64 1,.int .i64 f,.int .i64 ix,.int .i64 yo,.int .i64 yv]:=by rw [hix]; simpa using hb12
     have hk512 : Keep w5 w12:=Keep.write HK511.out hs12 hg5
     have hbcf2:=(Same.mono hs12 (fun i (hi : i < g)=>by show i ≠ g; omega)).blk HBCF.out hcg
     have hz12:=hs12.size
     have hd4 : runI cs (l ++ [(⟨yp,1,f,ix,yo,yv⟩ : Chc)]) = .error 11:=by
      have h:=HD2.out
      have e : ((stAt m.ss (f : Int)).events.length : Int) + 1 = ix:=by rw [hix,HEV.out]; rfl
      try simp only at h
      rw [e] at h
      exact h
     have hcdW:=cds_up HCD5.out hk512
     have houtW:=chs_up HSL5.out hk512
     clear hb12 hs12 f1 b2 hix
     have HBCF:=Lib.hid hbcf2
     have HBY:=Lib.hid hby
     have HK512:=Lib.hid hk512
     have HD4:=Lib.hid hd4
     clear hbcf2 hby hk512 hd4
     have htry:=try_calls (v0:=v) hcdW HINI.out houtW hn3 hl25 HNL.out (⟨yp,1,f,ix,yo,yv⟩ : Chc)
     have HOUT:=Lib.hid houtW
     have HTRY:=Lib.hid htry
     clear htry houtW hcdW
     try simp only [Act.put]
     go_upto_region 21 with fail
     go_cut [16,17] from 108 to 117 (fun _ zz wx=>DlTry (RunK cs (l ++ [(⟨yp,1,f,ix,yo,yv⟩ : Chc)])) w12 zz wx)
     case first=>
      refine wp_region_L 99 (fun _=>True) (fun wx=>Keep w12 wx) (by kernel_rfl) trivial (Same.drew (Same.refl _ _)) (fun hA hB=>?_)
      generalize hu0 : w12.drew = u0 at hB ⊢
      clear hu0
      have hzu:=hB.size
      refine wpL_takeB (i:=0) rfl (by kernel_rfl) (by kernel_rfl) (by kernel_rfl) (by decide) (fun _ _ _ h=>h) (yieldsIf_blk (by rfl) _ _ rfl w2.heap.size 0 27 _ [.slice AC n cC,.int .i64 1,.int .i64 v] _ rfl (fun wx hx=>hx.blk HBCF.out HBCF.out.lt) (fun j u hu=>by simpa using hu) Tryz.underlying27 rfl (by kernel_rfl)) (SAB.both hA hB) ?_
      try simp only [Act.put,List.setIfInBounds_toArray,List.set_cons_zero,List.set_cons_succ]
      refine wpL_takeB (i:=1) (v:=?_) rfl (by kernel_rfl) (by kernel_rfl) (by kernel_rfl) (by decide) (fun _ _ _ h=>h) (Or.inl ⟨by rfl,?_⟩) (SAB.both hA hB) ?_
      rotate_left
      ·intro wx hBx
       (try dsimp only at hBx)
       go_simp
       try with_reducible rfl
      try simp only [Act.put,List.setIfInBounds_toArray,List.set_cons_zero,List.set_cons_succ]
      refine wpL_takeB (i:=3) rfl (by kernel_rfl) (by kernel_rfl) (by kernel_rfl) (by decide) (fun _ _ _ h=>h) (yieldsIf_blk (by rfl) _ _ rfl g 0 57 _ [.int .i64 yp,.int .i64 1,.int .i64 f,.int .i64 ix,.int .i64 yo,.int .i64 yv] _ rfl (fun wx hx=>hx.blk HBY.out HBY.out.lt) (fun j u hu=>by simpa using hu) Tryz.underlying57 rfl (by kernel_rfl)) (SAB.both hA hB) ?_
      try simp only [Act.put,List.setIfInBounds_toArray,List.set_cons_zero,List.set_cons_succ]
      refine wpL_two (i:=2) (j:=4) (by kernel_rfl) (StepL.mk rfl (fun K hK=>?_)) (StepL.mk rfl (fun K hK=>?_))
      ·refine step_append_any _ (by rfl) (.const (.slice none 0 0)) (.tmp 110) _ (by rfl) u0.heap.size 57 i0 _ 6 48 Tryz.underlying23 HI0.out IZ0.out IS0.out IB0.out rfl (by omega) (.slice none 0 0) 0 [] (by rfl) (World.ownsRow_nil _ _ _ _) _ (some ⟨bL,oL,none⟩) nl c (l.flatMap encCh) (by rfl) (HOUT.out.keep hB).2.2.2 (one_of encCh_one _) (by simp [maxLen]; omega) (by omega) (Nat.le_refl _) ?_
       intro va wa howna hga hata
       have hB1 : Keep u0 wa:=Same.append (Same.refl _ _) (World.ownsRow_nil _ u0.heap.size 57 6) hga (fun i hi=>hi) (Nat.le_refl _)
       have hB2:=Keep.trans hB hB1
       have howna' : wa.ownsRow u0.heap.size 57 6 va nl (l.flatMap encCh):=by simpa using howna
       refine hK.out _ _ (SAB.both trivial hB2) (fun hSS=>?_)
       clear hK K hA hB
       have hB:=hSS.2
       have hA:=hSS.1 (by kernel_rfl)
       (try dsimp only at hB); (try dsimp only at hA); clear hSS
       try simp only [Act.put,List.setIfInBounds_toArray,List.set_cons_zero,List.set_cons_succ]
       refine wpL_one (i:=4) (by kernel_rfl) (StepL.mk rfl (fun K hK=>?_))
       refine step_buildS rfl _ _ _ _ rfl Tryz.underlying23 _ [(0,.agg #[.int .i64 yp,.int .i64 1,.int .i64 f,.int .i64 ix,.int .i64 yo,.int .i64 yv])] rfl (built_ch1 _ _ _ _ _ _) ?_
       have hk1 : Keep wa (wa.alloc (.cells #[.int .i64 yp,.int .i64 1,.int .i64 f,.int .i64 ix,.int .i64 yo,.int .i64 yv] 57)):=Keep.new _ _
       have hrd:=Reads.new (w:=wa) (e:=57) (cs:=[.int .i64 yp,.int .i64 1,.int .i64 f,.int .i64 ix,.int .i64 yo,.int .i64 yv]) (size:=6) (n:=1) rfl
       have hB3:=Keep.trans hB2 hk1
       refine hK.out _ _ (SAB.both trivial hB3) (fun hSS=>?_)
       clear hK K hA hB
       have hB:=hSS.2
       have hA:=hSS.1 (by kernel_rfl)
       (try dsimp only at hB); (try dsimp only at hA); clear hSS
       try simp only [Act.put,List.setIfInBounds_toArray,List.set_cons_zero,List.set_cons_succ]
       generalize hwb : wa.alloc (.cells #[.int .i64 yp,.int .i64 1,.int .i64 f,.int .i64 ix,.int .i64 yo,.int .i64 yv] 57) = wb at *
       clear hwb
       have hownb':=ownsRow_same howna' hk1 (fun i hi=>hi.2)
       have hzb:=hk1.size
       have hza:=hB1.size
       refine wpL_one (i:=5) (by kernel_rfl) (StepL.mk rfl (fun K hK=>?_))
       refine step_append_any _ (by rfl) (.tmp 111) (.tmp 113) _ (by rfl) u0.heap.size 57 i0 _ 6 48 Tryz.underlying23 HI0.out IZ0.out IS0.out IB0.out rfl (by omega) va nl (l.flatMap encCh) (by rfl) hownb' _ (some ⟨wa.heap.size,0,none⟩) 1 1 [.int .i64 yp,.int .i64 1,.int .i64 f,.int .i64 ix,.int .i64 yo,.int .i64 yv] (by rfl) hrd (encCh_one (⟨yp,1,f,ix,yo,yv⟩ : Chc)) (by simp [maxLen]; omega) (by omega) (by omega) ?_
       intro vb wd hownd' hgd hatd
       have hB4 : Keep w12 wd:=Same.append hB3 hownb' hgd (fun i (hi : i < w12.heap.size)=>by omega) (by omega)
       have hownd : wd.ownsRow w12.heap.size 57 6 vb (nl + 1) ((l ++ [(⟨yp,1,f,ix,yo,yv⟩ : Chc)]).flatMap encCh):=by have:=ownsRow_less hownd' hzu; simpa [encCh] using this
       refine hK.out _ _ (SAB.both trivial hB4) (fun hSS=>?_)
       clear hK K hA hB
       have hB:=hSS.2
       have hA:=hSS.1 (by kernel_rfl)
       (try dsimp only at hB); (try dsimp only at hA); clear hSS
       try simp only [Act.put,List.setIfInBounds_toArray,List.set_cons_zero,List.set_cons_succ]
       refine wpL_one (i:=6) (by kernel_rfl) (StepL.mk rfl (fun K hK=>?_))
       go_simp
       obtain ⟨Ab,cb,hvb,hcall⟩:=HTRY.out wd hB4 vb hownd
       subst hvb
       refine hcall.mono ?_
       rintro e w30 ⟨q8,kq,rfl,hkq,hk30⟩
       have hB5:=Keep.trans hB4 hk30
       refine hK.out _ _ (SAB.both trivial hB5) (fun hSS=>?_)
       clear hK K hA hB
       have hB:=hSS.2
       have hA:=hSS.1 (by kernel_rfl)
       (try dsimp only at hB); (try dsimp only at hA); clear hSS
       try simp only [Act.put,List.setIfInBounds_toArray,List.set_cons_zero,List.set_cons_succ]
       refine wpL_takeB (i:=7) (v:=?_) rfl (by kernel_rfl) (by kernel_rfl) (by kernel_rfl) (by decide) (fun _ _ _ h=>h) (Or.inl ⟨by rfl,?_⟩) (SAB.both hA hB) ?_
       rotate_left
       ·intro wx hBx
        (try dsimp only at hBx)
        go_simp
        try with_reducible rfl
       try simp only [Act.put,List.setIfInBounds_toArray,List.set_cons_zero,List.set_cons_succ]
       refine wpL_takeB (i:=8) (v:=?_) rfl (by kernel_rfl) (by kernel_rfl) (by kernel_rfl) (by decide) (fun _ _ _ h=>h) (Or.inl ⟨by rfl,?_⟩) (SAB.both hA hB) ?_
       rotate_left
       ·intro wx hBx
        (try dsimp only at hBx)
        go_simp
        try with_reducible rfl
       try simp only [Act.put,List.setIfInBounds_toArray,List.set_cons_zero,List.set_cons_succ]
       refine wpL_takeB (i:=9) (v:=?_) rfl (by kernel_rfl) (by kernel_rfl) (by kernel_rfl) (by decide) (fun _ _ _ h=>h) (Or.inl ⟨by rfl,?_⟩) (SAB.both hA hB) ?_
       rotate_left
       ·intro wx hBx
        (try dsimp only at hBx)
        go_simp
        try with_reducible rfl
       try simp only [Act.put,List.setIfInBounds_toArray,List.set_cons_zero,List.set_cons_succ]
       refine wpL_takeB (i:=10) (v:=?_) rfl (by kernel_rfl) (by kernel_rfl) (by kernel_rfl) (by decide) (fun _ _ _ h=>h) (Or.inl ⟨by rfl,?_⟩) (SAB.both hA hB) ?_
       rotate_left
       ·intro wx hBx
        (try dsimp only at hBx)
        go_simp
        try with_reducible rfl
       try simp only [Act.put,List.setIfInBounds_toArray,List.set_cons_zero,List.set_cons_succ]
       refine wpL_takeB (i:=11) (v:=?_) rfl (by kernel_rfl) (by kernel_rfl) (by kernel_rfl) (by decide) (fun _ _ _ h=>h) (Or.inl ⟨by rfl,?_⟩) (SAB.both hA hB) ?_
       rotate_left
       ·intro wx hBx
        (try dsimp only at hBx)
        go_simp
        try with_reducible rfl
       try simp only [Act.put,List.setIfInBounds_toArray,List.set_cons_zero,List.set_cons_succ]
       refine wpL_done (by kernel_rfl) ?_
       have hfin : DlTry (RunK cs (l ++ [(⟨yp,1,f,ix,yo,yv⟩ : Chc)])) w12 (.int .i64 kq) w30:=⟨kq,rfl,hkq,hB5⟩
       have HFIN:=Lib.hid hfin
       clear hfin
       clear hB5 hB4 hk30 hkq hcall hA hB
       go_wp2_with fail
       go_meet
       exact HFIN.out
      ·refine step_buildS rfl _ _ _ _ rfl Tryz.underlying23 _ [(0,.agg #[.int .i64 yp,.int .i64 1,.int .i64 f,.int .i64 ix,.int .i64 yo,.int .i64 yv])] rfl (built_ch1 _ _ _ _ _ _) ?_
       have hk1 : Keep u0 (u0.alloc (.cells #[.int .i64 yp,.int .i64 1,.int .i64 f,.int .i64 ix,.int .i64 yo,.int .i64 yv] 57)):=Keep.new _ _
       have hrd:=Reads.new (w:=u0) (e:=57) (cs:=[.int .i64 yp,.int .i64 1,.int .i64 f,.int .i64 ix,.int .i64 yo,.int .i64 yv]) (size:=6) (n:=1) rfl
       have hB1:=Keep.trans hB hk1
       have hlt1 : u0.heap.size < (u0.alloc (.cells #[.int .i64 yp,.int .i64 1,.int .i64 f,.int .i64 ix,.int .i64 yo,.int .i64 yv] 57)).heap.size:=by simp
       refine hK.out _ _ (SAB.both trivial hB1) (fun hSS=>?_)
       clear hK K hA hB
       have hB:=hSS.2
       have hA:=hSS.1 (by kernel_rfl)
       (try dsimp only at hB); (try dsimp only at hA); clear hSS
       try simp only [Act.put,List.setIfInBounds_toArray,List.set_cons_zero,List.set_cons_succ]
       generalize hwb : u0.alloc (.cells #[.int .i64 yp,.int .i64 1,.int .i64 f,.int .i64 ix,.int .i64 yo,.int .i64 yv] 57) = wa at *
       clear hwb
       refine wpL_one (i:=2) (by kernel_rfl) (StepL.mk rfl (fun K hK=>?_))
       refine step_append_any _ (by rfl) (.const (.slice none 0 0)) (.tmp 110) _ (by rfl) wa.heap.size 57 i0 _ 6 48 Tryz.underlying23 HI0.out IZ0.out IS0.out IB0.out rfl (by omega) (.slice none 0 0) 0 [] (by rfl) (World.ownsRow_nil _ _ _ _) _ (some ⟨bL,oL,none⟩) nl c (l.flatMap encCh) (by rfl) (HOUT.out.keep hB1).2.2.2 (one_of encCh_one _) (by simp [maxLen]; omega) (by omega) (Nat.le_refl _) ?_
       intro va wb howna hga hata
       have hk2 : Keep wa wb:=Same.append (Same.refl _ _) (World.ownsRow_nil _ wa.heap.size 57 6) hga (fun i hi=>hi) (Nat.le_refl _)
       have hB2:=Keep.trans hB1 hk2
       have howna' : wb.ownsRow wa.heap.size 57 6 va nl (l.flatMap encCh):=by simpa using howna
       refine hK.out _ _ (SAB.both trivial hB2) (fun hSS=>?_)
       clear hK K hA hB
       have hB:=hSS.2
       have hA:=hSS.1 (by kernel_rfl)
       (try dsimp only at hB); (try dsimp only at hA); clear hSS
       try simp only [Act.put,List.setIfInBounds_toArray,List.set_cons_zero,List.set_cons_succ]
       have hzb:=hk2.size
       have hzB1:=hB1.size
       refine wpL_one (i:=5) (by kernel_rfl) (StepL.mk rfl (fun K hK=>?_))
       refine step_append_any _ (by rfl) (.tmp 111) (.tmp 113) _ (by rfl) wa.heap.size 57 i0 _ 6 48 Tryz.underlying23 HI0.out IZ0.out IS0.out IB0.out rfl (by omega) va nl (l.flatMap encCh) (by rfl) howna' _ (some ⟨u0.heap.size,0,none⟩) 1 1 [.int .i64 yp,.int .i64 1,.int .i64 f,.int .i64 ix,.int .i64 yo,.int .i64 yv] (by rfl) (hrd.keep (hk2.mono (fun i hi=>by omega))) (encCh_one (⟨yp,1,f,ix,yo,yv⟩ : Chc)) (by simp [maxLen]; omega) (by omega) (by omega) ?_
       intro vb wd hownd' hgd hatd
       have hB4 : Keep w12 wd:=Same.append hB2 howna' hgd (fun i (hi : i < w12.heap.size)=>by omega) (by omega)
       have hownd : wd.ownsRow w12.heap.size 57 6 vb (nl + 1) ((l ++ [(⟨yp,1,f,ix,yo,yv⟩ : Chc)]).flatMap encCh):=by have:=ownsRow_less hownd' (Nat.le_trans hzu (Nat.le_of_lt hlt1)); simpa [encCh] using this
       refine hK.out _ _ (SAB.both trivial hB4) (fun hSS=>?_)
       clear hK K hA hB
       have hB:=hSS.2
       have hA:=hSS.1 (by kernel_rfl)
       (try dsimp only at hB); (try dsimp only at hA); clear hSS
       try simp only [Act.put,List.setIfInBounds_toArray,List.set_cons_zero,List.set_cons_succ]
       refine wpL_one (i:=6) (by kernel_rfl) (StepL.mk rfl (fun K hK=>?_))
       go_simp
       obtain ⟨Ab,cb,hvb,hcall⟩:=HTRY.out wd hB4 vb hownd
       subst hvb
       refine hcall.mono ?_
       rintro e w30 ⟨q8,kq,rfl,hkq,hk30⟩
       have hB5:=Keep.trans hB4 hk30
       refine hK.out _ _ (SAB.both trivial hB5) (fun hSS=>?_)
       clear hK K hA hB
       have hB:=hSS.2
       have hA:=hSS.1 (by kernel_rfl)
       (try dsimp only at hB); (try dsimp only at hA); clear hSS
       try simp only [Act.put,List.setIfInBounds_toArray,List.set_cons_zero,List.set_cons_succ]
       refine wpL_takeB (i:=7) (v:=?_) rfl (by kernel_rfl) (by kernel_rfl) (by kernel_rfl) (by decide) (fun _ _ _ h=>h) (Or.inl ⟨by rfl,?_⟩) (SAB.both hA hB) ?_
       rotate_left
       ·intro wx hBx
        (try dsimp only at hBx)
        go_simp
        try with_reducible rfl
       try simp only [Act.put,List.setIfInBounds_toArray,List.set_cons_zero,List.set_cons_succ]
       refine wpL_takeB (i:=8) (v:=?_) rfl (by kernel_rfl) (by kernel_rfl) (by kernel_rfl) (by decide) (fun _ _ _ h=>h) (Or.inl ⟨by rfl,?_⟩) (SAB.both hA hB) ?_
       rotate_left
       ·intro wx hBx
        (try dsimp only at hBx)
        go_simp
        try with_reducible rfl
       try simp only [Act.put,List.setIfInBounds_toArray,List.set_cons_zero,List.set_cons_succ]
       refine wpL_takeB (i:=9) (v:=?_) rfl (by kernel_rfl) (by kernel_rfl) (by kernel_rfl) (by decide) (fun _ _ _ h=>h) (Or.inl ⟨by rfl,?_⟩) (SAB.both hA hB) ?_
       rotate_left
       ·intro wx hBx
        (try dsimp only at hBx)
        go_simp
        try with_reducible rfl
       try simp only [Act.put,List.setIfInBounds_toArray,List.set_cons_zero,List.set_cons_succ]
       refine wpL_takeB (i:=10) (v:=?_) rfl (by kernel_rfl) (by kernel_rfl) (by kernel_rfl) (by decide) (fun _ _ _ h=>h) (Or.inl ⟨by rfl,?_⟩) (SAB.both hA hB) ?_
       rotate_left
       ·intro wx hBx
        (try dsimp only at hBx)
        go_simp
        try with_reducible rfl
       try simp only [Act.put,List.setIfInBounds_toArray,List.set_cons_zero,List.set_cons_succ]
       refine wpL_takeB (i:=11) (v:=?_) rfl (by kernel_rfl) (by kernel_rfl) (by kernel_rfl) (by decide) (fun _ _ _ h=>h) (Or.inl ⟨by rfl,?_⟩) (SAB.both hA hB) ?_
       rotate_left
       ·intro wx hBx
        (try dsimp only at hBx)
        go_simp
        try with_reducible rfl
       try simp only [Act.put,List.setIfInBounds_toArray,List.set_cons_zero,List.set_cons_succ]
       refine wpL_done (by kernel_rfl) ?_
       have hfin : DlTry (RunK cs (l ++ [(⟨yp,1,f,ix,yo,yv⟩ : Chc)])) w12 (.int .i64 kq) w30:=⟨kq,rfl,hkq,hB5⟩
       have HFIN:=Lib.hid hfin
       clear hfin
       clear hB5 hB4 hk30 hkq hcall hA hB
       go_wp2_with fail
       go_meet
       exact HFIN.out
     case rest=>
      obtain ⟨w13,hw13⟩ : ∃ w13 : World,w13 = wc:=⟨_,rfl⟩
      subst hw13
      obtain ⟨k3,rfl,hk3',hkw13⟩:=hcut
      have h11 : k3 = 11:=by rcases hk3' with ⟨⟨u',hu'⟩,-⟩ | ⟨h,-⟩; (rw [HD4.out] at hu'; cases hu'); (rw [HD4.out] at h; injection h with h; exact h.symm)
      subst h11
      have hfin : DlRel nl w5 (.int .i64 ((j : Int) + 1)) w13:=⟨j + 1,by simp,by omega,Keep.trans HK512.out hkw13⟩
      have HFIN:=Lib.hid hfin
      clear hfin
      clear hk3' hkw13
      go_wp2_with fail
      go_roundw
      case rel=>exact HFIN.out
      case measure=>simp [intOf]; omega
  ·have t0 : decide (j < nl) = false:=by simpa using hj
   have hfin : Aw40Post w (.returned (.bool true)) wr:=⟨rfl,Keep.trans HK05.out hkr⟩
   have HFIN:=Lib.hid hfin
   clear hfin
   clear hkr
   go_wp2_with fail
   go_ret
   exact HFIN.out
end Go.Proofs.YtipegaojiokppaaGreatDoor
