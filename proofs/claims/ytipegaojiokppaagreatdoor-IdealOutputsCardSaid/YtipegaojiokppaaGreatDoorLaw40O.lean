import Derived.Test.YtipegaojiokppaaGreatDoorGL
import Derived.Test.YtipegaojiokppaaGreatDoorEval2
set_option linter.unusedVariables false
set_option linter.unusedSimpArgs false
set_option maxRecDepth 100000
namespace Go.Proofs.YtipegaojiokppaaGreatDoor
open Go.RowKit Go.Proofs
theorem bld_out2 (a b : Int) : Tryz.prog.built 52 [(0,.int .i64 a),(1,.int .i64 b)] = some #[.int .i64 a,.int .i64 b]:=by kernel_rfl
theorem playI_wlen {cs : List Cd} : ∀ (l : List Chc) (m0 m1 : Mi),playI cs m0 l = .ok m1 → m1.world.length ≤ m0.world.length + 8 * l.length:=by
 intro l
 induction l with
 | nil=>intro m0 m1 h; injection h with h; rw [h]; simp
 | cons x l ih=>
  intro m0 m1 h
  have h:=playI_cons_ok h
  have h1:=ih _ _ h.2
  have h2:=execI_world (cs:=cs) (m:=m0) x.proc.toNat (eventI m0.ss x).1
  rw [List.length_cons]
  omega
theorem outSum_le (ss : List St) (k : Nat) : outSum (ss.take k) ≤ outSum ss:=by
 have h:=outSum_app (ss.take k) (ss.drop k)
 rw [List.take_append_drop] at h
 omega
def OtRel (ss : List St) (n : Nat) (W : World) (a i : Value) (wr : World) : Prop:=∃ (p s : Nat),i = .int .i64 p ∧ a = .int .i64 s ∧ s = outSum (ss.take p) ∧ p ≤ n ∧ Keep W wr
def OtIn (ws : List Sh) (p nw : Nat) (W : World) (a j : Value) (wr : World) : Prop:=∃ (q i : Nat),j = .int .i64 q ∧ a = .int .i64 i ∧ i = (worldOf p (ws.take q)).length ∧ q ≤ nw ∧ Keep W wr
set_option maxHeartbeats 32000000 in
theorem idealOutputs_walk (w : World) (A : Option Addr) (n0 c0 : Nat) (zs : List Int) (hg : Glob w) (hz : Sl encB 1 w (· < w.heap.size) A n0 c0 zs) (hz8 : ∀ y ∈ zs,0 ≤ y ∧ y < 256) : Calls Tryz.prog 4 #[.slice A n0 c0] w (Aw40Post w):=by
 have HG:=Lib.hid hg
 have HZ:=Lib.hid hz
 have HZ8:=Lib.hid hz8
 clear hg hz hz8
 go_enter Tryz.func4,Tryz.ntmps4
 go_wp2_with fail
 refine (awake40_any w).mono ?_
 rintro e w1 ⟨rfl,hk1⟩
 have hz1:=hk1.size
 have HK1:=Lib.hid hk1
 clear hk1
 go_wp2_with fail
 refine (scene_any w1 A n0 c0 zs (HG.out.keep HK1.out) ((HZ.out.keep HK1.out).more (fun i hi=>by have : i < w.heap.size:=hi; show i < w1.heap.size; omega)) HZ8.out).mono ?_
 rintro e w2 ⟨AC,n,cC,v,cs,AL,c,l,m,gc,r,B,rfl,hcds,hn2,hn3,hini,hsl,hl25,hrun,-,-,-,hk2⟩
 have hz2:=hk2.size
 have hlc:=hsl.2.1
 have hlm : c ≤ 9223372036854775807:=hsl.2.2.1
 obtain ⟨nl,hnl⟩ : ∃ nl,nl = l.length:=⟨_,rfl⟩
 rw [← hnl] at hsl hl25 hlc
 rw [← hnl]
 have hk02:=Keep.trans HK1.out hk2
 have hcl:=hcds.1
 have HCDS:=Lib.hid hcds
 have HINI:=Lib.hid hini
 have HSL:=Lib.hid hsl
 have HRUN:=Lib.hid hrun
 have HK02:=Lib.hid hk02
 have HNL:=Lib.hid hnl
 have HCL:=Lib.hid hcl
 clear hcds hini hsl hrun hk02 hnl hcl
 clear hk2
 go_upto_region 4 with (refine wpList_store_all rfl _ (.tmp 3) (.tmp 19) rfl w2.heap.size 27 _ [.slice AC n cC,.int .i64 1,.int .i64 v] rfl rfl (Blk.new _ _ _) rfl (by kernel_rfl) rfl ?_; intro w3 hb3 hs3)
 have hk3 : Keep w2 w3:=Keep.write (Keep.new _ _) hs3 (Nat.le_refl _)
 have hz3 : w2.heap.size < w3.heap.size:=hb3.lt
 have hcd3:=(HCDS.out.keep (hk3.mono (fun i (hi : ScS w1 w2 gc i)=>hi.2.1))).more (T:=Bw w3) (fun i hi=>by have:=hi.2.1; show i < w3.heap.size; omega)
 have hsl3:=(HSL.out.keep (hk3.mono (fun i (hi : ScS w1 w2 gc i)=>hi.2.1))).more (T:=Bw w3) (fun i hi=>by have:=hi.2.1; show i < w3.heap.size; omega)
 have hk03:=Keep.trans HK02.out hk3
 have HB3:=Lib.hid hb3
 have HCD3:=Lib.hid hcd3
 have HSL3:=Lib.hid hsl3
 have HK03:=Lib.hid hk03
 clear hb3 hcd3 hsl3 hk03
 clear hs3 hk3 HCDS HSL HK02
 have hplay:=play_ok w3 AC AL n cC nl c 1 v cs l m HCD3.out HINI.out HSL3.out (by omega) (by omega) HRUN.out
 have HPLAY:=Lib.hid hplay
 clear hplay
 go_wp2_with (refine wpList_load_all rfl _ (.tmp 3) rfl w2.heap.size 27 [.slice AC n cC,.int .i64 1,.int .i64 v] _ rfl HB3.out Tryz.underlying27 rfl (by kernel_rfl) ?_)
 refine HPLAY.out.mono ?_
 rintro e w5 ⟨A5,c5,rfl,hst5,hk5⟩
 have hz5:=hk5.size
 have hb5:=hk5.blk HB3.out hz3
 have hcd5:=cds_up HCD3.out hk5
 have hsl5:=chs_up HSL3.out hk5
 have hk05:=Keep.trans HK03.out hk5
 have hmn : n = m.ss.length:=by rw [(runI_inv HRUN.out).len]; exact HCL.out
 have hw1:=iworld_any w5 (Bw w5) AC AL n cC nl c 1 v cs l (fun i hi=>hi) hcd5 HINI.out hsl5 (by omega) (by omega)
 have HST5:=Lib.hid hst5
 have HB5:=Lib.hid hb5
 have HK05:=Lib.hid hk05
 have HMN:=Lib.hid hmn
 have HW1:=Lib.hid hw1
 clear hst5 hb5 hk05 hmn hw1
 clear hk5 hcd5 hsl5
 go_wp2_with (refine wpList_load_all rfl _ (.tmp 3) rfl w2.heap.size 27 [.slice AC n cC,.int .i64 1,.int .i64 v] _ rfl HB5.out Tryz.underlying27 rfl (by kernel_rfl) ?_)
 refine HW1.out.mono ?_
 rintro e w6 ⟨hk6,⟨m',A6,c6,hrun',rfl,hs6⟩ | ⟨k',hrun',-,-⟩⟩
 case inr=>rw [HRUN.out] at hrun'; cases hrun'
 have hmm : m' = m:=by rw [HRUN.out] at hrun'; injection hrun' with h; exact h.symm
 subst hmm
 have hz6:=hk6.size
 have hb6:=hk6.blk HB5.out HB5.out.lt
 have cc0 : w6.cell? ⟨w2.heap.size,0,none⟩ = some (.slice AC n cC):=by rw [hb6.cell]; rfl
 have hnn : ((n : Int) != (n : Int)) = false:=by simp
 have hst6:=sts_up HST5.out hk6
 have hk06:=Keep.trans HK05.out hk6
 have hinv:=runI_out HRUN.out
 have hsum:=hinv.sum
 have hmb : m'.world.length ≤ 1000000:=by
  obtain ⟨c1,c5',-,hp⟩:=runI_ok HRUN.out
  have h1:=playI_wlen _ _ _ hp
  have h2:=startI_world cs cs.length
  have:=HNL.out
  omega
 obtain ⟨nw,hnw⟩ : ∃ nw,nw = m'.world.length:=⟨_,rfl⟩
 rw [← hnw] at hs6 hmb hsum
 rw [← hnw]
 have HB6:=Lib.hid hb6
 have HST6:=Lib.hid hst6
 have HK06:=Lib.hid hk06
 have HINV:=Lib.hid hinv
 have HSUM:=Lib.hid hsum
 have HS6:=Lib.hid hs6
 have HNW:=Lib.hid hnw
 clear hb6 hst6 hk06 hinv hsum hs6 hnw
 clear hk6 hrun'
 go_wp2_with fail
 clear cc0 hnn
 go_loopw [10,11] (fun a i wr=>OtRel m'.ss n w6 a i wr) (fun _ i _=>n - (intOf i).toNat)
 case atStart=>exact ⟨0,0,rfl,rfl,by simp [outSum],Nat.zero_le _,Same.refl _ _⟩
 case round=>
  obtain ⟨p,s,rfl,rfl,hs,hpn,hkr⟩:=hrel
  obtain ⟨wo,hwo⟩ : ∃ wo : World,wo = wr:=⟨_,rfl⟩
  subst hwo
  have hzo:=hkr.size
  by_cases hp : p < n
  ·have t0 : decide (p < n) = true:=by simpa using hp
   obtain ⟨bS,oS,B1,B2,B3,B4,p1,q1,p2,q2,p3,q3,p4,q4,rfl,hSb,hsk,hrg⟩:=sts_at (sts_up HST6.out hkr) hp
   have hso:=(st_sl hsk).2.2.2
   obtain ⟨outs,hou⟩ : ∃ outs,outs = (m'.ss.getD p zeroSt).outs:=⟨_,rfl⟩
   rw [← hou] at hso
   have hp4:=hso.1
   have hok:=HINV.out.of p (by have:=HMN.out; omega)
   rw [← hou] at hok
   have hs1 : s + p4 = outSum (m'.ss.take (p + 1)):=by rw [outSum_take (by have:=HMN.out; omega),← hou,← hs,hp4]
   have hs2 : s + p4 ≤ 1000000:=by have:=outSum_le m'.ss (p + 1); have:=HSUM.out; omega
   have rgS : ∀ wx,Keep wo wx → wx.rangeAt bS (oS + p * 4) [.slice B1 p1 q1,.slice B2 p2 q2,.slice B3 p3 q3,.slice B4 p4 q4]:=fun wx hx j u hu=>(hx.cell (p:=⟨bS,oS + p * 4 + j,none⟩) hSb).trans (hrg j u hu)
   have hs6o:=chs_up HS6.out hkr
   have g1 : (p : Int) < n:=by omega
   have g2 : (0 : Int) ≤ p:=by omega
   have hp4' : p4 ≤ 1000000:=by omega
   have hq4:=hso.2.2.1
   have hkw:=hkr
   have HSO:=Lib.hid hso
   have HOK:=Lib.hid hok
   have HS1:=Lib.hid hs1
   have RGS:=Lib.hid rgS
   have HS6O:=Lib.hid hs6o
   have HKW:=Lib.hid hkw
   have HOU:=Lib.hid hou
   have HP4:=Lib.hid hp4
   have HS:=Lib.hid hs
   clear hso hok hs1 rgS hs6o hkw hou hp4 hs
   clear hsk hrg hkr hq4
   go_wp2_with fail
   go_loopw [12,13] (fun a j wx=>OtIn m'.world p nw wo a j wx) (fun _ j _=>nw - (intOf j).toNat)
   case atStart=>exact ⟨0,0,rfl,rfl,by simp [worldOf],Nat.zero_le _,Same.refl _ _⟩
   case round=>
    obtain ⟨q,i,rfl,rfl,hi,hqn,hkq⟩:=hrel
    have hzr:=hkq.size
    by_cases hq : q < nw
    ·obtain ⟨bW,oW,x,rfl,hWb,hx,hcx⟩:=(chs_up HS6O.out hkq).at_ encSh_len hq
     obtain ⟨xp,xi,xo,xv⟩:=x
     have u0 : decide (q < nw) = true:=by simpa using hq
     have u1 : (0 : Int) ≤ q:=by omega
     have u2 : (q : Int) < nw:=by omega
     have htk:=worldOf_take (p:=p) hx
     rw [← hi] at htk
     have x0 : wr.cell? ⟨bW,oW + q * 4,none⟩ = some (.int .i64 xp):=by have:=hcx 0 _ rfl; simpa using this
     by_cases hpx : xp = (p : Int)
     case neg=>
      have t3 : (xp != (p : Int)) = true:=by simpa using hpx
      have hfin : ∀ k,OtIn m'.world p nw wo (.int .i64 (i : Int)) (.int .i64 ((q : Int) + 1)) (wr.drewN k):=fun k=>⟨q + 1,i,by simp,rfl,by rw [htk,if_neg hpx]; rfl,by omega,Keep.trans hkq (Keep.draws _ _)⟩
      have HFIN:=Lib.hid hfin
      clear hfin
      clear hkq hcx hx htk hpx hi
      go_wp2_with fail
      go_roundw
      case rel=>exact HFIN.out 0
      case measure=>simp [intOf]; omega
     subst hpx
     have hat:=worldOf_at hx rfl
     rw [← hi] at hat
     have hi4 : i < outs.length:=by rw [← HOK.out.1]; exact (List.getElem?_eq_some_iff.1 hat).1
     have hip : i < p4:=by have:=HP4.out; omega
     obtain ⟨o,ho1,ho2,ho3⟩:=HOK.out.2 i hi4
     rw [hat] at ho1
     simp only [Option.some.injEq,Sh.mk.injEq,true_and] at ho1
     obtain ⟨ei,eo,ev⟩:=ho1
     subst eo
     have hsow:=chs_up HSO.out hkq
     obtain ⟨bO,oO,y,hOe,hOb,hy,hcy⟩:=hsow.at_ encOut_len hip
     have hyo : outs.getD i zeroOut = y:=by simp [List.getD,hy]
     rw [hyo] at ei ev ho3
     obtain ⟨yi,yv⟩:=y
     simp only at ei ev ho3
     subst ei ev
     subst hOe
     have t3 : ((p : Int) != (p : Int)) = false:=by simp
     have t4 : decide ((p4 : Int) ≤ (i : Int)) = false:=by simp; omega
     have t5 : decide (p4 ≤ i) = false:=by simp; omega
     have s1 : (i : Int) < p4:=by omega
     have s2 : (0 : Int) ≤ i:=by omega
     have hSw : bS < wr.heap.size:=by have : bS < wo.heap.size:=hSb; omega
     have rgO : ∀ wx,Keep wr wx → wx.rangeAt bO (oO + i * 2) [.int .i64 xi,.int .i64 xv]:=fun wx hx j u hu=>(hx.cell (p:=⟨bO,oO + i * 2 + j,none⟩) hOb).trans (hcy j u hu)
     have rgW : ∀ wx,Keep wr wx → wx.rangeAt bW (oW + q * 4) [.int .i64 (p : Int),.int .i64 xi,.int .i64 xo,.int .i64 xv]:=fun wx hx j u hu=>(hx.cell (p:=⟨bW,oW + q * 4 + j,none⟩) hWb).trans (hcx j u hu)
     have c3 : ∀ wx,Keep wr wx → wx.cell? ⟨bS,oS + p * 4 + 3,none⟩ = some (.slice (some ⟨bO,oO,none⟩) p4 q4):=fun wx hx=>RGS.out wx (Keep.trans hkq hx) 3 _ rfl
     have c1 : ∀ wx,Keep wr wx → wx.cell? ⟨bW,oW + q * 4 + 1,none⟩ = some (.int .i64 xi):=fun wx hx=>rgW wx hx 1 _ rfl
     have c2 : ∀ wx,Keep wr wx → wx.cell? ⟨bW,oW + q * 4 + 3,none⟩ = some (.int .i64 xv):=fun wx hx=>rgW wx hx 3 _ rfl
     have HAT:=Lib.hid hat
     have HO2:=Lib.hid ho2
     have HO3:=Lib.hid ho3
     have HY:=Lib.hid hy
     have HYO:=Lib.hid hyo
     have HSOW:=Lib.hid hsow
     have RGO:=Lib.hid rgO
     have RGW:=Lib.hid rgW
     have HTK:=Lib.hid htk
     have HKQ:=Lib.hid hkq
     have HI:=Lib.hid hi
     have HCY:=Lib.hid hcy
     clear hat ho2 ho3 hy hyo hsow rgO rgW htk hkq hi hcy
     clear hx hcx
     go_upto_region 17 with fail
     refine wp_region_L 99 (fun _=>True) (fun wx=>Keep wr wx) (by kernel_rfl) trivial (Same.drew (Same.refl _ _)) (fun hA hB=>?_)
     generalize hu0 : wr.drew = u5 at hB ⊢
     clear hu0
     refine wpL_takeB (i:=0) (v:=?_) rfl (by kernel_rfl) (by kernel_rfl) (by kernel_rfl) (by decide) (fun _ _ _ h=>h) (Or.inl ⟨by rfl,?_⟩) (SAB.both hA hB) ?_
     rotate_left
     ·intro wx hBx
      (try dsimp only at hBx)
      go_simp
      try with_reducible rfl
     try simp only [Act.put,List.setIfInBounds_toArray,List.set_cons_zero,List.set_cons_succ]
     refine wpL_takeB (i:=1) (v:=?_) rfl (by kernel_rfl) (by kernel_rfl) (by kernel_rfl) (by decide) (fun _ _ _ h=>h) (Or.inl ⟨by rfl,?_⟩) (SAB.both hA hB) ?_
     rotate_left
     ·intro wx hBx
      (try dsimp only at hBx)
      go_simp
      try with_reducible rfl
     try simp only [Act.put,List.setIfInBounds_toArray,List.set_cons_zero,List.set_cons_succ]
     refine wpL_takeB (i:=2) (v:=?_) rfl (by kernel_rfl) (by kernel_rfl) (by kernel_rfl) (by decide) (fun _ _ _ h=>h) (Or.inl ⟨by rfl,?_⟩) (SAB.both hA hB) ?_
     rotate_left
     ·intro wx hBx
      (try dsimp only at hBx)
      go_simp
      try with_reducible rfl
     try simp only [Act.put,List.setIfInBounds_toArray,List.set_cons_zero,List.set_cons_succ]
     refine wpL_takeB (i:=3) (v:=?_) rfl (by kernel_rfl) (by kernel_rfl) (by kernel_rfl) (by decide) (fun _ _ _ h=>h) (Or.inl ⟨by rfl,?_⟩) (SAB.both hA hB) ?_
     rotate_left
     ·intro wx hBx
      (try dsimp only at hBx)
      go_simp
      try with_reducible rfl
     try simp only [Act.put,List.setIfInBounds_toArray,List.set_cons_zero,List.set_cons_succ]
     refine wpL_takeB (i:=4) (v:=?_) rfl (by kernel_rfl) (by kernel_rfl) (by kernel_rfl) (by decide) (fun _ _ _ h=>h) (Or.inl ⟨by rfl,?_⟩) (SAB.both hA hB) ?_
     rotate_left
     ·intro wx hBx
      (try dsimp only at hBx)
      go_simp
      try with_reducible rfl
     try simp only [Act.put,List.setIfInBounds_toArray,List.set_cons_zero,List.set_cons_succ]
     refine wpL_takeB (i:=5) (v:=?_) rfl (by kernel_rfl) (by kernel_rfl) (by kernel_rfl) (by decide) (fun _ _ _ h=>h) (Or.inl ⟨by rfl,?_⟩) (SAB.both hA hB) ?_
     rotate_left
     ·intro wx hBx
      (try dsimp only at hBx)
      go_simp
      try with_reducible rfl
     try simp only [Act.put,List.setIfInBounds_toArray,List.set_cons_zero,List.set_cons_succ]
     refine wpL_takeB (i:=6) (v:=?_) rfl (by kernel_rfl) (by kernel_rfl) (by kernel_rfl) (by decide) (fun _ _ _ h=>h) (Or.inl ⟨by rfl,?_⟩) (SAB.both hA hB) ?_
     rotate_left
     ·intro wx hBx
      (try dsimp only at hBx)
      go_simp
      try with_reducible rfl
     try simp only [Act.put,List.setIfInBounds_toArray,List.set_cons_zero,List.set_cons_succ]
     refine wpL_takeB (i:=7) (v:=?_) rfl (by kernel_rfl) (by kernel_rfl) (by kernel_rfl) (by decide) (fun _ _ _ h=>h) (Or.inl ⟨by rfl,?_⟩) (SAB.both hA hB) ?_
     rotate_left
     ·intro wx hBx
      (try dsimp only at hBx)
      go_simp
      try with_reducible rfl
     try simp only [Act.put,List.setIfInBounds_toArray,List.set_cons_zero,List.set_cons_succ]
     refine wpL_takeB (i:=8) (v:=?_) rfl (by kernel_rfl) (by kernel_rfl) (by kernel_rfl) (by decide) (fun _ _ _ h=>h) (Or.inl ⟨by rfl,?_⟩) (SAB.both hA hB) ?_
     rotate_left
     ·intro wx hBx
      (try dsimp only at hBx)
      go_simp
      try with_reducible rfl
     try simp only [Act.put,List.setIfInBounds_toArray,List.set_cons_zero,List.set_cons_succ]
     refine wpL_takeB (i:=9) (v:=?_) rfl (by kernel_rfl) (by kernel_rfl) (by kernel_rfl) (by decide) (fun _ _ _ h=>h) (Or.inl ⟨by rfl,?_⟩) (SAB.both hA hB) ?_
     rotate_left
     ·intro wx hBx
      (try dsimp only at hBx)
      go_simp
      try with_reducible rfl
     try simp only [Act.put,List.setIfInBounds_toArray,List.set_cons_zero,List.set_cons_succ]
     refine wpL_takeB (i:=10) (v:=?_) rfl (by kernel_rfl) (by kernel_rfl) (by kernel_rfl) (by decide) (fun _ _ _ h=>h) (Or.inl ⟨by rfl,?_⟩) (SAB.both hA hB) ?_
     rotate_left
     ·intro wx hBx
      (try dsimp only at hBx)
      go_simp
      try with_reducible rfl
     try simp only [Act.put,List.setIfInBounds_toArray,List.set_cons_zero,List.set_cons_succ]
     refine wpL_takeB (i:=11) (v:=?_) rfl (by kernel_rfl) (by kernel_rfl) (by kernel_rfl) (by decide) (fun _ _ _ h=>h) (Or.inl ⟨by rfl,?_⟩) (SAB.both hA hB) ?_
     rotate_left
     ·intro wx hBx
      (try dsimp only at hBx)
      go_simp
      try with_reducible rfl
     try simp only [Act.put,List.setIfInBounds_toArray,List.set_cons_zero,List.set_cons_succ]
     refine wpL_takeB (i:=12) (v:=?_) rfl (by kernel_rfl) (by kernel_rfl) (by kernel_rfl) (by decide) (fun _ _ _ h=>h) (Or.inl ⟨by rfl,?_⟩) (SAB.both hA hB) ?_
     rotate_left
     ·intro wx hBx
      (try dsimp only at hBx)
      go_simp
      try with_reducible rfl
     try simp only [Act.put,List.setIfInBounds_toArray,List.set_cons_zero,List.set_cons_succ]
     refine wpL_takeB (i:=13) (v:=?_) rfl (by kernel_rfl) (by kernel_rfl) (by kernel_rfl) (by decide) (fun _ _ _ h=>h) (Or.inl ⟨by rfl,?_⟩) (SAB.both hA hB) ?_
     rotate_left
     ·intro wx hBx
      (try dsimp only at hBx)
      go_simp
      try with_reducible rfl
     try simp only [Act.put,List.setIfInBounds_toArray,List.set_cons_zero,List.set_cons_succ]
     refine wpL_takeB (i:=14) (v:=?_) rfl (by kernel_rfl) (by kernel_rfl) (by kernel_rfl) (by decide) (fun _ _ _ h=>h) (Or.inl ⟨by rfl,?_⟩) (SAB.both hA hB) ?_
     rotate_left
     ·intro wx hBx
      (try dsimp only at hBx)
      go_simp
      try with_reducible rfl
     try simp only [Act.put,List.setIfInBounds_toArray,List.set_cons_zero,List.set_cons_succ]
     refine wpL_takeB (i:=15) (v:=?_) rfl (by kernel_rfl) (by kernel_rfl) (by kernel_rfl) (by decide) (fun _ _ _ h=>h) (Or.inl ⟨by rfl,?_⟩) (SAB.both hA hB) ?_
     rotate_left
     ·intro wx hBx
      (try dsimp only at hBx)
      go_simp
      try with_reducible rfl
     try simp only [Act.put,List.setIfInBounds_toArray,List.set_cons_zero,List.set_cons_succ]
     refine wpL_takeB (i:=16) rfl (by kernel_rfl) (by kernel_rfl) (by kernel_rfl) (by decide) (fun _ _ _ h=>h) (yieldsIf_load_mid (by rfl) _ _ rfl bO (oO + i * 2) rfl [.int .i64 xi,.int .i64 xv] _ (fun wx hx=>RGO.out wx hx) Tryz.underlying52 rfl (by kernel_rfl)) (SAB.both hA hB) ?_
     try simp only [Act.put,List.setIfInBounds_toArray,List.set_cons_zero,List.set_cons_succ]
     refine wpL_takeB (i:=17) (v:=?_) rfl (by kernel_rfl) (by kernel_rfl) (by kernel_rfl) (by decide) (fun _ _ _ h=>h) (Or.inl ⟨by rfl,?_⟩) (SAB.both hA hB) ?_
     rotate_left
     ·intro wx hBx
      (try dsimp only at hBx)
      go_simp
      try with_reducible rfl
     try simp only [Act.put,List.setIfInBounds_toArray,List.set_cons_zero,List.set_cons_succ]
     refine wpL_takeB (i:=18) (v:=?_) rfl (by kernel_rfl) (by kernel_rfl) (by kernel_rfl) (by decide) (fun _ _ _ h=>h) (Or.inl ⟨by rfl,?_⟩) (SAB.both hA hB) ?_
     rotate_left
     ·intro wx hBx
      (try dsimp only at hBx)
      go_simp
      try with_reducible rfl
     try simp only [Act.put,List.setIfInBounds_toArray,List.set_cons_zero,List.set_cons_succ]
     refine wpL_takeB (i:=19) (v:=?_) rfl (by kernel_rfl) (by kernel_rfl) (by kernel_rfl) (by decide) (fun _ _ _ h=>h) (Or.inl ⟨by rfl,?_⟩) (SAB.both hA hB) ?_
     rotate_left
     ·intro wx hBx
      (try dsimp only at hBx)
      go_simp
      try with_reducible rfl
     try simp only [Act.put,List.setIfInBounds_toArray,List.set_cons_zero,List.set_cons_succ]
     refine wpL_takeB (i:=20) (v:=?_) rfl (by kernel_rfl) (by kernel_rfl) (by kernel_rfl) (by decide) (fun _ _ _ h=>h) (Or.inl ⟨by rfl,?_⟩) (SAB.both hA hB) ?_
     rotate_left
     ·intro wx hBx
      (try dsimp only at hBx)
      go_simp
      try with_reducible rfl
     try simp only [Act.put,List.setIfInBounds_toArray,List.set_cons_zero,List.set_cons_succ]
     refine wpL_takeB (i:=21) (v:=?_) rfl (by kernel_rfl) (by kernel_rfl) (by kernel_rfl) (by decide) (fun _ _ _ h=>h) (Or.inl ⟨by rfl,?_⟩) (SAB.both hA hB) ?_
     rotate_left
     ·intro wx hBx
      (try dsimp only at hBx)
      go_simp
      try with_reducible rfl
     try simp only [Act.put,List.setIfInBounds_toArray,List.set_cons_zero,List.set_cons_succ]
     refine wpL_takeB (i:=22) (v:=?_) rfl (by kernel_rfl) (by kernel_rfl) (by kernel_rfl) (by decide) (fun _ _ _ h=>h) (Or.inl ⟨by rfl,?_⟩) (SAB.both hA hB) ?_
     rotate_left
     ·intro wx hBx
      (try dsimp only at hBx)
      go_simp
      try with_reducible rfl
     try simp only [Act.put,List.setIfInBounds_toArray,List.set_cons_zero,List.set_cons_succ]
     refine wpL_takeB (i:=23) (v:=?_) rfl (by kernel_rfl) (by kernel_rfl) (by kernel_rfl) (by decide) (fun _ _ _ h=>h) (Or.inl ⟨by rfl,?_⟩) (SAB.both hA hB) ?_
     rotate_left
     ·intro wx hBx
      (try dsimp only at hBx)
      go_simp
      try with_reducible rfl
     try simp only [Act.put,List.setIfInBounds_toArray,List.set_cons_zero,List.set_cons_succ]
     refine wpL_takeB (i:=24) (v:=?_) rfl (by kernel_rfl) (by kernel_rfl) (by kernel_rfl) (by decide) (fun _ _ _ h=>h) (Or.inl ⟨by rfl,?_⟩) (SAB.both hA hB) ?_
     rotate_left
     ·intro wx hBx
      (try dsimp only at hBx)
      go_simp
      try with_reducible rfl
     try simp only [Act.put,List.setIfInBounds_toArray,List.set_cons_zero,List.set_cons_succ]
     refine wpL_takeB (i:=25) (v:=?_) rfl (by kernel_rfl) (by kernel_rfl) (by kernel_rfl) (by decide) (fun _ _ _ h=>h) (Or.inl ⟨by rfl,?_⟩) (SAB.both hA hB) ?_
     rotate_left
     ·intro wx hBx
      (try dsimp only at hBx)
      go_simp
      try with_reducible rfl
     try simp only [Act.put,List.setIfInBounds_toArray,List.set_cons_zero,List.set_cons_succ]
     refine wpL_takeB (i:=26) (v:=?_) rfl (by kernel_rfl) (by kernel_rfl) (by kernel_rfl) (by decide) (fun _ _ _ h=>h) (Or.inl ⟨by rfl,?_⟩) (SAB.both hA hB) ?_
     rotate_left
     ·intro wx hBx
      (try dsimp only at hBx)
      go_simp
      try with_reducible rfl
     try simp only [Act.put,List.setIfInBounds_toArray,List.set_cons_zero,List.set_cons_succ]
     refine wpL_takeB (i:=27) rfl (by kernel_rfl) (by kernel_rfl) (by kernel_rfl) (by decide) (fun _ _ _ h=>h) (yieldsIf_bld (by rfl) _ _ rfl _ [(0,.int .i64 xi),(1,.int .i64 xv)] rfl (bld_out2 _ _)) (SAB.both hA hB) ?_
     try simp only [Act.put,List.setIfInBounds_toArray,List.set_cons_zero,List.set_cons_succ]
     refine wpL_takeB (i:=28) rfl (by kernel_rfl) (by kernel_rfl) (by kernel_rfl) (by decide) (fun _ _ _ h=>h) (yieldsIf_of (by rfl) (.bool false) (fun wx _=>by go_simp)) (SAB.both hA hB) ?_
     try simp only [Act.put,List.setIfInBounds_toArray,List.set_cons_zero,List.set_cons_succ]
     refine wpL_takeB (i:=29) (v:=?_) rfl (by kernel_rfl) (by kernel_rfl) (by kernel_rfl) (by decide) (fun _ _ _ h=>h) (Or.inl ⟨by rfl,?_⟩) (SAB.both hA hB) ?_
     rotate_left
     ·intro wx hBx
      (try dsimp only at hBx)
      go_simp
      try with_reducible rfl
     try simp only [Act.put,List.setIfInBounds_toArray,List.set_cons_zero,List.set_cons_succ]
     refine wpL_done (by kernel_rfl) ?_
     have hz5':=hB.size
     have hkq5:=Keep.trans HKQ.out hB
     have d3:=c3 u5 hB
     have d1:=c1 u5 hB
     have d2 : u5.cell? ⟨bW,oW + q * 4 + 2,none⟩ = some (.int .i64 xo):=RGW.out u5 hB 2 _ rfl
     have hfin : ∀ k,OtIn m'.world p nw wo (.int .i64 ((i : Int) + 1)) (.int .i64 ((q : Int) + 1)) (u5.drewN k):=fun k=>⟨q + 1,i + 1,by simp,by simp,by rw [HTK.out,if_pos rfl],by omega,Keep.trans hkq5 (Keep.draws _ _)⟩
     have hsow5:=chs_up HSOW.out hB
     have HFIN:=Lib.hid hfin
     have HSOW5:=Lib.hid hsow5
     clear hfin hsow5
     clear c1 c2 c3 hA hB hkq5 x0 t3 t4 t5 u0
     go_upto_region 19 with fail
     cases i with
     | zero=>
      have e1 : decide ((0 : Int) < ((0 : Nat) : Int)) = false:=rfl
      have e2 : ((((0 : Nat) : Int)) == 0) = true:=rfl
      have e3 : (xo != 0) = false:=by have:=HO2.out rfl; simp [this]
      go_quiet (fail)
      go_wp2_with fail
      go_roundw
      case rel=>exact HFIN.out _
      case measure=>simp [intOf]; omega
     | succ i'=>
      obtain ⟨bO2,oO2,z,hOe2,hOb2,hz,hcz⟩:=HSOW5.out.at_ encOut_len (k:=i') (by omega)
      obtain ⟨rfl,rfl⟩ : bO = bO2 ∧ oO = oO2:=by simpa using hOe2
      have hzo : outs.getD i' zeroOut = z:=by simp [List.getD,hz]
      have ho4:=HO3.out (Nat.succ_pos _)
      rw [Nat.add_sub_cancel,hzo] at ho4
      obtain ⟨zi,zv⟩:=z
      simp only at ho4
      have d4 : u5.cell? ⟨bO,oO + i' * 2,none⟩ = some (.int .i64 zi):=by have:=hcz 0 _ rfl; simpa using this
      have e1 : decide ((0 : Int) < ((i' + 1 : Nat) : Int)) = true:=by first | (simp; done) | (simp; omega)
      have e1' : decide ((0 : Int) < (i' : Int) + 1) = true:=by first | (simp; done) | (simp; omega)
      have e2 : (((i' + 1 : Nat) : Int) == 0) = false:=by first | (simp; done) | (simp; omega)
      have e2' : (((i' : Int) + 1) == 0) = false:=by first | (simp; done) | (simp; omega)
      have e3 : (0 : Int) ≤ i':=by omega
      have e4 : (i' : Int) < p4:=by omega
      have ew : IntKind.i64.wrap ((i' : Int) + 1 - 1) = i':=by rw [Int.add_sub_cancel]; exact IntWalk.i64_in _ (by omega)
      have ew2 : IntKind.i64.wrap (((i' + 1 : Nat) : Int) - 1) = i':=by rw [Int.natCast_add]; exact ew
      cases hb : decide (0 < xo)
      ·have e5 : (zi == xi) = false:=by
        have : ¬ zi = xi:=fun h=>of_decide_eq_false hb (ho4.1 h)
        simpa using this
       clear ho4 hcz hz hzo
       go_quiet (fail)
       go_wp2_with fail
       go_roundw
       case rel=>exact HFIN.out _
       case measure=>simp [intOf]; omega
      ·have e5 : (zi == xi) = true:=by
        have : zi = xi:=ho4.2 (of_decide_eq_true hb)
        simpa using this
       clear ho4 hcz hz hzo
       go_quiet (fail)
       go_wp2_with fail
       go_roundw
       case rel=>exact HFIN.out _
       case measure=>simp [intOf]; omega
    ·have u0 : decide (q < nw) = false:=by simpa using hq
     have hqe : q = m'.world.length:=by have:=HNW.out; omega
     have hie : i = p4:=by rw [hi,hqe,List.take_length,HP4.out]; exact HOK.out.1
     clear hi hqe
     subst hie
     have n0' : ((i : Int) != (i : Int)) = false:=by simp
     have c3 : wr.cell? ⟨bS,oS + p * 4 + 3,none⟩ = some (.slice B4 i q4):=RGS.out wr hkq 3 _ rfl
     have hw9 : IntKind.i64.wrap ((s : Int) + i) = (s : Int) + i:=IntWalk.i64_in _ (by omega)
     have hfin : ∀ k,OtRel m'.ss n w6 (.int .i64 ((s : Int) + i)) (.int .i64 ((p : Int) + 1)) (wr.drewN k):=fun k=>⟨p + 1,s + i,by simp,by simp,HS1.out,by omega,Keep.trans (Keep.trans HKW.out hkq) (Keep.draws _ _)⟩
     have HFIN:=Lib.hid hfin
     clear hfin
     clear hkq
     go_wp2_with fail
     go_roundw
     case rel=>exact HFIN.out 0
     case measure=>simp [intOf]; omega
  ·have t0 : decide (p < n) = false:=by simpa using hp
   have hpe : p = m'.ss.length:=by have:=HMN.out; omega
   have hse : s = nw:=by rw [hs,hpe,List.take_length]; exact HSUM.out.symm
   clear hs hpe
   subst hse
   have n0' : ((s : Int) == (s : Int)) = true:=by simp
   have hfin : ∀ k,Aw40Post w (.returned (.bool true)) (wo.drewN k):=fun k=>⟨rfl,Keep.trans (Keep.trans HK06.out hkr) (Keep.draws _ _)⟩
   have HFIN:=Lib.hid hfin
   clear hfin
   clear hkr
   go_wp2_with fail
   go_ret
   exact HFIN.out 0
end Go.Proofs.YtipegaojiokppaaGreatDoor
