import Derived.Test.YtipegaojiokppaaGreatDoorGL
import Derived.Test.YtipegaojiokppaaGreatDoorEval2
import Derived.Test.YtipegaojiokppaaGreatDoorG34
set_option linter.unusedVariables false
set_option linter.unusedSimpArgs false
set_option maxRecDepth 100000
namespace Go.Proofs.YtipegaojiokppaaGreatDoor
open Go.RowKit Go.Proofs
theorem info_Evs : (Tryz.prog.info? 46).map (fun i=>(i.zero,i.size,i.bytes)) = some (some (.slice none 0 0),1,24):=by kernel_rfl
theorem built_evs1 (A : Option Addr) (n c : Nat) : builtS Tryz.prog 46 1 [(0,.slice A n c)] = some #[.slice A n c]:=by kernel_rfl
def EvlRel (ss : List St) (n : Nat) (w : World) (v i : Value) (wr : World) : Prop:=
 ∃ (k : Nat) (vals : List Value),i = .int .i64 k ∧ k ≤ n ∧ vals.length = k ∧ wr.ownsRow w.heap.size 46 1 v k vals ∧ (∀ q,q < k → ∃ (A : Option Addr) (m c : Nat),vals[q]? = some (.slice A m c) ∧ Sl encEv 7 w (Bw w) A m c (ss.getD q zeroSt).events) ∧ Keep w wr
theorem flat_one : ∀ vals : List Value,(vals.map (fun v=>[v])).flatten = vals
 | []=>rfl
 | v :: vals=>by rw [List.map_cons,List.flatten_cons,flat_one vals]; rfl
theorem evl_done {w wr : World} {v : Value} {ss : List St} {n : Nat} {vals : List Value} (hn : n = ss.length) (hl : vals.length = n) (hown : wr.ownsRow w.heap.size 46 1 v n vals) (hv : ∀ q,q < n → ∃ (A : Option Addr) (m c : Nat),vals[q]? = some (.slice A m c) ∧ Sl encEv 7 w (Bw w) A m c (ss.getD q zeroSt).events) (hk : Keep w wr) :
  ∃ (A : Option Addr) (c : Nat),v = .slice A n c ∧ SlR wr (Bw wr) 1 (EvsR wr (Bw wr)) A n c (evsOf ss):=by
 obtain ⟨A,c,rfl,h1,h2⟩:=own_form hown
 have hr:=Reads.of_own hown
 refine ⟨A,c,rfl,by rw [hn]; simp [evsOf],h1,h2,vals.map (fun v=>[v]),by simp [hl],by simp,by rw [flat_one]; exact hr.more (fun i hi=>hi.2),fun k cs a e1 e2=>?_⟩
 rw [List.getElem?_map] at e1
 have hk' : k < n:=by
  have:=(List.getElem?_eq_some_iff.1 e2).1
  rw [hn]
  simpa [evsOf] using this
 obtain ⟨A',m,c',e3,h3⟩:=hv k hk'
 rw [e3] at e1
 simp only [Option.map_some,Option.some.injEq] at e1
 subst e1
 have ha : a = (ss.getD k zeroSt).events:=by
  have h4:=evL_of ss k
  unfold evL at h4
  rw [← h4]
  simp [List.getD,e2]
 subst ha
 exact ⟨A',m,c',rfl,chs_up h3 hk⟩
set_option maxHeartbeats 32000000 in
theorem idealReplays_walk (w : World) (A : Option Addr) (n0 c0 : Nat) (zs : List Int) (hg : Glob w) (hz : Sl encB 1 w (· < w.heap.size) A n0 c0 zs) (hz8 : ∀ y ∈ zs,0 ≤ y ∧ y < 256) : Calls Tryz.prog 8 #[.slice A n0 c0] w (Aw40Post w):=by
 have HG:=Lib.hid hg
 have HZ:=Lib.hid hz
 have HZ8:=Lib.hid hz8
 clear hg hz hz8
 go_enter Tryz.func8,Tryz.ntmps8
 go_wp2_with fail
 refine (awake40_any w).mono ?_
 rintro e w1 ⟨rfl,hk1⟩
 have hz1:=hk1.size
 have HK1:=Lib.hid hk1
 clear hk1
 go_wp2_with fail
 refine (scene_any w1 A n0 c0 zs (HG.out.keep HK1.out) ((HZ.out.keep HK1.out).more (fun i hi=>by have : i < w.heap.size:=hi; show i < w1.heap.size; omega)) HZ8.out).mono ?_
 rintro e w2 ⟨AC,n,cC,v,cs,AL,c,l,m,gc,r,B,rfl,hcds,hn2,hn3,hini,hsl,hl25,hrun,-,-,-,hk2⟩
 have hz2:=hk2.size
 have hlc:=hsl.2.1
 have hlm : c ≤ 9223372036854775807:=hsl.2.2.1
 obtain ⟨nl,hnl⟩ : ∃ nl,nl = l.length:=⟨_,rfl⟩
 rw [← hnl] at hsl hl25 hlc
 rw [← hnl]
 have hk02:=Keep.trans HK1.out hk2
 have hcl:=hcds.1
 have HCDS:=Lib.hid hcds
 have HINI:=Lib.hid hini
 have HSL:=Lib.hid hsl
 have HRUN:=Lib.hid hrun
 have HK02:=Lib.hid hk02
 have HNL:=Lib.hid hnl
 have HCL:=Lib.hid hcl
 clear hcds hini hsl hrun hk02 hnl hcl
 clear hk2
 go_upto_region 4 with (refine wpList_store_all rfl _ (.tmp 3) (.tmp 19) rfl w2.heap.size 27 _ [.slice AC n cC,.int .i64 1,.int .i64 v] rfl rfl (Blk.new _ _ _) rfl (by kernel_rfl) rfl ?_; intro w3 hb3 hs3)
 have hk3 : Keep w2 w3:=Keep.write (Keep.new _ _) hs3 (Nat.le_refl _)
 have hz3 : w2.heap.size < w3.heap.size:=hb3.lt
 have hcd3:=(HCDS.out.keep (hk3.mono (fun i (hi : ScS w1 w2 gc i)=>hi.2.1))).more (T:=Bw w3) (fun i hi=>by have:=hi.2.1; show i < w3.heap.size; omega)
 have hsl3:=(HSL.out.keep (hk3.mono (fun i (hi : ScS w1 w2 gc i)=>hi.2.1))).more (T:=Bw w3) (fun i hi=>by have:=hi.2.1; show i < w3.heap.size; omega)
 have hk03:=Keep.trans HK02.out hk3
 have HB3:=Lib.hid hb3
 have HCD3:=Lib.hid hcd3
 have HSL3:=Lib.hid hsl3
 have HK03:=Lib.hid hk03
 clear hb3 hcd3 hsl3 hk03
 clear hs3 hk3 HCDS HSL HK02
 have hplay:=play_ok w3 AC AL n cC nl c 1 v cs l m HCD3.out HINI.out HSL3.out (by omega) (by omega) HRUN.out
 have HPLAY:=Lib.hid hplay
 clear hplay
 go_wp2_with (refine wpList_load_all rfl _ (.tmp 3) rfl w2.heap.size 27 [.slice AC n cC,.int .i64 1,.int .i64 v] _ rfl HB3.out Tryz.underlying27 rfl (by kernel_rfl) ?_)
 refine HPLAY.out.mono ?_
 rintro e w5 ⟨A5,c5,rfl,hst5,hk5⟩
 have hz5:=hk5.size
 have hb5:=hk5.blk HB3.out hz3
 have cc0 : w5.cell? ⟨w2.heap.size,0,none⟩ = some (.slice AC n cC):=by rw [hb5.cell]; rfl
 have hnn : ((n : Int) != (n : Int)) = false:=by simp
 have hcd5:=cds_up HCD3.out hk5
 have hsl5:=chs_up HSL3.out hk5
 have hk05:=Keep.trans HK03.out hk5
 have hinv:=runI_inv HRUN.out
 have hmn : n = m.ss.length:=by rw [hinv.len]; exact HCL.out
 have hrel0 : EvlRel m.ss n w5 (.slice none 0 0) (.int .i64 0) w5:=⟨0,[],rfl,Nat.zero_le _,rfl,World.ownsRow_nil _ _ _ _,fun q hq=>by omega,Same.refl _ _⟩
 obtain ⟨i0,hi0,iz0,is0,ib0⟩:=info_of info_Evs
 have HST5:=Lib.hid hst5
 have HB5:=Lib.hid hb5
 have HCD5:=Lib.hid hcd5
 have HSL5:=Lib.hid hsl5
 have HK05:=Lib.hid hk05
 have HINV:=Lib.hid hinv
 have HMN:=Lib.hid hmn
 have HREL0:=Lib.hid hrel0
 have HI0:=Lib.hid hi0
 have IZ0:=Lib.hid iz0
 have IS0:=Lib.hid is0
 have IB0:=Lib.hid ib0
 clear hst5 hb5 hcd5 hsl5 hk05 hinv hmn hrel0 hi0 iz0 is0 ib0
 clear hk5
 go_wp2_with fail
 clear cc0 hnn
 go_loopw [8,9] (fun v' i wr=>EvlRel m.ss n w5 v' i wr) (fun _ i _=>n - (intOf i).toNat)
 case atStart=>exact HREL0.out
 case round=>
  clear HREL0
  obtain ⟨k,vals,rfl,hkn,hvl,hown,hvs,hkr⟩:=hrel
  have hzr:=hkr.size
  obtain ⟨v8,hv8⟩ : ∃ v8 : Value,v8 = u8:=⟨_,rfl⟩
  subst hv8
  by_cases hk : k < n
  ·have t0 : decide (k < n) = true:=by simpa using hk
   have hst:=sts_up HST5.out hkr
   have hcd:=cds_up HCD5.out hkr
   have hbr:=hkr.blk HB5.out HB5.out.lt
   obtain ⟨bS,oS,B1,B2,B3,B4,p1,q1,p2,q2,p3,q3,p4,q4,hAe,hSb,hsk,hrg⟩:=sts_at hst hk
   obtain ⟨bC,oC,D0,D1,D2,D3,D4,d0,f0,d1,f1,d2,f2,d3,f3,d4,f4,hCe,hCb,hcdk,hcrg⟩:=hcd.at_ hk
   have h5:=sts_at HST5.out hk
   obtain ⟨bS',oS',X1,X2,X3,X4,y1,z1,y2,z2,y3,z3,y4,z4,hAe',-,hsk5,hrg5⟩:=h5
   have heq : X2 = B2 ∧ y2 = p2 ∧ z2 = q2:=by
    rw [hAe] at hAe'
    simp only [Option.some.injEq,Addr.mk.injEq,and_true] at hAe'
    obtain ⟨rfl,rfl⟩:=hAe'
    have e1:=hrg 1 _ rfl
    have e2:=(hkr.cell (p:=⟨bS,oS + k * 4 + 1,none⟩) (World.block_lt_of_cell? w5 _ (hrg5 1 _ rfl))).trans (hrg5 1 _ rfl)
    rw [e1] at e2
    simp only [Option.some.injEq,Value.slice.injEq] at e2
    exact ⟨e2.1.symm,e2.2.1.symm,e2.2.2.symm⟩
   obtain ⟨rfl,rfl,rfl⟩:=heq
   have hev5:=(st_sl hsk5).2.1
   clear hAe'
   subst hAe hCe
   have g1 : (k : Int) < n:=by omega
   have g2 : (0 : Int) ≤ k:=by omega
   have c0 : ∀ wx,Keep wr wx → wx.cell? ⟨w2.heap.size,0,none⟩ = some (.slice (some ⟨bC,oC,none⟩) n cC):=fun wx hx=>(hx.cell (p:=⟨w2.heap.size,0,none⟩) hbr.lt).trans (by rw [hbr.cell]; rfl)
   have rgS : ∀ wx,Keep wr wx → wx.rangeAt bS (oS + k * 4) [.slice B1 p1 q1,.slice X2 y2 z2,.slice B3 p3 q3,.slice B4 p4 q4]:=fun wx hx j u hu=>(hx.cell (p:=⟨bS,oS + k * 4 + j,none⟩) hSb).trans (hrg j u hu)
   have rgC : ∀ wx,Keep wr wx → wx.rangeAt bC (oC + k * 5) [.slice D0 d0 f0,.slice D1 d1 f1,.slice D2 d2 f2,.slice D3 d3 f3,.slice D4 d4 f4]:=fun wx hx j u hu=>(hx.cell (p:=⟨bC,oC + k * 5 + j,none⟩) hCb).trans (hcrg j u hu)
   have c1 : ∀ wx,Keep wr wx → wx.cell? ⟨bS,oS + k * 4 + 1,none⟩ = some (.slice X2 y2 z2):=fun wx hx=>rgS wx hx 1 _ rfl
   have c1r:=c1 wr (Same.refl _ _)
   have hfk:=fine_run HINI.out HRUN.out k (by rw [← HMN.out]; exact hk)
   have hrep:=HINV.out.st k (by have:=HCL.out; omega)
   have hcl' : (cs.length : Int) = (n : Int):=by have:=HCL.out; omega
   rw [hcl'] at hrep
   have hpr : ∀ u,Keep wr u → Calls Tryz.prog 20 #[.agg #[.slice D0 d0 f0,.slice D1 d1 f1,.slice D2 d2 f2,.slice D3 d3 f3,.slice D4 d4 f4],.int .i64 k,.int .i64 n,.slice X2 y2 z2] u (StPost (Bw u) (replayS (cs.getD k zeroCd) k n (m.ss.getD k zeroSt).events) u):=fun u hu=>
    preplay_any u (Bw u) [.slice D0 d0 f0,.slice D1 d1 f1,.slice D2 d2 f2,.slice D3 d3 f3,.slice D4 d4 f4] (cs.getD k zeroCd) k n X2 y2 z2 (m.ss.getD k zeroSt).events (fun i hi=>hi) ((hcdk.keep hu).more (bw_up hu)) (chs_up (st_sl hsk).2.1 hu) (by have:=hfk.2.1; have:=(HINV.out.lens (p:=k) (by have:=HCL.out; omega)).2.2.2; omega)
   rw [← hrep] at hpr
   clear hrg hcrg hrg5 hst hcd hbr
   have HVS:=Lib.hid hvs
   have HOWN:=Lib.hid hown
   have HKR:=Lib.hid hkr
   have RGS:=Lib.hid rgS
   have RGC:=Lib.hid rgC
   have HFK:=Lib.hid hfk
   have HPR:=Lib.hid hpr
   have HSK:=Lib.hid hsk
   have HEV5:=Lib.hid hev5
   have HVL:=Lib.hid hvl
   clear hvs hown hkr rgS rgC hfk hpr hsk hev5 hvl
   clear hrep hcl' hsk5
   go_upto_region 11 with fail
   refine wp_region_L 99 (fun _=>True) (fun wx=>Keep wr wx) (by kernel_rfl) trivial (Same.drew (Same.refl _ _)) (fun hA hB=>?_)
   generalize hu0 : wr.drew = u0 at hB ⊢
   clear hu0
   refine wpL_takeB (i:=0) (v:=?_) rfl (by kernel_rfl) (by kernel_rfl) (by kernel_rfl) (by decide) (fun _ _ _ h=>h) (Or.inl ⟨by rfl,?_⟩) (SAB.both hA hB) ?_
   rotate_left
   ·intro wx hBx
    (try dsimp only at hBx)
    go_simp
    try with_reducible rfl
   try simp only [Act.put,List.setIfInBounds_toArray,List.set_cons_zero,List.set_cons_succ]
   refine wpL_takeB (i:=1) (v:=?_) rfl (by kernel_rfl) (by kernel_rfl) (by kernel_rfl) (by decide) (fun _ _ _ h=>h) (Or.inl ⟨by rfl,?_⟩) (SAB.both hA hB) ?_
   rotate_left
   ·intro wx hBx
    (try dsimp only at hBx)
    go_simp
    try with_reducible rfl
   try simp only [Act.put,List.setIfInBounds_toArray,List.set_cons_zero,List.set_cons_succ]
   refine wpL_takeB (i:=2) (v:=?_) rfl (by kernel_rfl) (by kernel_rfl) (by kernel_rfl) (by decide) (fun _ _ _ h=>h) (Or.inl ⟨by rfl,?_⟩) (SAB.both hA hB) ?_
   rotate_left
   ·intro wx hBx
    (try dsimp only at hBx)
    go_simp
    try with_reducible rfl
   try simp only [Act.put,List.setIfInBounds_toArray,List.set_cons_zero,List.set_cons_succ]
   refine wpL_takeB (i:=3) rfl (by kernel_rfl) (by kernel_rfl) (by kernel_rfl) (by decide) (fun _ _ _ h=>h) (yieldsIf_load_mid (by rfl) _ _ rfl bS (oS + k * 4) rfl [.slice B1 p1 q1,.slice X2 y2 z2,.slice B3 p3 q3,.slice B4 p4 q4] _ (fun wx hx=>RGS.out wx hx) Tryz.underlying50 rfl (by kernel_rfl)) (SAB.both hA hB) ?_
   try simp only [Act.put,List.setIfInBounds_toArray,List.set_cons_zero,List.set_cons_succ]
   refine wpL_takeB (i:=4) (v:=?_) rfl (by kernel_rfl) (by kernel_rfl) (by kernel_rfl) (by decide) (fun _ _ _ h=>h) (Or.inl ⟨by rfl,?_⟩) (SAB.both hA hB) ?_
   rotate_left
   ·intro wx hBx
    (try dsimp only at hBx)
    go_simp
    try with_reducible rfl
   try simp only [Act.put,List.setIfInBounds_toArray,List.set_cons_zero,List.set_cons_succ]
   refine wpL_takeB (i:=5) (v:=?_) rfl (by kernel_rfl) (by kernel_rfl) (by kernel_rfl) (by decide) (fun _ _ _ h=>h) (Or.inl ⟨by rfl,?_⟩) (SAB.both hA hB) ?_
   rotate_left
   ·intro wx hBx
    (try dsimp only at hBx)
    go_simp
    try with_reducible rfl
   try simp only [Act.put,List.setIfInBounds_toArray,List.set_cons_zero,List.set_cons_succ]
   refine wpL_takeB (i:=6) (v:=?_) rfl (by kernel_rfl) (by kernel_rfl) (by kernel_rfl) (by decide) (fun _ _ _ h=>h) (Or.inl ⟨by rfl,?_⟩) (SAB.both hA hB) ?_
   rotate_left
   ·intro wx hBx
    (try dsimp only at hBx)
    go_simp
    try with_reducible rfl
   try simp only [Act.put,List.setIfInBounds_toArray,List.set_cons_zero,List.set_cons_succ]
   refine wpL_takeB (i:=7) (v:=?_) rfl (by kernel_rfl) (by kernel_rfl) (by kernel_rfl) (by decide) (fun _ _ _ h=>h) (Or.inl ⟨by rfl,?_⟩) (SAB.both hA hB) ?_
   rotate_left
   ·intro wx hBx
    (try dsimp only at hBx)
    go_simp
    try with_reducible rfl
   try simp only [Act.put,List.setIfInBounds_toArray,List.set_cons_zero,List.set_cons_succ]
   refine wpL_takeB (i:=8) rfl (by kernel_rfl) (by kernel_rfl) (by kernel_rfl) (by decide) (fun _ _ _ h=>h) (yieldsIf_load_mid (by rfl) _ _ rfl bC (oC + k * 5) rfl [.slice D0 d0 f0,.slice D1 d1 f1,.slice D2 d2 f2,.slice D3 d3 f3,.slice D4 d4 f4] _ (fun wx hx=>RGC.out wx hx) Tryz.underlying63 rfl (by kernel_rfl)) (SAB.both hA hB) ?_
   try simp only [Act.put,List.setIfInBounds_toArray,List.set_cons_zero,List.set_cons_succ]
   refine wpL_takeB (i:=9) (v:=?_) rfl (by kernel_rfl) (by kernel_rfl) (by kernel_rfl) (by decide) (fun _ _ _ h=>h) (Or.inl ⟨by rfl,?_⟩) (SAB.both hA hB) ?_
   rotate_left
   ·intro wx hBx
    (try dsimp only at hBx)
    go_simp
    try with_reducible rfl
   try simp only [Act.put,List.setIfInBounds_toArray,List.set_cons_zero,List.set_cons_succ]
   refine wpL_takeB (i:=10) (v:=?_) rfl (by kernel_rfl) (by kernel_rfl) (by kernel_rfl) (by decide) (fun _ _ _ h=>h) (Or.inl ⟨by rfl,?_⟩) (SAB.both hA hB) ?_
   rotate_left
   ·intro wx hBx
    (try dsimp only at hBx)
    go_simp
    try with_reducible rfl
   try simp only [Act.put,List.setIfInBounds_toArray,List.set_cons_zero,List.set_cons_succ]
   refine wpL_takeB (i:=11) (v:=?_) rfl (by kernel_rfl) (by kernel_rfl) (by kernel_rfl) (by decide) (fun _ _ _ h=>h) (Or.inl ⟨by rfl,?_⟩) (SAB.both hA hB) ?_
   rotate_left
   ·intro wx hBx
    (try dsimp only at hBx)
    go_simp
    try with_reducible rfl
   try simp only [Act.put,List.setIfInBounds_toArray,List.set_cons_zero,List.set_cons_succ]
   refine wpL_takeB (i:=12) (v:=?_) rfl (by kernel_rfl) (by kernel_rfl) (by kernel_rfl) (by decide) (fun _ _ _ h=>h) (Or.inl ⟨by rfl,?_⟩) (SAB.both hA hB) ?_
   rotate_left
   ·intro wx hBx
    (try dsimp only at hBx)
    go_simp
    try with_reducible rfl
   try simp only [Act.put,List.setIfInBounds_toArray,List.set_cons_zero,List.set_cons_succ]
   refine wpL_takeB (i:=13) (v:=?_) rfl (by kernel_rfl) (by kernel_rfl) (by kernel_rfl) (by decide) (fun _ _ _ h=>h) (Or.inl ⟨by rfl,?_⟩) (SAB.both hA hB) ?_
   rotate_left
   ·intro wx hBx
    (try dsimp only at hBx)
    go_simp
    try with_reducible rfl
   try simp only [Act.put,List.setIfInBounds_toArray,List.set_cons_zero,List.set_cons_succ]
   refine wpL_takeB (i:=14) (v:=?_) rfl (by kernel_rfl) (by kernel_rfl) (by kernel_rfl) (by decide) (fun _ _ _ h=>h) (Or.inl ⟨by rfl,?_⟩) (SAB.both hA hB) ?_
   rotate_left
   ·intro wx hBx
    (try dsimp only at hBx)
    go_simp
    try with_reducible rfl
   try simp only [Act.put,List.setIfInBounds_toArray,List.set_cons_zero,List.set_cons_succ]
   refine wpL_takeB (i:=15) (v:=?_) rfl (by kernel_rfl) (by kernel_rfl) (by kernel_rfl) (by decide) (fun _ _ _ h=>h) (Or.inl ⟨by rfl,?_⟩) (SAB.both hA hB) ?_
   rotate_left
   ·intro wx hBx
    (try dsimp only at hBx)
    go_simp
    try with_reducible rfl
   try simp only [Act.put,List.setIfInBounds_toArray,List.set_cons_zero,List.set_cons_succ]
   refine wpL_takeB (i:=16) (v:=?_) rfl (by kernel_rfl) (by kernel_rfl) (by kernel_rfl) (by decide) (fun _ _ _ h=>h) (Or.inl ⟨by rfl,?_⟩) (SAB.both hA hB) ?_
   rotate_left
   ·intro wx hBx
    (try dsimp only at hBx)
    go_simp
    try with_reducible rfl
   try simp only [Act.put,List.setIfInBounds_toArray,List.set_cons_zero,List.set_cons_succ]
   refine wpL_one (i:=17) (by kernel_rfl) (StepL.mk rfl (fun K hK=>?_))
   go_simp
   refine (HPR.out u0 hB).mono ?_
   rintro e u1 ⟨cs3,rfl,hr3',hk3⟩
   obtain ⟨E1,E2,E3,E4,a1,b1,a2,b2,a3,b3,a4,b4,rfl,hr3⟩:=st_open hr3'
   have hB1:=Keep.trans hB hk3
   clear hr3'
   refine hK.out _ _ (SAB.both trivial hB1) (fun hSS=>?_)
   clear hK K hA hB
   have hB:=hSS.2
   have hA:=hSS.1 (by kernel_rfl)
   (try dsimp only at hB); (try dsimp only at hA); clear hSS
   try simp only [Act.put,List.setIfInBounds_toArray,List.set_cons_zero,List.set_cons_succ]
   refine wpL_one (i:=18) (by kernel_rfl) (StepL.mk rfl (fun K hK=>?_))
   go_simp
   refine (psame_any u1 (Bw u1) [.slice B1 p1 q1,.slice X2 y2 z2,.slice B3 p3 q3,.slice B4 p4 q4] [.slice E1 a1 b1,.slice E2 a2 b2,.slice E3 a3 b3,.slice E4 a4 b4] _ _ (fun i hi=>hi) ((HSK.out.keep hB1).more (bw_up hB1)) (hr3.more (Sn.lt (fun i hi=>hi) hk3.size)) HFK.out HFK.out).mono ?_
   rintro e u2 ⟨bb,hbb,rfl,hk4⟩
   have hbt : bb = true:=hbb.2 (by first | rfl | trivial)
   subst hbt
   have hB2:=Keep.trans hB1 hk4
   refine hK.out _ _ (SAB.both trivial hB2) (fun hSS=>?_)
   clear hK K hA hB
   have hB:=hSS.2
   have hA:=hSS.1 (by kernel_rfl)
   (try dsimp only at hB); (try dsimp only at hA); clear hSS
   try simp only [Act.put,List.setIfInBounds_toArray,List.set_cons_zero,List.set_cons_succ]
   refine wpL_takeB (i:=19) (v:=?_) rfl (by kernel_rfl) (by kernel_rfl) (by kernel_rfl) (by decide) (fun _ _ _ h=>h) (Or.inl ⟨by rfl,?_⟩) (SAB.both hA hB) ?_
   rotate_left
   ·intro wx hBx
    (try dsimp only at hBx)
    go_simp
    try with_reducible rfl
   try simp only [Act.put,List.setIfInBounds_toArray,List.set_cons_zero,List.set_cons_succ]
   refine wpL_done (by kernel_rfl) ?_
   have hown2:=ownsRow_same HOWN.out hB2 (fun i hi=>hi.2)
   have hkr2:=Keep.trans HKR.out hB2
   have c1':=c1 u2 hB2
   have HOWN2:=Lib.hid hown2
   have HKR2:=Lib.hid hkr2
   clear hown2 hkr2
   clear hB2 hB1 hB hA hk3 hk4 hr3 hbb c0 c1 c1r
   go_upto_region 13 with fail
   go_wp2_with (refine wpList_buildX rfl 58 46 1 _ rfl Tryz.underlying58 _ [(0,.slice X2 y2 z2)] rfl (built_evs1 _ _ _) ?_; intro w6 hb6 hk6 hz6; refine Hid.out ?_)
   refine Lib.hid ?_
   have hown6:=ownsRow_same HOWN2.out hk6 (fun i hi=>hi.2)
   have hrd : Reads w6 (fun i=>i = u2.heap.size) 1 (some ⟨u2.heap.size,0,none⟩) 1 [.slice X2 y2 z2]:=⟨rfl,fun _=>⟨u2.heap.size,0,rfl,rfl,fun j u hu=>by rw [hb6.cell]; simpa using hu⟩⟩
   have hkr6:=Keep.trans HKR2.out hk6
   have HOWN6:=Lib.hid hown6
   have HRD:=Lib.hid hrd
   have HKR6:=Lib.hid hkr6
   clear hown6 hrd hkr6
   clear hb6 hk6
   go_wp2_with (at_builtin; refine wpList_append_any _ rfl (.tmp 64) (.tmp 70) 58 rfl w5.heap.size 46 i0 _ 1 24 Tryz.underlying58 HI0.out IZ0.out IS0.out IB0.out rfl (by omega) v8 k vals rfl HOWN6.out _ (some ⟨u2.heap.size,0,none⟩) 1 1 [.slice X2 y2 z2] rfl HRD.out (by intro u hu; simp at hu; subst hu; rfl) (by simp [maxLen]; omega) (by omega) HKR6.out.size ?_; intro v9 w9 howz hgz hatz; have HOW9:=Lib.hid howz; have HG9:=Lib.hid hgz; have HAT9:=Lib.hid hatz; clear howz hgz hatz; refine Hid.out ?_)
   refine Lib.hid ?_
   have hfin : EvlRel m.ss n w5 v9 (.int .i64 ((k : Int) + 1)) w9:=⟨k + 1,vals ++ [.slice X2 y2 z2],by simp,by omega,by rw [List.length_append,HVL.out]; rfl,HOW9.out,fun q hq=>by
    rcases Nat.lt_or_ge q k with h | h
    ·rw [List.getElem?_append_left (by rw [HVL.out]; exact h)]
     exact HVS.out q h
    ·obtain rfl : q = k:=by omega
     rw [List.getElem?_append_right (by rw [HVL.out]; omega),HVL.out,Nat.sub_self]
     exact ⟨_,_,_,rfl,HEV5.out⟩,Same.append HKR6.out HOWN6.out HG9.out (fun i hi=>hi) HKR6.out.size⟩
   have HFIN:=Lib.hid hfin
   clear hfin
   clear HOW9 HG9 HAT9
   go_wp2_with fail
   go_roundw
   case rel=>exact HFIN.out
   case measure=>simp [intOf]; omega
  ·have t0 : decide (k < n) = false:=by simpa using hk
   have hke : n = k:=by omega
   subst hke
   obtain ⟨A8,c8,rfl,hevs⟩:=evl_done HMN.out hvl hown hvs hkr
   have hwit:=witness_any wr (Bw wr) A8 n c8 (evsOf m.ss) (fun i hi=>hi) hevs (by omega) (fun x hx=>by
    obtain ⟨s,hs,rfl⟩:=List.mem_map.1 hx
    obtain ⟨q,hq,rfl⟩:=List.mem_iff_getElem.1 hs
    have hf:=fine_run HINI.out HRUN.out q hq
    have h64:=(HINV.out.lens (p:=q) (by rw [← HINV.out.len]; exact hq)).2.2.2
    rw [getD_lt hq] at h64
    omega)
   have hb9:=hkr.blk HB5.out HB5.out.lt
   have hcd9:=cds_up HCD5.out hkr
   have hst9:=sts_up HST5.out hkr
   have hk09:=Keep.trans HK05.out hkr
   have HWIT:=Lib.hid hwit
   have HB9:=Lib.hid hb9
   have HCD9:=Lib.hid hcd9
   have HST9:=Lib.hid hst9
   have HK09:=Lib.hid hk09
   clear hwit hb9 hcd9 hst9 hk09
   clear hevs hown hvs hkr
   go_wp2_with fail
   refine HWIT.out.mono ?_
   rintro e w10 ⟨ro,hro,hk10,hcs⟩
   obtain ⟨wl,u,hwl,hwlen,hwrun,hwss⟩:=replays HRUN.out hro
   subst hwl
   rcases hcs with ⟨hno,-⟩ | ⟨out,A3,n3,c3,hout,rfl,hs3⟩
   ·cases hno
   injection hout with hout
   subst hout
   have hn3:=hs3.1
   have hs3b : Sl encCh 6 w10 (Bw w10) A3 n3 c3 wl:=hs3.more (fun i hi=>hi.2)
   have hcd10:=cds_up HCD9.out hk10
   have hb10:=hk10.blk HB9.out HB9.out.lt
   have hst10:=sts_up HST9.out hk10
   have hk010:=Keep.trans HK09.out hk10
   have hplay2:=play_ok w10 AC A3 n cC n3 c3 1 v cs wl u hcd10 HINI.out hs3b (by omega) (by omega) hwrun
   have hfu:=fine_run HINI.out hwrun
   have HPLAY2:=Lib.hid hplay2
   have HB10:=Lib.hid hb10
   have HST10:=Lib.hid hst10
   have HK010:=Lib.hid hk010
   have HWSS:=Lib.hid hwss
   have HFU:=Lib.hid hfu
   clear hplay2 hb10 hst10 hk010 hwss hfu
   clear hro hk10 hs3 hs3b hcd10 hwrun hwlen hn3
   go_wp2_with (refine wpList_load_all rfl _ (.tmp 3) rfl w2.heap.size 27 [.slice AC n cC,.int .i64 1,.int .i64 v] _ rfl HB10.out Tryz.underlying27 rfl (by kernel_rfl) ?_)
   refine HPLAY2.out.mono ?_
   rintro e w11 ⟨A11,c11,rfl,hst11,hk11⟩
   have hst10':=sts_up HST10.out hk11
   have hsame:=rfsame_any w11 (Bw w11) A5 A11 n n c5 c11 m.ss u.ss (fun i hi=>hi) hst10' hst11 (by omega) (by omega) (fine_run HINI.out HRUN.out) HFU.out
   have hkf:=Keep.trans HK010.out hk11
   have HSAME:=Lib.hid hsame
   have HKF:=Lib.hid hkf
   clear hsame hkf
   clear hst11 hst10' hk11
   go_wp2_with fail
   refine HSAME.out.mono ?_
   rintro e w12 ⟨bb,hbb,rfl,hk12⟩
   have hb : bb = true:=hbb.2 HWSS.out.symm
   subst hb
   have hfin : Aw40Post w (.returned (.bool true)) w12:=⟨rfl,Keep.trans HKF.out hk12⟩
   have HFIN:=Lib.hid hfin
   clear hfin
   clear hbb hk12
   go_wp2_with fail
   go_ret
   exact HFIN.out
end Go.Proofs.YtipegaojiokppaaGreatDoor
