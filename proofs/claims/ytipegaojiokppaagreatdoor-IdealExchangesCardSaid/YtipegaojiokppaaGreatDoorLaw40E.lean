import Derived.Test.YtipegaojiokppaaGreatDoorGL
import Derived.Test.YtipegaojiokppaaGreatDoorEval2
import Derived.Test.YtipegaojiokppaaGreatDoorGQ
set_option linter.unusedVariables false
set_option linter.unusedSimpArgs false
set_option maxRecDepth 100000
namespace Go.Proofs.YtipegaojiokppaaGreatDoor
open Go.RowKit Go.Proofs
def TwoCh (a b : Chc) (W : World) (p q : Value) (wx : World) : Prop:=∃ ga gb : Nat,p = .pointer (some ⟨ga,0,none⟩) ∧ q = .pointer (some ⟨gb,0,none⟩) ∧ W.heap.size ≤ ga ∧ W.heap.size ≤ gb ∧ Blk wx ga 57 (encCh a).toArray ∧ Blk wx gb 57 (encCh b).toArray ∧ Keep W wx
def ExchP (cs : List Cd) (l : List Chc) (k : Nat) (a b : Chc) : Prop:=∃ t u,runI cs l = .ok t ∧ runI cs ((l.set k b).set (k + 1) a) = .ok u ∧ u.ss = t.ss
def ExT (P : Prop) (W : World) (v : Value) (wx : World) : Prop:=∃ b : Bool,v = .bool b ∧ (b = false → P) ∧ Keep W wx
theorem row_splice {cur : Array Value} {l : List Chc} {k : Nat} {a : Chc} (h : Row encCh cur l) (hk : k < l.length) (hc : l.length * 6 ≤ cur.size) : Row encCh (splice cur (k * 6) (encCh a)) (l.set k a):=by
 have hs : k * 6 + (encCh a).length ≤ cur.size:=by show k * 6 + 6 ≤ _; omega
 refine Row.set_ encCh_len hk h (fun j hj=>?_) (fun r u hu=>?_)
 ·rw [splice_get (encCh a) _ _ hs,if_neg (by show ¬ (_ ∧ j < k * 6 + 6); omega)]
 ·have hr : r < 6:=(List.getElem?_eq_some_iff.1 hu).1
  rw [splice_get (encCh a) _ _ hs,if_pos (by show _ ∧ k * 6 + r < k * 6 + 6; omega),Nat.add_sub_cancel_left]
  exact hu
set_option maxHeartbeats 32000000 in
theorem idealExchanges_walk (w : World) (A : Option Addr) (n0 c0 : Nat) (zs : List Int) (x1 : Int) (hx1 : I64 x1) (hg : Glob w) (hz : Sl encB 1 w (· < w.heap.size) A n0 c0 zs) (hz8 : ∀ y ∈ zs,0 ≤ y ∧ y < 256) : Calls Tryz.prog 6 #[.slice A n0 c0,.int .i64 x1] w (Aw40Post w):=by
 have HG:=Lib.hid hg
 have HZ:=Lib.hid hz
 have HZ8:=Lib.hid hz8
 have HX1:=Lib.hid hx1
 clear hg hz hz8 hx1
 go_enter Tryz.func6,Tryz.ntmps6
 go_wp2_with fail
 refine (awake40_any w).mono ?_
 rintro e w1 ⟨rfl,hk1⟩
 have hz1:=hk1.size
 have HK1:=Lib.hid hk1
 clear hk1
 go_wp2_with fail
 refine (scene_any w1 A n0 c0 zs (HG.out.keep HK1.out) ((HZ.out.keep HK1.out).more (fun i hi=>by have : i < w.heap.size:=hi; show i < w1.heap.size; omega)) HZ8.out).mono ?_
 rintro e w2 ⟨AC,n,cC,v,cs,AL,c,l,m,gc,r,B,rfl,hcds,hn2,hn3,hini,hsl,hl25,hrun,-,-,-,hk2⟩
 have hz2:=hk2.size
 have hlc:=hsl.2.1
 have hlm : c ≤ 9223372036854775807:=hsl.2.2.1
 obtain ⟨nl,hnl⟩ : ∃ nl,nl = l.length:=⟨_,rfl⟩
 rw [← hnl] at hsl hl25 hlc
 rw [← hnl]
 have hk02:=Keep.trans HK1.out hk2
 have hcl:=hcds.1
 have HCDS:=Lib.hid hcds
 have HINI:=Lib.hid hini
 have HSL:=Lib.hid hsl
 have HRUN:=Lib.hid hrun
 have HK02:=Lib.hid hk02
 have HNL:=Lib.hid hnl
 have HCL:=Lib.hid hcl
 clear hcds hini hsl hrun hk02 hnl hcl
 clear hk2
 go_upto_region 4 with (refine wpList_store_all rfl _ (.tmp 5) (.tmp 23) rfl w2.heap.size 27 _ [.slice AC n cC,.int .i64 1,.int .i64 v] rfl rfl (Blk.new _ _ _) rfl (by kernel_rfl) rfl ?_; intro w3 hb3 hs3)
 have hk3 : Keep w2 w3:=Keep.write (Keep.new _ _) hs3 (Nat.le_refl _)
 have hz3 : w2.heap.size < w3.heap.size:=hb3.lt
 have hcd3:=(HCDS.out.keep (hk3.mono (fun i (hi : ScS w1 w2 gc i)=>hi.2.1))).more (T:=Bw w3) (fun i hi=>by have:=hi.2.1; show i < w3.heap.size; omega)
 have hsl3:=(HSL.out.keep (hk3.mono (fun i (hi : ScS w1 w2 gc i)=>hi.2.1))).more (T:=Bw w3) (fun i hi=>by have:=hi.2.1; show i < w3.heap.size; omega)
 have hk03:=Keep.trans HK02.out hk3
 have HB3:=Lib.hid hb3
 have HCD3:=Lib.hid hcd3
 have HSL3:=Lib.hid hsl3
 have HK03:=Lib.hid hk03
 clear hb3 hcd3 hsl3 hk03
 clear hs3 hk3 HCDS HSL HK02
 by_cases hn1 : nl < 2
 ·have t0 : decide ((nl : Int) < 2) = true:=by simp; omega
  have hfin : Aw40Post w (.returned (.bool true)) w3:=⟨rfl,HK03.out⟩
  have HFIN:=Lib.hid hfin
  clear hfin
  go_wp2_with fail
  go_ret
  exact HFIN.out
 have t0 : decide ((nl : Int) < 2) = false:=by simp; omega
 go_wp2_with fail
 refine (mod_any x1 ((nl : Int) - 1) w3 HX1.out (by omega) (by omega)).mono ?_
 rintro e w4 ⟨rfl,hq⟩
 subst hq
 obtain ⟨k0,k1⟩:=modS_lt x1 ((nl : Int) - 1) (by omega)
 obtain ⟨k,hk⟩ : ∃ k : Nat,modS x1 ((nl : Int) - 1) = k:=⟨(modS x1 ((nl : Int) - 1)).toNat,by omega⟩
 rw [hk] at k0 k1 ⊢
 have hkn : k + 1 < nl:=by omega
 clear hk t0 hn1
 obtain ⟨m1,hm1,-⟩:=runI_pre k HRUN.out
 have hsk:=HSL3.out.to_ encCh_len (k:=k) (by omega)
 have hcall : ∀ u,Keep w3 u → _:=fun u hu=>play_ok u AC AL n cC k c 1 v cs (l.take k) m1 (cds_up HCD3.out hu) HINI.out (chs_up hsk hu) (by omega) (by omega) hm1
 have g1 : (0 : Int) ≤ k:=by omega
 have g2 : (k : Int) ≤ c:=by omega
 have HM1:=Lib.hid hm1
 have HCALL:=Lib.hid hcall
 clear hm1 hcall
 clear hsk
 go_upto_region 7 with fail
 refine wp_region_L 99 (fun _=>True) (fun wx=>Keep w3 wx) (by kernel_rfl) trivial (Same.drew (Same.refl _ _)) (fun hA hB=>?_)
 generalize hu0 : w3.drew = u0 at hB ⊢
 clear hu0
 refine wpL_takeB (i:=0) rfl (by kernel_rfl) (by kernel_rfl) (by kernel_rfl) (by decide) (fun _ _ _ h=>h) (yieldsIf_blk (by rfl) _ _ rfl w2.heap.size 0 27 _ [.slice AC n cC,.int .i64 1,.int .i64 v] _ rfl (fun wx hx=>hx.blk HB3.out HB3.out.lt) (fun j u hu=>by simpa using hu) Tryz.underlying27 rfl (by kernel_rfl)) (SAB.both hA hB) ?_
 try simp only [Act.put,List.setIfInBounds_toArray,List.set_cons_zero,List.set_cons_succ]
 refine wpL_takeB (i:=1) (v:=?_) rfl (by kernel_rfl) (by kernel_rfl) (by kernel_rfl) (by decide) (fun _ _ _ h=>h) (Or.inl ⟨by rfl,?_⟩) (SAB.both hA hB) ?_
 rotate_left
 ·intro wx hBx
  (try dsimp only at hBx)
  go_simp
  try with_reducible rfl
 try simp only [Act.put,List.setIfInBounds_toArray,List.set_cons_zero,List.set_cons_succ]
 refine wpL_takeB (i:=2) (v:=?_) rfl (by kernel_rfl) (by kernel_rfl) (by kernel_rfl) (by decide) (fun _ _ _ h=>h) (Or.inl ⟨by rfl,?_⟩) (SAB.both hA hB) ?_
 rotate_left
 ·intro wx hBx
  (try dsimp only at hBx)
  go_simp
  try with_reducible rfl
 try simp only [Act.put,List.setIfInBounds_toArray,List.set_cons_zero,List.set_cons_succ]
 refine wpL_takeB (i:=3) (v:=?_) rfl (by kernel_rfl) (by kernel_rfl) (by kernel_rfl) (by decide) (fun _ _ _ h=>h) (Or.inl ⟨by rfl,?_⟩) (SAB.both hA hB) ?_
 rotate_left
 ·intro wx hBx
  (try dsimp only at hBx)
  go_simp
  try with_reducible rfl
 try simp only [Act.put,List.setIfInBounds_toArray,List.set_cons_zero,List.set_cons_succ]
 refine wpL_one (i:=4) (by kernel_rfl) (StepL.mk rfl (fun K hK=>?_))
 go_simp
 refine (HCALL.out u0 hB).mono ?_
 rintro e u1 ⟨As,cS,rfl,hst,hk6⟩
 have hB6:=Keep.trans hB hk6
 refine hK.out _ _ (SAB.both trivial hB6) (fun hSS=>?_)
 clear hK K hA hB
 have hB:=hSS.2
 have hA:=hSS.1 (by kernel_rfl)
 (try dsimp only at hB); (try dsimp only at hA); clear hSS
 try simp only [Act.put,List.setIfInBounds_toArray,List.set_cons_zero,List.set_cons_succ]
 refine wpL_takeB (i:=5) (v:=?_) rfl (by kernel_rfl) (by kernel_rfl) (by kernel_rfl) (by decide) (fun _ _ _ h=>h) (Or.inl ⟨by rfl,?_⟩) (SAB.both hA hB) ?_
 rotate_left
 ·intro wx hBx
  (try dsimp only at hBx)
  go_simp
  try with_reducible rfl
 try simp only [Act.put,List.setIfInBounds_toArray,List.set_cons_zero,List.set_cons_succ]
 refine wpL_takeB (i:=6) (v:=?_) rfl (by kernel_rfl) (by kernel_rfl) (by kernel_rfl) (by decide) (fun _ _ _ h=>h) (Or.inl ⟨by rfl,?_⟩) (SAB.both hA hB) ?_
 rotate_left
 ·intro wx hBx
  (try dsimp only at hBx)
  go_simp
  try with_reducible rfl
 try simp only [Act.put,List.setIfInBounds_toArray,List.set_cons_zero,List.set_cons_succ]
 refine wpL_takeB (i:=7) (v:=?_) rfl (by kernel_rfl) (by kernel_rfl) (by kernel_rfl) (by decide) (fun _ _ _ h=>h) (Or.inl ⟨by rfl,?_⟩) (SAB.both hA hB) ?_
 rotate_left
 ·intro wx hBx
  (try dsimp only at hBx)
  go_simp
  try with_reducible rfl
 try simp only [Act.put,List.setIfInBounds_toArray,List.set_cons_zero,List.set_cons_succ]
 refine wpL_takeB (i:=8) (v:=?_) rfl (by kernel_rfl) (by kernel_rfl) (by kernel_rfl) (by decide) (fun _ _ _ h=>h) (Or.inl ⟨by rfl,?_⟩) (SAB.both hA hB) ?_
 rotate_left
 ·intro wx hBx
  (try dsimp only at hBx)
  go_simp
  try with_reducible rfl
 try simp only [Act.put,List.setIfInBounds_toArray,List.set_cons_zero,List.set_cons_succ]
 refine wpL_takeB (i:=9) (v:=?_) rfl (by kernel_rfl) (by kernel_rfl) (by kernel_rfl) (by decide) (fun _ _ _ h=>h) (Or.inl ⟨by rfl,?_⟩) (SAB.both hA hB) ?_
 rotate_left
 ·intro wx hBx
  (try dsimp only at hBx)
  go_simp
  try with_reducible rfl
 try simp only [Act.put,List.setIfInBounds_toArray,List.set_cons_zero,List.set_cons_succ]
 refine wpL_done (by kernel_rfl) ?_
 have hz6:=hB6.size
 have hb6:=hB6.blk HB3.out hz3
 have cc0 : u1.cell? ⟨w2.heap.size,0,none⟩ = some (.slice AC n cC):=by rw [hb6.cell]; rfl
 have hnn : ((n : Int) != (n : Int)) = false:=by simp
 have hcd6:=cds_up HCD3.out hB6
 have hsl6:=chs_up HSL3.out hB6
 have hk06:=Keep.trans HK03.out hB6
 have HST:=Lib.hid hst
 have HB6:=Lib.hid hb6
 have HCD6:=Lib.hid hcd6
 have HSL6:=Lib.hid hsl6
 have HK06:=Lib.hid hk06
 clear hst hb6 hcd6 hsl6 hk06
 clear hB6 hk6 hA hB
 go_upto_region 10 with fail
 clear cc0 hnn
 -- the two neighbours
 obtain ⟨bL,oL,a,rfl,hbL,ha,hca⟩:=HSL6.out.at_ encCh_len (k:=k) (by omega)
 obtain ⟨bL',oL',b,hAe,-,hb,hcb⟩:=HSL6.out.at_ encCh_len (k:=k + 1) hkn
 simp only [Option.some.injEq,Addr.mk.injEq,and_true] at hAe
 obtain ⟨rfl,rfl⟩:=hAe
 have hev : okI n a = true:=by
  obtain ⟨c1',c5',-,hp⟩:=runI_ok HRUN.out
  have hp2:=hp
  rw [← List.take_append_drop k l,playI_app] at hp2
  have hq:=(runI_ok HM1.out).2.2.2
  rw [hq] at hp2
  simp only at hp2
  rw [drop_cons ha] at hp2
  have:=eventI_ok (playI_cons_ok hp2).1
  rw [(runI_inv HM1.out).len,← HCL.out] at this
  exact this.1
 obtain ⟨ap,ak,af,ai,ao,av⟩:=a
 obtain ⟨bp,bk,bf,bi,bo,bv⟩:=b
 have hpa:=okI_proc hev
 simp only at hpa
 obtain ⟨pa,hpe⟩ : ∃ pa : Nat,ap = pa:=⟨ap.toNat,by omega⟩
 subst hpe
 have hpn : pa < n:=by omega
 have rga : ∀ wx,Keep u1 wx → wx.rangeAt bL (oL + k * 6) [.int .i64 pa,.int .i64 ak,.int .i64 af,.int .i64 ai,.int .i64 ao,.int .i64 av]:=fun wx hx j u hu=>(hx.cell (p:=⟨bL,oL + k * 6 + j,none⟩) hbL).trans (hca j u hu)
 have rgb : ∀ wx,Keep u1 wx → wx.rangeAt bL (oL + (k + 1) * 6) [.int .i64 bp,.int .i64 bk,.int .i64 bf,.int .i64 bi,.int .i64 bo,.int .i64 bv]:=fun wx hx j u hu=>(hx.cell (p:=⟨bL,oL + (k + 1) * 6 + j,none⟩) hbL).trans (hcb j u hu)
 have e0 : IntKind.i64.wrap ((k : Int) + 1) = (k : Int) + 1:=IntWalk.i64_in _ (by omega)
 have e1 : ((k : Int) + 1).toNat = k + 1:=by omega
 have e2 : (0 : Int) ≤ (k : Int) + 1:=by omega
 have e3 : (k : Int) + 1 < nl:=by omega
 have e4 : (k : Int) < nl:=by omega
 have RGA:=Lib.hid rga
 have RGB:=Lib.hid rgb
 have HA:=Lib.hid ha
 have HB:=Lib.hid hb
 clear rga rgb ha hb
 clear hca hcb hev hpa
 go_cut [11,12] from 52 to 60 (fun p q wx=>TwoCh ⟨pa,ak,af,ai,ao,av⟩ ⟨bp,bk,bf,bi,bo,bv⟩ u1 p q wx)
 case first=>
  refine wp_region_L 99 (fun _=>True) (fun wx=>Keep u1 wx) (by kernel_rfl) trivial (Same.drew (Same.refl _ _)) (fun hA hB=>?_)
  generalize hv0 : u1.drew = v0 at hB ⊢
  clear hv0
  have hzv:=hB.size
  refine wpL_takeB (i:=0) (v:=?_) rfl (by kernel_rfl) (by kernel_rfl) (by kernel_rfl) (by decide) (fun _ _ _ h=>h) (Or.inl ⟨by rfl,?_⟩) (SAB.both hA hB) ?_
  rotate_left
  ·intro wx hBx
   (try dsimp only at hBx)
   go_simp
   try with_reducible rfl
  try simp only [Act.put,List.setIfInBounds_toArray,List.set_cons_zero,List.set_cons_succ]
  refine wpL_takeB (i:=1) (v:=?_) rfl (by kernel_rfl) (by kernel_rfl) (by kernel_rfl) (by decide) (fun _ _ _ h=>h) (Or.inl ⟨by rfl,?_⟩) (SAB.both hA hB) ?_
  rotate_left
  ·intro wx hBx
   (try dsimp only at hBx)
   go_simp
   try with_reducible rfl
  try simp only [Act.put,List.setIfInBounds_toArray,List.set_cons_zero,List.set_cons_succ]
  refine wpL_takeB (i:=2) (v:=?_) rfl (by kernel_rfl) (by kernel_rfl) (by kernel_rfl) (by decide) (fun _ _ _ h=>h) (Or.inl ⟨by rfl,?_⟩) (SAB.both hA hB) ?_
  rotate_left
  ·intro wx hBx
   (try dsimp only at hBx)
   go_simp
   try with_reducible rfl
  try simp only [Act.put,List.setIfInBounds_toArray,List.set_cons_zero,List.set_cons_succ]
  refine wpL_takeB (i:=3) rfl (by kernel_rfl) (by kernel_rfl) (by kernel_rfl) (by decide) (fun _ _ _ h=>h) (yieldsIf_load_mid (by rfl) _ _ rfl bL (oL + k * 6) rfl [.int .i64 pa,.int .i64 ak,.int .i64 af,.int .i64 ai,.int .i64 ao,.int .i64 av] _ (fun wx hx=>RGA.out wx hx) Tryz.underlying57 rfl (by kernel_rfl)) (SAB.both hA hB) ?_
  try simp only [Act.put,List.setIfInBounds_toArray,List.set_cons_zero,List.set_cons_succ]
  refine wpL_takeB (i:=4) (v:=?_) rfl (by kernel_rfl) (by kernel_rfl) (by kernel_rfl) (by decide) (fun _ _ _ h=>h) (Or.inl ⟨by rfl,?_⟩) (SAB.both hA hB) ?_
  rotate_left
  ·intro wx hBx
   (try dsimp only at hBx)
   go_simp
   try with_reducible rfl
  try simp only [Act.put,List.setIfInBounds_toArray,List.set_cons_zero,List.set_cons_succ]
  refine wpL_takeB (i:=5) (v:=?_) rfl (by kernel_rfl) (by kernel_rfl) (by kernel_rfl) (by decide) (fun _ _ _ h=>h) (Or.inl ⟨by rfl,?_⟩) (SAB.both hA hB) ?_
  rotate_left
  ·intro wx hBx
   (try dsimp only at hBx)
   go_simp
   try with_reducible rfl
  try simp only [Act.put,List.setIfInBounds_toArray,List.set_cons_zero,List.set_cons_succ]
  refine wpL_takeB (i:=6) (v:=?_) rfl (by kernel_rfl) (by kernel_rfl) (by kernel_rfl) (by decide) (fun _ _ _ h=>h) (Or.inl ⟨by rfl,?_⟩) (SAB.both hA hB) ?_
  rotate_left
  ·intro wx hBx
   (try dsimp only at hBx)
   go_simp
   try with_reducible rfl
  try simp only [Act.put,List.setIfInBounds_toArray,List.set_cons_zero,List.set_cons_succ]
  refine wpL_takeB (i:=7) (v:=?_) rfl (by kernel_rfl) (by kernel_rfl) (by kernel_rfl) (by decide) (fun _ _ _ h=>h) (Or.inl ⟨by rfl,?_⟩) (SAB.both hA hB) ?_
  rotate_left
  ·intro wx hBx
   (try dsimp only at hBx)
   go_simp
   try with_reducible rfl
  try simp only [Act.put,List.setIfInBounds_toArray,List.set_cons_zero,List.set_cons_succ]
  refine wpL_takeB (i:=8) rfl (by kernel_rfl) (by kernel_rfl) (by kernel_rfl) (by decide) (fun _ _ _ h=>h) (yieldsIf_load_mid (by rfl) _ _ rfl bL (oL + (k + 1) * 6) rfl [.int .i64 bp,.int .i64 bk,.int .i64 bf,.int .i64 bi,.int .i64 bo,.int .i64 bv] _ (fun wx hx=>RGB.out wx hx) Tryz.underlying57 rfl (by kernel_rfl)) (SAB.both hA hB) ?_
  try simp only [Act.put,List.setIfInBounds_toArray,List.set_cons_zero,List.set_cons_succ]
  refine wpL_two (i:=9) (j:=10) (by kernel_rfl) (StepL.mk rfl (fun K hK=>?_)) (StepL.mk rfl (fun K hK=>?_))
  ·go_simp
   generalize hq : v0.alloc (.cells #[.int .i64 0,.int .i64 0,.int .i64 0,.int .i64 0,.int .i64 0,.int .i64 0] 57) = v1
   have hbF : Blk v1 v0.heap.size 57 #[.int .i64 0,.int .i64 0,.int .i64 0,.int .i64 0,.int .i64 0,.int .i64 0]:=hq ▸ Blk.new _ _ _
   have hkF : Keep v0 v1:=hq ▸ Keep.new _ _
   clear hq
   have hzF:=hbF.lt
   have hB1:=Keep.trans hB hkF
   refine hK.out _ _ (SAB.both trivial hB1) (fun hSS=>?_)
   clear hK K hA hB
   have hB:=hSS.2
   have hA:=hSS.1 (by kernel_rfl)
   (try dsimp only at hB); (try dsimp only at hA); clear hSS
   try simp only [Act.put,List.setIfInBounds_toArray,List.set_cons_zero,List.set_cons_succ]
   refine wpL_one (i:=10) (by kernel_rfl) (StepL.mk rfl (fun K hK=>?_))
   go_simp
   generalize hq : v1.alloc (.cells #[.int .i64 0,.int .i64 0,.int .i64 0,.int .i64 0,.int .i64 0,.int .i64 0] 57) = v2
   have hbG : Blk v2 v1.heap.size 57 #[.int .i64 0,.int .i64 0,.int .i64 0,.int .i64 0,.int .i64 0,.int .i64 0]:=hq ▸ Blk.new _ _ _
   have hkG : Keep v1 v2:=hq ▸ Keep.new _ _
   clear hq
   have hzG:=hbG.lt
   have hbF2:=hkG.blk hbF hzF
   have hB2:=Keep.trans hB1 hkG
   refine hK.out _ _ (SAB.both trivial hB2) (fun hSS=>?_)
   clear hK K hA hB
   have hB:=hSS.2
   have hA:=hSS.1 (by kernel_rfl)
   (try dsimp only at hB); (try dsimp only at hA); clear hSS
   try simp only [Act.put,List.setIfInBounds_toArray,List.set_cons_zero,List.set_cons_succ]
   refine wpL_one (i:=11) (by kernel_rfl) (StepL.mk rfl (fun K hK=>?_))
   refine step_store_blk rfl _ _ _ rfl v0.heap.size 0 57 _ [.int .i64 pa,.int .i64 ak,.int .i64 af,.int .i64 ai,.int .i64 ao,.int .i64 av] rfl rfl hbF2 (by simp) (by kernel_rfl) rfl ?_
   intro v3 hb3' hs3
   rw [splice_all [.int .i64 pa,.int .i64 ak,.int .i64 af,.int .i64 ai,.int .i64 ao,.int .i64 av] #[.int .i64 0,.int .i64 0,.int .i64 0,.int .i64 0,.int .i64 0,.int .i64 0] rfl] at hb3'
   have hB3 : Keep u1 v3:=Keep.write hB2 hs3 (by omega)
   refine hK.out _ _ (SAB.both trivial hB3) (fun hSS=>?_)
   clear hK K hA hB
   have hB:=hSS.2
   have hA:=hSS.1 (by kernel_rfl)
   (try dsimp only at hB); (try dsimp only at hA); clear hSS
   try simp only [Act.put,List.setIfInBounds_toArray,List.set_cons_zero,List.set_cons_succ]
   refine wpL_one (i:=12) (by kernel_rfl) (StepL.mk rfl (fun K hK=>?_))
   refine step_store_blk rfl _ _ _ rfl v1.heap.size 0 57 _ [.int .i64 bp,.int .i64 bk,.int .i64 bf,.int .i64 bi,.int .i64 bo,.int .i64 bv] rfl rfl (hs3.blk hbG (by omega)) (by simp) (by kernel_rfl) rfl ?_
   intro v4 hb4' hs4
   rw [splice_all [.int .i64 bp,.int .i64 bk,.int .i64 bf,.int .i64 bi,.int .i64 bo,.int .i64 bv] #[.int .i64 0,.int .i64 0,.int .i64 0,.int .i64 0,.int .i64 0,.int .i64 0] rfl] at hb4'
   have hB4 : Keep u1 v4:=Keep.write hB3 hs4 (by omega)
   have hfin : TwoCh ⟨pa,ak,af,ai,ao,av⟩ ⟨bp,bk,bf,bi,bo,bv⟩ u1 (.pointer (some ⟨v0.heap.size,0,none⟩)) (.pointer (some ⟨v1.heap.size,0,none⟩)) v4:=⟨_,_,rfl,rfl,by omega,by omega,hs4.blk hb3' (by omega),hb4',hB4⟩
   refine hK.out _ _ (SAB.both trivial hB4) (fun hSS=>?_)
   clear hK K hA hB
   have hB:=hSS.2
   have hA:=hSS.1 (by kernel_rfl)
   (try dsimp only at hB); (try dsimp only at hA); clear hSS
   try simp only [Act.put,List.setIfInBounds_toArray,List.set_cons_zero,List.set_cons_succ]
   refine wpL_done (by kernel_rfl) ?_
   have HFIN:=Lib.hid hfin
   clear hfin
   clear hb3' hb4' hs3 hs4 hB4 hB3 hB2 hB1 hbF hbG hkF hkG hA hB hbF2
   try simp only [Act.put]
   go_wp2_with fail
   go_meet
   exact HFIN.out
  ·go_simp
   generalize hq : v0.alloc (.cells #[.int .i64 0,.int .i64 0,.int .i64 0,.int .i64 0,.int .i64 0,.int .i64 0] 57) = v1
   have hbF : Blk v1 v0.heap.size 57 #[.int .i64 0,.int .i64 0,.int .i64 0,.int .i64 0,.int .i64 0,.int .i64 0]:=hq ▸ Blk.new _ _ _
   have hkF : Keep v0 v1:=hq ▸ Keep.new _ _
   clear hq
   have hzF:=hbF.lt
   have hB1:=Keep.trans hB hkF
   refine hK.out _ _ (SAB.both trivial hB1) (fun hSS=>?_)
   clear hK K hA hB
   have hB:=hSS.2
   have hA:=hSS.1 (by kernel_rfl)
   (try dsimp only at hB); (try dsimp only at hA); clear hSS
   try simp only [Act.put,List.setIfInBounds_toArray,List.set_cons_zero,List.set_cons_succ]
   refine wpL_one (i:=9) (by kernel_rfl) (StepL.mk rfl (fun K hK=>?_))
   go_simp
   generalize hq : v1.alloc (.cells #[.int .i64 0,.int .i64 0,.int .i64 0,.int .i64 0,.int .i64 0,.int .i64 0] 57) = v2
   have hbG : Blk v2 v1.heap.size 57 #[.int .i64 0,.int .i64 0,.int .i64 0,.int .i64 0,.int .i64 0,.int .i64 0]:=hq ▸ Blk.new _ _ _
   have hkG : Keep v1 v2:=hq ▸ Keep.new _ _
   clear hq
   have hzG:=hbG.lt
   have hbF2:=hkG.blk hbF hzF
   have hB2:=Keep.trans hB1 hkG
   refine hK.out _ _ (SAB.both trivial hB2) (fun hSS=>?_)
   clear hK K hA hB
   have hB:=hSS.2
   have hA:=hSS.1 (by kernel_rfl)
   (try dsimp only at hB); (try dsimp only at hA); clear hSS
   try simp only [Act.put,List.setIfInBounds_toArray,List.set_cons_zero,List.set_cons_succ]
   refine wpL_one (i:=11) (by kernel_rfl) (StepL.mk rfl (fun K hK=>?_))
   refine step_store_blk rfl _ _ _ rfl v1.heap.size 0 57 _ [.int .i64 pa,.int .i64 ak,.int .i64 af,.int .i64 ai,.int .i64 ao,.int .i64 av] rfl rfl hbG (by simp) (by kernel_rfl) rfl ?_
   intro v3 hb3' hs3
   rw [splice_all [.int .i64 pa,.int .i64 ak,.int .i64 af,.int .i64 ai,.int .i64 ao,.int .i64 av] #[.int .i64 0,.int .i64 0,.int .i64 0,.int .i64 0,.int .i64 0,.int .i64 0] rfl] at hb3'
   have hB3 : Keep u1 v3:=Keep.write hB2 hs3 (by omega)
   refine hK.out _ _ (SAB.both trivial hB3) (fun hSS=>?_)
   clear hK K hA hB
   have hB:=hSS.2
   have hA:=hSS.1 (by kernel_rfl)
   (try dsimp only at hB); (try dsimp only at hA); clear hSS
   try simp only [Act.put,List.setIfInBounds_toArray,List.set_cons_zero,List.set_cons_succ]
   refine wpL_one (i:=12) (by kernel_rfl) (StepL.mk rfl (fun K hK=>?_))
   refine step_store_blk rfl _ _ _ rfl v0.heap.size 0 57 _ [.int .i64 bp,.int .i64 bk,.int .i64 bf,.int .i64 bi,.int .i64 bo,.int .i64 bv] rfl rfl (hs3.blk hbF2 (by omega)) (by simp) (by kernel_rfl) rfl ?_
   intro v4 hb4' hs4
   rw [splice_all [.int .i64 bp,.int .i64 bk,.int .i64 bf,.int .i64 bi,.int .i64 bo,.int .i64 bv] #[.int .i64 0,.int .i64 0,.int .i64 0,.int .i64 0,.int .i64 0,.int .i64 0] rfl] at hb4'
   have hB4 : Keep u1 v4:=Keep.write hB3 hs4 (by omega)
   have hfin : TwoCh ⟨pa,ak,af,ai,ao,av⟩ ⟨bp,bk,bf,bi,bo,bv⟩ u1 (.pointer (some ⟨v1.heap.size,0,none⟩)) (.pointer (some ⟨v0.heap.size,0,none⟩)) v4:=⟨_,_,rfl,rfl,by omega,by omega,hs4.blk hb3' (by omega),hb4',hB4⟩
   refine hK.out _ _ (SAB.both trivial hB4) (fun hSS=>?_)
   clear hK K hA hB
   have hB:=hSS.2
   have hA:=hSS.1 (by kernel_rfl)
   (try dsimp only at hB); (try dsimp only at hA); clear hSS
   try simp only [Act.put,List.setIfInBounds_toArray,List.set_cons_zero,List.set_cons_succ]
   refine wpL_done (by kernel_rfl) ?_
   have HFIN:=Lib.hid hfin
   clear hfin
   clear hb3' hb4' hs3 hs4 hB4 hB3 hB2 hB1 hbF hbG hkF hkG hA hB hbF2
   try simp only [Act.put]
   go_wp2_with fail
   go_meet
   exact HFIN.out
 case rest=>
  obtain ⟨w7,hw7⟩ : ∃ w7 : World,w7 = wc:=⟨_,rfl⟩
  subst hw7
  obtain ⟨ga,gb,rfl,rfl,hga,hgb,hba,hbb,hk7⟩:=hcut
  have hz7:=hk7.size
  obtain ⟨bS,oS,B1,B2,B3,B4,p1,q1,p2,q2,p3,q3,p4,q4,rfl,hbS,hsk,hrgS⟩:=sts_at (sts_up HST.out hk7) hpn
  have hev:=(st_sl hsk).2.1.1
  have f1 : w7.cell? ⟨bS,oS + pa * 4 + 1,none⟩ = some (.slice B2 p2 q2):=hrgS 1 _ rfl
  have a0 : w7.cell? ⟨ga,0,none⟩ = some (.int .i64 (pa : Int)):=by rw [hba.cell]; rfl
  have b0 : w7.cell? ⟨gb,0,none⟩ = some (.int .i64 bp):=by rw [hbb.cell]; rfl
  have b1 : w7.cell? ⟨gb,1,none⟩ = some (.int .i64 bk):=by rw [hbb.cell]; rfl
  have b2 : w7.cell? ⟨gb,2,none⟩ = some (.int .i64 bf):=by rw [hbb.cell]; rfl
  have b3 : w7.cell? ⟨gb,3,none⟩ = some (.int .i64 bi):=by rw [hbb.cell]; rfl
  have h1 : (pa : Int) < n:=by omega
  have h2 : (0 : Int) ≤ pa:=by omega
  have hst7:=sts_up HST.out hk7
  have hb7:=hk7.blk HB6.out (Nat.lt_of_lt_of_le HB6.out.lt (Nat.le_refl _))
  have hcd7:=cds_up HCD6.out hk7
  have hsl7:=chs_up HSL6.out hk7
  have hk07:=Keep.trans HK06.out hk7
  have hz62 : w2.heap.size < u1.heap.size:=by omega
  have HBA:=Lib.hid hba
  have HBB:=Lib.hid hbb
  have HB7:=Lib.hid hb7
  have HCD7:=Lib.hid hcd7
  have HSL7:=Lib.hid hsl7
  have HK07:=Lib.hid hk07
  have HEV:=Lib.hid hev
  clear hba hbb hb7 hcd7 hsl7 hk07 hev
  clear hrgS hsk hst7 hk7
  -- which of them can be exchanged
  have done : ∀ j,Aw40Post w (.returned (.bool true)) (w7.drewN j):=fun j=>⟨rfl,Keep.trans HK07.out (Keep.draws _ _)⟩
  have DONE:=Lib.hid done
  clear done
  have hgo : ∀ (hpp : (pa : Int) ≠ bp) (hab : ¬ (bk = 1 ∧ bf = pa ∧ ((m1.ss.getD pa zeroSt).events.length : Int) < bi)),ExchP cs l k ⟨pa,ak,af,ai,ao,av⟩ ⟨bp,bk,bf,bi,bo,bv⟩:=fun hpp hab=>by
   obtain ⟨u,hu,hus⟩:=exchange_run (by have:=HNL.out; omega) HA.out HB.out HM1.out HRUN.out (by simpa using hpp) (by simpa using hab)
   exact ⟨_,u,HRUN.out,hu,hus⟩
  have HGO:=Lib.hid hgo
  clear hgo
  go_upto_region 11 with fail
  go_cut [89] from 61 to 88 (fun q wx=>ExT (ExchP cs l k ⟨pa,ak,af,ai,ao,av⟩ ⟨bp,bk,bf,bi,bo,bv⟩) w7 q wx)
  case first=>
   cases q1' : ((pa : Int) == bp)
   case true=>
    go_quiet (fail)
    go_wp2_with fail
    go_meet
    exact ⟨true,rfl,fun h=>Bool.noConfusion h,Keep.draws _ _⟩
   have hpp : (pa : Int) ≠ bp:=by simpa using q1'
   have HPP:=Lib.hid hpp
   clear hpp
   cases q2' : (bk == 1)
   case false=>
    have hP:=HGO.out (HPP.out) (fun h=>by have:=h.1; simp at q2'; exact q2' this)
    have HP:=Lib.hid hP
    clear hP
    go_quiet (fail)
    go_wp2_with fail
    go_meet
    exact ⟨false,rfl,fun _=>HP.out,Keep.draws _ _⟩
   cases q3' : (bf == (pa : Int))
   case false=>
    have hP:=HGO.out (HPP.out) (fun h=>by have:=h.2.1; simp at q3'; exact q3' this)
    have HP:=Lib.hid hP
    clear hP
    go_quiet (fail)
    go_wp2_with fail
    go_meet
    exact ⟨false,rfl,fun _=>HP.out,Keep.draws _ _⟩
   cases q4' : decide ((p2 : Int) < bi)
   case true=>
    go_quiet (fail)
    go_wp2_with fail
    go_meet
    exact ⟨true,rfl,fun h=>Bool.noConfusion h,Keep.draws _ _⟩
   case false=>
    have hP:=HGO.out (HPP.out) (fun h=>by have:=HEV.out; have q:=of_decide_eq_false q4'; omega)
    have HP:=Lib.hid hP
    clear hP
    go_quiet (fail)
    go_wp2_with fail
    go_meet
    exact ⟨false,rfl,fun _=>HP.out,Keep.draws _ _⟩
  case rest=>
   obtain ⟨w8,hw8⟩ : ∃ w8 : World,w8 = wc:=⟨_,rfl⟩
   subst hw8
   obtain ⟨bt,rfl,hbt,hk8⟩:=hcut
   have hz8:=hk8.size
   cases bt with
   | true=>
    have hfin : Aw40Post w (.returned (.bool true)) w8:=⟨rfl,Keep.trans HK07.out hk8⟩
    have HFIN:=Lib.hid hfin
    clear hfin
    clear hk8 hbt
    go_wp2_with fail
    go_ret
    exact HFIN.out
   | false=>
    obtain ⟨t,u,ht,hu,hus⟩:=hbt rfl
    have htm : t = m:=by rw [HRUN.out] at ht; injection ht with h; exact h.symm
    subst htm
    have hba8:=hk8.blk HBA.out HBA.out.lt
    have hbb8:=hk8.blk HBB.out HBB.out.lt
    have hb8:=hk8.blk HB7.out HB7.out.lt
    have hcd8:=cds_up HCD7.out hk8
    have hsl8:=chs_up HSL7.out hk8
    have hk08:=Keep.trans HK07.out hk8
    obtain ⟨i0,hi0,iz0,is0,ib0⟩:=info_of info_Choice
    have hlta:=hba8.lt
    have hltb:=hbb8.lt
    have HBA8:=Lib.hid hba8
    have HBB8:=Lib.hid hbb8
    have HB8:=Lib.hid hb8
    have HCD8:=Lib.hid hcd8
    have HSL8:=Lib.hid hsl8
    have HK08:=Lib.hid hk08
    have HI0:=Lib.hid hi0
    have IZ0:=Lib.hid iz0
    have IS0:=Lib.hid is0
    have IB0:=Lib.hid ib0
    have HU:=Lib.hid hu
    have HUS:=Lib.hid hus
    clear hba8 hbb8 hb8 hcd8 hsl8 hk08 hi0 iz0 is0 ib0 hu hus
    clear hk8 ht f1 a0 b0 b1 b2 b3
    go_upto_region 13 with fail
    go_wp2_with (at_builtin; refine wpList_append_any _ rfl (.const (.slice none 0 0)) (.tmp 90) 23 rfl w8.heap.size 57 i0 _ 6 48 Tryz.underlying23 HI0.out IZ0.out IS0.out IB0.out rfl (by omega) (.slice none 0 0) 0 [] rfl (World.ownsRow_nil _ _ _ _) _ (some ⟨bL,oL,none⟩) nl c (l.flatMap encCh) rfl HSL8.out.2.2.2 (one_of encCh_one _) (by simp [maxLen]; omega) (by omega) (Nat.le_refl _) ?_; intro v9 w9 howz hgz hatz; have HOW9:=Lib.hid howz; have HG9:=Lib.hid hgz; clear howz hgz hatz; refine Hid.out ?_)
    refine Lib.hid ?_
    have hk9 : Keep w8 w9:=Same.append (Same.refl _ _) (World.ownsRow_nil _ w8.heap.size 57 6) HG9.out (fun i hi=>hi) (Nat.le_refl _)
    have hown9 : w9.ownsRow w8.heap.size 57 6 v9 nl (l.flatMap encCh):=by have:=HOW9.out; simpa using this
    obtain ⟨A9,c9,hv9,hn9,hc9⟩:=own_form hown9
    subst hv9
    obtain ⟨g,cur,hA9,hbg,hgb,hcs,hnc,hcm,htk⟩:=own_open hown9 (show 0 < nl by omega)
    subst hA9
    have hz9:=hk9.size
    have hcm9 : c9 ≤ 9223372036854775807:=hcm
    have hrow0:=row_of_take htk
    have hrow1:=row_splice (k:=k) (a:=⟨bp,bk,bf,bi,bo,bv⟩) hrow0 (by have:=HNL.out; omega) (by have:=HNL.out; omega)
    have hrow2:=row_splice (k:=k + 1) (a:=⟨pa,ak,af,ai,ao,av⟩) hrow1 (by rw [List.length_set]; have:=HNL.out; omega) (by rw [List.length_set,splice_len]; have:=HNL.out; omega)
    have hba9:=hk9.blk HBA8.out HBA8.out.lt
    have hbb9:=hk9.blk HBB8.out HBB8.out.lt
    have s1 : (0 : Int) ≤ k:=by omega
    have HK9:=Lib.hid hk9
    have HGB:=Lib.hid hgb
    have HROW2:=Lib.hid hrow2
    have HBA9:=Lib.hid hba9
    have HBB9:=Lib.hid hbb9
    have HCS:=Lib.hid hcs
    clear hk9 hgb hrow2 hba9 hbb9 hcs
    clear hown9 htk hrow0 hrow1 HOW9 HG9
    go_wp2_with fail
    refine wp_region_L 99 (fun _=>True) (fun wx=>Same (fun i=>i < w9.heap.size ∧ i ≠ g) w9 wx) (by kernel_rfl) trivial (Same.drew (Same.refl _ _)) (fun hA hB=>?_)
    have hgb0 : Blk w9.drew g 57 cur:=HGB.out
    generalize hv0 : w9.drew = v0 at hB hgb0 ⊢
    clear hv0
    refine wpL_takeB (i:=0) (v:=?_) rfl (by kernel_rfl) (by kernel_rfl) (by kernel_rfl) (by decide) (fun _ _ _ h=>h) (Or.inl ⟨by rfl,?_⟩) (SAB.both hA hB) ?_
    rotate_left
    ·intro wx hBx
     (try dsimp only at hBx)
     go_simp
     try with_reducible rfl
    try simp only [Act.put,List.setIfInBounds_toArray,List.set_cons_zero,List.set_cons_succ]
    refine wpL_takeB (i:=1) (v:=?_) rfl (by kernel_rfl) (by kernel_rfl) (by kernel_rfl) (by decide) (fun _ _ _ h=>h) (Or.inl ⟨by rfl,?_⟩) (SAB.both hA hB) ?_
    rotate_left
    ·intro wx hBx
     (try dsimp only at hBx)
     go_simp
     try with_reducible rfl
    try simp only [Act.put,List.setIfInBounds_toArray,List.set_cons_zero,List.set_cons_succ]
    refine wpL_takeB (i:=2) (v:=?_) rfl (by kernel_rfl) (by kernel_rfl) (by kernel_rfl) (by decide) (fun _ _ _ h=>h) (Or.inl ⟨by rfl,?_⟩) (SAB.both hA hB) ?_
    rotate_left
    ·intro wx hBx
     (try dsimp only at hBx)
     go_simp
     try with_reducible rfl
    try simp only [Act.put,List.setIfInBounds_toArray,List.set_cons_zero,List.set_cons_succ]
    refine wpL_takeB (i:=3) (v:=?_) rfl (by kernel_rfl) (by kernel_rfl) (by kernel_rfl) (by decide) (fun _ _ _ h=>h) (Or.inl ⟨by rfl,?_⟩) (SAB.both hA hB) ?_
    rotate_left
    ·intro wx hBx
     (try dsimp only at hBx)
     go_simp
     try with_reducible rfl
    try simp only [Act.put,List.setIfInBounds_toArray,List.set_cons_zero,List.set_cons_succ]
    refine wpL_takeB (i:=4) (v:=?_) rfl (by kernel_rfl) (by kernel_rfl) (by kernel_rfl) (by decide) (fun _ _ _ h=>h) (Or.inl ⟨by rfl,?_⟩) (SAB.both hA hB) ?_
    rotate_left
    ·intro wx hBx
     (try dsimp only at hBx)
     go_simp
     try with_reducible rfl
    try simp only [Act.put,List.setIfInBounds_toArray,List.set_cons_zero,List.set_cons_succ]
    refine wpL_takeB (i:=5) rfl (by kernel_rfl) (by kernel_rfl) (by kernel_rfl) (by decide) (fun _ _ _ h=>h) (yieldsIf_blk (by rfl) _ _ rfl gb 0 57 _ [.int .i64 bp,.int .i64 bk,.int .i64 bf,.int .i64 bi,.int .i64 bo,.int .i64 bv] _ rfl (fun wx hx=>hx.blk HBB9.out ⟨HBB9.out.lt,by omega⟩) (fun j u hu=>by simpa [encCh] using hu) Tryz.underlying57 rfl (by kernel_rfl)) (SAB.both hA hB) ?_
    try simp only [Act.put,List.setIfInBounds_toArray,List.set_cons_zero,List.set_cons_succ]
    refine wpL_takeB (i:=6) rfl (by kernel_rfl) (by kernel_rfl) (by kernel_rfl) (by decide) (fun _ _ _ h=>h) (yieldsIf_blk (by rfl) _ _ rfl ga 0 57 _ [.int .i64 pa,.int .i64 ak,.int .i64 af,.int .i64 ai,.int .i64 ao,.int .i64 av] _ rfl (fun wx hx=>hx.blk HBA9.out ⟨HBA9.out.lt,by omega⟩) (fun j u hu=>by simpa [encCh] using hu) Tryz.underlying57 rfl (by kernel_rfl)) (SAB.both hA hB) ?_
    try simp only [Act.put,List.setIfInBounds_toArray,List.set_cons_zero,List.set_cons_succ]
    refine wpL_takeB (i:=7) (v:=?_) rfl (by kernel_rfl) (by kernel_rfl) (by kernel_rfl) (by decide) (fun _ _ _ h=>h) (Or.inl ⟨by rfl,?_⟩) (SAB.both hA hB) ?_
    rotate_left
    ·intro wx hBx
     (try dsimp only at hBx)
     go_simp
     try with_reducible rfl
    try simp only [Act.put,List.setIfInBounds_toArray,List.set_cons_zero,List.set_cons_succ]
    refine wpL_one (i:=8) (by kernel_rfl) (StepL.mk rfl (fun K hK=>?_))
    refine step_store_blk rfl _ _ _ rfl g (k * 6) 57 _ [.int .i64 bp,.int .i64 bk,.int .i64 bf,.int .i64 bi,.int .i64 bo,.int .i64 bv] rfl rfl hgb0 (by have:=HCS.out; show k * 6 + 6 ≤ _; omega) (by kernel_rfl) rfl ?_
    intro v3 hb3' hs3
    have hB3 : Same (fun i=>i < w9.heap.size ∧ i ≠ g) w9 v3:=Same.trans hB hs3 (fun i hi=>hi.2)
    refine hK.out _ _ (SAB.both trivial hB3) (fun hSS=>?_)
    clear hK K hA hB
    have hB:=hSS.2
    have hA:=hSS.1 (by kernel_rfl)
    (try dsimp only at hB); (try dsimp only at hA); clear hSS
    try simp only [Act.put,List.setIfInBounds_toArray,List.set_cons_zero,List.set_cons_succ]
    refine wpL_takeB (i:=9) (v:=?_) rfl (by kernel_rfl) (by kernel_rfl) (by kernel_rfl) (by decide) (fun _ _ _ h=>h) (Or.inl ⟨by rfl,?_⟩) (SAB.both hA hB) ?_
    rotate_left
    ·intro wx hBx
     (try dsimp only at hBx)
     go_simp
     try with_reducible rfl
    try simp only [Act.put,List.setIfInBounds_toArray,List.set_cons_zero,List.set_cons_succ]
    refine wpL_one (i:=10) (by kernel_rfl) (StepL.mk rfl (fun K hK=>?_))
    refine step_store_blk rfl _ _ _ rfl g ((k + 1) * 6) 57 _ [.int .i64 pa,.int .i64 ak,.int .i64 af,.int .i64 ai,.int .i64 ao,.int .i64 av] rfl rfl hb3' (by rw [splice_len]; have:=HCS.out; show (k + 1) * 6 + 6 ≤ _; omega) (by kernel_rfl) rfl ?_
    intro w10 hb10 hs10
    have hB4 : Same (fun i=>i < w9.heap.size ∧ i ≠ g) w9 w10:=Same.trans hB3 hs10 (fun i hi=>hi.2)
    refine hK.out _ _ (SAB.both trivial hB4) (fun hSS=>?_)
    clear hK K hA hB
    have hB:=hSS.2
    have hA:=hSS.1 (by kernel_rfl)
    (try dsimp only at hB); (try dsimp only at hA); clear hSS
    try simp only [Act.put,List.setIfInBounds_toArray,List.set_cons_zero,List.set_cons_succ]
    refine wpL_done (by kernel_rfl) ?_
    have hk810 : Keep w8 w10:=Same.trans HK9.out hB4 (fun i hi=>⟨by have : i < w8.heap.size:=hi; omega,by have : i < w8.heap.size:=hi; omega⟩)
    have hown10:=own_close (w:=w10) (base:=w8.heap.size) (g:=g) (n:=nl) (c:=c9) (e:=57) encCh_len hbg hb10 (by rw [splice_len,splice_len]; exact HCS.out) hnc hcm HROW2.out (by rw [List.length_set,List.length_set]; exact HNL.out.symm)
    have hsl10:=chs_up HSL8.out hk810
    have hslm : Sl encCh 6 w10 (Bw w10) (some ⟨g,0,none⟩) nl c9 ((l.set k ⟨bp,bk,bf,bi,bo,bv⟩).set (k + 1) ⟨pa,ak,af,ai,ao,av⟩):=by
     have hlen : ((l.set k ⟨bp,bk,bf,bi,bo,bv⟩).set (k + 1) ⟨pa,ak,af,ai,ao,av⟩).length = nl:=by rw [List.length_set,List.length_set]; exact HNL.out.symm
     obtain ⟨A',c',he,h⟩:=Sl.of_own (w:=w10) (enc:=encCh) (l:=(l.set k ⟨bp,bk,bf,bi,bo,bv⟩).set (k + 1) ⟨pa,ak,af,ai,ao,av⟩) (v:=.slice (some ⟨g,0,none⟩) nl c9) (base:=w8.heap.size) (size:=6) (e:=57) (by rw [hlen]; exact hown10)
     rw [hlen] at he h
     simp only [Value.slice.injEq] at he
     obtain ⟨rfl,-,rfl⟩:=he
     exact h.more (fun i hi=>hi.2)
    have hcd10:=cds_up HCD8.out hk810
    have hb810:=hk810.blk HB8.out HB8.out.lt
    have hk010:=Keep.trans HK08.out hk810
    have hplay:=play_ok w10 AC (some ⟨bL,oL,none⟩) n cC nl c 1 v cs l t hcd10 HINI.out hsl10 (by omega) (by omega) HRUN.out
    have HPLAY:=Lib.hid hplay
    have HB810:=Lib.hid hb810
    have HK010:=Lib.hid hk010
    have HSLM:=Lib.hid hslm
    have HCD10:=Lib.hid hcd10
    clear hplay hb810 hk010 hslm hcd10
    clear hB4 hB3 hB hA hb10 hs10 hb3' hs3 hown10 hsl10 hk810 hgb0
    try simp only [Act.put]
    go_wp2_with (refine wpList_load_all rfl _ (.tmp 5) rfl w2.heap.size 27 [.slice AC n cC,.int .i64 1,.int .i64 v] _ rfl HB810.out Tryz.underlying27 rfl (by kernel_rfl) ?_)
    refine HPLAY.out.mono ?_
    rintro e w11 ⟨A11,c11,rfl,hst11,hk11⟩
    have hplay2:=play_ok w11 AC (some ⟨g,0,none⟩) n cC nl c9 1 v cs _ u (cds_up HCD10.out hk11) HINI.out (chs_up HSLM.out hk11) (by omega) (by omega) HU.out
    have hb11:=hk11.blk HB810.out HB810.out.lt
    have hk011:=Keep.trans HK010.out hk11
    have HPLAY2:=Lib.hid hplay2
    have HB11:=Lib.hid hb11
    have HK011:=Lib.hid hk011
    have HST11:=Lib.hid hst11
    clear hplay2 hb11 hk011 hst11
    clear hk11
    go_wp2_with (refine wpList_load_all rfl _ (.tmp 5) rfl w2.heap.size 27 [.slice AC n cC,.int .i64 1,.int .i64 v] _ rfl HB11.out Tryz.underlying27 rfl (by kernel_rfl) ?_)
    refine HPLAY2.out.mono ?_
    rintro e w12 ⟨A12,c12,rfl,hst12,hk12⟩
    have hsame:=rfsame_any w12 (Bw w12) A11 A12 n n c11 c12 t.ss u.ss (fun i hi=>hi) (sts_up HST11.out hk12) hst12 (by omega) (by omega) (fine_run HINI.out HRUN.out) (fine_run HINI.out HU.out)
    have hkf:=Keep.trans HK011.out hk12
    have HSAME:=Lib.hid hsame
    have HKF:=Lib.hid hkf
    clear hsame hkf
    clear hst12 hk12
    go_wp2_with fail
    refine HSAME.out.mono ?_
    rintro e w13 ⟨bb',hbb',rfl,hk13⟩
    have hb' : bb' = true:=hbb'.2 HUS.out.symm
    subst hb'
    have hfin : Aw40Post w (.returned (.bool true)) w13:=⟨rfl,Keep.trans HKF.out hk13⟩
    have HFIN:=Lib.hid hfin
    clear hfin
    clear hbb' hk13
    go_wp2_with fail
    go_ret
    exact HFIN.out
end Go.Proofs.YtipegaojiokppaaGreatDoor
