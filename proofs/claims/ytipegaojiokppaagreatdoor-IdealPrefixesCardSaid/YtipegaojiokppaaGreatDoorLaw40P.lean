import Derived.Test.YtipegaojiokppaaGreatDoorGL
import Derived.Test.YtipegaojiokppaaGreatDoorEval2
set_option linter.unusedVariables false
set_option linter.unusedSimpArgs false
set_option maxRecDepth 100000
namespace Go.Proofs.YtipegaojiokppaaGreatDoor
open Go.RowKit Go.Proofs
set_option maxHeartbeats 16000000 in
theorem idealPrefixes_walk (w : World) (A : Option Addr) (n0 c0 : Nat) (zs : List Int) (x1 : Int) (hx1 : I64 x1) (hg : Glob w) (hz : Sl encB 1 w (· < w.heap.size) A n0 c0 zs) (hz8 : ∀ y ∈ zs,0 ≤ y ∧ y < 256) : Calls Tryz.prog 5 #[.slice A n0 c0,.int .i64 x1] w (Aw40Post w):=by
 have HG:=Lib.hid hg
 have HZ:=Lib.hid hz
 have HZ8:=Lib.hid hz8
 have HX1:=Lib.hid hx1
 clear hg hz hz8 hx1
 go_enter Tryz.func5,Tryz.ntmps5
 go_wp2_with fail
 refine (awake40_any w).mono ?_
 rintro e w1 ⟨rfl,hk1⟩
 have hz1:=hk1.size
 have HK1:=Lib.hid hk1
 clear hk1
 go_wp2_with fail
 refine (scene_any w1 A n0 c0 zs (HG.out.keep HK1.out) ((HZ.out.keep HK1.out).more (fun i hi=>by have : i < w.heap.size:=hi; show i < w1.heap.size; omega)) HZ8.out).mono ?_
 rintro e w2 ⟨AC,n,cC,v,cs,AL,c,l,m,gc,r,B,rfl,hcds,hn2,hn3,hini,hsl,hl25,hrun,-,-,-,hk2⟩
 have hz2:=hk2.size
 have hlc:=hsl.2.1
 have hlm : c ≤ 9223372036854775807:=hsl.2.2.1
 obtain ⟨nl,hnl⟩ : ∃ nl,nl = l.length:=⟨_,rfl⟩
 rw [← hnl] at hsl hl25 hlc
 rw [← hnl]
 have hk02:=Keep.trans HK1.out hk2
 have HCDS:=Lib.hid hcds
 have HINI:=Lib.hid hini
 have HSL:=Lib.hid hsl
 have HRUN:=Lib.hid hrun
 have HK02:=Lib.hid hk02
 have HNL:=Lib.hid hnl
 clear hcds hini hsl hrun hk02 hnl
 clear hk2
 go_upto_region 4 with (refine wpList_store_all rfl _ (.tmp 5) (.tmp 18) rfl w2.heap.size 27 _ [.slice AC n cC,.int .i64 1,.int .i64 v] rfl rfl (Blk.new _ _ _) rfl (by kernel_rfl) rfl ?_; intro w3 hb3 hs3)
 have hk3 : Keep w2 w3:=Keep.write (Keep.new _ _) hs3 (Nat.le_refl _)
 have hz3 : w2.heap.size < w3.heap.size:=hb3.lt
 have hcd3:=(HCDS.out.keep (hk3.mono (fun i (hi : ScS w1 w2 gc i)=>hi.2.1))).more (T:=Bw w3) (fun i hi=>by have:=hi.2.1; show i < w3.heap.size; omega)
 have hsl3:=(HSL.out.keep (hk3.mono (fun i (hi : ScS w1 w2 gc i)=>hi.2.1))).more (T:=Bw w3) (fun i hi=>by have:=hi.2.1; show i < w3.heap.size; omega)
 have hk03:=Keep.trans HK02.out hk3
 have HB3:=Lib.hid hb3
 have HCD3:=Lib.hid hcd3
 have HSL3:=Lib.hid hsl3
 have HK03:=Lib.hid hk03
 clear hb3 hcd3 hsl3 hk03
 clear hs3 hk3 HCDS HSL HK02
 go_wp2_with fail
 refine (mod_any x1 ((nl : Int) + 1) w3 HX1.out (by omega) (by omega)).mono ?_
 rintro e w4 ⟨rfl,hq⟩
 subst hq
 obtain ⟨k0,k1⟩:=modS_lt x1 ((nl : Int) + 1) (by omega)
 obtain ⟨k,hk⟩ : ∃ k : Nat,modS x1 ((nl : Int) + 1) = k:=⟨(modS x1 ((nl : Int) + 1)).toNat,by omega⟩
 rw [hk] at k0 k1 ⊢
 have hkn : k ≤ nl:=by omega
 clear hk
 have hw1:=iworld_any w3 (Bw w3) AC AL n cC nl c 1 v cs l (fun i hi=>hi) HCD3.out HINI.out HSL3.out (by omega) (by omega)
 have HW1:=Lib.hid hw1
 clear hw1
 go_wp2_with (refine wpList_load_all rfl _ (.tmp 5) rfl w2.heap.size 27 [.slice AC n cC,.int .i64 1,.int .i64 v] _ rfl HB3.out Tryz.underlying27 rfl (by kernel_rfl) ?_)
 refine HW1.out.mono ?_
 rintro e w5 ⟨hk5,⟨m',A5,c5,hrun',rfl,hs5⟩ | ⟨k',hrun',-,-⟩⟩
 case inr=>rw [HRUN.out] at hrun'; cases hrun'
 have hmm : m' = m:=by rw [HRUN.out] at hrun'; injection hrun' with h; exact h.symm
 subst hmm
 obtain ⟨m1,hm1,a,ha⟩:=runI_pre k HRUN.out
 have hb5:=hk5.blk HB3.out hz3
 have hz5:=hk5.size
 have hcd5:=(HCD3.out.keep hk5).more (T:=Bw w5) (fun i (hi : i < w3.heap.size)=>by show i < w5.heap.size; omega)
 have hsl5:=((HSL3.out.keep hk5).more (T:=Bw w5) (fun i (hi : i < w3.heap.size)=>by show i < w5.heap.size; omega)).to_ encCh_len hkn
 have hk05:=Keep.trans HK03.out hk5
 have hmw : m1.world.length ≤ m'.world.length:=by rw [ha,List.length_append]; omega
 have hi5:=(runI_inv HRUN.out)
 have hmx:=(runI_out HRUN.out).sum
 have g1 : (0 : Int) ≤ k:=by omega
 have g2 : (k : Int) ≤ c:=by omega
 have hmb : m'.world.length ≤ 1000000:=by
  obtain ⟨c1,c5',-,hp⟩:=runI_ok HRUN.out
  have key : ∀ (l : List Chc) (m0 m1 : Mi),playI cs m0 l = .ok m1 → m1.world.length ≤ m0.world.length + 8 * l.length:=by
   intro l
   induction l with
   | nil=>intro m0 m1 h; injection h with h; rw [h]; simp
   | cons x l ih=>
    intro m0 m1 h
    have h:=playI_cons_ok h
    have h1:=ih _ _ h.2
    have h2:=execI_world (cs:=cs) (m:=m0) x.proc.toNat (eventI m0.ss x).1
    rw [List.length_cons]
    omega
  have h1:=key _ _ _ hp
  have h2:=startI_world cs cs.length
  have:=HNL.out
  omega
 obtain ⟨nw,hnw⟩ : ∃ nw,nw = m'.world.length:=⟨_,rfl⟩
 obtain ⟨nv,hnv⟩ : ∃ nv,nv = m1.world.length:=⟨_,rfl⟩
 rw [← hnw] at hs5 hmw hmb
 rw [← hnw]
 rw [← hnv] at hmw
 have hcall : ∀ u,Keep w5 u → Calls Tryz.prog 14 #[.agg #[.slice AC n cC,.int .i64 1,.int .i64 v],.slice AL k c] u (WorldPost cs (l.take k) u):=fun u hu=>
  iworld_any u (Bw u) AC AL n cC k c 1 v cs (l.take k) (fun i hi=>hi) ((hcd5.keep hu).more (fun i hi=>Nat.lt_of_lt_of_le hi hu.size)) HINI.out ((hsl5.keep hu).more (fun i hi=>Nat.lt_of_lt_of_le hi hu.size)) (by omega) (by omega)
 have HB5:=Lib.hid hb5
 have HCD5:=Lib.hid hcd5
 have HSL5:=Lib.hid hsl5
 have HK05:=Lib.hid hk05
 have HS5:=Lib.hid hs5
 have HCALL:=Lib.hid hcall
 have HA:=Lib.hid ha
 have HM1:=Lib.hid hm1
 have HNW:=Lib.hid hnw
 have HNV:=Lib.hid hnv
 clear hb5 hcd5 hsl5 hk05 hs5 hcall ha hm1 hnw hnv
 clear hk5 hrun' hi5 hmx
 go_upto_region 6 with fail
 refine wp_region_L 99 (fun _=>True) (fun wx=>Keep w5 wx) (by kernel_rfl) trivial (Same.drew (Same.refl _ _)) (fun hA hB=>?_)
 generalize hu0 : w5.drew = u0 at hB ⊢
 clear hu0
 refine wpL_takeB (i:=0) rfl (by kernel_rfl) (by kernel_rfl) (by kernel_rfl) (by decide) (fun _ _ _ h=>h) (yieldsIf_blk (by rfl) _ _ rfl w2.heap.size 0 27 _ [.slice AC n cC,.int .i64 1,.int .i64 v] _ rfl (fun wx hx=>hx.blk HB5.out HB5.out.lt) (fun j u hu=>by simpa using hu) Tryz.underlying27 rfl (by kernel_rfl)) (SAB.both hA hB) ?_
 try simp only [Act.put,List.setIfInBounds_toArray,List.set_cons_zero,List.set_cons_succ]
 refine wpL_takeB (i:=1) (v:=?_) rfl (by kernel_rfl) (by kernel_rfl) (by kernel_rfl) (by decide) (fun _ _ _ h=>h) (Or.inl ⟨by rfl,?_⟩) (SAB.both hA hB) ?_
 rotate_left
 ·intro wx hBx
  (try dsimp only at hBx)
  go_simp
  try with_reducible rfl
 try simp only [Act.put,List.setIfInBounds_toArray,List.set_cons_zero,List.set_cons_succ]
 refine wpL_takeB (i:=2) (v:=?_) rfl (by kernel_rfl) (by kernel_rfl) (by kernel_rfl) (by decide) (fun _ _ _ h=>h) (Or.inl ⟨by rfl,?_⟩) (SAB.both hA hB) ?_
 rotate_left
 ·intro wx hBx
  (try dsimp only at hBx)
  go_simp
  try with_reducible rfl
 try simp only [Act.put,List.setIfInBounds_toArray,List.set_cons_zero,List.set_cons_succ]
 refine wpL_takeB (i:=3) (v:=?_) rfl (by kernel_rfl) (by kernel_rfl) (by kernel_rfl) (by decide) (fun _ _ _ h=>h) (Or.inl ⟨by rfl,?_⟩) (SAB.both hA hB) ?_
 rotate_left
 ·intro wx hBx
  (try dsimp only at hBx)
  go_simp
  try with_reducible rfl
 try simp only [Act.put,List.setIfInBounds_toArray,List.set_cons_zero,List.set_cons_succ]
 refine wpL_one (i:=4) (by kernel_rfl) (StepL.mk rfl (fun K hK=>?_))
 go_simp
 refine (HCALL.out u0 hB).mono ?_
 rintro e u1 ⟨hk6,⟨m2,A6,c6,hrun2,rfl,hs6⟩ | ⟨k',hrun2,-,-⟩⟩
 case inr=>rw [HM1.out] at hrun2; cases hrun2
 have hmm2 : m2 = m1:=by rw [HM1.out] at hrun2; injection hrun2 with h; exact h.symm
 subst hmm2
 have hB6:=Keep.trans hB hk6
 refine hK.out _ _ (SAB.both trivial hB6) (fun hSS=>?_)
 clear hK K hA hB
 have hB:=hSS.2
 have hA:=hSS.1 (by kernel_rfl)
 (try dsimp only at hB); (try dsimp only at hA); clear hSS
 try simp only [Act.put,List.setIfInBounds_toArray,List.set_cons_zero,List.set_cons_succ]
 rw [← HNV.out] at hs6 ⊢
 refine wpL_takeB (i:=5) (v:=?_) rfl (by kernel_rfl) (by kernel_rfl) (by kernel_rfl) (by decide) (fun _ _ _ h=>h) (Or.inl ⟨by rfl,?_⟩) (SAB.both hA hB) ?_
 rotate_left
 ·intro wx hBx
  (try dsimp only at hBx)
  go_simp
  try with_reducible rfl
 try simp only [Act.put,List.setIfInBounds_toArray,List.set_cons_zero,List.set_cons_succ]
 refine wpL_takeB (i:=6) (v:=?_) rfl (by kernel_rfl) (by kernel_rfl) (by kernel_rfl) (by decide) (fun _ _ _ h=>h) (Or.inl ⟨by rfl,?_⟩) (SAB.both hA hB) ?_
 rotate_left
 ·intro wx hBx
  (try dsimp only at hBx)
  go_simp
  try with_reducible rfl
 try simp only [Act.put,List.setIfInBounds_toArray,List.set_cons_zero,List.set_cons_succ]
 refine wpL_takeB (i:=7) (v:=?_) rfl (by kernel_rfl) (by kernel_rfl) (by kernel_rfl) (by decide) (fun _ _ _ h=>h) (Or.inl ⟨by rfl,?_⟩) (SAB.both hA hB) ?_
 rotate_left
 ·intro wx hBx
  (try dsimp only at hBx)
  go_simp
  try with_reducible rfl
 try simp only [Act.put,List.setIfInBounds_toArray,List.set_cons_zero,List.set_cons_succ]
 refine wpL_takeB (i:=8) (v:=?_) rfl (by kernel_rfl) (by kernel_rfl) (by kernel_rfl) (by decide) (fun _ _ _ h=>h) (Or.inl ⟨by rfl,?_⟩) (SAB.both hA hB) ?_
 rotate_left
 ·intro wx hBx
  (try dsimp only at hBx)
  go_simp
  try with_reducible rfl
 try simp only [Act.put,List.setIfInBounds_toArray,List.set_cons_zero,List.set_cons_succ]
 refine wpL_takeB (i:=9) (v:=?_) rfl (by kernel_rfl) (by kernel_rfl) (by kernel_rfl) (by decide) (fun _ _ _ h=>h) (Or.inl ⟨by rfl,?_⟩) (SAB.both hA hB) ?_
 rotate_left
 ·intro wx hBx
  (try dsimp only at hBx)
  go_simp
  try with_reducible rfl
 try simp only [Act.put,List.setIfInBounds_toArray,List.set_cons_zero,List.set_cons_succ]
 refine wpL_done (by kernel_rfl) ?_
 have hs56:=(HS5.out.keep (hB6.mono (fun i (hi : i < w5.heap.size)=>hi))).to_ encSh_len hmw
 have htk : m'.world.take nv = m2.world:=by rw [HA.out,HNV.out,List.take_left]
 rw [htk] at hs56
 have t1 : decide ((nv : Int) ≤ nw) = true:=by simp; omega
 have t2 : decide (nv ≤ nw) = true:=by simpa using hmw
 have hc5:=HS5.out.2.1
 have t3 : (0 : Int) ≤ nv:=by omega
 have t4 : (nv : Int) ≤ c5:=by omega
 have hc59 : c5 ≤ 9223372036854775807:=HS5.out.2.2.1
 have hsame:=shsame_any u1 (Bw w5) (Bw u1) A5 A6 nv nv c5 c6 m2.world m2.world hs56 hs6 (by omega) (by omega)
 have hkf:=Keep.trans HK05.out hB6
 have HSAME:=Lib.hid hsame
 have HKF:=Lib.hid hkf
 clear hsame hkf
 clear hs56 hs6 htk hB6 hk6 hB hA hrun2 hc5
 go_wp2_with fail
 refine HSAME.out.mono ?_
 rintro e u2 ⟨bb,hbb,rfl,kd,rfl⟩
 have hb : bb = true:=hbb.2 (by first | rfl | trivial)
 subst hb
 have hfin : Aw40Post w (.returned (.bool true)) (u1.drewN kd):=⟨rfl,Keep.trans HKF.out (Keep.draws _ _)⟩
 have HFIN:=Lib.hid hfin
 clear hfin
 clear hbb
 go_wp2_with fail
 go_ret
 exact HFIN.out
end Go.Proofs.YtipegaojiokppaaGreatDoor
