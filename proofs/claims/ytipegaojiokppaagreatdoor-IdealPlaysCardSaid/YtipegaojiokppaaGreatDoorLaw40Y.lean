import Derived.Test.YtipegaojiokppaaGreatDoorGL
import Derived.Test.YtipegaojiokppaaGreatDoorEval2
import Derived.Test.YtipegaojiokppaaGreatDoorSpoil
import Derived.Test.YtipegaojiokppaaGreatDoorChIn
set_option linter.unusedVariables false
set_option linter.unusedSimpArgs false
set_option maxRecDepth 100000
namespace Go.Proofs.YtipegaojiokppaaGreatDoor
open Go.RowKit Go.Proofs
theorem built_chs4 (A1 A2 A3 A4 : Option Addr) (n1 c1 n2 c2 n3 c3 n4 c4 : Nat) : builtS Tryz.prog 23 4 [(0,.slice A1 n1 c1),(1,.slice A2 n2 c2),(2,.slice A3 n3 c3),(3,.slice A4 n4 c4)] = some #[.slice A1 n1 c1,.slice A2 n2 c2,.slice A3 n3 c3,.slice A4 n4 c4]:=by kernel_rfl
def ssOf : Except Int Mi → List St
 | .ok m=>m.ss
 | .error _=>[]
def wsOf : Except Int Mi → List Sh
 | .ok m=>m.world
 | .error _=>[]
def kOf : Except Int Mi → Int
 | .ok _=>0
 | .error k=>k
theorem play_to {cs : List Cd} {l : List Chc} {w w' : World} {e : Ending} (h : PlayPost cs l w e w') :
  Keep w w' ∧ ∃ (A : Option Addr) (c : Nat),e = .returned (.tuple #[.slice A (ssOf (runI cs l)).length c,.int .i64 (kOf (runI cs l))]) ∧ SlR w' (Bw w') 4 (StR w' (Bw w')) A (ssOf (runI cs l)).length c (ssOf (runI cs l)):=by
 obtain ⟨hk,⟨m,A,c,hr,rfl,hs⟩ | ⟨k,hr,-,rfl⟩⟩:=h
 ·rw [hr]
  exact ⟨hk,A,c,rfl,hs⟩
 ·rw [hr]
  exact ⟨hk,none,0,rfl,rfl,Nat.le_refl _,by simp [maxLen],[],rfl,by simp,⟨rfl,fun h=>absurd h (by simp [ssOf])⟩,fun k cs a e1 e2=>by simp at e1⟩
theorem world_to {cs : List Cd} {l : List Chc} {w w' : World} {e : Ending} (h : WorldPost cs l w e w') :
  Keep w w' ∧ ∃ (A : Option Addr) (c : Nat),e = .returned (.tuple #[.slice A (wsOf (runI cs l)).length c,.int .i64 (kOf (runI cs l))]) ∧ Sl encSh 4 w' (Bw w') A (wsOf (runI cs l)).length c (wsOf (runI cs l)):=by
 obtain ⟨hk,⟨m,A,c,hr,rfl,hs⟩ | ⟨k,hr,-,rfl⟩⟩:=h
 ·rw [hr]
  exact ⟨hk,A,c,rfl,hs⟩
 ·rw [hr]
  exact ⟨hk,none,0,rfl,rfl,Nat.le_refl _,by simp [maxLen],rfl,fun h=>absurd h (by simp [wsOf])⟩
theorem playI_wl {cs : List Cd} : ∀ (l : List Chc) (m0 m1 : Mi),playI cs m0 l = .ok m1 → m1.world.length ≤ m0.world.length + 8 * l.length:=by
 intro l
 induction l with
 | nil=>intro m0 m1 h; injection h with h; rw [h]; simp
 | cons x l ih=>
  intro m0 m1 h
  have h:=playI_cons_ok h
  have h1:=ih _ _ h.2
  have h2:=execI_world (cs:=cs) (m:=m0) x.proc.toNat (eventI m0.ss x).1
  rw [List.length_cons]
  omega
theorem of_run {cs : List Cd} {l : List Chc} (hini : ∀ c ∈ cs,c.init.length ≤ 1000000) (hl : l.length ≤ 1000) : (ssOf (runI cs l)).length ≤ 1000 ∧ (wsOf (runI cs l)).length ≤ 1000000 ∧ ∀ k,k < (ssOf (runI cs l)).length → Fine ((ssOf (runI cs l)).getD k zeroSt):=by
 cases hr : runI cs l with
 | error k=>exact ⟨by simp [ssOf],by simp [wsOf],fun k hk=>absurd hk (by simp [ssOf])⟩
 | ok m=>
  obtain ⟨c1,c5,-,hp⟩:=runI_ok hr
  have h1:=playI_wl _ _ _ hp
  have h2:=startI_world cs cs.length
  have h3:=(runI_inv hr).len
  exact ⟨by simp only [ssOf]; omega,by simp only [wsOf]; omega,fine_run hini hr⟩
def FourL (w : World) (gl : Nat) : Prop:=∀ k,k < 4 → ∃ (A : Option Addr) (n c : Nat) (l : List Chc),w.cell? ⟨gl,k,none⟩ = some (.slice A n c) ∧ Sl encCh 6 w (Bw w) A n c l ∧ n ≤ 1000
def PyRel (W : World) (i : Value) (wr : World) : Prop:=∃ k : Nat,i = .int .i64 k ∧ k ≤ 4 ∧ Keep W wr
set_option maxHeartbeats 32000000 in
theorem idealPlays_walk (w : World) (A : Option Addr) (n0 c0 : Nat) (zs : List Int) (A2 : Option Addr) (n2 c2 : Nat) (l2 : List Chc) (hg : Glob w) (hz : Sl encB 1 w (· < w.heap.size) A n0 c0 zs) (hz8 : ∀ y ∈ zs,0 ≤ y ∧ y < 256) (hl2 : Sl encCh 6 w (· < w.heap.size) A2 n2 c2 l2) : Calls Tryz.prog 3 #[.slice A n0 c0,.slice A2 n2 c2] w (Aw40Post w):=by
 by_cases h60 : 60 < n2
 ·have d1 : decide ((60 : Int) < (n2 : Int)) = true:=by simp; omega
  have d2 : decide (60 < n2) = true:=by simpa using h60
  clear hg hz hz8 hl2
  go_enter Tryz.func3,Tryz.ntmps3
  go_wp2_with fail
  refine (awake40_any w).mono ?_
  rintro e w1 ⟨rfl,hk1⟩
  have hfin : ∀ k,Aw40Post w (.returned (.bool true)) (w1.drewN k):=fun k=>⟨rfl,Keep.trans hk1 (Keep.draws _ _)⟩
  have HFIN:=Lib.hid hfin
  clear hfin
  clear hk1
  go_wp2_with fail
  go_ret
  exact HFIN.out 0
 have d1 : decide ((60 : Int) < (n2 : Int)) = false:=by simp; omega
 have d2 : decide (60 < n2) = false:=by simpa using h60
 obtain ⟨i0,hi0,iz0,is0,ib0⟩:=info_of info_Choice
 have hn2l:=hl2.1
 have HG:=Lib.hid hg
 have HZ:=Lib.hid hz
 have HZ8:=Lib.hid hz8
 have HL2:=Lib.hid hl2
 have HI0:=Lib.hid hi0
 have IZ0:=Lib.hid iz0
 have IS0:=Lib.hid is0
 have IB0:=Lib.hid ib0
 have HN2L:=Lib.hid hn2l
 clear hg hz hz8 hl2 hi0 iz0 is0 ib0 hn2l
 go_enter Tryz.func3,Tryz.ntmps3
 go_wp2_with fail
 refine (awake40_any w).mono ?_
 rintro e w1 ⟨rfl,hk1⟩
 have hz1:=hk1.size
 have HK1:=Lib.hid hk1
 clear hk1
 go_wp2_with fail
 refine (scene_any w1 A n0 c0 zs (HG.out.keep HK1.out) ((HZ.out.keep HK1.out).more (fun i hi=>by have : i < w.heap.size:=hi; show i < w1.heap.size; omega)) HZ8.out).mono ?_
 rintro e w2 ⟨AC,n,cC,v,cs,AL,c,l,m,gc,r,B,rfl,hcds,hn2,hn3,hini,hsl,hl25,-,hcod,hBB,hgc1,hk2⟩
 have hz2:=hk2.size
 have hlc:=hsl.2.1
 have hlm : c ≤ 9223372036854775807:=hsl.2.2.1
 obtain ⟨nl,hnl⟩ : ∃ nl,nl = l.length:=⟨_,rfl⟩
 rw [← hnl] at hsl hl25 hlc
 rw [← hnl]
 have hk02:=Keep.trans HK1.out hk2
 have hcl:=hcds.1
 have hgc2:=hcod.lt
 have HCDS:=Lib.hid hcds
 have HINI:=Lib.hid hini
 have HSL:=Lib.hid hsl
 have HK02:=Lib.hid hk02
 have HNL:=Lib.hid hnl
 have HCL:=Lib.hid hcl
 have HCOD:=Lib.hid hcod
 have HBB:=Lib.hid hBB
 clear hcds hini hsl hk02 hnl hcl hcod hBB
 clear hk2
 go_upto_region 4 with (refine wpList_store_all rfl _ (.tmp 5) (.tmp 31) rfl w2.heap.size 27 _ [.slice AC n cC,.int .i64 1,.int .i64 v] rfl rfl (Blk.new _ _ _) rfl (by kernel_rfl) rfl ?_; intro w3 hb3 hs3)
 have hk3 : Keep w2 w3:=Keep.write (Keep.new _ _) hs3 (Nat.le_refl _)
 have hz3 : w2.heap.size < w3.heap.size:=hb3.lt
 have hcd3:=HCDS.out.keep (hk3.mono (fun i (hi : ScS w1 w2 gc i)=>hi.2.1))
 have hsl3:=HSL.out.keep (hk3.mono (fun i (hi : ScS w1 w2 gc i)=>hi.2.1))
 have hcod3:=HCOD.out.keep hk3
 have hk03:=Keep.trans HK02.out hk3
 have HB3:=Lib.hid hb3
 have HCD3:=Lib.hid hcd3
 have HSL3:=Lib.hid hsl3
 have HK03:=Lib.hid hk03
 have HCOD3:=Lib.hid hcod3
 clear hb3 hcd3 hsl3 hk03 hcod3
 clear hs3 hk3 HCDS HSL HK02 HCOD
 go_wp2_with fail
 refine (spoil_any w3 (ScS w1 w2 gc) B gc r AL nl c l HCOD3.out HSL3.out (fun i hi=>⟨by have:=hi.2.1; omega,hi.2.2⟩) (by omega)).mono ?_
 rintro e w4 ⟨As,ca,la,rfl,hla,-,ho4⟩
 have hz4:=ho4.size
 have hb4:=ho4.blk HB3.out ⟨HB3.out.lt,by omega⟩
 have hcd4 : CdsR w4 (Bw w4) AC n cC cs:=(HCD3.out.keep (ho4.mono (fun i (hi : ScS w1 w2 gc i)=>⟨by have:=hi.2.1; omega,hi.2.2⟩))).more (fun i hi=>by have:=hi.2.1; show i < w4.heap.size; omega)
 have hsl4 : Sl encCh 6 w4 (Bw w4) AL nl c l:=(HSL3.out.keep (ho4.mono (fun i (hi : ScS w1 w2 gc i)=>⟨by have:=hi.2.1; omega,hi.2.2⟩))).more (fun i hi=>by have:=hi.2.1; show i < w4.heap.size; omega)
 have hla4 : Sl encCh 6 w4 (Bw w4) As nl ca la:=hla.more (fun i hi=>hi.1)
 have hk04 : Keep w w4:=Same.trans HK03.out ho4 (fun i hi=>⟨by have:=HK03.out.size; omega,by omega⟩)
 have hl4 : Sl encCh 6 w4 (Bw w4) A2 n2 c2 l2:=(HL2.out.keep hk04).more (fun i (hi : i < w.heap.size)=>by show i < w4.heap.size; have:=hk04.size; omega)
 have HB4:=Lib.hid hb4
 have HCD4:=Lib.hid hcd4
 have HSL4:=Lib.hid hsl4
 have HLA4:=Lib.hid hla4
 have HK04:=Lib.hid hk04
 have HL4:=Lib.hid hl4
 clear hb4 hcd4 hsl4 hla4 hk04 hl4
 clear hla ho4
 go_wp2_with (at_builtin; refine wpList_append_any _ rfl (.const (.slice none 0 0)) (.tmp 38) 23 rfl w4.heap.size 57 i0 _ 6 48 Tryz.underlying23 HI0.out IZ0.out IS0.out IB0.out rfl (by omega) (.slice none 0 0) 0 [] rfl (World.ownsRow_nil _ _ _ _) _ AL nl c (l.flatMap encCh) rfl HSL4.out.2.2.2 (one_of encCh_one _) (by simp [maxLen]; omega) (by omega) (Nat.le_refl _) ?_; intro v5 w5 howz hgz hatz; have HOW5:=Lib.hid howz; have HG5:=Lib.hid hgz; clear howz hgz hatz; refine Hid.out ?_)
 refine Lib.hid ?_
 have hown5 : w5.ownsRow w4.heap.size 57 6 v5 nl (l.flatMap encCh):=by simpa using HOW5.out
 have hk5 : Keep w4 w5:=Same.append (Same.refl _ _) (World.ownsRow_nil _ w4.heap.size 57 6) HG5.out (fun i hi=>hi) (Nat.le_refl _)
 have hz5:=hk5.size
 have hl5:=chs_up HL4.out hk5
 have HOWN5:=Lib.hid hown5
 have HK5:=Lib.hid hk5
 have HL5:=Lib.hid hl5
 clear hown5 hk5 hl5
 clear HOW5 HG5
 go_wp2_with (at_builtin; refine wpList_append_any _ rfl (.tmp 39) (.tmp 40) 23 rfl w4.heap.size 57 i0 _ 6 48 Tryz.underlying23 HI0.out IZ0.out IS0.out IB0.out rfl (by omega) v5 nl (l.flatMap encCh) rfl HOWN5.out _ A2 n2 c2 (l2.flatMap encCh) rfl HL5.out.2.2.2 (one_of encCh_one _) (by simp [maxLen]; omega) (by omega) hz5 ?_; intro v6 w6 howz hgz hatz; have HOW6:=Lib.hid howz; have HG6:=Lib.hid hgz; clear howz hgz hatz; refine Hid.out ?_)
 refine Lib.hid ?_
 have hlen : (l ++ l2).length = nl + n2:=by rw [List.length_append,← HNL.out,← HN2L.out]
 have hown6 : w6.ownsRow w4.heap.size 57 6 v6 (l ++ l2).length ((l ++ l2).flatMap encCh):=by rw [hlen,List.flatMap_append]; exact HOW6.out
 have hk6 : Keep w4 w6:=Same.append HK5.out HOWN5.out HG6.out (fun i hi=>hi) hz5
 have hz6:=hk6.size
 obtain ⟨A6,c6,rfl,hsl6⟩:=Sl.of_own (enc:=encCh) hown6
 rw [hlen] at hsl6 ⊢
 have hsl6 : Sl encCh 6 w6 (Bw w6) A6 (nl + n2) c6 (l ++ l2):=hsl6.more (fun i hi=>hi.2)
 have HK6:=Lib.hid hk6
 have HSL6:=Lib.hid hsl6
 clear hk6 hsl6
 clear hown6 HOW6 HG6 HOWN5 HK5 HL5 hlen
 go_wp2_with (refine wpList_buildX rfl 32 23 4 _ rfl Tryz.underlying32 _ [(0,.slice AL nl c),(1,.slice As nl ca),(2,.slice A6 (nl + n2) c6),(3,.slice A2 n2 c2)] rfl (built_chs4 _ _ _ _ _ _ _ _ _ _ _ _) ?_; intro w7 hb7 hk7 hz7; refine Hid.out ?_)
 refine Lib.hid ?_
 have hk47:=Keep.trans HK6.out hk7
 have hfour : FourL w7 w6.heap.size:=fun k hk=>by
  have hc:=hb7.cell k
  match k,hk with
  | 0,_=>exact ⟨AL,nl,c,l,by rw [hc]; rfl,chs_up HSL4.out hk47,by omega⟩
  | 1,_=>exact ⟨As,nl,ca,la,by rw [hc]; rfl,chs_up HLA4.out hk47,by omega⟩
  | 2,_=>exact ⟨A6,nl + n2,c6,l ++ l2,by rw [hc]; rfl,chs_up HSL6.out hk7,by omega⟩
  | 3,_=>exact ⟨A2,n2,c2,l2,by rw [hc]; rfl,chs_up HL4.out hk47,by omega⟩
 have hlt7:=hb7.lt
 have hbc7:=hk47.blk HB4.out HB4.out.lt
 have hcd7:=cds_up HCD4.out hk47
 have hk07:=Keep.trans HK04.out hk47
 have HFOUR:=Lib.hid hfour
 have HBC7:=Lib.hid hbc7
 have HCD7:=Lib.hid hcd7
 have HK07:=Lib.hid hk07
 clear hfour hbc7 hcd7 hk07
 clear hb7 hk7 hk47 HB4 HCD4 HSL4 HLA4 HL4 HSL6
 obtain ⟨gl,hgl⟩ : ∃ gl,gl = w6.heap.size:=⟨_,rfl⟩
 rw [← hgl] at hlt7
 have HFOUR : Hid (FourL w7 gl):=hgl ▸ HFOUR
 rw [← hgl]
 clear hgl
 go_wp2_with fail
 go_loopw [9] (fun i wr=>PyRel w7 i wr) (fun i _=>4 - (intOf i).toNat)
 case atStart=>exact ⟨0,rfl,by omega,Same.refl _ _⟩
 case round=>
  obtain ⟨k,rfl,hk4,hkr⟩:=hrel
  have hzr:=hkr.size
  by_cases hk : k < 4
  case neg=>
   have t0 : decide (k < 4) = false:=by simpa using hk
   have t0' : decide ((k : Int) < 4) = false:=by simp; omega
   have hfin : ∀ j,Aw40Post w (.returned (.bool true)) (wr.drewN j):=fun j=>⟨rfl,Keep.trans (Keep.trans HK07.out hkr) (Keep.draws _ _)⟩
   have HFIN:=Lib.hid hfin
   clear hfin
   clear hkr
   go_wp2_with fail
   go_ret
   exact HFIN.out 0
  have t0 : decide (k < 4) = true:=by simpa using hk
  have t0' : decide ((k : Int) < 4) = true:=by simp; omega
  have t1 : (0 : Int) ≤ k:=by omega
  have t2 : (k : Int) < 4:=by omega
  obtain ⟨A8,n8,c8,l8,hc8,hs8,hn8⟩:=HFOUR.out k hk
  have hl8 : l8.length ≤ 1000:=by have:=hs8.1; omega
  obtain ⟨q1,q2,q3⟩:=of_run (cs:=cs) (l:=l8) HINI.out hl8
  obtain ⟨R,hR⟩ : ∃ R,R = runI cs l8:=⟨_,rfl⟩
  obtain ⟨ns,hns⟩ : ∃ ns,ns = (ssOf R).length:=⟨_,rfl⟩
  obtain ⟨nw,hnw⟩ : ∃ nw,nw = (wsOf R).length:=⟨_,rfl⟩
  obtain ⟨kk,hkk⟩ : ∃ kk,kk = kOf R:=⟨_,rfl⟩
  rw [← hR] at q1 q2 q3
  rw [← hns] at q1
  rw [← hnw] at q2
  have hP : ∀ u,Keep w7 u → Calls Tryz.prog 12 #[.agg #[.slice AC n cC,.int .i64 1,.int .i64 v],.slice A8 n8 c8] u (fun e w'=>Keep u w' ∧ ∃ (A : Option Addr) (c : Nat),e = .returned (.tuple #[.slice A ns c,.int .i64 kk]) ∧ SlR w' (Bw w') 4 (StR w' (Bw w')) A ns c (ssOf R)):=fun u hu=>by
   refine (iplay_any u (Bw u) AC A8 n cC n8 c8 1 v cs l8 (fun i hi=>hi) (cds_up HCD7.out hu) HINI.out (chs_up hs8 hu) (by omega) hn8).mono ?_
   intro e w' h
   rw [hns,hkk,hR]
   exact play_to h
  have hQ : ∀ u,Keep w7 u → Calls Tryz.prog 13 #[.agg #[.slice AC n cC,.int .i64 1,.int .i64 v],.slice A8 n8 c8] u (fun e w'=>Keep u w' ∧ ∃ (A : Option Addr) (c : Nat),e = .returned (.tuple #[.slice A ns c,.int .i64 kk]) ∧ SlR w' (Bw w') 4 (StR w' (Bw w')) A ns c (ssOf R)):=fun u hu=>by
   refine (rfplay_any u (Bw u) AC A8 n cC n8 c8 1 v cs l8 (fun i hi=>hi) (cds_up HCD7.out hu) HINI.out (chs_up hs8 hu) (by omega) hn8).mono ?_
   intro e w' h
   rw [hns,hkk,hR]
   exact play_to h
  have hU : ∀ u,Keep w7 u → Calls Tryz.prog 14 #[.agg #[.slice AC n cC,.int .i64 1,.int .i64 v],.slice A8 n8 c8] u (fun e w'=>Keep u w' ∧ ∃ (A : Option Addr) (c : Nat),e = .returned (.tuple #[.slice A nw c,.int .i64 kk]) ∧ Sl encSh 4 w' (Bw w') A nw c (wsOf R)):=fun u hu=>by
   refine (iworld_any u (Bw u) AC A8 n cC n8 c8 1 v cs l8 (fun i hi=>hi) (cds_up HCD7.out hu) HINI.out (chs_up hs8 hu) (by omega) hn8).mono ?_
   intro e w' h
   rw [hnw,hkk,hR]
   exact world_to h
  have hV : ∀ u,Keep w7 u → Calls Tryz.prog 15 #[.agg #[.slice AC n cC,.int .i64 1,.int .i64 v],.slice A8 n8 c8] u (fun e w'=>Keep u w' ∧ ∃ (A : Option Addr) (c : Nat),e = .returned (.tuple #[.slice A nw c,.int .i64 kk]) ∧ Sl encSh 4 w' (Bw w') A nw c (wsOf R)):=fun u hu=>by
   refine (rfworld_any u (Bw u) AC A8 n cC n8 c8 1 v cs l8 (fun i hi=>hi) (cds_up HCD7.out hu) HINI.out (chs_up hs8 hu) (by omega) hn8).mono ?_
   intro e w' h
   rw [hnw,hkk,hR]
   exact world_to h
  have c0 : ∀ wx,Keep w7 wx → wx.cell? ⟨gl,k,none⟩ = some (.slice A8 n8 c8):=fun wx hx=>(hx.cell (p:=⟨gl,k,none⟩) hlt7).trans hc8
  have HP:=Lib.hid hP
  have HQ:=Lib.hid hQ
  have HU:=Lib.hid hU
  have HV:=Lib.hid hV
  have Q3:=Lib.hid q3
  have HKR:=Lib.hid hkr
  clear hP hQ hU hV q3 hkr
  clear hc8 hs8 hl8 hR hns hnw hkk
  go_upto_region 8 with fail
  refine wp_region_L 99 (fun _=>True) (fun wx=>Keep w7 wx) (by kernel_rfl) trivial (Same.drew HKR.out) (fun hA hB=>?_)
  generalize hu0 : wr.drew = u0 at hB ⊢
  clear hu0
  refine wpL_takeB (i:=0) rfl (by kernel_rfl) (by kernel_rfl) (by kernel_rfl) (by decide) (fun _ _ _ h=>h) (yieldsIf_blk (by rfl) _ _ rfl w2.heap.size 0 27 _ [.slice AC n cC,.int .i64 1,.int .i64 v] _ rfl (fun wx hx=>hx.blk HBC7.out HBC7.out.lt) (fun j u hu=>by simpa using hu) Tryz.underlying27 rfl (by kernel_rfl)) (SAB.both hA hB) ?_
  try simp only [Act.put,List.setIfInBounds_toArray,List.set_cons_zero,List.set_cons_succ]
  refine wpL_takeB (i:=1) (v:=?_) rfl (by kernel_rfl) (by kernel_rfl) (by kernel_rfl) (by decide) (fun _ _ _ h=>h) (Or.inl ⟨by rfl,?_⟩) (SAB.both hA hB) ?_
  rotate_left
  ·intro wx hBx
   (try dsimp only at hBx)
   go_simp
   try with_reducible rfl
  try simp only [Act.put,List.setIfInBounds_toArray,List.set_cons_zero,List.set_cons_succ]
  refine wpL_takeB (i:=2) (v:=?_) rfl (by kernel_rfl) (by kernel_rfl) (by kernel_rfl) (by decide) (fun _ _ _ h=>h) (Or.inl ⟨by rfl,?_⟩) (SAB.both hA hB) ?_
  rotate_left
  ·intro wx hBx
   (try dsimp only at hBx)
   go_simp
   try with_reducible rfl
  try simp only [Act.put,List.setIfInBounds_toArray,List.set_cons_zero,List.set_cons_succ]
  refine wpL_takeB (i:=3) (v:=?_) rfl (by kernel_rfl) (by kernel_rfl) (by kernel_rfl) (by decide) (fun _ _ _ h=>h) (Or.inl ⟨by rfl,?_⟩) (SAB.both hA hB) ?_
  rotate_left
  ·intro wx hBx
   (try dsimp only at hBx)
   go_simp
   try with_reducible rfl
  try simp only [Act.put,List.setIfInBounds_toArray,List.set_cons_zero,List.set_cons_succ]
  refine wpL_takeB (i:=4) (v:=?_) rfl (by kernel_rfl) (by kernel_rfl) (by kernel_rfl) (by decide) (fun _ _ _ h=>h) (Or.inl ⟨by rfl,?_⟩) (SAB.both hA hB) ?_
  rotate_left
  ·intro wx hBx
   (try dsimp only at hBx)
   go_simp
   try with_reducible rfl
  try simp only [Act.put,List.setIfInBounds_toArray,List.set_cons_zero,List.set_cons_succ]
  refine wpL_one (i:=5) (by kernel_rfl) (StepL.mk rfl (fun K hK=>?_))
  go_simp
  refine (HP.out u0 hB).mono ?_
  rintro e wa ⟨hk9,Aa,ca',rfl,hsx⟩
  have hB9:=Keep.trans hB hk9
  refine hK.out _ _ (SAB.both trivial hB9) (fun hSS=>?_)
  clear hK K hA hB
  have hB:=hSS.2
  have hA:=hSS.1 (by kernel_rfl)
  (try dsimp only at hB); (try dsimp only at hA); clear hSS
  try simp only [Act.put,List.setIfInBounds_toArray,List.set_cons_zero,List.set_cons_succ]
  refine wpL_takeB (i:=6) (v:=?_) rfl (by kernel_rfl) (by kernel_rfl) (by kernel_rfl) (by decide) (fun _ _ _ h=>h) (Or.inl ⟨by rfl,?_⟩) (SAB.both hA hB) ?_
  rotate_left
  ·intro wx hBx
   (try dsimp only at hBx)
   go_simp
   try with_reducible rfl
  try simp only [Act.put,List.setIfInBounds_toArray,List.set_cons_zero,List.set_cons_succ]
  refine wpL_takeB (i:=7) (v:=?_) rfl (by kernel_rfl) (by kernel_rfl) (by kernel_rfl) (by decide) (fun _ _ _ h=>h) (Or.inl ⟨by rfl,?_⟩) (SAB.both hA hB) ?_
  rotate_left
  ·intro wx hBx
   (try dsimp only at hBx)
   go_simp
   try with_reducible rfl
  try simp only [Act.put,List.setIfInBounds_toArray,List.set_cons_zero,List.set_cons_succ]
  refine wpL_takeB (i:=8) (v:=?_) rfl (by kernel_rfl) (by kernel_rfl) (by kernel_rfl) (by decide) (fun _ _ _ h=>h) (Or.inl ⟨by rfl,?_⟩) (SAB.both hA hB) ?_
  rotate_left
  ·intro wx hBx
   (try dsimp only at hBx)
   go_simp
   try with_reducible rfl
  try simp only [Act.put,List.setIfInBounds_toArray,List.set_cons_zero,List.set_cons_succ]
  refine wpL_takeB (i:=9) (v:=?_) rfl (by kernel_rfl) (by kernel_rfl) (by kernel_rfl) (by decide) (fun _ _ _ h=>h) (Or.inl ⟨by rfl,?_⟩) (SAB.both hA hB) ?_
  rotate_left
  ·intro wx hBx
   (try dsimp only at hBx)
   go_simp
   try with_reducible rfl
  try simp only [Act.put,List.setIfInBounds_toArray,List.set_cons_zero,List.set_cons_succ]
  refine wpL_takeB (i:=10) (v:=?_) rfl (by kernel_rfl) (by kernel_rfl) (by kernel_rfl) (by decide) (fun _ _ _ h=>h) (Or.inl ⟨by rfl,?_⟩) (SAB.both hA hB) ?_
  rotate_left
  ·intro wx hBx
   (try dsimp only at hBx)
   go_simp
   try with_reducible rfl
  try simp only [Act.put,List.setIfInBounds_toArray,List.set_cons_zero,List.set_cons_succ]
  refine wpL_done (by kernel_rfl) ?_
  have hzwa:=hB9.size
  have HKA:=Lib.hid hB9
  have HSA:=Lib.hid hsx
  clear hB9 hk9 hsx hB hA
  go_upto_region 9 with fail
  refine wp_region_L 99 (fun _=>True) (fun wx=>Keep w7 wx) (by kernel_rfl) trivial (Same.drew HKA.out) (fun hA hB=>?_)
  have hku : Keep wa wa.drew:=Same.drew (Same.refl _ _)
  generalize hu0 : wa.drew = u0 at hB hku ⊢
  clear hu0
  refine wpL_takeB (i:=0) rfl (by kernel_rfl) (by kernel_rfl) (by kernel_rfl) (by decide) (fun _ _ _ h=>h) (yieldsIf_blk (by rfl) _ _ rfl w2.heap.size 0 27 _ [.slice AC n cC,.int .i64 1,.int .i64 v] _ rfl (fun wx hx=>hx.blk HBC7.out HBC7.out.lt) (fun j u hu=>by simpa using hu) Tryz.underlying27 rfl (by kernel_rfl)) (SAB.both hA hB) ?_
  try simp only [Act.put,List.setIfInBounds_toArray,List.set_cons_zero,List.set_cons_succ]
  refine wpL_takeB (i:=1) (v:=?_) rfl (by kernel_rfl) (by kernel_rfl) (by kernel_rfl) (by decide) (fun _ _ _ h=>h) (Or.inl ⟨by rfl,?_⟩) (SAB.both hA hB) ?_
  rotate_left
  ·intro wx hBx
   (try dsimp only at hBx)
   go_simp
   try with_reducible rfl
  try simp only [Act.put,List.setIfInBounds_toArray,List.set_cons_zero,List.set_cons_succ]
  refine wpL_takeB (i:=2) (v:=?_) rfl (by kernel_rfl) (by kernel_rfl) (by kernel_rfl) (by decide) (fun _ _ _ h=>h) (Or.inl ⟨by rfl,?_⟩) (SAB.both hA hB) ?_
  rotate_left
  ·intro wx hBx
   (try dsimp only at hBx)
   go_simp
   try with_reducible rfl
  try simp only [Act.put,List.setIfInBounds_toArray,List.set_cons_zero,List.set_cons_succ]
  refine wpL_takeB (i:=3) (v:=?_) rfl (by kernel_rfl) (by kernel_rfl) (by kernel_rfl) (by decide) (fun _ _ _ h=>h) (Or.inl ⟨by rfl,?_⟩) (SAB.both hA hB) ?_
  rotate_left
  ·intro wx hBx
   (try dsimp only at hBx)
   go_simp
   try with_reducible rfl
  try simp only [Act.put,List.setIfInBounds_toArray,List.set_cons_zero,List.set_cons_succ]
  refine wpL_takeB (i:=4) (v:=?_) rfl (by kernel_rfl) (by kernel_rfl) (by kernel_rfl) (by decide) (fun _ _ _ h=>h) (Or.inl ⟨by rfl,?_⟩) (SAB.both hA hB) ?_
  rotate_left
  ·intro wx hBx
   (try dsimp only at hBx)
   go_simp
   try with_reducible rfl
  try simp only [Act.put,List.setIfInBounds_toArray,List.set_cons_zero,List.set_cons_succ]
  refine wpL_one (i:=5) (by kernel_rfl) (StepL.mk rfl (fun K hK=>?_))
  go_simp
  refine (HQ.out u0 hB).mono ?_
  rintro e wb ⟨hk9,Ab,cb',rfl,hsx⟩
  have hB9:=Keep.trans hB hk9
  refine hK.out _ _ (SAB.both trivial hB9) (fun hSS=>?_)
  clear hK K hA hB
  have hB:=hSS.2
  have hA:=hSS.1 (by kernel_rfl)
  (try dsimp only at hB); (try dsimp only at hA); clear hSS
  try simp only [Act.put,List.setIfInBounds_toArray,List.set_cons_zero,List.set_cons_succ]
  refine wpL_takeB (i:=6) (v:=?_) rfl (by kernel_rfl) (by kernel_rfl) (by kernel_rfl) (by decide) (fun _ _ _ h=>h) (Or.inl ⟨by rfl,?_⟩) (SAB.both hA hB) ?_
  rotate_left
  ·intro wx hBx
   (try dsimp only at hBx)
   go_simp
   try with_reducible rfl
  try simp only [Act.put,List.setIfInBounds_toArray,List.set_cons_zero,List.set_cons_succ]
  refine wpL_takeB (i:=7) (v:=?_) rfl (by kernel_rfl) (by kernel_rfl) (by kernel_rfl) (by decide) (fun _ _ _ h=>h) (Or.inl ⟨by rfl,?_⟩) (SAB.both hA hB) ?_
  rotate_left
  ·intro wx hBx
   (try dsimp only at hBx)
   go_simp
   try with_reducible rfl
  try simp only [Act.put,List.setIfInBounds_toArray,List.set_cons_zero,List.set_cons_succ]
  refine wpL_takeB (i:=8) (v:=?_) rfl (by kernel_rfl) (by kernel_rfl) (by kernel_rfl) (by decide) (fun _ _ _ h=>h) (Or.inl ⟨by rfl,?_⟩) (SAB.both hA hB) ?_
  rotate_left
  ·intro wx hBx
   (try dsimp only at hBx)
   go_simp
   try with_reducible rfl
  try simp only [Act.put,List.setIfInBounds_toArray,List.set_cons_zero,List.set_cons_succ]
  refine wpL_takeB (i:=9) (v:=?_) rfl (by kernel_rfl) (by kernel_rfl) (by kernel_rfl) (by decide) (fun _ _ _ h=>h) (Or.inl ⟨by rfl,?_⟩) (SAB.both hA hB) ?_
  rotate_left
  ·intro wx hBx
   (try dsimp only at hBx)
   go_simp
   try with_reducible rfl
  try simp only [Act.put,List.setIfInBounds_toArray,List.set_cons_zero,List.set_cons_succ]
  refine wpL_takeB (i:=10) (v:=?_) rfl (by kernel_rfl) (by kernel_rfl) (by kernel_rfl) (by decide) (fun _ _ _ h=>h) (Or.inl ⟨by rfl,?_⟩) (SAB.both hA hB) ?_
  rotate_left
  ·intro wx hBx
   (try dsimp only at hBx)
   go_simp
   try with_reducible rfl
  try simp only [Act.put,List.setIfInBounds_toArray,List.set_cons_zero,List.set_cons_succ]
  refine wpL_done (by kernel_rfl) ?_
  have hzwb:=hB9.size
  have HKB:=Lib.hid hB9
  have HSB:=Lib.hid hsx
  have HK9B:=Lib.hid (show Keep wa wb from Keep.trans hku hk9)
  clear hB9 hk9 hsx hB hA
  go_upto_region 10 with fail
  refine wp_region_L 99 (fun _=>True) (fun wx=>Keep w7 wx) (by kernel_rfl) trivial (Same.drew HKB.out) (fun hA hB=>?_)
  have hku : Keep wb wb.drew:=Same.drew (Same.refl _ _)
  generalize hu0 : wb.drew = u0 at hB hku ⊢
  clear hu0
  refine wpL_takeB (i:=0) rfl (by kernel_rfl) (by kernel_rfl) (by kernel_rfl) (by decide) (fun _ _ _ h=>h) (yieldsIf_blk (by rfl) _ _ rfl w2.heap.size 0 27 _ [.slice AC n cC,.int .i64 1,.int .i64 v] _ rfl (fun wx hx=>hx.blk HBC7.out HBC7.out.lt) (fun j u hu=>by simpa using hu) Tryz.underlying27 rfl (by kernel_rfl)) (SAB.both hA hB) ?_
  try simp only [Act.put,List.setIfInBounds_toArray,List.set_cons_zero,List.set_cons_succ]
  refine wpL_takeB (i:=1) (v:=?_) rfl (by kernel_rfl) (by kernel_rfl) (by kernel_rfl) (by decide) (fun _ _ _ h=>h) (Or.inl ⟨by rfl,?_⟩) (SAB.both hA hB) ?_
  rotate_left
  ·intro wx hBx
   (try dsimp only at hBx)
   go_simp
   try with_reducible rfl
  try simp only [Act.put,List.setIfInBounds_toArray,List.set_cons_zero,List.set_cons_succ]
  refine wpL_takeB (i:=2) (v:=?_) rfl (by kernel_rfl) (by kernel_rfl) (by kernel_rfl) (by decide) (fun _ _ _ h=>h) (Or.inl ⟨by rfl,?_⟩) (SAB.both hA hB) ?_
  rotate_left
  ·intro wx hBx
   (try dsimp only at hBx)
   go_simp
   try with_reducible rfl
  try simp only [Act.put,List.setIfInBounds_toArray,List.set_cons_zero,List.set_cons_succ]
  refine wpL_takeB (i:=3) (v:=?_) rfl (by kernel_rfl) (by kernel_rfl) (by kernel_rfl) (by decide) (fun _ _ _ h=>h) (Or.inl ⟨by rfl,?_⟩) (SAB.both hA hB) ?_
  rotate_left
  ·intro wx hBx
   (try dsimp only at hBx)
   go_simp
   try with_reducible rfl
  try simp only [Act.put,List.setIfInBounds_toArray,List.set_cons_zero,List.set_cons_succ]
  refine wpL_takeB (i:=4) (v:=?_) rfl (by kernel_rfl) (by kernel_rfl) (by kernel_rfl) (by decide) (fun _ _ _ h=>h) (Or.inl ⟨by rfl,?_⟩) (SAB.both hA hB) ?_
  rotate_left
  ·intro wx hBx
   (try dsimp only at hBx)
   go_simp
   try with_reducible rfl
  try simp only [Act.put,List.setIfInBounds_toArray,List.set_cons_zero,List.set_cons_succ]
  refine wpL_one (i:=5) (by kernel_rfl) (StepL.mk rfl (fun K hK=>?_))
  go_simp
  refine (HU.out u0 hB).mono ?_
  rintro e wc ⟨hk9,Ac,cc',rfl,hsx⟩
  have hB9:=Keep.trans hB hk9
  refine hK.out _ _ (SAB.both trivial hB9) (fun hSS=>?_)
  clear hK K hA hB
  have hB:=hSS.2
  have hA:=hSS.1 (by kernel_rfl)
  (try dsimp only at hB); (try dsimp only at hA); clear hSS
  try simp only [Act.put,List.setIfInBounds_toArray,List.set_cons_zero,List.set_cons_succ]
  refine wpL_takeB (i:=6) (v:=?_) rfl (by kernel_rfl) (by kernel_rfl) (by kernel_rfl) (by decide) (fun _ _ _ h=>h) (Or.inl ⟨by rfl,?_⟩) (SAB.both hA hB) ?_
  rotate_left
  ·intro wx hBx
   (try dsimp only at hBx)
   go_simp
   try with_reducible rfl
  try simp only [Act.put,List.setIfInBounds_toArray,List.set_cons_zero,List.set_cons_succ]
  refine wpL_takeB (i:=7) (v:=?_) rfl (by kernel_rfl) (by kernel_rfl) (by kernel_rfl) (by decide) (fun _ _ _ h=>h) (Or.inl ⟨by rfl,?_⟩) (SAB.both hA hB) ?_
  rotate_left
  ·intro wx hBx
   (try dsimp only at hBx)
   go_simp
   try with_reducible rfl
  try simp only [Act.put,List.setIfInBounds_toArray,List.set_cons_zero,List.set_cons_succ]
  refine wpL_takeB (i:=8) (v:=?_) rfl (by kernel_rfl) (by kernel_rfl) (by kernel_rfl) (by decide) (fun _ _ _ h=>h) (Or.inl ⟨by rfl,?_⟩) (SAB.both hA hB) ?_
  rotate_left
  ·intro wx hBx
   (try dsimp only at hBx)
   go_simp
   try with_reducible rfl
  try simp only [Act.put,List.setIfInBounds_toArray,List.set_cons_zero,List.set_cons_succ]
  refine wpL_takeB (i:=9) (v:=?_) rfl (by kernel_rfl) (by kernel_rfl) (by kernel_rfl) (by decide) (fun _ _ _ h=>h) (Or.inl ⟨by rfl,?_⟩) (SAB.both hA hB) ?_
  rotate_left
  ·intro wx hBx
   (try dsimp only at hBx)
   go_simp
   try with_reducible rfl
  try simp only [Act.put,List.setIfInBounds_toArray,List.set_cons_zero,List.set_cons_succ]
  refine wpL_takeB (i:=10) (v:=?_) rfl (by kernel_rfl) (by kernel_rfl) (by kernel_rfl) (by decide) (fun _ _ _ h=>h) (Or.inl ⟨by rfl,?_⟩) (SAB.both hA hB) ?_
  rotate_left
  ·intro wx hBx
   (try dsimp only at hBx)
   go_simp
   try with_reducible rfl
  try simp only [Act.put,List.setIfInBounds_toArray,List.set_cons_zero,List.set_cons_succ]
  refine wpL_done (by kernel_rfl) ?_
  have hzwc:=hB9.size
  have HKC:=Lib.hid hB9
  have HSC:=Lib.hid hsx
  have HK9C:=Lib.hid (show Keep wb wc from Keep.trans hku hk9)
  clear hB9 hk9 hsx hB hA
  go_upto_region 11 with fail
  refine wp_region_L 99 (fun _=>True) (fun wx=>Keep w7 wx) (by kernel_rfl) trivial (Same.drew HKC.out) (fun hA hB=>?_)
  have hku : Keep wc wc.drew:=Same.drew (Same.refl _ _)
  generalize hu0 : wc.drew = u0 at hB hku ⊢
  clear hu0
  refine wpL_takeB (i:=0) rfl (by kernel_rfl) (by kernel_rfl) (by kernel_rfl) (by decide) (fun _ _ _ h=>h) (yieldsIf_blk (by rfl) _ _ rfl w2.heap.size 0 27 _ [.slice AC n cC,.int .i64 1,.int .i64 v] _ rfl (fun wx hx=>hx.blk HBC7.out HBC7.out.lt) (fun j u hu=>by simpa using hu) Tryz.underlying27 rfl (by kernel_rfl)) (SAB.both hA hB) ?_
  try simp only [Act.put,List.setIfInBounds_toArray,List.set_cons_zero,List.set_cons_succ]
  refine wpL_takeB (i:=1) (v:=?_) rfl (by kernel_rfl) (by kernel_rfl) (by kernel_rfl) (by decide) (fun _ _ _ h=>h) (Or.inl ⟨by rfl,?_⟩) (SAB.both hA hB) ?_
  rotate_left
  ·intro wx hBx
   (try dsimp only at hBx)
   go_simp
   try with_reducible rfl
  try simp only [Act.put,List.setIfInBounds_toArray,List.set_cons_zero,List.set_cons_succ]
  refine wpL_takeB (i:=2) (v:=?_) rfl (by kernel_rfl) (by kernel_rfl) (by kernel_rfl) (by decide) (fun _ _ _ h=>h) (Or.inl ⟨by rfl,?_⟩) (SAB.both hA hB) ?_
  rotate_left
  ·intro wx hBx
   (try dsimp only at hBx)
   go_simp
   try with_reducible rfl
  try simp only [Act.put,List.setIfInBounds_toArray,List.set_cons_zero,List.set_cons_succ]
  refine wpL_takeB (i:=3) (v:=?_) rfl (by kernel_rfl) (by kernel_rfl) (by kernel_rfl) (by decide) (fun _ _ _ h=>h) (Or.inl ⟨by rfl,?_⟩) (SAB.both hA hB) ?_
  rotate_left
  ·intro wx hBx
   (try dsimp only at hBx)
   go_simp
   try with_reducible rfl
  try simp only [Act.put,List.setIfInBounds_toArray,List.set_cons_zero,List.set_cons_succ]
  refine wpL_takeB (i:=4) (v:=?_) rfl (by kernel_rfl) (by kernel_rfl) (by kernel_rfl) (by decide) (fun _ _ _ h=>h) (Or.inl ⟨by rfl,?_⟩) (SAB.both hA hB) ?_
  rotate_left
  ·intro wx hBx
   (try dsimp only at hBx)
   go_simp
   try with_reducible rfl
  try simp only [Act.put,List.setIfInBounds_toArray,List.set_cons_zero,List.set_cons_succ]
  refine wpL_one (i:=5) (by kernel_rfl) (StepL.mk rfl (fun K hK=>?_))
  go_simp
  refine (HV.out u0 hB).mono ?_
  rintro e wd ⟨hk9,Ad,cd',rfl,hsx⟩
  have hB9:=Keep.trans hB hk9
  refine hK.out _ _ (SAB.both trivial hB9) (fun hSS=>?_)
  clear hK K hA hB
  have hB:=hSS.2
  have hA:=hSS.1 (by kernel_rfl)
  (try dsimp only at hB); (try dsimp only at hA); clear hSS
  try simp only [Act.put,List.setIfInBounds_toArray,List.set_cons_zero,List.set_cons_succ]
  refine wpL_takeB (i:=6) (v:=?_) rfl (by kernel_rfl) (by kernel_rfl) (by kernel_rfl) (by decide) (fun _ _ _ h=>h) (Or.inl ⟨by rfl,?_⟩) (SAB.both hA hB) ?_
  rotate_left
  ·intro wx hBx
   (try dsimp only at hBx)
   go_simp
   try with_reducible rfl
  try simp only [Act.put,List.setIfInBounds_toArray,List.set_cons_zero,List.set_cons_succ]
  refine wpL_takeB (i:=7) (v:=?_) rfl (by kernel_rfl) (by kernel_rfl) (by kernel_rfl) (by decide) (fun _ _ _ h=>h) (Or.inl ⟨by rfl,?_⟩) (SAB.both hA hB) ?_
  rotate_left
  ·intro wx hBx
   (try dsimp only at hBx)
   go_simp
   try with_reducible rfl
  try simp only [Act.put,List.setIfInBounds_toArray,List.set_cons_zero,List.set_cons_succ]
  refine wpL_takeB (i:=8) (v:=?_) rfl (by kernel_rfl) (by kernel_rfl) (by kernel_rfl) (by decide) (fun _ _ _ h=>h) (Or.inl ⟨by rfl,?_⟩) (SAB.both hA hB) ?_
  rotate_left
  ·intro wx hBx
   (try dsimp only at hBx)
   go_simp
   try with_reducible rfl
  try simp only [Act.put,List.setIfInBounds_toArray,List.set_cons_zero,List.set_cons_succ]
  refine wpL_takeB (i:=9) (v:=?_) rfl (by kernel_rfl) (by kernel_rfl) (by kernel_rfl) (by decide) (fun _ _ _ h=>h) (Or.inl ⟨by rfl,?_⟩) (SAB.both hA hB) ?_
  rotate_left
  ·intro wx hBx
   (try dsimp only at hBx)
   go_simp
   try with_reducible rfl
  try simp only [Act.put,List.setIfInBounds_toArray,List.set_cons_zero,List.set_cons_succ]
  refine wpL_takeB (i:=10) (v:=?_) rfl (by kernel_rfl) (by kernel_rfl) (by kernel_rfl) (by decide) (fun _ _ _ h=>h) (Or.inl ⟨by rfl,?_⟩) (SAB.both hA hB) ?_
  rotate_left
  ·intro wx hBx
   (try dsimp only at hBx)
   go_simp
   try with_reducible rfl
  try simp only [Act.put,List.setIfInBounds_toArray,List.set_cons_zero,List.set_cons_succ]
  refine wpL_done (by kernel_rfl) ?_
  have hzwd:=hB9.size
  have HKD:=Lib.hid hB9
  have HSD:=Lib.hid hsx
  have HK9D:=Lib.hid (show Keep wc wd from Keep.trans hku hk9)
  clear hB9 hk9 hsx hB hA
  -- the comparison
  have e1 : (kk != kk) = false:=by simp
  have hsa:=HSA.out
  have hsame:=rfsame_any wd (Bw wd) Aa Ab ns ns ca' cb' (ssOf R) (ssOf R) (fun i hi=>hi) (sts_up HSA.out (Keep.trans (Keep.trans HK9B.out HK9C.out) HK9D.out)) (sts_up HSB.out (Keep.trans HK9C.out HK9D.out)) (by omega) (by omega) Q3.out Q3.out
  have hws : ∀ u,Keep wd u → Calls Tryz.prog 17 #[.slice Ac nw cc',.slice Ad nw cd'] u (SameIs (wsOf R = wsOf R) u):=fun u hu=>shsame_any u (Bw u) (Bw u) Ac Ad nw nw cc' cd' (wsOf R) (wsOf R) (chs_up HSC.out (Keep.trans HK9D.out hu)) (chs_up HSD.out hu) (by omega) (by omega)
  have hkf:=HKD.out
  have HSAME:=Lib.hid hsame
  have HWS:=Lib.hid hws
  have HKF:=Lib.hid hkf
  clear hsame hws hkf
  clear hsa c0
  go_wp2_with fail
  refine HSAME.out.mono ?_
  rintro e w20 ⟨bb,hbb,rfl,hk20⟩
  have hb : bb = true:=hbb.2 (by first | rfl | trivial)
  subst hb
  have HK20:=Lib.hid hk20
  clear hk20
  clear hbb
  go_wp2_with fail
  refine (HWS.out w20 HK20.out).mono ?_
  rintro e w21 ⟨bb,hbb,rfl,kd,rfl⟩
  have hb : bb = true:=hbb.2 (by first | rfl | trivial)
  subst hb
  have hfin : ∀ j,PyRel w7 (.int .i64 ((k : Int) + 1)) ((w20.drewN kd).drewN j):=fun j=>⟨k + 1,by simp,by omega,Keep.trans (Keep.trans (Keep.trans HKF.out HK20.out) (Keep.draws _ _)) (Keep.draws _ _)⟩
  have HFIN:=Lib.hid hfin
  clear hfin
  clear hbb
  go_wp2_with fail
  go_roundw
  case rel=>exact HFIN.out 0
  case measure=>simp [intOf]; omega
end Go.Proofs.YtipegaojiokppaaGreatDoor
