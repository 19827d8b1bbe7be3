import Derived.Test.YtipegaojiokppaaGreatDoorRMach2
set_option linter.unusedVariables false
set_option linter.unusedSimpArgs false
set_option maxRecDepth 100000
namespace Go.Proofs.YtipegaojiokppaaGreatDoor
open Go.RowKit Go.Proofs
theorem RMach.put {w : World} {F : Nat → Prop} {g : Nat} {v : EnvS} {st : Ms} (hm : RMach w F g v st) {j : Nat} (hj : j < st.cells.length) (x : Int) :
  ∃ (gb cap : Nat) (cur : Array Value),w.cell? ⟨g,0,none⟩ = some (.slice (some ⟨gb,0,none⟩) st.cells.length cap) ∧ Blk w gb 3 cur ∧ j < cur.size ∧ ¬ F gb ∧ gb ≠ g ∧ st.cells.length ≤ cap ∧ cap ≤ 9223372036854775807 ∧
   ∀ w2 w',Keep w w2 → Blk w' gb 3 (cur.setIfInBounds j (.int .i64 x)) → Same (· ≠ gb) w2 w' → RMach w' F g v { st with cells:=st.cells.set j x } ∧ Same F w w':=by
 obtain ⟨C,E,hb,hc,hE,h1,h2,h3,h4,h5,h6,h7⟩:=hm
 obtain ⟨gb,cap,cur,rfl,hbg,hbl,hkc,hnc,hcm,hput⟩:=own_put hc hj x
 have hgg : gb ≠ g:=fun e=>h2 (by rw [e]; rfl)
 have hgl:=hb.lt
 refine ⟨gb,cap,cur,by rw [hb.cell]; rfl,hbl,hkc,h5 gb rfl,hgg,hnc,hcm,fun w2 w' hk hb' hs'=>⟨⟨_,E,hs'.blk (hk.blk hb hb.lt) (fun e=>hgg e.symm),?_,ownsRow_own (ownsRow_same hE hk (fun i hi=>hi.2)) hs' (fun b hb e=>h4 gb rfl (by rw [← e]; exact hb)),h1,h2,h3,h4,h5,h6,fun i hi=>Nat.lt_of_lt_of_le (h7 i hi) (Nat.le_trans hk.size hs'.size)⟩,Same.trans (Same.mono hk h7) hs' (fun i hi e=>h5 gb rfl (e ▸ hi))⟩⟩
 simpa using hput w' hb'
theorem rm_cells {w : World} {F : Nat → Prop} {g : Nat} {v : EnvS} {m : Ms} (h : RMach w F g v m) : w.cell? ⟨g,2,none⟩ = some (.int .i64 v.self) ∧ w.cell? ⟨g,3,none⟩ = some (.int .i64 v.procs) ∧ g < w.heap.size ∧ ¬ F g ∧ ∃ A c,w.cell? ⟨g,0,none⟩ = some (.slice A m.cells.length c) ∧ m.cells.length ≤ c ∧ c ≤ 9223372036854775807:=by
 obtain ⟨C,E,hb,hc,hE,h1,h2,h3,h4,h5,h6,h7⟩:=h
 obtain ⟨A,c,rfl,hn,hm⟩:=own_form hc
 exact ⟨by rw [hb.cell]; rfl,by rw [hb.cell]; rfl,hb.lt,h1,A,c,by rw [hb.cell]; rfl,hn,hm⟩
theorem set_in {m : Ms} {j : Nat} (h : j < m.cells.length) (x : Int) : m.set j x = { m with cells:=m.cells.set j x }:=by
 unfold Ms.set; rw [if_pos (by omega)]; simp
theorem set_out {m : Ms} {k : Int} (h : ¬ (0 ≤ k ∧ k < m.cells.length)) (x : Int) : m.set k x = m:=if_neg h
set_option maxHeartbeats 16000000 in
theorem simple_any (n : Nat) (w : World) (F : Nat → Prop) (g : Nat) (v : EnvS) (m : Ms) (S : Nat → Prop) (cs : List Value) (s : Stm) (hS : ∀ i,S i → i < w.heap.size) (hR : StmR w S (n + 1) cs s) (hm : RMach w F g v m) (h8 : m.effs.length ≤ 8) (h3 : s.kind ≠ 3) (h4 : s.kind ≠ 4) :
  Calls Tryz.prog 92 #[.pointer (some ⟨g,0,none⟩),.agg cs.toArray] w (RUnitPost F g v (simpleS v s m) w):=by
 have hss : I64 s.slot ∧ I64 s.size:=by obtain ⟨_,_,_,_,_,_,_,_⟩:=s; exact ⟨hR.1,hR.2.1⟩
 obtain ⟨kind,name,slot,size,place,value,body,els,o1,x1,n1,l1,z1,B1,p1,q1,o2,x2,n2,l2,z2,B2,p2,q2,A6,A7,m6,c6,m7,c7,hse,rfl,hpl,hva,hbo,hel⟩:=StmR.open_ hR
 subst hse
 obtain ⟨hsl,hsz⟩:=hss
 simp only [Stm.slot,Stm.size,Stm.kind] at hsl hsz h3 h4
 generalize hW : w.alloc (.cells #[.int .i64 kind,.string name,.int .i64 slot,.int .i64 size,.int .i64 o1,.int .i64 x1,.string n1,.int .i64 l1,.int .i64 z1,.slice B1 p1 q1,.int .i64 o2,.int .i64 x2,.string n2,.int .i64 l2,.int .i64 z2,.slice B2 p2 q2,.slice A6 m6 c6,.slice A7 m7 c7] 70) = W
 have hkW : Keep w W:=hW ▸ Keep.new w _
 have hbx : Blk W w.heap.size 70 #[.int .i64 kind,.string name,.int .i64 slot,.int .i64 size,.int .i64 o1,.int .i64 x1,.string n1,.int .i64 l1,.int .i64 z1,.slice B1 p1 q1,.int .i64 o2,.int .i64 x2,.string n2,.int .i64 l2,.int .i64 z2,.slice B2 p2 q2,.slice A6 m6 c6,.slice A7 m7 c7]:=hW ▸ Blk.new w _ _
 have hzW:=hbx.lt
 have hFw : ∀ i,F i → i < w.heap.size:=by obtain ⟨C,E,_,_,_,_,_,_,_,_,_,h7⟩:=hm; exact h7
 have hsW : Same F w W:=hkW.mono hFw
 have hmW:=hm.keep hkW
 have c0 : W.cell? ⟨w.heap.size,0,none⟩ = some (.int .i64 kind):=by rw [hbx.cell]; rfl
 have c2 : ∀ wx,Keep W wx → wx.cell? ⟨w.heap.size,2,none⟩ = some (.int .i64 slot):=fun wx hx=>(hx.cell (p:=⟨w.heap.size,2,none⟩) hzW).trans (by rw [hbx.cell]; rfl)
 have c3 : ∀ wx,Keep W wx → wx.cell? ⟨w.heap.size,3,none⟩ = some (.int .i64 size):=fun wx hx=>(hx.cell (p:=⟨w.heap.size,3,none⟩) hzW).trans (by rw [hbx.cell]; rfl)
 have slt : ∀ wx,Keep W wx → ∀ i,S i → i < wx.heap.size:=fun wx hx i hi=>by have:=hS i hi; have:=hkW.size; have:=hx.size; omega
 have eP : ∀ wx,Keep W wx → ExR wx S 5 [.int .i64 o1,.int .i64 x1,.string n1,.int .i64 l1,.int .i64 z1,.slice B1 p1 q1] place:=fun wx hx=>ExR.keep ((Keep.trans hkW hx).mono (fun i hi=>by have:=hS i hi; omega)) _ _ _ hpl
 have eV : ∀ wx,Keep W wx → ExR wx S 5 [.int .i64 o2,.int .i64 x2,.string n2,.int .i64 l2,.int .i64 z2,.slice B2 p2 q2] value:=fun wx hx=>ExR.keep ((Keep.trans hkW hx).mono (fun i hi=>by have:=hS i hi; omega)) _ _ _ hva
 have keyP : ∀ wx,Keep W wx → Calls Tryz.prog 91 #[.pointer (some ⟨g,0,none⟩),.agg #[.int .i64 o1,.int .i64 x1,.string n1,.int .i64 l1,.int .i64 z1,.slice B1 p1 q1]] wx (ApplyPost (valS m.cells v 5 place) wx):=fun wx hx=>rmvalue_any wx F g v m S _ place (slt wx hx) (hmW.keep hx) (eP wx hx)
 have keyV : ∀ wx,Keep W wx → Calls Tryz.prog 91 #[.pointer (some ⟨g,0,none⟩),.agg #[.int .i64 o2,.int .i64 x2,.string n2,.int .i64 l2,.int .i64 z2,.slice B2 p2 q2]] wx (ApplyPost (valS m.cells v 5 value) wx):=fun wx hx=>rmvalue_any wx F g v m S _ value (slt wx hx) (hmW.keep hx) (eV wx hx)
 generalize hvp : valS m.cells v 5 place = vp at keyP
 generalize hvv : valS m.cells v 5 value = vv at keyV
 have hbP : ∀ wx,Keep W wx → Blk wx w.heap.size 70 #[.int .i64 kind,.string name,.int .i64 slot,.int .i64 size,.int .i64 o1,.int .i64 x1,.string n1,.int .i64 l1,.int .i64 z1,.slice B1 p1 q1,.int .i64 o2,.int .i64 x2,.string n2,.int .i64 l2,.int .i64 z2,.slice B2 p2 q2,.slice A6 m6 c6,.slice A7 m7 c7]:=fun wx hx=>hx.blk hbx hzW
 obtain ⟨g2,g3,hgl,hbg,A0,c0',g0,hn0,hm0⟩:=rm_cells hmW
 have k2:=c2 W (Same.refl _ _)
 have k3:=c3 W (Same.refl _ _)
 have hA : True:=trivial
 have sa : simpleS v (.mk kind name slot size place value body els) m = if kind = 1 then m.set slot vv else if kind = 2 then (if 0 ≤ vp ∧ vp < size then m.set (wrap64 (slot + vp)) vv else m) else if kind = 5 then (if 0 ≤ vp ∧ vp < v.procs ∧ vp ≠ v.self then m.eff ⟨1,vp,vv⟩ else m) else if kind = 6 then m.eff ⟨2,0,vv⟩ else m:=by
  rw [← hvp,← hvv]; rfl
 generalize hfin : simpleS v (.mk kind name slot size place value body els) m = fin at sa
 clear hfin
 have HS:=Lib.hid hS
 have HFW:=Lib.hid hFw
 have HKW:=Lib.hid hkW
 have HBX:=Lib.hid hbx
 have HSW:=Lib.hid hsW
 have HMW:=Lib.hid hmW
 have C2:=Lib.hid c2
 have C3:=Lib.hid c3
 have SLT:=Lib.hid slt
 have EP:=Lib.hid eP
 have EV:=Lib.hid eV
 have KEYP:=Lib.hid keyP
 have KEYV:=Lib.hid keyV
 have HBP:=Lib.hid hbP
 have HVP:=Lib.hid hvp
 have HVV:=Lib.hid hvv
 clear hS hFw hkW hbx hsW hmW c2 c3 slt eP eV keyP keyV hbP hvp hvv
 clear hR hpl hva hbo hel hm
 by_cases hk1 : kind = 1
 ·subst hk1
  rw [if_pos rfl] at sa
  as_aux_lemma=>
  by_cases hr : 0 ≤ slot ∧ slot < m.cells.length
  ·obtain ⟨j,rfl⟩:=Int.eq_ofNat_of_zero_le hr.1
   have hj : j < m.cells.length:=by omega
   rw [set_in hj] at sa
   obtain ⟨gb,cap,cur,hcg,hbl,hkc,hbg',hgg,hnc,hcm,hput⟩:=HMW.out.put hj vv
   have d1 : decide ((j : Int) < (m.cells.length : Int)) = true:=by simpa using hj
   have d2 : (j : Int) < (m.cells.length : Int):=by omega
   have d3 : (0 : Int) ≤ j:=by omega
   have cg : ∀ wx,Keep W wx → wx.cell? ⟨g,0,none⟩ = some (.slice (some ⟨gb,0,none⟩) m.cells.length cap):=fun wx hx=>(hx.cell (p:=⟨g,0,none⟩) hgl).trans hcg
   have e2:=C2.out
   clear g0 hr hn0 hm0
   have HPUT:=Lib.hid hput
   have HBL:=Lib.hid hbl
   have CG:=Lib.hid cg
   have SA:=Lib.hid sa
   clear hput hbl cg sa
   go_enter Tryz.func92,Tryz.ntmps92
   go_upto_region 3 with fail
   clear hW
   go_quiet (fail)
   go_upto_region 4 with fail
   have cg:=CG.out
   clear hcg g2 g3 k2 k3 c0
   refine wp_region_L 11 (fun wx=>Keep W wx) (fun _=>True) (by kernel_rfl) (Same.drew (Same.drewN (Same.refl _ _) _)) trivial (fun hA hB=>?_)
   have hD:=hA
   refine wpL_takeA (i:=0) (v:=?_) rfl (by kernel_rfl) (by kernel_rfl) (by kernel_rfl) (by kernel_rfl) (by decide) (fun _ _ _ h=>h) (Or.inl ⟨by rfl,?_⟩) hA hB ?_
   rotate_left
   ·rintro wx ⟨hAx,hBx⟩
    (try dsimp only at hBx); (try dsimp only at hAx)
    go_simp
    try with_reducible rfl
   try simp only [Act.put,List.setIfInBounds_toArray,List.set_cons_zero,List.set_cons_succ]
   refine wpL_takeA (i:=1) (v:=?_) rfl (by kernel_rfl) (by kernel_rfl) (by kernel_rfl) (by kernel_rfl) (by decide) (fun _ _ _ h=>h) (Or.inl ⟨by rfl,?_⟩) hA hB ?_
   rotate_left
   ·rintro wx ⟨hAx,hBx⟩
    (try dsimp only at hBx); (try dsimp only at hAx)
    go_simp
    try with_reducible rfl
   try simp only [Act.put,List.setIfInBounds_toArray,List.set_cons_zero,List.set_cons_succ]
   refine wpL_takeA (i:=2) (v:=?_) rfl (by kernel_rfl) (by kernel_rfl) (by kernel_rfl) (by kernel_rfl) (by decide) (fun _ _ _ h=>h) (Or.inl ⟨by rfl,?_⟩) hA hB ?_
   rotate_left
   ·rintro wx ⟨hAx,hBx⟩
    (try dsimp only at hBx); (try dsimp only at hAx)
    go_simp
    try with_reducible rfl
   try simp only [Act.put,List.setIfInBounds_toArray,List.set_cons_zero,List.set_cons_succ]
   refine wpL_takeA (i:=3) (v:=?_) rfl (by kernel_rfl) (by kernel_rfl) (by kernel_rfl) (by kernel_rfl) (by decide) (fun _ _ _ h=>h) (Or.inl ⟨by rfl,?_⟩) hA hB ?_
   rotate_left
   ·rintro wx ⟨hAx,hBx⟩
    (try dsimp only at hBx); (try dsimp only at hAx)
    go_simp
    try with_reducible rfl
   try simp only [Act.put,List.setIfInBounds_toArray,List.set_cons_zero,List.set_cons_succ]
   refine wpL_takeA (i:=4) (v:=?_) rfl (by kernel_rfl) (by kernel_rfl) (by kernel_rfl) (by kernel_rfl) (by decide) (fun _ _ _ h=>h) (Or.inl ⟨by rfl,?_⟩) hA hB ?_
   rotate_left
   ·rintro wx ⟨hAx,hBx⟩
    (try dsimp only at hBx); (try dsimp only at hAx)
    go_simp
    try with_reducible rfl
   try simp only [Act.put,List.setIfInBounds_toArray,List.set_cons_zero,List.set_cons_succ]
   refine wpL_takeA (i:=5) (v:=?_) rfl (by kernel_rfl) (by kernel_rfl) (by kernel_rfl) (by kernel_rfl) (by decide) (fun _ _ _ h=>h) (Or.inl ⟨by rfl,?_⟩) hA hB ?_
   rotate_left
   ·rintro wx ⟨hAx,hBx⟩
    (try dsimp only at hBx); (try dsimp only at hAx)
    go_simp
    try with_reducible rfl
   try simp only [Act.put,List.setIfInBounds_toArray,List.set_cons_zero,List.set_cons_succ]
   refine wpL_takeA (i:=6) (v:=?_) rfl (by kernel_rfl) (by kernel_rfl) (by kernel_rfl) (by kernel_rfl) (by decide) (fun _ _ _ h=>h) (Or.inl ⟨by rfl,?_⟩) hA hB ?_
   rotate_left
   ·rintro wx ⟨hAx,hBx⟩
    (try dsimp only at hBx); (try dsimp only at hAx)
    go_simp
    try with_reducible rfl
   try simp only [Act.put,List.setIfInBounds_toArray,List.set_cons_zero,List.set_cons_succ]
   refine wpL_takeA (i:=7) (v:=?_) rfl (by kernel_rfl) (by kernel_rfl) (by kernel_rfl) (by kernel_rfl) (by decide) (fun _ _ _ h=>h) (Or.inl ⟨by rfl,?_⟩) hA hB ?_
   rotate_left
   ·rintro wx ⟨hAx,hBx⟩
    (try dsimp only at hBx); (try dsimp only at hAx)
    go_simp
    try with_reducible rfl
   try simp only [Act.put,List.setIfInBounds_toArray,List.set_cons_zero,List.set_cons_succ]
   refine wpL_takeA (i:=8) rfl (by kernel_rfl) (by kernel_rfl) (by kernel_rfl) (by kernel_rfl) (by decide) (fun _ _ _ h=>h) (yieldsIf_blk (by rfl) _ _ rfl w.heap.size 10 70 _ [.int .i64 o2,.int .i64 x2,.string n2,.int .i64 l2,.int .i64 z2,.slice B2 p2 q2] _ rfl (fun wx hx=>HBP.out wx hx.1) (fun j u hu=>by match j,hu with | 0,hu | 1,hu | 2,hu | 3,hu | 4,hu | 5,hu=>exact hu) Tryz.underlying68 rfl (by kernel_rfl)) hA hB ?_
   try simp only [Act.put,List.setIfInBounds_toArray,List.set_cons_zero,List.set_cons_succ]
   clear e2 cg
   refine wpL_one (i:=9) (by kernel_rfl) (StepL.mk rfl (fun K hK=>?_))
   go_simp
   refine (KEYV.out _ hA).mono ?_
   rintro e w1 ⟨rfl,hk1⟩
   have hk1' : Keep W w1:=Keep.trans hA hk1
   refine hK.out _ _ (SAB.both hk1' trivial) (fun hSS=>?_)
   clear hK K hA hB
   have hB:=hSS.2
   have hA:=hSS.1 (by kernel_rfl)
   (try dsimp only at hB); (try dsimp only at hA); clear hSS
   try simp only [Act.put,List.setIfInBounds_toArray,List.set_cons_zero,List.set_cons_succ]
   refine wpL_takeA (i:=10) (v:=?_) rfl (by kernel_rfl) (by kernel_rfl) (by kernel_rfl) (by kernel_rfl) (by decide) (fun _ _ _ h=>h) (Or.inl ⟨by rfl,?_⟩) hA hB ?_
   rotate_left
   ·rintro wx ⟨hAx,hBx⟩
    (try dsimp only at hBx); (try dsimp only at hAx)
    go_simp
    try with_reducible rfl
   try simp only [Act.put,List.setIfInBounds_toArray,List.set_cons_zero,List.set_cons_succ]
   refine wpL_one (i:=11) (by kernel_rfl) (StepL.mk rfl (fun K hK=>?_))
   refine step_store_one rfl _ _ _ rfl gb j 3 cur (.int .i64 vv) (by simp [go_sem]) rfl (hk1'.blk HBL.out HBL.out.lt) hkc (by kernel_rfl) rfl rfl ?_
   intro w2 hb2 hs2
   obtain ⟨hm2,hs2'⟩:=HPUT.out w1 w2 hk1' hb2 hs2
   rw [← SA.out] at hm2
   have hs3:=Same.trans HSW.out hs2' (fun _ h=>h)
   refine hK.out _ _ (SAB.past (by kernel_rfl) trivial) (fun hSS=>?_)
   clear hK K hA hB
   have hB:=hSS.2
   have hA : True:=trivial
   (try dsimp only at hB); (try dsimp only at hA); clear hSS
   try simp only [Act.put,List.setIfInBounds_toArray,List.set_cons_zero,List.set_cons_succ]
   refine wpL_done (by kernel_rfl) ?_
   have HM2:=Lib.hid hm2
   have HS3:=Lib.hid hs3
   clear hm2 hs3
   clear hb2 hs2 hs2' hk1 hk1' hA hB hD
   go_wp2_with fail
   exact bodyPost_end (results_none Tryz.results92 _ _ _) rfl ⟨rfl,HM2.out,HS3.out⟩
  ·rw [set_out hr] at sa
   replace sa:=sa.symm
   subst sa
   by_cases hr1 : 0 ≤ slot
   ·have d1 : decide (slot < (m.cells.length : Int)) = false:=by simp; omega
    clear hr
    go_enter Tryz.func92,Tryz.ntmps92
    go_upto_region 3 with fail
    clear hW
    go_quiet (fail)
    go_wp2_with fail
    exact bodyPost_end (results_none Tryz.results92 _ _ _) rfl ⟨rfl,HMW.out.keep (Keep.draws _ _),Same.drewN HSW.out _⟩
   ·clear hr
    go_enter Tryz.func92,Tryz.ntmps92
    go_upto_region 3 with fail
    clear hW
    go_quiet (fail)
    go_wp2_with fail
    exact bodyPost_end (results_none Tryz.results92 _ _ _) rfl ⟨rfl,HMW.out.keep (Keep.draws _ _),Same.drewN HSW.out _⟩
 rw [if_neg hk1] at sa
 have a1 : (kind == 1) = false:=by simpa using hk1
 by_cases hk2 : kind = 2
 ·subst hk2
  rw [if_pos rfl] at sa
  as_aux_lemma=>
  have cg : ∀ wx,Keep W wx → wx.cell? ⟨g,0,none⟩ = some (.slice A0 m.cells.length c0'):=fun wx hx=>(hx.cell (p:=⟨g,0,none⟩) hgl).trans g0
  have e2:=C2.out
  have e3:=C3.out
  have hml : m.cells.length ≤ 9223372036854775807:=by omega
  clear g2 g3 k2 k3
  have SA:=Lib.hid sa
  clear sa
  go_enter Tryz.func92,Tryz.ntmps92
  go_upto_region 6 with fail
  clear hW
  refine wp_region_L 99 (fun _=>True) (fun wx=>Keep W wx) (by kernel_rfl) trivial (Same.drew (Same.refl _ _)) (fun _ hB=>?_)
  refine wpL_takeB (i:=0) (v:=?_) rfl (by kernel_rfl) (by kernel_rfl) (by kernel_rfl) (by decide) (fun _ _ _ h=>h) (Or.inl ⟨by rfl,?_⟩) (SAB.both hA hB) ?_
  rotate_left
  ·intro wx hBx
   (try dsimp only at hBx)
   go_simp
   try with_reducible rfl
  try simp only [Act.put,List.setIfInBounds_toArray,List.set_cons_zero,List.set_cons_succ]
  refine wpL_takeB (i:=1) (v:=?_) rfl (by kernel_rfl) (by kernel_rfl) (by kernel_rfl) (by decide) (fun _ _ _ h=>h) (Or.inl ⟨by rfl,?_⟩) (SAB.both hA hB) ?_
  rotate_left
  ·intro wx hBx
   (try dsimp only at hBx)
   go_simp
   try with_reducible rfl
  try simp only [Act.put,List.setIfInBounds_toArray,List.set_cons_zero,List.set_cons_succ]
  refine wpL_takeB (i:=2) (v:=?_) rfl (by kernel_rfl) (by kernel_rfl) (by kernel_rfl) (by decide) (fun _ _ _ h=>h) (Or.inl ⟨by rfl,?_⟩) (SAB.both hA hB) ?_
  rotate_left
  ·intro wx hBx
   (try dsimp only at hBx)
   go_simp
   try with_reducible rfl
  try simp only [Act.put,List.setIfInBounds_toArray,List.set_cons_zero,List.set_cons_succ]
  refine wpL_takeB (i:=3) (v:=?_) rfl (by kernel_rfl) (by kernel_rfl) (by kernel_rfl) (by decide) (fun _ _ _ h=>h) (Or.inl ⟨by rfl,?_⟩) (SAB.both hA hB) ?_
  rotate_left
  ·intro wx hBx
   (try dsimp only at hBx)
   go_simp
   try with_reducible rfl
  try simp only [Act.put,List.setIfInBounds_toArray,List.set_cons_zero,List.set_cons_succ]
  refine wpL_takeB (i:=4) (v:=?_) rfl (by kernel_rfl) (by kernel_rfl) (by kernel_rfl) (by decide) (fun _ _ _ h=>h) (Or.inl ⟨by rfl,?_⟩) (SAB.both hA hB) ?_
  rotate_left
  ·intro wx hBx
   (try dsimp only at hBx)
   go_simp
   try with_reducible rfl
  try simp only [Act.put,List.setIfInBounds_toArray,List.set_cons_zero,List.set_cons_succ]
  refine wpL_takeB (i:=5) (v:=?_) rfl (by kernel_rfl) (by kernel_rfl) (by kernel_rfl) (by decide) (fun _ _ _ h=>h) (Or.inl ⟨by rfl,?_⟩) (SAB.both hA hB) ?_
  rotate_left
  ·intro wx hBx
   (try dsimp only at hBx)
   go_simp
   try with_reducible rfl
  try simp only [Act.put,List.setIfInBounds_toArray,List.set_cons_zero,List.set_cons_succ]
  refine wpL_takeB (i:=6) rfl (by kernel_rfl) (by kernel_rfl) (by kernel_rfl) (by decide) (fun _ _ _ h=>h) (yieldsIf_blk (by rfl) _ _ rfl w.heap.size 4 70 _ [.int .i64 o1,.int .i64 x1,.string n1,.int .i64 l1,.int .i64 z1,.slice B1 p1 q1] _ rfl (fun wx hx=>HBP.out wx hx) (fun j u hu=>by match j,hu with | 0,hu | 1,hu | 2,hu | 3,hu | 4,hu | 5,hu=>exact hu) Tryz.underlying68 rfl (by kernel_rfl)) (SAB.both hA hB) ?_
  try simp only [Act.put,List.setIfInBounds_toArray,List.set_cons_zero,List.set_cons_succ]
  refine wpL_takeB (i:=8) (v:=?_) rfl (by kernel_rfl) (by kernel_rfl) (by kernel_rfl) (by decide) (fun _ _ _ h=>h) (Or.inl ⟨by rfl,?_⟩) (SAB.both hA hB) ?_
  rotate_left
  ·intro wx hBx
   (try dsimp only at hBx)
   go_simp
   try with_reducible rfl
  try simp only [Act.put,List.setIfInBounds_toArray,List.set_cons_zero,List.set_cons_succ]
  refine wpL_takeB (i:=9) (v:=?_) rfl (by kernel_rfl) (by kernel_rfl) (by kernel_rfl) (by decide) (fun _ _ _ h=>h) (Or.inl ⟨by rfl,?_⟩) (SAB.both hA hB) ?_
  rotate_left
  ·intro wx hBx
   (try dsimp only at hBx)
   go_simp
   try with_reducible rfl
  try simp only [Act.put,List.setIfInBounds_toArray,List.set_cons_zero,List.set_cons_succ]
  refine wpL_takeB (i:=10) (v:=?_) rfl (by kernel_rfl) (by kernel_rfl) (by kernel_rfl) (by decide) (fun _ _ _ h=>h) (Or.inl ⟨by rfl,?_⟩) (SAB.both hA hB) ?_
  rotate_left
  ·intro wx hBx
   (try dsimp only at hBx)
   go_simp
   try with_reducible rfl
  try simp only [Act.put,List.setIfInBounds_toArray,List.set_cons_zero,List.set_cons_succ]
  refine wpL_takeB (i:=11) (v:=?_) rfl (by kernel_rfl) (by kernel_rfl) (by kernel_rfl) (by decide) (fun _ _ _ h=>h) (Or.inl ⟨by rfl,?_⟩) (SAB.both hA hB) ?_
  rotate_left
  ·intro wx hBx
   (try dsimp only at hBx)
   go_simp
   try with_reducible rfl
  try simp only [Act.put,List.setIfInBounds_toArray,List.set_cons_zero,List.set_cons_succ]
  clear e2 e3 cg
  refine wpL_one (i:=7) (by kernel_rfl) (StepL.mk rfl (fun K hK=>?_))
  go_simp
  refine (KEYP.out _ hB).mono ?_
  rintro e w1 ⟨rfl,hk1⟩
  have hk1' : Keep W w1:=Keep.trans hB hk1
  refine hK.out _ _ (SAB.both trivial hk1') (fun hSS=>?_)
  clear hK K hA hB
  have hB:=hSS.2
  have hA:=hSS.1 (by kernel_rfl)
  (try dsimp only at hB); (try dsimp only at hA); clear hSS
  try simp only [Act.put,List.setIfInBounds_toArray,List.set_cons_zero,List.set_cons_succ]
  refine wpL_one (i:=12) (by kernel_rfl) (StepL.mk rfl (fun K hK=>?_))
  go_simp
  refine (rplace_any w1 A0 m.cells.length c0' slot size vp hsl hsz hml).mono ?_
  rintro e w2 ⟨p,rfl,hp,rfl⟩
  refine hK.out _ _ (SAB.both trivial hk1') (fun hSS=>?_)
  clear hK K hA hB
  have hB:=hSS.2
  have hA:=hSS.1 (by kernel_rfl)
  (try dsimp only at hB); (try dsimp only at hA); clear hSS
  try simp only [Act.put,List.setIfInBounds_toArray,List.set_cons_zero,List.set_cons_succ]
  refine wpL_takeB (i:=13) (v:=?_) rfl (by kernel_rfl) (by kernel_rfl) (by kernel_rfl) (by decide) (fun _ _ _ h=>h) (Or.inl ⟨by rfl,?_⟩) (SAB.both hA hB) ?_
  rotate_left
  ·intro wx hBx
   (try dsimp only at hBx)
   go_simp
   try with_reducible rfl
  try simp only [Act.put,List.setIfInBounds_toArray,List.set_cons_zero,List.set_cons_succ]
  refine wpL_done (by kernel_rfl) ?_
  obtain ⟨hsl1,hsl2⟩:=hsl
  obtain ⟨hsz1,hsz2⟩:=hsz
  rcases hp with ⟨⟨⟨hp1,hp2⟩,hp3,hp4⟩,hp5⟩ | ⟨hp1,hp2⟩
  ·obtain ⟨j,hj'⟩:=Int.eq_ofNat_of_zero_le hp3
   have hpj : p = j:=by omega
   subst hpj
   have hj : j < m.cells.length:=by omega
   have hwr : wrap64 (slot + vp) = j:=by rw [w64_in _ (by omega)]; omega
   have sb:=SA.out
   rw [if_pos ⟨hp1,hp2⟩,hwr,set_in hj] at sb
   obtain ⟨gb,cap,cur,hcg,hbl,hkc,hbg',hgg,hnc,hcm,hput⟩:=HMW.out.put hj vv
   have d2 : (j : Int) < (m.cells.length : Int):=by omega
   have d3 : (0 : Int) ≤ j:=by omega
   have cg : ∀ wx,Keep W wx → wx.cell? ⟨g,0,none⟩ = some (.slice (some ⟨gb,0,none⟩) m.cells.length cap):=fun wx hx=>(hx.cell (p:=⟨g,0,none⟩) hgl).trans hcg
   clear hp1 hp2 hp3 hp4 hp5 hwr hj' hk1 hB g0 hn0 hm0 hA hcg
   have HPUT:=Lib.hid hput
   have HBL:=Lib.hid hbl
   have SB:=Lib.hid sb
   have HK1':=Lib.hid hk1'
   clear hput hbl sb hk1'
   go_upto_region 8 with fail
   refine wp_region_L 10 (fun wx=>Keep W wx) (fun _=>True) (by kernel_rfl) (Same.drew HK1'.out) trivial (fun hA hB=>?_)
   refine wpL_takeA (i:=0) (v:=?_) rfl (by kernel_rfl) (by kernel_rfl) (by kernel_rfl) (by kernel_rfl) (by decide) (fun _ _ _ h=>h) (Or.inl ⟨by rfl,?_⟩) hA hB ?_
   rotate_left
   ·rintro wx ⟨hAx,hBx⟩
    (try dsimp only at hBx); (try dsimp only at hAx)
    go_simp
    try with_reducible rfl
   try simp only [Act.put,List.setIfInBounds_toArray,List.set_cons_zero,List.set_cons_succ]
   refine wpL_takeA (i:=1) (v:=?_) rfl (by kernel_rfl) (by kernel_rfl) (by kernel_rfl) (by kernel_rfl) (by decide) (fun _ _ _ h=>h) (Or.inl ⟨by rfl,?_⟩) hA hB ?_
   rotate_left
   ·rintro wx ⟨hAx,hBx⟩
    (try dsimp only at hBx); (try dsimp only at hAx)
    go_simp
    try with_reducible rfl
   try simp only [Act.put,List.setIfInBounds_toArray,List.set_cons_zero,List.set_cons_succ]
   refine wpL_takeA (i:=2) (v:=?_) rfl (by kernel_rfl) (by kernel_rfl) (by kernel_rfl) (by kernel_rfl) (by decide) (fun _ _ _ h=>h) (Or.inl ⟨by rfl,?_⟩) hA hB ?_
   rotate_left
   ·rintro wx ⟨hAx,hBx⟩
    (try dsimp only at hBx); (try dsimp only at hAx)
    go_simp
    try with_reducible rfl
   try simp only [Act.put,List.setIfInBounds_toArray,List.set_cons_zero,List.set_cons_succ]
   refine wpL_takeA (i:=3) (v:=?_) rfl (by kernel_rfl) (by kernel_rfl) (by kernel_rfl) (by kernel_rfl) (by decide) (fun _ _ _ h=>h) (Or.inl ⟨by rfl,?_⟩) hA hB ?_
   rotate_left
   ·rintro wx ⟨hAx,hBx⟩
    (try dsimp only at hBx); (try dsimp only at hAx)
    go_simp
    try with_reducible rfl
   try simp only [Act.put,List.setIfInBounds_toArray,List.set_cons_zero,List.set_cons_succ]
   refine wpL_takeA (i:=4) (v:=?_) rfl (by kernel_rfl) (by kernel_rfl) (by kernel_rfl) (by kernel_rfl) (by decide) (fun _ _ _ h=>h) (Or.inl ⟨by rfl,?_⟩) hA hB ?_
   rotate_left
   ·rintro wx ⟨hAx,hBx⟩
    (try dsimp only at hBx); (try dsimp only at hAx)
    go_simp
    try with_reducible rfl
   try simp only [Act.put,List.setIfInBounds_toArray,List.set_cons_zero,List.set_cons_succ]
   refine wpL_takeA (i:=5) (v:=?_) rfl (by kernel_rfl) (by kernel_rfl) (by kernel_rfl) (by kernel_rfl) (by decide) (fun _ _ _ h=>h) (Or.inl ⟨by rfl,?_⟩) hA hB ?_
   rotate_left
   ·rintro wx ⟨hAx,hBx⟩
    (try dsimp only at hBx); (try dsimp only at hAx)
    go_simp
    try with_reducible rfl
   try simp only [Act.put,List.setIfInBounds_toArray,List.set_cons_zero,List.set_cons_succ]
   refine wpL_takeA (i:=6) (v:=?_) rfl (by kernel_rfl) (by kernel_rfl) (by kernel_rfl) (by kernel_rfl) (by decide) (fun _ _ _ h=>h) (Or.inl ⟨by rfl,?_⟩) hA hB ?_
   rotate_left
   ·rintro wx ⟨hAx,hBx⟩
    (try dsimp only at hBx); (try dsimp only at hAx)
    go_simp
    try with_reducible rfl
   try simp only [Act.put,List.setIfInBounds_toArray,List.set_cons_zero,List.set_cons_succ]
   refine wpL_takeA (i:=7) rfl (by kernel_rfl) (by kernel_rfl) (by kernel_rfl) (by kernel_rfl) (by decide) (fun _ _ _ h=>h) (yieldsIf_blk (by rfl) _ _ rfl w.heap.size 10 70 _ [.int .i64 o2,.int .i64 x2,.string n2,.int .i64 l2,.int .i64 z2,.slice B2 p2 q2] _ rfl (fun wx hx=>HBP.out wx hx.1) (fun j u hu=>by match j,hu with | 0,hu | 1,hu | 2,hu | 3,hu | 4,hu | 5,hu=>exact hu) Tryz.underlying68 rfl (by kernel_rfl)) hA hB ?_
   try simp only [Act.put,List.setIfInBounds_toArray,List.set_cons_zero,List.set_cons_succ]
   clear cg
   refine wpL_one (i:=8) (by kernel_rfl) (StepL.mk rfl (fun K hK=>?_))
   go_simp
   refine (KEYV.out _ hA).mono ?_
   rintro e w3 ⟨rfl,hk3⟩
   have hk3' : Keep W w3:=Keep.trans hA hk3
   refine hK.out _ _ (SAB.both hk3' trivial) (fun hSS=>?_)
   clear hK K hA hB
   have hB:=hSS.2
   have hA:=hSS.1 (by kernel_rfl)
   (try dsimp only at hB); (try dsimp only at hA); clear hSS
   try simp only [Act.put,List.setIfInBounds_toArray,List.set_cons_zero,List.set_cons_succ]
   refine wpL_takeA (i:=9) (v:=?_) rfl (by kernel_rfl) (by kernel_rfl) (by kernel_rfl) (by kernel_rfl) (by decide) (fun _ _ _ h=>h) (Or.inl ⟨by rfl,?_⟩) hA hB ?_
   rotate_left
   ·rintro wx ⟨hAx,hBx⟩
    (try dsimp only at hBx); (try dsimp only at hAx)
    go_simp
    try with_reducible rfl
   try simp only [Act.put,List.setIfInBounds_toArray,List.set_cons_zero,List.set_cons_succ]
   refine wpL_one (i:=10) (by kernel_rfl) (StepL.mk rfl (fun K hK=>?_))
   refine step_store_one rfl _ _ _ rfl gb j 3 cur (.int .i64 vv) (by simp [go_sem]) rfl (hk3'.blk HBL.out HBL.out.lt) hkc (by kernel_rfl) rfl rfl ?_
   intro w4 hb2 hs2
   obtain ⟨hm2,hs2'⟩:=HPUT.out w3 w4 hk3' hb2 hs2
   rw [← SB.out] at hm2
   have hs3:=Same.trans HSW.out hs2' (fun _ h=>h)
   refine hK.out _ _ (SAB.past (by kernel_rfl) trivial) (fun hSS=>?_)
   clear hK K hA hB
   have hB:=hSS.2
   have hA : True:=trivial
   (try dsimp only at hB); (try dsimp only at hA); clear hSS
   try simp only [Act.put,List.setIfInBounds_toArray,List.set_cons_zero,List.set_cons_succ]
   refine wpL_done (by kernel_rfl) ?_
   have HM2:=Lib.hid hm2
   have HS3:=Lib.hid hs3
   clear hm2 hs3
   clear hb2 hs2 hs2' hk3 hk3' hA hB
   go_wp2_with fail
   exact bodyPost_end (results_none Tryz.results92 _ _ _) rfl ⟨rfl,HM2.out,HS3.out⟩
  ·have sb:=SA.out
   have hfm : fin = m:=by
    rw [sb]
    split
    ·rename_i hh
     refine set_out (fun hq=>hp1 ⟨hh,?_⟩) _
     unfold wrap64 at hq
     omega
    ·rfl
   subst hfm
   have d1 : decide (0 ≤ p) = false:=by simp; omega
   have hm3:=HMW.out.keep hk1'
   have hs3:=Keep.trans HKW.out hk1'
   have HM3:=Lib.hid hm3
   have HS3:=Lib.hid hs3
   clear hm3 hs3
   clear hp1 hk1 hk1' hB hA sb SA
   go_wp2_with fail
   exact bodyPost_end (results_none Tryz.results92 _ _ _) rfl ⟨rfl,HM3.out,HS3.out.mono HFW.out⟩
 rw [if_neg hk2] at sa
 have a2 : (kind == 2) = false:=by simpa using hk2
 by_cases hk5 : kind = 5
 ·subst hk5
  rw [if_pos rfl] at sa
  as_aux_lemma=>
  have SA:=Lib.hid sa
  clear sa
  clear g0
  go_enter Tryz.func92,Tryz.ntmps92
  go_wp2_with (refine wpList_load_blk rfl _ (.tmp 64) rfl w.heap.size 4 70 _ [.int .i64 o1,.int .i64 x1,.string n1,.int .i64 l1,.int .i64 z1,.slice B1 p1 q1] _ rfl (HBP.out W (Same.refl _ _)) (fun j u hu=>by match j,hu with | 0,hu | 1,hu | 2,hu | 3,hu | 4,hu | 5,hu=>exact hu) Tryz.underlying68 rfl (by kernel_rfl) ?_)
  clear hW
  refine (KEYP.out W (Same.refl _ _)).mono ?_
  rintro e w1 ⟨rfl,hk1⟩
  obtain ⟨f2,f3,-,-,-⟩:=rm_cells (HMW.out.keep hk1)
  clear g2 g3 c0 k2 k3
  have HK1:=Lib.hid hk1
  clear hk1
  have sb:=SA.out
  by_cases hr : 0 ≤ vp ∧ vp < v.procs ∧ vp ≠ v.self
  ·rw [if_pos hr] at sb
   obtain ⟨hr1,hr2,hr3⟩:=hr
   have hr3' : (vp != v.self) = true:=by simpa using hr3
   have SB:=Lib.hid sb
   clear sb
   clear hr3
   go_wp2_with (refine wpList_load_blk rfl _ (.tmp 90) rfl w.heap.size 10 70 _ [.int .i64 o2,.int .i64 x2,.string n2,.int .i64 l2,.int .i64 z2,.slice B2 p2 q2] _ rfl (HBP.out w1 HK1.out) (fun j u hu=>by match j,hu with | 0,hu | 1,hu | 2,hu | 3,hu | 4,hu | 5,hu=>exact hu) Tryz.underlying68 rfl (by kernel_rfl) ?_)
   refine (KEYV.out w1 HK1.out).mono ?_
   rintro e w2 ⟨rfl,hk2⟩
   have hk2':=Keep.trans HK1.out hk2
   have HK2':=Lib.hid hk2'
   clear hk2'
   clear hk2 f2 f3
   go_wp2_with fail
   refine (reffect_any w2 F g v m ⟨1,vp,vv⟩ (HMW.out.keep HK2'.out) h8).mono ?_
   rintro e w3 ⟨rfl,hm3,hs3⟩
   rw [← SB.out] at hm3
   have hs4 : Same F w w3:=Same.trans (Same.mono (Keep.trans HKW.out HK2'.out) HFW.out) hs3 (fun _ h=>h)
   have HM3:=Lib.hid hm3
   have HS4:=Lib.hid hs4
   clear hm3 hs4
   clear hs3
   go_wp2_with fail
   exact bodyPost_end (results_none Tryz.results92 _ _ _) rfl ⟨rfl,HM3.out,HS4.out⟩
  ·rw [if_neg hr] at sb
   subst sb
   have hm3:=HMW.out.keep HK1.out
   have hs3:=Keep.trans HKW.out HK1.out
   have HM3:=Lib.hid hm3
   have HS3:=Lib.hid hs3
   clear hm3 hs3
   by_cases hr1 : 0 ≤ vp
   ·by_cases hr2 : vp < v.procs
    ·have hr3 : (vp != v.self) = false:=by
      have : vp = v.self:=Classical.byContradiction fun h=>hr ⟨hr1,hr2,h⟩
      simpa using this
     clear hr SA
     go_wp2_with fail
     exact bodyPost_end (results_none Tryz.results92 _ _ _) rfl ⟨rfl,HM3.out,HS3.out.mono HFW.out⟩
    ·clear hr SA
     go_wp2_with fail
     exact bodyPost_end (results_none Tryz.results92 _ _ _) rfl ⟨rfl,HM3.out,HS3.out.mono HFW.out⟩
   ·clear hr SA
    go_wp2_with fail
    exact bodyPost_end (results_none Tryz.results92 _ _ _) rfl ⟨rfl,HM3.out,HS3.out.mono HFW.out⟩
 rw [if_neg hk5] at sa
 have a5 : (kind == 5) = false:=by simpa using hk5
 by_cases hk6 : kind = 6
 ·subst hk6
  rw [if_pos rfl] at sa
  as_aux_lemma=>
  have SA:=Lib.hid sa
  clear sa
  clear g0
  go_enter Tryz.func92,Tryz.ntmps92
  go_wp2_with (refine wpList_load_blk rfl _ (.tmp 99) rfl w.heap.size 10 70 _ [.int .i64 o2,.int .i64 x2,.string n2,.int .i64 l2,.int .i64 z2,.slice B2 p2 q2] _ rfl (HBP.out W (Same.refl _ _)) (fun j u hu=>by match j,hu with | 0,hu | 1,hu | 2,hu | 3,hu | 4,hu | 5,hu=>exact hu) Tryz.underlying68 rfl (by kernel_rfl) ?_)
  clear hW
  refine (KEYV.out W (Same.refl _ _)).mono ?_
  rintro e w2 ⟨rfl,hk2⟩
  have HK2:=Lib.hid hk2
  clear hk2
  go_wp2_with fail
  refine (reffect_any w2 F g v m ⟨2,0,vv⟩ (HMW.out.keep HK2.out) h8).mono ?_
  rintro e w3 ⟨rfl,hm3,hs3⟩
  rw [← SA.out] at hm3
  have hs4 : Same F w w3:=Same.trans (Same.mono (Keep.trans HKW.out HK2.out) HFW.out) hs3 (fun _ h=>h)
  have HM3:=Lib.hid hm3
  have HS4:=Lib.hid hs4
  clear hm3 hs4
  clear hs3
  go_wp2_with fail
  exact bodyPost_end (results_none Tryz.results92 _ _ _) rfl ⟨rfl,HM3.out,HS4.out⟩
 rw [if_neg hk6] at sa
 have a6 : (kind == 6) = false:=by simpa using hk6
 subst sa
 clear g0 g2 g3 k2 k3
 go_enter Tryz.func92,Tryz.ntmps92
 go_wp2_with fail
 clear hW
 exact bodyPost_end (results_none Tryz.results92 _ _ _) rfl ⟨rfl,HMW.out,HSW.out⟩
end Go.Proofs.YtipegaojiokppaaGreatDoor
