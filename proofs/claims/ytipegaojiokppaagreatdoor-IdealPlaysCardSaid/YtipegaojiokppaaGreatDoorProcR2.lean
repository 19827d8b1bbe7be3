import Derived.Test.YtipegaojiokppaaGreatDoorProcR1
set_option linter.unusedVariables false
set_option linter.unusedSimpArgs false
set_option maxRecDepth 100000
namespace Go.Proofs.YtipegaojiokppaaGreatDoor
open Go.RowKit Go.Proofs
def CdR (w : World) (S : Nat → Prop) (cs : List Value) (c : Cd) : Prop:=
 ∃ (A0 A1 A2 A3 A4 : Option Addr) (m0 c0 m1 c1 m2 c2 m3 c3 m4 c4 : Nat),cs = [.slice A0 m0 c0,.slice A1 m1 c1,.slice A2 m2 c2,.slice A3 m3 c3,.slice A4 m4 c4] ∧ Sl encI 1 w S A0 m0 c0 c.init ∧
  SlR w S 18 (StmR w S 3) A1 m1 c1 c.start ∧ SlR w S 18 (StmR w S 3) A2 m2 c2 c.message ∧ SlR w S 18 (StmR w S 3) A3 m3 c3 c.tick ∧ SlR w S 18 (StmR w S 3) A4 m4 c4 c.input ∧ c.init.length ≤ 1000000
theorem CdR.keep {w w' : World} {S : Nat → Prop} {cs : List Value} {c : Cd} (h : CdR w S cs c) (hk : Same S w w') : CdR w' S cs c:=by
 obtain ⟨A0,A1,A2,A3,A4,m0,c0,m1,c1,m2,c2,m3,c3,m4,c4,e,h0,h1,h2,h3,h4,h5⟩:=h
 exact ⟨A0,A1,A2,A3,A4,m0,c0,m1,c1,m2,c2,m3,c3,m4,c4,e,h0.keep hk,h1.keep hk (StmR.keep hk _),h2.keep hk (StmR.keep hk _),h3.keep hk (StmR.keep hk _),h4.keep hk (StmR.keep hk _),h5⟩
theorem CdR.more {w : World} {S T : Nat → Prop} {cs : List Value} {c : Cd} (h : CdR w S cs c) (hk : ∀ i,S i → T i) : CdR w T cs c:=by
 obtain ⟨A0,A1,A2,A3,A4,m0,c0,m1,c1,m2,c2,m3,c3,m4,c4,e,h0,h1,h2,h3,h4,h5⟩:=h
 exact ⟨A0,A1,A2,A3,A4,m0,c0,m1,c1,m2,c2,m3,c3,m4,c4,e,h0.more hk,h1.more hk (StmR.more hk _),h2.more hk (StmR.more hk _),h3.more hk (StmR.more hk _),h4.more hk (StmR.more hk _),h5⟩
theorem st_open {w : World} {S : Nat → Prop} {cs : List Value} {s : St} (h : StR w S cs s) : ∃ (B1 B2 B3 B4 : Option Addr) (p1 q1 p2 q2 p3 q3 p4 q4 : Nat),cs = [.slice B1 p1 q1,.slice B2 p2 q2,.slice B3 p3 q3,.slice B4 p4 q4] ∧ StR w S [.slice B1 p1 q1,.slice B2 p2 q2,.slice B3 p3 q3,.slice B4 p4 q4] s:=by
 have h':=h
 obtain ⟨A1,A2,A3,A4,n1,c1,n2,c2,n3,c3,n4,c4,rfl,_⟩:=h
 exact ⟨A1,A2,A3,A4,n1,c1,n2,c2,n3,c3,n4,c4,rfl,h'⟩
theorem st_after {S : Nat → Prop} {w W w1 wz : World} {cs : List Value} {s : St} {b : Nat} (hS : ∀ i,S i → i < w.heap.size) (hW : w.heap.size ≤ W.heap.size) (h : StR w1 (Sn S W w1) cs s) (hs : Same (· ≠ b) w1 wz) (h1 : w.heap.size ≤ b) (h2 : b < W.heap.size) : StR wz (Sn S w wz) cs s:=
 (h.keep (hs.mono (fun i hi e=>hi.elim (fun hi=>by have:=hS i hi; omega) (fun hi=>by omega)))).more (Sn.mono hW hs.size)
theorem load_st {w : World} {b : Nat} {cs : List Value} (hl : cs.length = 4) (hb : Blk w b 50 cs.toArray) : (loadVar 50 ⟨b,0,none⟩).run Tryz.prog w = .ok (.agg cs.toArray) w:=
 loadVar_blk cs _ hb (fun j v hv=>by simpa using hv) Tryz.underlying50 rfl (by rw [hl]; kernel_rfl)
set_option maxHeartbeats 8000000 in
theorem rstart_any (w : World) (S : Nat → Prop) (cs : List Value) (c : Cd) (self procs : Int) (hS : ∀ i,S i → i < w.heap.size) (hc : CdR w S cs c) :
  Calls Tryz.prog 43 #[.agg cs.toArray,.int .i64 self,.int .i64 procs] w (StPost S (startS c self procs) w):=by
 obtain ⟨A0,A1,A2,A3,A4,m0,c0,m1,c1,m2,c2,m3,c3,m4,c4,rfl,h0,h1,h2,h3,h4,h5⟩:=hc
 generalize hW : (w.alloc (.cells #[.slice A0 m0 c0,.slice A1 m1 c1,.slice A2 m2 c2,.slice A3 m3 c3,.slice A4 m4 c4] 63)).alloc (.cells #[.slice none 0 0,.slice none 0 0,.slice none 0 0,.slice none 0 0] 50) = W
 have hkW : Keep w W:=hW ▸ Keep.alloc (Keep.new w _) _
 have hb : Blk W w.heap.size 63 #[.slice A0 m0 c0,.slice A1 m1 c1,.slice A2 m2 c2,.slice A3 m3 c3,.slice A4 m4 c4]:=hW ▸ (Blk.new w _ _).alloc _
 have hbr : Blk W (w.heap.size + 1) 50 #[.slice none 0 0,.slice none 0 0,.slice none 0 0,.slice none 0 0]:=hW ▸ (by simpa using Blk.new (w.alloc _) _ _)
 have hz : w.heap.size + 1 < W.heap.size:=hbr.lt
 have e0 : W.cell? ⟨w.heap.size,0,none⟩ = some (.slice A0 m0 c0):=by rw [hb.cell]; rfl
 have e1 : W.cell? ⟨w.heap.size,1,none⟩ = some (.slice A1 m1 c1):=by rw [hb.cell]; rfl
 have hsW:=Same.mono hkW hS
 have key:=rexecute_any 3 W S [.slice A0 m0 c0,.slice none 0 0,.slice none 0 0,.slice none 0 0] ⟨c.init,[],[],[]⟩ A1 m1 c1 c.start ⟨self,procs,self,0⟩ 0 (fun i hi=>by have:=hS i hi; omega) ⟨_,_,_,_,_,_,_,_,_,_,_,_,rfl,h0.keep hsW,Sl.nil_,Sl.nil_,Sl.nil_⟩ (h1.keep hsW (StmR.keep hsW _)) h5 (by simp) (by simp)
 have hst : runS ⟨self,procs,self,0⟩ c.start (St.mk c.init [] [] []).cells 0 ⟨c.init,[],[],[]⟩ = startS c self procs:=rfl
 rw [hst] at key
 have KEY:=Lib.hid key
 have HKW:=Lib.hid hkW
 have HBR:=Lib.hid hbr
 clear key hkW hbr
 have HS:=Lib.hid hS
 clear hS
 clear h0 h1 h2 h3 h4 h5 hb hsW hst
 go_enter Tryz.func43,Tryz.ntmps43
 go_wp2_with fail
 refine KEY.out.mono ?_
 rintro e w1 ⟨cs1,rfl,hr1,hk1⟩
 have hb1:=hk1.blk HBR.out hz
 obtain ⟨B1,B2,B3,B4,p1,q1,p2,q2,p3,q3,p4,q4,rfl,g⟩:=st_open hr1
 have hz1:=hk1.size
 have HK1:=Lib.hid hk1
 have HB1:=Lib.hid hb1
 have G:=Lib.hid g
 clear hk1 hb1 g
 go_wp2_with (refine wpList_store_all rfl _ (.tmp 6) (.tmp 16) rfl (w.heap.size + 1) 50 _ [.slice B1 p1 q1,.slice B2 p2 q2,.slice B3 p3 q3,.slice B4 p4 q4] rfl rfl HB1.out rfl (by kernel_rfl) rfl ?_; intro wz hbz hwz; have HBZ:=Lib.hid hbz; have HWZ:=Lib.hid hwz; clear hbz hwz)
 refine bodyPost_ret (results_cell1 Tryz.results43 _ _ _ ⟨w.heap.size + 1,0,none⟩ _ rfl (load_st rfl HBZ.out)) rfl ?_
 exact ⟨_,rfl,st_after HS.out (Nat.le_of_lt (by omega)) G.out HWZ.out (by omega) (by omega),Keep.write (Keep.trans HKW.out HK1.out) HWZ.out (by omega)⟩
theorem blk4b (w : World) (o1 o3 o4 : Obj) (t : TypeId) (cs : Array Value) : Blk ((((w.alloc o1).alloc (.cells cs t)).alloc o3).alloc o4) (w.heap.size + 1) t cs:=(blkM w o1 o3 t cs).alloc o4
theorem blk4c (w : World) (o1 o2 o4 : Obj) (t : TypeId) (cs : Array Value) : Blk ((((w.alloc o1).alloc o2).alloc (.cells cs t)).alloc o4) (w.heap.size + 2) t cs:=(blkL w o1 o2 t cs).alloc o4
theorem blk4d (w : World) (o1 o2 o3 : Obj) (t : TypeId) (cs : Array Value) : Blk ((((w.alloc o1).alloc o2).alloc o3).alloc (.cells cs t)) (w.heap.size + 3) t cs:=by simpa using Blk.new (((w.alloc o1).alloc o2).alloc o3) t cs
theorem built_ev (a b c d e f g : Int) : builtS Tryz.prog 89 1 [(0,.agg #[.int .i64 a,.int .i64 b,.int .i64 c,.int .i64 d,.int .i64 e,.int .i64 f,.int .i64 g])] = some #[.int .i64 a,.int .i64 b,.int .i64 c,.int .i64 d,.int .i64 e,.int .i64 f,.int .i64 g]:=by kernel_rfl
def NxtRel (W : World) (b : Nat) (x y z : Value) (evs : List Ev) (wx : World) : Prop:=
 ∃ A c,Blk wx b 50 #[x,.slice A evs.length c,y,z] ∧ Sl encEv 7 wx (fun i=>W.heap.size ≤ i ∧ i < wx.heap.size) A evs.length c evs ∧ Same (fun i=>i < W.heap.size ∧ i ≠ b) W wx
set_option maxHeartbeats 16000000 in
theorem rnext_any (w : World) (S : Nat → Prop) (cs ss : List Value) (c : Cd) (s : St) (self procs : Int) (x : Ev) (hS : ∀ i,S i → i < w.heap.size) (hc : CdR w S cs c) (hs : StR w S ss s) (h1 : s.cells.length ≤ 1000000) (h2 : s.sent.length ≤ 1000000) (h3 : s.outs.length ≤ 1000000) (h4 : s.events.length ≤ 1000000) :
  Calls Tryz.prog 46 #[.agg cs.toArray,.int .i64 self,.int .i64 procs,.agg ss.toArray,.agg (encEv x).toArray] w (StPost S (nextS c self procs s x) w):=by
 obtain ⟨A0,A1,A2,A3,A4,m0,c0,m1,c1,m2,c2,m3,c3,m4,c4,rfl,u0,u1,u2,u3,u4,u5⟩:=hc
 obtain ⟨B1,B2,B3,B4,p1,q1,p2,q2,p3,q3,p4,q4,rfl,g1,g2,g3,g4⟩:=hs
 obtain ⟨i0,hi0,iz0,iz1,iz2⟩:=info_of info_Event
 have hn2:=g2.1
 have hp2 : p2 ≤ 1000000:=by omega
 show Calls Tryz.prog 46 #[.agg #[.slice A0 m0 c0,.slice A1 m1 c1,.slice A2 m2 c2,.slice A3 m3 c3,.slice A4 m4 c4],.int .i64 self,.int .i64 procs,.agg #[.slice B1 p1 q1,.slice B2 p2 q2,.slice B3 p3 q3,.slice B4 p4 q4],.agg #[.int .i64 x.kind,.int .i64 x.inc,.int .i64 x.frm,.int .i64 x.sInc,.int .i64 x.sIdx,.int .i64 x.ord,.int .i64 x.val]] w _
 generalize hW : (((w.alloc (.cells #[.slice A0 m0 c0,.slice A1 m1 c1,.slice A2 m2 c2,.slice A3 m3 c3,.slice A4 m4 c4] 63)).alloc (.cells #[.slice B1 p1 q1,.slice B2 p2 q2,.slice B3 p3 q3,.slice B4 p4 q4] 50)).alloc (.cells #[.int .i64 x.kind,.int .i64 x.inc,.int .i64 x.frm,.int .i64 x.sInc,.int .i64 x.sIdx,.int .i64 x.ord,.int .i64 x.val] 89)).alloc (.cells #[.slice none 0 0,.slice none 0 0,.slice none 0 0,.slice none 0 0] 50) = W
 have hkW : Keep w W:=hW ▸ Keep.alloc (Keep.alloc (Keep.alloc (Keep.new w _) _) _) _
 have hb5 : Blk W w.heap.size 63 #[.slice A0 m0 c0,.slice A1 m1 c1,.slice A2 m2 c2,.slice A3 m3 c3,.slice A4 m4 c4]:=hW ▸ (((Blk.new w _ _).alloc _).alloc _).alloc _
 have hb8 : Blk W (w.heap.size + 1) 50 #[.slice B1 p1 q1,.slice B2 p2 q2,.slice B3 p3 q3,.slice B4 p4 q4]:=hW ▸ blk4b w _ _ _ _ _
 have hb9 : Blk W (w.heap.size + 2) 89 #[.int .i64 x.kind,.int .i64 x.inc,.int .i64 x.frm,.int .i64 x.sInc,.int .i64 x.sIdx,.int .i64 x.ord,.int .i64 x.val]:=hW ▸ blk4c w _ _ _ _ _
 have hb10 : Blk W (w.heap.size + 3) 50 #[.slice none 0 0,.slice none 0 0,.slice none 0 0,.slice none 0 0]:=hW ▸ blk4d w _ _ _ _ _
 have hz : w.heap.size + 3 < W.heap.size:=hb10.lt
 have hsW:=Same.mono hkW hS
 have q2':=g2.keep hsW
 have hA : True:=trivial
 have HS:=Lib.hid hS
 have HKW:=Lib.hid hkW
 have HB5:=Lib.hid hb5
 have HB8:=Lib.hid hb8
 have HB9:=Lib.hid hb9
 have HB10:=Lib.hid hb10
 have Q2':=Lib.hid q2'
 have HI0:=Lib.hid hi0
 have IZ0:=Lib.hid iz0
 have IZ1:=Lib.hid iz1
 have IZ2:=Lib.hid iz2
 have HN2:=Lib.hid hn2
 have U0:=Lib.hid u0
 have U1:=Lib.hid u1
 have U2:=Lib.hid u2
 have U3:=Lib.hid u3
 have U4:=Lib.hid u4
 have U5:=Lib.hid u5
 have G1:=Lib.hid g1
 have G2:=Lib.hid g2
 have G3:=Lib.hid g3
 have G4:=Lib.hid g4
 clear hS hkW hb5 hb8 hb9 hb10 q2' hi0 iz0 iz1 iz2 hn2 u0 u1 u2 u3 u4 u5 g1 g2 g3 g4
 clear hsW
 go_enter Tryz.func46,Tryz.ntmps46
 go_upto_region 1 with fail
 clear hW
 go_cut [] from 12 to 18 (fun wx=>NxtRel W (w.heap.size + 1) (.slice B1 p1 q1) (.slice B3 p3 q3) (.slice B4 p4 q4) (s.events ++ [x]) wx)
 case first=>
  have e1 : ∀ wx,Keep W wx → wx.cell? ⟨w.heap.size + 1,1,none⟩ = some (.slice B2 p2 q2):=fun wx hx=>(hx.cell (p:=⟨w.heap.size + 1,1,none⟩) HB8.out.lt).trans (by rw [HB8.out.cell]; rfl)
  refine wp_region_L 7 (fun wx=>Keep W wx) (fun _=>True) (by kernel_rfl) (Same.drew (Same.refl _ _)) trivial (fun hA hB=>?_)
  refine wpL_takeA (i:=0) (v:=?_) rfl (by kernel_rfl) (by kernel_rfl) (by kernel_rfl) (by kernel_rfl) (by decide) (fun _ _ _ h=>h) (Or.inl ⟨by rfl,?_⟩) hA hB ?_
  rotate_left
  ·rintro wx ⟨hAx,hBx⟩
   (try dsimp only at hBx); (try dsimp only at hAx)
   go_simp
   try with_reducible rfl
  try simp only [Act.put,List.setIfInBounds_toArray,List.set_cons_zero,List.set_cons_succ]
  refine wpL_takeA (i:=1) (v:=?_) rfl (by kernel_rfl) (by kernel_rfl) (by kernel_rfl) (by kernel_rfl) (by decide) (fun _ _ _ h=>h) (Or.inl ⟨by rfl,?_⟩) hA hB ?_
  rotate_left
  ·rintro wx ⟨hAx,hBx⟩
   (try dsimp only at hBx); (try dsimp only at hAx)
   go_simp
   try with_reducible rfl
  try simp only [Act.put,List.setIfInBounds_toArray,List.set_cons_zero,List.set_cons_succ]
  refine wpL_takeA (i:=3) rfl (by kernel_rfl) (by kernel_rfl) (by kernel_rfl) (by kernel_rfl) (by decide) (fun _ _ _ h=>h) (yieldsIf_blk (by rfl) _ _ rfl (w.heap.size + 2) 0 89 _ [.int .i64 x.kind,.int .i64 x.inc,.int .i64 x.frm,.int .i64 x.sInc,.int .i64 x.sIdx,.int .i64 x.ord,.int .i64 x.val] _ rfl (fun wx hx=>hx.1.blk HB9.out HB9.out.lt) (fun j u hu=>by simpa using hu) Tryz.underlying89 rfl (by kernel_rfl)) hA hB ?_
  try simp only [Act.put,List.setIfInBounds_toArray,List.set_cons_zero,List.set_cons_succ]
  clear e1
  refine wpL_two (i:=2) (j:=4) (by kernel_rfl) (StepL.mk rfl (fun K hK=>?_)) (StepL.mk rfl (fun K hK=>?_))
  ·refine step_append_any _ (by rfl) (.const (.slice none 0 0)) (.tmp 13) _ (by rfl) W.heap.size 89 i0 _ 7 56 Tryz.underlying46 HI0.out IZ0.out IZ1.out IZ2.out rfl (by omega) (.slice none 0 0) 0 [] (by rfl) (World.ownsRow_nil _ _ _ _) _ B2 p2 q2 (s.events.flatMap encEv) (by rfl) (Q2'.out.keep (Same.drew (Same.refl _ _))).2.2.2 (one_of encEv_one _) (by simp [maxLen]; omega) (by omega) hA.size ?_
   intro va wa howna hga hata
   have hka : Keep W wa:=Same.append hA (World.ownsRow_nil _ W.heap.size 89 7) hga (fun i hi=>hi) hA.size
   have howna' : wa.ownsRow W.heap.size 89 7 va s.events.length (s.events.flatMap encEv):=by have:=HN2.out; simpa [this] using howna
   refine hK.out _ _ (SAB.both hka trivial) (fun hSS=>?_)
   clear hK K hA hB
   have hB:=hSS.2
   have hA:=hSS.1 (by kernel_rfl)
   (try dsimp only at hB); (try dsimp only at hA); clear hSS
   try simp only [Act.put,List.setIfInBounds_toArray,List.set_cons_zero,List.set_cons_succ]
   refine wpL_one (i:=4) (by kernel_rfl) (StepL.mk rfl (fun K hK=>?_))
   refine step_buildS rfl _ _ _ _ rfl Tryz.underlying46 _ [(0,.agg #[.int .i64 x.kind,.int .i64 x.inc,.int .i64 x.frm,.int .i64 x.sInc,.int .i64 x.sIdx,.int .i64 x.ord,.int .i64 x.val])] rfl (built_ev _ _ _ _ _ _ _) ?_
   have hk1 : Keep wa (wa.alloc (.cells #[.int .i64 x.kind,.int .i64 x.inc,.int .i64 x.frm,.int .i64 x.sInc,.int .i64 x.sIdx,.int .i64 x.ord,.int .i64 x.val] 89)):=Keep.new _ _
   have hk1':=Keep.trans hka hk1
   refine hK.out _ _ (SAB.both hk1' trivial) (fun hSS=>?_)
   clear hK K hA hB
   have hB:=hSS.2
   have hA:=hSS.1 (by kernel_rfl)
   (try dsimp only at hB); (try dsimp only at hA); clear hSS
   try simp only [Act.put,List.setIfInBounds_toArray,List.set_cons_zero,List.set_cons_succ]
   refine wpL_one (i:=5) (by kernel_rfl) (StepL.mk rfl (fun K hK=>?_))
   refine step_append_any _ (by rfl) (.tmp 14) (.tmp 16) _ (by rfl) W.heap.size 89 i0 _ 7 56 Tryz.underlying46 HI0.out IZ0.out IZ1.out IZ2.out rfl (by omega) va s.events.length (s.events.flatMap encEv) (by rfl) (ownsRow_same howna' hk1 (fun i hi=>hi.2)) _ (some ⟨wa.heap.size,0,none⟩) 1 1 (encEv x) (by rfl) (Reads.new rfl) (encEv_one _) (by simp [maxLen]; omega) (by omega) (hk1'.size) ?_
   intro vb wb hownb hgb hatb
   have hkb : Keep W wb:=Same.append hk1' (ownsRow_same howna' hk1 (fun i hi=>hi.2)) hgb (fun i hi=>hi) hk1'.size
   refine hK.out _ _ (SAB.both hkb trivial) (fun hSS=>?_)
   clear hK K hA hB
   have hB:=hSS.2
   have hA:=hSS.1 (by kernel_rfl)
   (try dsimp only at hB); (try dsimp only at hA); clear hSS
   try simp only [Act.put,List.setIfInBounds_toArray,List.set_cons_zero,List.set_cons_succ]
   obtain ⟨Ab,cb,hvb,hnb,hcb⟩:=own_form hownb
   subst hvb
   refine wpL_takeA (i:=6) (v:=?_) rfl (by kernel_rfl) (by kernel_rfl) (by kernel_rfl) (by kernel_rfl) (by decide) (fun _ _ _ h=>h) (Or.inl ⟨by rfl,?_⟩) hA hB ?_
   rotate_left
   ·rintro wx ⟨hAx,hBx⟩
    (try dsimp only at hBx); (try dsimp only at hAx)
    go_simp
    try with_reducible rfl
   try simp only [Act.put,List.setIfInBounds_toArray,List.set_cons_zero,List.set_cons_succ]
   refine wpL_one (i:=7) (by kernel_rfl) (StepL.mk rfl (fun K hK=>?_))
   refine step_store_one rfl _ _ _ rfl (w.heap.size + 1) 1 50 _ (.slice Ab (s.events.length + 1) cb) rfl rfl (hkb.blk HB8.out HB8.out.lt) (by simp) (by kernel_rfl) rfl rfl ?_
   intro wc hbc hsc
   have hfin : NxtRel W (w.heap.size + 1) (.slice B1 p1 q1) (.slice B3 p3 q3) (.slice B4 p4 q4) (s.events ++ [x]) wc:=by
    refine ⟨Ab,cb,by simpa using hbc,?_,Same.trans (Same.mono hkb (fun i hi=>hi.1)) hsc (fun i hi=>hi.2)⟩
    have o:=ownsRow_own hownb hsc (fun b hb e=>by have:=(hownb.lt b hb).1; omega)
    have o' : wc.ownsRow W.heap.size 89 7 (.slice Ab (s.events.length + 1) cb) (s.events ++ [x]).length ((s.events ++ [x]).flatMap encEv):=by simpa using o
    obtain ⟨_,_,ee,p⟩:=Sl.of_own o'
    injection ee with e1 _ e2
    subst e1 e2
    exact p
   refine hK.out _ _ (SAB.past (by kernel_rfl) trivial) (fun hSS=>?_)
   clear hK K hA hB
   have hB:=hSS.2
   have hA : True:=trivial
   (try dsimp only at hB); (try dsimp only at hA); clear hSS
   try simp only [Act.put,List.setIfInBounds_toArray,List.set_cons_zero,List.set_cons_succ]
   refine wpL_done (by kernel_rfl) ?_
   have HFIN:=Lib.hid hfin
   clear hfin
   clear hbc hsc hkb hk1 hk1' hka howna howna' hownb hga hgb hata hatb hA hB
   go_wp2_with fail
   go_meet
   exact HFIN.out
  ·refine step_buildS rfl _ _ _ _ rfl Tryz.underlying46 _ [(0,.agg #[.int .i64 x.kind,.int .i64 x.inc,.int .i64 x.frm,.int .i64 x.sInc,.int .i64 x.sIdx,.int .i64 x.ord,.int .i64 x.val])] rfl (built_ev _ _ _ _ _ _ _) ?_
   have hk1 : Keep W (W.drew.alloc (.cells #[.int .i64 x.kind,.int .i64 x.inc,.int .i64 x.frm,.int .i64 x.sInc,.int .i64 x.sIdx,.int .i64 x.ord,.int .i64 x.val] 89)):=Keep.alloc (Same.drew (Same.refl _ _)) _
   have hrd:=Reads.new (w:=W.drew) (e:=89) (cs:=encEv x) (size:=7) (n:=1) rfl
   have hz1 : W.heap.size < (W.drew.alloc (.cells #[.int .i64 x.kind,.int .i64 x.inc,.int .i64 x.frm,.int .i64 x.sInc,.int .i64 x.sIdx,.int .i64 x.ord,.int .i64 x.val] 89)).heap.size:=by simp
   refine hK.out _ _ (SAB.both hk1 trivial) (fun hSS=>?_)
   clear hK K hA hB
   have hB:=hSS.2
   have hA:=hSS.1 (by kernel_rfl)
   (try dsimp only at hB); (try dsimp only at hA); clear hSS
   try simp only [Act.put,List.setIfInBounds_toArray,List.set_cons_zero,List.set_cons_succ]
   generalize hwa : W.drew.alloc (.cells #[.int .i64 x.kind,.int .i64 x.inc,.int .i64 x.frm,.int .i64 x.sInc,.int .i64 x.sIdx,.int .i64 x.ord,.int .i64 x.val] 89) = wa at *
   have hrd' : Reads wa (fun i=>i = W.heap.size) 7 (some ⟨W.heap.size,0,none⟩) 1 (encEv x):=hwa ▸ hrd
   clear hwa hrd
   refine wpL_one (i:=2) (by kernel_rfl) (StepL.mk rfl (fun K hK=>?_))
   refine step_append_any _ (by rfl) (.const (.slice none 0 0)) (.tmp 13) _ (by rfl) wa.heap.size 89 i0 _ 7 56 Tryz.underlying46 HI0.out IZ0.out IZ1.out IZ2.out rfl (by omega) (.slice none 0 0) 0 [] (by rfl) (World.ownsRow_nil _ _ _ _) _ B2 p2 q2 (s.events.flatMap encEv) (by rfl) ((Q2'.out.more (T:=fun i=>i < W.heap.size) (fun i hi=>by have:=HS.out i hi; omega)).keep hk1).2.2.2 (one_of encEv_one _) (by simp [maxLen]; omega) (by omega) (Nat.le_refl _) ?_
   intro va wb howna hga hata
   have hka0 : Keep wa wb:=Same.append (Same.refl _ _) (World.ownsRow_nil _ wa.heap.size 89 7) hga (fun i hi=>hi) (Nat.le_refl _)
   have hka : Keep W wb:=Keep.trans hk1 hka0
   have howna' : wb.ownsRow wa.heap.size 89 7 va s.events.length (s.events.flatMap encEv):=by have:=HN2.out; simpa [this] using howna
   refine hK.out _ _ (SAB.both hka trivial) (fun hSS=>?_)
   clear hK K hA hB
   have hB:=hSS.2
   have hA:=hSS.1 (by kernel_rfl)
   (try dsimp only at hB); (try dsimp only at hA); clear hSS
   try simp only [Act.put,List.setIfInBounds_toArray,List.set_cons_zero,List.set_cons_succ]
   refine wpL_one (i:=5) (by kernel_rfl) (StepL.mk rfl (fun K hK=>?_))
   refine step_append_any _ (by rfl) (.tmp 14) (.tmp 16) _ (by rfl) wa.heap.size 89 i0 _ 7 56 Tryz.underlying46 HI0.out IZ0.out IZ1.out IZ2.out rfl (by omega) va s.events.length (s.events.flatMap encEv) (by rfl) howna' _ (some ⟨W.heap.size,0,none⟩) 1 1 (encEv x) (by rfl) (hrd'.keep (hka0.mono (fun i hi=>by omega))) (encEv_one _) (by simp [maxLen]; omega) (by omega) (hka0.size) ?_
   intro vb wd hownb hgb hatb
   have hkb : Keep W wd:=Same.append hka howna' hgb (fun i hi=>by omega) hka0.size
   refine hK.out _ _ (SAB.both hkb trivial) (fun hSS=>?_)
   clear hK K hA hB
   have hB:=hSS.2
   have hA:=hSS.1 (by kernel_rfl)
   (try dsimp only at hB); (try dsimp only at hA); clear hSS
   try simp only [Act.put,List.setIfInBounds_toArray,List.set_cons_zero,List.set_cons_succ]
   obtain ⟨Ab,cb,hvb,hnb,hcb⟩:=own_form hownb
   subst hvb
   refine wpL_takeA (i:=6) (v:=?_) rfl (by kernel_rfl) (by kernel_rfl) (by kernel_rfl) (by kernel_rfl) (by decide) (fun _ _ _ h=>h) (Or.inl ⟨by rfl,?_⟩) hA hB ?_
   rotate_left
   ·rintro wx ⟨hAx,hBx⟩
    (try dsimp only at hBx); (try dsimp only at hAx)
    go_simp
    try with_reducible rfl
   try simp only [Act.put,List.setIfInBounds_toArray,List.set_cons_zero,List.set_cons_succ]
   refine wpL_one (i:=7) (by kernel_rfl) (StepL.mk rfl (fun K hK=>?_))
   refine step_store_one rfl _ _ _ rfl (w.heap.size + 1) 1 50 _ (.slice Ab (s.events.length + 1) cb) rfl rfl (hkb.blk HB8.out HB8.out.lt) (by simp) (by kernel_rfl) rfl rfl ?_
   intro wc hbc hsc
   have hfin : NxtRel W (w.heap.size + 1) (.slice B1 p1 q1) (.slice B3 p3 q3) (.slice B4 p4 q4) (s.events ++ [x]) wc:=by
    refine ⟨Ab,cb,by simpa using hbc,?_,Same.trans (Same.mono hkb (fun i hi=>hi.1)) hsc (fun i hi=>hi.2)⟩
    have o:=ownsRow_own (ownsRow_less hownb (Nat.le_of_lt hz1)) hsc (fun b hb e=>by have:=(hownb.lt b hb).1; omega)
    have o' : wc.ownsRow W.heap.size 89 7 (.slice Ab (s.events.length + 1) cb) (s.events ++ [x]).length ((s.events ++ [x]).flatMap encEv):=by simpa using o
    obtain ⟨_,_,ee,p⟩:=Sl.of_own o'
    injection ee with e1 _ e2
    subst e1 e2
    exact p
   refine hK.out _ _ (SAB.past (by kernel_rfl) trivial) (fun hSS=>?_)
   clear hK K hA hB
   have hB:=hSS.2
   have hA : True:=trivial
   (try dsimp only at hB); (try dsimp only at hA); clear hSS
   try simp only [Act.put,List.setIfInBounds_toArray,List.set_cons_zero,List.set_cons_succ]
   refine wpL_done (by kernel_rfl) ?_
   have HFIN:=Lib.hid hfin
   clear hfin
   clear hbc hsc hkb hk1 hka hka0 howna howna' hownb hga hgb hata hatb hA hB hrd' hz1
   go_wp2_with fail
   go_meet
   exact HFIN.out
 case rest=>
  obtain ⟨Ae,ce,hbs,hes,hsc⟩:=hcut
  have hzc:=hsc.size
  generalize hev : s.events ++ [x] = evs at hbs hes
  have hevl : evs.length = s.events.length + 1:=by rw [← hev]; simp
  have hb5c:=hsc.blk HB5.out ⟨by omega,by omega⟩
  have hb9c:=hsc.blk HB9.out ⟨by omega,by omega⟩
  have hb10c:=hsc.blk HB10.out ⟨by omega,by omega⟩
  have hwc : Keep w wc:=Same.trans HKW.out hsc (fun i hi=>⟨by omega,by omega⟩)
  obtain ⟨T,hT⟩ : ∃ T : Nat → Prop,T = fun i=>S i ∨ (W.heap.size ≤ i ∧ i < wc.heap.size):=⟨_,rfl⟩
  have hST : ∀ i,S i → T i:=fun i hi=>by rw [hT]; exact .inl hi
  have hTc : ∀ i,T i → i < wc.heap.size:=fun i hi=>by rw [hT] at hi; exact hi.elim (fun h=>by have:=HS.out i h; omega) (fun h=>h.2)
  have hTw : ∀ i,T i → i < w.heap.size ∨ W.heap.size ≤ i:=fun i hi=>by rw [hT] at hi; exact hi.elim (fun h=>.inl (HS.out i h)) (fun h=>.inr h.1)
  have hTn : ∀ i,T i → Sn S w wc i:=fun i hi=>by rw [hT] at hi; exact hi.elim .inl (fun h=>.inr ⟨by omega,h.2⟩)
  have hsS:=Same.mono hwc HS.out
  have hstc : StR wc T [.slice B1 p1 q1,.slice Ae evs.length ce,.slice B3 p3 q3,.slice B4 p4 q4] { s with events:=evs }:=⟨_,_,_,_,_,_,_,_,_,_,_,_,rfl,(G1.out.keep hsS).more hST,hes.more (fun i hi=>by rw [hT]; exact .inr hi),(G3.out.keep hsS).more hST,(G4.out.keep hsS).more hST⟩
  have key : ∀ (wx : World) (A : Option Addr) (m c : Nat) (body : List Stm) (v : EnvS),Keep wc wx → SlR w S 18 (StmR w S 3) A m c body → Calls Tryz.prog 60 #[.agg #[.slice B1 p1 q1,.slice Ae evs.length ce,.slice B3 p3 q3,.slice B4 p4 q4],.slice A m c,.agg #[.int .i64 v.self,.int .i64 v.procs,.int .i64 v.frm,.int .i64 v.val],.int .i64 evs.length] wx (StPost T (runS v body s.cells evs.length { s with events:=evs }) wx):=fun wx A m c body v hx hb=>
   rexecute_any 3 wx T [.slice B1 p1 q1,.slice Ae evs.length ce,.slice B3 p3 q3,.slice B4 p4 q4] { s with events:=evs } A m c body v evs.length (fun i hi=>Nat.lt_of_lt_of_le (hTc i hi) hx.size) (hstc.keep (hx.mono hTc)) ((hb.keep (Same.mono (Keep.trans hwc hx) HS.out) (StmR.keep (Same.mono (Keep.trans hwc hx) HS.out) _)).more hST (StmR.more hST _)) h1 h2 h3
  have fin : ∀ (wx w1 wz : World) (csx : List Value) (st : St),Keep wc wx → Keep wx w1 → StR w1 (Sn T wx w1) csx st → Same (· ≠ w.heap.size + 3) w1 wz → StR wz (Sn S w wz) csx st ∧ Keep w wz:=fun wx w1 wz csx st hx h1 hst hs=>by
   have z1:=hx.size
   have z2:=h1.size
   have z3:=hs.size
   refine ⟨(hst.keep (hs.mono (fun i hi e=>?_))).more (fun i hi=>?_),Keep.write (Keep.trans (Keep.trans hwc hx) h1) hs (by omega)⟩
   ·rcases hi with hi | hi
    ·rcases hTw i hi with h | h <;> omega
    ·omega
   ·rcases hi with hi | hi
    ·rcases hTn i hi with h | h
     ·exact .inl h
     ·exact .inr ⟨h.1,by omega⟩
    ·exact .inr ⟨by omega,by omega⟩
  have e9a : wc.cell? ⟨w.heap.size + 2,6,none⟩ = some (.int .i64 x.val):=by rw [hb9c.cell]; rfl
  have hnx : nextS c self procs s x = if x.kind = 1 then runS ⟨self,procs,x.frm,x.val⟩ c.message s.cells evs.length { s with events:=evs } else if x.kind = 2 then runS ⟨self,procs,self,x.val⟩ c.tick s.cells evs.length { s with events:=evs } else if x.kind = 3 then runS ⟨self,procs,self,x.val⟩ c.input s.cells evs.length { s with events:=evs } else { s with events:=evs }:=by
   rw [hevl,← hev]
   unfold nextS
   push_cast
   rfl
  clear hev hT hes hsS hsc
  have hl9 : evs.length ≤ 2000000:=by omega
  have hstc':=hstc
  have HB5C:=Lib.hid hb5c
  have HB9C:=Lib.hid hb9c
  have HB10C:=Lib.hid hb10c
  have HWC:=Lib.hid hwc
  have KEY:=Lib.hid key
  have FIN:=Lib.hid fin
  have HNX:=Lib.hid hnx
  have HBS:=Lib.hid hbs
  have HSTC':=Lib.hid hstc'
  have HTC:=Lib.hid hTc
  have HTN:=Lib.hid hTn
  have HTW:=Lib.hid hTw
  have HEVL:=Lib.hid hevl
  clear hb5c hb9c hb10c hwc key fin hnx hbs hstc' hTc hTn hTw hevl
  clear hstc
  go_upto_region 3 with (refine wpList_store_all rfl _ (.tmp 11) (.tmp 24) rfl wc.heap.size 127 _ [.int .i64 self,.int .i64 procs,.int .i64 self,.int .i64 x.val] rfl rfl (Blk.new _ _ _) rfl (by kernel_rfl) rfl ?_; intro w2 hb2 hs2)
  have hk2 : Keep wc w2:=Keep.write (Keep.new _ _) hs2 (Nat.le_refl _)
  have hz2 : wc.heap.size < w2.heap.size:=hb2.lt
  have e9 : w2.cell? ⟨w.heap.size + 2,0,none⟩ = some (.int .i64 x.kind):=(hk2.cell (p:=⟨w.heap.size + 2,0,none⟩) HB9C.out.lt).trans (by rw [HB9C.out.cell]; rfl)
  have e9f : w2.cell? ⟨w.heap.size + 2,2,none⟩ = some (.int .i64 x.frm):=(hk2.cell (p:=⟨w.heap.size + 2,2,none⟩) HB9C.out.lt).trans (by rw [HB9C.out.cell]; rfl)
  clear e9a
  have HB2:=Lib.hid hb2
  have HK2:=Lib.hid hk2
  clear hb2 hk2
  clear hs2
  by_cases hk1 : x.kind = 1
  ·have kb : (x.kind == 1) = true:=by simpa using hk1
   as_aux_lemma=>
   go_upto_region 6 with (refine wpList_store_one rfl _ (.tmp 31) _ rfl wc.heap.size 2 127 _ (.int .i64 x.frm) rfl rfl HB2.out (by simp) (by kernel_rfl) rfl rfl ?_; intro w3 hb3 hs3)
   have hb3' : Blk w3 wc.heap.size 127 #[.int .i64 self,.int .i64 procs,.int .i64 x.frm,.int .i64 x.val]:=by simpa using hb3
   have hk3 : Keep wc w3:=Keep.write HK2.out hs3 (Nat.le_refl _)
   clear hb3 hs3
   have hb8w:=hk3.blk HBS.out HBS.out.lt
   have f5 : w3.cell? ⟨w.heap.size,2,none⟩ = some (.slice A2 m2 c2):=(hk3.cell (p:=⟨w.heap.size,2,none⟩) HB5C.out.lt).trans (by rw [HB5C.out.cell]; rfl)
   have f8 : w3.cell? ⟨w.heap.size + 1,1,none⟩ = some (.slice Ae evs.length ce):=by rw [hb8w.cell]; rfl
   have hcall:=KEY.out w3 A2 m2 c2 c.message ⟨self,procs,x.frm,x.val⟩ hk3 U2.out
   have hb10w:=hk3.blk HB10C.out HB10C.out.lt
   have HB3':=Lib.hid hb3'
   have HK3:=Lib.hid hk3
   have HB8W:=Lib.hid hb8w
   have HCALL:=Lib.hid hcall
   have HB10W:=Lib.hid hb10w
   clear hb3' hk3 hb8w hcall hb10w
   go_wp2_with (first
    | (refine wpList_load_all rfl _ (.tmp 8) rfl (w.heap.size + 1) 50 [.slice B1 p1 q1,.slice Ae evs.length ce,.slice B3 p3 q3,.slice B4 p4 q4] _ rfl HB8W.out Tryz.underlying50 rfl (by kernel_rfl) ?_)
    | (refine wpList_load_all rfl _ (.tmp 11) rfl wc.heap.size 127 [.int .i64 self,.int .i64 procs,.int .i64 x.frm,.int .i64 x.val] _ rfl HB3'.out Tryz.underlying127 rfl (by kernel_rfl) ?_))
   refine HCALL.out.mono ?_
   rintro e w4 ⟨cs4,rfl,hr4,hk4⟩
   obtain ⟨D1,D2,D3,D4,d1,f1,d2,f2,d3,f3,d4,f4,rfl,hr4⟩:=st_open hr4
   have hb10z:=hk4.blk HB10W.out HB10W.out.lt
   have HR4:=Lib.hid hr4
   have HK4:=Lib.hid hk4
   have HB10Z:=Lib.hid hb10z
   clear hr4 hk4 hb10z
   clear f5 f8
   go_wp2_with (refine wpList_store_all rfl _ (.tmp 10) (.tmp 39) rfl (w.heap.size + 3) 50 _ [.slice D1 d1 f1,.slice D2 d2 f2,.slice D3 d3 f3,.slice D4 d4 f4] rfl rfl HB10Z.out rfl (by kernel_rfl) rfl ?_; intro wz hbz hwz; have HBZ:=Lib.hid hbz; have HWZ:=Lib.hid hwz; clear hbz hwz)
   refine bodyPost_ret (results_cell1 Tryz.results46 _ _ _ ⟨w.heap.size + 3,0,none⟩ _ rfl (load_st rfl HBZ.out)) rfl ?_
   have:=FIN.out w3 w4 wz _ _ HK3.out HK4.out HR4.out HWZ.out
   have hq:=HNX.out
   rw [if_pos hk1] at hq
   rw [hq]
   exact ⟨_,rfl,this.1,this.2 ⟩
  have kf1 : (x.kind == 1) = false:=by simpa using hk1
  by_cases hk2 : x.kind = 2
  ·have kb : (x.kind == 2) = true:=by simpa using hk2
   as_aux_lemma=>
   have hb3':=HB2.out
   have hk3:=HK2.out
   have hb8w:=hk3.blk HBS.out HBS.out.lt
   have f5 : w2.cell? ⟨w.heap.size,3,none⟩ = some (.slice A3 m3 c3):=(hk3.cell (p:=⟨w.heap.size,3,none⟩) HB5C.out.lt).trans (by rw [HB5C.out.cell]; rfl)
   have f8 : w2.cell? ⟨w.heap.size + 1,1,none⟩ = some (.slice Ae evs.length ce):=by rw [hb8w.cell]; rfl
   have hcall:=KEY.out w2 A3 m3 c3 c.tick ⟨self,procs,self,x.val⟩ hk3 U3.out
   have hb10w:=hk3.blk HB10C.out HB10C.out.lt
   have HB3':=Lib.hid hb3'
   have HK3:=Lib.hid hk3
   have HB8W:=Lib.hid hb8w
   have HCALL:=Lib.hid hcall
   have HB10W:=Lib.hid hb10w
   clear hb3' hk3 hb8w hcall hb10w
   go_wp2_with (first
    | (refine wpList_load_all rfl _ (.tmp 8) rfl (w.heap.size + 1) 50 [.slice B1 p1 q1,.slice Ae evs.length ce,.slice B3 p3 q3,.slice B4 p4 q4] _ rfl HB8W.out Tryz.underlying50 rfl (by kernel_rfl) ?_)
    | (refine wpList_load_all rfl _ (.tmp 11) rfl wc.heap.size 127 [.int .i64 self,.int .i64 procs,.int .i64 self,.int .i64 x.val] _ rfl HB3'.out Tryz.underlying127 rfl (by kernel_rfl) ?_))
   refine HCALL.out.mono ?_
   rintro e w4 ⟨cs4,rfl,hr4,hk4⟩
   obtain ⟨D1,D2,D3,D4,d1,f1,d2,f2,d3,f3,d4,f4,rfl,hr4⟩:=st_open hr4
   have hb10z:=hk4.blk HB10W.out HB10W.out.lt
   have HR4:=Lib.hid hr4
   have HK4:=Lib.hid hk4
   have HB10Z:=Lib.hid hb10z
   clear hr4 hk4 hb10z
   clear f5 f8
   go_wp2_with (refine wpList_store_all rfl _ (.tmp 10) (.tmp 49) rfl (w.heap.size + 3) 50 _ [.slice D1 d1 f1,.slice D2 d2 f2,.slice D3 d3 f3,.slice D4 d4 f4] rfl rfl HB10Z.out rfl (by kernel_rfl) rfl ?_; intro wz hbz hwz; have HBZ:=Lib.hid hbz; have HWZ:=Lib.hid hwz; clear hbz hwz)
   refine bodyPost_ret (results_cell1 Tryz.results46 _ _ _ ⟨w.heap.size + 3,0,none⟩ _ rfl (load_st rfl HBZ.out)) rfl ?_
   have:=FIN.out w2 w4 wz _ _ HK3.out HK4.out HR4.out HWZ.out
   have hq:=HNX.out
   rw [if_neg hk1,if_pos hk2] at hq
   rw [hq]
   exact ⟨_,rfl,this.1,this.2 ⟩
  have kf2 : (x.kind == 2) = false:=by simpa using hk2
  by_cases hk3 : x.kind = 3
  ·have kb : (x.kind == 3) = true:=by simpa using hk3
   as_aux_lemma=>
   have hb3':=HB2.out
   have hk3:=HK2.out
   have hb8w:=hk3.blk HBS.out HBS.out.lt
   have f5 : w2.cell? ⟨w.heap.size,4,none⟩ = some (.slice A4 m4 c4):=(hk3.cell (p:=⟨w.heap.size,4,none⟩) HB5C.out.lt).trans (by rw [HB5C.out.cell]; rfl)
   have f8 : w2.cell? ⟨w.heap.size + 1,1,none⟩ = some (.slice Ae evs.length ce):=by rw [hb8w.cell]; rfl
   have hcall:=KEY.out w2 A4 m4 c4 c.input ⟨self,procs,self,x.val⟩ hk3 U4.out
   have hb10w:=hk3.blk HB10C.out HB10C.out.lt
   have HB3':=Lib.hid hb3'
   have HK3:=Lib.hid hk3
   have HB8W:=Lib.hid hb8w
   have HCALL:=Lib.hid hcall
   have HB10W:=Lib.hid hb10w
   clear hb3' hk3 hb8w hcall hb10w
   go_wp2_with (first
    | (refine wpList_load_all rfl _ (.tmp 8) rfl (w.heap.size + 1) 50 [.slice B1 p1 q1,.slice Ae evs.length ce,.slice B3 p3 q3,.slice B4 p4 q4] _ rfl HB8W.out Tryz.underlying50 rfl (by kernel_rfl) ?_)
    | (refine wpList_load_all rfl _ (.tmp 11) rfl wc.heap.size 127 [.int .i64 self,.int .i64 procs,.int .i64 self,.int .i64 x.val] _ rfl HB3'.out Tryz.underlying127 rfl (by kernel_rfl) ?_))
   refine HCALL.out.mono ?_
   rintro e w4 ⟨cs4,rfl,hr4,hk4⟩
   obtain ⟨D1,D2,D3,D4,d1,f1,d2,f2,d3,f3,d4,f4,rfl,hr4⟩:=st_open hr4
   have hb10z:=hk4.blk HB10W.out HB10W.out.lt
   have HR4:=Lib.hid hr4
   have HK4:=Lib.hid hk4
   have HB10Z:=Lib.hid hb10z
   clear hr4 hk4 hb10z
   clear f5 f8
   go_wp2_with (refine wpList_store_all rfl _ (.tmp 10) (.tmp 59) rfl (w.heap.size + 3) 50 _ [.slice D1 d1 f1,.slice D2 d2 f2,.slice D3 d3 f3,.slice D4 d4 f4] rfl rfl HB10Z.out rfl (by kernel_rfl) rfl ?_; intro wz hbz hwz; have HBZ:=Lib.hid hbz; have HWZ:=Lib.hid hwz; clear hbz hwz)
   refine bodyPost_ret (results_cell1 Tryz.results46 _ _ _ ⟨w.heap.size + 3,0,none⟩ _ rfl (load_st rfl HBZ.out)) rfl ?_
   have:=FIN.out w2 w4 wz _ _ HK3.out HK4.out HR4.out HWZ.out
   have hq:=HNX.out
   rw [if_neg hk1,if_neg hk2,if_pos hk3] at hq
   rw [hq]
   exact ⟨_,rfl,this.1,this.2 ⟩
  have kf3 : (x.kind == 3) = false:=by simpa using hk3
  have hb8w:=HK2.out.blk HBS.out HBS.out.lt
  have hb10w:=HK2.out.blk HB10C.out HB10C.out.lt
  have HB8W:=Lib.hid hb8w
  have HB10W:=Lib.hid hb10w
  clear hb8w hb10w
  go_wp2_with (first
   | (refine wpList_load_all rfl _ (.tmp 8) rfl (w.heap.size + 1) 50 [.slice B1 p1 q1,.slice Ae evs.length ce,.slice B3 p3 q3,.slice B4 p4 q4] _ rfl HB8W.out Tryz.underlying50 rfl (by kernel_rfl) ?_)
   | (refine wpList_store_all rfl _ (.tmp 10) (.tmp 60) rfl (w.heap.size + 3) 50 _ [.slice B1 p1 q1,.slice Ae evs.length ce,.slice B3 p3 q3,.slice B4 p4 q4] rfl rfl HB10W.out rfl (by kernel_rfl) rfl ?_; intro wz hbz hwz; have HBZ:=Lib.hid hbz; have HWZ:=Lib.hid hwz; clear hbz hwz))
  refine bodyPost_ret (results_cell1 Tryz.results46 _ _ _ ⟨w.heap.size + 3,0,none⟩ _ rfl (load_st rfl HBZ.out)) rfl ?_
  have:=FIN.out w2 w2 wz _ _ HK2.out (Same.refl _ _) ((HSTC'.out.keep (HK2.out.mono HTC.out)).more (fun i hi=>.inl hi)) HWZ.out
  have hq:=HNX.out
  rw [if_neg hk1,if_neg hk2,if_neg hk3] at hq
  rw [hq]
  exact ⟨_,rfl,this.1,this.2⟩
end Go.Proofs.YtipegaojiokppaaGreatDoor
