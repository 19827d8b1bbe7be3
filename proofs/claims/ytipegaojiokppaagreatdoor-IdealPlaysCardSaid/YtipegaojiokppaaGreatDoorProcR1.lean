import Derived.Test.YtipegaojiokppaaGreatDoorRMach5
set_option linter.unusedVariables false
set_option linter.unusedSimpArgs false
set_option maxRecDepth 100000
namespace Go.Proofs.YtipegaojiokppaaGreatDoor
open Go.RowKit Go.Proofs
theorem info_Send : (Tryz.prog.info? 92).map (fun i=>(i.zero,i.size,i.bytes)) = some (some (.agg #[.int .i64 0,.int .i64 0,.int .i64 0,.int .i64 0]),4,32):=by kernel_rfl
theorem info_Output : (Tryz.prog.info? 52).map (fun i=>(i.zero,i.size,i.bytes)) = some (some (.agg #[.int .i64 0,.int .i64 0]),2,16):=by kernel_rfl
theorem built_send (a b c d : Int) : builtS Tryz.prog 92 1 [(0,.agg #[.int .i64 a,.int .i64 b,.int .i64 c,.int .i64 d])] = some #[.int .i64 a,.int .i64 b,.int .i64 c,.int .i64 d]:=by kernel_rfl
theorem built_out (a b : Int) : builtS Tryz.prog 52 1 [(0,.agg #[.int .i64 a,.int .i64 b])] = some #[.int .i64 a,.int .i64 b]:=by kernel_rfl
theorem blkM (w : World) (o1 o3 : Obj) (t : TypeId) (cs : Array Value) : Blk (((w.alloc o1).alloc (.cells cs t)).alloc o3) (w.heap.size + 1) t cs:=by simpa using (Blk.new (w.alloc o1) t cs).alloc o3
theorem blkL (w : World) (o1 o2 : Obj) (t : TypeId) (cs : Array Value) : Blk (((w.alloc o1).alloc o2).alloc (.cells cs t)) (w.heap.size + 2) t cs:=by simpa using Blk.new ((w.alloc o1).alloc o2) t cs
def cntS (l : List Eff) : Nat:=(l.filter (fun e=>e.kind == 1)).length
theorem cntS_le (l : List Eff) : cntS l ≤ l.length:=List.length_filter_le _ _
theorem cntS_snoc (l : List Eff) (e : Eff) : cntS (l ++ [e]) = cntS l + (if e.kind = 1 then 1 else 0):=by
 unfold cntS
 rw [List.filter_append,List.length_append]
 by_cases h : e.kind = 1 <;> simp [h]
theorem sendsOf_snoc (ix : Int) (e : Eff) : ∀ (l : List Eff) (o : Int),sendsOf ix o (l ++ [e]) = sendsOf ix o l ++ (if e.kind = 1 then [⟨ix,o + cntS l,e.dst,e.val⟩] else [])
 | [],o=>by simp [sendsOf,cntS]
 | x :: l,o=>by
  rw [List.cons_append,sendsOf,sendsOf]
  by_cases hx : x.kind = 1
  ·rw [if_pos hx,if_pos hx,sendsOf_snoc ix e l (o + 1),List.cons_append]
   have : cntS (x :: l) = cntS l + 1:=by simp [cntS,hx]
   have e2 : o + 1 + (cntS l : Int) = o + ((cntS l + 1 : Nat) : Int):=by omega
   rw [this,e2]
  ·rw [if_neg hx,if_neg hx,sendsOf_snoc ix e l o]
   have : cntS (x :: l) = cntS l:=by simp [cntS,hx]
   rw [this]
theorem outsOf_snoc (ix : Int) (e : Eff) : ∀ l : List Eff,outsOf ix (l ++ [e]) = outsOf ix l ++ (if e.kind = 1 then [] else [⟨ix,e.val⟩])
 | []=>by simp [outsOf]
 | x :: l=>by
  rw [List.cons_append,outsOf,outsOf]
  by_cases hx : x.kind = 1
  ·rw [if_pos hx,if_pos hx,outsOf_snoc ix e l]
  ·rw [if_neg hx,if_neg hx,outsOf_snoc ix e l,List.cons_append]
theorem sendsOf_len (ix : Int) : ∀ (l : List Eff) (o : Int),(sendsOf ix o l).length ≤ l.length
 | [],_=>by simp [sendsOf]
 | x :: l,o=>by
  rw [sendsOf]
  split
  ·have:=sendsOf_len ix l (o + 1); simp; omega
  ·have:=sendsOf_len ix l o; simp; omega
theorem outsOf_len (ix : Int) : ∀ l : List Eff,(outsOf ix l).length ≤ l.length
 | []=>by simp [outsOf]
 | x :: l=>by
  rw [outsOf]
  split
  ·have:=outsOf_len ix l; simp; omega
  ·have:=outsOf_len ix l; simp; omega
def Sn (S : Nat → Prop) (w w' : World) (i : Nat) : Prop:=S i ∨ (w.heap.size ≤ i ∧ i < w'.heap.size)
def StPost (S : Nat → Prop) (s : St) (w : World) (e : Ending) (w' : World) : Prop:=∃ cs,e = .returned (.agg cs.toArray) ∧ StR w' (Sn S w w') cs s ∧ Keep w w'
theorem Sn.lt {S : Nat → Prop} {w w' : World} (hS : ∀ i,S i → i < w.heap.size) (hk : w.heap.size ≤ w'.heap.size) : ∀ i,Sn S w w' i → i < w'.heap.size:=fun i hi=>hi.elim (fun h=>Nat.lt_of_lt_of_le (hS i h) hk) (fun h=>h.2)
theorem Sn.mono {S : Nat → Prop} {w W w1 w2 : World} (h1 : w.heap.size ≤ W.heap.size) (h2 : w1.heap.size ≤ w2.heap.size) : ∀ i,Sn S W w1 i → Sn S w w2 i:=fun i hi=>hi.elim .inl (fun h=>.inr ⟨by omega,by omega⟩)
def ExeRel (B : Nat) (ix : Int) (s : St) (effs : List Eff) (W : World) (a b o i : Value) (wr : World) : Prop:=
 ∃ k : Nat,k ≤ effs.length ∧ i = .int .i64 k ∧ o = .int .i64 (cntS (effs.take k)) ∧ wr.ownsRow B 92 4 a (s.sent ++ sendsOf ix 0 (effs.take k)).length ((s.sent ++ sendsOf ix 0 (effs.take k)).flatMap encSnd) ∧
  wr.ownsRow B 52 2 b (s.outs ++ outsOf ix (effs.take k)).length ((s.outs ++ outsOf ix (effs.take k)).flatMap encOut) ∧ (∀ g,a.ownBlock = some g → b.ownBlock ≠ some g) ∧ Same (· < B) W wr
theorem one_of {α : Type} {enc : α → List Value} (h : ∀ a,∀ u ∈ enc a,u.oneCell' = true) (l : List α) : ∀ u ∈ l.flatMap enc,u.oneCell' = true:=fun u hu=>by obtain ⟨x,_,hx⟩:=List.mem_flatMap.1 hu; exact h x u hx
set_option maxHeartbeats 16000000 in
theorem rexecute_any (n : Nat) (w : World) (S : Nat → Prop) (cs : List Value) (s : St) (A : Option Addr) (m c : Nat) (body : List Stm) (v : EnvS) (ix : Int) (hS : ∀ i,S i → i < w.heap.size) (hst : StR w S cs s) (hsl : SlR w S 18 (StmR w S n) A m c body) (h1 : s.cells.length ≤ 1000000) (h2 : s.sent.length ≤ 1000000) (h3 : s.outs.length ≤ 1000000) :
  Calls Tryz.prog 60 #[.agg cs.toArray,.slice A m c,.agg #[.int .i64 v.self,.int .i64 v.procs,.int .i64 v.frm,.int .i64 v.val],.int .i64 ix] w (StPost S (runS v body s.cells ix s) w):=by
 obtain ⟨A1,A2,A3,A4,n1,c1,n2,c2,n3,c3,n4,c4,rfl,hs1,hs2,hs3,hs4⟩:=hst
 obtain ⟨i0,hi0,iz0,iz1,iz2⟩:=info_of info_Send
 obtain ⟨j0,hj0,jz0,jz1,jz2⟩:=info_of info_Output
 have hn1:=hs1.1
 have hn3:=hs3.1
 have hn4:=hs4.1
 have hn1' : n1 ≤ 1000000:=by omega
 have hn3' : n3 ≤ 1000000:=by omega
 have hn4' : n4 ≤ 1000000:=by omega
 generalize hW : ((w.alloc (.cells #[.slice A1 n1 c1,.slice A2 n2 c2,.slice A3 n3 c3,.slice A4 n4 c4] 50)).alloc (.cells #[.int .i64 v.self,.int .i64 v.procs,.int .i64 v.frm,.int .i64 v.val] 127)).alloc (.cells #[.slice none 0 0,.slice none 0 0,.slice none 0 0,.slice none 0 0] 50) = W
 have hkW : Keep w W:=hW ▸ Keep.alloc (Keep.alloc (Keep.new w _) _) _
 have hb4 : Blk W w.heap.size 50 #[.slice A1 n1 c1,.slice A2 n2 c2,.slice A3 n3 c3,.slice A4 n4 c4]:=hW ▸ ((Blk.new w _ _).alloc _).alloc _
 have hb6 : Blk W (w.heap.size + 1) 127 #[.int .i64 v.self,.int .i64 v.procs,.int .i64 v.frm,.int .i64 v.val]:=hW ▸ blkM w _ _ _ _
 have hb8 : Blk W (w.heap.size + 2) 50 #[.slice none 0 0,.slice none 0 0,.slice none 0 0,.slice none 0 0]:=hW ▸ blkL w _ _ _ _
 have hzW : w.heap.size + 2 < W.heap.size:=hb8.lt
 have k0 : W.cell? ⟨w.heap.size,0,none⟩ = some (.slice A1 n1 c1):=by rw [hb4.cell]; rfl
 have hSW : ∀ i,S i → i < W.heap.size:=fun i hi=>by have:=hS i hi; omega
 have hsW:=Same.mono hkW hS
 have q1:=hs1.keep hsW
 have q2:=(hs2.keep hsW)
 have q3:=(hs3.keep hsW)
 have q4:=(hs4.keep hsW)
 have hslW:=hsl.keep hsW (StmR.keep hsW _)
 have hA : True:=trivial
 have HS:=Lib.hid hS
 have HKW:=Lib.hid hkW
 have HB4:=Lib.hid hb4
 have HB6:=Lib.hid hb6
 have HB8:=Lib.hid hb8
 have HSW:=Lib.hid hSW
 have Q1:=Lib.hid q1
 have Q2:=Lib.hid q2
 have Q3:=Lib.hid q3
 have Q4:=Lib.hid q4
 have HSLW:=Lib.hid hslW
 have HI0:=Lib.hid hi0
 have IZ0:=Lib.hid iz0
 have IZ1:=Lib.hid iz1
 have IZ2:=Lib.hid iz2
 have HJ0:=Lib.hid hj0
 have JZ0:=Lib.hid jz0
 have JZ1:=Lib.hid jz1
 have JZ2:=Lib.hid jz2
 have HN1:=Lib.hid hn1
 have HN3:=Lib.hid hn3
 have HN4:=Lib.hid hn4
 clear hS hkW hb4 hb6 hb8 hSW q1 q2 q3 q4 hslW hi0 iz0 iz1 iz2 hj0 jz0 jz1 jz2 hn1 hn3 hn4
 clear hs1 hs2 hs3 hs4 hsl hsW
 go_enter Tryz.func60,Tryz.ntmps60
 go_wp2_with (refine wpList_load_all rfl _ (.tmp 6) rfl (w.heap.size + 1) 127 [.int .i64 v.self,.int .i64 v.procs,.int .i64 v.frm,.int .i64 v.val] _ rfl HB6.out Tryz.underlying127 rfl (by kernel_rfl) ?_)
 clear hW
 refine (rrun_any n W S A A1 m c n1 c1 body s.cells v HSW.out HSLW.out Q1.out hn1').mono ?_
 rintro e w1 ⟨C,E,f,rfl,hcr,her,hdis,hk1⟩
 obtain ⟨Ac,cc,hC,hncc,hccm⟩:=own_form hcr
 subst hC
 obtain ⟨Ae,ce,hE,hnce,hcem⟩:=own_form her
 subst hE
 have hz1:=hk1.size
 have hb41:=hk1.blk HB4.out (by omega)
 have hb81:=hk1.blk HB8.out (by omega)
 have heff:=(execF_fit v body s.cells).2
 generalize hF : execF v body s.cells = FF at hcr her heff
 have hrun : runS v body s.cells ix s = { s with cells:=FF.cells,sent:=s.sent ++ sendsOf ix 0 FF.effs,outs:=s.outs ++ outsOf ix FF.effs }:=by rw [← hF]; rfl
 have HCR:=Lib.hid hcr
 have HER:=Lib.hid her
 have HDIS:=Lib.hid hdis
 have HK1:=Lib.hid hk1
 have HB41:=Lib.hid hb41
 have HB81:=Lib.hid hb81
 have HF:=Lib.hid hF
 have HRUN:=Lib.hid hrun
 clear hcr her hdis hk1 hb41 hb81 hF hrun
 clear k0
 go_upto_region 3 with (refine wpList_store_one rfl _ (.tmp 26) _ rfl w.heap.size 0 50 _ (.slice Ac FF.cells.length cc) rfl rfl HB41.out (by simp) (by kernel_rfl) rfl rfl ?_; intro w2 hb2 hs2)
 have hb2' : Blk w2 w.heap.size 50 #[.slice Ac FF.cells.length cc,.slice A2 n2 c2,.slice A3 n3 c3,.slice A4 n4 c4]:=by simpa using hb2
 have hz2:=hs2.size
 have hk2 : Keep w w2:=Keep.write (Keep.trans HKW.out HK1.out) hs2 (Nat.le_refl _)
 have hb82:=hs2.blk HB81.out (by omega)
 have hcr2:=ownsRow_own HCR.out hs2 (fun b hb e=>by have:=(HCR.out.lt b hb).1; omega)
 have her2:=ownsRow_own HER.out hs2 (fun b hb e=>by have:=(HER.out.lt b hb).1; omega)
 have m2 : ∀ wx,Keep w2 wx → wx.cell? ⟨w.heap.size,2,none⟩ = some (.slice A3 n3 c3):=fun wx hx=>(hx.cell (p:=⟨w.heap.size,2,none⟩) hb2'.lt).trans (by rw [hb2'.cell]; rfl)
 have m3 : ∀ wx,Keep w2 wx → wx.cell? ⟨w.heap.size,3,none⟩ = some (.slice A4 n4 c4):=fun wx hx=>(hx.cell (p:=⟨w.heap.size,3,none⟩) hb2'.lt).trans (by rw [hb2'.cell]; rfl)
 have hWw2 : Same (fun i=>i < W.heap.size ∧ i ≠ w.heap.size) W w2:=Same.trans (Same.mono HK1.out (fun i hi=>hi.1)) hs2 (fun i hi=>hi.2)
 have hsub : ∀ i,S i → i < W.heap.size ∧ i ≠ w.heap.size:=fun i hi=>⟨HSW.out i hi,by have:=HS.out i hi; omega⟩
 have r2:=Q2.out.keep (hWw2.mono hsub)
 have r3:=(Q3.out.keep (hWw2.mono hsub)).more (T:=fun i=>i < w2.heap.size) (fun i hi=>by have:=HSW.out i hi; omega)
 have r4:=(Q4.out.keep (hWw2.mono hsub)).more (T:=fun i=>i < w2.heap.size) (fun i hi=>by have:=HSW.out i hi; omega)
 clear hb2 hs2 hWw2 hsub
 have HB2':=Lib.hid hb2'
 have HK2:=Lib.hid hk2
 have HB82:=Lib.hid hb82
 have HCR2:=Lib.hid hcr2
 have HER2:=Lib.hid her2
 have R2:=Lib.hid r2
 have R3:=Lib.hid r3
 have R4:=Lib.hid r4
 clear hb2' hk2 hb82 hcr2 her2 r2 r3 r4
 refine wp_region_L 99 (fun _=>True) (fun wx=>Keep w2 wx) (by kernel_rfl) trivial (Same.drew (Same.refl _ _)) (fun _ hB=>?_)
 refine wpL_takeB (i:=0) (v:=?_) rfl (by kernel_rfl) (by kernel_rfl) (by kernel_rfl) (by decide) (fun _ _ _ h=>h) (Or.inl ⟨by rfl,?_⟩) (SAB.both hA hB) ?_
 rotate_left
 ·intro wx hBx
  (try dsimp only at hBx)
  go_simp
  try with_reducible rfl
 try simp only [Act.put,List.setIfInBounds_toArray,List.set_cons_zero,List.set_cons_succ]
 refine wpL_takeB (i:=1) (v:=?_) rfl (by kernel_rfl) (by kernel_rfl) (by kernel_rfl) (by decide) (fun _ _ _ h=>h) (Or.inl ⟨by rfl,?_⟩) (SAB.both hA hB) ?_
 rotate_left
 ·intro wx hBx
  (try dsimp only at hBx)
  go_simp
  try with_reducible rfl
 try simp only [Act.put,List.setIfInBounds_toArray,List.set_cons_zero,List.set_cons_succ]
 refine wpL_takeB (i:=3) (v:=?_) rfl (by kernel_rfl) (by kernel_rfl) (by kernel_rfl) (by decide) (fun _ _ _ h=>h) (Or.inl ⟨by rfl,?_⟩) (SAB.both hA hB) ?_
 rotate_left
 ·intro wx hBx
  (try dsimp only at hBx)
  go_simp
  try with_reducible rfl
 try simp only [Act.put,List.setIfInBounds_toArray,List.set_cons_zero,List.set_cons_succ]
 refine wpL_takeB (i:=4) (v:=?_) rfl (by kernel_rfl) (by kernel_rfl) (by kernel_rfl) (by decide) (fun _ _ _ h=>h) (Or.inl ⟨by rfl,?_⟩) (SAB.both hA hB) ?_
 rotate_left
 ·intro wx hBx
  (try dsimp only at hBx)
  go_simp
  try with_reducible rfl
 try simp only [Act.put,List.setIfInBounds_toArray,List.set_cons_zero,List.set_cons_succ]
 clear m2 m3
 refine wpL_one (i:=2) (by kernel_rfl) (StepL.mk rfl (fun K hK=>?_))
 refine step_append_any _ (by rfl) (.const (.slice none 0 0)) (.tmp 28) _ (by rfl) w2.heap.size 92 i0 _ 4 32 Tryz.underlying47 HI0.out IZ0.out IZ1.out IZ2.out rfl (by omega) (.slice none 0 0) 0 [] (by rfl) (World.ownsRow_nil _ _ _ _) _ A3 n3 c3 (s.sent.flatMap encSnd) (by rfl) (R3.out.keep (Same.drew (Same.refl _ _))).2.2.2 (one_of encSnd_one _) (by simp [maxLen]; omega) (by omega) hB.size ?_
 intro va wa howna hga hata
 have hka : Keep w2 wa:=Same.append hB (World.ownsRow_nil _ w2.heap.size 92 4) hga (fun i hi=>hi) hB.size
 have howna' : wa.ownsRow w2.heap.size 92 4 va s.sent.length (s.sent.flatMap encSnd):=by have:=HN3.out; simpa [this] using howna
 refine hK.out _ _ (SAB.both trivial hka) (fun hSS=>?_)
 clear hK K hA hB
 have hB:=hSS.2
 have hA:=hSS.1 (by kernel_rfl)
 (try dsimp only at hB); (try dsimp only at hA); clear hSS
 try simp only [Act.put,List.setIfInBounds_toArray,List.set_cons_zero,List.set_cons_succ]
 refine wpL_one (i:=5) (by kernel_rfl) (StepL.mk rfl (fun K hK=>?_))
 refine step_append_any _ (by rfl) (.const (.slice none 0 0)) (.tmp 31) _ (by rfl) wa.heap.size 52 j0 _ 2 16 Tryz.underlying48 HJ0.out JZ0.out JZ1.out JZ2.out rfl (by omega) (.slice none 0 0) 0 [] (by rfl) (World.ownsRow_nil _ _ _ _) _ A4 n4 c4 (s.outs.flatMap encOut) (by rfl) (R4.out.keep hka).2.2.2 (one_of encOut_one _) (by simp [maxLen]; omega) (by omega) (Nat.le_refl _) ?_
 intro vb wb hownb hgb hatb
 have hkb0 : Keep wa wb:=Same.append (Same.refl _ _) (World.ownsRow_nil _ wa.heap.size 52 2) hgb (fun i hi=>hi) (Nat.le_refl _)
 have hkb : Keep w2 wb:=Keep.trans hka hkb0
 have hownb' : wb.ownsRow wa.heap.size 52 2 vb s.outs.length (s.outs.flatMap encOut):=by have:=HN4.out; simpa [this] using hownb
 have hownab:=ownsRow_same howna' hkb0 (fun i hi=>hi.2)
 have hdab : ∀ g,va.ownBlock = some g → vb.ownBlock ≠ some g:=fun g hg hh=>by
  have h1:=(howna'.lt g hg).2
  have h2:=(hownb'.lt g hh).1
  omega
 refine hK.out _ _ (SAB.both trivial hkb) (fun hSS=>?_)
 clear hK K hA hB
 have hB:=hSS.2
 have hA:=hSS.1 (by kernel_rfl)
 (try dsimp only at hB); (try dsimp only at hA); clear hSS
 try simp only [Act.put,List.setIfInBounds_toArray,List.set_cons_zero,List.set_cons_succ]
 refine wpL_takeB (i:=6) (v:=?_) rfl (by kernel_rfl) (by kernel_rfl) (by kernel_rfl) (by decide) (fun _ _ _ h=>h) (Or.inl ⟨by rfl,?_⟩) (SAB.both hA hB) ?_
 rotate_left
 ·intro wx hBx
  (try dsimp only at hBx)
  go_simp
  try with_reducible rfl
 try simp only [Act.put,List.setIfInBounds_toArray,List.set_cons_zero,List.set_cons_succ]
 refine wpL_takeB (i:=7) (v:=?_) rfl (by kernel_rfl) (by kernel_rfl) (by kernel_rfl) (by decide) (fun _ _ _ h=>h) (Or.inl ⟨by rfl,?_⟩) (SAB.both hA hB) ?_
 rotate_left
 ·intro wx hBx
  (try dsimp only at hBx)
  go_simp
  try with_reducible rfl
 try simp only [Act.put,List.setIfInBounds_toArray,List.set_cons_zero,List.set_cons_succ]
 refine wpL_done (by kernel_rfl) ?_
 have hrel0 : ExeRel w2.heap.size ix s FF.effs w2 va vb (.int .i64 0) (.int .i64 0) wb:=⟨0,Nat.zero_le _,rfl,by simp [cntS],by simpa [sendsOf] using hownab,by simpa [outsOf] using ownsRow_less hownb' hka.size,hdab,hkb⟩
 have HREL0:=Lib.hid hrel0
 clear hrel0
 clear hka hkb hkb0 howna howna' hownb hownb' hownab hdab hga hgb hata hatb hA hB
 go_wp2_with fail
 go_loopw [12,13,14,15] (fun a b o i wr=>ExeRel w2.heap.size ix s FF.effs w2 a b o i wr) (fun _ _ _ i _=>FF.effs.length - (intOf i).toNat)
 case atStart=>exact HREL0.out
 case round=>
  obtain ⟨k,hk,rfl,rfl,hao,hbo,hdi,hsr⟩:=hrel
  obtain ⟨a,hau⟩ : ∃ a : Value,a = u12:=⟨_,rfl⟩
  subst hau
  obtain ⟨b,hbu⟩ : ∃ b : Value,b = u13:=⟨_,rfl⟩
  subst hbu
  have hz2r:=hsr.size
  have hcnt:=cntS_le (FF.effs.take k)
  have hctk : (FF.effs.take k).length ≤ 8:=by rw [List.length_take]; omega
  have hln1:=sendsOf_len ix (FF.effs.take k) 0
  have hln2:=outsOf_len ix (FF.effs.take k)
  have hlen1 : (s.sent ++ sendsOf ix 0 (FF.effs.take k)).length ≤ 1000008:=by rw [List.length_append]; omega
  have hlen2 : (s.outs ++ outsOf ix (FF.effs.take k)).length ≤ 1000008:=by rw [List.length_append]; omega
  by_cases hkm : k < FF.effs.length
  ·obtain ⟨Ae',ce',hee,hesl⟩:=Sl.of_own HER2.out
   injection hee with hee1 _ hee2
   subst hee1 hee2
   have hesr:=(hesl.more (T:=fun i=>i < w2.heap.size) (fun i hi=>hi.2)).keep hsr
   obtain ⟨be,oe,x,rfl,hbe,hx,hcx⟩:=hesr.at_ encEff_len hkm
   have e0 : ∀ wx,Same (· < w2.heap.size) wr wx → wx.cell? ⟨be,oe + k * 3,none⟩ = some (.int .i64 x.kind):=fun wx hx=>(hx.cell (p:=⟨be,oe + k * 3,none⟩) hbe).trans (hcx 0 _ rfl)
   have e1 : ∀ wx,Same (· < w2.heap.size) wr wx → wx.cell? ⟨be,oe + k * 3 + 1,none⟩ = some (.int .i64 x.dst):=fun wx hx=>(hx.cell (p:=⟨be,oe + k * 3 + 1,none⟩) hbe).trans (hcx 1 _ rfl)
   have e2 : ∀ wx,Same (· < w2.heap.size) wr wx → wx.cell? ⟨be,oe + k * 3 + 2,none⟩ = some (.int .i64 x.val):=fun wx hx=>(hx.cell (p:=⟨be,oe + k * 3 + 2,none⟩) hbe).trans (hcx 2 _ rfl)
   have f0:=e0 wr (Same.refl _ _)
   have f2:=e2 wr (Same.refl _ _)
   have hd1 : decide (k < FF.effs.length) = true:=by simpa using hkm
   have hd2 : (0 : Int) ≤ k:=by omega
   have hd3 : (k : Int) < FF.effs.length:=by omega
   have hk1 : k + 1 ≤ FF.effs.length:=by omega
   have htk:=(take_snoc hx).1
   have t1:=sendsOf_snoc ix x (FF.effs.take k) 0
   have t2:=outsOf_snoc ix x (FF.effs.take k)
   have t3:=cntS_snoc (FF.effs.take k) x
   rw [← htk] at t1 t2 t3
   generalize hX : s.sent ++ sendsOf ix 0 (FF.effs.take k) = X at hao hlen1
   generalize hY : s.outs ++ outsOf ix (FF.effs.take k) = Y at hbo hlen2
   generalize hN : cntS (FF.effs.take k) = N at *
   have hN8 : N ≤ 8:=by omega
   clear hesl hesr hcx hx htk hln1 hln2 hctk hcnt
   by_cases hkd : x.kind = 1
   ·have hkb : (x.kind == 1) = true:=by simpa using hkd
    rw [if_pos hkd] at t1 t2 t3
    have hA : True:=trivial
    have t1' : s.sent ++ sendsOf ix 0 (FF.effs.take (k + 1)) = X ++ [⟨ix,N,x.dst,x.val⟩]:=by rw [t1,← List.append_assoc,hX]; simp
    have t2' : s.outs ++ outsOf ix (FF.effs.take (k + 1)) = Y:=by rw [t2,List.append_nil]; exact hY
    clear t1 t2 hX hY hN f2 hkd
    have HAO:=Lib.hid hao
    have HBO:=Lib.hid hbo
    have HDI:=Lib.hid hdi
    have HSR:=Lib.hid hsr
    have T1':=Lib.hid t1'
    have T2':=Lib.hid t2'
    have T3:=Lib.hid t3
    have HK1:=Lib.hid hk1
    have HBE:=Lib.hid hbe
    clear hao hbo hdi hsr t1' t2' t3 hk1 hbe
    as_aux_lemma=>
    go_upto_region 9 with fail
    clear f0 e0
    refine wp_region_L 99 (fun _=>True) (fun wx=>Same (· < w2.heap.size) wr wx) (by kernel_rfl) trivial (Same.drew (Same.refl _ _)) (fun _ hB=>?_)
    refine wpL_takeB (i:=0) (v:=?_) rfl (by kernel_rfl) (by kernel_rfl) (by kernel_rfl) (by decide) (fun _ _ _ h=>h) (Or.inl ⟨by rfl,?_⟩) (SAB.both hA hB) ?_
    rotate_left
    ·intro wx hBx
     (try dsimp only at hBx)
     go_simp
     try with_reducible rfl
    try simp only [Act.put,List.setIfInBounds_toArray,List.set_cons_zero,List.set_cons_succ]
    refine wpL_takeB (i:=1) (v:=?_) rfl (by kernel_rfl) (by kernel_rfl) (by kernel_rfl) (by decide) (fun _ _ _ h=>h) (Or.inl ⟨by rfl,?_⟩) (SAB.both hA hB) ?_
    rotate_left
    ·intro wx hBx
     (try dsimp only at hBx)
     go_simp
     try with_reducible rfl
    try simp only [Act.put,List.setIfInBounds_toArray,List.set_cons_zero,List.set_cons_succ]
    refine wpL_takeB (i:=2) (v:=?_) rfl (by kernel_rfl) (by kernel_rfl) (by kernel_rfl) (by decide) (fun _ _ _ h=>h) (Or.inl ⟨by rfl,?_⟩) (SAB.both hA hB) ?_
    rotate_left
    ·intro wx hBx
     (try dsimp only at hBx)
     go_simp
     try with_reducible rfl
    try simp only [Act.put,List.setIfInBounds_toArray,List.set_cons_zero,List.set_cons_succ]
    refine wpL_takeB (i:=3) (v:=?_) rfl (by kernel_rfl) (by kernel_rfl) (by kernel_rfl) (by decide) (fun _ _ _ h=>h) (Or.inl ⟨by rfl,?_⟩) (SAB.both hA hB) ?_
    rotate_left
    ·intro wx hBx
     (try dsimp only at hBx)
     go_simp
     try with_reducible rfl
    try simp only [Act.put,List.setIfInBounds_toArray,List.set_cons_zero,List.set_cons_succ]
    refine wpL_takeB (i:=4) (v:=?_) rfl (by kernel_rfl) (by kernel_rfl) (by kernel_rfl) (by decide) (fun _ _ _ h=>h) (Or.inl ⟨by rfl,?_⟩) (SAB.both hA hB) ?_
    rotate_left
    ·intro wx hBx
     (try dsimp only at hBx)
     go_simp
     try with_reducible rfl
    try simp only [Act.put,List.setIfInBounds_toArray,List.set_cons_zero,List.set_cons_succ]
    refine wpL_takeB (i:=5) (v:=?_) rfl (by kernel_rfl) (by kernel_rfl) (by kernel_rfl) (by decide) (fun _ _ _ h=>h) (Or.inl ⟨by rfl,?_⟩) (SAB.both hA hB) ?_
    rotate_left
    ·intro wx hBx
     (try dsimp only at hBx)
     go_simp
     try with_reducible rfl
    try simp only [Act.put,List.setIfInBounds_toArray,List.set_cons_zero,List.set_cons_succ]
    refine wpL_takeB (i:=6) (v:=?_) rfl (by kernel_rfl) (by kernel_rfl) (by kernel_rfl) (by decide) (fun _ _ _ h=>h) (Or.inl ⟨by rfl,?_⟩) (SAB.both hA hB) ?_
    rotate_left
    ·intro wx hBx
     (try dsimp only at hBx)
     go_simp
     try with_reducible rfl
    try simp only [Act.put,List.setIfInBounds_toArray,List.set_cons_zero,List.set_cons_succ]
    refine wpL_takeB (i:=7) (v:=?_) rfl (by kernel_rfl) (by kernel_rfl) (by kernel_rfl) (by decide) (fun _ _ _ h=>h) (Or.inl ⟨by rfl,?_⟩) (SAB.both hA hB) ?_
    rotate_left
    ·intro wx hBx
     (try dsimp only at hBx)
     go_simp
     try with_reducible rfl
    try simp only [Act.put,List.setIfInBounds_toArray,List.set_cons_zero,List.set_cons_succ]
    refine wpL_takeB (i:=8) (v:=?_) rfl (by kernel_rfl) (by kernel_rfl) (by kernel_rfl) (by decide) (fun _ _ _ h=>h) (Or.inl ⟨by rfl,?_⟩) (SAB.both hA hB) ?_
    rotate_left
    ·intro wx hBx
     (try dsimp only at hBx)
     go_simp
     try with_reducible rfl
    try simp only [Act.put,List.setIfInBounds_toArray,List.set_cons_zero,List.set_cons_succ]
    refine wpL_takeB (i:=9) (v:=?_) rfl (by kernel_rfl) (by kernel_rfl) (by kernel_rfl) (by decide) (fun _ _ _ h=>h) (Or.inl ⟨by rfl,?_⟩) (SAB.both hA hB) ?_
    rotate_left
    ·intro wx hBx
     (try dsimp only at hBx)
     go_simp
     try with_reducible rfl
    try simp only [Act.put,List.setIfInBounds_toArray,List.set_cons_zero,List.set_cons_succ]
    refine wpL_takeB (i:=10) (v:=?_) rfl (by kernel_rfl) (by kernel_rfl) (by kernel_rfl) (by decide) (fun _ _ _ h=>h) (Or.inl ⟨by rfl,?_⟩) (SAB.both hA hB) ?_
    rotate_left
    ·intro wx hBx
     (try dsimp only at hBx)
     go_simp
     try with_reducible rfl
    try simp only [Act.put,List.setIfInBounds_toArray,List.set_cons_zero,List.set_cons_succ]
    refine wpL_takeB (i:=11) (v:=?_) rfl (by kernel_rfl) (by kernel_rfl) (by kernel_rfl) (by decide) (fun _ _ _ h=>h) (Or.inl ⟨by rfl,?_⟩) (SAB.both hA hB) ?_
    rotate_left
    ·intro wx hBx
     (try dsimp only at hBx)
     go_simp
     try with_reducible rfl
    try simp only [Act.put,List.setIfInBounds_toArray,List.set_cons_zero,List.set_cons_succ]
    refine wpL_takeB (i:=12) (v:=?_) rfl (by kernel_rfl) (by kernel_rfl) (by kernel_rfl) (by decide) (fun _ _ _ h=>h) (Or.inl ⟨by rfl,?_⟩) (SAB.both hA hB) ?_
    rotate_left
    ·intro wx hBx
     (try dsimp only at hBx)
     go_simp
     try with_reducible rfl
    try simp only [Act.put,List.setIfInBounds_toArray,List.set_cons_zero,List.set_cons_succ]
    refine wpL_takeB (i:=13) (v:=?_) rfl (by kernel_rfl) (by kernel_rfl) (by kernel_rfl) (by decide) (fun _ _ _ h=>h) (Or.inl ⟨by rfl,?_⟩) (SAB.both hA hB) ?_
    rotate_left
    ·intro wx hBx
     (try dsimp only at hBx)
     go_simp
     try with_reducible rfl
    try simp only [Act.put,List.setIfInBounds_toArray,List.set_cons_zero,List.set_cons_succ]
    clear e1 e2
    refine wpL_one (i:=14) (by kernel_rfl) (StepL.mk rfl (fun K hK=>?_))
    refine step_buildS rfl _ _ _ _ rfl Tryz.underlying47 _ [(0,.agg #[.int .i64 ix,.int .i64 N,.int .i64 x.dst,.int .i64 x.val])] rfl (built_send _ _ _ _) ?_
    have hkn : Keep wr (wr.drew.alloc (.cells #[.int .i64 ix,.int .i64 N,.int .i64 x.dst,.int .i64 x.val] 92)):=Keep.alloc (Same.drew (Same.refl _ _)) _
    refine hK.out _ _ (SAB.both trivial (hkn.mono (fun i hi=>by omega))) (fun hSS=>?_)
    clear hK K hA hB
    have hB:=hSS.2
    have hA:=hSS.1 (by kernel_rfl)
    (try dsimp only at hB); (try dsimp only at hA); clear hSS
    try simp only [Act.put,List.setIfInBounds_toArray,List.set_cons_zero,List.set_cons_succ]
    refine wpL_one (i:=15) (by kernel_rfl) (StepL.mk rfl (fun K hK=>?_))
    refine step_append_any _ (by rfl) (.tmp 45) (.tmp 59) _ (by rfl) w2.heap.size 92 i0 _ 4 32 Tryz.underlying47 HI0.out IZ0.out IZ1.out IZ2.out rfl (by omega) a X.length (X.flatMap encSnd) (by rfl) (ownsRow_same HAO.out hkn (fun i hi=>hi.2)) _ (some ⟨wr.heap.size,0,none⟩) 1 1 (encSnd ⟨ix,N,x.dst,x.val⟩) (by rfl) (Reads.new (w:=wr.drew) rfl) (encSnd_one _) (by simp [maxLen]; omega) (by omega) (by have:=hkn.size; omega) ?_
    intro v5 w5 hown5 hg5 hat5
    have hs5 : Same (fun i=>i < wr.heap.size ∧ a.ownBlock ≠ some i) wr w5:=Same.grown (hkn.mono (fun i hi=>hi.1)) hg5 (fun i hi=>Nat.lt_of_lt_of_le hi.1 hkn.size) (fun k hk hh=>hh.2 hk)
    have hs5' : Same (· < w2.heap.size) wr w5:=hs5.mono (fun i hi=>⟨by omega,fun hh=>by have:=(HAO.out.lt i hh).1; omega⟩)
    refine hK.out _ _ (SAB.both trivial hs5') (fun hSS=>?_)
    clear hK K hA hB
    have hB:=hSS.2
    have hA:=hSS.1 (by kernel_rfl)
    (try dsimp only at hB); (try dsimp only at hA); clear hSS
    try simp only [Act.put,List.setIfInBounds_toArray,List.set_cons_zero,List.set_cons_succ]
    refine wpL_takeB (i:=16) (v:=?_) rfl (by kernel_rfl) (by kernel_rfl) (by kernel_rfl) (by decide) (fun _ _ _ h=>h) (Or.inl ⟨by rfl,?_⟩) (SAB.both hA hB) ?_
    rotate_left
    ·intro wx hBx
     (try dsimp only at hBx)
     go_simp
     try with_reducible rfl
    try simp only [Act.put,List.setIfInBounds_toArray,List.set_cons_zero,List.set_cons_succ]
    refine wpL_done (by kernel_rfl) ?_
    have hfin : ExeRel w2.heap.size ix s FF.effs w2 v5 b (.int .i64 (N + 1)) (.int .i64 (k + 1)) w5:=by
     refine ⟨k + 1,HK1.out,by simp,?_,?_,?_,?_,Same.trans HSR.out hs5' (fun _ h=>h)⟩
     ·rw [T3.out]; simp
     ·rw [T1'.out]; simpa using hown5
     ·rw [T2'.out]
      exact ownsRow_own HBO.out hs5 (fun g hg=>⟨(HBO.out.lt g hg).2,fun hh=>HDI.out g hh hg⟩)
     ·intro g hg hh
      rcases hat5 with h | h
      ·rw [h] at hg; exact HDI.out g hg hh
      ·rw [h] at hg
       injection hg with hg
       have h1:=(HBO.out.lt g hh).2
       have hz : wr.heap.size ≤ g:=by rw [← hg]; simp
       omega
    have HFIN:=Lib.hid hfin
    clear hfin
    clear hs5 hs5' hown5 hg5 hat5 hkn hA hB
    go_wp2_with fail
    go_roundw
    case rel=>exact HFIN.out
    case measure=>simp [intOf]; omega
   ·have hkb : (x.kind == 1) = false:=by simpa using hkd
    rw [if_neg hkd] at t1 t2 t3
    have t1' : s.sent ++ sendsOf ix 0 (FF.effs.take (k + 1)) = X:=by rw [t1,List.append_nil]; exact hX
    have t2' : s.outs ++ outsOf ix (FF.effs.take (k + 1)) = Y ++ [⟨ix,x.val⟩]:=by rw [t2,← List.append_assoc,hY]
    clear t1 t2 hX hY hN hkd e0 e1 e2
    have HAO:=Lib.hid hao
    have HBO:=Lib.hid hbo
    have HDI:=Lib.hid hdi
    have HSR:=Lib.hid hsr
    have T1':=Lib.hid t1'
    have T2':=Lib.hid t2'
    have T3:=Lib.hid t3
    have HK1:=Lib.hid hk1
    have HBE:=Lib.hid hbe
    clear hao hbo hdi hsr t1' t2' t3 hk1 hbe
    as_aux_lemma=>
    go_wp2_with (first
     | (refine wpList_buildS rfl _ _ _ _ rfl Tryz.underlying48 _ [(0,.agg #[.int .i64 ix,.int .i64 x.val])] rfl (built_out _ _) ?_)
     | (refine wpList_append_any _ rfl (.tmp 63) (.tmp 71) _ rfl w2.heap.size 52 j0 _ 2 16 Tryz.underlying48 HJ0.out JZ0.out JZ1.out JZ2.out rfl (by omega) b Y.length (Y.flatMap encOut) rfl (ownsRow_same HBO.out (Keep.new wr _) (fun i hi=>hi.2)) _ (some ⟨wr.heap.size,0,none⟩) 1 1 (encOut ⟨ix,x.val⟩) rfl (Reads.new rfl) (encOut_one _) (by simp [maxLen]; omega) (by omega) (by simp; omega) ?_; intro v5 w5 hown5 hg5 hat5; have HOWN5:=Lib.hid hown5; have HG5:=Lib.hid hg5; have HAT5:=Lib.hid hat5; clear hown5 hg5 hat5))
    have hkn : Keep wr (wr.alloc (.cells #[.int .i64 ix,.int .i64 x.val] 52)):=Keep.new _ _
    have hs5 : Same (fun i=>i < wr.heap.size ∧ b.ownBlock ≠ some i) wr w5:=Same.grown (hkn.mono (fun i hi=>hi.1)) HG5.out (fun i hi=>Nat.lt_of_lt_of_le hi.1 hkn.size) (fun k hk hh=>hh.2 hk)
    have hs5' : Same (· < w2.heap.size) wr w5:=hs5.mono (fun i hi=>⟨by omega,fun hh=>by have:=(HBO.out.lt i hh).1; omega⟩)
    have hfin : ExeRel w2.heap.size ix s FF.effs w2 a v5 (.int .i64 N) (.int .i64 (k + 1)) w5:=by
     refine ⟨k + 1,HK1.out,by simp,?_,?_,?_,?_,Same.trans HSR.out hs5' (fun _ h=>h)⟩
     ·rw [T3.out]; simp
     ·rw [T1'.out]
      exact ownsRow_own HAO.out hs5 (fun g hg=>⟨(HAO.out.lt g hg).2,fun hh=>HDI.out g hg hh⟩)
     ·rw [T2'.out]; simpa using HOWN5.out
     ·intro g hg hh
      rcases HAT5.out with h | h
      ·rw [h] at hh; exact HDI.out g hg hh
      ·rw [h] at hh
       injection hh with hh
       have h1:=(HAO.out.lt g hg).2
       have hz : wr.heap.size ≤ g:=by rw [← hh]; simp
       omega
    have HFIN:=Lib.hid hfin
    clear hfin
    clear hs5 hs5' hkn
    go_roundw
    case rel=>exact HFIN.out
    case measure=>simp [intOf]; omega
  ·have hd1 : decide (k < FF.effs.length) = false:=by simpa using hkm
   have hkl : FF.effs.take k = FF.effs:=List.take_of_length_le (by omega)
   rw [hkl] at hao hbo
   generalize hX : s.sent ++ sendsOf ix 0 FF.effs = X at hao
   generalize hY : s.outs ++ outsOf ix FF.effs = Y at hbo
   have hrun2:=HRUN.out
   rw [hX,hY] at hrun2
   clear hX hY
   clear HRUN
   have HRUN:=Lib.hid hrun2
   clear hrun2
   obtain ⟨Aa,ca,hae,hna,hma⟩:=own_form hao
   subst hae
   obtain ⟨Ab,cb,hbe,hnb,hmb⟩:=own_form hbo
   subst hbe
   have hbr:=hsr.blk HB2'.out HB2'.out.lt
   have hb8r:=hsr.blk HB82.out HB82.out.lt
   have l4:=HB2'.out.lt
   have l8:=HB82.out.lt
   have HAO:=Lib.hid hao
   have HBO:=Lib.hid hbo
   have HDI:=Lib.hid hdi
   have HSR:=Lib.hid hsr
   have HBR:=Lib.hid hbr
   have HB8R:=Lib.hid hb8r
   clear hao hbo hdi hsr hbr hb8r
   clear hkl hln1 hln2 hctk hcnt hlen1 hlen2
   as_aux_lemma=>
   go_upto_region 13 with (first
    | (refine wpList_store_one rfl _ (.tmp 75) _ rfl w.heap.size 2 50 _ (.slice Aa X.length ca) rfl rfl HBR.out (by simp) (by kernel_rfl) rfl rfl ?_; intro w3 hb3 hs3; have HB3:=Lib.hid hb3; have HS3:=Lib.hid hs3; clear hb3 hs3)
    | (refine wpList_store_one rfl _ (.tmp 76) _ rfl w.heap.size 3 50 _ (.slice Ab Y.length cb) rfl rfl HB3.out (by simp) (by kernel_rfl) rfl rfl ?_; intro w4 hb4 hs4; have HBq:=Lib.hid hb4; have HSq:=Lib.hid hs4; clear hb4 hs4))
   have hbq : Blk w4 w.heap.size 50 #[.slice Ac FF.cells.length cc,.slice A2 n2 c2,.slice Aa X.length ca,.slice Ab Y.length cb]:=by simpa using HBq.out
   have hsq : Same (· ≠ w.heap.size) wr w4:=Same.trans HS3.out HSq.out (fun _ h=>h)
   have hb8q:=hsq.blk HB8R.out (by omega)
   clear HBq HSq HB3 HS3
   have HBQ:=Lib.hid hbq
   have HSQ:=Lib.hid hsq
   have HB8Q:=Lib.hid hb8q
   clear hbq hsq hb8q
   go_wp2_with (first
    | (refine wpList_load_all rfl _ (.tmp 4) rfl w.heap.size 50 [.slice Ac FF.cells.length cc,.slice A2 n2 c2,.slice Aa X.length ca,.slice Ab Y.length cb] _ rfl HBQ.out Tryz.underlying50 rfl (by kernel_rfl) ?_)
    | (refine wpList_store_all rfl _ (.tmp 8) (.tmp 77) rfl (w.heap.size + 2) 50 _ [.slice Ac FF.cells.length cc,.slice A2 n2 c2,.slice Aa X.length ca,.slice Ab Y.length cb] rfl rfl HB8Q.out rfl (by kernel_rfl) rfl ?_; intro wz hbz hwz; have HBZ:=Lib.hid hbz; have HWZ:=Lib.hid hwz; clear hbz hwz))
   refine bodyPost_ret (results_cell1 Tryz.results60 _ _ _ ⟨w.heap.size + 2,0,none⟩ _ rfl (loadVar_blk [.slice Ac FF.cells.length cc,.slice A2 n2 c2,.slice Aa X.length ca,.slice Ab Y.length cb] _ HBZ.out (fun j v hv=>by simpa using hv) Tryz.underlying50 rfl (by kernel_rfl))) rfl ?_
   have hrz : Same (fun i=>i ≠ w.heap.size ∧ i ≠ w.heap.size + 2) wr wz:=Same.trans (HSQ.out.mono (fun i hi=>hi.1)) HWZ.out (fun i hi=>hi.2)
   have hzz:=hrz.size
   have h2z : Same (fun i=>i < w2.heap.size ∧ i ≠ w.heap.size ∧ i ≠ w.heap.size + 2) w2 wz:=Same.trans (HSR.out.mono (fun i hi=>hi.1)) hrz (fun i hi=>hi.2)
   refine ⟨_,rfl,?_,?_⟩
   ·rw [HRUN.out]
    have o1:=ownsRow_own HCR2.out h2z (fun b hb=>⟨(HCR2.out.lt b hb).2,by have:=(HCR2.out.lt b hb).1; omega,by have:=(HCR2.out.lt b hb).1; omega⟩)
    have o3:=ownsRow_own HAO.out hrz (fun b hb=>⟨by have:=(HAO.out.lt b hb).1; omega,by have:=(HAO.out.lt b hb).1; omega⟩)
    have o4:=ownsRow_own HBO.out hrz (fun b hb=>⟨by have:=(HBO.out.lt b hb).1; omega,by have:=(HBO.out.lt b hb).1; omega⟩)
    obtain ⟨_,_,ee1,p1⟩:=Sl.of_own o1
    obtain ⟨_,_,ee3,p3⟩:=Sl.of_own o3
    obtain ⟨_,_,ee4,p4⟩:=Sl.of_own o4
    injection ee1 with ee1 _ ee1'
    injection ee3 with ee3 _ ee3'
    injection ee4 with ee4 _ ee4'
    subst ee1 ee1' ee3 ee3' ee4 ee4'
    refine ⟨_,_,_,_,_,_,_,_,_,_,_,_,rfl,p1.more (fun i hi=>.inr ⟨by have:=hi.1; omega,hi.2⟩),?_,p3.more (fun i hi=>.inr ⟨by have:=hi.1; omega,hi.2⟩),p4.more (fun i hi=>.inr ⟨by have:=hi.1; omega,hi.2⟩)⟩
    exact (R2.out.keep (h2z.mono (fun i hi=>⟨by have:=HSW.out i hi; omega,by have:=HS.out i hi; omega,by have:=HS.out i hi; omega⟩))).more (fun i hi=>.inl hi)
   ·exact Same.trans HK2.out h2z (fun i hi=>⟨by omega,by omega,by omega⟩)
end Go.Proofs.YtipegaojiokppaaGreatDoor
