import Derived.Test.YtipegaojiokppaaGreatDoorRMach4
set_option linter.unusedVariables false
set_option linter.unusedSimpArgs false
set_option maxRecDepth 100000
namespace Go.Proofs.YtipegaojiokppaaGreatDoor
open Go.RowKit Go.Proofs
theorem ownsRow_up {w : World} {base b n size : Nat} {e : TypeId} {v : Value} {xs : List Value} (h : w.ownsRow base e size v n xs) (hb : ∀ g,v.ownBlock = some g → b ≤ g) : w.ownsRow b e size v n xs:=by
 refine ⟨h.1,?_⟩
 rcases h.2 with hn | ⟨g,cap,cur,rfl,hg,rest⟩
 ·exact .inl hn
 ·exact .inr ⟨g,cap,cur,rfl,hb g rfl,rest⟩
theorem bld_rmach (A : Option Addr) (n c : Nat) (a b d e : Int) : Tryz.prog.built 162 [(0,.slice A n c),(2,.agg #[.int .i64 a,.int .i64 b,.int .i64 d,.int .i64 e])] =
  some #[.slice A n c,.slice none 0 0,.int .i64 a,.int .i64 b,.int .i64 d,.int .i64 e,.int .i64 0]:=by kernel_rfl
set_option maxHeartbeats 8000000 in
theorem rrun_any (n : Nat) (w : World) (S : Nat → Prop) (A A2 : Option Addr) (m c m2 c2 : Nat) (body : List Stm) (cells : List Int) (v : EnvS) (hS : ∀ i,S i → i < w.heap.size) (hsl : SlR w S 18 (StmR w S n) A m c body) (hcl : Sl encI 1 w S A2 m2 c2 cells) (hm2 : m2 ≤ 1000000) :
  Calls Tryz.prog 73 #[.slice A m c,.slice A2 m2 c2,.agg #[.int .i64 v.self,.int .i64 v.procs,.int .i64 v.frm,.int .i64 v.val]] w (RunPost v body cells w):=by
 obtain ⟨i0,hi0,iz0,iz1,iz2⟩:=info_of info_Int
 generalize hW : w.alloc (.cells #[.int .i64 v.self,.int .i64 v.procs,.int .i64 v.frm,.int .i64 v.val] 127) = W
 have hkW : Keep w W:=hW ▸ Keep.new w _
 have hb : Blk W w.heap.size 127 #[.int .i64 v.self,.int .i64 v.procs,.int .i64 v.frm,.int .i64 v.val]:=hW ▸ Blk.new w _ _
 have hzW : w.heap.size < W.heap.size:=hb.lt
 have hA : True:=trivial
 have hSW : ∀ i,S i → i < W.heap.size:=fun i hi=>by have:=hS i hi; omega
 have hslW:=hsl.keep (Same.mono hkW hS) (StmR.keep (Same.mono hkW hS) _)
 have hclW:=(hcl.keep (Same.mono hkW hS)).more hSW
 have hone : ∀ u ∈ cells.flatMap encI,u.oneCell' = true:=fun u hu=>by obtain ⟨x,_,hx⟩:=List.mem_flatMap.1 hu; exact encI_one x u hx
 have hnl:=hcl.1
 have HS:=Lib.hid hS
 have HKW:=Lib.hid hkW
 have HB:=Lib.hid hb
 have HSW:=Lib.hid hSW
 have HSLW:=Lib.hid hslW
 have HCLW:=Lib.hid hclW
 have HONE:=Lib.hid hone
 have HI0:=Lib.hid hi0
 have IZ0:=Lib.hid iz0
 have IZ1:=Lib.hid iz1
 have IZ2:=Lib.hid iz2
 have HNL:=Lib.hid hnl
 clear hS hkW hb hSW hslW hclW hone hi0 iz0 iz1 iz2 hnl
 clear hsl hcl
 go_enter Tryz.func73,Tryz.ntmps73
 go_upto_region 1 with fail
 clear hW
 refine wp_region_L 99 (fun _=>True) (fun wx=>Keep W wx) (by kernel_rfl) trivial (Same.drew (Same.refl _ _)) (fun _ hB=>?_)
 refine wpL_takeB (i:=0) (v:=?_) rfl (by kernel_rfl) (by kernel_rfl) (by kernel_rfl) (by decide) (fun _ _ _ h=>h) (Or.inl ⟨by rfl,?_⟩) (SAB.both hA hB) ?_
 rotate_left
 ·intro wx hBx
  (try dsimp only at hBx)
  go_simp
  try with_reducible rfl
 try simp only [Act.put,List.setIfInBounds_toArray,List.set_cons_zero,List.set_cons_succ]
 refine wpL_takeB (i:=2) rfl (by kernel_rfl) (by kernel_rfl) (by kernel_rfl) (by decide) (fun _ _ _ h=>h) (yieldsIf_blk (by rfl) _ _ rfl w.heap.size 0 127 _ [.int .i64 v.self,.int .i64 v.procs,.int .i64 v.frm,.int .i64 v.val] _ rfl (fun wx hx=>hx.blk HB.out (by omega)) (fun j u hu=>by match j,hu with | 0,hu | 1,hu | 2,hu | 3,hu=>exact hu) Tryz.underlying127 rfl (by kernel_rfl)) (SAB.both hA hB) ?_
 try simp only [Act.put,List.setIfInBounds_toArray,List.set_cons_zero,List.set_cons_succ]
 refine wpL_two (i:=1) (j:=4) (by kernel_rfl) (StepL.mk rfl (fun K hK=>?_)) (StepL.mk rfl (fun K hK=>?_))
 ·-- the copy first
  refine step_append_any _ (by rfl) (.const (.slice none 0 0)) (.tmp 10) _ (by rfl) W.heap.size 3 i0 _ 1 8 Tryz.underlying45 HI0.out IZ0.out IZ1.out IZ2.out rfl (by omega) (.slice none 0 0) 0 [] (by rfl) (World.ownsRow_nil _ _ _ _) _ A2 m2 c2 (cells.flatMap encI) (by rfl) (HCLW.out.keep (Same.drew (Same.refl _ _))).2.2.2 HONE.out (by simp [maxLen]; omega) (by omega) (hB.size) ?_
  intro C w1 hown1 hg1 hat1
  have hown1' : w1.ownsRow W.heap.size 3 1 C cells.length (cells.flatMap encI):=by have:=HNL.out; simpa [this] using hown1
  obtain ⟨A3,c3,hC,hnc,hcm⟩:=own_form hown1'
  subst hC
  have hk1' : Keep W w1:=Same.append hB (World.ownsRow_nil _ W.heap.size 3 1) hg1 (fun i hi=>hi) hB.size
  refine hK.out _ _ (SAB.both trivial hk1') (fun hSS=>?_)
  clear hK K hA hB
  have hB:=hSS.2
  have hA:=hSS.1 (by kernel_rfl)
  (try dsimp only at hB); (try dsimp only at hA); clear hSS
  try simp only [Act.put,List.setIfInBounds_toArray,List.set_cons_zero,List.set_cons_succ]
  refine wpL_takeB (i:=3) rfl (by kernel_rfl) (by kernel_rfl) (by kernel_rfl) (by decide) (fun _ _ _ h=>h) (yieldsIf_bld (by rfl) _ _ rfl _ _ rfl (bld_rmach A3 cells.length c3 v.self v.procs v.frm v.val)) (SAB.both hA hB) ?_
  try simp only [Act.put,List.setIfInBounds_toArray,List.set_cons_zero,List.set_cons_succ]
  refine wpL_one (i:=4) (by kernel_rfl) (StepL.mk rfl (fun K hK=>?_))
  go_simp
  have hk2 : Keep W (w1.alloc (.cells #[.slice none 0 0,.slice none 0 0,.int .i64 0,.int .i64 0,.int .i64 0,.int .i64 0,.int .i64 0] 162)):=Keep.alloc hk1' _
  refine hK.out _ _ (SAB.both trivial hk2) (fun hSS=>?_)
  clear hK K hA hB
  have hB:=hSS.2
  have hA:=hSS.1 (by kernel_rfl)
  (try dsimp only at hB); (try dsimp only at hA); clear hSS
  try simp only [Act.put,List.setIfInBounds_toArray,List.set_cons_zero,List.set_cons_succ]
  have hz1:=hk1'.size
  refine wpL_one (i:=5) (by kernel_rfl) (StepL.mk rfl (fun K hK=>?_))
  refine step_store_blk rfl _ _ _ rfl w1.heap.size 0 162 _ [.slice A3 cells.length c3,.slice none 0 0,.int .i64 v.self,.int .i64 v.procs,.int .i64 v.frm,.int .i64 v.val,.int .i64 0] rfl rfl (Blk.new _ _ _) (by simp) (by kernel_rfl) rfl ?_
  intro w3 hb3 hs3
  rw [splice_all _ _ (by rfl)] at hb3
  have hk3 : Keep W w3:=Keep.write hk2 hs3 hz1
  refine hK.out _ _ (SAB.both trivial hk3) (fun hSS=>?_)
  clear hK K hA hB
  have hB:=hSS.2
  have hA:=hSS.1 (by kernel_rfl)
  (try dsimp only at hB); (try dsimp only at hA); clear hSS
  try simp only [Act.put,List.setIfInBounds_toArray,List.set_cons_zero,List.set_cons_succ]
  refine wpL_done (by kernel_rfl) ?_
  have hlt:=hown1'.lt
  have hownA:=ownsRow_same hown1' (Keep.new w1 (.cells #[.slice none 0 0,.slice none 0 0,.int .i64 0,.int .i64 0,.int .i64 0,.int .i64 0,.int .i64 0] 162)) (fun i hi=>hi.2)
  clear hown1'
  have hown1':=ownsRow_less hownA (Nat.zero_le _)
  have hsz3:=hb3.lt
  have hz3:=hs3.size
  have hm4 : RMach w3 (fun i=>i < W.heap.size) w1.heap.size v ⟨cells,[],400⟩:=by
   refine ⟨.slice A3 cells.length c3,.slice none 0 0,?_,ownsRow_own hown1' hs3 (fun b hb e=>(fun b (hb : Value.ownBlock (.slice A3 cells.length c3) = some b) (e : b = w1.heap.size)=>by have:=(hlt b hb).2; omega) b hb e),World.ownsRow_nil _ _ _ _,by omega,fun hh=>(fun b (hb : Value.ownBlock (.slice A3 cells.length c3) = some b) (e : b = w1.heap.size)=>by have:=(hlt b hb).2; omega) _ hh rfl,(fun hh=>by cases hh),(fun b _ hh=>by cases hh),fun b hb h=>by have:=(fun b (hb : Value.ownBlock (.slice A3 cells.length c3) = some b)=>(hlt b hb).1) b hb; omega,(fun b hh=>by cases hh),fun i hi=>by omega⟩
   simpa [rmCells] using hb3
  have hkw' : Keep W w3:=hk3
  have hsl4:=HSLW.out.keep (Same.mono hkw' HSW.out) (StmR.keep (Same.mono hkw' HSW.out) _)
  have HM4:=Lib.hid hm4
  have HKW':=Lib.hid hkw'
  have HSL4:=Lib.hid hsl4
  clear hm4 hkw' hsl4
  clear hb3 hs3 hown1' hk3 hk2 hownA hlt hk1' hg1 hat1 hown1 hB hA
  go_wp2_with fail
  refine (rlist_all n w3 (fun i=>i < W.heap.size) w1.heap.size v ⟨cells,[],400⟩ S A m c body HSW.out HSL4.out HM4.out (Nat.le_refl _) (by simp)).mono ?_
  rintro e w4 h4
  obtain ⟨r,bb,hx,rfl,hm5,hs5⟩ : ∃ r bb,Exec v (.list body) ⟨cells,[],400⟩ r ∧ e = .returned (.bool bb) ∧ RMach w4 (fun i=>i < W.heap.size) w1.heap.size v r.st ∧ Same (fun i=>i < W.heap.size) w3 w4:=by
   rcases h4 with ⟨m',h1,h2,h3,h4⟩ | ⟨m',h1,h2,h3,h4⟩
   ·exact ⟨_,_,h1,h2,h3,h4⟩
   ·exact ⟨_,_,h1,h2,h3,h4⟩
  rw [← execF_of hx] at hm5
  obtain ⟨C,E,hb4,hc4,hE4,g1,g2,g3,g4,g5,g6,g7⟩:=hm5
  obtain ⟨A5,c5,hC,hnc5,hcm5⟩:=own_form hc4
  subst hC
  obtain ⟨A6,c6,hC,hnc6,hcm6⟩:=own_form hE4
  subst hC
  have e0 : w4.cell? ⟨w1.heap.size,0,none⟩ = some (.slice A5 (execF v body cells).cells.length c5):=by rw [hb4.cell]; rfl
  have e1 : w4.cell? ⟨w1.heap.size,1,none⟩ = some (.slice A6 (execF v body cells).effs.length c6):=by rw [hb4.cell]; rfl
  have e2 : w4.cell? ⟨w1.heap.size,6,none⟩ = some (.int .i64 (400 - ((execF v body cells).fuel : Int))):=by rw [hb4.cell]; rfl
  have hkfin : Keep w w4:=Same.trans HKW.out (Same.trans HKW'.out hs5 (fun i hi=>hi)) (fun i hi=>by omega)
  have o1:=ownsRow_up hc4 (b:=w.heap.size) (fun b hb=>by have:=g5 b hb; omega)
  have o2:=ownsRow_up hE4 (b:=w.heap.size) (fun b hb=>by have:=g6 b hb; omega)
  have O1:=Lib.hid o1
  have O2:=Lib.hid o2
  have G4:=Lib.hid g4
  have HKFIN:=Lib.hid hkfin
  clear o1 o2 g4 hkfin
  clear hb4 hx hs5 g1 g2 g3 g5 g6 g7 hc4 hE4 h4
  go_wp2_with fail
  go_quiet (fail)
  go_wp2_with fail
  refine bodyPost_ret (results_tmp3' Tryz.results73 _ _ _) rfl ?_
  refine ⟨_,_,_,rfl,O1.out,O2.out,G4.out,Same.drewN HKFIN.out _⟩
 ·-- the room first
  go_simp
  have hk0 : Keep W (W.alloc (.cells #[.slice none 0 0,.slice none 0 0,.int .i64 0,.int .i64 0,.int .i64 0,.int .i64 0,.int .i64 0] 162)).drew:=Same.drew (Keep.new W _)
  have hb0 : Blk (W.alloc (.cells #[.slice none 0 0,.slice none 0 0,.int .i64 0,.int .i64 0,.int .i64 0,.int .i64 0,.int .i64 0] 162)).drew W.heap.size 162 _:=Blk.new W _ _
  refine hK.out _ _ (SAB.both trivial hk0) (fun hSS=>?_)
  clear hK K hA hB
  have hB:=hSS.2
  have hA:=hSS.1 (by kernel_rfl)
  (try dsimp only at hB); (try dsimp only at hA); clear hSS
  try simp only [Act.put,List.setIfInBounds_toArray,List.set_cons_zero,List.set_cons_succ]
  generalize hw0 : (W.alloc (.cells #[.slice none 0 0,.slice none 0 0,.int .i64 0,.int .i64 0,.int .i64 0,.int .i64 0,.int .i64 0] 162)).drew = w0 at *
  have hz0 : W.heap.size < w0.heap.size:=hb0.lt
  clear hw0
  refine wpL_one (i:=1) (by kernel_rfl) (StepL.mk rfl (fun K hK=>?_))
  refine step_append_any _ (by rfl) (.const (.slice none 0 0)) (.tmp 10) _ (by rfl) w0.heap.size 3 i0 _ 1 8 Tryz.underlying45 HI0.out IZ0.out IZ1.out IZ2.out rfl (by omega) (.slice none 0 0) 0 [] (by rfl) (World.ownsRow_nil _ _ _ _) _ A2 m2 c2 (cells.flatMap encI) (by rfl) (HCLW.out.keep (Same.mono hk0 (fun i hi=>hi))).2.2.2 HONE.out (by simp [maxLen]; omega) (by omega) (Nat.le_refl _) ?_
  intro C w1 hown1 hg1 hat1
  have hown1' : w1.ownsRow w0.heap.size 3 1 C cells.length (cells.flatMap encI):=by have:=HNL.out; simpa [this] using hown1
  obtain ⟨A3,c3,hC,hnc,hcm⟩:=own_form hown1'
  subst hC
  have hk1' : Keep W w1:=Same.append hk0 (World.ownsRow_nil _ w0.heap.size 3 1) hg1 (fun i hi=>by omega) (Nat.le_refl _)
  have hkb : Keep w0 w1:=Same.append (Same.refl _ _) (World.ownsRow_nil _ w0.heap.size 3 1) hg1 (fun i hi=>hi) (Nat.le_refl _)
  refine hK.out _ _ (SAB.both trivial hk1') (fun hSS=>?_)
  clear hK K hA hB
  have hB:=hSS.2
  have hA:=hSS.1 (by kernel_rfl)
  (try dsimp only at hB); (try dsimp only at hA); clear hSS
  try simp only [Act.put,List.setIfInBounds_toArray,List.set_cons_zero,List.set_cons_succ]
  refine wpL_takeB (i:=3) rfl (by kernel_rfl) (by kernel_rfl) (by kernel_rfl) (by decide) (fun _ _ _ h=>h) (yieldsIf_bld (by rfl) _ _ rfl _ _ rfl (bld_rmach A3 cells.length c3 v.self v.procs v.frm v.val)) (SAB.both hA hB) ?_
  try simp only [Act.put,List.setIfInBounds_toArray,List.set_cons_zero,List.set_cons_succ]
  refine wpL_one (i:=5) (by kernel_rfl) (StepL.mk rfl (fun K hK=>?_))
  refine step_store_blk rfl _ _ _ rfl W.heap.size 0 162 _ [.slice A3 cells.length c3,.slice none 0 0,.int .i64 v.self,.int .i64 v.procs,.int .i64 v.frm,.int .i64 v.val,.int .i64 0] rfl rfl (hkb.blk hb0 hz0) (by simp) (by kernel_rfl) rfl ?_
  intro w3 hb3 hs3
  rw [splice_all _ _ (by rfl)] at hb3
  have hk3 : Keep W w3:=Keep.write hk1' hs3 (Nat.le_refl _)
  refine hK.out _ _ (SAB.both trivial hk3) (fun hSS=>?_)
  clear hK K hA hB
  have hB:=hSS.2
  have hA:=hSS.1 (by kernel_rfl)
  (try dsimp only at hB); (try dsimp only at hA); clear hSS
  try simp only [Act.put,List.setIfInBounds_toArray,List.set_cons_zero,List.set_cons_succ]
  refine wpL_done (by kernel_rfl) ?_
  have hlt:=hown1'.lt
  have hownA:=hown1'
  clear hown1'
  have hown1':=ownsRow_less hownA (Nat.zero_le _)
  have hsz3:=hb3.lt
  have hz3:=hs3.size
  have hm4 : RMach w3 (fun i=>i < W.heap.size) W.heap.size v ⟨cells,[],400⟩:=by
   refine ⟨.slice A3 cells.length c3,.slice none 0 0,?_,ownsRow_own hown1' hs3 (fun b hb e=>(fun b (hb : Value.ownBlock (.slice A3 cells.length c3) = some b) (e : b = W.heap.size)=>by have:=(hlt b hb).1; omega) b hb e),World.ownsRow_nil _ _ _ _,by omega,fun hh=>(fun b (hb : Value.ownBlock (.slice A3 cells.length c3) = some b) (e : b = W.heap.size)=>by have:=(hlt b hb).1; omega) _ hh rfl,(fun hh=>by cases hh),(fun b _ hh=>by cases hh),fun b hb h=>by have:=(fun b (hb : Value.ownBlock (.slice A3 cells.length c3) = some b)=>by have:=(hlt b hb).1; omega) b hb; omega,(fun b hh=>by cases hh),fun i hi=>by omega⟩
   simpa [rmCells] using hb3
  have hkw' : Keep W w3:=hk3
  have hsl4:=HSLW.out.keep (Same.mono hkw' HSW.out) (StmR.keep (Same.mono hkw' HSW.out) _)
  have HM4:=Lib.hid hm4
  have HKW':=Lib.hid hkw'
  have HSL4:=Lib.hid hsl4
  clear hm4 hkw' hsl4
  clear hb3 hs3 hown1' hk3 hk0 hkb hb0 hownA hlt hk1' hg1 hat1 hown1 hB hA
  go_wp2_with fail
  refine (rlist_all n w3 (fun i=>i < W.heap.size) W.heap.size v ⟨cells,[],400⟩ S A m c body HSW.out HSL4.out HM4.out (Nat.le_refl _) (by simp)).mono ?_
  rintro e w4 h4
  obtain ⟨r,bb,hx,rfl,hm5,hs5⟩ : ∃ r bb,Exec v (.list body) ⟨cells,[],400⟩ r ∧ e = .returned (.bool bb) ∧ RMach w4 (fun i=>i < W.heap.size) W.heap.size v r.st ∧ Same (fun i=>i < W.heap.size) w3 w4:=by
   rcases h4 with ⟨m',h1,h2,h3,h4⟩ | ⟨m',h1,h2,h3,h4⟩
   ·exact ⟨_,_,h1,h2,h3,h4⟩
   ·exact ⟨_,_,h1,h2,h3,h4⟩
  rw [← execF_of hx] at hm5
  obtain ⟨C,E,hb4,hc4,hE4,g1,g2,g3,g4,g5,g6,g7⟩:=hm5
  obtain ⟨A5,c5,hC,hnc5,hcm5⟩:=own_form hc4
  subst hC
  obtain ⟨A6,c6,hC,hnc6,hcm6⟩:=own_form hE4
  subst hC
  have e0 : w4.cell? ⟨W.heap.size,0,none⟩ = some (.slice A5 (execF v body cells).cells.length c5):=by rw [hb4.cell]; rfl
  have e1 : w4.cell? ⟨W.heap.size,1,none⟩ = some (.slice A6 (execF v body cells).effs.length c6):=by rw [hb4.cell]; rfl
  have e2 : w4.cell? ⟨W.heap.size,6,none⟩ = some (.int .i64 (400 - ((execF v body cells).fuel : Int))):=by rw [hb4.cell]; rfl
  have hkfin : Keep w w4:=Same.trans HKW.out (Same.trans HKW'.out hs5 (fun i hi=>hi)) (fun i hi=>by omega)
  have o1:=ownsRow_up hc4 (b:=w.heap.size) (fun b hb=>by have:=g5 b hb; omega)
  have o2:=ownsRow_up hE4 (b:=w.heap.size) (fun b hb=>by have:=g6 b hb; omega)
  have O1:=Lib.hid o1
  have O2:=Lib.hid o2
  have G4:=Lib.hid g4
  have HKFIN:=Lib.hid hkfin
  clear o1 o2 g4 hkfin
  clear hb4 hx hs5 g1 g2 g3 g5 g6 g7 hc4 hE4 h4
  go_wp2_with fail
  go_quiet (fail)
  go_wp2_with fail
  refine bodyPost_ret (results_tmp3' Tryz.results73 _ _ _) rfl ?_
  refine ⟨_,_,_,rfl,O1.out,O2.out,G4.out,Same.drewN HKFIN.out _⟩
end Go.Proofs.YtipegaojiokppaaGreatDoor
