import Derived.Test.YtipegaojiokppaaGreatDoorMach8
set_option linter.unusedVariables false
set_option linter.unusedSimpArgs false
set_option maxRecDepth 100000
namespace Go.Proofs.YtipegaojiokppaaGreatDoor
open Go.RowKit Go.Proofs
def rmCells (C E : Value) (fuel : Nat) (v : EnvS) : Array Value:=#[C,E,.int .i64 v.self,.int .i64 v.procs,.int .i64 v.frm,.int .i64 v.val,.int .i64 (400 - (fuel : Int))]
def RMach (w : World) (F : Nat → Prop) (g : Nat) (v : EnvS) (m : Ms) : Prop:=
 ∃ C E : Value,Blk w g 162 (rmCells C E m.fuel v) ∧ w.ownsRow 0 3 1 C m.cells.length (m.cells.flatMap encI) ∧ w.ownsRow 0 134 3 E m.effs.length (m.effs.flatMap encEff) ∧ ¬ F g ∧ C.ownBlock ≠ some g ∧ E.ownBlock ≠ some g ∧ (∀ b,C.ownBlock = some b → E.ownBlock ≠ some b) ∧ (∀ b,C.ownBlock = some b → ¬ F b) ∧ (∀ b,E.ownBlock = some b → ¬ F b) ∧ ∀ i,F i → i < w.heap.size
theorem RMach.keep {w w' : World} {F : Nat → Prop} {g : Nat} {v : EnvS} {m : Ms} (h : RMach w F g v m) (hk : Keep w w') : RMach w' F g v m:=by
 obtain ⟨C,E,hb,hc,he,h1,h2,h3,h4,h5,h6,h7⟩:=h
 exact ⟨C,E,hk.blk hb hb.lt,ownsRow_same hc hk (fun i hi=>hi.2),ownsRow_same he hk (fun i hi=>hi.2),h1,h2,h3,h4,h5,h6,fun i hi=>Nat.lt_of_lt_of_le (h7 i hi) hk.size⟩
def RUnitPost (F : Nat → Prop) (g : Nat) (v : EnvS) (m : Ms) (w : World) (e : Ending) (w' : World) : Prop:=e = .returned (.tuple #[]) ∧ RMach w' F g v m ∧ Same F w w'
def PayPost (F : Nat → Prop) (g : Nat) (v : EnvS) (m : Ms) (w : World) (e : Ending) (w' : World) : Prop:=
 (0 < m.fuel ∧ e = .returned (.bool true) ∧ RMach w' F g v m.pay ∧ Same F w w') ∨ (m.fuel = 0 ∧ e = .returned (.bool false) ∧ RMach w' F g v m ∧ Same F w w')
set_option maxHeartbeats 4000000 in
theorem pay_any (w : World) (F : Nat → Prop) (g : Nat) (v : EnvS) (m : Ms) (hm : RMach w F g v m) (hf : m.fuel ≤ 400) : Calls Tryz.prog 90 #[.pointer (some ⟨g,0,none⟩)] w (PayPost F g v m w):=by
 have hm':=hm
 obtain ⟨C,E,hb,hc,hE,h1,h2,h3,h4,h5,h6,h7⟩:=hm
 have c6 : w.cell? ⟨g,6,none⟩ = some (.int .i64 (400 - (m.fuel : Int))):=by rw [hb.cell]; rfl
 by_cases hk : m.fuel = 0
 ·have d0 : decide ((400 : Int) ≤ 400 - (m.fuel : Int)) = true:=by simp; omega
  have HM':=Lib.hid hm'
  clear hm'
  clear hb hc hE h4 h5 h6 h7
  go_enter Tryz.func90,Tryz.ntmps90
  go_wp2_with fail
  go_ret
  exact .inr ⟨hk,rfl,HM'.out,Same.refl _ _⟩
 ·have d0 : decide ((400 : Int) ≤ 400 - (m.fuel : Int)) = false:=by simp; omega
  have yw : IntKind.i64.wrap (400 - (m.fuel : Int) + 1) = 400 - ((m.fuel - 1 : Nat) : Int):=by rw [IntWalk.i64_in _ (by omega)]; omega
  have HB:=Lib.hid hb
  have HC:=Lib.hid hc
  have HE:=Lib.hid hE
  have H4:=Lib.hid h4
  have H5:=Lib.hid h5
  have H6:=Lib.hid h6
  have H7:=Lib.hid h7
  clear hb hc hE h4 h5 h6 h7
  clear hm'
  go_enter Tryz.func90,Tryz.ntmps90
  go_wp2_with (refine wpList_store_one rfl _ (.tmp 14) _ rfl g 6 162 _ (.int .i64 (400 - ((m.fuel - 1 : Nat) : Int))) rfl rfl HB.out (by simp [rmCells]) (by kernel_rfl) rfl rfl ?_; intro w' hb' hs'; have HB':=Lib.hid hb'; have HS':=Lib.hid hs'; clear hb' hs')
  go_ret
  refine .inl ⟨by omega,rfl,⟨C,E,?_,ownsRow_own HC.out HS'.out (fun b hb e=>h2 (by rw [← e]; exact hb)),ownsRow_own HE.out HS'.out (fun b hb e=>h3 (by rw [← e]; exact hb)),h1,h2,h3,H4.out,H5.out,H6.out,fun i hi=>Nat.lt_of_lt_of_le (H7.out i hi) HS'.out.size⟩,HS'.out.mono (fun i hi e=>h1 (e ▸ hi))⟩
  simpa [rmCells,Ms.pay] using HB'.out
set_option maxHeartbeats 4000000 in
theorem rmvalue_any (w : World) (F : Nat → Prop) (g : Nat) (v : EnvS) (st : Ms) (S : Nat → Prop) (cs : List Value) (e : Ex) (hS : ∀ i,S i → i < w.heap.size) (hm : RMach w F g v st) (hx : ExR w S 5 cs e) :
  Calls Tryz.prog 91 #[.pointer (some ⟨g,0,none⟩),.agg cs.toArray] w (ApplyPost (valS st.cells v 5 e) w):=by
 obtain ⟨C,E,hb,hc,hE,h1,h2,h3,h4,h5,h6,h7⟩:=hm
 obtain ⟨A,c,rfl,hsl⟩:=Sl.of_own hc
 have hgl:=hb.lt
 generalize hv : valS st.cells v 5 e = r
 obtain ⟨o1,x1,n1,l1,z1,a1,B1,p1,q1,-,rfl⟩:=ExR.open_ hx
 generalize hW : w.alloc (.cells #[.int .i64 o1,.int .i64 x1,.string n1,.int .i64 l1,.int .i64 z1,.slice B1 p1 q1] 68) = W
 have hkW : Keep w W:=hW ▸ Keep.new w _
 have hbx : Blk W w.heap.size 68 #[.int .i64 o1,.int .i64 x1,.string n1,.int .i64 l1,.int .i64 z1,.slice B1 p1 q1]:=hW ▸ Blk.new w _ _
 have hzW:=hbx.lt
 have hbg : Blk W g _ _:=hkW.blk hb hgl
 have c0 : ∀ wx,Keep W wx → wx.cell? ⟨g,0,none⟩ = some (.slice A st.cells.length c):=fun wx hx=>(hx.cell (p:=⟨g,0,none⟩) hbg.lt).trans (by rw [hbg.cell]; rfl)
 have hA : True:=trivial
 have hxW:=ExR.keep (Same.mono hkW hS) _ _ _ hx
 have hslW:=hsl.keep (Same.mono hkW (fun i hi=>hi.2))
 have HS:=Lib.hid hS
 have HSLW:=Lib.hid hslW
 have HXW:=Lib.hid hxW
 have HBG:=Lib.hid hbg
 have HV:=Lib.hid hv
 have HBX:=Lib.hid hbx
 have HKW:=Lib.hid hkW
 clear hS hslW hxW hbg hv hbx hkW
 clear hc hE h1 h2 h3 h4 h5 h6 h7 hb hsl hx
 go_enter Tryz.func91,Tryz.ntmps91
 go_upto_region 1 with fail
 clear hW
 refine wp_region_L 99 (fun _=>True) (fun wx=>Keep W wx) (by kernel_rfl) trivial (Same.drew (Same.refl _ _)) (fun _ hB=>?_)
 refine wpL_takeB (i:=0) rfl (by kernel_rfl) (by kernel_rfl) (by kernel_rfl) (by decide) (fun _ _ _ h=>h) (yieldsIf_blk (by rfl) _ _ rfl w.heap.size 0 68 _ [.int .i64 o1,.int .i64 x1,.string n1,.int .i64 l1,.int .i64 z1,.slice B1 p1 q1] _ rfl (fun wx hx=>hx.blk HBX.out hzW) (fun j u hu=>by simpa using hu) Tryz.underlying68 rfl (by kernel_rfl)) (SAB.both hA hB) ?_
 try simp only [Act.put,List.setIfInBounds_toArray,List.set_cons_zero,List.set_cons_succ]
 refine wpL_takeB (i:=1) (v:=?_) rfl (by kernel_rfl) (by kernel_rfl) (by kernel_rfl) (by decide) (fun _ _ _ h=>h) (Or.inl ⟨by rfl,?_⟩) (SAB.both hA hB) ?_
 rotate_left
 ·intro wx hBx
  (try dsimp only at hBx)
  go_simp
  try with_reducible rfl
 try simp only [Act.put,List.setIfInBounds_toArray,List.set_cons_zero,List.set_cons_succ]
 refine wpL_takeB (i:=2) (v:=?_) rfl (by kernel_rfl) (by kernel_rfl) (by kernel_rfl) (by decide) (fun _ _ _ h=>h) (Or.inl ⟨by rfl,?_⟩) (SAB.both hA hB) ?_
 rotate_left
 ·intro wx hBx
  (try dsimp only at hBx)
  go_simp
  try with_reducible rfl
 try simp only [Act.put,List.setIfInBounds_toArray,List.set_cons_zero,List.set_cons_succ]
 refine wpL_takeB (i:=3) (v:=?_) rfl (by kernel_rfl) (by kernel_rfl) (by kernel_rfl) (by decide) (fun _ _ _ h=>h) (Or.inl ⟨by rfl,?_⟩) (SAB.both hA hB) ?_
 rotate_left
 ·intro wx hBx
  (try dsimp only at hBx)
  go_simp
  try with_reducible rfl
 try simp only [Act.put,List.setIfInBounds_toArray,List.set_cons_zero,List.set_cons_succ]
 refine wpL_takeB (i:=4) (v:=?_) rfl (by kernel_rfl) (by kernel_rfl) (by kernel_rfl) (by decide) (fun _ _ _ h=>h) (Or.inl ⟨by rfl,?_⟩) (SAB.both hA hB) ?_
 rotate_left
 ·intro wx hBx
  (try dsimp only at hBx)
  go_simp
  try with_reducible rfl
 try simp only [Act.put,List.setIfInBounds_toArray,List.set_cons_zero,List.set_cons_succ]
 refine wpL_takeB (i:=5) (v:=?_) rfl (by kernel_rfl) (by kernel_rfl) (by kernel_rfl) (by decide) (fun _ _ _ h=>h) (Or.inl ⟨by rfl,?_⟩) (SAB.both hA hB) ?_
 rotate_left
 ·intro wx hBx
  (try dsimp only at hBx)
  go_simp
  try with_reducible rfl
 try simp only [Act.put,List.setIfInBounds_toArray,List.set_cons_zero,List.set_cons_succ]
 refine wpL_takeB (i:=6) (v:=?_) rfl (by kernel_rfl) (by kernel_rfl) (by kernel_rfl) (by decide) (fun _ _ _ h=>h) (Or.inl ⟨by rfl,?_⟩) (SAB.both hA hB) ?_
 rotate_left
 ·intro wx hBx
  (try dsimp only at hBx)
  go_simp
  try with_reducible rfl
 try simp only [Act.put,List.setIfInBounds_toArray,List.set_cons_zero,List.set_cons_succ]
 refine wpL_takeB (i:=7) (v:=?_) rfl (by kernel_rfl) (by kernel_rfl) (by kernel_rfl) (by decide) (fun _ _ _ h=>h) (Or.inl ⟨by rfl,?_⟩) (SAB.both hA hB) ?_
 rotate_left
 ·intro wx hBx
  (try dsimp only at hBx)
  go_simp
  try with_reducible rfl
 try simp only [Act.put,List.setIfInBounds_toArray,List.set_cons_zero,List.set_cons_succ]
 refine wpL_takeB (i:=8) rfl (by kernel_rfl) (by kernel_rfl) (by kernel_rfl) (by decide) (fun _ _ _ h=>h) (yieldsIf_blk (by rfl) _ _ rfl g 2 162 _ [.int .i64 v.self,.int .i64 v.procs,.int .i64 v.frm,.int .i64 v.val] _ rfl (fun wx hx=>hx.blk HBG.out HBG.out.lt) (fun j u hu=>by match j,hu with | 0,hu | 1,hu | 2,hu | 3,hu=>exact hu) Tryz.underlying127 rfl (by kernel_rfl)) (SAB.both hA hB) ?_
 try simp only [Act.put,List.setIfInBounds_toArray,List.set_cons_zero,List.set_cons_succ]
 clear c0
 refine wpL_one (i:=9) (by kernel_rfl) (StepL.mk rfl (fun K hK=>?_))
 go_simp
 refine (rvalue_all 5 st.cells v e [.int .i64 o1,.int .i64 x1,.string n1,.int .i64 l1,.int .i64 z1,.slice B1 p1 q1] W.drew (fun i=>i < W.heap.size) A st.cells.length c (fun i hi=>hi) (ExR.more (fun i hi=>Nat.lt_of_lt_of_le (HS.out i hi) HKW.out.size) _ _ _ (ExR.keep (Same.drew (Same.refl _ _)) _ _ _ HXW.out)) ((HSLW.out.more (fun i hi=>Nat.lt_of_lt_of_le hi.2 HKW.out.size)).keep (Same.drew (Same.refl _ _))) (Nat.le_trans HSLW.out.2.1 HSLW.out.2.2.1)).mono ?_
 rw [HV.out]
 rintro e w1 ⟨rfl,hk1⟩
 have hk1' : Keep W w1:=Keep.trans hB hk1
 refine hK.out _ _ (SAB.both trivial hk1') (fun hSS=>?_)
 clear hK K hA hB
 have hB:=hSS.2
 have hA:=hSS.1 (by kernel_rfl)
 (try dsimp only at hB); (try dsimp only at hA); clear hSS
 try simp only [Act.put,List.setIfInBounds_toArray,List.set_cons_zero,List.set_cons_succ]
 refine wpL_takeB (i:=10) (v:=?_) rfl (by kernel_rfl) (by kernel_rfl) (by kernel_rfl) (by decide) (fun _ _ _ h=>h) (Or.inl ⟨by rfl,?_⟩) (SAB.both hA hB) ?_
 rotate_left
 ·intro wx hBx
  (try dsimp only at hBx)
  go_simp
  try with_reducible rfl
 try simp only [Act.put,List.setIfInBounds_toArray,List.set_cons_zero,List.set_cons_succ]
 refine wpL_done (by kernel_rfl) ?_
 have hfin:=Keep.trans HKW.out hk1'
 have HFIN:=Lib.hid hfin
 clear hfin
 clear hk1 hA hB hk1'
 go_wp2_with fail
 go_ret
 exact ⟨rfl,HFIN.out⟩
end Go.Proofs.YtipegaojiokppaaGreatDoor
