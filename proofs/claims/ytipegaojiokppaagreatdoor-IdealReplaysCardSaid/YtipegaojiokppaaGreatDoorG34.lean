import Derived.Test.YtipegaojiokppaaGreatDoorGQ
import Derived.Test.YtipegaojiokppaaGreatDoorSlices
import Derived.Test.YtipegaojiokppaaGreatDoorGI
set_option linter.unusedVariables false
set_option linter.unusedSimpArgs false
set_option maxRecDepth 100000
namespace Go.Proofs.YtipegaojiokppaaGreatDoor
open Go.RowKit Go.Proofs
def EvsR (w : World) (S : Nat → Prop) (cs : List Value) (l : List Ev) : Prop:=∃ (A : Option Addr) (n c : Nat),cs = [.slice A n c] ∧ Sl encEv 7 w S A n c l
theorem EvsR.keep {w w' : World} {S : Nat → Prop} (hk : Same S w w') (cs : List Value) (l : List Ev) (h : EvsR w S cs l) : EvsR w' S cs l:=by
 obtain ⟨A,n,c,e,h⟩:=h
 exact ⟨A,n,c,e,h.keep hk⟩
theorem EvsR.more {w : World} {S T : Nat → Prop} (hk : ∀ i,S i → T i) (cs : List Value) (l : List Ev) (h : EvsR w S cs l) : EvsR w T cs l:=by
 obtain ⟨A,n,c,e,h⟩:=h
 exact ⟨A,n,c,e,h.more hk⟩
def possS (l : List (List Ev)) (at_ : List Int) (q : Int) (e : Ev) : Bool:=
 if e.kind = 1 then
  decide (0 ≤ e.frm) && decide (e.frm < l.length) && decide (e.frm ≠ q) && decide (e.sIdx ≤ at_.getD e.frm.toNat 0) && labOk (l.getD e.frm.toNat []) e.sIdx && decide (labInc (l.getD e.frm.toNat []) e.sIdx = e.sInc) && decide (labIdx (l.getD e.frm.toNat []) e.sIdx = e.sIdx)
 else true
def chS (q : Int) (e : Ev) : Chc:=if e.kind = 1 then ⟨q,e.kind,e.frm,e.sIdx,e.ord,0⟩ else ⟨q,e.kind,0,0,0,e.val⟩
def BoolPost (v : Bool) (w : World) (e : Ending) (w' : World) : Prop:=e = .returned (.bool v) ∧ Keep w w'
def ChPost (x : Chc) (w : World) (e : Ending) (w' : World) : Prop:=e = .returned (.agg (encCh x).toArray) ∧ Keep w w'
theorem bld_ch5 (a b c d e : Int) : Tryz.prog.built 57 [(0,.int .i64 a),(1,.int .i64 b),(2,.int .i64 c),(3,.int .i64 d),(4,.int .i64 e)] = some #[.int .i64 a,.int .i64 b,.int .i64 c,.int .i64 d,.int .i64 e,.int .i64 0]:=by kernel_rfl
theorem bld_ch3 (a b c : Int) : Tryz.prog.built 57 [(0,.int .i64 a),(1,.int .i64 b),(5,.int .i64 c)] = some #[.int .i64 a,.int .i64 b,.int .i64 0,.int .i64 0,.int .i64 0,.int .i64 c]:=by kernel_rfl
theorem bld_ste (A : Option Addr) (n c : Nat) : Tryz.prog.built 50 [(1,.slice A n c)] = some #[.slice none 0 0,.slice A n c,.slice none 0 0,.slice none 0 0]:=by kernel_rfl
set_option maxHeartbeats 4000000 in
theorem choice_any (w : World) (q : Int) (e : Ev) : Calls Tryz.prog 54 #[.int .i64 q,.agg #[.int .i64 e.kind,.int .i64 e.inc,.int .i64 e.frm,.int .i64 e.sInc,.int .i64 e.sIdx,.int .i64 e.ord,.int .i64 e.val]] w (ChPost (chS q e) w):=by
 generalize hW : (w.alloc (.cells #[.int .i64 e.kind,.int .i64 e.inc,.int .i64 e.frm,.int .i64 e.sInc,.int .i64 e.sIdx,.int .i64 e.ord,.int .i64 e.val] 89)).alloc (.cells #[.int .i64 0,.int .i64 0,.int .i64 0,.int .i64 0,.int .i64 0,.int .i64 0] 57) = W
 have hkW : Keep w W:=hW ▸ Keep.alloc (Keep.new w _) _
 have hb3 : Blk W w.heap.size 89 #[.int .i64 e.kind,.int .i64 e.inc,.int .i64 e.frm,.int .i64 e.sInc,.int .i64 e.sIdx,.int .i64 e.ord,.int .i64 e.val]:=hW ▸ (Blk.new w _ _).alloc _
 have hb4 : Blk W (w.heap.size + 1) 57 #[.int .i64 0,.int .i64 0,.int .i64 0,.int .i64 0,.int .i64 0,.int .i64 0]:=hW ▸ (by simpa using Blk.new (w.alloc _) _ _)
 have c0 : W.cell? ⟨w.heap.size,0,none⟩ = some (.int .i64 e.kind):=by rw [hb3.cell]; rfl
 have c2 : W.cell? ⟨w.heap.size,2,none⟩ = some (.int .i64 e.frm):=by rw [hb3.cell]; rfl
 have c4 : W.cell? ⟨w.heap.size,4,none⟩ = some (.int .i64 e.sIdx):=by rw [hb3.cell]; rfl
 have c5 : W.cell? ⟨w.heap.size,5,none⟩ = some (.int .i64 e.ord):=by rw [hb3.cell]; rfl
 have c6 : W.cell? ⟨w.heap.size,6,none⟩ = some (.int .i64 e.val):=by rw [hb3.cell]; rfl
 have HKW:=Lib.hid hkW
 have HB3:=Lib.hid hb3
 have HB4:=Lib.hid hb4
 clear hkW hb3 hb4
 by_cases hk : e.kind = 1
 ·have t0 : (e.kind == 1) = true:=by simpa using hk
  have hx : chS q e = ⟨q,e.kind,e.frm,e.sIdx,e.ord,0⟩:=by unfold chS; rw [if_pos hk]
  have HX:=Lib.hid hx
  clear hx
  clear hk
  go_enter Tryz.func54,Tryz.ntmps54
  go_upto_region 1 with fail
  clear hW
  go_wp2_with (first
   | (refine wpList_bld rfl 57 _ rfl _ [(0,.int .i64 q),(1,.int .i64 e.kind),(2,.int .i64 e.frm),(3,.int .i64 e.sIdx),(4,.int .i64 e.ord)] rfl (bld_ch5 _ _ _ _ _) ?_)
   | (refine wpList_store_all rfl _ (.tmp 4) (.tmp 18) rfl (w.heap.size + 1) 57 _ [.int .i64 q,.int .i64 e.kind,.int .i64 e.frm,.int .i64 e.sIdx,.int .i64 e.ord,.int .i64 0] rfl rfl HB4.out rfl (by kernel_rfl) rfl ?_; intro v6 hv6 hs6))
  exact bodyPost_ret (results_cell1 Tryz.results54 _ _ _ ⟨w.heap.size + 1,0,none⟩ _ rfl (loadVar_blk [.int .i64 q,.int .i64 e.kind,.int .i64 e.frm,.int .i64 e.sIdx,.int .i64 e.ord,.int .i64 0] _ hv6 (fun j v hv=>by simpa using hv) Tryz.underlying57 rfl (by kernel_rfl))) rfl ⟨by rw [HX.out]; rfl,Keep.write HKW.out hs6 (by omega)⟩
 ·have t0 : (e.kind == 1) = false:=by simpa using hk
  have hx : chS q e = ⟨q,e.kind,0,0,0,e.val⟩:=by unfold chS; rw [if_neg hk]
  have HX:=Lib.hid hx
  clear hx
  clear hk
  go_enter Tryz.func54,Tryz.ntmps54
  go_upto_region 1 with fail
  clear hW
  go_wp2_with (first
   | (refine wpList_bld rfl 57 _ rfl _ [(0,.int .i64 q),(1,.int .i64 e.kind),(5,.int .i64 e.val)] rfl (bld_ch3 _ _ _) ?_)
   | (refine wpList_store_all rfl _ (.tmp 4) (.tmp 24) rfl (w.heap.size + 1) 57 _ [.int .i64 q,.int .i64 e.kind,.int .i64 0,.int .i64 0,.int .i64 0,.int .i64 e.val] rfl rfl HB4.out rfl (by kernel_rfl) rfl ?_; intro v6 hv6 hs6))
  exact bodyPost_ret (results_cell1 Tryz.results54 _ _ _ ⟨w.heap.size + 1,0,none⟩ _ rfl (loadVar_blk [.int .i64 q,.int .i64 e.kind,.int .i64 0,.int .i64 0,.int .i64 0,.int .i64 e.val] _ hv6 (fun j v hv=>by simpa using hv) Tryz.underlying57 rfl (by kernel_rfl))) rfl ⟨by rw [HX.out]; rfl,Keep.write HKW.out hs6 (by omega)⟩
def PsC (W : World) (la lb : Int) (lo : Bool) (p o : Value) (wx : World) : Prop:=∃ g : Nat,p = .pointer (some ⟨g,0,none⟩) ∧ o = .bool lo ∧ Blk wx g 87 #[.int .i64 la,.int .i64 lb] ∧ Keep W wx
set_option maxHeartbeats 8000000 in
theorem possible_any (w : World) (S : Nat → Prop) (A A2 : Option Addr) (n c n2 c2 : Nat) (l : List (List Ev)) (at_ : List Int) (q : Int) (e : Ev) (hS : ∀ i,S i → i < w.heap.size) (hl : SlR w S 1 (EvsR w S) A n c l) (ha : Sl encI 1 w S A2 n2 c2 at_) (hn2 : n2 = n) (hn : n ≤ 100000) (hlen : ∀ x ∈ l,x.length ≤ 1000000) :
  Calls Tryz.prog 53 #[.slice A n c,.slice A2 n2 c2,.int .i64 q,.agg #[.int .i64 e.kind,.int .i64 e.inc,.int .i64 e.frm,.int .i64 e.sInc,.int .i64 e.sIdx,.int .i64 e.ord,.int .i64 e.val]] w (BoolPost (possS l at_ q e) w):=by
 subst hn2
 generalize hW : w.alloc (.cells #[.int .i64 e.kind,.int .i64 e.inc,.int .i64 e.frm,.int .i64 e.sInc,.int .i64 e.sIdx,.int .i64 e.ord,.int .i64 e.val] 89) = W
 have hkW : Keep w W:=hW ▸ Keep.new w _
 have hb7 : Blk W w.heap.size 89 #[.int .i64 e.kind,.int .i64 e.inc,.int .i64 e.frm,.int .i64 e.sInc,.int .i64 e.sIdx,.int .i64 e.ord,.int .i64 e.val]:=hW ▸ Blk.new w _ _
 have hz:=hb7.lt
 have c0 : W.cell? ⟨w.heap.size,0,none⟩ = some (.int .i64 e.kind):=by rw [hb7.cell]; rfl
 have c2' : W.cell? ⟨w.heap.size,2,none⟩ = some (.int .i64 e.frm):=by rw [hb7.cell]; rfl
 have c4 : W.cell? ⟨w.heap.size,4,none⟩ = some (.int .i64 e.sIdx):=by rw [hb7.cell]; rfl
 have hnl:=hl.1
 have hna:=ha.1
 have haW:=ha.keep (Same.mono hkW hS)
 have hlW:=hl.keep (Same.mono hkW hS) (EvsR.keep (Same.mono hkW hS))
 have fin : ∀ b,possS l at_ q e = b → ∀ w',Keep W w' → BoolPost (possS l at_ q e) w (.returned (.bool b)) w':=fun b hb w' hk=>⟨by rw [hb],Keep.trans hkW hk⟩
 have hle : n2 = l.length:=hnl
 have HKW:=Lib.hid hkW
 have HB7:=Lib.hid hb7
 have HAW:=Lib.hid haW
 have HLW:=Lib.hid hlW
 have HNL:=Lib.hid hnl
 have HNA:=Lib.hid hna
 have HS:=Lib.hid hS
 have HLEN:=Lib.hid hlen
 have FIN:=Lib.hid fin
 clear hkW hb7 haW hlW hnl hna hS hlen fin
 clear hl ha hle
 by_cases hk : e.kind = 1
 case neg=>
  have t0 : (e.kind != 1) = true:=by simpa using hk
  have hp:=FIN.out true (by unfold possS; rw [if_neg hk])
  have HP:=Lib.hid hp
  clear hp
  clear hk
  go_enter Tryz.func53,Tryz.ntmps53
  go_upto_region 1 with fail
  clear hW
  go_wp2_with fail
  go_ret
  exact HP.out _ (Same.refl _ _)
 have t0 : (e.kind != 1) = false:=by simpa using hk
 have hps : possS l at_ q e = (decide (0 ≤ e.frm) && decide (e.frm < l.length) && decide (e.frm ≠ q) && decide (e.sIdx ≤ at_.getD e.frm.toNat 0) && labOk (l.getD e.frm.toNat []) e.sIdx && decide (labInc (l.getD e.frm.toNat []) e.sIdx = e.sInc) && decide (labIdx (l.getD e.frm.toNat []) e.sIdx = e.sIdx)):=by unfold possS; rw [if_pos hk]
 have HPS:=Lib.hid hps
 clear hps
 clear hk
 by_cases h1 : e.frm < 0
 ·have t1 : decide (e.frm < 0) = true:=by simpa using h1
  have hp:=FIN.out false (by rw [HPS.out]; simp; omega)
  have HP:=Lib.hid hp
  clear hp
  go_enter Tryz.func53,Tryz.ntmps53
  go_upto_region 1 with fail
  clear hW
  go_upto_region 3 with fail
  go_quiet (fail)
  go_wp2_with fail
  go_ret
  exact HP.out _ (Keep.draws _ _)
 have t1 : decide (e.frm < 0) = false:=by simpa using h1
 by_cases h2 : (n2 : Int) ≤ e.frm
 ·have t2 : decide ((n2 : Int) ≤ e.frm) = true:=by simpa using h2
  have hp:=FIN.out false (by rw [HPS.out]; have:=HNL.out; simp; omega)
  have HP:=Lib.hid hp
  clear hp
  go_enter Tryz.func53,Tryz.ntmps53
  go_upto_region 1 with fail
  clear hW
  go_upto_region 3 with fail
  go_quiet (fail)
  go_wp2_with fail
  go_ret
  exact HP.out _ (Keep.draws _ _)
 have t2 : decide ((n2 : Int) ≤ e.frm) = false:=by simpa using h2
 by_cases h3 : e.frm = q
 ·have t3 : (e.frm == q) = true:=by simpa using h3
  have hq:=h3
  have HQ:=Lib.hid hq
  clear hq
  clear h3
  have hp:=FIN.out false (by rw [HPS.out]; have:=HQ.out; simp [this])
  have HP:=Lib.hid hp
  clear hp
  go_enter Tryz.func53,Tryz.ntmps53
  go_upto_region 1 with fail
  clear hW
  go_upto_region 3 with fail
  go_quiet (fail)
  go_wp2_with fail
  go_ret
  exact HP.out _ (Keep.draws _ _)
 have t3 : (e.frm == q) = false:=by simpa using h3
 obtain ⟨fr,hfr⟩ : ∃ fr : Nat,e.frm = fr:=⟨e.frm.toNat,by omega⟩
 have hfn : fr < n2:=by omega
 obtain ⟨b2,off2,av,rfl,hb2,hav,hcv⟩:=HAW.out.at_ encI_len hfn
 have hgd : at_.getD e.frm.toNat 0 = av:=by rw [hfr]; simp [List.getD,hav]
 have c7 : W.cell? ⟨b2,off2 + fr,none⟩ = some (.int .i64 av):=by have:=hcv 0 _ rfl; simpa using this
 have i0 : (0 : Int) ≤ e.frm:=by omega
 have i1 : e.frm < (n2 : Int):=by omega
 have i2 : e.frm.toNat = fr:=by omega
 clear hcv hav
 have HGD:=Lib.hid hgd
 have HFR:=Lib.hid hfr
 have H3:=Lib.hid h3
 clear hgd hfr h3
 by_cases h4 : av < e.sIdx
 ·have t4 : decide (av < e.sIdx) = true:=by simpa using h4
  have hp:=FIN.out false (by rw [HPS.out]; rw [HGD.out]; simp; omega)
  have HP:=Lib.hid hp
  clear hp
  go_enter Tryz.func53,Tryz.ntmps53
  go_upto_region 1 with fail
  clear hW
  go_upto_region 3 with fail
  go_quiet (fail)
  go_wp2_with fail
  go_ret
  exact HP.out _ (Keep.draws _ _)
 have t4 : decide (av < e.sIdx) = false:=by simpa using h4
 obtain ⟨b1,off1,cs,evs,rfl,hb1,hev,⟨Ae,ne,ce,rfl,hse⟩,-,hce⟩:=HLW.out.at_ hfn
 have hgl : l.getD e.frm.toNat [] = evs:=by rw [HFR.out]; simp [List.getD,hev]
 have c8 : ∀ wx,Keep W wx → wx.cell? ⟨b1,off1 + fr,none⟩ = some (.slice Ae ne ce):=fun wx hx=>(hx.cell (p:=⟨b1,off1 + fr,none⟩) (by have:=HS.out _ hb1; have:=HKW.out.size; show b1 < _; omega)).trans (by have:=hce 0 _ rfl; simpa using this)
 have hpr : possS l at_ q e = (labOk evs e.sIdx && decide (labInc evs e.sIdx = e.sInc) && decide (labIdx evs e.sIdx = e.sIdx)):=by
  rw [HPS.out,hgl,HGD.out]
  have d1 : decide (0 ≤ e.frm) = true:=by simp; omega
  have d2 : decide (e.frm < l.length) = true:=by have:=HNL.out; simp; omega
  have d3 : decide (e.frm ≠ q) = true:=by have:=H3.out; simp [this]
  have d4 : decide (e.sIdx ≤ av) = true:=by simp; omega
  rw [d1,d2,d3,d4]
  simp
 have hel : evs.length ≤ 1000000:=HLEN.out _ (List.mem_of_getElem? hev)
 have f2 : ∀ wx,Keep W wx → wx.cell? ⟨w.heap.size,2,none⟩ = some (.int .i64 e.frm):=fun wx hx=>by rw [(hx.blk HB7.out HB7.out.lt).cell]; rfl
 have f4 : ∀ wx,Keep W wx → wx.cell? ⟨w.heap.size,4,none⟩ = some (.int .i64 e.sIdx):=fun wx hx=>by rw [(hx.blk HB7.out HB7.out.lt).cell]; rfl
 have HGL:=Lib.hid hgl
 have HPR:=Lib.hid hpr
 have HSE:=Lib.hid hse
 have HEL:=Lib.hid hel
 have C8:=Lib.hid c8
 have F2:=Lib.hid f2
 have F4:=Lib.hid f4
 clear hgl hpr hse hel c8 f2 f4
 clear hce hev
 go_enter Tryz.func53,Tryz.ntmps53
 go_upto_region 1 with fail
 clear hW
 go_upto_region 3 with fail
 go_quiet (fail)
 go_upto_region 5 with fail
 have hkq : Keep W (W.drewN nq):=Keep.draws W nq
 generalize hwq : W.drewN nq = Wq at hkq ⊢
 clear hwq c0 c2' c4 c7
 try simp only [Act.put,List.setIfInBounds_toArray,List.set_cons_zero,List.set_cons_succ]
 go_cut [9,10] from 41 to 53 (fun p o wx=>PsC W (labInc evs e.sIdx) (labIdx evs e.sIdx) (labOk evs e.sIdx) p o wx)
 case first=>
  have f2:=F2.out
  have f4:=F4.out
  have c8:=C8.out
  refine wp_region_L 14 (fun wx=>Keep W wx) (fun _=>True) (by kernel_rfl) (Same.drew hkq) trivial (fun hA hB=>?_)
  generalize hu0 : Wq.drew = u0 at hA ⊢
  clear hu0
  have z0:=hA.size
  refine wpL_takeA (i:=0) (v:=?_) rfl (by kernel_rfl) (by kernel_rfl) (by kernel_rfl) (by kernel_rfl) (by decide) (fun _ _ _ h=>h) (Or.inl ⟨by rfl,?_⟩) hA hB ?_
  rotate_left
  ·rintro wx ⟨hAx,hBx⟩
   (try dsimp only at hBx); (try dsimp only at hAx)
   go_simp
   try with_reducible rfl
  try simp only [Act.put,List.setIfInBounds_toArray,List.set_cons_zero,List.set_cons_succ]
  refine wpL_takeA (i:=1) (v:=?_) rfl (by kernel_rfl) (by kernel_rfl) (by kernel_rfl) (by kernel_rfl) (by decide) (fun _ _ _ h=>h) (Or.inl ⟨by rfl,?_⟩) hA hB ?_
  rotate_left
  ·rintro wx ⟨hAx,hBx⟩
   (try dsimp only at hBx); (try dsimp only at hAx)
   go_simp
   try with_reducible rfl
  try simp only [Act.put,List.setIfInBounds_toArray,List.set_cons_zero,List.set_cons_succ]
  refine wpL_takeA (i:=2) (v:=?_) rfl (by kernel_rfl) (by kernel_rfl) (by kernel_rfl) (by kernel_rfl) (by decide) (fun _ _ _ h=>h) (Or.inl ⟨by rfl,?_⟩) hA hB ?_
  rotate_left
  ·rintro wx ⟨hAx,hBx⟩
   (try dsimp only at hBx); (try dsimp only at hAx)
   go_simp
   try with_reducible rfl
  try simp only [Act.put,List.setIfInBounds_toArray,List.set_cons_zero,List.set_cons_succ]
  refine wpL_takeA (i:=3) (v:=?_) rfl (by kernel_rfl) (by kernel_rfl) (by kernel_rfl) (by kernel_rfl) (by decide) (fun _ _ _ h=>h) (Or.inl ⟨by rfl,?_⟩) hA hB ?_
  rotate_left
  ·rintro wx ⟨hAx,hBx⟩
   (try dsimp only at hBx); (try dsimp only at hAx)
   go_simp
   try with_reducible rfl
  try simp only [Act.put,List.setIfInBounds_toArray,List.set_cons_zero,List.set_cons_succ]
  refine wpL_takeA (i:=4) (v:=?_) rfl (by kernel_rfl) (by kernel_rfl) (by kernel_rfl) (by kernel_rfl) (by decide) (fun _ _ _ h=>h) (Or.inl ⟨by rfl,?_⟩) hA hB ?_
  rotate_left
  ·rintro wx ⟨hAx,hBx⟩
   (try dsimp only at hBx); (try dsimp only at hAx)
   go_simp
   try with_reducible rfl
  try simp only [Act.put,List.setIfInBounds_toArray,List.set_cons_zero,List.set_cons_succ]
  refine wpL_takeA (i:=5) rfl (by kernel_rfl) (by kernel_rfl) (by kernel_rfl) (by kernel_rfl) (by decide) (fun _ _ _ h=>h) (yieldsIf_bld (by rfl) 50 _ rfl _ [(1,.slice Ae ne ce)] rfl (bld_ste _ _ _)) hA hB ?_
  try simp only [Act.put,List.setIfInBounds_toArray,List.set_cons_zero,List.set_cons_succ]
  refine wpL_takeA (i:=6) (v:=?_) rfl (by kernel_rfl) (by kernel_rfl) (by kernel_rfl) (by kernel_rfl) (by decide) (fun _ _ _ h=>h) (Or.inl ⟨by rfl,?_⟩) hA hB ?_
  rotate_left
  ·rintro wx ⟨hAx,hBx⟩
   (try dsimp only at hBx); (try dsimp only at hAx)
   go_simp
   try with_reducible rfl
  try simp only [Act.put,List.setIfInBounds_toArray,List.set_cons_zero,List.set_cons_succ]
  refine wpL_takeA (i:=7) (v:=?_) rfl (by kernel_rfl) (by kernel_rfl) (by kernel_rfl) (by kernel_rfl) (by decide) (fun _ _ _ h=>h) (Or.inl ⟨by rfl,?_⟩) hA hB ?_
  rotate_left
  ·rintro wx ⟨hAx,hBx⟩
   (try dsimp only at hBx); (try dsimp only at hAx)
   go_simp
   try with_reducible rfl
  try simp only [Act.put,List.setIfInBounds_toArray,List.set_cons_zero,List.set_cons_succ]
  refine wpL_takeA (i:=8) (v:=?_) rfl (by kernel_rfl) (by kernel_rfl) (by kernel_rfl) (by kernel_rfl) (by decide) (fun _ _ _ h=>h) (Or.inl ⟨by rfl,?_⟩) hA hB ?_
  rotate_left
  ·rintro wx ⟨hAx,hBx⟩
   (try dsimp only at hBx); (try dsimp only at hAx)
   go_simp
   try with_reducible rfl
  try simp only [Act.put,List.setIfInBounds_toArray,List.set_cons_zero,List.set_cons_succ]
  clear f2 f4 c8
  refine wpL_two (i:=9) (j:=13) (by kernel_rfl) (StepL.mk rfl (fun K hK=>?_)) (StepL.mk rfl (fun K hK=>?_))
  ·go_simp
   refine (plabel_any u0 S none Ae none none 0 0 ne ce 0 0 0 0 evs e.sIdx (fun i hi=>by have:=HS.out i hi; have:=hA.size; omega) (HSE.out.keep (Same.mono hA (fun i hi=>by have:=HS.out i hi; omega))) HEL.out).mono ?_
   rintro e9 u1 ⟨rfl,hk11⟩
   have z1:=hk11.size
   have ha:=Keep.trans hA hk11
   refine hK.out _ _ (SAB.both ha trivial) (fun hSS=>?_)
   clear hK K hA hB
   have hB:=hSS.2
   have hA:=hSS.1 (by kernel_rfl)
   (try dsimp only at hB); (try dsimp only at hA); clear hSS
   try simp only [Act.put,List.setIfInBounds_toArray,List.set_cons_zero,List.set_cons_succ]
   clear ha
   refine wpL_takeA (i:=10) (v:=?_) rfl (by kernel_rfl) (by kernel_rfl) (by kernel_rfl) (by kernel_rfl) (by decide) (fun _ _ _ h=>h) (Or.inl ⟨by rfl,?_⟩) hA hB ?_
   rotate_left
   ·rintro wx ⟨hAx,hBx⟩
    (try dsimp only at hBx); (try dsimp only at hAx)
    go_simp
    try with_reducible rfl
   try simp only [Act.put,List.setIfInBounds_toArray,List.set_cons_zero,List.set_cons_succ]
   refine wpL_takeA (i:=11) (v:=?_) rfl (by kernel_rfl) (by kernel_rfl) (by kernel_rfl) (by kernel_rfl) (by decide) (fun _ _ _ h=>h) (Or.inl ⟨by rfl,?_⟩) hA hB ?_
   rotate_left
   ·rintro wx ⟨hAx,hBx⟩
    (try dsimp only at hBx); (try dsimp only at hAx)
    go_simp
    try with_reducible rfl
   try simp only [Act.put,List.setIfInBounds_toArray,List.set_cons_zero,List.set_cons_succ]
   refine wpL_takeB (i:=12) (v:=?_) rfl (by kernel_rfl) (by kernel_rfl) (by kernel_rfl) (by decide) (fun _ _ _ h=>h) (Or.inl ⟨by rfl,?_⟩) (SAB.both hA hB) ?_
   rotate_left
   ·intro wx hBx
    (try dsimp only at hBx)
    go_simp
    try with_reducible rfl
   try simp only [Act.put,List.setIfInBounds_toArray,List.set_cons_zero,List.set_cons_succ]
   refine wpL_one (i:=13) (by kernel_rfl) (StepL.mk rfl (fun K hK=>?_))
   go_simp
   generalize hq : u1.alloc (.cells #[.int .i64 0,.int .i64 0] 87) = u2
   have hb13 : Blk u2 u1.heap.size 87 #[.int .i64 0,.int .i64 0]:=hq ▸ Blk.new _ _ _
   have hk12 : Keep u1 u2:=hq ▸ Keep.new _ _
   clear hq
   have y13:=hb13.lt
   have z2:=hk12.size
   have ha:=Keep.trans hA hk12
   refine hK.out _ _ (SAB.both ha trivial) (fun hSS=>?_)
   clear hK K hA hB
   have hB:=hSS.2
   have hA:=hSS.1 (by kernel_rfl)
   (try dsimp only at hB); (try dsimp only at hA); clear hSS
   try simp only [Act.put,List.setIfInBounds_toArray,List.set_cons_zero,List.set_cons_succ]
   clear ha
   have b9:=hb13
   refine wpL_one (i:=14) (by kernel_rfl) (StepL.mk rfl (fun K hK=>?_))
   refine step_store_blk rfl _ _ _ rfl (u1.heap.size) 0 87 _ [.int .i64 (labInc evs e.sIdx),.int .i64 (labIdx evs e.sIdx)] rfl rfl b9 (by simp) (by kernel_rfl) rfl ?_
   intro v5 hv5 hs5
   rw [splice_all [.int .i64 (labInc evs e.sIdx),.int .i64 (labIdx evs e.sIdx)] #[.int .i64 0,.int .i64 0] rfl] at hv5
   have zA:=hA.size
   have hfin : PsC W (labInc evs e.sIdx) (labIdx evs e.sIdx) (labOk evs e.sIdx) (.pointer (some ⟨u1.heap.size,0,none⟩)) (.bool (labOk evs e.sIdx)) v5:=⟨_,rfl,rfl,hv5,Keep.write hA hs5 (by omega)⟩
   refine hK.out _ _ (SAB.past (by kernel_rfl) trivial) (fun hSS=>?_)
   clear hK K hA hB
   have hB:=hSS.2
   have hA : True:=trivial
   (try dsimp only at hB); (try dsimp only at hA); clear hSS
   try simp only [Act.put,List.setIfInBounds_toArray,List.set_cons_zero,List.set_cons_succ]
   have HFIN:=Lib.hid hfin
   clear hfin
   clear hv5 hs5 b9 hb13 hA hB hk11 hk12
   have hA : True:=trivial
   have hB : True:=trivial
   refine wpL_one (i:=15) (by kernel_rfl) (StepL.mk rfl (fun K hK=>?_))
   go_simp
   refine hK.out _ _ (SAB.past (by kernel_rfl) trivial) (fun hSS=>?_)
   clear hK K hA hB
   have hB:=hSS.2
   have hA : True:=trivial
   (try dsimp only at hB); (try dsimp only at hA); clear hSS
   try simp only [Act.put,List.setIfInBounds_toArray,List.set_cons_zero,List.set_cons_succ]
   refine wpL_done (by kernel_rfl) ?_
   go_wp2_with fail
   go_meet
   exact HFIN.out
  ·go_simp
   generalize hq : u0.alloc (.cells #[.int .i64 0,.int .i64 0] 87) = u1
   have hb13 : Blk u1 u0.heap.size 87 #[.int .i64 0,.int .i64 0]:=hq ▸ Blk.new _ _ _
   have hk11 : Keep u0 u1:=hq ▸ Keep.new _ _
   clear hq
   have y13:=hb13.lt
   have z1:=hk11.size
   have ha:=Keep.trans hA hk11
   refine hK.out _ _ (SAB.both ha trivial) (fun hSS=>?_)
   clear hK K hA hB
   have hB:=hSS.2
   have hA:=hSS.1 (by kernel_rfl)
   (try dsimp only at hB); (try dsimp only at hA); clear hSS
   try simp only [Act.put,List.setIfInBounds_toArray,List.set_cons_zero,List.set_cons_succ]
   clear ha
   refine wpL_one (i:=9) (by kernel_rfl) (StepL.mk rfl (fun K hK=>?_))
   go_simp
   refine (plabel_any u1 S none Ae none none 0 0 ne ce 0 0 0 0 evs e.sIdx (fun i hi=>by have:=HS.out i hi; have:=hA.size; omega) (HSE.out.keep (Same.mono hA (fun i hi=>by have:=HS.out i hi; omega))) HEL.out).mono ?_
   rintro e9 u2 ⟨rfl,hk12⟩
   have z2:=hk12.size
   have ha:=Keep.trans hA hk12
   refine hK.out _ _ (SAB.both ha trivial) (fun hSS=>?_)
   clear hK K hA hB
   have hB:=hSS.2
   have hA:=hSS.1 (by kernel_rfl)
   (try dsimp only at hB); (try dsimp only at hA); clear hSS
   try simp only [Act.put,List.setIfInBounds_toArray,List.set_cons_zero,List.set_cons_succ]
   clear ha
   refine wpL_takeA (i:=10) (v:=?_) rfl (by kernel_rfl) (by kernel_rfl) (by kernel_rfl) (by kernel_rfl) (by decide) (fun _ _ _ h=>h) (Or.inl ⟨by rfl,?_⟩) hA hB ?_
   rotate_left
   ·rintro wx ⟨hAx,hBx⟩
    (try dsimp only at hBx); (try dsimp only at hAx)
    go_simp
    try with_reducible rfl
   try simp only [Act.put,List.setIfInBounds_toArray,List.set_cons_zero,List.set_cons_succ]
   refine wpL_takeA (i:=11) (v:=?_) rfl (by kernel_rfl) (by kernel_rfl) (by kernel_rfl) (by kernel_rfl) (by decide) (fun _ _ _ h=>h) (Or.inl ⟨by rfl,?_⟩) hA hB ?_
   rotate_left
   ·rintro wx ⟨hAx,hBx⟩
    (try dsimp only at hBx); (try dsimp only at hAx)
    go_simp
    try with_reducible rfl
   try simp only [Act.put,List.setIfInBounds_toArray,List.set_cons_zero,List.set_cons_succ]
   refine wpL_takeB (i:=12) (v:=?_) rfl (by kernel_rfl) (by kernel_rfl) (by kernel_rfl) (by decide) (fun _ _ _ h=>h) (Or.inl ⟨by rfl,?_⟩) (SAB.both hA hB) ?_
   rotate_left
   ·intro wx hBx
    (try dsimp only at hBx)
    go_simp
    try with_reducible rfl
   try simp only [Act.put,List.setIfInBounds_toArray,List.set_cons_zero,List.set_cons_succ]
   have b9:=hk12.blk hb13 y13
   refine wpL_one (i:=14) (by kernel_rfl) (StepL.mk rfl (fun K hK=>?_))
   refine step_store_blk rfl _ _ _ rfl (u0.heap.size) 0 87 _ [.int .i64 (labInc evs e.sIdx),.int .i64 (labIdx evs e.sIdx)] rfl rfl b9 (by simp) (by kernel_rfl) rfl ?_
   intro v5 hv5 hs5
   rw [splice_all [.int .i64 (labInc evs e.sIdx),.int .i64 (labIdx evs e.sIdx)] #[.int .i64 0,.int .i64 0] rfl] at hv5
   have zA:=hA.size
   have hfin : PsC W (labInc evs e.sIdx) (labIdx evs e.sIdx) (labOk evs e.sIdx) (.pointer (some ⟨u0.heap.size,0,none⟩)) (.bool (labOk evs e.sIdx)) v5:=⟨_,rfl,rfl,hv5,Keep.write hA hs5 (by omega)⟩
   refine hK.out _ _ (SAB.past (by kernel_rfl) trivial) (fun hSS=>?_)
   clear hK K hA hB
   have hB:=hSS.2
   have hA : True:=trivial
   (try dsimp only at hB); (try dsimp only at hA); clear hSS
   try simp only [Act.put,List.setIfInBounds_toArray,List.set_cons_zero,List.set_cons_succ]
   have HFIN:=Lib.hid hfin
   clear hfin
   clear hv5 hs5 b9 hb13 hA hB hk11 hk12
   have hA : True:=trivial
   have hB : True:=trivial
   refine wpL_one (i:=15) (by kernel_rfl) (StepL.mk rfl (fun K hK=>?_))
   go_simp
   refine hK.out _ _ (SAB.past (by kernel_rfl) trivial) (fun hSS=>?_)
   clear hK K hA hB
   have hB:=hSS.2
   have hA : True:=trivial
   (try dsimp only at hB); (try dsimp only at hA); clear hSS
   try simp only [Act.put,List.setIfInBounds_toArray,List.set_cons_zero,List.set_cons_succ]
   refine wpL_done (by kernel_rfl) ?_
   go_wp2_with fail
   go_meet
   exact HFIN.out
 case rest=>
  obtain ⟨g,rfl,rfl,hbl,hkc⟩:=hcut
  have hbe:=hkc.blk HB7.out HB7.out.lt
  have hpr:=HPR.out
  have fin2 : ∀ b,(labOk evs e.sIdx && decide (labInc evs e.sIdx = e.sInc) && decide (labIdx evs e.sIdx = e.sIdx)) = b → BoolPost (possS l at_ q e) w (.returned (.bool b)) wc:=fun b hb=>FIN.out b (hpr.trans hb) wc hkc
  generalize labInc evs e.sIdx = la at *
  generalize labIdx evs e.sIdx = lb at *
  generalize labOk evs e.sIdx = lo at *
  have HBL:=Lib.hid hbl
  have HBE:=Lib.hid hbe
  have FIN2:=Lib.hid fin2
  clear hbl hbe fin2
  clear hpr hkc hkq
  cases lo with
  | false=>
   have hfin:=FIN2.out false (by simp)
   have HFIN:=Lib.hid hfin
   clear hfin
   go_wp2_with fail
   go_ret
   exact HFIN.out
  | true=>
   by_cases q1 : la = e.sInc
   case neg=>
    have hfin:=FIN2.out false (by simp [q1])
    have HFIN:=Lib.hid hfin
    clear hfin
    go_wp2_with (first
     | (refine wpList_load_allg (by rfl) _ (.tmp 9) rfl g 87 [.int .i64 la,.int .i64 lb] _ rfl HBL.out Tryz.underlying87 rfl (by kernel_rfl) ?_)
     | (refine wpList_load_blkg (by rfl) _ (.tmp 57) rfl w.heap.size 3 89 _ [.int .i64 e.sInc,.int .i64 e.sIdx] _ rfl HBE.out (lab_cells e.kind e.inc e.frm e.sInc e.sIdx e.ord e.val) Tryz.underlying87 rfl (by kernel_rfl) ?_))
    go_ret
    exact HFIN.out
   by_cases q2 : lb = e.sIdx
   case neg=>
    have hfin:=FIN2.out false (by simp [q2])
    have HFIN:=Lib.hid hfin
    clear hfin
    go_wp2_with (first
     | (refine wpList_load_allg (by rfl) _ (.tmp 9) rfl g 87 [.int .i64 la,.int .i64 lb] _ rfl HBL.out Tryz.underlying87 rfl (by kernel_rfl) ?_)
     | (refine wpList_load_blkg (by rfl) _ (.tmp 57) rfl w.heap.size 3 89 _ [.int .i64 e.sInc,.int .i64 e.sIdx] _ rfl HBE.out (lab_cells e.kind e.inc e.frm e.sInc e.sIdx e.ord e.val) Tryz.underlying87 rfl (by kernel_rfl) ?_))
    go_ret
    exact HFIN.out
   have hfin:=FIN2.out true (by simp [q1,q2])
   have HFIN:=Lib.hid hfin
   clear hfin
   go_wp2_with (first
    | (refine wpList_load_allg (by rfl) _ (.tmp 9) rfl g 87 [.int .i64 la,.int .i64 lb] _ rfl HBL.out Tryz.underlying87 rfl (by kernel_rfl) ?_)
    | (refine wpList_load_blkg (by rfl) _ (.tmp 57) rfl w.heap.size 3 89 _ [.int .i64 e.sInc,.int .i64 e.sIdx] _ rfl HBE.out (lab_cells e.kind e.inc e.frm e.sInc e.sIdx e.ord e.val) Tryz.underlying87 rfl (by kernel_rfl) ?_))
   go_ret
   exact HFIN.out
end Go.Proofs.YtipegaojiokppaaGreatDoor
namespace Go.Proofs.YtipegaojiokppaaGreatDoor
open Go.RowKit Go.Proofs
def evAt (l : List (List Ev)) (at_ : List Int) (q : Nat) : Ev:=(l.getD q []).getD (at_.getD q 0).toNat ⟨0,0,0,0,0,0,0⟩
def canS (l : List (List Ev)) (to_ at_ : List Int) (q : Nat) : Bool:=decide (at_.getD q 0 < to_.getD q 0) && possS l at_ q (evAt l at_ q)
def incS (at_ : List Int) (q : Nat) : List Int:=at_.set q (at_.getD q 0 + 1)
def FirstIs (p : Nat → Bool) (n q : Nat) : Prop:=q < n ∧ p q = true ∧ ∀ i,i < q → p i = false
theorem FirstIs.eq {p : Nat → Bool} {n a b : Nat} (h : FirstIs p n a) (k : FirstIs p n b) : a = b:=by
 rcases Nat.lt_trichotomy a b with q | q | q
 ·have:=k.2.2 a q; rw [h.2.1] at this; cases this
 ·exact q
 ·have:=h.2.2 b q; rw [k.2.1] at this; cases this
inductive Sched (l : List (List Ev)) (to_ : List Int) : List Int → List Chc → Option (List Chc) → Prop
 | done {at_ : List Int} {out : List Chc} (h : at_ = to_) : Sched l to_ at_ out (some out)
 | stuck {at_ : List Int} {out : List Chc} (h : at_ ≠ to_) (hn : ∀ q,q < l.length → canS l to_ at_ q = false) : Sched l to_ at_ out none
 | step {at_ : List Int} {out : List Chc} {r : Option (List Chc)} {q : Nat} (h : at_ ≠ to_) (hq : FirstIs (canS l to_ at_) l.length q) (hs : Sched l to_ (incS at_ q) (out ++ [chS q (evAt l at_ q)]) r) : Sched l to_ at_ out r
theorem Sched.det {l : List (List Ev)} {to_ at_ : List Int} {out : List Chc} {r : Option (List Chc)} (h : Sched l to_ at_ out r) : ∀ {r' : Option (List Chc)},Sched l to_ at_ out r' → r = r':=by
 induction h with
 | done h=>
  intro r' k
  cases k with
  | done _=>rfl
  | stuck g _=>exact absurd h g
  | step g _ _=>exact absurd h g
 | stuck h hn=>
  intro r' k
  cases k with
  | done g=>exact absurd g h
  | stuck _ _=>rfl
  | step _ g _=>have:=hn _ g.1; rw [g.2.1] at this; cases this
 | step h hq hs ih=>
  intro r' k
  cases k with
  | done g=>exact absurd g h
  | stuck _ g=>have:=g _ hq.1; rw [hq.2.1] at this; cases this
  | step _ g ks=>have e:=hq.eq g; subst e; exact ih ks
def Rng (l : List (List Ev)) (at_ to_ : List Int) : Prop:=
 at_.length = l.length ∧ to_.length = l.length ∧ ∀ q,q < l.length → 0 ≤ at_.getD q 0 ∧ at_.getD q 0 ≤ to_.getD q 0 ∧ to_.getD q 0 ≤ (l.getD q []).length
theorem getD_set_self {at_ : List Int} {q : Nat} {v : Int} (h : q < at_.length) : (at_.set q v).getD q 0 = v:=by simp [List.getD,h]
theorem getD_set_other {at_ : List Int} {q i : Nat} {v : Int} (h : q ≠ i) : (at_.set q v).getD i 0 = at_.getD i 0:=by simp [List.getD,List.getElem?_set,h]
theorem Rng.inc {l : List (List Ev)} {at_ to_ : List Int} {q : Nat} (h : Rng l at_ to_) (hq : q < l.length) (hlt : at_.getD q 0 < to_.getD q 0) : Rng l (incS at_ q) to_:=by
 obtain ⟨h1,h2,h3⟩:=h
 refine ⟨by simp [incS,h1],h2,fun i hi=>?_⟩
 have:=h3 i hi
 unfold incS
 by_cases e : q = i
 ·subst e
  rw [getD_set_self (by omega)]
  omega
 ·rw [getD_set_other e]
  exact this
def leftS : List Int → List Int → Nat
 | a :: ar,t :: ts=>(t - a).toNat + leftS ar ts
 | _,_=>0
theorem leftS_inc : ∀ (at_ to_ : List Int) (q : Nat),q < at_.length → q < to_.length → at_.getD q 0 < to_.getD q 0 → leftS (incS at_ q) to_ < leftS at_ to_
 | a :: ar,t :: ts,0,_,_,h=>by
  simp only [incS,List.getD_cons_zero,List.set_cons_zero,leftS] at h ⊢
  omega
 | a :: ar,t :: ts,q + 1,h1,h2,h=>by
  have ih:=leftS_inc ar ts q (by simpa using h1) (by simpa using h2) (by simpa using h)
  simp only [incS,List.getD_cons_succ,List.set_cons_succ,leftS] at ih ⊢
  omega
 | [],_,_,h1,_,_=>by simp at h1
 | _ :: _,[],_,_,h2,_=>by simp at h2
def SchIs (l : List (List Ev)) (from_ to_ : List Int) (r : Option (List Chc)) : Prop:=(Rng l from_ to_ ∧ Sched l to_ from_ [] r) ∨ (¬ Rng l from_ to_ ∧ r = none)
theorem SchIs.det {l : List (List Ev)} {from_ to_ : List Int} {r r' : Option (List Chc)} (h : SchIs l from_ to_ r) (k : SchIs l from_ to_ r') : r = r':=by
 rcases h with ⟨h1,h2⟩ | ⟨h1,h2⟩
 ·rcases k with ⟨k1,k2⟩ | ⟨k1,k2⟩
  ·exact h2.det k2
  ·exact absurd h1 k1
 ·rcases k with ⟨k1,k2⟩ | ⟨k1,k2⟩
  ·exact absurd k1 h1
  ·rw [h2,k2]
end Go.Proofs.YtipegaojiokppaaGreatDoor
namespace Go.Proofs.YtipegaojiokppaaGreatDoor
open Go.RowKit Go.Proofs
def SchPost (l : List (List Ev)) (fr to_ : List Int) (w : World) (e : Ending) (w' : World) : Prop:=
 ∃ r,SchIs l fr to_ r ∧ Keep w w' ∧ ((r = none ∧ e = .returned (.tuple #[.slice none 0 0,.bool false])) ∨ ∃ (out : List Chc) (A : Option Addr) (n c : Nat),r = some out ∧ e = .returned (.tuple #[.slice A n c,.bool true]) ∧ Sl encCh 6 w' (fun i=>w.heap.size ≤ i ∧ i < w'.heap.size) A n c out)
theorem leftS_le {K : Nat} : ∀ (at_ to_ : List Int),(∀ q,q < at_.length → to_.getD q 0 - at_.getD q 0 ≤ K) → leftS at_ to_ ≤ at_.length * K
 | [],_,_=>by simp [leftS]
 | _ :: _,[],_=>by simp [leftS]
 | a :: ar,t :: ts,h=>by
  have h0:=h 0 (by simp)
  have ih:=leftS_le (K:=K) ar ts (fun q hq=>by have:=h (q + 1) (by simpa using hq); simpa using this)
  simp at h0
  simp only [leftS,List.length_cons,Nat.add_mul]
  omega
theorem Rng.left {l : List (List Ev)} {at_ to_ : List Int} (h : Rng l at_ to_) (hl : ∀ x ∈ l,x.length ≤ 100000) : leftS at_ to_ ≤ l.length * 100000:=by
 have:=leftS_le (K:=100000) at_ to_ (fun q hq=>by
  have h3:=h.2.2 q (by rw [← h.1]; exact hq)
  have hx : (l.getD q []).length ≤ 100000:=by
   have hq' : q < l.length:=by rw [← h.1]; exact hq
   simp only [List.getD,List.getElem?_eq_getElem hq',Option.getD_some]
   exact hl _ (List.getElem_mem hq')
  omega)
 rw [h.1] at this
 exact this
theorem getD_of {α : Type} {l : List α} {k : Nat} {a d : α} (h : l[k]? = some a) : l.getD k d = a:=by simp [List.getD,h]
def ScL1 (l : List (List Ev)) (fr to_ : List Int) (W : World) (i : Value) (wr : World) : Prop:=∃ k : Nat,i = .int .i64 k ∧ k ≤ l.length ∧ (∀ q,q < k → 0 ≤ fr.getD q 0 ∧ fr.getD q 0 ≤ to_.getD q 0 ∧ to_.getD q 0 ≤ (l.getD q []).length) ∧ Keep W wr
def ScL2 (l : List (List Ev)) (fr to_ : List Int) (k B : Nat) (W : World) (Aa : Option Addr) (ca gk : Nat) (v : Value) (wr : World) : Prop:=
 ∃ (at_ : List Int) (out : List Chc),gk = leftS at_ to_ ∧ Rng l at_ to_ ∧ out.length + gk ≤ leftS fr to_ ∧ (∀ r,Sched l to_ at_ out r → Sched l to_ fr [] r) ∧ wr.ownsRow B 3 1 (.slice Aa k ca) k (at_.flatMap encI) ∧ wr.ownsRow B 57 6 v out.length (out.flatMap encCh) ∧ (∀ b,v.ownBlock = some b → Aa.map (·.block) ≠ some b) ∧ Keep W wr
def ScL3 (l : List (List Ev)) (to_ at_ : List Int) (out : List Chc) (k m B : Nat) (W : World) (Aa : Option Addr) (ca : Nat) (v : Value) (gk : Nat) (x i : Value) (wr : World) : Prop:=
 ∃ q : Nat,x = v ∧ i = .int .i64 q ∧ gk + q = k ∧ (∀ j,j < q → canS l to_ at_ j = false) ∧ wr.ownsRow B 3 1 (.slice Aa k ca) k (at_.flatMap encI) ∧ wr.ownsRow B 57 6 v m (out.flatMap encCh) ∧ Keep W wr
theorem own_ints {w : World} {B k ca : Nat} {Aa : Option Addr} {l : List Int} (h : w.ownsRow B 3 1 (.slice Aa k ca) k (l.flatMap encI)) : Sl encI 1 w (fun i=>B ≤ i ∧ i < w.heap.size) Aa k ca l:=by
 obtain ⟨A',c',e1,h1,h2⟩:=own_form h
 simp only [Value.slice.injEq,true_and] at e1
 obtain ⟨rfl,rfl⟩:=e1
 have hl : k = l.length:=by have:=h.1; rw [flat_length encI_len] at this; omega
 exact ⟨hl,h1,h2,Reads.of_own h⟩
theorem own_chs {w : World} {B m c : Nat} {A : Option Addr} {l : List Chc} (h : w.ownsRow B 57 6 (.slice A m c) m (l.flatMap encCh)) : Sl encCh 6 w (fun i=>B ≤ i ∧ i < w.heap.size) A m c l:=by
 obtain ⟨A',c',e1,h1,h2⟩:=own_form h
 simp only [Value.slice.injEq,true_and] at e1
 obtain ⟨rfl,rfl⟩:=e1
 have hl : m = l.length:=by have:=h.1; rw [flat_length encCh_len] at this; omega
 exact ⟨hl,h1,h2,Reads.of_own h⟩
theorem builtS_ch (a b c d e f : Int) : builtS Tryz.prog 57 1 [(0,.agg #[.int .i64 a,.int .i64 b,.int .i64 c,.int .i64 d,.int .i64 e,.int .i64 f])] = some #[.int .i64 a,.int .i64 b,.int .i64 c,.int .i64 d,.int .i64 e,.int .i64 f]:=by kernel_rfl
set_option maxHeartbeats 16000000 in
theorem schedule_any (w : World) (S : Nat → Prop) (A A1 A2 : Option Addr) (n c n1 c1 n2 c2 : Nat) (l : List (List Ev)) (fr to_ : List Int) (hS : ∀ i,S i → i < w.heap.size) (hl : SlR w S 1 (EvsR w S) A n c l) (hf : Sl encI 1 w S A1 n1 c1 fr) (ht : Sl encI 1 w S A2 n2 c2 to_)
  (hn : n ≤ 1000) (hlen : ∀ x ∈ l,x.length ≤ 100000) (hn1 : n1 ≤ 1000000) (hn2 : n2 ≤ 1000000) : Calls Tryz.prog 36 #[.slice A n c,.slice A1 n1 c1,.slice A2 n2 c2] w (SchPost l fr to_ w):=by
 have hnl:=hl.1
 have hnf:=hf.1
 have hnt:=ht.1
 have bad : ¬ Rng l fr to_ → ∀ w',Keep w w' → SchPost l fr to_ w (.returned (.tuple #[.slice none 0 0,.bool false])) w':=fun h w' hk=>⟨none,.inr ⟨h,rfl⟩,hk,.inl ⟨rfl,rfl⟩⟩
 have BAD:=Lib.hid bad
 have HLEN:=Lib.hid hlen
 have HS:=Lib.hid hS
 have HL:=Lib.hid hl
 have HF:=Lib.hid hf
 have HT:=Lib.hid ht
 clear bad hlen hS hl hf ht
 by_cases h1 : n1 = n
 case neg=>
  have t1 : ((n1 : Int) != n) = true:=by simp; omega
  have t1' : (n1 != n) = true:=by simpa using h1
  have hb:=BAD.out (fun h=>h1 (by have:=h.1; omega)) w (Same.refl _ _)
  have HB:=Lib.hid hb
  have HNL:=Lib.hid hnl
  have HNF:=Lib.hid hnf
  have HNT:=Lib.hid hnt
  clear hb hnl hnf hnt
  clear h1
  go_enter Tryz.func36,Tryz.ntmps36
  go_wp2_with fail
  go_step3
  go_wp2_with fail
  rw [Exit.noGoto_ret]
  go_ret2
  exact HB.out
 subst h1
 by_cases h2 : n2 = n1
 case neg=>
  have t2 : ((n2 : Int) != n1) = true:=by simp; omega
  have t2' : (n2 != n1) = true:=by simpa using h2
  have hb:=BAD.out (fun h=>h2 (by have:=h.1; have:=h.2.1; omega)) w (Same.refl _ _)
  have HB:=Lib.hid hb
  have HNL:=Lib.hid hnl
  have HNF:=Lib.hid hnf
  have HNT:=Lib.hid hnt
  clear hb hnl hnf hnt
  clear h2
  go_enter Tryz.func36,Tryz.ntmps36
  go_wp2_with fail
  go_step3
  go_wp2_with fail
  rw [Exit.noGoto_ret]
  go_ret2
  exact HB.out
 subst h2
 have hlf : fr.length = l.length ∧ to_.length = l.length:=by omega
 have HNL:=Lib.hid hnl
 have HNF:=Lib.hid hnf
 have HNT:=Lib.hid hnt
 have HLF:=Lib.hid hlf
 clear hnl hnf hnt hlf
 go_enter Tryz.func36,Tryz.ntmps36
 go_wp2_with fail
 go_step3
 go_wp2_with fail
 go_loopw [28] (fun i wr=>ScL1 l fr to_ w i wr) (fun i _=>n2 - (intOf i).toNat)
 case atStart=>exact ⟨0,rfl,Nat.zero_le _,fun q hq=>absurd hq (by omega),Same.refl _ _⟩
 case round=>
  obtain ⟨k,rfl,hkl,hall,hkr⟩:=hrel
  have hsm:=Same.mono hkr HS.out
  by_cases hkn : k < n2
  ·obtain ⟨b1,off1,fv,rfl,-,hfv,hc1⟩:=(HF.out.keep hsm).at_ encI_len hkn
   obtain ⟨b2,off2,tv,rfl,-,htv,hc2⟩:=(HT.out.keep hsm).at_ encI_len hkn
   obtain ⟨b0,off0,cs,evs,rfl,-,hev,⟨Ae,ne,ce,rfl,hse⟩,-,hc0⟩:=(HL.out.keep hsm (EvsR.keep hsm)).at_ hkn
   have hd1 : decide (k < n2) = true:=by simpa using hkn
   have hd2 : (0 : Int) ≤ k:=by omega
   have hd3 : (k : Int) < n2:=by omega
   have x1 : wr.cell? ⟨b1,off1 + k,none⟩ = some (.int .i64 fv):=by have:=hc1 0 _ rfl; simpa using this
   have x2 : wr.cell? ⟨b2,off2 + k,none⟩ = some (.int .i64 tv):=by have:=hc2 0 _ rfl; simpa using this
   have x0 : wr.cell? ⟨b0,off0 + k,none⟩ = some (.slice Ae ne ce):=by have:=hc0 0 _ rfl; simpa using this
   have g1:=getD_of (d:=0) hfv
   have g2:=getD_of (d:=0) htv
   have g0:=getD_of (d:=[]) hev
   have hne:=hse.1
   have hkl1 : k + 1 ≤ l.length:=by have:=HNL.out; omega
   have hnx : ∀ w',Keep wr w' → ¬ (0 ≤ fv ∧ fv ≤ tv ∧ tv ≤ ne) → SchPost l fr to_ w (.returned (.tuple #[.slice none 0 0,.bool false])) w':=fun w' hk' hno=>BAD.out (fun h=>hno (by have:=h.2.2 k (by omega); rw [g1,g2,g0] at this; omega)) w' (Keep.trans hkr hk')
   have hok : (0 ≤ fv ∧ fv ≤ tv ∧ tv ≤ ne) → ∀ w',Keep wr w' → ScL1 l fr to_ w (.int .i64 (k + 1)) w':=fun hr w' hk'=>⟨k + 1,by simp,hkl1,fun q hq=>by
    rcases Nat.lt_or_ge q k with h | h
    ·exact hall q h
    ·obtain rfl : q = k:=by omega
     rw [g1,g2,g0]
     omega,Keep.trans hkr hk'⟩
   have HNX:=Lib.hid hnx
   have HOK:=Lib.hid hok
   clear hnx hok
   clear hc1 hc2 hc0 hall g1 g2 g0 hne hse hfv htv hev hkl1 hkr hsm
   by_cases q1 : fv < 0
   ·have t1 : decide (fv < 0) = true:=by simpa using q1
    go_upto_region 6 with fail
    go_quiet (fail)
    go_wp2_with fail
    (try rw [Exit.noGoto_ret])
    go_ret2
    exact HNX.out _ (Keep.draws _ _) (by omega)
   have t1 : decide (fv < 0) = false:=by simpa using q1
   by_cases q2 : tv < fv
   ·have t2 : decide (tv < fv) = true:=by simpa using q2
    go_upto_region 6 with fail
    go_quiet (fail)
    go_wp2_with fail
    (try rw [Exit.noGoto_ret])
    go_ret2
    exact HNX.out _ (Keep.draws _ _) (by omega)
   have t2 : decide (tv < fv) = false:=by simpa using q2
   by_cases q3 : (ne : Int) < tv
   ·have t3 : decide ((ne : Int) < tv) = true:=by simpa using q3
    go_upto_region 6 with fail
    go_quiet (fail)
    go_wp2_with fail
    (try rw [Exit.noGoto_ret])
    go_ret2
    exact HNX.out _ (Keep.draws _ _) (by omega)
   have t3 : decide ((ne : Int) < tv) = false:=by simpa using q3
   go_upto_region 6 with fail
   go_quiet (fail)
   go_wp2_with fail
   go_roundw
   case rel=>exact HOK.out ⟨by omega,by omega,by omega⟩ _ (Keep.draws _ _)
   case measure=>simp [intOf]; omega
  ·have hd1 : decide (k < n2) = false:=by simpa using hkn
   obtain rfl : k = n2:=by have:=HNL.out; omega
   have hrng : Rng l fr to_:=⟨HLF.out.1,HLF.out.2,fun q hq=>hall q (by have:=HNL.out; omega)⟩
   have hM:=hrng.left HLEN.out
   obtain ⟨wd,rfl⟩ : ∃ wd : World,wd = wr:=⟨_,rfl⟩
   have hkd:=hkr
   have hzd:=hkd.size
   have key:=cloneInts_any wd S A1 k c1 fr (HF.out.keep hsm) (fun i hi=>by have:=HS.out i hi; omega) (by omega)
   have hfd:=HF.out.keep hsm
   have htd:=HT.out.keep hsm
   have hld:=HL.out.keep hsm (EvsR.keep hsm)
   have hMx : leftS fr to_ ≤ 100000000:=by have:=HNL.out; omega
   have HRNG:=Lib.hid hrng
   have KEY:=Lib.hid key
   have HKD:=Lib.hid hkd
   have HFD:=Lib.hid hfd
   have HTD:=Lib.hid htd
   have HLD:=Lib.hid hld
   have HMX:=Lib.hid hMx
   clear hrng key hkd hfd htd hld hMx
   clear hall hM hsm hkr
   go_wp2_with fail
   refine KEY.out.mono ?_
   rintro e w2 ⟨va,rfl,hoa,hka⟩
   have hfl : fr.length = k:=by have:=HNF.out; omega
   rw [hfl] at hoa
   obtain ⟨Aa,ca,hva,-,-⟩:=own_form hoa
   subst hva
   have hz2:=hka.size
   obtain ⟨iC,hi0,iz0,is0,ib0⟩:=info_of info_Choice
   have hrel0 : ScL2 l fr to_ k wd.heap.size wd Aa ca (leftS fr to_) (.slice none 0 0) w2:=⟨fr,[],rfl,HRNG.out,by simp,fun r h=>h,hoa,World.ownsRow_nil _ _ _ _,fun b hb=>(by cases hb),hka⟩
   have HREL0:=Lib.hid hrel0
   have HI0:=Lib.hid hi0
   have IZ0:=Lib.hid iz0
   have IS0:=Lib.hid is0
   have IB0:=Lib.hid ib0
   clear hrel0 hi0 iz0 is0 ib0
   clear hoa hka KEY hfl
   go_wp2_with fail
   go_step3
   go_wp2_with fail
   go_loopg [11] (leftS fr to_) (fun gk v wr=>ScL2 l fr to_ k wd.heap.size wd Aa ca gk v wr)
   case atStart=>exact HREL0.out
   case round=>
    clear HREL0
    obtain ⟨at_,out,rfl,hr,hol,hsc,ho1,ho2,hdj,hkr⟩:=hrel
    obtain ⟨Av,cv,rfl,hv1,hv2⟩:=own_form ho2
    have hzr:=hkr.size
    have key:=equalInts_is wr _ S Aa A2 k k ca c2 at_ to_ (own_ints ho1) (HTD.out.keep (Same.mono hkr (fun i hi=>by have:=HS.out i hi; omega))) (by omega) (by omega)
    generalize hml : out.length = m at *
    have HR:=Lib.hid hr
    have HSC:=Lib.hid hsc
    have HO1:=Lib.hid ho1
    have HO2:=Lib.hid ho2
    have HDJ:=Lib.hid hdj
    have HKR:=Lib.hid hkr
    have KEY:=Lib.hid key
    have HML:=Lib.hid hml
    clear hr hsc ho1 ho2 hdj hkr key hml
    go_wp2_with fail
    refine KEY.out.mono ?_
    rintro e w3 ⟨b3,hb3,rfl,j3,hw3⟩
    have hk3 : Keep wr w3:=hw3 ▸ Keep.draws wr j3
    clear hw3 KEY
    cases b3 with
    | true=>
     have he : at_ = to_:=hb3.1 rfl
     have hfin : SchPost l fr to_ w (.returned (.tuple #[.slice Av m cv,.bool true])) w3:=⟨some out,.inl ⟨HRNG.out,HSC.out _ (.done he)⟩,Keep.trans HKD.out (Keep.trans HKR.out hk3),.inr ⟨out,Av,m,cv,rfl,rfl,(own_chs (ownsRow_same HO2.out hk3 (fun i hi=>hi.2))).more (fun i hi=>⟨by have:=hi.1; omega,hi.2⟩)⟩⟩
     have HFIN:=Lib.hid hfin
     clear hfin
     clear he hb3 hk3
     go_wp2_with fail
     (try rw [Exit.noGoto_ret])
     go_ret2
     exact HFIN.out
    | false=>
     have hne : at_ ≠ to_:=fun h=>(by have:=hb3.2 h; cases this)
     have hrel1 : ScL3 l to_ at_ out k m wd.heap.size wd Aa ca (.slice Av m cv) k (.slice Av m cv) (.int .i64 0) w3:=⟨0,rfl,rfl,by omega,fun j hj=>absurd hj (by omega),ownsRow_same HO1.out hk3 (fun i hi=>hi.2),ownsRow_same HO2.out hk3 (fun i hi=>hi.2),Keep.trans HKR.out hk3⟩
     have hm9 : m ≤ 100000000:=by have:=HMX.out; omega
     have HREL1:=Lib.hid hrel1
     have HNE:=Lib.hid hne
     clear hrel1 hne
     clear hb3 hk3
     obtain ⟨wo,rfl⟩ : ∃ wo : World,wo = wr:=⟨_,rfl⟩
     go_wp2_with fail
     go_loopg [11,67] k (fun gk x i wr=>ScL3 l to_ at_ out k m wd.heap.size wd Aa ca (.slice Av m cv) gk x i wr)
     case atStart=>exact HREL1.out
     case round=>
      clear HREL1
      obtain ⟨q,rfl,rfl,hgq,hno,hp1,hp2,hkq⟩:=hrel
      have hzq:=hkq.size
      have hsmq : Same S wd wr:=Same.mono hkq (fun i hi=>by have:=HS.out i hi; omega)
      by_cases hqn : q < k
      ·obtain ⟨g,cur,rfl,hbg,hbk,hcs,hnc,hcm,htk⟩:=own_open hp1 (by omega)
       obtain ⟨ga,oa,av,haa,-,hav,hca⟩:=(own_ints hp1).at_ encI_len hqn
       simp only [Option.some.injEq,Addr.mk.injEq,and_true] at haa
       obtain ⟨rfl,rfl⟩:=haa
       obtain ⟨b2,off2,tv,rfl,hS2,htv,hc2⟩:=(HTD.out.keep hsmq).at_ encI_len hqn
       obtain ⟨b0,off0,cs,evs,rfl,hS0,hev,⟨Ae,ne,ce,rfl,hse⟩,-,hc0⟩:=(HLD.out.keep hsmq (EvsR.keep hsmq)).at_ hqn
       have hd1 : decide (q < k) = true:=by simpa using hqn
       have hd2 : (0 : Int) ≤ q:=by omega
       have hd3 : (q : Int) < k:=by omega
       have x1 : wr.cell? ⟨g,q,none⟩ = some (.int .i64 av):=by have:=hca 0 _ rfl; simpa using this
       have x2 : wr.cell? ⟨b2,off2 + q,none⟩ = some (.int .i64 tv):=by have:=hc2 0 _ rfl; simpa using this
       have x0 : wr.cell? ⟨b0,off0 + q,none⟩ = some (.slice Ae ne ce):=by have:=hc0 0 _ rfl; simpa using this
       have g1:=getD_of (d:=0) hav
       have g2:=getD_of (d:=0) htv
       have g0:=getD_of (d:=[]) hev
       have hrq:=HR.out.2.2 q (by have:=HNL.out; omega)
       rw [g1,g2,g0] at hrq
       have hne9 : ne = evs.length:=hse.1
       obtain ⟨an,rfl⟩ : ∃ an : Nat,av = an:=⟨av.toNat,by omega⟩
       have hlb : g < wr.heap.size:=hbk.lt
       have hl2 : b2 < wr.heap.size:=by have:=HS.out _ hS2; omega
       have y1 : ∀ wx,Keep wr wx → wx.cell? ⟨g,q,none⟩ = some (.int .i64 an):=fun wx hx=>(hx.cell (p:=⟨g,q,none⟩) hlb).trans x1
       have y2 : ∀ wx,Keep wr wx → wx.cell? ⟨b2,off2 + q,none⟩ = some (.int .i64 tv):=fun wx hx=>(hx.cell (p:=⟨b2,off2 + q,none⟩) hl2).trans x2
       by_cases hlt : (an : Int) < tv
       ·have t1 : decide ((an : Int) < tv) = true:=by simpa using hlt
        obtain ⟨be,oe,ev,rfl,hSe,hee,hce⟩:=hse.at_ encEv_len (k:=an) (by omega)
        have hea : evAt l at_ q = ev:=by unfold evAt; rw [g0,g1]; simp [List.getD,hee]
        have hcan : canS l to_ at_ q = possS l at_ q ev:=by unfold canS; rw [g1,g2,hea]; simp [hlt]
        have i0 : (0 : Int) ≤ an:=by omega
        have i1 : (an : Int) < ne:=by omega
        have hre : ∀ wx,Keep wr wx → wx.rangeAt be (oe + an * 7) [.int .i64 ev.kind,.int .i64 ev.inc,.int .i64 ev.frm,.int .i64 ev.sInc,.int .i64 ev.sIdx,.int .i64 ev.ord,.int .i64 ev.val]:=fun wx hx i u hu=>(hx.cell (p:=⟨be,oe + an * 7 + i,none⟩) (by have:=HS.out _ hSe; show be < _; omega)).trans (hce i u hu)
        have hcq : cur[q]? = some (.int .i64 (an : Int)):=by rw [← hbk.cell]; exact x1
        have hne5 : ne ≤ 100000:=by have:=HLEN.out _ (List.mem_of_getElem? hev); omega
        have hav':=hav
        have g1':=g1
        have hlt2 : at_.getD q 0 < to_.getD q 0:=by rw [g1,g2]; exact hlt
        have HRE:=Lib.hid hre
        have HNO:=Lib.hid hno
        have HP1:=Lib.hid hp1
        have HP2:=Lib.hid hp2
        have HKQ:=Lib.hid hkq
        have HBK:=Lib.hid hbk
        have HTK:=Lib.hid htk
        have HEA:=Lib.hid hea
        have HCAN:=Lib.hid hcan
        have HCS:=Lib.hid hcs
        have HCQ:=Lib.hid hcq
        have HAV':=Lib.hid hav'
        have G1':=Lib.hid g1'
        have HLT2:=Lib.hid hlt2
        clear hre hno hp1 hp2 hkq hbk htk hea hcan hcs hcq hav' g1' hlt2
        clear hca hc2 hc0 hce hee hav htv hev hse g1 g2 g0 hrq hne9 x1 x2
        go_upto_region 15 with fail
        refine wp_region_L 99 (fun _=>True) (fun wx=>Keep wr wx) (by kernel_rfl) trivial (Same.drew (Same.refl _ _)) (fun hA hB=>?_)
        generalize hu0 : wr.drew = u0 at hB ⊢
        clear hu0
        refine wpL_takeB (i:=0) (v:=?_) rfl (by kernel_rfl) (by kernel_rfl) (by kernel_rfl) (by decide) (fun _ _ _ h=>h) (Or.inl ⟨by rfl,?_⟩) (SAB.both hA hB) ?_
        rotate_left
        ·intro wx hBx
         (try dsimp only at hBx)
         go_simp
         try with_reducible rfl
        try simp only [Act.put,List.setIfInBounds_toArray,List.set_cons_zero,List.set_cons_succ]
        refine wpL_takeB (i:=1) (v:=?_) rfl (by kernel_rfl) (by kernel_rfl) (by kernel_rfl) (by decide) (fun _ _ _ h=>h) (Or.inl ⟨by rfl,?_⟩) (SAB.both hA hB) ?_
        rotate_left
        ·intro wx hBx
         (try dsimp only at hBx)
         go_simp
         try with_reducible rfl
        try simp only [Act.put,List.setIfInBounds_toArray,List.set_cons_zero,List.set_cons_succ]
        refine wpL_takeB (i:=2) (v:=?_) rfl (by kernel_rfl) (by kernel_rfl) (by kernel_rfl) (by decide) (fun _ _ _ h=>h) (Or.inl ⟨by rfl,?_⟩) (SAB.both hA hB) ?_
        rotate_left
        ·intro wx hBx
         (try dsimp only at hBx)
         go_simp
         try with_reducible rfl
        try simp only [Act.put,List.setIfInBounds_toArray,List.set_cons_zero,List.set_cons_succ]
        refine wpL_takeB (i:=3) (v:=?_) rfl (by kernel_rfl) (by kernel_rfl) (by kernel_rfl) (by decide) (fun _ _ _ h=>h) (Or.inl ⟨by rfl,?_⟩) (SAB.both hA hB) ?_
        rotate_left
        ·intro wx hBx
         (try dsimp only at hBx)
         go_simp
         try with_reducible rfl
        try simp only [Act.put,List.setIfInBounds_toArray,List.set_cons_zero,List.set_cons_succ]
        refine wpL_takeB (i:=4) (v:=?_) rfl (by kernel_rfl) (by kernel_rfl) (by kernel_rfl) (by decide) (fun _ _ _ h=>h) (Or.inl ⟨by rfl,?_⟩) (SAB.both hA hB) ?_
        rotate_left
        ·intro wx hBx
         (try dsimp only at hBx)
         go_simp
         try with_reducible rfl
        try simp only [Act.put,List.setIfInBounds_toArray,List.set_cons_zero,List.set_cons_succ]
        refine wpL_takeB (i:=5) (v:=?_) rfl (by kernel_rfl) (by kernel_rfl) (by kernel_rfl) (by decide) (fun _ _ _ h=>h) (Or.inl ⟨by rfl,?_⟩) (SAB.both hA hB) ?_
        rotate_left
        ·intro wx hBx
         (try dsimp only at hBx)
         go_simp
         try with_reducible rfl
        try simp only [Act.put,List.setIfInBounds_toArray,List.set_cons_zero,List.set_cons_succ]
        refine wpL_takeB (i:=6) (v:=?_) rfl (by kernel_rfl) (by kernel_rfl) (by kernel_rfl) (by decide) (fun _ _ _ h=>h) (Or.inl ⟨by rfl,?_⟩) (SAB.both hA hB) ?_
        rotate_left
        ·intro wx hBx
         (try dsimp only at hBx)
         go_simp
         try with_reducible rfl
        try simp only [Act.put,List.setIfInBounds_toArray,List.set_cons_zero,List.set_cons_succ]
        refine wpL_takeB (i:=7) (v:=?_) rfl (by kernel_rfl) (by kernel_rfl) (by kernel_rfl) (by decide) (fun _ _ _ h=>h) (Or.inl ⟨by rfl,?_⟩) (SAB.both hA hB) ?_
        rotate_left
        ·intro wx hBx
         (try dsimp only at hBx)
         go_simp
         try with_reducible rfl
        try simp only [Act.put,List.setIfInBounds_toArray,List.set_cons_zero,List.set_cons_succ]
        refine wpL_takeB (i:=8) (v:=?_) rfl (by kernel_rfl) (by kernel_rfl) (by kernel_rfl) (by decide) (fun _ _ _ h=>h) (Or.inl ⟨by rfl,?_⟩) (SAB.both hA hB) ?_
        rotate_left
        ·intro wx hBx
         (try dsimp only at hBx)
         go_simp
         try with_reducible rfl
        try simp only [Act.put,List.setIfInBounds_toArray,List.set_cons_zero,List.set_cons_succ]
        refine wpL_takeB (i:=9) (v:=?_) rfl (by kernel_rfl) (by kernel_rfl) (by kernel_rfl) (by decide) (fun _ _ _ h=>h) (Or.inl ⟨by rfl,?_⟩) (SAB.both hA hB) ?_
        rotate_left
        ·intro wx hBx
         (try dsimp only at hBx)
         go_simp
         try with_reducible rfl
        try simp only [Act.put,List.setIfInBounds_toArray,List.set_cons_zero,List.set_cons_succ]
        refine wpL_takeB (i:=10) (v:=?_) rfl (by kernel_rfl) (by kernel_rfl) (by kernel_rfl) (by decide) (fun _ _ _ h=>h) (Or.inl ⟨by rfl,?_⟩) (SAB.both hA hB) ?_
        rotate_left
        ·intro wx hBx
         (try dsimp only at hBx)
         go_simp
         try with_reducible rfl
        try simp only [Act.put,List.setIfInBounds_toArray,List.set_cons_zero,List.set_cons_succ]
        refine wpL_takeB (i:=11) (v:=?_) rfl (by kernel_rfl) (by kernel_rfl) (by kernel_rfl) (by decide) (fun _ _ _ h=>h) (Or.inl ⟨by rfl,?_⟩) (SAB.both hA hB) ?_
        rotate_left
        ·intro wx hBx
         (try dsimp only at hBx)
         go_simp
         try with_reducible rfl
        try simp only [Act.put,List.setIfInBounds_toArray,List.set_cons_zero,List.set_cons_succ]
        refine wpL_takeB (i:=12) (v:=?_) rfl (by kernel_rfl) (by kernel_rfl) (by kernel_rfl) (by decide) (fun _ _ _ h=>h) (Or.inl ⟨by rfl,?_⟩) (SAB.both hA hB) ?_
        rotate_left
        ·intro wx hBx
         (try dsimp only at hBx)
         go_simp
         try with_reducible rfl
        try simp only [Act.put,List.setIfInBounds_toArray,List.set_cons_zero,List.set_cons_succ]
        refine wpL_takeB (i:=13) (v:=?_) rfl (by kernel_rfl) (by kernel_rfl) (by kernel_rfl) (by decide) (fun _ _ _ h=>h) (Or.inl ⟨by rfl,?_⟩) (SAB.both hA hB) ?_
        rotate_left
        ·intro wx hBx
         (try dsimp only at hBx)
         go_simp
         try with_reducible rfl
        try simp only [Act.put,List.setIfInBounds_toArray,List.set_cons_zero,List.set_cons_succ]
        refine wpL_takeB (i:=14) (v:=?_) rfl (by kernel_rfl) (by kernel_rfl) (by kernel_rfl) (by decide) (fun _ _ _ h=>h) (Or.inl ⟨by rfl,?_⟩) (SAB.both hA hB) ?_
        rotate_left
        ·intro wx hBx
         (try dsimp only at hBx)
         go_simp
         try with_reducible rfl
        try simp only [Act.put,List.setIfInBounds_toArray,List.set_cons_zero,List.set_cons_succ]
        refine wpL_takeB (i:=15) (v:=?_) rfl (by kernel_rfl) (by kernel_rfl) (by kernel_rfl) (by decide) (fun _ _ _ h=>h) (Or.inl ⟨by rfl,?_⟩) (SAB.both hA hB) ?_
        rotate_left
        ·intro wx hBx
         (try dsimp only at hBx)
         go_simp
         try with_reducible rfl
        try simp only [Act.put,List.setIfInBounds_toArray,List.set_cons_zero,List.set_cons_succ]
        refine wpL_takeB (i:=16) (v:=?_) rfl (by kernel_rfl) (by kernel_rfl) (by kernel_rfl) (by decide) (fun _ _ _ h=>h) (Or.inl ⟨by rfl,?_⟩) (SAB.both hA hB) ?_
        rotate_left
        ·intro wx hBx
         (try dsimp only at hBx)
         go_simp
         try with_reducible rfl
        try simp only [Act.put,List.setIfInBounds_toArray,List.set_cons_zero,List.set_cons_succ]
        refine wpL_takeB (i:=17) (v:=?_) rfl (by kernel_rfl) (by kernel_rfl) (by kernel_rfl) (by decide) (fun _ _ _ h=>h) (Or.inl ⟨by rfl,?_⟩) (SAB.both hA hB) ?_
        rotate_left
        ·intro wx hBx
         (try dsimp only at hBx)
         go_simp
         try with_reducible rfl
        try simp only [Act.put,List.setIfInBounds_toArray,List.set_cons_zero,List.set_cons_succ]
        refine wpL_takeB (i:=18) (v:=?_) rfl (by kernel_rfl) (by kernel_rfl) (by kernel_rfl) (by decide) (fun _ _ _ h=>h) (Or.inl ⟨by rfl,?_⟩) (SAB.both hA hB) ?_
        rotate_left
        ·intro wx hBx
         (try dsimp only at hBx)
         go_simp
         try with_reducible rfl
        try simp only [Act.put,List.setIfInBounds_toArray,List.set_cons_zero,List.set_cons_succ]
        refine wpL_takeB (i:=19) rfl (by kernel_rfl) (by kernel_rfl) (by kernel_rfl) (by decide) (fun _ _ _ h=>h) (yieldsIf_load_mid (by rfl) _ _ rfl be (oe + an * 7) rfl [.int .i64 ev.kind,.int .i64 ev.inc,.int .i64 ev.frm,.int .i64 ev.sInc,.int .i64 ev.sIdx,.int .i64 ev.ord,.int .i64 ev.val] _ (fun wx hx=>HRE.out wx hx) Tryz.underlying89 rfl (by kernel_rfl)) (SAB.both hA hB) ?_
        try simp only [Act.put,List.setIfInBounds_toArray,List.set_cons_zero,List.set_cons_succ]
        clear y1 y2
        refine wpL_one (i:=20) (by kernel_rfl) (StepL.mk rfl (fun K hK=>?_))
        go_simp
        have hzB:=hB.size
        have hsx:=(own_ints HP1.out).keep (Same.mono hB (fun i hi=>hi.2))
        have hlx:=(HLD.out.keep hsmq (EvsR.keep hsmq)).keep (Same.mono hB (fun i hi=>by have:=HS.out i hi; omega)) (EvsR.keep (Same.mono hB (fun i hi=>by have:=HS.out i hi; omega)))
        refine (possible_any u0 (fun i=>i < u0.heap.size) _ _ _ _ _ _ l at_ q ev (fun i hi=>hi) (hlx.more (fun i hi=>by have:=HS.out i hi; omega) (EvsR.more (fun i hi=>by have:=HS.out i hi; omega))) (hsx.more (fun i hi=>by have:=hi.2; omega)) rfl (by omega) (fun x hx=>by have:=HLEN.out x hx; omega)).mono ?_
        rintro e u1 ⟨rfl,hk1⟩
        have ha:=Keep.trans hB hk1
        clear hsx hlx hzB
        refine hK.out _ _ (SAB.both trivial ha) (fun hSS=>?_)
        clear hK K hA hB
        have hB:=hSS.2
        have hA:=hSS.1 (by kernel_rfl)
        (try dsimp only at hB); (try dsimp only at hA); clear hSS
        try simp only [Act.put,List.setIfInBounds_toArray,List.set_cons_zero,List.set_cons_succ]
        clear ha
        rw [← HCAN.out]
        cases hcv : canS l to_ at_ q with
        | false=>
         refine wpL_takeB (i:=21) (v:=?_) rfl (by kernel_rfl) (by kernel_rfl) (by kernel_rfl) (by decide) (fun _ _ _ h=>h) (Or.inl ⟨by rfl,?_⟩) (SAB.both hA hB) ?_
         rotate_left
         ·intro wx hBx
          (try dsimp only at hBx)
          go_simp
          try with_reducible rfl
         try simp only [Act.put,List.setIfInBounds_toArray,List.set_cons_zero,List.set_cons_succ]
         refine wpL_done (by kernel_rfl) ?_
         have hfin : ScL3 l to_ at_ out k m wd.heap.size wd (some ⟨g,0,none⟩) ca (.slice Av m cv) (gk - 1) (.slice Av m cv) (.int .i64 (q + 1)) u1:=⟨q + 1,rfl,by simp,by omega,fun j hj=>(by
          rcases Nat.lt_or_ge j q with h | h
          ·exact HNO.out j h
          ·obtain rfl : j = q:=by omega
           exact hcv),ownsRow_same HP1.out hB (fun i hi=>hi.2),ownsRow_same HP2.out hB (fun i hi=>hi.2),Keep.trans HKQ.out hB⟩
         have HFIN:=Lib.hid hfin
         have HCV:=Lib.hid hcv
         clear hfin hcv
         clear hA hB hk1 hsmq
         go_wp2_with fail
         go_roundg (gk - 1)
         case measure=>omega
         case rel=>exact HFIN.out
        | true=>
         refine wpL_takeB (i:=21) (v:=?_) rfl (by kernel_rfl) (by kernel_rfl) (by kernel_rfl) (by decide) (fun _ _ _ h=>h) (Or.inl ⟨by rfl,?_⟩) (SAB.both hA hB) ?_
         rotate_left
         ·intro wx hBx
          (try dsimp only at hBx)
          go_simp
          try with_reducible rfl
         try simp only [Act.put,List.setIfInBounds_toArray,List.set_cons_zero,List.set_cons_succ]
         refine wpL_done (by kernel_rfl) ?_
         have hk2:=hB
         have HCV:=Lib.hid hcv
         clear hcv
         clear hA hB hk1
         have x3 : u1.cell? ⟨g,q,none⟩ = some (.int .i64 an):=by rw [(hk2.blk HBK.out hlb).cell]; exact HCQ.out
         have hz2:=hk2.size
         have hre2:=HRE.out u1 hk2
         have HK2:=Lib.hid hk2
         have HRE2:=Lib.hid hre2
         clear hk2 hre2
         go_wp2_with (refine wpList_load_mid rfl _ (.tmp 101) rfl be (oe + an * 7) rfl [.int .i64 ev.kind,.int .i64 ev.inc,.int .i64 ev.frm,.int .i64 ev.sInc,.int .i64 ev.sIdx,.int .i64 ev.ord,.int .i64 ev.val] _ HRE2.out Tryz.underlying89 rfl (by kernel_rfl) ?_)
         refine (choice_any u1 q ev).mono ?_
         rintro e u2 ⟨rfl,hk3⟩
         have hz3:=hk3.size
         have hk13:=Keep.trans HK2.out hk3
         have hqo:=ownsRow_same HP2.out hk13 (fun i hi=>hi.2)
         have hqb:=hk13.blk HBK.out hlb
         have hzu : wd.heap.size ≤ u2.heap.size:=by omega
         generalize hch : chS q ev = ch at *
         have HQO:=Lib.hid hqo
         have HQB:=Lib.hid hqb
         have HK13:=Lib.hid hk13
         have HCH:=Lib.hid hch
         clear hqo hqb hk13 hch
         clear hk3 x3
         go_upto_region 17 with (first
          | (refine wpList_buildS rfl 23 57 1 _ rfl Tryz.underlying23 _ [(0,.agg #[.int .i64 ch.proc,.int .i64 ch.kind,.int .i64 ch.frm,.int .i64 ch.idx,.int .i64 ch.ord,.int .i64 ch.val])] rfl (builtS_ch _ _ _ _ _ _) ?_)
          | (refine wpList_append_any _ rfl (.tmp 94) (.tmp 104) 23 rfl wd.heap.size 57 iC _ 6 48 Tryz.underlying23 HI0.out IZ0.out IS0.out IB0.out rfl (by omega) (.slice Av m cv) m (out.flatMap encCh) rfl (ownsRow_same HQO.out (Keep.new _ _) (fun i hi=>hi.2)) (fun i=>i = u2.heap.size) (some ⟨u2.heap.size,0,none⟩) 1 1 (encCh ch) rfl (Reads.new rfl) (encCh_one _) (by simp [maxLen]; omega) (by omega) (Nat.le_trans hzu (Keep.new _ _).size) ?_
             intro vz wz howz hgz hatz))
         have hgs : Same (fun i=>i < u2.heap.size ∧ (Value.slice Av m cv).ownBlock ≠ some i) u2 wz:=Same.grown ((Keep.new u2 _).mono (fun i hi=>hi.1)) hgz (fun i hi=>by have:=hi.1; simp; omega) (fun k' hk' hS'=>hS'.2 hk')
         have hng : (Value.slice Av m cv).ownBlock ≠ some g:=fun h=>HDJ.out g h rfl
         have hbz:=hgs.blk HQB.out ⟨by have:=HQB.out.lt; omega,hng⟩
         have hvg : vz.ownBlock ≠ some g:=fun h=>by
          rcases hatz with h1 | h1
          ·exact hng (h1 ▸ h)
          ·rw [h] at h1
           have:=HQB.out.lt
           simp at h1
           omega
         have x4 : wz.cell? ⟨g,q,none⟩ = some (.int .i64 an):=by rw [hbz.cell]; exact HCQ.out
         have hkz : Keep wd wz:=Same.append (Keep.trans (Keep.trans HKQ.out HK13.out) (Keep.new _ _)) (ownsRow_same HQO.out (Keep.new _ _) (fun i hi=>hi.2)) hgz (fun i hi=>hi) (Nat.le_trans hzu (Keep.new _ _).size)
         obtain ⟨Az,cz,hvz,-,-⟩:=own_form howz
         subst hvz
         have hqc : q < cur.size:=by rcases Nat.lt_or_ge q cur.size with h | h; · exact h
                                     ·have:=HCQ.out; rw [Array.getElem?_eq_none h] at this; cases this
         have HBZ:=Lib.hid hbz
         have HVG:=Lib.hid hvg
         have HKZ:=Lib.hid hkz
         have HOWZ:=Lib.hid howz
         clear hbz hvg hkz howz
         clear hgs hng hgz hatz
         go_wp2_with (refine wpList_store_one rfl _ (.tmp 111) (.tmp 110) rfl g q 3 cur (.int .i64 (an + 1)) rfl rfl HBZ.out hqc (by kernel_rfl) rfl rfl ?_; intro w9 hb9 hs9)
         go_roundg (leftS (incS at_ q) to_)
         case measure=>exact leftS_inc at_ to_ q (by have:=HR.out.1; have:=HNL.out; omega) (by have:=HR.out.2.1; have:=HNL.out; omega) HLT2.out
         case rel=>
          have hql : q < l.length:=by have:=HNL.out; omega
          have hi : incS at_ q = at_.set q ((an : Int) + 1):=by unfold incS; rw [G1'.out]
          have hll:=leftS_inc at_ to_ q (by have:=HR.out.1; omega) (by have:=HR.out.2.1; omega) HLT2.out
          have hrow : w9.ownsRow wd.heap.size 3 1 (.slice (some ⟨g,0,none⟩) k ca) k ((incS at_ q).flatMap encI):=by
           rw [hi]
           exact row_put (k:=q) (o:=0) encI_len hbg (by simpa using hb9) HCS.out hnc hcm HTK.out (by have:=HR.out.1; have:=HNL.out; omega) HAV'.out (by omega) rfl
          have hx : (out ++ [ch]).flatMap encCh = out.flatMap encCh ++ encCh ch:=by simp
          have hox : w9.ownsRow wd.heap.size 57 6 (.slice Az (m + 1) cz) (out ++ [ch]).length ((out ++ [ch]).flatMap encCh):=by
           rw [hx,List.length_append,HML.out]
           exact ownsRow_own HOWZ.out hs9 (fun b hb e=>HVG.out (e ▸ hb))
          exact ⟨incS at_ q,out ++ [ch],rfl,HR.out.inc hql HLT2.out,by have:=HML.out; simp; omega,fun r h=>HSC.out r (.step HNE.out ⟨hql,HCV.out,HNO.out⟩ (by rw [HEA.out,HCH.out]; exact h)),hrow,hox,fun b hb h=>HVG.out (by simp at h; rw [h]; exact hb),Keep.write HKZ.out hs9 hbg⟩
       ·have t1 : decide ((an : Int) < tv) = false:=by simpa using hlt
        have hcf : canS l to_ at_ q = false:=by unfold canS; rw [g1,g2]; simp [hlt]
        have hfin : ∀ wx,Keep wr wx → ScL3 l to_ at_ out k m wd.heap.size wd (some ⟨g,0,none⟩) ca (.slice Av m cv) (gk - 1) (.slice Av m cv) (.int .i64 (q + 1)) wx:=fun wx hx=>⟨q + 1,rfl,by simp,by omega,fun j hj=>(by
          rcases Nat.lt_or_ge j q with h | h
          ·exact hno j h
          ·obtain rfl : j = q:=by omega
           exact hcf),ownsRow_same hp1 hx (fun i hi=>hi.2),ownsRow_same hp2 hx (fun i hi=>hi.2),Keep.trans hkq hx⟩
        have HFIN:=Lib.hid hfin
        clear hfin
        clear hca hc2 hc0 hav htv hev hse g1 g2 g0 hrq hne9 x1 x2 hno hp1 hp2 hkq hbk htk hcs hcf
        go_upto_region 15 with fail
        refine wp_region_L 99 (fun _=>True) (fun wx=>Keep wr wx) (by kernel_rfl) trivial (Same.drew (Same.refl _ _)) (fun hA hB=>?_)
        generalize hu0 : wr.drew = u0 at hB ⊢
        clear hu0
        refine wpL_takeB (i:=0) (v:=?_) rfl (by kernel_rfl) (by kernel_rfl) (by kernel_rfl) (by decide) (fun _ _ _ h=>h) (Or.inl ⟨by rfl,?_⟩) (SAB.both hA hB) ?_
        rotate_left
        ·intro wx hBx
         (try dsimp only at hBx)
         go_simp
         try with_reducible rfl
        try simp only [Act.put,List.setIfInBounds_toArray,List.set_cons_zero,List.set_cons_succ]
        refine wpL_takeB (i:=1) (v:=?_) rfl (by kernel_rfl) (by kernel_rfl) (by kernel_rfl) (by decide) (fun _ _ _ h=>h) (Or.inl ⟨by rfl,?_⟩) (SAB.both hA hB) ?_
        rotate_left
        ·intro wx hBx
         (try dsimp only at hBx)
         go_simp
         try with_reducible rfl
        try simp only [Act.put,List.setIfInBounds_toArray,List.set_cons_zero,List.set_cons_succ]
        refine wpL_takeB (i:=2) (v:=?_) rfl (by kernel_rfl) (by kernel_rfl) (by kernel_rfl) (by decide) (fun _ _ _ h=>h) (Or.inl ⟨by rfl,?_⟩) (SAB.both hA hB) ?_
        rotate_left
        ·intro wx hBx
         (try dsimp only at hBx)
         go_simp
         try with_reducible rfl
        try simp only [Act.put,List.setIfInBounds_toArray,List.set_cons_zero,List.set_cons_succ]
        refine wpL_takeB (i:=3) (v:=?_) rfl (by kernel_rfl) (by kernel_rfl) (by kernel_rfl) (by decide) (fun _ _ _ h=>h) (Or.inl ⟨by rfl,?_⟩) (SAB.both hA hB) ?_
        rotate_left
        ·intro wx hBx
         (try dsimp only at hBx)
         go_simp
         try with_reducible rfl
        try simp only [Act.put,List.setIfInBounds_toArray,List.set_cons_zero,List.set_cons_succ]
        refine wpL_takeB (i:=4) (v:=?_) rfl (by kernel_rfl) (by kernel_rfl) (by kernel_rfl) (by decide) (fun _ _ _ h=>h) (Or.inl ⟨by rfl,?_⟩) (SAB.both hA hB) ?_
        rotate_left
        ·intro wx hBx
         (try dsimp only at hBx)
         go_simp
         try with_reducible rfl
        try simp only [Act.put,List.setIfInBounds_toArray,List.set_cons_zero,List.set_cons_succ]
        refine wpL_takeB (i:=5) (v:=?_) rfl (by kernel_rfl) (by kernel_rfl) (by kernel_rfl) (by decide) (fun _ _ _ h=>h) (Or.inl ⟨by rfl,?_⟩) (SAB.both hA hB) ?_
        rotate_left
        ·intro wx hBx
         (try dsimp only at hBx)
         go_simp
         try with_reducible rfl
        try simp only [Act.put,List.setIfInBounds_toArray,List.set_cons_zero,List.set_cons_succ]
        refine wpL_takeB (i:=6) (v:=?_) rfl (by kernel_rfl) (by kernel_rfl) (by kernel_rfl) (by decide) (fun _ _ _ h=>h) (Or.inl ⟨by rfl,?_⟩) (SAB.both hA hB) ?_
        rotate_left
        ·intro wx hBx
         (try dsimp only at hBx)
         go_simp
         try with_reducible rfl
        try simp only [Act.put,List.setIfInBounds_toArray,List.set_cons_zero,List.set_cons_succ]
        refine wpL_takeB (i:=7) (v:=?_) rfl (by kernel_rfl) (by kernel_rfl) (by kernel_rfl) (by decide) (fun _ _ _ h=>h) (Or.inl ⟨by rfl,?_⟩) (SAB.both hA hB) ?_
        rotate_left
        ·intro wx hBx
         (try dsimp only at hBx)
         go_simp
         try with_reducible rfl
        try simp only [Act.put,List.setIfInBounds_toArray,List.set_cons_zero,List.set_cons_succ]
        refine wpL_takeB (i:=8) (v:=?_) rfl (by kernel_rfl) (by kernel_rfl) (by kernel_rfl) (by decide) (fun _ _ _ h=>h) (Or.inl ⟨by rfl,?_⟩) (SAB.both hA hB) ?_
        rotate_left
        ·intro wx hBx
         (try dsimp only at hBx)
         go_simp
         try with_reducible rfl
        try simp only [Act.put,List.setIfInBounds_toArray,List.set_cons_zero,List.set_cons_succ]
        refine wpL_takeB (i:=9) (v:=?_) rfl (by kernel_rfl) (by kernel_rfl) (by kernel_rfl) (by decide) (fun _ _ _ h=>h) (Or.inl ⟨by rfl,?_⟩) (SAB.both hA hB) ?_
        rotate_left
        ·intro wx hBx
         (try dsimp only at hBx)
         go_simp
         try with_reducible rfl
        try simp only [Act.put,List.setIfInBounds_toArray,List.set_cons_zero,List.set_cons_succ]
        refine wpL_takeB (i:=10) (v:=undef) rfl (by kernel_rfl) (by kernel_rfl) (by kernel_rfl) (by decide) (fun _ _ _ h=>h) (Or.inr ⟨by rfl,rfl⟩) (SAB.both hA hB) ?_
        try simp only [Act.put,List.setIfInBounds_toArray,List.set_cons_zero,List.set_cons_succ]
        refine wpL_takeB (i:=11) (v:=undef) rfl (by kernel_rfl) (by kernel_rfl) (by kernel_rfl) (by decide) (fun _ _ _ h=>h) (Or.inr ⟨by rfl,rfl⟩) (SAB.both hA hB) ?_
        try simp only [Act.put,List.setIfInBounds_toArray,List.set_cons_zero,List.set_cons_succ]
        refine wpL_takeB (i:=12) (v:=undef) rfl (by kernel_rfl) (by kernel_rfl) (by kernel_rfl) (by decide) (fun _ _ _ h=>h) (Or.inr ⟨by rfl,rfl⟩) (SAB.both hA hB) ?_
        try simp only [Act.put,List.setIfInBounds_toArray,List.set_cons_zero,List.set_cons_succ]
        refine wpL_takeB (i:=13) (v:=undef) rfl (by kernel_rfl) (by kernel_rfl) (by kernel_rfl) (by decide) (fun _ _ _ h=>h) (Or.inr ⟨by rfl,rfl⟩) (SAB.both hA hB) ?_
        try simp only [Act.put,List.setIfInBounds_toArray,List.set_cons_zero,List.set_cons_succ]
        refine wpL_takeB (i:=14) (v:=undef) rfl (by kernel_rfl) (by kernel_rfl) (by kernel_rfl) (by decide) (fun _ _ _ h=>h) (Or.inr ⟨by rfl,rfl⟩) (SAB.both hA hB) ?_
        try simp only [Act.put,List.setIfInBounds_toArray,List.set_cons_zero,List.set_cons_succ]
        refine wpL_takeB (i:=15) (v:=undef) rfl (by kernel_rfl) (by kernel_rfl) (by kernel_rfl) (by decide) (fun _ _ _ h=>h) (Or.inr ⟨by rfl,rfl⟩) (SAB.both hA hB) ?_
        try simp only [Act.put,List.setIfInBounds_toArray,List.set_cons_zero,List.set_cons_succ]
        refine wpL_takeB (i:=16) (v:=undef) rfl (by kernel_rfl) (by kernel_rfl) (by kernel_rfl) (by decide) (fun _ _ _ h=>h) (Or.inr ⟨by rfl,rfl⟩) (SAB.both hA hB) ?_
        try simp only [Act.put,List.setIfInBounds_toArray,List.set_cons_zero,List.set_cons_succ]
        refine wpL_takeB (i:=17) (v:=undef) rfl (by kernel_rfl) (by kernel_rfl) (by kernel_rfl) (by decide) (fun _ _ _ h=>h) (Or.inr ⟨by rfl,rfl⟩) (SAB.both hA hB) ?_
        try simp only [Act.put,List.setIfInBounds_toArray,List.set_cons_zero,List.set_cons_succ]
        refine wpL_takeB (i:=18) (v:=undef) rfl (by kernel_rfl) (by kernel_rfl) (by kernel_rfl) (by decide) (fun _ _ _ h=>h) (Or.inr ⟨by rfl,rfl⟩) (SAB.both hA hB) ?_
        try simp only [Act.put,List.setIfInBounds_toArray,List.set_cons_zero,List.set_cons_succ]
        refine wpL_takeB (i:=19) (v:=undef) rfl (by kernel_rfl) (by kernel_rfl) (by kernel_rfl) (by decide) (fun _ _ _ h=>h) (Or.inr ⟨by rfl,rfl⟩) (SAB.both hA hB) ?_
        try simp only [Act.put,List.setIfInBounds_toArray,List.set_cons_zero,List.set_cons_succ]
        refine wpL_takeB (i:=20) (v:=undef) rfl (by kernel_rfl) (by kernel_rfl) (by kernel_rfl) (by decide) (fun _ _ _ h=>h) (Or.inr ⟨by rfl,rfl⟩) (SAB.both hA hB) ?_
        try simp only [Act.put,List.setIfInBounds_toArray,List.set_cons_zero,List.set_cons_succ]
        refine wpL_takeB (i:=21) (v:=?_) rfl (by kernel_rfl) (by kernel_rfl) (by kernel_rfl) (by decide) (fun _ _ _ h=>h) (Or.inl ⟨by rfl,?_⟩) (SAB.both hA hB) ?_
        rotate_left
        ·intro wx hBx
         (try dsimp only at hBx)
         go_simp
         try with_reducible rfl
        try simp only [Act.put,List.setIfInBounds_toArray,List.set_cons_zero,List.set_cons_succ]
        refine wpL_done (by kernel_rfl) ?_
        have hfin:=HFIN.out u0 hB
        have HFIN:=Lib.hid hfin
        clear hfin
        clear hA hB y1 y2
        go_wp2_with fail
        go_roundg (gk - 1)
        case measure=>omega
        case rel=>exact HFIN.out
      ·have hd1 : decide (q < k) = false:=by simpa using hqn
       have hfin : SchPost l fr to_ w (.returned (.tuple #[.slice none 0 0,.bool false])) wr:=⟨none,.inl ⟨HRNG.out,HSC.out _ (.stuck HNE.out (fun j hj=>hno j (by have:=HNL.out; omega)))⟩,Keep.trans HKD.out hkq,.inl ⟨rfl,rfl⟩⟩
       have HFIN:=Lib.hid hfin
       clear hfin
       clear hno hp1 hp2 hkq hsmq
       go_wp2_with fail
       (try rw [Exit.noGoto_ret])
       go_ret2
       exact HFIN.out
end Go.Proofs.YtipegaojiokppaaGreatDoor
namespace Go.Proofs.YtipegaojiokppaaGreatDoor
open Go.RowKit Go.Proofs
def zerosA (n : Nat) : Array Value:=(List.replicate n (.int .i64 0)).toArray
theorem made_zeros (n : Nat) : madeCells (Value.cells (.int .i64 0)) (n * 1) = zerosA n:=by
 apply Array.ext'
 have:=toList_madeCells_one (.int .i64 0) n
 simpa [zerosA,Value.cells] using this
def zerosL (n : Nat) : List Int:=List.replicate n 0
theorem zeros_flat (n : Nat) : (zerosL n).flatMap encI = List.replicate n (.int .i64 0):=by
 unfold zerosL
 induction n with
 | zero=>rfl
 | succ n ih=>rw [List.replicate_succ,List.flatMap_cons,ih,List.replicate_succ]; rfl
theorem own_zeros (w : World) (n : Nat) (hn : n ≤ 1000) : (w.alloc (.cells (zerosA n) 3)).ownsRow w.heap.size 3 1 (.slice (some ⟨w.heap.size,0,none⟩) n n) n ((zerosL n).flatMap encI):=by
 rw [zeros_flat]
 refine ⟨by simp,.inr ⟨w.heap.size,n,zerosA n,rfl,Nat.le_refl _,heap_alloc_new w _,Nat.le_refl _,by simp [maxLen]; omega,by simp [zerosA],?_⟩⟩
 simp [zerosA]
def lensL (l : List (List Ev)) : List Int:=l.map (fun x=>(x.length : Int))
def lensK (l : List (List Ev)) (k : Nat) : List Int:=(lensL l).mapIdx (fun i x=>if i < k then x else 0)
theorem lensK_zero (l : List (List Ev)) : lensK l 0 = zerosL l.length:=by
 apply List.ext_getElem?
 intro i
 simp only [lensK,lensL,zerosL,List.getElem?_mapIdx,List.getElem?_map,List.getElem?_replicate]
 rcases Nat.lt_or_ge i l.length with h | h
 ·simp [h,List.getElem?_eq_getElem h]
 ·simp [List.getElem?_eq_none h,Nat.not_lt.2 h]
theorem lensK_len (l : List (List Ev)) (k : Nat) : (lensK l k).length = l.length:=by simp [lensK,lensL]
theorem lensK_all (l : List (List Ev)) : lensK l l.length = lensL l:=by
 apply List.ext_getElem?
 intro i
 simp only [lensK,List.getElem?_mapIdx]
 rcases Nat.lt_or_ge i l.length with h | h
 ·cases (lensL l)[i]? <;> simp [h]
 ·rw [List.getElem?_eq_none (by simp [lensL]; exact h)]; rfl
theorem lensK_at {l : List (List Ev)} {k : Nat} (h : k < l.length) : (lensK l k)[k]? = some 0:=by
 simp [lensK,lensL,List.getElem?_mapIdx,List.getElem?_eq_getElem h]
theorem lensK_succ {l : List (List Ev)} {k : Nat} {x : List Ev} (h : l[k]? = some x) : lensK l (k + 1) = (lensK l k).set k (x.length : Int):=by
 apply List.ext_getElem?
 intro i
 obtain ⟨hk,rfl⟩:=List.getElem?_eq_some_iff.1 h
 rw [List.getElem?_set]
 simp only [lensK,lensL,List.getElem?_mapIdx,List.getElem?_map,List.length_mapIdx,List.length_map]
 by_cases e : k = i
 ·subst e
  simp [hk]
 ·rw [if_neg e]
  cases l[i]? with
  | none=>rfl
  | some y=>
   by_cases h1 : i < k
   ·simp [h1,Nat.lt_succ_of_lt h1]
   ·simp [h1,show ¬ i < k + 1 by omega]
def WtL (l : List (List Ev)) (n : Nat) (W : World) (i : Value) (wr : World) : Prop:=∃ k : Nat,i = .int .i64 k ∧ k ≤ n ∧ wr.ownsRow W.heap.size 3 1 (.slice (some ⟨W.heap.size,0,none⟩) n n) n ((lensK l k).flatMap encI) ∧ Keep W wr
set_option maxHeartbeats 8000000 in
theorem witness_any (w : World) (S : Nat → Prop) (A : Option Addr) (n c : Nat) (l : List (List Ev)) (hS : ∀ i,S i → i < w.heap.size) (hl : SlR w S 1 (EvsR w S) A n c l) (hn : n ≤ 1000) (hlen : ∀ x ∈ l,x.length ≤ 100000) :
  Calls Tryz.prog 21 #[.slice A n c] w (SchPost l (zerosL l.length) (lensL l) w):=by
 obtain ⟨iI,hi0,iz0,is0,ib0⟩:=info_of info_Int
 have hmk:=fun W=>run_make_row (P:=Tryz.prog) 45 3 iI _ Tryz.underlying45 hi0 iz0 .i64 .i64 n n (Nat.le_refl _) (by rw [ib0]; omega) (by omega) W
 rw [is0,made_zeros] at hmk
 have hnl:=hl.1
 have hrel0 : WtL l n w (.int .i64 0) (w.alloc (.cells (zerosA n) 3)):=⟨0,rfl,Nat.zero_le _,by rw [lensK_zero,← hnl]; exact own_zeros w n hn,Keep.new _ _⟩
 have HS:=Lib.hid hS
 have HL:=Lib.hid hl
 have HNL:=Lib.hid hnl
 have HLEN:=Lib.hid hlen
 have HREL0:=Lib.hid hrel0
 clear hS hl hnl hlen hrel0
 clear hi0 iz0 is0 ib0
 go_enter Tryz.func21,Tryz.ntmps21
 go_wp2_with fail
 go_loopw [12] (fun i wr=>WtL l n w i wr) (fun i _=>n - (intOf i).toNat)
 case atStart=>exact HREL0.out
 case round=>
  clear HREL0
  obtain ⟨k,rfl,hkn',how,hkr⟩:=hrel
  have hzr:=hkr.size
  have hsm:=Same.mono hkr HS.out
  by_cases hkn : k < n
  ·obtain ⟨g,cur,hg,hbg,hbk,hcs,hnc,hcm,htk⟩:=own_open how (by omega)
   simp only [Option.some.injEq,Addr.mk.injEq,and_true] at hg
   subst hg
   obtain ⟨b0,off0,cs,evs,rfl,hS0,hev,⟨Ae,ne,ce,rfl,hse⟩,-,hc0⟩:=(HL.out.keep hsm (EvsR.keep hsm)).at_ hkn
   have hd1 : decide (k < n) = true:=by simpa using hkn
   have hd2 : (0 : Int) ≤ k:=by omega
   have hd3 : (k : Int) < n:=by omega
   have x0 : wr.cell? ⟨b0,off0 + k,none⟩ = some (.slice Ae ne ce):=by have:=hc0 0 _ rfl; simpa using this
   have hne:=hse.1
   have hkc : k < cur.size:=by omega
   have hkl : k < l.length:=by have:=HNL.out; omega
   have HNE:=Lib.hid hne
   have HBK:=Lib.hid hbk
   have HTK:=Lib.hid htk
   have HKR:=Lib.hid hkr
   have HCS:=Lib.hid hcs
   have HEV:=Lib.hid hev
   clear hne hbk htk hkr hcs hev
   clear hc0 hse hsm how
   go_wp2_with (refine wpList_store_one rfl _ (.tmp 21) (.tmp 20) rfl w.heap.size k 3 cur (.int .i64 ne) rfl rfl HBK.out hkc (by kernel_rfl) rfl rfl ?_; intro w9 hb9 hs9)
   go_roundw
   case rel=>exact ⟨k + 1,by go_num,by omega,by rw [lensK_succ HEV.out,← HNE.out]; exact row_put (k:=k) (o:=0) encI_len hbg (by simpa using hb9) HCS.out hnc hcm HTK.out (by rw [lensK_len]; exact HNL.out.symm) (lensK_at hkl) (by omega) rfl,Keep.write HKR.out hs9 hbg⟩
   case measure=>simp [intOf]; omega
  ·have hd1 : decide (k < n) = false:=by simpa using hkn
   obtain rfl : k = n:=by omega
   have hfz:=own_zeros wr k hn
   have hk2 : Keep wr (wr.alloc (.cells (zerosA k) 3)):=Keep.new _ _
   have how2:=ownsRow_same how hk2 (fun i hi=>hi.2)
   have hl2:=(HL.out.keep hsm (EvsR.keep hsm)).keep (Same.mono hk2 (fun i hi=>by have:=HS.out i hi; omega)) (EvsR.keep (Same.mono hk2 (fun i hi=>by have:=HS.out i hi; omega)))
   have hkw:=Keep.trans hkr hk2
   have hall : lensK l k = lensL l:=by rw [HNL.out]; exact lensK_all l
   rw [hall] at how2
   have hzl : zerosL k = zerosL l.length:=by rw [← HNL.out]
   rw [hzl] at hfz
   have hz2:=hk2.size
   have key:=schedule_any (wr.alloc (.cells (zerosA k) 3)) (fun i=>i < (wr.alloc (.cells (zerosA k) 3)).heap.size) A (some ⟨wr.heap.size,0,none⟩) (some ⟨w.heap.size,0,none⟩) k c k k k k l (zerosL l.length) (lensL l) (fun i hi=>hi) (hl2.more (fun i hi=>by have:=HS.out i hi; omega) (EvsR.more (fun i hi=>by have:=HS.out i hi; omega))) ((own_ints hfz).more (fun i hi=>hi.2)) ((own_ints how2).more (fun i hi=>hi.2)) hn HLEN.out (by omega) (by omega)
   have KEY:=Lib.hid key
   have HKW:=Lib.hid hkw
   clear key hkw
   clear hfz how2 hl2 hk2 hall hzl hkr hsm how
   go_wp2_with fail
   refine KEY.out.mono ?_
   rintro e w3 ⟨r,hr,hk3,hcs⟩
   have hk:=Keep.trans HKW.out hk3
   rcases hcs with ⟨rfl,rfl⟩ | ⟨out,A3,n3,c3,rfl,rfl,hs3⟩
   ·have hfin : SchPost l (zerosL l.length) (lensL l) w (.returned (.tuple #[.slice none 0 0,.bool false])) w3:=⟨none,hr,hk,.inl ⟨rfl,rfl⟩⟩
    have HFIN:=Lib.hid hfin
    clear hfin
    clear hr hk hk3
    go_wp2_with fail
    go_ret2
    exact HFIN.out
   ·have hfin : SchPost l (zerosL l.length) (lensL l) w (.returned (.tuple #[.slice A3 n3 c3,.bool true])) w3:=⟨some out,hr,hk,.inr ⟨out,A3,n3,c3,rfl,rfl,hs3.more (fun i hi=>⟨by have:=hi.1; omega,hi.2⟩)⟩⟩
    have HFIN:=Lib.hid hfin
    clear hfin
    clear hr hk hk3 hs3
    go_wp2_with fail
    go_ret2
    exact HFIN.out
end Go.Proofs.YtipegaojiokppaaGreatDoor
namespace Go.Proofs.YtipegaojiokppaaGreatDoor
open Go.RowKit Go.Proofs
def evL (E : List (List Ev)) (q : Nat) : List Ev:=E.getD q []
def EvIn (cs : List Cd) (E : List (List Ev)) (q k : Nat) (e : Ev) : Prop:=
 (e = ⟨1,0,e.frm,0,e.sIdx,e.ord,e.val⟩ ∧ 0 ≤ e.frm ∧ e.frm.toNat < cs.length ∧ e.frm ≠ q ∧ 0 ≤ e.sIdx ∧ e.sIdx ≤ (evL E e.frm.toNat).length ∧
  (∃ s,findI (replayS (cs.getD e.frm.toNat zeroCd) e.frm.toNat cs.length (evL E e.frm.toNat)).sent ⟨q,1,e.frm,e.sIdx,e.ord,0⟩ = some s ∧ s.val = e.val) ∧ recvS ((evL E q).take k) e.frm 0 e.sIdx e.ord = 0) ∨
 ((e.kind = 2 ∨ e.kind = 3) ∧ e = ⟨e.kind,0,0,0,0,0,e.val⟩)
structure Ran (cs : List Cd) (E : List (List Ev)) : Prop where
 len : E.length = cs.length
 few : ∀ q,q < cs.length → (evL E q).length ≤ 64
 ev : ∀ q k e,q < cs.length → (evL E q)[k]? = some e → EvIn cs E q k e
 go : ∀ at_,Rng E at_ (lensL E) → at_ ≠ lensL E → ∃ q,q < E.length ∧ canS E (lensL E) at_ q = true
theorem evL_none {E : List (List Ev)} {q : Nat} (h : E.length ≤ q) : evL E q = []:=by
 unfold evL
 simp [List.getD,List.getElem?_eq_none h]
theorem Rng.at_ {E : List (List Ev)} {at_ : List Int} (h : Rng E at_ (lensL E)) {q : Nat} (hq : q < E.length) : 0 ≤ at_.getD q 0 ∧ at_.getD q 0 ≤ (lensL E).getD q 0:=⟨(h.2.2 q hq).1,(h.2.2 q hq).2.1⟩
theorem lensL_get (E : List (List Ev)) (q : Nat) : (lensL E).getD q 0 = ((evL E q).length : Int):=by
 unfold lensL evL
 simp only [List.getD,List.getElem?_map]
 cases E[q]? <;> simp
theorem ints_ext {a b : List Int} (hl : a.length = b.length) (h : ∀ q,q < a.length → a.getD q 0 = b.getD q 0) : a = b:=by
 apply List.ext_getElem hl
 intro i h1 h2
 have:=h i h1
 simpa [List.getD,h1,h2] using this
theorem possS_in {cs : List Cd} {E : List (List Ev)} {at_ : List Int} {q k : Nat} {e : Ev} (hE : E.length = cs.length) (h : EvIn cs E q k e) (hinc : ∀ (j : Nat) (x : Ev),(evL E e.frm.toNat)[j]? = some x → x.inc = 0) (hk : e.kind = 1 → e.sIdx ≤ at_.getD e.frm.toNat 0) : possS E at_ q e = true:=by
 unfold possS
 rcases h with ⟨he,h0,h1,h2,h3,h4,-,-⟩ | ⟨hk2,-⟩
 ·have k1 : e.kind = 1:=by rw [he]
  have k2 : e.sInc = 0:=by rw [he]
  rw [if_pos k1]
  have l1 : labInc (evL E e.frm.toNat) e.sIdx = 0:=by
   unfold labInc
   split
   ·rename_i hh
    have hj : e.sIdx.toNat - 1 < (evL E e.frm.toNat).length:=by omega
    have:=hinc _ _ (List.getElem?_eq_getElem hj)
    simp only [List.getD,List.getElem?_eq_getElem hj,Option.getD_some]
    exact this
   ·rfl
  have l2 : labIdx (evL E e.frm.toNat) e.sIdx = e.sIdx:=by
   unfold labIdx
   split
   ·rfl
   ·omega
  have hk':=hk k1
  unfold evL at l1 l2 h4
  rw [l1,l2,k2]
  simp only [Bool.and_eq_true,decide_eq_true_eq,labOk]
  and_intros <;> first | omega | exact h2 | exact hk' | trivial
 ·rw [if_neg (by omega)]
theorem EvIn.inc {cs : List Cd} {E : List (List Ev)} {q k : Nat} {e : Ev} (h : EvIn cs E q k e) : e.inc = 0:=by
 rcases h with ⟨he,_⟩ | ⟨_,he⟩ <;> rw [he]
theorem possS_idx {E : List (List Ev)} {at_ : List Int} {q : Nat} {e : Ev} (h : possS E at_ q e = true) (h1 : e.kind = 1) : e.sIdx ≤ at_.getD e.frm.toNat 0:=by
 unfold possS at h
 rw [if_pos h1] at h
 simp only [Bool.and_eq_true,decide_eq_true_eq] at h
 exact h.1.1.1.2
theorem evAt_get {E : List (List Ev)} {at_ : List Int} {q : Nat} (h : (at_.getD q 0).toNat < (evL E q).length) : (evL E q)[(at_.getD q 0).toNat]? = some (evAt E at_ q):=by
 unfold evAt
 show (evL E q)[(at_.getD q 0).toNat]? = some ((evL E q).getD (at_.getD q 0).toNat _)
 rw [List.getElem?_eq_getElem h,getD_lt h]
theorem canS_lt {E : List (List Ev)} {to_ at_ : List Int} {q : Nat} (h : canS E to_ at_ q = true) : at_.getD q 0 < to_.getD q 0 ∧ possS E at_ q (evAt E at_ q) = true:=by
 simpa [canS] using h
theorem evL_set {E : List (List Ev)} {p q : Nat} {l : List Ev} (hp : p < E.length) : evL (E.set p l) q = if p = q then l else evL E q:=by
 unfold evL
 by_cases h : p = q
 ·subst h; rw [if_pos rfl,getD_set_same hp]
 ·rw [if_neg h,getD_set_diff h]
theorem EvIn.grow {cs : List Cd} {E : List (List Ev)} {p q k : Nat} {e x : Ev} (hp : p < E.length) (hk : k ≤ (evL E q).length) (h : EvIn cs E q k e) : EvIn cs (E.set p (evL E p ++ [x])) q k e:=by
 rcases h with ⟨he,h0,h1,h2,h3,h4,⟨s,hs,hv⟩,h6⟩ | h
 ·refine .inl ⟨he,h0,h1,h2,h3,?_,⟨s,?_,hv⟩,?_⟩
  ·rw [evL_set hp]
   split
   ·rename_i hh; rw [← hh] at h4; rw [List.length_append]; simp; omega
   ·exact h4
  ·rw [evL_set hp]
   split
   ·rename_i hh
    rw [← hh] at hs ⊢
    rw [replayS_snoc]
    obtain ⟨⟨a,ha,-⟩,-⟩:=nextS_adds (cs.getD p zeroCd) p cs.length (replayS (cs.getD p zeroCd) p cs.length (evL E p)) x
    rw [ha]
    exact findI_app_some hs
   ·exact hs
  ·rw [evL_set hp]
   split
   ·rename_i hh
    subst hh
    rw [List.take_append_of_le_length hk]
    exact h6
   ·exact h6
 ·exact .inr h
theorem Ran.snoc {cs : List Cd} {E : List (List Ev)} {p : Nat} {x : Ev} (h : Ran cs E) (hp : p < cs.length) (h64 : (evL E p).length < 64) (hx : EvIn cs E p (evL E p).length x) : Ran cs (E.set p (evL E p ++ [x])):=by
 have hl:=h.len
 have hpE : p < E.length:=by omega
 have hev : ∀ q k e,q < cs.length → (evL (E.set p (evL E p ++ [x])) q)[k]? = some e → EvIn cs (E.set p (evL E p ++ [x])) q k e:=by
  intro q k e hq he
  rw [evL_set hpE] at he
  split at he
  ·rename_i hh
   subst hh
   rcases Nat.lt_or_ge k (evL E p).length with hk | hk
   ·rw [List.getElem?_append_left hk] at he
    exact (h.ev p k e hq he).grow hpE (by omega)
   ·have hlt:=(List.getElem?_eq_some_iff.1 he).1
    simp at hlt
    obtain rfl : k = (evL E p).length:=by omega
    simp at he
    subst he
    exact hx.grow hpE (Nat.le_refl _)
  ·exact (h.ev q k e hq he).grow hpE (by have:=(List.getElem?_eq_some_iff.1 he).1; omega)
 refine ⟨by simp [hl],fun q hq=>?_,hev,fun at_ hr hne=>?_⟩
 ·rw [evL_set hpE]
  split
  ·rw [List.length_append]; simp; omega
  ·exact h.few q hq
 ·-- the new list's order
  have hinc : ∀ q,q < cs.length → ∀ (j : Nat) (e : Ev),(evL (E.set p (evL E p ++ [x])) q)[j]? = some e → e.inc = 0:=fun q hq j e he=>(hev q j e hq he).inc
  have done : ∀ q,q < cs.length → at_.getD q 0 < ((evL (E.set p (evL E p ++ [x])) q).length : Int) → ((evAt (E.set p (evL E p ++ [x])) at_ q).kind = 1 → (evAt (E.set p (evL E p ++ [x])) at_ q).sIdx ≤ at_.getD (evAt (E.set p (evL E p ++ [x])) at_ q).frm.toNat 0) → ∃ q,q < (E.set p (evL E p ++ [x])).length ∧ canS (E.set p (evL E p ++ [x])) (lensL (E.set p (evL E p ++ [x]))) at_ q = true:=by
   intro q hq hlt hk
   have hge:=(hr.2.2 q (by simp; omega)).1
   have hg:=evAt_get (E:=E.set p (evL E p ++ [x])) (at_:=at_) (q:=q) (by omega)
   have hin:=hev q _ _ hq hg
   refine ⟨q,by simp; omega,?_⟩
   simp only [canS,Bool.and_eq_true,decide_eq_true_eq]
   refine ⟨by rw [lensL_get]; exact hlt,possS_in (cs:=cs) (by simp [hl]) hin (fun j y hy=>?_) hk⟩
   rcases Nat.lt_or_ge (evAt (E.set p (evL E p ++ [x])) at_ q).frm.toNat cs.length with hf | hf
   ·exact hinc _ hf j y hy
   ·rw [evL_none (by rw [List.length_set,hl]; exact hf)] at hy
    simp at hy
  by_cases hfull : at_.getD p 0 = ((evL E p).length : Int) + 1
  ·-- the new event is done: what is left was left before
   obtain ⟨at0,hat0⟩ : ∃ at0 : List Int,at0 = at_.set p ((evL E p).length : Int):=⟨_,rfl⟩
   have hal : at_.length = E.length:=by have:=hr.1; simpa using this
   have g0 : ∀ q,at0.getD q 0 = if p = q then ((evL E p).length : Int) else at_.getD q 0:=fun q=>by
    rw [hat0]
    by_cases hpq : p = q
    ·subst hpq; rw [if_pos rfl,getD_set_same (by omega)]
    ·rw [if_neg hpq,getD_set_diff hpq]
   have hr0 : Rng E at0 (lensL E):=by
    refine ⟨by rw [hat0]; simp [hal],by simp [lensL],fun q hq=>?_⟩
    have:=hr.at_ (q:=q) (by rw [List.length_set]; exact hq)
    rw [lensL_get,g0]
    rw [lensL_get,evL_set hpE] at this
    show _ ∧ _ ∧ ((evL E q).length : Int) ≤ (evL E q).length
    by_cases hpq : p = q
    ·subst hpq; rw [if_pos rfl]; omega
    ·rw [if_neg hpq] at this ⊢; omega
   have hne0 : at0 ≠ lensL E:=fun e=>by
    refine hne (ints_ext (by rw [hr.1]; simp [lensL]) (fun q hq=>?_))
    have:=g0 q
    rw [e,lensL_get] at this
    rw [lensL_get,evL_set hpE]
    by_cases hpq : p = q
    ·subst hpq; rw [if_pos rfl,hfull]; simp
    ·rw [if_neg hpq] at this ⊢; omega
   obtain ⟨q,hq,hc⟩:=h.go at0 hr0 hne0
   have hc:=canS_lt hc
   have hpq : p ≠ q:=fun e=>by
    subst e
    have:=hc.1
    rw [g0,if_pos rfl,lensL_get] at this
    omega
   have e1 : at0.getD q 0 = at_.getD q 0:=by rw [g0,if_neg hpq]
   have e2 : evL (E.set p (evL E p ++ [x])) q = evL E q:=by rw [evL_set hpE,if_neg hpq]
   have e3 : evAt (E.set p (evL E p ++ [x])) at_ q = evAt E at0 q:=by
    unfold evAt
    rw [e1]
    show (evL (E.set p (evL E p ++ [x])) q).getD _ _ = (evL E q).getD _ _
    rw [e2]
   refine done q (by omega) ?_ (fun h1=>?_)
   ·have:=hc.1
    rw [e1,lensL_get] at this
    rw [e2]
    exact this
   ·rw [e3] at h1 ⊢
    have:=possS_idx hc.2 h1
    rw [g0] at this
    split at this
    ·rename_i hh; rw [← hh,hfull]; omega
    ·exact this
  ·have hle:=hr.at_ (q:=p) (by rw [List.length_set]; omega)
   rw [lensL_get,evL_set hpE,if_pos rfl,List.length_append,List.length_cons,List.length_nil] at hle
   by_cases hall : at_ = lensL E
   ·-- only the new event is left
    have e3 : evAt (E.set p (evL E p ++ [x])) at_ p = x:=by
     unfold evAt
     show (evL (E.set p (evL E p ++ [x])) p).getD (at_.getD p 0).toNat _ = x
     rw [evL_set hpE,if_pos rfl,hall,lensL_get]
     simp
    refine done p hp (by rw [evL_set hpE,if_pos rfl,hall,lensL_get]; simp; omega) (fun h1=>?_)
    rw [e3] at h1 ⊢
    rcases hx with ⟨-,-,-,-,-,h4,-⟩ | ⟨h4,-⟩
    ·rw [hall,lensL_get]; exact h4
    ·omega
   ·have hal : at_.length = E.length:=by have:=hr.1; simpa using this
    have hr0 : Rng E at_ (lensL E):=by
     refine ⟨hal,by simp [lensL],fun q hq=>?_⟩
     have:=hr.at_ (q:=q) (by rw [List.length_set]; exact hq)
     rw [lensL_get] at this ⊢
     rw [evL_set hpE] at this
     show _ ∧ _ ∧ ((evL E q).length : Int) ≤ (evL E q).length
     by_cases hpq : p = q
     ·rw [← hpq] at this ⊢; omega
     ·rw [if_neg hpq] at this; omega
    obtain ⟨q,hq,hc⟩:=h.go at_ hr0 hall
    have hc:=canS_lt hc
    have hlt:=hc.1
    rw [lensL_get] at hlt
    have hge:=(hr0.2.2 q hq).1
    have e3 : evAt (E.set p (evL E p ++ [x])) at_ q = evAt E at_ q:=by
     unfold evAt
     show (evL (E.set p (evL E p ++ [x])) q).getD _ _ = (evL E q).getD _ _
     rw [evL_set hpE]
     split
     ·rename_i hh; subst hh; rw [getD_left (by omega)]
     ·rfl
    refine done q (by omega) ?_ (fun h1=>?_)
    ·rw [evL_set hpE]
     split
     ·rename_i hh; rw [← hh] at hlt ⊢; rw [List.length_append,List.length_cons,List.length_nil]; omega
     ·exact hlt
    ·rw [e3] at h1 ⊢
     exact possS_idx hc.2 h1
def evsOf (ss : List St) : List (List Ev):=ss.map (fun s=>s.events)
theorem evL_of (ss : List St) (q : Nat) : evL (evsOf ss) q = (ss.getD q zeroSt).events:=by
 unfold evL evsOf
 simp only [List.getD,List.getElem?_map]
 cases ss[q]? <;> rfl
theorem evIn_of {cs : List Cd} {m : Mi} (hi : InvI cs m) {x : Chc} (h0 : (eventI m.ss x).2 = 0) : EvIn cs (evsOf m.ss) x.proc.toNat (evL (evsOf m.ss) x.proc.toNat).length (eventI m.ss x).1:=by
 have hk:=eventI_ok h0
 have hp:=okI_proc hk.1
 have hl:=hi.len
 by_cases h1 : x.kind = 1
 ·obtain ⟨s,hs,hr,hev⟩:=eventI_find h0 h1
  have hf:=okI_frm hk.1 h1
  rw [hev]
  have hsm:=List.mem_of_find?_eq_some hs
  have hsp:=List.find?_some hs
  simp only [hitM,Bool.and_eq_true,beq_iff_eq] at hsp
  have hidx:=(hi.idx (p:=x.frm.toNat) (by omega)).1 s hsm
  have hpp : (x.proc.toNat : Int) = x.proc:=by omega
  refine .inl ⟨rfl,hf.1,by have:=hf.2.1; simp only; omega,by simp only; rw [hpp]; exact hf.2.2,by simp only; omega,by simp only; rw [evL_of]; omega,⟨s,?_,rfl⟩,?_⟩
  ·simp only
   rw [evL_of,← hi.st _ (by omega),hpp]
   exact hs
  ·simp only
   rw [List.take_length,evL_of]
   exact hr
 ·unfold eventI
  rw [if_neg (by rw [hk.1]; simp),if_neg (by omega),if_pos h1]
  have:=hk.1
  simp only [okI,Bool.and_eq_true,Bool.or_eq_true,beq_iff_eq] at this
  exact .inr ⟨by simp only; omega,rfl⟩
theorem playI_ran {cs : List Cd} {t : Mi} : ∀ (l : List Chc) (m : Mi),InvI cs m → Ran cs (evsOf m.ss) → playI cs m l = .ok t → Ran cs (evsOf t.ss)
 | [],m,hi,hr,h=>by injection h with h; exact h ▸ hr
 | x :: l,m,hi,hr,h=>by
  obtain ⟨h0,h⟩:=playI_cons_ok h
  have hk:=eventI_ok h0
  have hp:=okI_proc hk.1
  have hl:=hi.len
  refine playI_ran l _ (step_inv hi h0) ?_ h
  have:=hr.snoc (p:=x.proc.toNat) (x:=(eventI m.ss x).1) (by omega) (by rw [evL_of]; exact hk.2) (evIn_of hi h0)
  have e : evsOf (execI cs m x.proc.toNat (eventI m.ss x).1).ss = (evsOf m.ss).set x.proc.toNat (evL (evsOf m.ss) x.proc.toNat ++ [(eventI m.ss x).1]):=by
   unfold evsOf
   simp only [execI]
   rw [List.map_set,nextS_events]
   congr 2
   exact (evL_of m.ss x.proc.toNat).symm
  rw [e]
  exact this
theorem start_ran (cs : List Cd) : Ran cs (evsOf (startI cs cs.length).ss):=by
 have hl:=startI_len cs cs.length
 have e0 : ∀ q,evL (evsOf (startI cs cs.length).ss) q = []:=fun q=>by
  rw [evL_of]
  rcases Nat.lt_or_ge q cs.length with hq | hq
  ·rw [startI_get cs _ q hq,startS_eq,replayS_events]
  ·simp only [List.getD]
   rw [List.getElem?_eq_none (by omega)]
   rfl
 refine ⟨by simp [evsOf,hl],fun q _=>by rw [e0]; simp,fun q k e _ he=>by rw [e0] at he; simp at he,fun at_ hr hne=>absurd ?_ hne⟩
 refine ints_ext (by rw [hr.1]; simp [lensL]) (fun q hq=>?_)
 have:=hr.2.2 q (by rw [← hr.1]; exact hq)
 rw [lensL_get,e0] at this ⊢
 simp at this ⊢
 omega
noncomputable def ssAt (cs : List Cd) (E : List (List Ev)) (at_ : List Int) : List St:=(List.range cs.length).map (fun q=>replayS (cs.getD q zeroCd) q cs.length ((evL E q).take (at_.getD q 0).toNat))
theorem ssAt_len (cs : List Cd) (E : List (List Ev)) (at_ : List Int) : (ssAt cs E at_).length = cs.length:=by simp [ssAt]
theorem ssAt_get (cs : List Cd) (E : List (List Ev)) (at_ : List Int) {q : Nat} (hq : q < cs.length) : (ssAt cs E at_).getD q zeroSt = replayS (cs.getD q zeroCd) q cs.length ((evL E q).take (at_.getD q 0).toNat):=by
 simp [ssAt,List.getD,hq]
theorem replayS_more (c : Cd) (p n : Int) (a : List Ev) : ∀ b : List Ev,∃ d,(replayS c p n (a ++ b)).sent = (replayS c p n a).sent ++ d ∧ ∀ y ∈ d,(a.length : Int) < y.idx:=by
 intro b
 obtain ⟨k,hk⟩ : ∃ k,k = b.length:=⟨_,rfl⟩
 induction k generalizing b with
 | zero=>
  obtain rfl : b = []:=List.eq_nil_of_length_eq_zero hk.symm
  exact ⟨[],by simp,by simp⟩
 | succ k ih=>
  have hne : b ≠ []:=by intro e; rw [e] at hk; simp at hk
  obtain ⟨b0,x,rfl⟩ : ∃ b0 x,b = b0 ++ [x]:=⟨_,_,(List.dropLast_concat_getLast hne).symm⟩
  obtain ⟨d,hd,hdi⟩:=ih b0 (by simp at hk; omega)
  obtain ⟨⟨d2,hd2,hd2i⟩,-⟩:=nextS_adds c p n (replayS c p n (a ++ b0)) x
  rw [replayS_events] at hd2i
  refine ⟨d ++ d2,by rw [← List.append_assoc,replayS_snoc,hd2,hd,List.append_assoc],fun y hy=>?_⟩
  rcases List.mem_append.1 hy with h | h
  ·exact hdi y h
  ·have:=hd2i y h
   simp at this
   omega
theorem eventI_at {cs : List Cd} {E : List (List Ev)} (h : Ran cs E) {at_ : List Int} (hr : Rng E at_ (lensL E)) {q : Nat} (hq : q < cs.length) (hc : canS E (lensL E) at_ q = true) :
  eventI (ssAt cs E at_) (chS q (evAt E at_ q)) = (evAt E at_ q,0) ∧ (chS q (evAt E at_ q)).proc.toNat = q:=by
 have hc:=canS_lt hc
 have hl:=h.len
 have hlt:=hc.1
 rw [lensL_get] at hlt
 have hge:=(hr.2.2 q (by omega)).1
 have hget:=evAt_get (E:=E) (at_:=at_) (q:=q) (by omega)
 have hin:=h.ev q _ _ hq hget
 have hf64:=h.few q hq
 have hst : (stAt (ssAt cs E at_) q).events.length < 64:=by
  show ((ssAt cs E at_).getD (Int.toNat q) zeroSt).events.length < 64
  rw [Int.toNat_natCast,ssAt_get cs E at_ hq,replayS_events,List.length_take]
  omega
 generalize hgen : evAt E at_ q = e at *
 rcases hin with ⟨he,h0,h1,h2,h3,h4,⟨s,hs,hv⟩,h6⟩ | ⟨hk,he⟩
 ·have k1 : e.kind = 1:=by rw [he]
  have hch : chS q e = ⟨q,1,e.frm,e.sIdx,e.ord,0⟩:=by unfold chS; rw [if_pos k1,k1]
  rw [hch]
  refine ⟨?_,by simp⟩
  have hok : okI (ssAt cs E at_).length ⟨q,1,e.frm,e.sIdx,e.ord,0⟩ = true:=by
   rw [ssAt_len]
   simp only [okI,procI,Bool.and_eq_true,decide_eq_true_eq,beq_self_eq_true,Bool.true_or,Bool.not_true,Bool.false_or,and_true,Bool.not_eq_true',beq_eq_false_iff_ne]
   refine ⟨⟨by omega,by omega⟩,⟨h0,by omega⟩,h2⟩
  have hidx:=possS_idx hc.2 k1
  have hffr:=hr.2.2 e.frm.toNat (by omega)
  rw [lensL_get] at hffr
  have hfind : findI (stAt (ssAt cs E at_) e.frm).sent ⟨q,1,e.frm,e.sIdx,e.ord,0⟩ = some s:=by
   show findI ((ssAt cs E at_).getD e.frm.toNat zeroSt).sent _ = some s
   rw [ssAt_get cs E at_ h1]
   obtain ⟨d,hd,hdi⟩:=replayS_more (cs.getD e.frm.toNat zeroCd) e.frm.toNat cs.length ((evL E e.frm.toNat).take (at_.getD e.frm.toNat 0).toNat) ((evL E e.frm.toNat).drop (at_.getD e.frm.toNat 0).toNat)
   rw [List.take_append_drop] at hd
   rw [hd] at hs
   rw [← hs]
   refine (findI_app (fun y hy=>?_)).symm
   have:=hdi y hy
   rw [List.length_take] at this
   simp only
   omega
  have hrecv : recvS (stAt (ssAt cs E at_) q).events e.frm 0 e.sIdx e.ord = 0:=by
   show recvS ((ssAt cs E at_).getD (Int.toNat q) zeroSt).events _ _ _ _ = 0
   rw [Int.toNat_natCast,ssAt_get cs E at_ hq,replayS_events]
   exact h6
  unfold eventI
  rw [if_neg (by rw [hok]; simp),if_neg (by simp only; omega),if_neg (by simp),hfind]
  simp only
  rw [if_neg (by rw [hrecv]; simp),hv]
  rw [← he]
 ·have hch : chS q e = ⟨q,e.kind,0,0,0,e.val⟩:=by unfold chS; rw [if_neg (by omega)]
  rw [hch]
  refine ⟨?_,by simp⟩
  have hok : okI (ssAt cs E at_).length ⟨q,e.kind,0,0,0,e.val⟩ = true:=by
   rw [ssAt_len]
   simp only [okI,procI,Bool.and_eq_true,decide_eq_true_eq,Bool.or_eq_true,beq_iff_eq,Bool.not_eq_true',beq_eq_false_iff_ne]
   refine ⟨⟨⟨by omega,by omega⟩,by omega⟩,.inl (by omega)⟩
  unfold eventI
  rw [if_neg (by rw [hok]; simp),if_neg (by simp only; omega),if_pos (by simp only; omega)]
  rw [← he]
theorem ssAt_step {cs : List Cd} {E : List (List Ev)} (h : Ran cs E) {at_ : List Int} (hr : Rng E at_ (lensL E)) {q : Nat} (hq : q < cs.length) (hc : canS E (lensL E) at_ q = true) {m : Mi} (hm : m.ss = ssAt cs E at_) :
  (execI cs m q (evAt E at_ q)).ss = ssAt cs E (incS at_ q):=by
 have hc:=canS_lt hc
 have hl:=h.len
 have hlt:=hc.1
 rw [lensL_get] at hlt
 have hge:=(hr.2.2 q (by omega)).1
 have hget:=evAt_get (E:=E) (at_:=at_) (q:=q) (by omega)
 have hal:=hr.1
 simp only [execI,hm]
 rw [ssAt_len,ssAt_get cs E at_ hq,← replayS_snoc]
 apply List.ext_getElem (by simp [ssAt_len])
 intro i h1 h2
 rw [List.getElem_set]
 have hi : i < cs.length:=by simpa [ssAt_len] using h2
 have g1 : (ssAt cs E (incS at_ q))[i] = (ssAt cs E (incS at_ q)).getD i zeroSt:=by simp [List.getD,h2]
 have g2 : (ssAt cs E at_)[i]'(by rw [ssAt_len]; exact hi) = (ssAt cs E at_).getD i zeroSt:=by simp [List.getD,ssAt_len,hi]
 rw [g1,ssAt_get cs E _ hi]
 split
 ·rename_i hh
  subst hh
  unfold incS
  rw [getD_set_self (by omega)]
  have e1 : (at_.getD q 0 + 1).toNat = (at_.getD q 0).toNat + 1:=by omega
  rw [e1,List.take_add_one,hget]
  rfl
 ·rename_i hh
  rw [g2,ssAt_get cs E at_ hi]
  unfold incS
  rw [getD_set_other hh]
theorem sched_plays {cs : List Cd} {E : List (List Ev)} (h : Ran cs E) {at_ : List Int} {out : List Chc} {r : Option (List Chc)} (hs : Sched E (lensL E) at_ out r) (hr : Rng E at_ (lensL E)) :
  ∃ w,r = some (out ++ w) ∧ w.length = leftS at_ (lensL E) ∧ ∀ m : Mi,m.ss = ssAt cs E at_ → ∃ u,playI cs m w = .ok u ∧ u.ss = ssAt cs E (lensL E):=by
 induction hs with
 | done he=>
  refine ⟨[],by simp,?_,fun m hm=>⟨m,rfl,by rw [hm,he]⟩⟩
  rw [he]
  have key : ∀ l : List Int,leftS l l = 0:=by
   intro l
   induction l with
   | nil=>rfl
   | cons a l ih=>simp [leftS,ih]
  simp [key]
 | stuck hne hn=>
  obtain ⟨q,hq,hc⟩:=h.go _ hr hne
  rw [hn q hq] at hc
  cases hc
 | @step at_ out r q hne hq hs ih=>
  have hl:=h.len
  have hc:=canS_lt hq.2.1
  obtain ⟨w,hw,hwl,hplay⟩:=ih (hr.inc hq.1 hc.1)
  have hql : q < cs.length:=by have:=hq.1; omega
  have hev:=eventI_at h hr hql hq.2.1
  refine ⟨chS q (evAt E at_ q) :: w,by rw [hw,List.append_assoc]; rfl,?_,fun m hm=>?_⟩
  ·rw [List.length_cons,hwl]
   have key : ∀ (a t : List Int) (q : Nat),q < a.length → q < t.length → a.getD q 0 < t.getD q 0 → leftS (incS a q) t + 1 = leftS a t:=by
    intro a
    induction a with
    | nil=>intro t q h1; simp at h1
    | cons x a ih=>
     intro t q h1 h2 h3
     cases t with
     | nil=>simp at h2
     | cons y t=>
      cases q with
      | zero=>
       simp only [incS,List.getD_cons_zero,List.set_cons_zero,leftS] at h3 ⊢
       omega
      | succ q=>
       have:=ih t q (by simpa using h1) (by simpa using h2) (by simpa using h3)
       simp only [incS,List.getD_cons_succ,List.set_cons_succ,leftS] at this ⊢
       omega
   exact key at_ (lensL E) q (by have:=hr.1; omega) (by simp [lensL]; omega) hc.1
  ·rw [playI,hm,hev.1]
   simp only [if_true]
   rw [hev.2]
   exact hplay _ (ssAt_step h hr hql hq.2.1 hm)
theorem leftS_zeros : ∀ E : List (List Ev),leftS (zerosL E.length) (lensL E) = (E.map (fun x=>x.length)).sum
 | []=>rfl
 | x :: E=>by
  have:=leftS_zeros E
  simp only [zerosL,lensL,List.length_cons,List.replicate_succ,List.map_cons,leftS,List.sum_cons] at this ⊢
  omega
theorem sum_few : ∀ E : List (List Ev),(∀ x ∈ E,x.length ≤ 64) → (E.map (fun x=>x.length)).sum ≤ 64 * E.length
 | [],_=>by simp
 | x :: E,h=>by
  have:=sum_few E (fun y hy=>h y (by simp [hy]))
  have:=h x (by simp)
  simp only [List.map_cons,List.sum_cons,List.length_cons]
  omega
theorem replays {cs : List Cd} {l : List Chc} {t : Mi} (ht : runI cs l = .ok t) {r : Option (List Chc)} (hs : SchIs (evsOf t.ss) (zerosL (evsOf t.ss).length) (lensL (evsOf t.ss)) r) :
  ∃ w u,r = some w ∧ w.length ≤ 320 ∧ runI cs w = .ok u ∧ u.ss = t.ss:=by
 obtain ⟨c1,c5,_,hp⟩:=runI_ok ht
 have hi:=runI_inv ht
 have hran:=playI_ran l _ (startI_inv cs) (start_ran cs) hp
 have hl:=hran.len
 have hrng : Rng (evsOf t.ss) (zerosL (evsOf t.ss).length) (lensL (evsOf t.ss)):=by
  refine ⟨by simp [zerosL],by simp [lensL],fun q hq=>?_⟩
  rw [lensL_get]
  have : (zerosL (evsOf t.ss).length).getD q 0 = 0:=by simp [zerosL,List.getD,List.getElem?_replicate,hq]
  rw [this]
  exact ⟨Int.le_refl _,by omega,Int.le_refl _⟩
 rcases hs with ⟨-,hs⟩ | ⟨hno,-⟩
 ·obtain ⟨w,hw,hwl,hplay⟩:=sched_plays hran hs hrng
  have h0 : (startI cs cs.length).ss = ssAt cs (evsOf t.ss) (zerosL (evsOf t.ss).length):=by
   apply List.ext_getElem (by rw [startI_len,ssAt_len])
   intro i h1 h2
   have hic : i < cs.length:=by rw [startI_len] at h1; exact h1
   have g1 : (startI cs cs.length).ss[i] = (startI cs cs.length).ss.getD i zeroSt:=by simp [List.getD,h1]
   have g2 : (ssAt cs (evsOf t.ss) (zerosL (evsOf t.ss).length))[i] = (ssAt cs (evsOf t.ss) (zerosL (evsOf t.ss).length)).getD i zeroSt:=by simp [List.getD,h2]
   rw [g1,g2,startI_get cs _ i hic,ssAt_get cs _ _ hic,startS_eq]
   have : (zerosL (evsOf t.ss).length).getD i 0 = 0:=by simp only [zerosL,List.getD,List.getElem?_replicate]; split <;> rfl
   rw [this]
   simp
  obtain ⟨u,hu,hus⟩:=hplay _ h0
  have hwlen : w.length ≤ 320:=by
   rw [hwl,leftS_zeros]
   have:=sum_few (evsOf t.ss) (fun x hx=>by
    obtain ⟨q,hq,rfl⟩:=List.mem_iff_getElem.1 hx
    have:=hran.few q (by omega)
    unfold evL at this
    simpa [List.getD,hq] using this)
   omega
  refine ⟨w,u,by rw [hw]; rfl,hwlen,by rw [runI_of c1 c5 hwlen]; exact hu,?_⟩
  rw [hus]
  apply List.ext_getElem (by rw [ssAt_len,hi.len])
  intro i h1 h2
  have hic : i < cs.length:=by rw [ssAt_len] at h1; exact h1
  have g1 : t.ss[i] = t.ss.getD i zeroSt:=by simp [List.getD,h2]
  have g2 : (ssAt cs (evsOf t.ss) (lensL (evsOf t.ss)))[i] = (ssAt cs (evsOf t.ss) (lensL (evsOf t.ss))).getD i zeroSt:=by simp [List.getD,h1]
  rw [g1,g2,ssAt_get cs _ _ hic,lensL_get,Int.toNat_natCast,List.take_length,evL_of,← hi.st i hic]
 ·exact absurd hrng hno
end Go.Proofs.YtipegaojiokppaaGreatDoor
