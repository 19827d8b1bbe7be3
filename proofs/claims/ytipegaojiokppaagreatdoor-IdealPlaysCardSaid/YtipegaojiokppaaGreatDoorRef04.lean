import Derived.Test.YtipegaojiokppaaGreatDoorVal
import Derived.Test.YtipegaojiokppaaGreatDoorEval2
import Derived.Test.YtipegaojiokppaaGreatDoorMkExpr
set_option linter.unusedVariables false
set_option maxRecDepth 100000
set_option linter.unusedSimpArgs false
namespace Go.Proofs.YtipegaojiokppaaGreatDoor
open Go.RowKit Go.Proofs
theorem w64_in (x : Int) (h : -9223372036854775808 ≤ x ∧ x ≤ 9223372036854775807) : wrap64 x = x:=by unfold wrap64; omega
theorem rcell_any (w : World) (S : Nat → Prop) (A : Option Addr) (m c : Nat) (cells : List Int) (k : Int) (h : Sl encI 1 w S A m c cells) (hm : m ≤ 9223372036854775807) :
  Calls Tryz.prog 103 #[.slice A m c,.int .i64 k] w (IntIs (cellS cells k) w):=by
 by_cases h1 : k < 0
 ·have hs : cellS cells k = 0:=if_pos (.inl h1)
  rw [hs]
  clear hs
  go_enter Tryz.func103,Tryz.ntmps103
  go_wp2_with fail
  go_ret
  exact ⟨rfl,rfl⟩
 by_cases h2 : (m : Int) ≤ k
 ·have hs : cellS cells k = 0:=if_pos (.inr (by have:=h.1; omega))
  rw [hs]
  clear hs
  go_enter Tryz.func103,Tryz.ntmps103
  go_wp2_with fail
  go_ret
  exact ⟨rfl,rfl⟩
 obtain ⟨j,rfl⟩:=Int.eq_ofNat_of_zero_le (show 0 ≤ k by omega)
 obtain ⟨b,off,x,rfl,_,hx,hc⟩:=h.at_ encI_len (k:=j) (by omega)
 have hs : cellS cells j = x:=by
  unfold cellS
  rw [if_neg (by have:=h.1; omega)]
  simp [hx]
 have hc0 : w.cell? ⟨b,off + j,none⟩ = some (.int .i64 x):=by have:=hc 0 _ rfl; simpa using this
 rw [hs]
 clear hs hc hx h
 have h3 : (j : Int) < m:=by omega
 have h4 : (0 : Int) ≤ j:=by omega
 go_enter Tryz.func103,Tryz.ntmps103
 go_wp2_with fail
 go_ret
 exact ⟨rfl,rfl⟩
def PlaceIs (len : Nat) (slot size i : Int) (w : World) (e : Ending) (w' : World) : Prop:=
 ∃ p : Int,e = .returned (.int .i64 p) ∧ (((0 ≤ i ∧ i < size) ∧ 0 ≤ slot + i ∧ slot + i < len) ∧ p = slot + i ∨ ¬ ((0 ≤ i ∧ i < size) ∧ 0 ≤ slot + i ∧ slot + i < len) ∧ p < 0) ∧ w = w'
theorem rplace_any (w : World) (A : Option Addr) (m c : Nat) (slot size i : Int) (hs : I64 slot) (hi : I64 size) (hm : m ≤ 9223372036854775807) :
  Calls Tryz.prog 97 #[.int .i64 slot,.int .i64 size,.int .i64 i,.slice A m c] w (PlaceIs m slot size i w):=by
 obtain ⟨hs1,hs2⟩:=hs
 obtain ⟨hi1,hi2⟩:=hi
 by_cases h1 : i < 0
 ·go_enter Tryz.func97,Tryz.ntmps97
  go_wp2_with fail
  go_ret
  exact ⟨-1,rfl,.inr ⟨by omega,by omega⟩,rfl⟩
 by_cases h2 : size ≤ i
 ·go_enter Tryz.func97,Tryz.ntmps97
  go_wp2_with fail
  go_ret
  exact ⟨-1,rfl,.inr ⟨by omega,by omega⟩,rfl⟩
 by_cases h3 : slot < 0
 ·have hmin : (slot = -9223372036854775808 ∧ wrap64 (-slot) = slot) ∨ wrap64 (-slot) = -slot:=by
   by_cases h : slot = -9223372036854775808
   ·left; exact ⟨h,by rw [h]; unfold wrap64; omega⟩
   ·right; exact w64_in _ (by omega)
  by_cases h4 : i < wrap64 (-slot)
  ·have hd : ¬ ((0 ≤ i ∧ i < size) ∧ 0 ≤ slot + i ∧ slot + i < m):=by rcases hmin with h | h <;> omega
   clear hmin
   go_enter Tryz.func97,Tryz.ntmps97
   go_wp2_with fail
   go_ret
   exact ⟨-1,rfl,.inr ⟨hd,by omega⟩,rfl⟩
  ·have h5 : ¬ (m : Int) ≤ slot:=by omega
   have h6 : ¬ 0 ≤ slot:=by omega
   have y1 : IntKind.i64.wrap (slot + i) = slot + i:=IntWalk.i64_in _ (by omega)
   have HM:=Lib.hid hmin
   clear hmin
   by_cases h7 : (m : Int) ≤ slot + i
   ·go_enter Tryz.func97,Tryz.ntmps97
    go_wp2_with fail
    go_ret
    exact ⟨-1,rfl,.inr ⟨by omega,by omega⟩,rfl⟩
   ·go_enter Tryz.func97,Tryz.ntmps97
    go_wp2_with fail
    go_ret
    refine ⟨slot + i,by first | rfl | rw [w64_in (slot + i) (by omega)],?_,rfl⟩
    rcases HM.out with h | h
    ·right; exact ⟨by omega,by omega⟩
    ·left; exact ⟨by omega,rfl⟩
 by_cases h4 : (m : Int) ≤ slot
 ·go_enter Tryz.func97,Tryz.ntmps97
  go_wp2_with fail
  go_ret
  exact ⟨-1,rfl,.inr ⟨by omega,by omega⟩,rfl⟩
 have y2 : IntKind.i64.wrap ((m : Int) - slot) = m - slot:=IntWalk.i64_in _ (by omega)
 by_cases h5 : (m : Int) - slot ≤ i
 ·have h6 : 0 ≤ slot:=by omega
  go_enter Tryz.func97,Tryz.ntmps97
  go_wp2_with fail
  go_ret
  exact ⟨-1,rfl,.inr ⟨by omega,by omega⟩,rfl⟩
 have y1 : IntKind.i64.wrap (slot + i) = slot + i:=IntWalk.i64_in _ (by omega)
 have h6 : 0 ≤ slot:=by omega
 have h7 : ¬ (m : Int) ≤ slot + i:=by omega
 go_enter Tryz.func97,Tryz.ntmps97
 go_wp2_with fail
 go_ret
 exact ⟨slot + i,by first | rfl | rw [w64_in (slot + i) (by omega)],.inl ⟨by omega,rfl⟩,rfl⟩
theorem idxS_place {cells : List Int} {slot size i p : Int} (hs : I64 slot) (hz : I64 size) (hm : cells.length ≤ 9223372036854775807) (h : ((0 ≤ i ∧ i < size) ∧ 0 ≤ slot + i ∧ slot + i < cells.length) ∧ p = slot + i ∨ ¬ ((0 ≤ i ∧ i < size) ∧ 0 ≤ slot + i ∧ slot + i < cells.length) ∧ p < 0) : cellS cells p = idxS cells slot size i:=by
 obtain ⟨hs1,hs2⟩:=hs
 obtain ⟨hz1,hz2⟩:=hz
 unfold idxS
 rcases h with ⟨h1,rfl⟩ | ⟨h1,h2⟩
 ·rw [if_neg (by omega),w64_in _ (by omega)]
 ·have h0 : cellS cells p = 0:=if_pos (.inl h2)
  rw [h0]
  by_cases hi : i < 0 ∨ size ≤ i
  ·rw [if_pos hi]
  ·rw [if_neg hi]
   have : cellS cells (wrap64 (slot + i)) = 0:=by
    unfold cellS
    refine if_pos ?_
    by_cases hb : slot + i ≤ 9223372036854775807
    ·rw [w64_in _ (by omega)]; omega
    ·left; unfold wrap64; omega
   exact this.symm
def RValueSaid (n : Nat) : Prop:=∀ (cells : List Int) (v : EnvS) (e : Ex) (cs : List Value) (w : World) (S : Nat → Prop) (A : Option Addr) (m c : Nat),(∀ i,S i → i < w.heap.size) → ExR w S n cs e → Sl encI 1 w S A m c cells → m ≤ 9223372036854775807 →
 Calls Tryz.prog 96 #[.agg cs.toArray,.slice A m c,.agg #[.int .i64 v.self,.int .i64 v.procs,.int .i64 v.frm,.int .i64 v.val]] w (ApplyPost (valS cells v n e) w)
set_option maxHeartbeats 4000000 in
set_option maxRecDepth 100000 in
theorem rarg_any (n : Nat) (ih : RValueSaid n) (cells : List Int) (v : EnvS) (op val slot size : Int) (name : ByteArray) (args : List Ex) (A' : Option Addr) (m' c' : Nat) (w : World) (S : Nat → Prop) (A : Option Addr) (m c i : Nat) (hi : i ≤ 1) (hS : ∀ i,S i → i < w.heap.size)
  (hargs : SlR w S 6 (ExR w S n) A' m' c' args) (hc : Sl encI 1 w S A m c cells) (hm : m ≤ 9223372036854775807) :
  Calls Tryz.prog 104 #[.agg #[.int .i64 op,.int .i64 val,.string name,.int .i64 slot,.int .i64 size,.slice A' m' c'],.int .i64 i,.slice A m c,.agg #[.int .i64 v.self,.int .i64 v.procs,.int .i64 v.frm,.int .i64 v.val]] w (ApplyPost (argS cells v n args i) w):=by
 have hm' : m' ≤ 9223372036854775807:=Nat.le_trans hargs.2.1 hargs.2.2.1
 have hml:=hargs.1
 have IH:=Lib.hid ih
 have HC:=Lib.hid hc
 have HARGS:=Lib.hid hargs
 have HS:=Lib.hid hS
 have HML:=Lib.hid hml
 clear ih hc hargs hS hml
 by_cases h : m' ≤ i
 ·have hs : argS cells v n args i = 0:=by
   unfold argS
   rw [List.getElem?_eq_none (by have:=HML.out; omega)]
  rw [hs]
  clear hs
  have hd : (m' : Int) ≤ (i : Int):=by omega
  go_enter Tryz.func104,Tryz.ntmps104
  go_wp2_with fail
  go_ret
  exact ⟨rfl,Keep.alloc (Keep.new _ _) _⟩
 ·obtain ⟨b',off',cs',a,rfl,hb',ha,hR,hl,hcell⟩:=HARGS.out.at_ (k:=i) (by omega)
  have hs : argS cells v n args i = valS cells v n a:=by
   unfold argS
   rw [ha]
  rw [hs]
  clear hs
  generalize hx : valS cells v n a = x
  have hd : ¬ (m' : Int) ≤ (i : Int):=by omega
  have hd2 : (i : Int) < (m' : Int):=by omega
  have hd3 : (0 : Int) ≤ (i : Int):=by omega
  have hlen:=hR.len
  have HX:=Lib.hid hx
  have HCELL:=Lib.hid hcell
  have HR:=Lib.hid hR
  have HLEN:=Lib.hid hlen
  clear hx hcell hR hlen
  clear ha
  go_enter Tryz.func104,Tryz.ntmps104
  go_upto_region 3 with fail
  generalize hW : (w.alloc (.cells #[.int .i64 op,.int .i64 val,.string name,.int .i64 slot,.int .i64 size,.slice (some ⟨b',off',none⟩) m' c'] 68)).alloc (.cells #[.int .i64 v.self,.int .i64 v.procs,.int .i64 v.frm,.int .i64 v.val] 127) = W
  have hkW : Keep w W:=hW ▸ Keep.alloc (Keep.new w _) _
  have hb1 : Blk W w.heap.size 68 #[.int .i64 op,.int .i64 val,.string name,.int .i64 slot,.int .i64 size,.slice (some ⟨b',off',none⟩) m' c']:=hW ▸ (Blk.new w _ _).alloc _
  have hb2 : Blk W (w.heap.size + 1) 127 #[.int .i64 v.self,.int .i64 v.procs,.int .i64 v.frm,.int .i64 v.val]:=by
   have:=Blk.new (w.alloc (.cells #[.int .i64 op,.int .i64 val,.string name,.int .i64 slot,.int .i64 size,.slice (some ⟨b',off',none⟩) m' c'] 68)) 127 #[.int .i64 v.self,.int .i64 v.procs,.int .i64 v.frm,.int .i64 v.val]
   rw [hW] at this
   simpa using this
  have hzW : w.heap.size + 1 < W.heap.size:=hb2.lt
  have c5 : ∀ wx,Keep W wx → wx.cell? ⟨w.heap.size,5,none⟩ = some (.slice (some ⟨b',off',none⟩) m' c'):=fun wx hk=>(hk.cell (p:=⟨w.heap.size,5,none⟩) (by simp; omega)).trans (by rw [hb1.cell]; rfl)
  clear hW
  have hA : True:=trivial
  have HKW:=Lib.hid hkW
  have HB2:=Lib.hid hb2
  clear hkW hb2
  refine wp_region_L 99 (fun _=>True) (fun wx=>Keep W wx) (by kernel_rfl) trivial (Same.drew (Same.refl _ _)) (fun _ hB=>?_)
  refine wpL_takeB (i:=0) (v:=?_) rfl (by kernel_rfl) (by kernel_rfl) (by kernel_rfl) (by decide) (fun _ _ _ h=>h) (Or.inl ⟨by rfl,?_⟩) (SAB.both hA hB) ?_
  rotate_left
  ·intro wx hBx
   (try dsimp only at hBx)
   go_simp
   try with_reducible rfl
  try simp only [Act.put,List.setIfInBounds_toArray,List.set_cons_zero,List.set_cons_succ]
  refine wpL_takeB (i:=1) (v:=?_) rfl (by kernel_rfl) (by kernel_rfl) (by kernel_rfl) (by decide) (fun _ _ _ h=>h) (Or.inl ⟨by rfl,?_⟩) (SAB.both hA hB) ?_
  rotate_left
  ·intro wx hBx
   (try dsimp only at hBx)
   go_simp
   try with_reducible rfl
  try simp only [Act.put,List.setIfInBounds_toArray,List.set_cons_zero,List.set_cons_succ]
  refine wpL_takeB (i:=2) (v:=?_) rfl (by kernel_rfl) (by kernel_rfl) (by kernel_rfl) (by decide) (fun _ _ _ h=>h) (Or.inl ⟨by rfl,?_⟩) (SAB.both hA hB) ?_
  rotate_left
  ·intro wx hBx
   (try dsimp only at hBx)
   go_simp
   try with_reducible rfl
  try simp only [Act.put,List.setIfInBounds_toArray,List.set_cons_zero,List.set_cons_succ]
  refine wpL_takeB (i:=3) (v:=?_) rfl (by kernel_rfl) (by kernel_rfl) (by kernel_rfl) (by decide) (fun _ _ _ h=>h) (Or.inl ⟨by rfl,?_⟩) (SAB.both hA hB) ?_
  rotate_left
  ·intro wx hBx
   (try dsimp only at hBx)
   go_simp
   try with_reducible rfl
  try simp only [Act.put,List.setIfInBounds_toArray,List.set_cons_zero,List.set_cons_succ]
  refine wpL_takeB (i:=4) rfl (by kernel_rfl) (by kernel_rfl) (by kernel_rfl) (by decide) (fun _ _ _ h=>h) (yieldsIf_load_mid (by rfl) _ _ rfl b' (off' + i * 6) rfl cs' _ (fun wx hx j u hu=>((Keep.trans HKW.out hx).cell (p:=⟨b',off' + i * 6 + j,none⟩) (HS.out b' hb')).trans (HCELL.out j u hu)) Tryz.underlying68 rfl (info_ex HLEN.out)) (SAB.both hA hB) ?_
  try simp only [Act.put,List.setIfInBounds_toArray,List.set_cons_zero,List.set_cons_succ]
  refine wpL_takeB (i:=5) (v:=?_) rfl (by kernel_rfl) (by kernel_rfl) (by kernel_rfl) (by decide) (fun _ _ _ h=>h) (Or.inl ⟨by rfl,?_⟩) (SAB.both hA hB) ?_
  rotate_left
  ·intro wx hBx
   (try dsimp only at hBx)
   go_simp
   try with_reducible rfl
  try simp only [Act.put,List.setIfInBounds_toArray,List.set_cons_zero,List.set_cons_succ]
  refine wpL_takeB (i:=6) rfl (by kernel_rfl) (by kernel_rfl) (by kernel_rfl) (by decide) (fun _ _ _ h=>h) (yieldsIf_blk (by rfl) _ _ rfl (w.heap.size + 1) 0 127 _ [.int .i64 v.self,.int .i64 v.procs,.int .i64 v.frm,.int .i64 v.val] _ rfl (fun wx hx=>hx.blk HB2.out (by omega)) (by simp) Tryz.underlying127 rfl (by kernel_rfl)) (SAB.both hA hB) ?_
  try simp only [Act.put,List.setIfInBounds_toArray,List.set_cons_zero,List.set_cons_succ]
  refine wpL_one (i:=7) (by kernel_rfl) (StepL.mk rfl (fun K hK=>?_))
  go_simp
  refine (IH.out cells v a cs' W.drew S A m c (fun i hi=>Nat.lt_of_lt_of_le (HS.out i hi) HKW.out.size) (ExR.keep (Same.mono (Same.drew HKW.out) HS.out) _ _ _ HR.out) (HC.out.keep (Same.mono (Same.drew HKW.out) HS.out)) hm).mono ?_
  rw [HX.out]
  rintro e w1 ⟨rfl,hk1⟩
  have hk2 : Keep W w1:=Keep.trans hB hk1
  refine hK.out _ _ (SAB.both trivial hk2) (fun hSS=>?_)
  clear hK K hA hB
  have hB:=hSS.2
  have hA:=hSS.1 (by kernel_rfl)
  (try dsimp only at hB); (try dsimp only at hA); clear hSS
  try simp only [Act.put,List.setIfInBounds_toArray,List.set_cons_zero,List.set_cons_succ]
  refine wpL_takeB (i:=8) (v:=?_) rfl (by kernel_rfl) (by kernel_rfl) (by kernel_rfl) (by decide) (fun _ _ _ h=>h) (Or.inl ⟨by rfl,?_⟩) (SAB.both hA hB) ?_
  rotate_left
  ·intro wx hBx
   (try dsimp only at hBx)
   go_simp
   try with_reducible rfl
  try simp only [Act.put,List.setIfInBounds_toArray,List.set_cons_zero,List.set_cons_succ]
  refine wpL_done (by kernel_rfl) ?_
  have hfin:=Keep.trans HKW.out hk2
  have HFIN:=Lib.hid hfin
  clear hfin
  clear hk1 hk2 hA hB c5
  go_wp2_with fail
  go_ret
  exact ⟨rfl,HFIN.out⟩
set_option maxHeartbeats 4000000 in
set_option maxRecDepth 100000 in
theorem rvalue_succ (n : Nat) (ih : RValueSaid n) : RValueSaid (n + 1):=by
 intro cells v e cs w S A m c hS he hc hm
 obtain ⟨op,val,name,slot,size,args⟩:=e
 obtain ⟨hsl,hsz,A',m',c',rfl,hargs⟩:=he
 have hcl:=hc.1
 have IH:=Lib.hid ih
 have HC:=Lib.hid hc
 have HS:=Lib.hid hS
 have HARGS:=Lib.hid hargs
 have HSL:=Lib.hid hsl
 have HSZ:=Lib.hid hsz
 have HCL:=Lib.hid hcl
 clear ih hc hS hargs hsl hsz hcl
 by_cases h1 : op = 1
 ·subst h1
  as_aux_lemma=>
  have hs : valS cells v (n + 1) (.mk 1 val name slot size args) = val:=rfl
  rw [hs]
  clear hs
  go_enter Tryz.func96,Tryz.ntmps96
  go_wp2_with fail
  go_ret
  exact ⟨rfl,Keep.alloc (Keep.new _ _) _⟩
 by_cases h2 : op = 2
 ·subst h2
  as_aux_lemma=>
  have hs : valS cells v (n + 1) (.mk 2 val name slot size args) = cellS cells slot:=rfl
  rw [hs]
  clear hs
  have hkA : Keep w ((w.alloc (.cells #[.int .i64 2,.int .i64 val,.string name,.int .i64 slot,.int .i64 size,.slice A' m' c'] 68)).alloc (.cells #[.int .i64 v.self,.int .i64 v.procs,.int .i64 v.frm,.int .i64 v.val] 127)):=Keep.alloc (Keep.new _ _) _
  have HKA:=Lib.hid hkA
  clear hkA
  go_enter Tryz.func96,Tryz.ntmps96
  go_wp2_with (go_at_call 103; refine (rcell_any _ S A m c cells _ (HC.out.keep (Same.mono HKA.out HS.out)) hm).mono ?_; rintro e w1 ⟨rfl,rfl⟩)
  go_ret
  exact ⟨rfl,HKA.out⟩
 by_cases h3 : op = 3
 ·subst h3
  as_aux_lemma=>
  have hs : valS cells v (n + 1) (.mk 3 val name slot size args) = idxS cells slot size (argS cells v n args 0):=rfl
  rw [hs]
  clear hs
  go_enter Tryz.func96,Tryz.ntmps96
  go_upto_region 7 with fail
  generalize hW : (w.alloc (.cells #[.int .i64 3,.int .i64 val,.string name,.int .i64 slot,.int .i64 size,.slice A' m' c'] 68)).alloc (.cells #[.int .i64 v.self,.int .i64 v.procs,.int .i64 v.frm,.int .i64 v.val] 127) = W
  have hkW : Keep w W:=hW ▸ Keep.alloc (Keep.new w _) _
  have hb1 : Blk W w.heap.size 68 #[.int .i64 3,.int .i64 val,.string name,.int .i64 slot,.int .i64 size,.slice A' m' c']:=hW ▸ (Blk.new w _ _).alloc _
  have hb2 : Blk W (w.heap.size + 1) 127 #[.int .i64 v.self,.int .i64 v.procs,.int .i64 v.frm,.int .i64 v.val]:=by
   have:=Blk.new (w.alloc (.cells #[.int .i64 3,.int .i64 val,.string name,.int .i64 slot,.int .i64 size,.slice A' m' c'] 68)) 127 #[.int .i64 v.self,.int .i64 v.procs,.int .i64 v.frm,.int .i64 v.val]
   rw [hW] at this
   simpa using this
  have hzW : w.heap.size + 1 < W.heap.size:=hb2.lt
  clear hW
  have key : ∀ (wa : World) (i : Nat),i ≤ 1 → Keep W wa → Calls Tryz.prog 104 #[.agg #[.int .i64 3,.int .i64 val,.string name,.int .i64 slot,.int .i64 size,.slice A' m' c'],.int .i64 i,.slice A m c,.agg #[.int .i64 v.self,.int .i64 v.procs,.int .i64 v.frm,.int .i64 v.val]] wa (ApplyPost (argS cells v n args i) wa):=fun wa i hi ha=>by
   have hk:=Keep.trans hkW ha
   exact rarg_any n IH.out cells v 3 val slot size name args A' m' c' wa S A m c i hi (fun i hi=>Nat.lt_of_lt_of_le (HS.out i hi) hk.size) (HARGS.out.keep (Same.mono hk HS.out) (ExR.keep (Same.mono hk HS.out) n)) (HC.out.keep (Same.mono hk HS.out)) hm
  have hA : True:=trivial
  have c3 : ∀ wx,Keep W wx → wx.cell? ⟨w.heap.size,3,none⟩ = some (.int .i64 slot):=fun wx hk=>(hk.cell (p:=⟨w.heap.size,3,none⟩) (by simp; omega)).trans (by rw [hb1.cell]; rfl)
  have c4 : ∀ wx,Keep W wx → wx.cell? ⟨w.heap.size,4,none⟩ = some (.int .i64 size):=fun wx hk=>(hk.cell (p:=⟨w.heap.size,4,none⟩) (by simp; omega)).trans (by rw [hb1.cell]; rfl)
  generalize hx : argS cells v n args 0 = x
  have k0:=fun wa ha=>hx ▸ key wa 0 (by omega) ha
  have HKW:=Lib.hid hkW
  have HB2:=Lib.hid hb2
  have HB1:=Lib.hid hb1
  have K0:=Lib.hid k0
  have HX:=Lib.hid hx
  clear hkW hb2 hb1 k0 hx
  clear key
  refine wp_region_L 99 (fun _=>True) (fun wx=>Keep W wx) (by kernel_rfl) trivial (Same.drew (Same.refl _ _)) (fun _ hB=>?_)
  refine wpL_takeB (i:=0) (v:=?_) rfl (by kernel_rfl) (by kernel_rfl) (by kernel_rfl) (by decide) (fun _ _ _ h=>h) (Or.inl ⟨by rfl,?_⟩) (SAB.both hA hB) ?_
  rotate_left
  ·intro wx hBx
   (try dsimp only at hBx)
   go_simp
   try with_reducible rfl
  try simp only [Act.put,List.setIfInBounds_toArray,List.set_cons_zero,List.set_cons_succ]
  refine wpL_takeB (i:=1) (v:=?_) rfl (by kernel_rfl) (by kernel_rfl) (by kernel_rfl) (by decide) (fun _ _ _ h=>h) (Or.inl ⟨by rfl,?_⟩) (SAB.both hA hB) ?_
  rotate_left
  ·intro wx hBx
   (try dsimp only at hBx)
   go_simp
   try with_reducible rfl
  try simp only [Act.put,List.setIfInBounds_toArray,List.set_cons_zero,List.set_cons_succ]
  refine wpL_takeB (i:=2) (v:=?_) rfl (by kernel_rfl) (by kernel_rfl) (by kernel_rfl) (by decide) (fun _ _ _ h=>h) (Or.inl ⟨by rfl,?_⟩) (SAB.both hA hB) ?_
  rotate_left
  ·intro wx hBx
   (try dsimp only at hBx)
   go_simp
   try with_reducible rfl
  try simp only [Act.put,List.setIfInBounds_toArray,List.set_cons_zero,List.set_cons_succ]
  refine wpL_takeB (i:=3) (v:=?_) rfl (by kernel_rfl) (by kernel_rfl) (by kernel_rfl) (by decide) (fun _ _ _ h=>h) (Or.inl ⟨by rfl,?_⟩) (SAB.both hA hB) ?_
  rotate_left
  ·intro wx hBx
   (try dsimp only at hBx)
   go_simp
   try with_reducible rfl
  try simp only [Act.put,List.setIfInBounds_toArray,List.set_cons_zero,List.set_cons_succ]
  refine wpL_takeB (i:=4) (v:=?_) rfl (by kernel_rfl) (by kernel_rfl) (by kernel_rfl) (by decide) (fun _ _ _ h=>h) (Or.inl ⟨by rfl,?_⟩) (SAB.both hA hB) ?_
  rotate_left
  ·intro wx hBx
   (try dsimp only at hBx)
   go_simp
   try with_reducible rfl
  try simp only [Act.put,List.setIfInBounds_toArray,List.set_cons_zero,List.set_cons_succ]
  refine wpL_takeB (i:=5) rfl (by kernel_rfl) (by kernel_rfl) (by kernel_rfl) (by decide) (fun _ _ _ h=>h) (yieldsIf_blk (by rfl) _ _ rfl w.heap.size 0 68 _ [.int .i64 3,.int .i64 val,.string name,.int .i64 slot,.int .i64 size,.slice A' m' c'] _ rfl (fun wx hx=>hx.blk HB1.out (by omega)) (by simp) Tryz.underlying68 rfl (by kernel_rfl)) (SAB.both hA hB) ?_
  try simp only [Act.put,List.setIfInBounds_toArray,List.set_cons_zero,List.set_cons_succ]
  refine wpL_takeB (i:=6) (v:=?_) rfl (by kernel_rfl) (by kernel_rfl) (by kernel_rfl) (by decide) (fun _ _ _ h=>h) (Or.inl ⟨by rfl,?_⟩) (SAB.both hA hB) ?_
  rotate_left
  ·intro wx hBx
   (try dsimp only at hBx)
   go_simp
   try with_reducible rfl
  try simp only [Act.put,List.setIfInBounds_toArray,List.set_cons_zero,List.set_cons_succ]
  refine wpL_takeB (i:=7) rfl (by kernel_rfl) (by kernel_rfl) (by kernel_rfl) (by decide) (fun _ _ _ h=>h) (yieldsIf_blk (by rfl) _ _ rfl (w.heap.size + 1) 0 127 _ [.int .i64 v.self,.int .i64 v.procs,.int .i64 v.frm,.int .i64 v.val] _ rfl (fun wx hx=>hx.blk HB2.out (by omega)) (by simp) Tryz.underlying127 rfl (by kernel_rfl)) (SAB.both hA hB) ?_
  try simp only [Act.put,List.setIfInBounds_toArray,List.set_cons_zero,List.set_cons_succ]
  refine wpL_takeB (i:=9) (v:=?_) rfl (by kernel_rfl) (by kernel_rfl) (by kernel_rfl) (by decide) (fun _ _ _ h=>h) (Or.inl ⟨by rfl,?_⟩) (SAB.both hA hB) ?_
  rotate_left
  ·intro wx hBx
   (try dsimp only at hBx)
   go_simp
   try with_reducible rfl
  try simp only [Act.put,List.setIfInBounds_toArray,List.set_cons_zero,List.set_cons_succ]
  clear c3 c4
  refine wpL_one (i:=8) (by kernel_rfl) (StepL.mk rfl (fun K hK=>?_))
  go_simp
  refine (K0.out W.drew (Same.drew (Same.refl _ _))).mono ?_
  rintro e w1 ⟨rfl,hk1⟩
  have hk1' : Keep W w1:=Keep.trans hB hk1
  refine hK.out _ _ (SAB.both trivial hk1') (fun hSS=>?_)
  clear hK K hA hB
  have hB:=hSS.2
  have hA:=hSS.1 (by kernel_rfl)
  (try dsimp only at hB); (try dsimp only at hA); clear hSS
  try simp only [Act.put,List.setIfInBounds_toArray,List.set_cons_zero,List.set_cons_succ]
  refine wpL_one (i:=10) (by kernel_rfl) (StepL.mk rfl (fun K hK=>?_))
  go_simp
  refine (rplace_any w1 A m c slot size x HSL.out HSZ.out hm).mono ?_
  rintro e w2 ⟨p,rfl,hp,rfl⟩
  refine hK.out _ _ (SAB.both trivial hk1') (fun hSS=>?_)
  clear hK K hA hB
  have hB:=hSS.2
  have hA:=hSS.1 (by kernel_rfl)
  (try dsimp only at hB); (try dsimp only at hA); clear hSS
  try simp only [Act.put,List.setIfInBounds_toArray,List.set_cons_zero,List.set_cons_succ]
  refine wpL_one (i:=11) (by kernel_rfl) (StepL.mk rfl (fun K hK=>?_))
  go_simp
  refine (rcell_any w1 S A m c cells p (HC.out.keep (Same.mono (Keep.trans HKW.out hk1') HS.out)) hm).mono ?_
  rw [idxS_place HSL.out HSZ.out (by rw [← HCL.out]; exact hm) (by rw [← HCL.out]; exact hp)]
  rintro e w2 ⟨rfl,rfl⟩
  refine hK.out _ _ (SAB.both trivial hk1') (fun hSS=>?_)
  clear hK K hA hB
  have hB:=hSS.2
  have hA:=hSS.1 (by kernel_rfl)
  (try dsimp only at hB); (try dsimp only at hA); clear hSS
  try simp only [Act.put,List.setIfInBounds_toArray,List.set_cons_zero,List.set_cons_succ]
  refine wpL_takeB (i:=12) (v:=?_) rfl (by kernel_rfl) (by kernel_rfl) (by kernel_rfl) (by decide) (fun _ _ _ h=>h) (Or.inl ⟨by rfl,?_⟩) (SAB.both hA hB) ?_
  rotate_left
  ·intro wx hBx
   (try dsimp only at hBx)
   go_simp
   try with_reducible rfl
  try simp only [Act.put,List.setIfInBounds_toArray,List.set_cons_zero,List.set_cons_succ]
  refine wpL_done (by kernel_rfl) ?_
  have hfin:=Keep.trans HKW.out hk1'
  have HFIN:=Lib.hid hfin
  clear hfin
  clear hk1 hk1' hA hB hp
  go_wp2_with fail
  go_ret
  exact ⟨by rw [HX.out]; rfl,HFIN.out⟩
 by_cases h4 : op = 4
 ·subst h4
  as_aux_lemma=>
  have hs : valS cells v (n + 1) (.mk 4 val name slot size args) = v.self:=rfl
  rw [hs]
  clear hs
  go_enter Tryz.func96,Tryz.ntmps96
  go_wp2_with fail
  go_ret
  exact ⟨rfl,Keep.alloc (Keep.new _ _) _⟩
 by_cases h5 : op = 5
 ·subst h5
  as_aux_lemma=>
  have hs : valS cells v (n + 1) (.mk 5 val name slot size args) = v.procs:=rfl
  rw [hs]
  clear hs
  go_enter Tryz.func96,Tryz.ntmps96
  go_wp2_with fail
  go_ret
  exact ⟨rfl,Keep.alloc (Keep.new _ _) _⟩
 by_cases h6 : op = 6
 ·subst h6
  as_aux_lemma=>
  have hs : valS cells v (n + 1) (.mk 6 val name slot size args) = v.frm:=rfl
  rw [hs]
  clear hs
  go_enter Tryz.func96,Tryz.ntmps96
  go_wp2_with fail
  go_ret
  exact ⟨rfl,Keep.alloc (Keep.new _ _) _⟩
 by_cases h7 : op = 7
 ·subst h7
  as_aux_lemma=>
  have hs : valS cells v (n + 1) (.mk 7 val name slot size args) = v.val:=rfl
  rw [hs]
  clear hs
  go_enter Tryz.func96,Tryz.ntmps96
  go_wp2_with fail
  go_ret
  exact ⟨rfl,Keep.alloc (Keep.new _ _) _⟩
 have t1 : (op == 1) = false:=by simpa using h1
 have t2 : (op == 2) = false:=by simpa using h2
 have t3 : (op == 3) = false:=by simpa using h3
 have t4 : (op == 4) = false:=by simpa using h4
 have t5 : (op == 5) = false:=by simpa using h5
 have t6 : (op == 6) = false:=by simpa using h6
 have t7 : (op == 7) = false:=by simpa using h7
 by_cases h8 : op < 8
 ·as_aux_lemma=>
  have hs : valS cells v (n + 1) (.mk op val name slot size args) = 0:=by
   unfold valS
   rw [if_neg h1,if_neg h2,if_neg h3,if_neg h4,if_neg h5,if_neg h6,if_neg h7,if_pos (.inl h8)]
  rw [hs]
  clear hs
  go_enter Tryz.func96,Tryz.ntmps96
  go_wp2_with fail
  go_ret
  exact ⟨rfl,Keep.alloc (Keep.new _ _) _⟩
 by_cases h9 : 22 < op
 ·as_aux_lemma=>
  have hs : valS cells v (n + 1) (.mk op val name slot size args) = 0:=by
   unfold valS
   rw [if_neg h1,if_neg h2,if_neg h3,if_neg h4,if_neg h5,if_neg h6,if_neg h7,if_pos (.inr h9)]
  rw [hs]
  clear hs
  go_enter Tryz.func96,Tryz.ntmps96
  go_wp2_with fail
  go_ret
  exact ⟨rfl,Keep.alloc (Keep.new _ _) _⟩
 ·as_aux_lemma=>
  have hs : valS cells v (n + 1) (.mk op val name slot size args) = applyS op (argS cells v n args 0) (argS cells v n args 1):=by
   rw [valS,if_neg h1,if_neg h2,if_neg h3,if_neg h4,if_neg h5,if_neg h6,if_neg h7,if_neg (by omega)]
   rfl
  rw [hs]
  clear hs h1 h2 h3 h4 h5 h6 h7
  go_enter Tryz.func96,Tryz.ntmps96
  go_upto_region 18 with fail
  generalize hW : (w.alloc (.cells #[.int .i64 op,.int .i64 val,.string name,.int .i64 slot,.int .i64 size,.slice A' m' c'] 68)).alloc (.cells #[.int .i64 v.self,.int .i64 v.procs,.int .i64 v.frm,.int .i64 v.val] 127) = W
  have hkW : Keep w W:=hW ▸ Keep.alloc (Keep.new w _) _
  have hb1 : Blk W w.heap.size 68 #[.int .i64 op,.int .i64 val,.string name,.int .i64 slot,.int .i64 size,.slice A' m' c']:=hW ▸ (Blk.new w _ _).alloc _
  have hb2 : Blk W (w.heap.size + 1) 127 #[.int .i64 v.self,.int .i64 v.procs,.int .i64 v.frm,.int .i64 v.val]:=by
   have:=Blk.new (w.alloc (.cells #[.int .i64 op,.int .i64 val,.string name,.int .i64 slot,.int .i64 size,.slice A' m' c'] 68)) 127 #[.int .i64 v.self,.int .i64 v.procs,.int .i64 v.frm,.int .i64 v.val]
   rw [hW] at this
   simpa using this
  have hzW : w.heap.size + 1 < W.heap.size:=hb2.lt
  clear hW
  have key : ∀ (wa : World) (i : Nat),i ≤ 1 → Keep W wa → Calls Tryz.prog 104 #[.agg #[.int .i64 op,.int .i64 val,.string name,.int .i64 slot,.int .i64 size,.slice A' m' c'],.int .i64 i,.slice A m c,.agg #[.int .i64 v.self,.int .i64 v.procs,.int .i64 v.frm,.int .i64 v.val]] wa (ApplyPost (argS cells v n args i) wa):=fun wa i hi ha=>by
   have hk:=Keep.trans hkW ha
   exact rarg_any n IH.out cells v op val slot size name args A' m' c' wa S A m c i hi (fun i hi=>Nat.lt_of_lt_of_le (HS.out i hi) hk.size) (HARGS.out.keep (Same.mono hk HS.out) (ExR.keep (Same.mono hk HS.out) n)) (HC.out.keep (Same.mono hk HS.out)) hm
  have hA : True:=trivial
  have c0 : ∀ wx,Keep W wx → wx.cell? ⟨w.heap.size,0,none⟩ = some (.int .i64 op):=fun wx hk=>(hk.cell (p:=⟨w.heap.size,0,none⟩) (by simp; omega)).trans (by rw [hb1.cell]; rfl)
  generalize hx : argS cells v n args 0 = x
  generalize hy : argS cells v n args 1 = y
  have k0:=fun wa ha=>hx ▸ key wa 0 (by omega) ha
  have k1:=fun wa ha=>hy ▸ key wa 1 (by omega) ha
  have HKW:=Lib.hid hkW
  have HB2:=Lib.hid hb2
  have HB1:=Lib.hid hb1
  have K0:=Lib.hid k0
  have HX:=Lib.hid hx
  have K1:=Lib.hid k1
  have HY:=Lib.hid hy
  clear hkW hb2 hb1 k0 hx k1 hy
  clear key
  refine wp_region_L 99 (fun _=>True) (fun wx=>Keep W wx) (by kernel_rfl) trivial (Same.drew (Same.refl _ _)) (fun _ hB=>?_)
  refine wpL_takeB (i:=0) (v:=?_) rfl (by kernel_rfl) (by kernel_rfl) (by kernel_rfl) (by decide) (fun _ _ _ h=>h) (Or.inl ⟨by rfl,?_⟩) (SAB.both hA hB) ?_
  rotate_left
  ·intro wx hBx
   (try dsimp only at hBx)
   go_simp
   try with_reducible rfl
  try simp only [Act.put,List.setIfInBounds_toArray,List.set_cons_zero,List.set_cons_succ]
  refine wpL_takeB (i:=1) (v:=?_) rfl (by kernel_rfl) (by kernel_rfl) (by kernel_rfl) (by decide) (fun _ _ _ h=>h) (Or.inl ⟨by rfl,?_⟩) (SAB.both hA hB) ?_
  rotate_left
  ·intro wx hBx
   (try dsimp only at hBx)
   go_simp
   try with_reducible rfl
  try simp only [Act.put,List.setIfInBounds_toArray,List.set_cons_zero,List.set_cons_succ]
  refine wpL_takeB (i:=2) rfl (by kernel_rfl) (by kernel_rfl) (by kernel_rfl) (by decide) (fun _ _ _ h=>h) (yieldsIf_blk (by rfl) _ _ rfl w.heap.size 0 68 _ [.int .i64 op,.int .i64 val,.string name,.int .i64 slot,.int .i64 size,.slice A' m' c'] _ rfl (fun wx hx=>hx.blk HB1.out (by omega)) (by simp) Tryz.underlying68 rfl (by kernel_rfl)) (SAB.both hA hB) ?_
  try simp only [Act.put,List.setIfInBounds_toArray,List.set_cons_zero,List.set_cons_succ]
  refine wpL_takeB (i:=3) (v:=?_) rfl (by kernel_rfl) (by kernel_rfl) (by kernel_rfl) (by decide) (fun _ _ _ h=>h) (Or.inl ⟨by rfl,?_⟩) (SAB.both hA hB) ?_
  rotate_left
  ·intro wx hBx
   (try dsimp only at hBx)
   go_simp
   try with_reducible rfl
  try simp only [Act.put,List.setIfInBounds_toArray,List.set_cons_zero,List.set_cons_succ]
  refine wpL_takeB (i:=4) rfl (by kernel_rfl) (by kernel_rfl) (by kernel_rfl) (by decide) (fun _ _ _ h=>h) (yieldsIf_blk (by rfl) _ _ rfl (w.heap.size + 1) 0 127 _ [.int .i64 v.self,.int .i64 v.procs,.int .i64 v.frm,.int .i64 v.val] _ rfl (fun wx hx=>hx.blk HB2.out (by omega)) (by simp) Tryz.underlying127 rfl (by kernel_rfl)) (SAB.both hA hB) ?_
  try simp only [Act.put,List.setIfInBounds_toArray,List.set_cons_zero,List.set_cons_succ]
  refine wpL_takeB (i:=6) rfl (by kernel_rfl) (by kernel_rfl) (by kernel_rfl) (by decide) (fun _ _ _ h=>h) (yieldsIf_blk (by rfl) _ _ rfl w.heap.size 0 68 _ [.int .i64 op,.int .i64 val,.string name,.int .i64 slot,.int .i64 size,.slice A' m' c'] _ rfl (fun wx hx=>hx.blk HB1.out (by omega)) (by simp) Tryz.underlying68 rfl (by kernel_rfl)) (SAB.both hA hB) ?_
  try simp only [Act.put,List.setIfInBounds_toArray,List.set_cons_zero,List.set_cons_succ]
  refine wpL_takeB (i:=7) (v:=?_) rfl (by kernel_rfl) (by kernel_rfl) (by kernel_rfl) (by decide) (fun _ _ _ h=>h) (Or.inl ⟨by rfl,?_⟩) (SAB.both hA hB) ?_
  rotate_left
  ·intro wx hBx
   (try dsimp only at hBx)
   go_simp
   try with_reducible rfl
  try simp only [Act.put,List.setIfInBounds_toArray,List.set_cons_zero,List.set_cons_succ]
  refine wpL_takeB (i:=8) rfl (by kernel_rfl) (by kernel_rfl) (by kernel_rfl) (by decide) (fun _ _ _ h=>h) (yieldsIf_blk (by rfl) _ _ rfl (w.heap.size + 1) 0 127 _ [.int .i64 v.self,.int .i64 v.procs,.int .i64 v.frm,.int .i64 v.val] _ rfl (fun wx hx=>hx.blk HB2.out (by omega)) (by simp) Tryz.underlying127 rfl (by kernel_rfl)) (SAB.both hA hB) ?_
  try simp only [Act.put,List.setIfInBounds_toArray,List.set_cons_zero,List.set_cons_succ]
  clear c0
  refine wpL_one (i:=5) (by kernel_rfl) (StepL.mk rfl (fun K hK=>?_))
  go_simp
  refine (K0.out W.drew (Same.drew (Same.refl _ _))).mono ?_
  rintro e w1 ⟨rfl,hk1⟩
  have hk1' : Keep W w1:=Keep.trans hB hk1
  refine hK.out _ _ (SAB.both trivial hk1') (fun hSS=>?_)
  clear hK K hA hB
  have hB:=hSS.2
  have hA:=hSS.1 (by kernel_rfl)
  (try dsimp only at hB); (try dsimp only at hA); clear hSS
  try simp only [Act.put,List.setIfInBounds_toArray,List.set_cons_zero,List.set_cons_succ]
  refine wpL_one (i:=9) (by kernel_rfl) (StepL.mk rfl (fun K hK=>?_))
  go_simp
  refine (K1.out w1 hk1').mono ?_
  rintro e w2 ⟨rfl,hk2⟩
  have hk2' : Keep W w2:=Keep.trans hk1' hk2
  refine hK.out _ _ (SAB.both trivial hk2') (fun hSS=>?_)
  clear hK K hA hB
  have hB:=hSS.2
  have hA:=hSS.1 (by kernel_rfl)
  (try dsimp only at hB); (try dsimp only at hA); clear hSS
  try simp only [Act.put,List.setIfInBounds_toArray,List.set_cons_zero,List.set_cons_succ]
  refine wpL_one (i:=10) (by kernel_rfl) (StepL.mk rfl (fun K hK=>?_))
  go_simp
  refine (rapply_any op x y w2).mono ?_
  rintro e w3 ⟨rfl,rfl⟩
  refine hK.out _ _ (SAB.both trivial hk2') (fun hSS=>?_)
  clear hK K hA hB
  have hB:=hSS.2
  have hA:=hSS.1 (by kernel_rfl)
  (try dsimp only at hB); (try dsimp only at hA); clear hSS
  try simp only [Act.put,List.setIfInBounds_toArray,List.set_cons_zero,List.set_cons_succ]
  refine wpL_takeB (i:=11) (v:=?_) rfl (by kernel_rfl) (by kernel_rfl) (by kernel_rfl) (by decide) (fun _ _ _ h=>h) (Or.inl ⟨by rfl,?_⟩) (SAB.both hA hB) ?_
  rotate_left
  ·intro wx hBx
   (try dsimp only at hBx)
   go_simp
   try with_reducible rfl
  try simp only [Act.put,List.setIfInBounds_toArray,List.set_cons_zero,List.set_cons_succ]
  refine wpL_done (by kernel_rfl) ?_
  have hfin:=Keep.trans HKW.out hk2'
  have HFIN:=Lib.hid hfin
  clear hfin
  clear hk1 hk1' hk2 hk2' hA hB
  go_wp2_with fail
  go_ret
  exact ⟨by rw [HX.out,HY.out]; rfl,HFIN.out⟩
theorem rvalue_all : ∀ n,RValueSaid n
 | 0=>fun _ _ _ _ _ _ _ _ _ _ he=>he.elim
 | n + 1=>rvalue_succ n (rvalue_all n)
end Go.Proofs.YtipegaojiokppaaGreatDoor
