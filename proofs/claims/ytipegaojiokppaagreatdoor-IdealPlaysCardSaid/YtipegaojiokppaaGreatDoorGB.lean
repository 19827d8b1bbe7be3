import Derived.Test.YtipegaojiokppaaGreatDoorMkProg
import Derived.Test.YtipegaojiokppaaGreatDoorRef04
import Derived.Test.YtipegaojiokppaaGreatDoorMk2
set_option linter.unusedVariables false
set_option linter.unusedSimpArgs false
set_option maxRecDepth 100000
namespace Go.Proofs.YtipegaojiokppaaGreatDoor
open Go.RowKit Go.Proofs
def SomeB (w : World) (e : Ending) (w' : World) : Prop:=∃ b,e = .returned (.bool b) ∧ Keep w w'
def SomeI (lo hi : Int) (w : World) (e : Ending) (w' : World) : Prop:=∃ v,(lo ≤ v ∧ v ≤ hi) ∧ e = .returned (.int .i64 v) ∧ Keep w w'
theorem zero_any (w : World) (op val slot size : Int) (name : ByteArray) (A : Option Addr) (m c : Nat) : Calls Tryz.prog 89 #[.agg #[.int .i64 op,.int .i64 val,.string name,.int .i64 slot,.int .i64 size,.slice A m c]] w (SomeB w):=by
 go_enter Tryz.func89,Tryz.ntmps89
 go_wp2_with fail
 all_goals (go_ret; exact ⟨_,rfl,Keep.new _ _⟩)
def DeepSaid (n : Nat) : Prop:=∀ (w : World) (S : Nat → Prop) (cs : List Value) (e : Ex),(∀ i,S i → i < w.heap.size) → ExR w S n cs e → Ex.few 1000 n e → Calls Tryz.prog 94 #[.agg cs.toArray] w (SomeI 1 n w)
def DeepRel (n : Nat) (W : World) (args : List Ex) (v i : Value) (wr : World) : Prop:=
 ∃ (k : Nat) (x : Int),v = .int .i64 x ∧ (0 ≤ x ∧ x ≤ n) ∧ i = .int .i64 k ∧ k ≤ args.length ∧ Keep W wr
set_option maxHeartbeats 4000000 in
theorem deep_succ (n : Nat) (hn : n ≤ 1000) (ih : DeepSaid n) : DeepSaid (n + 1):=by
 intro w S cs e hS hx hf
 obtain ⟨op,val,name,slot,size,args⟩:=e
 obtain ⟨hsl,hsz,A,m,c,rfl,hargs⟩:=hx
 obtain ⟨hf1,hf2⟩:=hf
 have hml:=hargs.1
 have hm1 : m ≤ 1000:=by omega
 have HS:=Lib.hid hS
 have IH:=Lib.hid ih
 have HF2:=Lib.hid hf2
 have HARGS:=Lib.hid hargs
 have HML:=Lib.hid hml
 clear hS ih hf2 hargs hml
 clear hf1 hsl hsz
 go_enter Tryz.func94,Tryz.ntmps94
 go_upto_region 1 with fail
 generalize hW : w.alloc (.cells #[.int .i64 op,.int .i64 val,.string name,.int .i64 slot,.int .i64 size,.slice A m c] 68) = W
 have hkW : Keep w W:=hW ▸ Keep.new w _
 have hb1 : Blk W w.heap.size 68 #[.int .i64 op,.int .i64 val,.string name,.int .i64 slot,.int .i64 size,.slice A m c]:=hW ▸ Blk.new w _ _
 have hzW:=hb1.lt
 have c5 : W.cell? ⟨w.heap.size,5,none⟩ = some (.slice A m c):=by rw [hb1.cell]; rfl
 clear hW hb1
 have HKW:=Lib.hid hkW
 clear hkW
 go_wp2_with fail
 go_loopw [3,4] (fun v i wr=>DeepRel n W args v i wr) (fun _ i _=>m - (intOf i).toNat)
 case atStart=>exact ⟨0,0,rfl,by omega,rfl,by omega,Same.refl _ _⟩
 case round=>
  obtain ⟨k,x,rfl,hx,rfl,hk,hkr⟩:=hrel
  obtain ⟨hx0,hxn⟩:=hx
  have c5r : wr.cell? ⟨w.heap.size,5,none⟩ = some (.slice A m c):=(hkr.cell (p:=⟨w.heap.size,5,none⟩) (by simp; omega)).trans c5
  have hzr:=hkr.size
  have hkm' : k ≤ m:=by have:=HML.out; omega
  by_cases hkm : k < m
  ·obtain ⟨b',off',cs',a,rfl,hSb,ha,hR,hl,hcell⟩:=HARGS.out.at_ hkm
   have hkw : Keep w wr:=Keep.trans HKW.out hkr
   have hrg : wr.rangeAt b' (off' + k * 6) cs':=fun j u hu=>(hkw.cell (p:=⟨b',off' + k * 6 + j,none⟩) (HS.out b' hSb)).trans (hcell j u hu)
   have hRr:=ExR.keep (Same.mono hkw HS.out) _ _ _ hR
   have hfa:=HF2.out a (List.mem_of_getElem? ha)
   have hd1 : decide (k < m) = true:=by simpa using hkm
   have hd2 : (0 : Int) ≤ k:=by omega
   have hd3 : (k : Int) < m:=by omega
   have hlen:=hR.len
   clear hR hcell ha
   have HKR:=Lib.hid hkr
   have HRG:=Lib.hid hrg
   have HRR:=Lib.hid hRr
   have HFA:=Lib.hid hfa
   have HKW:=Lib.hid hkw
   have HLEN:=Lib.hid hlen
   clear hkr hrg hRr hfa hkw hlen
   go_wp2_with (refine wpList_load_mid rfl _ (.tmp 16) rfl b' (off' + k * 6) rfl cs' _ HRG.out Tryz.underlying68 rfl (info_ex HLEN.out) ?_)
   refine (IH.out wr S cs' a (fun i hi=>Nat.lt_of_lt_of_le (HS.out i hi) HKW.out.size) HRR.out HFA.out).mono ?_
   rintro e w3 ⟨y,hy,rfl,hk3⟩
   obtain ⟨hy0,hyn⟩:=hy
   have hkr3:=Keep.trans HKR.out hk3
   have HKR3:=Lib.hid hkr3
   clear hkr3
   clear hk3
   go_wp2_with fail
   go_roundw
   case rel=>exact ⟨k + 1,(if x < y then y else x),rfl,by split <;> omega,by go_num,by have:=HML.out; omega,HKR3.out⟩
   case measure=>simp [intOf]; omega
  ·have hd1 : decide (k < m) = false:=by simpa using hkm
   have hkw : Keep w wr:=Keep.trans HKW.out hkr
   have HKW:=Lib.hid hkw
   have HKR:=Lib.hid hkr
   clear hkw hkr
   go_wp2_with fail
   go_ret
   exact ⟨x + 1,by omega,rfl,HKW.out⟩
theorem deep_all : ∀ n,n ≤ 1000 → DeepSaid n
 | 0,_=>fun _ _ _ _ _ h=>h.elim
 | n + 1,h=>deep_succ n (by omega) (deep_all n (by omega))
end Go.Proofs.YtipegaojiokppaaGreatDoor
namespace Go.Proofs.YtipegaojiokppaaGreatDoor
open Go.RowKit Go.Proofs
end Go.Proofs.YtipegaojiokppaaGreatDoor
namespace Go.Proofs.YtipegaojiokppaaGreatDoor
open Go.RowKit Go.Proofs
def NestSaid (n : Nat) : Prop:=∀ (w : World) (S : Nat → Prop) (A : Option Addr) (m c : Nat) (l : List Stm),(∀ i,S i → i < w.heap.size) → SlR w S 18 (fun cs s=>StmR w S n cs s) A m c l → l.length ≤ 1000 → (∀ a ∈ l,Stm.few 1000 n a) → Calls Tryz.prog 84 #[.slice A m c] w (SomeI 0 (n + 5) w)
def NestRel (n : Nat) (w : World) (m : Nat) (v i : Value) (wr : World) : Prop:=
 ∃ (k : Nat) (x : Int),v = .int .i64 x ∧ (0 ≤ x ∧ x ≤ n + 5) ∧ i = .int .i64 k ∧ k ≤ m ∧ Keep w wr
def max2 (a b : Int) : Int:=if a < b then b else a
theorem run_max2 {P : Program} (w : World) (a b : Int) : (Builtin.max2 (.int .i64 a) (.int .i64 b)).run P w = .ok (.int .i64 (max2 a b)) w:=by
 unfold max2
 by_cases h : a < b
 ·simp [Builtin.max2,h]
 ·simp [Builtin.max2,h]
theorem run_max4 {P : Program} (w : World) (ats : Array TypeId) (ty : TypeId) (a b c d : Int) : (Builtin.max_ ats ty #[.int .i64 a,.int .i64 b,.int .i64 c,.int .i64 d]).run P w = .ok (.int .i64 (max2 (max2 (max2 a b) c) d)) w:=by
 simp [Builtin.max_,List.foldlM,Sem.run_bind,run_max2]
set_option maxHeartbeats 4000000 in
theorem nest_any (n : Nat) (hn : n ≤ 100) (ih : ∀ k,n = k + 1 → NestSaid k) : NestSaid n:=by
 intro w S A m c l hS hs hl hf
 have hml:=hs.1
 have hm1 : m ≤ 1000:=by omega
 have HLS:=Lib.hid hs
 clear hs
 have HS:=Lib.hid hS
 have IH:=Lib.hid ih
 have HF:=Lib.hid hf
 have HML:=Lib.hid hml
 clear hS ih hf hml
 clear hl
 go_enter Tryz.func84,Tryz.ntmps84
 go_wp2_with fail
 go_loopw [3,4] (fun v i wr=>NestRel n w m v i wr) (fun _ i _=>m - (intOf i).toNat)
 case atStart=>exact ⟨0,0,rfl,by omega,rfl,by omega,Same.refl _ _⟩
 case round=>
  obtain ⟨k,x,rfl,hx,rfl,hk,hkr⟩:=hrel
  obtain ⟨hx0,hxn⟩:=hx
  by_cases hkm : k < m
  ·obtain ⟨b',off',cs',s,rfl,hSb,ha,hR,hll,hcell⟩:=HLS.out.at_ hkm
   obtain ⟨n',rfl⟩ : ∃ n',n = n' + 1:=by
    cases n with
    | zero=>exact hR.elim
    | succ n'=>exact ⟨n',rfl⟩
   have hRk:=hR
   obtain ⟨kind,name,slot,size,place,value,body,els,o1,x1,n1,l1,z1,B1,p1,q1,o2,x2,n2,l2,z2,B2,p2,q2,A6,A7,m6,c6,m7,c7,hse,rfl,hpl,hva,hbo,hel⟩:=StmR.open_ hR
   have hfs:=HF.out s (List.mem_of_getElem? ha)
   rw [hse] at hfs
   obtain ⟨f1,f2,f3,f4,f5,f6⟩:=hfs
   have hrP : ∀ wx,Keep wr wx → wx.rangeAt b' (off' + k * 18 + 4) [.int .i64 o1,.int .i64 x1,.string n1,.int .i64 l1,.int .i64 z1,.slice B1 p1 q1]:=fun wx hx j u hu=>by
    have hj : j < 6:=(List.getElem?_eq_some_iff.1 hu).1
    have:=hcell (4 + j) u (by match j,hj with | 0,_ | 1,_ | 2,_ | 3,_ | 4,_ | 5,_=>exact hu)
    rw [Nat.add_assoc]
    exact ((Keep.trans hkr hx).cell (p:=⟨b',off' + k * 18 + (4 + j),none⟩) (HS.out b' hSb)).trans this
   have hrV : ∀ wx,Keep wr wx → wx.rangeAt b' (off' + k * 18 + 10) [.int .i64 o2,.int .i64 x2,.string n2,.int .i64 l2,.int .i64 z2,.slice B2 p2 q2]:=fun wx hx j u hu=>by
    have hj : j < 6:=(List.getElem?_eq_some_iff.1 hu).1
    have:=hcell (10 + j) u (by match j,hj with | 0,_ | 1,_ | 2,_ | 3,_ | 4,_ | 5,_=>exact hu)
    rw [Nat.add_assoc]
    exact ((Keep.trans hkr hx).cell (p:=⟨b',off' + k * 18 + (10 + j),none⟩) (HS.out b' hSb)).trans this
   have c16 : ∀ wx,Keep wr wx → wx.cell? ⟨b',off' + k * 18 + 16,none⟩ = some (.slice A6 m6 c6):=fun wx hx=>((Keep.trans hkr hx).cell (p:=⟨b',off' + k * 18 + 16,none⟩) (HS.out b' hSb)).trans (hcell 16 _ rfl)
   have c17 : ∀ wx,Keep wr wx → wx.cell? ⟨b',off' + k * 18 + 17,none⟩ = some (.slice A7 m7 c7):=fun wx hx=>((Keep.trans hkr hx).cell (p:=⟨b',off' + k * 18 + 17,none⟩) (HS.out b' hSb)).trans (hcell 17 _ rfl)
   have hd1 : decide (k < m) = true:=by simpa using hkm
   have hd2 : (0 : Int) ≤ k:=by omega
   have hd3 : (k : Int) < m:=by omega
   have hA : True:=trivial
   have slt : ∀ wx,Keep wr wx → ∀ i,S i → i < wx.heap.size:=fun wx hx i hi=>Nat.lt_of_lt_of_le (HS.out i hi) (Keep.trans hkr hx).size
   have sam : ∀ wx,Keep wr wx → Same S w wx:=fun wx hx=>Same.mono (Keep.trans hkr hx) HS.out
   have ihn:=IH.out n' rfl
   clear hcell hRk hse hR
   have HKR:=Lib.hid hkr
   have HRP:=Lib.hid hrP
   have HRV:=Lib.hid hrV
   have HPL:=Lib.hid hpl
   have HVA:=Lib.hid hva
   have HBO:=Lib.hid hbo
   have HEL:=Lib.hid hel
   have F1:=Lib.hid f1
   have F2:=Lib.hid f2
   have F5:=Lib.hid f5
   have F6:=Lib.hid f6
   have HA:=Lib.hid ha
   have SLT:=Lib.hid slt
   have SAM:=Lib.hid sam
   have IHN:=Lib.hid ihn
   clear hkr hrP hrV hpl hva hbo hel f1 f2 f5 f6 ha slt sam ihn
   go_upto_region 5 with fail
   refine wp_region_L 99 (fun _=>True) (fun wx=>Keep wr wx) (by kernel_rfl) trivial (Same.drew (Same.refl _ _)) (fun _ hB=>?_)
   refine wpL_takeB (i:=0) (v:=?_) rfl (by kernel_rfl) (by kernel_rfl) (by kernel_rfl) (by decide) (fun _ _ _ h=>h) (Or.inl ⟨by rfl,?_⟩) (SAB.both hA hB) ?_
   rotate_left
   ·intro wx hBx
    (try dsimp only at hBx)
    go_simp
    try with_reducible rfl
   try simp only [Act.put,List.setIfInBounds_toArray,List.set_cons_zero,List.set_cons_succ]
   refine wpL_takeB (i:=1) (v:=?_) rfl (by kernel_rfl) (by kernel_rfl) (by kernel_rfl) (by decide) (fun _ _ _ h=>h) (Or.inl ⟨by rfl,?_⟩) (SAB.both hA hB) ?_
   rotate_left
   ·intro wx hBx
    (try dsimp only at hBx)
    go_simp
    try with_reducible rfl
   try simp only [Act.put,List.setIfInBounds_toArray,List.set_cons_zero,List.set_cons_succ]
   refine wpL_takeB (i:=2) (v:=?_) rfl (by kernel_rfl) (by kernel_rfl) (by kernel_rfl) (by decide) (fun _ _ _ h=>h) (Or.inl ⟨by rfl,?_⟩) (SAB.both hA hB) ?_
   rotate_left
   ·intro wx hBx
    (try dsimp only at hBx)
    go_simp
    try with_reducible rfl
   try simp only [Act.put,List.setIfInBounds_toArray,List.set_cons_zero,List.set_cons_succ]
   refine wpL_takeB (i:=3) (v:=?_) rfl (by kernel_rfl) (by kernel_rfl) (by kernel_rfl) (by decide) (fun _ _ _ h=>h) (Or.inl ⟨by rfl,?_⟩) (SAB.both hA hB) ?_
   rotate_left
   ·intro wx hBx
    (try dsimp only at hBx)
    go_simp
    try with_reducible rfl
   try simp only [Act.put,List.setIfInBounds_toArray,List.set_cons_zero,List.set_cons_succ]
   refine wpL_takeB (i:=4) (v:=?_) rfl (by kernel_rfl) (by kernel_rfl) (by kernel_rfl) (by decide) (fun _ _ _ h=>h) (Or.inl ⟨by rfl,?_⟩) (SAB.both hA hB) ?_
   rotate_left
   ·intro wx hBx
    (try dsimp only at hBx)
    go_simp
    try with_reducible rfl
   try simp only [Act.put,List.setIfInBounds_toArray,List.set_cons_zero,List.set_cons_succ]
   refine wpL_takeB (i:=5) rfl (by kernel_rfl) (by kernel_rfl) (by kernel_rfl) (by decide) (fun _ _ _ h=>h) (yieldsIf_load_mid (by rfl) _ _ rfl b' (off' + k * 18 + 4) rfl [.int .i64 o1,.int .i64 x1,.string n1,.int .i64 l1,.int .i64 z1,.slice B1 p1 q1] _ (fun wx hx=>HRP.out wx hx) Tryz.underlying68 rfl (by kernel_rfl)) (SAB.both hA hB) ?_
   try simp only [Act.put,List.setIfInBounds_toArray,List.set_cons_zero,List.set_cons_succ]
   refine wpL_takeB (i:=7) (v:=?_) rfl (by kernel_rfl) (by kernel_rfl) (by kernel_rfl) (by decide) (fun _ _ _ h=>h) (Or.inl ⟨by rfl,?_⟩) (SAB.both hA hB) ?_
   rotate_left
   ·intro wx hBx
    (try dsimp only at hBx)
    go_simp
    try with_reducible rfl
   try simp only [Act.put,List.setIfInBounds_toArray,List.set_cons_zero,List.set_cons_succ]
   refine wpL_takeB (i:=8) (v:=?_) rfl (by kernel_rfl) (by kernel_rfl) (by kernel_rfl) (by decide) (fun _ _ _ h=>h) (Or.inl ⟨by rfl,?_⟩) (SAB.both hA hB) ?_
   rotate_left
   ·intro wx hBx
    (try dsimp only at hBx)
    go_simp
    try with_reducible rfl
   try simp only [Act.put,List.setIfInBounds_toArray,List.set_cons_zero,List.set_cons_succ]
   refine wpL_takeB (i:=9) (v:=?_) rfl (by kernel_rfl) (by kernel_rfl) (by kernel_rfl) (by decide) (fun _ _ _ h=>h) (Or.inl ⟨by rfl,?_⟩) (SAB.both hA hB) ?_
   rotate_left
   ·intro wx hBx
    (try dsimp only at hBx)
    go_simp
    try with_reducible rfl
   try simp only [Act.put,List.setIfInBounds_toArray,List.set_cons_zero,List.set_cons_succ]
   refine wpL_takeB (i:=10) (v:=?_) rfl (by kernel_rfl) (by kernel_rfl) (by kernel_rfl) (by decide) (fun _ _ _ h=>h) (Or.inl ⟨by rfl,?_⟩) (SAB.both hA hB) ?_
   rotate_left
   ·intro wx hBx
    (try dsimp only at hBx)
    go_simp
    try with_reducible rfl
   try simp only [Act.put,List.setIfInBounds_toArray,List.set_cons_zero,List.set_cons_succ]
   refine wpL_takeB (i:=11) rfl (by kernel_rfl) (by kernel_rfl) (by kernel_rfl) (by decide) (fun _ _ _ h=>h) (yieldsIf_load_mid (by rfl) _ _ rfl b' (off' + k * 18 + 10) rfl [.int .i64 o2,.int .i64 x2,.string n2,.int .i64 l2,.int .i64 z2,.slice B2 p2 q2] _ (fun wx hx=>HRV.out wx hx) Tryz.underlying68 rfl (by kernel_rfl)) (SAB.both hA hB) ?_
   try simp only [Act.put,List.setIfInBounds_toArray,List.set_cons_zero,List.set_cons_succ]
   refine wpL_takeB (i:=13) (v:=?_) rfl (by kernel_rfl) (by kernel_rfl) (by kernel_rfl) (by decide) (fun _ _ _ h=>h) (Or.inl ⟨by rfl,?_⟩) (SAB.both hA hB) ?_
   rotate_left
   ·intro wx hBx
    (try dsimp only at hBx)
    go_simp
    try with_reducible rfl
   try simp only [Act.put,List.setIfInBounds_toArray,List.set_cons_zero,List.set_cons_succ]
   refine wpL_takeB (i:=14) (v:=?_) rfl (by kernel_rfl) (by kernel_rfl) (by kernel_rfl) (by decide) (fun _ _ _ h=>h) (Or.inl ⟨by rfl,?_⟩) (SAB.both hA hB) ?_
   rotate_left
   ·intro wx hBx
    (try dsimp only at hBx)
    go_simp
    try with_reducible rfl
   try simp only [Act.put,List.setIfInBounds_toArray,List.set_cons_zero,List.set_cons_succ]
   refine wpL_takeB (i:=15) (v:=?_) rfl (by kernel_rfl) (by kernel_rfl) (by kernel_rfl) (by decide) (fun _ _ _ h=>h) (Or.inl ⟨by rfl,?_⟩) (SAB.both hA hB) ?_
   rotate_left
   ·intro wx hBx
    (try dsimp only at hBx)
    go_simp
    try with_reducible rfl
   try simp only [Act.put,List.setIfInBounds_toArray,List.set_cons_zero,List.set_cons_succ]
   refine wpL_takeB (i:=16) (v:=?_) rfl (by kernel_rfl) (by kernel_rfl) (by kernel_rfl) (by decide) (fun _ _ _ h=>h) (Or.inl ⟨by rfl,?_⟩) (SAB.both hA hB) ?_
   rotate_left
   ·intro wx hBx
    (try dsimp only at hBx)
    go_simp
    try with_reducible rfl
   try simp only [Act.put,List.setIfInBounds_toArray,List.set_cons_zero,List.set_cons_succ]
   refine wpL_takeB (i:=17) (v:=?_) rfl (by kernel_rfl) (by kernel_rfl) (by kernel_rfl) (by decide) (fun _ _ _ h=>h) (Or.inl ⟨by rfl,?_⟩) (SAB.both hA hB) ?_
   rotate_left
   ·intro wx hBx
    (try dsimp only at hBx)
    go_simp
    try with_reducible rfl
   try simp only [Act.put,List.setIfInBounds_toArray,List.set_cons_zero,List.set_cons_succ]
   refine wpL_takeB (i:=19) (v:=?_) rfl (by kernel_rfl) (by kernel_rfl) (by kernel_rfl) (by decide) (fun _ _ _ h=>h) (Or.inl ⟨by rfl,?_⟩) (SAB.both hA hB) ?_
   rotate_left
   ·intro wx hBx
    (try dsimp only at hBx)
    go_simp
    try with_reducible rfl
   try simp only [Act.put,List.setIfInBounds_toArray,List.set_cons_zero,List.set_cons_succ]
   refine wpL_takeB (i:=20) (v:=?_) rfl (by kernel_rfl) (by kernel_rfl) (by kernel_rfl) (by decide) (fun _ _ _ h=>h) (Or.inl ⟨by rfl,?_⟩) (SAB.both hA hB) ?_
   rotate_left
   ·intro wx hBx
    (try dsimp only at hBx)
    go_simp
    try with_reducible rfl
   try simp only [Act.put,List.setIfInBounds_toArray,List.set_cons_zero,List.set_cons_succ]
   refine wpL_takeB (i:=21) (v:=?_) rfl (by kernel_rfl) (by kernel_rfl) (by kernel_rfl) (by decide) (fun _ _ _ h=>h) (Or.inl ⟨by rfl,?_⟩) (SAB.both hA hB) ?_
   rotate_left
   ·intro wx hBx
    (try dsimp only at hBx)
    go_simp
    try with_reducible rfl
   try simp only [Act.put,List.setIfInBounds_toArray,List.set_cons_zero,List.set_cons_succ]
   refine wpL_takeB (i:=22) (v:=?_) rfl (by kernel_rfl) (by kernel_rfl) (by kernel_rfl) (by decide) (fun _ _ _ h=>h) (Or.inl ⟨by rfl,?_⟩) (SAB.both hA hB) ?_
   rotate_left
   ·intro wx hBx
    (try dsimp only at hBx)
    go_simp
    try with_reducible rfl
   try simp only [Act.put,List.setIfInBounds_toArray,List.set_cons_zero,List.set_cons_succ]
   refine wpL_takeB (i:=23) (v:=?_) rfl (by kernel_rfl) (by kernel_rfl) (by kernel_rfl) (by decide) (fun _ _ _ h=>h) (Or.inl ⟨by rfl,?_⟩) (SAB.both hA hB) ?_
   rotate_left
   ·intro wx hBx
    (try dsimp only at hBx)
    go_simp
    try with_reducible rfl
   try simp only [Act.put,List.setIfInBounds_toArray,List.set_cons_zero,List.set_cons_succ]
   clear c16 c17
   refine wpL_one (i:=6) (by kernel_rfl) (StepL.mk rfl (fun K hK=>?_))
   go_simp
   refine (deep_all 5 (by omega) wr.drew S [.int .i64 o1,.int .i64 x1,.string n1,.int .i64 l1,.int .i64 z1,.slice B1 p1 q1] place (SLT.out _ hB) (ExR.keep (SAM.out _ hB) _ _ _ HPL.out) F1.out).mono ?_
   rintro e w1 ⟨y1,hy1,rfl,hk1⟩
   have hk1' : Keep wr w1:=Keep.trans hB hk1
   refine hK.out _ _ (SAB.both trivial hk1') (fun hSS=>?_)
   clear hK K hA hB
   have hB:=hSS.2
   have hA:=hSS.1 (by kernel_rfl)
   (try dsimp only at hB); (try dsimp only at hA); clear hSS
   try simp only [Act.put,List.setIfInBounds_toArray,List.set_cons_zero,List.set_cons_succ]
   refine wpL_one (i:=12) (by kernel_rfl) (StepL.mk rfl (fun K hK=>?_))
   go_simp
   refine (deep_all 5 (by omega) w1 S [.int .i64 o2,.int .i64 x2,.string n2,.int .i64 l2,.int .i64 z2,.slice B2 p2 q2] value (SLT.out _ hk1') (ExR.keep (SAM.out _ hk1') _ _ _ HVA.out) F2.out).mono ?_
   rintro e w2 ⟨y2,hy2,rfl,hk2⟩
   have hk2' : Keep wr w2:=Keep.trans hk1' hk2
   refine hK.out _ _ (SAB.both trivial hk2') (fun hSS=>?_)
   clear hK K hA hB
   have hB:=hSS.2
   have hA:=hSS.1 (by kernel_rfl)
   (try dsimp only at hB); (try dsimp only at hA); clear hSS
   try simp only [Act.put,List.setIfInBounds_toArray,List.set_cons_zero,List.set_cons_succ]
   refine wpL_one (i:=18) (by kernel_rfl) (StepL.mk rfl (fun K hK=>?_))
   go_simp
   refine (IHN.out w2 S A6 m6 c6 body (SLT.out _ hk2') (HBO.out.keep (SAM.out _ hk2') (StmR.keep (SAM.out _ hk2') _)) f3 F5.out).mono ?_
   rintro e w3 ⟨y3,hy3,rfl,hk3⟩
   have hk3' : Keep wr w3:=Keep.trans hk2' hk3
   refine hK.out _ _ (SAB.both trivial hk3') (fun hSS=>?_)
   clear hK K hA hB
   have hB:=hSS.2
   have hA:=hSS.1 (by kernel_rfl)
   (try dsimp only at hB); (try dsimp only at hA); clear hSS
   try simp only [Act.put,List.setIfInBounds_toArray,List.set_cons_zero,List.set_cons_succ]
   refine wpL_one (i:=24) (by kernel_rfl) (StepL.mk rfl (fun K hK=>?_))
   go_simp
   refine (IHN.out w3 S A7 m7 c7 els (SLT.out _ hk3') (HEL.out.keep (SAM.out _ hk3') (StmR.keep (SAM.out _ hk3') _)) f4 F6.out).mono ?_
   rintro e w4 ⟨y4,hy4,rfl,hk4⟩
   have hk4' : Keep wr w4:=Keep.trans hk3' hk4
   refine hK.out _ _ (SAB.both trivial hk4') (fun hSS=>?_)
   clear hK K hA hB
   have hB:=hSS.2
   have hA:=hSS.1 (by kernel_rfl)
   (try dsimp only at hB); (try dsimp only at hA); clear hSS
   try simp only [Act.put,List.setIfInBounds_toArray,List.set_cons_zero,List.set_cons_succ]
   refine wpL_takeB (i:=25) rfl (by kernel_rfl) (by kernel_rfl) (by kernel_rfl) (by decide) (fun _ _ _ h=>h) (yieldsIf_of (by rfl) (.int .i64 (max2 (max2 (max2 y1 y2) y3) y4)) (fun wx _=>by go_simp; rw [run_max4]; rfl)) (SAB.both hA hB) ?_
   try simp only [Act.put,List.setIfInBounds_toArray,List.set_cons_zero,List.set_cons_succ]
   have hM : 0 ≤ max2 (max2 (max2 y1 y2) y3) y4 ∧ max2 (max2 (max2 y1 y2) y3) y4 ≤ (n' : Int) + 5:=by
    obtain ⟨a1,b1⟩:=hy1
    obtain ⟨a2,b2⟩:=hy2
    obtain ⟨a3,b3⟩:=hy3
    obtain ⟨a4,b4⟩:=hy4
    unfold max2
    split <;> split <;> split <;> omega
   generalize max2 (max2 (max2 y1 y2) y3) y4 = M at *
   obtain ⟨hM0,hM1⟩:=hM
   have yw : IntKind.i64.wrap (1 + M) = 1 + M:=IntWalk.i64_in _ (by omega)
   refine wpL_takeB (i:=26) (v:=?_) rfl (by kernel_rfl) (by kernel_rfl) (by kernel_rfl) (by decide) (fun _ _ _ h=>h) (Or.inl ⟨by rfl,?_⟩) (SAB.both hA hB) ?_
   rotate_left
   ·intro wx hBx
    (try dsimp only at hBx)
    go_simp
    try with_reducible rfl
   try simp only [Act.put,List.setIfInBounds_toArray,List.set_cons_zero,List.set_cons_succ]
   refine wpL_takeB (i:=27) rfl (by kernel_rfl) (by kernel_rfl) (by kernel_rfl) (by decide) (fun _ _ _ h=>h) (yieldsIf_of (by rfl) (.int .i64 (max2 x (1 + M))) (fun wx _=>by unfold max2; go_simp)) (SAB.both hA hB) ?_
   try simp only [Act.put,List.setIfInBounds_toArray,List.set_cons_zero,List.set_cons_succ]
   refine wpL_takeB (i:=28) (v:=?_) rfl (by kernel_rfl) (by kernel_rfl) (by kernel_rfl) (by decide) (fun _ _ _ h=>h) (Or.inl ⟨by rfl,?_⟩) (SAB.both hA hB) ?_
   rotate_left
   ·intro wx hBx
    (try dsimp only at hBx)
    go_simp
    try with_reducible rfl
   try simp only [Act.put,List.setIfInBounds_toArray,List.set_cons_zero,List.set_cons_succ]
   refine wpL_done (by kernel_rfl) ?_
   have hX : 0 ≤ max2 x (1 + M) ∧ max2 x (1 + M) ≤ ((n' + 1 : Nat) : Int) + 5:=by unfold max2; split <;> omega
   have hfin:=Keep.trans HKR.out hk4'
   have HFIN:=Lib.hid hfin
   clear hfin
   clear hk1 hk1' hk2 hk2' hk3 hk3' hk4 hk4' hA hB yw hy1 hy2 hy3 hy4
   go_wp2_with fail
   go_roundw
   case rel=>exact ⟨k + 1,max2 x (1 + M),rfl,hX,by go_num,by omega,HFIN.out⟩
   case measure=>simp [intOf]; omega
  ·have hd1 : decide (k < m) = false:=by simpa using hkm
   have HKR:=Lib.hid hkr
   clear hkr
   go_wp2_with fail
   go_ret
   exact ⟨x,by omega,rfl,HKR.out⟩
theorem nest_all (n : Nat) (h : n ≤ 100) : NestSaid n:=by
 induction n with
 | zero=>exact nest_any 0 h (fun k e=>by omega)
 | succ n ih=>
  refine nest_any (n + 1) h (fun k e=>?_)
  have e2 : k = n:=by omega
  rw [e2]
  exact ih (by omega)
end Go.Proofs.YtipegaojiokppaaGreatDoor
namespace Go.Proofs.YtipegaojiokppaaGreatDoor
open Go.RowKit Go.Proofs
set_option maxHeartbeats 4000000 in
theorem depth_any (w : World) (S : Nat → Prop) (A A1 A2 A3 A4 : Option Addr) (m c m1 c1 m2 c2 m3 c3 m4 c4 : Nat) (l1 l2 l3 l4 : List Stm) (hS : ∀ i,S i → i < w.heap.size) (h1 : StmsR w S A1 m1 c1 l1) (h2 : StmsR w S A2 m2 c2 l2) (h3 : StmsR w S A3 m3 c3 l3) (h4 : StmsR w S A4 m4 c4 l4) :
  Calls Tryz.prog 75 #[.agg #[.slice A m c,.slice A1 m1 c1,.slice A2 m2 c2,.slice A3 m3 c3,.slice A4 m4 c4]] w (SomeI 0 8 w):=by
 have HS:=Lib.hid hS
 have H1:=Lib.hid h1
 have H2:=Lib.hid h2
 have H3:=Lib.hid h3
 have H4:=Lib.hid h4
 clear hS h1 h2 h3 h4
 go_enter Tryz.func75,Tryz.ntmps75
 go_upto_region 1 with fail
 generalize hW : w.alloc (.cells #[.slice A m c,.slice A1 m1 c1,.slice A2 m2 c2,.slice A3 m3 c3,.slice A4 m4 c4] 119) = W
 have hkW : Keep w W:=hW ▸ Keep.new w _
 have hb : Blk W w.heap.size 119 #[.slice A m c,.slice A1 m1 c1,.slice A2 m2 c2,.slice A3 m3 c3,.slice A4 m4 c4]:=hW ▸ Blk.new w _ _
 have hzW:=hb.lt
 clear hW
 have e1 : ∀ wx,Keep W wx → wx.cell? ⟨w.heap.size,1,none⟩ = some (.slice A1 m1 c1):=fun wx hx=>(hx.cell (p:=⟨w.heap.size,1,none⟩) (by simp; omega)).trans (by rw [hb.cell]; rfl)
 have e2 : ∀ wx,Keep W wx → wx.cell? ⟨w.heap.size,2,none⟩ = some (.slice A2 m2 c2):=fun wx hx=>(hx.cell (p:=⟨w.heap.size,2,none⟩) (by simp; omega)).trans (by rw [hb.cell]; rfl)
 have e3 : ∀ wx,Keep W wx → wx.cell? ⟨w.heap.size,3,none⟩ = some (.slice A3 m3 c3):=fun wx hx=>(hx.cell (p:=⟨w.heap.size,3,none⟩) (by simp; omega)).trans (by rw [hb.cell]; rfl)
 have e4 : ∀ wx,Keep W wx → wx.cell? ⟨w.heap.size,4,none⟩ = some (.slice A4 m4 c4):=fun wx hx=>(hx.cell (p:=⟨w.heap.size,4,none⟩) (by simp; omega)).trans (by rw [hb.cell]; rfl)
 have key : ∀ (A : Option Addr) (m c : Nat) (l : List Stm) (wx : World),StmsR w S A m c l → Keep W wx → Calls Tryz.prog 84 #[.slice A m c] wx (SomeI 0 8 wx):=fun A m c l wx h hx=>by
  have hk:=Keep.trans hkW hx
  have hs:=h.keep (Same.mono hk HS.out)
  have:=nest_all 3 (by omega) wx S A m c l (fun i hi=>Nat.lt_of_lt_of_le (HS.out i hi) hk.size) hs.1 (by have:=hs.2.1; omega) hs.2.2
  exact this
 have hA : True:=trivial
 clear hb
 have HKW:=Lib.hid hkW
 have KEY:=Lib.hid key
 clear hkW key
 refine wp_region_L 99 (fun _=>True) (fun wx=>Keep W wx) (by kernel_rfl) trivial (Same.drew (Same.refl _ _)) (fun _ hB=>?_)
 refine wpL_takeB (i:=0) (v:=?_) rfl (by kernel_rfl) (by kernel_rfl) (by kernel_rfl) (by decide) (fun _ _ _ h=>h) (Or.inl ⟨by rfl,?_⟩) (SAB.both hA hB) ?_
 rotate_left
 ·intro wx hBx
  (try dsimp only at hBx)
  go_simp
  try with_reducible rfl
 try simp only [Act.put,List.setIfInBounds_toArray,List.set_cons_zero,List.set_cons_succ]
 refine wpL_takeB (i:=1) (v:=?_) rfl (by kernel_rfl) (by kernel_rfl) (by kernel_rfl) (by decide) (fun _ _ _ h=>h) (Or.inl ⟨by rfl,?_⟩) (SAB.both hA hB) ?_
 rotate_left
 ·intro wx hBx
  (try dsimp only at hBx)
  go_simp
  try with_reducible rfl
 try simp only [Act.put,List.setIfInBounds_toArray,List.set_cons_zero,List.set_cons_succ]
 refine wpL_takeB (i:=3) (v:=?_) rfl (by kernel_rfl) (by kernel_rfl) (by kernel_rfl) (by decide) (fun _ _ _ h=>h) (Or.inl ⟨by rfl,?_⟩) (SAB.both hA hB) ?_
 rotate_left
 ·intro wx hBx
  (try dsimp only at hBx)
  go_simp
  try with_reducible rfl
 try simp only [Act.put,List.setIfInBounds_toArray,List.set_cons_zero,List.set_cons_succ]
 refine wpL_takeB (i:=4) (v:=?_) rfl (by kernel_rfl) (by kernel_rfl) (by kernel_rfl) (by decide) (fun _ _ _ h=>h) (Or.inl ⟨by rfl,?_⟩) (SAB.both hA hB) ?_
 rotate_left
 ·intro wx hBx
  (try dsimp only at hBx)
  go_simp
  try with_reducible rfl
 try simp only [Act.put,List.setIfInBounds_toArray,List.set_cons_zero,List.set_cons_succ]
 refine wpL_takeB (i:=6) (v:=?_) rfl (by kernel_rfl) (by kernel_rfl) (by kernel_rfl) (by decide) (fun _ _ _ h=>h) (Or.inl ⟨by rfl,?_⟩) (SAB.both hA hB) ?_
 rotate_left
 ·intro wx hBx
  (try dsimp only at hBx)
  go_simp
  try with_reducible rfl
 try simp only [Act.put,List.setIfInBounds_toArray,List.set_cons_zero,List.set_cons_succ]
 refine wpL_takeB (i:=7) (v:=?_) rfl (by kernel_rfl) (by kernel_rfl) (by kernel_rfl) (by decide) (fun _ _ _ h=>h) (Or.inl ⟨by rfl,?_⟩) (SAB.both hA hB) ?_
 rotate_left
 ·intro wx hBx
  (try dsimp only at hBx)
  go_simp
  try with_reducible rfl
 try simp only [Act.put,List.setIfInBounds_toArray,List.set_cons_zero,List.set_cons_succ]
 refine wpL_takeB (i:=9) (v:=?_) rfl (by kernel_rfl) (by kernel_rfl) (by kernel_rfl) (by decide) (fun _ _ _ h=>h) (Or.inl ⟨by rfl,?_⟩) (SAB.both hA hB) ?_
 rotate_left
 ·intro wx hBx
  (try dsimp only at hBx)
  go_simp
  try with_reducible rfl
 try simp only [Act.put,List.setIfInBounds_toArray,List.set_cons_zero,List.set_cons_succ]
 refine wpL_takeB (i:=10) (v:=?_) rfl (by kernel_rfl) (by kernel_rfl) (by kernel_rfl) (by decide) (fun _ _ _ h=>h) (Or.inl ⟨by rfl,?_⟩) (SAB.both hA hB) ?_
 rotate_left
 ·intro wx hBx
  (try dsimp only at hBx)
  go_simp
  try with_reducible rfl
 try simp only [Act.put,List.setIfInBounds_toArray,List.set_cons_zero,List.set_cons_succ]
 clear e1 e2 e3 e4
 refine wpL_one (i:=2) (by kernel_rfl) (StepL.mk rfl (fun K hK=>?_))
 go_simp
 refine (KEY.out A1 m1 c1 l1 W.drew H1.out hB).mono ?_
 rintro e w1 ⟨y1,hy1,rfl,hk1⟩
 have hk1' : Keep W w1:=Keep.trans hB hk1
 refine hK.out _ _ (SAB.both trivial hk1') (fun hSS=>?_)
 clear hK K hA hB
 have hB:=hSS.2
 have hA:=hSS.1 (by kernel_rfl)
 (try dsimp only at hB); (try dsimp only at hA); clear hSS
 try simp only [Act.put,List.setIfInBounds_toArray,List.set_cons_zero,List.set_cons_succ]
 refine wpL_one (i:=5) (by kernel_rfl) (StepL.mk rfl (fun K hK=>?_))
 go_simp
 refine (KEY.out A2 m2 c2 l2 w1 H2.out hk1').mono ?_
 rintro e w2 ⟨y2,hy2,rfl,hk2⟩
 have hk2' : Keep W w2:=Keep.trans hk1' hk2
 refine hK.out _ _ (SAB.both trivial hk2') (fun hSS=>?_)
 clear hK K hA hB
 have hB:=hSS.2
 have hA:=hSS.1 (by kernel_rfl)
 (try dsimp only at hB); (try dsimp only at hA); clear hSS
 try simp only [Act.put,List.setIfInBounds_toArray,List.set_cons_zero,List.set_cons_succ]
 refine wpL_one (i:=8) (by kernel_rfl) (StepL.mk rfl (fun K hK=>?_))
 go_simp
 refine (KEY.out A3 m3 c3 l3 w2 H3.out hk2').mono ?_
 rintro e w3 ⟨y3,hy3,rfl,hk3⟩
 have hk3' : Keep W w3:=Keep.trans hk2' hk3
 refine hK.out _ _ (SAB.both trivial hk3') (fun hSS=>?_)
 clear hK K hA hB
 have hB:=hSS.2
 have hA:=hSS.1 (by kernel_rfl)
 (try dsimp only at hB); (try dsimp only at hA); clear hSS
 try simp only [Act.put,List.setIfInBounds_toArray,List.set_cons_zero,List.set_cons_succ]
 refine wpL_one (i:=11) (by kernel_rfl) (StepL.mk rfl (fun K hK=>?_))
 go_simp
 refine (KEY.out A4 m4 c4 l4 w3 H4.out hk3').mono ?_
 rintro e w4 ⟨y4,hy4,rfl,hk4⟩
 have hk4' : Keep W w4:=Keep.trans hk3' hk4
 refine hK.out _ _ (SAB.both trivial hk4') (fun hSS=>?_)
 clear hK K hA hB
 have hB:=hSS.2
 have hA:=hSS.1 (by kernel_rfl)
 (try dsimp only at hB); (try dsimp only at hA); clear hSS
 try simp only [Act.put,List.setIfInBounds_toArray,List.set_cons_zero,List.set_cons_succ]
 refine wpL_takeB (i:=12) rfl (by kernel_rfl) (by kernel_rfl) (by kernel_rfl) (by decide) (fun _ _ _ h=>h) (yieldsIf_of (by rfl) (.int .i64 (max2 (max2 (max2 y1 y2) y3) y4)) (fun wx _=>by go_simp; rw [run_max4]; rfl)) (SAB.both hA hB) ?_
 try simp only [Act.put,List.setIfInBounds_toArray,List.set_cons_zero,List.set_cons_succ]
 have hM : 0 ≤ max2 (max2 (max2 y1 y2) y3) y4 ∧ max2 (max2 (max2 y1 y2) y3) y4 ≤ 8:=by
  obtain ⟨a1,b1⟩:=hy1
  obtain ⟨a2,b2⟩:=hy2
  obtain ⟨a3,b3⟩:=hy3
  obtain ⟨a4,b4⟩:=hy4
  unfold max2
  split <;> split <;> split <;> omega
 generalize max2 (max2 (max2 y1 y2) y3) y4 = M at *
 refine wpL_takeB (i:=13) (v:=?_) rfl (by kernel_rfl) (by kernel_rfl) (by kernel_rfl) (by decide) (fun _ _ _ h=>h) (Or.inl ⟨by rfl,?_⟩) (SAB.both hA hB) ?_
 rotate_left
 ·intro wx hBx
  (try dsimp only at hBx)
  go_simp
  try with_reducible rfl
 try simp only [Act.put,List.setIfInBounds_toArray,List.set_cons_zero,List.set_cons_succ]
 refine wpL_done (by kernel_rfl) ?_
 have hfin:=Keep.trans HKW.out hk4'
 have HFIN:=Lib.hid hfin
 clear hfin
 clear hk1 hk1' hk2 hk2' hk3 hk3' hk4 hk4' hA hB
 go_wp2_with fail
 go_ret
 exact ⟨M,hM,rfl,HFIN.out⟩
end Go.Proofs.YtipegaojiokppaaGreatDoor
namespace Go.Proofs.YtipegaojiokppaaGreatDoor
open Go.RowKit Go.Proofs
def BoolIs (b : Bool) (w : World) (e : Ending) (w' : World) : Prop:=e = .returned (.bool b) ∧ w' = w
def letterS (x : Int) : Bool:=decide ((97 ≤ x ∧ x ≤ 122) ∨ (65 ≤ x ∧ x ≤ 90) ∨ x = 95)
def digitS (x : Int) : Bool:=decide (48 ≤ x ∧ x ≤ 57)
theorem letter_is (w : World) (x : Int) : Calls Tryz.prog 85 #[.int .u8 x] w (BoolIs (letterS x) w):=by
 go_enter Tryz.func85,Tryz.ntmps85
 go_wp2_with fail
 all_goals (go_ret; refine ⟨congrArg (fun b=>Ending.returned (.bool b)) ?_,rfl⟩; rw [Bool.eq_iff_iff]; simp only [letterS,Bool.or_eq_true,Bool.and_eq_true,decide_eq_true_eq,beq_iff_eq,true_iff,Bool.false_eq_true,false_iff]; omega)
theorem digit_is (w : World) (x : Int) : Calls Tryz.prog 87 #[.int .u8 x] w (BoolIs (digitS x) w):=by
 go_enter Tryz.func87,Tryz.ntmps87
 go_wp2_with fail
 all_goals (go_ret; refine ⟨congrArg (fun b=>Ending.returned (.bool b)) ?_,rfl⟩; rw [Bool.eq_iff_iff]; simp only [digitS,Bool.or_eq_true,Bool.and_eq_true,decide_eq_true_eq,beq_iff_eq,true_iff,Bool.false_eq_true,false_iff]; omega)
def noSpace (b : ByteArray) (k : Nat) : Prop:=∀ j,j < k → ∀ h : j < b.size,((b[j].toNat : Int) == 32) = false
def hitB (b : ByteArray) (k : Nat) : Bool:=((ByteArray.mk #[32,118,97,114,32,97,114,114,97,121,32,111,110,32,115,116,97,114,116,32,109,101,115,115,97,103,101,32,116,105,99,107,32,105,110,112,117,116,32,105,102,32,101,108,115,101,32,119,104,105,108,101,32,115,101,110,100,32,111,117,116,112,117,116,32,115,101,108,102,32,112,114,111,99,115,32,102,114,111,109,32,118,97,108,117,101,32]).extract k (k + (1 + b.size + 1))).toList == ((ByteArray.mk #[32]) ++ b ++ (ByteArray.mk #[32])).toList
open Classical in
noncomputable def resB (b : ByteArray) : Bool:=decide (b.size ≠ 0 ∧ noSpace b b.size ∧ ∃ k,k + (1 + b.size + 1) ≤ 87 ∧ hitB b k = true)
theorem resB_no {b : ByteArray} (h : ¬ (b.size ≠ 0 ∧ noSpace b b.size ∧ ∃ k,k + (1 + b.size + 1) ≤ 87 ∧ hitB b k = true)) : resB b = false:=by
 unfold resB; simpa using h
theorem resB_yes {b : ByteArray} (h : b.size ≠ 0 ∧ noSpace b b.size ∧ ∃ k,k + (1 + b.size + 1) ≤ 87 ∧ hitB b k = true) : resB b = true:=by
 unfold resB; simpa using h
def NatRel (hi : Nat) (P : Nat → Prop) (w : World) (i : Value) (wr : World) : Prop:=∃ k : Nat,i = .int .i64 k ∧ k ≤ hi ∧ P k ∧ wr = w
theorem reserved_is (b : ByteArray) (hb : b.size ≤ 1000000) (w : World) : Calls Tryz.prog 86 #[.string b] w (BoolIs (resB b) w):=by
 generalize hr : resB b = r
 by_cases h0 : b.size = 0
 ·have d0 : ((b.size : Int) == 0) = true:=by simpa using h0
  have : r = false:=hr ▸ resB_no (fun h=>h.1 h0)
  subst this
  clear hr
  go_enter Tryz.func86,Tryz.ntmps86
  go_wp2_with fail
  go_ret
  exact ⟨rfl,rfl⟩
 have d0 : ((b.size : Int) == 0) = false:=by simpa using h0
 have HR:=Lib.hid hr
 clear hr
 go_enter Tryz.func86,Tryz.ntmps86
 go_wp2_with fail
 go_loopw [3] (fun i wr=>NatRel b.size (noSpace b) w i wr) (fun i _=>b.size - (intOf i).toNat)
 case atStart=>exact ⟨0,rfl,by omega,fun j hj=>by omega,rfl⟩
 case round=>
  obtain ⟨k,rfl,hk,hns,rfl⟩:=hrel
  by_cases hkm : k < b.size
  ·have hd1 : decide (k < b.size) = true:=by simpa using hkm
   have hd2 : (0 : Int) ≤ k:=by omega
   have hd3 : (k : Int) < b.size:=by omega
   cases hd4 : ((b[k].toNat : Int) == 32) with
   | true=>
    have : r = false:=HR.out ▸ resB_no (fun h=>by have:=h.2.1 k hkm hkm; rw [hd4] at this; cases this)
    subst this
    have HNS:=Lib.hid hns
    clear hns
    go_wp2_with fail
    go_ret
    exact ⟨rfl,rfl⟩
   | false=>
    have hns2 : noSpace b (k + 1):=fun j hj h=>by
     rcases Nat.lt_or_ge j k with hjk | hjk
     ·exact hns j hjk h
     ·have e : j = k:=by omega
      subst e
      exact hd4
    have HNS2:=Lib.hid hns2
    have HNS:=Lib.hid hns
    clear hns2 hns
    go_wp2_with fail
    go_roundw
    case rel=>exact ⟨k + 1,by go_num,by omega,HNS2.out,rfl⟩
    case measure=>simp [intOf]; omega
  ·have hd1 : decide (k < b.size) = false:=by simpa using hkm
   have hall : noSpace b b.size:=fun j hj h=>hns j (by omega) h
   have HNS:=Lib.hid hns
   have HALL:=Lib.hid hall
   clear hns hall
   go_wp2_with fail
   go_loopw [5] (fun i wx=>NatRel 87 (fun k=>∀ j,j < k → hitB b j = false) wr i wx) (fun i _=>87 - (intOf i).toNat)
   case atStart=>exact ⟨0,rfl,by omega,fun j hj=>by omega,rfl⟩
   case round=>
    obtain ⟨k2,rfl,hk2,hno,rfl⟩:=hrel
    by_cases hc : (k2 : Int) + (1 + b.size + 1) ≤ 87
    ·cases hh : hitB b k2 with
     | true=>
      have : r = true:=HR.out ▸ resB_yes ⟨h0,HALL.out,k2,by omega,hh⟩
      subst this
      unfold hitB at hh
      have HNO:=Lib.hid hno
      clear hno
      go_wp2_with fail
      go_ret
      exact ⟨rfl,rfl⟩
     | false=>
      have hno2 : ∀ j,j < k2 + 1 → hitB b j = false:=fun j hj=>by
       rcases Nat.lt_or_ge j k2 with hjk | hjk
       ·exact hno j hjk
       ·have e : j = k2:=by omega
        subst e
        exact hh
      unfold hitB at hh
      have HNO:=Lib.hid hno
      have HNO2:=Lib.hid hno2
      clear hno hno2
      go_wp2_with fail
      go_roundw
      case rel=>exact ⟨k2 + 1,by go_num,by omega,HNO2.out,rfl⟩
      case measure=>simp [intOf]; omega
    ·have : r = false:=HR.out ▸ resB_no (fun ⟨_,_,k3,h3,hh3⟩=>by
      have:=hno k3 (by omega)
      rw [hh3] at this
      cases this)
     subst this
     have HNO:=Lib.hid hno
     clear hno
     go_wp2_with fail
     go_ret
     exact ⟨rfl,rfl⟩
def lettersTo (b : ByteArray) (k : Nat) : Prop:=∀ j,j < k → ∀ h : j < b.size,(letterS b[j].toNat || digitS b[j].toNat) = true
open Classical in
noncomputable def validB (b : ByteArray) : Bool:=decide (∃ h : 0 < b.size,b.size ≤ 16 ∧ letterS b[0].toNat = true ∧ resB b = false ∧ lettersTo b b.size)
open Classical in
theorem validB_no {b : ByteArray} (h : ¬ (∃ h : 0 < b.size,b.size ≤ 16 ∧ letterS b[0].toNat = true ∧ resB b = false ∧ lettersTo b b.size)) : validB b = false:=by
 unfold validB; exact decide_eq_false h
open Classical in
theorem validB_yes {b : ByteArray} (h : ∃ h : 0 < b.size,b.size ≤ 16 ∧ letterS b[0].toNat = true ∧ resB b = false ∧ lettersTo b b.size) : validB b = true:=by
 unfold validB; exact decide_eq_true h
theorem valid_is (b : ByteArray) (w : World) : Calls Tryz.prog 76 #[.string b] w (BoolIs (validB b) w):=by
 generalize hr : validB b = r
 by_cases h0 : b.size = 0
 ·have d0 : ((b.size : Int) == 0) = true:=by simpa using h0
  have : r = false:=hr ▸ validB_no (fun h=>by obtain ⟨h,_⟩:=h; omega)
  subst this
  clear hr
  go_enter Tryz.func76,Tryz.ntmps76
  go_wp2_with fail
  go_ret
  exact ⟨rfl,rfl⟩
 have d0 : ((b.size : Int) == 0) = false:=by simpa using h0
 have hp : 0 < b.size:=by omega
 by_cases h16 : 16 < b.size
 ·have d1 : decide (16 < b.size) = true:=by simpa using h16
  have : r = false:=hr ▸ validB_no (fun h=>by obtain ⟨_,h,_⟩:=h; omega)
  subst this
  clear hr
  go_enter Tryz.func76,Tryz.ntmps76
  go_wp2_with fail
  go_ret
  exact ⟨rfl,rfl⟩
 have d1 : decide (16 < b.size) = false:=by simpa using h16
 cases hl : letterS b[0].toNat with
 | false=>
  have : r = false:=hr ▸ validB_no (fun h=>by obtain ⟨_,_,h,_⟩:=h; rw [hl] at h; cases h)
  subst this
  clear hr
  have HL:=Lib.hid hl
  clear hl
  go_enter Tryz.func76,Tryz.ntmps76
  go_wp2_with (go_at_call 85; refine (letter_is _ _).mono ?_; rw [HL.out]; rintro e w1 ⟨rfl,rfl⟩)
  go_ret
  exact ⟨rfl,rfl⟩
 | true=>
  cases hre : resB b with
  | true=>
   have : r = false:=hr ▸ validB_no (fun h=>by obtain ⟨_,_,_,h,_⟩:=h; rw [hre] at h; cases h)
   subst this
   clear hr
   have HL:=Lib.hid hl
   have HRE:=Lib.hid hre
   clear hl hre
   go_enter Tryz.func76,Tryz.ntmps76
   go_wp2_with (first | (go_at_call 85; refine (letter_is _ _).mono ?_; rw [HL.out]; rintro e w1 ⟨rfl,rfl⟩) | (go_at_call 86; refine (reserved_is _ (by omega) _).mono ?_; rw [HRE.out]; rintro e w1 ⟨rfl,rfl⟩))
   go_ret
   exact ⟨rfl,rfl⟩
  | false=>
   have HL:=Lib.hid hl
   have HRE:=Lib.hid hre
   have HR:=Lib.hid hr
   clear hl hre hr
   go_enter Tryz.func76,Tryz.ntmps76
   go_wp2_with (first | (go_at_call 85; refine (letter_is _ _).mono ?_; rw [HL.out]; rintro e w1 ⟨rfl,rfl⟩) | (go_at_call 86; refine (reserved_is _ (by omega) _).mono ?_; rw [HRE.out]; rintro e w1 ⟨rfl,rfl⟩))
   go_loopw [3] (fun i wr=>NatRel b.size (lettersTo b) w1 i wr) (fun i _=>b.size - (intOf i).toNat)
   case atStart=>exact ⟨0,rfl,by omega,fun j hj=>by omega,rfl⟩
   case round=>
    obtain ⟨k,rfl,hk,hns,rfl⟩:=hrel
    by_cases hkm : k < b.size
    ·have hd1 : decide (k < b.size) = true:=by simpa using hkm
     have hd2 : (0 : Int) ≤ k:=by omega
     have hd3 : (k : Int) < b.size:=by omega
     cases hx : letterS b[k].toNat with
     | true=>
      have hns2 : lettersTo b (k + 1):=fun j hj h=>by
       rcases Nat.lt_or_ge j k with hjk | hjk
       ·exact hns j hjk h
       ·have e : j = k:=by omega
        subst e
        rw [hx]; rfl
      have HNS2:=Lib.hid hns2
      have HNS:=Lib.hid hns
      have HX:=Lib.hid hx
      clear hns2 hns hx
      go_wp2_with (go_at_call 85; refine (letter_is _ _).mono ?_; rw [HX.out]; rintro e w2 ⟨rfl,rfl⟩)
      go_roundw
      case rel=>exact ⟨k + 1,by go_num,by omega,HNS2.out,rfl⟩
      case measure=>simp [intOf]; omega
     | false=>
      cases hy : digitS b[k].toNat with
      | true=>
       have hns2 : lettersTo b (k + 1):=fun j hj h=>by
        rcases Nat.lt_or_ge j k with hjk | hjk
        ·exact hns j hjk h
        ·have e : j = k:=by omega
         subst e
         rw [hx,hy]; rfl
       have HNS2:=Lib.hid hns2
       have HNS:=Lib.hid hns
       have HX:=Lib.hid hx
       have HY:=Lib.hid hy
       clear hns2 hns hx hy
       go_wp2_with (first | (go_at_call 85; refine (letter_is _ _).mono ?_; rw [HX.out]; rintro e w2 ⟨rfl,rfl⟩) | (go_at_call 87; refine (digit_is _ _).mono ?_; rw [HY.out]; rintro e w3 ⟨rfl,rfl⟩))
       go_roundw
       case rel=>exact ⟨k + 1,by go_num,by omega,HNS2.out,rfl⟩
       case measure=>simp [intOf]; omega
      | false=>
       have : r = false:=HR.out ▸ validB_no (fun h=>by
        obtain ⟨_,_,_,_,h⟩:=h
        have:=h k hkm hkm
        rw [hx,hy] at this
        cases this)
       subst this
       have HNS:=Lib.hid hns
       have HX:=Lib.hid hx
       have HY:=Lib.hid hy
       clear hns hx hy
       go_wp2_with (first | (go_at_call 85; refine (letter_is _ _).mono ?_; rw [HX.out]; rintro e w2 ⟨rfl,rfl⟩) | (go_at_call 87; refine (digit_is _ _).mono ?_; rw [HY.out]; rintro e w3 ⟨rfl,rfl⟩))
       go_ret
       exact ⟨rfl,rfl⟩
    ·have hd1 : decide (k < b.size) = false:=by simpa using hkm
     have : r = true:=HR.out ▸ validB_yes ⟨hp,by omega,HL.out,HRE.out,fun j hj h=>hns j (by omega) h⟩
     subst this
     have HNS:=Lib.hid hns
     clear hns
     go_wp2_with fail
     go_ret
     exact ⟨rfl,rfl⟩
end Go.Proofs.YtipegaojiokppaaGreatDoor
namespace Go.Proofs.YtipegaojiokppaaGreatDoor
open Go.RowKit Go.Proofs
theorem cells_any (w : World) (name : ByteArray) (size init : Int) : Calls Tryz.prog 67 #[.agg #[.string name,.int .i64 size,.int .i64 init]] w (SomeI 1 2147483649 w):=by
 go_enter Tryz.func67,Tryz.ntmps67
 go_wp2_with fail
 all_goals (go_ret; refine ⟨_,?_,rfl,Keep.new _ _⟩; (repeat' split) <;> omega)
def VarsR (w : World) (S : Nat → Prop) (A : Option Addr) (m c : Nat) (vs : List Vr) : Prop:=Sl encVr 3 w S A m c vs ∧ m ≤ 1000 ∧ ∀ v ∈ vs,I64 v.size
def LookPost (w : World) (e : Ending) (w' : World) : Prop:=∃ (s z : Int) (b : Bool),e = .returned (.tuple #[.int .i64 s,.int .i64 z,.bool b]) ∧ I64 s ∧ I64 z ∧ Keep w w'
end Go.Proofs.YtipegaojiokppaaGreatDoor
