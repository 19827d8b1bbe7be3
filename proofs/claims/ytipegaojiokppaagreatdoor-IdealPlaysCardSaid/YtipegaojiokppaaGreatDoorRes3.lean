import Derived.Test.YtipegaojiokppaaGreatDoorRes2
import Derived.Test.YtipegaojiokppaaGreatDoorRead10
import Derived.Test.YtipegaojiokppaaGreatDoorProcR2
set_option linter.unusedVariables false
set_option pp.deepTerms true
set_option pp.maxSteps 200000
set_option linter.unusedSimpArgs false
set_option maxRecDepth 100000
namespace Go.Proofs.YtipegaojiokppaaGreatDoor
open Go.RowKit Go.Proofs
def ResPost (w : World) (en : Ending) (w' : World) : Prop:=∃ (cs : List Value) (x : Int) (c : Cd),en = .returned (.tuple #[.agg cs.toArray,.int .i64 x]) ∧ CdR w' (New w' w.heap.size) cs c ∧ Keep w w'
def Two (W : World) (m : Nat) (i : Value) (wr : World) : Prop:=∃ k : Nat,i = .int .i64 k ∧ k ≤ m ∧ Keep W wr
def SumRel (W : World) (m : Nat) (s i : Value) (wr : World) : Prop:=∃ (k : Nat) (x : Int),s = .int .i64 x ∧ (0 ≤ x ∧ x ≤ 32) ∧ i = .int .i64 k ∧ k ≤ m ∧ Keep W wr
theorem sts_in {w : World} {b0 b : Nat} {A : Option Addr} {m c : Nat} {l : List Stm} (hb : b ≤ b0) (h : SlR w (New w b0) 18 (fun cs s=>StmR w (New w b0) 3 cs s) A m c l) : SlR w (New w b) 18 (StmR w (New w b) 3) A m c l:=
 h.more (fun i hi=>⟨by have:=hi.1; omega,hi.2⟩) (StmR.more (fun i (hi : New w b0 i)=>⟨by have:=hi.1; omega,hi.2⟩) _)
theorem sts_mv {w w' : World} {b : Nat} {A : Option Addr} {m c : Nat} {l : List Stm} (h : SlR w (New w b) 18 (StmR w (New w b) 3) A m c l) (hs : Same (New w b) w w') : SlR w' (New w' b) 18 (StmR w' (New w' b) 3) A m c l:=
 (h.keep hs (StmR.keep hs _)).more (fun i hi=>⟨hi.1,Nat.lt_of_lt_of_le hi.2 hs.size⟩) (StmR.more (fun i (hi : New w b i)=>⟨hi.1,Nat.lt_of_lt_of_le hi.2 hs.size⟩) _)
theorem built_int (a : Int) : builtS Tryz.prog 3 1 [(0,.int .i64 a)] = some #[.int .i64 a]:=by kernel_rfl
def InitRel (U : World) (b9 : Nat) (f : Option Addr → Nat → Nat → Array Value) (vm : Nat) (i : Value) (wr : World) : Prop:=
 ∃ (k : Nat) (A : Option Addr) (n c : Nat) (xs : List Int),i = .int .i64 k ∧ k ≤ vm ∧ xs.length = n ∧ n ≤ 101 * k ∧ Blk wr b9 63 (f A n c) ∧ wr.ownsRow U.heap.size 3 1 (.slice A n c) n (xs.flatMap encI) ∧ Same (fun i=>i < U.heap.size ∧ i ≠ b9) U wr
def InRel (U : World) (b9 : Nat) (f : Option Addr → Nat → Nat → Array Value) (k : Nat) (i : Value) (wr : World) : Prop:=
 ∃ (j : Nat) (A : Option Addr) (n c : Nat) (xs : List Int),i = .int .i64 j ∧ 1 ≤ j ∧ j ≤ 101 ∧ xs.length = n ∧ n ≤ 101 * k + j ∧ Blk wr b9 63 (f A n c) ∧ wr.ownsRow U.heap.size 3 1 (.slice A n c) n (xs.flatMap encI) ∧ Same (fun i=>i < U.heap.size ∧ i ≠ b9) U wr
set_option maxHeartbeats 32000000 in
theorem resolve_any (w : World) (S : Nat → Prop) (cs : List Value) (p : Prg) (hS : ∀ i,S i → i < w.heap.size) (hp : PrgR w S cs p) : Calls Tryz.prog 56 #[.agg cs.toArray] w (ResPost w):=by
 obtain ⟨V,A1,A2,A3,A4,vm,vc,m1,c1,m2,c2,m3,c3,m4,c4,rfl,hvs,hvl,hvb,h1,h2,h3,h4⟩:=hp
 obtain ⟨i0,hi0,iz0,iz1,iz2⟩:=info_of info_Int
 have hvm:=hvs.1
 have hvr : VarsR w S V vm vc p.vars:=⟨hvs,by omega,fun v hv=>⟨by have:=(hvb v hv).1; omega,by have:=(hvb v hv).1; omega⟩⟩
 have hvc : vm ≤ vc ∧ vc ≤ 9223372036854775807:=⟨hvs.2.1,hvs.2.2.1⟩
 have hvm1 : vm ≤ 100:=by omega
 generalize hW : (w.alloc (.cells #[.slice V vm vc,.slice A1 m1 c1,.slice A2 m2 c2,.slice A3 m3 c3,.slice A4 m4 c4] 119)).alloc (.cells #[.slice none 0 0,.slice none 0 0,.slice none 0 0,.slice none 0 0,.slice none 0 0] 63) = W
 have hkW : Keep w W:=hW ▸ Keep.alloc (Keep.new w _) _
 have hb : Blk W w.heap.size 119 #[.slice V vm vc,.slice A1 m1 c1,.slice A2 m2 c2,.slice A3 m3 c3,.slice A4 m4 c4]:=hW ▸ (Blk.new w _ _).alloc _
 have hb2 : Blk W (w.heap.size + 1) 63 #[.slice none 0 0,.slice none 0 0,.slice none 0 0,.slice none 0 0,.slice none 0 0]:=hW ▸ (by simpa using Blk.new (w.alloc _) _ _)
 have hz : w.heap.size + 1 < W.heap.size:=hb2.lt
 have sam : ∀ wx,Keep W wx → Same S w wx:=fun wx hx=>Same.mono (Keep.trans hkW hx) hS
 have slt : ∀ wx,Keep W wx → ∀ i,S i → i < wx.heap.size:=fun wx hx i hi=>Nat.lt_of_lt_of_le (hS i hi) (Keep.trans hkW hx).size
 have zero : ∀ (x : Int) (e : Ending) (wx wz : World),Keep W wx → Same (· ≠ w.heap.size + 1) wx wz → ResPost w (.returned (.tuple #[.agg (([.slice none 0 0,.slice none 0 0,.slice none 0 0,.slice none 0 0,.slice none 0 0] : List Value)).toArray,.int .i64 x])) wz:=fun x e wx wz hx hs=>⟨_,x,⟨[],[],[],[],[]⟩,rfl,⟨_,_,_,_,_,_,_,_,_,_,_,_,_,_,_,rfl,Sl.nil_,SlR.nil_,SlR.nil_,SlR.nil_,SlR.nil_,by simp⟩,Keep.write (Keep.trans hkW hx) hs (by omega)⟩
 have keyC:=check_any W S V A1 A2 A3 A4 vm vc m1 c1 m2 c2 m3 c3 m4 c4 p.vars p.start p.message p.tick p.input (slt W (Same.refl _ _)) (hvr.keep (sam W (Same.refl _ _))) (h1.keep (sam W (Same.refl _ _))) (h2.keep (sam W (Same.refl _ _))) (h3.keep (sam W (Same.refl _ _))) (h4.keep (sam W (Same.refl _ _)))
 have keyD : ∀ (wx : World) (A : Option Addr) (m c : Nat) (l : List Stm),Keep W wx → StmsR w S A m c l → Calls Tryz.prog 68 #[.slice V vm vc,.slice A m c] wx (SomeB wx):=fun wx A m c l hx h=>decl_all 3 wx S V vm vc p.vars A m c l (slt wx hx) (hvr.keep (sam wx hx)) (h.1.keep (sam wx hx) (StmR.keep (sam wx hx) _)) (by have:=h.2.1; omega) h.2.2
 have keyS : ∀ (wx : World) (A : Option Addr) (m c : Nat) (l : List Stm),Same (fun i=>i < w.heap.size) w wx → StmsR w S A m c l → Calls Tryz.prog 69 #[.slice V vm vc,.slice A m c] wx (StsPost 3 wx):=fun wx A m c l hx h=>sts_all 3 wx S V vm vc p.vars A m c l (fun i hi=>Nat.lt_of_lt_of_le (hS i hi) hx.size) (hvr.keep (hx.mono hS)) (h.1.keep (hx.mono hS) (StmR.keep (hx.mono hS) _)) (by have:=h.2.1; omega) h.2.2
 have c0 : ∀ wx,Keep W wx → wx.cell? ⟨w.heap.size,0,none⟩ = some (.slice V vm vc):=fun wx hx=>(hx.cell (p:=⟨w.heap.size,0,none⟩) hb.lt).trans (by rw [hb.cell]; rfl)
 have e1 : ∀ wx,Keep W wx → wx.cell? ⟨w.heap.size,1,none⟩ = some (.slice A1 m1 c1):=fun wx hx=>(hx.cell (p:=⟨w.heap.size,1,none⟩) hb.lt).trans (by rw [hb.cell]; rfl)
 have e2 : ∀ wx,Keep W wx → wx.cell? ⟨w.heap.size,2,none⟩ = some (.slice A2 m2 c2):=fun wx hx=>(hx.cell (p:=⟨w.heap.size,2,none⟩) hb.lt).trans (by rw [hb.cell]; rfl)
 have e3 : ∀ wx,Keep W wx → wx.cell? ⟨w.heap.size,3,none⟩ = some (.slice A3 m3 c3):=fun wx hx=>(hx.cell (p:=⟨w.heap.size,3,none⟩) hb.lt).trans (by rw [hb.cell]; rfl)
 have e4 : ∀ wx,Keep W wx → wx.cell? ⟨w.heap.size,4,none⟩ = some (.slice A4 m4 c4):=fun wx hx=>(hx.cell (p:=⟨w.heap.size,4,none⟩) hb.lt).trans (by rw [hb.cell]; rfl)
 have hvW : ∀ wx,Keep W wx → Sl encVr 3 wx S V vm vc p.vars:=fun wx hx=>hvs.keep (sam wx hx)
 have HS:=Lib.hid hS
 have HVS:=Lib.hid hvs
 have HVL:=Lib.hid hvl
 have HVB:=Lib.hid hvb
 have H1:=Lib.hid h1
 have H2:=Lib.hid h2
 have H3:=Lib.hid h3
 have H4:=Lib.hid h4
 have HI0:=Lib.hid hi0
 have IZ0:=Lib.hid iz0
 have IZ1:=Lib.hid iz1
 have IZ2:=Lib.hid iz2
 have HVM:=Lib.hid hvm
 have HVR:=Lib.hid hvr
 have HKW:=Lib.hid hkW
 have HB:=Lib.hid hb
 have HB2:=Lib.hid hb2
 have ZERO:=Lib.hid zero
 have KEYC:=Lib.hid keyC
 have KEYD:=Lib.hid keyD
 have KEYS:=Lib.hid keyS
 have C0:=Lib.hid c0
 have E1:=Lib.hid e1
 have E2:=Lib.hid e2
 have E3:=Lib.hid e3
 have E4:=Lib.hid e4
 have HVW:=Lib.hid hvW
 clear hS hvs hvl hvb h1 h2 h3 h4 hi0 iz0 iz1 iz2 hvm hvr hkW hb hb2 zero keyC keyD keyS c0 e1 e2 e3 e4 hvW
 clear sam slt
 go_enter Tryz.func56,Tryz.ntmps56
 go_wp2_with (refine wpList_load_all rfl _ (.tmp 1) rfl w.heap.size 119 [.slice V vm vc,.slice A1 m1 c1,.slice A2 m2 c2,.slice A3 m3 c3,.slice A4 m4 c4] _ rfl HB.out Tryz.underlying119 rfl (by kernel_rfl) ?_)
 clear hW
 refine KEYC.out.mono ?_
 rintro e w1 ⟨x,rfl,hk1⟩
 have y0:=C0.out w1 hk1
 have HK1:=Lib.hid hk1
 clear hk1
 cases qx : (x != 0) with
 | true=>
  as_aux_lemma=>
  have hb2z:=HK1.out.blk HB2.out HB2.out.lt
  have HB2Z:=Lib.hid hb2z
  clear hb2z
  go_wp2_with (refine wpList_store_all rfl _ (.tmp 2) (.tmp 17) rfl (w.heap.size + 1) 63 _ [.slice none 0 0,.slice none 0 0,.slice none 0 0,.slice none 0 0,.slice none 0 0] rfl rfl HB2Z.out rfl (by kernel_rfl) rfl ?_; intro wz hbz hwz; have HBZ:=Lib.hid hbz; have HWZ:=Lib.hid hwz; clear hbz hwz)
  refine bodyPost_ret (results_cell_tmp' Tryz.results56 _ _ _ ⟨w.heap.size + 1,0,none⟩ _ _ rfl rfl (loadVar_blk [.slice none 0 0,.slice none 0 0,.slice none 0 0,.slice none 0 0,.slice none 0 0] _ HBZ.out (fun j v hv=>by simpa using hv) Tryz.underlying63 rfl (by kernel_rfl))) rfl ?_
  exact ZERO.out _ .outgrown w1 wz HK1.out HWZ.out
 | false=>
  cases qv : decide ((16 : Int) < (vm : Int)) with
  | true=>
   as_aux_lemma=>
   have hb2z:=HK1.out.blk HB2.out HB2.out.lt
   have HB2Z:=Lib.hid hb2z
   clear hb2z
   go_wp2_with (refine wpList_store_all rfl _ (.tmp 2) (.tmp 23) rfl (w.heap.size + 1) 63 _ [.slice none 0 0,.slice none 0 0,.slice none 0 0,.slice none 0 0,.slice none 0 0] rfl rfl HB2Z.out rfl (by kernel_rfl) rfl ?_; intro wz hbz hwz; have HBZ:=Lib.hid hbz; have HWZ:=Lib.hid hwz; clear hbz hwz)
   refine bodyPost_ret (results_cell_tmp' Tryz.results56 _ _ _ ⟨w.heap.size + 1,0,none⟩ _ _ rfl rfl (loadVar_blk [.slice none 0 0,.slice none 0 0,.slice none 0 0,.slice none 0 0,.slice none 0 0] _ HBZ.out (fun j v hv=>by simpa using hv) Tryz.underlying63 rfl (by kernel_rfl))) rfl ?_
   exact ZERO.out _ .outgrown w1 wz HK1.out HWZ.out
  | false=>
   go_wp2_with fail
   go_loopw [5] (fun i wr=>Two W vm i wr) (fun i _=>vm - (intOf i).toNat)
   case atStart=>exact ⟨0,rfl,by omega,HK1.out⟩
   case round=>
    obtain ⟨i,rfl,hi,hki⟩:=hrel
    obtain ⟨wi,hwi⟩ : ∃ wi : World,wi = wr:=⟨_,rfl⟩
    subst hwi
    clear y0
    have y0:=C0.out wi hki
    by_cases him : i < vm
    ·have hd1 : decide (i < vm) = true:=by simpa using him
     have hd2 : (0 : Int) ≤ i:=by omega
     have hd3 : (i : Int) < vm:=by omega
     have HKI:=Lib.hid hki
     clear hki
     go_wp2_with fail
     go_loopw [6] (fun j wr=>Two W i j wr) (fun j _=>i - (intOf j).toNat)
     case atStart=>exact ⟨0,rfl,by omega,HKI.out⟩
     case round=>
      obtain ⟨k,rfl,hk,hkr⟩:=hrel
      by_cases hki2 : k < i
      ·have hvx:=HVW.out wr hkr
       obtain ⟨b',off',v,rfl,_,_,hcv⟩:=hvx.at_ encVr_len (k:=k) (by omega)
       obtain ⟨b2,off2,v2,hbb,_,_,hcv2⟩:=hvx.at_ encVr_len (k:=i) (by omega)
       injection hbb with hbb
       injection hbb with hbb1 hbb2
       subst hbb1 hbb2
       have t0 : wr.cell? ⟨b',off' + k * 3,none⟩ = some (.string v.name):=hcv 0 _ rfl
       have t1 : wr.cell? ⟨b',off' + i * 3,none⟩ = some (.string v2.name):=hcv2 0 _ rfl
       have y0r:=C0.out wr hkr
       have hq1 : decide (k < i) = true:=by simpa using hki2
       have hq2 : (0 : Int) ≤ k:=by omega
       have hq3 : (k : Int) < vm:=by omega
       clear hcv hcv2 hvx
       have HKR:=Lib.hid hkr
       clear hkr
       cases qn : (v.name.toList == v2.name.toList) with
       | true=>
        as_aux_lemma=>
        go_wp2_with fail
        go_quiet (fail)
        rename_i nq
        have hkq:=Same.drewN (HKR.out) nq
        have HKQ:=Lib.hid hkq
        clear hkq
        have hb2z:=HKQ.out.blk HB2.out HB2.out.lt
        have HB2Z:=Lib.hid hb2z
        clear hb2z
        go_wp2_with (refine wpList_store_all rfl _ (.tmp 2) (.tmp 49) rfl (w.heap.size + 1) 63 _ [.slice none 0 0,.slice none 0 0,.slice none 0 0,.slice none 0 0,.slice none 0 0] rfl rfl HB2Z.out rfl (by kernel_rfl) rfl ?_; intro wz hbz hwz; have HBZ:=Lib.hid hbz; have HWZ:=Lib.hid hwz; clear hbz hwz)
        refine bodyPost_ret (results_cell_tmp' Tryz.results56 _ _ _ ⟨w.heap.size + 1,0,none⟩ _ _ rfl rfl (loadVar_blk [.slice none 0 0,.slice none 0 0,.slice none 0 0,.slice none 0 0,.slice none 0 0] _ HBZ.out (fun j v hv=>by simpa using hv) Tryz.underlying63 rfl (by kernel_rfl))) rfl ?_
        exact ZERO.out _ .outgrown (wr.drewN nq) wz HKQ.out HWZ.out
       | false=>
        go_wp2_with fail
        go_quiet (fail)
        go_wp2_with fail
        go_roundw
        case rel=>exact ⟨k + 1,by go_num,by omega,Same.drewN HKR.out _⟩
        case measure=>simp [intOf]; omega
      ·have hq1 : decide (k < i) = false:=by simpa using hki2
       have HKR:=Lib.hid hkr
       clear hkr
       go_wp2_with fail
       go_roundw
       case rel=>exact ⟨i + 1,by go_num,by omega,HKR.out⟩
       case measure=>simp [intOf]; omega
    ·have hd1 : decide (i < vm) = false:=by simpa using him
     have HKI:=Lib.hid hki
     clear hki
     go_wp2_with fail
     go_loopw [7,8] (fun s j wr=>SumRel W vm s j wr) (fun _ j _=>vm - (intOf j).toNat)
     case atStart=>exact ⟨0,0,rfl,by omega,rfl,by omega,HKI.out⟩
     case round=>
      obtain ⟨k,x7,rfl,⟨hx0,hx1⟩,rfl,hk,hkr⟩:=hrel
      have y0r:=C0.out wr hkr
      by_cases hkm : k < vm
      ·obtain ⟨b',off',v,rfl,_,_,hcv⟩:=(HVW.out wr hkr).at_ encVr_len hkm
       have hrg : wr.rangeAt b' (off' + k * 3) [.string v.name,.int .i64 v.size,.int .i64 v.init]:=hcv
       have hq1 : decide (k < vm) = true:=by simpa using hkm
       have hq2 : (0 : Int) ≤ k:=by omega
       have hq3 : (k : Int) < vm:=by omega
       clear hcv
       have HKR:=Lib.hid hkr
       have HRG:=Lib.hid hrg
       clear hkr hrg
       go_wp2_with (refine wpList_load_mid rfl _ (.tmp 61) rfl b' (off' + k * 3) rfl [.string v.name,.int .i64 v.size,.int .i64 v.init] _ HRG.out Tryz.underlying116 rfl (by kernel_rfl) ?_)
       refine (cells_any wr v.name v.size v.init).mono ?_
       rintro e w2 ⟨yc,⟨hyc0,hyc1⟩,rfl,hk2⟩
       have hkr2:=Keep.trans HKR.out hk2
       clear hk2 y0r
       have HKR2:=Lib.hid hkr2
       clear hkr2
       by_cases hgt : 32 < x7 + yc
       ·have hq4 : decide (32 < x7 + yc) = true:=by simpa using hgt
        as_aux_lemma=>
        have hb2z:=HKR2.out.blk HB2.out HB2.out.lt
        have HB2Z:=Lib.hid hb2z
        clear hb2z
        go_wp2_with (refine wpList_store_all rfl _ (.tmp 2) (.tmp 67) rfl (w.heap.size + 1) 63 _ [.slice none 0 0,.slice none 0 0,.slice none 0 0,.slice none 0 0,.slice none 0 0] rfl rfl HB2Z.out rfl (by kernel_rfl) rfl ?_; intro wz hbz hwz; have HBZ:=Lib.hid hbz; have HWZ:=Lib.hid hwz; clear hbz hwz)
        refine bodyPost_ret (results_cell_tmp' Tryz.results56 _ _ _ ⟨w.heap.size + 1,0,none⟩ _ _ rfl rfl (loadVar_blk [.slice none 0 0,.slice none 0 0,.slice none 0 0,.slice none 0 0,.slice none 0 0] _ HBZ.out (fun j v hv=>by simpa using hv) Tryz.underlying63 rfl (by kernel_rfl))) rfl ?_
        exact ZERO.out _ .outgrown w2 wz HKR2.out HWZ.out
       ·have hq4 : decide (32 < x7 + yc) = false:=by simpa using hgt
        go_wp2_with fail
        go_roundw
        case rel=>exact ⟨k + 1,x7 + yc,rfl,⟨by omega,by omega⟩,by go_num,by omega,HKR2.out⟩
        case measure=>simp [intOf]; omega
      ·have hq1 : decide (k < vm) = false:=by simpa using hkm
       have y1:=E1.out wr hkr
       have HKR:=Lib.hid hkr
       clear hkr
       go_wp2_with fail
       refine (KEYD.out wr A1 m1 c1 p.start HKR.out H1.out).mono ?_
       rintro e wa ⟨ya,rfl,hka⟩
       have hkWa:=Keep.trans HKR.out hka
       have ya0:=C0.out wa hkWa
       have ya2:=E2.out wa hkWa
       clear hka y0r y1
       have HKWA:=Lib.hid hkWa
       clear hkWa
       cases ya with
       | false=>
        as_aux_lemma=>
        have hb2z:=HKWA.out.blk HB2.out HB2.out.lt
        have HB2Z:=Lib.hid hb2z
        clear hb2z
        go_wp2_with (refine wpList_store_all rfl _ (.tmp 2) (.tmp 98) rfl (w.heap.size + 1) 63 _ [.slice none 0 0,.slice none 0 0,.slice none 0 0,.slice none 0 0,.slice none 0 0] rfl rfl HB2Z.out rfl (by kernel_rfl) rfl ?_; intro wz hbz hwz; have HBZ:=Lib.hid hbz; have HWZ:=Lib.hid hwz; clear hbz hwz)
        refine bodyPost_ret (results_cell_tmp' Tryz.results56 _ _ _ ⟨w.heap.size + 1,0,none⟩ _ _ rfl rfl (loadVar_blk [.slice none 0 0,.slice none 0 0,.slice none 0 0,.slice none 0 0,.slice none 0 0] _ HBZ.out (fun j v hv=>by simpa using hv) Tryz.underlying63 rfl (by kernel_rfl))) rfl ?_
        exact ZERO.out _ .outgrown wa wz HKWA.out HWZ.out
       | true=>
        go_wp2_with fail
        refine (KEYD.out wa A2 m2 c2 p.message HKWA.out H2.out).mono ?_
        rintro e wb ⟨yb,rfl,hkb⟩
        have hkWb:=Keep.trans HKWA.out hkb
        have yb0:=C0.out wb hkWb
        have yb3:=E3.out wb hkWb
        clear hkb ya0 ya2
        have HKWB:=Lib.hid hkWb
        clear hkWb
        cases yb with
        | false=>
         as_aux_lemma=>
         have hb2z:=HKWB.out.blk HB2.out HB2.out.lt
         have HB2Z:=Lib.hid hb2z
         clear hb2z
         go_wp2_with (refine wpList_store_all rfl _ (.tmp 2) (.tmp 98) rfl (w.heap.size + 1) 63 _ [.slice none 0 0,.slice none 0 0,.slice none 0 0,.slice none 0 0,.slice none 0 0] rfl rfl HB2Z.out rfl (by kernel_rfl) rfl ?_; intro wz hbz hwz; have HBZ:=Lib.hid hbz; have HWZ:=Lib.hid hwz; clear hbz hwz)
         refine bodyPost_ret (results_cell_tmp' Tryz.results56 _ _ _ ⟨w.heap.size + 1,0,none⟩ _ _ rfl rfl (loadVar_blk [.slice none 0 0,.slice none 0 0,.slice none 0 0,.slice none 0 0,.slice none 0 0] _ HBZ.out (fun j v hv=>by simpa using hv) Tryz.underlying63 rfl (by kernel_rfl))) rfl ?_
         exact ZERO.out _ .outgrown wb wz HKWB.out HWZ.out
        | true=>
         go_wp2_with fail
         refine (KEYD.out wb A3 m3 c3 p.tick HKWB.out H3.out).mono ?_
         rintro e wc ⟨yc,rfl,hkc⟩
         have hkWc:=Keep.trans HKWB.out hkc
         have yc0:=C0.out wc hkWc
         have yc4:=E4.out wc hkWc
         clear hkc yb0 yb3
         have HKWC:=Lib.hid hkWc
         clear hkWc
         cases yc with
         | false=>
          as_aux_lemma=>
          have hb2z:=HKWC.out.blk HB2.out HB2.out.lt
          have HB2Z:=Lib.hid hb2z
          clear hb2z
          go_wp2_with (refine wpList_store_all rfl _ (.tmp 2) (.tmp 98) rfl (w.heap.size + 1) 63 _ [.slice none 0 0,.slice none 0 0,.slice none 0 0,.slice none 0 0,.slice none 0 0] rfl rfl HB2Z.out rfl (by kernel_rfl) rfl ?_; intro wz hbz hwz; have HBZ:=Lib.hid hbz; have HWZ:=Lib.hid hwz; clear hbz hwz)
          refine bodyPost_ret (results_cell_tmp' Tryz.results56 _ _ _ ⟨w.heap.size + 1,0,none⟩ _ _ rfl rfl (loadVar_blk [.slice none 0 0,.slice none 0 0,.slice none 0 0,.slice none 0 0,.slice none 0 0] _ HBZ.out (fun j v hv=>by simpa using hv) Tryz.underlying63 rfl (by kernel_rfl))) rfl ?_
          exact ZERO.out _ .outgrown wc wz HKWC.out HWZ.out
         | true=>
          go_wp2_with fail
          refine (KEYD.out wc A4 m4 c4 p.input HKWC.out H4.out).mono ?_
          rintro e wd ⟨yd,rfl,hkd⟩
          have hkWd:=Keep.trans HKWC.out hkd
          clear hkd yc0 yc4
          have HKWD:=Lib.hid hkWd
          clear hkWd
          cases yd with
          | false=>
           as_aux_lemma=>
           have hb2z:=HKWD.out.blk HB2.out HB2.out.lt
           have HB2Z:=Lib.hid hb2z
           clear hb2z
           go_wp2_with (refine wpList_store_all rfl _ (.tmp 2) (.tmp 98) rfl (w.heap.size + 1) 63 _ [.slice none 0 0,.slice none 0 0,.slice none 0 0,.slice none 0 0,.slice none 0 0] rfl rfl HB2Z.out rfl (by kernel_rfl) rfl ?_; intro wz hbz hwz; have HBZ:=Lib.hid hbz; have HWZ:=Lib.hid hwz; clear hbz hwz)
           refine bodyPost_ret (results_cell_tmp' Tryz.results56 _ _ _ ⟨w.heap.size + 1,0,none⟩ _ _ rfl rfl (loadVar_blk [.slice none 0 0,.slice none 0 0,.slice none 0 0,.slice none 0 0,.slice none 0 0] _ HBZ.out (fun j v hv=>by simpa using hv) Tryz.underlying63 rfl (by kernel_rfl))) rfl ?_
           exact ZERO.out _ .outgrown wd wz HKWD.out HWZ.out
          | true=>
           go_upto_region 25 with fail
           generalize hu0 : (wd.alloc (.cells #[.slice none 0 0,.slice none 0 0,.slice none 0 0,.slice none 0 0,.slice none 0 0] 63)).alloc (.cells #[.bool false,.bool false,.bool false,.bool false] 143) = u0
           have hku0 : Keep wd u0:=hu0 ▸ Keep.alloc (Keep.new wd _) _
           have b90 : Blk u0 wd.heap.size 63 #[.slice none 0 0,.slice none 0 0,.slice none 0 0,.slice none 0 0,.slice none 0 0]:=hu0 ▸ (Blk.new wd _ _).alloc _
           have ba0 : Blk u0 (wd.heap.size + 1) 143 #[.bool false,.bool false,.bool false,.bool false]:=hu0 ▸ (by simpa using Blk.new (wd.alloc _) _ _)
           have zu0 : wd.heap.size + 2 ≤ u0.heap.size:=by rw [← hu0]; simp
           have zwd:=HKWD.out.size
           have fr0 : Keep W u0:=Keep.trans HKWD.out hku0
           clear hu0 hku0
           replace fr0 : Same (fun i=>i < W.heap.size) W u0:=fr0
           have cP : ∀ wx,Same (fun i=>i < W.heap.size) W wx → wx.cell? ⟨w.heap.size,0,none⟩ = some (.slice V vm vc):=fun wx hx=>(hx.cell (p:=⟨w.heap.size,0,none⟩) HB.out.lt).trans (by rw [HB.out.cell]; rfl)
           have cA : ∀ wx,Same (fun i=>i < W.heap.size) W wx → wx.cell? ⟨w.heap.size,1,none⟩ = some (.slice A1 m1 c1):=fun wx hx=>(hx.cell (p:=⟨w.heap.size,1,none⟩) HB.out.lt).trans (by rw [HB.out.cell]; rfl)
           have cB : ∀ wx,Same (fun i=>i < W.heap.size) W wx → wx.cell? ⟨w.heap.size,2,none⟩ = some (.slice A2 m2 c2):=fun wx hx=>(hx.cell (p:=⟨w.heap.size,2,none⟩) HB.out.lt).trans (by rw [HB.out.cell]; rfl)
           have cC : ∀ wx,Same (fun i=>i < W.heap.size) W wx → wx.cell? ⟨w.heap.size,3,none⟩ = some (.slice A3 m3 c3):=fun wx hx=>(hx.cell (p:=⟨w.heap.size,3,none⟩) HB.out.lt).trans (by rw [HB.out.cell]; rfl)
           have cD : ∀ wx,Same (fun i=>i < W.heap.size) W wx → wx.cell? ⟨w.heap.size,4,none⟩ = some (.slice A4 m4 c4):=fun wx hx=>(hx.cell (p:=⟨w.heap.size,4,none⟩) HB.out.lt).trans (by rw [HB.out.cell]; rfl)
           have frw : ∀ wx,Same (fun i=>i < W.heap.size) W wx → Same (fun i=>i < w.heap.size) w wx:=fun wx hx=>Same.trans HKW.out hx (fun i hi=>by omega)
           have vP:=cP u0 fr0
           have vA:=cA u0 fr0
           have B90:=Lib.hid b90
           have BA0:=Lib.hid ba0
           have FR0:=Lib.hid fr0
           have CP:=Lib.hid cP
           have CA:=Lib.hid cA
           have CB:=Lib.hid cB
           have CC:=Lib.hid cC
           have CD:=Lib.hid cD
           have FRW:=Lib.hid frw
           clear b90 ba0 fr0 cP cA cB cC cD frw
           go_wp2_with fail
           refine (KEYS.out u0 A1 m1 c1 p.start (FRW.out u0 FR0.out) H1.out).mono ?_
           rintro e v1 ⟨S1,sm1,sc1,ls1,t1,rfl,hx1,hq1⟩
           have zq1:=hq1.size
           have b9q:=hq1.blk B90.out B90.out.lt
           have baq:=hq1.blk BA0.out BA0.out.lt
           have B9Q:=Lib.hid b9q
           have BAQ:=Lib.hid baq
           have HQ1:=Lib.hid hq1
           have HX1:=Lib.hid hx1
           clear b9q baq hq1 hx1
           clear vP vA
           go_upto_region 26 with (first
            | (refine wpList_store_one rfl _ (.tmp 107) _ rfl wd.heap.size 1 63 _ (.slice S1 sm1 sc1) rfl rfl B9Q.out (by simp) (by kernel_rfl) rfl rfl ?_; intro vv1 hbv hsv; have HBV:=Lib.hid hbv; have HSV:=Lib.hid hsv; clear hbv hsv)
            | (refine wpList_store_one rfl _ (.tmp 108) _ rfl (wd.heap.size + 1) 0 143 _ (.bool t1) rfl rfl (HSV.out.blk BAQ.out (by omega)) (by simp) (by kernel_rfl) rfl rfl ?_; intro u1 hbu hsu; have HBU:=Lib.hid hbu; have HSU:=Lib.hid hsu; clear hbu hsu))
           have b91 : Blk u1 wd.heap.size 63 #[.slice none 0 0,.slice S1 sm1 sc1,.slice none 0 0,.slice none 0 0,.slice none 0 0]:=by have:=HSU.out.blk HBV.out (by omega); simpa using this
           have ba1 : Blk u1 (wd.heap.size + 1) 143 #[.bool t1,.bool false,.bool false,.bool false]:=by have:=HBU.out; simpa using this
           have hd1_ : Same (fun i=>i ≠ wd.heap.size ∧ i ≠ wd.heap.size + 1) v1 u1:=Same.trans (HSV.out.mono (fun i hi=>hi.1)) HSU.out (fun i hi=>hi.2)
           have zu1:=hd1_.size
           have fr1 : Same (fun i=>i < W.heap.size) W u1:=Same.trans (Same.trans FR0.out HQ1.out (fun i hi=>by have:=FR0.out.size; omega)) hd1_ (fun i hi=>⟨by omega,by omega⟩)
           have st1 : Same (New u0 (wd.heap.size + 2)) u0 u1:=Same.trans (Same.mono HQ1.out (fun i hi=>hi.2)) hd1_ (fun i hi=>⟨by have:=hi.1; omega,by have:=hi.1; omega⟩)
           have hl11:=sts_mv (b:=wd.heap.size + 2) (sts_in (b:=wd.heap.size + 2) (by omega) HX1.out) (hd1_.mono (fun i (hi : New v1 (wd.heap.size + 2) i)=>⟨by have:=hi.1; omega,by have:=hi.1; omega⟩))
           have vP:=CP.out u1 fr1
           have vA:=CB.out u1 fr1
           clear HBV HSV HBU HSU B9Q BAQ B90 BA0
           have B91:=Lib.hid b91
           have BA1:=Lib.hid ba1
           have FR1:=Lib.hid fr1
           have HL11:=Lib.hid hl11
           clear b91 ba1 fr1 hl11
           clear hd1_ st1
           go_wp2_with fail
           refine (KEYS.out u1 A2 m2 c2 p.message (FRW.out u1 FR1.out) H2.out).mono ?_
           rintro e v2 ⟨S2,sm2,sc2,ls2,t2,rfl,hx2,hq2⟩
           have zq2:=hq2.size
           have b9q:=hq2.blk B91.out B91.out.lt
           have baq:=hq2.blk BA1.out BA1.out.lt
           have B9Q:=Lib.hid b9q
           have BAQ:=Lib.hid baq
           have HQ2:=Lib.hid hq2
           have HX2:=Lib.hid hx2
           clear b9q baq hq2 hx2
           clear vP vA
           go_upto_region 27 with (first
            | (refine wpList_store_one rfl _ (.tmp 117) _ rfl wd.heap.size 2 63 _ (.slice S2 sm2 sc2) rfl rfl B9Q.out (by simp) (by kernel_rfl) rfl rfl ?_; intro vv2 hbv hsv; have HBV:=Lib.hid hbv; have HSV:=Lib.hid hsv; clear hbv hsv)
            | (refine wpList_store_one rfl _ (.tmp 118) _ rfl (wd.heap.size + 1) 1 143 _ (.bool t2) rfl rfl (HSV.out.blk BAQ.out (by omega)) (by simp) (by kernel_rfl) rfl rfl ?_; intro u2 hbu hsu; have HBU:=Lib.hid hbu; have HSU:=Lib.hid hsu; clear hbu hsu))
           have b92 : Blk u2 wd.heap.size 63 #[.slice none 0 0,.slice S1 sm1 sc1,.slice S2 sm2 sc2,.slice none 0 0,.slice none 0 0]:=by have:=HSU.out.blk HBV.out (by omega); simpa using this
           have ba2 : Blk u2 (wd.heap.size + 1) 143 #[.bool t1,.bool t2,.bool false,.bool false]:=by have:=HBU.out; simpa using this
           have hd2_ : Same (fun i=>i ≠ wd.heap.size ∧ i ≠ wd.heap.size + 1) v2 u2:=Same.trans (HSV.out.mono (fun i hi=>hi.1)) HSU.out (fun i hi=>hi.2)
           have zu2:=hd2_.size
           have fr2 : Same (fun i=>i < W.heap.size) W u2:=Same.trans (Same.trans FR1.out HQ2.out (fun i hi=>by have:=FR1.out.size; omega)) hd2_ (fun i hi=>⟨by omega,by omega⟩)
           have st2 : Same (New u1 (wd.heap.size + 2)) u1 u2:=Same.trans (Same.mono HQ2.out (fun i hi=>hi.2)) hd2_ (fun i hi=>⟨by have:=hi.1; omega,by have:=hi.1; omega⟩)
           have hl22:=sts_mv (b:=wd.heap.size + 2) (sts_in (b:=wd.heap.size + 2) (by omega) HX2.out) (hd2_.mono (fun i (hi : New v2 (wd.heap.size + 2) i)=>⟨by have:=hi.1; omega,by have:=hi.1; omega⟩))
           have hl12:=sts_mv HL11.out st2
           have vP:=CP.out u2 fr2
           have vA:=CC.out u2 fr2
           clear HBV HSV HBU HSU B9Q BAQ B91 BA1
           have B92:=Lib.hid b92
           have BA2:=Lib.hid ba2
           have FR2:=Lib.hid fr2
           have HL12:=Lib.hid hl12
           have HL22:=Lib.hid hl22
           clear b92 ba2 fr2 hl12 hl22
           clear hd2_ st2
           go_wp2_with fail
           refine (KEYS.out u2 A3 m3 c3 p.tick (FRW.out u2 FR2.out) H3.out).mono ?_
           rintro e v3 ⟨S3,sm3,sc3,ls3,t3,rfl,hx3,hq3⟩
           have zq3:=hq3.size
           have b9q:=hq3.blk B92.out B92.out.lt
           have baq:=hq3.blk BA2.out BA2.out.lt
           have B9Q:=Lib.hid b9q
           have BAQ:=Lib.hid baq
           have HQ3:=Lib.hid hq3
           have HX3:=Lib.hid hx3
           clear b9q baq hq3 hx3
           clear vP vA
           go_upto_region 28 with (first
            | (refine wpList_store_one rfl _ (.tmp 127) _ rfl wd.heap.size 3 63 _ (.slice S3 sm3 sc3) rfl rfl B9Q.out (by simp) (by kernel_rfl) rfl rfl ?_; intro vv3 hbv hsv; have HBV:=Lib.hid hbv; have HSV:=Lib.hid hsv; clear hbv hsv)
            | (refine wpList_store_one rfl _ (.tmp 128) _ rfl (wd.heap.size + 1) 2 143 _ (.bool t3) rfl rfl (HSV.out.blk BAQ.out (by omega)) (by simp) (by kernel_rfl) rfl rfl ?_; intro u3 hbu hsu; have HBU:=Lib.hid hbu; have HSU:=Lib.hid hsu; clear hbu hsu))
           have b93 : Blk u3 wd.heap.size 63 #[.slice none 0 0,.slice S1 sm1 sc1,.slice S2 sm2 sc2,.slice S3 sm3 sc3,.slice none 0 0]:=by have:=HSU.out.blk HBV.out (by omega); simpa using this
           have ba3 : Blk u3 (wd.heap.size + 1) 143 #[.bool t1,.bool t2,.bool t3,.bool false]:=by have:=HBU.out; simpa using this
           have hd3_ : Same (fun i=>i ≠ wd.heap.size ∧ i ≠ wd.heap.size + 1) v3 u3:=Same.trans (HSV.out.mono (fun i hi=>hi.1)) HSU.out (fun i hi=>hi.2)
           have zu3:=hd3_.size
           have fr3 : Same (fun i=>i < W.heap.size) W u3:=Same.trans (Same.trans FR2.out HQ3.out (fun i hi=>by have:=FR2.out.size; omega)) hd3_ (fun i hi=>⟨by omega,by omega⟩)
           have st3 : Same (New u2 (wd.heap.size + 2)) u2 u3:=Same.trans (Same.mono HQ3.out (fun i hi=>hi.2)) hd3_ (fun i hi=>⟨by have:=hi.1; omega,by have:=hi.1; omega⟩)
           have hl33:=sts_mv (b:=wd.heap.size + 2) (sts_in (b:=wd.heap.size + 2) (by omega) HX3.out) (hd3_.mono (fun i (hi : New v3 (wd.heap.size + 2) i)=>⟨by have:=hi.1; omega,by have:=hi.1; omega⟩))
           have hl13:=sts_mv HL12.out st3
           have hl23:=sts_mv HL22.out st3
           have vP:=CP.out u3 fr3
           have vA:=CD.out u3 fr3
           clear HBV HSV HBU HSU B9Q BAQ B92 BA2
           have B93:=Lib.hid b93
           have BA3:=Lib.hid ba3
           have FR3:=Lib.hid fr3
           have HL13:=Lib.hid hl13
           have HL23:=Lib.hid hl23
           have HL33:=Lib.hid hl33
           clear b93 ba3 fr3 hl13 hl23 hl33
           clear hd3_ st3
           go_wp2_with fail
           refine (KEYS.out u3 A4 m4 c4 p.input (FRW.out u3 FR3.out) H4.out).mono ?_
           rintro e v4 ⟨S4,sm4,sc4,ls4,t4,rfl,hx4,hq4⟩
           have zq4:=hq4.size
           have b9q:=hq4.blk B93.out B93.out.lt
           have baq:=hq4.blk BA3.out BA3.out.lt
           have B9Q:=Lib.hid b9q
           have BAQ:=Lib.hid baq
           have HQ4:=Lib.hid hq4
           have HX4:=Lib.hid hx4
           clear b9q baq hq4 hx4
           clear vP vA
           go_upto_region 29 with (first
            | (refine wpList_store_one rfl _ (.tmp 137) _ rfl wd.heap.size 4 63 _ (.slice S4 sm4 sc4) rfl rfl B9Q.out (by simp) (by kernel_rfl) rfl rfl ?_; intro vv4 hbv hsv; have HBV:=Lib.hid hbv; have HSV:=Lib.hid hsv; clear hbv hsv)
            | (refine wpList_store_one rfl _ (.tmp 138) _ rfl (wd.heap.size + 1) 3 143 _ (.bool t4) rfl rfl (HSV.out.blk BAQ.out (by omega)) (by simp) (by kernel_rfl) rfl rfl ?_; intro u4 hbu hsu; have HBU:=Lib.hid hbu; have HSU:=Lib.hid hsu; clear hbu hsu))
           have b94 : Blk u4 wd.heap.size 63 #[.slice none 0 0,.slice S1 sm1 sc1,.slice S2 sm2 sc2,.slice S3 sm3 sc3,.slice S4 sm4 sc4]:=by have:=HSU.out.blk HBV.out (by omega); simpa using this
           have ba4 : Blk u4 (wd.heap.size + 1) 143 #[.bool t1,.bool t2,.bool t3,.bool t4]:=by have:=HBU.out; simpa using this
           have hd4_ : Same (fun i=>i ≠ wd.heap.size ∧ i ≠ wd.heap.size + 1) v4 u4:=Same.trans (HSV.out.mono (fun i hi=>hi.1)) HSU.out (fun i hi=>hi.2)
           have zu4:=hd4_.size
           have fr4 : Same (fun i=>i < W.heap.size) W u4:=Same.trans (Same.trans FR3.out HQ4.out (fun i hi=>by have:=FR3.out.size; omega)) hd4_ (fun i hi=>⟨by omega,by omega⟩)
           have st4 : Same (New u3 (wd.heap.size + 2)) u3 u4:=Same.trans (Same.mono HQ4.out (fun i hi=>hi.2)) hd4_ (fun i hi=>⟨by have:=hi.1; omega,by have:=hi.1; omega⟩)
           have hl44:=sts_mv (b:=wd.heap.size + 2) (sts_in (b:=wd.heap.size + 2) (by omega) HX4.out) (hd4_.mono (fun i (hi : New v4 (wd.heap.size + 2) i)=>⟨by have:=hi.1; omega,by have:=hi.1; omega⟩))
           have hl14:=sts_mv HL13.out st4
           have hl24:=sts_mv HL23.out st4
           have hl34:=sts_mv HL33.out st4
           have vP:=CP.out u4 fr4
           clear HBV HSV HBU HSU B9Q BAQ B93 BA3
           have B94:=Lib.hid b94
           have BA4:=Lib.hid ba4
           have FR4:=Lib.hid fr4
           have HL14:=Lib.hid hl14
           have HL24:=Lib.hid hl24
           have HL34:=Lib.hid hl34
           have HL44:=Lib.hid hl44
           clear b94 ba4 fr4 hl14 hl24 hl34 hl44
           clear hd4_ st4
           have w0 : u4.cell? ⟨wd.heap.size + 1,0,none⟩ = some (.bool t1):=by rw [BA4.out.cell]; rfl
           have w1' : u4.cell? ⟨wd.heap.size + 1,1,none⟩ = some (.bool t2):=by rw [BA4.out.cell]; rfl
           have w2' : u4.cell? ⟨wd.heap.size + 1,2,none⟩ = some (.bool t3):=by rw [BA4.out.cell]; rfl
           have w3' : u4.cell? ⟨wd.heap.size + 1,3,none⟩ = some (.bool t4):=by rw [BA4.out.cell]; rfl
           have hb2u:=FR4.out.blk HB2.out hz
           have zeroU : ∀ (x : Int) (wz : World),Same (· ≠ w.heap.size + 1) u4 wz → ResPost w (.returned (.tuple #[.agg (([.slice none 0 0,.slice none 0 0,.slice none 0 0,.slice none 0 0,.slice none 0 0] : List Value)).toArray,.int .i64 x])) wz:=fun x wz hs=>⟨_,x,⟨[],[],[],[],[]⟩,rfl,⟨_,_,_,_,_,_,_,_,_,_,_,_,_,_,_,rfl,Sl.nil_,SlR.nil_,SlR.nil_,SlR.nil_,SlR.nil_,by simp⟩,Keep.write (FRW.out u4 FR4.out) hs (Nat.le_succ _)⟩
           have HB2U:=Lib.hid hb2u
           have ZEROU:=Lib.hid zeroU
           clear hb2u zeroU
           cases t1 with
           | false=>
            as_aux_lemma=>
            go_wp2_with (refine wpList_store_all rfl _ (.tmp 2) (.tmp 157) rfl (w.heap.size + 1) 63 _ [.slice none 0 0,.slice none 0 0,.slice none 0 0,.slice none 0 0,.slice none 0 0] rfl rfl HB2U.out rfl (by kernel_rfl) rfl ?_; intro wz hbz hwz; have HBZ:=Lib.hid hbz; have HWZ:=Lib.hid hwz; clear hbz hwz)
            refine bodyPost_ret (results_cell_tmp' Tryz.results56 _ _ _ ⟨w.heap.size + 1,0,none⟩ _ _ rfl rfl (loadVar_blk [.slice none 0 0,.slice none 0 0,.slice none 0 0,.slice none 0 0,.slice none 0 0] _ HBZ.out (fun j v hv=>by simpa using hv) Tryz.underlying63 rfl (by kernel_rfl))) rfl ?_
            exact ZEROU.out _ wz HWZ.out
           | true=>
            cases t2 with
            | false=>
             as_aux_lemma=>
             go_wp2_with (refine wpList_store_all rfl _ (.tmp 2) (.tmp 157) rfl (w.heap.size + 1) 63 _ [.slice none 0 0,.slice none 0 0,.slice none 0 0,.slice none 0 0,.slice none 0 0] rfl rfl HB2U.out rfl (by kernel_rfl) rfl ?_; intro wz hbz hwz; have HBZ:=Lib.hid hbz; have HWZ:=Lib.hid hwz; clear hbz hwz)
             refine bodyPost_ret (results_cell_tmp' Tryz.results56 _ _ _ ⟨w.heap.size + 1,0,none⟩ _ _ rfl rfl (loadVar_blk [.slice none 0 0,.slice none 0 0,.slice none 0 0,.slice none 0 0,.slice none 0 0] _ HBZ.out (fun j v hv=>by simpa using hv) Tryz.underlying63 rfl (by kernel_rfl))) rfl ?_
             exact ZEROU.out _ wz HWZ.out
            | true=>
             cases t3 with
             | false=>
              as_aux_lemma=>
              go_wp2_with (refine wpList_store_all rfl _ (.tmp 2) (.tmp 157) rfl (w.heap.size + 1) 63 _ [.slice none 0 0,.slice none 0 0,.slice none 0 0,.slice none 0 0,.slice none 0 0] rfl rfl HB2U.out rfl (by kernel_rfl) rfl ?_; intro wz hbz hwz; have HBZ:=Lib.hid hbz; have HWZ:=Lib.hid hwz; clear hbz hwz)
              refine bodyPost_ret (results_cell_tmp' Tryz.results56 _ _ _ ⟨w.heap.size + 1,0,none⟩ _ _ rfl rfl (loadVar_blk [.slice none 0 0,.slice none 0 0,.slice none 0 0,.slice none 0 0,.slice none 0 0] _ HBZ.out (fun j v hv=>by simpa using hv) Tryz.underlying63 rfl (by kernel_rfl))) rfl ?_
              exact ZEROU.out _ wz HWZ.out
             | true=>
              cases t4 with
              | false=>
               as_aux_lemma=>
               go_wp2_with (refine wpList_store_all rfl _ (.tmp 2) (.tmp 157) rfl (w.heap.size + 1) 63 _ [.slice none 0 0,.slice none 0 0,.slice none 0 0,.slice none 0 0,.slice none 0 0] rfl rfl HB2U.out rfl (by kernel_rfl) rfl ?_; intro wz hbz hwz; have HBZ:=Lib.hid hbz; have HWZ:=Lib.hid hwz; clear hbz hwz)
               refine bodyPost_ret (results_cell_tmp' Tryz.results56 _ _ _ ⟨w.heap.size + 1,0,none⟩ _ _ rfl rfl (loadVar_blk [.slice none 0 0,.slice none 0 0,.slice none 0 0,.slice none 0 0,.slice none 0 0] _ HBZ.out (fun j v hv=>by simpa using hv) Tryz.underlying63 rfl (by kernel_rfl))) rfl ?_
               exact ZEROU.out _ wz HWZ.out
              | true=>
               have z4:=FR4.out.size
               have l9:=B94.out.lt
               have hrel0 : InitRel u4 wd.heap.size (fun a n c=>#[.slice a n c,.slice S1 sm1 sc1,.slice S2 sm2 sc2,.slice S3 sm3 sc3,.slice S4 sm4 sc4]) vm (.int .i64 0) u4:=⟨0,none,0,0,[],rfl,Nat.zero_le _,rfl,by omega,B94.out,World.ownsRow_nil _ _ _ _,Same.refl _ _⟩
               have HREL0:=Lib.hid hrel0
               clear hrel0
               go_wp2_with fail
               clear w0 w1' w2' w3' vP
               go_loopw [11] (fun i wr=>InitRel u4 wd.heap.size (fun a n c=>#[.slice a n c,.slice S1 sm1 sc1,.slice S2 sm2 sc2,.slice S3 sm3 sc3,.slice S4 sm4 sc4]) vm i wr) (fun i _=>vm - (intOf i).toNat)
               case atStart=>exact HREL0.out
               case round=>
                clear HREL0
                obtain ⟨k,Ai,ni,ci,xs,rfl,hk,hxl,hn101,hb9,hown,hsr⟩:=hrel
                obtain ⟨wo,hwo⟩ : ∃ wo : World,wo = wr:=⟨_,rfl⟩
                subst hwo
                have hzr:=hsr.size
                have zwd2:=HKWD.out.size
                have frr : Same (fun i=>i < W.heap.size) W wo:=Same.trans FR4.out hsr (fun i hi=>⟨by omega,by omega⟩)
                have vPr:=CP.out wo frr
                replace hb9 : Blk wo wd.heap.size 63 #[.slice Ai ni ci,.slice S1 sm1 sc1,.slice S2 sm2 sc2,.slice S3 sm3 sc3,.slice S4 sm4 sc4]:=hb9
                by_cases hkm : k < vm
                ·obtain ⟨b',off',v,rfl,hSb,hvv,hcv⟩:=(HVS.out.keep ((FRW.out wo frr).mono HS.out)).at_ encVr_len hkm
                 have hvb:=HVB.out v (List.mem_of_getElem? hvv)
                 obtain ⟨⟨hv0,hv1⟩,-,-⟩:=hvb
                 have hSb':=HS.out b' hSb
                 have hq1 : decide (k < vm) = true:=by simpa using hkm
                 have hq2 : (0 : Int) ≤ k:=by omega
                 have hq3 : (k : Int) < vm:=by omega
                 have a9 : ∀ wx,Same (fun i=>i < u4.heap.size) wo wx → wx.cell? ⟨wd.heap.size,0,none⟩ = some (.slice Ai ni ci):=fun wx hx=>(hx.cell (p:=⟨wd.heap.size,0,none⟩) l9).trans (by rw [hb9.cell]; rfl)
                 have aP : ∀ wx,Same (fun i=>i < u4.heap.size) wo wx → wx.cell? ⟨w.heap.size,0,none⟩ = some (.slice (some ⟨b',off',none⟩) vm vc):=fun wx hx=>(hx.cell (p:=⟨w.heap.size,0,none⟩) (by show w.heap.size < _; omega)).trans vPr
                 have aV : ∀ wx,Same (fun i=>i < u4.heap.size) wo wx → wx.cell? ⟨b',off' + k * 3 + 2,none⟩ = some (.int .i64 v.init):=fun wx hx=>(hx.cell (p:=⟨b',off' + k * 3 + 2,none⟩) (by show b' < _; omega)).trans (hcv 2 _ rfl)
                 have aZ : wo.cell? ⟨b',off' + k * 3 + 1,none⟩ = some (.int .i64 v.size):=hcv 1 _ rfl
                 clear hcv hvv
                 have HB9:=Lib.hid hb9
                 have HOWN:=Lib.hid hown
                 have HSR:=Lib.hid hsr
                 have FRR:=Lib.hid frr
                 have AZ:=Lib.hid aZ
                 clear hb9 hown hsr frr aZ
                 go_upto_region 34 with fail
                 refine wp_region_L 11 (fun wx=>Same (fun i=>i < u4.heap.size) wo wx) (fun _=>True) (by kernel_rfl) (Same.drew (Same.refl _ _)) trivial (fun hA hB=>?_)
                 refine wpL_takeA (i:=0) (v:=?_) rfl (by kernel_rfl) (by kernel_rfl) (by kernel_rfl) (by kernel_rfl) (by decide) (fun _ _ _ h=>h) (Or.inl ⟨by rfl,?_⟩) hA hB ?_
                 rotate_left
                 ·rintro wx ⟨hAx,hBx⟩
                  (try dsimp only at hBx); (try dsimp only at hAx)
                  go_simp
                  try with_reducible rfl
                 try simp only [Act.put,List.setIfInBounds_toArray,List.set_cons_zero,List.set_cons_succ]
                 refine wpL_takeA (i:=1) (v:=?_) rfl (by kernel_rfl) (by kernel_rfl) (by kernel_rfl) (by kernel_rfl) (by decide) (fun _ _ _ h=>h) (Or.inl ⟨by rfl,?_⟩) hA hB ?_
                 rotate_left
                 ·rintro wx ⟨hAx,hBx⟩
                  (try dsimp only at hBx); (try dsimp only at hAx)
                  go_simp
                  try with_reducible rfl
                 try simp only [Act.put,List.setIfInBounds_toArray,List.set_cons_zero,List.set_cons_succ]
                 refine wpL_takeA (i:=2) (v:=?_) rfl (by kernel_rfl) (by kernel_rfl) (by kernel_rfl) (by kernel_rfl) (by decide) (fun _ _ _ h=>h) (Or.inl ⟨by rfl,?_⟩) hA hB ?_
                 rotate_left
                 ·rintro wx ⟨hAx,hBx⟩
                  (try dsimp only at hBx); (try dsimp only at hAx)
                  go_simp
                  try with_reducible rfl
                 try simp only [Act.put,List.setIfInBounds_toArray,List.set_cons_zero,List.set_cons_succ]
                 refine wpL_takeA (i:=3) (v:=?_) rfl (by kernel_rfl) (by kernel_rfl) (by kernel_rfl) (by kernel_rfl) (by decide) (fun _ _ _ h=>h) (Or.inl ⟨by rfl,?_⟩) hA hB ?_
                 rotate_left
                 ·rintro wx ⟨hAx,hBx⟩
                  (try dsimp only at hBx); (try dsimp only at hAx)
                  go_simp
                  try with_reducible rfl
                 try simp only [Act.put,List.setIfInBounds_toArray,List.set_cons_zero,List.set_cons_succ]
                 refine wpL_takeA (i:=4) (v:=?_) rfl (by kernel_rfl) (by kernel_rfl) (by kernel_rfl) (by kernel_rfl) (by decide) (fun _ _ _ h=>h) (Or.inl ⟨by rfl,?_⟩) hA hB ?_
                 rotate_left
                 ·rintro wx ⟨hAx,hBx⟩
                  (try dsimp only at hBx); (try dsimp only at hAx)
                  go_simp
                  try with_reducible rfl
                 try simp only [Act.put,List.setIfInBounds_toArray,List.set_cons_zero,List.set_cons_succ]
                 refine wpL_takeA (i:=5) (v:=?_) rfl (by kernel_rfl) (by kernel_rfl) (by kernel_rfl) (by kernel_rfl) (by decide) (fun _ _ _ h=>h) (Or.inl ⟨by rfl,?_⟩) hA hB ?_
                 rotate_left
                 ·rintro wx ⟨hAx,hBx⟩
                  (try dsimp only at hBx); (try dsimp only at hAx)
                  go_simp
                  try with_reducible rfl
                 try simp only [Act.put,List.setIfInBounds_toArray,List.set_cons_zero,List.set_cons_succ]
                 refine wpL_takeA (i:=6) (v:=?_) rfl (by kernel_rfl) (by kernel_rfl) (by kernel_rfl) (by kernel_rfl) (by decide) (fun _ _ _ h=>h) (Or.inl ⟨by rfl,?_⟩) hA hB ?_
                 rotate_left
                 ·rintro wx ⟨hAx,hBx⟩
                  (try dsimp only at hBx); (try dsimp only at hAx)
                  go_simp
                  try with_reducible rfl
                 try simp only [Act.put,List.setIfInBounds_toArray,List.set_cons_zero,List.set_cons_succ]
                 refine wpL_takeA (i:=7) (v:=?_) rfl (by kernel_rfl) (by kernel_rfl) (by kernel_rfl) (by kernel_rfl) (by decide) (fun _ _ _ h=>h) (Or.inl ⟨by rfl,?_⟩) hA hB ?_
                 rotate_left
                 ·rintro wx ⟨hAx,hBx⟩
                  (try dsimp only at hBx); (try dsimp only at hAx)
                  go_simp
                  try with_reducible rfl
                 try simp only [Act.put,List.setIfInBounds_toArray,List.set_cons_zero,List.set_cons_succ]
                 clear a9 aP aV
                 refine wpL_one (i:=8) (by kernel_rfl) (StepL.mk rfl (fun K hK=>?_))
                 refine step_buildS rfl _ _ _ _ rfl Tryz.underlying45 _ [(0,.int .i64 v.init)] rfl (built_int _) ?_
                 have hka : Keep wo (wo.drew.alloc (.cells #[.int .i64 v.init] 3)):=Keep.alloc (Same.drew (Same.refl _ _)) _
                 refine hK.out _ _ (SAB.both (hka.mono (fun i hi=>by omega)) trivial) (fun hSS=>?_)
                 clear hK K hA hB
                 have hB:=hSS.2
                 have hA:=hSS.1 (by kernel_rfl)
                 (try dsimp only at hB); (try dsimp only at hA); clear hSS
                 try simp only [Act.put,List.setIfInBounds_toArray,List.set_cons_zero,List.set_cons_succ]
                 refine wpL_one (i:=9) (by kernel_rfl) (StepL.mk rfl (fun K hK=>?_))
                 refine step_append_any _ (by rfl) (.tmp 166) (.tmp 173) _ (by rfl) u4.heap.size 3 i0 _ 1 8 Tryz.underlying45 HI0.out IZ0.out IZ1.out IZ2.out rfl (by omega) (.slice Ai ni ci) ni (xs.flatMap encI) (by rfl) (ownsRow_same HOWN.out hka (fun i hi=>hi.2)) _ (some ⟨wo.heap.size,0,none⟩) 1 1 (encI v.init) (by rfl) (Reads.new (w:=wo.drew) rfl) (encI_one _) (by simp [maxLen]; omega) (by omega) (by have:=hka.size; omega) ?_
                 intro va wa howna hga hata
                 have hsa : Same (fun i=>i < u4.heap.size) wo wa:=Same.append (hka.mono (fun i hi=>by omega)) (ownsRow_same HOWN.out hka (fun i hi=>hi.2)) hga (fun i hi=>hi) (by have:=hka.size; omega)
                 refine hK.out _ _ (SAB.both hsa trivial) (fun hSS=>?_)
                 clear hK K hA hB
                 have hB:=hSS.2
                 have hA:=hSS.1 (by kernel_rfl)
                 (try dsimp only at hB); (try dsimp only at hA); clear hSS
                 try simp only [Act.put,List.setIfInBounds_toArray,List.set_cons_zero,List.set_cons_succ]
                 obtain ⟨Aa,ca,hva,hna,hca⟩:=own_form howna
                 subst hva
                 refine wpL_takeA (i:=10) (v:=?_) rfl (by kernel_rfl) (by kernel_rfl) (by kernel_rfl) (by kernel_rfl) (by decide) (fun _ _ _ h=>h) (Or.inl ⟨by rfl,?_⟩) hA hB ?_
                 rotate_left
                 ·rintro wx ⟨hAx,hBx⟩
                  (try dsimp only at hBx); (try dsimp only at hAx)
                  go_simp
                  try with_reducible rfl
                 try simp only [Act.put,List.setIfInBounds_toArray,List.set_cons_zero,List.set_cons_succ]
                 refine wpL_one (i:=11) (by kernel_rfl) (StepL.mk rfl (fun K hK=>?_))
                 refine step_store_one rfl _ _ _ rfl wd.heap.size 0 63 _ (.slice Aa (ni + 1) ca) rfl rfl (hsa.blk HB9.out l9) (by simp) (by kernel_rfl) rfl rfl ?_
                 intro wf hbf hsf
                 have hrel5 : InRel u4 wd.heap.size (fun a n c=>#[.slice a n c,.slice S1 sm1 sc1,.slice S2 sm2 sc2,.slice S3 sm3 sc3,.slice S4 sm4 sc4]) k (.int .i64 1) wf:=by
                  refine ⟨1,Aa,ni + 1,ca,xs ++ [v.init],rfl,by omega,by omega,by simp [hxl],by omega,by simpa using hbf,?_,Same.trans HSR.out (Same.trans (hsa.mono (fun i (hi : i < u4.heap.size ∧ i ≠ wd.heap.size)=>hi.1)) hsf (fun i hi=>hi.2)) (fun i hi=>hi)⟩
                  have:=ownsRow_own howna hsf (fun b hb e=>by have:=(howna.lt b hb).1; omega)
                  simpa using this
                 refine hK.out _ _ (SAB.past (by kernel_rfl) trivial) (fun hSS=>?_)
                 clear hK K hA hB
                 have hB:=hSS.2
                 have hA : True:=trivial
                 (try dsimp only at hB); (try dsimp only at hA); clear hSS
                 try simp only [Act.put,List.setIfInBounds_toArray,List.set_cons_zero,List.set_cons_succ]
                 refine wpL_done (by kernel_rfl) ?_
                 have HREL5:=Lib.hid hrel5
                 clear hrel5
                 clear hbf hsf hsa howna hga hata hka hA hB vPr
                 go_wp2_with fail
                 go_loopw [12] (fun j wr=>InRel u4 wd.heap.size (fun a n c=>#[.slice a n c,.slice S1 sm1 sc1,.slice S2 sm2 sc2,.slice S3 sm3 sc3,.slice S4 sm4 sc4]) k j wr) (fun j _=>101 - (intOf j).toNat)
                 case atStart=>exact HREL5.out
                 case round=>
                  clear HREL5
                  obtain ⟨j,A2q,n2q,c2q,xs2,rfl,hj1,hj101,hx2,hn2,hb2r,hown2,hs2r⟩:=hrel
                  replace hb2r : Blk wr wd.heap.size 63 #[.slice A2q n2q c2q,.slice S1 sm1 sc1,.slice S2 sm2 sc2,.slice S3 sm3 sc3,.slice S4 sm4 sc4]:=hb2r
                  have hz2r:=hs2r.size
                  have fr2 : Same (fun i=>i < W.heap.size) W wr:=Same.trans FR4.out hs2r (fun i hi=>⟨by omega,by omega⟩)
                  have vP2:=CP.out wr fr2
                  have vZ : wr.cell? ⟨b',off' + k * 3 + 1,none⟩ = some (.int .i64 v.size):=by
                   have e1:=hs2r.cell (p:=⟨b',off' + k * 3 + 1,none⟩) ⟨by show b' < _; omega,by show b' ≠ _; omega⟩
                   have e2:=HSR.out.cell (p:=⟨b',off' + k * 3 + 1,none⟩) ⟨by show b' < _; omega,by show b' ≠ _; omega⟩
                   rw [e1,← e2]
                   exact AZ.out
                  have v9 : wr.cell? ⟨wd.heap.size,0,none⟩ = some (.slice A2q n2q c2q):=by rw [hb2r.cell]; rfl
                  have hc2r : n2q ≤ c2q ∧ c2q ≤ 9223372036854775807:=by obtain ⟨_,_,e,h1,h2⟩:=own_form hown2; injection e with _ _ e; subst e; exact ⟨h1,h2⟩
                  by_cases hjs : (j : Int) < v.size
                  ·have hd5 : decide ((j : Int) < v.size) = true:=by simpa using hjs
                   have HB2R:=Lib.hid hb2r
                   have HOWN2:=Lib.hid hown2
                   have HS2R:=Lib.hid hs2r
                   clear hb2r hown2 hs2r
                   go_upto_region 37 with (first
                    | (refine wpList_buildS rfl _ _ _ _ rfl Tryz.underlying45 _ [(0,.int .i64 0)] rfl (built_int _) ?_)
                    | (at_builtin; refine wpList_append_any _ rfl (.tmp 187) (.tmp 188) _ rfl u4.heap.size 3 i0 _ 1 8 Tryz.underlying45 HI0.out IZ0.out IZ1.out IZ2.out rfl (by omega) (.slice A2q n2q c2q) n2q (xs2.flatMap encI) rfl (HOWN2.out.alloc _) _ (some ⟨wr.heap.size,0,none⟩) 1 1 (encI 0) rfl (Reads.new rfl) (encI_one _) (by simp [maxLen]; omega) (by omega) (by simp; omega) ?_; intro va wa howna hga hata; have hform:=own_form howna; obtain ⟨Aa,ca,hva,hna,hca⟩:=hform; subst hva; have HOWNA:=Lib.hid howna; have HGA:=Lib.hid hga; clear howna hga hata)
                    | (refine wpList_store_one rfl _ (.tmp 190) _ rfl wd.heap.size 0 63 _ (.slice Aa (n2q + 1) ca) rfl rfl ((Same.append (S:=(· < u4.heap.size)) ((Keep.new wr _).mono (fun i hi=>by omega)) (HOWN2.out.alloc _) HGA.out (fun i hi=>hi) (by simp; omega)).blk HB2R.out l9) (by simp) (by kernel_rfl) rfl rfl ?_; intro wf hbf hsf))
                   have hsa : Same (· < u4.heap.size) wr wa:=Same.append (S:=(· < u4.heap.size)) ((Keep.new wr _).mono (fun i hi=>by omega)) (HOWN2.out.alloc _) HGA.out (fun i hi=>hi) (by simp; omega)
                   have hfin : InRel u4 wd.heap.size (fun a n c=>#[.slice a n c,.slice S1 sm1 sc1,.slice S2 sm2 sc2,.slice S3 sm3 sc3,.slice S4 sm4 sc4]) k (.int .i64 (j + 1)) wf:=by
                    refine ⟨j + 1,Aa,n2q + 1,ca,xs2 ++ [0],by simp,by omega,by omega,by simp [hx2],by omega,by simpa using hbf,?_,Same.trans HS2R.out (Same.trans (hsa.mono (fun i (hi : i < u4.heap.size ∧ i ≠ wd.heap.size)=>hi.1)) hsf (fun i hi=>hi.2)) (fun i hi=>hi)⟩
                    have:=ownsRow_own HOWNA.out hsf (fun b hb e=>by have:=(HOWNA.out.lt b hb).1; omega)
                    simpa using this
                   have HFIN:=Lib.hid hfin
                   clear hfin
                   clear hbf hsf hsa vP2 vZ v9
                   go_wp2_with fail
                   go_roundw
                   case rel=>
                    first
                     | exact HFIN.out
                     | exact ⟨_,_,_,_,_,_,_,_,_,_,_,_,_,_,_,_,HFIN.out,rfl⟩
                     | exact ⟨_,_,_,_,_,_,_,_,_,_,_,_,_,_,_,_,HFIN.out,by simp [hq1]⟩
                     | exact ⟨_,_,_,_,_,_,_,_,_,_,_,_,_,_,_,_,HFIN.out,by go_simp⟩
                   case measure=>simp [intOf]; omega
                  ·have hd5 : decide ((j : Int) < v.size) = false:=by simpa using hjs
                   have hfin : InitRel u4 wd.heap.size (fun a n c=>#[.slice a n c,.slice S1 sm1 sc1,.slice S2 sm2 sc2,.slice S3 sm3 sc3,.slice S4 sm4 sc4]) vm (.int .i64 (k + 1)) wr:=⟨k + 1,A2q,n2q,c2q,xs2,by simp,by omega,hx2,by omega,hb2r,hown2,hs2r⟩
                   have HFIN:=Lib.hid hfin
                   clear hfin
                   clear hb2r hown2 hs2r
                   go_wp2_with fail
                   go_roundw
                   case rel=>exact HFIN.out
                   case measure=>simp [intOf]; omega
                ·have hq1 : decide (k < vm) = false:=by simpa using hkm
                 have hb2r:=frr.blk HB2.out hz
                 have HB9:=Lib.hid hb9
                 have HOWN:=Lib.hid hown
                 have HSR:=Lib.hid hsr
                 have FRR:=Lib.hid frr
                 have HB2R:=Lib.hid hb2r
                 clear hb9 hown hsr frr hb2r
                 go_wp2_with (first
                  | (refine wpList_load_all rfl _ (.tmp 9) rfl wd.heap.size 63 [.slice Ai ni ci,.slice S1 sm1 sc1,.slice S2 sm2 sc2,.slice S3 sm3 sc3,.slice S4 sm4 sc4] _ rfl HB9.out Tryz.underlying63 rfl (by kernel_rfl) ?_)
                  | (refine wpList_store_all rfl _ (.tmp 2) (.tmp 191) rfl (w.heap.size + 1) 63 _ [.slice Ai ni ci,.slice S1 sm1 sc1,.slice S2 sm2 sc2,.slice S3 sm3 sc3,.slice S4 sm4 sc4] rfl rfl HB2R.out rfl (by kernel_rfl) rfl ?_; intro wz hbz hwz; have HBZ:=Lib.hid hbz; have HWZ:=Lib.hid hwz; clear hbz hwz))
                 refine bodyPost_ret (results_cell_tmp' Tryz.results56 _ _ _ ⟨w.heap.size + 1,0,none⟩ _ _ rfl rfl (loadVar_blk [.slice Ai ni ci,.slice S1 sm1 sc1,.slice S2 sm2 sc2,.slice S3 sm3 sc3,.slice S4 sm4 sc4] _ HBZ.out (fun j v hv=>by simpa using hv) Tryz.underlying63 rfl (by kernel_rfl))) rfl ?_
                 have hzz:=HWZ.out.size
                 have hmv : Same (New u4 (wd.heap.size + 2)) u4 wz:=Same.trans (HSR.out.mono (fun i (hi : New u4 (wd.heap.size + 2) i)=>⟨hi.2,by have:=hi.1; omega⟩)) HWZ.out (fun i hi=>by have:=hi.1; omega)
                 have hm : ∀ i,New wz (wd.heap.size + 2) i → New wz w.heap.size i:=fun i hi=>⟨by have:=hi.1; omega,hi.2⟩
                 have ho:=ownsRow_own HOWN.out HWZ.out (fun b hb e=>by have:=(HOWN.out.lt b hb).1; omega)
                 obtain ⟨_,_,ee,pi⟩:=Sl.of_own (enc:=encI) (l:=xs) (size:=1) (base:=u4.heap.size) (e:=3) (v:=.slice Ai ni ci) (w:=wz) (by rw [hxl]; exact ho)
                 injection ee with ee1 _ ee2
                 subst ee1 ee2
                 rw [hxl] at pi
                 refine ⟨_,_,⟨xs,ls1,ls2,ls3,ls4⟩,rfl,⟨_,_,_,_,_,_,_,_,_,_,_,_,_,_,_,rfl,pi.more (fun i hi=>⟨by have:=hi.1; omega,hi.2⟩),(sts_mv HL14.out hmv).more hm (StmR.more hm _),(sts_mv HL24.out hmv).more hm (StmR.more hm _),(sts_mv HL34.out hmv).more hm (StmR.more hm _),(sts_mv HL44.out hmv).more hm (StmR.more hm _),by show xs.length ≤ _; omega⟩,Keep.write (FRW.out wo FRR.out) HWZ.out (Nat.le_succ _)⟩
end Go.Proofs.YtipegaojiokppaaGreatDoor
