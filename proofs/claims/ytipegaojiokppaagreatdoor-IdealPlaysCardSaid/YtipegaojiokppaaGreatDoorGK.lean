import Derived.Test.YtipegaojiokppaaGreatDoorGJ
import Derived.Test.YtipegaojiokppaaGreatDoorGQ
import Derived.Test.YtipegaojiokppaaGreatDoorGR
import Derived.Test.YtipegaojiokppaaGreatDoorGI
set_option linter.unusedVariables false
set_option linter.unusedSimpArgs false
set_option maxRecDepth 100000
namespace Go.Proofs.YtipegaojiokppaaGreatDoor
open Go.RowKit Go.Proofs
def zeroSnd : Snd:=⟨0,0,0,0⟩
def FndPost (r : Option Snd) (w : World) (e : Ending) (w' : World) : Prop:=Keep w w' ∧ e = .returned (.tuple #[.agg (encSnd (r.getD zeroSnd)).toArray,.bool r.isSome])
theorem load_snd {w : World} {b : Nat} (e : Snd) (hb : Blk w b 92 (encSnd e).toArray) : (loadVar 92 ⟨b,0,none⟩).run Tryz.prog w = .ok (.agg (encSnd e).toArray) w:=
 loadVar_blk (encSnd e) _ hb (fun j v hv=>by simpa using hv) Tryz.underlying92 rfl (by kernel_rfl)
set_option maxHeartbeats 8000000 in
theorem rfind_any (w : World) (S : Nat → Prop) (B1 B2 B3 B4 : Option Addr) (p1 q1 p2 q2 p3 q3 p4 q4 : Nat) (l : List Snd) (x : Chc) (hS : ∀ i,S i → i < w.heap.size) (hl : Sl encSnd 4 w S B3 p3 q3 l) (hn : l.length ≤ 1000000) :
  Calls Tryz.prog 61 #[.agg #[.slice B1 p1 q1,.slice B2 p2 q2,.slice B3 p3 q3,.slice B4 p4 q4],.agg (encCh x).toArray] w (FndPost (findI l x) w):=by
 obtain ⟨xp,xk,xf,xi,xo,xv⟩:=x
 have hpl:=hl.1
 have hp3 : p3 ≤ 1000000:=by omega
 show Calls Tryz.prog 61 #[.agg #[.slice B1 p1 q1,.slice B2 p2 q2,.slice B3 p3 q3,.slice B4 p4 q4],.agg #[.int .i64 xp,.int .i64 xk,.int .i64 xf,.int .i64 xi,.int .i64 xo,.int .i64 xv]] w _
 generalize hW : ((w.alloc (.cells #[.slice B1 p1 q1,.slice B2 p2 q2,.slice B3 p3 q3,.slice B4 p4 q4] 50)).alloc (.cells #[.int .i64 xp,.int .i64 xk,.int .i64 xf,.int .i64 xi,.int .i64 xo,.int .i64 xv] 57)).alloc (.cells #[.int .i64 0,.int .i64 0,.int .i64 0,.int .i64 0] 92) = W
 have hkW : Keep w W:=hW ▸ Keep.alloc (Keep.alloc (Keep.new w _) _) _
 have hbs : Blk W w.heap.size 50 #[.slice B1 p1 q1,.slice B2 p2 q2,.slice B3 p3 q3,.slice B4 p4 q4]:=hW ▸ ((Blk.new w _ _).alloc _).alloc _
 have hbx : Blk W (w.heap.size + 1) 57 #[.int .i64 xp,.int .i64 xk,.int .i64 xf,.int .i64 xi,.int .i64 xo,.int .i64 xv]:=hW ▸ blkM w _ _ _ _
 have hbr : Blk W (w.heap.size + 2) 92 #[.int .i64 0,.int .i64 0,.int .i64 0,.int .i64 0]:=hW ▸ blkL w _ _ _ _
 have hz:=hbr.lt
 have hlW:=(hl.keep (Same.mono hkW hS)).more (T:=fun i=>i < W.heap.size) (fun i hi=>by have:=hS i hi; omega)
 have fin : ∀ (wr w' : World) (o : Option Snd),Keep W wr → Same (· ≠ w.heap.size + 2) wr w' → findI l ⟨xp,xk,xf,xi,xo,xv⟩ = o → FndPost (findI l ⟨xp,xk,xf,xi,xo,xv⟩) w (.returned (.tuple #[.agg (encSnd (o.getD zeroSnd)).toArray,.bool o.isSome])) w':=fun wr w' o h1 h2 h3=>⟨Keep.write (Keep.trans hkW h1) h2 (by omega),by rw [h3]⟩
 have HKW:=Lib.hid hkW
 have HBS:=Lib.hid hbs
 have HBX:=Lib.hid hbx
 have HBR:=Lib.hid hbr
 have HLW:=Lib.hid hlW
 have HPL:=Lib.hid hpl
 have HS:=Lib.hid hS
 have FIN:=Lib.hid fin
 clear hkW hbs hbx hbr hlW hpl hS fin
 clear hl
 go_enter Tryz.func61,Tryz.ntmps61
 go_upto_region 1 with fail
 clear hW
 go_wp2_with fail
 go_loopw [6] (fun i wr=>FindRel W l ⟨xp,xk,xf,xi,xo,xv⟩ i wr) (fun i _=>p3 - (intOf i).toNat)
 case atStart=>exact ⟨0,rfl,Nat.zero_le _,rfl,Same.refl _ _⟩
 case round=>
  obtain ⟨k,rfl,hkl,hfd,hkr⟩:=hrel
  have hzr:=hkr.size
  have hbsr:=hkr.blk HBS.out HBS.out.lt
  have c2 : wr.cell? ⟨w.heap.size,2,none⟩ = some (.slice B3 p3 q3):=by rw [hbsr.cell]; rfl
  by_cases hkn : k < p3
  ·obtain ⟨b',off',y,rfl,hbb,hy,hcy⟩:=(HLW.out.keep hkr).at_ encSnd_len hkn
   have hd1 : decide (k < p3) = true:=by simpa using hkn
   have hd2 : (0 : Int) ≤ k:=by omega
   have hd3 : (k : Int) < p3:=by omega
   have hrg : wr.rangeAt b' (off' + k * 4) [.int .i64 y.idx,.int .i64 y.ord,.int .i64 y.to,.int .i64 y.val]:=hcy
   have hfd2:=hfd.trans (find_drop (x:=⟨xp,xk,xf,xi,xo,xv⟩) hy)
   have hkl1 : k + 1 ≤ l.length:=by have:=HPL.out; omega
   clear hcy hy hfd hbb
   have HRG:=Lib.hid hrg
   have HFD2:=Lib.hid hfd2
   have HKL1:=Lib.hid hkl1
   have HKR:=Lib.hid hkr
   have HBSR:=Lib.hid hbsr
   clear hrg hfd2 hkl1 hkr hbsr
   go_upto_region 5 with (first
    | (refine wpList_load_mid rfl _ (.tmp 18) rfl b' (off' + k * 4) rfl [.int .i64 y.idx,.int .i64 y.ord,.int .i64 y.to,.int .i64 y.val] _ HRG.out Tryz.underlying92 rfl (by kernel_rfl) ?_)
    | (refine wpList_store_all rfl _ (.tmp 7) (.tmp 19) rfl wr.heap.size 92 _ [.int .i64 y.idx,.int .i64 y.ord,.int .i64 y.to,.int .i64 y.val] rfl rfl (Blk.new _ _ _) rfl (by kernel_rfl) rfl ?_; intro w7 hb7 hs7))
   have hk7 : Keep wr w7:=Keep.write (Keep.new _ _) hs7 (Nat.le_refl _)
   have kk7:=Keep.trans HKR.out hk7
   have bx7:=kk7.blk HBX.out HBX.out.lt
   have br7:=kk7.blk HBR.out HBR.out.lt
   clear c2
   have x0 : w7.cell? ⟨w.heap.size + 1,0,none⟩ = some (.int .i64 xp):=by rw [bx7.cell]; rfl
   have x3 : w7.cell? ⟨w.heap.size + 1,3,none⟩ = some (.int .i64 xi):=by rw [bx7.cell]; rfl
   have x4 : w7.cell? ⟨w.heap.size + 1,4,none⟩ = some (.int .i64 xo):=by rw [bx7.cell]; rfl
   have y0 : w7.cell? ⟨wr.heap.size,0,none⟩ = some (.int .i64 y.idx):=by rw [hb7.cell]; rfl
   have y1 : w7.cell? ⟨wr.heap.size,1,none⟩ = some (.int .i64 y.ord):=by rw [hb7.cell]; rfl
   have y2 : w7.cell? ⟨wr.heap.size,2,none⟩ = some (.int .i64 y.to):=by rw [hb7.cell]; rfl
   have HB7:=Lib.hid hb7
   have KK7:=Lib.hid kk7
   have BX7:=Lib.hid bx7
   have BR7:=Lib.hid br7
   clear hb7 kk7 bx7 br7
   clear hs7 hk7
   have miss : hitM ⟨xp,xk,xf,xi,xo,xv⟩ y = false → FindRel W l ⟨xp,xk,xf,xi,xo,xv⟩ (.int .i64 ((k : Int) + 1)) w7:=fun h=>⟨k + 1,by simp,HKL1.out,by have:=HFD2.out; rw [h] at this; simpa using this,KK7.out⟩
   have MISS:=Lib.hid miss
   clear miss
   cases q1 : (y.idx == xi)
   case false=>
    have hfin:=MISS.out (by simp only [hitM]; simp only [q1,Bool.false_and])
    have HFIN:=Lib.hid hfin
    clear hfin
    go_wp2_with fail
    go_roundw
    case rel=>exact HFIN.out
    case measure=>simp [intOf]; omega
   cases q2 : (y.ord == xo)
   case false=>
    have hfin:=MISS.out (by simp only [hitM]; simp only [q1,q2,Bool.false_and,Bool.and_false])
    have HFIN:=Lib.hid hfin
    clear hfin
    go_wp2_with fail
    go_roundw
    case rel=>exact HFIN.out
    case measure=>simp [intOf]; omega
   cases q3 : (y.to == xp)
   case false=>
    have hfin:=MISS.out (by simp only [hitM]; simp only [q1,q2,q3,Bool.false_and,Bool.and_false])
    have HFIN:=Lib.hid hfin
    clear hfin
    go_wp2_with fail
    go_roundw
    case rel=>exact HFIN.out
    case measure=>simp [intOf]; omega
   have hhit : hitM ⟨xp,xk,xf,xi,xo,xv⟩ y = true:=by simp only [hitM]; simp only [q1,q2,q3,Bool.and_true]
   have hfs:=HFD2.out
   rw [hhit,if_pos rfl] at hfs
   clear hhit MISS HFD2
   have HFS:=Lib.hid hfs
   clear hfs
   go_upto_region 6 with fail
   go_wp2_with (first
    | (refine wpList_load_all rfl _ (.tmp 7) rfl wr.heap.size 92 [.int .i64 y.idx,.int .i64 y.ord,.int .i64 y.to,.int .i64 y.val] _ rfl HB7.out Tryz.underlying92 rfl (by kernel_rfl) ?_)
    | (refine wpList_store_all rfl _ (.tmp 4) (.tmp 39) rfl (w.heap.size + 2) 92 _ [.int .i64 y.idx,.int .i64 y.ord,.int .i64 y.to,.int .i64 y.val] rfl rfl BR7.out rfl (by kernel_rfl) rfl ?_; intro v6 hv6 hs6; have HV6:=Lib.hid hv6; have HS6:=Lib.hid hs6; clear hv6 hs6))
   exact bodyPost_ret (results_cell_tmp' Tryz.results61 _ _ _ ⟨w.heap.size + 2,0,none⟩ _ _ rfl rfl (load_snd y HV6.out)) rfl (FIN.out w7 v6 (some y) KK7.out HS6.out HFS.out)
  ·have hd1 : decide (k < p3) = false:=by simpa using hkn
   have hnone : findI l ⟨xp,xk,xf,xi,xo,xv⟩ = none:=by rw [hfd,List.drop_of_length_le (by have:=HPL.out; omega)]; rfl
   have br9:=hkr.blk HBR.out HBR.out.lt
   have HNONE:=Lib.hid hnone
   have BR9:=Lib.hid br9
   have HKR:=Lib.hid hkr
   clear hnone br9 hkr
   clear hfd
   go_upto_region 7 with fail
   go_wp2_with (refine wpList_store_all rfl _ (.tmp 4) (.tmp 40) rfl (w.heap.size + 2) 92 _ [.int .i64 0,.int .i64 0,.int .i64 0,.int .i64 0] rfl rfl BR9.out rfl (by kernel_rfl) rfl ?_; intro v6 hv6 hs6; have HV6:=Lib.hid hv6; have HS6:=Lib.hid hs6; clear hv6 hs6)
   exact bodyPost_ret (results_cell_tmp' Tryz.results61 _ _ _ ⟨w.heap.size + 2,0,none⟩ _ _ rfl rfl (load_snd zeroSnd HV6.out)) rfl (FIN.out wr v6 none HKR.out HS6.out HNONE.out)
theorem sts_at {w : World} {S : Nat → Prop} {A : Option Addr} {n c : Nat} {ss : List St} (h : SlR w S 4 (StR w S) A n c ss) {k : Nat} (hk : k < n) : ∃ (b off : Nat) (B1 B2 B3 B4 : Option Addr) (p1 q1 p2 q2 p3 q3 p4 q4 : Nat),A = some ⟨b,off,none⟩ ∧ S b ∧ StR w S [.slice B1 p1 q1,.slice B2 p2 q2,.slice B3 p3 q3,.slice B4 p4 q4] (ss.getD k zeroSt) ∧ w.rangeAt b (off + k * 4) [.slice B1 p1 q1,.slice B2 p2 q2,.slice B3 p3 q3,.slice B4 p4 q4]:=by
 obtain ⟨b,off,cs,a,e,hS,ha,hR,hcl,hc⟩:=SlR.at_ h hk
 obtain ⟨B1,B2,B3,B4,p1,q1,p2,q2,p3,q3,p4,q4,e2,hR'⟩:=st_open hR
 subst e2
 have ha' : ss.getD k zeroSt = a:=by simp [List.getD,ha]
 refine ⟨b,off,B1,B2,B3,B4,p1,q1,p2,q2,p3,q3,p4,q4,e,hS,?_,hc⟩
 rw [ha']
 exact hR'
theorem sts_keep {w w' : World} {S : Nat → Prop} {A : Option Addr} {n c : Nat} {ss : List St} (h : SlR w S 4 (StR w S) A n c ss) (hk : Same S w w') : SlR w' S 4 (StR w' S) A n c ss:=SlR.keep h hk (fun cs a h=>h.keep hk)
theorem sts_more {w : World} {S T : Nat → Prop} {A : Option Addr} {n c : Nat} {ss : List St} (h : SlR w S 4 (StR w S) A n c ss) (hk : ∀ i,S i → T i) : SlR w T 4 (StR w T) A n c ss:=SlR.more h hk (fun cs a h=>h.more hk)
end Go.Proofs.YtipegaojiokppaaGreatDoor
namespace Go.Proofs.YtipegaojiokppaaGreatDoor
open Go.RowKit Go.Proofs
def RvFd (r : Option Snd) (W : World) (p q : Value) (wx : World) : Prop:=
 ∃ g : Nat,p = .pointer (some ⟨g,0,none⟩) ∧ q = .bool r.isSome ∧ Blk wx g 92 (encSnd (r.getD zeroSnd)).toArray ∧ W.heap.size ≤ g ∧ Keep W wx
set_option maxHeartbeats 16000000 in
theorem revent_any (w : World) (S : Nat → Prop) (A : Option Addr) (n c : Nat) (ss : List St) (x : Chc) (hS : ∀ i,S i → i < w.heap.size) (hs : SlR w S 4 (StR w S) A n c ss) (hn : n ≤ 1000) (hfew : ∀ p,p < ss.length → (ss.getD p zeroSt).events.length ≤ 1000000 ∧ (ss.getD p zeroSt).sent.length ≤ 1000000) :
  Calls Tryz.prog 45 #[.slice A n c,.agg (encCh x).toArray] w (EvtPost (eventI ss x) w):=by
 obtain ⟨xp,xk,xf,xi,xo,xv⟩:=x
 show Calls Tryz.prog 45 #[.slice A n c,.agg #[.int .i64 xp,.int .i64 xk,.int .i64 xf,.int .i64 xi,.int .i64 xo,.int .i64 xv]] w _
 generalize hW : (w.alloc (.cells #[.int .i64 xp,.int .i64 xk,.int .i64 xf,.int .i64 xi,.int .i64 xo,.int .i64 xv] 57)).alloc (.cells #[.int .i64 0,.int .i64 0,.int .i64 0,.int .i64 0,.int .i64 0,.int .i64 0,.int .i64 0] 89) = W
 have hkW : Keep w W:=hW ▸ Keep.alloc (Keep.new w _) _
 have hbx : Blk W w.heap.size 57 #[.int .i64 xp,.int .i64 xk,.int .i64 xf,.int .i64 xi,.int .i64 xo,.int .i64 xv]:=hW ▸ (Blk.new w _ _).alloc _
 have hbr : Blk W (w.heap.size + 1) 89 #[.int .i64 0,.int .i64 0,.int .i64 0,.int .i64 0,.int .i64 0,.int .i64 0,.int .i64 0]:=hW ▸ (by simpa using Blk.new (w.alloc _) _ _)
 have hz : w.heap.size + 1 < W.heap.size:=hbr.lt
 have hnn:=hs.1
 have hst:=(sts_keep hs (Same.mono hkW hS))
 have e0 : W.cell? ⟨w.heap.size,0,none⟩ = some (.int .i64 xp):=by rw [hbx.cell]; rfl
 have e1 : W.cell? ⟨w.heap.size,1,none⟩ = some (.int .i64 xk):=by rw [hbx.cell]; rfl
 have e2 : W.cell? ⟨w.heap.size,2,none⟩ = some (.int .i64 xf):=by rw [hbx.cell]; rfl
 have e5 : W.cell? ⟨w.heap.size,5,none⟩ = some (.int .i64 xv):=by rw [hbx.cell]; rfl
 have key : ∀ (w2 w' : World) (e : Ev) (k : Int),Keep W w2 → Blk w' (w.heap.size + 1) 89 (encEv e).toArray → Same (· ≠ w.heap.size + 1) w2 w' → eventI ss ⟨xp,xk,xf,xi,xo,xv⟩ = (e,k) → EvtPost (eventI ss ⟨xp,xk,xf,xi,xo,xv⟩) w (.returned (.tuple #[.agg (encEv e).toArray,.int .i64 k])) w':=fun w2 w' e k h1 _ hs h=>⟨by rw [h],Keep.write (Keep.trans hkW h1) hs (by omega)⟩
 have kk : Keep W W:=Same.refl _ _
 have hb : ¬ okI n ⟨xp,xk,xf,xi,xo,xv⟩ = true → eventI ss ⟨xp,xk,xf,xi,xo,xv⟩ = (zeroEv,3):=fun hok=>by unfold eventI; rw [← hnn,if_pos (by simpa using hok)]
 clear hs
 have HKW:=Lib.hid hkW
 have HBX:=Lib.hid hbx
 have HBR:=Lib.hid hbr
 have HST:=Lib.hid hst
 have KEY:=Lib.hid key
 have KK:=Lib.hid kk
 have HFEW:=Lib.hid hfew
 have HNN:=Lib.hid hnn
 have HS:=Lib.hid hS
 have HB:=Lib.hid hb
 clear hkW hbx hbr hst key kk hfew hnn hS hb
 go_enter Tryz.func45,Tryz.ntmps45
 go_upto_region 2 with fail
 clear hW
 by_cases c1 : xp < 0
 ·have d1 : decide (xp < 0) = true:=by simpa using c1
  have hbad:=HB.out (by simp [okI,procI]; omega)
  have HBAD:=Lib.hid hbad
  clear hbad
  go_upto_region 3 with fail
  go_wp2_with (first
   | (refine wpList_bld rfl 89 _ rfl _ [] rfl bld_ev0 ?_)
   | (refine wpList_store_all rfl _ (.tmp 4) (.tmp 54) rfl (w.heap.size + 1) 89 _ [.int .i64 0,.int .i64 0,.int .i64 0,.int .i64 0,.int .i64 0,.int .i64 0,.int .i64 0] rfl rfl HBR.out rfl (by kernel_rfl) rfl ?_; intro v6 hv6 hs6; have HV6:=Lib.hid hv6; have HS6:=Lib.hid hs6; clear hv6 hs6))
  exact bodyPost_ret (results_cell_tmp' Tryz.results45 _ _ _ ⟨w.heap.size + 1,0,none⟩ _ _ rfl rfl (load_ev zeroEv HV6.out)) rfl (KEY.out _ _ zeroEv 3 KK.out HV6.out HS6.out HBAD.out)
 have d1 : decide (xp < 0) = false:=by simpa using c1
 by_cases c2 : (n : Int) ≤ xp
 ·have d2 : decide ((n : Int) ≤ xp) = true:=by simpa using c2
  have hbad:=HB.out (by simp [okI,procI]; omega)
  have HBAD:=Lib.hid hbad
  clear hbad
  go_upto_region 3 with fail
  go_wp2_with (first
   | (refine wpList_bld rfl 89 _ rfl _ [] rfl bld_ev0 ?_)
   | (refine wpList_store_all rfl _ (.tmp 4) (.tmp 54) rfl (w.heap.size + 1) 89 _ [.int .i64 0,.int .i64 0,.int .i64 0,.int .i64 0,.int .i64 0,.int .i64 0,.int .i64 0] rfl rfl HBR.out rfl (by kernel_rfl) rfl ?_; intro v6 hv6 hs6; have HV6:=Lib.hid hv6; have HS6:=Lib.hid hs6; clear hv6 hs6))
  exact bodyPost_ret (results_cell_tmp' Tryz.results45 _ _ _ ⟨w.heap.size + 1,0,none⟩ _ _ rfl rfl (load_ev zeroEv HV6.out)) rfl (KEY.out _ _ zeroEv 3 KK.out HV6.out HS6.out HBAD.out)
 have d2 : decide ((n : Int) ≤ xp) = false:=by simpa using c2
 by_cases c3 : xk < 1
 ·have d3 : decide (xk < 1) = true:=by simpa using c3
  have hbad:=HB.out (by simp [okI,procI]; omega)
  have HBAD:=Lib.hid hbad
  clear hbad
  go_upto_region 3 with fail
  go_wp2_with (first
   | (refine wpList_bld rfl 89 _ rfl _ [] rfl bld_ev0 ?_)
   | (refine wpList_store_all rfl _ (.tmp 4) (.tmp 54) rfl (w.heap.size + 1) 89 _ [.int .i64 0,.int .i64 0,.int .i64 0,.int .i64 0,.int .i64 0,.int .i64 0,.int .i64 0] rfl rfl HBR.out rfl (by kernel_rfl) rfl ?_; intro v6 hv6 hs6; have HV6:=Lib.hid hv6; have HS6:=Lib.hid hs6; clear hv6 hs6))
  exact bodyPost_ret (results_cell_tmp' Tryz.results45 _ _ _ ⟨w.heap.size + 1,0,none⟩ _ _ rfl rfl (load_ev zeroEv HV6.out)) rfl (KEY.out _ _ zeroEv 3 KK.out HV6.out HS6.out HBAD.out)
 have d3 : decide (xk < 1) = false:=by simpa using c3
 by_cases c4 : 3 < xk
 ·have d4 : decide ((3 : Int) < xk) = true:=by simpa using c4
  have hbad:=HB.out (by simp [okI,procI]; omega)
  have HBAD:=Lib.hid hbad
  clear hbad
  go_upto_region 3 with fail
  go_wp2_with (first
   | (refine wpList_bld rfl 89 _ rfl _ [] rfl bld_ev0 ?_)
   | (refine wpList_store_all rfl _ (.tmp 4) (.tmp 54) rfl (w.heap.size + 1) 89 _ [.int .i64 0,.int .i64 0,.int .i64 0,.int .i64 0,.int .i64 0,.int .i64 0,.int .i64 0] rfl rfl HBR.out rfl (by kernel_rfl) rfl ?_; intro v6 hv6 hs6; have HV6:=Lib.hid hv6; have HS6:=Lib.hid hs6; clear hv6 hs6))
  exact bodyPost_ret (results_cell_tmp' Tryz.results45 _ _ _ ⟨w.heap.size + 1,0,none⟩ _ _ rfl rfl (load_ev zeroEv HV6.out)) rfl (KEY.out _ _ zeroEv 3 KK.out HV6.out HS6.out HBAD.out)
 have d4 : decide ((3 : Int) < xk) = false:=by simpa using c4
 obtain ⟨p,hpe⟩ : ∃ p : Nat,xp = p:=⟨xp.toNat,by omega⟩
 subst hpe
 have hpn : p < n:=by omega
 obtain ⟨bS,oS,B1,B2,B3,B4,p1,q1,p2,q2,p3,q3,p4,q4,rfl,hSb,hstp,hrgp⟩:=sts_at HST.out hpn
 have c1' : W.cell? ⟨bS,oS + p * 4 + 1,none⟩ = some (.slice B2 p2 q2):=hrgp 1 _ rfl
 have d2n : decide (n ≤ p) = false:=by simp; omega
 have g1 : (p : Int) < n:=by omega
 have g2 : (0 : Int) ≤ p:=by omega
 have hev:=(st_sl hstp).2.1
 have hp2 : p2 = (stAt ss (p : Int)).events.length:=by have:=hev.1; simpa [stAt] using this
 have hfewp:=HFEW.out p (by rw [← HNN.out]; exact hpn)
 have hq2 : p2 ≤ 1000000:=by have:=hev.1; omega
 have h64 : okI n ⟨p,xk,xf,xi,xo,xv⟩ = true → (64 : Int) ≤ p2 → eventI ss ⟨p,xk,xf,xi,xo,xv⟩ = (zeroEv,4):=fun hok h=>by
  unfold eventI
  rw [if_neg (by rw [← HNN.out,hok]; simp),if_pos (by show 64 ≤ (stAt ss (p : Int)).events.length; omega)]
 have hpl : okI n ⟨p,xk,xf,xi,xo,xv⟩ = true → ¬ (64 : Int) ≤ p2 → xk ≠ 1 → eventI ss ⟨p,xk,xf,xi,xo,xv⟩ = (⟨xk,0,0,0,0,0,xv⟩,0):=fun hok h h1=>by
  unfold eventI
  rw [if_neg (by rw [← HNN.out,hok]; simp),if_neg (by show ¬ 64 ≤ (stAt ss (p : Int)).events.length; omega),if_pos h1]
 have hrn : okI n ⟨p,xk,xf,xi,xo,xv⟩ = true → ¬ (64 : Int) ≤ p2 → xk = 1 → findI (stAt ss xf).sent ⟨p,xk,xf,xi,xo,xv⟩ = none → eventI ss ⟨p,xk,xf,xi,xo,xv⟩ = (zeroEv,11):=fun hok h h1 hf=>by
  unfold eventI
  rw [if_neg (by rw [← HNN.out,hok]; simp),if_neg (by show ¬ 64 ≤ (stAt ss (p : Int)).events.length; omega),if_neg (by simpa using h1),hf]
 have hrs : ∀ s,okI n ⟨p,xk,xf,xi,xo,xv⟩ = true → ¬ (64 : Int) ≤ p2 → xk = 1 → findI (stAt ss xf).sent ⟨p,xk,xf,xi,xo,xv⟩ = some s → eventI ss ⟨p,xk,xf,xi,xo,xv⟩ = if recvS (stAt ss (p : Int)).events xf 0 xi xo ≠ 0 then (zeroEv,15) else (⟨1,0,xf,0,xi,xo,s.val⟩,0):=fun s hok h h1 hf=>by
  unfold eventI
  rw [if_neg (by rw [← HNN.out,hok]; simp),if_neg (by show ¬ 64 ≤ (stAt ss (p : Int)).events.length; omega),if_neg (by simpa using h1),hf]
 have HSTP:=Lib.hid hstp
 have HRGP:=Lib.hid hrgp
 have HEV:=Lib.hid hev
 have HP2:=Lib.hid hp2
 have H64:=Lib.hid h64
 have HPL:=Lib.hid hpl
 have HRN:=Lib.hid hrn
 have HRS:=Lib.hid hrs
 have HFEWP:=Lib.hid hfewp
 clear hstp hrgp hev hp2 h64 hpl hrn hrs hfewp
 by_cases hk1 : xk = 1
 case neg=>
  have k1 : (xk == 1) = false:=by simpa using hk1
  have n1 : (xk != 1) = true:=by simpa using hk1
  have hok : okI n ⟨p,xk,xf,xi,xo,xv⟩ = true:=by simp [okI,procI,k1]; omega
  have HOK:=Lib.hid hok
  clear hok
  go_upto_region 4 with fail
  cases t64 : decide ((64 : Int) ≤ p2)
  ·have hev:=HPL.out HOK.out (by simpa using t64) hk1
   have HEV:=Lib.hid hev
   clear hev
   clear hk1
   go_upto_region 7 with fail
   go_wp2_with (first
    | (refine wpList_bld rfl 89 _ rfl _ [(0,.int .i64 xk),(5,.int .i64 xv)] rfl (bld_evT _ _) ?_)
    | (refine wpList_store_all rfl _ (.tmp 4) (.tmp 71) rfl (w.heap.size + 1) 89 _ [.int .i64 xk,.int .i64 0,.int .i64 0,.int .i64 0,.int .i64 0,.int .i64 0,.int .i64 xv] rfl rfl HBR.out rfl (by kernel_rfl) rfl ?_; intro v6 hv6 hs6; have HV6:=Lib.hid hv6; have HS6:=Lib.hid hs6; clear hv6 hs6))
   exact bodyPost_ret (results_cell_tmp' Tryz.results45 _ _ _ ⟨w.heap.size + 1,0,none⟩ _ _ rfl rfl (load_ev ⟨xk,0,0,0,0,0,xv⟩ HV6.out)) rfl (KEY.out _ _ ⟨xk,0,0,0,0,0,xv⟩ 0 KK.out HV6.out HS6.out HEV.out)
  ·have hev:=H64.out HOK.out (by simpa using t64)
   have HEV:=Lib.hid hev
   clear hev
   clear hk1
   go_upto_region 5 with fail
   go_wp2_with (first
    | (refine wpList_bld rfl 89 _ rfl _ [] rfl bld_ev0 ?_)
    | (refine wpList_store_all rfl _ (.tmp 4) (.tmp 63) rfl (w.heap.size + 1) 89 _ [.int .i64 0,.int .i64 0,.int .i64 0,.int .i64 0,.int .i64 0,.int .i64 0,.int .i64 0] rfl rfl HBR.out rfl (by kernel_rfl) rfl ?_; intro v6 hv6 hs6; have HV6:=Lib.hid hv6; have HS6:=Lib.hid hs6; clear hv6 hs6))
   exact bodyPost_ret (results_cell_tmp' Tryz.results45 _ _ _ ⟨w.heap.size + 1,0,none⟩ _ _ rfl rfl (load_ev zeroEv HV6.out)) rfl (KEY.out _ _ zeroEv 4 KK.out HV6.out HS6.out HEV.out)
 subst hk1
 by_cases c5 : xf < 0
 ·have d5 : decide (xf < 0) = true:=by simpa using c5
  have hbad:=HB.out (by simp [okI,procI]; omega)
  have HBAD:=Lib.hid hbad
  clear hbad
  go_upto_region 3 with fail
  go_wp2_with (first
   | (refine wpList_bld rfl 89 _ rfl _ [] rfl bld_ev0 ?_)
   | (refine wpList_store_all rfl _ (.tmp 4) (.tmp 54) rfl (w.heap.size + 1) 89 _ [.int .i64 0,.int .i64 0,.int .i64 0,.int .i64 0,.int .i64 0,.int .i64 0,.int .i64 0] rfl rfl HBR.out rfl (by kernel_rfl) rfl ?_; intro v6 hv6 hs6; have HV6:=Lib.hid hv6; have HS6:=Lib.hid hs6; clear hv6 hs6))
  exact bodyPost_ret (results_cell_tmp' Tryz.results45 _ _ _ ⟨w.heap.size + 1,0,none⟩ _ _ rfl rfl (load_ev zeroEv HV6.out)) rfl (KEY.out _ _ zeroEv 3 KK.out HV6.out HS6.out HBAD.out)
 have d5 : decide (xf < 0) = false:=by simpa using c5
 by_cases c6 : (n : Int) ≤ xf
 ·have d6 : decide ((n : Int) ≤ xf) = true:=by simpa using c6
  have hbad:=HB.out (by simp [okI,procI]; omega)
  have HBAD:=Lib.hid hbad
  clear hbad
  go_upto_region 3 with fail
  go_wp2_with (first
   | (refine wpList_bld rfl 89 _ rfl _ [] rfl bld_ev0 ?_)
   | (refine wpList_store_all rfl _ (.tmp 4) (.tmp 54) rfl (w.heap.size + 1) 89 _ [.int .i64 0,.int .i64 0,.int .i64 0,.int .i64 0,.int .i64 0,.int .i64 0,.int .i64 0] rfl rfl HBR.out rfl (by kernel_rfl) rfl ?_; intro v6 hv6 hs6; have HV6:=Lib.hid hv6; have HS6:=Lib.hid hs6; clear hv6 hs6))
  exact bodyPost_ret (results_cell_tmp' Tryz.results45 _ _ _ ⟨w.heap.size + 1,0,none⟩ _ _ rfl rfl (load_ev zeroEv HV6.out)) rfl (KEY.out _ _ zeroEv 3 KK.out HV6.out HS6.out HBAD.out)
 have d6 : decide ((n : Int) ≤ xf) = false:=by simpa using c6
 by_cases c7 : xf = p
 ·have d7 : (xf == (p : Int)) = true:=by simpa using c7
  have hbad:=HB.out (by simp [okI,procI]; omega)
  clear c7
  have HBAD:=Lib.hid hbad
  clear hbad
  go_upto_region 3 with fail
  go_wp2_with (first
   | (refine wpList_bld rfl 89 _ rfl _ [] rfl bld_ev0 ?_)
   | (refine wpList_store_all rfl _ (.tmp 4) (.tmp 54) rfl (w.heap.size + 1) 89 _ [.int .i64 0,.int .i64 0,.int .i64 0,.int .i64 0,.int .i64 0,.int .i64 0,.int .i64 0] rfl rfl HBR.out rfl (by kernel_rfl) rfl ?_; intro v6 hv6 hs6; have HV6:=Lib.hid hv6; have HS6:=Lib.hid hs6; clear hv6 hs6))
  exact bodyPost_ret (results_cell_tmp' Tryz.results45 _ _ _ ⟨w.heap.size + 1,0,none⟩ _ _ rfl rfl (load_ev zeroEv HV6.out)) rfl (KEY.out _ _ zeroEv 3 KK.out HV6.out HS6.out HBAD.out)
 have d7 : (xf == (p : Int)) = false:=by simpa using c7
 have hok : okI n ⟨p,1,xf,xi,xo,xv⟩ = true:=by simp [okI,procI,d7]; omega
 obtain ⟨f,hfe⟩ : ∃ f : Nat,xf = f:=⟨xf.toNat,by omega⟩
 subst hfe
 have hfn : f < n:=by omega
 obtain ⟨bS',oS',C1,C2,C3,C4,r1,s1,r2,s2,r3,s3,r4,s4,hAe,hSb',hstf,hrgf⟩:=sts_at HST.out hfn
 simp only [Option.some.injEq,Addr.mk.injEq,and_true] at hAe
 obtain ⟨rfl,rfl⟩:=hAe
 have d6n : decide (n ≤ f) = false:=by simp; omega
 have g3 : (f : Int) < n:=by omega
 have g4 : (0 : Int) ≤ f:=by omega
 have hstf0:=hstf
 have hfewf:=(HFEW.out f (by rw [← HNN.out]; exact hfn)).2
 clear c1 c2 c3 c4 c5 c6 c7
 have HOK:=Lib.hid hok
 have HSTF:=Lib.hid hstf
 have HRGF:=Lib.hid hrgf
 have HFEWF:=Lib.hid hfewf
 clear hok hstf hrgf hfewf
 go_upto_region 4 with fail
 cases t64 : decide ((64 : Int) ≤ p2)
 case true=>
  have hev:=H64.out HOK.out (by simpa using t64)
  have HEV:=Lib.hid hev
  clear hev
  go_upto_region 5 with fail
  go_wp2_with (first
   | (refine wpList_bld rfl 89 _ rfl _ [] rfl bld_ev0 ?_)
   | (refine wpList_store_all rfl _ (.tmp 4) (.tmp 63) rfl (w.heap.size + 1) 89 _ [.int .i64 0,.int .i64 0,.int .i64 0,.int .i64 0,.int .i64 0,.int .i64 0,.int .i64 0] rfl rfl HBR.out rfl (by kernel_rfl) rfl ?_; intro v6 hv6 hs6; have HV6:=Lib.hid hv6; have HS6:=Lib.hid hs6; clear hv6 hs6))
  exact bodyPost_ret (results_cell_tmp' Tryz.results45 _ _ _ ⟨w.heap.size + 1,0,none⟩ _ _ rfl rfl (load_ev zeroEv HV6.out)) rfl (KEY.out _ _ zeroEv 4 KK.out HV6.out HS6.out HEV.out)
 have hlt : ¬ (64 : Int) ≤ p2:=by simpa using t64
 have HLT:=Lib.hid hlt
 clear hlt
 have hlf:=(st_sl hstf0).2.2.1
 go_upto_region 8 with fail
 obtain ⟨r,hr⟩ : ∃ r,r = findI (stAt ss (f : Int)).sent ⟨p,1,f,xi,xo,xv⟩:=⟨_,rfl⟩
 obtain ⟨sv,hsv⟩ : ∃ sv : Snd,sv = r.getD zeroSnd:=⟨_,rfl⟩
 obtain ⟨bb,hbb⟩ : ∃ bb : Bool,bb = r.isSome:=⟨_,rfl⟩
 obtain ⟨ya,yb,yc,yd⟩:=sv
 have hcall : ∀ u : World,Keep W u → Calls Tryz.prog 61 #[.agg #[.slice C1 r1 s1,.slice C2 r2 s2,.slice C3 r3 s3,.slice C4 r4 s4],.agg #[.int .i64 p,.int .i64 1,.int .i64 f,.int .i64 xi,.int .i64 xo,.int .i64 xv]] u (fun e w'=>Keep u w' ∧ e = .returned (.tuple #[.agg #[.int .i64 ya,.int .i64 yb,.int .i64 yc,.int .i64 yd],.bool bb])):=fun u hu=>by
  have h:=rfind_any u S C1 C2 C3 C4 r1 s1 r2 s2 r3 s3 r4 s4 (ss.getD f zeroSt).sent ⟨p,1,f,xi,xo,xv⟩ (fun i hi=>by have:=HS.out i hi; have:=hu.size; omega) (hlf.keep (hu.mono (fun i hi=>by have:=HS.out i hi; omega))) HFEWF.out
  have hr' : findI (ss.getD f zeroSt).sent ⟨p,1,f,xi,xo,xv⟩ = r:=hr.symm
  rw [hr'] at h
  unfold FndPost at h
  rw [← hsv,← hbb] at h
  exact h
 have e2' : ∀ wx,Keep W wx → wx.cell? ⟨w.heap.size,2,none⟩ = some (.int .i64 f):=fun wx hx=>(hx.cell (p:=⟨w.heap.size,2,none⟩) HBX.out.lt).trans e2
 have rgf : ∀ wx,Keep W wx → wx.rangeAt bS (oS + f * 4) [.slice C1 r1 s1,.slice C2 r2 s2,.slice C3 r3 s3,.slice C4 r4 s4]:=fun wx hx j u hu=>(hx.cell (p:=⟨bS,oS + f * 4 + j,none⟩) (by have:=HS.out _ hSb; show bS < W.heap.size; omega)).trans (HRGF.out j u hu)
 have HR:=Lib.hid hr
 have HSV:=Lib.hid hsv
 have HBB:=Lib.hid hbb
 have HCALL:=Lib.hid hcall
 have RGF:=Lib.hid rgf
 clear hr hsv hbb hcall rgf
 clear e0 e1 e2 e5 c1' hlf
 go_cut [7,8] from 72 to 81 (fun v7 v8 wx=>RvFd r W v7 v8 wx)
 case first=>
  refine wp_region_L 99 (fun _=>True) (fun wx=>Keep W wx) (by kernel_rfl) trivial (Same.drew (Same.refl _ _)) (fun hA hB=>?_)
  generalize hu0 : W.drew = u0 at hB ⊢
  clear hu0
  refine wpL_takeB (i:=0) (v:=?_) rfl (by kernel_rfl) (by kernel_rfl) (by kernel_rfl) (by decide) (fun _ _ _ h=>h) (Or.inl ⟨by rfl,?_⟩) (SAB.both hA hB) ?_
  rotate_left
  ·intro wx hBx
   (try dsimp only at hBx)
   go_simp
   try with_reducible rfl
  try simp only [Act.put,List.setIfInBounds_toArray,List.set_cons_zero,List.set_cons_succ]
  refine wpL_takeB (i:=1) (v:=?_) rfl (by kernel_rfl) (by kernel_rfl) (by kernel_rfl) (by decide) (fun _ _ _ h=>h) (Or.inl ⟨by rfl,?_⟩) (SAB.both hA hB) ?_
  rotate_left
  ·intro wx hBx
   (try dsimp only at hBx)
   go_simp
   try with_reducible rfl
  try simp only [Act.put,List.setIfInBounds_toArray,List.set_cons_zero,List.set_cons_succ]
  refine wpL_takeB (i:=2) (v:=?_) rfl (by kernel_rfl) (by kernel_rfl) (by kernel_rfl) (by decide) (fun _ _ _ h=>h) (Or.inl ⟨by rfl,?_⟩) (SAB.both hA hB) ?_
  rotate_left
  ·intro wx hBx
   (try dsimp only at hBx)
   go_simp
   try with_reducible rfl
  try simp only [Act.put,List.setIfInBounds_toArray,List.set_cons_zero,List.set_cons_succ]
  refine wpL_takeB (i:=3) (v:=?_) rfl (by kernel_rfl) (by kernel_rfl) (by kernel_rfl) (by decide) (fun _ _ _ h=>h) (Or.inl ⟨by rfl,?_⟩) (SAB.both hA hB) ?_
  rotate_left
  ·intro wx hBx
   (try dsimp only at hBx)
   go_simp
   try with_reducible rfl
  try simp only [Act.put,List.setIfInBounds_toArray,List.set_cons_zero,List.set_cons_succ]
  refine wpL_takeB (i:=4) rfl (by kernel_rfl) (by kernel_rfl) (by kernel_rfl) (by decide) (fun _ _ _ h=>h) (yieldsIf_load_mid (by rfl) _ _ rfl bS (oS + f * 4) rfl [.slice C1 r1 s1,.slice C2 r2 s2,.slice C3 r3 s3,.slice C4 r4 s4] _ (fun wx hx=>RGF.out wx hx) Tryz.underlying50 rfl (by kernel_rfl)) (SAB.both hA hB) ?_
  try simp only [Act.put,List.setIfInBounds_toArray,List.set_cons_zero,List.set_cons_succ]
  refine wpL_takeB (i:=5) rfl (by kernel_rfl) (by kernel_rfl) (by kernel_rfl) (by decide) (fun _ _ _ h=>h) (yieldsIf_blk (by rfl) _ _ rfl w.heap.size 0 57 _ [.int .i64 p,.int .i64 1,.int .i64 f,.int .i64 xi,.int .i64 xo,.int .i64 xv] _ rfl (fun wx hx=>hx.blk HBX.out HBX.out.lt) (fun j u hu=>by simpa using hu) Tryz.underlying57 rfl (by kernel_rfl)) (SAB.both hA hB) ?_
  try simp only [Act.put,List.setIfInBounds_toArray,List.set_cons_zero,List.set_cons_succ]
  clear e2'
  refine wpL_two (i:=6) (j:=10) (by kernel_rfl) (StepL.mk rfl (fun K hK=>?_)) (StepL.mk rfl (fun K hK=>?_))
  ·go_simp
   refine (HCALL.out u0 hB).mono ?_
   rintro e u1 ⟨hk1,rfl⟩
   have hB1:=Keep.trans hB hk1
   refine hK.out _ _ (SAB.both trivial hB1) (fun hSS=>?_)
   clear hK K hA hB
   have hB:=hSS.2
   have hA:=hSS.1 (by kernel_rfl)
   (try dsimp only at hB); (try dsimp only at hA); clear hSS
   try simp only [Act.put,List.setIfInBounds_toArray,List.set_cons_zero,List.set_cons_succ]
   refine wpL_takeB (i:=7) (v:=?_) rfl (by kernel_rfl) (by kernel_rfl) (by kernel_rfl) (by decide) (fun _ _ _ h=>h) (Or.inl ⟨by rfl,?_⟩) (SAB.both hA hB) ?_
   rotate_left
   ·intro wx hBx
    (try dsimp only at hBx)
    go_simp
    try with_reducible rfl
   try simp only [Act.put,List.setIfInBounds_toArray,List.set_cons_zero,List.set_cons_succ]
   refine wpL_takeB (i:=8) (v:=?_) rfl (by kernel_rfl) (by kernel_rfl) (by kernel_rfl) (by decide) (fun _ _ _ h=>h) (Or.inl ⟨by rfl,?_⟩) (SAB.both hA hB) ?_
   rotate_left
   ·intro wx hBx
    (try dsimp only at hBx)
    go_simp
    try with_reducible rfl
   try simp only [Act.put,List.setIfInBounds_toArray,List.set_cons_zero,List.set_cons_succ]
   refine wpL_takeB (i:=9) (v:=?_) rfl (by kernel_rfl) (by kernel_rfl) (by kernel_rfl) (by decide) (fun _ _ _ h=>h) (Or.inl ⟨by rfl,?_⟩) (SAB.both hA hB) ?_
   rotate_left
   ·intro wx hBx
    (try dsimp only at hBx)
    go_simp
    try with_reducible rfl
   try simp only [Act.put,List.setIfInBounds_toArray,List.set_cons_zero,List.set_cons_succ]
   refine wpL_one (i:=10) (by kernel_rfl) (StepL.mk rfl (fun K hK=>?_))
   go_simp
   generalize hq : u1.alloc (.cells #[.int .i64 0,.int .i64 0,.int .i64 0,.int .i64 0] 92) = u2
   have hb2 : Blk u2 u1.heap.size 92 #[.int .i64 0,.int .i64 0,.int .i64 0,.int .i64 0]:=hq ▸ Blk.new _ _ _
   have hk2 : Keep u1 u2:=hq ▸ Keep.new _ _
   clear hq
   have hB2:=Keep.trans hB1 hk2
   refine hK.out _ _ (SAB.both trivial hB2) (fun hSS=>?_)
   clear hK K hA hB
   have hB:=hSS.2
   have hA:=hSS.1 (by kernel_rfl)
   (try dsimp only at hB); (try dsimp only at hA); clear hSS
   try simp only [Act.put,List.setIfInBounds_toArray,List.set_cons_zero,List.set_cons_succ]
   refine wpL_one (i:=11) (by kernel_rfl) (StepL.mk rfl (fun K hK=>?_))
   refine step_store_blk rfl _ _ _ rfl u1.heap.size 0 92 _ [.int .i64 ya,.int .i64 yb,.int .i64 yc,.int .i64 yd] rfl rfl hb2 (by simp) (by kernel_rfl) rfl ?_
   intro u3 hb3 hs3
   rw [splice_all [.int .i64 ya,.int .i64 yb,.int .i64 yc,.int .i64 yd] #[.int .i64 0,.int .i64 0,.int .i64 0,.int .i64 0] rfl] at hb3
   have hB3 : Keep W u3:=Keep.write hB2 hs3 hB1.size
   have hfin : RvFd r W (.pointer (some ⟨u1.heap.size,0,none⟩)) (.bool bb) u3:=⟨_,rfl,by rw [HBB.out],by rw [← HSV.out]; exact hb3,hB1.size,hB3⟩
   refine hK.out _ _ (SAB.both trivial hB3) (fun hSS=>?_)
   clear hK K hA hB
   have hB:=hSS.2
   have hA:=hSS.1 (by kernel_rfl)
   (try dsimp only at hB); (try dsimp only at hA); clear hSS
   try simp only [Act.put,List.setIfInBounds_toArray,List.set_cons_zero,List.set_cons_succ]
   refine wpL_takeB (i:=12) (v:=?_) rfl (by kernel_rfl) (by kernel_rfl) (by kernel_rfl) (by decide) (fun _ _ _ h=>h) (Or.inl ⟨by rfl,?_⟩) (SAB.both hA hB) ?_
   rotate_left
   ·intro wx hBx
    (try dsimp only at hBx)
    go_simp
    try with_reducible rfl
   try simp only [Act.put,List.setIfInBounds_toArray,List.set_cons_zero,List.set_cons_succ]
   refine wpL_done (by kernel_rfl) ?_
   have HFIN:=Lib.hid hfin
   clear hfin
   clear hb3 hs3 hB3 hB2 hB1 hb2 hk2 hk1 hA hB
   go_wp2_with fail
   go_meet
   exact HFIN.out
  ·go_simp
   generalize hq : u0.alloc (.cells #[.int .i64 0,.int .i64 0,.int .i64 0,.int .i64 0] 92) = u1
   have hb2 : Blk u1 u0.heap.size 92 #[.int .i64 0,.int .i64 0,.int .i64 0,.int .i64 0]:=hq ▸ Blk.new _ _ _
   have hk2 : Keep u0 u1:=hq ▸ Keep.new _ _
   have hz0:=hB.size
   clear hq
   have hB1:=Keep.trans hB hk2
   refine hK.out _ _ (SAB.both trivial hB1) (fun hSS=>?_)
   clear hK K hA hB
   have hB:=hSS.2
   have hA:=hSS.1 (by kernel_rfl)
   (try dsimp only at hB); (try dsimp only at hA); clear hSS
   try simp only [Act.put,List.setIfInBounds_toArray,List.set_cons_zero,List.set_cons_succ]
   refine wpL_one (i:=6) (by kernel_rfl) (StepL.mk rfl (fun K hK=>?_))
   go_simp
   refine (HCALL.out u1 hB1).mono ?_
   rintro e u2 ⟨hk1,rfl⟩
   have hB2:=Keep.trans hB1 hk1
   refine hK.out _ _ (SAB.both trivial hB2) (fun hSS=>?_)
   clear hK K hA hB
   have hB:=hSS.2
   have hA:=hSS.1 (by kernel_rfl)
   (try dsimp only at hB); (try dsimp only at hA); clear hSS
   try simp only [Act.put,List.setIfInBounds_toArray,List.set_cons_zero,List.set_cons_succ]
   refine wpL_takeB (i:=7) (v:=?_) rfl (by kernel_rfl) (by kernel_rfl) (by kernel_rfl) (by decide) (fun _ _ _ h=>h) (Or.inl ⟨by rfl,?_⟩) (SAB.both hA hB) ?_
   rotate_left
   ·intro wx hBx
    (try dsimp only at hBx)
    go_simp
    try with_reducible rfl
   try simp only [Act.put,List.setIfInBounds_toArray,List.set_cons_zero,List.set_cons_succ]
   refine wpL_takeB (i:=8) (v:=?_) rfl (by kernel_rfl) (by kernel_rfl) (by kernel_rfl) (by decide) (fun _ _ _ h=>h) (Or.inl ⟨by rfl,?_⟩) (SAB.both hA hB) ?_
   rotate_left
   ·intro wx hBx
    (try dsimp only at hBx)
    go_simp
    try with_reducible rfl
   try simp only [Act.put,List.setIfInBounds_toArray,List.set_cons_zero,List.set_cons_succ]
   refine wpL_takeB (i:=9) (v:=?_) rfl (by kernel_rfl) (by kernel_rfl) (by kernel_rfl) (by decide) (fun _ _ _ h=>h) (Or.inl ⟨by rfl,?_⟩) (SAB.both hA hB) ?_
   rotate_left
   ·intro wx hBx
    (try dsimp only at hBx)
    go_simp
    try with_reducible rfl
   try simp only [Act.put,List.setIfInBounds_toArray,List.set_cons_zero,List.set_cons_succ]
   refine wpL_one (i:=11) (by kernel_rfl) (StepL.mk rfl (fun K hK=>?_))
   refine step_store_blk rfl _ _ _ rfl u0.heap.size 0 92 _ [.int .i64 ya,.int .i64 yb,.int .i64 yc,.int .i64 yd] rfl rfl (hk1.blk hb2 hb2.lt) (by simp) (by kernel_rfl) rfl ?_
   intro u3 hb3 hs3
   rw [splice_all [.int .i64 ya,.int .i64 yb,.int .i64 yc,.int .i64 yd] #[.int .i64 0,.int .i64 0,.int .i64 0,.int .i64 0] rfl] at hb3
   have hB3 : Keep W u3:=Keep.write hB2 hs3 hz0
   have hfin : RvFd r W (.pointer (some ⟨u0.heap.size,0,none⟩)) (.bool bb) u3:=⟨_,rfl,by rw [HBB.out],by rw [← HSV.out]; exact hb3,hz0,hB3⟩
   refine hK.out _ _ (SAB.both trivial hB3) (fun hSS=>?_)
   clear hK K hA hB
   have hB:=hSS.2
   have hA:=hSS.1 (by kernel_rfl)
   (try dsimp only at hB); (try dsimp only at hA); clear hSS
   try simp only [Act.put,List.setIfInBounds_toArray,List.set_cons_zero,List.set_cons_succ]
   refine wpL_takeB (i:=12) (v:=?_) rfl (by kernel_rfl) (by kernel_rfl) (by kernel_rfl) (by decide) (fun _ _ _ h=>h) (Or.inl ⟨by rfl,?_⟩) (SAB.both hA hB) ?_
   rotate_left
   ·intro wx hBx
    (try dsimp only at hBx)
    go_simp
    try with_reducible rfl
   try simp only [Act.put,List.setIfInBounds_toArray,List.set_cons_zero,List.set_cons_succ]
   refine wpL_done (by kernel_rfl) ?_
   have HFIN:=Lib.hid hfin
   clear hfin
   clear hb3 hs3 hB3 hB2 hB1 hb2 hk2 hk1 hA hB
   go_wp2_with fail
   go_meet
   exact HFIN.out
 case rest=>
  obtain ⟨w7,hw7⟩ : ∃ w7 : World,w7 = wc:=⟨_,rfl⟩
  subst hw7
  obtain ⟨g7,rfl,rfl,hb7,hg7,hk7⟩:=hcut
  rw [← HBB.out]
  have hz7:=hk7.size
  have br7:=hk7.blk HBR.out HBR.out.lt
  cases hb : bb
  ·have hrz : r = none:=by
    have:=HBB.out
    rw [hb] at this
    cases r with
    | none=>rfl
    | some s=>cases this
   have hev:=HRN.out HOK.out HLT.out rfl (by rw [← hrz]; exact HR.out.symm)
   clear hb hrz hb7
   have HEV:=Lib.hid hev
   have BR7:=Lib.hid br7
   have HK7:=Lib.hid hk7
   clear hev br7 hk7
   go_upto_region 10 with fail
   go_wp2_with (first
    | (refine wpList_bld rfl 89 _ rfl _ [] rfl bld_ev0 ?_)
    | (refine wpList_store_all rfl _ (.tmp 4) (.tmp 84) rfl (w.heap.size + 1) 89 _ [.int .i64 0,.int .i64 0,.int .i64 0,.int .i64 0,.int .i64 0,.int .i64 0,.int .i64 0] rfl rfl BR7.out rfl (by kernel_rfl) rfl ?_; intro v6 hv6 hs6; have HV6:=Lib.hid hv6; have HS6:=Lib.hid hs6; clear hv6 hs6))
   exact bodyPost_ret (results_cell_tmp' Tryz.results45 _ _ _ ⟨w.heap.size + 1,0,none⟩ _ _ rfl rfl (load_ev zeroEv HV6.out)) rfl (KEY.out _ _ zeroEv 11 HK7.out HV6.out HS6.out HEV.out)
  have hrz : r = some ⟨ya,yb,yc,yd⟩:=by
   have h1:=HBB.out
   have h2:=HSV.out
   rw [hb] at h1
   cases r with
   | none=>cases h1
   | some s=>rw [h2]; rfl
  have hevt:=HRS.out _ HOK.out HLT.out rfl (by rw [← hrz]; exact HR.out.symm)
  rw [hrz] at hb7
  have bx7:=hk7.blk HBX.out HBX.out.lt
  have x3 : w7.cell? ⟨w.heap.size,3,none⟩ = some (.int .i64 xi):=by rw [bx7.cell]; rfl
  clear hb hrz
  have HEVT:=Lib.hid hevt
  have HB7:=Lib.hid hb7
  have BR7:=Lib.hid br7
  have HK7:=Lib.hid hk7
  have BX7:=Lib.hid bx7
  clear hevt hb7 br7 hk7 bx7
  go_upto_region 11 with fail
  go_upto_region 12 with (first
   | (refine wpList_bld rfl 87 _ rfl _ [(1,.int .i64 xi)] rfl (bld_labI _) ?_)
   | (refine wpList_store_all rfl _ (.tmp 9) (.tmp 87) rfl w7.heap.size 87 _ [.int .i64 0,.int .i64 xi] rfl rfl (Blk.new _ _ _) rfl (by kernel_rfl) rfl ?_; intro w8 hb8 hs8))
  have hk8 : Keep w7 w8:=Keep.write (Keep.new _ _) hs8 (Nat.le_refl _)
  have kw8:=Keep.trans HK7.out hk8
  have by8:=hk8.blk HB7.out HB7.out.lt
  clear x3 hs8
  have bx8:=kw8.blk HBX.out HBX.out.lt
  have x0 : ∀ wx,Keep w8 wx → wx.cell? ⟨w.heap.size,0,none⟩ = some (.int .i64 p):=fun wx hx=>(hx.cell (p:=⟨w.heap.size,0,none⟩) bx8.lt).trans (by rw [bx8.cell]; rfl)
  have x2 : ∀ wx,Keep w8 wx → wx.cell? ⟨w.heap.size,2,none⟩ = some (.int .i64 f):=fun wx hx=>(hx.cell (p:=⟨w.heap.size,2,none⟩) bx8.lt).trans (by rw [bx8.cell]; rfl)
  have x4 : ∀ wx,Keep w8 wx → wx.cell? ⟨w.heap.size,4,none⟩ = some (.int .i64 xo):=fun wx hx=>(hx.cell (p:=⟨w.heap.size,4,none⟩) bx8.lt).trans (by rw [bx8.cell]; rfl)
  have rgS : ∀ wx,Keep w8 wx → wx.rangeAt bS (oS + p * 4) [.slice B1 p1 q1,.slice B2 p2 q2,.slice B3 p3 q3,.slice B4 p4 q4]:=fun wx hx j u hu=>((Keep.trans kw8 hx).cell (p:=⟨bS,oS + p * 4 + j,none⟩) (by have:=HS.out _ hSb; show bS < W.heap.size; omega)).trans (HRGP.out j u hu)
  have hev8:=HEV.out.keep (kw8.mono (fun i hi=>by have:=HS.out i hi; omega))
  have hz8:=hk8.size
  have hlb8 : w7.heap.size < w8.heap.size:=hb8.lt
  have HK8:=Lib.hid hk8
  have KW8:=Lib.hid kw8
  have BY8:=Lib.hid by8
  have BX8:=Lib.hid bx8
  have HB8:=Lib.hid hb8
  have RGS:=Lib.hid rgS
  have HEV8:=Lib.hid hev8
  clear hk8 kw8 by8 bx8 hb8 rgS hev8
  refine wp_region_L 99 (fun _=>True) (fun wx=>Keep w8 wx) (by kernel_rfl) trivial (Same.drew (Same.refl _ _)) (fun hA hB=>?_)
  generalize hu0 : w8.drew = u0 at hB ⊢
  clear hu0
  refine wpL_takeB (i:=0) (v:=?_) rfl (by kernel_rfl) (by kernel_rfl) (by kernel_rfl) (by decide) (fun _ _ _ h=>h) (Or.inl ⟨by rfl,?_⟩) (SAB.both hA hB) ?_
  rotate_left
  ·intro wx hBx
   (try dsimp only at hBx)
   go_simp
   try with_reducible rfl
  try simp only [Act.put,List.setIfInBounds_toArray,List.set_cons_zero,List.set_cons_succ]
  refine wpL_takeB (i:=1) (v:=?_) rfl (by kernel_rfl) (by kernel_rfl) (by kernel_rfl) (by decide) (fun _ _ _ h=>h) (Or.inl ⟨by rfl,?_⟩) (SAB.both hA hB) ?_
  rotate_left
  ·intro wx hBx
   (try dsimp only at hBx)
   go_simp
   try with_reducible rfl
  try simp only [Act.put,List.setIfInBounds_toArray,List.set_cons_zero,List.set_cons_succ]
  refine wpL_takeB (i:=2) (v:=?_) rfl (by kernel_rfl) (by kernel_rfl) (by kernel_rfl) (by decide) (fun _ _ _ h=>h) (Or.inl ⟨by rfl,?_⟩) (SAB.both hA hB) ?_
  rotate_left
  ·intro wx hBx
   (try dsimp only at hBx)
   go_simp
   try with_reducible rfl
  try simp only [Act.put,List.setIfInBounds_toArray,List.set_cons_zero,List.set_cons_succ]
  refine wpL_takeB (i:=3) (v:=?_) rfl (by kernel_rfl) (by kernel_rfl) (by kernel_rfl) (by decide) (fun _ _ _ h=>h) (Or.inl ⟨by rfl,?_⟩) (SAB.both hA hB) ?_
  rotate_left
  ·intro wx hBx
   (try dsimp only at hBx)
   go_simp
   try with_reducible rfl
  try simp only [Act.put,List.setIfInBounds_toArray,List.set_cons_zero,List.set_cons_succ]
  refine wpL_takeB (i:=4) rfl (by kernel_rfl) (by kernel_rfl) (by kernel_rfl) (by decide) (fun _ _ _ h=>h) (yieldsIf_load_mid (by rfl) _ _ rfl bS (oS + p * 4) rfl [.slice B1 p1 q1,.slice B2 p2 q2,.slice B3 p3 q3,.slice B4 p4 q4] _ (fun wx hx=>RGS.out wx hx) Tryz.underlying50 rfl (by kernel_rfl)) (SAB.both hA hB) ?_
  try simp only [Act.put,List.setIfInBounds_toArray,List.set_cons_zero,List.set_cons_succ]
  refine wpL_takeB (i:=5) (v:=?_) rfl (by kernel_rfl) (by kernel_rfl) (by kernel_rfl) (by decide) (fun _ _ _ h=>h) (Or.inl ⟨by rfl,?_⟩) (SAB.both hA hB) ?_
  rotate_left
  ·intro wx hBx
   (try dsimp only at hBx)
   go_simp
   try with_reducible rfl
  try simp only [Act.put,List.setIfInBounds_toArray,List.set_cons_zero,List.set_cons_succ]
  refine wpL_takeB (i:=6) (v:=?_) rfl (by kernel_rfl) (by kernel_rfl) (by kernel_rfl) (by decide) (fun _ _ _ h=>h) (Or.inl ⟨by rfl,?_⟩) (SAB.both hA hB) ?_
  rotate_left
  ·intro wx hBx
   (try dsimp only at hBx)
   go_simp
   try with_reducible rfl
  try simp only [Act.put,List.setIfInBounds_toArray,List.set_cons_zero,List.set_cons_succ]
  refine wpL_takeB (i:=7) rfl (by kernel_rfl) (by kernel_rfl) (by kernel_rfl) (by decide) (fun _ _ _ h=>h) (yieldsIf_blk (by rfl) _ _ rfl w7.heap.size 0 87 _ [.int .i64 0,.int .i64 xi] _ rfl (fun wx hx=>hx.blk HB8.out HB8.out.lt) (fun j u hu=>by simpa using hu) Tryz.underlying87 rfl (by kernel_rfl)) (SAB.both hA hB) ?_
  try simp only [Act.put,List.setIfInBounds_toArray,List.set_cons_zero,List.set_cons_succ]
  refine wpL_takeB (i:=8) (v:=?_) rfl (by kernel_rfl) (by kernel_rfl) (by kernel_rfl) (by decide) (fun _ _ _ h=>h) (Or.inl ⟨by rfl,?_⟩) (SAB.both hA hB) ?_
  rotate_left
  ·intro wx hBx
   (try dsimp only at hBx)
   go_simp
   try with_reducible rfl
  try simp only [Act.put,List.setIfInBounds_toArray,List.set_cons_zero,List.set_cons_succ]
  refine wpL_takeB (i:=9) (v:=?_) rfl (by kernel_rfl) (by kernel_rfl) (by kernel_rfl) (by decide) (fun _ _ _ h=>h) (Or.inl ⟨by rfl,?_⟩) (SAB.both hA hB) ?_
  rotate_left
  ·intro wx hBx
   (try dsimp only at hBx)
   go_simp
   try with_reducible rfl
  try simp only [Act.put,List.setIfInBounds_toArray,List.set_cons_zero,List.set_cons_succ]
  refine wpL_one (i:=10) (by kernel_rfl) (StepL.mk rfl (fun K hK=>?_))
  go_simp
  have hz9:=hB.size
  have hrr:=rreceived_any u0 S B1 B2 B3 B4 p1 q1 p2 q2 p3 q3 p4 q4 (ss.getD p zeroSt).events f 0 xi xo (fun i hi=>by have:=HS.out i hi; omega) (HEV8.out.keep (hB.mono (fun i hi=>by have:=HS.out i hi; omega))) HFEWP.out.1
  obtain ⟨rv,hrv⟩ : ∃ rv,rv = recvS (ss.getD p zeroSt).events f 0 xi xo:=⟨_,rfl⟩
  have hevt2 : eventI ss ⟨p,1,f,xi,xo,xv⟩ = if rv ≠ 0 then (zeroEv,15) else (⟨1,0,f,0,xi,xo,yd⟩,0):=by rw [hrv]; exact HEVT.out
  rw [← hrv] at hrr
  clear hrv HEVT
  have HEVT2:=Lib.hid hevt2
  clear hevt2
  refine hrr.mono ?_
  rintro e u1 ⟨rfl,hk9⟩
  have hk9':=Keep.trans hB hk9
  clear hrr
  refine hK.out _ _ (SAB.both trivial hk9') (fun hSS=>?_)
  clear hK K hA hB
  have hB:=hSS.2
  have hA:=hSS.1 (by kernel_rfl)
  (try dsimp only at hB); (try dsimp only at hA); clear hSS
  try simp only [Act.put,List.setIfInBounds_toArray,List.set_cons_zero,List.set_cons_succ]
  refine wpL_takeB (i:=11) (v:=?_) rfl (by kernel_rfl) (by kernel_rfl) (by kernel_rfl) (by decide) (fun _ _ _ h=>h) (Or.inl ⟨by rfl,?_⟩) (SAB.both hA hB) ?_
  rotate_left
  ·intro wx hBx
   (try dsimp only at hBx)
   go_simp
   try with_reducible rfl
  try simp only [Act.put,List.setIfInBounds_toArray,List.set_cons_zero,List.set_cons_succ]
  refine wpL_done (by kernel_rfl) ?_
  have bl9:=hk9'.blk HB8.out HB8.out.lt
  have br9:=hk9'.blk (HK8.out.blk BR7.out (by omega)) (by omega)
  have y3 : u1.cell? ⟨g7,3,none⟩ = some (.int .i64 yd):=by rw [(hk9'.blk BY8.out BY8.out.lt).cell]; rfl
  have x2':=x2 u1 hk9'
  have x4':=x4 u1 hk9'
  have kw9:=Keep.trans KW8.out hk9'
  clear x0 x2 x4 hA hB hk9 hk9'
  have BL9:=Lib.hid bl9
  have BR9:=Lib.hid br9
  have KW9:=Lib.hid kw9
  clear bl9 br9 kw9
  cases q : (rv != 0)
  ·have hev:=HEVT2.out
   rw [if_neg (by simpa using q)] at hev
   have HEV:=Lib.hid hev
   clear hev
   go_upto_region 14 with fail
   go_wp2_with (first
    | (refine wpList_load_all rfl _ (.tmp 9) rfl w7.heap.size 87 [.int .i64 0,.int .i64 xi] _ rfl BL9.out Tryz.underlying87 rfl (by kernel_rfl) ?_)
    | (refine wpList_bld rfl 89 _ rfl _ [(0,.int .i64 1),(2,.int .i64 f),(3,.agg #[.int .i64 0,.int .i64 xi]),(4,.int .i64 xo),(5,.int .i64 yd)] rfl (bld_evR _ _ _ _ _) ?_)
    | (refine wpList_store_all rfl _ (.tmp 4) (.tmp 108) rfl (w.heap.size + 1) 89 _ [.int .i64 1,.int .i64 0,.int .i64 f,.int .i64 0,.int .i64 xi,.int .i64 xo,.int .i64 yd] rfl rfl BR9.out rfl (by kernel_rfl) rfl ?_; intro v6 hv6 hs6; have HV6:=Lib.hid hv6; have HS6:=Lib.hid hs6; clear hv6 hs6))
   exact bodyPost_ret (results_cell_tmp' Tryz.results45 _ _ _ ⟨w.heap.size + 1,0,none⟩ _ _ rfl rfl (load_ev ⟨1,0,f,0,xi,xo,yd⟩ HV6.out)) rfl (KEY.out _ _ ⟨1,0,f,0,xi,xo,yd⟩ 0 KW9.out HV6.out HS6.out HEV.out)
  ·have hev:=HEVT2.out
   rw [if_pos (by simpa using q)] at hev
   have HEV:=Lib.hid hev
   clear hev
   go_upto_region 13 with fail
   go_wp2_with (first
    | (refine wpList_bld rfl 89 _ rfl _ [] rfl bld_ev0 ?_)
    | (refine wpList_store_all rfl _ (.tmp 4) (.tmp 100) rfl (w.heap.size + 1) 89 _ [.int .i64 0,.int .i64 0,.int .i64 0,.int .i64 0,.int .i64 0,.int .i64 0,.int .i64 0] rfl rfl BR9.out rfl (by kernel_rfl) rfl ?_; intro v6 hv6 hs6; have HV6:=Lib.hid hv6; have HS6:=Lib.hid hs6; clear hv6 hs6))
   exact bodyPost_ret (results_cell_tmp' Tryz.results45 _ _ _ ⟨w.heap.size + 1,0,none⟩ _ _ rfl rfl (load_ev zeroEv HV6.out)) rfl (KEY.out _ _ zeroEv 15 KW9.out HV6.out HS6.out HEV.out)
end Go.Proofs.YtipegaojiokppaaGreatDoor
namespace Go.Proofs.YtipegaojiokppaaGreatDoor
open Go.RowKit Go.Proofs
def RfX (Z : Nat → Prop) (V1 V2 : Value) (i : Nat) : Prop:=V1.ownBlock = some i ∨ V2.ownBlock = some i ∨ Z i
def RfM (Z : Nat → Prop) (w : World) (base : Nat) (V1 V2 : Value) (css : List (List Value)) (m : Mi) : Prop:=
 w.ownsRow base 50 4 V1 m.ss.length css.flatten ∧ w.ownsRow base 44 4 V2 m.world.length (m.world.flatMap encSh) ∧ (∀ b,V1.ownBlock = some b → V2.ownBlock ≠ some b) ∧ StsR w (RfX Z V1 V2) css m.ss
theorem RfM.keep {Z : Nat → Prop} {w w' : World} {base : Nat} {V1 V2 : Value} {css : List (List Value)} {m : Mi} (h : RfM Z w base V1 V2 css m) (hk : Keep w w') : RfM Z w' base V1 V2 css m:=
 ⟨ownsRow_same h.1 hk (fun i hi=>hi.2),ownsRow_same h.2.1 hk (fun i hi=>hi.2),h.2.2.1,h.2.2.2.keep hk⟩
theorem RfM.nil_ {Z : Nat → Prop} {w : World} {base : Nat} : RfM Z w base (.slice none 0 0) (.slice none 0 0) [] ⟨[],[]⟩:=by
 refine ⟨World.ownsRow_nil _ _ _ _,World.ownsRow_nil _ _ _ _,?_,StsR.nil_⟩
 intro b e
 cases e
theorem RfM.x {Z : Nat → Prop} {w : World} {base : Nat} {V1 V2 : Value} {css : List (List Value)} {m : Mi} (h : RfM Z w base V1 V2 css m) : ∀ i,RfX Z V1 V2 i → (base ≤ i ∧ i < w.heap.size) ∨ Z i:=fun i hi=>hi.elim (fun e=>.inl (h.1.lt i e)) (fun hi=>hi.elim (fun e=>.inl (h.2.1.lt i e)) .inr)
theorem RfM.push {Z : Nat → Prop} {w u w' : World} {base : Nat} {V1 V1' V2 : Value} {css : List (List Value)} {ss : List St} {l : List Sh} {cs : List Value} {s : St} {S : Nat → Prop} (h : RfM Z w base V1 V2 css ⟨ss,l⟩) (hB : base ≤ w.heap.size) (hk : Keep w u) (hr : StR u S cs s) (hc : cs.length = 4) (hS : ∀ i,S i → But u (RfX Z V1 V2) i)
  (hown : w'.ownsRow base 50 4 V1' (ss.length + 1) (css.flatten ++ cs)) (hg : u.grownBy w' V1.ownBlock) (hat : V1'.ownBlock = V1.ownBlock ∨ V1'.ownBlock = some u.heap.size) :
  RfM Z w' base V1' V2 (css ++ [cs]) ⟨ss ++ [s],l⟩ ∧ Same (· < base) w w':=by
 have hu:=h.keep hk
 obtain ⟨h1,h2,h3,h4⟩:=hu
 have hS2 : Same (fun i=>i < u.heap.size ∧ V1.ownBlock ≠ some i) u w':=Same.grown (Same.refl _ _) hg (fun i hi=>hi.1) (fun k hk' hh=>hh.2 hk')
 have hz:=hk.size
 have hlt:=h2.lt
 have n1 : ∀ i,But u (RfX Z V1 V2) i → ¬ RfX Z V1' V2 i:=fun i hi hx=>by
  rcases hx with e | e
  ·rcases hat with ha | ha
   ·rw [ha] at e; exact hi.2 (.inl e)
   ·rw [ha] at e; injection e with e; have:=hi.1; omega
  ·exact hi.2 (.inr e)
 refine ⟨⟨?_,ownsRow_own h2 hS2 (fun b hb=>⟨(hlt b hb).2,fun e=>h3 b e hb⟩),fun b e e2=>?_,?_⟩,?_⟩
 ·simpa using hown
 ·rcases hat with ha | ha
  ·rw [ha] at e; exact h3 b e e2
  ·rw [ha] at e; injection e with e; have:=(hlt b e2).2; omega
 ·exact (h4.snoc (hr.more hS) hc).same hS2 (fun i hi=>⟨hi.1,fun e=>hi.2 (.inl e)⟩) n1
 ·refine Same.trans (S:=(· < base)) (T:=fun i=>i < u.heap.size ∧ V1.ownBlock ≠ some i) (hk.mono (fun i (hi : i < base)=>by omega)) hS2 (fun i hi=>?_)
  have hi : i < base:=hi
  exact ⟨by omega,fun e=>by have:=(h1.lt i e).1; omega⟩
theorem RfM.grow {Z : Nat → Prop} {w w' : World} {base : Nat} {V1 V2 V2' : Value} {css : List (List Value)} {ss : List St} {l l' : List Sh} (h : RfM Z w base V1 V2 css ⟨ss,l⟩) (hB : base ≤ w.heap.size) (hown : w'.ownsRow base 44 4 V2' l'.length (l'.flatMap encSh)) (hs : Same (NotOwn V2 w) w w') (hat : ∀ b,V2'.ownBlock = some b → V2.ownBlock = some b ∨ w.heap.size ≤ b) :
  RfM Z w' base V1 V2' css ⟨ss,l'⟩ ∧ Same (· < base) w w':=by
 obtain ⟨h1,h2,h3,h4⟩:=h
 refine ⟨⟨ownsRow_own h1 hs (fun b hb=>⟨(h1.lt b hb).2,h3 b hb⟩),hown,fun b e e2=>?_,?_⟩,hs.mono (fun i (hi : i < base)=>⟨by omega,fun e=>by have:=(h2.lt i e).1; omega⟩)⟩
 ·rcases hat b e2 with e3 | e3
  ·exact h3 b e e3
  ·have:=(h1.lt b e).2; omega
 ·refine h4.same hs (fun i hi=>⟨hi.1,fun e=>hi.2 (.inr (.inl e))⟩) (fun i hi hx=>?_)
  rcases hx with e | e | e
  ·exact hi.2 (.inl e)
  ·rcases hat i e with e3 | e3
   ·exact hi.2 (.inr (.inl e3))
   ·have:=hi.1; omega
  ·exact hi.2 (.inr (.inr e))
theorem RfM.put {Z : Nat → Prop} {w w' wz : World} {base g n c : Nat} {V2 : Value} {cur : Array Value} {css : List (List Value)} {ss : List St} {l : List Sh} {cs : List Value} {s : St} {p : Nat} {S : Nat → Prop} (h : RfM Z w base (.slice (some ⟨g,0,none⟩) n c) V2 css ⟨ss,l⟩) (hcur : Blk w' g 50 cur) (hcs : cur.size = c * 4) (htk : cur.toList.take (n * 4) = css.flatten) (hnc : n ≤ c) (hcm : c ≤ maxLen) (hb : base ≤ g) (hnl : n = ss.length)
  (hp : p < n) (hk : Keep w w') (hr : StR w' S cs s) (hc : cs.length = 4) (hS : ∀ i,S i → But w' (RfX Z (.slice (some ⟨g,0,none⟩) n c) V2) i) (hbz : Blk wz g 50 (splice cur (p * 4) cs)) (hs : Same (· ≠ g) w' wz) :
  RfM Z wz base (.slice (some ⟨g,0,none⟩) n c) V2 (css.set p cs) ⟨ss.set p s,l⟩ ∧ Same (fun i=>i < w.heap.size ∧ i ≠ g) w wz:=by
 have hu:=h.keep hk
 obtain ⟨h1,h2,h3,h4⟩:=hu
 have hfl:=h4.flen
 have hcl : css.length = ss.length:=h4.1
 have hpc : p * 4 + 4 ≤ n * 4:=by omega
 refine ⟨⟨⟨?_,.inr ⟨g,c,splice cur (p * 4) cs,?_,hb,hbz,?_,hcm,by rw [splice_len]; exact hcs,?_⟩⟩,ownsRow_own h2 hs (fun b e e2=>h3 g rfl (e2 ▸ e)),h3,?_⟩,Same.trans (hk.mono (fun i hi=>hi.1)) hs (fun i hi=>hi.2)⟩
 ·rw [cells_len _ (h4.set_ (k:=p) (hr.more hS) hc).2.1]; simp [hcl]
 ·show Value.slice _ n c = Value.slice _ (ss.set p s).length c
  rw [List.length_set,← hnl]
 ·simp only [List.length_set]; omega
 ·simp only [List.length_set]
  rw [← hnl]
  apply List.ext_getElem?
  intro i
  rw [flatten_set css p cs h4.2.1 hc (by omega),List.getElem?_take]
  by_cases hi : i < n * 4
  ·rw [if_pos hi]
   have e1 : (splice cur (p * 4) cs).toList[i]? = (splice cur (p * 4) cs)[i]?:=by simp
   rw [e1,splice_get cs _ _ (by rw [hcs]; have:=Nat.mul_le_mul_right 4 hnc; omega),hc]
   by_cases h2 : p * 4 ≤ i ∧ i < p * 4 + 4
   ·rw [if_pos h2,if_pos h2]
   ·rw [if_neg h2,if_neg h2,← htk,List.getElem?_take,if_pos hi]
    simp
  ·rw [if_neg hi,if_neg (by omega),List.getElem?_eq_none (by rw [hfl,← hnl]; omega)]
 ·exact (h4.set_ (k:=p) (hr.more hS) hc).same hs (fun i hi e=>hi.2 (.inl (by rw [e]; rfl))) (fun i hi=>hi.2)
def outF (k : Int) (l : List Outp) : List Outp:=l.filter (fun o=>o.idx == k)
theorem outF_snoc {k : Int} {l : List Outp} {j : Nat} {y : Outp} (h : l[j]? = some y) : outF k (l.take (j + 1)) = outF k (l.take j) ++ (if y.idx == k then [y] else []):=by
 obtain ⟨hk,e⟩:=List.getElem?_eq_some_iff.1 h
 unfold outF
 rw [List.take_succ_eq_append_getElem hk,List.filter_append,e]
 cases hq : (y.idx == k) <;> simp [hq]
theorem outF_len (k : Int) (l : List Outp) (j : Nat) : (outF k (l.take j)).length ≤ j:=by
 unfold outF
 have:=List.length_filter_le (fun o : Outp=>o.idx == k) (l.take j)
 have:=List.length_take_le j l
 omega
def RShPost (base : Nat) (V : Value) (l' : List Sh) (w : World) (e : Ending) (w' : World) : Prop:=
 ∃ V' : Value,e = .returned V' ∧ w'.ownsRow base 44 4 V' l'.length (l'.flatMap encSh) ∧ Same (NotOwn V w) w w' ∧ (∀ b,V'.ownBlock = some b → V.ownBlock = some b ∨ w.heap.size ≤ b)
def RShRel (base : Nat) (V : Value) (l : List Sh) (p k : Int) (outs : List Outp) (W : World) (v o i : Value) (wr : World) : Prop:=
 ∃ j : Nat,j ≤ outs.length ∧ i = .int .i64 j ∧ o = .int .i64 (outF k (outs.take j)).length ∧ wr.ownsRow base 44 4 v (l ++ showS p 0 (outF k (outs.take j))).length ((l ++ showS p 0 (outF k (outs.take j))).flatMap encSh) ∧ Same (NotOwn V W) W wr ∧ (∀ b,v.ownBlock = some b → V.ownBlock = some b ∨ W.heap.size ≤ b)
set_option maxHeartbeats 16000000 in
theorem rshown_any (w : World) (base : Nat) (S : Nat → Prop) (A : Option Addr) (n c : Nat) (l : List Sh) (B1 B2 B3 B4 : Option Addr) (p1 q1 p2 q2 p3 q3 p4 q4 : Nat) (outs : List Outp) (p k : Int) (hB : base ≤ w.heap.size) (hv : w.ownsRow base 44 4 (.slice A n c) l.length (l.flatMap encSh)) (hnl : n = l.length) (hS : ∀ i,S i → NotOwn (.slice A n c) w i) (ho : Sl encOut 2 w S B4 p4 q4 outs) (hl : l.length ≤ 1000000) (hol : outs.length ≤ 10000) :
  Calls Tryz.prog 44 #[.slice A n c,.agg #[.slice B1 p1 q1,.slice B2 p2 q2,.slice B3 p3 q3,.slice B4 p4 q4],.int .i64 p,.int .i64 k] w (RShPost base (.slice A n c) (l ++ showS p 0 (outF k outs)) w):=by
 obtain ⟨i0,hi0,iz0,is0,ib0⟩:=info_of info_Shown
 have hpl:=ho.1
 have hp4 : p4 ≤ 10000:=by omega
 generalize hW : w.alloc (.cells #[.slice B1 p1 q1,.slice B2 p2 q2,.slice B3 p3 q3,.slice B4 p4 q4] 50) = W
 have hkW : Keep w W:=hW ▸ Keep.new w _
 have hbs : Blk W w.heap.size 50 #[.slice B1 p1 q1,.slice B2 p2 q2,.slice B3 p3 q3,.slice B4 p4 q4]:=hW ▸ Blk.new w _ _
 have hz:=hbs.lt
 have hvW:=ownsRow_same hv hkW (fun i hi=>hi.2)
 have hoW:=(ho.keep (hkW.mono (fun i hi=>(hS i hi).1))).more (T:=NotOwn (.slice A n c) W) (fun i hi=>⟨by have:=(hS i hi).1; omega,(hS i hi).2⟩)
 have hbn : NotOwn (.slice A n c) W w.heap.size:=⟨hz,fun e=>by have:=(hv.lt _ e).2; omega⟩
 have fin : ∀ (v : Value) (wr : World),wr.ownsRow base 44 4 v (l ++ showS p 0 (outF k outs)).length ((l ++ showS p 0 (outF k outs)).flatMap encSh) → Same (NotOwn (.slice A n c) W) W wr → (∀ b,v.ownBlock = some b → (Value.slice A n c).ownBlock = some b ∨ W.heap.size ≤ b) → RShPost base (.slice A n c) (l ++ showS p 0 (outF k outs)) w (.returned v) wr:=fun v wr h1 h2 h3=>⟨v,rfl,h1,Same.trans (hkW.mono (fun i hi=>hi.1)) h2 (fun i hi=>⟨by have:=hi.1; omega,hi.2⟩),fun b hb=>(h3 b hb).imp id (fun h=>by omega)⟩
 have hrel0 : RShRel base (.slice A n c) l p k outs W (.slice A n c) (.int .i64 0) (.int .i64 0) W:=⟨0,Nat.zero_le _,rfl,rfl,by simpa [outF,showS] using hvW,Same.refl _ _,fun b hb=>.inl hb⟩
 have HKW:=Lib.hid hkW
 have HBS:=Lib.hid hbs
 have HVW:=Lib.hid hvW
 have HOW:=Lib.hid hoW
 have HPL:=Lib.hid hpl
 have HBN:=Lib.hid hbn
 have HI0:=Lib.hid hi0
 have IZ0:=Lib.hid iz0
 have IS0:=Lib.hid is0
 have IB0:=Lib.hid ib0
 have FIN:=Lib.hid fin
 have HREL0:=Lib.hid hrel0
 have HNL:=Lib.hid hnl
 clear hkW hbs hvW hoW hpl hbn hi0 iz0 is0 ib0 fin hrel0 hnl
 clear ho hv hS
 go_enter Tryz.func44,Tryz.ntmps44
 go_upto_region 1 with fail
 clear hW
 go_wp2_with fail
 go_loopw [0,9,10] (fun v o i wr=>RShRel base (.slice A n c) l p k outs W v o i wr) (fun _ _ i _=>p4 - (intOf i).toNat)
 case atStart=>exact HREL0.out
 case round=>
  clear HREL0
  obtain ⟨j,hjl,rfl,rfl,hown,hsr,hat⟩:=hrel
  have hzr:=hsr.size
  have hbsr:=hsr.blk HBS.out HBN.out
  have c3 : wr.cell? ⟨w.heap.size,3,none⟩ = some (.slice B4 p4 q4):=by rw [hbsr.cell]; rfl
  have hlen:=outF_len k outs j
  by_cases hj : j < p4
  ·obtain ⟨b',off',y,rfl,hbb,hy,hcy⟩:=(HOW.out.keep hsr).at_ encOut_len hj
   have hd1 : decide (j < p4) = true:=by simpa using hj
   have hd2 : (0 : Int) ≤ j:=by omega
   have hd3 : (j : Int) < p4:=by omega
   have y0 : wr.cell? ⟨b',off' + j * 2,none⟩ = some (.int .i64 y.idx):=hcy 0 _ rfl
   have y1 : wr.cell? ⟨b',off' + j * 2 + 1,none⟩ = some (.int .i64 y.val):=hcy 1 _ rfl
   have hsn:=outF_snoc (k:=k) hy
   have hj1 : j + 1 ≤ outs.length:=by have:=HPL.out; omega
   clear hcy hy hbb
   obtain ⟨v,hvv⟩ : ∃ v : Value,v = u0:=⟨_,rfl⟩
   subst hvv
   cases q : (y.idx == k)
   ·have hsn' : outF k (outs.take (j + 1)) = outF k (outs.take j):=by rw [hsn,q]; simp
    have hfin : RShRel base (.slice A n c) l p k outs W v (.int .i64 (outF k (outs.take j)).length) (.int .i64 ((j : Int) + 1)) wr:=⟨j + 1,hj1,by simp,by rw [hsn'],by rw [hsn']; exact hown,hsr,hat⟩
    clear hsn
    have HFIN:=Lib.hid hfin
    have HOWN:=Lib.hid hown
    have HSR:=Lib.hid hsr
    have HAT:=Lib.hid hat
    have HSN':=Lib.hid hsn'
    have HBSR:=Lib.hid hbsr
    clear hfin hown hsr hat hsn' hbsr
    go_wp2_with fail
    go_roundw
    case rel=>exact HFIN.out
    case measure=>simp [intOf]; omega
   ·have hsn' : outF k (outs.take (j + 1)) = outF k (outs.take j) ++ [y]:=by rw [hsn,q]; simp
    have hshow : showS p 0 (outF k (outs.take (j + 1))) = showS p 0 (outF k (outs.take j)) ++ [⟨p,y.idx,(outF k (outs.take j)).length,y.val⟩]:=by rw [hsn',showS_snoc]; simp
    have hyk : y.idx = k:=by simpa using q
    rw [hyk] at hshow y0
    have hkk : (k == k) = true:=by simp
    clear q
    have hlx : (l ++ showS p 0 (outF k (outs.take j))).length ≤ 1010000:=by rw [List.length_append,showS_len]; omega
    generalize hX : l ++ showS p 0 (outF k (outs.take j)) = X at *
    generalize hO : (outF k (outs.take j)).length = oc at *
    have hoc : (outF k (outs.take (j + 1))).length = oc + 1:=by rw [hsn',List.length_append,hO]; rfl
    have hoc9 : oc ≤ 10000:=by omega
    clear hsn hsn' hO
    obtain ⟨Av,cv,hvv,hnv,hcv⟩:=own_form hown
    subst hvv
    have HOWN:=Lib.hid hown
    have HSR:=Lib.hid hsr
    have HAT:=Lib.hid hat
    have HBSR:=Lib.hid hbsr
    have HX:=Lib.hid hX
    have HSHOW:=Lib.hid hshow
    have HOC:=Lib.hid hoc
    have HYK:=Lib.hid hyk
    clear hown hsr hat hbsr hX hshow hoc hyk
    go_upto_region 6 with fail
    go_wp2_with (first
     | (refine wpList_bld rfl 44 _ rfl _ [(0,.int .i64 p),(1,.int .i64 k),(2,.int .i64 oc),(3,.int .i64 y.val)] rfl (bld_shown _ _ _ _) ?_)
     | (refine wpList_buildX rfl 37 44 1 _ rfl Tryz.underlying37 _ [(0,.agg #[.int .i64 p,.int .i64 k,.int .i64 oc,.int .i64 y.val])] rfl (built_shown _ _ _ _) ?_; intro w5 hb5 hk5 hz5; refine Hid.out ?_))
    refine Lib.hid ?_
    have hown5:=ownsRow_same HOWN.out hk5 (fun i hi=>hi.2)
    have hrd : Reads w5 (fun i=>i = wr.heap.size) 4 (some ⟨wr.heap.size,0,none⟩) 1 (encSh ⟨p,k,oc,y.val⟩):=⟨rfl,fun _=>⟨wr.heap.size,0,rfl,rfl,fun j u hu=>by rw [hb5.cell]; simpa [encSh] using hu⟩⟩
    have hzw:=HSR.out.size
    have hkw:=HKW.out.size
    have HOWN5:=Lib.hid hown5
    have HRD:=Lib.hid hrd
    have HK5:=Lib.hid hk5
    clear hown5 hrd hk5
    clear hb5
    go_wp2_with (at_builtin; refine wpList_append_any _ rfl (.tmp 26) (.tmp 37) 37 rfl base 44 i0 _ 4 32 Tryz.underlying37 HI0.out IZ0.out IS0.out IB0.out rfl (by omega) (.slice Av X.length cv) X.length (X.flatMap encSh) rfl HOWN5.out _ (some ⟨wr.heap.size,0,none⟩) 1 1 (encSh ⟨p,k,oc,y.val⟩) rfl HRD.out (encSh_one _) (by simp [maxLen]; omega) (by omega) (by omega) ?_; intro v9 w9 howz hgz hatz; have HOW9:=Lib.hid howz; have HG9:=Lib.hid hgz; have HAT9:=Lib.hid hatz; clear howz hgz hatz; refine Hid.out ?_)
    refine Lib.hid ?_
    have hs9 : Same (NotOwn (.slice A n c) W) W w9:=by
     refine Same.trans HSR.out (S:=NotOwn (.slice A n c) W) (T:=fun i=>i < wr.heap.size ∧ (Value.slice Av X.length cv).ownBlock ≠ some i) ?_ (fun i hi=>⟨by have:=hi.1; omega,fun e=>?_⟩)
     ·exact Same.grown (HK5.out.mono (fun i hi=>hi.1)) HG9.out (fun i hi=>by have:=hi.1; omega) (fun k hk hh=>hh.2 hk)
     ·rcases HAT.out i e with h | h
      ·exact hi.2 h
      ·have:=hi.1; omega
    have hfin : RShRel base (.slice A n c) l p k outs W v9 (.int .i64 ((oc : Int) + 1)) (.int .i64 ((j : Int) + 1)) w9:=by
     refine ⟨j + 1,hj1,by simp,by rw [HOC.out]; simp,?_,hs9,fun b hb=>?_⟩
     ·rw [HSHOW.out,← List.append_assoc,HX.out]
      simpa using HOW9.out
     ·rcases HAT9.out with h | h
      ·rw [h] at hb; exact HAT.out b hb
      ·rw [h] at hb; injection hb with hb; exact .inr (by omega)
    have HFIN:=Lib.hid hfin
    clear hfin
    clear hs9 HOW9 HG9 HAT9
    go_wp2_with fail
    go_roundw
    case rel=>exact HFIN.out
    case measure=>simp [intOf]; omega
  ·have hd1 : decide (j < p4) = false:=by simpa using hj
   have hall : outs.take j = outs:=List.take_of_length_le (by have:=HPL.out; omega)
   rw [hall] at hown
   have hfin:=FIN.out _ _ hown hsr hat
   clear hown hsr hat hall
   have HFIN:=Lib.hid hfin
   have HBSR:=Lib.hid hbsr
   clear hfin hbsr
   go_wp2_with fail
   go_ret
   exact HFIN.out
end Go.Proofs.YtipegaojiokppaaGreatDoor
namespace Go.Proofs.YtipegaojiokppaaGreatDoor
open Go.RowKit Go.Proofs
theorem built_st1 (A1 A2 A3 A4 : Option Addr) (n1 c1 n2 c2 n3 c3 n4 c4 : Nat) : builtS Tryz.prog 50 1 [(0,.agg #[.slice A1 n1 c1,.slice A2 n2 c2,.slice A3 n3 c3,.slice A4 n4 c4])] = some #[.slice A1 n1 c1,.slice A2 n2 c2,.slice A3 n3 c3,.slice A4 n4 c4]:=by kernel_rfl
theorem outF_new {c : Cd} {p n : Int} {s : St} {e : Ev} (h : ∀ y ∈ s.outs,y.idx ≤ s.events.length) : outF ((s.events.length : Int) + 1) (nextS c p n s e).outs = (nextS c p n s e).outs.drop s.outs.length:=by
 obtain ⟨-,b,hb,hi⟩:=nextS_adds c p n s e
 rw [hb]
 unfold outF
 rw [List.filter_append,List.drop_left]
 have h1 : s.outs.filter (fun o=>o.idx == (s.events.length : Int) + 1) = []:=by
  rw [List.filter_eq_nil_iff]
  intro y hy hh
  have:=h y hy
  simp at hh
  omega
 have h2 : b.filter (fun o=>o.idx == (s.events.length : Int) + 1) = b:=by
  rw [List.filter_eq_self]
  intro y hy
  simpa using hi y hy
 rw [h1,h2]
 rfl
theorem outF_start (c : Cd) (p n : Int) : outF 0 (startS c p n).outs = (startS c p n).outs:=by
 unfold outF
 rw [List.filter_eq_self]
 intro y hy
 have:=(replayS_idx c p n []).2 y (by rw [← startS_eq]; exact hy)
 simp at this
 have h0 : y.idx = 0:=by omega
 simp [h0]
theorem rfm_at {Z : Nat → Prop} {w : World} {base n c : Nat} {A : Option Addr} {V2 : Value} {css : List (List Value)} {m : Mi} (h : RfM Z w base (.slice A n c) V2 css m) (hn : m.ss.length = n) {k : Nat} (hk : k < n) :
  ∃ (g : Nat) (cur : Array Value) (B1 B2 B3 B4 : Option Addr) (p1 q1 p2 q2 p3 q3 p4 q4 : Nat),A = some ⟨g,0,none⟩ ∧ base ≤ g ∧ Blk w g 50 cur ∧ cur.size = c * 4 ∧ n ≤ c ∧ c ≤ maxLen ∧ cur.toList.take (n * 4) = css.flatten ∧
   StR w (But w (RfX Z (.slice A n c) V2)) [.slice B1 p1 q1,.slice B2 p2 q2,.slice B3 p3 q3,.slice B4 p4 q4] (m.ss.getD k zeroSt) ∧ w.rangeAt g (k * 4) [.slice B1 p1 q1,.slice B2 p2 q2,.slice B3 p3 q3,.slice B4 p4 q4]:=by
 obtain ⟨h1,h2,h3,h4⟩:=h
 rw [hn] at h1
 obtain ⟨g,cur,hA,hb,hg,hcs,hnc,hcm,htk⟩:=own_open h1 (by omega)
 obtain ⟨B1,B2,B3,B4,p1,q1,p2,q2,p3,q3,p4,q4,e,hr⟩:=h4.at_ (k:=k) (by omega)
 refine ⟨g,cur,B1,B2,B3,B4,p1,q1,p2,q2,p3,q3,p4,q4,hA,hb,hg,hcs,hnc,hcm,htk,hr,fun j u hu=>?_⟩
 have hj : j < 4:=(List.getElem?_eq_some_iff.1 hu).1
 have hx:=cells_get css k j _ h4.2.1 e hj
 rw [hu,← htk,List.getElem?_take,if_pos (by omega)] at hx
 rw [hg.cell]
 simpa using hx
theorem RfM.sl {Z : Nat → Prop} {w : World} {base n c : Nat} {A : Option Addr} {V2 : Value} {css : List (List Value)} {m : Mi} (h : RfM Z w base (.slice A n c) V2 css m) (hn : m.ss.length = n) (hnc : n ≤ c) (hc : c ≤ maxLen) (hZ : ∀ i,Z i → i < base) : SlR w (But w Z) 4 (StR w (But w Z)) A n c m.ss:=by
 have h1:=h.1
 subst hn
 exact h.2.2.2.sl (T:=But w Z) hnc hc (Reads.of_own h1) (fun i hi=>⟨hi.2,fun hz=>by have:=hZ i hz; have:=hi.1; omega⟩) (fun i hi=>⟨hi.1,fun hz=>hi.2 (.inr (.inr hz))⟩)
def RRunPost (Z : Nat → Prop) (cs : List Cd) (l : List Chc) (w : World) (e : Ending) (w' : World) : Prop:=
 Keep w w' ∧ ((∃ (m : Mi) (base : Nat) (V1 V2 : Value) (css : List (List Value)),runI cs l = .ok m ∧ e = .returned (.tuple #[V1,V2,.int .i64 0]) ∧ w.heap.size ≤ base ∧ RfM Z w' base V1 V2 css m) ∨
  (∃ k : Int,runI cs l = .error k ∧ k ≠ 0 ∧ e = .returned (.tuple #[.slice none 0 0,.slice none 0 0,.int .i64 k])))
def RRun1 (Z : Nat → Prop) (cs : List Cd) (base : Nat) (W : World) (v1 v2 i : Value) (wr : World) : Prop:=
 ∃ (k : Nat) (css : List (List Value)),i = .int .i64 k ∧ k ≤ cs.length ∧ RfM Z wr base v1 v2 css (startI cs k) ∧ Same (· < base) W wr
def RRun2 (Z : Nat → Prop) (cs : List Cd) (l : List Chc) (base : Nat) (W : World) (v1 v2 i : Value) (wr : World) : Prop:=
 ∃ (k : Nat) (css : List (List Value)) (m : Mi),i = .int .i64 k ∧ k ≤ l.length ∧ playI cs (startI cs cs.length) (l.take k) = .ok m ∧ m.world.length ≤ 8 * (cs.length + k) ∧ RfM Z wr base v1 v2 css m ∧ Same (· < base) W wr
set_option maxHeartbeats 32000000 in
theorem rfrun_any (w : World) (S Z : Nat → Prop) (AC AL : Option Addr) (n cC nl cl : Nat) (x1 x2 : Int) (cs : List Cd) (l : List Chc) (hS : ∀ i,S i → i < w.heap.size) (hZ : ∀ i,Z i → i < w.heap.size ∧ ¬ S i) (hC : CdsR w S AC n cC cs) (hic : ∀ c ∈ cs,c.init.length ≤ 1000000) (hl : Sl encCh 6 w S AL nl cl l) (hn : n ≤ 1000) (hnl : nl ≤ 1000) :
  Calls Tryz.prog 28 #[.agg #[.slice AC n cC,.int .i64 x1,.int .i64 x2],.slice AL nl cl] w (RRunPost Z cs l w):=by
 obtain ⟨i0,hi0,iz0,is0,ib0⟩:=info_of info_State
 have hcl:=hC.1
 have hll:=hl.1
 generalize hW : w.alloc (.cells #[.slice AC n cC,.int .i64 x1,.int .i64 x2] 27) = W
 have hkW : Keep w W:=hW ▸ Keep.new w _
 have hbc : Blk W w.heap.size 27 #[.slice AC n cC,.int .i64 x1,.int .i64 x2]:=hW ▸ Blk.new w _ _
 have hz : w.heap.size < W.heap.size:=hbc.lt
 have c0 : W.cell? ⟨w.heap.size,0,none⟩ = some (.slice AC n cC):=by rw [hbc.cell]; rfl
 have bad : ∀ k : Int,runI cs l = .error k → k ≠ 0 → RRunPost Z cs l w (.returned (.tuple #[.slice none 0 0,.slice none 0 0,.int .i64 k])) W:=fun k h h0=>⟨hkW,.inr ⟨k,h,h0,rfl⟩⟩
 have HS:=Lib.hid hS
 have HZ:=Lib.hid hZ
 have HC:=Lib.hid hC
 have HIC:=Lib.hid hic
 have HL:=Lib.hid hl
 have HCL:=Lib.hid hcl
 have HLL:=Lib.hid hll
 have HKW:=Lib.hid hkW
 have HBC:=Lib.hid hbc
 have HI0:=Lib.hid hi0
 have IZ0:=Lib.hid iz0
 have IS0:=Lib.hid is0
 have IB0:=Lib.hid ib0
 have BAD:=Lib.hid bad
 clear hS hZ hC hic hl hcl hll hkW hbc hi0 iz0 is0 ib0 bad
 go_enter Tryz.func28,Tryz.ntmps28
 go_upto_region 2 with fail
 clear hW
 by_cases hn1 : n < 1
 ·have t1 : decide ((n : Int) < 1) = true:=by simp; omega
  have hfin:=BAD.out 3 (by unfold runI; rw [if_pos (.inl (by have:=HCL.out; omega))]) (by omega)
  have HFIN:=Lib.hid hfin
  clear hfin
  go_wp2_with fail
  go_ret3
  exact HFIN.out
 have t1 : decide ((n : Int) < 1) = false:=by simp; omega
 by_cases hn5 : 5 < n
 ·have t2 : decide ((5 : Int) < n) = true:=by simp; omega
  have hfin:=BAD.out 3 (by unfold runI; rw [if_pos (.inr (by have:=HCL.out; omega))]) (by omega)
  have HFIN:=Lib.hid hfin
  clear hfin
  go_wp2_with fail
  go_ret3
  exact HFIN.out
 have t2 : decide ((5 : Int) < n) = false:=by simp; omega
 by_cases hl3 : 320 < nl
 ·have t3 : decide ((320 : Int) < nl) = true:=by simp; omega
  have hfin:=BAD.out 4 (by unfold runI; rw [if_neg (by have:=HCL.out; omega),if_pos (by have:=HLL.out; omega)]) (by omega)
  have HFIN:=Lib.hid hfin
  clear hfin
  go_wp2_with fail
  go_ret3
  exact HFIN.out
 have t3 : decide ((320 : Int) < nl) = false:=by simp; omega
 have hrun : runI cs l = playI cs (startI cs cs.length) l:=runI_of (by have:=HCL.out; omega) (by have:=HCL.out; omega) (by have:=HLL.out; omega)
 have HRUN:=Lib.hid hrun
 clear hrun
 go_wp2_with fail
 clear c0
 have hrel0 : RRun1 Z cs W.heap.size W (.slice none 0 0) (.slice none 0 0) (.int .i64 0) W:=⟨0,[],rfl,Nat.zero_le _,RfM.nil_,Same.refl _ _⟩
 have HREL0:=Lib.hid hrel0
 clear hrel0
 go_loopw [8,9,10] (fun v1 v2 i wr=>RRun1 Z cs W.heap.size W v1 v2 i wr) (fun _ _ i _=>n - (intOf i).toNat)
 case atStart=>exact HREL0.out
 case round=>
  obtain ⟨k,css,rfl,hkn,hmr,hsr⟩:=hrel
  have hzr:=hsr.size
  obtain ⟨v1,hv1⟩ : ∃ v1 : Value,v1 = u8:=⟨_,rfl⟩
  subst hv1
  obtain ⟨v2,hv2⟩ : ∃ v2 : Value,v2 = u9:=⟨_,rfl⟩
  subst hv2
  by_cases hk : k < n
  ·have d1 : decide (k < n) = true:=by simpa using hk
   have hks : Same S w wr:=Same.trans (Same.mono HKW.out HS.out) (hsr.mono (fun i (hi : S i)=>by have:=HS.out i hi; show i < W.heap.size; omega)) (fun i hi=>hi)
   obtain ⟨bC,oC,D0,D1,D2,D3,D4,d0,f0,d1',f1,d2,f2,d3,f3,d4,f4,rfl,hCbC,hcd,hcr⟩:=(HC.out.keep hks).at_ hk
   have hbcr:=hsr.blk HBC.out hz
   have k0 : wr.cell? ⟨w.heap.size,0,none⟩ = some (.slice (some ⟨bC,oC,none⟩) n cC):=by rw [hbcr.cell]; rfl
   have g1 : (k : Int) < n:=by omega
   have g2 : (0 : Int) ≤ k:=by omega
   obtain ⟨A1,c1,hv1,hn1',hc1'⟩:=own_form hmr.1
   have hlk : (startI cs k).ss.length = k:=startI_len cs k
   rw [hlk] at hv1 hn1'
   subst hv1
   have hX:=hmr.x
   have hCS : ∀ i,S i → But wr (RfX Z (.slice A1 k c1) v2) i:=fun i hi=>⟨by have:=HS.out i hi; omega,fun h=>by rcases hX i h with h | h; (have:=HS.out i hi; omega); exact (HZ.out i h).2 hi⟩
   have hwl:=startI_world cs k
   have hol:=(replayS_len (cs.getD k zeroCd) k n []).2.2.1
   rw [← startS_eq,List.length_nil] at hol
   have hrg : wr.rangeAt bC (oC + k * 5) [.slice D0 d0 f0,.slice D1 d1' f1,.slice D2 d2 f2,.slice D3 d3 f3,.slice D4 d4 f4]:=hcr
   have key:=rstart_any wr (But wr (RfX Z (.slice A1 k c1) v2)) [.slice D0 d0 f0,.slice D1 d1' f1,.slice D2 d2 f2,.slice D3 d3 f3,.slice D4 d4 f4] (cs.getD k zeroCd) k n (fun i hi=>hi.1) (hcd.more hCS)
   have hc1m : c1 ≤ 9223372036854775807:=hc1'
   clear hcr hCS
   have HX:=Lib.hid hX
   have HRG:=Lib.hid hrg
   have HMR:=Lib.hid hmr
   have HSR:=Lib.hid hsr
   have HBCR:=Lib.hid hbcr
   have HCD:=Lib.hid hcd
   have HKS:=Lib.hid hks
   have KEY:=Lib.hid key
   have HLK:=Lib.hid hlk
   clear hX hrg hmr hsr hbcr hcd hks key hlk
   go_wp2_with (refine wpList_load_mid rfl _ (.tmp 36) rfl bC (oC + k * 5) rfl [.slice D0 d0 f0,.slice D1 d1' f1,.slice D2 d2 f2,.slice D3 d3 f3,.slice D4 d4 f4] _ HRG.out Tryz.underlying63 rfl (by kernel_rfl) ?_)
   refine KEY.out.mono ?_
   rintro e w3 ⟨cs3,rfl,hr3',hk3⟩
   obtain ⟨E1,E2,E3,E4,a1,b1,a2,b2,a3,b3,a4,b4,rfl,hr3⟩:=st_open hr3'
   have hz3:=hk3.size
   have HR3:=Lib.hid hr3
   have HK3:=Lib.hid hk3
   clear hr3 hk3
   clear hr3' k0
   go_wp2_with (refine wpList_buildX rfl 33 50 1 _ rfl Tryz.underlying33 _ [(0,.agg #[.slice E1 a1 b1,.slice E2 a2 b2,.slice E3 a3 b3,.slice E4 a4 b4])] rfl (built_st1 _ _ _ _ _ _ _ _ _ _ _ _) ?_; intro w5 hb5 hk5 hz5; refine Hid.out ?_)
   refine Lib.hid ?_
   have hk35:=Keep.trans HK3.out hk5
   have hm5:=HMR.out.keep hk35
   have hr5:=HR3.out.keep (hk5.mono (fun i hi=>by have h:=Sn.lt (S:=But wr (RfX Z (.slice A1 k c1) v2)) (w:=wr) (w':=w3) (fun i hi=>hi.1) hz3 i hi; exact h))
   have hrd : Reads w5 (fun i=>i = w3.heap.size) 4 (some ⟨w3.heap.size,0,none⟩) 1 [.slice E1 a1 b1,.slice E2 a2 b2,.slice E3 a3 b3,.slice E4 a4 b4]:=⟨rfl,fun _=>⟨w3.heap.size,0,rfl,rfl,fun j u hu=>by rw [hb5.cell]; simpa using hu⟩⟩
   have HK35:=Lib.hid hk35
   have HM5:=Lib.hid hm5
   have HR5:=Lib.hid hr5
   have HRD:=Lib.hid hrd
   have HK5:=Lib.hid hk5
   have HB5:=Lib.hid hb5
   clear hk35 hm5 hr5 hrd hk5 hb5
   go_wp2_with (at_builtin; refine wpList_append_any _ rfl (.tmp 32) (.tmp 41) 33 rfl W.heap.size 50 i0 _ 4 96 Tryz.underlying33 HI0.out IZ0.out IS0.out IB0.out rfl (by omega) (.slice A1 k c1) k css.flatten rfl (by have:=HM5.out.1; rw [HLK.out] at this; exact this) _ (some ⟨w3.heap.size,0,none⟩) 1 1 [.slice E1 a1 b1,.slice E2 a2 b2,.slice E3 a3 b3,.slice E4 a4 b4] rfl HRD.out (by intro u hu; simp at hu; rcases hu with h | h | h | h <;> subst h <;> rfl) (by simp [maxLen]; omega) (by omega) (by omega) ?_; intro v9 w9 howz hgz hatz; have HOW9:=Lib.hid howz; have HG9:=Lib.hid hgz; have HAT9:=Lib.hid hatz; clear howz hgz hatz; refine Hid.out ?_)
   refine Lib.hid ?_
   obtain ⟨hm9,hs9⟩:=RfM.push (ss:=(startI cs k).ss) (l:=(startI cs k).world) (S:=Sn (But wr (RfX Z (.slice A1 k c1) v2)) wr w3) HMR.out HSR.out.size HK35.out HR5.out rfl (fun i hi=>by
    rcases hi with h | h
    ·exact ⟨Nat.lt_of_lt_of_le h.1 HK35.out.size,h.2⟩
    ·exact ⟨by have:=h.2; omega,fun hh=>by rcases HX.out i hh with h1 | h1; (have h2:=h.1; omega); (have h3:=(HZ.out i h1).1; have h2:=h.1; omega)⟩) (by rw [HLK.out]; exact HOW9.out) HG9.out HAT9.out
   have hl9 : ((startI cs k).ss ++ [startS (cs.getD k zeroCd) k n]).length = k + 1:=by rw [List.length_append,HLK.out]; rfl
   obtain ⟨A9,c9,hv9,hn9,hc9⟩:=own_form HOW9.out
   subst hv9
   obtain ⟨g,cur,B1,B2,B3,B4,p1,q1,p2,q2,p3,q3,p4,q4,rfl,hbg,hgb,hcs9,hnc9,hcm9,htk9,hr9,hrg9⟩:=rfm_at hm9 hl9 (k:=k) (by omega)
   have hgt : ((startI cs k).ss ++ [startS (cs.getD k zeroCd) k n]).getD k zeroSt = startS (cs.getD k zeroCd) k n:=by rw [getD_right (by rw [HLK.out]; omega),HLK.out,Nat.sub_self]; rfl
   have hr9' : StR w9 (But w9 (RfX Z (.slice (some ⟨g,0,none⟩) (k + 1) c9) v2)) [.slice B1 p1 q1,.slice B2 p2 q2,.slice B3 p3 q3,.slice B4 p4 q4] (startS (cs.getD k zeroCd) k n):=by rw [← hgt]; exact hr9
   obtain ⟨A2,c2,hv2,hn2,hc2⟩:=own_form hm9.2.1
   subst hv2
   have hz9:=hs9.size
   have hcall:=rshown_any w9 W.heap.size (But w9 (RfX Z (.slice (some ⟨g,0,none⟩) (k + 1) c9) (.slice A2 (startI cs k).world.length c2))) A2 (startI cs k).world.length c2 (startI cs k).world B1 B2 B3 B4 p1 q1 p2 q2 p3 q3 p4 q4 (startS (cs.getD k zeroCd) k n).outs k 0 (by omega) hm9.2.1 rfl (fun i hi=>⟨hi.1,fun e=>hi.2 (.inr (.inl e))⟩) (st_sl hr9').2.2.2 (by omega) (by omega)
   rw [outF_start] at hcall
   have e1 : (k : Int) < ((k + 1 : Nat) : Int):=by omega
   have hfr9 : Same (· < W.heap.size) W w9:=Same.trans HSR.out hs9 (fun i hi=>hi)
   have hlw : (startI cs k).world.length ≤ 8 * k:=hwl
   clear hgt hr9 hr9' hn9 hcs9 hnc9 hcm9 htk9 hgb hbg hs9
   have HM9:=Lib.hid hm9
   have HRG9:=Lib.hid hrg9
   have HCALL:=Lib.hid hcall
   have HFR9:=Lib.hid hfr9
   clear hm9 hrg9 hcall hfr9
   clear HOW9 HG9 HAT9 HRD HR5 HM5 HK35 HR3 HK3 HX
   go_wp2_with (refine wpList_load_mid rfl _ (.tmp 46) rfl g (k * 4) rfl [.slice B1 p1 q1,.slice B2 p2 q2,.slice B3 p3 q3,.slice B4 p4 q4] _ HRG9.out Tryz.underlying50 rfl (by kernel_rfl) ?_)
   refine HCALL.out.mono ?_
   rintro e w10 ⟨v10,rfl,hown10,hs10,hat10⟩
   obtain ⟨hm10,hs10'⟩:=RfM.grow HM9.out (by omega) hown10 hs10 hat10
   have hfin : RRun1 Z cs W.heap.size W (.slice (some ⟨g,0,none⟩) (k + 1) c9) v10 (.int .i64 ((k : Int) + 1)) w10:=⟨k + 1,_,by simp,by have:=HCL.out; omega,by
    have e2 : startI cs (k + 1) = ⟨(startI cs k).ss ++ [startS (cs.getD k zeroCd) k n],(startI cs k).world ++ showS k 0 (startS (cs.getD k zeroCd) k n).outs⟩:=by rw [startI,← HCL.out]
    rw [e2]
    exact hm10,Same.trans HFR9.out hs10' (fun i hi=>hi)⟩
   have HFIN:=Lib.hid hfin
   clear hfin
   clear hm10 hs10 hs10' hown10 hat10
   go_wp2_with fail
   go_roundw
   case rel=>exact HFIN.out
   case measure=>simp [intOf]; omega
  ·have d1 : decide (k < n) = false:=by simpa using hk
   have hke : k = cs.length:=by have:=HCL.out; omega
   obtain ⟨A1,c1,hv1,hn1',hc1'⟩:=own_form hmr.1
   have hlk : (startI cs k).ss.length = n:=by rw [startI_len,hke]; exact HCL.out.symm
   rw [hlk] at hv1 hn1'
   subst hv1
   obtain ⟨g,cur0,hA0,hbg,-⟩:=own_open (by have:=hmr.1; rw [hlk] at this; exact this) (show 0 < n by omega)
   subst hA0
   have hc1m : c1 ≤ 9223372036854775807:=hc1'
   have hrl2 : RRun2 Z cs l W.heap.size wr (.slice (some ⟨g,0,none⟩) n c1) v2 (.int .i64 0) wr:=⟨0,css,_,rfl,Nat.zero_le _,rfl,by have:=startI_world cs cs.length; omega,by rw [← hke]; exact hmr,Same.refl _ _⟩
   have hfr : Keep W wr:=hsr
   have HRL2:=Lib.hid hrl2
   have HFR:=Lib.hid hfr
   clear hrl2 hfr
   clear hmr hsr hke HREL0 hlk
   obtain ⟨wq,hwq⟩ : ∃ wq : World,wq = wr:=⟨_,rfl⟩
   subst hwq
   go_wp2_with fail
   go_loopw [9,11] (fun v2 i wr=>RRun2 Z cs l W.heap.size wq (.slice (some ⟨g,0,none⟩) n c1) v2 i wr) (fun _ i _=>nl - (intOf i).toNat)
   case atStart=>exact HRL2.out
   case round=>
    clear HRL2
    obtain ⟨j,css,m,rfl,hjl,hplay,hwl,hmr,hsr⟩:=hrel
    obtain ⟨v2,hv2⟩ : ∃ v2 : Value,v2 = u9:=⟨_,rfl⟩
    subst hv2
    have hzr':=hsr.size
    have hks : Same S w wr:=Same.trans (Same.mono (Keep.trans HKW.out HFR.out) HS.out) (hsr.mono (fun i (hi : S i)=>by have:=HS.out i hi; show i < W.heap.size; omega)) (fun i hi=>hi)
    have hfrr : Keep W wr:=Same.trans HFR.out hsr (fun i hi=>hi)
    have hinv : InvI cs m:=playI_inv _ _ (startI_inv cs) hplay
    have hcl:=HCL.out
    have hml : m.ss.length = n:=by rw [hinv.len]; exact hcl.symm
    by_cases hj : j < nl
    ·obtain ⟨b',off',y,rfl,hbb,hy,hcy⟩:=(HL.out.keep hks).at_ encCh_len hj
     have hd1 : decide (j < nl) = true:=by simpa using hj
     have hd2 : (0 : Int) ≤ j:=by omega
     have hd3 : (j : Int) < nl:=by omega
     have hrg : wr.rangeAt b' (off' + j * 6) [.int .i64 y.proc,.int .i64 y.kind,.int .i64 y.frm,.int .i64 y.idx,.int .i64 y.ord,.int .i64 y.val]:=hcy
     have hbw:=HS.out _ hbb
     have hnext:=playI_next hplay hy
     have hj1 : j + 1 ≤ l.length:=by have:=HLL.out; omega
     have hcr:=HC.out.keep hks
     have hzW:=HFR.out.size
     obtain ⟨ev,er,hee⟩ : ∃ ev er,eventI m.ss y = (ev,er):=⟨_,_,rfl⟩
     have hcall : Calls Tryz.prog 45 #[.slice (some ⟨g,0,none⟩) n c1,.agg #[.int .i64 y.proc,.int .i64 y.kind,.int .i64 y.frm,.int .i64 y.idx,.int .i64 y.ord,.int .i64 y.val]] wr (EvtPost (eventI m.ss y) wr):=
      revent_any wr (But wr Z) (some ⟨g,0,none⟩) n c1 m.ss y (fun i hi=>hi.1) (hmr.sl hml hn1' hc1' (fun i hi=>by have:=(HZ.out i hi).1; omega)) hn (fun p hp=>by have:=hinv.lens (p:=p) (by omega); omega)
     rw [hee] at hcall
     rw [hee] at hnext
     have hbcr:=hfrr.blk HBC.out hz
     clear hcy hy hbb hplay hcl
     obtain ⟨x0,x1',x2',x3,x4,x5,x6⟩:=ev
     have HRG:=Lib.hid hrg
     have HNEXT:=Lib.hid hnext
     have HJ1:=Lib.hid hj1
     have HMR:=Lib.hid hmr
     have HSR:=Lib.hid hsr
     have HCR:=Lib.hid hcr
     have HFRR:=Lib.hid hfrr
     have HINV:=Lib.hid hinv
     have HML:=Lib.hid hml
     have HCALL:=Lib.hid hcall
     have HEE:=Lib.hid hee
     have HBCR:=Lib.hid hbcr
     clear hrg hnext hj1 hmr hsr hcr hfrr hinv hml hcall hee hbcr
     clear hks
     go_wp2_with (refine wpList_load_mid rfl _ (.tmp 60) rfl b' (off' + j * 6) rfl [.int .i64 y.proc,.int .i64 y.kind,.int .i64 y.frm,.int .i64 y.idx,.int .i64 y.ord,.int .i64 y.val] _ HRG.out Tryz.underlying57 rfl (by kernel_rfl) ?_)
     refine HCALL.out.mono ?_
     rintro e w8 ⟨rfl,hk8⟩
     have hz8:=hk8.size
     have HK8:=Lib.hid hk8
     clear hk8
     simp only [encEv]
     go_upto_region 17 with (refine wpList_store_all rfl _ (.tmp 12) (.tmp 63) rfl w8.heap.size 89 _ [.int .i64 x0,.int .i64 x1',.int .i64 x2',.int .i64 x3,.int .i64 x4,.int .i64 x5,.int .i64 x6] rfl rfl (Blk.new _ _ _) rfl (by kernel_rfl) rfl ?_; intro w9 hb9 hs9)
     have hk9 : Keep w8 w9:=Keep.write (Keep.new _ _) hs9 (Nat.le_refl _)
     have hk89:=Keep.trans HK8.out hk9
     have hm9:=HMR.out.keep hk89
     have hkW9:=Keep.trans HFRR.out hk89
     have hz9:=hk89.size
     have hb9lt : w8.heap.size < w9.heap.size:=hb9.lt
     have HB9:=Lib.hid hb9
     have HM9:=Lib.hid hm9
     have HKW9:=Lib.hid hkW9
     have HK89:=Lib.hid hk89
     clear hb9 hm9 hkW9 hk89
     clear hs9 hk9
     cases q : (er != 0)
     case true=>
      have hne : er ≠ 0:=by simpa using q
      have hfin : RRunPost Z cs l w (.returned (.tuple #[.slice none 0 0,.slice none 0 0,.int .i64 er])) w9:=⟨Keep.trans HKW.out HKW9.out,.inr ⟨er,by rw [HRUN.out]; exact HNEXT.out.2 hne,hne,rfl⟩⟩
      have HFIN:=Lib.hid hfin
      clear hfin
      clear hne
      go_wp2_with fail
      go_ret3
      exact HFIN.out
     have he0 : er = 0:=by simpa using q
     subst he0
     have hok:=eventI_ok (ss:=m.ss) (x:=y) (by rw [HEE.out])
     have hpp:=okI_proc hok.1
     have hlen:=HINV.out.len
     have hml:=HML.out
     obtain ⟨p,hp⟩ : ∃ p : Nat,y.proc = p:=⟨y.proc.toNat,by omega⟩
     have hpn : p < n:=by omega
     have y0 : w9.cell? ⟨b',off' + j * 6,none⟩ = some (.int .i64 (p : Int)):=(HK89.out.cell (p:=⟨b',off' + j * 6,none⟩) (by show b' < wr.heap.size; omega)).trans (by have:=HRG.out 0 _ rfl; rw [← hp]; exact this)
     have hpl : playI cs (startI cs cs.length) (l.take (j + 1)) = .ok (execI cs m p ⟨x0,x1',x2',x3,x4,x5,x6⟩):=by have:=HNEXT.out.1 rfl; rw [hp] at this; exact this
     have hle:=HINV.out.lens (p:=p) (by omega)
     have hidx:=(HINV.out.idx (p:=p) (by omega)).2
     obtain ⟨s,hs⟩ : ∃ s,s = m.ss.getD p zeroSt:=⟨_,rfl⟩
     have hin : (cs.getD p zeroCd).init.length ≤ 1000000:=HIC.out _ (getD_mem (by omega))
     obtain ⟨g',cur,B1,B2,B3,B4,p1,q1,p2,q2,p3,q3,p4,q4,hge,hbg',hgb,hcs9,hnc9,hcm9,htk9,hr9,hrg9⟩:=rfm_at HM9.out hml (k:=p) hpn
     simp only [Option.some.injEq,Addr.mk.injEq,and_true] at hge
     subst hge
     rw [← hs] at hr9 hle hidx
     obtain ⟨bC,oC,D0,D1,D2,D3,D4,d0,f0,d1',f1,d2,f2,d3,f3,d4,f4,rfl,hCbC,hcd,hcrg⟩:=(HCR.out.keep (HK89.out.mono (fun i hi=>by have:=HS.out i hi; omega))).at_ (k:=p) hpn
     have hCb:=HS.out _ hCbC
     have hbc9:=HK89.out.blk HBCR.out (by omega)
     have k0 : ∀ wx,Keep w9 wx → wx.cell? ⟨w.heap.size,0,none⟩ = some (.slice (some ⟨bC,oC,none⟩) n cC):=fun wx hx=>(hx.cell (p:=⟨w.heap.size,0,none⟩) hbc9.lt).trans (by rw [hbc9.cell]; rfl)
     have rgC : ∀ wx,Keep w9 wx → wx.rangeAt bC (oC + p * 5) [.slice D0 d0 f0,.slice D1 d1' f1,.slice D2 d2 f2,.slice D3 d3 f3,.slice D4 d4 f4]:=fun wx hx jj u hu=>(hx.cell (p:=⟨bC,oC + p * 5 + jj,none⟩) (by show bC < w9.heap.size; omega)).trans (hcrg jj u hu)
     have rgS : ∀ wx,Keep w9 wx → wx.rangeAt g (p * 4) [.slice B1 p1 q1,.slice B2 p2 q2,.slice B3 p3 q3,.slice B4 p4 q4]:=fun wx hx jj u hu=>(hx.cell (p:=⟨g,p * 4 + jj,none⟩) hgb.lt).trans (hrg9 jj u hu)
     have hX:=HM9.out.x
     have hCS : ∀ i,S i → But w9 (RfX Z (.slice (some ⟨g,0,none⟩) n c1) v2) i:=fun i hi=>⟨by have:=HS.out i hi; omega,fun h=>by rcases hX i h with h | h; (have:=HS.out i hi; omega); exact (HZ.out i h).2 hi⟩
     have g1 : (p : Int) < n:=by omega
     have g2 : (0 : Int) ≤ p:=by omega
     clear hok hpp hlen hcrg hrg9 hbc9
     have HS2:=Lib.hid hs
     clear hs
     have HPL:=Lib.hid hpl
     have HP:=Lib.hid hp
     have HML:=Lib.hid hml
     have HR9:=Lib.hid hr9
     have HCD:=Lib.hid hcd
     have RGC:=Lib.hid rgC
     have RGS:=Lib.hid rgS
     have HX:=Lib.hid hX
     have HIDX:=Lib.hid hidx
     have HGB:=Lib.hid hgb
     clear hpl hp hml hr9 hcd rgC rgS hX hidx hgb
     have HCS2:=Lib.hid hCS
     clear hCS
     go_upto_region 20 with fail
     clear y0
     refine wp_region_L 16 (fun wx=>Keep w9 wx) (fun _=>True) (by kernel_rfl) (Same.drew (Same.refl _ _)) trivial (fun hA hB=>?_)
     generalize hu0 : w9.drew = u0 at hA ⊢
     clear hu0
     refine wpL_takeA (i:=0) (v:=?_) rfl (by kernel_rfl) (by kernel_rfl) (by kernel_rfl) (by kernel_rfl) (by decide) (fun _ _ _ h=>h) (Or.inl ⟨by rfl,?_⟩) hA hB ?_
     rotate_left
     ·rintro wx ⟨hAx,hBx⟩
      (try dsimp only at hBx); (try dsimp only at hAx)
      go_simp
      try with_reducible rfl
     try simp only [Act.put,List.setIfInBounds_toArray,List.set_cons_zero,List.set_cons_succ]
     refine wpL_takeA (i:=1) (v:=?_) rfl (by kernel_rfl) (by kernel_rfl) (by kernel_rfl) (by kernel_rfl) (by decide) (fun _ _ _ h=>h) (Or.inl ⟨by rfl,?_⟩) hA hB ?_
     rotate_left
     ·rintro wx ⟨hAx,hBx⟩
      (try dsimp only at hBx); (try dsimp only at hAx)
      go_simp
      try with_reducible rfl
     try simp only [Act.put,List.setIfInBounds_toArray,List.set_cons_zero,List.set_cons_succ]
     refine wpL_takeA (i:=2) (v:=?_) rfl (by kernel_rfl) (by kernel_rfl) (by kernel_rfl) (by kernel_rfl) (by decide) (fun _ _ _ h=>h) (Or.inl ⟨by rfl,?_⟩) hA hB ?_
     rotate_left
     ·rintro wx ⟨hAx,hBx⟩
      (try dsimp only at hBx); (try dsimp only at hAx)
      go_simp
      try with_reducible rfl
     try simp only [Act.put,List.setIfInBounds_toArray,List.set_cons_zero,List.set_cons_succ]
     refine wpL_takeA (i:=3) (v:=?_) rfl (by kernel_rfl) (by kernel_rfl) (by kernel_rfl) (by kernel_rfl) (by decide) (fun _ _ _ h=>h) (Or.inl ⟨by rfl,?_⟩) hA hB ?_
     rotate_left
     ·rintro wx ⟨hAx,hBx⟩
      (try dsimp only at hBx); (try dsimp only at hAx)
      go_simp
      try with_reducible rfl
     try simp only [Act.put,List.setIfInBounds_toArray,List.set_cons_zero,List.set_cons_succ]
     refine wpL_takeA (i:=4) (v:=?_) rfl (by kernel_rfl) (by kernel_rfl) (by kernel_rfl) (by kernel_rfl) (by decide) (fun _ _ _ h=>h) (Or.inl ⟨by rfl,?_⟩) hA hB ?_
     rotate_left
     ·rintro wx ⟨hAx,hBx⟩
      (try dsimp only at hBx); (try dsimp only at hAx)
      go_simp
      try with_reducible rfl
     try simp only [Act.put,List.setIfInBounds_toArray,List.set_cons_zero,List.set_cons_succ]
     refine wpL_takeA (i:=5) (v:=?_) rfl (by kernel_rfl) (by kernel_rfl) (by kernel_rfl) (by kernel_rfl) (by decide) (fun _ _ _ h=>h) (Or.inl ⟨by rfl,?_⟩) hA hB ?_
     rotate_left
     ·rintro wx ⟨hAx,hBx⟩
      (try dsimp only at hBx); (try dsimp only at hAx)
      go_simp
      try with_reducible rfl
     try simp only [Act.put,List.setIfInBounds_toArray,List.set_cons_zero,List.set_cons_succ]
     refine wpL_takeA (i:=6) rfl (by kernel_rfl) (by kernel_rfl) (by kernel_rfl) (by kernel_rfl) (by decide) (fun _ _ _ h=>h) (yieldsIf_load_mid (by rfl) _ _ rfl bC (oC + p * 5) rfl [.slice D0 d0 f0,.slice D1 d1' f1,.slice D2 d2 f2,.slice D3 d3 f3,.slice D4 d4 f4] _ (fun wx hx=>RGC.out wx hx.1) Tryz.underlying63 rfl (by kernel_rfl)) hA hB ?_
     try simp only [Act.put,List.setIfInBounds_toArray,List.set_cons_zero,List.set_cons_succ]
     refine wpL_takeA (i:=7) (v:=?_) rfl (by kernel_rfl) (by kernel_rfl) (by kernel_rfl) (by kernel_rfl) (by decide) (fun _ _ _ h=>h) (Or.inl ⟨by rfl,?_⟩) hA hB ?_
     rotate_left
     ·rintro wx ⟨hAx,hBx⟩
      (try dsimp only at hBx); (try dsimp only at hAx)
      go_simp
      try with_reducible rfl
     try simp only [Act.put,List.setIfInBounds_toArray,List.set_cons_zero,List.set_cons_succ]
     refine wpL_takeA (i:=8) (v:=?_) rfl (by kernel_rfl) (by kernel_rfl) (by kernel_rfl) (by kernel_rfl) (by decide) (fun _ _ _ h=>h) (Or.inl ⟨by rfl,?_⟩) hA hB ?_
     rotate_left
     ·rintro wx ⟨hAx,hBx⟩
      (try dsimp only at hBx); (try dsimp only at hAx)
      go_simp
      try with_reducible rfl
     try simp only [Act.put,List.setIfInBounds_toArray,List.set_cons_zero,List.set_cons_succ]
     refine wpL_takeA (i:=9) (v:=?_) rfl (by kernel_rfl) (by kernel_rfl) (by kernel_rfl) (by kernel_rfl) (by decide) (fun _ _ _ h=>h) (Or.inl ⟨by rfl,?_⟩) hA hB ?_
     rotate_left
     ·rintro wx ⟨hAx,hBx⟩
      (try dsimp only at hBx); (try dsimp only at hAx)
      go_simp
      try with_reducible rfl
     try simp only [Act.put,List.setIfInBounds_toArray,List.set_cons_zero,List.set_cons_succ]
     refine wpL_takeA (i:=10) (v:=?_) rfl (by kernel_rfl) (by kernel_rfl) (by kernel_rfl) (by kernel_rfl) (by decide) (fun _ _ _ h=>h) (Or.inl ⟨by rfl,?_⟩) hA hB ?_
     rotate_left
     ·rintro wx ⟨hAx,hBx⟩
      (try dsimp only at hBx); (try dsimp only at hAx)
      go_simp
      try with_reducible rfl
     try simp only [Act.put,List.setIfInBounds_toArray,List.set_cons_zero,List.set_cons_succ]
     refine wpL_takeA (i:=11) (v:=?_) rfl (by kernel_rfl) (by kernel_rfl) (by kernel_rfl) (by kernel_rfl) (by decide) (fun _ _ _ h=>h) (Or.inl ⟨by rfl,?_⟩) hA hB ?_
     rotate_left
     ·rintro wx ⟨hAx,hBx⟩
      (try dsimp only at hBx); (try dsimp only at hAx)
      go_simp
      try with_reducible rfl
     try simp only [Act.put,List.setIfInBounds_toArray,List.set_cons_zero,List.set_cons_succ]
     refine wpL_takeA (i:=12) rfl (by kernel_rfl) (by kernel_rfl) (by kernel_rfl) (by kernel_rfl) (by decide) (fun _ _ _ h=>h) (yieldsIf_load_mid (by rfl) _ _ rfl g (p * 4) rfl [.slice B1 p1 q1,.slice B2 p2 q2,.slice B3 p3 q3,.slice B4 p4 q4] _ (fun wx hx=>RGS.out wx hx.1) Tryz.underlying50 rfl (by kernel_rfl)) hA hB ?_
     try simp only [Act.put,List.setIfInBounds_toArray,List.set_cons_zero,List.set_cons_succ]
     refine wpL_takeA (i:=13) rfl (by kernel_rfl) (by kernel_rfl) (by kernel_rfl) (by kernel_rfl) (by decide) (fun _ _ _ h=>h) (yieldsIf_blk (by rfl) _ _ rfl w8.heap.size 0 89 _ [.int .i64 x0,.int .i64 x1',.int .i64 x2',.int .i64 x3,.int .i64 x4,.int .i64 x5,.int .i64 x6] _ rfl (fun wx hx=>hx.1.blk HB9.out HB9.out.lt) (fun j u hu=>by simpa using hu) Tryz.underlying89 rfl (by kernel_rfl)) hA hB ?_
     try simp only [Act.put,List.setIfInBounds_toArray,List.set_cons_zero,List.set_cons_succ]
     refine wpL_one (i:=14) (by kernel_rfl) (StepL.mk rfl (fun K hK=>?_))
     go_simp
     have zA:=hA.size
     have key:=rnext_any u0 (But w9 (RfX Z (.slice (some ⟨g,0,none⟩) n c1) v2)) [.slice D0 d0 f0,.slice D1 d1' f1,.slice D2 d2 f2,.slice D3 d3 f3,.slice D4 d4 f4] [.slice B1 p1 q1,.slice B2 p2 q2,.slice B3 p3 q3,.slice B4 p4 q4] (cs.getD p zeroCd) s p n ⟨x0,x1',x2',x3,x4,x5,x6⟩ (fun i hi=>Nat.lt_of_lt_of_le hi.1 hA.size) ((HCD.out.keep (hA.mono (fun i hi=>(HCS2.out i hi).1))).more HCS2.out) (HR9.out.keep (hA.mono (fun i hi=>hi.1))) (by omega) (by omega) (by omega) (by omega)
     refine key.mono ?_
     rintro e w10 ⟨cs3,rfl,hr3',hk3⟩
     obtain ⟨E1,E2,E3,E4,a1,b1,a2,b2,a3,b3,a4,b4,rfl,hr3⟩:=st_open hr3'
     have hA3:=Keep.trans hA hk3
     clear key hr3'
     refine hK.out _ _ (SAB.both hA3 trivial) (fun hSS=>?_)
     clear hK K hA hB
     have hB:=hSS.2
     have hA:=hSS.1 (by kernel_rfl)
     (try dsimp only at hB); (try dsimp only at hA); clear hSS
     try simp only [Act.put,List.setIfInBounds_toArray,List.set_cons_zero,List.set_cons_succ]
     refine wpL_takeA (i:=15) (v:=?_) rfl (by kernel_rfl) (by kernel_rfl) (by kernel_rfl) (by kernel_rfl) (by decide) (fun _ _ _ h=>h) (Or.inl ⟨by rfl,?_⟩) hA hB ?_
     rotate_left
     ·rintro wx ⟨hAx,hBx⟩
      (try dsimp only at hBx); (try dsimp only at hAx)
      go_simp
      try with_reducible rfl
     try simp only [Act.put,List.setIfInBounds_toArray,List.set_cons_zero,List.set_cons_succ]
     refine wpL_one (i:=16) (by kernel_rfl) (StepL.mk rfl (fun K hK=>?_))
     refine step_store_blk rfl _ _ _ rfl g (p * 4) 50 _ [.slice E1 a1 b1,.slice E2 a2 b2,.slice E3 a3 b3,.slice E4 a4 b4] rfl rfl (hA3.blk HGB.out HGB.out.lt) (by rw [hcs9]; have:=Nat.mul_le_mul_right 4 hnc9; simp only [List.length_cons,List.length_nil]; omega) (by kernel_rfl) rfl ?_
     intro w11 hb11 hs11
     obtain ⟨hput,hfp⟩:=RfM.put (ss:=m.ss) (l:=m.world) HM9.out (hA3.blk HGB.out HGB.out.lt) hcs9 htk9 hnc9 hcm9 hbg HML.out.symm hpn hA3 hr3 rfl (fun i hi=>by
      rcases hi with h | h
      ·exact ⟨Nat.lt_of_lt_of_le h.1 hA3.size,h.2⟩
      ·exact ⟨h.2,fun hh=>by rcases HX.out i hh with h1 | h1; exact Nat.lt_irrefl i (Nat.lt_of_lt_of_le h1.2 (Nat.le_trans zA h.1)); (have h3:=(HZ.out i h1).1; have h2 : u0.heap.size ≤ i:=h.1; omega)⟩) hb11 hs11
     have hz11:=hfp.size
     have hfr2 : Same (· < W.heap.size) wq w11:=Same.trans HSR.out (Same.trans (HK89.out.mono (fun i (hi : i < W.heap.size)=>by omega)) (hfp.mono (fun i (hi : i < W.heap.size)=>⟨by omega,by omega⟩)) (fun i hi=>hi)) (fun i hi=>hi)
     clear hb11 hs11 hr3 hk3 hfp
     refine hK.out _ _ (SAB.past (by kernel_rfl) trivial) (fun hSS=>?_)
     clear hK K hA hB
     have hB:=hSS.2
     have hA : True:=trivial
     (try dsimp only at hB); (try dsimp only at hA); clear hSS
     try simp only [Act.put,List.setIfInBounds_toArray,List.set_cons_zero,List.set_cons_succ]
     refine wpL_done (by kernel_rfl) ?_
     clear hA3 hA hB zA k0
     have hln : (m.ss.set p (nextS (cs.getD p zeroCd) p n s ⟨x0,x1',x2',x3,x4,x5,x6⟩)).length = n:=by rw [List.length_set]; exact HML.out
     have hgt : (m.ss.set p (nextS (cs.getD p zeroCd) p n s ⟨x0,x1',x2',x3,x4,x5,x6⟩)).getD p zeroSt = (nextS (cs.getD p zeroCd) p n s ⟨x0,x1',x2',x3,x4,x5,x6⟩):=getD_set_same (by rw [HML.out]; exact hpn)
     obtain ⟨g'',cur2,G1,G2,G3,G4,h1,j1,h2,j2,h3,j3,h4,j4,hge,-,hgb2,-,-,-,-,hr11,hrg11⟩:=rfm_at hput hln (k:=p) hpn
     simp only [Option.some.injEq,Addr.mk.injEq,and_true] at hge
     subst hge
     rw [show (⟨m.ss.set p (nextS (cs.getD p zeroCd) p n s ⟨x0,x1',x2',x3,x4,x5,x6⟩),m.world⟩ : Mi).ss = m.ss.set p (nextS (cs.getD p zeroCd) p n s ⟨x0,x1',x2',x3,x4,x5,x6⟩) from rfl,hgt] at hr11
     obtain ⟨A2,c2,hv2,hn2,hc2⟩:=own_form hput.2.1
     subst hv2
     have hso:=(st_sl hr11).2.2.2
     have hse:=(st_sl hr11).2.1
     have hh2 : (h2 : Int) = (s.events.length : Int) + 1:=by have:=hse.1; rw [nextS_events,List.length_append,List.length_cons,List.length_nil] at this; omega
     have hwl8 : m.world.length ≤ 900000:=by have:=HCL.out; omega
     have hnlen:=nextS_len (cs.getD p zeroCd) p n s ⟨x0,x1',x2',x3,x4,x5,x6⟩
     have hngo : NotOwn (.slice A2 m.world.length c2) w11 g:=⟨hgb2.lt,hput.2.2.1 g rfl⟩
     have rgS2 : ∀ wx,Same (NotOwn (.slice A2 m.world.length c2) w11) w11 wx → wx.rangeAt g (p * 4) [.slice G1 h1 j1,.slice G2 h2 j2,.slice G3 h3 j3,.slice G4 h4 j4]:=fun wx hx jj u hu=>(hx.cell (p:=⟨g,p * 4 + jj,none⟩) hngo).trans (hrg11 jj u hu)
     have c46 : ∀ wx,Same (NotOwn (.slice A2 m.world.length c2) w11) w11 wx → wx.cell? ⟨g,p * 4 + 1,none⟩ = some (.slice G2 h2 j2):=fun wx hx=>(rgS2 wx hx) 1 _ rfl
     have hcall : ∀ u,Keep w11 u → Calls Tryz.prog 44 #[.slice A2 m.world.length c2,.agg #[.slice G1 h1 j1,.slice G2 h2 j2,.slice G3 h3 j3,.slice G4 h4 j4],.int .i64 p,.int .i64 h2] u (RShPost W.heap.size (.slice A2 m.world.length c2) (m.world ++ showS p 0 (outF h2 (nextS (cs.getD p zeroCd) p n s ⟨x0,x1',x2',x3,x4,x5,x6⟩).outs)) u):=fun u hu=>
      rshown_any u W.heap.size (But w11 (RfX Z (.slice (some ⟨g,0,none⟩) n c1) (.slice A2 m.world.length c2))) A2 m.world.length c2 m.world G1 G2 G3 G4 h1 j1 h2 j2 h3 j3 h4 j4 (nextS (cs.getD p zeroCd) p n s ⟨x0,x1',x2',x3,x4,x5,x6⟩).outs p h2 (by have:=hu.size; omega) (ownsRow_same hput.2.1 hu (fun i hi=>hi.2)) rfl (fun i hi=>⟨Nat.lt_of_lt_of_le hi.1 hu.size,fun e=>hi.2 (.inr (.inl e))⟩) (hso.keep (hu.mono (fun i hi=>hi.1))) (by omega) (by omega)
     have hex : (⟨m.ss.set p (nextS (cs.getD p zeroCd) p n s ⟨x0,x1',x2',x3,x4,x5,x6⟩),m.world ++ showS p 0 (outF h2 (nextS (cs.getD p zeroCd) p n s ⟨x0,x1',x2',x3,x4,x5,x6⟩).outs)⟩ : Mi) = execI cs m p ⟨x0,x1',x2',x3,x4,x5,x6⟩:=by
      unfold execI
      rw [HML.out,← HS2.out,hh2,outF_new (fun y hy=>(HIDX.out y hy).2)]
     have hwl9:=execI_world (cs:=cs) (m:=m) p ⟨x0,x1',x2',x3,x4,x5,x6⟩
     clear hso hse hr11 hrg11 hgb2 hh2 hgt hln hnlen
     have RGS2:=Lib.hid rgS2
     have HCALL:=Lib.hid hcall
     have HEX:=Lib.hid hex
     have HPUT:=Lib.hid hput
     have HFR2:=Lib.hid hfr2
     have HWL9:=Lib.hid hwl9
     have HNGO:=Lib.hid hngo
     clear rgS2 hcall hex hput hfr2 hwl9 hngo
     go_wp2_with fail
     refine wp_region_L 99 (fun _=>True) (fun wx=>Same (NotOwn (.slice A2 m.world.length c2) w11) w11 wx) (by kernel_rfl) trivial (Same.drew (Same.refl _ _)) (fun hA hB=>?_)
     refine wpL_takeB (i:=0) (v:=?_) rfl (by kernel_rfl) (by kernel_rfl) (by kernel_rfl) (by decide) (fun _ _ _ h=>h) (Or.inl ⟨by rfl,?_⟩) (SAB.both hA hB) ?_
     rotate_left
     ·intro wx hBx
      (try dsimp only at hBx)
      go_simp
      try with_reducible rfl
     try simp only [Act.put,List.setIfInBounds_toArray,List.set_cons_zero,List.set_cons_succ]
     refine wpL_takeB (i:=1) (v:=?_) rfl (by kernel_rfl) (by kernel_rfl) (by kernel_rfl) (by decide) (fun _ _ _ h=>h) (Or.inl ⟨by rfl,?_⟩) (SAB.both hA hB) ?_
     rotate_left
     ·intro wx hBx
      (try dsimp only at hBx)
      go_simp
      try with_reducible rfl
     try simp only [Act.put,List.setIfInBounds_toArray,List.set_cons_zero,List.set_cons_succ]
     refine wpL_takeB (i:=2) (v:=?_) rfl (by kernel_rfl) (by kernel_rfl) (by kernel_rfl) (by decide) (fun _ _ _ h=>h) (Or.inl ⟨by rfl,?_⟩) (SAB.both hA hB) ?_
     rotate_left
     ·intro wx hBx
      (try dsimp only at hBx)
      go_simp
      try with_reducible rfl
     try simp only [Act.put,List.setIfInBounds_toArray,List.set_cons_zero,List.set_cons_succ]
     refine wpL_takeB (i:=3) (v:=?_) rfl (by kernel_rfl) (by kernel_rfl) (by kernel_rfl) (by decide) (fun _ _ _ h=>h) (Or.inl ⟨by rfl,?_⟩) (SAB.both hA hB) ?_
     rotate_left
     ·intro wx hBx
      (try dsimp only at hBx)
      go_simp
      try with_reducible rfl
     try simp only [Act.put,List.setIfInBounds_toArray,List.set_cons_zero,List.set_cons_succ]
     refine wpL_takeB (i:=4) rfl (by kernel_rfl) (by kernel_rfl) (by kernel_rfl) (by decide) (fun _ _ _ h=>h) (yieldsIf_load_mid (by rfl) _ _ rfl g (p * 4) rfl [.slice G1 h1 j1,.slice G2 h2 j2,.slice G3 h3 j3,.slice G4 h4 j4] _ (fun wx hx=>RGS2.out wx hx) Tryz.underlying50 rfl (by kernel_rfl)) (SAB.both hA hB) ?_
     try simp only [Act.put,List.setIfInBounds_toArray,List.set_cons_zero,List.set_cons_succ]
     refine wpL_takeB (i:=5) (v:=?_) rfl (by kernel_rfl) (by kernel_rfl) (by kernel_rfl) (by decide) (fun _ _ _ h=>h) (Or.inl ⟨by rfl,?_⟩) (SAB.both hA hB) ?_
     rotate_left
     ·intro wx hBx
      (try dsimp only at hBx)
      go_simp
      try with_reducible rfl
     try simp only [Act.put,List.setIfInBounds_toArray,List.set_cons_zero,List.set_cons_succ]
     refine wpL_takeB (i:=6) (v:=?_) rfl (by kernel_rfl) (by kernel_rfl) (by kernel_rfl) (by decide) (fun _ _ _ h=>h) (Or.inl ⟨by rfl,?_⟩) (SAB.both hA hB) ?_
     rotate_left
     ·intro wx hBx
      (try dsimp only at hBx)
      go_simp
      try with_reducible rfl
     try simp only [Act.put,List.setIfInBounds_toArray,List.set_cons_zero,List.set_cons_succ]
     refine wpL_takeB (i:=7) (v:=?_) rfl (by kernel_rfl) (by kernel_rfl) (by kernel_rfl) (by decide) (fun _ _ _ h=>h) (Or.inl ⟨by rfl,?_⟩) (SAB.both hA hB) ?_
     rotate_left
     ·intro wx hBx
      (try dsimp only at hBx)
      go_simp
      try with_reducible rfl
     try simp only [Act.put,List.setIfInBounds_toArray,List.set_cons_zero,List.set_cons_succ]
     refine wpL_takeB (i:=8) (v:=?_) rfl (by kernel_rfl) (by kernel_rfl) (by kernel_rfl) (by decide) (fun _ _ _ h=>h) (Or.inl ⟨by rfl,?_⟩) (SAB.both hA hB) ?_
     rotate_left
     ·intro wx hBx
      (try dsimp only at hBx)
      go_simp
      try with_reducible rfl
     try simp only [Act.put,List.setIfInBounds_toArray,List.set_cons_zero,List.set_cons_succ]
     refine wpL_takeB (i:=9) (v:=?_) rfl (by kernel_rfl) (by kernel_rfl) (by kernel_rfl) (by decide) (fun _ _ _ h=>h) (Or.inl ⟨by rfl,?_⟩) (SAB.both hA hB) ?_
     rotate_left
     ·intro wx hBx
      (try dsimp only at hBx)
      go_simp
      try with_reducible rfl
     try simp only [Act.put,List.setIfInBounds_toArray,List.set_cons_zero,List.set_cons_succ]
     refine wpL_takeB (i:=10) (v:=?_) rfl (by kernel_rfl) (by kernel_rfl) (by kernel_rfl) (by decide) (fun _ _ _ h=>h) (Or.inl ⟨by rfl,?_⟩) (SAB.both hA hB) ?_
     rotate_left
     ·intro wx hBx
      (try dsimp only at hBx)
      go_simp
      try with_reducible rfl
     try simp only [Act.put,List.setIfInBounds_toArray,List.set_cons_zero,List.set_cons_succ]
     refine wpL_takeB (i:=11) (v:=?_) rfl (by kernel_rfl) (by kernel_rfl) (by kernel_rfl) (by decide) (fun _ _ _ h=>h) (Or.inl ⟨by rfl,?_⟩) (SAB.both hA hB) ?_
     rotate_left
     ·intro wx hBx
      (try dsimp only at hBx)
      go_simp
      try with_reducible rfl
     try simp only [Act.put,List.setIfInBounds_toArray,List.set_cons_zero,List.set_cons_succ]
     refine wpL_one (i:=12) (by kernel_rfl) (StepL.mk rfl (fun K hK=>?_))
     go_simp
     refine (HCALL.out w11.drew (Same.drew (Same.refl _ _))).mono ?_
     rintro e w12 ⟨v12,rfl,hown12,hs12,hat12⟩
     have hs12' : Same (NotOwn (.slice A2 m.world.length c2) w11) w11 w12:=Same.trans (Same.drew (Same.refl (NotOwn (.slice A2 m.world.length c2) w11) w11)) hs12 (fun i hi=>hi)
     refine hK.out _ _ (SAB.both trivial hs12') (fun hSS=>?_)
     clear hK K hA hB
     have hB:=hSS.2
     have hA:=hSS.1 (by kernel_rfl)
     (try dsimp only at hB); (try dsimp only at hA); clear hSS
     try simp only [Act.put,List.setIfInBounds_toArray,List.set_cons_zero,List.set_cons_succ]
     refine wpL_takeB (i:=13) (v:=?_) rfl (by kernel_rfl) (by kernel_rfl) (by kernel_rfl) (by decide) (fun _ _ _ h=>h) (Or.inl ⟨by rfl,?_⟩) (SAB.both hA hB) ?_
     rotate_left
     ·intro wx hBx
      (try dsimp only at hBx)
      go_simp
      try with_reducible rfl
     try simp only [Act.put,List.setIfInBounds_toArray,List.set_cons_zero,List.set_cons_succ]
     refine wpL_done (by kernel_rfl) ?_
     obtain ⟨hm12,hs12''⟩:=RfM.grow HPUT.out (by omega) hown12 hs12' (fun b hb=>(hat12 b hb).imp id (fun h=>h))
     rw [HEX.out] at hm12
     have hfin : RRun2 Z cs l W.heap.size wq (.slice (some ⟨g,0,none⟩) n c1) v12 (.int .i64 ((j : Int) + 1)) w12:=⟨j + 1,_,_,by simp,HJ1.out,HPL.out,by have:=HWL9.out; omega,hm12,Same.trans HFR2.out hs12'' (fun i hi=>hi)⟩
     have HFIN:=Lib.hid hfin
     clear hfin
     clear hm12 hs12 hs12' hs12'' hown12 hat12 hA hB c46
     go_wp2_with fail
     go_roundw
     case rel=>exact HFIN.out
     case measure=>simp [intOf]; omega
    ·have hd1 : decide (j < nl) = false:=by simpa using hj
     have hall : l.take j = l:=List.take_of_length_le (by have:=HLL.out; omega)
     rw [hall] at hplay
     have hfin : RRunPost Z cs l w (.returned (.tuple #[.slice (some ⟨g,0,none⟩) n c1,v2,.int .i64 0])) wr:=⟨Keep.trans HKW.out hfrr,.inl ⟨m,W.heap.size,_,_,css,by rw [HRUN.out]; exact hplay,rfl,by omega,hmr⟩⟩
     have HFIN:=Lib.hid hfin
     clear hfin
     clear hall hplay hmr hsr hks hfrr hinv hcl hml
     go_wp2_with fail
     go_ret3
     exact HFIN.out
end Go.Proofs.YtipegaojiokppaaGreatDoor
namespace Go.Proofs.YtipegaojiokppaaGreatDoor
open Go.RowKit Go.Proofs
set_option maxHeartbeats 8000000 in
theorem rfplay_any (w : World) (S : Nat → Prop) (AC AL : Option Addr) (n cC nl cl : Nat) (x1 x2 : Int) (cs : List Cd) (l : List Chc) (hS : ∀ i,S i → i < w.heap.size) (hC : CdsR w S AC n cC cs) (hic : ∀ c ∈ cs,c.init.length ≤ 1000000) (hl : Sl encCh 6 w S AL nl cl l) (hn : n ≤ 1000) (hnl : nl ≤ 1000) :
  Calls Tryz.prog 13 #[.agg #[.slice AC n cC,.int .i64 x1,.int .i64 x2],.slice AL nl cl] w (PlayPost cs l w):=by
 generalize hW : w.alloc (.cells #[.slice AC n cC,.int .i64 x1,.int .i64 x2] 27) = W
 have hkW : Keep w W:=hW ▸ Keep.new w _
 have hbc : Blk W w.heap.size 27 #[.slice AC n cC,.int .i64 x1,.int .i64 x2]:=hW ▸ Blk.new w _ _
 have hz:=hbc.lt
 have hcall:=rfrun_any W S (fun _=>False) AC AL n cC nl cl x1 x2 cs l (fun i hi=>by have:=hS i hi; omega) (fun i hi=>hi.elim) (hC.keep (Same.mono hkW hS)) hic (hl.keep (Same.mono hkW hS)) hn hnl
 have HKW:=Lib.hid hkW
 have HBC:=Lib.hid hbc
 have HCALL:=Lib.hid hcall
 clear hkW hbc hcall
 go_enter Tryz.func13,Tryz.ntmps13
 go_upto_region 1 with fail
 clear hW
 go_wp2_with (refine wpList_load_all rfl _ (.tmp 2) rfl w.heap.size 27 [.slice AC n cC,.int .i64 x1,.int .i64 x2] _ rfl HBC.out Tryz.underlying27 rfl (by kernel_rfl) ?_)
 refine HCALL.out.mono ?_
 rintro e w1 ⟨hk1,⟨m,base,V1,V2,css,hrun,rfl,hbase,hm⟩ | ⟨k,hrun,hk0,rfl⟩⟩
 ·obtain ⟨A1,c1,hv1,hn1,hc1⟩:=own_form hm.1
  subst hv1
  have hfin : PlayPost cs l w (.returned (.tuple #[.slice A1 m.ss.length c1,.int .i64 0])) w1:=⟨Keep.trans HKW.out hk1,.inl ⟨m,_,_,hrun,rfl,sts_more (hm.sl rfl hn1 hc1 (fun i hi=>hi.elim)) (fun i hi=>hi.1)⟩⟩
  have HFIN:=Lib.hid hfin
  clear hfin
  clear hm hk1 hrun
  go_wp2_with fail
  go_ret2
  exact HFIN.out
 ·have hfin : PlayPost cs l w (.returned (.tuple #[.slice none 0 0,.int .i64 k])) w1:=⟨Keep.trans HKW.out hk1,.inr ⟨k,hrun,hk0,rfl⟩⟩
  have HFIN:=Lib.hid hfin
  clear hfin
  clear hk1 hrun hk0
  go_wp2_with fail
  go_ret2
  exact HFIN.out
def PlayZ (Z : Nat → Prop) (cs : List Cd) (l : List Chc) (w : World) (e : Ending) (w' : World) : Prop:=
 Keep w w' ∧ ((∃ (m : Mi) (A : Option Addr) (c : Nat),runI cs l = .ok m ∧ e = .returned (.tuple #[.slice A m.ss.length c,.int .i64 0]) ∧ SlR w' (But w' Z) 4 (StR w' (But w' Z)) A m.ss.length c m.ss) ∨
  (∃ k : Int,runI cs l = .error k ∧ k ≠ 0 ∧ e = .returned (.tuple #[.slice none 0 0,.int .i64 k])))
set_option maxHeartbeats 8000000 in
theorem rfplayZ_any (w : World) (S Z : Nat → Prop) (AC AL : Option Addr) (n cC nl cl : Nat) (x1 x2 : Int) (cs : List Cd) (l : List Chc) (hS : ∀ i,S i → i < w.heap.size) (hZ : ∀ i,Z i → i < w.heap.size ∧ ¬ S i) (hC : CdsR w S AC n cC cs) (hic : ∀ c ∈ cs,c.init.length ≤ 1000000) (hl : Sl encCh 6 w S AL nl cl l) (hn : n ≤ 1000) (hnl : nl ≤ 1000) :
  Calls Tryz.prog 13 #[.agg #[.slice AC n cC,.int .i64 x1,.int .i64 x2],.slice AL nl cl] w (PlayZ Z cs l w):=by
 generalize hW : w.alloc (.cells #[.slice AC n cC,.int .i64 x1,.int .i64 x2] 27) = W
 have hkW : Keep w W:=hW ▸ Keep.new w _
 have hbc : Blk W w.heap.size 27 #[.slice AC n cC,.int .i64 x1,.int .i64 x2]:=hW ▸ Blk.new w _ _
 have hz:=hbc.lt
 have hcall:=rfrun_any W S Z AC AL n cC nl cl x1 x2 cs l (fun i hi=>by have:=hS i hi; omega) (fun i hi=>⟨by have:=(hZ i hi).1; omega,(hZ i hi).2⟩) (hC.keep (Same.mono hkW hS)) hic (hl.keep (Same.mono hkW hS)) hn hnl
 have HKW:=Lib.hid hkW
 have HBC:=Lib.hid hbc
 have HCALL:=Lib.hid hcall
 have HZ:=Lib.hid hZ
 clear hkW hbc hcall hZ
 go_enter Tryz.func13,Tryz.ntmps13
 go_upto_region 1 with fail
 clear hW
 go_wp2_with (refine wpList_load_all rfl _ (.tmp 2) rfl w.heap.size 27 [.slice AC n cC,.int .i64 x1,.int .i64 x2] _ rfl HBC.out Tryz.underlying27 rfl (by kernel_rfl) ?_)
 refine HCALL.out.mono ?_
 rintro e w1 ⟨hk1,⟨m,base,V1,V2,css,hrun,rfl,hbase,hm⟩ | ⟨k,hrun,hk0,rfl⟩⟩
 ·obtain ⟨A1,c1,hv1,hn1,hc1⟩:=own_form hm.1
  subst hv1
  have hfin : PlayZ Z cs l w (.returned (.tuple #[.slice A1 m.ss.length c1,.int .i64 0])) w1:=⟨Keep.trans HKW.out hk1,.inl ⟨m,_,_,hrun,rfl,hm.sl rfl hn1 hc1 (fun i hi=>by have:=(HZ.out i hi).1; omega)⟩⟩
  have HFIN:=Lib.hid hfin
  clear hfin
  clear hm hk1 hrun
  go_wp2_with fail
  go_ret2
  exact HFIN.out
 ·have hfin : PlayZ Z cs l w (.returned (.tuple #[.slice none 0 0,.int .i64 k])) w1:=⟨Keep.trans HKW.out hk1,.inr ⟨k,hrun,hk0,rfl⟩⟩
  have HFIN:=Lib.hid hfin
  clear hfin
  clear hk1 hrun hk0
  go_wp2_with fail
  go_ret2
  exact HFIN.out
set_option maxHeartbeats 8000000 in
theorem rfworld_any (w : World) (S : Nat → Prop) (AC AL : Option Addr) (n cC nl cl : Nat) (x1 x2 : Int) (cs : List Cd) (l : List Chc) (hS : ∀ i,S i → i < w.heap.size) (hC : CdsR w S AC n cC cs) (hic : ∀ c ∈ cs,c.init.length ≤ 1000000) (hl : Sl encCh 6 w S AL nl cl l) (hn : n ≤ 1000) (hnl : nl ≤ 1000) :
  Calls Tryz.prog 15 #[.agg #[.slice AC n cC,.int .i64 x1,.int .i64 x2],.slice AL nl cl] w (WorldPost cs l w):=by
 generalize hW : w.alloc (.cells #[.slice AC n cC,.int .i64 x1,.int .i64 x2] 27) = W
 have hkW : Keep w W:=hW ▸ Keep.new w _
 have hbc : Blk W w.heap.size 27 #[.slice AC n cC,.int .i64 x1,.int .i64 x2]:=hW ▸ Blk.new w _ _
 have hz:=hbc.lt
 have hcall:=rfrun_any W S (fun _=>False) AC AL n cC nl cl x1 x2 cs l (fun i hi=>by have:=hS i hi; omega) (fun i hi=>hi.elim) (hC.keep (Same.mono hkW hS)) hic (hl.keep (Same.mono hkW hS)) hn hnl
 have HKW:=Lib.hid hkW
 have HBC:=Lib.hid hbc
 have HCALL:=Lib.hid hcall
 clear hkW hbc hcall
 go_enter Tryz.func15,Tryz.ntmps15
 go_upto_region 1 with fail
 clear hW
 go_wp2_with (refine wpList_load_all rfl _ (.tmp 2) rfl w.heap.size 27 [.slice AC n cC,.int .i64 x1,.int .i64 x2] _ rfl HBC.out Tryz.underlying27 rfl (by kernel_rfl) ?_)
 refine HCALL.out.mono ?_
 rintro e w1 ⟨hk1,⟨m,base,V1,V2,css,hrun,rfl,hbase,hm⟩ | ⟨k,hrun,hk0,rfl⟩⟩
 ·obtain ⟨A2,c2,he,hsl⟩:=Sl.of_own hm.2.1
  subst he
  have hfin : WorldPost cs l w (.returned (.tuple #[.slice A2 m.world.length c2,.int .i64 0])) w1:=⟨Keep.trans HKW.out hk1,.inl ⟨m,_,_,hrun,rfl,hsl.more (fun i hi=>hi.2)⟩⟩
  have HFIN:=Lib.hid hfin
  clear hfin
  clear hsl hm hk1 hrun
  go_wp2_with fail
  go_ret2
  exact HFIN.out
 ·have hfin : WorldPost cs l w (.returned (.tuple #[.slice none 0 0,.int .i64 k])) w1:=⟨Keep.trans HKW.out hk1,.inr ⟨k,hrun,hk0,rfl⟩⟩
  have HFIN:=Lib.hid hfin
  clear hfin
  clear hk1 hrun hk0
  go_wp2_with fail
  go_ret2
  exact HFIN.out
def SsRel (l l2 : List St) (n : Nat) (w : World) (i : Value) (wr : World) : Prop:=∃ k : Nat,k ≤ n ∧ i = .int .i64 k ∧ l.take k = l2.take k ∧ Keep w wr
theorem sts_el {w : World} {S : Nat → Prop} {A : Option Addr} {n c : Nat} {ss : List St} (h : SlR w S 4 (StR w S) A n c ss) {k : Nat} (hk : k < n) : ss[k]? = some (ss.getD k zeroSt):=by
 have hl:=h.1
 rw [getD_lt (by omega),List.getElem?_eq_getElem]
set_option maxHeartbeats 8000000 in
theorem rfsame_any (w : World) (S : Nat → Prop) (A A2 : Option Addr) (n n2 c c2 : Nat) (l l2 : List St) (hS : ∀ i,S i → i < w.heap.size) (hl : SlR w S 4 (StR w S) A n c l) (hl2 : SlR w S 4 (StR w S) A2 n2 c2 l2) (hn : n ≤ 1000) (hn2 : n2 ≤ 1000) (hf : ∀ k,k < l.length → Fine (l.getD k zeroSt)) (hf2 : ∀ k,k < l2.length → Fine (l2.getD k zeroSt)) :
  Calls Tryz.prog 16 #[.slice A n c,.slice A2 n2 c2] w (SmPost (l = l2) w):=by
 have hnl:=hl.1
 have hnl2:=hl2.1
 by_cases hnn : n = n2
 case neg=>
  have hne : ¬ l = l2:=fun e=>hnn (by rw [hnl,hnl2,e])
  have d0 : ((n : Int) != (n2 : Int)) = true:=by simp; omega
  clear hl hl2 hnl hnl2
  have HNE:=Lib.hid hne
  clear hne
  go_enter Tryz.func16,Tryz.ntmps16
  go_wp2_with fail
  go_ret
  exact ⟨false,by simpa using HNE.out,rfl,Same.refl _ _⟩
 subst hnn
 have HL:=Lib.hid hl
 have HL2:=Lib.hid hl2
 have HNL:=Lib.hid hnl
 have HNL2:=Lib.hid hnl2
 have HS:=Lib.hid hS
 have HF:=Lib.hid hf
 have HF2:=Lib.hid hf2
 clear hl hl2 hnl hnl2 hS hf hf2
 go_enter Tryz.func16,Tryz.ntmps16
 go_wp2_with fail
 go_loopw [5] (fun i wr=>SsRel l l2 n w i wr) (fun i _=>n - (intOf i).toNat)
 case atStart=>exact ⟨0,Nat.zero_le _,rfl,rfl,Same.refl _ _⟩
 case round=>
  obtain ⟨k,hkn,rfl,htk,hkr⟩:=hrel
  have hzr:=hkr.size
  by_cases hk : k < n
  ·have hsm:=Same.mono hkr HS.out
   obtain ⟨b,off,B1,B2,B3,B4,p1,q1,p2,q2,p3,q3,p4,q4,rfl,hSb,hr1,hg1⟩:=sts_at (sts_keep HL.out hsm) hk
   obtain ⟨b2,off2,G1,G2,G3,G4,h1,j1,h2,j2,h3,j3,h4,j4,rfl,hSb2,hr2,hg2⟩:=sts_at (sts_keep HL2.out hsm) hk
   have hd:=sts_el HL.out hk
   have hd2:=sts_el HL2.out hk
   have hki : (0 : Int) ≤ (k : Int):=by omega
   have hki2 : (k : Int) < (n : Int):=by omega
   have t0 : decide (k < n) = true:=by simpa using hk
   have hb1:=HS.out _ hSb
   have hb2:=HS.out _ hSb2
   have rg1 : ∀ wx,Keep wr wx → wx.rangeAt b (off + k * 4) [.slice B1 p1 q1,.slice B2 p2 q2,.slice B3 p3 q3,.slice B4 p4 q4]:=fun wx hx j u hu=>(hx.cell (p:=⟨b,off + k * 4 + j,none⟩) (by show b < wr.heap.size; omega)).trans (hg1 j u hu)
   have rg2 : ∀ wx,Keep wr wx → wx.rangeAt b2 (off2 + k * 4) [.slice G1 h1 j1,.slice G2 h2 j2,.slice G3 h3 j3,.slice G4 h4 j4]:=fun wx hx j u hu=>(hx.cell (p:=⟨b2,off2 + k * 4 + j,none⟩) (by show b2 < wr.heap.size; omega)).trans (hg2 j u hu)
   have hcall : ∀ u,Keep wr u → Calls Tryz.prog 29 #[.agg #[.slice B1 p1 q1,.slice B2 p2 q2,.slice B3 p3 q3,.slice B4 p4 q4],.agg #[.slice G1 h1 j1,.slice G2 h2 j2,.slice G3 h3 j3,.slice G4 h4 j4]] u (SmPost (l.getD k zeroSt = l2.getD k zeroSt) u):=fun u hu=>
    rsame_any u S [.slice B1 p1 q1,.slice B2 p2 q2,.slice B3 p3 q3,.slice B4 p4 q4] [.slice G1 h1 j1,.slice G2 h2 j2,.slice G3 h3 j3,.slice G4 h4 j4] _ _ (fun i hi=>by have:=HS.out i hi; have:=hu.size; omega) (hr1.keep (hu.mono (fun i hi=>by have:=HS.out i hi; omega))) (hr2.keep (hu.mono (fun i hi=>by have:=HS.out i hi; omega))) (HF.out k (by have:=HNL.out; omega)) (HF2.out k (by have:=HNL2.out; omega))
   clear hg1 hg2 hr1 hr2
   have HD:=Lib.hid hd
   have HD2:=Lib.hid hd2
   have HTK:=Lib.hid htk
   have RG1:=Lib.hid rg1
   have RG2:=Lib.hid rg2
   have HCALL:=Lib.hid hcall
   have HKR:=Lib.hid hkr
   have HSM:=Lib.hid hsm
   clear hd hd2 htk rg1 rg2 hcall hkr hsm
   go_upto_region 6 with fail
   refine wp_region_L 99 (fun _=>True) (fun wx=>Keep wr wx) (by kernel_rfl) trivial (Same.drew (Same.refl _ _)) (fun hA hB=>?_)
   generalize hu0 : wr.drew = u0 at hB ⊢
   clear hu0
   refine wpL_takeB (i:=0) (v:=?_) rfl (by kernel_rfl) (by kernel_rfl) (by kernel_rfl) (by decide) (fun _ _ _ h=>h) (Or.inl ⟨by rfl,?_⟩) (SAB.both hA hB) ?_
   rotate_left
   ·intro wx hBx
    (try dsimp only at hBx)
    go_simp
    try with_reducible rfl
   try simp only [Act.put,List.setIfInBounds_toArray,List.set_cons_zero,List.set_cons_succ]
   refine wpL_takeB (i:=1) (v:=?_) rfl (by kernel_rfl) (by kernel_rfl) (by kernel_rfl) (by decide) (fun _ _ _ h=>h) (Or.inl ⟨by rfl,?_⟩) (SAB.both hA hB) ?_
   rotate_left
   ·intro wx hBx
    (try dsimp only at hBx)
    go_simp
    try with_reducible rfl
   try simp only [Act.put,List.setIfInBounds_toArray,List.set_cons_zero,List.set_cons_succ]
   refine wpL_takeB (i:=2) (v:=?_) rfl (by kernel_rfl) (by kernel_rfl) (by kernel_rfl) (by decide) (fun _ _ _ h=>h) (Or.inl ⟨by rfl,?_⟩) (SAB.both hA hB) ?_
   rotate_left
   ·intro wx hBx
    (try dsimp only at hBx)
    go_simp
    try with_reducible rfl
   try simp only [Act.put,List.setIfInBounds_toArray,List.set_cons_zero,List.set_cons_succ]
   refine wpL_takeB (i:=3) rfl (by kernel_rfl) (by kernel_rfl) (by kernel_rfl) (by decide) (fun _ _ _ h=>h) (yieldsIf_load_mid (by rfl) _ _ rfl b (off + k * 4) rfl [.slice B1 p1 q1,.slice B2 p2 q2,.slice B3 p3 q3,.slice B4 p4 q4] _ (fun wx hx=>RG1.out wx hx) Tryz.underlying50 rfl (by kernel_rfl)) (SAB.both hA hB) ?_
   try simp only [Act.put,List.setIfInBounds_toArray,List.set_cons_zero,List.set_cons_succ]
   refine wpL_takeB (i:=4) (v:=?_) rfl (by kernel_rfl) (by kernel_rfl) (by kernel_rfl) (by decide) (fun _ _ _ h=>h) (Or.inl ⟨by rfl,?_⟩) (SAB.both hA hB) ?_
   rotate_left
   ·intro wx hBx
    (try dsimp only at hBx)
    go_simp
    try with_reducible rfl
   try simp only [Act.put,List.setIfInBounds_toArray,List.set_cons_zero,List.set_cons_succ]
   refine wpL_takeB (i:=5) (v:=?_) rfl (by kernel_rfl) (by kernel_rfl) (by kernel_rfl) (by decide) (fun _ _ _ h=>h) (Or.inl ⟨by rfl,?_⟩) (SAB.both hA hB) ?_
   rotate_left
   ·intro wx hBx
    (try dsimp only at hBx)
    go_simp
    try with_reducible rfl
   try simp only [Act.put,List.setIfInBounds_toArray,List.set_cons_zero,List.set_cons_succ]
   refine wpL_takeB (i:=6) (v:=?_) rfl (by kernel_rfl) (by kernel_rfl) (by kernel_rfl) (by decide) (fun _ _ _ h=>h) (Or.inl ⟨by rfl,?_⟩) (SAB.both hA hB) ?_
   rotate_left
   ·intro wx hBx
    (try dsimp only at hBx)
    go_simp
    try with_reducible rfl
   try simp only [Act.put,List.setIfInBounds_toArray,List.set_cons_zero,List.set_cons_succ]
   refine wpL_takeB (i:=7) rfl (by kernel_rfl) (by kernel_rfl) (by kernel_rfl) (by decide) (fun _ _ _ h=>h) (yieldsIf_load_mid (by rfl) _ _ rfl b2 (off2 + k * 4) rfl [.slice G1 h1 j1,.slice G2 h2 j2,.slice G3 h3 j3,.slice G4 h4 j4] _ (fun wx hx=>RG2.out wx hx) Tryz.underlying50 rfl (by kernel_rfl)) (SAB.both hA hB) ?_
   try simp only [Act.put,List.setIfInBounds_toArray,List.set_cons_zero,List.set_cons_succ]
   refine wpL_one (i:=8) (by kernel_rfl) (StepL.mk rfl (fun K hK=>?_))
   go_simp
   refine (HCALL.out u0 hB).mono ?_
   rintro e u1 ⟨bb,hbb,rfl,hk1⟩
   have hB1:=Keep.trans hB hk1
   refine hK.out _ _ (SAB.both trivial hB1) (fun hSS=>?_)
   clear hK K hA hB
   have hB:=hSS.2
   have hA:=hSS.1 (by kernel_rfl)
   (try dsimp only at hB); (try dsimp only at hA); clear hSS
   try simp only [Act.put,List.setIfInBounds_toArray,List.set_cons_zero,List.set_cons_succ]
   refine wpL_takeB (i:=9) (v:=?_) rfl (by kernel_rfl) (by kernel_rfl) (by kernel_rfl) (by decide) (fun _ _ _ h=>h) (Or.inl ⟨by rfl,?_⟩) (SAB.both hA hB) ?_
   rotate_left
   ·intro wx hBx
    (try dsimp only at hBx)
    go_simp
    try with_reducible rfl
   try simp only [Act.put,List.setIfInBounds_toArray,List.set_cons_zero,List.set_cons_succ]
   refine wpL_done (by kernel_rfl) ?_
   have hkk:=Keep.trans HKR.out hB1
   have HKK:=Lib.hid hkk
   have HBB:=Lib.hid hbb
   clear hkk hbb
   clear hA hB hB1 hk1
   cases hq : bb
   ·have hne : ¬ l = l2:=fun e=>by have:=HBB.out; rw [hq] at this; simp at this; exact this (by rw [e])
    clear hq
    have HNE:=Lib.hid hne
    clear hne
    go_wp2_with fail
    go_ret
    exact ⟨false,by simpa using HNE.out,rfl,HKK.out⟩
   ·have he:=HBB.out.1 hq
    have hd':=HD.out
    rw [he] at hd'
    have ht2:=take_eq HTK.out hd' HD2.out
    clear hq he hd'
    have HT2:=Lib.hid ht2
    clear ht2
    go_wp2_with fail
    go_roundw
    case rel=>exact ⟨k + 1,by omega,by go_num,HT2.out,HKK.out⟩
    case measure=>simp [intOf]; omega
  ·have t0 : decide (k < n) = false:=by simpa using hk
   have hkl : l = l2:=by
    rw [List.take_of_length_le (by have:=HNL.out; omega),List.take_of_length_le (by have:=HNL2.out; omega)] at htk
    exact htk
   have HTK:=Lib.hid htk
   have HKL:=Lib.hid hkl
   have HKR:=Lib.hid hkr
   clear htk hkl hkr
   go_wp2_with fail
   go_ret
   exact ⟨true,by simpa using HKL.out,rfl,HKR.out⟩
theorem Sh_ext (a b : Sh) : a = b ↔ a.proc = b.proc ∧ a.idx = b.idx ∧ a.ord = b.ord ∧ a.val = b.val:=by
 cases a; cases b; simp
set_option maxHeartbeats 4000000 in
theorem shsame_any (w : World) (S T : Nat → Prop) (A A2 : Option Addr) (n n2 c c2 : Nat) (l l2 : List Sh) (hl : Sl encSh 4 w S A n c l) (hl2 : Sl encSh 4 w T A2 n2 c2 l2) (hn : n ≤ 1000000) (hn2 : n2 ≤ 1000000) :
  Calls Tryz.prog 17 #[.slice A n c,.slice A2 n2 c2] w (SameIs (l = l2) w):=by
 have hnl:=hl.1
 have hnl2:=hl2.1
 by_cases hnn : n = n2
 case neg=>
  have hne : ¬ l = l2:=fun e=>hnn (by rw [hnl,hnl2,e])
  have d0 : ((n : Int) != (n2 : Int)) = true:=by simp; omega
  clear hl hl2 hnl hnl2
  have HNE:=Lib.hid hne
  clear hne
  go_enter Tryz.func17,Tryz.ntmps17
  go_wp2_with fail
  go_ret
  exact ⟨false,by simpa using HNE.out,rfl,0,rfl⟩
 subst hnn
 have HL:=Lib.hid hl
 have HL2:=Lib.hid hl2
 have HNL:=Lib.hid hnl
 have HNL2:=Lib.hid hnl2
 clear hl hl2 hnl hnl2
 go_enter Tryz.func17,Tryz.ntmps17
 go_wp2_with fail
 go_loopw [5] (fun i wr=>SmRel l l2 n w i wr) (fun i _=>n - (intOf i).toNat)
 case atStart=>exact ⟨0,0,Nat.zero_le _,rfl,rfl,rfl⟩
 case round=>
  obtain ⟨k,m,hkn,rfl,htk,rfl⟩:=hrel
  by_cases hk : k < n
  ·obtain ⟨b,off,d,rfl,_,hd,hcell⟩:=HL.out.at_ encSh_len hk
   obtain ⟨b2,off2,d2,rfl,_,hd2,hcell2⟩:=HL2.out.at_ encSh_len hk
   have hki : (0 : Int) ≤ (k : Int):=by omega
   have hki2 : (k : Int) < (n : Int):=by omega
   have hr1 : ∀ j,(w.drewN j).rangeAt b (off + k * 4) [.int .i64 d.proc,.int .i64 d.idx,.int .i64 d.ord,.int .i64 d.val]:=fun j=>hcell
   have hr2 : ∀ j,(w.drewN j).rangeAt b2 (off2 + k * 4) [.int .i64 d2.proc,.int .i64 d2.idx,.int .i64 d2.ord,.int .i64 d2.val]:=fun j=>hcell2
   clear hcell hcell2
   have hA : True:=trivial
   have HD:=Lib.hid hd
   have HD2:=Lib.hid hd2
   have HTK:=Lib.hid htk
   have HR1:=Lib.hid hr1
   have HR2:=Lib.hid hr2
   clear hd hd2 htk hr1 hr2
   go_upto_region 6 with fail
   refine wp_region_L 99 (fun _=>True) (fun wx=>∃ j,wx = w.drewN j) (by kernel_rfl) trivial ⟨m + 1,rfl⟩ (fun _ hB=>?_)
   refine wpL_takeB (i:=0) (v:=?_) rfl (by kernel_rfl) (by kernel_rfl) (by kernel_rfl) (by decide) (fun _ _ _ h=>h) (Or.inl ⟨by rfl,?_⟩) (SAB.both hA hB) ?_
   rotate_left
   ·intro wx hBx
    (try dsimp only at hBx)
    go_simp
    try with_reducible rfl
   try simp only [Act.put,List.setIfInBounds_toArray,List.set_cons_zero,List.set_cons_succ]
   refine wpL_takeB (i:=1) (v:=?_) rfl (by kernel_rfl) (by kernel_rfl) (by kernel_rfl) (by decide) (fun _ _ _ h=>h) (Or.inl ⟨by rfl,?_⟩) (SAB.both hA hB) ?_
   rotate_left
   ·intro wx hBx
    (try dsimp only at hBx)
    go_simp
    try with_reducible rfl
   try simp only [Act.put,List.setIfInBounds_toArray,List.set_cons_zero,List.set_cons_succ]
   refine wpL_takeB (i:=2) (v:=?_) rfl (by kernel_rfl) (by kernel_rfl) (by kernel_rfl) (by decide) (fun _ _ _ h=>h) (Or.inl ⟨by rfl,?_⟩) (SAB.both hA hB) ?_
   rotate_left
   ·intro wx hBx
    (try dsimp only at hBx)
    go_simp
    try with_reducible rfl
   try simp only [Act.put,List.setIfInBounds_toArray,List.set_cons_zero,List.set_cons_succ]
   refine wpL_takeB (i:=3) rfl (by kernel_rfl) (by kernel_rfl) (by kernel_rfl) (by decide) (fun _ _ _ h=>h) (yieldsIf_load_mid (by rfl) _ _ rfl b (off + k * 4) rfl [.int .i64 d.proc,.int .i64 d.idx,.int .i64 d.ord,.int .i64 d.val] _ (fun wx hx=>by obtain ⟨j,rfl⟩:=hx; exact HR1.out j) Tryz.underlying44 rfl (by kernel_rfl)) (SAB.both hA hB) ?_
   try simp only [Act.put,List.setIfInBounds_toArray,List.set_cons_zero,List.set_cons_succ]
   refine wpL_takeB (i:=4) (v:=?_) rfl (by kernel_rfl) (by kernel_rfl) (by kernel_rfl) (by decide) (fun _ _ _ h=>h) (Or.inl ⟨by rfl,?_⟩) (SAB.both hA hB) ?_
   rotate_left
   ·intro wx hBx
    (try dsimp only at hBx)
    go_simp
    try with_reducible rfl
   try simp only [Act.put,List.setIfInBounds_toArray,List.set_cons_zero,List.set_cons_succ]
   refine wpL_takeB (i:=5) (v:=?_) rfl (by kernel_rfl) (by kernel_rfl) (by kernel_rfl) (by decide) (fun _ _ _ h=>h) (Or.inl ⟨by rfl,?_⟩) (SAB.both hA hB) ?_
   rotate_left
   ·intro wx hBx
    (try dsimp only at hBx)
    go_simp
    try with_reducible rfl
   try simp only [Act.put,List.setIfInBounds_toArray,List.set_cons_zero,List.set_cons_succ]
   refine wpL_takeB (i:=6) (v:=?_) rfl (by kernel_rfl) (by kernel_rfl) (by kernel_rfl) (by decide) (fun _ _ _ h=>h) (Or.inl ⟨by rfl,?_⟩) (SAB.both hA hB) ?_
   rotate_left
   ·intro wx hBx
    (try dsimp only at hBx)
    go_simp
    try with_reducible rfl
   try simp only [Act.put,List.setIfInBounds_toArray,List.set_cons_zero,List.set_cons_succ]
   refine wpL_takeB (i:=7) rfl (by kernel_rfl) (by kernel_rfl) (by kernel_rfl) (by decide) (fun _ _ _ h=>h) (yieldsIf_load_mid (by rfl) _ _ rfl b2 (off2 + k * 4) rfl [.int .i64 d2.proc,.int .i64 d2.idx,.int .i64 d2.ord,.int .i64 d2.val] _ (fun wx hx=>by obtain ⟨j,rfl⟩:=hx; exact HR2.out j) Tryz.underlying44 rfl (by kernel_rfl)) (SAB.both hA hB) ?_
   try simp only [Act.put,List.setIfInBounds_toArray,List.set_cons_zero,List.set_cons_succ]
   by_cases he : d = d2
   ·subst he
    have ht2:=take_eq HTK.out HD.out HD2.out
    refine wpL_takeB (i:=8) rfl (by kernel_rfl) (by kernel_rfl) (by kernel_rfl) (by decide) (fun _ _ _ h=>h) (yieldsIf_of (by rfl) (.bool false) (fun wx _=>by go_simp)) (SAB.both hA hB) ?_
    try simp only [Act.put,List.setIfInBounds_toArray,List.set_cons_zero,List.set_cons_succ]
    refine wpL_done (by kernel_rfl) ?_
    have HT2:=Lib.hid ht2
    clear ht2
    clear hA hB
    go_wp2_with fail
    go_roundw
    case rel=>exact ⟨k + 1,m + 1,by omega,by go_num,HT2.out,rfl⟩
    case measure=>simp [intOf]; omega
   ·have hne:=ne_at HD.out HD2.out he
    have himp : d.proc = d2.proc → d.idx = d2.idx → d.ord = d2.ord → ¬ d.val = d2.val:=fun h0 h1 h2 h3=>he ((Sh_ext d d2).2 ⟨h0,h1,h2,h3⟩)
    refine wpL_takeB (i:=8) rfl (by kernel_rfl) (by kernel_rfl) (by kernel_rfl) (by decide) (fun _ _ _ h=>h) (yieldsIf_of (by rfl) (.bool true) (fun wx _=>by go_simp; exact himp)) (SAB.both hA hB) ?_
    try simp only [Act.put,List.setIfInBounds_toArray,List.set_cons_zero,List.set_cons_succ]
    refine wpL_done (by kernel_rfl) ?_
    have HNE:=Lib.hid hne
    clear hne
    clear hA hB he himp
    go_wp2_with fail
    go_ret
    exact ⟨false,by simpa using HNE.out,rfl,m + 1,rfl⟩
  ·have hkl : l = l2:=by
    rw [List.take_of_length_le (by have:=HNL.out; omega),List.take_of_length_le (by have:=HNL2.out; omega)] at htk
    exact htk
   have HTK:=Lib.hid htk
   have HKL:=Lib.hid hkl
   clear htk hkl
   go_wp2_with fail
   go_ret
   exact ⟨true,by simpa using HKL.out,rfl,m,rfl⟩
end Go.Proofs.YtipegaojiokppaaGreatDoor
