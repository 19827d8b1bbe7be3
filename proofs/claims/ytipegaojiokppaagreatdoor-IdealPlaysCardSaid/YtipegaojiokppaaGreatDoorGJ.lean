import Derived.Test.YtipegaojiokppaaGreatDoorGI
import Derived.Test.YtipegaojiokppaaGreatDoorGQ
import Derived.Test.YtipegaojiokppaaGreatDoorGP
set_option linter.unusedVariables false
set_option linter.unusedSimpArgs false
set_option maxRecDepth 100000
namespace Go.Proofs.YtipegaojiokppaaGreatDoor
open Go.RowKit Go.Proofs
def MiX (gm gs : Nat) (V : Value) (i : Nat) : Prop:=i = gm ∨ i = gs ∨ V.ownBlock = some i
def MiM (w : World) (base gm gs : Nat) (VC : Value) (A : Option Addr) (c : Nat) (css : List (List Value)) (m : Mi) : Prop:=
 base ≤ gm ∧ base ≤ gs ∧ gm ≠ gs ∧ Blk w gm 81 #[VC,.slice (some ⟨gs,0,none⟩) m.ss.length m.ss.length,.slice A m.world.length c] ∧
 w.ownsRow base 44 4 (.slice A m.world.length c) m.world.length (m.world.flatMap encSh) ∧ (∀ b,(Value.slice A m.world.length c).ownBlock = some b → b ≠ gm ∧ b ≠ gs) ∧
 Blk w gs 50 css.flatten.toArray ∧ StsR w (MiX gm gs (.slice A m.world.length c)) css m.ss
theorem MiM.keep {w w' : World} {base gm gs : Nat} {VC : Value} {A : Option Addr} {c : Nat} {css : List (List Value)} {m : Mi} (h : MiM w base gm gs VC A c css m) (hk : Keep w w') : MiM w' base gm gs VC A c css m:=by
 obtain ⟨h1,h2,h3,h4,h5,h6,h7,h8⟩:=h
 exact ⟨h1,h2,h3,hk.blk h4 h4.lt,ownsRow_same h5 hk (fun i hi=>hi.2),h6,hk.blk h7 h7.lt,h8.keep hk⟩
def ProcPost (n : Nat) (p : Int) (w : World) (e : Ending) (w' : World) : Prop:=e = .returned (.bool (procI n p)) ∧ w = w'
set_option maxHeartbeats 4000000 in
theorem process_any (w : World) (gm gs n : Nat) (VC VW : Value) (hb : Blk w gm 81 #[VC,.slice (some ⟨gs,0,none⟩) n n,VW]) (p : Int) : Calls Tryz.prog 57 #[.pointer (some ⟨gm,0,none⟩),.int .i64 p] w (ProcPost n p w):=by
 have c1 : w.cell? ⟨gm,1,none⟩ = some (.slice (some ⟨gs,0,none⟩) n n):=by rw [hb.cell]; rfl
 clear hb
 have hfin : ∀ q : Bool,procI n p = q → ProcPost n p w (.returned (.bool q)) w:=fun q h=>⟨by rw [h],rfl⟩
 unfold procI at hfin
 have HFIN:=Lib.hid hfin
 clear hfin
 by_cases h0 : 0 ≤ p
 ·have d0 : decide (0 ≤ p) = true:=by simpa using h0
  cases d1 : decide (p < (n : Int))
  ·go_enter Tryz.func57,Tryz.ntmps57
   go_wp2_with fail
   go_ret
   exact HFIN.out _ (by rw [d0,d1]; rfl)
  ·go_enter Tryz.func57,Tryz.ntmps57
   go_wp2_with fail
   go_ret
   exact HFIN.out _ (by rw [d0,d1]; rfl)
 ·have d0 : decide (0 ≤ p) = false:=by simpa using h0
  go_enter Tryz.func57,Tryz.ntmps57
  go_wp2_with fail
  go_ret
  exact HFIN.out _ (by rw [d0]; rfl)
theorem bld_ev0 : Tryz.prog.built 89 [] = some #[.int .i64 0,.int .i64 0,.int .i64 0,.int .i64 0,.int .i64 0,.int .i64 0,.int .i64 0]:=by kernel_rfl
theorem bld_evT (k v : Int) : Tryz.prog.built 89 [(0,.int .i64 k),(5,.int .i64 v)] = some #[.int .i64 k,.int .i64 0,.int .i64 0,.int .i64 0,.int .i64 0,.int .i64 0,.int .i64 v]:=by kernel_rfl
theorem bld_evR (f a b o v : Int) : Tryz.prog.built 89 [(0,.int .i64 1),(2,.int .i64 f),(3,.agg #[.int .i64 a,.int .i64 b]),(4,.int .i64 o),(5,.int .i64 v)] = some #[.int .i64 1,.int .i64 0,.int .i64 f,.int .i64 a,.int .i64 b,.int .i64 o,.int .i64 v]:=by kernel_rfl
theorem bld_labI (a : Int) : Tryz.prog.built 87 [(1,.int .i64 a)] = some #[.int .i64 0,.int .i64 a]:=by kernel_rfl
theorem load_ev {w : World} {b : Nat} (e : Ev) (hb : Blk w b 89 (encEv e).toArray) : (loadVar 89 ⟨b,0,none⟩).run Tryz.prog w = .ok (.agg (encEv e).toArray) w:=
 loadVar_blk (encEv e) _ hb (fun j v hv=>by simpa using hv) Tryz.underlying89 rfl (by kernel_rfl)
def EvtPost (r : Ev × Int) (w : World) (e : Ending) (w' : World) : Prop:=e = .returned (.tuple #[.agg (encEv r.1).toArray,.int .i64 r.2]) ∧ Keep w w'
theorem find_drop {l : List Snd} {k : Nat} {y : Snd} {x : Chc} (h : l[k]? = some y) : findI (l.drop k) x = if hitM x y then some y else findI (l.drop (k + 1)) x:=by
 rw [drop_cons h]
 unfold findI
 rw [List.find?_cons]
 cases hitM x y <;> rfl
def FindRel (W : World) (l : List Snd) (x : Chc) (i : Value) (wr : World) : Prop:=∃ k : Nat,i = .int .i64 k ∧ k ≤ l.length ∧ findI l x = findI (l.drop k) x ∧ Keep W wr
set_option maxHeartbeats 16000000 in
theorem ievent_any (w : World) (base gm gs : Nat) (VC : Value) (A : Option Addr) (c : Nat) (css : List (List Value)) (m : Mi) (x : Chc) (hm : MiM w base gm gs VC A c css m) (hn : m.ss.length ≤ 1000) (hfew : ∀ p,p < m.ss.length → (m.ss.getD p zeroSt).events.length ≤ 1000000 ∧ (m.ss.getD p zeroSt).sent.length ≤ 1000000) :
  Calls Tryz.prog 41 #[.pointer (some ⟨gm,0,none⟩),.agg (encCh x).toArray] w (EvtPost (eventI m.ss x) w):=by
 obtain ⟨xp,xk,xf,xi,xo,xv⟩:=x
 show Calls Tryz.prog 41 #[.pointer (some ⟨gm,0,none⟩),.agg #[.int .i64 xp,.int .i64 xk,.int .i64 xf,.int .i64 xi,.int .i64 xo,.int .i64 xv]] w _
 obtain ⟨hb1,hb2,hb3,hb4,-,-,hb7,hb8⟩:=hm
 generalize hW : (w.alloc (.cells #[.int .i64 xp,.int .i64 xk,.int .i64 xf,.int .i64 xi,.int .i64 xo,.int .i64 xv] 57)).alloc (.cells #[.int .i64 0,.int .i64 0,.int .i64 0,.int .i64 0,.int .i64 0,.int .i64 0,.int .i64 0] 89) = W
 have hkW : Keep w W:=hW ▸ Keep.alloc (Keep.new w _) _
 have hbx : Blk W w.heap.size 57 #[.int .i64 xp,.int .i64 xk,.int .i64 xf,.int .i64 xi,.int .i64 xo,.int .i64 xv]:=hW ▸ (Blk.new w _ _).alloc _
 have hbr : Blk W (w.heap.size + 1) 89 #[.int .i64 0,.int .i64 0,.int .i64 0,.int .i64 0,.int .i64 0,.int .i64 0,.int .i64 0]:=hW ▸ (by simpa using Blk.new (w.alloc _) _ _)
 have hz : w.heap.size + 1 < W.heap.size:=hbr.lt
 have hbm:=hkW.blk hb4 hb4.lt
 have hbs:=hkW.blk hb7 hb7.lt
 have hst:=hb8.keep hkW
 generalize hnn : m.ss.length = n at *
 have e0 : W.cell? ⟨w.heap.size,0,none⟩ = some (.int .i64 xp):=by rw [hbx.cell]; rfl
 have e1 : W.cell? ⟨w.heap.size,1,none⟩ = some (.int .i64 xk):=by rw [hbx.cell]; rfl
 have e2 : W.cell? ⟨w.heap.size,2,none⟩ = some (.int .i64 xf):=by rw [hbx.cell]; rfl
 have e5 : W.cell? ⟨w.heap.size,5,none⟩ = some (.int .i64 xv):=by rw [hbx.cell]; rfl
 have m1 : W.cell? ⟨gm,1,none⟩ = some (.slice (some ⟨gs,0,none⟩) n n):=by rw [hbm.cell]; rfl
 have key : ∀ (w2 w' : World) (e : Ev) (k : Int),Keep W w2 → Blk w' (w.heap.size + 1) 89 (encEv e).toArray → Same (· ≠ w.heap.size + 1) w2 w' → eventI m.ss ⟨xp,xk,xf,xi,xo,xv⟩ = (e,k) → EvtPost (eventI m.ss ⟨xp,xk,xf,xi,xo,xv⟩) w (.returned (.tuple #[.agg (encEv e).toArray,.int .i64 k])) w':=fun w2 w' e k h1 _ hs h=>⟨by rw [h],Keep.write (Keep.trans hkW h1) hs (by omega)⟩
 have pc:=process_any W gm gs n VC _ hbm
 have kk : Keep W W:=Same.refl _ _
 clear hb4 hb7 hb8
 have HKW:=Lib.hid hkW
 have HBX:=Lib.hid hbx
 have HBR:=Lib.hid hbr
 have HBM:=Lib.hid hbm
 have HBS:=Lib.hid hbs
 have HST:=Lib.hid hst
 have KEY:=Lib.hid key
 have PC:=Lib.hid pc
 have KK:=Lib.hid kk
 have HFEW:=Lib.hid hfew
 have HNN:=Lib.hid hnn
 clear hkW hbx hbr hbm hbs hst key pc kk hfew hnn
 go_enter Tryz.func41,Tryz.ntmps41
 go_upto_region 1 with fail
 clear hW
 -- the choice names what there is,or not
 by_cases hok : okI n ⟨xp,xk,xf,xi,xo,xv⟩ = true
 case neg=>
  have hbad : eventI m.ss ⟨xp,xk,xf,xi,xo,xv⟩ = (zeroEv,3):=by unfold eventI; rw [HNN.out,if_pos (by simpa using hok)]
  have hok2 : ∀ a b c d : Bool,procI n xp = a → (xk == 1) = b → (xk == 2) = c → (xk == 3) = d → ¬ (a && (b || c || d) && (!b || procI n xf && !(xf == xp))) = true:=fun a b c d h1 h2 h3 h4=>by rw [← h1,← h2,← h3,← h4]; exact hok
  clear hok
  have HBAD:=Lib.hid hbad
  have HOK2:=Lib.hid hok2
  clear hbad hok2
  cases hp : procI n xp
  ·have HP:=Lib.hid hp
   clear hp
   go_wp2_with fail
   refine (PC.out xp).mono ?_
   rintro e w9 ⟨rfl,rfl⟩
   rw [HP.out]
   go_upto_region 2 with fail
   go_wp2_with (first
    | (refine wpList_bld rfl 89 _ rfl _ [] rfl bld_ev0 ?_)
    | (refine wpList_store_all rfl _ (.tmp 4) (.tmp 29) rfl (w.heap.size + 1) 89 _ [.int .i64 0,.int .i64 0,.int .i64 0,.int .i64 0,.int .i64 0,.int .i64 0,.int .i64 0] rfl rfl HBR.out rfl (by kernel_rfl) rfl ?_; intro v6 hv6 hs6; have HV6:=Lib.hid hv6; have HS6:=Lib.hid hs6; clear hv6 hs6))
   exact bodyPost_ret (results_cell_tmp' Tryz.results41 _ _ _ ⟨w.heap.size + 1,0,none⟩ _ _ rfl rfl (load_ev zeroEv HV6.out)) rfl (KEY.out _ _ zeroEv 3 KK.out HV6.out HS6.out HBAD.out)
  ·have HP:=Lib.hid hp
   clear hp
   cases k1 : (xk == 1)
   ·have n1 : (xk != 1) = true:=by simpa using k1
    cases k2 : (xk == 2)
    ·have n2 : (xk != 2) = true:=by simpa using k2
     cases k3 : (xk == 3)
     ·have n3 : (xk != 3) = true:=by simpa using k3
      clear k1 k2 k3
      go_wp2_with fail
      refine (PC.out xp).mono ?_
      rintro e w9 ⟨rfl,rfl⟩
      rw [HP.out]
      go_upto_region 2 with fail
      go_wp2_with (first
       | (refine wpList_bld rfl 89 _ rfl _ [] rfl bld_ev0 ?_)
       | (refine wpList_store_all rfl _ (.tmp 4) (.tmp 29) rfl (w.heap.size + 1) 89 _ [.int .i64 0,.int .i64 0,.int .i64 0,.int .i64 0,.int .i64 0,.int .i64 0,.int .i64 0] rfl rfl HBR.out rfl (by kernel_rfl) rfl ?_; intro v6 hv6 hs6; have HV6:=Lib.hid hv6; have HS6:=Lib.hid hs6; clear hv6 hs6))
      exact bodyPost_ret (results_cell_tmp' Tryz.results41 _ _ _ ⟨w.heap.size + 1,0,none⟩ _ _ rfl rfl (load_ev zeroEv HV6.out)) rfl (KEY.out _ _ zeroEv 3 KK.out HV6.out HS6.out HBAD.out)
     ·exact absurd (by simp) (HOK2.out _ _ _ _ HP.out k1 k2 k3)
    ·exact absurd (by simp) (HOK2.out _ _ _ _ HP.out k1 k2 rfl)
   ·have n1 : (xk != 1) = false:=by simpa using k1
    have hbad2 : ¬ (procI n xf && !(xf == xp)) = true:=by have:=HOK2.out _ _ _ _ HP.out k1 rfl rfl; simpa using this
    have HBAD2:=Lib.hid hbad2
    clear hbad2
    go_wp2_with fail
    refine (PC.out xp).mono ?_
    rintro e w9 ⟨rfl,rfl⟩
    rw [HP.out]
    go_wp2_with fail
    refine (PC.out xf).mono ?_
    rintro e w9 ⟨rfl,rfl⟩
    cases hf : procI n xf
    ·have HF:=Lib.hid hf
     clear hf
     go_upto_region 4 with fail
     go_wp2_with (first
      | (refine wpList_bld rfl 89 _ rfl _ [] rfl bld_ev0 ?_)
      | (refine wpList_store_all rfl _ (.tmp 4) (.tmp 47) rfl (w.heap.size + 1) 89 _ [.int .i64 0,.int .i64 0,.int .i64 0,.int .i64 0,.int .i64 0,.int .i64 0,.int .i64 0] rfl rfl HBR.out rfl (by kernel_rfl) rfl ?_; intro v6 hv6 hs6; have HV6:=Lib.hid hv6; have HS6:=Lib.hid hs6; clear hv6 hs6))
     exact bodyPost_ret (results_cell_tmp' Tryz.results41 _ _ _ ⟨w.heap.size + 1,0,none⟩ _ _ rfl rfl (load_ev zeroEv HV6.out)) rfl (KEY.out _ _ zeroEv 3 KK.out HV6.out HS6.out HBAD.out)
    ·have hfp : (xf == xp) = true:=by have:=HBAD2.out; rw [hf] at this; simpa using this
     have HF:=Lib.hid hf
     clear hf
     go_upto_region 4 with fail
     go_wp2_with (first
      | (refine wpList_bld rfl 89 _ rfl _ [] rfl bld_ev0 ?_)
      | (refine wpList_store_all rfl _ (.tmp 4) (.tmp 47) rfl (w.heap.size + 1) 89 _ [.int .i64 0,.int .i64 0,.int .i64 0,.int .i64 0,.int .i64 0,.int .i64 0,.int .i64 0] rfl rfl HBR.out rfl (by kernel_rfl) rfl ?_; intro v6 hv6 hs6; have HV6:=Lib.hid hv6; have HS6:=Lib.hid hs6; clear hv6 hs6))
     exact bodyPost_ret (results_cell_tmp' Tryz.results41 _ _ _ ⟨w.heap.size + 1,0,none⟩ _ _ rfl rfl (load_ev zeroEv HV6.out)) rfl (KEY.out _ _ zeroEv 3 KK.out HV6.out HS6.out HBAD.out)
 have hpp:=okI_proc hok
 simp only at hpp
 have hp : procI n xp = true:=by simp [procI]; omega
 obtain ⟨p,hpe⟩ : ∃ p : Nat,xp = p:=⟨xp.toNat,by omega⟩
 subst hpe
 have hpn : p < n:=by have:=hpp.2; omega
 obtain ⟨B1,B2,B3,B4,p1,q1',p2,q2',p3,q3',p4,q4',hcs,hstp⟩:=HST.out.at_ (k:=p) (by rw [HNN.out]; exact hpn)
 have c1 : W.cell? ⟨gs,p * 4 + 1,none⟩ = some (.slice B2 p2 q2'):=HST.out.cell HBS.out hcs rfl
 have g1 : (p : Int) < n:=by omega
 have g2 : (0 : Int) ≤ p:=by omega
 have hev:=(st_sl hstp).2.1
 have hp2 : p2 = (stAt m.ss (p : Int)).events.length:=by have:=hev.1; simpa [stAt] using this
 have hfewp:=HFEW.out p hpn
 have hq2 : p2 ≤ 1000000:=by have:=hev.1; omega
 have hokI : okI m.ss.length ⟨p,xk,xf,xi,xo,xv⟩ = true:=by rw [HNN.out]; exact hok
 have h64 : (64 : Int) ≤ p2 → eventI m.ss ⟨p,xk,xf,xi,xo,xv⟩ = (zeroEv,4):=fun h=>by
  unfold eventI
  rw [if_neg (by rw [hokI]; simp),if_pos (by show 64 ≤ (stAt m.ss (p : Int)).events.length; omega)]
 have hpl : ¬ (64 : Int) ≤ p2 → xk ≠ 1 → eventI m.ss ⟨p,xk,xf,xi,xo,xv⟩ = (⟨xk,0,0,0,0,0,xv⟩,0):=fun h h1=>by
  unfold eventI
  rw [if_neg (by rw [hokI]; simp),if_neg (by show ¬ 64 ≤ (stAt m.ss (p : Int)).events.length; omega),if_pos h1]
 have hrn : ¬ (64 : Int) ≤ p2 → xk = 1 → findI (stAt m.ss xf).sent ⟨p,xk,xf,xi,xo,xv⟩ = none → eventI m.ss ⟨p,xk,xf,xi,xo,xv⟩ = (zeroEv,11):=fun h h1 hf=>by
  unfold eventI
  rw [if_neg (by rw [hokI]; simp),if_neg (by show ¬ 64 ≤ (stAt m.ss (p : Int)).events.length; omega),if_neg (by simpa using h1),hf]
 have hrs : ∀ s,¬ (64 : Int) ≤ p2 → xk = 1 → findI (stAt m.ss xf).sent ⟨p,xk,xf,xi,xo,xv⟩ = some s → eventI m.ss ⟨p,xk,xf,xi,xo,xv⟩ = if recvS (stAt m.ss (p : Int)).events xf 0 xi xo ≠ 0 then (zeroEv,15) else (⟨1,0,xf,0,xi,xo,s.val⟩,0):=fun s h h1 hf=>by
  unfold eventI
  rw [if_neg (by rw [hokI]; simp),if_neg (by show ¬ 64 ≤ (stAt m.ss (p : Int)).events.length; omega),if_neg (by simpa using h1),hf]
 have hok3 : xk = 1 ∨ xk = 2 ∨ xk = 3:=by
  simp only [okI,Bool.and_eq_true,Bool.or_eq_true,beq_iff_eq] at hok
  omega
 have hokf : xk = 1 → procI n xf = true ∧ 0 ≤ xf ∧ xf.toNat < n ∧ xf ≠ p:=fun h=>by
  have:=okI_frm hok h
  simp only at this
  exact ⟨by simp [procI]; omega,this⟩
 clear hok hpp hokI
 have HP:=Lib.hid hp
 have HCS:=Lib.hid hcs
 have HSTP:=Lib.hid hstp
 have HEV:=Lib.hid hev
 have HP2:=Lib.hid hp2
 have H64:=Lib.hid h64
 have HPL:=Lib.hid hpl
 have HRN:=Lib.hid hrn
 have HRS:=Lib.hid hrs
 have HOKF:=Lib.hid hokf
 have HFEWP:=Lib.hid hfewp
 clear hp hcs hstp hev hp2 h64 hpl hrn hrs hokf hfewp
 by_cases hk1 : xk = 1
 case neg=>
  have n1 : (xk != 1) = true:=by simpa using hk1
  have k1 : (xk == 1) = false:=by simpa using hk1
  cases n2 : (xk != 2)
  ·go_wp2_with fail
   refine (PC.out p).mono ?_
   rintro e w9 ⟨rfl,rfl⟩
   rw [HP.out]
   go_upto_region 5 with fail
   clear n2
   cases t64 : decide ((64 : Int) ≤ p2)
   ·have hev:=HPL.out (by simpa using t64) hk1
    have HEV:=Lib.hid hev
    clear hev
    clear hok3 hk1
    go_quiet (fail)
    go_upto_region 8 with fail
    go_wp2_with (first
     | (refine wpList_bld rfl 89 _ rfl _ [(0,.int .i64 xk),(5,.int .i64 xv)] rfl (bld_evT _ _) ?_)
     | (refine wpList_store_all rfl _ (.tmp 4) (.tmp 67) rfl (w.heap.size + 1) 89 _ [.int .i64 xk,.int .i64 0,.int .i64 0,.int .i64 0,.int .i64 0,.int .i64 0,.int .i64 xv] rfl rfl HBR.out rfl (by kernel_rfl) rfl ?_; intro v6 hv6 hs6; have HV6:=Lib.hid hv6; have HS6:=Lib.hid hs6; clear hv6 hs6))
    exact bodyPost_ret (results_cell_tmp' Tryz.results41 _ _ _ ⟨w.heap.size + 1,0,none⟩ _ _ rfl rfl (load_ev ⟨xk,0,0,0,0,0,xv⟩ HV6.out)) rfl (KEY.out _ _ ⟨xk,0,0,0,0,0,xv⟩ 0 (Keep.draws _ _) HV6.out HS6.out HEV.out)
   ·have hev:=H64.out (by simpa using t64)
    have HEV:=Lib.hid hev
    clear hev
    clear hok3 hk1
    go_quiet (fail)
    go_upto_region 6 with fail
    go_wp2_with (first
     | (refine wpList_bld rfl 89 _ rfl _ [] rfl bld_ev0 ?_)
     | (refine wpList_store_all rfl _ (.tmp 4) (.tmp 59) rfl (w.heap.size + 1) 89 _ [.int .i64 0,.int .i64 0,.int .i64 0,.int .i64 0,.int .i64 0,.int .i64 0,.int .i64 0] rfl rfl HBR.out rfl (by kernel_rfl) rfl ?_; intro v6 hv6 hs6; have HV6:=Lib.hid hv6; have HS6:=Lib.hid hs6; clear hv6 hs6))
    exact bodyPost_ret (results_cell_tmp' Tryz.results41 _ _ _ ⟨w.heap.size + 1,0,none⟩ _ _ rfl rfl (load_ev zeroEv HV6.out)) rfl (KEY.out _ _ zeroEv 4 (Keep.draws _ _) HV6.out HS6.out HEV.out)
  ·have n3 : (xk != 3) = false:=by
    have : xk ≠ 2:=by simpa using n2
    have : xk = 3:=by omega
    subst this; rfl
   go_wp2_with fail
   refine (PC.out p).mono ?_
   rintro e w9 ⟨rfl,rfl⟩
   rw [HP.out]
   go_upto_region 5 with fail
   clear n2 n3
   cases t64 : decide ((64 : Int) ≤ p2)
   ·have hev:=HPL.out (by simpa using t64) hk1
    have HEV:=Lib.hid hev
    clear hev
    clear hok3 hk1
    go_quiet (fail)
    go_upto_region 8 with fail
    go_wp2_with (first
     | (refine wpList_bld rfl 89 _ rfl _ [(0,.int .i64 xk),(5,.int .i64 xv)] rfl (bld_evT _ _) ?_)
     | (refine wpList_store_all rfl _ (.tmp 4) (.tmp 67) rfl (w.heap.size + 1) 89 _ [.int .i64 xk,.int .i64 0,.int .i64 0,.int .i64 0,.int .i64 0,.int .i64 0,.int .i64 xv] rfl rfl HBR.out rfl (by kernel_rfl) rfl ?_; intro v6 hv6 hs6; have HV6:=Lib.hid hv6; have HS6:=Lib.hid hs6; clear hv6 hs6))
    exact bodyPost_ret (results_cell_tmp' Tryz.results41 _ _ _ ⟨w.heap.size + 1,0,none⟩ _ _ rfl rfl (load_ev ⟨xk,0,0,0,0,0,xv⟩ HV6.out)) rfl (KEY.out _ _ ⟨xk,0,0,0,0,0,xv⟩ 0 (Keep.draws _ _) HV6.out HS6.out HEV.out)
   ·have hev:=H64.out (by simpa using t64)
    have HEV:=Lib.hid hev
    clear hev
    clear hok3 hk1
    go_quiet (fail)
    go_upto_region 6 with fail
    go_wp2_with (first
     | (refine wpList_bld rfl 89 _ rfl _ [] rfl bld_ev0 ?_)
     | (refine wpList_store_all rfl _ (.tmp 4) (.tmp 59) rfl (w.heap.size + 1) 89 _ [.int .i64 0,.int .i64 0,.int .i64 0,.int .i64 0,.int .i64 0,.int .i64 0,.int .i64 0] rfl rfl HBR.out rfl (by kernel_rfl) rfl ?_; intro v6 hv6 hs6; have HV6:=Lib.hid hv6; have HS6:=Lib.hid hs6; clear hv6 hs6))
    exact bodyPost_ret (results_cell_tmp' Tryz.results41 _ _ _ ⟨w.heap.size + 1,0,none⟩ _ _ rfl rfl (load_ev zeroEv HV6.out)) rfl (KEY.out _ _ zeroEv 4 (Keep.draws _ _) HV6.out HS6.out HEV.out)
 obtain ⟨hpf,hf0,hfn,hfp⟩:=HOKF.out hk1
 subst hk1
 obtain ⟨f,hfe⟩ : ∃ f : Nat,xf = f:=⟨xf.toNat,by omega⟩
 subst hfe
 have hfn' : f < n:=by omega
 obtain ⟨C1,C2,C3,C4,r1,s1,r2,s2,r3,s3,r4,s4,hcsf,hstf⟩:=HST.out.at_ (k:=f) (by rw [HNN.out]; exact hfn')
 have c2 : W.cell? ⟨gs,f * 4 + 2,none⟩ = some (.slice C3 r3 s3):=HST.out.cell HBS.out hcsf rfl
 have g3 : (f : Int) < n:=by omega
 have g4 : (0 : Int) ≤ f:=by omega
 have hsd:=(st_sl hstf).2.2.1
 have hr3:=hsd.1
 have hfewf:=(HFEW.out f hfn').2
 have hr3' : r3 ≤ 1000000:=by omega
 have hfq : (((f : Int)) == (p : Int)) = false:=by simpa using hfp
 have n1 : ((1 : Int) != 1) = false:=rfl
 clear hfp hok3 hf0 hfn
 have HPF:=Lib.hid hpf
 have HCSF:=Lib.hid hcsf
 have HSTF:=Lib.hid hstf
 have HSD:=Lib.hid hsd
 have HR3:=Lib.hid hr3
 have HFEWF:=Lib.hid hfewf
 clear hpf hcsf hstf hsd hr3 hfewf
 go_wp2_with fail
 refine (PC.out p).mono ?_
 rintro e w9 ⟨rfl,rfl⟩
 rw [HP.out]
 go_wp2_with fail
 refine (PC.out f).mono ?_
 rintro e w9 ⟨rfl,rfl⟩
 rw [HPF.out]
 go_upto_region 5 with fail
 cases t64 : decide ((64 : Int) ≤ p2)
 case true=>
  have hev:=H64.out (by simpa using t64)
  have HEV:=Lib.hid hev
  clear hev
  go_quiet (fail)
  go_upto_region 6 with fail
  go_wp2_with (first
   | (refine wpList_bld rfl 89 _ rfl _ [] rfl bld_ev0 ?_)
   | (refine wpList_store_all rfl _ (.tmp 4) (.tmp 59) rfl (w.heap.size + 1) 89 _ [.int .i64 0,.int .i64 0,.int .i64 0,.int .i64 0,.int .i64 0,.int .i64 0,.int .i64 0] rfl rfl HBR.out rfl (by kernel_rfl) rfl ?_; intro v6 hv6 hs6; have HV6:=Lib.hid hv6; have HS6:=Lib.hid hs6; clear hv6 hs6))
  exact bodyPost_ret (results_cell_tmp' Tryz.results41 _ _ _ ⟨w.heap.size + 1,0,none⟩ _ _ rfl rfl (load_ev zeroEv HV6.out)) rfl (KEY.out _ _ zeroEv 4 (Keep.draws _ _) HV6.out HS6.out HEV.out)
 have hlt : ¬ (64 : Int) ≤ p2:=by simpa using t64
 have HLT:=Lib.hid hlt
 clear hlt
 go_quiet (fail)
 go_upto_region 9 with fail
 clear t64
 go_quiet (fail)
 go_wp2_with fail
 generalize hY : W.drewN _ = Y
 have hkY : Keep W Y:=hY ▸ Keep.draws _ _
 clear hY c1 c2 m1 e0 e1 e2 e5
 have HKY:=Lib.hid hkY
 clear hkY
 go_loopw [78] (fun i wr=>FindRel Y (stAt m.ss (f : Int)).sent ⟨p,1,f,xi,xo,xv⟩ i wr) (fun i _=>r3 - (intOf i).toNat)
 case atStart=>exact ⟨0,rfl,Nat.zero_le _,rfl,Same.refl _ _⟩
 case round=>
  obtain ⟨k,rfl,hkl,hfd,hkr⟩:=hrel
  have hzr:=hkr.size
  have hkw:=Keep.trans HKY.out hkr
  by_cases hkn : k < r3
  ·obtain ⟨b',off',y,rfl,hbb,hy,hcy⟩:=(HSD.out.keep (hkw.mono (fun i hi=>hi.1))).at_ encSnd_len hkn
   have hd1 : decide (k < r3) = true:=by simpa using hkn
   have hd2 : (0 : Int) ≤ k:=by omega
   have hd3 : (k : Int) < r3:=by omega
   have hrg : wr.rangeAt b' (off' + k * 4) [.int .i64 y.idx,.int .i64 y.ord,.int .i64 y.to,.int .i64 y.val]:=hcy
   have hfd2:=hfd.trans (find_drop (x:=⟨p,1,f,xi,xo,xv⟩) hy)
   have hkl1 : k + 1 ≤ (stAt m.ss (f : Int)).sent.length:=by have:=HR3.out; show k + 1 ≤ (m.ss.getD f zeroSt).sent.length; omega
   clear hcy hy hfd hbb
   have HRG:=Lib.hid hrg
   have HFD2:=Lib.hid hfd2
   have HKL1:=Lib.hid hkl1
   have HKR:=Lib.hid hkr
   clear hrg hfd2 hkl1 hkr
   have HKW2:=Lib.hid hkw
   clear hkw
   go_upto_region 12 with (first
    | (refine wpList_load_mid rfl _ (.tmp 80) rfl b' (off' + k * 4) rfl [.int .i64 y.idx,.int .i64 y.ord,.int .i64 y.to,.int .i64 y.val] _ HRG.out Tryz.underlying92 rfl (by kernel_rfl) ?_)
    | (refine wpList_store_all rfl _ (.tmp 7) (.tmp 81) rfl wr.heap.size 92 _ [.int .i64 y.idx,.int .i64 y.ord,.int .i64 y.to,.int .i64 y.val] rfl rfl (Blk.new _ _ _) rfl (by kernel_rfl) rfl ?_; intro w7 hb7 hs7))
   have hk7 : Keep wr w7:=Keep.write (Keep.new _ _) hs7 (Nat.le_refl _)
   have kk7:=Keep.trans HKR.out hk7
   have kw7:=Keep.trans HKW2.out hk7
   have bx7:=kw7.blk HBX.out HBX.out.lt
   have x0 : w7.cell? ⟨w.heap.size,0,none⟩ = some (.int .i64 p):=by rw [bx7.cell]; rfl
   have x3 : w7.cell? ⟨w.heap.size,3,none⟩ = some (.int .i64 xi):=by rw [bx7.cell]; rfl
   have x4 : w7.cell? ⟨w.heap.size,4,none⟩ = some (.int .i64 xo):=by rw [bx7.cell]; rfl
   have y0 : w7.cell? ⟨wr.heap.size,0,none⟩ = some (.int .i64 y.idx):=by rw [hb7.cell]; rfl
   have y1 : w7.cell? ⟨wr.heap.size,1,none⟩ = some (.int .i64 y.ord):=by rw [hb7.cell]; rfl
   have y2 : w7.cell? ⟨wr.heap.size,2,none⟩ = some (.int .i64 y.to):=by rw [hb7.cell]; rfl
   have HB7:=Lib.hid hb7
   have KK7:=Lib.hid kk7
   have KW7:=Lib.hid kw7
   have BX7:=Lib.hid bx7
   clear hb7 kk7 kw7 bx7
   clear hs7 hk7
   have miss : hitM ⟨p,1,f,xi,xo,xv⟩ y = false → FindRel Y (stAt m.ss (f : Int)).sent ⟨p,1,f,xi,xo,xv⟩ (.int .i64 ((k : Int) + 1)) w7:=fun h=>⟨k + 1,by simp,HKL1.out,by have:=HFD2.out; rw [h] at this; simpa using this,KK7.out⟩
   have MISS:=Lib.hid miss
   clear miss
   cases q1 : (y.idx != xi)
   case true=>
    have hfin:=MISS.out (by simp only [hitM]; simp at q1; simp [q1])
    have HFIN:=Lib.hid hfin
    clear hfin
    go_wp2_with fail
    go_roundw
    case rel=>exact HFIN.out
    case measure=>simp [intOf]; omega
   cases q2 : (y.ord != xo)
   case true=>
    have hfin:=MISS.out (by simp only [hitM]; simp at q2; simp [q2])
    have HFIN:=Lib.hid hfin
    clear hfin
    go_wp2_with fail
    go_roundw
    case rel=>exact HFIN.out
    case measure=>simp [intOf]; omega
   cases q3 : (y.to != p)
   case true=>
    have hfin:=MISS.out (by simp only [hitM]; simp at q3; simp [q3])
    have HFIN:=Lib.hid hfin
    clear hfin
    go_wp2_with fail
    go_roundw
    case rel=>exact HFIN.out
    case measure=>simp [intOf]; omega
   have hhit : hitM ⟨p,1,f,xi,xo,xv⟩ y = true:=by simp only [hitM]; simp at q1 q2 q3; simp [q1,q2,q3]
   have hfs:=HFD2.out
   rw [hhit,if_pos rfl] at hfs
   have hevt:=HRS.out y HLT.out trivial hfs
   clear hhit hfs MISS HFD2
   have HEVT:=Lib.hid hevt
   clear hevt
   go_upto_region 13 with fail
   go_upto_region 14 with (first
    | (refine wpList_bld rfl 87 _ rfl _ [(1,.int .i64 xi)] rfl (bld_labI _) ?_)
    | (refine wpList_store_all rfl _ (.tmp 8) (.tmp 103) rfl w7.heap.size 87 _ [.int .i64 0,.int .i64 xi] rfl rfl (Blk.new _ _ _) rfl (by kernel_rfl) rfl ?_; intro w8 hb8 hs8))
   have hk8 : Keep w7 w8:=Keep.write (Keep.new _ _) hs8 (Nat.le_refl _)
   have kw8:=Keep.trans KW7.out hk8
   have by8:=hk8.blk HB7.out HB7.out.lt
   clear x0 x3 x4 y0 y1 y2 q1 q2 q3 hs8
   have bx8:=kw8.blk HBX.out HBX.out.lt
   have bm8:=kw8.blk HBM.out HBM.out.lt
   have m1 : ∀ wx,Keep w8 wx → wx.cell? ⟨gm,1,none⟩ = some (.slice (some ⟨gs,0,none⟩) n n):=fun wx hx=>(hx.cell (p:=⟨gm,1,none⟩) bm8.lt).trans (by rw [bm8.cell]; rfl)
   have x0 : ∀ wx,Keep w8 wx → wx.cell? ⟨w.heap.size,0,none⟩ = some (.int .i64 p):=fun wx hx=>(hx.cell (p:=⟨w.heap.size,0,none⟩) bx8.lt).trans (by rw [bx8.cell]; rfl)
   have x2 : ∀ wx,Keep w8 wx → wx.cell? ⟨w.heap.size,2,none⟩ = some (.int .i64 f):=fun wx hx=>(hx.cell (p:=⟨w.heap.size,2,none⟩) bx8.lt).trans (by rw [bx8.cell]; rfl)
   have x4 : ∀ wx,Keep w8 wx → wx.cell? ⟨w.heap.size,4,none⟩ = some (.int .i64 xo):=fun wx hx=>(hx.cell (p:=⟨w.heap.size,4,none⟩) bx8.lt).trans (by rw [bx8.cell]; rfl)
   have rgS : ∀ wx,Keep w8 wx → wx.rangeAt gs (p * 4) [.slice B1 p1 q1',.slice B2 p2 q2',.slice B3 p3 q3',.slice B4 p4 q4']:=fun wx hx j u hu=>((Keep.trans kw8 hx).cell (p:=⟨gs,p * 4 + j,none⟩) HBS.out.lt).trans (HST.out.cell HBS.out HCS.out hu)
   have hev8:=HEV.out.keep (kw8.mono (fun i hi=>hi.1))
   have HK8:=Lib.hid hk8
   have KW8:=Lib.hid kw8
   have BY8:=Lib.hid by8
   have BX8:=Lib.hid bx8
   have BM8:=Lib.hid bm8
   have HB8:=Lib.hid hb8
   have RGS:=Lib.hid rgS
   have HEV8:=Lib.hid hev8
   clear hk8 kw8 by8 bx8 bm8 hb8 rgS hev8
   refine wp_region_L 99 (fun _=>True) (fun wx=>Keep w8 wx) (by kernel_rfl) trivial (Same.drew (Same.refl _ _)) (fun hA hB=>?_)
   refine wpL_takeB (i:=0) (v:=?_) rfl (by kernel_rfl) (by kernel_rfl) (by kernel_rfl) (by decide) (fun _ _ _ h=>h) (Or.inl ⟨by rfl,?_⟩) (SAB.both hA hB) ?_
   rotate_left
   ·intro wx hBx
    (try dsimp only at hBx)
    go_simp
    try with_reducible rfl
   try simp only [Act.put,List.setIfInBounds_toArray,List.set_cons_zero,List.set_cons_succ]
   refine wpL_takeB (i:=1) (v:=?_) rfl (by kernel_rfl) (by kernel_rfl) (by kernel_rfl) (by decide) (fun _ _ _ h=>h) (Or.inl ⟨by rfl,?_⟩) (SAB.both hA hB) ?_
   rotate_left
   ·intro wx hBx
    (try dsimp only at hBx)
    go_simp
    try with_reducible rfl
   try simp only [Act.put,List.setIfInBounds_toArray,List.set_cons_zero,List.set_cons_succ]
   refine wpL_takeB (i:=2) (v:=?_) rfl (by kernel_rfl) (by kernel_rfl) (by kernel_rfl) (by decide) (fun _ _ _ h=>h) (Or.inl ⟨by rfl,?_⟩) (SAB.both hA hB) ?_
   rotate_left
   ·intro wx hBx
    (try dsimp only at hBx)
    go_simp
    try with_reducible rfl
   try simp only [Act.put,List.setIfInBounds_toArray,List.set_cons_zero,List.set_cons_succ]
   refine wpL_takeB (i:=3) (v:=?_) rfl (by kernel_rfl) (by kernel_rfl) (by kernel_rfl) (by decide) (fun _ _ _ h=>h) (Or.inl ⟨by rfl,?_⟩) (SAB.both hA hB) ?_
   rotate_left
   ·intro wx hBx
    (try dsimp only at hBx)
    go_simp
    try with_reducible rfl
   try simp only [Act.put,List.setIfInBounds_toArray,List.set_cons_zero,List.set_cons_succ]
   refine wpL_takeB (i:=4) (v:=?_) rfl (by kernel_rfl) (by kernel_rfl) (by kernel_rfl) (by decide) (fun _ _ _ h=>h) (Or.inl ⟨by rfl,?_⟩) (SAB.both hA hB) ?_
   rotate_left
   ·intro wx hBx
    (try dsimp only at hBx)
    go_simp
    try with_reducible rfl
   try simp only [Act.put,List.setIfInBounds_toArray,List.set_cons_zero,List.set_cons_succ]
   refine wpL_takeB (i:=5) (v:=?_) rfl (by kernel_rfl) (by kernel_rfl) (by kernel_rfl) (by decide) (fun _ _ _ h=>h) (Or.inl ⟨by rfl,?_⟩) (SAB.both hA hB) ?_
   rotate_left
   ·intro wx hBx
    (try dsimp only at hBx)
    go_simp
    try with_reducible rfl
   try simp only [Act.put,List.setIfInBounds_toArray,List.set_cons_zero,List.set_cons_succ]
   refine wpL_takeB (i:=6) (v:=?_) rfl (by kernel_rfl) (by kernel_rfl) (by kernel_rfl) (by decide) (fun _ _ _ h=>h) (Or.inl ⟨by rfl,?_⟩) (SAB.both hA hB) ?_
   rotate_left
   ·intro wx hBx
    (try dsimp only at hBx)
    go_simp
    try with_reducible rfl
   try simp only [Act.put,List.setIfInBounds_toArray,List.set_cons_zero,List.set_cons_succ]
   refine wpL_takeB (i:=7) rfl (by kernel_rfl) (by kernel_rfl) (by kernel_rfl) (by decide) (fun _ _ _ h=>h) (yieldsIf_load_mid (by rfl) _ _ rfl gs (p * 4) rfl [.slice B1 p1 q1',.slice B2 p2 q2',.slice B3 p3 q3',.slice B4 p4 q4'] _ (fun wx hx=>RGS.out wx hx) Tryz.underlying50 rfl (by kernel_rfl)) (SAB.both hA hB) ?_
   try simp only [Act.put,List.setIfInBounds_toArray,List.set_cons_zero,List.set_cons_succ]
   refine wpL_takeB (i:=8) (v:=?_) rfl (by kernel_rfl) (by kernel_rfl) (by kernel_rfl) (by decide) (fun _ _ _ h=>h) (Or.inl ⟨by rfl,?_⟩) (SAB.both hA hB) ?_
   rotate_left
   ·intro wx hBx
    (try dsimp only at hBx)
    go_simp
    try with_reducible rfl
   try simp only [Act.put,List.setIfInBounds_toArray,List.set_cons_zero,List.set_cons_succ]
   refine wpL_takeB (i:=9) (v:=?_) rfl (by kernel_rfl) (by kernel_rfl) (by kernel_rfl) (by decide) (fun _ _ _ h=>h) (Or.inl ⟨by rfl,?_⟩) (SAB.both hA hB) ?_
   rotate_left
   ·intro wx hBx
    (try dsimp only at hBx)
    go_simp
    try with_reducible rfl
   try simp only [Act.put,List.setIfInBounds_toArray,List.set_cons_zero,List.set_cons_succ]
   refine wpL_takeB (i:=10) rfl (by kernel_rfl) (by kernel_rfl) (by kernel_rfl) (by decide) (fun _ _ _ h=>h) (yieldsIf_blk (by rfl) _ _ rfl w7.heap.size 0 87 _ [.int .i64 0,.int .i64 xi] _ rfl (fun wx hx=>hx.blk HB8.out HB8.out.lt) (fun j u hu=>by simpa using hu) Tryz.underlying87 rfl (by kernel_rfl)) (SAB.both hA hB) ?_
   try simp only [Act.put,List.setIfInBounds_toArray,List.set_cons_zero,List.set_cons_succ]
   refine wpL_takeB (i:=11) (v:=?_) rfl (by kernel_rfl) (by kernel_rfl) (by kernel_rfl) (by decide) (fun _ _ _ h=>h) (Or.inl ⟨by rfl,?_⟩) (SAB.both hA hB) ?_
   rotate_left
   ·intro wx hBx
    (try dsimp only at hBx)
    go_simp
    try with_reducible rfl
   try simp only [Act.put,List.setIfInBounds_toArray,List.set_cons_zero,List.set_cons_succ]
   refine wpL_takeB (i:=12) (v:=?_) rfl (by kernel_rfl) (by kernel_rfl) (by kernel_rfl) (by decide) (fun _ _ _ h=>h) (Or.inl ⟨by rfl,?_⟩) (SAB.both hA hB) ?_
   rotate_left
   ·intro wx hBx
    (try dsimp only at hBx)
    go_simp
    try with_reducible rfl
   try simp only [Act.put,List.setIfInBounds_toArray,List.set_cons_zero,List.set_cons_succ]
   refine wpL_one (i:=13) (by kernel_rfl) (StepL.mk rfl (fun K hK=>?_))
   go_simp
   have hrr:=preceived_any w8.drew (But W (MiX gm gs (.slice A m.world.length c))) B1 B2 B3 B4 p1 q1' p2 q2' p3 q3' p4 q4' (m.ss.getD p zeroSt).events f 0 xi xo (fun i hi=>Nat.lt_of_lt_of_le hi.1 (Nat.le_trans KW8.out.size hB.size)) (HEV8.out.keep (hB.mono (fun i hi=>Nat.lt_of_lt_of_le hi.1 KW8.out.size))) HFEWP.out.1
   obtain ⟨r,hr⟩ : ∃ r,r = recvS (m.ss.getD p zeroSt).events f 0 xi xo:=⟨_,rfl⟩
   have hevt2 : eventI m.ss ⟨p,1,f,xi,xo,xv⟩ = if r ≠ 0 then (zeroEv,15) else (⟨1,0,f,0,xi,xo,y.val⟩,0):=by rw [hr]; exact HEVT.out
   rw [← hr] at hrr
   clear hr HEVT
   have HEVT2:=Lib.hid hevt2
   clear hevt2
   refine hrr.mono ?_
   rintro e u1 ⟨rfl,hk9⟩
   have hk9':=Keep.trans hB hk9
   clear hrr
   refine hK.out _ _ (SAB.both trivial hk9') (fun hSS=>?_)
   clear hK K hA hB
   have hB:=hSS.2
   have hA:=hSS.1 (by kernel_rfl)
   (try dsimp only at hB); (try dsimp only at hA); clear hSS
   try simp only [Act.put,List.setIfInBounds_toArray,List.set_cons_zero,List.set_cons_succ]
   refine wpL_takeB (i:=14) (v:=?_) rfl (by kernel_rfl) (by kernel_rfl) (by kernel_rfl) (by decide) (fun _ _ _ h=>h) (Or.inl ⟨by rfl,?_⟩) (SAB.both hA hB) ?_
   rotate_left
   ·intro wx hBx
    (try dsimp only at hBx)
    go_simp
    try with_reducible rfl
   try simp only [Act.put,List.setIfInBounds_toArray,List.set_cons_zero,List.set_cons_succ]
   refine wpL_done (by kernel_rfl) ?_
   have bl9:=hk9'.blk HB8.out HB8.out.lt
   have br9:=hk9'.blk (HK8.out.blk (KW7.out.blk HBR.out HBR.out.lt) (by have:=KW7.out.size; omega)) (by have:=KW8.out.size; omega)
   have y3 : u1.cell? ⟨wr.heap.size,3,none⟩ = some (.int .i64 y.val):=by rw [(hk9'.blk BY8.out BY8.out.lt).cell]; rfl
   have x2':=x2 u1 hk9'
   have x4':=x4 u1 hk9'
   have kw9:=Keep.trans KW8.out hk9'
   clear x0 x2 x4 m1 hA hB hk9 hk9'
   have BL9:=Lib.hid bl9
   have BR9:=Lib.hid br9
   have KW9:=Lib.hid kw9
   clear bl9 br9 kw9
   cases q : (r != 0)
   ·have hev:=HEVT2.out
    rw [if_neg (by simpa using q)] at hev
    have HEV:=Lib.hid hev
    clear hev
    go_upto_region 16 with fail
    go_wp2_with (first
     | (refine wpList_load_all rfl _ (.tmp 8) rfl w7.heap.size 87 [.int .i64 0,.int .i64 xi] _ rfl BL9.out Tryz.underlying87 rfl (by kernel_rfl) ?_)
     | (refine wpList_bld rfl 89 _ rfl _ [(0,.int .i64 1),(2,.int .i64 f),(3,.agg #[.int .i64 0,.int .i64 xi]),(4,.int .i64 xo),(5,.int .i64 y.val)] rfl (bld_evR _ _ _ _ _) ?_)
     | (refine wpList_store_all rfl _ (.tmp 4) (.tmp 127) rfl (w.heap.size + 1) 89 _ [.int .i64 1,.int .i64 0,.int .i64 f,.int .i64 0,.int .i64 xi,.int .i64 xo,.int .i64 y.val] rfl rfl BR9.out rfl (by kernel_rfl) rfl ?_; intro v6 hv6 hs6; have HV6:=Lib.hid hv6; have HS6:=Lib.hid hs6; clear hv6 hs6))
    exact bodyPost_ret (results_cell_tmp' Tryz.results41 _ _ _ ⟨w.heap.size + 1,0,none⟩ _ _ rfl rfl (load_ev ⟨1,0,f,0,xi,xo,y.val⟩ HV6.out)) rfl (KEY.out _ _ ⟨1,0,f,0,xi,xo,y.val⟩ 0 KW9.out HV6.out HS6.out HEV.out)
   ·have hev:=HEVT2.out
    rw [if_pos (by simpa using q)] at hev
    have HEV:=Lib.hid hev
    clear hev
    go_upto_region 15 with fail
    go_wp2_with (first
     | (refine wpList_bld rfl 89 _ rfl _ [] rfl bld_ev0 ?_)
     | (refine wpList_store_all rfl _ (.tmp 4) (.tmp 119) rfl (w.heap.size + 1) 89 _ [.int .i64 0,.int .i64 0,.int .i64 0,.int .i64 0,.int .i64 0,.int .i64 0,.int .i64 0] rfl rfl BR9.out rfl (by kernel_rfl) rfl ?_; intro v6 hv6 hs6; have HV6:=Lib.hid hv6; have HS6:=Lib.hid hs6; clear hv6 hs6))
    exact bodyPost_ret (results_cell_tmp' Tryz.results41 _ _ _ ⟨w.heap.size + 1,0,none⟩ _ _ rfl rfl (load_ev zeroEv HV6.out)) rfl (KEY.out _ _ zeroEv 15 KW9.out HV6.out HS6.out HEV.out)
  ·have hd1 : decide (k < r3) = false:=by simpa using hkn
   have hnone : findI (stAt m.ss (f : Int)).sent ⟨p,1,f,xi,xo,xv⟩ = none:=by rw [hfd,List.drop_of_length_le (by have:=HR3.out; show (m.ss.getD f zeroSt).sent.length ≤ k; omega)]; rfl
   have hev:=HRN.out HLT.out trivial hnone
   have br9:=hkw.blk HBR.out HBR.out.lt
   have HEV:=Lib.hid hev
   have BR9:=Lib.hid br9
   have HKW:=Lib.hid hkw
   clear hev br9 hkw
   clear hnone hfd hkr
   go_upto_region 18 with fail
   go_wp2_with (first
    | (refine wpList_bld rfl 89 _ rfl _ [] rfl bld_ev0 ?_)
    | (refine wpList_store_all rfl _ (.tmp 4) (.tmp 129) rfl (w.heap.size + 1) 89 _ [.int .i64 0,.int .i64 0,.int .i64 0,.int .i64 0,.int .i64 0,.int .i64 0,.int .i64 0] rfl rfl BR9.out rfl (by kernel_rfl) rfl ?_; intro v6 hv6 hs6; have HV6:=Lib.hid hv6; have HS6:=Lib.hid hs6; clear hv6 hs6))
   exact bodyPost_ret (results_cell_tmp' Tryz.results41 _ _ _ ⟨w.heap.size + 1,0,none⟩ _ _ rfl rfl (load_ev zeroEv HV6.out)) rfl (KEY.out _ _ zeroEv 11 HKW.out HV6.out HS6.out HEV.out)
end Go.Proofs.YtipegaojiokppaaGreatDoor
namespace Go.Proofs.YtipegaojiokppaaGreatDoor
open Go.RowKit Go.Proofs
section
variable {P : Program} {ops : Array Oper} {rest : List Oper} {o : Oper} {a : Act} {w : World} {Q : Exit → Act → World → Prop}
theorem wpList_yield (hgd : o.guard = none) (v : Value) (h : (execOp a.eval o).run P w = .ok (.value v) w) (k : wpList P ops Q rest (a.put o.dst v) w) : wpList P ops Q (o :: rest) a w:=
 wpList_plain hgd fun _ hK=>by
  unfold Oper.wp
  rw [h]
  exact hK _ _ k
end
theorem info_Shown : (Tryz.prog.info? 44).map (fun i=>(i.zero,i.size,i.bytes)) = some (some (.agg #[.int .i64 0,.int .i64 0,.int .i64 0,.int .i64 0]),4,32):=by kernel_rfl
theorem bld_shown (a b c d : Int) : Tryz.prog.built 44 [(0,.int .i64 a),(1,.int .i64 b),(2,.int .i64 c),(3,.int .i64 d)] = some #[.int .i64 a,.int .i64 b,.int .i64 c,.int .i64 d]:=by kernel_rfl
theorem built_shown (a b c d : Int) : builtS Tryz.prog 44 1 [(0,.agg #[.int .i64 a,.int .i64 b,.int .i64 c,.int .i64 d])] = some #[.int .i64 a,.int .i64 b,.int .i64 c,.int .i64 d]:=by kernel_rfl
theorem MiM.grow {w u w' wz : World} {base gm gs : Nat} {VC : Value} {A A' : Option Addr} {c c' : Nat} {css : List (List Value)} {ss : List St} {l : List Sh} {x : Sh} (h : MiM w base gm gs VC A c css ⟨ss,l⟩) (hB : base ≤ w.heap.size) (hk : Keep w u)
  (hown : w'.ownsRow base 44 4 (.slice A' (l.length + 1) c') (l.length + 1) (l.flatMap encSh ++ encSh x)) (hg : u.grownBy w' (Value.slice A l.length c).ownBlock) (hat : (Value.slice A' (l.length + 1) c').ownBlock = (Value.slice A l.length c).ownBlock ∨ (Value.slice A' (l.length + 1) c').ownBlock = some u.heap.size)
  (hb : Blk wz gm 81 #[VC,.slice (some ⟨gs,0,none⟩) ss.length ss.length,.slice A' (l.length + 1) c']) (hs : Same (· ≠ gm) w' wz) :
  MiM wz base gm gs VC A' c' css ⟨ss,l ++ [x]⟩ ∧ Same (· < base) w wz:=by
 obtain ⟨h1,h2,h3,h4,h5,h6,h7,h8⟩:=h
 have hz:=hk.size
 have lt4:=h4.lt
 have lt7:=h7.lt
 have hS : Same (But w (MiX gm gs (.slice A l.length c))) w w':=Same.grown (hk.mono (fun i hi=>hi.1)) hg (fun i hi=>by have:=hi.1; omega) (fun k hk' hh=>hh.2 (.inr (.inr hk')))
 have hS2 : Same (fun i=>i < w.heap.size ∧ (Value.slice A l.length c).ownBlock ≠ some i) w w':=Same.grown (hk.mono (fun i hi=>hi.1)) hg (fun i hi=>by have:=hi.1; omega) (fun k hk' hh=>hh.2 hk')
 have hz2:=hS.size
 have hne : ∀ i,But w (MiX gm gs (.slice A l.length c)) i → ¬ MiX gm gs (.slice A' (l.length + 1) c') i:=fun i hi hx=>by
  rcases hx with e | e | e
  ·exact hi.2 (.inl e)
  ·exact hi.2 (.inr (.inl e))
  ·rcases hat with ha | ha
   ·rw [ha] at e; exact hi.2 (.inr (.inr e))
   ·rw [ha] at e; injection e with e; have:=hi.1; omega
 have hown' : ∀ b,(Value.slice A' (l.length + 1) c').ownBlock = some b → b ≠ gm ∧ b ≠ gs:=fun b e=>by
  rcases hat with ha | ha
  ·rw [ha] at e; exact h6 b e
  ·rw [ha] at e; injection e with e; omega
 refine ⟨⟨h1,h2,h3,?_,?_,?_,hs.blk (hS2.blk h7 ⟨lt7,fun e=>(h6 _ e).2 rfl⟩) (fun e=>h3 e.symm),?_⟩,?_⟩
 ·simpa using hb
 ·have:=ownsRow_own hown hs (fun b e=>(hown' b e).1)
  simpa using this
 ·simpa using hown'
 ·have:=(h8.same hS (fun i hi=>hi) hne).same hs (X':=MiX gm gs (.slice A' (l.length + 1) c')) (fun i hi e=>hi.2 (.inl e)) (fun i hi=>hi.2)
  simpa using this
 ·refine Same.trans (S:=(· < base)) (T:=(· ≠ gm)) ?_ hs (fun i hi=>by have : i < base:=hi; omega)
  refine hS2.mono (fun i (hi : i < base)=>⟨by omega,fun e=>?_⟩)
  have:=(h5.lt i e).1
  omega
def NotOwn (V : Value) (w : World) (i : Nat) : Prop:=i < w.heap.size ∧ V.ownBlock ≠ some i
def ShwRel (base gm gs : Nat) (VC : Value) (css : List (List Value)) (ss : List St) (world : List Sh) (p : Int) (l : List Outp) (W : World) (i : Value) (wr : World) : Prop:=
 ∃ (k : Nat) (A' : Option Addr) (c' : Nat),i = .int .i64 k ∧ k ≤ l.length ∧ MiM wr base gm gs VC A' c' css ⟨ss,world ++ showS p 0 (l.take k)⟩ ∧ Same (· < base) W wr ∧ W.heap.size ≤ wr.heap.size
def ShowPost (base gm gs : Nat) (VC : Value) (css : List (List Value)) (m : Mi) (w : World) (e : Ending) (w' : World) : Prop:=e = .returned (.tuple #[]) ∧ (∃ (A' : Option Addr) (c' : Nat),MiM w' base gm gs VC A' c' css m) ∧ Same (· < base) w w'
theorem show_take {p : Int} {l : List Outp} {k : Nat} {y : Outp} (h : l[k]? = some y) : showS p 0 (l.take (k + 1)) = showS p 0 (l.take k) ++ [⟨p,y.idx,k,y.val⟩]:=by
 obtain ⟨hk,e⟩:=List.getElem?_eq_some_iff.1 h
 rw [List.take_succ_eq_append_getElem hk,e,showS_snoc,List.length_take,Nat.min_eq_left (by omega)]
 simp
set_option maxHeartbeats 16000000 in
theorem show_any (w : World) (base gm gs : Nat) (VC : Value) (A : Option Addr) (c : Nat) (css : List (List Value)) (m : Mi) (p k0 : Nat) (hm : MiM w base gm gs VC A c css m) (hB : base ≤ w.heap.size) (hn : m.ss.length ≤ 1000) (hp : p < m.ss.length)
  (hk0 : k0 ≤ (m.ss.getD p zeroSt).outs.length) (ho : (m.ss.getD p zeroSt).outs.length ≤ 10000) (hw : m.world.length ≤ 1000000) :
  Calls Tryz.prog 40 #[.pointer (some ⟨gm,0,none⟩),.int .i64 p,.int .i64 k0] w (ShowPost base gm gs VC css ⟨m.ss,m.world ++ showS p 0 ((m.ss.getD p zeroSt).outs.drop k0)⟩ w):=by
 obtain ⟨i0,hi0,iz0,is0,ib0⟩:=info_of info_Shown
 have hmm:=hm
 obtain ⟨hb1,hb2,hb3,hb4,-,-,hb7,hb8⟩:=hm
 obtain ⟨B1,B2,B3,B4,p1,q1,p2,q2,p3,q3,p4,q4,hcs,hst⟩:=hb8.at_ hp
 have c3 : w.cell? ⟨gs,p * 4 + 3,none⟩ = some (.slice B4 p4 q4):=hb8.cell hb7 hcs rfl
 have m1 : w.cell? ⟨gm,1,none⟩ = some (.slice (some ⟨gs,0,none⟩) m.ss.length m.ss.length):=by rw [hb4.cell]; rfl
 have hso:=(st_sl hst).2.2.2
 have hp4:=hso.1
 have hq4:=hso.2.1
 have hq4' : q4 ≤ 9223372036854775807:=hso.2.2.1
 generalize hos : (m.ss.getD p zeroSt).outs = outs at *
 subst hp4
 have d1 : (p : Int) < m.ss.length:=by omega
 have d2 : (0 : Int) ≤ p:=by omega
 have d3 : (0 : Int) ≤ k0:=by omega
 have d4 : (k0 : Int) ≤ outs.length:=by omega
 have hz0 : p + 1 ≤ m.ss.length:=hp
 clear hb4 hb7 hb8 hso hst
 have HMM:=Lib.hid hmm
 have HCS:=Lib.hid hcs
 have HI0:=Lib.hid hi0
 have IZ0:=Lib.hid iz0
 have IS0:=Lib.hid is0
 have IB0:=Lib.hid ib0
 have HOS:=Lib.hid hos
 clear hmm hcs hi0 iz0 is0 ib0 hos
 go_enter Tryz.func40,Tryz.ntmps40
 go_wp2_with (refine wpList_yield rfl (.slice (cutA B4 q4 k0 2) (outs.length - k0) (q4 - k0)) (by go_simp; rfl) ?_)
 clear c3 m1
 go_loopw [19] (fun i wr=>ShwRel base gm gs VC css m.ss m.world p (outs.drop k0) w i wr) (fun i _=>outs.length - k0 - (intOf i).toNat)
 case atStart=>exact ⟨0,A,c,rfl,Nat.zero_le _,by simpa [showS] using HMM.out,Same.refl _ _,Nat.le_refl _⟩
 case round=>
  obtain ⟨k,A',c',rfl,hkl,hmr,hsr,hzr⟩:=hrel
  have hlen : (showS p 0 ((outs.drop k0).take k)).length ≤ 10000:=by rw [showS_len,List.length_take,List.length_drop]; omega
  have hkl2 : k ≤ outs.length - k0:=by simpa using hkl
  by_cases hk : k < outs.length - k0
  ·have hst:=hmr.2.2.2.2.2.2.2.of HCS.out hp
   have hso:=(st_sl hst).2.2.2
   rw [HOS.out] at hso
   have hso:=hso.from_ encOut_len hk0
   obtain ⟨b,off,y,hAe,hSb,hy,hcell⟩:=hso.at_ encOut_len hk
   have hAe : cutA B4 q4 k0 2 = some ⟨b,off,none⟩:=hAe
   rw [hAe]
   have t0 : decide (k < outs.length - k0) = true:=by simpa using hk
   have t1 : (0 : Int) ≤ k:=by omega
   have t2 : (k : Int) < (outs.length - k0 : Nat):=by omega
   have hrg : wr.rangeAt b (off + k * 2) [.int .i64 y.idx,.int .i64 y.val]:=hcell
   have htk:=show_take (p:=p) hy
   have hk1 : k + 1 ≤ (outs.drop k0).length:=by simp; omega
   clear hcell hso hst hSb hy
   have HRG:=Lib.hid hrg
   have HTK:=Lib.hid htk
   have HK1:=Lib.hid hk1
   have HMR:=Lib.hid hmr
   have HSR:=Lib.hid hsr
   have HAE:=Lib.hid hAe
   clear hrg htk hk1 hmr hsr hAe
   go_upto_region 3 with (first
    | (refine wpList_load_mid rfl _ (.tmp 22) rfl b (off + k * 2) rfl [.int .i64 y.idx,.int .i64 y.val] _ HRG.out Tryz.underlying52 rfl (by kernel_rfl) ?_)
    | (refine wpList_store_all rfl _ (.tmp 7) (.tmp 23) rfl wr.heap.size 52 _ [.int .i64 y.idx,.int .i64 y.val] rfl rfl (Blk.new _ _ _) rfl (by kernel_rfl) rfl ?_; intro w7 hb7 hs7))
   have hk7 : Keep wr w7:=Keep.write (Keep.new _ _) hs7 (Nat.le_refl _)
   have hz7 : wr.heap.size < w7.heap.size:=hb7.lt
   have hm7:=HMR.out.keep hk7
   have hwl : (m.world ++ showS p 0 ((outs.drop k0).take k)).length ≤ 1010000:=by rw [List.length_append]; omega
   generalize hX : m.world ++ showS p 0 ((outs.drop k0).take k) = X at *
   have ngm : NotOwn (.slice A' X.length c') w7 gm:=⟨hm7.2.2.2.1.lt,fun e=>(hm7.2.2.2.2.2.1 gm e).1 rfl⟩
   have nwr : NotOwn (.slice A' X.length c') w7 wr.heap.size:=⟨hz7,fun e=>by have:=(HMR.out.2.2.2.2.1.lt _ e).2; omega⟩
   have g2 : ∀ wx,Same (NotOwn (.slice A' X.length c') w7) w7 wx → wx.cell? ⟨gm,2,none⟩ = some (.slice A' X.length c'):=fun wx hx=>(hx.cell (p:=⟨gm,2,none⟩) ngm).trans (by rw [hm7.2.2.2.1.cell]; rfl)
   have y0 : ∀ wx,Same (NotOwn (.slice A' X.length c') w7) w7 wx → wx.cell? ⟨wr.heap.size,0,none⟩ = some (.int .i64 y.idx):=fun wx hx=>(hx.cell (p:=⟨wr.heap.size,0,none⟩) nwr).trans (by rw [hb7.cell]; rfl)
   have y1 : ∀ wx,Same (NotOwn (.slice A' X.length c') w7) w7 wx → wx.cell? ⟨wr.heap.size,1,none⟩ = some (.int .i64 y.val):=fun wx hx=>(hx.cell (p:=⟨wr.heap.size,1,none⟩) nwr).trans (by rw [hb7.cell]; rfl)
   have HK7:=Lib.hid hk7
   have HM7:=Lib.hid hm7
   have HX:=Lib.hid hX
   have NGM:=Lib.hid ngm
   have NWR:=Lib.hid nwr
   clear hk7 hm7 hX ngm nwr
   clear hb7 hs7
   refine wp_region_L 16 (fun wx=>Same (NotOwn (.slice A' X.length c') w7) w7 wx) (fun _=>True) (by kernel_rfl) (Same.drew (Same.refl _ _)) trivial (fun hA hB'=>?_)
   have hB : True:=trivial
   refine wpL_takeA (i:=0) (v:=?_) rfl (by kernel_rfl) (by kernel_rfl) (by kernel_rfl) (by kernel_rfl) (by decide) (fun _ _ _ h=>h) (Or.inl ⟨by rfl,?_⟩) hA hB ?_
   rotate_left
   ·rintro wx ⟨hAx,hBx⟩
    (try dsimp only at hBx); (try dsimp only at hAx)
    go_simp
    try with_reducible rfl
   try simp only [Act.put,List.setIfInBounds_toArray,List.set_cons_zero,List.set_cons_succ]
   refine wpL_takeA (i:=1) (v:=?_) rfl (by kernel_rfl) (by kernel_rfl) (by kernel_rfl) (by kernel_rfl) (by decide) (fun _ _ _ h=>h) (Or.inl ⟨by rfl,?_⟩) hA hB ?_
   rotate_left
   ·rintro wx ⟨hAx,hBx⟩
    (try dsimp only at hBx); (try dsimp only at hAx)
    go_simp
    try with_reducible rfl
   try simp only [Act.put,List.setIfInBounds_toArray,List.set_cons_zero,List.set_cons_succ]
   refine wpL_takeA (i:=2) (v:=?_) rfl (by kernel_rfl) (by kernel_rfl) (by kernel_rfl) (by kernel_rfl) (by decide) (fun _ _ _ h=>h) (Or.inl ⟨by rfl,?_⟩) hA hB ?_
   rotate_left
   ·rintro wx ⟨hAx,hBx⟩
    (try dsimp only at hBx); (try dsimp only at hAx)
    go_simp
    try with_reducible rfl
   try simp only [Act.put,List.setIfInBounds_toArray,List.set_cons_zero,List.set_cons_succ]
   refine wpL_takeA (i:=3) (v:=?_) rfl (by kernel_rfl) (by kernel_rfl) (by kernel_rfl) (by kernel_rfl) (by decide) (fun _ _ _ h=>h) (Or.inl ⟨by rfl,?_⟩) hA hB ?_
   rotate_left
   ·rintro wx ⟨hAx,hBx⟩
    (try dsimp only at hBx); (try dsimp only at hAx)
    go_simp
    try with_reducible rfl
   try simp only [Act.put,List.setIfInBounds_toArray,List.set_cons_zero,List.set_cons_succ]
   refine wpL_takeA (i:=4) (v:=?_) rfl (by kernel_rfl) (by kernel_rfl) (by kernel_rfl) (by kernel_rfl) (by decide) (fun _ _ _ h=>h) (Or.inl ⟨by rfl,?_⟩) hA hB ?_
   rotate_left
   ·rintro wx ⟨hAx,hBx⟩
    (try dsimp only at hBx); (try dsimp only at hAx)
    go_simp
    try with_reducible rfl
   try simp only [Act.put,List.setIfInBounds_toArray,List.set_cons_zero,List.set_cons_succ]
   refine wpL_takeA (i:=5) (v:=?_) rfl (by kernel_rfl) (by kernel_rfl) (by kernel_rfl) (by kernel_rfl) (by decide) (fun _ _ _ h=>h) (Or.inl ⟨by rfl,?_⟩) hA hB ?_
   rotate_left
   ·rintro wx ⟨hAx,hBx⟩
    (try dsimp only at hBx); (try dsimp only at hAx)
    go_simp
    try with_reducible rfl
   try simp only [Act.put,List.setIfInBounds_toArray,List.set_cons_zero,List.set_cons_succ]
   refine wpL_takeA (i:=6) (v:=?_) rfl (by kernel_rfl) (by kernel_rfl) (by kernel_rfl) (by kernel_rfl) (by decide) (fun _ _ _ h=>h) (Or.inl ⟨by rfl,?_⟩) hA hB ?_
   rotate_left
   ·rintro wx ⟨hAx,hBx⟩
    (try dsimp only at hBx); (try dsimp only at hAx)
    go_simp
    try with_reducible rfl
   try simp only [Act.put,List.setIfInBounds_toArray,List.set_cons_zero,List.set_cons_succ]
   refine wpL_takeA (i:=7) (v:=?_) rfl (by kernel_rfl) (by kernel_rfl) (by kernel_rfl) (by kernel_rfl) (by decide) (fun _ _ _ h=>h) (Or.inl ⟨by rfl,?_⟩) hA hB ?_
   rotate_left
   ·rintro wx ⟨hAx,hBx⟩
    (try dsimp only at hBx); (try dsimp only at hAx)
    go_simp
    try with_reducible rfl
   try simp only [Act.put,List.setIfInBounds_toArray,List.set_cons_zero,List.set_cons_succ]
   refine wpL_takeA (i:=8) (v:=?_) rfl (by kernel_rfl) (by kernel_rfl) (by kernel_rfl) (by kernel_rfl) (by decide) (fun _ _ _ h=>h) (Or.inl ⟨by rfl,?_⟩) hA hB ?_
   rotate_left
   ·rintro wx ⟨hAx,hBx⟩
    (try dsimp only at hBx); (try dsimp only at hAx)
    go_simp
    try with_reducible rfl
   try simp only [Act.put,List.setIfInBounds_toArray,List.set_cons_zero,List.set_cons_succ]
   refine wpL_takeA (i:=9) (v:=?_) rfl (by kernel_rfl) (by kernel_rfl) (by kernel_rfl) (by kernel_rfl) (by decide) (fun _ _ _ h=>h) (Or.inl ⟨by rfl,?_⟩) hA hB ?_
   rotate_left
   ·rintro wx ⟨hAx,hBx⟩
    (try dsimp only at hBx); (try dsimp only at hAx)
    go_simp
    try with_reducible rfl
   try simp only [Act.put,List.setIfInBounds_toArray,List.set_cons_zero,List.set_cons_succ]
   refine wpL_takeA (i:=10) (v:=?_) rfl (by kernel_rfl) (by kernel_rfl) (by kernel_rfl) (by kernel_rfl) (by decide) (fun _ _ _ h=>h) (Or.inl ⟨by rfl,?_⟩) hA hB ?_
   rotate_left
   ·rintro wx ⟨hAx,hBx⟩
    (try dsimp only at hBx); (try dsimp only at hAx)
    go_simp
    try with_reducible rfl
   try simp only [Act.put,List.setIfInBounds_toArray,List.set_cons_zero,List.set_cons_succ]
   refine wpL_takeA (i:=11) rfl (by kernel_rfl) (by kernel_rfl) (by kernel_rfl) (by kernel_rfl) (by decide) (fun _ _ _ h=>h) (yieldsIf_bld (by rfl) _ _ rfl _ [(0,.int .i64 p),(1,.int .i64 y.idx),(2,.int .i64 k),(3,.int .i64 y.val)] rfl (bld_shown _ _ _ _)) hA hB ?_
   try simp only [Act.put,List.setIfInBounds_toArray,List.set_cons_zero,List.set_cons_succ]
   refine wpL_one (i:=12) (by kernel_rfl) (StepL.mk rfl (fun K hK=>?_))
   refine step_buildS rfl _ _ _ _ rfl Tryz.underlying37 _ [(0,.agg #[.int .i64 p,.int .i64 y.idx,.int .i64 k,.int .i64 y.val])] rfl (built_shown _ _ _ _) ?_
   have hk1 : Keep w7 (w7.drew.alloc (.cells #[.int .i64 p,.int .i64 y.idx,.int .i64 k,.int .i64 y.val] 44)):=Keep.alloc (Same.drew (Same.refl _ _)) _
   have hrd:=Reads.new (w:=w7.drew) (e:=44) (cs:=encSh ⟨p,y.idx,k,y.val⟩) (size:=4) (n:=1) rfl
   have hA1 : Same (NotOwn (.slice A' X.length c') w7) w7 (w7.drew.alloc (.cells #[.int .i64 p,.int .i64 y.idx,.int .i64 k,.int .i64 y.val] 44)):=hk1.mono (fun i hi=>hi.1)
   refine hK.out _ _ (SAB.both hA1 trivial) (fun hSS=>?_)
   clear hK K hA hB
   have hB:=hSS.2
   have hA:=hSS.1 (by kernel_rfl)
   (try dsimp only at hB); (try dsimp only at hA); clear hSS
   try simp only [Act.put,List.setIfInBounds_toArray,List.set_cons_zero,List.set_cons_succ]
   generalize hwa : w7.drew.alloc (.cells #[.int .i64 p,.int .i64 y.idx,.int .i64 k,.int .i64 y.val] 44) = wa at *
   have hrd' : Reads wa (fun i=>i = w7.heap.size) 4 (some ⟨w7.heap.size,0,none⟩) 1 (encSh ⟨p,y.idx,k,y.val⟩):=hwa ▸ hrd
   clear hwa hrd
   refine wpL_one (i:=13) (by kernel_rfl) (StepL.mk rfl (fun K hK=>?_))
   refine step_append_any _ (by rfl) (.tmp 28) (.tmp 36) _ (by rfl) base 44 i0 _ 4 32 Tryz.underlying37 HI0.out IZ0.out IS0.out IB0.out rfl (by omega) (.slice A' X.length c') X.length (X.flatMap encSh) (by rfl) (ownsRow_same HM7.out.2.2.2.2.1 hk1 (fun i hi=>hi.2)) _ (some ⟨w7.heap.size,0,none⟩) 1 1 (encSh ⟨p,y.idx,k,y.val⟩) (by rfl) hrd' (encSh_one _) (by simp [maxLen]; omega) (by omega) (by have:=hk1.size; have:=HSR.out.size; omega) ?_
   intro vb wb hownb hgb hatb
   obtain ⟨Ab,cb,hvb,hnb,hcb⟩:=own_form hownb
   subst hvb
   have hA2 : Same (NotOwn (.slice A' X.length c') w7) w7 wb:=Same.grown (hk1.mono (fun i hi=>hi.1)) hgb (fun i hi=>by have:=hi.1; have:=hk1.size; omega) (fun k hk hh=>hh.2 hk)
   have hAb:=hA2.blk HM7.out.2.2.2.1 NGM.out
   refine hK.out _ _ (SAB.both hA2 trivial) (fun hSS=>?_)
   clear hK K hA hB
   have hB:=hSS.2
   have hA:=hSS.1 (by kernel_rfl)
   (try dsimp only at hB); (try dsimp only at hA); clear hSS
   try simp only [Act.put,List.setIfInBounds_toArray,List.set_cons_zero,List.set_cons_succ]
   refine wpL_takeB (i:=14) (v:=?_) rfl (by kernel_rfl) (by kernel_rfl) (by kernel_rfl) (by decide) (fun _ _ _ h=>h) (Or.inl ⟨by rfl,?_⟩) (SAB.both hA hB) ?_
   rotate_left
   ·intro wx hBx
    (try dsimp only at hBx)
    go_simp
    try with_reducible rfl
   try simp only [Act.put,List.setIfInBounds_toArray,List.set_cons_zero,List.set_cons_succ]
   refine wpL_takeA (i:=15) (v:=?_) rfl (by kernel_rfl) (by kernel_rfl) (by kernel_rfl) (by kernel_rfl) (by decide) (fun _ _ _ h=>h) (Or.inl ⟨by rfl,?_⟩) hA hB ?_
   rotate_left
   ·rintro wx ⟨hAx,hBx⟩
    (try dsimp only at hBx); (try dsimp only at hAx)
    go_simp
    try with_reducible rfl
   try simp only [Act.put,List.setIfInBounds_toArray,List.set_cons_zero,List.set_cons_succ]
   refine wpL_one (i:=16) (by kernel_rfl) (StepL.mk rfl (fun K hK=>?_))
   refine step_store_one rfl _ _ _ rfl gm 2 81 _ (.slice Ab (X.length + 1) cb) rfl rfl hAb (by simp) (by kernel_rfl) rfl rfl ?_
   intro wc hbc hsc
   have hgr:=HM7.out.grow (by have:=HK7.out.size; have:=HSR.out.size; omega) hk1 hownb hgb hatb (by simpa using hbc) hsc
   have hzc:=hsc.size
   have hzb:=hA2.size
   refine hK.out _ _ (SAB.past (by kernel_rfl) trivial) (fun hSS=>?_)
   clear hK K hA hB
   have hB:=hSS.2
   have hA : True:=trivial
   (try dsimp only at hB); (try dsimp only at hA); clear hSS
   try simp only [Act.put,List.setIfInBounds_toArray,List.set_cons_zero,List.set_cons_succ]
   refine wpL_done (by kernel_rfl) ?_
   rw [← HX.out,List.append_assoc,← HTK.out] at hgr
   have hfin : ShwRel base gm gs VC css m.ss m.world p (outs.drop k0) w (.int .i64 ((k : Int) + 1)) wc:=⟨k + 1,Ab,cb,by simp,HK1.out,by have:=hgr.1; rw [← HX.out] at *; simpa [showS_len] using this,Same.trans HSR.out (Same.trans (HK7.out.mono (fun i (hi : i < base)=>by have:=HSR.out.size; omega)) hgr.2 (fun i hi=>hi)) (fun i hi=>hi),by omega⟩
   have HFIN:=Lib.hid hfin
   clear hfin
   clear hbc hsc hgr hAb hA2 hownb hgb hatb hrd' hA1 hk1 hA hB hB'
   go_wp2_with fail
   go_roundw
   case rel=>exact HFIN.out
   case measure=>simp [intOf]; omega
  ·have t0 : decide (k < outs.length - k0) = false:=by simpa using hk
   have hall : (outs.drop k0).take k = outs.drop k0:=List.take_of_length_le (by simp; omega)
   rw [hall] at hmr
   have hfin : ShowPost base gm gs VC css ⟨m.ss,m.world ++ showS p 0 (outs.drop k0)⟩ w (.returned (.tuple #[])) wr:=⟨rfl,⟨A',c',hmr⟩,hsr⟩
   have HFIN:=Lib.hid hfin
   have HMR:=Lib.hid hmr
   clear hfin hmr
   go_wp2_with fail
   exact bodyPost_end (results_none Tryz.results40 _ _ _) rfl HFIN.out
theorem MiM.put {w w' wz : World} {base gm gs : Nat} {VC : Value} {A : Option Addr} {c : Nat} {css : List (List Value)} {ss : List St} {l : List Sh} {S : Nat → Prop} {cs : List Value} {s : St} {p : Nat} (h : MiM w base gm gs VC A c css ⟨ss,l⟩) (hp : p < ss.length) (hk : Keep w w') (hc : cs.length = 4)
  (hr : StR w' S cs s) (hS : ∀ i,S i → But w' (MiX gm gs (.slice A l.length c)) i) (hb : Blk wz gs 50 (splice css.flatten.toArray (p * 4) cs)) (hs : Same (· ≠ gs) w' wz) : MiM wz base gm gs VC A c (css.set p cs) ⟨ss.set p s,l⟩:=by
 have h':=h.keep hk
 obtain ⟨h1,h2,h3,h4,h5,h6,h7,h8⟩:=h'
 rw [splice_flatten h8.2.1 hc (by rw [h8.1]; exact hp)] at hb
 refine ⟨h1,h2,h3,?_,ownsRow_own h5 hs (fun b e=>(h6 b e).2),h6,hb,?_⟩
 ·have:=hs.blk h4 h3
  simpa using this
 ·exact (h8.set_ (hr.more hS) hc).same hs (fun i hi e=>hi.2 (.inr (.inl e))) (fun i hi=>hi.2)
def ExecPost (base gm gs : Nat) (VC : Value) (m : Mi) (w : World) (e : Ending) (w' : World) : Prop:=e = .returned (.tuple #[]) ∧ (∃ (A' : Option Addr) (c' : Nat) (css : List (List Value)),MiM w' base gm gs VC A' c' css m) ∧ Same (· < base) w w'
set_option maxHeartbeats 16000000 in
theorem execute_any (w : World) (base gm gs : Nat) (C : Nat → Prop) (AC A : Option Addr) (n cC c : Nat) (css : List (List Value)) (cs : List Cd) (m : Mi) (p : Nat) (e : Ev) (hm : MiM w base gm gs (.slice AC n cC) A c css m) (hC : CdsR w C AC n cC cs) (hCb : ∀ i,C i → i < base) (hBw : base ≤ w.heap.size) (hi : InvI cs m) (hic : ∀ c ∈ cs,c.init.length ≤ 1000000) (hn : n ≤ 1000) (hp : p < n) (hw : m.world.length ≤ 900000) :
  Calls Tryz.prog 42 #[.pointer (some ⟨gm,0,none⟩),.int .i64 p,.agg (encEv e).toArray] w (ExecPost base gm gs (.slice AC n cC) (execI cs m p e) w):=by
 have hcl : n = cs.length:=hC.1
 have hml : m.ss.length = n:=by rw [hi.len]; exact hcl.symm
 have hle:=hi.lens (p:=p) (by omega)
 have hin : (cs.getD p zeroCd).init.length ≤ 1000000:=hic _ (by simp [List.getD,show p < cs.length by omega])
 have hmm:=hm
 obtain ⟨hb1,hb2,hb3,hb4,hb5,hb6,hb7,hb8⟩:=hm
 obtain ⟨B1,B2,B3,B4,p1,q1,p2,q2,p3,q3,p4,q4,hcs,hst⟩:=hb8.at_ (k:=p) (by omega)
 obtain ⟨bC,oC,D0,D1,D2,D3,D4,d0,f0,d1,f1,d2,f2,d3,f3,d4,f4,rfl,hCbC,hcd,hcr⟩:=hC.at_ hp
 obtain ⟨s,hs⟩ : ∃ s,s = m.ss.getD p zeroSt:=⟨_,rfl⟩
 rw [← hs] at hst hle
 have hex : execI cs m p e = ⟨m.ss.set p (nextS (cs.getD p zeroCd) p n s e),m.world ++ showS p 0 ((nextS (cs.getD p zeroCd) p n s e).outs.drop s.outs.length)⟩:=by unfold execI; rw [hml,← hs]
 rw [hex]
 obtain ⟨x0,x1,x2,x3,x4,x5,x6⟩:=e
 show Calls Tryz.prog 42 #[.pointer (some ⟨gm,0,none⟩),.int .i64 p,.agg #[.int .i64 x0,.int .i64 x1,.int .i64 x2,.int .i64 x3,.int .i64 x4,.int .i64 x5,.int .i64 x6]] w _
 have hp4 : p4 = s.outs.length:=(st_sl hst).2.2.2.1
 subst hp4
 generalize hW : w.alloc (.cells #[.int .i64 x0,.int .i64 x1,.int .i64 x2,.int .i64 x3,.int .i64 x4,.int .i64 x5,.int .i64 x6] 89) = W
 have hkW : Keep w W:=hW ▸ Keep.new w _
 have hbe : Blk W w.heap.size 89 #[.int .i64 x0,.int .i64 x1,.int .i64 x2,.int .i64 x3,.int .i64 x4,.int .i64 x5,.int .i64 x6]:=hW ▸ Blk.new w _ _
 have hz:=hbe.lt
 have hmW:=hmm.keep hkW
 have hzC : bC < w.heap.size:=by have:=hCb _ hCbC; omega
 have hm4:=hmW.2.2.2.1
 have c3 : W.cell? ⟨gs,p * 4 + 3,none⟩ = some (.slice B4 s.outs.length q4):=hmW.2.2.2.2.2.2.2.cell hmW.2.2.2.2.2.2.1 hcs rfl
 have m1 : W.cell? ⟨gm,1,none⟩ = some (.slice (some ⟨gs,0,none⟩) n n):=by rw [hm4.cell,hml]; rfl
 have k0 : ∀ wx,Keep W wx → wx.cell? ⟨gm,0,none⟩ = some (.slice (some ⟨bC,oC,none⟩) n cC):=fun wx hx=>(hx.cell (p:=⟨gm,0,none⟩) hm4.lt).trans (by rw [hm4.cell]; rfl)
 have k1 : ∀ wx,Keep W wx → wx.cell? ⟨gm,1,none⟩ = some (.slice (some ⟨gs,0,none⟩) n n):=fun wx hx=>(hx.cell (p:=⟨gm,1,none⟩) hm4.lt).trans m1
 have rgC : ∀ wx,Keep W wx → wx.rangeAt bC (oC + p * 5) [.slice D0 d0 f0,.slice D1 d1 f1,.slice D2 d2 f2,.slice D3 d3 f3,.slice D4 d4 f4]:=fun wx hx j u hu=>((Keep.trans hkW hx).cell (p:=⟨bC,oC + p * 5 + j,none⟩) hzC).trans (hcr j u hu)
 have rgS : ∀ wx,Keep W wx → wx.rangeAt gs (p * 4) [.slice B1 p1 q1,.slice B2 p2 q2,.slice B3 p3 q3,.slice B4 s.outs.length q4]:=fun wx hx j u hu=>by
  exact (hx.cell (p:=⟨gs,p * 4 + j,none⟩) hmW.2.2.2.2.2.2.1.lt).trans (hmW.2.2.2.2.2.2.2.cell hmW.2.2.2.2.2.2.1 hcs hu)
 have hstW:=(hmW.2.2.2.2.2.2.2.of hcs (by omega))
 rw [← hs] at hstW
 have hcdW:=hcd.keep (hkW.mono (fun i hi=>by have:=hCb i hi; omega))
 have g1 : (p : Int) < n:=by omega
 have g2 : (0 : Int) ≤ p:=by omega
 have hlb:=nextS_len (cs.getD p zeroCd) p n s ⟨x0,x1,x2,x3,x4,x5,x6⟩
 obtain ⟨-,nb,hnb,-⟩:=nextS_adds (cs.getD p zeroCd) p n s ⟨x0,x1,x2,x3,x4,x5,x6⟩
 have hlb2 : s.outs.length ≤ (nextS (cs.getD p zeroCd) p n s ⟨x0,x1,x2,x3,x4,x5,x6⟩).outs.length:=by rw [hnb,List.length_append]; omega
 clear hb4 hb7 hb8 hb5 hex hnb
 have HKW:=Lib.hid hkW
 have HBE:=Lib.hid hbe
 have HMW:=Lib.hid hmW
 have HSTW:=Lib.hid hstW
 have HCDW:=Lib.hid hcdW
 have HCS:=Lib.hid hcs
 have RGC:=Lib.hid rgC
 have RGS:=Lib.hid rgS
 have HCB:=Lib.hid hCb
 have HML:=Lib.hid hml
 have HIC:=Lib.hid hic
 have HM4:=Lib.hid hm4
 have HI:=Lib.hid hi
 have HCL:=Lib.hid hcl
 clear hkW hbe hmW hstW hcdW hcs rgC rgS hCb hml hic hm4 hi hcl
 clear hmm hst hcd hcr hs
 go_enter Tryz.func42,Tryz.ntmps42
 go_upto_region 1 with fail
 clear hW
 go_upto_region 2 with fail
 clear c3 m1
 have hX : ∀ i,MiX gm gs (.slice A m.world.length c) i → base ≤ i ∧ i < W.heap.size:=fun i hi=>by
  rcases hi with h | h | h
  ·rw [h]; exact ⟨hb1,HM4.out.lt⟩
  ·rw [h]; exact ⟨hb2,HMW.out.2.2.2.2.2.2.1.lt⟩
  ·exact HMW.out.2.2.2.2.1.lt i h
 have hCS : ∀ i,C i → But W (MiX gm gs (.slice A m.world.length c)) i:=fun i hi=>⟨by have:=HCB.out i hi; omega,fun h=>by have:=HCB.out i hi; have:=hX i h; omega⟩
 have HCS2:=Lib.hid hCS
 clear hCS
 have HX:=Lib.hid hX
 clear hX
 refine wp_region_L 28 (fun wx=>Keep W wx) (fun _=>True) (by kernel_rfl) (Same.drew (Same.refl _ _)) trivial (fun hA hB'=>?_)
 have hB : True:=trivial
 clear hB'
 refine wpL_takeA (i:=0) (v:=?_) rfl (by kernel_rfl) (by kernel_rfl) (by kernel_rfl) (by kernel_rfl) (by decide) (fun _ _ _ h=>h) (Or.inl ⟨by rfl,?_⟩) hA hB ?_
 rotate_left
 ·rintro wx ⟨hAx,hBx⟩
  (try dsimp only at hBx); (try dsimp only at hAx)
  go_simp
  try with_reducible rfl
 try simp only [Act.put,List.setIfInBounds_toArray,List.set_cons_zero,List.set_cons_succ]
 refine wpL_takeA (i:=1) (v:=?_) rfl (by kernel_rfl) (by kernel_rfl) (by kernel_rfl) (by kernel_rfl) (by decide) (fun _ _ _ h=>h) (Or.inl ⟨by rfl,?_⟩) hA hB ?_
 rotate_left
 ·rintro wx ⟨hAx,hBx⟩
  (try dsimp only at hBx); (try dsimp only at hAx)
  go_simp
  try with_reducible rfl
 try simp only [Act.put,List.setIfInBounds_toArray,List.set_cons_zero,List.set_cons_succ]
 refine wpL_takeA (i:=2) (v:=?_) rfl (by kernel_rfl) (by kernel_rfl) (by kernel_rfl) (by kernel_rfl) (by decide) (fun _ _ _ h=>h) (Or.inl ⟨by rfl,?_⟩) hA hB ?_
 rotate_left
 ·rintro wx ⟨hAx,hBx⟩
  (try dsimp only at hBx); (try dsimp only at hAx)
  go_simp
  try with_reducible rfl
 try simp only [Act.put,List.setIfInBounds_toArray,List.set_cons_zero,List.set_cons_succ]
 refine wpL_takeA (i:=3) (v:=?_) rfl (by kernel_rfl) (by kernel_rfl) (by kernel_rfl) (by kernel_rfl) (by decide) (fun _ _ _ h=>h) (Or.inl ⟨by rfl,?_⟩) hA hB ?_
 rotate_left
 ·rintro wx ⟨hAx,hBx⟩
  (try dsimp only at hBx); (try dsimp only at hAx)
  go_simp
  try with_reducible rfl
 try simp only [Act.put,List.setIfInBounds_toArray,List.set_cons_zero,List.set_cons_succ]
 refine wpL_takeA (i:=4) (v:=?_) rfl (by kernel_rfl) (by kernel_rfl) (by kernel_rfl) (by kernel_rfl) (by decide) (fun _ _ _ h=>h) (Or.inl ⟨by rfl,?_⟩) hA hB ?_
 rotate_left
 ·rintro wx ⟨hAx,hBx⟩
  (try dsimp only at hBx); (try dsimp only at hAx)
  go_simp
  try with_reducible rfl
 try simp only [Act.put,List.setIfInBounds_toArray,List.set_cons_zero,List.set_cons_succ]
 refine wpL_takeA (i:=5) (v:=?_) rfl (by kernel_rfl) (by kernel_rfl) (by kernel_rfl) (by kernel_rfl) (by decide) (fun _ _ _ h=>h) (Or.inl ⟨by rfl,?_⟩) hA hB ?_
 rotate_left
 ·rintro wx ⟨hAx,hBx⟩
  (try dsimp only at hBx); (try dsimp only at hAx)
  go_simp
  try with_reducible rfl
 try simp only [Act.put,List.setIfInBounds_toArray,List.set_cons_zero,List.set_cons_succ]
 refine wpL_takeA (i:=6) (v:=?_) rfl (by kernel_rfl) (by kernel_rfl) (by kernel_rfl) (by kernel_rfl) (by decide) (fun _ _ _ h=>h) (Or.inl ⟨by rfl,?_⟩) hA hB ?_
 rotate_left
 ·rintro wx ⟨hAx,hBx⟩
  (try dsimp only at hBx); (try dsimp only at hAx)
  go_simp
  try with_reducible rfl
 try simp only [Act.put,List.setIfInBounds_toArray,List.set_cons_zero,List.set_cons_succ]
 refine wpL_takeA (i:=7) (v:=?_) rfl (by kernel_rfl) (by kernel_rfl) (by kernel_rfl) (by kernel_rfl) (by decide) (fun _ _ _ h=>h) (Or.inl ⟨by rfl,?_⟩) hA hB ?_
 rotate_left
 ·rintro wx ⟨hAx,hBx⟩
  (try dsimp only at hBx); (try dsimp only at hAx)
  go_simp
  try with_reducible rfl
 try simp only [Act.put,List.setIfInBounds_toArray,List.set_cons_zero,List.set_cons_succ]
 refine wpL_takeA (i:=8) (v:=?_) rfl (by kernel_rfl) (by kernel_rfl) (by kernel_rfl) (by kernel_rfl) (by decide) (fun _ _ _ h=>h) (Or.inl ⟨by rfl,?_⟩) hA hB ?_
 rotate_left
 ·rintro wx ⟨hAx,hBx⟩
  (try dsimp only at hBx); (try dsimp only at hAx)
  go_simp
  try with_reducible rfl
 try simp only [Act.put,List.setIfInBounds_toArray,List.set_cons_zero,List.set_cons_succ]
 refine wpL_takeA (i:=9) (v:=?_) rfl (by kernel_rfl) (by kernel_rfl) (by kernel_rfl) (by kernel_rfl) (by decide) (fun _ _ _ h=>h) (Or.inl ⟨by rfl,?_⟩) hA hB ?_
 rotate_left
 ·rintro wx ⟨hAx,hBx⟩
  (try dsimp only at hBx); (try dsimp only at hAx)
  go_simp
  try with_reducible rfl
 try simp only [Act.put,List.setIfInBounds_toArray,List.set_cons_zero,List.set_cons_succ]
 refine wpL_takeA (i:=10) (v:=?_) rfl (by kernel_rfl) (by kernel_rfl) (by kernel_rfl) (by kernel_rfl) (by decide) (fun _ _ _ h=>h) (Or.inl ⟨by rfl,?_⟩) hA hB ?_
 rotate_left
 ·rintro wx ⟨hAx,hBx⟩
  (try dsimp only at hBx); (try dsimp only at hAx)
  go_simp
  try with_reducible rfl
 try simp only [Act.put,List.setIfInBounds_toArray,List.set_cons_zero,List.set_cons_succ]
 refine wpL_takeA (i:=11) rfl (by kernel_rfl) (by kernel_rfl) (by kernel_rfl) (by kernel_rfl) (by decide) (fun _ _ _ h=>h) (yieldsIf_load_mid (by rfl) _ _ rfl bC (oC + p * 5) rfl [.slice D0 d0 f0,.slice D1 d1 f1,.slice D2 d2 f2,.slice D3 d3 f3,.slice D4 d4 f4] _ (fun wx hx=>RGC.out wx hx.1) Tryz.underlying63 rfl (by kernel_rfl)) hA hB ?_
 try simp only [Act.put,List.setIfInBounds_toArray,List.set_cons_zero,List.set_cons_succ]
 refine wpL_takeA (i:=12) (v:=?_) rfl (by kernel_rfl) (by kernel_rfl) (by kernel_rfl) (by kernel_rfl) (by decide) (fun _ _ _ h=>h) (Or.inl ⟨by rfl,?_⟩) hA hB ?_
 rotate_left
 ·rintro wx ⟨hAx,hBx⟩
  (try dsimp only at hBx); (try dsimp only at hAx)
  go_simp
  try with_reducible rfl
 try simp only [Act.put,List.setIfInBounds_toArray,List.set_cons_zero,List.set_cons_succ]
 refine wpL_takeA (i:=13) (v:=?_) rfl (by kernel_rfl) (by kernel_rfl) (by kernel_rfl) (by kernel_rfl) (by decide) (fun _ _ _ h=>h) (Or.inl ⟨by rfl,?_⟩) hA hB ?_
 rotate_left
 ·rintro wx ⟨hAx,hBx⟩
  (try dsimp only at hBx); (try dsimp only at hAx)
  go_simp
  try with_reducible rfl
 try simp only [Act.put,List.setIfInBounds_toArray,List.set_cons_zero,List.set_cons_succ]
 refine wpL_takeA (i:=14) (v:=?_) rfl (by kernel_rfl) (by kernel_rfl) (by kernel_rfl) (by kernel_rfl) (by decide) (fun _ _ _ h=>h) (Or.inl ⟨by rfl,?_⟩) hA hB ?_
 rotate_left
 ·rintro wx ⟨hAx,hBx⟩
  (try dsimp only at hBx); (try dsimp only at hAx)
  go_simp
  try with_reducible rfl
 try simp only [Act.put,List.setIfInBounds_toArray,List.set_cons_zero,List.set_cons_succ]
 refine wpL_takeA (i:=15) (v:=?_) rfl (by kernel_rfl) (by kernel_rfl) (by kernel_rfl) (by kernel_rfl) (by decide) (fun _ _ _ h=>h) (Or.inl ⟨by rfl,?_⟩) hA hB ?_
 rotate_left
 ·rintro wx ⟨hAx,hBx⟩
  (try dsimp only at hBx); (try dsimp only at hAx)
  go_simp
  try with_reducible rfl
 try simp only [Act.put,List.setIfInBounds_toArray,List.set_cons_zero,List.set_cons_succ]
 refine wpL_takeA (i:=16) (v:=?_) rfl (by kernel_rfl) (by kernel_rfl) (by kernel_rfl) (by kernel_rfl) (by decide) (fun _ _ _ h=>h) (Or.inl ⟨by rfl,?_⟩) hA hB ?_
 rotate_left
 ·rintro wx ⟨hAx,hBx⟩
  (try dsimp only at hBx); (try dsimp only at hAx)
  go_simp
  try with_reducible rfl
 try simp only [Act.put,List.setIfInBounds_toArray,List.set_cons_zero,List.set_cons_succ]
 refine wpL_takeA (i:=17) (v:=?_) rfl (by kernel_rfl) (by kernel_rfl) (by kernel_rfl) (by kernel_rfl) (by decide) (fun _ _ _ h=>h) (Or.inl ⟨by rfl,?_⟩) hA hB ?_
 rotate_left
 ·rintro wx ⟨hAx,hBx⟩
  (try dsimp only at hBx); (try dsimp only at hAx)
  go_simp
  try with_reducible rfl
 try simp only [Act.put,List.setIfInBounds_toArray,List.set_cons_zero,List.set_cons_succ]
 refine wpL_takeA (i:=18) (v:=?_) rfl (by kernel_rfl) (by kernel_rfl) (by kernel_rfl) (by kernel_rfl) (by decide) (fun _ _ _ h=>h) (Or.inl ⟨by rfl,?_⟩) hA hB ?_
 rotate_left
 ·rintro wx ⟨hAx,hBx⟩
  (try dsimp only at hBx); (try dsimp only at hAx)
  go_simp
  try with_reducible rfl
 try simp only [Act.put,List.setIfInBounds_toArray,List.set_cons_zero,List.set_cons_succ]
 refine wpL_takeA (i:=19) (v:=?_) rfl (by kernel_rfl) (by kernel_rfl) (by kernel_rfl) (by kernel_rfl) (by decide) (fun _ _ _ h=>h) (Or.inl ⟨by rfl,?_⟩) hA hB ?_
 rotate_left
 ·rintro wx ⟨hAx,hBx⟩
  (try dsimp only at hBx); (try dsimp only at hAx)
  go_simp
  try with_reducible rfl
 try simp only [Act.put,List.setIfInBounds_toArray,List.set_cons_zero,List.set_cons_succ]
 refine wpL_takeA (i:=20) (v:=?_) rfl (by kernel_rfl) (by kernel_rfl) (by kernel_rfl) (by kernel_rfl) (by decide) (fun _ _ _ h=>h) (Or.inl ⟨by rfl,?_⟩) hA hB ?_
 rotate_left
 ·rintro wx ⟨hAx,hBx⟩
  (try dsimp only at hBx); (try dsimp only at hAx)
  go_simp
  try with_reducible rfl
 try simp only [Act.put,List.setIfInBounds_toArray,List.set_cons_zero,List.set_cons_succ]
 refine wpL_takeA (i:=21) (v:=?_) rfl (by kernel_rfl) (by kernel_rfl) (by kernel_rfl) (by kernel_rfl) (by decide) (fun _ _ _ h=>h) (Or.inl ⟨by rfl,?_⟩) hA hB ?_
 rotate_left
 ·rintro wx ⟨hAx,hBx⟩
  (try dsimp only at hBx); (try dsimp only at hAx)
  go_simp
  try with_reducible rfl
 try simp only [Act.put,List.setIfInBounds_toArray,List.set_cons_zero,List.set_cons_succ]
 refine wpL_takeA (i:=22) (v:=?_) rfl (by kernel_rfl) (by kernel_rfl) (by kernel_rfl) (by kernel_rfl) (by decide) (fun _ _ _ h=>h) (Or.inl ⟨by rfl,?_⟩) hA hB ?_
 rotate_left
 ·rintro wx ⟨hAx,hBx⟩
  (try dsimp only at hBx); (try dsimp only at hAx)
  go_simp
  try with_reducible rfl
 try simp only [Act.put,List.setIfInBounds_toArray,List.set_cons_zero,List.set_cons_succ]
 refine wpL_takeA (i:=23) (v:=?_) rfl (by kernel_rfl) (by kernel_rfl) (by kernel_rfl) (by kernel_rfl) (by decide) (fun _ _ _ h=>h) (Or.inl ⟨by rfl,?_⟩) hA hB ?_
 rotate_left
 ·rintro wx ⟨hAx,hBx⟩
  (try dsimp only at hBx); (try dsimp only at hAx)
  go_simp
  try with_reducible rfl
 try simp only [Act.put,List.setIfInBounds_toArray,List.set_cons_zero,List.set_cons_succ]
 refine wpL_takeA (i:=24) rfl (by kernel_rfl) (by kernel_rfl) (by kernel_rfl) (by kernel_rfl) (by decide) (fun _ _ _ h=>h) (yieldsIf_load_mid (by rfl) _ _ rfl gs (p * 4) rfl [.slice B1 p1 q1,.slice B2 p2 q2,.slice B3 p3 q3,.slice B4 s.outs.length q4] _ (fun wx hx=>RGS.out wx hx.1) Tryz.underlying50 rfl (by kernel_rfl)) hA hB ?_
 try simp only [Act.put,List.setIfInBounds_toArray,List.set_cons_zero,List.set_cons_succ]
 refine wpL_takeA (i:=25) rfl (by kernel_rfl) (by kernel_rfl) (by kernel_rfl) (by kernel_rfl) (by decide) (fun _ _ _ h=>h) (yieldsIf_blk (by rfl) _ _ rfl w.heap.size 0 89 _ [.int .i64 x0,.int .i64 x1,.int .i64 x2,.int .i64 x3,.int .i64 x4,.int .i64 x5,.int .i64 x6] _ rfl (fun wx hx=>hx.1.blk HBE.out HBE.out.lt) (fun j u hu=>by simpa using hu) Tryz.underlying89 rfl (by kernel_rfl)) hA hB ?_
 try simp only [Act.put,List.setIfInBounds_toArray,List.set_cons_zero,List.set_cons_succ]
 refine wpL_one (i:=26) (by kernel_rfl) (StepL.mk rfl (fun K hK=>?_))
 go_simp
 have key:=pnext_any W.drew (But W (MiX gm gs (.slice A m.world.length c))) [.slice D0 d0 f0,.slice D1 d1 f1,.slice D2 d2 f2,.slice D3 d3 f3,.slice D4 d4 f4] [.slice B1 p1 q1,.slice B2 p2 q2,.slice B3 p3 q3,.slice B4 s.outs.length q4] (cs.getD p zeroCd) s p n ⟨x0,x1,x2,x3,x4,x5,x6⟩ (fun i hi=>Nat.lt_of_lt_of_le hi.1 hA.size) ((HCDW.out.keep (hA.mono (fun i hi=>by have:=HCB.out i hi; omega))).more HCS2.out) (HSTW.out.keep (hA.mono (fun i hi=>hi.1))) (by omega) (by omega) (by omega) (by omega)
 refine key.mono ?_
 rintro e w3 ⟨cs3,rfl,hr3',hk3⟩
 obtain ⟨E1,E2,E3,E4,a1,b1,a2,b2,a3,b3,a4,b4,rfl,hr3⟩:=st_open hr3'
 have hA3:=Keep.trans hA hk3
 clear key hr3'
 refine hK.out _ _ (SAB.both hA3 trivial) (fun hSS=>?_)
 clear hK K hA hB
 have hB:=hSS.2
 have hA:=hSS.1 (by kernel_rfl)
 (try dsimp only at hB); (try dsimp only at hA); clear hSS
 try simp only [Act.put,List.setIfInBounds_toArray,List.set_cons_zero,List.set_cons_succ]
 refine wpL_takeA (i:=27) (v:=?_) rfl (by kernel_rfl) (by kernel_rfl) (by kernel_rfl) (by kernel_rfl) (by decide) (fun _ _ _ h=>h) (Or.inl ⟨by rfl,?_⟩) hA hB ?_
 rotate_left
 ·rintro wx ⟨hAx,hBx⟩
  (try dsimp only at hBx); (try dsimp only at hAx)
  go_simp
  try with_reducible rfl
 try simp only [Act.put,List.setIfInBounds_toArray,List.set_cons_zero,List.set_cons_succ]
 refine wpL_one (i:=28) (by kernel_rfl) (StepL.mk rfl (fun K hK=>?_))
 refine step_store_blk rfl _ _ _ rfl gs (p * 4) 50 _ [.slice E1 a1 b1,.slice E2 a2 b2,.slice E3 a3 b3,.slice E4 a4 b4] rfl rfl (hA3.blk HMW.out.2.2.2.2.2.2.1 HMW.out.2.2.2.2.2.2.1.lt) (by have:=HMW.out.2.2.2.2.2.2.2.flen; have:=HML.out; simp only [List.size_toArray,List.length_cons,List.length_nil]; omega) (by kernel_rfl) rfl ?_
 intro w4 hb4 hs4
 have hput:=MiM.put (ss:=m.ss) (l:=m.world) HMW.out (p:=p) (by have:=HML.out; omega) hA3 rfl hr3 (fun i hi=>by
  rcases hi with h | h
  ·exact ⟨Nat.lt_of_lt_of_le h.1 hA3.size,h.2⟩
  ·exact ⟨h.2,fun hh=>Nat.lt_irrefl i (Nat.lt_of_lt_of_le (HX.out i hh).2 (show W.heap.size ≤ i from h.1))⟩) hb4 hs4
 have hz4:=hs4.size
 have hz3:=hA3.size
 have hfr : Same (· < base) w w4:=Same.trans (HKW.out.mono (fun i (hi : i < base)=>by omega)) (Same.trans (hA3.mono (fun i (hi : i < base)=>by omega)) hs4 (fun i (hi : i < base)=>by show i ≠ gs; omega)) (fun i hi=>hi)
 clear hb4 hs4 hr3 hk3
 refine hK.out _ _ (SAB.past (by kernel_rfl) trivial) (fun hSS=>?_)
 clear hK K hA hB
 have hB:=hSS.2
 have hA : True:=trivial
 (try dsimp only at hB); (try dsimp only at hA); clear hSS
 try simp only [Act.put,List.setIfInBounds_toArray,List.set_cons_zero,List.set_cons_succ]
 refine wpL_done (by kernel_rfl) ?_
 have hln : (m.ss.set p (nextS (cs.getD p zeroCd) p n s ⟨x0,x1,x2,x3,x4,x5,x6⟩)).length = n:=by rw [List.length_set]; exact HML.out
 have hgt : (m.ss.set p (nextS (cs.getD p zeroCd) p n s ⟨x0,x1,x2,x3,x4,x5,x6⟩)).getD p zeroSt = (nextS (cs.getD p zeroCd) p n s ⟨x0,x1,x2,x3,x4,x5,x6⟩):=getD_set_same (by have:=HML.out; omega)
 have hshow:=show_any w4 base gm gs (.slice (some ⟨bC,oC,none⟩) n cC) A c _ ⟨m.ss.set p (nextS (cs.getD p zeroCd) p n s ⟨x0,x1,x2,x3,x4,x5,x6⟩),m.world⟩ p s.outs.length hput (by omega) (by rw [hln]; exact hn) (by rw [hln]; exact hp) (by rw [hgt]; exact hlb2) (by rw [hgt]; omega) (by show m.world.length ≤ 1000000; omega)
 rw [hgt] at hshow
 have HSHOW:=Lib.hid hshow
 have HFR:=Lib.hid hfr
 clear hshow hfr
 clear hput hA3 hA hB hln hgt k0 k1
 go_wp2_with fail
 refine HSHOW.out.mono ?_
 rintro e w5 ⟨rfl,⟨A5,c5,h5⟩,hs5⟩
 have hfin : ExecPost base gm gs (.slice (some ⟨bC,oC,none⟩) n cC) ⟨m.ss.set p (nextS (cs.getD p zeroCd) p n s ⟨x0,x1,x2,x3,x4,x5,x6⟩),m.world ++ showS p 0 ((nextS (cs.getD p zeroCd) p n s ⟨x0,x1,x2,x3,x4,x5,x6⟩).outs.drop s.outs.length)⟩ w (.returned (.tuple #[])) w5:=⟨rfl,⟨A5,c5,_,h5⟩,Same.trans HFR.out hs5 (fun i hi=>hi)⟩
 have HFIN:=Lib.hid hfin
 clear hfin
 clear h5 hs5
 go_wp2_with fail
 exact bodyPost_end (results_none Tryz.results42 _ _ _) rfl HFIN.out
end Go.Proofs.YtipegaojiokppaaGreatDoor
set_option linter.unusedVariables false
set_option linter.unusedSimpArgs false
set_option maxRecDepth 100000
namespace Go.Proofs.YtipegaojiokppaaGreatDoor
open Go.RowKit Go.Proofs
def nil4 : List Value:=[.slice none 0 0,.slice none 0 0,.slice none 0 0,.slice none 0 0]
theorem info_State : (Tryz.prog.info? 50).map (fun i=>(i.zero,i.size,i.bytes)) = some (some (.agg nil4.toArray),4,96):=by kernel_rfl
def statesA (n : Nat) : Array Value:=(List.replicate n nil4).flatten.toArray
theorem made_states : ∀ n : Nat,n ≤ 5 → madeCells (Value.cells (.agg nil4.toArray)) (n * 4) = statesA n
 | 0,_=>by kernel_rfl
 | 1,_=>by kernel_rfl
 | 2,_=>by kernel_rfl
 | 3,_=>by kernel_rfl
 | 4,_=>by kernel_rfl
 | 5,_=>by kernel_rfl
 | n + 6,h=>by omega
theorem bld_mi (A : Option Addr) (n c g m : Nat) : Tryz.prog.built 81 [(0,.slice A n c),(1,.slice (some ⟨g,0,none⟩) m m)] = some #[.slice A n c,.slice (some ⟨g,0,none⟩) m m,.slice none 0 0]:=by kernel_rfl
theorem zero_StR {w : World} {S : Nat → Prop} : StR w S nil4 zeroSt:=⟨none,none,none,none,0,0,0,0,0,0,0,0,rfl,Sl.nil_,Sl.nil_,Sl.nil_,Sl.nil_⟩
theorem zeros_StsR {w : World} {X : Nat → Prop} (n : Nat) : StsR w X (List.replicate n nil4) (List.replicate n zeroSt):=by
 refine ⟨by simp,fun cs h=>by rw [List.eq_of_mem_replicate h]; rfl,fun k cs s e1 e2=>?_⟩
 rw [List.eq_of_mem_replicate (List.mem_of_getElem? e1),List.eq_of_mem_replicate (List.mem_of_getElem? e2)]
 exact zero_StR
noncomputable def begunI (cs : List Cd) (n k : Nat) : Mi:=⟨(startI cs k).ss ++ List.replicate (n - k) zeroSt,(startI cs k).world⟩
theorem begun_len (cs : List Cd) {n k : Nat} (h : k ≤ n) : (begunI cs n k).ss.length = n:=by simp [begunI,startI_len]; omega
theorem begun_next (cs : List Cd) {n k : Nat} (h : k < n) (hn : n = cs.length) : (⟨(begunI cs n k).ss.set k (startS (cs.getD k zeroCd) k n),(begunI cs n k).world ++ showS k 0 (startS (cs.getD k zeroCd) k n).outs⟩ : Mi) = begunI cs n (k + 1):=by
 unfold begunI
 have hl:=startI_len cs k
 have e : n - k = (n - (k + 1)) + 1:=by omega
 rw [e,List.replicate_succ]
 simp only [startI]
 rw [← hn,List.set_append_right _ _ (by omega),hl,Nat.sub_self,List.set_cons_zero,List.append_assoc]
 rfl
theorem begun_done (cs : List Cd) : begunI cs cs.length cs.length = startI cs cs.length:=by
 unfold begunI
 rw [Nat.sub_self]
 simp
theorem begun_get (cs : List Cd) {n k : Nat} (h : k < n) : (begunI cs n k).ss.getD k zeroSt = zeroSt:=by
 unfold begunI
 rw [getD_right (by rw [startI_len]; omega),startI_len,Nat.sub_self]
 have e : n - k = (n - (k + 1)) + 1:=by omega
 rw [e,List.replicate_succ]
 rfl
def IRunPost (cs : List Cd) (l : List Chc) (VC : Value) (w : World) (e : Ending) (w' : World) : Prop:=
 Keep w w' ∧ ((∃ (m : Mi) (gm base gs : Nat) (A : Option Addr) (c : Nat) (css : List (List Value)),runI cs l = .ok m ∧ e = .returned (.tuple #[.pointer (some ⟨gm,0,none⟩),.int .i64 0]) ∧ w.heap.size ≤ base ∧ MiM w' base gm gs VC A c css m) ∨
  (∃ k : Int,runI cs l = .error k ∧ k ≠ 0 ∧ e = .returned (.tuple #[.pointer none,.int .i64 k])))
def Run1 (cs : List Cd) (n base gm gs : Nat) (VC : Value) (W : World) (i : Value) (wr : World) : Prop:=
 ∃ (k : Nat) (A : Option Addr) (c : Nat) (css : List (List Value)),i = .int .i64 k ∧ k ≤ n ∧ MiM wr base gm gs VC A c css (begunI cs n k) ∧ Same (· < base) W wr
def Run2 (cs : List Cd) (l : List Chc) (base gm gs : Nat) (VC : Value) (W : World) (i : Value) (wr : World) : Prop:=
 ∃ (k : Nat) (A : Option Addr) (c : Nat) (css : List (List Value)) (m : Mi),i = .int .i64 k ∧ k ≤ l.length ∧ playI cs (startI cs cs.length) (l.take k) = .ok m ∧ m.world.length ≤ 8 * (cs.length + k) ∧ MiM wr base gm gs VC A c css m ∧ Same (· < base) W wr
theorem playI_next {cs : List Cd} {m0 m : Mi} {l : List Chc} {k : Nat} {x : Chc} (h : playI cs m0 (l.take k) = .ok m) (hx : l[k]? = some x) : ((eventI m.ss x).2 = 0 → playI cs m0 (l.take (k + 1)) = .ok (execI cs m x.proc.toNat (eventI m.ss x).1)) ∧ ((eventI m.ss x).2 ≠ 0 → playI cs m0 l = .error (eventI m.ss x).2):=by
 obtain ⟨hk,e⟩:=List.getElem?_eq_some_iff.1 hx
 refine ⟨fun h0=>?_,fun h0=>?_⟩
 ·rw [List.take_succ_eq_append_getElem hk,e,playI_snoc h x,if_pos h0]
 ·rw [← List.take_append_drop k l,playI_app,h,drop_cons hx]
  show playI cs m (x :: l.drop (k + 1)) = _
  rw [playI,if_neg h0]
set_option maxHeartbeats 32000000 in
theorem idrun_any (w : World) (S : Nat → Prop) (AC AL : Option Addr) (n cC nl cl : Nat) (x1 x2 : Int) (cs : List Cd) (l : List Chc) (hS : ∀ i,S i → i < w.heap.size) (hC : CdsR w S AC n cC cs) (hic : ∀ c ∈ cs,c.init.length ≤ 1000000) (hl : Sl encCh 6 w S AL nl cl l) (hn : n ≤ 1000) (hnl : nl ≤ 1000) :
  Calls Tryz.prog 27 #[.agg #[.slice AC n cC,.int .i64 x1,.int .i64 x2],.slice AL nl cl] w (IRunPost cs l (.slice AC n cC) w):=by
 obtain ⟨i0,hi0,iz0,is0,ib0⟩:=info_of info_State
 have hcl:=hC.1
 have hll:=hl.1
 generalize hW : w.alloc (.cells #[.slice AC n cC,.int .i64 x1,.int .i64 x2] 27) = W
 have hkW : Keep w W:=hW ▸ Keep.new w _
 have hbc : Blk W w.heap.size 27 #[.slice AC n cC,.int .i64 x1,.int .i64 x2]:=hW ▸ Blk.new w _ _
 have hz : w.heap.size < W.heap.size:=hbc.lt
 have c0 : W.cell? ⟨w.heap.size,0,none⟩ = some (.slice AC n cC):=by rw [hbc.cell]; rfl
 have bad : ∀ k : Int,runI cs l = .error k → k ≠ 0 → IRunPost cs l (.slice AC n cC) w (.returned (.tuple #[.pointer none,.int .i64 k])) W:=fun k h h0=>⟨hkW,.inr ⟨k,h,h0,rfl⟩⟩
 have HS:=Lib.hid hS
 have HC:=Lib.hid hC
 have HIC:=Lib.hid hic
 have HL:=Lib.hid hl
 have HCL:=Lib.hid hcl
 have HLL:=Lib.hid hll
 have HKW:=Lib.hid hkW
 have HBC:=Lib.hid hbc
 have HI0:=Lib.hid hi0
 have IZ0:=Lib.hid iz0
 have IS0:=Lib.hid is0
 have IB0:=Lib.hid ib0
 have BAD:=Lib.hid bad
 clear hS hC hic hl hcl hll hkW hbc hi0 iz0 is0 ib0 bad
 go_enter Tryz.func27,Tryz.ntmps27
 go_upto_region 2 with fail
 clear hW
 by_cases hn1 : n < 1
 ·have t1 : decide ((n : Int) < 1) = true:=by simp; omega
  have hfin:=BAD.out 3 (by unfold runI; rw [if_pos (.inl (by have:=HCL.out; omega))]) (by omega)
  have HFIN:=Lib.hid hfin
  clear hfin
  go_wp2_with fail
  go_ret2
  exact HFIN.out
 have t1 : decide ((n : Int) < 1) = false:=by simp; omega
 by_cases hn5 : 5 < n
 ·have t2 : decide ((5 : Int) < n) = true:=by simp; omega
  have hfin:=BAD.out 3 (by unfold runI; rw [if_pos (.inr (by have:=HCL.out; omega))]) (by omega)
  have HFIN:=Lib.hid hfin
  clear hfin
  go_wp2_with fail
  go_ret2
  exact HFIN.out
 have t2 : decide ((5 : Int) < n) = false:=by simp; omega
 by_cases hl3 : 320 < nl
 ·have t3 : decide ((320 : Int) < nl) = true:=by simp; omega
  have hfin:=BAD.out 4 (by unfold runI; rw [if_neg (by have:=HCL.out; omega),if_pos (by have:=HLL.out; omega)]) (by omega)
  have HFIN:=Lib.hid hfin
  clear hfin
  go_wp2_with fail
  go_ret2
  exact HFIN.out
 have t3 : decide ((320 : Int) < nl) = false:=by simp; omega
 have hrun : runI cs l = playI cs (startI cs cs.length) l:=runI_of (by have:=HCL.out; omega) (by have:=HCL.out; omega) (by have:=HLL.out; omega)
 have HRUN:=Lib.hid hrun
 clear hrun
 go_upto_region 6 with fail
 clear t1 t2 t3 c0
 have hmk:=fun W=>run_make_row (P:=Tryz.prog) 33 50 i0 _ Tryz.underlying33 HI0.out IZ0.out .i64 .i64 n n (Nat.le_refl _) (by rw [IB0.out]; omega) (by omega) W
 rw [IS0.out,made_states n (by omega)] at hmk
 have c0 : ∀ wx,Keep W wx → wx.cell? ⟨w.heap.size,0,none⟩ = some (.slice AC n cC):=fun wx hx=>(hx.cell (p:=⟨w.heap.size,0,none⟩) HBC.out.lt).trans (by rw [HBC.out.cell]; rfl)
 refine wp_region_L 99 (fun _=>True) (fun wx=>Keep W wx) (by kernel_rfl) trivial (Same.drew (Same.refl _ _)) (fun hA hB=>?_)
 generalize hu0 : W.drew = u0 at hB ⊢
 clear hu0
 have hz0:=hB.size
 refine wpL_takeB (i:=0) (v:=?_) rfl (by kernel_rfl) (by kernel_rfl) (by kernel_rfl) (by decide) (fun _ _ _ h=>h) (Or.inl ⟨by rfl,?_⟩) (SAB.both hA hB) ?_
 rotate_left
 ·intro wx hBx
  (try dsimp only at hBx)
  go_simp
  try with_reducible rfl
 try simp only [Act.put,List.setIfInBounds_toArray,List.set_cons_zero,List.set_cons_succ]
 refine wpL_takeB (i:=1) (v:=?_) rfl (by kernel_rfl) (by kernel_rfl) (by kernel_rfl) (by decide) (fun _ _ _ h=>h) (Or.inl ⟨by rfl,?_⟩) (SAB.both hA hB) ?_
 rotate_left
 ·intro wx hBx
  (try dsimp only at hBx)
  go_simp
  try with_reducible rfl
 try simp only [Act.put,List.setIfInBounds_toArray,List.set_cons_zero,List.set_cons_succ]
 refine wpL_takeB (i:=2) (v:=?_) rfl (by kernel_rfl) (by kernel_rfl) (by kernel_rfl) (by decide) (fun _ _ _ h=>h) (Or.inl ⟨by rfl,?_⟩) (SAB.both hA hB) ?_
 rotate_left
 ·intro wx hBx
  (try dsimp only at hBx)
  go_simp
  try with_reducible rfl
 try simp only [Act.put,List.setIfInBounds_toArray,List.set_cons_zero,List.set_cons_succ]
 clear c0
 refine wpL_one (i:=3) (by kernel_rfl) (StepL.mk rfl (fun K hK=>?_))
 go_simp
 have hk1 : Keep W (u0.alloc (.cells (statesA n) 50)):=Keep.alloc hB _
 have hs1 : Blk (u0.alloc (.cells (statesA n) 50)) u0.heap.size 50 (statesA n):=Blk.new u0 _ _
 refine hK.out _ _ (SAB.both trivial hk1) (fun hSS=>?_)
 clear hK K hA hB
 have hB:=hSS.2
 have hA:=hSS.1 (by kernel_rfl)
 (try dsimp only at hB); (try dsimp only at hA); clear hSS
 try simp only [Act.put,List.setIfInBounds_toArray,List.set_cons_zero,List.set_cons_succ]
 generalize hq1 : u0.alloc (.cells (statesA n) 50) = w1 at *
 have hzz : u0.heap.size < w1.heap.size:=hs1.lt
 generalize hgs : u0.heap.size = gs at *
 have HS1:=Lib.hid hs1
 clear hs1
 clear hgs hq1 hmk
 refine wpL_takeB (i:=4) rfl (by kernel_rfl) (by kernel_rfl) (by kernel_rfl) (by decide) (fun _ _ _ h=>h) (yieldsIf_bld (by rfl) 81 _ rfl _ [(0,.slice AC n cC),(1,.slice (some ⟨gs,0,none⟩) n n)] rfl (bld_mi _ _ _ _ _)) (SAB.both hA hB) ?_
 try simp only [Act.put,List.setIfInBounds_toArray,List.set_cons_zero,List.set_cons_succ]
 refine wpL_one (i:=5) (by kernel_rfl) (StepL.mk rfl (fun K hK=>?_))
 go_simp
 have hk2 : Keep w1 (w1.alloc (.cells #[.slice AC n cC,.slice (some ⟨gs,0,none⟩) n n,.slice none 0 0] 81)):=Keep.new _ _
 have hb2 : Blk (w1.alloc (.cells #[.slice AC n cC,.slice (some ⟨gs,0,none⟩) n n,.slice none 0 0] 81)) w1.heap.size 81 #[.slice AC n cC,.slice (some ⟨gs,0,none⟩) n n,.slice none 0 0]:=Blk.new _ _ _
 have hk12:=Keep.trans hk1 hk2
 refine hK.out _ _ (SAB.both trivial hk12) (fun hSS=>?_)
 clear hK K hA hB
 have hB:=hSS.2
 have hA:=hSS.1 (by kernel_rfl)
 (try dsimp only at hB); (try dsimp only at hA); clear hSS
 try simp only [Act.put,List.setIfInBounds_toArray,List.set_cons_zero,List.set_cons_succ]
 generalize hq2 : w1.alloc (.cells #[.slice AC n cC,.slice (some ⟨gs,0,none⟩) n n,.slice none 0 0] 81) = w2 at *
 refine wpL_takeB (i:=6) (v:=?_) rfl (by kernel_rfl) (by kernel_rfl) (by kernel_rfl) (by decide) (fun _ _ _ h=>h) (Or.inl ⟨by rfl,?_⟩) (SAB.both hA hB) ?_
 rotate_left
 ·intro wx hBx
  (try dsimp only at hBx)
  go_simp
  try with_reducible rfl
 try simp only [Act.put,List.setIfInBounds_toArray,List.set_cons_zero,List.set_cons_succ]
 refine wpL_done (by kernel_rfl) ?_
 have hs2:=hk2.blk HS1.out HS1.out.lt
 have hm0 : MiM w2 W.heap.size w1.heap.size gs (.slice AC n cC) none 0 (List.replicate n nil4) (begunI cs n 0):=by
  refine ⟨by omega,hz0,by omega,?_,World.ownsRow_nil _ _ _ _,?_,hs2,?_⟩
  ·rw [begun_len cs (Nat.zero_le n)]
   exact hb2
  ·intro b e
   cases e
  ·have e0 : (begunI cs n 0).ss = List.replicate n zeroSt:=by simp [begunI,startI]
   rw [e0]
   exact zeros_StsR n
 have hfr0 : Keep W w2:=hk12
 have hrel0 : Run1 cs n W.heap.size w1.heap.size gs (.slice AC n cC) w2 (.int .i64 0) w2:=⟨0,none,0,_,rfl,Nat.zero_le _,hm0,Same.refl _ _⟩
 have HREL0:=Lib.hid hrel0
 have HFR0:=Lib.hid hfr0
 clear hrel0 hfr0
 have hW2 : w1.heap.size < w2.heap.size:=hb2.lt
 clear hs2 hm0 hk12 hk2 hk1 hb2 hq2 hA hB HS1
 generalize hgm : w1.heap.size = gm at *
 clear hgm
 go_wp2_with fail
 go_loopw [32] (fun i wr=>Run1 cs n W.heap.size gm gs (.slice AC n cC) w2 i wr) (fun i _=>n - (intOf i).toNat)
 case atStart=>exact HREL0.out
 case round=>
  obtain ⟨k,A,c,css,rfl,hkn,hmr,hsr⟩:=hrel
  have hzr:=hsr.size
  by_cases hk : k < n
  ·have d1 : decide (k < n) = true:=by simpa using hk
   have hks : Same S w wr:=Same.trans (Same.mono (Keep.trans HKW.out HFR0.out) HS.out) (hsr.mono (fun i (hi : S i)=>by have:=HS.out i hi; show i < W.heap.size; omega)) (fun i hi=>hi)
   obtain ⟨bC,oC,D0,D1,D2,D3,D4,d0,f0,d1,f1,d2,f2,d3,f3,d4,f4,rfl,hCbC,hcd,hcr⟩:=(HC.out.keep hks).at_ hk
   have hbcr:=hsr.blk (HFR0.out.blk HBC.out HBC.out.lt) hz
   have hm4:=hmr.2.2.2.1
   have hms:=hmr.2.2.2.2.2.2.1
   have hml : (begunI cs n k).ss.length = n:=begun_len cs hkn
   have hSb:=HS.out _ hCbC
   have k0 : ∀ wx,Keep wr wx → wx.cell? ⟨w.heap.size,0,none⟩ = some (.slice (some ⟨bC,oC,none⟩) n cC):=fun wx hx=>(hx.cell (p:=⟨w.heap.size,0,none⟩) hbcr.lt).trans (by rw [hbcr.cell]; rfl)
   have k1 : ∀ wx,Keep wr wx → wx.cell? ⟨gm,1,none⟩ = some (.slice (some ⟨gs,0,none⟩) n n):=fun wx hx=>(hx.cell (p:=⟨gm,1,none⟩) hm4.lt).trans (by rw [hm4.cell,hml]; rfl)
   have rgC : ∀ wx,Keep wr wx → wx.rangeAt bC (oC + k * 5) [.slice D0 d0 f0,.slice D1 d1 f1,.slice D2 d2 f2,.slice D3 d3 f3,.slice D4 d4 f4]:=fun wx hx j u hu=>(hx.cell (p:=⟨bC,oC + k * 5 + j,none⟩) (by show bC < wr.heap.size; have:=HFR0.out.size; omega)).trans (hcr j u hu)
   have g1 : (k : Int) < n:=by omega
   have g2 : (0 : Int) ≤ k:=by omega
   have hX : ∀ i,MiX gm gs (.slice A (begunI cs n k).world.length c) i → W.heap.size ≤ i ∧ i < wr.heap.size:=fun i hi=>by
    rcases hi with h | h | h
    ·rw [h]; exact ⟨hmr.1,hm4.lt⟩
    ·rw [h]; exact ⟨hmr.2.1,hms.lt⟩
    ·exact hmr.2.2.2.2.1.lt i h
   have hzW:=HFR0.out.size
   have hCS : ∀ i,S i → But wr (MiX gm gs (.slice A (begunI cs n k).world.length c)) i:=fun i hi=>⟨by have:=HS.out i hi; omega,fun h=>by have:=HS.out i hi; have:=hX i h; omega⟩
   have hwl:=startI_world cs k
   have hol:=(replayS_len (cs.getD k zeroCd) k n []).2.2.1
   rw [← startS_eq,List.length_nil] at hol
   clear hcr hm4
   have HX:=Lib.hid hX
   have RGC:=Lib.hid rgC
   have HMR:=Lib.hid hmr
   have HMS:=Lib.hid hms
   have HML:=Lib.hid hml
   have HSR:=Lib.hid hsr
   have HBCR:=Lib.hid hbcr
   have HCD:=Lib.hid hcd
   have HKS:=Lib.hid hks
   clear hX rgC hmr hms hml hsr hbcr hcd hks
   have HCS2:=Lib.hid hCS
   clear hCS
   go_wp2_with fail
   refine wp_region_L 14 (fun wx=>Keep wr wx) (fun _=>True) (by kernel_rfl) (Same.drew (Same.refl _ _)) trivial (fun hA hB=>?_)
   generalize hu0 : wr.drew = u0 at hA ⊢
   clear hu0
   refine wpL_takeA (i:=0) (v:=?_) rfl (by kernel_rfl) (by kernel_rfl) (by kernel_rfl) (by kernel_rfl) (by decide) (fun _ _ _ h=>h) (Or.inl ⟨by rfl,?_⟩) hA hB ?_
   rotate_left
   ·rintro wx ⟨hAx,hBx⟩
    (try dsimp only at hBx); (try dsimp only at hAx)
    go_simp
    try with_reducible rfl
   try simp only [Act.put,List.setIfInBounds_toArray,List.set_cons_zero,List.set_cons_succ]
   refine wpL_takeA (i:=1) (v:=?_) rfl (by kernel_rfl) (by kernel_rfl) (by kernel_rfl) (by kernel_rfl) (by decide) (fun _ _ _ h=>h) (Or.inl ⟨by rfl,?_⟩) hA hB ?_
   rotate_left
   ·rintro wx ⟨hAx,hBx⟩
    (try dsimp only at hBx); (try dsimp only at hAx)
    go_simp
    try with_reducible rfl
   try simp only [Act.put,List.setIfInBounds_toArray,List.set_cons_zero,List.set_cons_succ]
   refine wpL_takeA (i:=2) (v:=?_) rfl (by kernel_rfl) (by kernel_rfl) (by kernel_rfl) (by kernel_rfl) (by decide) (fun _ _ _ h=>h) (Or.inl ⟨by rfl,?_⟩) hA hB ?_
   rotate_left
   ·rintro wx ⟨hAx,hBx⟩
    (try dsimp only at hBx); (try dsimp only at hAx)
    go_simp
    try with_reducible rfl
   try simp only [Act.put,List.setIfInBounds_toArray,List.set_cons_zero,List.set_cons_succ]
   refine wpL_takeA (i:=3) (v:=?_) rfl (by kernel_rfl) (by kernel_rfl) (by kernel_rfl) (by kernel_rfl) (by decide) (fun _ _ _ h=>h) (Or.inl ⟨by rfl,?_⟩) hA hB ?_
   rotate_left
   ·rintro wx ⟨hAx,hBx⟩
    (try dsimp only at hBx); (try dsimp only at hAx)
    go_simp
    try with_reducible rfl
   try simp only [Act.put,List.setIfInBounds_toArray,List.set_cons_zero,List.set_cons_succ]
   refine wpL_takeA (i:=4) (v:=?_) rfl (by kernel_rfl) (by kernel_rfl) (by kernel_rfl) (by kernel_rfl) (by decide) (fun _ _ _ h=>h) (Or.inl ⟨by rfl,?_⟩) hA hB ?_
   rotate_left
   ·rintro wx ⟨hAx,hBx⟩
    (try dsimp only at hBx); (try dsimp only at hAx)
    go_simp
    try with_reducible rfl
   try simp only [Act.put,List.setIfInBounds_toArray,List.set_cons_zero,List.set_cons_succ]
   refine wpL_takeA (i:=5) (v:=?_) rfl (by kernel_rfl) (by kernel_rfl) (by kernel_rfl) (by kernel_rfl) (by decide) (fun _ _ _ h=>h) (Or.inl ⟨by rfl,?_⟩) hA hB ?_
   rotate_left
   ·rintro wx ⟨hAx,hBx⟩
    (try dsimp only at hBx); (try dsimp only at hAx)
    go_simp
    try with_reducible rfl
   try simp only [Act.put,List.setIfInBounds_toArray,List.set_cons_zero,List.set_cons_succ]
   refine wpL_takeA (i:=6) (v:=?_) rfl (by kernel_rfl) (by kernel_rfl) (by kernel_rfl) (by kernel_rfl) (by decide) (fun _ _ _ h=>h) (Or.inl ⟨by rfl,?_⟩) hA hB ?_
   rotate_left
   ·rintro wx ⟨hAx,hBx⟩
    (try dsimp only at hBx); (try dsimp only at hAx)
    go_simp
    try with_reducible rfl
   try simp only [Act.put,List.setIfInBounds_toArray,List.set_cons_zero,List.set_cons_succ]
   refine wpL_takeA (i:=7) (v:=?_) rfl (by kernel_rfl) (by kernel_rfl) (by kernel_rfl) (by kernel_rfl) (by decide) (fun _ _ _ h=>h) (Or.inl ⟨by rfl,?_⟩) hA hB ?_
   rotate_left
   ·rintro wx ⟨hAx,hBx⟩
    (try dsimp only at hBx); (try dsimp only at hAx)
    go_simp
    try with_reducible rfl
   try simp only [Act.put,List.setIfInBounds_toArray,List.set_cons_zero,List.set_cons_succ]
   refine wpL_takeA (i:=8) (v:=?_) rfl (by kernel_rfl) (by kernel_rfl) (by kernel_rfl) (by kernel_rfl) (by decide) (fun _ _ _ h=>h) (Or.inl ⟨by rfl,?_⟩) hA hB ?_
   rotate_left
   ·rintro wx ⟨hAx,hBx⟩
    (try dsimp only at hBx); (try dsimp only at hAx)
    go_simp
    try with_reducible rfl
   try simp only [Act.put,List.setIfInBounds_toArray,List.set_cons_zero,List.set_cons_succ]
   refine wpL_takeA (i:=9) rfl (by kernel_rfl) (by kernel_rfl) (by kernel_rfl) (by kernel_rfl) (by decide) (fun _ _ _ h=>h) (yieldsIf_load_mid (by rfl) _ _ rfl bC (oC + k * 5) rfl [.slice D0 d0 f0,.slice D1 d1 f1,.slice D2 d2 f2,.slice D3 d3 f3,.slice D4 d4 f4] _ (fun wx hx=>RGC.out wx hx.1) Tryz.underlying63 rfl (by kernel_rfl)) hA hB ?_
   try simp only [Act.put,List.setIfInBounds_toArray,List.set_cons_zero,List.set_cons_succ]
   refine wpL_takeA (i:=10) (v:=?_) rfl (by kernel_rfl) (by kernel_rfl) (by kernel_rfl) (by kernel_rfl) (by decide) (fun _ _ _ h=>h) (Or.inl ⟨by rfl,?_⟩) hA hB ?_
   rotate_left
   ·rintro wx ⟨hAx,hBx⟩
    (try dsimp only at hBx); (try dsimp only at hAx)
    go_simp
    try with_reducible rfl
   try simp only [Act.put,List.setIfInBounds_toArray,List.set_cons_zero,List.set_cons_succ]
   refine wpL_takeA (i:=11) (v:=?_) rfl (by kernel_rfl) (by kernel_rfl) (by kernel_rfl) (by kernel_rfl) (by decide) (fun _ _ _ h=>h) (Or.inl ⟨by rfl,?_⟩) hA hB ?_
   rotate_left
   ·rintro wx ⟨hAx,hBx⟩
    (try dsimp only at hBx); (try dsimp only at hAx)
    go_simp
    try with_reducible rfl
   try simp only [Act.put,List.setIfInBounds_toArray,List.set_cons_zero,List.set_cons_succ]
   refine wpL_one (i:=12) (by kernel_rfl) (StepL.mk rfl (fun K hK=>?_))
   go_simp
   have zA:=hA.size
   have key:=pstart_any u0 (But wr (MiX gm gs (.slice A (begunI cs n k).world.length c))) [.slice D0 d0 f0,.slice D1 d1 f1,.slice D2 d2 f2,.slice D3 d3 f3,.slice D4 d4 f4] (cs.getD k zeroCd) k n (fun i hi=>Nat.lt_of_lt_of_le hi.1 hA.size) ((HCD.out.keep (hA.mono (fun i hi=>(HCS2.out i hi).1))).more HCS2.out)
   refine key.mono ?_
   rintro e w3 ⟨cs3,rfl,hr3',hk3⟩
   obtain ⟨E1,E2,E3,E4,a1,b1,a2,b2,a3,b3,a4,b4,rfl,hr3⟩:=st_open hr3'
   have hA3:=Keep.trans hA hk3
   clear key hr3'
   refine hK.out _ _ (SAB.both hA3 trivial) (fun hSS=>?_)
   clear hK K hA hB
   have hB:=hSS.2
   have hA:=hSS.1 (by kernel_rfl)
   (try dsimp only at hB); (try dsimp only at hA); clear hSS
   try simp only [Act.put,List.setIfInBounds_toArray,List.set_cons_zero,List.set_cons_succ]
   refine wpL_takeA (i:=13) (v:=?_) rfl (by kernel_rfl) (by kernel_rfl) (by kernel_rfl) (by kernel_rfl) (by decide) (fun _ _ _ h=>h) (Or.inl ⟨by rfl,?_⟩) hA hB ?_
   rotate_left
   ·rintro wx ⟨hAx,hBx⟩
    (try dsimp only at hBx); (try dsimp only at hAx)
    go_simp
    try with_reducible rfl
   try simp only [Act.put,List.setIfInBounds_toArray,List.set_cons_zero,List.set_cons_succ]
   refine wpL_one (i:=14) (by kernel_rfl) (StepL.mk rfl (fun K hK=>?_))
   refine step_store_blk rfl _ _ _ rfl gs (k * 4) 50 _ [.slice E1 a1 b1,.slice E2 a2 b2,.slice E3 a3 b3,.slice E4 a4 b4] rfl rfl (hA3.blk HMS.out HMS.out.lt) (by have:=HMR.out.2.2.2.2.2.2.2.flen; have:=HML.out; simp only [List.size_toArray,List.length_cons,List.length_nil]; omega) (by kernel_rfl) rfl ?_
   intro w4 hb4 hs4
   have hput:=MiM.put (ss:=(begunI cs n k).ss) (l:=(begunI cs n k).world) HMR.out (p:=k) (by have:=HML.out; omega) hA3 rfl hr3 (fun i hi=>by
    rcases hi with h | h
    ·exact ⟨Nat.lt_of_lt_of_le h.1 hA3.size,h.2⟩
    ·exact ⟨h.2,fun hh=>Nat.lt_irrefl i (Nat.lt_of_lt_of_le (HX.out i hh).2 (Nat.le_trans zA h.1))⟩) hb4 hs4
   have hz4:=hs4.size
   have hz3:=hA3.size
   have hfr : Same (· < W.heap.size) w2 w4:=Same.trans HSR.out (Same.trans (hA3.mono (fun i (hi : i < W.heap.size)=>by omega)) hs4 (fun i (hi : i < W.heap.size)=>by show i ≠ gs; omega)) (fun i hi=>hi)
   clear hb4 hs4 hr3 hk3
   refine hK.out _ _ (SAB.past (by kernel_rfl) trivial) (fun hSS=>?_)
   clear hK K hA hB
   have hB:=hSS.2
   have hA : True:=trivial
   (try dsimp only at hB); (try dsimp only at hA); clear hSS
   try simp only [Act.put,List.setIfInBounds_toArray,List.set_cons_zero,List.set_cons_succ]
   refine wpL_done (by kernel_rfl) ?_
   have hln : ((begunI cs n k).ss.set k (startS (cs.getD k zeroCd) k n)).length = n:=by rw [List.length_set]; exact HML.out
   have hgt : ((begunI cs n k).ss.set k (startS (cs.getD k zeroCd) k n)).getD k zeroSt = startS (cs.getD k zeroCd) k n:=getD_set_same (by have:=HML.out; omega)
   have hshow:=show_any w4 W.heap.size gm gs (.slice (some ⟨bC,oC,none⟩) n cC) A c _ ⟨(begunI cs n k).ss.set k (startS (cs.getD k zeroCd) k n),(begunI cs n k).world⟩ k 0 hput (by omega) (by rw [hln]; exact hn) (by rw [hln]; exact hk) (Nat.zero_le _) (by rw [hgt]; omega) (by show (startI cs k).world.length ≤ 1000000; omega)
   rw [hgt,List.drop_zero,begun_next cs hk HCL.out] at hshow
   have HSHOW:=Lib.hid hshow
   have HFR:=Lib.hid hfr
   clear hshow hfr
   clear hput hA3 hA hB hln hgt k0 k1 zA hz3
   go_wp2_with fail
   refine HSHOW.out.mono ?_
   rintro e w5 ⟨rfl,⟨A5,c5,h5⟩,hs5⟩
   have hfin : Run1 cs n W.heap.size gm gs (.slice (some ⟨bC,oC,none⟩) n cC) w2 (.int .i64 ((k : Int) + 1)) w5:=⟨k + 1,A5,c5,_,by simp,by omega,h5,Same.trans HFR.out hs5 (fun i hi=>hi)⟩
   have HFIN:=Lib.hid hfin
   clear hfin
   clear h5 hs5
   go_wp2_with fail
   go_roundw
   case rel=>exact HFIN.out
   case measure=>simp [intOf]; omega
  ·have d1 : decide (k < n) = false:=by simpa using hk
   have hkn' : n = cs.length:=HCL.out
   have hke : k = cs.length:=by omega
   have hm2 : MiM wr W.heap.size gm gs (.slice AC n cC) A c css (startI cs cs.length):=by
    have:=hmr
    rw [hke,hkn',begun_done] at this
    rw [hkn']
    exact this
   have hrl2 : Run2 cs l W.heap.size gm gs (.slice AC n cC) wr (.int .i64 0) wr:=⟨0,A,c,css,_,rfl,Nat.zero_le _,rfl,by have:=startI_world cs cs.length; omega,hm2,Same.refl _ _⟩
   have hfr : Keep W wr:=Same.trans HFR0.out hsr (fun i hi=>hi)
   have HRL2:=Lib.hid hrl2
   have HFR:=Lib.hid hfr
   clear hrl2 hfr
   clear hm2 hmr hsr hke hkn' HREL0
   obtain ⟨wq,hwq⟩ : ∃ wq : World,wq = wr:=⟨_,rfl⟩
   subst hwq
   go_wp2_with fail
   go_loopw [55] (fun i wr=>Run2 cs l W.heap.size gm gs (.slice AC n cC) wq i wr) (fun i _=>nl - (intOf i).toNat)
   case atStart=>exact HRL2.out
   case round=>
    clear HRL2
    obtain ⟨j,A,c,css,m,rfl,hjl,hplay,hwl,hmr,hsr⟩:=hrel
    have hzr':=hsr.size
    have hks : Same S w wr:=Same.trans (Same.mono (Keep.trans HKW.out HFR.out) HS.out) (hsr.mono (fun i (hi : S i)=>by have:=HS.out i hi; show i < W.heap.size; omega)) (fun i hi=>hi)
    have hfrr : Keep W wr:=Same.trans HFR.out hsr (fun i hi=>hi)
    have hinv : InvI cs m:=playI_inv _ _ (startI_inv cs) hplay
    by_cases hj : j < nl
    ·obtain ⟨b',off',y,rfl,hbb,hy,hcy⟩:=(HL.out.keep hks).at_ encCh_len hj
     have hd1 : decide (j < nl) = true:=by simpa using hj
     have hd2 : (0 : Int) ≤ j:=by omega
     have hd3 : (j : Int) < nl:=by omega
     have hrg : wr.rangeAt b' (off' + j * 6) [.int .i64 y.proc,.int .i64 y.kind,.int .i64 y.frm,.int .i64 y.idx,.int .i64 y.ord,.int .i64 y.val]:=hcy
     have hnext:=playI_next hplay hy
     have hj1 : j + 1 ≤ l.length:=by have:=HLL.out; omega
     have hcr:=HC.out.keep hks
     have hzW:=HFR.out.size
     clear hcy hy hbb hplay
     have HRG:=Lib.hid hrg
     have HNEXT:=Lib.hid hnext
     have HJ1:=Lib.hid hj1
     have HMR:=Lib.hid hmr
     have HSR:=Lib.hid hsr
     have HCR:=Lib.hid hcr
     have HFRR:=Lib.hid hfrr
     have HINV:=Lib.hid hinv
     clear hrg hnext hj1 hmr hsr hcr hfrr hinv
     clear hks
     go_upto_region 16 with (first
      | (refine wpList_load_mid rfl _ (.tmp 57) rfl b' (off' + j * 6) rfl [.int .i64 y.proc,.int .i64 y.kind,.int .i64 y.frm,.int .i64 y.idx,.int .i64 y.ord,.int .i64 y.val] _ HRG.out Tryz.underlying57 rfl (by kernel_rfl) ?_)
      | (refine wpList_store_all rfl _ (.tmp 10) (.tmp 58) rfl wr.heap.size 57 _ [.int .i64 y.proc,.int .i64 y.kind,.int .i64 y.frm,.int .i64 y.idx,.int .i64 y.ord,.int .i64 y.val] rfl rfl (Blk.new _ _ _) rfl (by kernel_rfl) rfl ?_; intro w7 hb7 hs7))
     have hk7 : Keep wr w7:=Keep.write (Keep.new _ _) hs7 (Nat.le_refl _)
     have hz7 : wr.heap.size < w7.heap.size:=hb7.lt
     have hm7:=HMR.out.keep hk7
     have hml : m.ss.length = cs.length:=HINV.out.len
     have hcl:=HCL.out
     obtain ⟨ev,er,hee⟩ : ∃ ev er,eventI m.ss y = (ev,er):=⟨_,_,rfl⟩
     have hcall : Calls Tryz.prog 41 #[.pointer (some ⟨gm,0,none⟩),.agg #[.int .i64 y.proc,.int .i64 y.kind,.int .i64 y.frm,.int .i64 y.idx,.int .i64 y.ord,.int .i64 y.val]] w7 (EvtPost (eventI m.ss y) w7):=
      ievent_any w7 W.heap.size gm gs (.slice AC n cC) A c css m y hm7 (by omega) (fun p hp=>by have:=HINV.out.lens (p:=p) (by omega); omega)
     rw [hee] at hcall
     have hnx:=HNEXT.out
     rw [hee] at hnx
     clear hml hcl HNEXT
     have HEE:=Lib.hid hee
     clear hee
     obtain ⟨v0,v1,v2,v3,v4,v5,v6⟩:=ev
     have HK7:=Lib.hid hk7
     have HB7:=Lib.hid hb7
     have HM7:=Lib.hid hm7
     have HCALL:=Lib.hid hcall
     have HNX:=Lib.hid hnx
     clear hk7 hb7 hm7 hcall hnx
     clear hs7
     go_wp2_with (refine wpList_load_all rfl _ (.tmp 10) rfl wr.heap.size 57 [.int .i64 y.proc,.int .i64 y.kind,.int .i64 y.frm,.int .i64 y.idx,.int .i64 y.ord,.int .i64 y.val] _ rfl HB7.out Tryz.underlying57 rfl (by kernel_rfl) ?_)
     refine HCALL.out.mono ?_
     rintro e w8 ⟨rfl,hk8⟩
     have hz8:=hk8.size
     have HK8:=Lib.hid hk8
     clear hk8
     simp only [encEv]
     go_upto_region 17 with (refine wpList_store_all rfl _ (.tmp 11) (.tmp 63) rfl w8.heap.size 89 _ [.int .i64 v0,.int .i64 v1,.int .i64 v2,.int .i64 v3,.int .i64 v4,.int .i64 v5,.int .i64 v6] rfl rfl (Blk.new _ _ _) rfl (by kernel_rfl) rfl ?_; intro w9 hb9 hs9)
     have hk9 : Keep w8 w9:=Keep.write (Keep.new _ _) hs9 (Nat.le_refl _)
     have hk89:=Keep.trans HK8.out hk9
     have hb79:=hk89.blk HB7.out hz7
     have hm9:=HM7.out.keep hk89
     have hk79:=Keep.trans HK7.out hk89
     have hkW9:=Keep.trans HFRR.out hk79
     have HB9:=Lib.hid hb9
     have HB79:=Lib.hid hb79
     have HM9:=Lib.hid hm9
     have HK79:=Lib.hid hk79
     have HKW9:=Lib.hid hkW9
     clear hb9 hb79 hm9 hk79 hkW9
     clear hs9 hk9 hk89
     cases q : (er != 0)
     case true=>
      have hne : er ≠ 0:=by simpa using q
      have hfin : IRunPost cs l (.slice AC n cC) w (.returned (.tuple #[.pointer none,.int .i64 er])) w9:=⟨Keep.trans HKW.out HKW9.out,.inr ⟨er,by rw [HRUN.out]; exact HNX.out.2 hne,hne,rfl⟩⟩
      have HFIN:=Lib.hid hfin
      clear hfin
      clear hne
      go_wp2_with fail
      go_ret2
      exact HFIN.out
     have he0 : er = 0:=by simpa using q
     subst he0
     have hok:=eventI_ok (ss:=m.ss) (x:=y) (by rw [HEE.out])
     have hpp:=okI_proc hok.1
     have hcl:=HCL.out
     have hlen:=HINV.out.len
     obtain ⟨p,hp⟩ : ∃ p : Nat,y.proc = p:=⟨y.proc.toNat,by omega⟩
     have hpn : p < n:=by omega
     have x0 : w9.cell? ⟨wr.heap.size,0,none⟩ = some (.int .i64 (p : Int)):=by rw [HB79.out.cell,← hp]; rfl
     have hexe : Calls Tryz.prog 42 #[.pointer (some ⟨gm,0,none⟩),.int .i64 p,.agg #[.int .i64 v0,.int .i64 v1,.int .i64 v2,.int .i64 v3,.int .i64 v4,.int .i64 v5,.int .i64 v6]] w9 (ExecPost W.heap.size gm gs (.slice AC n cC) (execI cs m p ⟨v0,v1,v2,v3,v4,v5,v6⟩) w9):=
      execute_any w9 W.heap.size gm gs S AC A n cC c css cs m p ⟨v0,v1,v2,v3,v4,v5,v6⟩ HM9.out (HCR.out.keep (HK79.out.mono (fun i hi=>by have:=HS.out i hi; omega))) (fun i hi=>by have:=HS.out i hi; omega) HKW9.out.size HINV.out HIC.out hn hpn (by omega)
     have hwl9:=execI_world (cs:=cs) (m:=m) p ⟨v0,v1,v2,v3,v4,v5,v6⟩
     have hpl : playI cs (startI cs cs.length) (l.take (j + 1)) = .ok (execI cs m p ⟨v0,v1,v2,v3,v4,v5,v6⟩):=by have:=HNX.out.1 rfl; rw [hp] at this; exact this
     clear hok hpp hcl hlen hp
     have HEXE:=Lib.hid hexe
     have HWL9:=Lib.hid hwl9
     have HPL:=Lib.hid hpl
     clear hexe hwl9 hpl
     go_wp2_with (refine wpList_load_all rfl _ (.tmp 11) rfl w8.heap.size 89 [.int .i64 v0,.int .i64 v1,.int .i64 v2,.int .i64 v3,.int .i64 v4,.int .i64 v5,.int .i64 v6] _ rfl HB9.out Tryz.underlying89 rfl (by kernel_rfl) ?_)
     refine HEXE.out.mono ?_
     rintro e w10 ⟨rfl,⟨A10,c10,css10,h10⟩,hs10⟩
     have hfin : Run2 cs l W.heap.size gm gs (.slice AC n cC) wq (.int .i64 ((j : Int) + 1)) w10:=⟨j + 1,A10,c10,css10,_,by simp,HJ1.out,HPL.out,by have:=HWL9.out; omega,h10,Same.trans HSR.out (Same.trans (HK79.out.mono (fun i (hi : i < W.heap.size)=>by omega)) hs10 (fun i hi=>hi)) (fun i hi=>hi)⟩
     have HFIN:=Lib.hid hfin
     clear hfin
     clear h10 hs10
     go_wp2_with fail
     go_roundw
     case rel=>exact HFIN.out
     case measure=>simp [intOf]; omega
    ·have hd1 : decide (j < nl) = false:=by simpa using hj
     have hall : l.take j = l:=List.take_of_length_le (by have:=HLL.out; omega)
     rw [hall] at hplay
     have hfin : IRunPost cs l (.slice AC n cC) w (.returned (.tuple #[.pointer (some ⟨gm,0,none⟩),.int .i64 0])) wr:=⟨Keep.trans HKW.out hfrr,.inl ⟨m,gm,W.heap.size,gs,A,c,css,by rw [HRUN.out]; exact hplay,rfl,by omega,hmr⟩⟩
     have HFIN:=Lib.hid hfin
     clear hfin
     clear hall hplay hmr hsr hks hfrr hinv
     go_wp2_with fail
     go_ret2
     exact HFIN.out
def PlayPost (cs : List Cd) (l : List Chc) (w : World) (e : Ending) (w' : World) : Prop:=
 Keep w w' ∧ ((∃ (m : Mi) (A : Option Addr) (c : Nat),runI cs l = .ok m ∧ e = .returned (.tuple #[.slice A m.ss.length c,.int .i64 0]) ∧ SlR w' (Bw w') 4 (StR w' (Bw w')) A m.ss.length c m.ss) ∨
  (∃ k : Int,runI cs l = .error k ∧ k ≠ 0 ∧ e = .returned (.tuple #[.slice none 0 0,.int .i64 k])))
def WorldPost (cs : List Cd) (l : List Chc) (w : World) (e : Ending) (w' : World) : Prop:=
 Keep w w' ∧ ((∃ (m : Mi) (A : Option Addr) (c : Nat),runI cs l = .ok m ∧ e = .returned (.tuple #[.slice A m.world.length c,.int .i64 0]) ∧ Sl encSh 4 w' (Bw w') A m.world.length c m.world) ∨
  (∃ k : Int,runI cs l = .error k ∧ k ≠ 0 ∧ e = .returned (.tuple #[.slice none 0 0,.int .i64 k])))
set_option maxHeartbeats 8000000 in
theorem iplay_any (w : World) (S : Nat → Prop) (AC AL : Option Addr) (n cC nl cl : Nat) (x1 x2 : Int) (cs : List Cd) (l : List Chc) (hS : ∀ i,S i → i < w.heap.size) (hC : CdsR w S AC n cC cs) (hic : ∀ c ∈ cs,c.init.length ≤ 1000000) (hl : Sl encCh 6 w S AL nl cl l) (hn : n ≤ 1000) (hnl : nl ≤ 1000) :
  Calls Tryz.prog 12 #[.agg #[.slice AC n cC,.int .i64 x1,.int .i64 x2],.slice AL nl cl] w (PlayPost cs l w):=by
 generalize hW : w.alloc (.cells #[.slice AC n cC,.int .i64 x1,.int .i64 x2] 27) = W
 have hkW : Keep w W:=hW ▸ Keep.new w _
 have hbc : Blk W w.heap.size 27 #[.slice AC n cC,.int .i64 x1,.int .i64 x2]:=hW ▸ Blk.new w _ _
 have hz:=hbc.lt
 have hcall:=idrun_any W S AC AL n cC nl cl x1 x2 cs l (fun i hi=>by have:=hS i hi; omega) (hC.keep (Same.mono hkW hS)) hic (hl.keep (Same.mono hkW hS)) hn hnl
 have HKW:=Lib.hid hkW
 have HBC:=Lib.hid hbc
 have HCALL:=Lib.hid hcall
 clear hkW hbc hcall
 go_enter Tryz.func12,Tryz.ntmps12
 go_upto_region 1 with fail
 clear hW
 go_wp2_with (refine wpList_load_all rfl _ (.tmp 2) rfl w.heap.size 27 [.slice AC n cC,.int .i64 x1,.int .i64 x2] _ rfl HBC.out Tryz.underlying27 rfl (by kernel_rfl) ?_)
 refine HCALL.out.mono ?_
 rintro e w1 ⟨hk1,⟨m,gm,base,gs,A,c,css,hrun,rfl,hbase,hm⟩ | ⟨k,hrun,hk0,rfl⟩⟩
 ·have hm4:=hm.2.2.2.1
  have k1 : w1.cell? ⟨gm,1,none⟩ = some (.slice (some ⟨gs,0,none⟩) m.ss.length m.ss.length):=by rw [hm4.cell]; rfl
  have hms:=hm.2.2.2.2.2.2.1
  have hst:=hm.2.2.2.2.2.2.2
  have hlen:=(runI_inv hrun).len
  have h5:=(runI_ok hrun).2.1
  have hrd : Reads w1 (Bw w1) 4 (some ⟨gs,0,none⟩) m.ss.length css.flatten:=⟨hst.flen,fun _=>⟨gs,0,rfl,hms.lt,fun j u hu=>by rw [hms.cell]; simpa using hu⟩⟩
  have hsl : SlR w1 (Bw w1) 4 (StR w1 (Bw w1)) (some ⟨gs,0,none⟩) m.ss.length m.ss.length m.ss:=hst.sl (S:=Bw w1) (T:=Bw w1) (Nat.le_refl _) (by simp [maxLen]; omega) hrd (fun i hi=>hi) (fun i hi=>hi.1)
  have hfin : PlayPost cs l w (.returned (.tuple #[.slice (some ⟨gs,0,none⟩) m.ss.length m.ss.length,.int .i64 0])) w1:=⟨Keep.trans HKW.out hk1,.inl ⟨m,_,_,hrun,rfl,hsl⟩⟩
  have HFIN:=Lib.hid hfin
  clear hfin
  clear hm4 hms hst hlen h5 hrd hsl hm hk1 hrun
  go_wp2_with fail
  go_ret2
  exact HFIN.out
 ·have t0 : (k != 0) = true:=by simpa using hk0
  have hfin : PlayPost cs l w (.returned (.tuple #[.slice none 0 0,.int .i64 k])) w1:=⟨Keep.trans HKW.out hk1,.inr ⟨k,hrun,hk0,rfl⟩⟩
  have HFIN:=Lib.hid hfin
  clear hfin
  clear hk1 hrun hk0
  go_wp2_with fail
  go_ret2
  exact HFIN.out
set_option maxHeartbeats 8000000 in
theorem iworld_any (w : World) (S : Nat → Prop) (AC AL : Option Addr) (n cC nl cl : Nat) (x1 x2 : Int) (cs : List Cd) (l : List Chc) (hS : ∀ i,S i → i < w.heap.size) (hC : CdsR w S AC n cC cs) (hic : ∀ c ∈ cs,c.init.length ≤ 1000000) (hl : Sl encCh 6 w S AL nl cl l) (hn : n ≤ 1000) (hnl : nl ≤ 1000) :
  Calls Tryz.prog 14 #[.agg #[.slice AC n cC,.int .i64 x1,.int .i64 x2],.slice AL nl cl] w (WorldPost cs l w):=by
 generalize hW : w.alloc (.cells #[.slice AC n cC,.int .i64 x1,.int .i64 x2] 27) = W
 have hkW : Keep w W:=hW ▸ Keep.new w _
 have hbc : Blk W w.heap.size 27 #[.slice AC n cC,.int .i64 x1,.int .i64 x2]:=hW ▸ Blk.new w _ _
 have hz:=hbc.lt
 have hcall:=idrun_any W S AC AL n cC nl cl x1 x2 cs l (fun i hi=>by have:=hS i hi; omega) (hC.keep (Same.mono hkW hS)) hic (hl.keep (Same.mono hkW hS)) hn hnl
 have HKW:=Lib.hid hkW
 have HBC:=Lib.hid hbc
 have HCALL:=Lib.hid hcall
 clear hkW hbc hcall
 go_enter Tryz.func14,Tryz.ntmps14
 go_upto_region 1 with fail
 clear hW
 go_wp2_with (refine wpList_load_all rfl _ (.tmp 2) rfl w.heap.size 27 [.slice AC n cC,.int .i64 x1,.int .i64 x2] _ rfl HBC.out Tryz.underlying27 rfl (by kernel_rfl) ?_)
 refine HCALL.out.mono ?_
 rintro e w1 ⟨hk1,⟨m,gm,base,gs,A,c,css,hrun,rfl,hbase,hm⟩ | ⟨k,hrun,hk0,rfl⟩⟩
 ·have hm4:=hm.2.2.2.1
  have k1 : w1.cell? ⟨gm,2,none⟩ = some (.slice A m.world.length c):=by rw [hm4.cell]; rfl
  obtain ⟨A',c',he,hsl⟩:=Sl.of_own hm.2.2.2.2.1
  simp only [Value.slice.injEq,true_and] at he
  obtain ⟨rfl,rfl⟩:=he
  have hfin : WorldPost cs l w (.returned (.tuple #[.slice A m.world.length c,.int .i64 0])) w1:=⟨Keep.trans HKW.out hk1,.inl ⟨m,_,_,hrun,rfl,hsl.more (fun i hi=>hi.2)⟩⟩
  have HFIN:=Lib.hid hfin
  clear hfin
  clear hm4 hsl hm hk1 hrun
  go_wp2_with fail
  go_ret2
  exact HFIN.out
 ·have t0 : (k != 0) = true:=by simpa using hk0
  have hfin : WorldPost cs l w (.returned (.tuple #[.slice none 0 0,.int .i64 k])) w1:=⟨Keep.trans HKW.out hk1,.inr ⟨k,hrun,hk0,rfl⟩⟩
  have HFIN:=Lib.hid hfin
  clear hfin
  clear hk1 hrun hk0
  go_wp2_with fail
  go_ret2
  exact HFIN.out
end Go.Proofs.YtipegaojiokppaaGreatDoor
