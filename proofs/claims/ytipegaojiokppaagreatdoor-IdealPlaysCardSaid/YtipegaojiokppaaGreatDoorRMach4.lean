import Derived.Test.YtipegaojiokppaaGreatDoorRMach3
set_option linter.unusedVariables false
set_option linter.unusedSimpArgs false
set_option maxRecDepth 100000
namespace Go.Proofs.YtipegaojiokppaaGreatDoor
open Go.RowKit Go.Proofs
theorem RMach.fresh {w w1 : World} {F : Nat → Prop} {g : Nat} {v : EnvS} {m : Ms} (h : RMach w F g v m) (hk : Keep w w1) (hz : w.heap.size < w1.heap.size) : RMach w1 (fun i=>F i ∨ i = w.heap.size) g v m:=by
 obtain ⟨C,E,hb,hc,hE,h1,h2,h3,h4,h5,h6,h7⟩:=h
 have hbl:=hb.lt
 refine ⟨C,E,hk.blk hb hb.lt,ownsRow_same hc hk (fun i hi=>hi.2),ownsRow_same hE hk (fun i hi=>hi.2),fun h=>h.elim h1 (fun e=>by omega),h2,h3,h4,fun b hb h=>h.elim (h5 b hb) (fun e=>?_),fun b hb h=>h.elim (h6 b hb) (fun e=>?_),fun i hi=>hi.elim (fun h=>Nat.lt_of_lt_of_le (h7 i h) hk.size) (fun e=>by omega)⟩
 ·have:=(hc.lt b hb).2; omega
 ·have:=(hE.lt b hb).2; omega
theorem RMach.less {w : World} {F F' : Nat → Prop} {g : Nat} {v : EnvS} {m : Ms} (h : RMach w F g v m) (hF : ∀ i,F' i → F i) : RMach w F' g v m:=by
 obtain ⟨C,E,hb,hc,hE,h1,h2,h3,h4,h5,h6,h7⟩:=h
 exact ⟨C,E,hb,hc,hE,fun h=>h1 (hF _ h),h2,h3,h4,fun b hb h=>h5 b hb (hF _ h),fun b hb h=>h6 b hb (hF _ h),fun i hi=>h7 i (hF _ hi)⟩
theorem RMach.lt {w : World} {F : Nat → Prop} {g : Nat} {v : EnvS} {m : Ms} (h : RMach w F g v m) : ∀ i,F i → i < w.heap.size:=by
 obtain ⟨C,E,hb,hc,hE,h1,h2,h3,h4,h5,h6,h7⟩:=h
 exact h7
def RExPost (F : Nat → Prop) (g : Nat) (v : EnvS) (t : Task) (m : Ms) (w : World) (e : Ending) (w' : World) : Prop:=
 (∃ m',Exec v t m (.done m') ∧ e = .returned (.bool true) ∧ RMach w' F g v m' ∧ Same F w w') ∨ (∃ m',Exec v t m (.dead m') ∧ e = .returned (.bool false) ∧ RMach w' F g v m' ∧ Same F w w')
def RListSaid (n : Nat) : Prop:=∀ (w : World) (F : Nat → Prop) (g : Nat) (v : EnvS) (m : Ms) (S : Nat → Prop) (A : Option Addr) (len c : Nat) (l : List Stm),(∀ i,S i → F i) → SlR w S 18 (StmR w S n) A len c l → RMach w F g v m → m.fuel ≤ 400 → m.effs.length ≤ 8 →
 Calls Tryz.prog 81 #[.pointer (some ⟨g,0,none⟩),.slice A len c] w (RExPost F g v (.list l) m w)
def RListRel (F : Nat → Prop) (g : Nat) (v : EnvS) (m : Ms) (l : List Stm) (w : World) (i : Value) (wr : World) : Prop:=
 ∃ (k : Nat) (m' : Ms),i = .int .i64 k ∧ k ≤ l.length ∧ Exec v (.list (l.take k)) m (.done m') ∧ RMach wr F g v m' ∧ Same F w wr
def RLoopRel (F : Nat → Prop) (g : Nat) (v : EnvS) (s : Stm) (m : Ms) (w : World) (wr : World) : Prop:=
 ∃ m',(∀ r,Exec v (.stm s) m' r → Exec v (.stm s) m r) ∧ RMach wr F g v m' ∧ Same F w wr ∧ Fit m m'
def rfuelAt (g : Nat) (w : World) : Nat:=match w.cell? ⟨g,6,none⟩ with | some (.int _ f)=>(400 - f).toNat | _=>0
theorem rfuelAt_of {w : World} {F : Nat → Prop} {g : Nat} {v : EnvS} {m : Ms} (h : RMach w F g v m) (hf : m.fuel ≤ 400) : rfuelAt g w = m.fuel:=by
 obtain ⟨C,E,hb,_⟩:=h
 have : w.cell? ⟨g,6,none⟩ = some (.int .i64 (400 - (m.fuel : Int))):=by rw [hb.cell]; rfl
 unfold rfuelAt
 rw [this]
 simp
 omega
theorem while_again {v : EnvS} {s : Stm} {m m3 : Ms} {r : Res} (hf : 0 < m.fuel) (h4 : s.kind = 4) (hv : valS m.pay.cells v 5 s.value ≠ 0) (hb : Exec v (.list s.body) m.pay (.done m3)) (h : Exec v (.stm s) m3 r) : Exec v (.stm s) m r:=by
 refine .whileE hf h4 ?_
 cases h with
 | empty h0=>exact .out hv hb h0
 | simple h _ g4=>exact absurd h4 g4
 | ifE _ g3 _=>omega
 | whileE h0 _ h1=>exact .again hv hb h0 h1
set_option maxHeartbeats 16000000 in
theorem rlist_any (n : Nat) (ih : ∀ k,n = k + 1 → RListSaid k) : RListSaid n:=by
 intro w F g v m S A len c l hS hsl hm hf h8
 have hml:=hsl.1
 have hmc:=hsl.2.1
 have hcm : c ≤ 9223372036854775807:=hsl.2.2.1
 have hl9 : len ≤ 9223372036854775807:=by omega
 have HS:=Lib.hid hS
 have HSL:=Lib.hid hsl
 have IH:=Lib.hid ih
 have HM:=Lib.hid hm
 have HML:=Lib.hid hml
 have HF:=Lib.hid hf
 have H8:=Lib.hid h8
 clear hS hsl ih hm hml hf h8
 clear hmc hcm
 go_enter Tryz.func81,Tryz.ntmps81
 go_wp2_with fail
 go_loopw [5] (fun i wr=>RListRel F g v m l w i wr) (fun i _=>len - (intOf i).toNat)
 case atStart=>exact ⟨0,m,rfl,by omega,by simpa using Exec.nil m,HM.out,Same.refl _ _⟩
 case round=>
  obtain ⟨k,m',rfl,hk,hex,hmr,hsr⟩:=hrel
  by_cases hkm : k < len
  case neg=>
   have hd1 : decide (k < len) = false:=by simpa using hkm
   have hkl : l.take k = l:=List.take_of_length_le (by have:=HML.out; omega)
   rw [hkl] at hex
   have HEX:=Lib.hid hex
   have HMR:=Lib.hid hmr
   have HSR:=Lib.hid hsr
   clear hex hmr hsr
   go_wp2_with fail
   go_ret
   exact .inl ⟨m',HEX.out,rfl,HMR.out,HSR.out⟩
  obtain ⟨wo,hwo⟩ : ∃ wo : World,wo = wr:=⟨_,rfl⟩
  subst hwo
  obtain ⟨b',off',cs',s,rfl,hSb,ha,hR,hll,hcell⟩:=HSL.out.at_ hkm
  obtain ⟨n',rfl⟩ : ∃ n',n = n' + 1:=by
   cases n with
   | zero=>exact hR.elim
   | succ n'=>exact ⟨n',rfl⟩
  have hsS : Same S w wo:=hsr.mono HS.out
  have hRr:=StmR.keep hsS _ _ _ hR
  have hrg : wo.rangeAt b' (off' + k * 18) cs':=fun j u hu=>(hsS.cell (p:=⟨b',off' + k * 18 + j,none⟩) hSb).trans (hcell j u hu)
  obtain ⟨kind,name,slot,size,place,value,body,els,o1,x1,n1,l1,z1,B1,p1,q1,o2,x2,n2,l2,z2,B2,p2,q2,A6,A7,m6,c6,m7,c7,hse,hcs,hpl,hva,hbo,hel⟩:=StmR.open_ hRr
  have hfit:=hex.fit
  have hfm : m'.fuel ≤ 400:=Nat.le_trans hfit.2.2 HF.out
  have h8m : m'.effs.length ≤ 8:=hfit.2.1 H8.out
  have hd1 : decide (k < len) = true:=by simpa using hkm
  have hd2 : (0 : Int) ≤ k:=by omega
  have hd3 : (k : Int) < len:=by omega
  have hk1 : k + 1 ≤ l.length:=by have:=HML.out; omega
  have ihn:=IH.out n' rfl
  subst hcs
  have fin1 : ∀ m3,Exec v (.stm s) m' (.done m3) → Exec v (.list (l.take (k + 1))) m (.done m3):=fun m3 hx=>by rw [(take_snoc ha).1]; exact (Exec.snoc hex hx).1 m3 rfl
  have fin2 : ∀ m3,Exec v (.stm s) m' (.dead m3) → Exec v (.list l) m (.dead m3):=fun m3 hx=>by rw [(take_snoc ha).2]; exact (Exec.snoc hex hx).2 m3 _ rfl
  clear hcell hR hll hSb hfit hex ha
  have HRG:=Lib.hid hrg
  have HMR:=Lib.hid hmr
  have HSR:=Lib.hid hsr
  have HSS:=Lib.hid hsS
  have HRR:=Lib.hid hRr
  have HPL:=Lib.hid hpl
  have HVA:=Lib.hid hva
  have HBO:=Lib.hid hbo
  have HEL:=Lib.hid hel
  have IHN:=Lib.hid ihn
  have FIN1:=Lib.hid fin1
  have FIN2:=Lib.hid fin2
  have HK1:=Lib.hid hk1
  have H8M:=Lib.hid h8m
  clear hrg hmr hsr hsS hRr hpl hva hbo hel ihn fin1 fin2 hk1 h8m
  go_upto_region 5 with (first
   | (refine wpList_load_mid rfl _ (.tmp 16) rfl b' (off' + k * 18) rfl [.int .i64 kind,.string name,.int .i64 slot,.int .i64 size,.int .i64 o1,.int .i64 x1,.string n1,.int .i64 l1,.int .i64 z1,.slice B1 p1 q1,.int .i64 o2,.int .i64 x2,.string n2,.int .i64 l2,.int .i64 z2,.slice B2 p2 q2,.slice A6 m6 c6,.slice A7 m7 c7] _ HRG.out Tryz.underlying70 rfl (by kernel_rfl) ?_)
   | (refine wpList_store_all rfl _ (.tmp 6) (.tmp 17) rfl wo.heap.size 70 _ [.int .i64 kind,.string name,.int .i64 slot,.int .i64 size,.int .i64 o1,.int .i64 x1,.string n1,.int .i64 l1,.int .i64 z1,.slice B1 p1 q1,.int .i64 o2,.int .i64 x2,.string n2,.int .i64 l2,.int .i64 z2,.slice B2 p2 q2,.slice A6 m6 c6,.slice A7 m7 c7] rfl rfl (Blk.new _ _ _) rfl (by kernel_rfl) rfl ?_; intro w1 hb1 hs1))
  have hk0 : Keep wo w1:=Keep.write (Keep.new _ _) hs1 (Nat.le_refl _)
  have hz1 : wo.heap.size < w1.heap.size:=hb1.lt
  obtain ⟨G,hG⟩ : ∃ G : Nat → Prop,G = fun i=>F i ∨ i = wo.heap.size:=⟨_,rfl⟩
  have hm1 : RMach w1 G g v m':=by rw [hG]; exact HMR.out.fresh hk0 hz1
  have hFG : ∀ i,F i → G i:=fun i hi=>by rw [hG]; exact .inl hi
  have hGs : G wo.heap.size:=by rw [hG]; exact .inr rfl
  have hs1' : Same F w w1:=Same.trans HSR.out hk0 HMR.out.lt
  have sF : ∀ wx,Same G w1 wx → Same F w wx:=fun wx hx=>Same.trans hs1' hx hFG
  have sS : ∀ wx,Same G w1 wx → Same S wo wx:=fun wx hx=>Same.trans (Same.mono hk0 (fun i hi=>HMR.out.lt i (HS.out i hi))) hx (fun i hi=>hFG i (HS.out i hi))
  have c0 : ∀ wx,Same G w1 wx → wx.cell? ⟨wo.heap.size,0,none⟩ = some (.int .i64 kind):=fun wx hx=>(hx.cell (p:=⟨wo.heap.size,0,none⟩) hGs).trans (by rw [hb1.cell]; rfl)
  have c16 : ∀ wx,Same G w1 wx → wx.cell? ⟨wo.heap.size,16,none⟩ = some (.slice A6 m6 c6):=fun wx hx=>(hx.cell (p:=⟨wo.heap.size,16,none⟩) hGs).trans (by rw [hb1.cell]; rfl)
  have c17 : ∀ wx,Same G w1 wx → wx.cell? ⟨wo.heap.size,17,none⟩ = some (.slice A7 m7 c7):=fun wx hx=>(hx.cell (p:=⟨wo.heap.size,17,none⟩) hGs).trans (by rw [hb1.cell]; rfl)
  have bS : ∀ wx,Same G w1 wx → Blk wx wo.heap.size 70 #[.int .i64 kind,.string name,.int .i64 slot,.int .i64 size,.int .i64 o1,.int .i64 x1,.string n1,.int .i64 l1,.int .i64 z1,.slice B1 p1 q1,.int .i64 o2,.int .i64 x2,.string n2,.int .i64 l2,.int .i64 z2,.slice B2 p2 q2,.slice A6 m6 c6,.slice A7 m7 c7]:=fun wx hx=>hx.blk hb1 hGs
  have hSG : ∀ i,S i → G i:=fun i hi=>hFG i (HS.out i hi)
  have keyV : ∀ (wx : World) (m2 : Ms),Same G w1 wx → RMach wx G g v m2 → Calls Tryz.prog 91 #[.pointer (some ⟨g,0,none⟩),.agg #[.int .i64 o2,.int .i64 x2,.string n2,.int .i64 l2,.int .i64 z2,.slice B2 p2 q2]] wx (ApplyPost (valS m2.cells v 5 value) wx):=fun wx m2 hx hm2=>rmvalue_any wx G g v m2 S _ value (fun i hi=>hm2.lt i (hSG i hi)) hm2 (ExR.keep (sS wx hx) _ _ _ HVA.out)
  have keyB : ∀ (wx : World) (m2 : Ms),Same G w1 wx → RMach wx G g v m2 → m2.fuel ≤ 400 → m2.effs.length ≤ 8 → Calls Tryz.prog 81 #[.pointer (some ⟨g,0,none⟩),.slice A6 m6 c6] wx (RExPost G g v (.list body) m2 wx):=fun wx m2 hx hm2 hf2 h82=>IHN.out wx G g v m2 S A6 m6 c6 body hSG (HBO.out.keep (sS wx hx) (StmR.keep (sS wx hx) _)) hm2 hf2 h82
  have keyE : ∀ (wx : World) (m2 : Ms),Same G w1 wx → RMach wx G g v m2 → m2.fuel ≤ 400 → m2.effs.length ≤ 8 → Calls Tryz.prog 81 #[.pointer (some ⟨g,0,none⟩),.slice A7 m7 c7] wx (RExPost G g v (.list els) m2 wx):=fun wx m2 hx hm2 hf2 h82=>IHN.out wx G g v m2 S A7 m7 c7 els hSG (HEL.out.keep (sS wx hx) (StmR.keep (sS wx hx) _)) hm2 hf2 h82
  have keyS : ∀ (wx : World) (m2 : Ms),Same G w1 wx → RMach wx G g v m2 → m2.effs.length ≤ 8 → s.kind ≠ 3 → s.kind ≠ 4 → Calls Tryz.prog 92 #[.pointer (some ⟨g,0,none⟩),.agg #[.int .i64 kind,.string name,.int .i64 slot,.int .i64 size,.int .i64 o1,.int .i64 x1,.string n1,.int .i64 l1,.int .i64 z1,.slice B1 p1 q1,.int .i64 o2,.int .i64 x2,.string n2,.int .i64 l2,.int .i64 z2,.slice B2 p2 q2,.slice A6 m6 c6,.slice A7 m7 c7]] wx (RUnitPost G g v (simpleS v s m2) wx):=fun wx m2 hx hm2 h82 h3 h4=>simple_any n' wx G g v m2 S _ s (fun i hi=>hm2.lt i (hSG i hi)) (StmR.keep (sS wx hx) _ _ _ HRR.out) hm2 h82 h3 h4
  have hval : s.value = value:=by rw [hse]; rfl
  have hbod : s.body = body:=by rw [hse]; rfl
  have hels : s.els = els:=by rw [hse]; rfl
  have hkin : s.kind = kind:=by rw [hse]; rfl
  have k0:=c0 w1 (Same.refl _ _)
  clear hse hG
  have HM1:=Lib.hid hm1
  have HFG:=Lib.hid hFG
  have SF:=Lib.hid sF
  have C0:=Lib.hid c0
  have C16:=Lib.hid c16
  have C17:=Lib.hid c17
  have BS:=Lib.hid bS
  have KEYV:=Lib.hid keyV
  have KEYB:=Lib.hid keyB
  have KEYE:=Lib.hid keyE
  have KEYS:=Lib.hid keyS
  have HVAL:=Lib.hid hval
  have HBOD:=Lib.hid hbod
  have HELS:=Lib.hid hels
  have HKIN:=Lib.hid hkin
  clear hm1 hFG sF c0 c16 c17 bS keyV keyB keyE keyS hval hbod hels hkin
  clear hs1 hb1 hk0 sS HRR HVA HBO HEL HPL IHN hs1' hSG
  by_cases h4 : kind = 4
  ·have h4b : (kind == 4) = true:=by simpa using h4
   as_aux_lemma=>
   go_wp2_with fail
   go_loopw [] (fun wx=>RLoopRel G g v s m' w1 wx) (fun wx=>rfuelAt g wx)
   case atStart=>exact ⟨m',fun r h=>h,HM1.out,Same.refl _ _,Fit.refl _⟩
   case round=>
    obtain ⟨m2,hx2,hm2,hs2,hft2⟩:=hrel
    have hf2 : m2.fuel ≤ 400:=Nat.le_trans hft2.2.2 hfm
    have h82:=hft2.2.1 H8M.out
    have HX2:=Lib.hid hx2
    have HM2:=Lib.hid hm2
    have HS2:=Lib.hid hs2
    have HFT2:=Lib.hid hft2
    have H82:=Lib.hid h82
    clear hx2 hm2 hs2 hft2 h82
    go_wp2_with fail
    refine (pay_any wr G g v m2 HM2.out hf2).mono ?_
    rintro e w3 (⟨hf0,rfl,hm3,hs3⟩ | ⟨hf0,rfl,hm3,hs3⟩)
    case inr=>
     have hfin:=FIN2.out m2 (HX2.out _ (.empty hf0))
     have hsf:=SF.out w3 (Same.trans HS2.out hs3 (fun _ h=>h))
     have hmf:=hm3.less HFG.out
     have HFIN:=Lib.hid hfin
     have HSF:=Lib.hid hsf
     have HMF:=Lib.hid hmf
     clear hfin hsf hmf
     clear hm3 hs3
     go_wp2_with fail
     go_ret
     exact .inr ⟨m2,HFIN.out,rfl,HMF.out,HSF.out⟩
    have hs3':=Same.trans HS2.out hs3 (fun _ h=>h)
    have HM3:=Lib.hid hm3
    have HS3':=Lib.hid hs3'
    clear hm3 hs3'
    clear hs3
    go_wp2_with (refine wpList_load_blk rfl _ (.tmp 25) rfl wo.heap.size 10 70 _ [.int .i64 o2,.int .i64 x2,.string n2,.int .i64 l2,.int .i64 z2,.slice B2 p2 q2] _ rfl (BS.out w3 HS3'.out) (fun j u hu=>by match j,hu with | 0,hu | 1,hu | 2,hu | 3,hu | 4,hu | 5,hu=>exact hu) Tryz.underlying68 rfl (by kernel_rfl) ?_)
    refine (KEYV.out w3 m2.pay HS3'.out HM3.out).mono ?_
    rintro e w4 ⟨rfl,hk4⟩
    have hs4:=Same.trans HS3'.out (Same.mono hk4 HM3.out.lt) (fun _ h=>h)
    have hm4:=HM3.out.keep hk4
    generalize hvv : valS m2.pay.cells v 5 value = vv
    have HS4:=Lib.hid hs4
    have HM4:=Lib.hid hm4
    have HVV:=Lib.hid hvv
    clear hs4 hm4 hvv
    clear hk4
    cases hz : (vv == 0) with
    | true=>
     have hv0 : vv = 0:=by simpa using hz
     have hst : Exec v (.stm s) m' (.done m2.pay):=HX2.out _ (.whileE hf0 (HKIN.out.trans h4) (.stop (by rw [HVAL.out,HVV.out]; exact hv0)))
     have hfin:=FIN1.out _ hst
     have hsf:=SF.out w4 HS4.out
     have hmf:=HM4.out.less HFG.out
     have HFIN:=Lib.hid hfin
     have HSF:=Lib.hid hsf
     have HMF:=Lib.hid hmf
     clear hfin hsf hmf
     clear hst hv0
     go_wp2_with fail
     go_roundw
     case rel=>exact ⟨k + 1,m2.pay,by go_num,HK1.out,HFIN.out,HMF.out,HSF.out⟩
     case measure=>simp [intOf]; omega
    | false=>
     have hv0 : valS m2.pay.cells v 5 s.value ≠ 0:=by rw [HVAL.out,HVV.out]; simpa using hz
     have e16:=C16.out w4 HS4.out
     have hfp : m2.pay.fuel ≤ 400:=Nat.le_trans (Fit.pay m2).2.2 hf2
     have HV0:=Lib.hid hv0
     have HFP:=Lib.hid hfp
     clear hv0 hfp
     go_wp2_with fail
     refine (KEYB.out w4 m2.pay HS4.out HM4.out HFP.out H82.out).mono ?_
     rintro e w5 (⟨m5,hx5,rfl,hm5,hs5⟩ | ⟨m5,hx5,rfl,hm5,hs5⟩)
     ·have hs5':=Same.trans HS4.out hs5 (fun _ h=>h)
      rw [← HBOD.out] at hx5
      have hft5:=hx5.fit
      have hag : ∀ r,Exec v (.stm s) m5 r → Exec v (.stm s) m' r:=fun r h=>HX2.out r (while_again hf0 (HKIN.out.trans h4) HV0.out hx5 h)
      have HS5':=Lib.hid hs5'
      have HM5:=Lib.hid hm5
      have HAG:=Lib.hid hag
      have HFT5:=Lib.hid hft5
      clear hs5' hm5 hag hft5
      clear hs5 hx5
      go_wp2_with fail
      go_roundw
      case rel=>exact ⟨m5,HAG.out,HM5.out,HS5'.out,(HFT2.out.trans (Fit.pay m2)).trans HFT5.out⟩
      case measure=>
       have h5 : m5.fuel ≤ m2.pay.fuel:=HFT5.out.2.2
       rw [rfuelAt_of HM5.out (Nat.le_trans h5 HFP.out),rfuelAt_of HM2.out hf2]
       simp only [Ms.pay] at h5
       omega
     ·have hs5':=Same.trans HS4.out hs5 (fun _ h=>h)
      rw [← HBOD.out] at hx5
      have hst : Exec v (.stm s) m' (.dead m5):=HX2.out _ (.whileE hf0 (HKIN.out.trans h4) (.bodyDead HV0.out hx5))
      have hfin:=FIN2.out _ hst
      have hsf:=SF.out w5 hs5'
      have hmf:=hm5.less HFG.out
      have HFIN:=Lib.hid hfin
      have HSF:=Lib.hid hsf
      have HMF:=Lib.hid hmf
      clear hfin hsf hmf
      clear hs5 hx5 hs5' hst hm5
      go_wp2_with fail
      go_ret
      exact .inr ⟨_,HFIN.out,rfl,HMF.out,HSF.out⟩
  ·have h4b : (kind == 4) = false:=by simpa using h4
   as_aux_lemma=>
   go_wp2_with fail
   refine (pay_any w1 G g v m' HM1.out hfm).mono ?_
   rintro e w3 (⟨hf0,rfl,hm3,hs3⟩ | ⟨hf0,rfl,hm3,hs3⟩)
   case inr=>
    have hfin:=FIN2.out m' (.empty hf0)
    have hsf:=SF.out w3 hs3
    have hmf:=hm3.less HFG.out
    have HFIN:=Lib.hid hfin
    have HSF:=Lib.hid hsf
    have HMF:=Lib.hid hmf
    clear hfin hsf hmf
    clear hm3 hs3
    go_wp2_with fail
    go_ret
    exact .inr ⟨_,HFIN.out,rfl,HMF.out,HSF.out⟩
   have k03:=C0.out w3 hs3
   have e17:=C17.out w3 hs3
   have h8p : m'.pay.effs.length ≤ 8:=H8M.out
   have hfp : m'.pay.fuel ≤ 400:=Nat.le_trans (Fit.pay m').2.2 hfm
   have HM3:=Lib.hid hm3
   have HS3:=Lib.hid hs3
   have H8P:=Lib.hid h8p
   have HFP:=Lib.hid hfp
   clear hm3 hs3 h8p hfp
   by_cases h3 : kind = 3
   ·have h3b : (kind != 3) = false:=by simpa using h3
    go_wp2_with (refine wpList_load_blk rfl _ (.tmp 46) rfl wo.heap.size 10 70 _ [.int .i64 o2,.int .i64 x2,.string n2,.int .i64 l2,.int .i64 z2,.slice B2 p2 q2] _ rfl (BS.out w3 HS3.out) (fun j u hu=>by match j,hu with | 0,hu | 1,hu | 2,hu | 3,hu | 4,hu | 5,hu=>exact hu) Tryz.underlying68 rfl (by kernel_rfl) ?_)
    refine (KEYV.out w3 m'.pay HS3.out HM3.out).mono ?_
    rintro e w4 ⟨rfl,hk4⟩
    have hs4:=Same.trans HS3.out (Same.mono hk4 HM3.out.lt) (fun _ h=>h)
    have hm4:=HM3.out.keep hk4
    have e16:=C16.out w4 hs4
    generalize hvv : valS m'.pay.cells v 5 value = vv
    have HS4:=Lib.hid hs4
    have HM4:=Lib.hid hm4
    have HVV:=Lib.hid hvv
    clear hs4 hm4 hvv
    clear hk4
    cases hz : (vv != 0) with
    | true=>
     have hpick : (if valS m'.cells v 5 s.value = 0 then s.els else s.body) = body:=by
      rw [if_neg (by rw [HVAL.out]; intro h; have h2:=HVV.out; simp only [Ms.pay] at h2; rw [h] at h2; rw [← h2] at hz; simp at hz),HBOD.out]
     have HPICK:=Lib.hid hpick
     clear hpick
     go_wp2_with fail
     refine (KEYB.out w4 m'.pay HS4.out HM4.out HFP.out H8P.out).mono ?_
     rintro e w5 (⟨m5,hx5,rfl,hm5,hs5⟩ | ⟨m5,hx5,rfl,hm5,hs5⟩)
     ·rw [← HPICK.out] at hx5
      have hfin:=FIN1.out _ (.ifE hf0 (HKIN.out.trans h3) hx5)
      have hsf:=SF.out w5 (Same.trans HS4.out hs5 (fun _ h=>h))
      have hmf:=hm5.less HFG.out
      have HFIN:=Lib.hid hfin
      have HSF:=Lib.hid hsf
      have HMF:=Lib.hid hmf
      clear hfin hsf hmf
      clear hs5 hx5 hm5
      go_wp2_with fail
      go_roundw
      case rel=>exact ⟨k + 1,m5,by go_num,HK1.out,HFIN.out,HMF.out,HSF.out⟩
      case measure=>simp [intOf]; omega
     ·rw [← HPICK.out] at hx5
      have hfin:=FIN2.out _ (.ifE hf0 (HKIN.out.trans h3) hx5)
      have hsf:=SF.out w5 (Same.trans HS4.out hs5 (fun _ h=>h))
      have hmf:=hm5.less HFG.out
      have HFIN:=Lib.hid hfin
      have HSF:=Lib.hid hsf
      have HMF:=Lib.hid hmf
      clear hfin hsf hmf
      clear hs5 hx5 hm5
      go_wp2_with fail
      go_ret
      exact .inr ⟨_,HFIN.out,rfl,HMF.out,HSF.out⟩
    | false=>
     have hpick : (if valS m'.cells v 5 s.value = 0 then s.els else s.body) = els:=by
      rw [if_pos (by rw [HVAL.out]; have h2:=HVV.out; simp only [Ms.pay] at h2; rw [h2]; simpa using hz),HELS.out]
     have HPICK:=Lib.hid hpick
     clear hpick
     go_wp2_with fail
     refine (KEYE.out w4 m'.pay HS4.out HM4.out HFP.out H8P.out).mono ?_
     rintro e w5 (⟨m5,hx5,rfl,hm5,hs5⟩ | ⟨m5,hx5,rfl,hm5,hs5⟩)
     ·rw [← HPICK.out] at hx5
      have hfin:=FIN1.out _ (.ifE hf0 (HKIN.out.trans h3) hx5)
      have hsf:=SF.out w5 (Same.trans HS4.out hs5 (fun _ h=>h))
      have hmf:=hm5.less HFG.out
      have HFIN:=Lib.hid hfin
      have HSF:=Lib.hid hsf
      have HMF:=Lib.hid hmf
      clear hfin hsf hmf
      clear hs5 hx5 hm5
      go_wp2_with fail
      go_roundw
      case rel=>exact ⟨k + 1,m5,by go_num,HK1.out,HFIN.out,HMF.out,HSF.out⟩
      case measure=>simp [intOf]; omega
     ·rw [← HPICK.out] at hx5
      have hfin:=FIN2.out _ (.ifE hf0 (HKIN.out.trans h3) hx5)
      have hsf:=SF.out w5 (Same.trans HS4.out hs5 (fun _ h=>h))
      have hmf:=hm5.less HFG.out
      have HFIN:=Lib.hid hfin
      have HSF:=Lib.hid hsf
      have HMF:=Lib.hid hmf
      clear hfin hsf hmf
      clear hs5 hx5 hm5
      go_wp2_with fail
      go_ret
      exact .inr ⟨_,HFIN.out,rfl,HMF.out,HSF.out⟩
   ·have h3b : (kind != 3) = true:=by simpa using h3
    go_wp2_with (refine wpList_load_all rfl _ (.tmp 6) rfl wo.heap.size 70 [.int .i64 kind,.string name,.int .i64 slot,.int .i64 size,.int .i64 o1,.int .i64 x1,.string n1,.int .i64 l1,.int .i64 z1,.slice B1 p1 q1,.int .i64 o2,.int .i64 x2,.string n2,.int .i64 l2,.int .i64 z2,.slice B2 p2 q2,.slice A6 m6 c6,.slice A7 m7 c7] _ rfl (BS.out w3 HS3.out) Tryz.underlying70 rfl (by kernel_rfl) ?_)
    refine (KEYS.out w3 m'.pay HS3.out HM3.out H8P.out (by rw [HKIN.out]; exact h3) (by rw [HKIN.out]; exact h4)).mono ?_
    rintro e w4 ⟨rfl,hm4,hs4⟩
    have hfin:=FIN1.out _ (.simple hf0 (by rw [HKIN.out]; exact h3) (by rw [HKIN.out]; exact h4))
    have hsf:=SF.out w4 (Same.trans HS3.out hs4 (fun _ h=>h))
    have hmf:=hm4.less HFG.out
    have HFIN:=Lib.hid hfin
    have HSF:=Lib.hid hsf
    have HMF:=Lib.hid hmf
    clear hfin hsf hmf
    clear hs4 hm4
    go_wp2_with fail
    go_roundw
    case rel=>exact ⟨k + 1,_,by go_num,HK1.out,HFIN.out,HMF.out,HSF.out⟩
    case measure=>simp [intOf]; omega
theorem rlist_all : ∀ n,RListSaid n
 | 0=>rlist_any 0 (fun k e=>by omega)
 | n + 1=>rlist_any (n + 1) (fun k e=>by
  have e2 : k = n:=by omega
  rw [e2]
  exact rlist_all n)
end Go.Proofs.YtipegaojiokppaaGreatDoor
