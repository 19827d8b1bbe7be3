import Derived.Test.YtipegaojiokppaaGreatDoorGI
import Derived.Test.YtipegaojiokppaaGreatDoorGR
import Derived.Test.YtipegaojiokppaaGreatDoorGP
import Derived.Test.YtipegaojiokppaaGreatDoorGJ
import Derived.Lib.MinMax
import Derived.Test.YtipegaojiokppaaGreatDoorGK
set_option linter.unusedVariables false
set_option linter.unusedSimpArgs false
set_option maxRecDepth 100000
namespace Go.Proofs.YtipegaojiokppaaGreatDoor
open Go.RowKit Go.Proofs
def CdV (w : World) (S : Nat → Prop) (cs : List Value) (c : Cd) : Prop:=CdR w S cs c
theorem CdV.good : Good CdV:=⟨fun hk h=>h.keep hk,fun hS h=>h.more hS⟩
def nil5c : List Value:=[.slice none 0 0,.slice none 0 0,.slice none 0 0,.slice none 0 0,.slice none 0 0]
theorem info_Code : (Tryz.prog.info? 63).map (fun i=>(i.zero,i.size,i.bytes)) = some (some (.agg nil5c.toArray),5,120):=by kernel_rfl
theorem built_cd1 (A0 A1 A2 A3 A4 : Option Addr) (n0 c0 n1 c1 n2 c2 n3 c3 n4 c4 : Nat) : builtS Tryz.prog 63 1 [(0,.agg #[.slice A0 n0 c0,.slice A1 n1 c1,.slice A2 n2 c2,.slice A3 n3 c3,.slice A4 n4 c4])] = some #[.slice A0 n0 c0,.slice A1 n1 c1,.slice A2 n2 c2,.slice A3 n3 c3,.slice A4 n4 c4]:=by kernel_rfl
def CfPost (B : Nat → Prop) (gc : Nat) (w : World) (e : Ending) (w' : World) : Prop:=
 ∃ (AC : Option Addr) (n cC : Nat) (v : Int) (cs : List Cd) (r' : Nat),e = .returned (.agg #[.slice AC n cC,.int .i64 1,.int .i64 v]) ∧ CdsR w' (New w' w.heap.size) AC n cC cs ∧ 2 ≤ n ∧ n ≤ 3 ∧ (∀ c ∈ cs,c.init.length ≤ 1000000) ∧ Cod w' B gc r' ∧ Only gc w w'
def CfRel (B : Nat → Prop) (gc g6 base n : Nat) (f : Int) (w : World) (i : Value) (wr : World) : Prop:=
 ∃ (v : Value) (l : List Cd),i = .int .i64 l.length ∧ l.length ≤ n ∧ Blk wr g6 27 #[v,.int .i64 1,.int .i64 f] ∧ Grow CdV 5 63 wr base v l ∧ (∀ c ∈ l,c.init.length ≤ 1000000) ∧ (∃ r',Cod wr B gc r') ∧ Only gc w wr ∧ Blk wr w.heap.size 27 #[.slice none 0 0,.int .i64 0,.int .i64 0] ∧ base ≤ wr.heap.size
set_option maxHeartbeats 16000000 in
theorem config_any (w : World) (B : Nat → Prop) (gc r : Nat) (hcod : Cod w B gc r) (hgl : Glob w) : Calls Tryz.prog 23 #[.pointer (some ⟨gc,0,none⟩),.int .i64 1] w (CfPost B gc w):=by
 obtain ⟨i0,hi0,iz0,is0,ib0⟩:=info_of info_Code
 have hBw:=hcod.2.1
 have hg2:=hgl.cod hcod
 have hgw:=hcod.lt
 generalize hW : w.alloc (.cells #[.slice none 0 0,.int .i64 0,.int .i64 0] 27) = W
 have hkW : Keep w W:=hW ▸ Keep.new w _
 have hbr : Blk W w.heap.size 27 #[.slice none 0 0,.int .i64 0,.int .i64 0]:=hW ▸ Blk.new w _ _
 have hz:=hbr.lt
 have hcW:=hcod.keep hkW
 have HKW:=Lib.hid hkW
 have HBR:=Lib.hid hbr
 have HCW:=Lib.hid hcW
 have HBW:=Lib.hid hBw
 have HGL:=Lib.hid hgl
 have HI0:=Lib.hid hi0
 have IZ0:=Lib.hid iz0
 have IS0:=Lib.hid is0
 have IB0:=Lib.hid ib0
 clear hkW hbr hcW hBw hgl hi0 iz0 is0 ib0
 clear hcod
 go_enter Tryz.func23,Tryz.ntmps23
 go_upto_region 1 with fail
 clear hW
 go_wp2_with fail
 refine (next_any W B gc r 2 HCW.out (by omega) (by omega)).mono ?_
 rintro e w1 ⟨v1,hv10,hv11,rfl,hc1,ho1⟩
 have hz1:=ho1.size
 obtain ⟨a1,ha1⟩ : ∃ a1 : Nat,v1 = a1:=⟨v1.toNat,by omega⟩
 subst ha1
 have hbr1:=ho1.blk HBR.out ⟨hz,by omega⟩
 have how1 : Only gc w w1:=Only.trans (HKW.out.only gc) ho1
 have HC1:=Lib.hid hc1
 have HBR1:=Lib.hid hbr1
 have HOW1:=Lib.hid how1
 clear hc1 hbr1 how1
 clear ho1
 go_wp2_with fail
 refine (next_any w1 B gc _ 3 HC1.out (by omega) (by omega)).mono ?_
 rintro e w2 ⟨v2,hv20,hv21,rfl,hc2,ho2⟩
 have hz2:=ho2.size
 have hbr2:=ho2.blk HBR1.out ⟨by omega,by omega⟩
 have how2 : Only gc w w2:=Only.trans HOW1.out ho2
 have HC2:=Lib.hid hc2
 have HBR2:=Lib.hid hbr2
 have HOW2:=Lib.hid how2
 clear hc2 hbr2 how2
 clear ho2
 go_upto_region 3 with (refine wpList_store_all rfl _ (.tmp 6) (.tmp 14) rfl w2.heap.size 27 _ [.slice none 0 0,.int .i64 1,.int .i64 v2] rfl rfl (Blk.new _ _ _) rfl (by kernel_rfl) rfl ?_; intro w3 hb3 hs3)
 have hk3 : Keep w2 w3:=Keep.write (Keep.new _ _) hs3 (Nat.le_refl _)
 have hz3 : w2.heap.size < w3.heap.size:=hb3.lt
 have hbr3:=hk3.blk HBR2.out (by omega)
 have how3:=Only.keep HOW2.out hk3
 have hc3:=HC2.out.keep hk3
 have hrel0 : CfRel B gc w2.heap.size w3.heap.size (2 + a1) v2 w (.int .i64 0) w3:=⟨.slice none 0 0,[],rfl,Nat.zero_le _,hb3,Grow.nil_,by simp,⟨_,hc3⟩,how3,hbr3,Nat.le_refl _⟩
 have HREL0:=Lib.hid hrel0
 clear hrel0
 clear hs3 hb3 hk3 hbr3 how3 hc3 HC1 HC2 HBR1 HBR2 HOW1 HOW2
 obtain ⟨g6,hg6⟩ : ∃ g6,g6 = w2.heap.size:=⟨_,rfl⟩
 obtain ⟨base,hbase⟩ : ∃ base,base = w3.heap.size:=⟨_,rfl⟩
 rw [← hg6,← hbase] at HREL0
 rw [← hg6]
 have hgb : g6 < base:=by omega
 have hgw6 : w.heap.size < g6:=by omega
 clear hg6 hbase
 go_wp2_with fail
 go_loopw [7] (fun i wr=>CfRel B gc g6 base (2 + a1) v2 w i wr) (fun i _=>2 + a1 - (intOf i).toNat)
 case atStart=>exact HREL0.out
 case round=>
  clear HREL0
  obtain ⟨v,l,rfl,hln,hb6,hgr,hini,⟨r3,hcr⟩,how,hbrr,hbas⟩:=hrel
  have hln0:=hln
  have hzr:=how.size
  obtain ⟨k,hk⟩ : ∃ k,k = l.length:=⟨_,rfl⟩
  rw [← hk] at hln
  rw [← hk]
  by_cases hkn : k < 2 + a1
  ·have t0 : decide ((k : Int) < 2 + (a1 : Int)) = true:=by simp; omega
   have hglr:=HGL.out.only hg2 how
   have key:=chatter_any
   have hV : ∀ b,v.ownBlock = some b → base ≤ b ∧ b < wr.heap.size:=by obtain ⟨css,h1,h2,h3,h4⟩:=hgr; exact h3.lt
   have hl6:=hb6.lt
   have n6 : g6 < wr.heap.size ∧ g6 ≠ gc ∧ v.ownBlock ≠ some g6:=⟨hl6,by omega,fun e=>by have:=hV _ e; omega⟩
   have c6 : ∀ wx,Same (fun i=>i < wr.heap.size ∧ i ≠ gc ∧ v.ownBlock ≠ some i) wr wx → wx.cell? ⟨g6,0,none⟩ = some v:=fun wx hx=>(hx.cell (p:=⟨g6,0,none⟩) n6).trans (by rw [hb6.cell]; rfl)
   have HBAS:=Lib.hid hbas
   have HK:=Lib.hid hk
   have HB6:=Lib.hid hb6
   have HGR:=Lib.hid hgr
   have HINI:=Lib.hid hini
   have HCR:=Lib.hid hcr
   have HOW:=Lib.hid how
   have HBRR:=Lib.hid hbrr
   have HGLR:=Lib.hid hglr
   have HV:=Lib.hid hV
   have N6:=Lib.hid n6
   clear hk hb6 hgr hini hcr how hbrr hglr hV n6
   clear key
   go_wp2_with fail
   refine wp_region_L 7 (fun wx=>Same (fun i=>i < wr.heap.size ∧ i ≠ gc ∧ v.ownBlock ≠ some i) wr wx) (fun _=>True) (by kernel_rfl) (Same.drew (Same.refl _ _)) trivial (fun hA hB=>?_)
   have hcu : Cod wr.drew B gc r3:=HCR.out.keep (Same.drew (Same.refl _ _))
   have hgu : Glob wr.drew:=HGLR.out.keep (Same.drew (Same.refl _ _))
   have hku : Keep wr wr.drew:=Same.drew (Same.refl _ _)
   generalize hu0 : wr.drew = u0 at hA hcu hgu hku ⊢
   clear hu0
   refine wpL_takeA (i:=0) (v:=?_) rfl (by kernel_rfl) (by kernel_rfl) (by kernel_rfl) (by kernel_rfl) (by decide) (fun _ _ _ h=>h) (Or.inl ⟨by rfl,?_⟩) hA hB ?_
   rotate_left
   ·rintro wx ⟨hAx,hBx⟩
    (try dsimp only at hBx); (try dsimp only at hAx)
    go_simp
    try with_reducible rfl
   try simp only [Act.put,List.setIfInBounds_toArray,List.set_cons_zero,List.set_cons_succ]
   refine wpL_takeA (i:=1) (v:=?_) rfl (by kernel_rfl) (by kernel_rfl) (by kernel_rfl) (by kernel_rfl) (by decide) (fun _ _ _ h=>h) (Or.inl ⟨by rfl,?_⟩) hA hB ?_
   rotate_left
   ·rintro wx ⟨hAx,hBx⟩
    (try dsimp only at hBx); (try dsimp only at hAx)
    go_simp
    try with_reducible rfl
   try simp only [Act.put,List.setIfInBounds_toArray,List.set_cons_zero,List.set_cons_succ]
   refine wpL_takeA (i:=2) (v:=?_) rfl (by kernel_rfl) (by kernel_rfl) (by kernel_rfl) (by kernel_rfl) (by decide) (fun _ _ _ h=>h) (Or.inl ⟨by rfl,?_⟩) hA hB ?_
   rotate_left
   ·rintro wx ⟨hAx,hBx⟩
    (try dsimp only at hBx); (try dsimp only at hAx)
    go_simp
    try with_reducible rfl
   try simp only [Act.put,List.setIfInBounds_toArray,List.set_cons_zero,List.set_cons_succ]
   clear c6
   refine wpL_one (i:=3) (by kernel_rfl) (StepL.mk rfl (fun K hK=>?_))
   go_simp
   refine (chatter_any u0 B gc r3 hcu hgu).mono ?_
   rintro e u1 ⟨cs,c,r4,rfl,hcd,hc4,ho4⟩
   obtain ⟨D0,D1,D2,D3,D4,d0,f0,d1,f1,d2,f2,d3,f3,d4,f4,rfl,hcx⟩:=cd_open hcd
   have hci : c.init.length ≤ 1000000:=by obtain ⟨_,_,_,_,_,_,_,_,_,_,_,_,_,_,_,_,_,_,_,_,_,h⟩:=hcx; exact h
   have hzu:=hku.size
   have hz4:=ho4.size
   have how1 : Only gc wr u1:=Only.trans (hku.only gc) ho4
   have hA1 : Same (fun i=>i < wr.heap.size ∧ i ≠ gc ∧ v.ownBlock ≠ some i) wr u1:=how1.mono (fun i hi=>⟨hi.1,hi.2.1⟩)
   have hgr1:=HGR.out.same CdV.good how1 (fun i h1 h2=>⟨h2,by omega⟩)
   refine hK.out _ _ (SAB.both hA1 trivial) (fun hSS=>?_)
   clear hK K hA hB
   have hB:=hSS.2
   have hA:=hSS.1 (by kernel_rfl)
   (try dsimp only at hB); (try dsimp only at hA); clear hSS
   try simp only [Act.put,List.setIfInBounds_toArray,List.set_cons_zero,List.set_cons_succ]
   refine wpL_one (i:=4) (by kernel_rfl) (StepL.mk rfl (fun K hK=>?_))
   refine step_buildS rfl _ _ _ _ rfl Tryz.underlying25 _ [(0,.agg #[.slice D0 d0 f0,.slice D1 d1 f1,.slice D2 d2 f2,.slice D3 d3 f3,.slice D4 d4 f4])] rfl (built_cd1 _ _ _ _ _ _ _ _ _ _ _ _ _ _ _) ?_
   have hk2 : Keep u1 (u1.alloc (.cells #[.slice D0 d0 f0,.slice D1 d1 f1,.slice D2 d2 f2,.slice D3 d3 f3,.slice D4 d4 f4] 63)):=Keep.new _ _
   have hrd:=Reads.new (w:=u1) (e:=63) (cs:=[.slice D0 d0 f0,.slice D1 d1 f1,.slice D2 d2 f2,.slice D3 d3 f3,.slice D4 d4 f4]) (size:=5) (n:=1) rfl
   have hA2 : Same (fun i=>i < wr.heap.size ∧ i ≠ gc ∧ v.ownBlock ≠ some i) wr (u1.alloc (.cells #[.slice D0 d0 f0,.slice D1 d1 f1,.slice D2 d2 f2,.slice D3 d3 f3,.slice D4 d4 f4] 63)):=Same.trans hA1 hk2 (fun i hi=>Nat.lt_of_lt_of_le hi.1 how1.size)
   refine hK.out _ _ (SAB.both hA2 trivial) (fun hSS=>?_)
   clear hK K hA hB
   have hB:=hSS.2
   have hA:=hSS.1 (by kernel_rfl)
   (try dsimp only at hB); (try dsimp only at hA); clear hSS
   try simp only [Act.put,List.setIfInBounds_toArray,List.set_cons_zero,List.set_cons_succ]
   generalize hu2 : u1.alloc (.cells #[.slice D0 d0 f0,.slice D1 d1 f1,.slice D2 d2 f2,.slice D3 d3 f3,.slice D4 d4 f4] 63) = u2 at *
   clear hu2
   obtain ⟨css,q1,q2,q3,q4⟩:=hgr1
   have hlk:=HK.out
   refine wpL_one (i:=5) (by kernel_rfl) (StepL.mk rfl (fun K hK=>?_))
   refine step_append_any _ (by rfl) (.tmp 31) (.tmp 34) _ (by rfl) base 63 i0 _ 5 120 Tryz.underlying25 HI0.out IZ0.out IS0.out IB0.out rfl (by omega) v l.length css.flatten (by rfl) (ownsRow_same q3 hk2 (fun i hi=>hi.2)) _ (some ⟨u1.heap.size,0,none⟩) 1 1 [.slice D0 d0 f0,.slice D1 d1 f1,.slice D2 d2 f2,.slice D3 d3 f3,.slice D4 d4 f4] (by rfl) hrd (by intro u hu; simp at hu; rcases hu with h | h | h | h | h <;> subst h <;> rfl) (by simp [maxLen]; omega) (by omega) (by have:=hk2.size; omega) ?_
   intro vb wb hownb hgb' hatb
   have hpush:=Grow.push CdV.good (a:=c) q1 q2 q4 hk2 hownb hgb' hatb rfl (CdR.more hcx (fun i (hi : New u1 u0.heap.size i)=>⟨by have:=hi.1; omega,hi.2,fun e=>by have h1:=(HV.out _ e).2; have:=hi.1; omega⟩))
   have hA3 : Same (fun i=>i < wr.heap.size ∧ i ≠ gc ∧ v.ownBlock ≠ some i) wr wb:=Same.grown hA2 hgb' (fun i hi=>by have:=hi.1; have:=hk2.size; omega) (fun k hk hh=>hh.2.2 hk)
   have how3 : Only gc w wb:=Same.trans HOW.out hA3 (fun i hi=>⟨by have:=hi.1; omega,hi.2,fun e=>by have h1:=(HV.out _ e).1; have h2:=hi.1; omega⟩)
   have hc5 : Cod wb B gc r4:=(hc4.keep hk2).same (Same.grown (Same.refl _ _) hgb' (fun i hi=>by have h1:=HBW.out i hi; have h2:=hk2.size; omega) (fun k hk hh=>by have h1:=HBW.out k hh; have h2:=(HV.out k hk).1; omega))
   obtain ⟨Ab,cb,hvb,hnb,hcb⟩:=own_form hownb
   subst hvb
   have hb6b:=hA3.blk HB6.out N6.out
   have hbrb:=hA3.blk HBRR.out ⟨by omega,by omega,fun e=>by have h1:=(HV.out _ e).1; omega⟩
   have hzb:=how3.size
   have hz5 : base ≤ wb.heap.size:=Nat.le_trans HBAS.out hA3.size
   refine hK.out _ _ (SAB.both hA3 trivial) (fun hSS=>?_)
   clear hK K hA hB
   have hB:=hSS.2
   have hA:=hSS.1 (by kernel_rfl)
   (try dsimp only at hB); (try dsimp only at hA); clear hSS
   try simp only [Act.put,List.setIfInBounds_toArray,List.set_cons_zero,List.set_cons_succ]
   refine wpL_takeA (i:=6) (v:=?_) rfl (by kernel_rfl) (by kernel_rfl) (by kernel_rfl) (by kernel_rfl) (by decide) (fun _ _ _ h=>h) (Or.inl ⟨by rfl,?_⟩) hA hB ?_
   rotate_left
   ·rintro wx ⟨hAx,hBx⟩
    (try dsimp only at hBx); (try dsimp only at hAx)
    go_simp
    try with_reducible rfl
   try simp only [Act.put,List.setIfInBounds_toArray,List.set_cons_zero,List.set_cons_succ]
   refine wpL_one (i:=7) (by kernel_rfl) (StepL.mk rfl (fun K hK=>?_))
   refine step_store_one rfl _ _ _ rfl g6 0 27 _ (.slice Ab (l.length + 1) cb) rfl rfl hb6b (by simp) (by kernel_rfl) rfl rfl ?_
   intro wc hbc hsc
   have hzc:=hsc.size
   have hfin : CfRel B gc g6 base (2 + a1) v2 w (.int .i64 ((k : Int) + 1)) wc:=⟨.slice Ab (l.length + 1) cb,l ++ [c],by rw [hlk]; simp,by rw [List.length_append,List.length_cons,List.length_nil]; omega,by simpa using hbc,hpush.same CdV.good hsc (fun i h1 h2=>by omega),fun x hx=>by
    rcases List.mem_append.1 hx with h | h
    ·exact HINI.out x h
    ·simp at h; rw [h]; exact hci,⟨_,hc5.write hsc (fun hh=>by have:=HBW.out _ hh; omega)⟩,Only.write how3 hsc (by omega),hsc.blk hbrb (by omega),by omega⟩
   refine hK.out _ _ (SAB.past (by kernel_rfl) trivial) (fun hSS=>?_)
   clear hK K hA hB
   have hB:=hSS.2
   have hA : True:=trivial
   (try dsimp only at hB); (try dsimp only at hA); clear hSS
   try simp only [Act.put,List.setIfInBounds_toArray,List.set_cons_zero,List.set_cons_succ]
   refine wpL_done (by kernel_rfl) ?_
   have HFIN:=Lib.hid hfin
   clear hfin
   clear hbc hsc hpush hA3 hA2 hA1 how1 how3 hc4 hc5 hb6b hbrb hownb hgb' hatb hrd hk2 hA hB hcx hcd ho4 hku hcu hgu q1 q2 q3 q4 hlk
   go_wp2_with fail
   go_roundw
   case rel=>exact HFIN.out
   case measure=>simp [intOf]; omega
  ·have t0 : decide ((k : Int) < 2 + (a1 : Int)) = false:=by simp; omega
   obtain ⟨A,c,hv,hsl⟩:=hgr.done CdV.good
   subst hv
   have hlt:=hb6.lt
   have HB6:=Lib.hid hb6
   have HBRR:=Lib.hid hbrr
   clear hb6 hbrr
   go_wp2_with (first
    | (refine wpList_load_all rfl _ (.tmp 6) rfl g6 27 [.slice A l.length c,.int .i64 1,.int .i64 v2] _ rfl HB6.out Tryz.underlying27 rfl (by kernel_rfl) ?_)
    | (refine wpList_store_all rfl _ (.tmp 4) (.tmp 37) rfl w.heap.size 27 _ [.slice A l.length c,.int .i64 1,.int .i64 v2] rfl rfl HBRR.out rfl (by kernel_rfl) rfl ?_; intro v6 hv6 hs6))
   have hz9:=hs6.size
   refine bodyPost_ret (results_cell1 Tryz.results23 _ _ _ ⟨w.heap.size,0,none⟩ _ rfl (loadVar_blk [.slice A l.length c,.int .i64 1,.int .i64 v2] _ hv6 (fun j v hv=>by simpa using hv) Tryz.underlying27 rfl (by kernel_rfl))) rfl ?_
   have hcd : CdsR wr (New wr base) A l.length c l:=hsl
   exact ⟨A,l.length,c,v2,l,_,rfl,(hcd.keep (hs6.mono (fun i hi=>by have:=hi.1; show i ≠ _; omega))).more (fun i hi=>⟨by have:=hi.1; omega,by have:=hi.2; omega⟩),by omega,by omega,hini,hcr.write hs6 (fun hh=>by have:=HBW.out _ hh; omega),Only.write how hs6 (Nat.le_refl _)⟩
end Go.Proofs.YtipegaojiokppaaGreatDoor
namespace Go.Proofs.YtipegaojiokppaaGreatDoor
open Go.RowKit Go.Proofs
def oneEx : Ex:=.mk 1 1 ⟨#[]⟩ 0 0 []
def outSt : Stm:=.mk 6 ⟨#[]⟩ 0 0 zeroEx oneEx [] []
def cdA : Cd:=⟨[],[outSt],[],[],[]⟩
theorem cdA_start : startS cdA 0 1 = ⟨[],[],[],[⟨0,1⟩]⟩:=by
 have a1:=Exec.simple (v:=⟨0,1,0,0⟩) (s:=outSt) (m:=⟨[],[],400⟩) (by show (0 : Nat) < 400; omega) (by decide) (by decide)
 have e1 : simpleS ⟨0,1,0,0⟩ outSt (Ms.pay ⟨[],[],400⟩) = ⟨[],[⟨2,0,1⟩],399⟩:=by
  simp [simpleS,outSt,oneEx,Stm.kind,Stm.slot,Stm.value,Ms.pay,Ms.eff,valS]
 rw [e1] at a1
 have a2:=Exec.cons a1 (Exec.nil _)
 unfold startS runS
 rw [show cdA.start = [outSt] from rfl,show cdA.init = [] from rfl,execF_of a2]
 simp [Res.st,sendsOf,outsOf]
theorem runA0 : ∃ m,runI [cdA] [] = .ok m ∧ m.world = [⟨0,0,0,1⟩]:=by
 refine ⟨_,by rw [runI_of (by simp) (by simp) (by simp)]; rfl,?_⟩
 show (startI [cdA] 1).world = _
 simp only [startI]
 rw [show ([cdA] : List Cd).getD 0 zeroCd = cdA from rfl]
 have : (([cdA] : List Cd).length : Int) = 1:=rfl
 rw [this,show ((0 : Nat) : Int) = 0 from rfl,cdA_start]
 rfl
theorem runA1 : ∃ m,runI [cdA] [⟨0,2,0,0,0,3⟩] = .ok m ∧ m.ss.length = 1 ∧ (m.ss.getD 0 zeroSt).events.length = 1:=by
 have hl : (startI [cdA] 1).ss.length = 1:=startI_len _ _
 have hg : (startI [cdA] 1).ss.getD 0 zeroSt = startS cdA 0 1:=startI_get [cdA] 1 0 (by omega)
 have hev : eventI (startI [cdA] 1).ss ⟨0,2,0,0,0,3⟩ = (⟨2,0,0,0,0,0,3⟩,0):=by
  unfold eventI
  rw [if_neg (by rw [hl]; decide),if_neg (by show ¬ 64 ≤ ((startI [cdA] 1).ss.getD 0 zeroSt).events.length; rw [hg,cdA_start]; simp),if_pos (by simp)]
 refine ⟨execI [cdA] (startI [cdA] 1) 0 ⟨2,0,0,0,0,0,3⟩,?_,by rw [execI_len,hl],?_⟩
 ·rw [runI_of (by simp) (by simp) (by simp)]
  show playI [cdA] (startI [cdA] 1) [_] = _
  rw [playI,hev]
  rfl
 ·rw [execI_get (by omega),nextS_events,hg,cdA_start]
  rfl
theorem bld_exA : Tryz.prog.built 68 [(0,.int .i64 1),(1,.int .i64 1)] = some #[.int .i64 1,.int .i64 1,.string ⟨#[]⟩,.int .i64 0,.int .i64 0,.slice none 0 0]:=by kernel_rfl
def stA1 : List Value:=stC 6 ⟨#[]⟩ z6 (exC 1 1 ⟨#[]⟩ none 0) none 0
theorem bld_stA1 : Tryz.prog.built 70 [(0,.int .i64 6),(5,.agg #[.int .i64 1,.int .i64 1,.string ⟨#[]⟩,.int .i64 0,.int .i64 0,.slice none 0 0])] = some stA1.toArray:=by kernel_rfl
theorem built_stA1 : builtS Tryz.prog 70 1 [(0,.agg stA1.toArray)] = some stA1.toArray:=by kernel_rfl
theorem bld_cdA (A : Option Addr) : Tryz.prog.built 63 [(1,.slice A 1 1)] = some #[.slice none 0 0,.slice A 1 1,.slice none 0 0,.slice none 0 0,.slice none 0 0]:=by kernel_rfl
theorem bld_cfA (A : Option Addr) : Tryz.prog.built 27 [(0,.slice A 1 1)] = some #[.slice A 1 1,.int .i64 0,.int .i64 0]:=by kernel_rfl
theorem bld_chT : Tryz.prog.built 57 [(1,.int .i64 2),(5,.int .i64 3)] = some #[.int .i64 0,.int .i64 2,.int .i64 0,.int .i64 0,.int .i64 0,.int .i64 3]:=by kernel_rfl
theorem built_chA (a b c d e f : Int) : builtS Tryz.prog 57 1 [(0,.agg #[.int .i64 a,.int .i64 b,.int .i64 c,.int .i64 d,.int .i64 e,.int .i64 f])] = some #[.int .i64 a,.int .i64 b,.int .i64 c,.int .i64 d,.int .i64 e,.int .i64 f]:=by kernel_rfl
def Aw40Post (w : World) (e : Ending) (w' : World) : Prop:=e = .returned (.bool true) ∧ Keep w w'
theorem load_range_w {P : Program} {ops : Array Oper} {rest : List Oper} {op : Oper} {a : Act} {w : World} {Q : Exit → Act → World → Prop} (hw : Region.wanted op (yielded ops a.tmps) = true) (ty : TypeId) (x : Operand) (ho : op.op = .load ty x)
  (g o : Nat) (vs : List Value) (d : TypeDesc) (hx : a.eval x = .pointer (some ⟨g,o,none⟩)) (hc : w.rangeAt g o vs)
  (hu : P.underlying ty = some d) (hd : d.isRow = true) (hi : (P.info? ty).map (·.size) = some vs.length)
  (h : wpList P ops Q rest (a.put op.dst (.agg vs.toArray)) w) : wpList P ops Q (op :: rest) a w:=
 wpList_step fun K hK=>by
  rw [if_pos hw]
  exact wp_load_mid ty x ho g o hx vs d hc hu hd hi (hK _ _ h)
set_option maxHeartbeats 16000000 in
theorem awake40_any (w : World) : Calls Tryz.prog 9 #[] w (Aw40Post w):=by
 go_enter Tryz.func9,Tryz.ntmps9
 go_wp2_with (first
  | (refine wpList_bld rfl 68 _ rfl _ [(0,.int .i64 1),(1,.int .i64 1)] rfl bld_exA ?_)
  | (refine wpList_bld rfl 70 _ rfl _ [(0,.int .i64 6),(5,.agg #[.int .i64 1,.int .i64 1,.string ⟨#[]⟩,.int .i64 0,.int .i64 0,.slice none 0 0])] rfl bld_stA1 ?_; refine Hid.out ?_))
 refine Lib.hid ?_
 go_wp2_with (refine wpList_buildX rfl 61 70 1 _ rfl Tryz.underlying61 _ [(0,.agg stA1.toArray)] rfl built_stA1 ?_; intro w1 hb1 hk1 hz1; refine Hid.out ?_)
 refine Lib.hid ?_
 have HB1:=Lib.hid hb1
 have HK1:=Lib.hid hk1
 clear hb1 hk1
 go_wp2_with (first
  | (refine wpList_bld rfl 63 _ rfl _ [(1,.slice (some ⟨w.heap.size,0,none⟩) 1 1)] rfl (bld_cdA _) ?_)
  | (refine wpList_buildX rfl 25 63 1 _ rfl Tryz.underlying25 _ [(0,.agg #[.slice none 0 0,.slice (some ⟨w.heap.size,0,none⟩) 1 1,.slice none 0 0,.slice none 0 0,.slice none 0 0])] rfl (built_cd1 _ _ _ _ _ _ _ _ _ _ _ _ _ _ _) ?_; intro w2 hb2 hk2 hz2; refine Hid.out ?_))
 refine Lib.hid ?_
 have HB2:=Lib.hid hb2
 have HK2:=Lib.hid hk2
 clear hb2 hk2
 go_upto_region 2 with (first
  | (refine wpList_bld rfl 27 _ rfl _ [(0,.slice (some ⟨w1.heap.size,0,none⟩) 1 1)] rfl (bld_cfA _) ?_)
  | (refine wpList_store_all rfl _ (.tmp 1) (.tmp 11) rfl w2.heap.size 27 _ [.slice (some ⟨w1.heap.size,0,none⟩) 1 1,.int .i64 0,.int .i64 0] rfl rfl (Blk.new _ _ _) rfl (by kernel_rfl) rfl ?_; intro w3 hb3 hs3))
 have hk3 : Keep w2 w3:=Keep.write (Keep.new _ _) hs3 (Nat.le_refl _)
 have hz3 : w2.heap.size < w3.heap.size:=hb3.lt
 have c1:=(Keep.trans HK2.out hk3).blk HB1.out (by omega)
 have c2:=hk3.blk HB2.out (by omega)
 have hw3:=Keep.trans (Keep.trans HK1.out HK2.out) hk3
 have hstm : StmR w3 (Bw w3) 3 stA1 outSt:=st_leaf (zeroEx_R 4) (ExR.leaf 4 1 1 ⟨#[]⟩) 2
 have hcd : CdV w3 (Bw w3) [.slice none 0 0,.slice (some ⟨w.heap.size,0,none⟩) 1 1,.slice none 0 0,.slice none 0 0,.slice none 0 0] cdA:=⟨none,_,none,none,none,0,0,1,1,0,0,0,0,0,0,rfl,Sl.nil_,SlR.one (R:=fun w S cs s=>StmR w S 3 cs s) c1 (by show w.heap.size < w3.heap.size; omega) rfl hstm,SlR.nil_,SlR.nil_,SlR.nil_,by simp [cdA]⟩
 have hcds : CdsR w3 (Bw w3) (some ⟨w1.heap.size,0,none⟩) 1 1 [cdA]:=SlR.one (R:=CdV) c2 (by show w1.heap.size < w3.heap.size; omega) rfl hcd
 have hini : ∀ c ∈ [cdA],c.init.length ≤ 1000000:=by intro c hc; simp at hc; subst hc; simp [cdA]
 have hworld:=iworld_any w3 (Bw w3) (some ⟨w1.heap.size,0,none⟩) none 1 1 0 0 0 0 [cdA] [] (fun i hi=>hi) hcds hini Sl.nil_ (by omega) (by omega)
 have HB3:=Lib.hid hb3
 have HW3:=Lib.hid hw3
 have HCDS:=Lib.hid hcds
 have HINI:=Lib.hid hini
 have HWORLD:=Lib.hid hworld
 clear hb3 hw3 hcds hini hworld
 clear hs3 hk3 c1 c2 hstm hcd
 go_wp2_with (refine wpList_load_all rfl _ (.tmp 1) rfl w2.heap.size 27 [.slice (some ⟨w1.heap.size,0,none⟩) 1 1,.int .i64 0,.int .i64 0] _ rfl HB3.out Tryz.underlying27 rfl (by kernel_rfl) ?_)
 refine HWORLD.out.mono ?_
 obtain ⟨ma,hma,hmw⟩:=runA0
 rintro e w4 ⟨hk4,⟨m,A4,c4,hrun,rfl,hsl4⟩ | ⟨k,hrun,-,-⟩⟩
 case inr=>rw [hma] at hrun; cases hrun
 rw [hma] at hrun
 injection hrun with hrun
 subst hrun
 rw [hmw] at hsl4
 rw [hmw]
 have hz4:=hk4.size
 obtain ⟨b4,o4,x4,hA4,hb4,hx4,hcx4⟩:=hsl4.at_ encSh_len (k:=0) (by simp)
 subst hA4
 simp only [List.length_cons,List.length_nil,Nat.zero_add,Nat.zero_mul,Nat.add_zero,List.getElem?_cons_zero,Option.some.injEq] at hx4 hcx4
 subst hx4
 have hc4 : 1 ≤ c4:=by have:=hsl4.2.1; simpa using this
 have hb43:=hk4.blk HB3.out hz3
 have HB43:=Lib.hid hb43
 have HK4:=Lib.hid hk4
 have HCX4:=Lib.hid hcx4
 clear hb43 hk4 hcx4
 clear hsl4 hma hmw
 simp only [List.length_cons,List.length_nil,Nat.zero_add]
 go_wp2_with (first
  | (refine wpList_load_all rfl _ (.tmp 1) rfl w2.heap.size 27 [.slice (some ⟨w1.heap.size,0,none⟩) 1 1,.int .i64 0,.int .i64 0] _ rfl HB43.out Tryz.underlying27 rfl (by kernel_rfl) ?_)
  | (refine wpList_bld rfl 57 _ rfl _ [(1,.int .i64 2),(5,.int .i64 3)] rfl bld_chT ?_)
  | (refine wpList_buildX rfl 23 57 1 _ rfl Tryz.underlying23 _ [(0,.agg #[.int .i64 0,.int .i64 2,.int .i64 0,.int .i64 0,.int .i64 0,.int .i64 3])] rfl (built_chA _ _ _ _ _ _) ?_; intro w5 hb5 hk5 hz5; refine Hid.out ?_))
 refine Lib.hid ?_
 have hcl5 : Sl encCh 6 w5 (Bw w5) (some ⟨w4.heap.size,0,none⟩) 1 1 [⟨0,2,0,0,0,3⟩]:=⟨rfl,Nat.le_refl _,by simp [maxLen],rfl,fun _=>⟨_,0,rfl,hz5,fun j u hu=>by rw [hb5.cell]; simpa [encCh] using hu⟩⟩
 have hk35:=Keep.trans HK4.out hk5
 have hplay:=iplay_any w5 (Bw w5) (some ⟨w1.heap.size,0,none⟩) (some ⟨w4.heap.size,0,none⟩) 1 1 1 1 0 0 [cdA] [⟨0,2,0,0,0,3⟩] (fun i hi=>hi) ((HCDS.out.keep hk35).more (fun i hi=>Nat.lt_of_lt_of_le hi hk35.size)) HINI.out hcl5 (by omega) (by omega)
 have hcx5 : w5.rangeAt b4 o4 (encSh ⟨0,0,0,1⟩):=fun j u hu=>(hk5.cell (p:=⟨b4,o4 + j,none⟩) hb4).trans (HCX4.out j u hu)
 have hk05:=Keep.trans HW3.out hk35
 have HPLAY:=Lib.hid hplay
 have HCX5:=Lib.hid hcx5
 have HK05:=Lib.hid hk05
 clear hplay hcx5 hk05
 clear hcl5 hk35 hb5 hk5 HCX4
 go_wp2_with fail
 refine HPLAY.out.mono ?_
 obtain ⟨mb,hmb,hml,hme⟩:=runA1
 rintro e w6 ⟨hk6,⟨m,A6,c6,hrun,rfl,hsl6⟩ | ⟨k,hrun,-,-⟩⟩
 case inr=>rw [hmb] at hrun; cases hrun
 rw [hmb] at hrun
 injection hrun with hrun
 subst hrun
 rw [hml] at hsl6
 rw [hml]
 obtain ⟨b,off,cs,a,hA6,hSb,ha,hR,hcl,hcc⟩:=SlR.at_ hsl6 (k:=0) (by omega)
 subst hA6
 obtain ⟨B1,B2,B3,B4,p1,q1,p2,q2,p3,q3,p4,q4,e2,hR'⟩:=st_open hR
 subst e2
 have hev:=(st_sl hR').2.1.1
 have hae : mb.ss.getD 0 zeroSt = a:=by simp [List.getD,ha]
 rw [hae] at hme
 rw [hme] at hev
 subst hev
 have y1 : w6.cell? ⟨b,off + 1,none⟩ = some (.slice B2 1 q2):=by have:=hcc 1 _ rfl; simpa using this
 have hc6 : 1 ≤ c6:=by have:=hsl6.2.1; omega
 have r4 : w6.rangeAt b4 o4 [.int .i64 0,.int .i64 0,.int .i64 0,.int .i64 1]:=fun j u hu=>(hk6.cell (p:=⟨b4,o4 + j,none⟩) (Nat.lt_of_lt_of_le hb4 (Nat.le_of_lt hz5))).trans (HCX5.out j u hu)
 have hfin : Aw40Post w (.returned (.bool true)) w6:=⟨rfl,Keep.trans HK05.out hk6⟩
 have HFIN:=Lib.hid hfin
 have R4:=Lib.hid r4
 clear hfin r4
 clear hcc hcl hR hR' ha hSb hsl6 hk6 hmb hml hme hae
 go_wp2_with (refine load_range_w (by rfl) _ (.tmp 37) rfl b4 o4 [.int .i64 0,.int .i64 0,.int .i64 0,.int .i64 1] _ rfl R4.out Tryz.underlying44 rfl (by kernel_rfl) ?_)
 go_ret
 exact HFIN.out
end Go.Proofs.YtipegaojiokppaaGreatDoor
namespace Go.Proofs.YtipegaojiokppaaGreatDoor
open Go.RowKit Go.Proofs
def codLeft (w : World) (gc : Nat) : Nat:=match w.cell? ⟨gc,0,none⟩,w.cell? ⟨gc,1,none⟩ with | some (.slice _ n _),some (.int _ i)=>n - i.toNat | _,_=>0
theorem Cod.left {w : World} {B : Nat → Prop} {gc r : Nat} (h : Cod w B gc r) : codLeft w gc = r:=by
 obtain ⟨_,_,A,n,c,i,hb,hi,_⟩:=h
 unfold codLeft
 rw [hb.cell,hb.cell]
 simp
 omega
theorem bld_ch3' (a b c : Int) : Tryz.prog.built 57 [(0,.int .i64 a),(1,.int .i64 b),(5,.int .i64 c)] = some #[.int .i64 a,.int .i64 b,.int .i64 0,.int .i64 0,.int .i64 0,.int .i64 c]:=by kernel_rfl
theorem bld_ch5' (a b c d e : Int) : Tryz.prog.built 57 [(0,.int .i64 a),(1,.int .i64 b),(2,.int .i64 c),(3,.int .i64 d),(4,.int .i64 e)] = some #[.int .i64 a,.int .i64 b,.int .i64 c,.int .i64 d,.int .i64 e,.int .i64 0]:=by kernel_rfl
theorem built_snd1 (a b c d : Int) : builtS Tryz.prog 92 1 [(0,.agg #[.int .i64 a,.int .i64 b,.int .i64 c,.int .i64 d])] = some #[.int .i64 a,.int .i64 b,.int .i64 c,.int .i64 d]:=by kernel_rfl
theorem built_ch1 (a b c d e f : Int) : builtS Tryz.prog 57 1 [(0,.agg #[.int .i64 a,.int .i64 b,.int .i64 c,.int .i64 d,.int .i64 e,.int .i64 f])] = some #[.int .i64 a,.int .i64 b,.int .i64 c,.int .i64 d,.int .i64 e,.int .i64 f]:=by kernel_rfl
def ChsPost (cs : List Cd) (B : Nat → Prop) (gc : Nat) (w : World) (e : Ending) (w' : World) : Prop:=
 ∃ (A : Option Addr) (c : Nat) (l : List Chc) (m : Mi) (r' : Nat),e = .returned (.slice A l.length c) ∧ w'.ownsRow w.heap.size 57 6 (.slice A l.length c) l.length (l.flatMap encCh) ∧ l.length ≤ 25 ∧ runI cs l = .ok m ∧ Cod w' B gc r' ∧ Only gc w w'
def ChsRel (cs : List Cd) (B : Nat → Prop) (gc : Nat) (W : World) (v : Value) (wr : World) : Prop:=
 ∃ (l : List Chc) (m : Mi),wr.ownsRow W.heap.size 57 6 v l.length (l.flatMap encCh) ∧ l.length ≤ 25 ∧ runI cs l = .ok m ∧ (∃ r,Cod wr B gc r) ∧ Only gc W wr
def ChsCut (B : Nat → Prop) (gc g r : Nat) (u wx : World) : Prop:=
 (∃ y : Chc,Blk wx g 57 (encCh y).toArray) ∧ (∃ r',r' ≤ r ∧ Cod wx B gc r') ∧ Same (fun i=>i < u.heap.size ∧ i ≠ gc ∧ i ≠ g) u wx
def ChsTry (cs : List Cd) (l : List Chc) (y : Chc) (u : World) (q : Value) (wx : World) : Prop:=
 ∃ k : Int,q = .int .i64 k ∧ (k = 0 → ∃ m,runI cs (l ++ [y]) = .ok m) ∧ Keep u wx
def SentRel (n : Nat) (u : World) (v i : Value) (wr : World) : Prop:=
 ∃ (j : Nat) (lz : List Snd),i = .int .i64 j ∧ j ≤ n ∧ lz.length ≤ j ∧ wr.ownsRow u.heap.size 92 4 v lz.length (lz.flatMap encSnd) ∧ Keep u wr
set_option maxHeartbeats 32000000 in
theorem choices_any (w : World) (S B : Nat → Prop) (gc r : Nat) (AC : Option Addr) (n cC : Nat) (x1 x2 : Int) (cs : List Cd) (hS : ∀ i,S i → i < w.heap.size ∧ i ≠ gc) (hcod : Cod w B gc r) (hC : CdsR w S AC n cC cs) (hic : ∀ c ∈ cs,c.init.length ≤ 1000000) (hn2 : 2 ≤ n) (hn5 : n ≤ 5) :
  Calls Tryz.prog 24 #[.pointer (some ⟨gc,0,none⟩),.agg #[.slice AC n cC,.int .i64 x1,.int .i64 x2],.int .i64 25] w (ChsPost cs B gc w):=by
 obtain ⟨i0,hi0,iz0,is0,ib0⟩:=info_of info_Choice
 obtain ⟨j0,hj0,jz0,jz1,jz2⟩:=info_of info_Send
 have hBw:=hcod.2.1
 have hgw:=hcod.lt
 have hcl:=hC.1
 generalize hW : w.alloc (.cells #[.slice AC n cC,.int .i64 x1,.int .i64 x2] 27) = W
 have hkW : Keep w W:=hW ▸ Keep.new w _
 have hbc : Blk W w.heap.size 27 #[.slice AC n cC,.int .i64 x1,.int .i64 x2]:=hW ▸ Blk.new w _ _
 have hz:=hbc.lt
 have c0 : W.cell? ⟨w.heap.size,0,none⟩ = some (.slice AC n cC):=by rw [hbc.cell]; rfl
 have hcW:=hcod.keep hkW
 have hrun0 : ∃ m,runI cs [] = .ok m:=⟨_,by rw [runI_of (by omega) (by omega) (by simp)]; rfl⟩
 have hrel0 : ChsRel cs B gc W (.slice none 0 0) W:=by
  obtain ⟨m,hm⟩:=hrun0
  exact ⟨[],m,World.ownsRow_nil _ _ _ _,by simp,hm,⟨_,hcW⟩,Same.refl _ _⟩
 have HKW:=Lib.hid hkW
 have HBC:=Lib.hid hbc
 have HCW:=Lib.hid hcW
 have HBW:=Lib.hid hBw
 have HS:=Lib.hid hS
 have HC:=Lib.hid hC
 have HIC:=Lib.hid hic
 have HCL:=Lib.hid hcl
 have HI0:=Lib.hid hi0
 have IZ0:=Lib.hid iz0
 have IS0:=Lib.hid is0
 have IB0:=Lib.hid ib0
 have HJ0:=Lib.hid hj0
 have JZ0:=Lib.hid jz0
 have JZ1:=Lib.hid jz1
 have JZ2:=Lib.hid jz2
 have HREL0:=Lib.hid hrel0
 clear hkW hbc hcW hBw hS hC hic hcl hi0 iz0 is0 ib0 hj0 jz0 jz1 jz2 hrel0
 clear hcod hrun0
 go_enter Tryz.func24,Tryz.ntmps24
 go_upto_region 1 with fail
 clear hW
 go_wp2_with fail
 clear c0
 go_loopw [7] (fun v wr=>ChsRel cs B gc W v wr) (fun _ wr=>codLeft wr gc)
 case atStart=>exact HREL0.out
 case round=>
  clear HREL0
  obtain ⟨l,m,hown,hl25,hrun,⟨r',hcr⟩,how⟩:=hrel
  have hzr:=how.size
  obtain ⟨A,c,hv,hnc,hcm⟩:=own_form hown
  subst hv
  have hcm' : c ≤ 9223372036854775807:=hcm
  obtain ⟨nl,hnl⟩ : ∃ nl,nl = l.length:=⟨_,rfl⟩
  rw [← hnl] at hown hl25 hnc
  rw [← hnl]
  have fin : ∀ wz,Keep wr wz → ChsPost cs B gc w (.returned (.slice A nl c)) wz:=fun wz hk=>⟨A,c,l,m,r',by rw [hnl],by rw [← hnl]; exact ownsRow_less (ownsRow_same hown hk (fun i hi=>hi.2)) (Nat.le_of_lt hz),by omega,hrun,hcr.keep hk,Only.keep (Only.trans (HKW.out.only gc) how) hk⟩
  have hleft:=left_any wr B gc r' hcr
  have hcrl:=hcr.left
  have hbcr:=how.blk HBC.out ⟨hz,by omega⟩
  have HOWN:=Lib.hid hown
  have HRUN:=Lib.hid hrun
  have HCR:=Lib.hid hcr
  have HOW:=Lib.hid how
  have FIN:=Lib.hid fin
  have HLEFT:=Lib.hid hleft
  have HBCR:=Lib.hid hbcr
  have HNL:=Lib.hid hnl
  have HCRL:=Lib.hid hcrl
  clear hown hrun hcr how fin hleft hbcr hnl hcrl
  by_cases h25 : nl < 25
  case neg=>
   have t0 : decide ((nl : Int) < 25) = false:=by simp; omega
   have hfin:=FIN.out wr (Same.refl _ _)
   have HFIN:=Lib.hid hfin
   clear hfin
   go_wp2_with fail
   go_ret
   exact HFIN.out
  have t0 : decide ((nl : Int) < 25) = true:=by simp; omega
  go_wp2_with fail
  refine HLEFT.out.mono ?_
  rintro e wl ⟨rfl,kd,hwl⟩
  have hkl : Keep wr wl:=by rw [hwl]; exact Keep.draws _ _
  clear hwl
  by_cases hr : 0 < r'
  case neg=>
   have t1 : decide (0 < r') = false:=by simpa using hr
   have hfin:=FIN.out wl hkl
   have HFIN:=Lib.hid hfin
   clear hfin
   clear hkl
   go_wp2_with fail
   go_ret
   exact HFIN.out
  have t1 : decide (0 < r') = true:=by simpa using hr
  rw [t1]
  have hzl:=hkl.size
  have hlrow : Sl encCh 6 wl (fun i=>S i ∨ (W.heap.size ≤ i ∧ i < wr.heap.size)) A nl c l:=by
   obtain ⟨A',c',he,hsl⟩:=Sl.of_own (w:=wr) (enc:=encCh) (l:=l) (v:=.slice A nl c) (base:=W.heap.size) (size:=6) (e:=57) (by have:=HOWN.out; rw [HNL.out] at this; rw [HNL.out]; exact this)
   simp only [Value.slice.injEq] at he
   obtain ⟨rfl,-,rfl⟩:=he
   have:=(hsl.keep (hkl.mono (fun i (hi : W.heap.size ≤ i ∧ i < wr.heap.size)=>hi.2))).more (T:=fun i=>S i ∨ (W.heap.size ≤ i ∧ i < wr.heap.size)) (fun i hi=>.inr hi)
   rw [HNL.out]
   exact this
  have hkwl : Only gc W wl:=Only.keep HOW.out hkl
  have hcwl : CdsR wl (fun i=>S i ∨ (W.heap.size ≤ i ∧ i < wr.heap.size)) AC n cC cs:=((HC.out.keep (Same.mono HKW.out (fun i hi=>(HS.out i hi).1))).keep (hkwl.mono (fun i hi=>⟨by have:=(HS.out i hi).1; omega,(HS.out i hi).2⟩))).more (fun i hi=>.inl hi)
  have hplay:=rfplayZ_any wl (fun i=>S i ∨ (W.heap.size ≤ i ∧ i < wr.heap.size)) (fun i=>i = gc) AC A n cC nl c x1 x2 cs l (fun i hi=>hi.elim (fun h=>by have:=(HS.out i h).1; omega) (fun h=>by omega)) (fun i hi=>by subst hi; exact ⟨by omega,fun h=>h.elim (fun h=>(HS.out _ h).2 rfl) (fun h=>by omega)⟩) hcwl HIC.out hlrow (by omega) (by omega)
  have hbcl:=hkl.blk HBCR.out HBCR.out.lt
  have hcl5:=HCR.out.keep hkl
  have HPLAY:=Lib.hid hplay
  have HBCL:=Lib.hid hbcl
  have HKWL:=Lib.hid hkwl
  have HKL:=Lib.hid hkl
  have HLROW:=Lib.hid hlrow
  have HCWL:=Lib.hid hcwl
  have HCL5:=Lib.hid hcl5
  clear hplay hbcl hkwl hkl hlrow hcwl hcl5
  clear t1
  go_wp2_with (refine wpList_load_all rfl _ (.tmp 4) rfl w.heap.size 27 [.slice AC n cC,.int .i64 x1,.int .i64 x2] _ rfl HBCL.out Tryz.underlying27 rfl (by kernel_rfl) ?_)
  refine HPLAY.out.mono ?_
  rintro e w4 ⟨hk4,⟨m',As,cS,hrun',rfl,hsts⟩ | ⟨k',hrun',-,-⟩⟩
  case inr=>rw [HRUN.out] at hrun'; cases hrun'
  have hmm : m' = m:=by rw [HRUN.out] at hrun'; injection hrun' with h; exact h.symm
  subst hmm
  have hml : m'.ss.length = n:=by rw [(runI_inv HRUN.out).len]; exact HCL.out.symm
  rw [hml] at hsts
  rw [hml]
  have hz4:=hk4.size
  have hc4:=HCL5.out.keep hk4
  have hkw4 : Only gc wl w4:=hk4.only gc
  have HC4:=Lib.hid hc4
  have HKW4:=Lib.hid hkw4
  have HSTS:=Lib.hid hsts
  have HML:=Lib.hid hml
  clear hc4 hkw4 hsts hml
  clear hrun' hk4
  -- the draws
  go_wp2_with fail
  refine (next_any w4 B gc _ n HC4.out (by omega) (by omega)).mono ?_
  rintro e w5 ⟨p,hp0,hp1,rfl,hc5,ho5⟩
  have hz5:=ho5.size
  obtain ⟨p,hpe⟩ : ∃ p' : Nat,p = p':=⟨p.toNat,by omega⟩
  subst hpe
  have HC5:=Lib.hid hc5
  have HO5:=Lib.hid ho5
  clear hc5 ho5
  go_wp2_with fail
  refine (next_any w5 B gc _ 10 HC5.out (by omega) (by omega)).mono ?_
  rintro e w6 ⟨k,hk0,hk1,rfl,hc6,ho6⟩
  have hz6:=ho6.size
  have HC6:=Lib.hid hc6
  have HO6:=Lib.hid ho6
  clear hc6 ho6
  go_wp2_with fail
  refine (next_any w6 B gc _ 2 HC6.out (by omega) (by omega)).mono ?_
  rintro e w7 ⟨a,ha0,ha1,rfl,hc7,ho7⟩
  have hz7:=ho7.size
  have HC7:=Lib.hid hc7
  have HO7:=Lib.hid ho7
  clear hc7 ho7
  go_wp2_with fail
  refine (next_any w7 B gc _ 7 HC7.out (by omega) (by omega)).mono ?_
  rintro e w8 ⟨b,hb0,hb1,rfl,hc8,ho8⟩
  have hz8:=ho8.size
  have HC8:=Lib.hid hc8
  have HO8:=Lib.hid ho8
  clear hc8 ho8
  go_upto_region 10 with (first
   | (refine wpList_bld rfl 57 _ rfl _ [(0,.int .i64 p),(1,.int .i64 (2 + a)),(5,.int .i64 (b - 2))] rfl (bld_ch3' _ _ _) ?_)
   | (refine wpList_store_all rfl _ (.tmp 13) (.tmp 52) rfl w8.heap.size 57 _ [.int .i64 p,.int .i64 (2 + a),.int .i64 0,.int .i64 0,.int .i64 0,.int .i64 (b - 2)] rfl rfl (Blk.new _ _ _) rfl (by kernel_rfl) rfl ?_; intro w9 hb9 hs9))
  have hk9 : Keep w8 w9:=Keep.write (Keep.new _ _) hs9 (Nat.le_refl _)
  have hz9 : w8.heap.size < w9.heap.size:=hb9.lt
  have how9 : Only gc wl w9:=Only.keep (Only.trans (Only.trans (Only.trans (Only.trans HKW4.out HO5.out) HO6.out) HO7.out) HO8.out) hk9
  have ho49 : Only gc w4 w9:=Only.keep (Only.trans (Only.trans (Only.trans HO5.out HO6.out) HO7.out) HO8.out) hk9
  have hc9:=HC8.out.keep hk9
  have hr9 : r' - 1 - 1 - 1 - 1 ≤ r' - 1:=by omega
  have HB9:=Lib.hid hb9
  have HOW9:=Lib.hid how9
  have HO49:=Lib.hid ho49
  have HC9:=Lib.hid hc9
  clear hb9 how9 ho49 hc9
  clear hs9 hk9 HC4 HKW4 HC5 HO5 HC6 HO6 HC7 HO7 HC8 HO8
  obtain ⟨g,hg⟩ : ∃ g,g = w8.heap.size:=⟨_,rfl⟩
  rw [← hg] at HB9
  rw [← hg]
  have hg9 : g < w9.heap.size:=by omega
  have hg4 : w4.heap.size ≤ g:=by omega
  clear hg
  go_upto_if 54 with fail
  generalize hbb : decide (k < 6) = bb
  clear hbb
  go_cut [14,15,16,17] from 55 to 118 (fun _ _ _ _ wx=>ChsCut B gc g (r' - 1) w9 wx)
  case first=>
   cases bb with
   | false=>
    go_wp2_with fail
    go_meet
    exact ⟨⟨⟨p,2 + a,0,0,0,b - 2⟩,HB9.out⟩,⟨_,hr9,HC9.out⟩,Same.refl _ _⟩
   | true=>
    go_wp2_with fail
    refine (next_any w9 B gc _ (max ((n : Int) - 1) 1) HC9.out (by omega) (by omega)).mono ?_
    rintro e w10 ⟨d,hd0,hd1,rfl,hc10,ho10⟩
    have hz10:=ho10.size
    have hd1' : d < 5:=by omega
    have q0:=Int.tmod_nonneg (n : Int) (show (0 : Int) ≤ (p : Int) + 1 + d by omega)
    have q1:=Int.tmod_lt_of_pos ((p : Int) + 1 + d) (show (0 : Int) < n by omega)
    obtain ⟨q,hq⟩ : ∃ q : Nat,((p : Int) + 1 + d).tmod n = q:=⟨(((p : Int) + 1 + d).tmod n).toNat,by omega⟩
    have hqn : q < n:=by omega
    have g1 : (q : Int) < n:=by omega
    have g2 : (0 : Int) ≤ q:=by omega
    have ho410 : Only gc w4 w10:=Only.trans HO49.out ho10
    have hsub : Same (But w4 (fun i=>i = gc)) w4 w10:=ho410.mono (fun i hi=>hi)
    obtain ⟨bS,oS,B1,B2,B3,B4,p1,q1',p2,q2,p3,q3,p4,q4,rfl,hbS,hstq,hrgq⟩:=sts_at (sts_keep HSTS.out hsub) hqn
    have c2 : ∀ wx,Keep w10 wx → wx.cell? ⟨bS,oS + q * 4 + 2,none⟩ = some (.slice B3 p3 q3):=fun wx hx=>(hx.cell (p:=⟨bS,oS + q * 4 + 2,none⟩) (by have:=hbS.1; show bS < w10.heap.size; omega)).trans (hrgq 2 _ rfl)
    have hsd:=(st_sl hstq).2.2.1
    have hsdl:=hsd.1
    have hlens:=(runI_inv HRUN.out).lens (p:=q) (by have:=HCL.out; omega)
    have hp3 : p3 ≤ 1000000:=by omega
    have hrel0 : SentRel p3 w10 (.slice none 0 0) (.int .i64 0) w10:=⟨0,[],rfl,Nat.zero_le _,Nat.zero_le _,World.ownsRow_nil _ _ _ _,Same.refl _ _⟩
    have ho910:=ho10
    clear hrgq hstq hlens ho410 hsub q0 q1
    have HC10:=Lib.hid hc10
    have HSD:=Lib.hid hsd
    have HSDL:=Lib.hid hsdl
    have HREL0:=Lib.hid hrel0
    have HO910:=Lib.hid ho910
    have C2:=Lib.hid c2
    clear hc10 hsd hsdl hrel0 ho910 c2
    clear ho10
    go_wp2_with fail
    go_loopw [15,16] (fun v i wr=>SentRel p3 w10 v i wr) (fun _ i _=>p3 - (intOf i).toNat)
    case atStart=>exact HREL0.out
    case round=>
     clear HREL0
     obtain ⟨j,lz,rfl,hj,hlz,hown,hkr⟩:=hrel
     have hzj:=hkr.size
     obtain ⟨Az,cz,hv,hnz,hcz⟩:=own_form hown
     subst hv
     have hcz' : cz ≤ 9223372036854775807:=hcz
     have c2r:=C2.out wr hkr
     obtain ⟨nz,hnz0⟩ : ∃ nz,nz = lz.length:=⟨_,rfl⟩
     rw [← hnz0] at hlz hnz hown
     rw [← hnz0]
     by_cases hjn : j < p3
     ·obtain ⟨b',off',y,rfl,hbb,hy,hcy⟩:=(HSD.out.keep (hkr.mono (fun i hi=>by have:=hi.1; omega))).at_ encSnd_len hjn
      have s0 : decide (j < p3) = true:=by simpa using hjn
      have s1 : (0 : Int) ≤ j:=by omega
      have s2 : (j : Int) < p3:=by omega
      have y2 : wr.cell? ⟨b',off' + j * 4 + 2,none⟩ = some (.int .i64 y.to):=hcy 2 _ rfl
      have hrg : wr.rangeAt b' (off' + j * 4) [.int .i64 y.idx,.int .i64 y.ord,.int .i64 y.to,.int .i64 y.val]:=hcy
      clear hcy hy hbb
      cases qq : (y.to == (p : Int))
      ·have hfin : SentRel p3 w10 (.slice Az nz cz) (.int .i64 ((j : Int) + 1)) wr:=⟨j + 1,lz,by simp,by omega,by omega,by rw [← hnz0]; exact hown,hkr⟩
       clear hrg
       have HFIN:=Lib.hid hfin
       have HOWN:=Lib.hid hown
       have HKR:=Lib.hid hkr
       have HNZ0:=Lib.hid hnz0
       clear hfin hown hkr hnz0
       go_wp2_with fail
       go_roundw
       case rel=>exact HFIN.out
       case measure=>simp [intOf]; omega
      ·have HRG:=Lib.hid hrg
       have HOWN:=Lib.hid hown
       have HKR:=Lib.hid hkr
       have HNZ0:=Lib.hid hnz0
       clear hrg hown hkr hnz0
       go_upto_region 17 with fail
       go_wp2_with (first
        | (refine wpList_load_mid rfl _ (.tmp 93) rfl b' (off' + j * 4) rfl [.int .i64 y.idx,.int .i64 y.ord,.int .i64 y.to,.int .i64 y.val] _ HRG.out Tryz.underlying92 rfl (by kernel_rfl) ?_)
        | (refine wpList_buildX rfl 47 92 1 _ rfl Tryz.underlying47 _ [(0,.agg #[.int .i64 y.idx,.int .i64 y.ord,.int .i64 y.to,.int .i64 y.val])] rfl (built_snd1 _ _ _ _) ?_; intro w5' hb5 hk5 hz5'; refine Hid.out ?_))
       refine Lib.hid ?_
       have hown5:=ownsRow_same HOWN.out hk5 (fun i hi=>hi.2)
       have hrd : Reads w5' (fun i=>i = wr.heap.size) 4 (some ⟨wr.heap.size,0,none⟩) 1 (encSnd y):=⟨rfl,fun _=>⟨wr.heap.size,0,rfl,rfl,fun j u hu=>by rw [hb5.cell]; simpa [encSnd] using hu⟩⟩
       have hkr5:=Keep.trans HKR.out hk5
       have HOWN5:=Lib.hid hown5
       have HRD:=Lib.hid hrd
       have HKR5:=Lib.hid hkr5
       clear hown5 hrd hkr5
       clear hb5 hk5
       go_wp2_with (at_builtin; refine wpList_append_any _ rfl (.tmp 86) (.tmp 95) 47 rfl w10.heap.size 92 j0 _ 4 32 Tryz.underlying47 HJ0.out JZ0.out JZ1.out JZ2.out rfl (by omega) (.slice Az nz cz) nz (lz.flatMap encSnd) rfl HOWN5.out _ (some ⟨wr.heap.size,0,none⟩) 1 1 (encSnd y) rfl HRD.out (encSnd_one _) (by simp [maxLen]; omega) (by omega) (by omega) ?_; intro v9' w9' howz hgz hatz; have HOW9':=Lib.hid howz; have HG9:=Lib.hid hgz; have HAT9:=Lib.hid hatz; clear howz hgz hatz; refine Hid.out ?_)
       refine Lib.hid ?_
       have hk9' : Keep w10 w9':=Same.append HKR5.out HOWN5.out HG9.out (fun i hi=>hi) HKR5.out.size
       have hfin : SentRel p3 w10 v9' (.int .i64 ((j : Int) + 1)) w9':=⟨j + 1,lz ++ [y],by simp,by omega,by rw [List.length_append,← HNZ0.out]; simp; omega,by have:=HOW9'.out; rw [List.length_append,← HNZ0.out]; simpa using this,hk9'⟩
       have HFIN:=Lib.hid hfin
       clear hfin
       clear hk9' HOW9' HG9 HAT9
       go_wp2_with fail
       go_roundw
       case rel=>exact HFIN.out
       case measure=>simp [intOf]; omega
     ·have s0 : decide (j < p3) = false:=by simpa using hjn
      have hcw:=HC10.out.keep hkr
      have ho9r : Only gc w9 wr:=Only.keep HO910.out hkr
      have hbr:=ho9r.blk HB9.out ⟨hg9,by omega⟩
      by_cases hzz : nz = 0
      ·have s1 : decide (0 < nz) = false:=by simp; omega
       have hfin : ChsCut B gc g (r' - 1) w9 wr:=⟨⟨⟨p,2 + a,0,0,0,b - 2⟩,hbr⟩,⟨_,by omega,hcw⟩,ho9r.mono (fun i hi=>⟨hi.1,hi.2.1⟩)⟩
       have HFIN:=Lib.hid hfin
       clear hfin
       clear hcw ho9r hbr hown hkr hnz0
       go_wp2_with fail
       go_meet
       exact HFIN.out
      have s1 : decide (0 < nz) = true:=by simp; omega
      have hown':=hown
      have HCW:=Lib.hid hcw
      have HO9R:=Lib.hid ho9r
      have HBR:=Lib.hid hbr
      have HOWN:=Lib.hid hown
      have HKR:=Lib.hid hkr
      have HNZ0:=Lib.hid hnz0
      clear hcw ho9r hbr hown hkr hnz0
      clear hown'
      go_wp2_with fail
      refine (next_any wr B gc _ (min 3 (nz : Int)) HCW.out (by omega) (by omega)).mono ?_
      rintro e w12 ⟨v,hv0,hv1,rfl,hc12,ho12⟩
      have hz12:=ho12.size
      obtain ⟨z,hz'⟩ : ∃ z : Nat,(nz : Int) - 1 - v = z:=⟨((nz : Int) - 1 - v).toNat,by omega⟩
      have hzn : z < nz:=by omega
      have hrow12:=ownsRow_own HOWN.out ho12 (fun b hb=>by have:=(HOWN.out.lt b hb); exact ⟨this.2,by omega⟩)
      obtain ⟨A',c',he,hsl⟩:=Sl.of_own (w:=w12) (enc:=encSnd) (l:=lz) (v:=.slice Az nz cz) (base:=w10.heap.size) (size:=4) (e:=92) (by rw [← HNZ0.out]; exact hrow12)
      simp only [Value.slice.injEq] at he
      obtain ⟨rfl,-,rfl⟩:=he
      obtain ⟨bz,oz,y,rfl,hbz,hy,hcy⟩:=hsl.at_ encSnd_len (k:=z) (by rw [← HNZ0.out]; exact hzn)
      have hrg : w12.rangeAt bz (oz + z * 4) [.int .i64 y.idx,.int .i64 y.ord,.int .i64 y.to,.int .i64 y.val]:=hcy
      have hzi : (0 : Int) ≤ z:=by omega
      have hzi2 : (z : Int) < nz:=by omega
      have hb12:=ho12.blk HBR.out ⟨by omega,by omega⟩
      have ho912 : Only gc w9 w12:=Only.trans HO9R.out ho12
      clear hsl hcy hy hrow12
      have HRG:=Lib.hid hrg
      have HC12:=Lib.hid hc12
      have HB12:=Lib.hid hb12
      have HO912:=Lib.hid ho912
      clear hrg hc12 hb12 ho912
      clear ho12
      go_upto_region 20 with (first
       | (refine wpList_load_mid rfl _ (.tmp 110) rfl bz (oz + z * 4) rfl [.int .i64 y.idx,.int .i64 y.ord,.int .i64 y.to,.int .i64 y.val] _ HRG.out Tryz.underlying92 rfl (by kernel_rfl) ?_)
       | (refine wpList_store_all rfl _ (.tmp 17) (.tmp 111) rfl w12.heap.size 92 _ [.int .i64 y.idx,.int .i64 y.ord,.int .i64 y.to,.int .i64 y.val] rfl rfl (Blk.new _ _ _) rfl (by kernel_rfl) rfl ?_; intro w13 hb13 hs13))
      have hk13 : Keep w12 w13:=Keep.write (Keep.new _ _) hs13 (Nat.le_refl _)
      have hz13 : w12.heap.size < w13.heap.size:=hb13.lt
      have y0 : w13.cell? ⟨w12.heap.size,0,none⟩ = some (.int .i64 y.idx):=by rw [hb13.cell]; rfl
      have y1 : w13.cell? ⟨w12.heap.size,1,none⟩ = some (.int .i64 y.ord):=by rw [hb13.cell]; rfl
      have hbg:=hk13.blk HB12.out HB12.out.lt
      have HBG:=Lib.hid hbg
      have HK13:=Lib.hid hk13
      clear hbg hk13
      clear hb13 hs13
      go_wp2_with (first
       | (refine wpList_bld rfl 57 _ rfl _ [(0,.int .i64 p),(1,.int .i64 1),(2,.int .i64 q),(3,.int .i64 y.idx),(4,.int .i64 y.ord)] rfl (bld_ch5' _ _ _ _ _) ?_)
       | (refine wpList_store_all rfl _ (.tmp 13) (.tmp 118) rfl g 57 _ [.int .i64 p,.int .i64 1,.int .i64 q,.int .i64 y.idx,.int .i64 y.ord,.int .i64 0] rfl rfl HBG.out rfl (by kernel_rfl) rfl ?_; intro w14 hb14 hs14; have HB14:=Lib.hid hb14; have HS14:=Lib.hid hs14; clear hb14 hs14))
      try simp only [Act.put]
      go_meet
      exact ⟨⟨⟨p,1,q,y.idx,y.ord,0⟩,HB14.out⟩,⟨_,by omega,(HC12.out.keep HK13.out).write HS14.out (fun hh=>by have:=HBW.out _ hh; omega)⟩,Same.trans (HO912.out.mono (fun i hi=>⟨hi.1,hi.2.1⟩)) (Same.trans (S:=fun i=>i < w12.heap.size ∧ i ≠ g) (HK13.out.mono (fun i hi=>hi.1)) HS14.out (fun i hi=>hi.2)) (fun i hi=>⟨by have:=hi.1; have:=HO912.out.size; omega,hi.2.2⟩)⟩
  case rest=>
   obtain ⟨w11,hw11⟩ : ∃ w11 : World,w11 = wc:=⟨_,rfl⟩
   subst hw11
   obtain ⟨⟨⟨y0,y1,y2,y3,y4,y5⟩,hby⟩,⟨r2,hr2,hc11⟩,hs11⟩:=hcut
   have hz11:=hs11.size
   -- what stands behind the draw
   have hs911 : ∀ b,b < w9.heap.size → b ≠ gc → b ≠ g → w11.heap[b]? = w9.heap[b]?:=fun b h1 h2 h3=>hs11.block b ⟨h1,h2,h3⟩
   have holl : Same (fun i=>i < wl.heap.size ∧ i ≠ gc) wl w11:=Same.trans (S:=fun i=>i < wl.heap.size ∧ i ≠ gc) (T:=fun i=>i < w9.heap.size ∧ i ≠ gc ∧ i ≠ g) (HOW9.out.mono (fun i hi=>hi)) hs11 (fun i hi=>⟨by have:=hi.1; omega,hi.2,by have:=hi.1; omega⟩)
   have hb11c:=holl.blk HBCL.out ⟨by omega,by omega⟩
   have hrow11 : w11.ownsRow W.heap.size 57 6 (.slice A nl c) nl (l.flatMap encCh):=ownsRow_own (ownsRow_same HOWN.out HKL.out (fun i hi=>hi.2)) holl (fun b hb=>by have:=HOWN.out.lt b hb; exact ⟨by omega,by omega⟩)
   have hS11 : ∀ i,(S i ∨ (W.heap.size ≤ i ∧ i < wr.heap.size)) → i < wl.heap.size ∧ i ≠ gc:=fun i hi=>by
    rcases hi with h | h
    ·have:=HS.out i h; exact ⟨by omega,this.2⟩
    ·exact ⟨by omega,by omega⟩
   have hout11:=(HLROW.out.keep (holl.mono hS11)).more (T:=Bw w11) (fun i hi=>by have:=(hS11 i hi).1; show i < w11.heap.size; omega)
   have hcd11:=(HCWL.out.keep (holl.mono hS11)).more (T:=Bw w11) (fun i hi=>by have:=(hS11 i hi).1; show i < w11.heap.size; omega)
   have howW : Only gc W w11:=Same.trans (S:=fun i=>i < W.heap.size ∧ i ≠ gc) (T:=fun i=>i < wl.heap.size ∧ i ≠ gc) (HKWL.out.mono (fun i hi=>hi)) holl (fun i hi=>⟨by have:=hi.1; omega,hi.2⟩)
   have htry : ∀ (u : World),Keep w11 u → ∀ v,u.ownsRow w11.heap.size 57 6 v (nl + 1) ((l ++ [(⟨y0,y1,y2,y3,y4,y5⟩ : Chc)]).flatMap encCh) → u.heap.size = u.heap.size → ∃ (Ab : Option Addr) (cb : Nat),v = .slice Ab (nl + 1) cb ∧ Calls Tryz.prog 13 #[.agg #[.slice AC n cC,.int .i64 x1,.int .i64 x2],.slice Ab (nl + 1) cb] u (fun e w'=>∃ (q8 : Value) (q : Int),e = .returned (.tuple #[q8,.int .i64 q]) ∧ (q = 0 → ∃ m,runI cs (l ++ [(⟨y0,y1,y2,y3,y4,y5⟩ : Chc)]) = .ok m) ∧ Keep u w'):=fun u hu v hv _=>by
    have hlen : (l ++ [(⟨y0,y1,y2,y3,y4,y5⟩ : Chc)]).length = nl + 1:=by rw [List.length_append,← HNL.out]; rfl
    obtain ⟨Ab,cb,he,hsl⟩:=Sl.of_own (w:=u) (enc:=encCh) (l:=l ++ [(⟨y0,y1,y2,y3,y4,y5⟩ : Chc)]) (v:=v) (base:=w11.heap.size) (size:=6) (e:=57) (by rw [hlen]; exact hv)
    subst he
    rw [hlen] at hsl ⊢
    refine ⟨Ab,cb,rfl,?_⟩
    refine (rfplay_any u (Bw u) AC Ab n cC (nl + 1) cb x1 x2 cs (l ++ [(⟨y0,y1,y2,y3,y4,y5⟩ : Chc)]) (fun i hi=>hi) ((hcd11.keep hu).more (fun i hi=>Nat.lt_of_lt_of_le hi hu.size)) HIC.out (hsl.more (fun i hi=>hi.2)) (by omega) (by omega)).mono ?_
    rintro e w' ⟨hk,⟨m9,A9,c9,hr9,rfl,-⟩ | ⟨k9,hr9,hk9,rfl⟩⟩
    ·exact ⟨_,0,rfl,fun _=>⟨m9,hr9⟩,hk⟩
    ·exact ⟨_,k9,rfl,fun h=>absurd h hk9,hk⟩
   clear hs911 hS11
   have HOUT:=Lib.hid hout11
   have HTRY:=Lib.hid htry
   clear hout11 htry
   have HBY:=Lib.hid hby
   have HC11:=Lib.hid hc11
   have HB11C:=Lib.hid hb11c
   have HROW11:=Lib.hid hrow11
   have HOWW:=Lib.hid howW
   have HCD11:=Lib.hid hcd11
   clear hby hc11 hb11c hrow11 howW hcd11
   clear holl hs11
   clear HSTS HML HOW9 HO49 HC9 HB9
   go_upto_region 21 with fail
   go_cut [18,19] from 119 to 128 (fun _ q wx=>ChsTry cs l ⟨y0,y1,y2,y3,y4,y5⟩ w11 q wx)
   case first=>
    refine wp_region_L 99 (fun _=>True) (fun wx=>Keep w11 wx) (by kernel_rfl) trivial (Same.drew (Same.refl _ _)) (fun hA hB=>?_)
    generalize hu0 : w11.drew = u0 at hB ⊢
    clear hu0
    have hzu:=hB.size
    refine wpL_takeB (i:=0) rfl (by kernel_rfl) (by kernel_rfl) (by kernel_rfl) (by decide) (fun _ _ _ h=>h) (yieldsIf_blk (by rfl) _ _ rfl w.heap.size 0 27 _ [.slice AC n cC,.int .i64 x1,.int .i64 x2] _ rfl (fun wx hx=>hx.blk HB11C.out HB11C.out.lt) (fun j u hu=>by simpa using hu) Tryz.underlying27 rfl (by kernel_rfl)) (SAB.both hA hB) ?_
    try simp only [Act.put,List.setIfInBounds_toArray,List.set_cons_zero,List.set_cons_succ]
    refine wpL_takeB (i:=1) (v:=?_) rfl (by kernel_rfl) (by kernel_rfl) (by kernel_rfl) (by decide) (fun _ _ _ h=>h) (Or.inl ⟨by rfl,?_⟩) (SAB.both hA hB) ?_
    rotate_left
    ·intro wx hBx
     (try dsimp only at hBx)
     go_simp
     try with_reducible rfl
    try simp only [Act.put,List.setIfInBounds_toArray,List.set_cons_zero,List.set_cons_succ]
    refine wpL_takeB (i:=3) rfl (by kernel_rfl) (by kernel_rfl) (by kernel_rfl) (by decide) (fun _ _ _ h=>h) (yieldsIf_blk (by rfl) _ _ rfl g 0 57 _ [.int .i64 y0,.int .i64 y1,.int .i64 y2,.int .i64 y3,.int .i64 y4,.int .i64 y5] _ rfl (fun wx hx=>hx.blk HBY.out HBY.out.lt) (fun j u hu=>by simpa [encCh] using hu) Tryz.underlying57 rfl (by kernel_rfl)) (SAB.both hA hB) ?_
    try simp only [Act.put,List.setIfInBounds_toArray,List.set_cons_zero,List.set_cons_succ]
    refine wpL_two (i:=2) (j:=4) (by kernel_rfl) (StepL.mk rfl (fun K hK=>?_)) (StepL.mk rfl (fun K hK=>?_))
    ·refine step_append_any _ (by rfl) (.const (.slice none 0 0)) (.tmp 121) _ (by rfl) u0.heap.size 57 i0 _ 6 48 Tryz.underlying23 HI0.out IZ0.out IS0.out IB0.out rfl (by omega) (.slice none 0 0) 0 [] (by rfl) (World.ownsRow_nil _ _ _ _) _ A nl c (l.flatMap encCh) (by rfl) (HOUT.out.keep hB).2.2.2 (one_of encCh_one _) (by simp [maxLen]; omega) (by omega) (Nat.le_refl _) ?_
     intro va wa howna hga hata
     have hB1 : Keep u0 wa:=Same.append (Same.refl _ _) (World.ownsRow_nil _ u0.heap.size 57 6) hga (fun i hi=>hi) (Nat.le_refl _)
     have hB2:=Keep.trans hB hB1
     have howna' : wa.ownsRow u0.heap.size 57 6 va nl (l.flatMap encCh):=by simpa using howna
     refine hK.out _ _ (SAB.both trivial hB2) (fun hSS=>?_)
     clear hK K hA hB
     have hB:=hSS.2
     have hA:=hSS.1 (by kernel_rfl)
     (try dsimp only at hB); (try dsimp only at hA); clear hSS
     try simp only [Act.put,List.setIfInBounds_toArray,List.set_cons_zero,List.set_cons_succ]
     refine wpL_one (i:=4) (by kernel_rfl) (StepL.mk rfl (fun K hK=>?_))
     refine step_buildS rfl _ _ _ _ rfl Tryz.underlying23 _ [(0,.agg #[.int .i64 y0,.int .i64 y1,.int .i64 y2,.int .i64 y3,.int .i64 y4,.int .i64 y5])] rfl (built_ch1 _ _ _ _ _ _) ?_
     have hk1 : Keep wa (wa.alloc (.cells #[.int .i64 y0,.int .i64 y1,.int .i64 y2,.int .i64 y3,.int .i64 y4,.int .i64 y5] 57)):=Keep.new _ _
     have hrd:=Reads.new (w:=wa) (e:=57) (cs:=[.int .i64 y0,.int .i64 y1,.int .i64 y2,.int .i64 y3,.int .i64 y4,.int .i64 y5]) (size:=6) (n:=1) rfl
     have hB3:=Keep.trans hB2 hk1
     refine hK.out _ _ (SAB.both trivial hB3) (fun hSS=>?_)
     clear hK K hA hB
     have hB:=hSS.2
     have hA:=hSS.1 (by kernel_rfl)
     (try dsimp only at hB); (try dsimp only at hA); clear hSS
     try simp only [Act.put,List.setIfInBounds_toArray,List.set_cons_zero,List.set_cons_succ]
     generalize hwb : wa.alloc (.cells #[.int .i64 y0,.int .i64 y1,.int .i64 y2,.int .i64 y3,.int .i64 y4,.int .i64 y5] 57) = wb at *
     clear hwb
     have hownb':=ownsRow_same howna' hk1 (fun i hi=>hi.2)
     have hzb:=hk1.size
     have hza:=hB1.size
     refine wpL_one (i:=5) (by kernel_rfl) (StepL.mk rfl (fun K hK=>?_))
     refine step_append_any _ (by rfl) (.tmp 122) (.tmp 124) _ (by rfl) u0.heap.size 57 i0 _ 6 48 Tryz.underlying23 HI0.out IZ0.out IS0.out IB0.out rfl (by omega) va nl (l.flatMap encCh) (by rfl) hownb' _ (some ⟨wa.heap.size,0,none⟩) 1 1 [.int .i64 y0,.int .i64 y1,.int .i64 y2,.int .i64 y3,.int .i64 y4,.int .i64 y5] (by rfl) hrd (encCh_one ⟨y0,y1,y2,y3,y4,y5⟩) (by simp [maxLen]; omega) (by omega) (by omega) ?_
     intro vb wd hownd' hgd hatd
     have hB4 : Keep w11 wd:=Same.append hB3 hownb' hgd (fun i hi=>by omega) (by omega)
     have hownd : wd.ownsRow w11.heap.size 57 6 vb (nl + 1) ((l ++ [(⟨y0,y1,y2,y3,y4,y5⟩ : Chc)]).flatMap encCh):=by have:=ownsRow_less hownd' hzu; simpa [encCh] using this
     refine hK.out _ _ (SAB.both trivial hB4) (fun hSS=>?_)
     clear hK K hA hB
     have hB:=hSS.2
     have hA:=hSS.1 (by kernel_rfl)
     (try dsimp only at hB); (try dsimp only at hA); clear hSS
     try simp only [Act.put,List.setIfInBounds_toArray,List.set_cons_zero,List.set_cons_succ]
     refine wpL_one (i:=6) (by kernel_rfl) (StepL.mk rfl (fun K hK=>?_))
     go_simp
     have hcall:=HTRY.out wd (Keep.trans hB4 (Same.refl _ _)) vb hownd rfl
     obtain ⟨Ab,cb,hvb,hcall⟩:=hcall
     subst hvb
     refine hcall.mono ?_
     rintro e w30 ⟨q8,q,rfl,hq,hk30⟩
     have hB5:=Keep.trans hB4 hk30
     refine hK.out _ _ (SAB.both trivial hB5) (fun hSS=>?_)
     clear hK K hA hB
     have hB:=hSS.2
     have hA:=hSS.1 (by kernel_rfl)
     (try dsimp only at hB); (try dsimp only at hA); clear hSS
     try simp only [Act.put,List.setIfInBounds_toArray,List.set_cons_zero,List.set_cons_succ]
     refine wpL_takeB (i:=7) (v:=?_) rfl (by kernel_rfl) (by kernel_rfl) (by kernel_rfl) (by decide) (fun _ _ _ h=>h) (Or.inl ⟨by rfl,?_⟩) (SAB.both hA hB) ?_
     rotate_left
     ·intro wx hBx
      (try dsimp only at hBx)
      go_simp
      try with_reducible rfl
     try simp only [Act.put,List.setIfInBounds_toArray,List.set_cons_zero,List.set_cons_succ]
     refine wpL_takeB (i:=8) (v:=?_) rfl (by kernel_rfl) (by kernel_rfl) (by kernel_rfl) (by decide) (fun _ _ _ h=>h) (Or.inl ⟨by rfl,?_⟩) (SAB.both hA hB) ?_
     rotate_left
     ·intro wx hBx
      (try dsimp only at hBx)
      go_simp
      try with_reducible rfl
     try simp only [Act.put,List.setIfInBounds_toArray,List.set_cons_zero,List.set_cons_succ]
     refine wpL_takeB (i:=9) (v:=?_) rfl (by kernel_rfl) (by kernel_rfl) (by kernel_rfl) (by decide) (fun _ _ _ h=>h) (Or.inl ⟨by rfl,?_⟩) (SAB.both hA hB) ?_
     rotate_left
     ·intro wx hBx
      (try dsimp only at hBx)
      go_simp
      try with_reducible rfl
     try simp only [Act.put,List.setIfInBounds_toArray,List.set_cons_zero,List.set_cons_succ]
     refine wpL_takeB (i:=10) (v:=?_) rfl (by kernel_rfl) (by kernel_rfl) (by kernel_rfl) (by decide) (fun _ _ _ h=>h) (Or.inl ⟨by rfl,?_⟩) (SAB.both hA hB) ?_
     rotate_left
     ·intro wx hBx
      (try dsimp only at hBx)
      go_simp
      try with_reducible rfl
     try simp only [Act.put,List.setIfInBounds_toArray,List.set_cons_zero,List.set_cons_succ]
     refine wpL_takeB (i:=11) (v:=?_) rfl (by kernel_rfl) (by kernel_rfl) (by kernel_rfl) (by decide) (fun _ _ _ h=>h) (Or.inl ⟨by rfl,?_⟩) (SAB.both hA hB) ?_
     rotate_left
     ·intro wx hBx
      (try dsimp only at hBx)
      go_simp
      try with_reducible rfl
     try simp only [Act.put,List.setIfInBounds_toArray,List.set_cons_zero,List.set_cons_succ]
     refine wpL_done (by kernel_rfl) ?_
     have hfin : ChsTry cs l ⟨y0,y1,y2,y3,y4,y5⟩ w11 (.int .i64 q) w30:=⟨q,rfl,hq,hB5⟩
     have HFIN:=Lib.hid hfin
     clear hfin
     clear hB5 hB4 hk30 hq hcall hA hB
     go_wp2_with fail
     go_meet
     exact HFIN.out
    ·refine step_buildS rfl _ _ _ _ rfl Tryz.underlying23 _ [(0,.agg #[.int .i64 y0,.int .i64 y1,.int .i64 y2,.int .i64 y3,.int .i64 y4,.int .i64 y5])] rfl (built_ch1 _ _ _ _ _ _) ?_
     have hk1 : Keep u0 (u0.alloc (.cells #[.int .i64 y0,.int .i64 y1,.int .i64 y2,.int .i64 y3,.int .i64 y4,.int .i64 y5] 57)):=Keep.new _ _
     have hrd:=Reads.new (w:=u0) (e:=57) (cs:=[.int .i64 y0,.int .i64 y1,.int .i64 y2,.int .i64 y3,.int .i64 y4,.int .i64 y5]) (size:=6) (n:=1) rfl
     have hB1:=Keep.trans hB hk1
     have hlt1 : u0.heap.size < (u0.alloc (.cells #[.int .i64 y0,.int .i64 y1,.int .i64 y2,.int .i64 y3,.int .i64 y4,.int .i64 y5] 57)).heap.size:=by simp
     refine hK.out _ _ (SAB.both trivial hB1) (fun hSS=>?_)
     clear hK K hA hB
     have hB:=hSS.2
     have hA:=hSS.1 (by kernel_rfl)
     (try dsimp only at hB); (try dsimp only at hA); clear hSS
     try simp only [Act.put,List.setIfInBounds_toArray,List.set_cons_zero,List.set_cons_succ]
     generalize hwb : u0.alloc (.cells #[.int .i64 y0,.int .i64 y1,.int .i64 y2,.int .i64 y3,.int .i64 y4,.int .i64 y5] 57) = wa at *
     clear hwb
     refine wpL_one (i:=2) (by kernel_rfl) (StepL.mk rfl (fun K hK=>?_))
     refine step_append_any _ (by rfl) (.const (.slice none 0 0)) (.tmp 121) _ (by rfl) wa.heap.size 57 i0 _ 6 48 Tryz.underlying23 HI0.out IZ0.out IS0.out IB0.out rfl (by omega) (.slice none 0 0) 0 [] (by rfl) (World.ownsRow_nil _ _ _ _) _ A nl c (l.flatMap encCh) (by rfl) (HOUT.out.keep hB1).2.2.2 (one_of encCh_one _) (by simp [maxLen]; omega) (by omega) (Nat.le_refl _) ?_
     intro va wb howna hga hata
     have hk2 : Keep wa wb:=Same.append (Same.refl _ _) (World.ownsRow_nil _ wa.heap.size 57 6) hga (fun i hi=>hi) (Nat.le_refl _)
     have hB2:=Keep.trans hB1 hk2
     have howna' : wb.ownsRow wa.heap.size 57 6 va nl (l.flatMap encCh):=by simpa using howna
     refine hK.out _ _ (SAB.both trivial hB2) (fun hSS=>?_)
     clear hK K hA hB
     have hB:=hSS.2
     have hA:=hSS.1 (by kernel_rfl)
     (try dsimp only at hB); (try dsimp only at hA); clear hSS
     try simp only [Act.put,List.setIfInBounds_toArray,List.set_cons_zero,List.set_cons_succ]
     have hzb:=hk2.size
     refine wpL_one (i:=5) (by kernel_rfl) (StepL.mk rfl (fun K hK=>?_))
     refine step_append_any _ (by rfl) (.tmp 122) (.tmp 124) _ (by rfl) wa.heap.size 57 i0 _ 6 48 Tryz.underlying23 HI0.out IZ0.out IS0.out IB0.out rfl (by omega) va nl (l.flatMap encCh) (by rfl) howna' _ (some ⟨u0.heap.size,0,none⟩) 1 1 [.int .i64 y0,.int .i64 y1,.int .i64 y2,.int .i64 y3,.int .i64 y4,.int .i64 y5] (by rfl) (hrd.keep (hk2.mono (fun i hi=>by omega))) (encCh_one ⟨y0,y1,y2,y3,y4,y5⟩) (by simp [maxLen]; omega) (by omega) (by omega) ?_
     intro vb wd hownd' hgd hatd
     have hB4 : Keep w11 wd:=Same.append hB2 howna' hgd (fun i hi=>by have:=hB1.size; omega) (by omega)
     have hownd : wd.ownsRow w11.heap.size 57 6 vb (nl + 1) ((l ++ [(⟨y0,y1,y2,y3,y4,y5⟩ : Chc)]).flatMap encCh):=by have:=ownsRow_less hownd' (Nat.le_trans hzu (Nat.le_of_lt hlt1)); simpa [encCh] using this
     refine hK.out _ _ (SAB.both trivial hB4) (fun hSS=>?_)
     clear hK K hA hB
     have hB:=hSS.2
     have hA:=hSS.1 (by kernel_rfl)
     (try dsimp only at hB); (try dsimp only at hA); clear hSS
     try simp only [Act.put,List.setIfInBounds_toArray,List.set_cons_zero,List.set_cons_succ]
     refine wpL_one (i:=6) (by kernel_rfl) (StepL.mk rfl (fun K hK=>?_))
     go_simp
     have hcall:=HTRY.out wd (Keep.trans hB4 (Same.refl _ _)) vb hownd rfl
     obtain ⟨Ab,cb,hvb,hcall⟩:=hcall
     subst hvb
     refine hcall.mono ?_
     rintro e w30 ⟨q8,q,rfl,hq,hk30⟩
     have hB5:=Keep.trans hB4 hk30
     refine hK.out _ _ (SAB.both trivial hB5) (fun hSS=>?_)
     clear hK K hA hB
     have hB:=hSS.2
     have hA:=hSS.1 (by kernel_rfl)
     (try dsimp only at hB); (try dsimp only at hA); clear hSS
     try simp only [Act.put,List.setIfInBounds_toArray,List.set_cons_zero,List.set_cons_succ]
     refine wpL_takeB (i:=7) (v:=?_) rfl (by kernel_rfl) (by kernel_rfl) (by kernel_rfl) (by decide) (fun _ _ _ h=>h) (Or.inl ⟨by rfl,?_⟩) (SAB.both hA hB) ?_
     rotate_left
     ·intro wx hBx
      (try dsimp only at hBx)
      go_simp
      try with_reducible rfl
     try simp only [Act.put,List.setIfInBounds_toArray,List.set_cons_zero,List.set_cons_succ]
     refine wpL_takeB (i:=8) (v:=?_) rfl (by kernel_rfl) (by kernel_rfl) (by kernel_rfl) (by decide) (fun _ _ _ h=>h) (Or.inl ⟨by rfl,?_⟩) (SAB.both hA hB) ?_
     rotate_left
     ·intro wx hBx
      (try dsimp only at hBx)
      go_simp
      try with_reducible rfl
     try simp only [Act.put,List.setIfInBounds_toArray,List.set_cons_zero,List.set_cons_succ]
     refine wpL_takeB (i:=9) (v:=?_) rfl (by kernel_rfl) (by kernel_rfl) (by kernel_rfl) (by decide) (fun _ _ _ h=>h) (Or.inl ⟨by rfl,?_⟩) (SAB.both hA hB) ?_
     rotate_left
     ·intro wx hBx
      (try dsimp only at hBx)
      go_simp
      try with_reducible rfl
     try simp only [Act.put,List.setIfInBounds_toArray,List.set_cons_zero,List.set_cons_succ]
     refine wpL_takeB (i:=10) (v:=?_) rfl (by kernel_rfl) (by kernel_rfl) (by kernel_rfl) (by decide) (fun _ _ _ h=>h) (Or.inl ⟨by rfl,?_⟩) (SAB.both hA hB) ?_
     rotate_left
     ·intro wx hBx
      (try dsimp only at hBx)
      go_simp
      try with_reducible rfl
     try simp only [Act.put,List.setIfInBounds_toArray,List.set_cons_zero,List.set_cons_succ]
     refine wpL_takeB (i:=11) (v:=?_) rfl (by kernel_rfl) (by kernel_rfl) (by kernel_rfl) (by decide) (fun _ _ _ h=>h) (Or.inl ⟨by rfl,?_⟩) (SAB.both hA hB) ?_
     rotate_left
     ·intro wx hBx
      (try dsimp only at hBx)
      go_simp
      try with_reducible rfl
     try simp only [Act.put,List.setIfInBounds_toArray,List.set_cons_zero,List.set_cons_succ]
     refine wpL_done (by kernel_rfl) ?_
     have hfin : ChsTry cs l ⟨y0,y1,y2,y3,y4,y5⟩ w11 (.int .i64 q) w30:=⟨q,rfl,hq,hB5⟩
     have HFIN:=Lib.hid hfin
     clear hfin
     clear hB5 hB4 hk30 hq hcall hA hB
     go_wp2_with fail
     go_meet
     exact HFIN.out
   case rest=>
    obtain ⟨w31,hw31⟩ : ∃ w31 : World,w31 = wc:=⟨_,rfl⟩
    subst hw31
    obtain ⟨k9,rfl,hk9,hk31⟩:=hcut
    have hz31:=hk31.size
    have hrow31:=ownsRow_same HROW11.out hk31 (fun i hi=>hi.2)
    have hc31:=HC11.out.keep hk31
    have how31:=Only.keep HOWW.out hk31
    have hby31:=hk31.blk HBY.out HBY.out.lt
    cases hq : (k9 == 0)
    ·have hfin : ChsRel cs B gc W (.slice A nl c) w31:=⟨l,m',by rw [← HNL.out]; exact hrow31,by have:=HNL.out; omega,HRUN.out,⟨_,hc31⟩,how31⟩
     have hms : codLeft w31 gc < codLeft wr gc:=by rw [hc31.left,HCRL.out]; omega
     have HFIN:=Lib.hid hfin
     have HMS:=Lib.hid hms
     clear hfin hms
     clear hrow31 hc31 how31 hby31 hk9 hk31
     go_wp2_with fail
     go_roundw
     case rel=>exact HFIN.out
     case measure=>exact HMS.out
    ·have hk0' : k9 = 0:=by simpa using hq
     obtain ⟨m2,hm2⟩:=hk9 hk0'
     clear hk0' hk9
     have HROW31:=Lib.hid hrow31
     have HC31:=Lib.hid hc31
     have HOW31:=Lib.hid how31
     have HBY31:=Lib.hid hby31
     have HM2:=Lib.hid hm2
     clear hrow31 hc31 how31 hby31 hm2
     clear hk31
     go_upto_region 23 with fail
     go_wp2_with (first
      | (refine wpList_load_all rfl _ (.tmp 13) rfl g 57 [.int .i64 y0,.int .i64 y1,.int .i64 y2,.int .i64 y3,.int .i64 y4,.int .i64 y5] _ rfl HBY31.out Tryz.underlying57 rfl (by kernel_rfl) ?_)
      | (refine wpList_buildX rfl 23 57 1 _ rfl Tryz.underlying23 _ [(0,.agg #[.int .i64 y0,.int .i64 y1,.int .i64 y2,.int .i64 y3,.int .i64 y4,.int .i64 y5])] rfl (built_ch1 _ _ _ _ _ _) ?_; intro w32 hb32 hk32 hz32; refine Hid.out ?_))
     refine Lib.hid ?_
     have hown32:=ownsRow_same HROW31.out hk32 (fun i hi=>hi.2)
     have hrd : Reads w32 (fun i=>i = w31.heap.size) 6 (some ⟨w31.heap.size,0,none⟩) 1 [.int .i64 y0,.int .i64 y1,.int .i64 y2,.int .i64 y3,.int .i64 y4,.int .i64 y5]:=⟨rfl,fun _=>⟨w31.heap.size,0,rfl,rfl,fun j u hu=>by rw [hb32.cell]; simpa using hu⟩⟩
     have HOWN32:=Lib.hid hown32
     have HRD:=Lib.hid hrd
     have HK32:=Lib.hid hk32
     clear hown32 hrd hk32
     clear hb32
     go_wp2_with (at_builtin; refine wpList_append_any _ rfl (.tmp 131) (.tmp 133) 23 rfl W.heap.size 57 i0 _ 6 48 Tryz.underlying23 HI0.out IZ0.out IS0.out IB0.out rfl (by omega) (.slice A nl c) nl (l.flatMap encCh) rfl HOWN32.out _ (some ⟨w31.heap.size,0,none⟩) 1 1 [.int .i64 y0,.int .i64 y1,.int .i64 y2,.int .i64 y3,.int .i64 y4,.int .i64 y5] rfl HRD.out (encCh_one ⟨y0,y1,y2,y3,y4,y5⟩) (by simp [maxLen]; omega) (by omega) (by omega) ?_; intro v33 w33 howz hgz hatz; have HOW33:=Lib.hid howz; have HG33:=Lib.hid hgz; have HAT33:=Lib.hid hatz; clear howz hgz hatz; refine Hid.out ?_)
     refine Lib.hid ?_
     have ho33 : Only gc W w33:=Same.append (Only.keep HOW31.out HK32.out) HOWN32.out HG33.out (fun i hi=>hi.1) (by omega)
     have hc33 : Cod w33 B gc r2:=(HC31.out.keep HK32.out).same (Same.append (Same.refl _ _) HOWN32.out HG33.out (fun i hi=>by have:=HBW.out i hi; omega) (by omega))
     have hfin : ChsRel cs B gc W v33 w33:=⟨l ++ [(⟨y0,y1,y2,y3,y4,y5⟩ : Chc)],m2,by have:=HOW33.out; rw [List.length_append,← HNL.out]; simpa [encCh] using this,by rw [List.length_append,← HNL.out]; simp; omega,HM2.out,⟨_,hc33⟩,ho33⟩
     have hms : codLeft w33 gc < codLeft wr gc:=by rw [hc33.left,HCRL.out]; omega
     have HFIN:=Lib.hid hfin
     have HMS:=Lib.hid hms
     clear hfin hms
     clear ho33 hc33 HOW33 HG33 HAT33
     go_wp2_with fail
     go_roundw
     case rel=>exact HFIN.out
     case measure=>exact HMS.out
end Go.Proofs.YtipegaojiokppaaGreatDoor
namespace Go.Proofs.YtipegaojiokppaaGreatDoor
open Go.RowKit Go.Proofs
theorem results_cell_tmp_tmp {fn : Func} {p u q : Tmp} {ty : TypeId} (h : fn.results = #[.cell p ty,.tmp u,.tmp q]) (tmps : Array Value) (P : Program) (w : World) (a : Addr) (v x y : Value)
  (hp : tmps.getD p undef = .pointer (some a)) (hx : tmps.getD u undef = x) (hy : tmps.getD q undef = y) (hl : (loadVar ty a).run P w = .ok v w) : (results fn tmps).run P w = .ok (.tuple #[v,x,y]) w:=by
 simp only [results,h]
 simp only [Array.getD_eq_getD_getElem?] at hp hx hy
 simp [Sem.run_bind,Result.andThen,hp,asAddr,hl,hx,hy]
def ScS (w w' : World) (gc i : Nat) : Prop:=w.heap.size ≤ i ∧ i < w'.heap.size ∧ i ≠ gc
def ScnPost (w : World) (e : Ending) (w' : World) : Prop:=
 ∃ (AC : Option Addr) (n cC : Nat) (v : Int) (cs : List Cd) (AL : Option Addr) (c : Nat) (l : List Chc) (m : Mi) (gc r : Nat) (B : Nat → Prop),e = .returned (.tuple #[.agg #[.slice AC n cC,.int .i64 1,.int .i64 v],.slice AL l.length c,.pointer (some ⟨gc,0,none⟩)]) ∧
  CdsR w' (ScS w w' gc) AC n cC cs ∧ 2 ≤ n ∧ n ≤ 3 ∧ (∀ c ∈ cs,c.init.length ≤ 1000000) ∧ Sl encCh 6 w' (ScS w w' gc) AL l.length c l ∧ l.length ≤ 25 ∧ runI cs l = .ok m ∧ Cod w' B gc r ∧ (∀ i,B i → i < w.heap.size ∨ i = gc) ∧ w.heap.size ≤ gc ∧ Keep w w'
set_option maxHeartbeats 16000000 in
theorem scene_any (w : World) (A : Option Addr) (n0 c0 : Nat) (zs : List Int) (hg : Glob w) (hz : Sl encB 1 w (· < w.heap.size) A n0 c0 zs) (hz8 : ∀ y ∈ zs,0 ≤ y ∧ y < 256) : Calls Tryz.prog 10 #[.slice A n0 c0] w (ScnPost w):=by
 generalize hW : w.alloc (.cells #[.slice none 0 0,.int .i64 0,.int .i64 0] 27) = W
 have hkW : Keep w W:=hW ▸ Keep.new w _
 have hbr : Blk W w.heap.size 27 #[.slice none 0 0,.int .i64 0,.int .i64 0]:=hW ▸ Blk.new w _ _
 have hzW:=hbr.lt
 have HKW:=Lib.hid hkW
 have HBR:=Lib.hid hbr
 have HZ:=Lib.hid hz
 have HZ8:=Lib.hid hz8
 have HG:=Lib.hid hg
 clear hkW hbr hz hz8 hg
 go_enter Tryz.func10,Tryz.ntmps10
 go_upto_region 1 with fail
 clear hW
 go_wp2_with fail
 refine (new_any W A n0 c0 250 zs (fun i=>i < w.heap.size) (fun i hi=>by omega) (HZ.out.keep HKW.out) HZ8.out (by omega)).mono ?_
 rintro e w2 ⟨r,hr,rfl,hc2,hk2⟩
 have hz2:=hk2.size
 have hg2:=HG.out.keep (Keep.trans HKW.out hk2)
 have hgc:=hc2.lt
 have hbr2:=hk2.blk HBR.out hzW
 have hk02:=Keep.trans HKW.out hk2
 have hgw : w.heap.size < W.heap.size:=hzW
 generalize hgce : W.heap.size = gc at *
 have HG2:=Lib.hid hg2
 have HC2:=Lib.hid hc2
 have HBR2:=Lib.hid hbr2
 have HK02:=Lib.hid hk02
 clear hg2 hc2 hbr2 hk02
 clear hk2
 go_wp2_with fail
 refine (config_any w2 _ gc r HC2.out HG2.out).mono ?_
 rintro e w3 ⟨AC,n,cC,v,cs,r3,rfl,hcd,hn2,hn3,hini,hc3,ho3⟩
 have hz3:=ho3.size
 have hbr3:=ho3.blk HBR2.out ⟨by omega,by omega⟩
 have HCD:=Lib.hid hcd
 have HINI:=Lib.hid hini
 have HC3:=Lib.hid hc3
 have HBR3:=Lib.hid hbr3
 have HO3:=Lib.hid ho3
 clear hcd hini hc3 hbr3 ho3
 go_upto_region 3 with (refine wpList_store_all rfl _ (.tmp 6) (.tmp 10) rfl w3.heap.size 27 _ [.slice AC n cC,.int .i64 1,.int .i64 v] rfl rfl (Blk.new _ _ _) rfl (by kernel_rfl) rfl ?_; intro w4 hb4 hs4)
 have hk4 : Keep w3 w4:=Keep.write (Keep.new _ _) hs4 (Nat.le_refl _)
 have hz4 : w3.heap.size < w4.heap.size:=hb4.lt
 have hbr4:=hk4.blk HBR3.out (by omega)
 have hc4:=HC3.out.keep hk4
 have hcd4 : CdsR w4 (fun i=>w2.heap.size ≤ i ∧ i < w3.heap.size) AC n cC cs:=(HCD.out.keep (hk4.mono (fun i (hi : New w3 w2.heap.size i)=>hi.2))).more (fun i hi=>hi)
 have ho24 : Only gc w2 w4:=Only.keep HO3.out hk4
 have HB4:=Lib.hid hb4
 have HBR4:=Lib.hid hbr4
 have HC4:=Lib.hid hc4
 have HCD4:=Lib.hid hcd4
 have HO24:=Lib.hid ho24
 clear hb4 hbr4 hc4 hcd4 ho24
 clear hs4 hk4
 refine wp_region_L 5 (fun wx=>Only gc w4 wx) (fun wx=>Same (fun i=>i < w4.heap.size ∧ i ≠ gc ∧ i ≠ w.heap.size) w4 wx) (by kernel_rfl) (Same.drew (Same.refl _ _)) (Same.drew (Same.refl _ _)) (fun hA hB=>?_)
 have hku : Keep w4 w4.drew:=Same.drew (Same.refl _ _)
 generalize hu0 : w4.drew = u0 at hA hB hku ⊢
 clear hu0
 have hzu:=hku.size
 refine wpL_takeA (i:=0) rfl (by kernel_rfl) (by kernel_rfl) (by kernel_rfl) (by kernel_rfl) (by decide) (fun _ _ _ h=>h) (yieldsIf_blk (by rfl) _ _ rfl w3.heap.size 0 27 _ [.slice AC n cC,.int .i64 1,.int .i64 v] _ rfl (fun wx hx=>hx.1.blk HB4.out ⟨HB4.out.lt,by omega⟩) (fun j u hu=>by simpa using hu) Tryz.underlying27 rfl (by kernel_rfl)) hA hB ?_
 try simp only [Act.put,List.setIfInBounds_toArray,List.set_cons_zero,List.set_cons_succ]
 refine wpL_takeB (i:=1) (v:=?_) rfl (by kernel_rfl) (by kernel_rfl) (by kernel_rfl) (by decide) (fun _ _ _ h=>h) (Or.inl ⟨by rfl,?_⟩) (SAB.both hA hB) ?_
 rotate_left
 ·intro wx hBx
  (try dsimp only at hBx)
  go_simp
  try with_reducible rfl
 try simp only [Act.put,List.setIfInBounds_toArray,List.set_cons_zero,List.set_cons_succ]
 refine wpL_takeB (i:=2) rfl (by kernel_rfl) (by kernel_rfl) (by kernel_rfl) (by decide) (fun _ _ _ h=>h) (yieldsIf_blk (by rfl) _ _ rfl w3.heap.size 0 27 _ [.slice AC n cC,.int .i64 1,.int .i64 v] _ rfl (fun wx hx=>hx.blk HB4.out ⟨HB4.out.lt,by omega,by omega⟩) (fun j u hu=>by simpa using hu) Tryz.underlying27 rfl (by kernel_rfl)) (SAB.both hA hB) ?_
 try simp only [Act.put,List.setIfInBounds_toArray,List.set_cons_zero,List.set_cons_succ]
 refine wpL_takeB (i:=4) (v:=?_) rfl (by kernel_rfl) (by kernel_rfl) (by kernel_rfl) (by decide) (fun _ _ _ h=>h) (Or.inl ⟨by rfl,?_⟩) (SAB.both hA hB) ?_
 rotate_left
 ·intro wx hBx
  (try dsimp only at hBx)
  go_simp
  try with_reducible rfl
 try simp only [Act.put,List.setIfInBounds_toArray,List.set_cons_zero,List.set_cons_succ]
 refine wpL_one (i:=3) (by kernel_rfl) (StepL.mk rfl (fun K hK=>?_))
 go_simp
 refine (choices_any u0 (fun i=>w2.heap.size ≤ i ∧ i < w3.heap.size) _ gc r3 AC n cC 1 v cs (fun i hi=>⟨by omega,by omega⟩) (HC4.out.keep hku) (HCD4.out.keep (hku.mono (fun i hi=>by omega))) HINI.out hn2 (by omega)).mono ?_
 rintro e u1 ⟨AL,c,l,m,r5,rfl,hrow,hl25,hrun,hc5,ho5⟩
 have hzu1:=ho5.size
 have hA1 : Only gc w4 u1:=Only.trans hA ho5
 have hB1 : Same (fun i=>i < w4.heap.size ∧ i ≠ gc ∧ i ≠ w.heap.size) w4 u1:=hA1.mono (fun i hi=>⟨hi.1,hi.2.1⟩)
 refine hK.out _ _ (SAB.both hA1 hB1) (fun hSS=>?_)
 clear hK K hA hB
 have hB:=hSS.2
 have hA:=hSS.1 (by kernel_rfl)
 (try dsimp only at hB); (try dsimp only at hA); clear hSS
 try simp only [Act.put,List.setIfInBounds_toArray,List.set_cons_zero,List.set_cons_succ]
 refine wpL_one (i:=5) (by kernel_rfl) (StepL.mk rfl (fun K hK=>?_))
 refine step_store_blk rfl _ _ _ rfl w.heap.size 0 27 _ [.slice AC n cC,.int .i64 1,.int .i64 v] rfl rfl (hA1.blk HBR4.out ⟨HBR4.out.lt,by omega⟩) (by simp) (by kernel_rfl) rfl ?_
 intro u2 hb2 hs2
 rw [splice_all [.slice AC n cC,.int .i64 1,.int .i64 v] #[.slice none 0 0,.int .i64 0,.int .i64 0] rfl] at hb2
 have hzu2:=hs2.size
 have hB2 : Same (fun i=>i < w4.heap.size ∧ i ≠ gc ∧ i ≠ w.heap.size) w4 u2:=Same.trans hB1 hs2 (fun i hi=>hi.2.2)
 refine hK.out _ _ (SAB.past (by kernel_rfl) hB2) (fun hSS=>?_)
 clear hK K hA hB
 have hB:=hSS.2
 have hA : True:=trivial
 (try dsimp only at hB); (try dsimp only at hA); clear hSS
 try simp only [Act.put,List.setIfInBounds_toArray,List.set_cons_zero,List.set_cons_succ]
 refine wpL_takeB (i:=6) (v:=?_) rfl (by kernel_rfl) (by kernel_rfl) (by kernel_rfl) (by decide) (fun _ _ _ h=>h) (Or.inl ⟨by rfl,?_⟩) (SAB.past (by kernel_rfl) hB) ?_
 rotate_left
 ·intro wx hBx
  (try dsimp only at hBx)
  go_simp
  try with_reducible rfl
 try simp only [Act.put,List.setIfInBounds_toArray,List.set_cons_zero,List.set_cons_succ]
 refine wpL_takeB (i:=7) (v:=?_) rfl (by kernel_rfl) (by kernel_rfl) (by kernel_rfl) (by decide) (fun _ _ _ h=>h) (Or.inl ⟨by rfl,?_⟩) (SAB.past (by kernel_rfl) hB) ?_
 rotate_left
 ·intro wx hBx
  (try dsimp only at hBx)
  go_simp
  try with_reducible rfl
 try simp only [Act.put,List.setIfInBounds_toArray,List.set_cons_zero,List.set_cons_succ]
 refine wpL_done (by kernel_rfl) ?_
 obtain ⟨AL',c',he,hsl⟩:=Sl.of_own hrow
 simp only [Value.slice.injEq,true_and] at he
 obtain ⟨rfl,rfl⟩:=he
 have hcds : CdsR u2 (ScS w u2 gc) AC n cC cs:=(((HCD4.out.keep (hA1.mono (fun i hi=>⟨by omega,by omega⟩))).keep (hs2.mono (fun i hi=>by show i ≠ w.heap.size; omega))).more (fun i hi=>⟨by omega,by omega,by omega⟩))
 have hsl2 : Sl encCh 6 u2 (ScS w u2 gc) AL l.length c l:=(hsl.keep (hs2.mono (fun i hi=>by have:=hi.1; show i ≠ w.heap.size; omega))).more (fun i hi=>⟨by have:=hi.1; omega,by have:=hi.2; omega,by have:=hi.1; omega⟩)
 have hkf : Keep w u2:=Keep.write (Same.trans HK02.out (Only.trans HO24.out hA1) (fun i hi=>⟨by have:=HK02.out.size; omega,by omega⟩)) hs2 (Nat.le_refl _)
 have hfin : ScnPost w (.returned (.tuple #[.agg #[.slice AC n cC,.int .i64 1,.int .i64 v],.slice AL l.length c,.pointer (some ⟨gc,0,none⟩)])) u2:=⟨AC,n,cC,v,cs,AL,c,l,m,gc,r5,_,rfl,hcds,hn2,hn3,HINI.out,hsl2,hl25,hrun,hc5.write hs2 (fun hh=>by rcases hh with h | h <;> omega),fun i hi=>hi,by omega,hkf⟩
 have HFIN:=Lib.hid hfin
 have HB2:=Lib.hid hb2
 clear hfin hb2
 clear hcds hsl2 hkf hsl hrow hc5 ho5 hA1 hs2 hA hB hB1 hB2 hku
 go_wp2_with fail
 exact bodyPost_ret (results_cell_tmp_tmp Tryz.results10 _ _ _ ⟨w.heap.size,0,none⟩ _ _ _ rfl rfl rfl (loadVar_blk [.slice AC n cC,.int .i64 1,.int .i64 v] _ HB2.out (fun j v hv=>by simpa using hv) Tryz.underlying27 rfl (by kernel_rfl))) rfl HFIN.out
end Go.Proofs.YtipegaojiokppaaGreatDoor
namespace Go.Proofs.YtipegaojiokppaaGreatDoor
open Go.RowKit Go.Proofs
theorem play_ok (u : World) (AC AL : Option Addr) (n cC nl c : Nat) (x1 x2 : Int) (cs : List Cd) (l : List Chc) (m : Mi) (hcd : CdsR u (Bw u) AC n cC cs) (hini : ∀ c ∈ cs,c.init.length ≤ 1000000) (hsl : Sl encCh 6 u (Bw u) AL nl c l) (hn : n ≤ 1000) (hnl : nl ≤ 1000) (hrun : runI cs l = .ok m) :
  Calls Tryz.prog 12 #[.agg #[.slice AC n cC,.int .i64 x1,.int .i64 x2],.slice AL nl c] u (fun e w'=>∃ (A : Option Addr) (c' : Nat),e = .returned (.tuple #[.slice A n c',.int .i64 0]) ∧ SlR w' (Bw w') 4 (StR w' (Bw w')) A n c' m.ss ∧ Keep u w'):=by
 refine (iplay_any u (Bw u) AC AL n cC nl c x1 x2 cs l (fun i hi=>hi) hcd hini hsl hn hnl).mono ?_
 rintro e w' ⟨hk,⟨m',A',c',hrun',rfl,hs⟩ | ⟨k',hrun',-,-⟩⟩
 ·rw [hrun] at hrun'
  injection hrun' with hmm
  subst hmm
  have hlen : m.ss.length = n:=by rw [(runI_inv hrun).len]; exact hcd.1.symm
  rw [hlen] at hs
  rw [hlen]
  exact ⟨A',c',rfl,hs,hk⟩
 ·rw [hrun] at hrun'; cases hrun'
theorem play_err (u : World) (AC AL : Option Addr) (n cC nl c : Nat) (x1 x2 : Int) (cs : List Cd) (l : List Chc) (hcd : CdsR u (Bw u) AC n cC cs) (hini : ∀ c ∈ cs,c.init.length ≤ 1000000) (hsl : Sl encCh 6 u (Bw u) AL nl c l) (hn : n ≤ 1000) (hnl : nl ≤ 1000) (k : Int) (hrun : runI cs l = .error k) :
  Calls Tryz.prog 12 #[.agg #[.slice AC n cC,.int .i64 x1,.int .i64 x2],.slice AL nl c] u (fun e w'=>e = .returned (.tuple #[.slice none 0 0,.int .i64 k]) ∧ k ≠ 0 ∧ Keep u w'):=by
 refine (iplay_any u (Bw u) AC AL n cC nl c x1 x2 cs l (fun i hi=>hi) hcd hini hsl hn hnl).mono ?_
 rintro e w' ⟨hk,⟨m',A',c',hrun',rfl,hs⟩ | ⟨k',hrun',h0,rfl⟩⟩
 ·rw [hrun] at hrun'; cases hrun'
 ·rw [hrun] at hrun'
  injection hrun' with hmm
  subst hmm
  exact ⟨rfl,h0,hk⟩
theorem fine_run {cs : List Cd} {l : List Chc} {m : Mi} (hini : ∀ c ∈ cs,c.init.length ≤ 1000000) (h : runI cs l = .ok m) : ∀ k,k < m.ss.length → Fine (m.ss.getD k zeroSt):=fun k hk=>by
 have hi:=runI_inv h
 have hk' : k < cs.length:=by rw [← hi.len]; exact hk
 have h1:=hi.lens hk'
 have h2:=hini _ (getD_mem (d:=zeroCd) hk')
 exact ⟨by omega,by omega,by omega,by omega⟩
theorem bw_up {w w' : World} (hk : Keep w w') : ∀ i,Bw w i → Bw w' i:=fun i hi=>Nat.lt_of_lt_of_le hi hk.size
theorem cds_up {w w' : World} {A : Option Addr} {n c : Nat} {cs : List Cd} (h : CdsR w (Bw w) A n c cs) (hk : Keep w w') : CdsR w' (Bw w') A n c cs:=(h.keep hk).more (bw_up hk)
theorem chs_up {α : Type} {enc : α → List Value} {size : Nat} {w w' : World} {A : Option Addr} {n c : Nat} {l : List α} (h : Sl enc size w (Bw w) A n c l) (hk : Keep w w') : Sl enc size w' (Bw w') A n c l:=(h.keep hk).more (bw_up hk)
theorem sts_up {w w' : World} {A : Option Addr} {n c : Nat} {l : List St} (h : SlR w (Bw w) 4 (StR w (Bw w)) A n c l) (hk : Keep w w') : SlR w' (Bw w') 4 (StR w' (Bw w')) A n c l:=sts_more (sts_keep h hk) (bw_up hk)
end Go.Proofs.YtipegaojiokppaaGreatDoor
