import Derived.Test.YtipegaojiokppaaGreatDoorMk2
import Derived.Test.YtipegaojiokppaaGreatDoorExpr
import Derived.Test.YtipegaojiokppaaGreatDoorGA
import Derived.Test.YtipegaojiokppaaGreatDoorBlk
set_option linter.unusedVariables false
set_option maxRecDepth 100000
set_option linter.unusedSimpArgs false
namespace Go.Proofs.YtipegaojiokppaaGreatDoor
open Go.RowKit Go.Proofs
theorem ExR.good (n : Nat) : Good (fun w S cs e=>ExR w S n cs e):=⟨fun hk h=>ExR.keep hk n _ _ h,fun hS h=>ExR.more hS n _ _ h⟩
theorem ExR.len {w : World} {S : Nat → Prop} : ∀ {n : Nat} {cs : List Value} {e : Ex},ExR w S n cs e → cs.length = 6
 | n + 1,cs,.mk op val name slot size args,h=>by obtain ⟨_,_,A,m,c,e,_⟩:=h; rw [e]; rfl
theorem ExR.one {w : World} {S : Nat → Prop} : ∀ {n : Nat} {cs : List Value} {e : Ex},ExR w S n cs e → cs.all (·.oneCell') = true
 | n + 1,cs,.mk op val name slot size args,h=>by obtain ⟨_,_,A,m,c,e,_⟩:=h; rw [e]; rfl
theorem ExR.one' {w : World} {S : Nat → Prop} {n : Nat} {cs : List Value} {e : Ex} (h : ExR w S n cs e) : ∀ u ∈ cs,u.oneCell' = true:=fun u hu=>List.all_eq_true.1 h.one u hu
theorem ExR.open_ {w : World} {S : Nat → Prop} : ∀ {n : Nat} {cs : List Value} {e : Ex},ExR w S n cs e → ∃ op val name slot size args A m c,e = .mk op val name slot size args ∧ cs = [.int .i64 op,.int .i64 val,.string name,.int .i64 slot,.int .i64 size,.slice A m c]
 | n + 1,cs,.mk op val name slot size args,h=>by obtain ⟨_,_,A,m,c,e,_⟩:=h; exact ⟨op,val,name,slot,size,args,A,m,c,rfl,e⟩
def Ex.few (k : Nat) : Nat → Ex → Prop
 | 0,_=>True
 | n + 1,.mk _ _ _ _ _ args=>args.length ≤ k ∧ ∀ a ∈ args,Ex.few k n a
theorem few_leaf {k n : Nat} {op val : Int} {name : ByteArray} {slot size : Int} : Ex.few k (n + 1) (.mk op val name slot size []):=⟨by simp,by simp⟩
theorem I64.zero : I64 0:=⟨by omega,by omega⟩
theorem ExR.leaf {w : World} {S : Nat → Prop} (n : Nat) (op val : Int) (name : ByteArray) : ExR w S (n + 1) [.int .i64 op,.int .i64 val,.string name,.int .i64 0,.int .i64 0,.slice none 0 0] (.mk op val name 0 0 []):=
 ⟨I64.zero,I64.zero,none,0,0,rfl,SlR.nil_⟩
theorem info_ex {cs : List Value} (h : cs.length = 6) : (Tryz.prog.info? 68).map (·.size) = some cs.length:=by rw [h]; kernel_rfl
def Glob (w : World) : Prop:=(∀ i,i < 3 → ∃ s,w.cell? ⟨0,i,none⟩ = some (.string s)) ∧ (∀ i,i < 2 → ∃ s,w.cell? ⟨1,i,none⟩ = some (.string s)) ∧ 2 ≤ w.heap.size
theorem Glob.same {w w' : World} {T : Nat → Prop} (h : Glob w) (k : Same T w w') (h0 : T 0) (h1' : T 1) : Glob w':=by
 obtain ⟨h1,h2,h3⟩:=h
 refine ⟨fun i hi=>?_,fun i hi=>?_,Nat.le_trans h3 k.size⟩
 ·obtain ⟨s,hs⟩:=h1 i hi
  exact ⟨s,(k.cell (p:=⟨_,i,none⟩) (by first | exact h0 | exact h1')).trans hs⟩
 ·obtain ⟨s,hs⟩:=h2 i hi
  exact ⟨s,(k.cell (p:=⟨_,i,none⟩) (by first | exact h1' | exact h0)).trans hs⟩
theorem Glob.keep {w w' : World} (h : Glob w) (k : Keep w w') : Glob w':=by
 have:=h.2.2
 exact h.same k (by omega) (by omega)
theorem Glob.cod {w : World} {B : Nat → Prop} {gc r : Nat} (h : Glob w) (hc : Cod w B gc r) : 2 ≤ gc:=by
 obtain ⟨h1,h2,h3⟩:=h
 obtain ⟨_,_,A,n,c,i,hb,_⟩:=hc
 have b0:=hb.cell 0
 simp at b0
 rcases Nat.lt_or_ge gc 2 with hlt | hge
 ·exfalso
  have : gc = 0 ∨ gc = 1:=by omega
  rcases this with rfl | rfl
  ·obtain ⟨s,hs⟩:=h1 0 (by omega)
   rw [b0] at hs; cases hs
  ·obtain ⟨s,hs⟩:=h2 0 (by omega)
   rw [b0] at hs; cases hs
 ·exact hge
theorem Glob.only {w w' : World} {gc : Nat} (h : Glob w) (hg : 2 ≤ gc) (k : Only gc w w') : Glob w':=by
 have:=h.2.2
 exact h.same k ⟨by omega,by omega⟩ ⟨by omega,by omega⟩
def ExprPost (n : Nat) (B : Nat → Prop) (gc r : Nat) (w : World) (e : Ending) (w' : World) : Prop:=
 ∃ (x : Ex) (cs : List Value) (r' : Nat),e = .returned (.agg cs.toArray) ∧ ExR w' (New w' w.heap.size) n cs x ∧ Ex.few 2 n x ∧ r' ≤ r - 1 ∧ Cod w' B gc r' ∧ Only gc w w'
def ExprSaid (n : Nat) : Prop:=∀ (w : World) (B : Nat → Prop) (gc r : Nat),Cod w B gc r → Glob w → Calls Tryz.prog 65 #[.pointer (some ⟨gc,0,none⟩),.int .i64 n] w (ExprPost n B gc r w)
theorem expr_end {fn : Func} {p : Tmp} (hf : fn.results = #[.cell p 68]) {tmps : Array Value} {w' : World} {b : Nat} {cs : List Value} (hp : tmps.getD p undef = .pointer (some ⟨b,0,none⟩)) (hb : Blk w' b 68 cs.toArray) (hl : cs.length = 6) :
  (results fn tmps).run Tryz.prog w' = .ok (.agg cs.toArray) w':=
 results_cell1 hf _ _ _ ⟨b,0,none⟩ _ hp (loadVar_blk cs _ hb (fun j v hv=>by simpa using hv) Tryz.underlying68 rfl (info_ex hl))
def CutK8 (n : Nat) (w1 : World) (s5 : Value) (wx : World) : Prop:=∃ k : Int,s5 = .int .i64 k ∧ 0 ≤ k ∧ k < 12 ∧ (n = 0 → k < 8) ∧ w1 = wx
def CutTB (w1 : World) (b : Bool) (s : Value) (wx : World) : Prop:=s = .bool b ∧ w1 = wx
theorem built_ex1 (op val slot size : Int) (name : ByteArray) (A : Option Addr) (m c : Nat) : builtS Tryz.prog 68 1 [(0,.agg #[.int .i64 op,.int .i64 val,.string name,.int .i64 slot,.int .i64 size,.slice A m c])] = some #[.int .i64 op,.int .i64 val,.string name,.int .i64 slot,.int .i64 size,.slice A m c]:=by kernel_rfl
theorem built_ex2 (op val slot size : Int) (name : ByteArray) (A : Option Addr) (m c : Nat) (op' val' slot' size' : Int) (name' : ByteArray) (A' : Option Addr) (m' c' : Nat) : builtS Tryz.prog 68 2 [(0,.agg #[.int .i64 op,.int .i64 val,.string name,.int .i64 slot,.int .i64 size,.slice A m c]),(1,.agg #[.int .i64 op',.int .i64 val',.string name',.int .i64 slot',.int .i64 size',.slice A' m' c'])] =
  some #[.int .i64 op,.int .i64 val,.string name,.int .i64 slot,.int .i64 size,.slice A m c,.int .i64 op',.int .i64 val',.string name',.int .i64 slot',.int .i64 size',.slice A' m' c']:=by kernel_rfl
set_option maxHeartbeats 4000000 in
set_option maxRecDepth 100000 in
theorem expr_succ (n : Nat) (hn1000 : n ≤ 1000) (ih : 0 < n → ExprSaid n) : ExprSaid (n + 1):=by
 intro w B gc r hc hg
 have hg2:=hg.cod hc
 have hgw:=hc.lt
 have hBw:=hc.2.1
 have IH:=Lib.hid ih
 have HC:=Lib.hid hc
 have HG:=Lib.hid hg
 have HBW:=Lib.hid hBw
 clear ih hc hg hBw
 go_enter Tryz.func65,Tryz.ntmps65
 go_wp2_with fail
 generalize hW : w.alloc (.cells #[.int .i64 0,.int .i64 0,.string ⟨#[]⟩,.int .i64 0,.int .i64 0,.slice none 0 0] 68) = W
 have hbW : Blk W w.heap.size 68 _:=hW ▸ Blk.new _ _ _
 have hkW : Keep w W:=hW ▸ Keep.new _ _
 have hzW : w.heap.size < W.heap.size:=hbW.lt
 clear hW
 refine (next_any W B gc r 12 (HC.out.keep hkW) (by omega) (by omega)).mono ?_
 rintro e w1 ⟨v,hv0,hv1,rfl,hc1,ho1⟩
 have hz1:=ho1.size
 have hb1:=ho1.blk hbW ⟨hzW,by omega⟩
 have ho1' : Only gc w w1:=Only.trans (hkW.only gc) ho1
 have hg1 : Glob w1:=HG.out.only hg2 ho1'
 clear ho1 hbW hkW
 obtain ⟨b,hbe⟩ : ∃ b,b = w.heap.size:=⟨_,rfl⟩
 have fin : ∀ (w2 w3 : World) (r2 : Nat) (cs : List Value) (x : Ex),Cod w2 B gc r2 → r2 ≤ r - 1 → Only gc w w2 → Same (· ≠ b) w2 w3 → ExR w3 (New w3 b) (n + 1) cs x → Ex.few 2 (n + 1) x → ExprPost (n + 1) B gc r w (.returned (.agg cs.toArray)) w3:=fun w2 w3 r2 cs x h1 h2 h3 h4 h5 h6=>
  ⟨x,cs,r2,rfl,by rw [← hbe]; exact h5,h6,h2,h1.write h4 (fun hh=>by have:=HBW.out b hh; omega),h3.write h4 (by omega)⟩
 rw [← hbe] at hb1 hzW hgw
 rw [← hbe]
 have HC1:=Lib.hid hc1
 have HB1:=Lib.hid hb1
 have HO1':=Lib.hid ho1'
 have HG1:=Lib.hid hg1
 have FIN:=Lib.hid fin
 have HBE:=Lib.hid hbe
 clear hc1 hb1 ho1' hg1 fin hbe
 go_upto_region 2 with fail
 go_cut [14] from 9 to 13 (fun s14 wx=>CutTB w1 (decide (n = 0) && decide (8 ≤ v)) s14 wx)
 case first=>
  by_cases hn : n = 0
  ·subst hn
   go_wp2_with fail
   go_meet
   exact ⟨by simp,rfl⟩
  ·have hd : decide (((n + 1 : Nat) : Int) ≤ 1) = false:=by simp; omega
   go_wp2_with fail
   go_meet
   exact ⟨by simp [hn],rfl⟩
 case rest=>
  obtain ⟨rfl,rfl⟩:=hcut
  go_upto_if 14 with fail
  go_cut [5] from 14 to 16 (fun s5 wx=>CutK8 n w1 s5 wx)
  case first=>
   generalize hbb : (decide (n = 0) && decide (8 ≤ v)) = bb
   have HBB:=Lib.hid hbb
   clear hbb
   cases bb with
   | true=>
    have h8 : n = 0 ∧ 8 ≤ v:=by have:=HBB.out; simpa using this
    have HH8:=Lib.hid h8.1
    have h8':=h8.2
    clear h8
    go_wp2_with fail
    go_meet
    exact ⟨v - 8,by go_num,by omega,by omega,fun _=>by omega,rfl⟩
   | false=>
    have h8 : ¬ (n = 0 ∧ 8 ≤ v):=fun h=>by have:=HBB.out; simp [h.1,h.2] at this
    have H8:=Lib.hid h8
    clear h8
    go_wp2_with fail
    go_meet
    exact ⟨v,rfl,by omega,by omega,fun hn=>by have:=H8.out; omega,rfl⟩
  case rest=>
   obtain ⟨k,rfl,hk0,hk12,hkn,rfl⟩:=hcut
   have HKN:=Lib.hid hkn
   clear hkn hv0 hv1
   by_cases h2 : k < 2
   ·as_aux_lemma=>
    go_wp2_with fail
    refine (next_any w1 B gc _ 5 HC1.out (by omega) (by omega)).mono ?_
    rintro e w2 ⟨v2,hv20,hv21,rfl,hc2,ho2⟩
    have hb2:=ho2.blk HB1.out ⟨by omega,by omega⟩
    have ho2':=Only.trans HO1'.out ho2
    have HC2:=Lib.hid hc2
    have HO2':=Lib.hid ho2'
    have HB2:=Lib.hid hb2
    clear hc2 ho2' hb2
    clear ho2
    go_wp2_with (refine wpList_store_all rfl _ (.tmp 4) (.tmp 22) rfl b 68 _ [.int .i64 1,.int .i64 v2,.string ⟨#[]⟩,.int .i64 0,.int .i64 0,.slice none 0 0] rfl rfl HB2.out rfl (by kernel_rfl) rfl ?_; intro w3 hb3 hs3; have HB3:=Lib.hid hb3; have HS3:=Lib.hid hs3; clear hb3 hs3)
    exact bodyPost_ret (expr_end Tryz.results65 rfl HB3.out rfl) rfl (FIN.out w2 w3 _ _ _ HC2.out (by omega) HO2'.out HS3.out (ExR.leaf n 1 v2 _) few_leaf)
   by_cases h4 : k < 4
   ·as_aux_lemma=>
    go_wp2_with fail
    refine (next_any w1 B gc _ 3 HC1.out (by omega) (by omega)).mono ?_
    rintro e w2 ⟨v2,hv20,hv21,rfl,hc2,ho2⟩
    have hb2:=ho2.blk HB1.out ⟨by omega,by omega⟩
    have hz2:=ho2.size
    have hg2':=HG1.out.only hg2 ho2
    have ho2':=Only.trans HO1'.out ho2
    have HC2:=Lib.hid hc2
    have HO2':=Lib.hid ho2'
    have HB2:=Lib.hid hb2
    have HG2':=Lib.hid hg2'
    clear hc2 ho2' hb2 hg2'
    clear ho2
    obtain ⟨j,rfl⟩:=Int.eq_ofNat_of_zero_le hv20
    obtain ⟨nm,hnm⟩:=HG2'.out.1 j (by omega)
    have hj0 : (0 : Int) ≤ j:=by omega
    have hj3 : (j : Int) < 3:=by omega
    go_wp2_with (refine wpList_store_all rfl _ (.tmp 4) (.tmp 30) rfl b 68 _ [.int .i64 2,.int .i64 0,.string nm,.int .i64 0,.int .i64 0,.slice none 0 0] rfl rfl HB2.out rfl (by kernel_rfl) rfl ?_; intro w3 hb3 hs3; have HB3:=Lib.hid hb3; have HS3:=Lib.hid hs3; clear hb3 hs3)
    exact bodyPost_ret (expr_end Tryz.results65 rfl HB3.out rfl) rfl (FIN.out w2 w3 _ _ _ HC2.out (by omega) HO2'.out HS3.out (ExR.leaf n 2 0 nm) few_leaf)
   by_cases h5 : k = 4
   ·as_aux_lemma=>
    have hk4 : (k == 4) = true:=by simpa using h5
    clear h5
    go_wp2_with (refine wpList_store_all rfl _ (.tmp 4) (.tmp 34) rfl b 68 _ [.int .i64 7,.int .i64 0,.string ⟨#[]⟩,.int .i64 0,.int .i64 0,.slice none 0 0] rfl rfl HB1.out rfl (by kernel_rfl) rfl ?_; intro w3 hb3 hs3; have HB3:=Lib.hid hb3; have HS3:=Lib.hid hs3; clear hb3 hs3)
    exact bodyPost_ret (expr_end Tryz.results65 rfl HB3.out rfl) rfl (FIN.out w1 w3 _ _ _ HC1.out (by omega) HO1'.out HS3.out (ExR.leaf n 7 0 _) few_leaf)
   have hk4 : (k == 4) = false:=by simpa using h5
   by_cases h6 : k = 5
   ·as_aux_lemma=>
    have hk5 : (k == 5) = true:=by simpa using h6
    clear h6
    go_wp2_with fail
    have hkb : Keep w1 (w1.alloc (.cells #[.int .i64 4,.int .i64 5,.int .i64 6] 3)):=Keep.new _ _
    refine (next_any _ B gc _ 3 (HC1.out.alloc _) (by omega) (by omega)).mono ?_
    rintro e w2 ⟨v2,hv20,hv21,rfl,hc2,ho2⟩
    have hgc1 : gc < w1.heap.size:=by omega
    have hb2:=ho2.blk (HB1.out.alloc (.cells #[.int .i64 4,.int .i64 5,.int .i64 6] 3)) ⟨by simp; omega,by omega⟩
    have hl2:=ho2.blk (Blk.new w1 3 #[.int .i64 4,.int .i64 5,.int .i64 6]) ⟨by simp,by omega⟩
    have ho2':=Only.trans HO1'.out (Only.of_alloc ho2)
    obtain ⟨j,rfl⟩:=Int.eq_ofNat_of_zero_le hv20
    have hop : ∃ op : Int,w2.cell? ⟨w1.heap.size,j,none⟩ = some (.int .i64 op):=by
     rw [hl2.cell]
     match j,hv21 with
     | 0,_=>exact ⟨_,rfl⟩
     | 1,_=>exact ⟨_,rfl⟩
     | 2,_=>exact ⟨_,rfl⟩
     | j + 3,h=>omega
    obtain ⟨op,hop⟩:=hop
    have hj0 : (0 : Int) ≤ j:=by omega
    have HC2:=Lib.hid hc2
    have HO2':=Lib.hid ho2'
    have HB2:=Lib.hid hb2
    clear hc2 ho2' hb2
    clear ho2 hl2 hkb
    go_wp2_with (refine wpList_store_all rfl _ (.tmp 4) (.tmp 43) rfl b 68 _ [.int .i64 op,.int .i64 0,.string ⟨#[]⟩,.int .i64 0,.int .i64 0,.slice none 0 0] rfl rfl HB2.out rfl (by kernel_rfl) rfl ?_; intro w3 hb3 hs3; have HB3:=Lib.hid hb3; have HS3:=Lib.hid hs3; clear hb3 hs3)
    exact bodyPost_ret (expr_end Tryz.results65 rfl HB3.out rfl) rfl (FIN.out w2 w3 _ _ _ HC2.out (by omega) HO2'.out HS3.out (ExR.leaf n op 0 _) few_leaf)
   have hk5 : (k == 5) = false:=by simpa using h6
   go_upto_region 12 with fail
   go_cut [44] from 45 to 50 (fun s44 wx=>CutTB w1 (decide (k = 6) || decide (n = 0)) s44 wx)
   case first=>
    by_cases h7 : k = 6
    ·have hk6 : (k == 6) = true:=by simpa using h7
     have HH7:=Lib.hid h7
     clear h7 h5 h6
     go_wp2_with fail
     go_meet
     exact ⟨by simp [HH7.out],rfl⟩
    ·have hk6 : (k == 6) = false:=by simpa using h7
     by_cases hn : n = 0
     ·subst hn
      go_wp2_with fail
      go_meet
      exact ⟨by simp,rfl⟩
     ·have hd : decide (((n + 1 : Nat) : Int) ≤ 1) = false:=by simp; omega
      go_wp2_with fail
      go_meet
      exact ⟨by simp [h7,hn]; omega,rfl⟩
   case rest=>
    obtain ⟨rfl,rfl⟩:=hcut
    generalize hbb : (decide (k = 6) || decide (n = 0)) = bb
    cases bb with
    | true=>
     have HBB:=Lib.hid hbb
     clear hbb
     clear h5 h6
     as_aux_lemma=>
     go_wp2_with fail
     refine (next_any w1 B gc _ 200 HC1.out (by omega) (by omega)).mono ?_
     rintro e w2 ⟨v2,hv20,hv21,rfl,hc2,ho2⟩
     have hb2:=ho2.blk HB1.out ⟨by omega,by omega⟩
     have hz2:=ho2.size
     have hg2':=HG1.out.only hg2 ho2
     have ho2':=Only.trans HO1'.out ho2
     have HC2:=Lib.hid hc2
     have HO2':=Lib.hid ho2'
     have HB2:=Lib.hid hb2
     have HG2':=Lib.hid hg2'
     clear hc2 ho2' hb2 hg2'
     clear ho2
     go_wp2_with (refine wpList_store_all rfl _ (.tmp 4) (.tmp 54) rfl b 68 _ [.int .i64 1,.int .i64 (1 + v2),.string ⟨#[]⟩,.int .i64 0,.int .i64 0,.slice none 0 0] rfl rfl HB2.out rfl (by kernel_rfl) rfl ?_; intro w3 hb3 hs3; have HB3:=Lib.hid hb3; have HS3:=Lib.hid hs3; clear hb3 hs3)
     exact bodyPost_ret (expr_end Tryz.results65 rfl HB3.out rfl) rfl (FIN.out w2 w3 _ _ _ HC2.out (by omega) HO2'.out HS3.out (ExR.leaf n 1 (1 + v2) _) few_leaf)
    | false=>
     have hk6 : k ≠ 6 ∧ n ≠ 0:=by simpa using hbb
     have hn0 : 0 < n:=by omega
     have hsub : ((n + 1 : Nat) : Int) - 1 = (n : Int):=by omega
     have hwr : IntKind.i64.wrap (n : Int) = n:=IntWalk.i64_in _ (by omega)
     have IHN:=Lib.hid (IH.out hn0)
     have hk6' : (k == 6) = false:=by simpa using hk6.1
     clear hbb
     by_cases h7 : k = 7
     ·have hk7 : (k == 7) = true:=by simpa using h7
      clear h7 h5 h6 hk6
      as_aux_lemma=>
      go_upto_region 15 with fail
      have hA : True:=trivial
      refine wp_region_L 99 (fun _=>True) (fun wx=>Same (fun i=>i < w1.heap.size ∧ i ≠ gc ∧ i ≠ b) w1 wx) (by kernel_rfl) trivial (Same.drew (Same.refl _ _)) (fun _ hB=>?_)
      refine wpL_takeB (i:=0) (v:=?_) rfl (by kernel_rfl) (by kernel_rfl) (by kernel_rfl) (by decide) (fun _ _ _ h=>h) (Or.inl ⟨by rfl,?_⟩) (SAB.both hA hB) ?_
      rotate_left
      ·intro wx hBx
       (try dsimp only at hBx)
       go_simp
       try with_reducible rfl
      try simp only [Act.put,List.setIfInBounds_toArray,List.set_cons_zero,List.set_cons_succ]
      refine wpL_takeB (i:=4) (v:=?_) rfl (by kernel_rfl) (by kernel_rfl) (by kernel_rfl) (by decide) (fun _ _ _ h=>h) (Or.inl ⟨by rfl,?_⟩) (SAB.both hA hB) ?_
      rotate_left
      ·intro wx hBx
       (try dsimp only at hBx)
       go_simp
       try with_reducible rfl
      try simp only [Act.put,List.setIfInBounds_toArray,List.set_cons_zero,List.set_cons_succ]
      refine wpL_takeB (i:=5) (v:=?_) rfl (by kernel_rfl) (by kernel_rfl) (by kernel_rfl) (by decide) (fun _ _ _ h=>h) (Or.inl ⟨by rfl,?_⟩) (SAB.both hA hB) ?_
      rotate_left
      ·intro wx hBx
       (try dsimp only at hBx)
       go_simp
       try with_reducible rfl
      try simp only [Act.put,List.setIfInBounds_toArray,List.set_cons_zero,List.set_cons_succ]
      refine wpL_takeB (i:=6) (v:=?_) rfl (by kernel_rfl) (by kernel_rfl) (by kernel_rfl) (by decide) (fun _ _ _ h=>h) (Or.inl ⟨by rfl,?_⟩) (SAB.both hA hB) ?_
      rotate_left
      ·intro wx hBx
       (try dsimp only at hBx)
       go_simp
       try with_reducible rfl
      try simp only [Act.put,List.setIfInBounds_toArray,List.set_cons_zero,List.set_cons_succ]
      refine wpL_one (i:=1) (by kernel_rfl) (StepL.mk rfl (fun K hK=>?_))
      go_simp
      refine (next_any _ B gc _ 2 (HC1.out.keep (Same.drew (Same.refl _ _))) (by omega) (by omega)).mono ?_
      rintro e w2 ⟨v2,hv20,hv21,rfl,hc2,ho2⟩
      have ho12 : Only gc w1 w2:=Only.trans (Same.drew (Same.refl _ _)) ho2
      have hz2:=ho12.size
      have hb2:=ho12.blk HB1.out ⟨by omega,by omega⟩
      have hg2':=HG1.out.only hg2 ho12
      have ho2':=Only.trans HO1'.out ho12
      obtain ⟨j,rfl⟩:=Int.eq_ofNat_of_zero_le hv20
      obtain ⟨nm,hnm0⟩:=HG1.out.2.1 j (by omega)
      have hj0 : (0 : Int) ≤ j:=by omega
      have hj3 : (j : Int) < 2:=by omega
      have hgl:=HG1.out.2.2
      have hnm : ∀ wx,Same (fun i=>i < w1.heap.size ∧ i ≠ gc ∧ i ≠ b) w1 wx → wx.cell? ⟨1,j,none⟩ = some (.string nm):=fun wx hx=>(hx.cell (p:=⟨1,j,none⟩) ⟨by simp; omega,by simp; omega,by simp; omega⟩).trans hnm0
      refine hK.out _ _ (SAB.both trivial (Same.trans hB ho2 (fun i hi=>⟨hi.1,hi.2.1⟩))) (fun hSS=>?_)
      clear hK K hA hB
      have hB:=hSS.2
      have hA:=hSS.1 (by kernel_rfl)
      (try dsimp only at hB); (try dsimp only at hA); clear hSS
      try simp only [Act.put,List.setIfInBounds_toArray,List.set_cons_zero,List.set_cons_succ]
      clear hnm0
      refine wpL_takeB (i:=2) (v:=?_) rfl (by kernel_rfl) (by kernel_rfl) (by kernel_rfl) (by decide) (fun _ _ _ h=>h) (Or.inl ⟨by rfl,?_⟩) (SAB.both hA hB) ?_
      rotate_left
      ·intro wx hBx
       (try dsimp only at hBx)
       go_simp
       try with_reducible rfl
      try simp only [Act.put,List.setIfInBounds_toArray,List.set_cons_zero,List.set_cons_succ]
      refine wpL_takeB (i:=3) (v:=?_) rfl (by kernel_rfl) (by kernel_rfl) (by kernel_rfl) (by decide) (fun _ _ _ h=>h) (Or.inl ⟨by rfl,?_⟩) (SAB.both hA hB) ?_
      rotate_left
      ·intro wx hBx
       (try dsimp only at hBx)
       go_simp
       try with_reducible rfl
      try simp only [Act.put,List.setIfInBounds_toArray,List.set_cons_zero,List.set_cons_succ]
      refine wpL_one (i:=7) (by kernel_rfl) (StepL.mk rfl (fun K hK=>?_))
      go_simp
      refine (IHN.out w2 B gc _ hc2 hg2').mono ?_
      rintro e w3 ⟨x3,cs3,r3,rfl,hx3,hf3,hr3,hc3,ho3⟩
      have HX3:=Lib.hid hx3
      have HF3:=Lib.hid hf3
      clear hf3
      obtain ⟨op3,val3,name3,slot3,size3,args3,A3,m3,c3,rfl,rfl⟩:=ExR.open_ hx3
      clear hx3
      have hz3:=ho3.size
      have hb3:=ho3.blk hb2 ⟨by omega,by omega⟩
      have ho3':=Only.trans ho2' ho3
      refine hK.out _ _ (SAB.both trivial (Same.trans hB ho3 (fun i hi=>⟨by omega,hi.2.1⟩))) (fun hSS=>?_)
      clear hK K hA hB
      have hB:=hSS.2
      have hA:=hSS.1 (by kernel_rfl)
      (try dsimp only at hB); (try dsimp only at hA); clear hSS
      try simp only [Act.put,List.setIfInBounds_toArray,List.set_cons_zero,List.set_cons_succ]
      clear hnm
      refine wpL_one (i:=8) (by kernel_rfl) (StepL.mk rfl (fun K hK=>?_))
      refine step_buildS rfl _ _ _ _ rfl Tryz.underlying66 _ [(0,.agg #[.int .i64 op3,.int .i64 val3,.string name3,.int .i64 slot3,.int .i64 size3,.slice A3 m3 c3])] rfl (built_ex1 _ _ _ _ _ _ _ _) ?_
      refine hK.out _ _ (SAB.both trivial (Same.alloc hB (fun i hi=>by omega) _)) (fun hSS=>?_)
      clear hK K hA hB
      have hB:=hSS.2
      have hA:=hSS.1 (by kernel_rfl)
      (try dsimp only at hB); (try dsimp only at hA); clear hSS
      try simp only [Act.put,List.setIfInBounds_toArray,List.set_cons_zero,List.set_cons_succ]
      refine wpL_takeB (i:=9) (v:=?_) rfl (by kernel_rfl) (by kernel_rfl) (by kernel_rfl) (by decide) (fun _ _ _ h=>h) (Or.inl ⟨by rfl,?_⟩) (SAB.both hA hB) ?_
      rotate_left
      ·intro wx hBx
       (try dsimp only at hBx)
       go_simp
       try with_reducible rfl
      try simp only [Act.put,List.setIfInBounds_toArray,List.set_cons_zero,List.set_cons_succ]
      refine wpL_one (i:=10) (by kernel_rfl) (StepL.mk rfl (fun K hK=>?_))
      refine step_store_blk rfl _ _ _ rfl b 0 68 _ [.int .i64 3,.int .i64 0,.string nm,.int .i64 0,.int .i64 0,.slice (some ⟨w3.heap.size,0,none⟩) 1 1] rfl rfl (hb3.alloc _) (by simp) (by kernel_rfl) rfl ?_
      intro w5 hb5 hs5
      rw [splice_all [.int .i64 3,.int .i64 0,.string nm,.int .i64 0,.int .i64 0,.slice (some ⟨w3.heap.size,0,none⟩) 1 1] #[.int .i64 0,.int .i64 0,.string ⟨#[]⟩,.int .i64 0,.int .i64 0,.slice none 0 0] rfl] at hb5
      have hz5:=hs5.size
      simp at hz5
      have hS : Same (New w3 w2.heap.size) w3 w5:=Same.trans (Same.mono (Keep.new w3 _) (fun i (hi : New w3 w2.heap.size i)=>hi.2)) hs5 (fun i hi=>by have:=hi.1; omega)
      have hx5:=ExR.more (T:=New w5 b) (fun i (hi : New w3 w2.heap.size i)=>⟨by have:=hi.1; omega,by have:=hi.2; omega⟩) _ _ _ (ExR.keep hS _ _ _ HX3.out)
      have hbl : Blk w5 w3.heap.size 68 ([.int .i64 op3,.int .i64 val3,.string name3,.int .i64 slot3,.int .i64 size3,.slice A3 m3 c3]).toArray:=hs5.blk (Blk.new w3 _ _) (by omega)
      have hfin:=FIN.out _ w5 r3 [.int .i64 3,.int .i64 0,.string nm,.int .i64 0,.int .i64 0,.slice (some ⟨w3.heap.size,0,none⟩) 1 1] (.mk 3 0 nm 0 0 [.mk op3 val3 name3 slot3 size3 args3]) (hc3.alloc _) (by omega) (Only.alloc ho3' _) hs5 ⟨I64.zero,I64.zero,_,1,1,rfl,SlR.one (R:=fun w S cs e=>ExR w S n cs e) hbl ⟨by omega,by omega⟩ rfl hx5⟩ ⟨by simp,by simpa using HF3.out⟩
      refine hK.out _ _ (SAB.both trivial (Same.trans hB hs5 (fun i hi=>hi.2.2))) (fun hSS=>?_)
      clear hK K hA hB
      have hB:=hSS.2
      have hA:=hSS.1 (by kernel_rfl)
      (try dsimp only at hB); (try dsimp only at hA); clear hSS
      try simp only [Act.put,List.setIfInBounds_toArray,List.set_cons_zero,List.set_cons_succ]
      refine wpL_done (by kernel_rfl) ?_
      have HFIN:=Lib.hid hfin
      have HB5:=Lib.hid hb5
      clear hfin hb5
      clear hA hB hs5 hS hx5 hbl hc3 ho3 ho3' hb3 hb2 ho2' ho2 ho12 hc2
      go_wp2_with fail
      exact bodyPost_ret (expr_end Tryz.results65 rfl HB5.out rfl) rfl HFIN.out
     have hk7 : (k == 7) = false:=by simpa using h7
     by_cases h8 : k = 8
     ·have hk8 : (k == 8) = true:=by simpa using h8
      clear h8 h7 h5 h6 hk6
      as_aux_lemma=>
      go_wp2_with fail
      refine (next_any w1 B gc _ 2 HC1.out (by omega) (by omega)).mono ?_
      rintro e w2 ⟨v2,hv20,hv21,rfl,hc2,ho2⟩
      have hb2:=ho2.blk HB1.out ⟨by omega,by omega⟩
      have hz2:=ho2.size
      have hg2':=HG1.out.only hg2 ho2
      have ho2':=Only.trans HO1'.out ho2
      have HC2:=Lib.hid hc2
      have HO2':=Lib.hid ho2'
      have HB2:=Lib.hid hb2
      have HG2':=Lib.hid hg2'
      clear hc2 ho2' hb2 hg2'
      clear ho2
      go_wp2_with fail
      refine (IHN.out w2 B gc _ HC2.out HG2'.out).mono ?_
      rintro e w3 ⟨x3,cs3,r3,rfl,hx3,hf3,hr3,hc3,ho3⟩
      have HX3:=Lib.hid hx3
      have HF3:=Lib.hid hf3
      clear hf3
      obtain ⟨op3,val3,name3,slot3,size3,args3,A3,m3,c3,rfl,rfl⟩:=ExR.open_ hx3
      clear hx3
      have hz3:=ho3.size
      have hb3:=ho3.blk HB2.out ⟨by omega,by omega⟩
      have ho3':=Only.trans HO2'.out ho3
      have HB3:=Lib.hid hb3
      have HO3':=Lib.hid ho3'
      have HC3:=Lib.hid hc3
      clear hb3 ho3' hc3
      clear ho3
      go_wp2_with (first
       | (refine wpList_buildS rfl _ _ _ _ rfl Tryz.underlying66 _ [(0,.agg #[.int .i64 op3,.int .i64 val3,.string name3,.int .i64 slot3,.int .i64 size3,.slice A3 m3 c3])] rfl (built_ex1 _ _ _ _ _ _ _ _) ?_)
       | (refine wpList_store_all rfl _ (.tmp 4) (.tmp 79) rfl b 68 _ [.int .i64 (8 + v2),.int .i64 0,.string ⟨#[]⟩,.int .i64 0,.int .i64 0,.slice (some ⟨w3.heap.size,0,none⟩) 1 1] rfl rfl (HB3.out.alloc _) rfl (by kernel_rfl) rfl ?_; intro w5 hb5 hs5; have HB5:=Lib.hid hb5; have HS5:=Lib.hid hs5; clear hb5 hs5))
      have hz5:=HS5.out.size
      simp at hz5
      have hS : Same (New w3 w2.heap.size) w3 w5:=Same.trans (Same.mono (Keep.new w3 _) (fun i (hi : New w3 w2.heap.size i)=>hi.2)) HS5.out (fun i hi=>by have:=hi.1; omega)
      have hx5:=ExR.more (T:=New w5 b) (fun i (hi : New w3 w2.heap.size i)=>⟨by have:=hi.1; omega,by have:=hi.2; omega⟩) _ _ _ (ExR.keep hS _ _ _ HX3.out)
      have hbl : Blk w5 w3.heap.size 68 #[.int .i64 op3,.int .i64 val3,.string name3,.int .i64 slot3,.int .i64 size3,.slice A3 m3 c3]:=HS5.out.blk (Blk.new w3 _ _) (by omega)
      exact bodyPost_ret (expr_end Tryz.results65 rfl HB5.out rfl) rfl (FIN.out _ w5 r3 [.int .i64 (8 + v2),.int .i64 0,.string ⟨#[]⟩,.int .i64 0,.int .i64 0,.slice (some ⟨w3.heap.size,0,none⟩) 1 1] (.mk (8 + v2) 0 ⟨#[]⟩ 0 0 [.mk op3 val3 name3 slot3 size3 args3]) (HC3.out.alloc _) (by omega) (Only.alloc HO3'.out _) HS5.out ⟨I64.zero,I64.zero,_,1,1,rfl,SlR.one (R:=fun w S cs e=>ExR w S n cs e) (cs:=[.int .i64 op3,.int .i64 val3,.string name3,.int .i64 slot3,.int .i64 size3,.slice A3 m3 c3]) hbl ⟨by omega,by omega⟩ rfl hx5⟩ ⟨by simp,by simpa using HF3.out⟩)
     have hk8 : (k == 8) = false:=by simpa using h8
     clear h8 h7 h5 h6 hk6
     as_aux_lemma=>
     go_wp2_with fail
     refine (IHN.out w1 B gc _ HC1.out HG1.out).mono ?_
     rintro e w2 ⟨x3,cs3,r3,rfl,hx3,hf3,hr3,hc3,ho3⟩
     have HX3:=Lib.hid hx3
     have HF3:=Lib.hid hf3
     clear hf3
     obtain ⟨op3,val3,name3,slot3,size3,args3,A3,m3,c3,rfl,rfl⟩:=ExR.open_ hx3
     clear hx3
     have hz2:=ho3.size
     have hb2:=ho3.blk HB1.out ⟨by omega,by omega⟩
     have hg2':=HG1.out.only hg2 ho3
     have ho2':=Only.trans HO1'.out ho3
     have HB2:=Lib.hid hb2
     have HG2':=Lib.hid hg2'
     have HO2':=Lib.hid ho2'
     have HC3:=Lib.hid hc3
     clear hb2 hg2' ho2' hc3
     clear ho3
     go_upto_region 19 with (refine wpList_store_all rfl _ (.tmp 6) (.tmp 83) rfl w2.heap.size 68 _ [.int .i64 op3,.int .i64 val3,.string name3,.int .i64 slot3,.int .i64 size3,.slice A3 m3 c3] rfl rfl (Blk.new _ _ _) rfl (by kernel_rfl) rfl ?_; intro w4 hb4 hs4; have HB6:=Lib.hid hb4; have HK4 : Hid (Keep w2 w4):=Lib.hid (Keep.write (Keep.new w2 _) hs4 (Nat.le_refl _)); have hz4 : w2.heap.size < w4.heap.size:=hb4.lt; clear hb4 hs4)
     have hA : True:=trivial
     have hb4:=HK4.out.blk HB2.out (by omega)
     have hc4:=HC3.out.keep HK4.out
     have hg4:=HG2'.out.keep HK4.out
     have HB4:=Lib.hid hb4
     have HC4:=Lib.hid hc4
     have HG4:=Lib.hid hg4
     clear hb4 hc4 hg4
     refine wp_region_L 99 (fun _=>True) (fun wx=>Same (fun i=>i < w4.heap.size ∧ i ≠ gc ∧ i ≠ b) w4 wx) (by kernel_rfl) trivial (Same.drew (Same.refl _ _)) (fun _ hB=>?_)
     refine wpL_takeB (i:=0) (v:=?_) rfl (by kernel_rfl) (by kernel_rfl) (by kernel_rfl) (by decide) (fun _ _ _ h=>h) (Or.inl ⟨by rfl,?_⟩) (SAB.both hA hB) ?_
     rotate_left
     ·intro wx hBx
      (try dsimp only at hBx)
      go_simp
      try with_reducible rfl
     try simp only [Act.put,List.setIfInBounds_toArray,List.set_cons_zero,List.set_cons_succ]
     refine wpL_takeB (i:=4) (v:=?_) rfl (by kernel_rfl) (by kernel_rfl) (by kernel_rfl) (by decide) (fun _ _ _ h=>h) (Or.inl ⟨by rfl,?_⟩) (SAB.both hA hB) ?_
     rotate_left
     ·intro wx hBx
      (try dsimp only at hBx)
      go_simp
      try with_reducible rfl
     try simp only [Act.put,List.setIfInBounds_toArray,List.set_cons_zero,List.set_cons_succ]
     refine wpL_takeB (i:=5) (v:=?_) rfl (by kernel_rfl) (by kernel_rfl) (by kernel_rfl) (by decide) (fun _ _ _ h=>h) (Or.inl ⟨by rfl,?_⟩) (SAB.both hA hB) ?_
     rotate_left
     ·intro wx hBx
      (try dsimp only at hBx)
      go_simp
      try with_reducible rfl
     try simp only [Act.put,List.setIfInBounds_toArray,List.set_cons_zero,List.set_cons_succ]
     refine wpL_takeB (i:=6) (v:=?_) rfl (by kernel_rfl) (by kernel_rfl) (by kernel_rfl) (by decide) (fun _ _ _ h=>h) (Or.inl ⟨by rfl,?_⟩) (SAB.both hA hB) ?_
     rotate_left
     ·intro wx hBx
      (try dsimp only at hBx)
      go_simp
      try with_reducible rfl
     try simp only [Act.put,List.setIfInBounds_toArray,List.set_cons_zero,List.set_cons_succ]
     refine wpL_takeB (i:=3) rfl (by kernel_rfl) (by kernel_rfl) (by kernel_rfl) (by decide) (fun _ _ _ h=>h) (yieldsIf_blk (by rfl) _ _ rfl w2.heap.size 0 68 _ [.int .i64 op3,.int .i64 val3,.string name3,.int .i64 slot3,.int .i64 size3,.slice A3 m3 c3] _ rfl (fun wx hx=>hx.blk HB6.out ⟨by omega,by omega,by omega⟩) (fun j v hv=>by simpa using hv) Tryz.underlying68 rfl (by kernel_rfl)) (SAB.both hA hB) ?_
     try simp only [Act.put,List.setIfInBounds_toArray,List.set_cons_zero,List.set_cons_succ]
     refine wpL_one (i:=1) (by kernel_rfl) (StepL.mk rfl (fun K hK=>?_))
     go_simp
     refine (next_any _ B gc _ 13 (HC4.out.keep (Same.drew (Same.refl _ _))) (by omega) (by omega)).mono ?_
     rintro e w5 ⟨v5,hv50,hv51,rfl,hc5,ho5⟩
     have ho45 : Only gc w4 w5:=Only.trans (Same.drew (Same.refl _ _)) ho5
     have hz5:=ho45.size
     have hb5:=ho45.blk HB4.out ⟨by omega,by omega⟩
     have hg5:=HG4.out.only hg2 ho45
     refine hK.out _ _ (SAB.both trivial (Same.trans hB ho5 (fun i hi=>⟨hi.1,hi.2.1⟩))) (fun hSS=>?_)
     clear hK K hA hB
     have hB:=hSS.2
     have hA:=hSS.1 (by kernel_rfl)
     (try dsimp only at hB); (try dsimp only at hA); clear hSS
     try simp only [Act.put,List.setIfInBounds_toArray,List.set_cons_zero,List.set_cons_succ]
     have hw10 : IntKind.i64.wrap (10 + v5) = 10 + v5:=IntWalk.i64_in _ (by omega)
     refine wpL_takeB (i:=2) (v:=?_) rfl (by kernel_rfl) (by kernel_rfl) (by kernel_rfl) (by decide) (fun _ _ _ h=>h) (Or.inl ⟨by rfl,?_⟩) (SAB.both hA hB) ?_
     rotate_left
     ·intro wx hBx
      (try dsimp only at hBx)
      go_simp
      try with_reducible rfl
     try simp only [Act.put,List.setIfInBounds_toArray,List.set_cons_zero,List.set_cons_succ]
     refine wpL_one (i:=7) (by kernel_rfl) (StepL.mk rfl (fun K hK=>?_))
     go_simp
     refine (IHN.out w5 B gc _ hc5 hg5).mono ?_
     rintro e w6 ⟨x4,cs4,r4,rfl,hx4,hf4,hr4,hc6,ho6⟩
     have HX4:=Lib.hid hx4
     have HF4:=Lib.hid hf4
     clear hf4
     obtain ⟨op4,val4,name4,slot4,size4,args4,A4,m4,c4,rfl,rfl⟩:=ExR.open_ hx4
     clear hx4
     have hz6:=ho6.size
     have ho46:=Only.trans ho45 ho6
     have hb6:=ho6.blk hb5 ⟨by omega,by omega⟩
     refine hK.out _ _ (SAB.both trivial (Same.trans hB ho6 (fun i hi=>⟨by omega,hi.2.1⟩))) (fun hSS=>?_)
     clear hK K hA hB
     have hB:=hSS.2
     have hA:=hSS.1 (by kernel_rfl)
     (try dsimp only at hB); (try dsimp only at hA); clear hSS
     try simp only [Act.put,List.setIfInBounds_toArray,List.set_cons_zero,List.set_cons_succ]
     refine wpL_one (i:=8) (by kernel_rfl) (StepL.mk rfl (fun K hK=>?_))
     refine step_buildS rfl _ _ _ _ rfl Tryz.underlying66 _ [(0,.agg #[.int .i64 op3,.int .i64 val3,.string name3,.int .i64 slot3,.int .i64 size3,.slice A3 m3 c3]),(1,.agg #[.int .i64 op4,.int .i64 val4,.string name4,.int .i64 slot4,.int .i64 size4,.slice A4 m4 c4])] rfl (built_ex2 _ _ _ _ _ _ _ _ _ _ _ _ _ _ _ _) ?_
     refine hK.out _ _ (SAB.both trivial (Same.alloc hB (fun i hi=>by omega) _)) (fun hSS=>?_)
     clear hK K hA hB
     have hB:=hSS.2
     have hA:=hSS.1 (by kernel_rfl)
     (try dsimp only at hB); (try dsimp only at hA); clear hSS
     try simp only [Act.put,List.setIfInBounds_toArray,List.set_cons_zero,List.set_cons_succ]
     refine wpL_takeB (i:=9) (v:=?_) rfl (by kernel_rfl) (by kernel_rfl) (by kernel_rfl) (by decide) (fun _ _ _ h=>h) (Or.inl ⟨by rfl,?_⟩) (SAB.both hA hB) ?_
     rotate_left
     ·intro wx hBx
      (try dsimp only at hBx)
      go_simp
      try with_reducible rfl
     try simp only [Act.put,List.setIfInBounds_toArray,List.set_cons_zero,List.set_cons_succ]
     refine wpL_one (i:=10) (by kernel_rfl) (StepL.mk rfl (fun K hK=>?_))
     refine step_store_blk rfl _ _ _ rfl b 0 68 _ [.int .i64 (10 + v5),.int .i64 0,.string ⟨#[]⟩,.int .i64 0,.int .i64 0,.slice (some ⟨w6.heap.size,0,none⟩) 2 2] rfl rfl (hb6.alloc _) (by simp) (by kernel_rfl) rfl ?_
     intro w7 hb7 hs7
     rw [splice_all [.int .i64 (10 + v5),.int .i64 0,.string ⟨#[]⟩,.int .i64 0,.int .i64 0,.slice (some ⟨w6.heap.size,0,none⟩) 2 2] #[.int .i64 0,.int .i64 0,.string ⟨#[]⟩,.int .i64 0,.int .i64 0,.slice none 0 0] rfl] at hb7
     have hz7:=hs7.size
     simp at hz7
     have hS3 : Same (New w2 w1.heap.size) w2 w7:=Same.trans (Same.trans (Same.trans (Same.mono HK4.out (fun i (hi : New w2 w1.heap.size i)=>hi.2)) ho46 (fun i hi=>⟨by have:=hi.2; omega,by have:=hi.1; omega⟩)) (Keep.new w6 _) (fun i hi=>by have:=hi.2; omega)) hs7 (fun i hi=>by have:=hi.1; omega)
     have hS4 : Same (New w6 w5.heap.size) w6 w7:=Same.trans (Same.mono (Keep.new w6 _) (fun i (hi : New w6 w5.heap.size i)=>hi.2)) hs7 (fun i hi=>by have:=hi.1; omega)
     have hx3:=ExR.more (T:=New w7 b) (fun i (hi : New w2 w1.heap.size i)=>⟨by have:=hi.1; omega,by have:=hi.2; omega⟩) _ _ _ (ExR.keep hS3 _ _ _ HX3.out)
     have hx4:=ExR.more (T:=New w7 b) (fun i (hi : New w6 w5.heap.size i)=>⟨by have:=hi.1; omega,by have:=hi.2; omega⟩) _ _ _ (ExR.keep hS4 _ _ _ HX4.out)
     have hbl:=hs7.blk (Blk.new w6 68 (([.int .i64 op3,.int .i64 val3,.string name3,.int .i64 slot3,.int .i64 size3,.slice A3 m3 c3] : List Value) ++ ([.int .i64 op4,.int .i64 val4,.string name4,.int .i64 slot4,.int .i64 size4,.slice A4 m4 c4] : List Value)).toArray) (by omega)
     have hfin:=FIN.out _ w7 r4 [.int .i64 (10 + v5),.int .i64 0,.string ⟨#[]⟩,.int .i64 0,.int .i64 0,.slice (some ⟨w6.heap.size,0,none⟩) 2 2] (.mk (10 + v5) 0 ⟨#[]⟩ 0 0 [.mk op3 val3 name3 slot3 size3 args3,.mk op4 val4 name4 slot4 size4 args4]) (hc6.alloc _) (by omega) (Only.alloc (Only.trans (Only.keep HO2'.out HK4.out) ho46) _) hs7 ⟨I64.zero,I64.zero,_,2,2,rfl,SlR.two (R:=fun w S cs e=>ExR w S n cs e) hbl ⟨by omega,by omega⟩ rfl rfl hx3 hx4⟩ ⟨by simp,by simpa using ⟨HF3.out,HF4.out⟩⟩
     refine hK.out _ _ (SAB.both trivial (Same.trans hB hs7 (fun i hi=>hi.2.2))) (fun hSS=>?_)
     clear hK K hA hB
     have hB:=hSS.2
     have hA:=hSS.1 (by kernel_rfl)
     (try dsimp only at hB); (try dsimp only at hA); clear hSS
     try simp only [Act.put,List.setIfInBounds_toArray,List.set_cons_zero,List.set_cons_succ]
     refine wpL_done (by kernel_rfl) ?_
     have HFIN:=Lib.hid hfin
     have HB7:=Lib.hid hb7
     clear hfin hb7
     clear hA hB hs7 hS3 hS4 hx3 hx4 hbl hc6 ho46 ho6 hb6 hb5 ho45 ho5 hc5 hg5
     go_wp2_with fail
     exact bodyPost_ret (expr_end Tryz.results65 rfl HB7.out rfl) rfl HFIN.out
theorem expr_all : ∀ n,n ≤ 1000 → 0 < n → ExprSaid n
 | 0,_,h=>absurd h (by omega)
 | n + 1,h,_=>expr_succ n (by omega) (fun hn=>expr_all n (by omega) hn)
end Go.Proofs.YtipegaojiokppaaGreatDoor
