import Derived.Test.YtipegaojiokppaaGreatDoorStm
set_option linter.unusedVariables false
set_option linter.unusedSimpArgs false
namespace Go.Proofs.YtipegaojiokppaaGreatDoor
open Go.RowKit Go.Proofs
theorem info_Stm : (Tryz.prog.info? 70).map (fun i=>(i.zero,i.size,i.bytes)) = some (some (.agg #[.int .i64 0,.string ⟨#[]⟩,.int .i64 0,.int .i64 0,.int .i64 0,.int .i64 0,.string ⟨#[]⟩,.int .i64 0,.int .i64 0,.slice none 0 0,.int .i64 0,.int .i64 0,.string ⟨#[]⟩,.int .i64 0,.int .i64 0,.slice none 0 0,.slice none 0 0,.slice none 0 0]),18,232):=by kernel_rfl
theorem built_stm1 (k : Int) (nm : ByteArray) (s z : Int) (o1 x1 : Int) (n1 : ByteArray) (l1 z1 : Int) (B1 : Option Addr) (p1 q1 : Nat) (o2 x2 : Int) (n2 : ByteArray) (l2 z2 : Int) (B2 : Option Addr) (p2 q2 : Nat) (A A2 : Option Addr) (m c m2 c2 : Nat) :
  builtS Tryz.prog 70 1 [(0,.agg #[.int .i64 k,.string nm,.int .i64 s,.int .i64 z,.int .i64 o1,.int .i64 x1,.string n1,.int .i64 l1,.int .i64 z1,.slice B1 p1 q1,.int .i64 o2,.int .i64 x2,.string n2,.int .i64 l2,.int .i64 z2,.slice B2 p2 q2,.slice A m c,.slice A2 m2 c2])] =
   some #[.int .i64 k,.string nm,.int .i64 s,.int .i64 z,.int .i64 o1,.int .i64 x1,.string n1,.int .i64 l1,.int .i64 z1,.slice B1 p1 q1,.int .i64 o2,.int .i64 x2,.string n2,.int .i64 l2,.int .i64 z2,.slice B2 p2 q2,.slice A m c,.slice A2 m2 c2]:=by kernel_rfl
theorem exr_step {gc base n : Nat} {wc wn : World} {cs : List Value} {x : Ex} (hb : gc < base) (ho : Only gc wc wn) (h : ExR wc (New wc base) n cs x) : ExR wn (New wn base) n cs x:=
 ExR.more (fun i hi=>⟨hi.1,Nat.lt_of_lt_of_le hi.2 ho.size⟩) _ _ _ (ExR.keep (ho.mono (fun i (hi : New wc base i)=>⟨hi.2,by have:=hi.1; omega⟩)) _ _ _ h)
theorem exr_in {base n : Nat} {wc wn : World} {cs : List Value} {x : Ex} (hb : base ≤ wc.heap.size) (hn : n ≤ 5) (h : ExR wn (New wn wc.heap.size) n cs x) : ExR wn (New wn base) 5 cs x:=
 ExR.upto hn (ExR.more (fun i hi=>⟨by have:=hi.1; omega,hi.2⟩) _ _ _ h)
theorem slr_step {gc base n : Nat} {wc wn : World} {A : Option Addr} {m c : Nat} {l : List Stm} (hb : gc < base) (ho : Only gc wc wn) (h : SlR wc (New wc base) 18 (fun cs s=>StmR wc (New wc base) n cs s) A m c l) : SlR wn (New wn base) 18 (fun cs s=>StmR wn (New wn base) n cs s) A m c l:=by
 have hs : Same (New wc base) wc wn:=ho.mono (fun i (hi : New wc base i)=>⟨hi.2,by have:=hi.1; omega⟩)
 exact (h.keep hs (StmR.keep hs n)).more (fun i hi=>⟨hi.1,Nat.lt_of_lt_of_le hi.2 ho.size⟩) (StmR.more (fun i (hi : New wc base i)=>⟨hi.1,Nat.lt_of_lt_of_le hi.2 ho.size⟩) n)
theorem slr_in {base n : Nat} {wc wn : World} {A : Option Addr} {m c : Nat} {l : List Stm} (hb : base ≤ wc.heap.size) (h : SlR wn (New wn wc.heap.size) 18 (fun cs s=>StmR wn (New wn wc.heap.size) n cs s) A m c l) : SlR wn (New wn base) 18 (fun cs s=>StmR wn (New wn base) n cs s) A m c l:=
 h.more (fun i hi=>⟨by have:=hi.1; omega,hi.2⟩) (StmR.more (fun i (hi : New wn wc.heap.size i)=>⟨by have:=hi.1; omega,hi.2⟩) n)
theorem few_up {w : World} {S : Nat → Prop} {n : Nat} {cs : List Value} {e : Ex} (h : ExR w S n cs e) (hf : Ex.few 2 n e) : Ex.few 1000 5 e:=by
 have h2 : Ex.few 2 5 e:=Ex.few_upto h hf
 have key : ∀ (n : Nat) (e : Ex),Ex.few 2 n e → Ex.few 1000 n e:=by
  intro n
  induction n with
  | zero=>intro e _; trivial
  | succ n ih=>
   intro e he
   obtain ⟨op,val,name,slot,size,args⟩:=e
   exact ⟨by have:=he.1; omega,fun a ha=>ih a (he.2 a ha)⟩
 exact key 5 e h2
def StmtsPost (n most : Nat) (B : Nat → Prop) (gc r : Nat) (w : World) (e : Ending) (w' : World) : Prop:=
 ∃ (l : List Stm) (A : Option Addr) (m c r' : Nat),e = .returned (.slice A m c) ∧ SlR w' (New w' w.heap.size) 18 (fun cs s=>StmR w' (New w' w.heap.size) n cs s) A m c l ∧ l.length ≤ most ∧ (∀ a ∈ l,Stm.few 1000 n a) ∧ r' ≤ r ∧ Cod w' B gc r' ∧ Only gc w w'
def StmtsSaid (n : Nat) : Prop:=∀ (most : Nat) (w : World) (B : Nat → Prop) (gc r : Nat),most ≤ 100 → Cod w B gc r → Glob w → Calls Tryz.prog 55 #[.pointer (some ⟨gc,0,none⟩),.int .i64 most,.int .i64 n] w (StmtsPost n most B gc r w)
def StmtsRel (n most : Nat) (B : Nat → Prop) (gc r : Nat) (w : World) (v i : Value) (wr : World) : Prop:=
 ∃ (k r' : Nat) (l : List Stm),i = .int .i64 k ∧ l.length + k ≤ most ∧ Grow (fun w S cs e=>StmR w S n cs e) 18 70 wr w.heap.size v l ∧ (∀ a ∈ l,Stm.few 1000 n a) ∧ r' ≤ r ∧ Cod wr B gc r' ∧ Only gc w wr
def CutK7 (n : Nat) (w1 : World) (s9 : Value) (wx : World) : Prop:=∃ k : Int,s9 = .int .i64 k ∧ 0 ≤ k ∧ k < 10 ∧ (n = 0 → k < 7) ∧ w1 = wx
def StmCut (n : Nat) (B : Nat → Prop) (gc r : Nat) (w : World) (l : List Stm) (v : Value) (wx : World) : Prop:=
 ∃ (s : Stm) (r' : Nat),Grow (fun w S cs e=>StmR w S n cs e) 18 70 wx w.heap.size v (l ++ [s]) ∧ Stm.few 1000 n s ∧ r' ≤ r ∧ Cod wx B gc r' ∧ Only gc w wx
theorem rel_of_cut {n most gc r r' k : Nat} {B : Nat → Prop} {w wx : World} {l : List Stm} {v : Value} (hk : 0 < k) (hkl : l.length + k ≤ most) (hr : r' ≤ r) (hlp : ∀ a ∈ l,Stm.few 1000 n a) (h : StmCut n B gc r' w l v wx) : StmtsRel n most B gc r w v (.int .i64 ((k : Int) - 1)) wx:=by
 obtain ⟨s,r3,hgr3,hfs,hr3,hc3,ho3⟩:=h
 refine ⟨k - 1,r3,l ++ [s],by congr 1; omega,by simp; omega,hgr3,fun a ha=>?_,by omega,hc3,ho3⟩
 rcases List.mem_append.1 ha with h1 | h1
 ·exact hlp a h1
 ·simp at h1; subst h1; exact hfs
theorem stm_end {n gc r r' : Nat} {B : Nat → Prop} {w wr wz w5 : World} {v v5 : Value} {l : List Stm} {s : Stm} {css : List (List Value)} {cs : List Value} {o : Obj} (hBw : ∀ i,B i → i < w.heap.size) (hw : w.heap.size ≤ wr.heap.size) (hz : wr.heap.size ≤ wz.heap.size)
  (g1 : css.length = l.length) (g2 : ∀ cs ∈ css,cs.length = 18) (g3 : wz.ownsRow w.heap.size 70 18 v l.length css.flatten) (g4 : ∀ (k : Nat) (cs : List Value) (a : Stm),css[k]? = some cs → l[k]? = some a → StmR wz (Rest wz w.heap.size v) n cs a)
  (hfresh : ∀ i,wr.heap.size ≤ i → v.ownBlock ≠ some i) (hx : StmR wz (New wz wr.heap.size) n cs s) (hf : Stm.few 1000 n s) (hr : r' ≤ r) (hc : Cod wz B gc r') (ho : Only gc w wz)
  (hown : w5.ownsRow w.heap.size 70 18 v5 (l.length + 1) (css.flatten ++ cs)) (hg : (wz.alloc o).grownBy w5 v.ownBlock) (hat : v5.ownBlock = v.ownBlock ∨ v5.ownBlock = some (wz.alloc o).heap.size) : StmCut n B gc r w l v5 w5:=by
 refine ⟨s,r',Grow.push (StmR.good n) g1 g2 g4 (Keep.new wz o) hown hg hat hx.len (StmR.more (fun i hi=>⟨by have:=hi.1; omega,hi.2,hfresh i hi.1⟩) _ _ _ hx),hf,hr,?_,?_⟩
 ·exact (hc.alloc o).same (Same.append (Same.refl _ _) (g3.alloc o) hg (fun i hi=>hBw i hi) (by simp; omega))
 ·exact Same.append (Only.alloc ho o) (g3.alloc o) hg (fun i hi=>hi.1) (by simp; omega)
theorem bld_stm1 (nm : ByteArray) (o4 x4 : Int) (n4 : ByteArray) (l4 z4 : Int) (B4 : Option Addr) (p4 q4 : Nat) : Tryz.prog.built 70 [(0,.int .i64 1),(1,.string nm),(5,.agg #[.int .i64 o4,.int .i64 x4,.string n4,.int .i64 l4,.int .i64 z4,.slice B4 p4 q4])] = some #[.int .i64 1,.string nm,.int .i64 0,.int .i64 0,.int .i64 0,.int .i64 0,.string ⟨#[]⟩,.int .i64 0,.int .i64 0,.slice none 0 0,.int .i64 o4,.int .i64 x4,.string n4,.int .i64 l4,.int .i64 z4,.slice B4 p4 q4,.slice none 0 0,.slice none 0 0]:=by kernel_rfl
theorem bld_stm2 (nm : ByteArray) (o4 x4 : Int) (n4 : ByteArray) (l4 z4 : Int) (B4 : Option Addr) (p4 q4 : Nat) (o5 x5 : Int) (n5 : ByteArray) (l5 z5 : Int) (B5 : Option Addr) (p5 q5 : Nat) : Tryz.prog.built 70 [(0,.int .i64 2),(1,.string nm),(4,.agg #[.int .i64 o4,.int .i64 x4,.string n4,.int .i64 l4,.int .i64 z4,.slice B4 p4 q4]),(5,.agg #[.int .i64 o5,.int .i64 x5,.string n5,.int .i64 l5,.int .i64 z5,.slice B5 p5 q5])] = some #[.int .i64 2,.string nm,.int .i64 0,.int .i64 0,.int .i64 o4,.int .i64 x4,.string n4,.int .i64 l4,.int .i64 z4,.slice B4 p4 q4,.int .i64 o5,.int .i64 x5,.string n5,.int .i64 l5,.int .i64 z5,.slice B5 p5 q5,.slice none 0 0,.slice none 0 0]:=by kernel_rfl
theorem bld_stm5 (o3 x3 : Int) (n3 : ByteArray) (l3 z3 : Int) (B3 : Option Addr) (p3 q3 : Nat) (o4 x4 : Int) (n4 : ByteArray) (l4 z4 : Int) (B4 : Option Addr) (p4 q4 : Nat) : Tryz.prog.built 70 [(0,.int .i64 5),(4,.agg #[.int .i64 o3,.int .i64 x3,.string n3,.int .i64 l3,.int .i64 z3,.slice B3 p3 q3]),(5,.agg #[.int .i64 o4,.int .i64 x4,.string n4,.int .i64 l4,.int .i64 z4,.slice B4 p4 q4])] = some #[.int .i64 5,.string ⟨#[]⟩,.int .i64 0,.int .i64 0,.int .i64 o3,.int .i64 x3,.string n3,.int .i64 l3,.int .i64 z3,.slice B3 p3 q3,.int .i64 o4,.int .i64 x4,.string n4,.int .i64 l4,.int .i64 z4,.slice B4 p4 q4,.slice none 0 0,.slice none 0 0]:=by kernel_rfl
theorem bld_stm6 (o3 x3 : Int) (n3 : ByteArray) (l3 z3 : Int) (B3 : Option Addr) (p3 q3 : Nat) : Tryz.prog.built 70 [(0,.int .i64 6),(5,.agg #[.int .i64 o3,.int .i64 x3,.string n3,.int .i64 l3,.int .i64 z3,.slice B3 p3 q3])] = some #[.int .i64 6,.string ⟨#[]⟩,.int .i64 0,.int .i64 0,.int .i64 0,.int .i64 0,.string ⟨#[]⟩,.int .i64 0,.int .i64 0,.slice none 0 0,.int .i64 o3,.int .i64 x3,.string n3,.int .i64 l3,.int .i64 z3,.slice B3 p3 q3,.slice none 0 0,.slice none 0 0]:=by kernel_rfl
theorem bld_stm3 (o3 x3 : Int) (n3 : ByteArray) (l3 z3 : Int) (B3 : Option Addr) (p3 q3 : Nat) (A4 : Option Addr) (m4 c4 : Nat) (A5 : Option Addr) (m5 c5 : Nat) : Tryz.prog.built 70 [(0,.int .i64 3),(5,.agg #[.int .i64 o3,.int .i64 x3,.string n3,.int .i64 l3,.int .i64 z3,.slice B3 p3 q3]),(6,.slice A4 m4 c4),(7,.slice A5 m5 c5)] = some #[.int .i64 3,.string ⟨#[]⟩,.int .i64 0,.int .i64 0,.int .i64 0,.int .i64 0,.string ⟨#[]⟩,.int .i64 0,.int .i64 0,.slice none 0 0,.int .i64 o3,.int .i64 x3,.string n3,.int .i64 l3,.int .i64 z3,.slice B3 p3 q3,.slice A4 m4 c4,.slice A5 m5 c5]:=by kernel_rfl
theorem bld_stm4 (o3 x3 : Int) (n3 : ByteArray) (l3 z3 : Int) (B3 : Option Addr) (p3 q3 : Nat) (A4 : Option Addr) (m4 c4 : Nat) : Tryz.prog.built 70 [(0,.int .i64 4),(5,.agg #[.int .i64 o3,.int .i64 x3,.string n3,.int .i64 l3,.int .i64 z3,.slice B3 p3 q3]),(6,.slice A4 m4 c4)] = some #[.int .i64 4,.string ⟨#[]⟩,.int .i64 0,.int .i64 0,.int .i64 0,.int .i64 0,.string ⟨#[]⟩,.int .i64 0,.int .i64 0,.slice none 0 0,.int .i64 o3,.int .i64 x3,.string n3,.int .i64 l3,.int .i64 z3,.slice B3 p3 q3,.slice A4 m4 c4,.slice none 0 0]:=by kernel_rfl
set_option maxHeartbeats 8000000 in
set_option maxRecDepth 100000 in
theorem stmts_succ (n : Nat) (hn100 : n ≤ 100) (ih : 0 < n → StmtsSaid n) : StmtsSaid (n + 1):=by
 intro most w B gc r hmost hcod hgl
 have hg2:=hgl.cod hcod
 have hgw:=hcod.lt
 have hBw:=hcod.2.1
 have hgl2:=hgl.2.2
 obtain ⟨i0,hi0,iz0,iz1,iz2⟩:=info_of info_Stm
 have IH:=Lib.hid ih
 have HCOD:=Lib.hid hcod
 have HGL:=Lib.hid hgl
 have HBW:=Lib.hid hBw
 have HI0:=Lib.hid hi0
 have IZ0:=Lib.hid iz0
 have IZ1:=Lib.hid iz1
 have IZ2:=Lib.hid iz2
 clear ih hcod hgl hBw hi0 iz0 iz1 iz2
 go_enter Tryz.func55,Tryz.ntmps55
 go_wp2_with fail
 refine (next_any w B gc r ((most : Int) + 1) HCOD.out (by omega) (by omega)).mono ?_
 rintro e w1 ⟨v1,hv10,hv11,rfl,hc1,ho1⟩
 obtain ⟨n1,rfl⟩:=Int.eq_ofNat_of_zero_le hv10
 have HC1:=Lib.hid hc1
 have HO1:=Lib.hid ho1
 clear hc1 ho1
 go_wp2_with fail
 go_loopw [7,8] (fun v i wr=>StmtsRel (n + 1) most B gc r w v i wr) (fun _ i _=>(intOf i).toNat)
 case atStart=>exact ⟨n1,r - 1,[],rfl,by simp; omega,Grow.nil_,by simp,by omega,HC1.out,HO1.out⟩
 case round=>
  obtain ⟨k,r',l,rfl,hkl,hgr,hlp,hr',hcr,hor⟩:=hrel
  have hzr:=hor.size
  by_cases hk : 0 < k
  ·have hglr:=HGL.out.only hg2 hor
   have hgcr : gc < wr.heap.size:=by omega
   have HGR:=Lib.hid hgr
   have HLP:=Lib.hid hlp
   have HCR:=Lib.hid hcr
   have HOR:=Lib.hid hor
   have HGLR:=Lib.hid hglr
   clear hgr hlp hcr hor hglr
   go_wp2_with fail
   refine (next_any wr B gc r' 10 HCR.out (by omega) (by omega)).mono ?_
   rintro e w2 ⟨v2,hv20,hv21,rfl,hc2,ho2⟩
   have hz2:=ho2.size
   have hgr2:=Grow.same (StmR.good (n + 1)) HGR.out ho2 (fun i h1 h2=>⟨h2,by omega⟩)
   have hgl2':=HGLR.out.only hg2 ho2
   have ho2' : Only gc w w2:=Only.trans HOR.out ho2
   have hfr : ∀ i,wr.heap.size ≤ i → _ ≠ some i:=fun i hi=>HGR.out.fresh hi
   have HC2:=Lib.hid hc2
   have HGR2:=Lib.hid hgr2
   have HGL2':=Lib.hid hgl2'
   have HO2':=Lib.hid ho2'
   have HFR:=Lib.hid hfr
   clear hc2 hgr2 hgl2' ho2' hfr
   clear ho2
   go_upto_region 6 with fail
   go_cut [25] from 20 to 24 (fun s25 wx=>CutTB w2 (decide (n = 0) && decide (7 ≤ v2)) s25 wx)
   case first=>
    by_cases hn : n = 0
    ·subst hn
     go_wp2_with fail
     go_meet
     exact ⟨by simp,rfl⟩
    ·have hd : decide (((n + 1 : Nat) : Int) ≤ 1) = false:=by simp; omega
     go_wp2_with fail
     go_meet
     exact ⟨by simp [hn],rfl⟩
   case rest=>
    obtain ⟨rfl,rfl⟩:=hcut
    go_upto_if 25 with fail
    go_cut [9] from 25 to 27 (fun s9 wx=>CutK7 n w2 s9 wx)
    case first=>
     generalize hbb : (decide (n = 0) && decide (7 ≤ v2)) = bb
     have HBB:=Lib.hid hbb
     clear hbb
     cases bb with
     | true=>
      have h8 : n = 0 ∧ 7 ≤ v2:=by have:=HBB.out; simpa using this
      have HH8:=Lib.hid h8.1
      have h8':=h8.2
      clear h8
      go_wp2_with fail
      go_meet
      exact ⟨v2 - 7,by go_num,by omega,by omega,fun _=>by omega,rfl⟩
     | false=>
      have h8 : ¬ (n = 0 ∧ 7 ≤ v2):=fun h=>by have:=HBB.out; simp [h.1,h.2] at this
      have H8:=Lib.hid h8
      clear h8
      go_wp2_with fail
      go_meet
      exact ⟨v2,rfl,by omega,by omega,fun hn=>by have:=H8.out; omega,rfl⟩
    case rest=>
     obtain ⟨k9,rfl,hk0,hk10,hkn,rfl⟩:=hcut
     have HKN:=Lib.hid hkn
     clear hkn hv20 hv21
     have hl100 : l.length ≤ 100:=by omega
     obtain ⟨css,g1,g2,g3,g4⟩:=HGR2.out
     have G1:=Lib.hid g1
     have G2:=Lib.hid g2
     have G3:=Lib.hid g3
     have G4:=Lib.hid g4
     clear g1 g2 g3 g4
     by_cases t0 : k9 < 3
     ·as_aux_lemma=>
      go_upto_region 10 with fail
      have hA : True:=trivial
      refine wp_region_L 99 (fun _=>True) (fun wx=>Same (fun i=>i < w.heap.size ∧ i ≠ gc) w2 wx) (by kernel_rfl) trivial (Same.drew (Same.refl _ _)) (fun _ hB=>?_)
      refine wpL_takeB (i:=0) (v:=?_) rfl (by kernel_rfl) (by kernel_rfl) (by kernel_rfl) (by decide) (fun _ _ _ h=>h) (Or.inl ⟨by rfl,?_⟩) (SAB.both hA hB) ?_
      rotate_left
      ·intro wx hBx
       (try dsimp only at hBx)
       go_simp
       try with_reducible rfl
      try simp only [Act.put,List.setIfInBounds_toArray,List.set_cons_zero,List.set_cons_succ]
      refine wpL_takeB (i:=1) (v:=?_) rfl (by kernel_rfl) (by kernel_rfl) (by kernel_rfl) (by decide) (fun _ _ _ h=>h) (Or.inl ⟨by rfl,?_⟩) (SAB.both hA hB) ?_
      rotate_left
      ·intro wx hBx
       (try dsimp only at hBx)
       go_simp
       try with_reducible rfl
      try simp only [Act.put,List.setIfInBounds_toArray,List.set_cons_zero,List.set_cons_succ]
      refine wpL_takeB (i:=5) (v:=?_) rfl (by kernel_rfl) (by kernel_rfl) (by kernel_rfl) (by decide) (fun _ _ _ h=>h) (Or.inl ⟨by rfl,?_⟩) (SAB.both hA hB) ?_
      rotate_left
      ·intro wx hBx
       (try dsimp only at hBx)
       go_simp
       try with_reducible rfl
      try simp only [Act.put,List.setIfInBounds_toArray,List.set_cons_zero,List.set_cons_succ]
      refine wpL_one (i:=2) (by kernel_rfl) (StepL.mk rfl (fun K hK=>?_))
      go_simp
      refine (next_any w2.drew B gc _ 3 (HC2.out.keep (Same.drew (Same.refl _ _))) (by omega) (by omega)).mono ?_
      rintro e w3 ⟨v3,hv30,hv31,rfl,hc3,ho3⟩
      have hoo3 : Only gc w2 w3:=Only.trans (Same.drew (Same.refl _ _)) ho3
      have hz3:=hoo3.size
      have hgl3:=HGL2'.out.only hg2 hoo3
      have how3:=Only.trans HO2'.out hoo3
      obtain ⟨j,rfl⟩:=Int.eq_ofNat_of_zero_le hv30
      obtain ⟨nm,hnm0⟩:=HGL2'.out.1 j (by omega)
      have hj0 : (0 : Int) ≤ j:=by omega
      have hj3 : (j : Int) < 3:=by omega
      have hnm : ∀ wx,Same (fun i=>i < w.heap.size ∧ i ≠ gc) w2 wx → wx.cell? ⟨0,j,none⟩ = some (.string nm):=fun wx hx=>(hx.cell (p:=⟨0,j,none⟩) ⟨show 0 < w.heap.size by omega,show 0 ≠ gc by omega⟩).trans hnm0
      refine hK.out _ _ (SAB.both trivial (Same.trans hB ho3 (fun i hi=>⟨by have:=hi.1; first | omega | (simp; omega),hi.2⟩))) (fun hSS=>?_)
      clear hK K hA hB
      have hB:=hSS.2
      have hA:=hSS.1 (by kernel_rfl)
      (try dsimp only at hB); (try dsimp only at hA); clear hSS
      try simp only [Act.put,List.setIfInBounds_toArray,List.set_cons_zero,List.set_cons_succ]
      clear hnm0
      refine wpL_takeB (i:=3) (v:=?_) rfl (by kernel_rfl) (by kernel_rfl) (by kernel_rfl) (by decide) (fun _ _ _ h=>h) (Or.inl ⟨by rfl,?_⟩) (SAB.both hA hB) ?_
      rotate_left
      ·intro wx hBx
       (try dsimp only at hBx)
       go_simp
       try with_reducible rfl
      try simp only [Act.put,List.setIfInBounds_toArray,List.set_cons_zero,List.set_cons_succ]
      refine wpL_takeB (i:=4) (v:=?_) rfl (by kernel_rfl) (by kernel_rfl) (by kernel_rfl) (by decide) (fun _ _ _ h=>h) (Or.inl ⟨by rfl,?_⟩) (SAB.both hA hB) ?_
      rotate_left
      ·intro wx hBx
       (try dsimp only at hBx)
       go_simp
       try with_reducible rfl
      try simp only [Act.put,List.setIfInBounds_toArray,List.set_cons_zero,List.set_cons_succ]
      clear hnm
      refine wpL_one (i:=6) (by kernel_rfl) (StepL.mk rfl (fun K hK=>?_))
      go_simp
      refine (expr_all 3 (by omega) (by omega) w3 B gc _ hc3 hgl3).mono ?_
      rintro e w4 ⟨y4,cs4,r4,rfl,hx4,hf4,hr4,hc4,ho4⟩
      obtain ⟨o4,x4,n4,l4,z4,a4,B4,p4,q4,he4,rfl⟩:=ExR.open_ hx4
      have hff4:=few_up hx4 hf4
      have hxx4:=exr_in (base:=wr.heap.size) (by omega) (by omega) hx4
      clear hx4 hf4 he4
      have hoo4:=ho4
      have hz4:=hoo4.size
      have hgl4:=hgl3.only hg2 hoo4
      have how4:=Only.trans how3 hoo4
      refine hK.out _ _ (SAB.both trivial (Same.trans hB ho4 (fun i hi=>⟨by have:=hi.1; first | omega | (simp; omega),hi.2⟩))) (fun hSS=>?_)
      clear hK K hA hB
      have hB:=hSS.2
      have hA:=hSS.1 (by kernel_rfl)
      (try dsimp only at hB); (try dsimp only at hA); clear hSS
      try simp only [Act.put,List.setIfInBounds_toArray,List.set_cons_zero,List.set_cons_succ]
      have hgz:=ownsRow_same G3.out (show Same (fun i=>i < w2.heap.size ∧ i ≠ gc) w2 w4 from Only.trans hoo3 hoo4) (fun i hi=>⟨hi.2,by omega⟩)
      have hoz : Only gc w2 w4:=Only.trans hoo3 hoo4
      have g3':=hgz
      have g4' : ∀ (k : Nat) (cs : List Value) (a : Stm),css[k]? = some cs → l[k]? = some a → StmR w4 (Rest w4 w.heap.size _) (n + 1) cs a:=fun k cs a e1 e2=>StmR.more (fun i hi=>⟨hi.1,Nat.lt_of_lt_of_le hi.2.1 hoz.size,hi.2.2⟩) _ _ _ (StmR.keep (hoz.mono (fun i hi=>⟨hi.2.1,by have:=hi.1; omega⟩)) _ _ _ (G4.out k cs a e1 e2))
      have hst : StmR w4 (New w4 wr.heap.size) (n + 1) [.int .i64 1,.string nm,.int .i64 0,.int .i64 0,.int .i64 0,.int .i64 0,.string ⟨#[]⟩,.int .i64 0,.int .i64 0,.slice none 0 0,.int .i64 o4,.int .i64 x4,.string n4,.int .i64 l4,.int .i64 z4,.slice B4 p4 q4,.slice none 0 0,.slice none 0 0] (.mk 1 nm 0 0 zeroEx y4 [] []):=⟨I64.zero,I64.zero,[.int .i64 0,.int .i64 0,.string ⟨#[]⟩,.int .i64 0,.int .i64 0,.slice none 0 0],[.int .i64 o4,.int .i64 x4,.string n4,.int .i64 l4,.int .i64 z4,.slice B4 p4 q4],_,_,_,_,_,_,rfl,zeroEx_R 4,hxx4,SlR.nil_,SlR.nil_⟩
      have hsf : Stm.few 1000 (n + 1) (.mk 1 nm 0 0 zeroEx y4 [] []):=⟨zeroEx_few _ _,hff4,(by simp),(by simp),(by simp),(by simp)⟩
      have G3':=Lib.hid g3'
      have G4':=Lib.hid g4'
      have HST:=Lib.hid hst
      have HSF:=Lib.hid hsf
      clear g3' g4' hst hsf
      clear hgz hoz
      refine wpL_takeB (i:=7) rfl (by kernel_rfl) (by kernel_rfl) (by kernel_rfl) (by decide) (fun _ _ _ h=>h) (yieldsIf_bld (by rfl) _ _ rfl _ [(0,.int .i64 1),(1,.string nm),(5,.agg #[.int .i64 o4,.int .i64 x4,.string n4,.int .i64 l4,.int .i64 z4,.slice B4 p4 q4])] rfl (bld_stm1 _ _ _ _ _ _ _ _ _)) (SAB.both hA hB) ?_
      try simp only [Act.put,List.setIfInBounds_toArray,List.set_cons_zero,List.set_cons_succ]
      refine wpL_one (i:=8) (by kernel_rfl) (StepL.mk rfl (fun K hK=>?_))
      refine step_buildS rfl _ _ _ _ rfl Tryz.underlying61 _ [(0,.agg #[.int .i64 1,.string nm,.int .i64 0,.int .i64 0,.int .i64 0,.int .i64 0,.string ⟨#[]⟩,.int .i64 0,.int .i64 0,.slice none 0 0,.int .i64 o4,.int .i64 x4,.string n4,.int .i64 l4,.int .i64 z4,.slice B4 p4 q4,.slice none 0 0,.slice none 0 0])] rfl (built_stm1 _ _ _ _ _ _ _ _ _ _ _ _ _ _ _ _ _ _ _ _ _ _ _ _ _ _) ?_
      refine hK.out _ _ (SAB.both trivial (Same.alloc hB (fun i hi=>by have:=hi.1; omega) _)) (fun hSS=>?_)
      clear hK K hA hB
      have hB:=hSS.2
      have hA:=hSS.1 (by kernel_rfl)
      (try dsimp only at hB); (try dsimp only at hA); clear hSS
      try simp only [Act.put,List.setIfInBounds_toArray,List.set_cons_zero,List.set_cons_succ]
      refine wpL_one (i:=9) (by kernel_rfl) (StepL.mk rfl (fun K hK=>?_))
      refine step_append_any _ rfl (.tmp 41) (.tmp 49) _ rfl w.heap.size 70 i0 _ 18 232 Tryz.underlying61 HI0.out IZ0.out IZ1.out IZ2.out rfl (by omega) _ l.length css.flatten rfl (G3'.out.alloc _) _ (some ⟨w4.heap.size,0,none⟩) 1 1 [.int .i64 1,.string nm,.int .i64 0,.int .i64 0,.int .i64 0,.int .i64 0,.string ⟨#[]⟩,.int .i64 0,.int .i64 0,.slice none 0 0,.int .i64 o4,.int .i64 x4,.string n4,.int .i64 l4,.int .i64 z4,.slice B4 p4 q4,.slice none 0 0,.slice none 0 0] rfl (Reads.new rfl) HST.out.one' (by simp [maxLen]; omega) (by omega) (by simp; omega) ?_
      intro v5 w9 hown5 hg5 hat5
      have hfin:=stm_end (r:=r') HBW.out hzr (by omega) G1.out G2.out G3'.out G4'.out HFR.out HST.out HSF.out (by omega) hc4 how4 hown5 hg5 hat5
      refine hK.out _ _ (SAB.both trivial (Same.append hB (G3'.out.alloc _) hg5 (fun i hi=>hi.1) (by simp; omega))) (fun hSS=>?_)
      clear hK K hA hB
      have hB:=hSS.2
      have hA:=hSS.1 (by kernel_rfl)
      (try dsimp only at hB); (try dsimp only at hA); clear hSS
      try simp only [Act.put,List.setIfInBounds_toArray,List.set_cons_zero,List.set_cons_succ]
      refine wpL_takeB (i:=10) (v:=?_) rfl (by kernel_rfl) (by kernel_rfl) (by kernel_rfl) (by decide) (fun _ _ _ h=>h) (Or.inl ⟨by rfl,?_⟩) (SAB.both hA hB) ?_
      rotate_left
      ·intro wx hBx
       (try dsimp only at hBx)
       go_simp
       try with_reducible rfl
      try simp only [Act.put,List.setIfInBounds_toArray,List.set_cons_zero,List.set_cons_succ]
      refine wpL_done (by kernel_rfl) ?_
      have HFIN:=Lib.hid hfin
      clear hfin
      clear hown5 hg5 hat5 hA hB
      go_wp2_with fail
      go_roundw
      case rel=>exact rel_of_cut hk hkl hr' HLP.out HFIN.out
      case measure=>simp [intOf]; omega
     by_cases t1 : k9 = 3
     ·have e1 : (k9 == 3) = true:=by simpa using t1
      clear t1
      as_aux_lemma=>
      go_upto_region 12 with fail
      have hA : True:=trivial
      refine wp_region_L 99 (fun _=>True) (fun wx=>Same (fun i=>i < w.heap.size ∧ i ≠ gc) w2 wx) (by kernel_rfl) trivial (Same.drew (Same.refl _ _)) (fun _ hB=>?_)
      refine wpL_takeB (i:=0) (v:=?_) rfl (by kernel_rfl) (by kernel_rfl) (by kernel_rfl) (by decide) (fun _ _ _ h=>h) (Or.inl ⟨by rfl,?_⟩) (SAB.both hA hB) ?_
      rotate_left
      ·intro wx hBx
       (try dsimp only at hBx)
       go_simp
       try with_reducible rfl
      try simp only [Act.put,List.setIfInBounds_toArray,List.set_cons_zero,List.set_cons_succ]
      refine wpL_takeB (i:=1) (v:=?_) rfl (by kernel_rfl) (by kernel_rfl) (by kernel_rfl) (by decide) (fun _ _ _ h=>h) (Or.inl ⟨by rfl,?_⟩) (SAB.both hA hB) ?_
      rotate_left
      ·intro wx hBx
       (try dsimp only at hBx)
       go_simp
       try with_reducible rfl
      try simp only [Act.put,List.setIfInBounds_toArray,List.set_cons_zero,List.set_cons_succ]
      refine wpL_takeB (i:=5) (v:=?_) rfl (by kernel_rfl) (by kernel_rfl) (by kernel_rfl) (by decide) (fun _ _ _ h=>h) (Or.inl ⟨by rfl,?_⟩) (SAB.both hA hB) ?_
      rotate_left
      ·intro wx hBx
       (try dsimp only at hBx)
       go_simp
       try with_reducible rfl
      try simp only [Act.put,List.setIfInBounds_toArray,List.set_cons_zero,List.set_cons_succ]
      refine wpL_takeB (i:=7) (v:=?_) rfl (by kernel_rfl) (by kernel_rfl) (by kernel_rfl) (by decide) (fun _ _ _ h=>h) (Or.inl ⟨by rfl,?_⟩) (SAB.both hA hB) ?_
      rotate_left
      ·intro wx hBx
       (try dsimp only at hBx)
       go_simp
       try with_reducible rfl
      try simp only [Act.put,List.setIfInBounds_toArray,List.set_cons_zero,List.set_cons_succ]
      refine wpL_one (i:=2) (by kernel_rfl) (StepL.mk rfl (fun K hK=>?_))
      go_simp
      refine (next_any w2.drew B gc _ 2 (HC2.out.keep (Same.drew (Same.refl _ _))) (by omega) (by omega)).mono ?_
      rintro e w3 ⟨v3,hv30,hv31,rfl,hc3,ho3⟩
      have hoo3 : Only gc w2 w3:=Only.trans (Same.drew (Same.refl _ _)) ho3
      have hz3:=hoo3.size
      have hgl3:=HGL2'.out.only hg2 hoo3
      have how3:=Only.trans HO2'.out hoo3
      obtain ⟨j,rfl⟩:=Int.eq_ofNat_of_zero_le hv30
      obtain ⟨nm,hnm0⟩:=HGL2'.out.2.1 j (by omega)
      have hj0 : (0 : Int) ≤ j:=by omega
      have hj3 : (j : Int) < 2:=by omega
      have hnm : ∀ wx,Same (fun i=>i < w.heap.size ∧ i ≠ gc) w2 wx → wx.cell? ⟨1,j,none⟩ = some (.string nm):=fun wx hx=>(hx.cell (p:=⟨1,j,none⟩) ⟨show 1 < w.heap.size by omega,show 1 ≠ gc by omega⟩).trans hnm0
      refine hK.out _ _ (SAB.both trivial (Same.trans hB ho3 (fun i hi=>⟨by have:=hi.1; first | omega | (simp; omega),hi.2⟩))) (fun hSS=>?_)
      clear hK K hA hB
      have hB:=hSS.2
      have hA:=hSS.1 (by kernel_rfl)
      (try dsimp only at hB); (try dsimp only at hA); clear hSS
      try simp only [Act.put,List.setIfInBounds_toArray,List.set_cons_zero,List.set_cons_succ]
      clear hnm0
      refine wpL_takeB (i:=3) (v:=?_) rfl (by kernel_rfl) (by kernel_rfl) (by kernel_rfl) (by decide) (fun _ _ _ h=>h) (Or.inl ⟨by rfl,?_⟩) (SAB.both hA hB) ?_
      rotate_left
      ·intro wx hBx
       (try dsimp only at hBx)
       go_simp
       try with_reducible rfl
      try simp only [Act.put,List.setIfInBounds_toArray,List.set_cons_zero,List.set_cons_succ]
      refine wpL_takeB (i:=4) (v:=?_) rfl (by kernel_rfl) (by kernel_rfl) (by kernel_rfl) (by decide) (fun _ _ _ h=>h) (Or.inl ⟨by rfl,?_⟩) (SAB.both hA hB) ?_
      rotate_left
      ·intro wx hBx
       (try dsimp only at hBx)
       go_simp
       try with_reducible rfl
      try simp only [Act.put,List.setIfInBounds_toArray,List.set_cons_zero,List.set_cons_succ]
      clear hnm
      refine wpL_one (i:=6) (by kernel_rfl) (StepL.mk rfl (fun K hK=>?_))
      go_simp
      refine (expr_all 2 (by omega) (by omega) w3 B gc _ hc3 hgl3).mono ?_
      rintro e w4 ⟨y4,cs4,r4,rfl,hx4,hf4,hr4,hc4,ho4⟩
      obtain ⟨o4,x4,n4,l4,z4,a4,B4,p4,q4,he4,rfl⟩:=ExR.open_ hx4
      have hff4:=few_up hx4 hf4
      have hxx4:=exr_in (base:=wr.heap.size) (by omega) (by omega) hx4
      clear hx4 hf4 he4
      have hoo4:=ho4
      have hz4:=hoo4.size
      have hgl4:=hgl3.only hg2 hoo4
      have how4:=Only.trans how3 hoo4
      refine hK.out _ _ (SAB.both trivial (Same.trans hB ho4 (fun i hi=>⟨by have:=hi.1; first | omega | (simp; omega),hi.2⟩))) (fun hSS=>?_)
      clear hK K hA hB
      have hB:=hSS.2
      have hA:=hSS.1 (by kernel_rfl)
      (try dsimp only at hB); (try dsimp only at hA); clear hSS
      try simp only [Act.put,List.setIfInBounds_toArray,List.set_cons_zero,List.set_cons_succ]
      refine wpL_one (i:=8) (by kernel_rfl) (StepL.mk rfl (fun K hK=>?_))
      go_simp
      refine (expr_all 2 (by omega) (by omega) w4 B gc _ hc4 hgl4).mono ?_
      rintro e w5 ⟨y5,cs5,r5,rfl,hx5,hf5,hr5,hc5,ho5⟩
      obtain ⟨o5,x5,n5,l5,z5,a5,B5,p5,q5,he5,rfl⟩:=ExR.open_ hx5
      have hff5:=few_up hx5 hf5
      have hxx5:=exr_in (base:=wr.heap.size) (by omega) (by omega) hx5
      clear hx5 hf5 he5
      have hoo5:=ho5
      have hz5:=hoo5.size
      have hgl5:=hgl4.only hg2 hoo5
      have how5:=Only.trans how4 hoo5
      have hxx4':=exr_step hgcr hoo5 hxx4
      refine hK.out _ _ (SAB.both trivial (Same.trans hB ho5 (fun i hi=>⟨by have:=hi.1; first | omega | (simp; omega),hi.2⟩))) (fun hSS=>?_)
      clear hK K hA hB
      have hB:=hSS.2
      have hA:=hSS.1 (by kernel_rfl)
      (try dsimp only at hB); (try dsimp only at hA); clear hSS
      try simp only [Act.put,List.setIfInBounds_toArray,List.set_cons_zero,List.set_cons_succ]
      have hgz:=ownsRow_same G3.out (show Same (fun i=>i < w2.heap.size ∧ i ≠ gc) w2 w5 from Only.trans hoo3 (Only.trans hoo4 hoo5)) (fun i hi=>⟨hi.2,by omega⟩)
      have hoz : Only gc w2 w5:=Only.trans hoo3 (Only.trans hoo4 hoo5)
      have g3':=hgz
      have g4' : ∀ (k : Nat) (cs : List Value) (a : Stm),css[k]? = some cs → l[k]? = some a → StmR w5 (Rest w5 w.heap.size _) (n + 1) cs a:=fun k cs a e1 e2=>StmR.more (fun i hi=>⟨hi.1,Nat.lt_of_lt_of_le hi.2.1 hoz.size,hi.2.2⟩) _ _ _ (StmR.keep (hoz.mono (fun i hi=>⟨hi.2.1,by have:=hi.1; omega⟩)) _ _ _ (G4.out k cs a e1 e2))
      have hst : StmR w5 (New w5 wr.heap.size) (n + 1) [.int .i64 2,.string nm,.int .i64 0,.int .i64 0,.int .i64 o4,.int .i64 x4,.string n4,.int .i64 l4,.int .i64 z4,.slice B4 p4 q4,.int .i64 o5,.int .i64 x5,.string n5,.int .i64 l5,.int .i64 z5,.slice B5 p5 q5,.slice none 0 0,.slice none 0 0] (.mk 2 nm 0 0 y4 y5 [] []):=⟨I64.zero,I64.zero,[.int .i64 o4,.int .i64 x4,.string n4,.int .i64 l4,.int .i64 z4,.slice B4 p4 q4],[.int .i64 o5,.int .i64 x5,.string n5,.int .i64 l5,.int .i64 z5,.slice B5 p5 q5],_,_,_,_,_,_,rfl,hxx4',hxx5,SlR.nil_,SlR.nil_⟩
      have hsf : Stm.few 1000 (n + 1) (.mk 2 nm 0 0 y4 y5 [] []):=⟨hff4,hff5,(by simp),(by simp),(by simp),(by simp)⟩
      have G3':=Lib.hid g3'
      have G4':=Lib.hid g4'
      have HST:=Lib.hid hst
      have HSF:=Lib.hid hsf
      clear g3' g4' hst hsf
      clear hgz hoz
      refine wpL_takeB (i:=9) rfl (by kernel_rfl) (by kernel_rfl) (by kernel_rfl) (by decide) (fun _ _ _ h=>h) (yieldsIf_bld (by rfl) _ _ rfl _ [(0,.int .i64 2),(1,.string nm),(4,.agg #[.int .i64 o4,.int .i64 x4,.string n4,.int .i64 l4,.int .i64 z4,.slice B4 p4 q4]),(5,.agg #[.int .i64 o5,.int .i64 x5,.string n5,.int .i64 l5,.int .i64 z5,.slice B5 p5 q5])] rfl (bld_stm2 _ _ _ _ _ _ _ _ _ _ _ _ _ _ _ _ _)) (SAB.both hA hB) ?_
      try simp only [Act.put,List.setIfInBounds_toArray,List.set_cons_zero,List.set_cons_succ]
      refine wpL_one (i:=10) (by kernel_rfl) (StepL.mk rfl (fun K hK=>?_))
      refine step_buildS rfl _ _ _ _ rfl Tryz.underlying61 _ [(0,.agg #[.int .i64 2,.string nm,.int .i64 0,.int .i64 0,.int .i64 o4,.int .i64 x4,.string n4,.int .i64 l4,.int .i64 z4,.slice B4 p4 q4,.int .i64 o5,.int .i64 x5,.string n5,.int .i64 l5,.int .i64 z5,.slice B5 p5 q5,.slice none 0 0,.slice none 0 0])] rfl (built_stm1 _ _ _ _ _ _ _ _ _ _ _ _ _ _ _ _ _ _ _ _ _ _ _ _ _ _) ?_
      refine hK.out _ _ (SAB.both trivial (Same.alloc hB (fun i hi=>by have:=hi.1; omega) _)) (fun hSS=>?_)
      clear hK K hA hB
      have hB:=hSS.2
      have hA:=hSS.1 (by kernel_rfl)
      (try dsimp only at hB); (try dsimp only at hA); clear hSS
      try simp only [Act.put,List.setIfInBounds_toArray,List.set_cons_zero,List.set_cons_succ]
      refine wpL_one (i:=11) (by kernel_rfl) (StepL.mk rfl (fun K hK=>?_))
      refine step_append_any _ rfl (.tmp 54) (.tmp 64) _ rfl w.heap.size 70 i0 _ 18 232 Tryz.underlying61 HI0.out IZ0.out IZ1.out IZ2.out rfl (by omega) _ l.length css.flatten rfl (G3'.out.alloc _) _ (some ⟨w5.heap.size,0,none⟩) 1 1 [.int .i64 2,.string nm,.int .i64 0,.int .i64 0,.int .i64 o4,.int .i64 x4,.string n4,.int .i64 l4,.int .i64 z4,.slice B4 p4 q4,.int .i64 o5,.int .i64 x5,.string n5,.int .i64 l5,.int .i64 z5,.slice B5 p5 q5,.slice none 0 0,.slice none 0 0] rfl (Reads.new rfl) HST.out.one' (by simp [maxLen]; omega) (by omega) (by simp; omega) ?_
      intro v5 w9 hown5 hg5 hat5
      have hfin:=stm_end (r:=r') HBW.out hzr (by omega) G1.out G2.out G3'.out G4'.out HFR.out HST.out HSF.out (by omega) hc5 how5 hown5 hg5 hat5
      refine hK.out _ _ (SAB.both trivial (Same.append hB (G3'.out.alloc _) hg5 (fun i hi=>hi.1) (by simp; omega))) (fun hSS=>?_)
      clear hK K hA hB
      have hB:=hSS.2
      have hA:=hSS.1 (by kernel_rfl)
      (try dsimp only at hB); (try dsimp only at hA); clear hSS
      try simp only [Act.put,List.setIfInBounds_toArray,List.set_cons_zero,List.set_cons_succ]
      refine wpL_takeB (i:=12) (v:=?_) rfl (by kernel_rfl) (by kernel_rfl) (by kernel_rfl) (by decide) (fun _ _ _ h=>h) (Or.inl ⟨by rfl,?_⟩) (SAB.both hA hB) ?_
      rotate_left
      ·intro wx hBx
       (try dsimp only at hBx)
       go_simp
       try with_reducible rfl
      try simp only [Act.put,List.setIfInBounds_toArray,List.set_cons_zero,List.set_cons_succ]
      refine wpL_done (by kernel_rfl) ?_
      have HFIN:=Lib.hid hfin
      clear hfin
      clear hown5 hg5 hat5 hA hB
      go_wp2_with fail
      go_roundw
      case rel=>exact rel_of_cut hk hkl hr' HLP.out HFIN.out
      case measure=>simp [intOf]; omega
     have e1 : (k9 == 3) = false:=by simpa using t1
     by_cases t2 : k9 < 6
     ·as_aux_lemma=>
      go_wp2_with fail
      refine (expr_all 2 (by omega) (by omega) w2 B gc _ HC2.out HGL2'.out).mono ?_
      rintro e w3 ⟨y3,cs3,r3,rfl,hx3,hf3,hr3,hc3,ho3⟩
      obtain ⟨o3,x3,n3,l3,z3,a3,B3,p3,q3,he3,rfl⟩:=ExR.open_ hx3
      have hff3:=few_up hx3 hf3
      have hxx3:=exr_in (base:=wr.heap.size) (by omega) (by omega) hx3
      clear hx3 hf3 he3
      have hoo3:=ho3
      have hz3:=hoo3.size
      have hgl3:=HGL2'.out.only hg2 hoo3
      have how3:=Only.trans HO2'.out hoo3
      have HC3:=Lib.hid hc3
      have HOW3:=Lib.hid how3
      have HGL3:=Lib.hid hgl3
      have HOO3:=Lib.hid hoo3
      have HXX3:=Lib.hid hxx3
      have HFF3:=Lib.hid hff3
      clear hc3 how3 hgl3 hoo3 hxx3 hff3
      clear ho3
      go_wp2_with fail
      refine (expr_all 2 (by omega) (by omega) w3 B gc _ HC3.out HGL3.out).mono ?_
      rintro e w4 ⟨y4,cs4,r4,rfl,hx4,hf4,hr4,hc4,ho4⟩
      obtain ⟨o4,x4,n4,l4,z4,a4,B4,p4,q4,he4,rfl⟩:=ExR.open_ hx4
      have hff4:=few_up hx4 hf4
      have hxx4:=exr_in (base:=wr.heap.size) (by omega) (by omega) hx4
      clear hx4 hf4 he4
      have hoo4:=ho4
      have hz4:=hoo4.size
      have hgl4:=HGL3.out.only hg2 hoo4
      have how4:=Only.trans HOW3.out hoo4
      have hxx3':=exr_step hgcr hoo4 HXX3.out
      have HC4:=Lib.hid hc4
      have HOW4:=Lib.hid how4
      have HGL4:=Lib.hid hgl4
      have HOO4:=Lib.hid hoo4
      have HXX3':=Lib.hid hxx3'
      have HXX4:=Lib.hid hxx4
      have HFF4:=Lib.hid hff4
      clear hc4 how4 hgl4 hoo4 hxx3' hxx4 hff4
      clear ho4
      have hgz:=ownsRow_same G3.out (show Same (fun i=>i < w2.heap.size ∧ i ≠ gc) w2 w4 from Only.trans HOO3.out HOO4.out) (fun i hi=>⟨hi.2,by omega⟩)
      have hoz : Only gc w2 w4:=Only.trans HOO3.out HOO4.out
      have g3':=hgz
      have g4' : ∀ (k : Nat) (cs : List Value) (a : Stm),css[k]? = some cs → l[k]? = some a → StmR w4 (Rest w4 w.heap.size _) (n + 1) cs a:=fun k cs a e1 e2=>StmR.more (fun i hi=>⟨hi.1,Nat.lt_of_lt_of_le hi.2.1 hoz.size,hi.2.2⟩) _ _ _ (StmR.keep (hoz.mono (fun i hi=>⟨hi.2.1,by have:=hi.1; omega⟩)) _ _ _ (G4.out k cs a e1 e2))
      have hst : StmR w4 (New w4 wr.heap.size) (n + 1) [.int .i64 5,.string ⟨#[]⟩,.int .i64 0,.int .i64 0,.int .i64 o3,.int .i64 x3,.string n3,.int .i64 l3,.int .i64 z3,.slice B3 p3 q3,.int .i64 o4,.int .i64 x4,.string n4,.int .i64 l4,.int .i64 z4,.slice B4 p4 q4,.slice none 0 0,.slice none 0 0] (.mk 5 ⟨#[]⟩ 0 0 y3 y4 [] []):=⟨I64.zero,I64.zero,[.int .i64 o3,.int .i64 x3,.string n3,.int .i64 l3,.int .i64 z3,.slice B3 p3 q3],[.int .i64 o4,.int .i64 x4,.string n4,.int .i64 l4,.int .i64 z4,.slice B4 p4 q4],_,_,_,_,_,_,rfl,HXX3'.out,HXX4.out,SlR.nil_,SlR.nil_⟩
      have hsf : Stm.few 1000 (n + 1) (.mk 5 ⟨#[]⟩ 0 0 y3 y4 [] []):=⟨HFF3.out,HFF4.out,(by simp),(by simp),(by simp),(by simp)⟩
      have G3':=Lib.hid g3'
      have G4':=Lib.hid g4'
      have HST:=Lib.hid hst
      have HSF:=Lib.hid hsf
      clear g3' g4' hst hsf
      clear hgz hoz
      go_wp2_with (first
       | (refine wpList_bld rfl _ _ rfl _ [(0,.int .i64 5),(4,.agg #[.int .i64 o3,.int .i64 x3,.string n3,.int .i64 l3,.int .i64 z3,.slice B3 p3 q3]),(5,.agg #[.int .i64 o4,.int .i64 x4,.string n4,.int .i64 l4,.int .i64 z4,.slice B4 p4 q4])] rfl (bld_stm5 _ _ _ _ _ _ _ _ _ _ _ _ _ _ _ _) ?_)
       | (refine wpList_buildS rfl _ _ _ _ rfl Tryz.underlying61 _ [(0,.agg #[.int .i64 5,.string ⟨#[]⟩,.int .i64 0,.int .i64 0,.int .i64 o3,.int .i64 x3,.string n3,.int .i64 l3,.int .i64 z3,.slice B3 p3 q3,.int .i64 o4,.int .i64 x4,.string n4,.int .i64 l4,.int .i64 z4,.slice B4 p4 q4,.slice none 0 0,.slice none 0 0])] rfl (built_stm1 _ _ _ _ _ _ _ _ _ _ _ _ _ _ _ _ _ _ _ _ _ _ _ _ _ _) ?_)
       | (at_builtin; refine wpList_append_any _ rfl (.tmp 69) (.tmp 75) _ rfl w.heap.size 70 i0 _ 18 232 Tryz.underlying61 HI0.out IZ0.out IZ1.out IZ2.out rfl (by omega) _ l.length css.flatten rfl (G3'.out.alloc _) _ (some ⟨w4.heap.size,0,none⟩) 1 1 [.int .i64 5,.string ⟨#[]⟩,.int .i64 0,.int .i64 0,.int .i64 o3,.int .i64 x3,.string n3,.int .i64 l3,.int .i64 z3,.slice B3 p3 q3,.int .i64 o4,.int .i64 x4,.string n4,.int .i64 l4,.int .i64 z4,.slice B4 p4 q4,.slice none 0 0,.slice none 0 0] rfl (Reads.new rfl) HST.out.one' (by simp [maxLen]; omega) (by omega) (by simp; omega) ?_; intro v5 w9 hown5 hg5 hat5))
      have hfin:=stm_end (r:=r') HBW.out hzr (by omega) G1.out G2.out G3'.out G4'.out HFR.out HST.out HSF.out (by omega) HC4.out HOW4.out hown5 hg5 hat5
      have HFIN:=Lib.hid hfin
      clear hfin
      clear hown5 hg5 hat5
      go_wp2_with fail
      go_roundw
      case rel=>exact rel_of_cut hk hkl hr' HLP.out HFIN.out
      case measure=>simp [intOf]; omega
     by_cases t3 : k9 = 6
     ·have e3 : (k9 == 6) = true:=by simpa using t3
      clear t3
      as_aux_lemma=>
      go_wp2_with fail
      refine (expr_all 2 (by omega) (by omega) w2 B gc _ HC2.out HGL2'.out).mono ?_
      rintro e w3 ⟨y3,cs3,r3,rfl,hx3,hf3,hr3,hc3,ho3⟩
      obtain ⟨o3,x3,n3,l3,z3,a3,B3,p3,q3,he3,rfl⟩:=ExR.open_ hx3
      have hff3:=few_up hx3 hf3
      have hxx3:=exr_in (base:=wr.heap.size) (by omega) (by omega) hx3
      clear hx3 hf3 he3
      have hoo3:=ho3
      have hz3:=hoo3.size
      have hgl3:=HGL2'.out.only hg2 hoo3
      have how3:=Only.trans HO2'.out hoo3
      have HC3:=Lib.hid hc3
      have HOW3:=Lib.hid how3
      have HGL3:=Lib.hid hgl3
      have HOO3:=Lib.hid hoo3
      have HXX3:=Lib.hid hxx3
      have HFF3:=Lib.hid hff3
      clear hc3 how3 hgl3 hoo3 hxx3 hff3
      clear ho3
      have hgz:=ownsRow_same G3.out (show Same (fun i=>i < w2.heap.size ∧ i ≠ gc) w2 w3 from HOO3.out) (fun i hi=>⟨hi.2,by omega⟩)
      have hoz : Only gc w2 w3:=HOO3.out
      have g3':=hgz
      have g4' : ∀ (k : Nat) (cs : List Value) (a : Stm),css[k]? = some cs → l[k]? = some a → StmR w3 (Rest w3 w.heap.size _) (n + 1) cs a:=fun k cs a e1 e2=>StmR.more (fun i hi=>⟨hi.1,Nat.lt_of_lt_of_le hi.2.1 hoz.size,hi.2.2⟩) _ _ _ (StmR.keep (hoz.mono (fun i hi=>⟨hi.2.1,by have:=hi.1; omega⟩)) _ _ _ (G4.out k cs a e1 e2))
      have hst : StmR w3 (New w3 wr.heap.size) (n + 1) [.int .i64 6,.string ⟨#[]⟩,.int .i64 0,.int .i64 0,.int .i64 0,.int .i64 0,.string ⟨#[]⟩,.int .i64 0,.int .i64 0,.slice none 0 0,.int .i64 o3,.int .i64 x3,.string n3,.int .i64 l3,.int .i64 z3,.slice B3 p3 q3,.slice none 0 0,.slice none 0 0] (.mk 6 ⟨#[]⟩ 0 0 zeroEx y3 [] []):=⟨I64.zero,I64.zero,[.int .i64 0,.int .i64 0,.string ⟨#[]⟩,.int .i64 0,.int .i64 0,.slice none 0 0],[.int .i64 o3,.int .i64 x3,.string n3,.int .i64 l3,.int .i64 z3,.slice B3 p3 q3],_,_,_,_,_,_,rfl,zeroEx_R 4,HXX3.out,SlR.nil_,SlR.nil_⟩
      have hsf : Stm.few 1000 (n + 1) (.mk 6 ⟨#[]⟩ 0 0 zeroEx y3 [] []):=⟨zeroEx_few _ _,HFF3.out,(by simp),(by simp),(by simp),(by simp)⟩
      have G3':=Lib.hid g3'
      have G4':=Lib.hid g4'
      have HST:=Lib.hid hst
      have HSF:=Lib.hid hsf
      clear g3' g4' hst hsf
      clear hgz hoz
      go_wp2_with (first
       | (refine wpList_bld rfl _ _ rfl _ [(0,.int .i64 6),(5,.agg #[.int .i64 o3,.int .i64 x3,.string n3,.int .i64 l3,.int .i64 z3,.slice B3 p3 q3])] rfl (bld_stm6 _ _ _ _ _ _ _ _) ?_)
       | (refine wpList_buildS rfl _ _ _ _ rfl Tryz.underlying61 _ [(0,.agg #[.int .i64 6,.string ⟨#[]⟩,.int .i64 0,.int .i64 0,.int .i64 0,.int .i64 0,.string ⟨#[]⟩,.int .i64 0,.int .i64 0,.slice none 0 0,.int .i64 o3,.int .i64 x3,.string n3,.int .i64 l3,.int .i64 z3,.slice B3 p3 q3,.slice none 0 0,.slice none 0 0])] rfl (built_stm1 _ _ _ _ _ _ _ _ _ _ _ _ _ _ _ _ _ _ _ _ _ _ _ _ _ _) ?_)
       | (at_builtin; refine wpList_append_any _ rfl (.tmp 80) (.tmp 84) _ rfl w.heap.size 70 i0 _ 18 232 Tryz.underlying61 HI0.out IZ0.out IZ1.out IZ2.out rfl (by omega) _ l.length css.flatten rfl (G3'.out.alloc _) _ (some ⟨w3.heap.size,0,none⟩) 1 1 [.int .i64 6,.string ⟨#[]⟩,.int .i64 0,.int .i64 0,.int .i64 0,.int .i64 0,.string ⟨#[]⟩,.int .i64 0,.int .i64 0,.slice none 0 0,.int .i64 o3,.int .i64 x3,.string n3,.int .i64 l3,.int .i64 z3,.slice B3 p3 q3,.slice none 0 0,.slice none 0 0] rfl (Reads.new rfl) HST.out.one' (by simp [maxLen]; omega) (by omega) (by simp; omega) ?_; intro v5 w9 hown5 hg5 hat5))
      have hfin:=stm_end (r:=r') HBW.out hzr (by omega) G1.out G2.out G3'.out G4'.out HFR.out HST.out HSF.out (by omega) HC3.out HOW3.out hown5 hg5 hat5
      have HFIN:=Lib.hid hfin
      clear hfin
      clear hown5 hg5 hat5
      go_wp2_with fail
      go_roundw
      case rel=>exact rel_of_cut hk hkl hr' HLP.out HFIN.out
      case measure=>simp [intOf]; omega
     have e3 : (k9 == 6) = false:=by simpa using t3
     by_cases t4 : k9 < 9
     ·have hn0 : 0 < n:=by have:=HKN.out; omega
      have hsub : ((n + 1 : Nat) : Int) - 1 = (n : Int):=by omega
      have hwr : IntKind.i64.wrap (n : Int) = n:=IntWalk.i64_in _ (by omega)
      have IHN:=Lib.hid (IH.out hn0)
      as_aux_lemma=>
      go_wp2_with fail
      refine (expr_all 2 (by omega) (by omega) w2 B gc _ HC2.out HGL2'.out).mono ?_
      rintro e w3 ⟨y3,cs3,r3,rfl,hx3,hf3,hr3,hc3,ho3⟩
      obtain ⟨o3,x3,n3,l3,z3,a3,B3,p3,q3,he3,rfl⟩:=ExR.open_ hx3
      have hff3:=few_up hx3 hf3
      have hxx3:=exr_in (base:=wr.heap.size) (by omega) (by omega) hx3
      clear hx3 hf3 he3
      have hoo3:=ho3
      have hz3:=hoo3.size
      have hgl3:=HGL2'.out.only hg2 hoo3
      have how3:=Only.trans HO2'.out hoo3
      have HC3:=Lib.hid hc3
      have HOW3:=Lib.hid how3
      have HGL3:=Lib.hid hgl3
      have HOO3:=Lib.hid hoo3
      have HXX3:=Lib.hid hxx3
      have HFF3:=Lib.hid hff3
      clear hc3 how3 hgl3 hoo3 hxx3 hff3
      clear ho3
      go_wp2_with fail
      refine (IHN.out 2 w3 B gc _ (by omega) HC3.out HGL3.out).mono ?_
      rintro e w4 ⟨y4,A4,m4,c4,r4,rfl,hx4,hlen4,hf4,hr4,hc4,ho4⟩
      have hxx4:=slr_in (base:=wr.heap.size) (by omega) hx4
      clear hx4
      have hoo4:=ho4
      have hz4:=hoo4.size
      have hgl4:=HGL3.out.only hg2 hoo4
      have how4:=Only.trans HOW3.out hoo4
      have hxx3':=exr_step hgcr hoo4 HXX3.out
      have HC4:=Lib.hid hc4
      have HOW4:=Lib.hid how4
      have HGL4:=Lib.hid hgl4
      have HOO4:=Lib.hid hoo4
      have HXX3':=Lib.hid hxx3'
      have HXX4:=Lib.hid hxx4
      have HF4:=Lib.hid hf4
      clear hc4 how4 hgl4 hoo4 hxx3' hxx4 hf4
      clear ho4
      go_wp2_with fail
      refine (IHN.out 1 w4 B gc _ (by omega) HC4.out HGL4.out).mono ?_
      rintro e w5 ⟨y5,A5,m5,c5,r5,rfl,hx5,hlen5,hf5,hr5,hc5,ho5⟩
      have hxx5:=slr_in (base:=wr.heap.size) (by omega) hx5
      clear hx5
      have hoo5:=ho5
      have hz5:=hoo5.size
      have hgl5:=HGL4.out.only hg2 hoo5
      have how5:=Only.trans HOW4.out hoo5
      have hxx3'':=exr_step hgcr hoo5 HXX3'.out
      have hxx4':=slr_step hgcr hoo5 HXX4.out
      have HC5:=Lib.hid hc5
      have HOW5:=Lib.hid how5
      have HGL5:=Lib.hid hgl5
      have HOO5:=Lib.hid hoo5
      have HXX3'':=Lib.hid hxx3''
      have HXX4':=Lib.hid hxx4'
      have HXX5:=Lib.hid hxx5
      have HF5:=Lib.hid hf5
      clear hc5 how5 hgl5 hoo5 hxx3'' hxx4' hxx5 hf5
      clear ho5
      have hgz:=ownsRow_same G3.out (show Same (fun i=>i < w2.heap.size ∧ i ≠ gc) w2 w5 from Only.trans HOO3.out (Only.trans HOO4.out HOO5.out)) (fun i hi=>⟨hi.2,by omega⟩)
      have hoz : Only gc w2 w5:=Only.trans HOO3.out (Only.trans HOO4.out HOO5.out)
      have g3':=hgz
      have g4' : ∀ (k : Nat) (cs : List Value) (a : Stm),css[k]? = some cs → l[k]? = some a → StmR w5 (Rest w5 w.heap.size _) (n + 1) cs a:=fun k cs a e1 e2=>StmR.more (fun i hi=>⟨hi.1,Nat.lt_of_lt_of_le hi.2.1 hoz.size,hi.2.2⟩) _ _ _ (StmR.keep (hoz.mono (fun i hi=>⟨hi.2.1,by have:=hi.1; omega⟩)) _ _ _ (G4.out k cs a e1 e2))
      have hst : StmR w5 (New w5 wr.heap.size) (n + 1) [.int .i64 3,.string ⟨#[]⟩,.int .i64 0,.int .i64 0,.int .i64 0,.int .i64 0,.string ⟨#[]⟩,.int .i64 0,.int .i64 0,.slice none 0 0,.int .i64 o3,.int .i64 x3,.string n3,.int .i64 l3,.int .i64 z3,.slice B3 p3 q3,.slice A4 m4 c4,.slice A5 m5 c5] (.mk 3 ⟨#[]⟩ 0 0 zeroEx y3 y4 y5):=⟨I64.zero,I64.zero,[.int .i64 0,.int .i64 0,.string ⟨#[]⟩,.int .i64 0,.int .i64 0,.slice none 0 0],[.int .i64 o3,.int .i64 x3,.string n3,.int .i64 l3,.int .i64 z3,.slice B3 p3 q3],_,_,_,_,_,_,rfl,zeroEx_R 4,HXX3''.out,HXX4'.out,HXX5.out⟩
      have hsf : Stm.few 1000 (n + 1) (.mk 3 ⟨#[]⟩ 0 0 zeroEx y3 y4 y5):=⟨zeroEx_few _ _,HFF3.out,(by omega),(by omega),HF4.out,HF5.out⟩
      have G3':=Lib.hid g3'
      have G4':=Lib.hid g4'
      have HST:=Lib.hid hst
      have HSF:=Lib.hid hsf
      clear g3' g4' hst hsf
      clear hgz hoz
      go_wp2_with (first
       | (refine wpList_bld rfl _ _ rfl _ [(0,.int .i64 3),(5,.agg #[.int .i64 o3,.int .i64 x3,.string n3,.int .i64 l3,.int .i64 z3,.slice B3 p3 q3]),(6,.slice A4 m4 c4),(7,.slice A5 m5 c5)] rfl (bld_stm3 _ _ _ _ _ _ _ _ _ _ _ _ _ _) ?_)
       | (refine wpList_buildS rfl _ _ _ _ rfl Tryz.underlying61 _ [(0,.agg #[.int .i64 3,.string ⟨#[]⟩,.int .i64 0,.int .i64 0,.int .i64 0,.int .i64 0,.string ⟨#[]⟩,.int .i64 0,.int .i64 0,.slice none 0 0,.int .i64 o3,.int .i64 x3,.string n3,.int .i64 l3,.int .i64 z3,.slice B3 p3 q3,.slice A4 m4 c4,.slice A5 m5 c5])] rfl (built_stm1 _ _ _ _ _ _ _ _ _ _ _ _ _ _ _ _ _ _ _ _ _ _ _ _ _ _) ?_)
       | (at_builtin; refine wpList_append_any _ rfl (.tmp 89) (.tmp 101) _ rfl w.heap.size 70 i0 _ 18 232 Tryz.underlying61 HI0.out IZ0.out IZ1.out IZ2.out rfl (by omega) _ l.length css.flatten rfl (G3'.out.alloc _) _ (some ⟨w5.heap.size,0,none⟩) 1 1 [.int .i64 3,.string ⟨#[]⟩,.int .i64 0,.int .i64 0,.int .i64 0,.int .i64 0,.string ⟨#[]⟩,.int .i64 0,.int .i64 0,.slice none 0 0,.int .i64 o3,.int .i64 x3,.string n3,.int .i64 l3,.int .i64 z3,.slice B3 p3 q3,.slice A4 m4 c4,.slice A5 m5 c5] rfl (Reads.new rfl) HST.out.one' (by simp [maxLen]; omega) (by omega) (by simp; omega) ?_; intro v5 w9 hown5 hg5 hat5))
      have hfin:=stm_end (r:=r') HBW.out hzr (by omega) G1.out G2.out G3'.out G4'.out HFR.out HST.out HSF.out (by omega) HC5.out HOW5.out hown5 hg5 hat5
      have HFIN:=Lib.hid hfin
      clear hfin
      clear hown5 hg5 hat5
      go_wp2_with fail
      go_roundw
      case rel=>exact rel_of_cut hk hkl hr' HLP.out HFIN.out
      case measure=>simp [intOf]; omega
     have hn0 : 0 < n:=by have:=HKN.out; omega
     have hsub : ((n + 1 : Nat) : Int) - 1 = (n : Int):=by omega
     have hwr : IntKind.i64.wrap (n : Int) = n:=IntWalk.i64_in _ (by omega)
     have IHN:=Lib.hid (IH.out hn0)
     as_aux_lemma=>
     go_wp2_with fail
     refine (expr_all 2 (by omega) (by omega) w2 B gc _ HC2.out HGL2'.out).mono ?_
     rintro e w3 ⟨y3,cs3,r3,rfl,hx3,hf3,hr3,hc3,ho3⟩
     obtain ⟨o3,x3,n3,l3,z3,a3,B3,p3,q3,he3,rfl⟩:=ExR.open_ hx3
     have hff3:=few_up hx3 hf3
     have hxx3:=exr_in (base:=wr.heap.size) (by omega) (by omega) hx3
     clear hx3 hf3 he3
     have hoo3:=ho3
     have hz3:=hoo3.size
     have hgl3:=HGL2'.out.only hg2 hoo3
     have how3:=Only.trans HO2'.out hoo3
     have HC3:=Lib.hid hc3
     have HOW3:=Lib.hid how3
     have HGL3:=Lib.hid hgl3
     have HOO3:=Lib.hid hoo3
     have HXX3:=Lib.hid hxx3
     have HFF3:=Lib.hid hff3
     clear hc3 how3 hgl3 hoo3 hxx3 hff3
     clear ho3
     go_wp2_with fail
     refine (IHN.out 2 w3 B gc _ (by omega) HC3.out HGL3.out).mono ?_
     rintro e w4 ⟨y4,A4,m4,c4,r4,rfl,hx4,hlen4,hf4,hr4,hc4,ho4⟩
     have hxx4:=slr_in (base:=wr.heap.size) (by omega) hx4
     clear hx4
     have hoo4:=ho4
     have hz4:=hoo4.size
     have hgl4:=HGL3.out.only hg2 hoo4
     have how4:=Only.trans HOW3.out hoo4
     have hxx3':=exr_step hgcr hoo4 HXX3.out
     have HC4:=Lib.hid hc4
     have HOW4:=Lib.hid how4
     have HGL4:=Lib.hid hgl4
     have HOO4:=Lib.hid hoo4
     have HXX3':=Lib.hid hxx3'
     have HXX4:=Lib.hid hxx4
     have HF4:=Lib.hid hf4
     clear hc4 how4 hgl4 hoo4 hxx3' hxx4 hf4
     clear ho4
     have hgz:=ownsRow_same G3.out (show Same (fun i=>i < w2.heap.size ∧ i ≠ gc) w2 w4 from Only.trans HOO3.out HOO4.out) (fun i hi=>⟨hi.2,by omega⟩)
     have hoz : Only gc w2 w4:=Only.trans HOO3.out HOO4.out
     have g3':=hgz
     have g4' : ∀ (k : Nat) (cs : List Value) (a : Stm),css[k]? = some cs → l[k]? = some a → StmR w4 (Rest w4 w.heap.size _) (n + 1) cs a:=fun k cs a e1 e2=>StmR.more (fun i hi=>⟨hi.1,Nat.lt_of_lt_of_le hi.2.1 hoz.size,hi.2.2⟩) _ _ _ (StmR.keep (hoz.mono (fun i hi=>⟨hi.2.1,by have:=hi.1; omega⟩)) _ _ _ (G4.out k cs a e1 e2))
     have hst : StmR w4 (New w4 wr.heap.size) (n + 1) [.int .i64 4,.string ⟨#[]⟩,.int .i64 0,.int .i64 0,.int .i64 0,.int .i64 0,.string ⟨#[]⟩,.int .i64 0,.int .i64 0,.slice none 0 0,.int .i64 o3,.int .i64 x3,.string n3,.int .i64 l3,.int .i64 z3,.slice B3 p3 q3,.slice A4 m4 c4,.slice none 0 0] (.mk 4 ⟨#[]⟩ 0 0 zeroEx y3 y4 []):=⟨I64.zero,I64.zero,[.int .i64 0,.int .i64 0,.string ⟨#[]⟩,.int .i64 0,.int .i64 0,.slice none 0 0],[.int .i64 o3,.int .i64 x3,.string n3,.int .i64 l3,.int .i64 z3,.slice B3 p3 q3],_,_,_,_,_,_,rfl,zeroEx_R 4,HXX3'.out,HXX4.out,SlR.nil_⟩
     have hsf : Stm.few 1000 (n + 1) (.mk 4 ⟨#[]⟩ 0 0 zeroEx y3 y4 []):=⟨zeroEx_few _ _,HFF3.out,(by omega),(by simp),HF4.out,(by simp)⟩
     have G3':=Lib.hid g3'
     have G4':=Lib.hid g4'
     have HST:=Lib.hid hst
     have HSF:=Lib.hid hsf
     clear g3' g4' hst hsf
     clear hgz hoz
     go_wp2_with (first
      | (refine wpList_bld rfl _ _ rfl _ [(0,.int .i64 4),(5,.agg #[.int .i64 o3,.int .i64 x3,.string n3,.int .i64 l3,.int .i64 z3,.slice B3 p3 q3]),(6,.slice A4 m4 c4)] rfl (bld_stm4 _ _ _ _ _ _ _ _ _ _ _) ?_)
      | (refine wpList_buildS rfl _ _ _ _ rfl Tryz.underlying61 _ [(0,.agg #[.int .i64 4,.string ⟨#[]⟩,.int .i64 0,.int .i64 0,.int .i64 0,.int .i64 0,.string ⟨#[]⟩,.int .i64 0,.int .i64 0,.slice none 0 0,.int .i64 o3,.int .i64 x3,.string n3,.int .i64 l3,.int .i64 z3,.slice B3 p3 q3,.slice A4 m4 c4,.slice none 0 0])] rfl (built_stm1 _ _ _ _ _ _ _ _ _ _ _ _ _ _ _ _ _ _ _ _ _ _ _ _ _ _) ?_)
      | (at_builtin; refine wpList_append_any _ rfl (.tmp 28) (.tmp 36) _ rfl w.heap.size 70 i0 _ 18 232 Tryz.underlying61 HI0.out IZ0.out IZ1.out IZ2.out rfl (by omega) _ l.length css.flatten rfl (G3'.out.alloc _) _ (some ⟨w4.heap.size,0,none⟩) 1 1 [.int .i64 4,.string ⟨#[]⟩,.int .i64 0,.int .i64 0,.int .i64 0,.int .i64 0,.string ⟨#[]⟩,.int .i64 0,.int .i64 0,.slice none 0 0,.int .i64 o3,.int .i64 x3,.string n3,.int .i64 l3,.int .i64 z3,.slice B3 p3 q3,.slice A4 m4 c4,.slice none 0 0] rfl (Reads.new rfl) HST.out.one' (by simp [maxLen]; omega) (by omega) (by simp; omega) ?_; intro v5 w9 hown5 hg5 hat5))
     have hfin:=stm_end (r:=r') HBW.out hzr (by omega) G1.out G2.out G3'.out G4'.out HFR.out HST.out HSF.out (by omega) HC4.out HOW4.out hown5 hg5 hat5
     have HFIN:=Lib.hid hfin
     clear hfin
     clear hown5 hg5 hat5
     go_wp2_with fail
     go_roundw
     case rel=>exact rel_of_cut hk hkl hr' HLP.out HFIN.out
     case measure=>simp [intOf]; omega
  ·obtain ⟨A5,c5,hv5,hsl5⟩:=Grow.done (StmR.good (n + 1)) hgr
   subst hv5
   have HGR:=Lib.hid hgr
   have HLP:=Lib.hid hlp
   have HCR:=Lib.hid hcr
   have HOR:=Lib.hid hor
   have HSL5:=Lib.hid hsl5
   clear hgr hlp hcr hor hsl5
   go_wp2_with fail
   go_ret
   exact ⟨l,A5,_,c5,r',rfl,HSL5.out,by omega,HLP.out,hr',HCR.out,HOR.out⟩
theorem stmts_all : ∀ n,n ≤ 100 → 0 < n → StmtsSaid n
 | 0,_,h=>absurd h (by omega)
 | n + 1,h,_=>stmts_succ n (by omega) (fun hn=>stmts_all n (by omega) hn)
end Go.Proofs.YtipegaojiokppaaGreatDoor
