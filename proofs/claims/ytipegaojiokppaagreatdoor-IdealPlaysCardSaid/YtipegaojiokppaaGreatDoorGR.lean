import Derived.Test.YtipegaojiokppaaGreatDoorMkProg
import Derived.Test.YtipegaojiokppaaGreatDoorMach3
import Derived.Test.YtipegaojiokppaaGreatDoorGM
set_option linter.unusedVariables false
set_option linter.unusedSimpArgs false
set_option maxRecDepth 100000
namespace Go.Proofs.YtipegaojiokppaaGreatDoor
open Go.RowKit Go.Proofs
section
variable {P : Program} {ops : Array Oper} {rest : List Oper} {o : Oper} {a : Act} {w : World} {Q : Exit → Act → World → Prop}
theorem wpList_buildX (hg : o.guard = none) (t e : TypeId) (len : Nat) (parts : Array (Nat × Operand)) (ho : o.op = .buildSlice t len parts) (hu : P.underlying t = some (.slice e)) (cells : Array Value)
  (vs : List (Nat × Value)) (hp : parts.toList.map (fun p=>(p.1,a.eval p.2)) = vs) (hf : builtS P e len vs = some cells)
  (h : ∀ w',Blk w' w.heap.size e cells → Keep w w' → w.heap.size < w'.heap.size → wpList P ops Q rest (a.put o.dst (.slice (some ⟨w.heap.size,0,none⟩) len len)) w') : wpList P ops Q (o :: rest) a w:=
 wpList_buildS hg t e len parts ho hu cells vs hp hf (h _ (Blk.new _ _ _) (Keep.new _ _) (by simp))
end
def Rg (a b i : Nat) : Prop:=a ≤ i ∧ i < b
def ChS (base g : Nat) (w : World) (i : Nat) : Prop:=base ≤ i ∧ i < w.heap.size ∧ i ≠ g
structure Hd where
 A : Option Addr
 m : Nat
 c : Nat
 l : List Stm
def nilH : Hd:=⟨none,0,0,[]⟩
def HdR (w : World) (base g : Nat) (h : Hd) : Prop:=StmsR w (ChS base g w) h.A h.m h.c h.l
section
variable {w w' : World} {base g gc : Nat} {h : Hd}
theorem HdR.same {T : Nat → Prop} (hh : HdR w base g h) (hs : Same T w w') (hT : ∀ i,ChS base g w i → T i) : HdR w' base g h:=
 (StmsR.keep hh (hs.mono hT)).more (fun i hi=>⟨hi.1,Nat.lt_of_lt_of_le hi.2.1 hs.size,hi.2.2⟩)
theorem HdR.nil_ : HdR w base g nilH:=⟨SlR.nil_,by simp [nilH],by simp [nilH]⟩
end
def nil5 : List Value:=[.slice none 0 0,.slice none 0 0,.slice none 0 0,.slice none 0 0,.slice none 0 0]
def ChF (w : World) (g2 base g : Nat) (A3 A4 Av : Option Addr) (l3 l4 : List Stm) (vars : List Vr) : Prop:=
 Blk w g2 63 nil5.toArray ∧ SlR w (Rg base g) 18 (fun cs s=>StmR w (Rg base g) 3 cs s) A3 2 2 l3 ∧ SlR w (Rg base g) 18 (fun cs s=>StmR w (Rg base g) 2 cs s) A4 1 1 l4 ∧ Sl encVr 3 w (Rg base g) Av 5 5 vars
theorem ChF.same {w w' : World} {g2 base g : Nat} {A3 A4 Av : Option Addr} {l3 l4 : List Stm} {vars : List Vr} {T : Nat → Prop} (h : ChF w g2 base g A3 A4 Av l3 l4 vars) (hs : Same T w w') (h2 : T g2) (hT : ∀ i,base ≤ i → i < g → T i) : ChF w' g2 base g A3 A4 Av l3 l4 vars:=by
 obtain ⟨h1,h3,h4,h5⟩:=h
 have hr : Same (Rg base g) w w':=hs.mono (fun i hi=>hT i hi.1 hi.2)
 exact ⟨hs.blk h1 h2,h3.keep hr (StmR.keep hr 3),h4.keep hr (StmR.keep hr 2),h5.keep hr⟩
def ChP (w : World) (base g : Nat) (Av : Option Addr) (h1 h2 h3 h4 : Hd) : Prop:=
 Blk w g 119 #[.slice Av 5 5,.slice h1.A h1.m h1.c,.slice h2.A h2.m h2.c,.slice h3.A h3.m h3.c,.slice h4.A h4.m h4.c] ∧ HdR w base g h1 ∧ HdR w base g h2 ∧ HdR w base g h3 ∧ HdR w base g h4
theorem ChP.same {w w' : World} {base g : Nat} {Av : Option Addr} {h1 h2 h3 h4 : Hd} {T : Nat → Prop} (h : ChP w base g Av h1 h2 h3 h4) (hs : Same T w w') (hg : T g) (hT : ∀ i,ChS base g w i → T i) : ChP w' base g Av h1 h2 h3 h4:=
 ⟨hs.blk h.1 hg,h.2.1.same hs hT,h.2.2.1.same hs hT,h.2.2.2.1.same hs hT,h.2.2.2.2.same hs hT⟩
def ChA (B : Nat → Prop) (gc r : Nat) (w0 : World) (g2 base g : Nat) (A3 A4 Av : Option Addr) (l3 l4 : List Stm) (vars : List Vr) (h1 h2 h3 h4 : Hd) (w : World) : Prop:=
 Cod w B gc r ∧ Only gc w0 w ∧ ChF w g2 base g A3 A4 Av l3 l4 vars ∧ ChP w base g Av h1 h2 h3 h4
section
variable {B : Nat → Prop} {gc r r' : Nat} {w0 w w' : World} {g2 base g : Nat} {A3 A4 Av : Option Addr} {l3 l4 : List Stm} {vars : List Vr} {h1 h2 h3 h4 : Hd}
theorem ChA.only (h : ChA B gc r w0 g2 base g A3 A4 Av l3 l4 vars h1 h2 h3 h4 w) (hb : gc < g2) (hb2 : g2 < base) (hg : base ≤ g) (ho : Only gc w w') (hc : Cod w' B gc r') : ChA B gc r' w0 g2 base g A3 A4 Av l3 l4 vars h1 h2 h3 h4 w':=by
 have hlt:=h.2.2.2.1.lt
 exact ⟨hc,Only.trans h.2.1 ho,h.2.2.1.same ho ⟨by omega,by omega⟩ (fun i h1 h2=>⟨by omega,by omega⟩),h.2.2.2.same ho ⟨hlt,by omega⟩ (fun i hi=>⟨hi.2.1,by have:=hi.1; omega⟩)⟩
theorem ChA.keep (h : ChA B gc r w0 g2 base g A3 A4 Av l3 l4 vars h1 h2 h3 h4 w) (hb2 : g2 < base) (hg : base ≤ g) (hk : Keep w w') : ChA B gc r w0 g2 base g A3 A4 Av l3 l4 vars h1 h2 h3 h4 w':=by
 have hlt:=h.2.2.2.1.lt
 exact ⟨h.1.keep hk,Only.keep h.2.1 hk,h.2.2.1.same hk (by omega) (fun i h1 h2=>by omega),h.2.2.2.same hk hlt (fun i hi=>hi.2.1)⟩
theorem ChA.put (h : ChA B gc r w0 g2 base g A3 A4 Av l3 l4 vars h1 h2 h3 h4 w) (hB : ∀ i,B i → i < g) (hgc : gc < g) (hb2 : g2 < base) (hg : base ≤ g) (h0 : w0.heap.size ≤ g) (hs : Same (· ≠ g) w w') {k1 k2 k3 k4 : Hd}
  (hb : Blk w' g 119 #[.slice Av 5 5,.slice k1.A k1.m k1.c,.slice k2.A k2.m k2.c,.slice k3.A k3.m k3.c,.slice k4.A k4.m k4.c])
  (e1 : HdR w base g k1) (e2 : HdR w base g k2) (e3 : HdR w base g k3) (e4 : HdR w base g k4) : ChA B gc r w0 g2 base g A3 A4 Av l3 l4 vars k1 k2 k3 k4 w':=
 have hT : ∀ i,ChS base g w i → i ≠ g:=fun i hi=>hi.2.2
 ⟨h.1.write hs (fun hh=>by have:=hB _ hh; omega),h.2.1.write hs h0,h.2.2.1.same hs (by omega) (fun i h1 h2=>by omega),hb,e1.same hs hT,e2.same hs hT,e3.same hs hT,e4.same hs hT⟩
end
def Mx (base g : Nat) (w : World) (v : Value) (i : Nat) : Prop:=base ≤ i ∧ i < w.heap.size ∧ i ≠ g ∧ v.ownBlock ≠ some i
def Msg (u : World) (gc base g : Nat) (w : World) (v : Value) (l : List Stm) (css : List (List Value)) : Prop:=
 css.length = l.length ∧ (∀ cs ∈ css,cs.length = 18) ∧ w.ownsRow u.heap.size 70 18 v l.length css.flatten ∧ (∀ (k : Nat) (cs : List Value) (s : Stm),css[k]? = some cs → l[k]? = some s → StmR w (Mx base g w v) 3 cs s) ∧ Only gc u w
section
variable {u w w' : World} {gc base g : Nat} {v v' : Value} {l l2 : List Stm} {css css2 : List (List Value)}
theorem Msg.nil_ : Msg u gc base g u (.slice none 0 0) [] []:=⟨rfl,by simp,World.ownsRow_nil _ _ _ _,by simp,Same.refl _ _⟩
theorem Msg.only (h : Msg u gc base g w v l css) (hgc : gc < base) (hu : gc < u.heap.size) (ho : Only gc w w') : Msg u gc base g w' v l css:=by
 obtain ⟨c1,c2,c3,c4,c5⟩:=h
 refine ⟨c1,c2,ownsRow_own c3 ho (fun b hb=>⟨(c3.lt b hb).2,by have:=(c3.lt b hb).1; omega⟩),fun k cs s e1 e2=>?_,Only.trans c5 ho⟩
 exact StmR.more (fun i (hi : Mx base g w v i)=>⟨hi.1,Nat.lt_of_lt_of_le hi.2.1 ho.size,hi.2.2⟩) _ _ _ (StmR.keep (ho.mono (fun i (hi : Mx base g w v i)=>⟨hi.2.1,by have:=hi.1; omega⟩)) _ _ _ (c4 k cs s e1 e2))
theorem Msg.fresh (h : Msg u gc base g w v l css) {i : Nat} (hi : w.heap.size ≤ i) : v.ownBlock ≠ some i:=fun e=>by
 have:=(h.2.2.1.lt i e).2
 omega
theorem Msg.old (h : Msg u gc base g w v l css) {i : Nat} (hi : i < u.heap.size) : v.ownBlock ≠ some i:=fun e=>by
 have:=(h.2.2.1.lt i e).1
 omega
theorem Msg.app (h : Msg u gc base g w v l css)
  (d1 : css2.length = l2.length) (d2 : ∀ cs ∈ css2,cs.length = 18) (d4 : ∀ (k : Nat) (cs : List Value) (s : Stm),css2[k]? = some cs → l2[k]? = some s → StmR w (Mx base g w v) 3 cs s)
  (hown : w'.ownsRow u.heap.size 70 18 v' (l.length + l2.length) (css.flatten ++ css2.flatten)) (hg : w.grownBy w' v.ownBlock) (hat : v'.ownBlock = v.ownBlock ∨ v'.ownBlock = some w.heap.size) : Msg u gc base g w' v' (l ++ l2) (css ++ css2):=by
 obtain ⟨c1,c2,c3,c4,c5⟩:=h
 have hu : u.heap.size ≤ w.heap.size:=c5.size
 have hS : Same (Mx base g w v) w w':=Same.grown (Same.refl _ _) hg (fun i hi=>hi.2.1) (fun k hk hs=>hs.2.2.2 hk)
 have hm : ∀ i,Mx base g w v i → Mx base g w' v' i:=fun i hi=>⟨hi.1,Nat.lt_of_lt_of_le hi.2.1 hS.size,hi.2.2.1,by
  rcases hat with h | h
  ·rw [h]; exact hi.2.2.2
  ·rw [h]; intro hh; injection hh with hh; have:=hi.2.1; omega⟩
 refine ⟨by simp [c1,d1],fun cs hcs=>?_,by simpa using hown,fun k cs s e1 e2=>?_,?_⟩
 ·rcases List.mem_append.1 hcs with h | h
  ·exact c2 cs h
  ·exact d2 cs h
 ·refine StmR.more hm _ _ _ (StmR.keep hS _ _ _ ?_)
  rcases Nat.lt_or_ge k l.length with hk | hk
  ·rw [List.getElem?_append_left (by omega)] at e1
   rw [List.getElem?_append_left hk] at e2
   exact c4 k cs s e1 e2
  ·rw [List.getElem?_append_right (by omega)] at e1
   rw [List.getElem?_append_right hk] at e2
   rw [c1] at e1
   exact d4 _ cs s e1 e2
 ·exact Same.append c5 c3 hg (fun i hi=>hi.1) hu
theorem Msg.done (h : Msg u gc base g w v l css) (hb : base ≤ u.heap.size) (hg : g < u.heap.size) (hl : l.length ≤ 100) (hf : ∀ a ∈ l,Stm.few 1000 3 a) : ∃ A c,v = .slice A l.length c ∧ l.length ≤ c ∧ StmsR w (ChS base g w) A l.length c l:=by
 obtain ⟨c1,c2,c3,c4,c5⟩:=h
 obtain ⟨A,c,rfl,hn,hc⟩:=own_form c3
 exact ⟨A,c,rfl,hn,⟨rfl,hn,hc,css,c1,c2,(Reads.of_own c3).more (fun i hi=>⟨by omega,hi.2,by omega⟩),fun k cs a e1 e2=>StmR.more (fun i hi=>⟨hi.1,hi.2.1,hi.2.2.1⟩) _ _ _ (c4 k cs a e1 e2)⟩,hl,hf⟩
theorem Msg.cod {B : Nat → Prop} {r : Nat} (h : Msg u gc base g w v l css) (hB : ∀ i,B i → i < u.heap.size) (hg : w.grownBy w' v.ownBlock) (hc : Cod w B gc r) : Cod w' B gc r:=
 hc.same (Same.append (Same.refl _ _) h.2.2.1 hg (fun i hi=>hB i hi) h.2.2.2.2.size)
theorem Msg.grown (h : Msg u gc base g w v l css) (hg : w.grownBy w' v.ownBlock) : Only gc u w':=Same.append h.2.2.2.2 h.2.2.1 hg (fun i hi=>hi.1) h.2.2.2.2.size
end
theorem flatten_take (size : Nat) : ∀ (css : List (List Value)) (k : Nat),(∀ cs ∈ css,cs.length = size) → css.flatten.take (k * size) = (css.take k).flatten
 | css,0,_=>by simp
 | [],k + 1,_=>by simp
 | x :: xs,k + 1,h=>by
  have hx : x.length = size:=h x (by simp)
  rw [List.flatten_cons,List.take_succ_cons,List.flatten_cons,List.take_append,List.take_of_length_le (by rw [hx,Nat.add_mul]; omega),hx]
  have : (k + 1) * size - size = k * size:=by rw [Nat.add_mul]; omega
  rw [this,flatten_take size xs k (fun cs hcs=>h cs (by simp [hcs]))]
theorem StmsR.first {w : World} {S : Nat → Prop} {A : Option Addr} {m c : Nat} {l : List Stm} (h : StmsR w S A m c l) {k : Nat} (hk : k ≤ m) : StmsR w S A k c (l.take k):=by
 obtain ⟨⟨h1,h2,h3,css,h4,h5,h6,h7⟩,h8,h9⟩:=h
 refine ⟨⟨by rw [List.length_take]; omega,by omega,h3,css.take k,by rw [List.length_take]; omega,fun cs hcs=>h5 cs (List.mem_of_mem_take hcs),?_,fun j cs a e1 e2=>?_⟩,by rw [List.length_take]; omega,fun a ha=>h9 a (List.mem_of_mem_take ha)⟩
 ·have:=h6.to_ hk
  rw [flatten_take 18 css k h5] at this
  exact this
 ·rw [List.getElem?_take] at e1 e2
  split at e1
  ·rename_i hj
   rw [if_pos hj] at e2
   exact h7 j cs a e1 e2
  ·cases e1
def xEx : Ex:=.mk 2 0 ⟨#[120]⟩ 0 0 []
def sumEx : Ex:=.mk 10 0 ⟨#[]⟩ 0 0 [xEx,.mk 7 0 ⟨#[]⟩ 0 0 []]
def nextEx (k : Int) : Ex:=.mk 14 0 ⟨#[]⟩ 0 0 [.mk 10 0 ⟨#[]⟩ 0 0 [.mk 4 0 ⟨#[]⟩ 0 0 [],.mk 1 k ⟨#[]⟩ 0 0 []],.mk 5 0 ⟨#[]⟩ 0 0 []]
def remEx (k : Int) : Ex:=.mk 14 0 ⟨#[]⟩ 0 0 [xEx,.mk 1 k ⟨#[]⟩ 0 0 []]
def stA : Stm:=.mk 1 ⟨#[120]⟩ 0 0 zeroEx sumEx [] []
def stB (k : Int) : Stm:=.mk 5 ⟨#[]⟩ 0 0 (nextEx k) xEx [] []
def stO : Stm:=.mk 6 ⟨#[]⟩ 0 0 zeroEx xEx [] []
def stI (k : Int) : Stm:=.mk 3 ⟨#[]⟩ 0 0 zeroEx (remEx k) [stO] []
def exC (op val : Int) (name : ByteArray) (A : Option Addr) (m : Nat) : List Value:=[.int .i64 op,.int .i64 val,.string name,.int .i64 0,.int .i64 0,.slice A m m]
def stC (k : Int) (name : ByteArray) (ps vs : List Value) (A : Option Addr) (m : Nat) : List Value:=.int .i64 k :: .string name :: .int .i64 0 :: .int .i64 0 :: (ps ++ (vs ++ [.slice A m m,.slice none 0 0]))
def z6 : List Value:=[.int .i64 0,.int .i64 0,.string ⟨#[]⟩,.int .i64 0,.int .i64 0,.slice none 0 0]
section
variable {w : World} {S : Nat → Prop}
theorem ex_two {n g : Nat} {t : TypeId} {op : Int} {cs cs2 : List Value} {a a2 : Ex} (hb : Blk w g t (cs ++ cs2).toArray) (hS : S g) (h1 : ExR w S n cs a) (h2 : ExR w S n cs2 a2) : ExR w S (n + 1) (exC op 0 ⟨#[]⟩ (some ⟨g,0,none⟩) 2) (.mk op 0 ⟨#[]⟩ 0 0 [a,a2]):=
 ⟨I64.zero,I64.zero,_,2,2,rfl,SlR.two (R:=fun w S cs e=>ExR w S n cs e) hb hS h1.len h2.len h1 h2⟩
theorem x_R : ExR w S 1 (exC 2 0 ⟨#[120]⟩ none 0) xEx:=ExR.leaf 0 2 0 _
theorem sum_R {g : Nat} {t : TypeId} (hb : Blk w g t (exC 2 0 ⟨#[120]⟩ none 0 ++ exC 7 0 ⟨#[]⟩ none 0).toArray) (hS : S g) : ExR w S 5 (exC 10 0 ⟨#[]⟩ (some ⟨g,0,none⟩) 2) sumEx:=
 ExR.upto (n:=2) (by omega) (ex_two hb hS (ExR.leaf 0 2 0 _) (ExR.leaf 0 7 0 _))
theorem next_R {g g' : Nat} {t t' : TypeId} {k : Int} (hb : Blk w g t (exC 4 0 ⟨#[]⟩ none 0 ++ exC 1 k ⟨#[]⟩ none 0).toArray) (hb' : Blk w g' t' (exC 10 0 ⟨#[]⟩ (some ⟨g,0,none⟩) 2 ++ exC 5 0 ⟨#[]⟩ none 0).toArray) (hS : S g) (hS' : S g') : ExR w S 5 (exC 14 0 ⟨#[]⟩ (some ⟨g',0,none⟩) 2) (nextEx k):=
 ExR.upto (n:=3) (by omega) (ex_two hb' hS' (ex_two hb hS (ExR.leaf 0 4 0 _) (ExR.leaf 0 1 k _)) (ExR.leaf 1 5 0 _))
theorem rem_R {g : Nat} {t : TypeId} {k : Int} (hb : Blk w g t (exC 2 0 ⟨#[120]⟩ none 0 ++ exC 1 k ⟨#[]⟩ none 0).toArray) (hS : S g) : ExR w S 5 (exC 14 0 ⟨#[]⟩ (some ⟨g,0,none⟩) 2) (remEx k):=
 ExR.upto (n:=2) (by omega) (ex_two hb hS (ExR.leaf 0 2 0 _) (ExR.leaf 0 1 k _))
theorem st_leaf {k : Int} {name : ByteArray} {ps vs : List Value} {p v : Ex} (hp : ExR w S 5 ps p) (hv : ExR w S 5 vs v) (n : Nat) : StmR w S (n + 1) (stC k name ps vs none 0) (.mk k name 0 0 p v [] []):=
 ⟨I64.zero,I64.zero,ps,vs,none,none,0,0,0,0,rfl,hp,hv,SlR.nil_,SlR.nil_⟩
theorem st_body {k : Int} {name : ByteArray} {ps vs : List Value} {p v : Ex} {A : Option Addr} {m : Nat} {l : List Stm} {n : Nat} (hp : ExR w S 5 ps p) (hv : ExR w S 5 vs v) (hb : SlR w S 18 (StmR w S n) A m m l) : StmR w S (n + 1) (stC k name ps vs A m) (.mk k name 0 0 p v l []):=
 ⟨I64.zero,I64.zero,ps,vs,A,none,m,m,0,0,rfl,hp,hv,hb,SlR.nil_⟩
end
theorem few_A : Stm.few 1000 3 stA:=by simp [Stm.few,Ex.few,stA,sumEx,xEx,zeroEx]
theorem few_B (k : Int) : Stm.few 1000 3 (stB k):=by simp [Stm.few,Ex.few,stB,nextEx,xEx,zeroEx]
theorem few_O : Stm.few 1000 3 stO:=by simp [Stm.few,Ex.few,stO,xEx,zeroEx]
theorem few_I (k : Int) : Stm.few 1000 3 (stI k):=by simp [Stm.few,Ex.few,stI,stO,remEx,xEx,zeroEx]
theorem few_pass (k : Int) : ∀ a ∈ [stA,stB k],Stm.few 1000 3 a:=by
 intro a ha
 simp at ha
 rcases ha with h | h <;> subst h
 ·exact few_A
 ·exact few_B _
theorem few_mess (k j : Int) : ∀ a ∈ [stA,stB k] ++ [stI j],Stm.few 1000 3 a:=by
 intro a ha
 simp at ha
 rcases ha with h | h | h <;> subst h
 ·exact few_A
 ·exact few_B _
 ·exact few_I _
theorem few_tick (k : Int) : ∀ a ∈ [stA,stB k] ++ [stO],Stm.few 1000 3 a:=by
 intro a ha
 simp at ha
 rcases ha with h | h | h <;> subst h
 ·exact few_A
 ·exact few_B _
 ·exact few_O
theorem stI_one (A B : Option Addr) (m m' : Nat) : ∀ u ∈ stC 3 ⟨#[]⟩ z6 (exC 14 0 ⟨#[]⟩ A m) B m',u.oneCell' = true:=fun u hu=>List.all_eq_true.1 (show List.all _ (·.oneCell') = true from rfl) u hu
theorem reads_blk {w : World} {g : Nat} {t : TypeId} {cs : List Value} {size n : Nat} (hb : Blk w g t cs.toArray) (h : cs.length = n * size) : Reads w (fun i=>i = g) size (some ⟨g,0,none⟩) n cs:=
 ⟨h,fun _=>⟨g,0,rfl,rfl,fun j u hu=>by rw [hb.cell]; simpa using hu⟩⟩
theorem built_ex2' (a b : Int) (o1 o2 : Int) (n1 n2 : ByteArray) (A1 A2 : Option Addr) (m1 m2 : Nat) : builtS Tryz.prog 68 2 [(0,.agg (exC o1 a n1 A1 m1).toArray),(1,.agg (exC o2 b n2 A2 m2).toArray)] = some (exC o1 a n1 A1 m1 ++ exC o2 b n2 A2 m2).toArray:=by kernel_rfl
theorem built_stmA (A B : Option Addr) (m m' : Nat) : builtS Tryz.prog 70 2 [(0,.agg (stC 1 ⟨#[120]⟩ z6 (exC 10 0 ⟨#[]⟩ A m) none 0).toArray),(1,.agg (stC 5 ⟨#[]⟩ (exC 14 0 ⟨#[]⟩ B m') (exC 2 0 ⟨#[120]⟩ none 0) none 0).toArray)] = some (stC 1 ⟨#[120]⟩ z6 (exC 10 0 ⟨#[]⟩ A m) none 0 ++ stC 5 ⟨#[]⟩ (exC 14 0 ⟨#[]⟩ B m') (exC 2 0 ⟨#[120]⟩ none 0) none 0).toArray:=by kernel_rfl
theorem bld_stmA (A : Option Addr) (m : Nat) : Tryz.prog.built 70 [(0,.int .i64 1),(1,.string ⟨#[120]⟩),(5,.agg (exC 10 0 ⟨#[]⟩ A m).toArray)] = some (stC 1 ⟨#[120]⟩ z6 (exC 10 0 ⟨#[]⟩ A m) none 0).toArray:=by kernel_rfl
theorem bld_stmB (A : Option Addr) (m : Nat) : Tryz.prog.built 70 [(0,.int .i64 5),(4,.agg (exC 14 0 ⟨#[]⟩ A m).toArray),(5,.agg (exC 2 0 ⟨#[120]⟩ none 0).toArray)] = some (stC 5 ⟨#[]⟩ (exC 14 0 ⟨#[]⟩ A m) (exC 2 0 ⟨#[120]⟩ none 0) none 0).toArray:=by kernel_rfl
theorem bld_stmO : Tryz.prog.built 70 [(0,.int .i64 6),(5,.agg (exC 2 0 ⟨#[120]⟩ none 0).toArray)] = some (stC 6 ⟨#[]⟩ z6 (exC 2 0 ⟨#[120]⟩ none 0) none 0).toArray:=by kernel_rfl
theorem built_stmO : builtS Tryz.prog 70 1 [(0,.agg (stC 6 ⟨#[]⟩ z6 (exC 2 0 ⟨#[120]⟩ none 0) none 0).toArray)] = some (stC 6 ⟨#[]⟩ z6 (exC 2 0 ⟨#[120]⟩ none 0) none 0).toArray:=by kernel_rfl
theorem bld_stmI (A B : Option Addr) (m m' : Nat) : Tryz.prog.built 70 [(0,.int .i64 3),(5,.agg (exC 14 0 ⟨#[]⟩ A m).toArray),(6,.slice B m' m')] = some (stC 3 ⟨#[]⟩ z6 (exC 14 0 ⟨#[]⟩ A m) B m').toArray:=by kernel_rfl
theorem built_stmI (A B : Option Addr) (m m' : Nat) : builtS Tryz.prog 70 1 [(0,.agg (stC 3 ⟨#[]⟩ z6 (exC 14 0 ⟨#[]⟩ A m) B m').toArray)] = some (stC 3 ⟨#[]⟩ z6 (exC 14 0 ⟨#[]⟩ A m) B m').toArray:=by kernel_rfl
theorem built_vars2 (x : Int) : builtS Tryz.prog 116 5 [(0,.agg #[.string ⟨#[120]⟩,.int .i64 0,.int .i64 x]),(1,.agg #[.string ⟨#[97]⟩,.int .i64 2,.int .i64 0]),(2,.agg #[.string ⟨#[121]⟩,.int .i64 0,.int .i64 0]),(3,.agg #[.string ⟨#[122]⟩,.int .i64 0,.int .i64 0]),(4,.agg #[.string ⟨#[98]⟩,.int .i64 1,.int .i64 0])] =
  some ([⟨⟨#[120]⟩,0,x⟩,⟨⟨#[97]⟩,2,0⟩,⟨⟨#[121]⟩,0,0⟩,⟨⟨#[122]⟩,0,0⟩,⟨⟨#[98]⟩,1,0⟩].flatMap encVr).toArray:=by kernel_rfl
end Go.Proofs.YtipegaojiokppaaGreatDoor
set_option linter.unusedVariables false
set_option linter.unusedSimpArgs false
set_option maxRecDepth 100000
namespace Go.Proofs.YtipegaojiokppaaGreatDoor
open Go.RowKit Go.Proofs
def CutC (B : Nat → Prop) (gc : Nat) (w0 : World) (g2 base g : Nat) (A3 A4 Av : Option Addr) (l3 l4 : List Stm) (vars : List Vr) (wx : World) : Prop:=
 ∃ (h1 : Hd) (r : Nat),ChA B gc r w0 g2 base g A3 A4 Av l3 l4 vars h1 nilH nilH nilH wx
def CutD (B : Nat → Prop) (gc : Nat) (w0 : World) (g2 base g : Nat) (A3 A4 Av : Option Addr) (l3 l4 : List Stm) (vars : List Vr) (wx : World) : Prop:=
 ∃ (h1 h2 : Hd) (r : Nat),ChA B gc r w0 g2 base g A3 A4 Av l3 l4 vars h1 h2 nilH nilH wx
theorem one_stms {w : World} {S : Nat → Prop} {A : Option Addr} {m c : Nat} {l : List Stm} (h : SlR w S 18 (fun cs s=>StmR w S 3 cs s) A m c l) : ∃ css : List (List Value),css.length = l.length ∧ m = l.length ∧ (∀ cs ∈ css,cs.length = 18) ∧ Reads w S 18 A m css.flatten ∧ (∀ u ∈ css.flatten,u.oneCell' = true) ∧ ∀ (k : Nat) (cs : List Value) (s : Stm),css[k]? = some cs → l[k]? = some s → StmR w S 3 cs s:=by
 obtain ⟨h1,h2,h3,css,h4,h5,h6,h7⟩:=h
 refine ⟨css,by omega,h1,h5,h6,fun u hu=>?_,h7⟩
 obtain ⟨cs,hcs,hu⟩:=List.mem_flatten.1 hu
 obtain ⟨k,hk,rfl⟩:=List.mem_iff_getElem.1 hcs
 have hkl : k < l.length:=by omega
 exact (h7 k _ _ (List.getElem?_eq_getElem hk) (List.getElem?_eq_getElem hkl)).one' u hu
theorem HdR.of_start {w : World} {base g : Nat} {A : Option Addr} {m c : Nat} {l : List Stm} (h : SlR w (Rg base g) 18 (fun cs s=>StmR w (Rg base g) 3 cs s) A m c l) (hg : g ≤ w.heap.size) (hl : l.length ≤ 100) (hf : ∀ a ∈ l,Stm.few 1000 3 a) : HdR w base g ⟨A,m,c,l⟩:=
 ⟨h.more (fun i hi=>⟨hi.1,by have:=hi.2; omega,by have:=hi.2; omega⟩) (StmR.more (fun i (hi : Rg base g i)=>⟨hi.1,by have:=hi.2; omega,by have:=hi.2; omega⟩) 3),hl,hf⟩
set_option maxHeartbeats 32000000 in
theorem chatter_any (w : World) (B : Nat → Prop) (gc r : Nat) (hcod : Cod w B gc r) (hgl : Glob w) : Calls Tryz.prog 37 #[.pointer (some ⟨gc,0,none⟩)] w (CodePost B gc w):=by
 obtain ⟨i0,hi0,iz0,iz1,iz2⟩:=info_of info_Stm
 have hgw:=hcod.lt
 have hBw:=hcod.2.1
 have hg2:=hgl.cod hcod
 generalize hW : w.alloc (.cells #[.slice none 0 0,.slice none 0 0,.slice none 0 0,.slice none 0 0,.slice none 0 0] 63) = W
 have hkW : Keep w W:=hW ▸ Keep.new w _
 have hb2 : Blk W w.heap.size 63 nil5.toArray:=hW ▸ Blk.new w _ _
 have hz:=hb2.lt
 have hcW:=hcod.keep hkW
 have HCOD:=Lib.hid hcod
 have HGL:=Lib.hid hgl
 have HKW:=Lib.hid hkW
 have HB2:=Lib.hid hb2
 have HBW:=Lib.hid hBw
 have HCW:=Lib.hid hcW
 have HI0:=Lib.hid hi0
 have IZ0:=Lib.hid iz0
 have IZ1:=Lib.hid iz1
 have IZ2:=Lib.hid iz2
 clear hcod hgl hkW hb2 hBw hcW hi0 iz0 iz1 iz2
 go_enter Tryz.func37,Tryz.ntmps37
 go_wp2_with fail
 clear hW
 refine (next_any W B gc r 2 HCW.out (by omega) (by omega)).mono ?_
 rintro e w1 ⟨v1,hv10,hv11,rfl,hc1,ho1⟩
 have hz1:=ho1.size
 have hr1:=ho1.blk HB2.out ⟨HB2.out.lt,by omega⟩
 have ho1' : Only gc w w1:=Only.trans (HKW.out.only gc) ho1
 clear ho1
 have HC1:=Lib.hid hc1
 have HR1:=Lib.hid hr1
 have HO1':=Lib.hid ho1'
 clear hc1 hr1 ho1'
 -- the receiver's expression
 go_upto_region 2 with (first
  | (refine wpList_buildX rfl 66 68 2 _ rfl Tryz.underlying66 _ [(0,.agg (exC 4 0 ⟨#[]⟩ none 0).toArray),(1,.agg (exC 1 (1 + v1) ⟨#[]⟩ none 0).toArray)] rfl (built_ex2' _ _ _ _ _ _ _ _ _ _) ?_; intro wa hba hka hza; have HBA:=Lib.hid hba; have HKA:=Lib.hid hka; clear hba hka)
  | (refine wpList_buildX rfl 66 68 2 _ rfl Tryz.underlying66 _ [(0,.agg (exC 10 0 ⟨#[]⟩ (some ⟨w1.heap.size,0,none⟩) 2).toArray),(1,.agg (exC 5 0 ⟨#[]⟩ none 0).toArray)] rfl (built_ex2' _ _ _ _ _ _ _ _ _ _) ?_; intro wb hbb hkb hzb; have HBB:=Lib.hid hbb; have HKB:=Lib.hid hkb; clear hbb hkb)
  | (refine wpList_store_all rfl _ (.tmp 3) (.tmp 19) rfl wb.heap.size 68 _ (exC 14 0 ⟨#[]⟩ (some ⟨wa.heap.size,0,none⟩) 2) rfl rfl (Blk.new _ _ _) rfl (by kernel_rfl) rfl ?_; intro w2 hb3 hs3; have HB3:=Lib.hid hb3; have HS3:=Lib.hid hs3; clear hb3 hs3))
 have hk2 : Keep wb w2:=Keep.write (Keep.new _ _) HS3.out (Nat.le_refl _)
 have hz2 : wb.heap.size < w2.heap.size:=HB3.out.lt
 have hk12 : Keep w1 w2:=Keep.trans (Keep.trans HKA.out HKB.out) hk2
 have ha0:=hk2.blk (HKB.out.blk HBA.out HBA.out.lt) (by omega)
 have ha1:=hk2.blk HBB.out HBB.out.lt
 have nextR : ExR w2 (Rg w1.heap.size w2.heap.size) 5 _ (nextEx (1 + v1)):=next_R ha0 ha1 ⟨by omega,by omega⟩ ⟨by omega,by omega⟩
 have HK12:=Lib.hid hk12
 have NEXTR:=Lib.hid nextR
 clear hk12 nextR
 clear HS3 hk2 ha0 ha1 HBA HKA HBB HKB
 -- the sum
 go_upto_region 3 with (first
  | (refine wpList_buildX rfl 66 68 2 _ rfl Tryz.underlying66 _ [(0,.agg (exC 2 0 ⟨#[120]⟩ none 0).toArray),(1,.agg (exC 7 0 ⟨#[]⟩ none 0).toArray)] rfl (built_ex2' _ _ _ _ _ _ _ _ _ _) ?_; intro wc hbc hkc hzc; have HBC:=Lib.hid hbc; have HKC:=Lib.hid hkc; clear hbc hkc)
  | (refine wpList_store_all rfl _ (.tmp 4) (.tmp 23) rfl wc.heap.size 68 _ (exC 10 0 ⟨#[]⟩ (some ⟨w2.heap.size,0,none⟩) 2) rfl rfl (Blk.new _ _ _) rfl (by kernel_rfl) rfl ?_; intro w3 hb4 hs4; have HB4:=Lib.hid hb4; have HS4:=Lib.hid hs4; clear hb4 hs4))
 have hk3 : Keep wc w3:=Keep.write (Keep.new _ _) HS4.out (Nat.le_refl _)
 have hz3 : wc.heap.size < w3.heap.size:=HB4.out.lt
 have hk23 : Keep w2 w3:=Keep.trans HKC.out hk3
 have ha2:=hk3.blk HBC.out HBC.out.lt
 have sumR : ExR w3 (Rg w1.heap.size w3.heap.size) 5 _ sumEx:=sum_R ha2 ⟨by omega,by omega⟩
 have nextR3:=ExR.more (T:=Rg w1.heap.size w3.heap.size) (fun i hi=>⟨hi.1,by have:=hi.2; omega⟩) _ _ _ (ExR.keep (Same.mono hk23 (fun i (hi : Rg w1.heap.size w2.heap.size i)=>hi.2)) _ _ _ NEXTR.out)
 have hb33:=hk23.blk HB3.out HB3.out.lt
 have hk13:=Keep.trans HK12.out hk23
 have HK13:=Lib.hid hk13
 have NEXTR3:=Lib.hid nextR3
 have SUMR:=Lib.hid sumR
 have HB33:=Lib.hid hb33
 clear hk13 nextR3 sumR hb33
 clear HS4 hk3 hk23 ha2 HBC HKC HK12 NEXTR HB3
 -- the two lists of statements
 go_upto_region 4 with (first
  | (refine wpList_load_all rfl _ (.tmp 4) rfl wc.heap.size 68 (exC 10 0 ⟨#[]⟩ (some ⟨w2.heap.size,0,none⟩) 2) _ rfl HB4.out Tryz.underlying68 rfl (by kernel_rfl) ?_)
  | (refine wpList_load_all rfl _ (.tmp 3) rfl wb.heap.size 68 (exC 14 0 ⟨#[]⟩ (some ⟨wa.heap.size,0,none⟩) 2) _ rfl HB33.out Tryz.underlying68 rfl (by kernel_rfl) ?_)
  | (refine wpList_bld rfl 70 _ rfl _ [(0,.int .i64 1),(1,.string ⟨#[120]⟩),(5,.agg (exC 10 0 ⟨#[]⟩ (some ⟨w2.heap.size,0,none⟩) 2).toArray)] rfl (bld_stmA _ _) ?_)
  | (refine wpList_bld rfl 70 _ rfl _ [(0,.int .i64 5),(4,.agg (exC 14 0 ⟨#[]⟩ (some ⟨wa.heap.size,0,none⟩) 2).toArray),(5,.agg (exC 2 0 ⟨#[120]⟩ none 0).toArray)] rfl (bld_stmB _ _) ?_)
  | (refine wpList_buildX rfl 61 70 2 _ rfl Tryz.underlying61 _ [(0,.agg (stC 1 ⟨#[120]⟩ z6 (exC 10 0 ⟨#[]⟩ (some ⟨w2.heap.size,0,none⟩) 2) none 0).toArray),(1,.agg (stC 5 ⟨#[]⟩ (exC 14 0 ⟨#[]⟩ (some ⟨wa.heap.size,0,none⟩) 2) (exC 2 0 ⟨#[120]⟩ none 0) none 0).toArray)] rfl (built_stmA _ _ _ _) ?_; intro w4 hb5 hk4 hz4; have HB5:=Lib.hid hb5; have HK4:=Lib.hid hk4; clear hb5 hk4))
 go_upto_region 5 with (first
  | (refine wpList_bld rfl 70 _ rfl _ [(0,.int .i64 6),(5,.agg (exC 2 0 ⟨#[120]⟩ none 0).toArray)] rfl bld_stmO ?_)
  | (refine wpList_buildX rfl 61 70 1 _ rfl Tryz.underlying61 _ [(0,.agg (stC 6 ⟨#[]⟩ z6 (exC 2 0 ⟨#[120]⟩ none 0) none 0).toArray)] rfl built_stmO ?_; intro w5 hb6 hk5 hz5; have HB6:=Lib.hid hb6; have HK5:=Lib.hid hk5; clear hb6 hk5))
 have hk35 : Keep w3 w5:=Keep.trans HK4.out HK5.out
 have upE : ∀ i,Rg w1.heap.size w3.heap.size i → Rg w1.heap.size w5.heap.size i:=fun i hi=>⟨hi.1,by have:=hi.2; omega⟩
 have sum5:=ExR.more upE _ _ _ (ExR.keep (Same.mono hk35 (fun i (hi : Rg w1.heap.size w3.heap.size i)=>hi.2)) _ _ _ SUMR.out)
 have next5:=ExR.more upE _ _ _ (ExR.keep (Same.mono hk35 (fun i (hi : Rg w1.heap.size w3.heap.size i)=>hi.2)) _ _ _ NEXTR3.out)
 have x5 : ExR w5 (Rg w1.heap.size w5.heap.size) 5 _ xEx:=ExR.upto (n:=1) (by omega) x_R
 have pass5 : SlR w5 (Rg w1.heap.size w5.heap.size) 18 (fun cs s=>StmR w5 (Rg w1.heap.size w5.heap.size) 3 cs s) (some ⟨w3.heap.size,0,none⟩) 2 2 [stA,stB (1 + v1)]:=
  SlR.two (R:=fun w S cs s=>StmR w S 3 cs s) (HK5.out.blk HB5.out HB5.out.lt) ⟨by omega,by omega⟩ rfl rfl (st_leaf (zeroEx_R 4) sum5 2) (st_leaf next5 x5 2)
 have showL : ∀ n,SlR w5 (Rg w1.heap.size w5.heap.size) 18 (fun cs s=>StmR w5 (Rg w1.heap.size w5.heap.size) (n + 1) cs s) (some ⟨w4.heap.size,0,none⟩) 1 1 [stO]:=fun n=>
  SlR.one (R:=fun w S cs s=>StmR w S (n + 1) cs s) HB6.out ⟨by omega,by omega⟩ rfl (st_leaf (zeroEx_R 4) x5 n)
 have hk15:=Keep.trans HK13.out hk35
 have hc5:=HC1.out.keep hk15
 have hr5:=hk15.blk HR1.out HR1.out.lt
 have ho5 : Only gc w w5:=Only.keep HO1'.out hk15
 have PASS5:=Lib.hid pass5
 have SHOWL:=Lib.hid showL
 have HC5:=Lib.hid hc5
 have HR5:=Lib.hid hr5
 have HO5:=Lib.hid ho5
 clear pass5 showL hc5 hr5 ho5
 clear hk35 sum5 next5 x5 upE hk15 HK13 SUMR NEXTR3 HB4 HB33 HB5 HB6 HK4 HK5 HC1 HR1 HO1'
 -- the variables
 go_wp2_with fail
 refine (next_any w5 B gc _ 3 HC5.out (by omega) (by omega)).mono ?_
 rintro e w6 ⟨v2,hv20,hv21,rfl,hc6,ho6⟩
 have hz6:=ho6.size
 have hr6:=ho6.blk HR5.out ⟨HR5.out.lt,by omega⟩
 have hs56 : Same (Rg w1.heap.size w5.heap.size) w5 w6:=ho6.mono (fun i hi=>⟨hi.2,by have:=hi.1; omega⟩)
 have pass6:=PASS5.out.keep hs56 (StmR.keep hs56 3)
 have show6 : ∀ n,SlR w6 (Rg w1.heap.size w5.heap.size) 18 (fun cs s=>StmR w6 (Rg w1.heap.size w5.heap.size) (n + 1) cs s) (some ⟨w4.heap.size,0,none⟩) 1 1 [stO]:=fun n=>(SHOWL.out n).keep hs56 (StmR.keep hs56 (n + 1))
 have ho6':=Only.trans HO5.out ho6
 have HC6:=Lib.hid hc6
 have HR6:=Lib.hid hr6
 have PASS6:=Lib.hid pass6
 have SHOW6:=Lib.hid show6
 have HO6':=Lib.hid ho6'
 clear hc6 hr6 pass6 show6 ho6'
 clear ho6 hs56 PASS5 SHOWL HC5 HR5 HO5
 go_upto_region 6 with (first
  | (refine wpList_buildX rfl 117 116 5 _ rfl Tryz.underlying117 _ [(0,.agg #[.string ⟨#[120]⟩,.int .i64 0,.int .i64 v2]),(1,.agg #[.string ⟨#[97]⟩,.int .i64 2,.int .i64 0]),(2,.agg #[.string ⟨#[121]⟩,.int .i64 0,.int .i64 0]),(3,.agg #[.string ⟨#[122]⟩,.int .i64 0,.int .i64 0]),(4,.agg #[.string ⟨#[98]⟩,.int .i64 1,.int .i64 0])] rfl (built_vars2 _) ?_; intro wv hbv hkv hzv; have HBV:=Lib.hid hbv; have HKV:=Lib.hid hkv; clear hbv hkv)
  | (refine wpList_store_all rfl _ (.tmp 7) (.tmp 41) rfl wv.heap.size 119 _ [.slice (some ⟨w6.heap.size,0,none⟩) 5 5,.slice none 0 0,.slice none 0 0,.slice none 0 0,.slice none 0 0] rfl rfl (Blk.new _ _ _) rfl (by kernel_rfl) rfl ?_; intro w7 hb7 hs7; have HB7:=Lib.hid hb7; have HS7:=Lib.hid hs7; clear hb7 hs7))
 have hk7 : Keep wv w7:=Keep.write (Keep.new _ _) HS7.out (Nat.le_refl _)
 have hz7 : wv.heap.size < w7.heap.size:=HB7.out.lt
 have hk67 : Keep w6 w7:=Keep.trans HKV.out hk7
 have hbv7:=hk7.blk HBV.out HBV.out.lt
 have hvs : Sl encVr 3 w7 (Rg w1.heap.size wv.heap.size) (some ⟨w6.heap.size,0,none⟩) 5 5 [⟨⟨#[120]⟩,0,v2⟩,⟨⟨#[97]⟩,2,0⟩,⟨⟨#[121]⟩,0,0⟩,⟨⟨#[122]⟩,0,0⟩,⟨⟨#[98]⟩,1,0⟩]:=
  ⟨rfl,Nat.le_refl _,by simp [maxLen],rfl,fun _=>⟨w6.heap.size,0,rfl,⟨by omega,by omega⟩,fun j u hu=>by rw [hbv7.cell,Nat.zero_add]; simpa using hu⟩⟩
 obtain ⟨vars,hvars⟩ : ∃ vars : List Vr,vars = [⟨⟨#[120]⟩,0,v2⟩,⟨⟨#[97]⟩,2,0⟩,⟨⟨#[121]⟩,0,0⟩,⟨⟨#[122]⟩,0,0⟩,⟨⟨#[98]⟩,1,0⟩]:=⟨_,rfl⟩
 rw [← hvars] at hvs
 have hvok : vars.length ≤ 100 ∧ ∀ v ∈ vars,(0 ≤ v.size ∧ v.size ≤ 100) ∧ -100 ≤ v.init ∧ v.init ≤ 100:=by
  rw [hvars]
  refine ⟨by simp,fun v hv=>?_⟩
  simp at hv
  rcases hv with h | h | h | h | h <;> subst h <;> simp <;> omega
 have upS : ∀ i,Rg w1.heap.size w5.heap.size i → Rg w1.heap.size wv.heap.size i:=fun i hi=>⟨hi.1,by have:=hi.2; omega⟩
 have hs67 : Same (Rg w1.heap.size w5.heap.size) w6 w7:=Same.mono hk67 (fun i hi=>by have:=hi.2; omega)
 have pass7:=(PASS6.out.keep hs67 (StmR.keep hs67 3)).more upS (StmR.more upS 3)
 have show7 : ∀ n,SlR w7 (Rg w1.heap.size wv.heap.size) 18 (fun cs s=>StmR w7 (Rg w1.heap.size wv.heap.size) (n + 1) cs s) (some ⟨w4.heap.size,0,none⟩) 1 1 [stO]:=fun n=>((SHOW6.out n).keep hs67 (StmR.keep hs67 (n + 1))).more upS (StmR.more upS (n + 1))
 have hb7' : Blk w7 wv.heap.size 119 #[.slice (some ⟨w6.heap.size,0,none⟩) 5 5,.slice nilH.A nilH.m nilH.c,.slice nilH.A nilH.m nilH.c,.slice nilH.A nilH.m nilH.c,.slice nilH.A nilH.m nilH.c]:=HB7.out
 have all7 : ChA B gc _ w w.heap.size w1.heap.size wv.heap.size (some ⟨w3.heap.size,0,none⟩) (some ⟨w4.heap.size,0,none⟩) (some ⟨w6.heap.size,0,none⟩) [stA,stB (1 + v1)] [stO] vars nilH nilH nilH nilH w7:=
  ⟨HC6.out.keep hk67,Only.keep HO6'.out hk67,⟨hk67.blk HR6.out HR6.out.lt,pass7,show7 1,hvs⟩,hb7',HdR.nil_,HdR.nil_,HdR.nil_,HdR.nil_⟩
 have hgb : gc < w.heap.size:=hgw
 have hb1 : w.heap.size < w1.heap.size:=by omega
 have hgB : ∀ i,B i → i < wv.heap.size:=fun i hi=>by have:=HBW.out i hi; omega
 have h54 : w4.heap.size < wv.heap.size:=by omega
 have h53 : w3.heap.size < wv.heap.size:=by omega
 have h0g : w.heap.size ≤ wv.heap.size:=by omega
 have h1g : w1.heap.size ≤ wv.heap.size:=by omega
 have ALL7:=Lib.hid all7
 have HVOK:=Lib.hid hvok
 have HGB:=Lib.hid hgB
 clear all7 hvok hgB
 clear hvars hvs hbv7 hk7 hk67 upS hs67 pass7 show7 hb7' HBV HKV HB7 HS7 PASS6 SHOW6 HC6 HR6 HO6' hv20 hv21 hv10 hv11
 generalize ha3 : w3.heap.size = n3 at *
 generalize ha4 : w4.heap.size = n4 at *
 generalize hav : w6.heap.size = gv at *
 generalize hag : wv.heap.size = g at *
 generalize hab : w1.heap.size = base at *
 clear ha3 ha4 hav hag hab
 go_wp2_with fail
 refine (next_any w7 B gc _ 2 ALL7.out.1 (by omega) (by omega)).mono ?_
 rintro e w8 ⟨v3,hv30,hv31,rfl,hc8,ho8⟩
 have hz8:=ho8.size
 have all8:=ALL7.out.only hgb hb1 h1g ho8 hc8
 have ALL8:=Lib.hid all8
 clear all8
 clear ho8 hc8 ALL7
 go_upto_if 44 with fail
 go_cut [] from 45 to 46 (fun wx=>CutC B gc w w.heap.size base g (some ⟨n3,0,none⟩) (some ⟨n4,0,none⟩) (some ⟨gv,0,none⟩) [stA,stB (1 + v1)] [stO] vars wx)
 case first=>
  by_cases hv3 : v3 = 1
  ·have t3 : decide (v3 = 1) = true:=by simpa using hv3
   have t4 : (v3 == 1) = true:=by simpa using hv3
   clear hv3
   go_wp2_with (refine wpList_store_one rfl _ (.tmp 46) _ rfl g 1 119 _ (.slice (some ⟨n3,0,none⟩) 2 2) rfl rfl ALL8.out.2.2.2.1 (by simp) (by kernel_rfl) rfl rfl ?_; intro w9 hb9 hs9; have HB9:=Lib.hid hb9; have HS9:=Lib.hid hs9; clear hb9 hs9)
   go_meet
   have hlt:=ALL8.out.2.2.2.1.lt
   exact ⟨⟨_,2,2,[stA,stB (1 + v1)]⟩,_,ALL8.out.put HGB.out (by omega) hb1 h1g h0g HS9.out (by simpa using HB9.out) (HdR.of_start ALL8.out.2.2.1.2.1 (by omega) (by simp) (few_pass _)) HdR.nil_ HdR.nil_ HdR.nil_⟩
  ·have t3 : decide (v3 = 1) = false:=by simpa using hv3
   have t4 : (v3 == 1) = false:=by simpa using hv3
   clear hv3
   go_wp2_with fail
   go_meet
   exact ⟨nilH,_,ALL8.out⟩
 case rest=>
  clear ALL8
  obtain ⟨w9,rfl⟩ : ∃ w9 : World,w9 = wc:=⟨_,rfl⟩
  obtain ⟨h1,r9,all9⟩:=hcut
  have hlt9:=all9.2.2.2.1.lt
  obtain ⟨cp,k1,k2,k3,k4,k5,k6⟩:=one_stms all9.2.2.1.2.1
  have hbu : base ≤ w9.heap.size:=by omega
  have k6' : ∀ (k : Nat) (cs : List Value) (s : Stm),cp[k]? = some cs → [stA,stB (1 + v1)][k]? = some s → StmR w9 (Mx base g w9 (.slice none 0 0)) 3 cs s:=fun k cs s e1 e2=>StmR.more (fun i hi=>⟨hi.1,by have:=hi.2; omega,by have:=hi.2; omega,fun h=>by cases h⟩) _ _ _ (k6 k cs s e1 e2)
  have own0:=World.ownsRow_nil w9 w9.heap.size 70 18
  have ALL9:=Lib.hid all9
  have K1:=Lib.hid k1
  have K3:=Lib.hid k3
  have K4:=Lib.hid k4
  have K5:=Lib.hid k5
  have K6':=Lib.hid k6'
  have OWN0:=Lib.hid own0
  clear all9 k1 k3 k4 k5 k6' own0
  clear k2 k6
  -- the handler of messages
  go_wp2_with (at_builtin; refine wpList_append_any _ rfl (.const (.slice none 0 0)) (.tmp 47) 61 rfl w9.heap.size 70 i0 _ 18 232 Tryz.underlying61 HI0.out IZ0.out IZ1.out IZ2.out rfl (by omega) (.slice none 0 0) 0 [] rfl OWN0.out _ (some ⟨n3,0,none⟩) 2 2 cp.flatten rfl K4.out K5.out (by simp [maxLen]) (by omega) (Nat.le_refl _) ?_; intro va wa howa hga hata; have HOWA:=Lib.hid howa; have HGA:=Lib.hid hga; have HATA:=Lib.hid hata; clear howa hga hata)
  have m9 : Msg w9 gc base g wa _ ([] ++ [stA,stB (1 + v1)]) ([] ++ cp):=Msg.app Msg.nil_ K1.out K3.out K6'.out (by simpa using HOWA.out) HGA.out HATA.out
  have hka : Keep w9 wa:=Same.grown (Same.refl _ _) HGA.out (fun i hi=>hi) (fun k hk=>by cases hk)
  simp only [List.nil_append] at m9
  have hza:=hka.size
  have hca:=ALL9.out.1.keep hka
  have M9:=Lib.hid m9
  have HCA:=Lib.hid hca
  clear m9 hca
  clear HOWA HGA HATA hka
  refine (next_any wa B gc r9 2 HCA.out (by omega) (by omega)).mono ?_
  rintro e w10 ⟨v4,hv40,hv41,rfl,hc10,ho10⟩
  have hz10:=ho10.size
  have m10:=M9.out.only (by omega) (by omega) ho10
  have M10:=Lib.hid m10
  have HC10:=Lib.hid hc10
  clear m10 hc10
  clear ho10 M9 HCA
  go_upto_region 9 with (first
   | (refine wpList_buildX rfl 66 68 2 _ rfl Tryz.underlying66 _ [(0,.agg (exC 2 0 ⟨#[120]⟩ none 0).toArray),(1,.agg (exC 1 (2 + v4) ⟨#[]⟩ none 0).toArray)] rfl (built_ex2' _ _ _ _ _ _ _ _ _ _) ?_; intro wx hbx hkx hzx; have HBX:=Lib.hid hbx; have HKX:=Lib.hid hkx; clear hbx hkx)
   | (refine wpList_bld rfl 70 _ rfl _ [(0,.int .i64 3),(5,.agg (exC 14 0 ⟨#[]⟩ (some ⟨w10.heap.size,0,none⟩) 2).toArray),(6,.slice (some ⟨n4,0,none⟩) 1 1)] rfl (bld_stmI _ _ _ _) ?_)
   | (refine wpList_buildX rfl 61 70 1 _ rfl Tryz.underlying61 _ [(0,.agg (stC 3 ⟨#[]⟩ z6 (exC 14 0 ⟨#[]⟩ (some ⟨w10.heap.size,0,none⟩) 2) (some ⟨n4,0,none⟩) 1).toArray)] rfl (built_stmI _ _ _ _) ?_; intro wy hby hky hzy; have HBY:=Lib.hid hby; have HKY:=Lib.hid hky; clear hby hky
      have oy:=Only.trans ((HKX.out).only gc) ((HKY.out).only gc)
      have my:=M10.out.only (by omega) (by omega) oy
      have MY:=Lib.hid my
      clear my oy)
   | (at_builtin; refine wpList_append_any _ rfl (.tmp 48) (.tmp 58) 61 rfl w9.heap.size 70 i0 _ 18 232 Tryz.underlying61 HI0.out IZ0.out IZ1.out IZ2.out rfl (by omega) va 2 cp.flatten rfl MY.out.2.2.1 (fun i=>i = wx.heap.size) (some ⟨wx.heap.size,0,none⟩) 1 1 (stC 3 ⟨#[]⟩ z6 (exC 14 0 ⟨#[]⟩ (some ⟨w10.heap.size,0,none⟩) 2) (some ⟨n4,0,none⟩) 1) rfl (reads_blk HBY.out rfl) (stI_one _ _ _ _) (by simp [maxLen]) (by omega) (by omega) ?_; intro vz wz howz hgz hatz; obtain ⟨Az,cz,hvz,-,-⟩:=own_form howz; replace hvz : vz = .slice Az 3 cz:=hvz; subst hvz; have HOWZ:=Lib.hid howz; have HGZ:=Lib.hid hgz; have HATZ:=Lib.hid hatz; clear howz hgz hatz; refine Hid.out ?_))
  refine Lib.hid ?_
  have hbz:=(MY.out.grown HGZ.out).blk ALL9.out.2.2.2.1 ⟨hlt9,by omega⟩
  have HBZ:=Lib.hid hbz
  clear hbz
  go_upto_region 9 with (refine wpList_store_one rfl _ (.tmp 60) _ rfl g 2 119 _ (.slice Az 3 cz) rfl rfl HBZ.out (by simp) (by kernel_rfl) rfl rfl ?_; intro wq hbq hsq; have HBQ:=Lib.hid hbq; have HSQ:=Lib.hid hsq; clear hbq hsq)
  have hbx5:=HKY.out.blk HBX.out HBX.out.lt
  have hoy:=MY.out.2.2.2.2
  have hzy9:=hoy.size
  have hz109:=M10.out.2.2.2.2.size
  have hsy : Same (Rg base g) w9 wy:=hoy.mono (fun i hi=>⟨by have:=hi.2; omega,by have:=hi.1; omega⟩)
  have upM : ∀ i,Rg base g i → Mx base g wy va i:=fun i hi=>⟨hi.1,by have:=hi.2; omega,by have:=hi.2; omega,MY.out.old (by have:=hi.2; omega)⟩
  have show9:=(ALL9.out.2.2.1.2.2.1.keep hsy (StmR.keep hsy 2)).more upM (StmR.more upM 2)
  have hin6 : Mx base g wy va w10.heap.size:=⟨by omega,by omega,by omega,M10.out.fresh (Nat.le_refl _)⟩
  have if9 : StmR wy (Mx base g wy va) 3 (stC 3 ⟨#[]⟩ z6 (exC 14 0 ⟨#[]⟩ (some ⟨w10.heap.size,0,none⟩) 2) (some ⟨n4,0,none⟩) 1) (stI (2 + v4)):=st_body (zeroEx_R 4) (rem_R hbx5 hin6) show9
  have m11:=MY.out.app (l2:=[stI (2 + v4)]) (css2:=[stC 3 ⟨#[]⟩ z6 (exC 14 0 ⟨#[]⟩ (some ⟨w10.heap.size,0,none⟩) 2) (some ⟨n4,0,none⟩) 1]) rfl (by intro cs hcs; simp at hcs; subst hcs; rfl) (fun k cs s e1 e2=>by
   rcases k with _ | k
   ·simp at e1 e2; subst e1 e2; exact if9
   ·simp at e1) (by simpa using HOWZ.out) HGZ.out HATZ.out
  have hcz:=MY.out.cod (fun i hi=>by have:=HGB.out i hi; omega) HGZ.out ((HC10.out.keep HKX.out).keep HKY.out)
  have allz:=ALL9.out.only hgb hb1 h1g m11.2.2.2.2 hcz
  obtain ⟨A',c',he,hle,hst9⟩:=m11.done hbu hlt9 (by simp) (few_mess _ _)
  simp only [Value.slice.injEq] at he
  obtain ⟨rfl,-,rfl⟩:=he
  have hle3 : 3 ≤ cz:=hle
  have all11:=allz.put HGB.out (by omega) hb1 h1g h0g HSQ.out (k1:=h1) (k2:=⟨Az,3,cz,[stA,stB (1 + v1)] ++ [stI (2 + v4)]⟩) (k3:=nilH) (k4:=nilH) (by simpa [nilH] using HBQ.out) allz.2.2.2.2.1 hst9 HdR.nil_ HdR.nil_
  have ALL11:=Lib.hid all11
  clear all11
  clear hbx5 hoy hzy9 hz109 hsy upM show9 hin6 if9 m11 hcz allz hst9 hle HBQ HSQ HBZ HOWZ HGZ HATZ MY M10 HBX HKX HBY HKY HC10 ALL9 K1 K3 K4 K5 K6' OWN0 hv40 hv41 hzx hzy hz10 hza hlt9 hbu
  -- the handler of messages,cut short now and then
  go_wp2_with fail
  refine (next_any wq B gc _ 4 ALL11.out.1 (by omega) (by omega)).mono ?_
  rintro e w12 ⟨v5,hv50,hv51,rfl,hc12,ho12⟩
  have hz12:=ho12.size
  have all12:=ALL11.out.only hgb hb1 h1g ho12 hc12
  have ALL12:=Lib.hid all12
  clear all12
  clear ho12 hc12 ALL11
  go_upto_if 63 with fail
  generalize hbb : (v5 == 3) = bb
  clear hbb
  go_cut [] from 64 to 67 (fun wx=>CutD B gc w w.heap.size base g (some ⟨n3,0,none⟩) (some ⟨n4,0,none⟩) (some ⟨gv,0,none⟩) [stA,stB (1 + v1)] [stO] vars wx)
  case first=>
   cases bb with
   | true=>
    have e2 : w12.cell? ⟨g,2,none⟩ = some (.slice Az 3 cz):=by rw [ALL12.out.2.2.2.1.cell]; rfl
    have hle1 : (1 : Int) ≤ cz:=by omega
    go_wp2_with (refine wpList_store_one rfl _ (.tmp 67) _ rfl g 2 119 _ (.slice Az 1 cz) rfl rfl ALL12.out.2.2.2.1 (by simp) (by kernel_rfl) rfl rfl ?_; intro wq hbq hsq; have HBQ:=Lib.hid hbq; have HSQ:=Lib.hid hsq; clear hbq hsq)
    go_meet
    exact ⟨h1,⟨Az,1,cz,([stA,stB (1 + v1)] ++ [stI (2 + v4)]).take 1⟩,_,ALL12.out.put HGB.out (by omega) hb1 h1g h0g HSQ.out (k3:=nilH) (k4:=nilH) (by simpa [nilH] using HBQ.out) ALL12.out.2.2.2.2.1 (StmsR.first ALL12.out.2.2.2.2.2.1 (by show 1 ≤ 3; omega)) HdR.nil_ HdR.nil_⟩
   | false=>
    go_wp2_with fail
    go_meet
    exact ⟨h1,_,_,ALL12.out⟩
  case rest=>
   obtain ⟨w13,rfl⟩ : ∃ w13 : World,w13 = wc:=⟨_,rfl⟩
   obtain ⟨h1',h2,r13,all13⟩:=hcut
   clear ALL12 hle3 hz12 hv50 hv51
   have hlt13:=all13.2.2.2.1.lt
   obtain ⟨cp,k1,k2,k3,k4,k5,k6⟩:=one_stms all13.2.2.1.2.1
   have hbu : base ≤ w13.heap.size:=by omega
   have k6' : ∀ (k : Nat) (cs : List Value) (s : Stm),cp[k]? = some cs → [stA,stB (1 + v1)][k]? = some s → StmR w13 (Mx base g w13 (.slice none 0 0)) 3 cs s:=fun k cs s e1 e2=>StmR.more (fun i hi=>⟨hi.1,by have:=hi.2; omega,by have:=hi.2; omega,fun h=>by cases h⟩) _ _ _ (k6 k cs s e1 e2)
   have own0:=World.ownsRow_nil w13 w13.heap.size 70 18
   have cshow:=one_stms (all13.2.2.1.2.2.1.more (fun i hi=>hi) (fun cs s h=>StmR.upto (m:=3) (by omega) h))
   obtain ⟨cq,q1,q2,q3,q4,q5,q6⟩:=cshow
   have ALL13:=Lib.hid all13
   have K1:=Lib.hid k1
   have K3:=Lib.hid k3
   have K4:=Lib.hid k4
   have K5:=Lib.hid k5
   have K6':=Lib.hid k6'
   have OWN0:=Lib.hid own0
   have Q1:=Lib.hid q1
   have Q3:=Lib.hid q3
   have Q4:=Lib.hid q4
   have Q5:=Lib.hid q5
   have Q6:=Lib.hid q6
   clear all13 k1 k3 k4 k5 k6' own0 q1 q3 q4 q5 q6
   clear k2 k6 q2
   -- the handler of ticks
   go_wp2_with (at_builtin; refine wpList_append_any _ rfl (.const (.slice none 0 0)) (.tmp 68) 61 rfl w13.heap.size 70 i0 _ 18 232 Tryz.underlying61 HI0.out IZ0.out IZ1.out IZ2.out rfl (by omega) (.slice none 0 0) 0 [] rfl OWN0.out _ (some ⟨n3,0,none⟩) 2 2 cp.flatten rfl K4.out K5.out (by simp [maxLen]; try omega) (by omega) (Nat.le_refl _) ?_; intro vt wt howz hgz hatz; have HOWT:=Lib.hid howz; have HGT:=Lib.hid hgz; have HATT:=Lib.hid hatz; clear howz hgz hatz; refine Hid.out ?_)
   refine Lib.hid ?_
   have m13 : Msg w13 gc base g wt _ ([] ++ [stA,stB (1 + v1)]) ([] ++ cp):=Msg.app Msg.nil_ K1.out K3.out K6'.out (by simpa using HOWT.out) HGT.out HATT.out
   have hka : Keep w13 wt:=Same.grown (Same.refl _ _) HGT.out (fun i hi=>hi) (fun k hk=>by cases hk)
   simp only [List.nil_append] at m13
   have hza:=hka.size
   have hca:=ALL13.out.1.keep hka
   have M13:=Lib.hid m13
   have HCA:=Lib.hid hca
   clear m13 hca
   clear HOWT HGT HATT hka
   have upM : ∀ i,Rg base g i → Mx base g wt vt i:=fun i hi=>⟨hi.1,by have:=hi.2; omega,by have:=hi.2; omega,M13.out.old (by have:=hi.2; omega)⟩
   have hsy : Same (Rg base g) w13 wt:=M13.out.2.2.2.2.mono (fun i hi=>⟨by have:=hi.2; omega,by have:=hi.1; omega⟩)
   have q6' : ∀ (k : Nat) (cs : List Value) (s : Stm),cq[k]? = some cs → [stO][k]? = some s → StmR wt (Mx base g wt vt) 3 cs s:=fun k cs s e1 e2=>StmR.more upM _ _ _ (StmR.keep hsy _ _ _ (Q6.out k cs s e1 e2))
   have q4':=Q4.out.keep hsy
   have Q6':=Lib.hid q6'
   have Q4':=Lib.hid q4'
   clear q6' q4'
   clear upM hsy Q4 Q6
   go_wp2_with (at_builtin; refine wpList_append_any _ rfl (.tmp 69) (.tmp 70) 61 rfl w13.heap.size 70 i0 _ 18 232 Tryz.underlying61 HI0.out IZ0.out IZ1.out IZ2.out rfl (by omega) vt 2 cp.flatten rfl M13.out.2.2.1 _ (some ⟨n4,0,none⟩) 1 1 cq.flatten rfl Q4'.out Q5.out (by simp [maxLen]; try omega) (by omega) (by omega) ?_; intro vtt wtt howz hgz hatz; have HOWTT:=Lib.hid howz; have HGTT:=Lib.hid hgz; have HATTT:=Lib.hid hatz; clear howz hgz hatz; refine Hid.out ?_)
   refine Lib.hid ?_
   have m14:=M13.out.app Q1.out Q3.out Q6'.out (by simpa using HOWTT.out) HGTT.out HATTT.out
   have hcz:=M13.out.cod (fun i hi=>by have:=HGB.out i hi; omega) HGTT.out HCA.out
   have allz:=ALL13.out.only hgb hb1 h1g m14.2.2.2.2 hcz
   obtain ⟨A',c',hvz,hle,hst9⟩:=m14.done hbu hlt13 (by simp) (few_tick _)
   subst hvz
   have hbz:=allz.2.2.2.1
   have HBZ:=Lib.hid hbz
   have ALLZ:=Lib.hid allz
   have HST9:=Lib.hid hst9
   clear hbz allz hst9
   clear m14 hcz hle M13 HCA HOWTT HGTT HATTT ALL13 K1 K3 K4 K5 K6' OWN0 Q1 Q3 Q5 Q6' Q4' hza
   go_upto_region 12 with (refine wpList_store_one rfl _ (.tmp 72) _ rfl g 3 119 _ (.slice A' 3 c') rfl rfl HBZ.out (by simp) (by kernel_rfl) rfl rfl ?_; intro wq hbq hsq; have HBQ:=Lib.hid hbq; have HSQ:=Lib.hid hsq; clear hbq hsq)
   have all15:=ALLZ.out.put HGB.out (by omega) hb1 h1g h0g HSQ.out (k1:=h1') (k2:=h2) (k3:=⟨A',3,c',[stA,stB (1 + v1)] ++ [stO]⟩) (k4:=nilH) (by simpa [nilH] using HBQ.out) ALLZ.out.2.2.2.2.1 ALLZ.out.2.2.2.2.2.1 HST9.out HdR.nil_
   clear HBZ ALLZ HST9 HBQ HSQ hlt13 hbu
   obtain ⟨h3,hh3⟩ : ∃ h3 : Hd,h3 = ⟨A',3,c',[stA,stB (1 + v1)] ++ [stO]⟩:=⟨_,rfl⟩
   rw [← hh3] at all15
   clear hh3
   obtain ⟨w15,hw15⟩ : ∃ w15 : World,w15 = wq:=⟨_,rfl⟩
   subst hw15
   have hlt15:=all15.2.2.2.1.lt
   obtain ⟨cp,k1,k2,k3,k4,k5,k6⟩:=one_stms all15.2.2.1.2.1
   have hbu : base ≤ w15.heap.size:=by omega
   have k6' : ∀ (k : Nat) (cs : List Value) (s : Stm),cp[k]? = some cs → [stA,stB (1 + v1)][k]? = some s → StmR w15 (Mx base g w15 (.slice none 0 0)) 3 cs s:=fun k cs s e1 e2=>StmR.more (fun i hi=>⟨hi.1,by have:=hi.2; omega,by have:=hi.2; omega,fun h=>by cases h⟩) _ _ _ (k6 k cs s e1 e2)
   have own0:=World.ownsRow_nil w15 w15.heap.size 70 18
   have ALL15:=Lib.hid all15
   have K1:=Lib.hid k1
   have K3:=Lib.hid k3
   have K4:=Lib.hid k4
   have K5:=Lib.hid k5
   have K6':=Lib.hid k6'
   have OWN0:=Lib.hid own0
   clear all15 k1 k3 k4 k5 k6' own0
   clear k2 k6
   -- the handler of inputs
   go_wp2_with (at_builtin; refine wpList_append_any _ rfl (.const (.slice none 0 0)) (.tmp 73) 61 rfl w15.heap.size 70 i0 _ 18 232 Tryz.underlying61 HI0.out IZ0.out IZ1.out IZ2.out rfl (by omega) (.slice none 0 0) 0 [] rfl OWN0.out _ (some ⟨n3,0,none⟩) 2 2 cp.flatten rfl K4.out K5.out (by simp [maxLen]; try omega) (by omega) (Nat.le_refl _) ?_; intro vp wp howz hgz hatz; have HOWP:=Lib.hid howz; have HGP:=Lib.hid hgz; have HATP:=Lib.hid hatz; clear howz hgz hatz; refine Hid.out ?_)
   refine Lib.hid ?_
   have m15 : Msg w15 gc base g wp _ ([] ++ [stA,stB (1 + v1)]) ([] ++ cp):=Msg.app Msg.nil_ K1.out K3.out K6'.out (by simpa using HOWP.out) HGP.out HATP.out
   have hka : Keep w15 wp:=Same.grown (Same.refl _ _) HGP.out (fun i hi=>hi) (fun k hk=>by cases hk)
   simp only [List.nil_append] at m15
   have hza:=hka.size
   have hca:=ALL15.out.1.keep hka
   have M15:=Lib.hid m15
   have HCA:=Lib.hid hca
   clear m15 hca
   clear HOWP HGP HATP hka
   have hglp:=HGL.out.only hg2 (Only.trans ALL15.out.2.1 M15.out.2.2.2.2)
   have HGLP:=Lib.hid hglp
   clear hglp
   go_wp2_with fail
   refine (stmts_all 1 (by omega) (by omega) 1 wp B gc _ (by omega) HCA.out HGLP.out).mono ?_
   rintro e w16 ⟨l16,A16,m16,c16,r16,rfl,hx16,hlen16,hf16,hr16',hc16,ho16⟩
   have hz16:=ho16.size
   have hzp:=M15.out.2.2.2.2.size
   have hs16:=stms_of (base:=wp.heap.size) (by omega) (by omega) (Nat.le_refl _) hx16 hlen16 hf16
   have m17:=M15.out.only (by omega) (by omega) ho16
   have hf16':=hs16.2.2
   obtain ⟨cq,q1,q2,q3,q4,q5,q6⟩:=one_stms hs16.1
   have q6' : ∀ (k : Nat) (cs : List Value) (s : Stm),cq[k]? = some cs → l16[k]? = some s → StmR w16 (Mx base g w16 vp) 3 cs s:=fun k cs s e1 e2=>StmR.more (fun i hi=>⟨by have:=hi.1; omega,hi.2,by have:=hi.1; omega,M15.out.fresh hi.1⟩) _ _ _ (q6 k cs s e1 e2)
   have hm1 : m16 ≤ 1:=by omega
   have hml : m16 = l16.length:=q2
   have Q1:=Lib.hid q1
   have Q3:=Lib.hid q3
   have Q4:=Lib.hid q4
   have Q5:=Lib.hid q5
   have Q6':=Lib.hid q6'
   have M17:=Lib.hid m17
   have HC16:=Lib.hid hc16
   have HF16':=Lib.hid hf16'
   have HML:=Lib.hid hml
   clear q1 q3 q4 q5 q6' m17 hc16 hf16' hml
   clear q2 q6 hs16 hx16 hf16 ho16 M15 HCA HGLP
   go_wp2_with (at_builtin; refine wpList_append_any _ rfl (.tmp 74) (.tmp 76) 61 rfl w15.heap.size 70 i0 _ 18 232 Tryz.underlying61 HI0.out IZ0.out IZ1.out IZ2.out rfl (by omega) vp 2 cp.flatten rfl M17.out.2.2.1 _ A16 m16 c16 cq.flatten rfl Q4.out Q5.out (by simp [maxLen]; try omega) (by omega) (by omega) ?_; intro vpp wpp howz hgz hatz; have HOWPP:=Lib.hid howz; have HGPP:=Lib.hid hgz; have HATPP:=Lib.hid hatz; clear howz hgz hatz; refine Hid.out ?_)
   refine Lib.hid ?_
   have m18:=M17.out.app Q1.out Q3.out Q6'.out (by rw [← HML.out]; simpa using HOWPP.out) HGPP.out HATPP.out
   have hcz:=M17.out.cod (fun i hi=>by have:=HGB.out i hi; omega) HGPP.out HC16.out
   have allz:=ALL15.out.only hgb hb1 h1g m18.2.2.2.2 hcz
   obtain ⟨A'',c'',hvz,hle,hst9⟩:=m18.done hbu hlt15 (by simp; omega) (by
    intro a ha
    rcases List.mem_append.1 ha with h | h
    ·exact few_pass _ a h
    ·exact HF16'.out a h)
   subst hvz
   have hbz:=allz.2.2.2.1
   have HBZ:=Lib.hid hbz
   have ALLZ:=Lib.hid allz
   have HST9:=Lib.hid hst9
   clear hbz allz hst9
   clear m18 hcz hle M17 HC16 HOWPP HGPP HATPP ALL15 K1 K3 K4 K5 K6' OWN0 Q1 Q3 Q4 Q5 Q6' HF16'
   generalize hmm : ([stA,stB (1 + v1)] ++ l16).length = mm at *
   go_upto_region 13 with (refine wpList_store_one rfl _ (.tmp 78) _ rfl g 4 119 _ (.slice A'' mm c'') rfl rfl HBZ.out (by simp) (by kernel_rfl) rfl rfl ?_; intro wq hbq hsq; have HBQ:=Lib.hid hbq; have HSQ:=Lib.hid hsq; clear hbq hsq)
   have all17:=ALLZ.out.put HGB.out (by omega) hb1 h1g h0g HSQ.out (k1:=h1') (k2:=h2) (k3:=h3) (k4:=⟨A'',mm,c'',[stA,stB (1 + v1)] ++ l16⟩) (by simpa using HBQ.out) ALLZ.out.2.2.2.2.1 ALLZ.out.2.2.2.2.2.1 ALLZ.out.2.2.2.2.2.2.1 HST9.out
   obtain ⟨h4,hh4⟩ : ∃ h4 : Hd,h4 = ⟨A'',mm,c'',[stA,stB (1 + v1)] ++ l16⟩:=⟨_,rfl⟩
   rw [← hh4] at all17
   clear hh4 HBZ ALLZ HST9 HBQ HSQ hmm
   have hb17:=all17.2.2.2.1
   have hprg : PrgR wq (ChS base g wq) [.slice (some ⟨gv,0,none⟩) 5 5,.slice h1'.A h1'.m h1'.c,.slice h2.A h2.m h2.c,.slice h3.A h3.m h3.c,.slice h4.A h4.m h4.c] ⟨vars,h1'.l,h2.l,h3.l,h4.l⟩:=
    ⟨_,_,_,_,_,_,_,_,_,_,_,_,_,_,_,rfl,all17.2.2.1.2.2.2.more (fun i hi=>⟨hi.1,by have:=hi.2; have:=hb17.lt; omega,by have:=hi.2; omega⟩),HVOK.out.1,HVOK.out.2,all17.2.2.2.2.1,all17.2.2.2.2.2.1,all17.2.2.2.2.2.2.1,all17.2.2.2.2.2.2.2⟩
   have hres:=resolve_any wq (ChS base g wq) _ _ (fun i hi=>hi.2.1) hprg
   have hltq:=hb17.lt
   have ALL17:=Lib.hid all17
   have HB17:=Lib.hid hb17
   have HRES:=Lib.hid hres
   clear all17 hb17 hres
   clear hprg
   -- the code
   go_wp2_with (refine wpList_load_all rfl _ (.tmp 7) rfl g 119 [.slice (some ⟨gv,0,none⟩) 5 5,.slice h1'.A h1'.m h1'.c,.slice h2.A h2.m h2.c,.slice h3.A h3.m h3.c,.slice h4.A h4.m h4.c] _ rfl HB17.out Tryz.underlying119 rfl (by kernel_rfl) ?_)
   refine HRES.out.mono ?_
   rintro e wr ⟨cs2,x2,cd,rfl,hcd,hk2⟩
   obtain ⟨D0,D1,D2,D3,D4,d0,f0,d1,f1,d2,f2,d3,f3,d4,f4,rfl,hcd⟩:=cd_open hcd
   have hz2:=hk2.size
   have hg2r:=hk2.blk ALL17.out.2.2.1.1 (by omega)
   have hcr:=ALL17.out.1.keep hk2
   have hor:=Only.keep ALL17.out.2.1 hk2
   have HCD:=Lib.hid hcd
   have HK2:=Lib.hid hk2
   have HG2R:=Lib.hid hg2r
   have HCR:=Lib.hid hcr
   have HOR:=Lib.hid hor
   clear hcd hk2 hg2r hcr hor
   go_upto_region 14 with (refine wpList_store_all rfl _ (.tmp 8) (.tmp 82) rfl wr.heap.size 63 _ [.slice D0 d0 f0,.slice D1 d1 f1,.slice D2 d2 f2,.slice D3 d3 f3,.slice D4 d4 f4] rfl rfl (Blk.new _ _ _) rfl (by kernel_rfl) rfl ?_; intro ws hbs hss)
   have hks : Keep wr ws:=Keep.write (Keep.new _ _) hss (Nat.le_refl _)
   have hzs : wr.heap.size < ws.heap.size:=hbs.lt
   have hg2s:=hks.blk HG2R.out (by omega)
   clear hss
   have HKS:=Lib.hid hks
   have HBS:=Lib.hid hbs
   have HG2S:=Lib.hid hg2s
   clear hks hbs hg2s
   go_wp2_with (first
    | (refine wpList_load_all rfl _ (.tmp 8) rfl wr.heap.size 63 [.slice D0 d0 f0,.slice D1 d1 f1,.slice D2 d2 f2,.slice D3 d3 f3,.slice D4 d4 f4] _ rfl HBS.out Tryz.underlying63 rfl (by kernel_rfl) ?_)
    | (refine wpList_store_all rfl _ (.tmp 2) (.tmp 84) rfl w.heap.size 63 _ [.slice D0 d0 f0,.slice D1 d1 f1,.slice D2 d2 f2,.slice D3 d3 f3,.slice D4 d4 f4] rfl rfl HG2S.out rfl (by kernel_rfl) rfl ?_; intro wz hbz hwz; have HBZ:=Lib.hid hbz; have HWZ:=Lib.hid hwz; clear hbz hwz))
   have hzz:=HWZ.out.size
   refine bodyPost_ret (results_cell1 Tryz.results37 _ _ _ ⟨w.heap.size,0,none⟩ _ rfl (loadVar_blk [.slice D0 d0 f0,.slice D1 d1 f1,.slice D2 d2 f2,.slice D3 d3 f3,.slice D4 d4 f4] _ HBZ.out (fun j v hv=>by simpa using hv) Tryz.underlying63 rfl (by kernel_rfl))) rfl ?_
   refine ⟨_,cd,_,rfl,?_,(HCR.out.keep HKS.out).write HWZ.out (fun h=>by have:=HBW.out _ h; omega),Only.write (Only.keep HOR.out HKS.out) HWZ.out (Nat.le_refl _)⟩
   refine ((HCD.out.keep (HKS.out.mono (fun i hi=>hi.2))).keep (HWZ.out.mono (fun i (hi : New wr wq.heap.size i)=>by have:=hi.1; show i ≠ _; omega))).more (fun i hi=>⟨by have:=hi.1; omega,by have:=hi.2; omega⟩)
end Go.Proofs.YtipegaojiokppaaGreatDoor
