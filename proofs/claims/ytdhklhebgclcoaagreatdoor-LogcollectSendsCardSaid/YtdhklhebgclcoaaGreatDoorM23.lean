import Derived.Lib.SmallJoins
import Derived.SizedLaws
import Derived.WideShapes
import Derived.Test.YtdhklhebgclcoaaGreatDoorM15
set_option linter.unusedVariables false
set_option linter.unusedSimpArgs false
set_option maxRecDepth 100000
set_option maxHeartbeats 32000000
namespace Go.Proofs.YtdhklhebgclcoaaGreatDoor
open Go.Deep Go.Joins Go.Proofs Go.Proofs.Tryz Go.RowKit
section
variable {H:Type} {qF:TypeId×Value->H} {w:World} {base:Nat} {spare:Nat->Bool} {held:Bool}
theorem aX:Flat qF Tryz.prog w base spare held 42 2:=
 On wj Z λ j a=>by
  match j,a with
  |0,_=>exact⟨0,_,1,I,Z,eH,eH,Ph ah⟩
  |1,_=>exact⟨1,_,1,I,Z,eH,eH,Ph ah⟩
theorem lV:Flat qF Tryz.prog w base spare held 50 7:=
 On mB Z λ j a=>by
  match j,a with
  |0,_=>exact⟨0,_,1,I,Z,eH,eH,Ph ah⟩
  |1,_=>exact⟨1,_,1,I,Z,eH,eH,Ph ah⟩
  |2,_=>exact⟨2,_,1,I,Z,eH,eH,Ph ah⟩
  |3,_=>exact⟨3,_,2,I,Z,eH,eH,aX⟩
  |4,_=>exact⟨3,_,2,I,Z,eH,eH,aX⟩
  |5,_=>exact⟨4,_,1,I,Z,eH,eH,Ph ah⟩
  |6,_=>exact⟨5,_,1,I,Z,eH,eH,Ph ah⟩
theorem jT:Flat qF Tryz.prog w base spare held 40 4:=
 On pZ Z λ j a=>by
  match j,a with
  |0,_=>exact⟨0,_,1,I,Z,eH,eH,Ph ah⟩
  |1,_=>exact⟨1,_,1,I,Z,eH,eH,Ph ah⟩
  |2,_=>exact⟨2,_,1,I,Z,eH,eH,Ph ah⟩
  |3,_=>exact⟨3,_,1,I,Z,eH,eH,Ph ah⟩
theorem bG:Flat qF Tryz.prog w base spare held 166 2:=
 On underlying166 Z λ j a=>by
  match j,a with
  |0,_=>exact⟨0,_,1,I,Z,eH,eH,Ph ah⟩
  |1,_=>exact⟨1,_,1,I,Z,eH,eH,Ph ah⟩
theorem cw(n:Nat)(cs:List Value)(y:DataW H×List MemPlace)(h:DataW.trod qF Tryz.prog w base spare held n 3 cs=some y):cs.length=1/\∃d:Int,cs=bE d:=by
 obtain⟨a,c⟩:=Ph ah n cs y h;refine⟨a,?_⟩;obtain⟨b,h0,_⟩:=c 0 O;match cs,a with
 |[e],_=>simp at h0;subst h0;exact⟨b,I⟩
theorem mr(n:Nat)(cs:List Value)(y:DataW H×List MemPlace)(h:DataW.trod qF Tryz.prog w base spare held n 50 cs=some y):cs.length=7/\∃d:bz,cs=dG d:=by
 obtain⟨e,a⟩:=lV n cs y h;refine⟨e,?_⟩;obtain⟨f,h0,_⟩:=a 0 O;obtain⟨g,h1,_⟩:=a 1 O;obtain⟨i,h2,_⟩:=a 2 O;obtain⟨j,aA,_⟩:=a 3 O;obtain⟨k,aS,_⟩:=a 4 O;obtain⟨l,b,_⟩:=a 5 O;obtain⟨m,c,_⟩:=a 6 O;match cs,e with
 |[o,p,q,r,s,t,u],_=>simp at h0 h1 h2 aA aS b c;subst h0 h1 h2 aA aS b c;exact⟨⟨f,g,i,j,k,l,m⟩,I⟩
theorem kI(n:Nat)(cs:List Value)(y:DataW H×List MemPlace)(h:DataW.trod qF Tryz.prog w base spare held n 40 cs=some y):cs.length=4/\∃d:ev,cs=dF d:=by
 obtain⟨b,a⟩:=jT n cs y h;refine⟨b,?_⟩;obtain⟨c,h0,_⟩:=a 0 O;obtain⟨e,h1,_⟩:=a 1 O;obtain⟨f,h2,_⟩:=a 2 O;obtain⟨g,aA,_⟩:=a 3 O;match cs,b with
 |[i,j,k,l],_=>simp at h0 h1 h2 aA;subst h0 h1 h2 aA;exact⟨⟨c,e,f,g⟩,I⟩
theorem ko(n:Nat)(cs:List Value)(y:DataW H×List MemPlace)(h:DataW.trod qF Tryz.prog w base spare held n 166 cs=some y):cs.length=2/\∃d:nL,cs=mJ d:=by
 obtain⟨b,a⟩:=bG n cs y h;refine⟨b,?_⟩;obtain⟨c,h0,_⟩:=a 0 O;obtain⟨e,h1,_⟩:=a 1 O;match cs,b with
 |[f,g],_=>simp at h0 h1;subst h0 h1;exact⟨⟨c,e⟩,I⟩
end
section
variable {H:Type} {qF:TypeId×Value->H} {P:Program} {w:World} {base:Nat} {spare:Nat->Bool} {held:Bool}
theorem aG{e:TypeId}:∀{fJ:List (DataW H)} {k:Nat} {d:DataW H},fJ[k]?=some d->∀n∈d.weights P e,n∈DataW.weightsAll P e fJ
 |d0::fJ,0,d,a,n,aJ=>by
  simp only[List.getElem?_cons_zero,Option.some.injEq]at a
  subst a
  simp only[DataW.weightsAll,List.mem_append]
  exact Or.inl aJ
 |d0::fJ,k+1,d,a,n,aJ=>by
  simp only[List.getElem?_cons_succ]at a
  simp only[DataW.weightsAll,List.mem_append]
  exact Or.inr (aG a n aJ)
 |[],_,_,a,_,_=>by simp at a
theorem aF{t e:TypeId}{fuel:Nat}{v:Value}{x:DataW H×List MemPlace}(d:P.underlying t=some (.slice e))(h:DataW.trod qF P w base spare held fuel t [v]=some x):∃A len cap,v=.slice A len cap:=by
 rcases open_slice d h with ⟨b,_⟩|⟨a,len,cap,m,n,D,bM,c,_⟩
 ·simp at b;exact⟨none,0,0,b⟩
 simp at c;exact⟨some a,len,cap,c⟩
theorem aE{α:Type}{size:Nat}{R:List Value->α->Prop}{t e:TypeId}{fuel:Nat}{A:Option Addr}{len cap:Nat}{x:DataW H×List MemPlace}(v:0<size)(z:P.underlying t=some (.slice e))(hC:P.cellsOf e=size)(N:∀(n:Nat) (cs:List Value) (y:DataW H×List MemPlace),DataW.trod qF P w base spare held n e cs=some y->(∀m∈y.1.weights P e,m<=reachBytes)->cs.length=size/\∃a,R cs a)(h:DataW.trod qF P w base spare held fuel t [.slice A len cap]=some x)(hw:∀m∈x.1.weights P t,m<=reachBytes):∃l:List α,cN w (·<w.heap.size) size R A len cap l/\len*P.bytesOf e<=reachBytes:=by
 rcases open_slice z h with ⟨B,_⟩|⟨a,a1,Y,m,n,D,bM,C,_,S,hm,T,G,E⟩
 ·simp at B;obtain⟨rfl,rfl,rfl⟩:=B;exact⟨[],iv,O⟩
 simp at C;obtain⟨rfl,rfl,rfl⟩:=C;rw[hC]at E;have a0:len<=m:=by rw[T];split<;>omega
 have V:∀k,k<len->∀q∈(D k).weights P e,q<=reachBytes:=λ k F q aB=>hw q (by
  rw[G]
  simp only[DataW.weights,z]
  refine List.mem_cons_of_mem _ (List.mem_append_left _ (aG (k:=k) (d:=D k) ?_ q aB))
  rw[List.getElem?_map,List.getElem?_range F]
  rfl)
 have W:len*P.bytesOf e<=reachBytes:=by
  have:=hw ((len+(m-len))*P.bytesOf e) (by
   rw[G]
   simp[DataW.weights,z])
  exact Nat.le_trans (Nat.mul_le_mul_right _ (Nat.le_add_right _ _)) this
 have key:∀k,k<=len->∃(aP:List (List Value)) (l:List α),aP.length=k/\l.length=k/\(∀cs∈aP,cs.length=size)/\(∀(i:Nat) (cs:List Value) (b:α),aP[i]?=some cs->l[i]?=some b->R cs b)/\
   (∀(i:Nat) (cs:List Value),aP[i]?=some cs->∀j,j<size->w.cell? ((a.add (i*size)).add j)=cs[j]?):=by
  intro k
  induction k with
  |zero=>intro _;exact⟨[],[],I,I,aT,aT,aT⟩
  |succ k X=>
   intro F
   obtain⟨aP,l,h1,h2,aA,aS,s⟩:=X O
   obtain⟨cs,M,U⟩:=E k O
   obtain⟨L,b,p⟩:=N _ _ _ U (V k O)
   obtain⟨_,_,K⟩:=World.cells?_some M
   refine⟨aP++[cs],l++[b],by simp[h1],by simp[h2],λ c av=>?_,λ i c d f g=>?_,λ i c f j r=>?_⟩
   ·rcases List.mem_append.1 av with h|h
    ·exact aA c h
    ·simp at h;subst h;exact L
   ·rcases Nat.lt_or_ge i k with h|h
    ·rw[List.getElem?_append_left O]at f g
     exact aS i c d f g
    ·rw[List.getElem?_append_right O]at f g
     rw[h1]at f
     rw[h2]at g
     rcases Nat.eq_or_lt_of_le h with o|o
     ·subst o
      simp at f g
      subst f g
      exact p
     ·rw[List.getElem?_eq_none aY]at f
      cases f
   ·rcases Nat.lt_or_ge i k with h|h
    ·rw[List.getElem?_append_left O]at f
     exact s i c f j r
    ·rw[List.getElem?_append_right O,h1]at f
     rcases Nat.eq_or_lt_of_le h with o|o
     ·subst o
      simp at f
      subst f
      exact K j r
     ·rw[List.getElem?_eq_none aY]at f
      cases f
 obtain⟨aP,l,h1,h2,aA,aS,s⟩:=key len (Nat.le_refl _);refine⟨l,⟨h2.symm,S,hm,aP,h1,aA,⟨?_,λ aJ=>?_⟩,aS⟩,W⟩
 ·rw[List.length_flatten,show aP.map List.length=List.replicate aP.length size from List.eq_replicate_iff.2 ⟨aT,λ b p=>by obtain⟨c,av,rfl⟩:=List.mem_map.1 p;exact aA c av⟩];simp[h1]
 obtain⟨b,off,spot⟩:=a;have h0:w.cell? ((Addr.add ⟨b,off,spot⟩ (0*size)).add 0)=(aP[0]'O)[0]?:=s 0 _ (List.getElem?_eq_getElem O) 0 v;rw[List.getElem?_eq_getElem (by rw[aA _ (List.getElem_mem _)];exact v)]at h0;have au:spot=none:=by simpa [Addr.add]using World.cell?_spot h0
 subst au;refine⟨b,off,I,?_,λ j u hu=>?_⟩
 ·have:=lZ w _ h0;simpa [Addr.add]using this
 have Q:j<len*size:=by have:=(List.getElem?_eq_some_iff.1 hu).1;rw[List.length_flatten,show aP.map List.length=List.replicate aP.length size from List.eq_replicate_iff.2 ⟨aT,λ b p=>by obtain⟨c,av,rfl⟩:=List.mem_map.1 p;exact aA c av⟩]at this;simpa [h1]using this
 have aB:j/size<len:=Nat.div_lt_of_lt_mul (by rw[Nat.mul_comm];exact Q);have o:j%size<size:=Nat.mod_lt _ v;have r:j/size*size+j%size=j:=by rw[Nat.mul_comm];exact Nat.div_add_mod j size
 have g:=nk aP (j/size) (j%size) O aA o;rw[r,hu]at g;have av:=s (j/size) _ (List.getElem?_eq_getElem O) (j%size) o;rw[mF,mF,Nat.add_assoc,r]at av;rw[av,<-g]
end
section
variable {H:Type} {qF:TypeId×Value->H} {w:World} {base:Nat} {spare:Nat->Bool} {held:Bool}
end
section
variable {H:Type} {qF:TypeId×Value->H} {w:World} {base:Nat} {spare:Nat->Bool} {held:Bool}
def aO(w:World)(cs:List Value)(s:de):Prop:=ec w (·<w.heap.size) cs s/\s.events.length<=140737488351232/\s.cD.length<=140737488351232
theorem mL(n:Nat)(cs:List Value)(y:DataW H×List MemPlace)(h:DataW.trod qF Tryz.prog w base spare held n 38 cs=some y)(hw:∀m∈y.1.weights Tryz.prog 38,m<=reachBytes):cs.length=4/\∃s,aO w cs s:=by
 obtain⟨xs,n,_,b,hlen,A,e⟩:=DataW.trod_struct qT h;have av:cs.length=4:=hlen.trans Z;refine⟨av,?_⟩;subst b;match cs,av,xs,A with
 |[v0,v1,v2,d],_,[f,y1,g,i],_=>
  have B:Tryz.prog.cellsOf 23=1:=Z;have dv:Tryz.prog.cellsOf 34=1:=Z;have cc:Tryz.prog.cellsOf 35=1:=Z;have cT:Tryz.prog.cellsOf 36=1:=Z;have h0:DataW.trod qF Tryz.prog w base spare held n 23 (List.take (Tryz.prog.cellsOf 23) (List.drop 0 [v0,v1,v2,d]))=some f:=e 0 _ I;rw[B]at h0;replace h0:DataW.trod qF Tryz.prog w base spare held n 23 [v0]=some f:=h0;have h1:DataW.trod qF Tryz.prog w base spare held n 34 (List.take (Tryz.prog.cellsOf 34) (List.drop 1 [v0,v1,v2,d]))=some y1:=e 1 _ I;rw[dv]at h1;replace h1:DataW.trod qF Tryz.prog w base spare held n 34 [v1]=some y1:=h1;have h2:DataW.trod qF Tryz.prog w base spare held n 35 (List.take (Tryz.prog.cellsOf 35) (List.drop 2 [v0,v1,v2,d]))=some g:=e 2 _ I;rw[cc]at h2;replace h2:DataW.trod qF Tryz.prog w base spare held n 35 [v2]=some g:=h2;have aA:DataW.trod qF Tryz.prog w base spare held n 36 (List.take (Tryz.prog.cellsOf 36) (List.drop 3 [v0,v1,v2,d]))=some i:=e 3 _ I;rw[cT]at aA;replace aA:DataW.trod qF Tryz.prog w base spare held n 36 [d]=some i:=aA
  have c:∀m∈DataW.weightsEach Tryz.prog [23,34,35,36] [f.1,y1.1,g.1,i.1],m<=reachBytes:=λ m hm=>hw m (by
   unfold DataW.weights
   rw[qT]
   exact hm)
  simp only[DataW.weightsEach,List.mem_append]at c;obtain⟨l,D,r,rfl⟩:=aF eK h0;obtain⟨o,E,t,rfl⟩:=aF hO h1;obtain⟨p,F,u,rfl⟩:=aF gA h2;obtain⟨q,G,v,rfl⟩:=aF nz aA;obtain⟨C,s1,-⟩:=aE (R:=λ cs a=>cs=bE a) O eK Z (λ n cs y b _=>cw n cs y b) h0 (λ m hm=>c m (by simp[hm]));obtain⟨cA,s2,j⟩:=aE (R:=λ cs a=>cs=dG a) O hO Z (λ n cs y b _=>mr n cs y b) h1 (λ m hm=>c m (by simp[hm]));obtain⟨dL,K,k⟩:=aE (R:=λ cs a=>cs=dF a) O gA Z (λ n cs y b _=>kI n cs y b) h2 (λ m hm=>c m (by simp[hm]));obtain⟨dR,L,-⟩:=aE (R:=λ cs a=>cs=mJ a) O nz Z (λ n cs y b _=>ko n cs y b) aA (λ m hm=>c m (by simp[hm]));have x:Tryz.prog.bytesOf 50=56:=Z;have z:Tryz.prog.bytesOf 40=32:=Z;rw[x]at j;rw[z]at k;simp only[reachBytes]at j k;have t1:=Nt s1;have t2:=Nt s2;have t3:=Nt K;have t4:=Nt L;exact⟨⟨C,cA,dL,dR⟩,⟨l,o,p,q,D,r,E,t,F,u,G,v,I,t1,t2,t3,t4⟩,by have:=t2.1;show cA.length<=_;omega,by have:=t3.1;show dL.length<=_;omega⟩
theorem states_in{r:Reach}{j:Nat}{v:Value}{d:DataW H}{p:List MemPlace}(u:Value.okWide Tryz.prog w r j 22 v)(h:DataW.Trod qF Tryz.prog w base spare held 22 v d p)(hw:∀m∈d.weights Tryz.prog 22,m<=reachBytes):∃(A:Option Addr) (n c:Nat) (l:List de),v=.slice A n c/\cN w (·<w.heap.size) 4 (ec w (·<w.heap.size)) A n c l/\n<=140737488351232/\∀s∈l,s.events.length<=140737488351232/\s.cD.length<=140737488351232:=by obtain⟨A,n,c,rfl⟩:=WideShapes.okWide_slice lA u;obtain⟨fuel,q⟩:=h;obtain⟨l,e,f⟩:=aE (R:=aO w) O lA Z mL (by simpa [Value.cells]using q) hw;have o:Tryz.prog.bytesOf 38=96:=Z;rw[o]at f;simp only[reachBytes]at f;refine⟨A,n,c,l,I,e.more (λ i b=>b) (λ cs a b=>b.1),O,λ x y=>?_⟩;obtain⟨k,g⟩:=List.mem_iff_getElem?.1 y;have z:=(List.getElem?_eq_some_iff.1 g).1;obtain⟨_,_,cs,a,-,-,b,t,-⟩:=e.at_ (k:=k) (an e.1);rw[g]at b;injection b with b;rw[b];exact t.2
end
end Go.Proofs.YtdhklhebgclcoaaGreatDoor
