import Derived.Test.YtdhklhebgclcoaaGreatDoorM2
set_option linter.unusedVariables false
set_option linter.unusedSimpArgs false
set_option maxRecDepth 100000
set_option maxHeartbeats 32000000
namespace Go.Proofs.YtdhklhebgclcoaaGreatDoor
open Go.Proofs Go.Proofs.Tryz Go.RowKit
theorem EA(w S p)(p2 q2:Nat)(e)(k:Int)(g:∀i,S i->i<w.heap.size)(f:bl dG 7 w S p p2 q2 e)(aJ:e.length<=1000000):Calls Tryz.prog 38 #[.slice p p2 q2,k] w (lC e k w):=by
 have hp:=f.1;have aB:=f.2.1;generalize h:w.alloc (.cells Pr 42)=W;have d:ab w W:=h▸cx w _;have n:aC W (w.heap.size) 42 Pr:=h▸cu w _ _;have L:w.heap.size<W.heap.size:=n.lt
 have key:∀(ae:World) (a b:Int) (q:Bool),aC ae (w.heap.size) 42 #[a,b]->aw (·≠w.heap.size) W ae->a=fq e k->b=fp e k->q=fK e k->
   lC e k w (.returned (.tuple #[.agg #[a,b],.bool q])) ae:=λ ae a b q _ au h1 h2 aA=>⟨by rw[h1,h2,aA],zv d au O⟩
 have r:=f.aq (cS d g);have K:p2<=1000000:=O;obtain⟨B,l,m,z,C,c⟩:=er d n key r g hp;clear d n key r g hp f aJ;by_cases s:k=0
 ·subst s;have t0:decide ((p2:Int)<0)=false:=aT;go_enter ou,wP;go_upto_region 1 with fail;clear h;go_wp2_with(refine db I _ (.tmp 4) (.tmp 19) I (w.heap.size) 42 _ [.int .i64 0,.int .i64 0] I I l.o I Z I ?_;intro v6 d f);exact dS (gT ug _ _ _ ⟨w.heap.size,0,none⟩ _ _ I I (ez [.int .i64 0,.int .i64 0] _ d (λ j v g=>ax g) wj I Z)) I (m.o v6 _ _ _ d f (by simp[fq]) (by simp[fp]) (by simp[fK]))
 have t0:(k==0)=false:=ax s;by_cases t:k<0
 ·have t1:decide (k<0)=true:=ax t;go_enter ou,wP;go_upto_region 1 with fail;clear h;go_wp2_with(refine db I _ (.tmp 4) (.tmp 15) I (w.heap.size) 42 _ [.int .i64 0,.int .i64 0] I I l.o I Z I ?_;intro v6 d f);exact dS (gT ug _ _ _ ⟨w.heap.size,0,none⟩ _ _ I I (ez [.int .i64 0,.int .i64 0] _ d (λ j v g=>ax g) wj I Z)) I (m.o v6 _ _ _ d f (by have:=c.o;simp[fq];omega) (by have:=c.o;simp[fp];omega) (by have:=c.o;simp[fK];omega))
 have t1:decide (k<0)=false:=ax t;by_cases n:(p2:Int)<k
 ·have t2:decide ((p2:Int)<k)=true:=ax n;go_enter ou,wP;go_upto_region 1 with fail;clear h;go_wp2_with(refine db I _ (.tmp 4) (.tmp 15) I (w.heap.size) 42 _ [.int .i64 0,.int .i64 0] I I l.o I Z I ?_;intro v6 d f);exact dS (gT ug _ _ _ ⟨w.heap.size,0,none⟩ _ _ I I (ez [.int .i64 0,.int .i64 0] _ d (λ j v g=>ax g) wj I Z)) I (m.o v6 _ _ _ d f (by have:=c.o;simp[fq];omega) (by have:=c.o;simp[fp];omega) (by have:=c.o;simp[fK];omega))
 have t2:decide ((p2:Int)<k)=false:=ax n;obtain⟨b,off,x,rfl,H,u,r⟩:=z.o.at_ jy (k:=k.toNat-1) O;have D:W.cell? ⟨b,off+(k.toNat-1)*7+1,none⟩=some (.int .i64 x.inc):=r 1 _ I;have E:(k-1).toNat=k.toNat-1:=O;have F:(0:Int)<=k-1:=O;have G:k-1<(p2:Int):=O;have y:e.getD (k.toNat-1) ⟨0,0,0,0,0,0,0⟩=x:=by simp[List.getD,u]
 have A:=ai y;clear y r u;go_enter ou,wP;go_upto_region 1 with fail;clear h;go_wp2_with(refine db I _ (.tmp 4) (.tmp 27) I (w.heap.size) 42 _ [x.inc,k] I I l.o I Z I ?_;intro v6 d f);exact dS (gT ug _ _ _ ⟨w.heap.size,0,none⟩ _ _ I I (ez [x.inc,k] _ d (λ j v g=>ax g) wj I Z)) I (m.o v6 _ _ _ d f (by unfold fq;rw[di ⟨an c.o,an c.o⟩,A.o]) (by unfold fp;rw[di ⟨an c.o,an c.o⟩]) (by have:=c.o;unfold fK;simp;omega))
theorem JT(w S A V)(n c u a2:Nat)(l at_)(q:Int)(e)(m:∀i,S i->i<w.heap.size)(s:cN w S 1 (fT w S) A n c l)(r:bl bE 1 w S V u a2 at_)(a:u=n)(aJ:n<=100000)(hlen:∀x∈l,x.length<=1000000):Calls Tryz.prog 30 #[.slice A n c,.slice V u a2,q,.agg #[e.kind,e.inc,e.aH,e.bI,e.bb,e.ord,e.val]] w (kV (iM l at_ q e) w):=by
 subst a;generalize a:w.alloc (.cells #[e.kind,e.inc,e.aH,e.bI,e.bb,e.ord,e.val] 50)=W;have k:ab w W:=a▸cx w _;have f:aC W w.heap.size 50 #[e.kind,e.inc,e.aH,e.bI,e.bb,e.ord,e.val]:=a▸cu w _ _;have c5:=f.lt;have B:W.cell? ⟨w.heap.size,0,none⟩=some (.int .i64 e.kind):=by rw[f.cell];rfl
 have C:W.cell? ⟨w.heap.size,2,none⟩=some (.int .i64 e.aH):=by rw[f.cell];rfl
 have H:W.cell? ⟨w.heap.size,4,none⟩=some (.int .i64 e.bb):=by rw[f.cell];rfl
 have t:=s.1;have z:=r.1;have v:=r.aq (cS k m);have y:=s.aq (cS k m) (wq (cS k m));have fin:∀b,iM l at_ q e=b->∀ae,ab W ae->kV (iM l at_ q e) w (.returned (.bool b)) ae:=λ b R ae d=>⟨by rw[R],aM k d⟩;have hle:u=l.length:=t;obtain⟨b0,E,a',b2,a0,c3,G,b1,D⟩:=df k f v y t z m hlen fin;clear k f v y t z m hlen fin s r hle;by_cases d:e.kind=1;case neg=>have t0:(e.kind !=1)=true:=ax d;have hp:=D.o true (by unfold iM;rw[dg d]);have t:=ai hp;clear hp d;go_enter uw,sv;go_upto_region 1 with fail;clear a;go_wp2_with fail;go_ret;exact t.o _ (aN _ _)
 have t0:(e.kind !=1)=false:=ax d;have f:iM l at_ q e=(decide (0<=e.aH)&&decide (e.aH<l.length)&&decide (e.aH≠q)&&decide (e.bb<=at_.getD e.aH.toNat 0)&&fK (l.getD e.aH.toNat []) e.bb&&decide (fq (l.getD e.aH.toNat []) e.bb=e.bI)&&decide (fp (l.getD e.aH.toNat []) e.bb=e.bb)):=by unfold iM;rw[di d]
 have F:=ai f;clear f d;by_cases h1:e.aH<0
 ·have t1:decide (e.aH<0)=true:=ax h1;have hp:=D.o false (by rw[F.o];simp;omega);have t:=ai hp;clear hp;go_enter uw,sv;go_upto_region 1 with fail;clear a;go_upto_region 3 with fail;go_quiet(fail);go_wp2_with fail;go_ret;exact t.o _ (ek _ _)
 have t1:decide (e.aH<0)=false:=ax h1;by_cases h2:(u:Int)<=e.aH
 ·have t2:decide ((u:Int)<=e.aH)=true:=ax h2;have hp:=D.o false (by rw[F.o];have:=a0.o;simp;omega);have t:=ai hp;clear hp;go_enter uw,sv;go_upto_region 1 with fail;clear a;go_upto_region 3 with fail;go_quiet(fail);go_wp2_with fail;go_ret;exact t.o _ (ek _ _)
 have t2:decide ((u:Int)<=e.aH)=false:=ax h2;by_cases aA:e.aH=q
 ·have t3:(e.aH==q)=true:=ax aA;have aB:=aA;have b4:=ai aB;clear aB aA;have hp:=D.o false (by rw[F.o];have:=b4.o;simp[this]);have t:=ai hp;clear hp;go_enter uw,sv;go_upto_region 1 with fail;clear a;go_upto_region 3 with fail;go_quiet(fail);go_wp2_with fail;go_ret;exact t.o _ (ek _ _)
 have t3:(e.aH==q)=false:=ax aA;obtain⟨dm,d⟩:∃dm:Nat,e.aH=dm:=⟨e.aH.toNat,O⟩;have a3:dm<u:=O;obtain⟨b6,b9,dK,rfl,c4,f,k⟩:=a'.o.at_ eB a3;have m:at_.getD e.aH.toNat 0=dK:=by rw[d];simp[List.getD,f]
 have z:W.cell? ⟨b6,b9+dm,none⟩=some (.int .i64 dK):=by have:=k 0 _ I;simpa using this
 have i0:(0:Int)<=e.aH:=O;have i1:e.aH<(u:Int):=O;have i2:e.aH.toNat=dm:=O;clear k f;obtain⟨Y,a_,a9⟩:=cf m d aA;clear m d aA;by_cases aS:dK<e.bb
 ·have t4:decide (dK<e.bb)=true:=ax aS;have hp:=D.o false (by rw[F.o];rw[Y.o];simp;omega);have t:=ai hp;clear hp;go_enter uw,sv;go_upto_region 1 with fail;clear a;go_upto_region 3 with fail;go_quiet(fail);go_wp2_with fail;go_ret;exact t.o _ (ek _ _)
 have t4:decide (dK<e.bb)=false:=ax aS;obtain⟨Q,a4,cs,d,rfl,b8,k,⟨P,ne,ce,rfl,y⟩,-,s⟩:=b2.o.at_ a3;have m:l.getD e.aH.toNat []=d:=by rw[a_.o];simp[List.getD,k]
 have f:∀J,ab W J->J.cell? ⟨Q,a4+dm,none⟩=some (.slice P ne ce):=λ J N=>(N.cell (p:=⟨Q,a4+dm,none⟩) (by have:=G.o _ b8;have:=b0.o.size;show Q<_;omega)).trans (by have:=s 0 _ I;simpa using this);have L:iM l at_ q e=(fK d e.bb&&decide (fq d e.bb=e.bI)&&decide (fp d e.bb=e.bb)):=by
  rw[F.o,m,Y.o];have d1:decide (0<=e.aH)=true:=aY;have d2:decide (e.aH<l.length)=true:=by have:=a0.o;simp;omega
  have d3:decide (e.aH≠q)=true:=by have:=a9.o;simp[this]
  have d4:decide (e.bb<=dK)=true:=aY;rw[d1,d2,d3,d4];simp
 have v:d.length<=1000000:=b1.o _ (eo k);have f2:∀J,ab W J->J.cell? ⟨w.heap.size,2,none⟩=some (.int .i64 e.aH):=λ J N=>by rw[(N.ay E.o E.o.lt).cell];rfl
 have f4:∀J,ab W J->J.cell? ⟨w.heap.size,4,none⟩=some (.int .i64 e.bb):=λ J N=>by rw[(N.ay E.o E.o.lt).cell];rfl
 obtain⟨c2,b3,a1,X,a6,a7,a8⟩:=dW m L y v f f2 f4;clear m L y v f f2 f4 s k;go_enter uw,sv;go_upto_region 1 with fail;clear a;go_upto_region 3 with fail;go_quiet(fail);go_upto_region 5 with fail;have T:ab W (W.drewN nq):=ek W nq;generalize a:W.drewN nq=b5 at T⊢;clear a B C H z;(try simp only[Act.put,List.setIfInBounds_toArray,List.set_cons_zero,List.set_cons_succ]);go_cut[9,10]from 41 to 52 (λ p o J=>Bf W (fq d e.bb) (fp d e.bb) (fK d e.bb) p o J);case first=>
  have f2:=a7.o;have f4:=a8.o;have f:=a6.o;refine eE 13 (λ J=>ab W J) (λ _=>True) Z (dx T) aD (λ a k=>?_);generalize m:b5.drew=u0 at a⊢;clear m;have c6:=a.size;refine aU 0 (h:=aU 1 (h:=aU 2 (h:=aU 3 (h:=aU 4 (h:=?_)))));refine aU 5 (h:=aU 6 (h:=aU 7 (h:=?_)));clear f2 f4 f;refine gO (i:=8) (j:=12) Z (ed I (λ K f=>?_)) (ed I (λ K f=>?_))
  ·go_simp;refine(EA u0 S P ne ce d e.bb (λ i z=>cM (G.o i z) a.size) (a1.o.aq (cS a (λ i z=>an (G.o i z)))) X.o).mono ?_;rintro b7 u1 ⟨rfl,B⟩;have b_:=B.size;have r:=aM a B;refine aZ f r aD ?_;clear f K a k;intro a k;clear r;refine aU 9 (h:=aU 10 (h:=?_));refine ag 11 (h:=?_);refine aV 12 λ K f=>?_;go_simp;generalize aB:u1.alloc (.cells Pr 42)=u2;have y:aC u2 u1.heap.size 42 Pr:=aB▸cu _ _ _;have v:ab u1 u2:=aB▸cx _ _;clear aB;have a5:=y.lt;have c0:=v.size;have r:=aM a v;refine aZ f r aD ?_;clear f K a k;intro a k;clear r;have H:=y;refine aV 13 λ K f=>?_;refine eD I _ _ _ I (u1.heap.size) 0 42 _ [.int .i64 (fq d e.bb),.int .i64 (fp d e.bb)] I I H aT Z I ?_;intro U C M;rw[eX [.int .i64 (fq d e.bb),.int .i64 (fp d e.bb)] Pr I]at C;have c1:=a.size;have m:Bf W (fq d e.bb) (fp d e.bb) (fK d e.bb) (.pointer (some ⟨u1.heap.size,0,none⟩)) (.bool (fK d e.bb)) U:=⟨_,I,I,C,zv a M O⟩;refine dE f aD ?_;clear f K a k;intro k;have a:True:=aD;have s:=ai m;clear m C M H y a k B v;have a:True:=aD;have k:True:=aD;refine aV 14 λ K f=>?_;go_simp;refine dE f aD ?_;clear f K a k;intro k;have a:True:=aD;refine cg Z ?_;go_wp2_with fail;go_meet;exact s.o
  go_simp;generalize aB:u0.alloc (.cells Pr 42)=u1;have y:aC u1 u0.heap.size 42 Pr:=aB▸cu _ _ _;have B:ab u0 u1:=aB▸cx _ _;clear aB;have a5:=y.lt;have b_:=B.size;have r:=aM a B;refine aZ f r aD ?_;clear f K a k;intro a k;clear r;refine aV 8 λ K f=>?_;go_simp;refine(EA u1 S P ne ce d e.bb (λ i z=>cM (G.o i z) a.size) (a1.o.aq (cS a (λ i z=>an (G.o i z)))) X.o).mono ?_;rintro b7 u2 ⟨rfl,v⟩;have c0:=v.size;have r:=aM a v;refine aZ f r aD ?_;clear f K a k;intro a k;clear r;refine aU 9 (h:=aU 10 (h:=?_));refine ag 11 (h:=?_);have H:=v.ay y a5;refine aV 13 λ K f=>?_;refine eD I _ _ _ I (u0.heap.size) 0 42 _ [.int .i64 (fq d e.bb),.int .i64 (fp d e.bb)] I I H aT Z I ?_;intro U C M;rw[eX [.int .i64 (fq d e.bb),.int .i64 (fp d e.bb)] Pr I]at C;have c1:=a.size;have m:Bf W (fq d e.bb) (fp d e.bb) (fK d e.bb) (.pointer (some ⟨u0.heap.size,0,none⟩)) (.bool (fK d e.bb)) U:=⟨_,I,I,C,zv a M O⟩;refine dE f aD ?_;clear f K a k;intro k;have a:True:=aD;have s:=ai m;clear m C M H y a k B v;have a:True:=aD;have k:True:=aD;refine aV 14 λ K f=>?_;go_simp;refine dE f aD ?_;clear f K a k;intro k;have a:True:=aD;refine cg Z ?_;go_wp2_with fail;go_meet;exact s.o
 obtain⟨g,rfl,rfl,M,B⟩:=hcut;have H:=B.ay E.o E.o.lt;have L:=b3.o;have C:∀b,(fK d e.bb&&decide (fq d e.bb=e.bI)&&decide (fp d e.bb=e.bb))=b->kV (iM l at_ q e) w (.returned (.bool b)) wc:=λ b R=>D.o b (L.trans R) wc B;generalize fq d e.bb=r at*;generalize fp d e.bb=v at*;generalize fK d e.bb=R at*;obtain⟨z,y,f⟩:=cf M H C;clear M H C L B T;cases R with
 |false=>have m:=f.o false aT;have s:=ai m;clear m;go_wp2_with fail;go_ret;exact s.o
 |true=>
  by_cases q1:r=e.bI;case neg=>have m:=f.o false (by simp[q1]);have s:=ai m;clear m;go_wp2_with(first|(refine mZ ba _ (.tmp 9) I g 42 [r,v] _ I z.o wj I Z ?_)|(refine kZ ba _ (.tmp 56) I w.heap.size 3 50 _ [e.bI,e.bb] _ I y.o (nn e.kind e.inc e.aH e.bI e.bb e.ord e.val) wj I Z ?_));go_ret;exact s.o
  by_cases q2:v=e.bb;case neg=>have m:=f.o false (by simp[q2]);have s:=ai m;clear m;go_wp2_with(first|(refine mZ ba _ (.tmp 9) I g 42 [r,v] _ I z.o wj I Z ?_)|(refine kZ ba _ (.tmp 56) I w.heap.size 3 50 _ [e.bI,e.bb] _ I y.o (nn e.kind e.inc e.aH e.bI e.bb e.ord e.val) wj I Z ?_));go_ret;exact s.o
  have m:=f.o true (by simp[q1,q2]);have s:=ai m;clear m;go_wp2_with(first|(refine mZ ba _ (.tmp 9) I g 42 [r,v] _ I z.o wj I Z ?_)|(refine kZ ba _ (.tmp 56) I w.heap.size 3 50 _ [e.bI,e.bb] _ I y.o (nn e.kind e.inc e.aH e.bI e.bb e.ord e.val) wj I Z ?_));go_ret;exact s.o
section
variable {P:Program} {ops:Array Oper} {rest:List Oper} {op:Oper} {a:Act} {w:World} {Q:Exit->Act->World->Prop}
theorem JL(hw:Region.wanted op (yielded ops a.tmps)=true)(ty:TypeId)(x:Operand)(f:op.op=.load ty x)
  (g o:Nat)(vs:List Value)(d:TypeDesc)(i:a.eval x=.pointer (some ⟨g,o,none⟩))(av:w.rangeAt g o vs)
  (hu:P.underlying ty=some d)(c:d.isRow=true)(e:(P.info? ty).map (·.size)=some vs.length)
  (h:wpList P ops Q rest (a.put op.dst (.agg vs.toArray)) w):wpList P ops Q (op::rest) a w:=
 rN λ K b=>by
  rw[di hw]
  exact tt ty x f g o i vs d av hu c e (b _ _ h)
end
structure mq where
 aH:Nat
 idx:Nat
 bW:Nat
 at_:Nat
def mz(ls:List Nat)(q:Nat):List Nat:=ls.set q (ls.getD q 0+1)
theorem vw(ls q):(mz ls q).length=ls.length:=by simp[mz]
theorem vt{ls q}(h:q<ls.length):(mz ls q).getD q 0=ls.getD q 0+1:=by simp[mz,List.getD,h]
theorem vD{ls q p}(h:q≠p):(mz ls q).getD p 0=ls.getD p 0:=by simp[mz,List.getD,List.getElem?_set,h]
structure EJ (ls:List Nat) (ir:List mq) (eZ:Nat->Nat->Nat) (T:Nat):Prop where
 mono:∀q k,k+1<ls.getD q 0->eZ q k<eZ q (k+1)
 top:∀q k,k<ls.getD q 0->eZ q k<T
 NM:∀a∈ir,a.aH<ls.length/\a.bW<ls.length/\a.aH≠a.bW/\a.idx<=ls.getD a.aH 0/\a.at_<=ls.getD a.bW 0/\(1<=a.at_->1<=a.idx->eZ a.aH (a.idx-1)<eZ a.bW (a.at_-1))
def kn(ls:List Nat)(ir:List mq):Prop:=∃eZ T,EJ ls ir eZ T
theorem kn.init(n):kn (List.replicate n 0) []:=by
 have h:∀q,(List.replicate n 0).getD q 0=0:=by intro q;simp only[List.getD,List.getElem?_replicate];split<;>rfl
 exact⟨λ _ _=>0,0,λ q k a=>by rw[h]at a;omega,λ q k a=>by rw[h]at a;omega,aT⟩
theorem kn.tick{ls ir q}(h:kn ls ir)(aB:q<ls.length):∃eZ T,EJ (mz ls q) ir eZ T/\eZ q (ls.getD q 0)+1=T/\∀p k,p≠q->k<ls.getD p 0->eZ p k+1<T:=by
 obtain⟨eZ,T,h1,h2,aA⟩:=h;have key:∀p k,k<(mz ls q).getD p 0->(p=q/\k=ls.getD q 0)\/(k<ls.getD p 0/\¬(p=q/\k=ls.getD q 0)):=by
  intro p k b;by_cases f:q=p
  ·subst f;rw[vt aB]at b;omega
  rw[vD f]at b;exact .inr ⟨b,λ e=>f e.1.symm⟩
 refine⟨λ p k=>if p=q/\k=ls.getD q 0 then T else eZ p k,T+1,⟨λ p k b=>?_,λ p k b=>?_,λ a o=>?_⟩,aT,λ p k hp b=>?_⟩
 ·rcases key p (k+1) b with ⟨c,d⟩|⟨c,d⟩
  ·have aJ:¬(p=q/\k=ls.getD q 0):=O;simp only[if_pos (And.intro c d),if_neg aJ];exact h2 p k (by rw[c];omega)
  have aJ:¬(p=q/\k=ls.getD q 0):=λ e=>by have:=e.1;subst this;omega
  simp only[if_neg d,if_neg aJ];exact h1 p k c
 ·rcases key p k b with ⟨c,d⟩|⟨c,d⟩
  ·simp only[if_pos (And.intro c d)];omega
  simp only[if_neg d];have:=h2 p k c;omega
 ·obtain⟨g,i,j,t,u,l⟩:=aA a o;have u1:ls.getD a.aH 0<=(mz ls q).getD a.aH 0:=by
   by_cases e:q=a.aH
   ·rw[e,vt O];omega
   rw[vD e];omega
  have u2:ls.getD a.bW 0<=(mz ls q).getD a.bW 0:=by
   by_cases e:q=a.bW
   ·rw[e,vt O];omega
   rw[vD e];omega
  refine⟨by rw[vw];exact g,by rw[vw];exact i,j,O,O,λ m n=>?_⟩;have r:¬(a.aH=q/\a.idx-1=ls.getD q 0):=λ e=>by have:=e.1;subst this;omega
  have s:¬(a.bW=q/\a.at_-1=ls.getD q 0):=λ e=>by have:=e.1;subst this;omega
  simp only[if_neg r,if_neg s];exact l m n
 have aJ:¬(p=q/\k=ls.getD q 0):=λ e=>hp e.1;simp only[if_neg aJ];have:=h2 p k b;omega
structure Ch (ls:List Nat) (ir:List mq) (m:Nat) (inc:Nat->Nat->Int) (l:List (List bz)):Prop where
 len:l.length=ls.length
 lens:∀q,q<ls.length->(l.getD q []).length=ls.getD q 0
 af:∀(q k:Nat) (e:bz),(l.getD q [])[k]?=some e->e.inc=inc q k/\(e.kind=2\/(e.kind=1/\∃a:mq,a∈ir.take m/\a.bW=q/\a.at_=k+1/\e.aH=(a.aH:Int)/\e.bb=(a.idx:Int)/\e.bI=if a.idx=0 then 0 else inc a.aH (a.idx-1)))
structure og (ls:List Nat) (l:List (List bz)) (eZ:Nat->Nat->Nat):Prop where
 len:l.length=ls.length
 lens:∀q,q<ls.length->(l.getD q []).length=ls.getD q 0
 mono:∀q k,k+1<ls.getD q 0->eZ q k<eZ q (k+1)
 af:∀(q k:Nat) (e:bz),(l.getD q [])[k]?=some e->e.kind=1->0<=e.aH/\e.aH<(l.length:Int)/\e.aH≠(q:Int)/\0<=e.bb/\e.bb<=(ls.getD e.aH.toNat 0:Nat)/\jl (l.getD e.aH.toNat []) e.bI e.bb=true/\(1<=e.bb->eZ e.aH.toNat (e.bb.toNat-1)<eZ q k)
inductive jX (l:List (List bz)):List Int->List dD->List Int->Prop
 |nil {at_:List Int}:jX l at_ [] at_
 |cons {at_ bW:List Int} {w:List dD} {q:Nat} (aB:q<l.length) (h0:0<=at_.getD q 0) (dN:at_.getD q 0<(l.getD q []).length) (hp:iM l at_ q (kq l at_ q)=true) (h:jX l (gj at_ q) w bW):jX l at_ (gW q (kq l at_ q)::w) bW
def Shut(l:List (List bz))(at_ bW:List Int):Prop:=∀(q k:Nat) (e:bz),q<l.length->at_.getD q 0<=k->(k:Int)<bW.getD q 0->(l.getD q [])[k]?=some e->e.kind=1->e.bb<=bW.getD e.aH.toNat 0
theorem Shut.inc{l at_ bW q}(h:Shut l at_ bW)(aB:q<at_.length):Shut l (gj at_ q) bW:=λ p k e hp h1 h2 he b=>by
 refine h p k e hp ?_ h2 he b
 by_cases a:q=p
 ·subst a
  unfold gj at h1
  rw[nE aB]at h1
  omega
 ·unfold gj at h1
  rw[oF a]at h1
  exact h1
theorem Kr{l bW at_ out r}(h:kF l bW at_ out r):kD l at_ bW->∀w,r=some w->w.length<=out.length+ke at_ bW:=by
 induction h with
 |done h=>intro _ w hw;injection hw with hw;rw[hw];omega
 |stuck _ _=>intro _ w hw;cases hw
 |@step at_ out r q h aB au b=>intro a w hw;have av:=aB.2.1;simp only[lD,Bool.and_eq_true,decide_eq_true_eq]at av;have h1:=b (a.inc aB.1 av.1) w hw;have h2:=su at_ bW q (by rw[a.1];exact aB.1) (by rw[a.2.1];exact aB.1) av.1;simp only[List.length_append,List.length_cons,List.length_nil]at h1;omega
theorem FG{l dm bW w K}(h:ow l dm bW (some w))(c:∀x∈l,x.length<=K):w.length<=l.length*K:=by
 rcases h with ⟨a,au⟩|⟨-,h⟩
 ·have h1:=Kr au a w I
  have h2:=AT (K:=K) dm bW (λ q aB=>by
   have b:q<l.length:=by rw[<-a.1];exact aB
   have aA:=a.2.2 q b
   have d:(l.getD q []).length<=K:=by
    simp only[List.getD,List.getElem?_eq_getElem b,Option.getD_some]
    exact c _ (wM b)
   omega)
  rw[a.1]at h2;simp only[List.length_nil]at h1;omega
 cases h
def uJ(b:Bool)(out:List dD):Option (List dD):=if b=true then some out else none
theorem Gc{l dm bW w ae e}(h:qt l dm bW w e ae):∃(b:Bool) (out:List dD) (A:Option Addr) (n c:Nat),e=.returned (.tuple #[.slice A n c,.bool b])/\ow l dm bW (uJ b out)/\(b=false->out=[])/\ab w ae/\bl gV 6 ae (λ i=>w.heap.size<=i/\i<ae.heap.size) A n c out:=by
 obtain⟨r,d,a,f⟩:=h;rcases f with ⟨rfl,rfl⟩|⟨out,A,n,c,rfl,rfl,au⟩
 ·exact⟨false,[],none,0,0,I,d,λ _=>I,a,iq⟩
 exact⟨true,out,A,n,c,I,d,nofun,a,au⟩
theorem yJ(l q):(fD l).getD q 0=((l.getD q []).length:Int):=by unfold fD;simp only[List.getD,List.getElem?_map];cases l[q]?<;>rfl
theorem yb(rs:List Int)(k:Nat)(x:Int):((rs.set k x).flatMap bE).toArray=(rs.flatMap bE).toArray.setIfInBounds k (.int .i64 x):=by
 have h:∀l:List Int,l.flatMap bE=l.map (λ x=>(.int .i64 x:Value)):=λ l=>by induction l<;>simp_all [bE]
 rw[h,h,List.map_set,List.setIfInBounds_toArray]
theorem tN{rs:List Int}{k:Nat}(h:k<rs.length):(rs.flatMap bE).toArray[k]?=some (.int .i64 (rs.getD k 0)):=by rw[fg];have:=flat_get eB rs k 0 h O;simpa [bE,List.getD,List.getElem?_eq_getElem h]using this
def lB(l:List (List bz))(bC:List Int)(q:Nat)(e:bz):Bool:=!iM l bC q e
structure rO (w:World) (S:Nat->Prop) (iX iU jR:Nat) (A:Option Addr) (n c:Nat) (Y:Option Addr) (lI:Nat) (l:List (List bz)) (bC:List Int) (q:Nat):Prop where
 xe:aC w iX 27 #[.slice A n c]
 oT:aC w iU 23 #[.slice Y n lI]
 xm:aC w jR 3 #[q]
 fQ:cN w S 1 (fT w S) A n c l
 cut:bl bE 1 w S Y n lI bC
 low:∀i,S i->i<w.heap.size
theorem rO.aq{w ae S iX iU jR A n c Y lI l bC q}(h:rO w S iX iU jR A n c Y lI l bC q)(a:ab w ae):rO ae S iX iU jR A n c Y lI l bC q:=⟨a.ay h.xe h.xe.lt,a.ay h.oT h.oT.lt,a.ay h.xm h.xm.lt,h.fQ.aq (a.mono h.low) (wq (a.mono h.low)),h.cut.aq (a.mono h.low),λ i b=>cQ (h.low i b) a.size⟩
theorem MH(w S iX iU jR A n c Y lI l bC q e)(h:rO w S iX iU jR A n c Y lI l bC q)(aJ:n<=1000)(hlen:∀x∈l,x.length<=100000):Calls Tryz.prog 29 #[.agg #[e.kind,e.inc,e.aH,e.bI,e.bb,e.ord,e.val],.pointer (some ⟨iX,0,none⟩),.pointer (some ⟨iU,0,none⟩),.pointer (some ⟨jR,0,none⟩)] w (kV (lB l bC q e) w):=by
 generalize d:w.alloc (.cells #[e.kind,e.inc,e.aH,e.bI,e.bb,e.ord,e.val] 50)=W;have f:ab w W:=d▸cx w _;have g:aC W w.heap.size 50 #[e.kind,e.inc,e.aH,e.bI,e.bb,e.ord,e.val]:=d▸cu w _ _;have a:=h.aq f;have p:W.cell? ⟨iX,0,none⟩=some (.slice A n c):=by rw[a.xe.cell];rfl
 have r:W.cell? ⟨iU,0,none⟩=some (.slice Y n lI):=by rw[a.oT.cell];rfl
 have s:W.cell? ⟨jR,0,none⟩=some (.int .i64 q):=by rw[a.xm.cell];rfl
 obtain⟨j,i,b,k⟩:=cH f g a hlen;clear f g a hlen h;go_enter func29,ntmps29;go_upto_region 1 with fail;clear d;go_wp2_with(refine ew I _ (.tmp 4) I w.heap.size 50 [e.kind,e.inc,e.aH,e.bI,e.bb,e.ord,e.val] _ I i.o mB I Z ?_);refine(JT W S _ _ n c n lI l bC q e b.o.low b.o.fQ b.o.cut I O (λ x a=>an (k.o x a))).mono ?_;rintro g m ⟨rfl,d⟩;have a:=aM j.o d;have f:=ai a;clear a d;go_wp2_with fail;go_ret;exact⟨I,f.o⟩
def jP(p:bz->Bool):Nat->List bz->Int
 |_,[]=>-1
 |k,e::l=>if p e then k else jP p (k+1) l
theorem JC{p:bz->Bool}{l:List bz}{k:Nat}{x}(h:l[k]?=some x):jP p k (l.drop k)=if p x then(k:Int)else jP p (k+1) (l.drop (k+1)):=by obtain⟨a,e⟩:=dV.1 h;rw[pR a,e];rfl
def CZ(W:World)(a:List bz)(p:bz->Bool)(i:Value)(wr:World):Prop:=∃k:Nat,i=.int .i64 k/\k<=a.length/\jP p 0 a=jP p k (a.drop k)/\ab W wr
theorem Gk(w S iX iU jR A n c Y lI l bC q)(h:rO w S iX iU jR A n c Y lI l bC q)(aJ:n<=1000)(hlen:∀x∈l,x.length<=100000)(E m D a)(au:bl dG 7 w S E m D a)(hm:m<=100000):Calls Tryz.prog 28 #[.slice E m D,.func (.func 29) #[] #[.pointer (some ⟨iX,0,none⟩),.pointer (some ⟨iU,0,none⟩),.pointer (some ⟨jR,0,none⟩)]] w (ng (jP (lB l bC q) 0 a) w):=by
 have d:=au.1;obtain⟨H,Q,P,z⟩:=cH h au hlen d;clear h au hlen d;go_enter func28,ntmps28;go_wp2_with fail;go_loopw[8] (λ i wr=>CZ w a (lB l bC q) i wr) (λ i _=>m- (intOf i).toNat);case atStart=>exact⟨0,I,ef _,aT,aN _ _⟩
 obtain⟨k,rfl,T,f,g⟩:=hrel;by_cases y:k<m
 ·obtain⟨be,M,af,rfl,-,t,s⟩:=(Q.o.aq (g.mono H.o.low)).at_ jy y;have t0:decide (k<m)=true:=ax y;have R:decide ((k:Int)<(m:Int))=true:=aY;have i0:(0:Int)<=k:=O;have i1:(k:Int)<m:=O;have B:=cE (wr.rangeAt be (M+k*7) [af.kind,af.inc,af.aH,af.bI,af.bb,af.ord,af.val]) (λ j u hu=>s j u hu);have v:=JC (p:=lB l bC q) t;obtain⟨d,C,r⟩:=cf g v f;clear g v f s t;go_wp2_with(refine JL I _ (.tmp 14) I be (M+k*7) [af.kind,af.inc,af.aH,af.bI,af.bb,af.ord,af.val] _ I B.o mB I Z ?_);have G:=H.o.aq d.o;refine(MH wr S iX iU jR A n c Y lI l bC q af G aJ P.o).mono ?_;rintro e N ⟨rfl,K⟩;have L:=aM d.o K;obtain⟨b,F⟩:∃b,lB l bC q af=b:=⟨_,I⟩;have v:=C.o;rw[F]at v⊢;obtain⟨s,t⟩:=ck L v;clear L v K G d C B F;cases b with
  |true=>have d:ng (jP (lB l bC q) 0 a) w (.returned (.int .i64 k)) N:=⟨by rw[r.o,t.o];rfl,s.o⟩;have v:=ai d;clear d t r s;go_wp2_with fail;go_ret;exact v.o
  |false=>
   have B:jP (lB l bC q) 0 a=jP (lB l bC q) (k+1) (a.drop (k+1)):=(by rw[r.o,t.o];rfl);have C:CZ w a (lB l bC q) (.int .i64 ((k:Int)+1)) N:=⟨k+1,cz,an z.o,B,s.o⟩;have F:=ai C;clear C t r s B;go_wp2_with fail;go_roundw;case rel=>exact F.o
   case measure=>exact bS
 have t0:decide (k<m)=false:=ax y;have R:decide ((k:Int)<(m:Int))=false:=aY;have r:a.drop k=[]:=sU (an z.o);rw[r]at f;have d:ng (jP (lB l bC q) 0 a) w (.returned (.int .i64 (-1))) wr:=⟨by rw[f];rfl,g⟩;have v:=ai d;clear d f r g;go_wp2_with fail;go_ret;exact v.o
def kg:Nat->(Nat->Nat)->Nat
 |0,_=>0
 |n+1,f=>kg n f+f n
theorem Dx{f g}:∀(n:Nat),(∀i,i<n->g i=f i)->kg n g=kg n f
 |0,_=>rfl
 |n+1,h=>by
  simp only[kg]
  rw[Dx n (λ i a=>h i O),h n O]
theorem wJ{f g q d}(b:g q=f q+d):∀(n:Nat),q<n->(∀i,i<n->i≠q->g i=f i)->kg n g=kg n f+d
 |0,h,_=>O
 |n+1,h,a=>by
  simp only[kg]
  by_cases e:q=n
  ·subst e
   rw[Dx q (λ i c=>a i O O),b]
   omega
  ·rw[wJ b n O (λ i c aJ=>a i O aJ),a n O (λ h=>e h.symm)]
   omega
instance:DecidableEq dD:=λ a b=>decidable_of_iff (a.proc=b.proc/\a.kind=b.kind/\a.aH=b.aH/\a.idx=b.idx/\a.ord=b.ord/\a.val=b.val) (by
 cases a;cases b;simp)
def fU(l:List (List bz))(at_:List Int):Nat:=kg l.length (λ q=>(at_.getD q 0).toNat)
def iB(l:List (List bz))(bC:List Int):Prop:=bC.length=l.length/\∀q,q<l.length->0<=bC.getD q 0/\bC.getD q 0<=((l.getD q []).length:Int)
def sV(l:List (List bz))(bC:List Int)(k:Nat):Prop:=∀(q j:Nat) (e:bz),q<k->(j:Int)<bC.getD q 0->(l.getD q [])[j]?=some e->iM l bC q e=true
def Eo(l:List (List bz))(n:Nat)(w:World)(e:Ending)(ae:World):Prop:=∃(g:Nat) (bC:List Int),e=.returned (.slice (some ⟨g,0,none⟩) n n)/\iB l bC/\sV l bC l.length/\aC ae g 3 (bC.flatMap bE).toArray/\w.heap.size<=g/\n=bC.length/\ab w ae
theorem Fb{p}:∀{k:Nat} {l:List bz},jP p k l<0->∀(j:Nat) (e:bz),l[j]?=some e->p e=false
 |k,[],_,j,e,h=>by simp at h
 |k,x::l,h,j,e,he=>by
  unfold jP at h
  cases a:p x with
  |true=>rw[a]at h;simp at h;omega
  |false=>
   rw[a]at h
   cases j with
   |zero=>simp at he;rw[<-he];exact a
   |succ j=>exact Fb (k:=k+1) (ax h) j e (ax he)
theorem Cl{p}:∀{k:Nat} {l:List bz},0<=jP p k l->(k:Int)<=jP p k l/\jP p k l<k+l.length
 |k,[],h=>by simp[jP]at h
 |k,x::l,h=>by
  unfold jP at h⊢
  cases a:p x with
  |true=>simp;omega
  |false=>
   rw[a]at h
   have:=Cl (k:=k+1) (l:=l) (ax h)
   simp only[Bool.false_eq_true,if_false,List.length_cons]
   omega
theorem iB.set{l bC q v}(h:iB l bC)(aB:q<l.length)(h0:0<=v)(h1:v<=bC.getD q 0):iB l (bC.set q v):=by
 refine⟨by simp[h.1],λ p hp=>?_⟩;have h2:=h.2 p hp;by_cases e:q=p
 ·subst e;rw[nE (by rw[h.1];exact aB)];omega
 rw[oF e];exact h2
theorem EN{l bC q v}(h:iB l bC)(aB:q<l.length)(h0:0<=v)(h1:v<bC.getD q 0):fU l (bC.set q v)<fU l bC:=by
 have au:(bC.set q v).getD q 0=v:=nE (by rw[h.1];exact aB)
 have:=wJ (f:=λ p=>((bC.set q v).getD p 0).toNat) (g:=λ p=>(bC.getD p 0).toNat) (q:=q) (d:=(bC.getD q 0).toNat-v.toNat) (by
  show(bC.getD q 0).toNat=((bC.set q v).getD q 0).toNat+_
  rw[au];omega) l.length aB (λ i b a=>by
  show(bC.getD i 0).toNat=((bC.set q v).getD i 0).toNat
  rw[oF (λ h=>a h.symm)])
 unfold fU;omega
def zy(l:List (List bz))(a n:Nat)(W:World)(i:Value)(wr:World):Prop:=∃(k:Nat) (bC:List Int),i=.int .i64 k/\k<=n/\bC.length=l.length/\(∀q,q<k->0<=bC.getD q 0/\bC.getD q 0<=((l.getD q []).length:Int))/\aC wr a 3 (bC.flatMap bE).toArray/\cX a W wr
def CQ(l:List (List bz))(a:Nat)(W:World)(gk:Nat)(v:Value)(wr:World):Prop:=∃bC:List Int,gk=fU l bC/\iB l bC/\aC wr a 3 (bC.flatMap bE).toArray/\cX a W wr
def zM(l:List (List bz))(a n:Nat)(W:World)(bC:List Int)(gk:Nat)(i:Value)(wr:World):Prop:=∃q:Nat,i=.int .i64 q/\gk+q=n/\sV l bC q/\aC wr a 3 (bC.flatMap bE).toArray/\cX a W wr
theorem uS{w g n t bC S}(c:aC w g t (bC.flatMap bE).toArray)(b:S g)(a:bC.length=n)(aJ:n<=1000):bl bE 1 w S (some ⟨g,0,none⟩) n n bC:=by refine⟨a.symm,dq _,dQ,by rw[lg eB,a],λ _=>⟨g,0,I,b,λ j u hu=>?_⟩⟩;rw[gb,c.cell];simpa using hu
theorem zI(w S A a_ n c b4 l xs)(m:∀i,S i->i<w.heap.size)(a:cN w S 1 (fT w S) A n c l)(t:bl bE 1 w S a_ n b4 xs)(aJ:n<=1000)(hlen:∀x∈l,x.length<=100000):Calls Tryz.prog 18 #[.slice A n c,.slice a_ n b4] w (Eo l n w):=by
 obtain⟨g1,D,E,C,y⟩:=eO pg;have g:=λ W=>xu (P:=Tryz.prog) 23 3 g1 _ eK D E .i64 .i64 n n (Nat.le_refl _) (by rw[y];omega) O W;simp only[C,Ig]at g;have u:=a.1;have z:=t.1;have h_:=a.2.1;have i7:=t.2.1;generalize b:w.alloc (.cells #[.slice A n c] 27)=W;have r:ab w W:=b▸cx w _;have f:aC W w.heap.size 27 #[.slice A n c]:=b▸cu w _ _;have b_:W.cell? ⟨w.heap.size,0,none⟩=some (.slice A n c):=by rw[f.cell];rfl
 obtain⟨F,Q,U,c1,B,c2,N,s,R⟩:=df m a t hlen u z r f g;clear m a t hlen u z r f g D E C y;go_enter func18,ntmps18;go_upto_region 1 with fail;clear b;go_step3;have a8:=R.o;go_upto_region 2 with(refine db rfl _ (.tmp 5) (.tmp 12) rfl (W.alloc (.cells (nc n) 3)).heap.size 23 _ [.slice (some ⟨W.heap.size,0,none⟩) n n] rfl rfl (aC.new _ _ _) rfl Z rfl ?_;intro f g6 i_);have H:ab W (W.alloc (.cells (nc n) 3)):=cx _ _;have G:aC (W.alloc (.cells (nc n) 3)) W.heap.size _ _:=cu W _ _;have a3:(W.alloc (.cells (nc n) 3)).heap.size=W.heap.size+1:=by simp only[World.alloc,Array.size_push]
 generalize W.alloc (.cells (nc n) 3)=L at*;have E:ab L (L.alloc (.cells #[.slice (some ⟨W.heap.size,0,none⟩) n n] 23)):=cx _ _;have g:aC (L.alloc (.cells #[.slice (some ⟨W.heap.size,0,none⟩) n n] 23)) L.heap.size _ _:=cu L _ _;generalize L.alloc (.cells #[.slice (some ⟨W.heap.size,0,none⟩) n n] 23)=f at*;rw[a3]at g;have a6:=G.lt;have cA:=g.lt;have C:=E.ay G a6;have M:ab w f:=aM N.o (aM H E);have y:=(aM H E).ay s.o s.o.lt;have a7:=s.o.lt;obtain⟨a,X⟩:=aW W.heap.size;obtain⟨iU,Y⟩:=aW (W.heap.size+1);obtain⟨iX,r⟩:=aW w.heap.size;rw[<-Y]at g⊢;rw[<-X]at g C⊢;rw[<-r]at y⊢;have g8:iU≠a:=O;have g7:iX≠a:=O;have h7:w.heap.size<=iX:=O;have h6:w.heap.size<=a:=O;have h5:w.heap.size<=iU:=O;have j0:=M.size;have m:∀J,cX a f J->ab w J:=λ J b=>bR M b (λ i u=>O);have a1:∀J,cX a f J->cN J S 1 (fT J S) A n c l:=λ J b=>Q.o.aq ((m J b).mono F.o) (wq ((m J b).mono F.o));have a4:∀J,cX a f J->bl bE 1 J S a_ n b4 xs:=λ J b=>U.o.aq ((m J b).mono F.o);have a0:∀J,cX a f J->aC J iX 27 #[.slice A n c]:=λ J b=>b.ay y ⟨O,O⟩;have a5:∀J,cX a f J->aC J iU 23 #[.slice (some ⟨a,0,none⟩) n n]:=λ J b=>b.ay g ⟨O,O⟩;have a2:zy l a n f (.int .i64 0) f:=⟨0,nu n,I,Nat.zero_le _,by rw[<-B.o];simp[nu],λ q aB=>absurd aB O,by rw[CS];exact C,aN _ _⟩;have a9:f.cell? ⟨iX,0,none⟩=some (.slice A n c):=by rw[y.cell];rfl
 have cL:min (n:Int) (n:Int)=(n:Int):=O;have j5:min n n=n:=Nat.min_self n;have i':a<f.heap.size:=C.lt;obtain⟨e3,b0,e5,T,V,b⟩:=er m a1 a4 a0 a5 a2;clear m a1 a4 a0 a5 a2 M y g C E H G X Y r a3 s N R Q U a8 a6 cA b_ a7;go_wp2_with fail;go_loopw[18] (λ i wr=>zy l a n f i wr) (λ i _=>n- (intOf i).toNat);case atStart=>exact b.o
 clear b a9;obtain⟨k,bC,rfl,h',Y,a1,m,b⟩:=hrel;have d9:=b.size;by_cases a6:k<n
 ·obtain⟨G,N,cs,y,rfl,c8,H,⟨Q,ne,ce,rfl,s⟩,-,X⟩:=(b0.o wr b).at_ a6;obtain⟨b3,d',a0,rfl,e8,a2,C⟩:=(e5.o wr b).at_ eB a6;have a3:decide (k<n)=true:=ax a6;have a4:decide ((k:Int)<(n:Int))=true:=aY;have i0:(0:Int)<=k:=O;have i1:(k:Int)<n:=O;have e9:G<wr.heap.size:=by have:=F.o _ c8;omega
  have e_:b3<wr.heap.size:=by have:=F.o _ e8;omega
  have a5:∀J,ab wr J->J.cell? ⟨G,N+k,none⟩=some (.slice Q ne ce):=λ J t=>(t.cell (p:=⟨G,N+k,none⟩) e9).trans (by have:=X 0 _ I;simpa using this);have y1:∀J,ab wr J->J.cell? ⟨b3,d'+k,none⟩=some (.int .i64 a0):=λ J t=>(t.cell (p:=⟨b3,d'+k,none⟩) e_).trans (by have:=C 0 _ I;simpa using this);have e0:∀J,ab wr J->J.cell? ⟨iX,0,none⟩=some (.slice (some ⟨G,N,none⟩) n c):=λ J t=>by rw[(t.ay (T.o wr b) (T.o wr b).lt).cell];rfl
  have a7:∀J,ab wr J->J.cell? ⟨iU,0,none⟩=some (.slice (some ⟨a,0,none⟩) n n):=λ J t=>by rw[(t.ay (V.o wr b) (V.o wr b).lt).cell];rfl
  have b7:ne=y.length:=s.1;have r:(l.getD k []).length=ne:=by rw[iQ H,b7]
  have h9:k<l.length:=an B.o;obtain⟨v,g⟩:=aW ((if (ne:Int)<(if a0<0 then 0 else a0)then(ne:Int)else if a0<0 then 0 else a0));have R:0<=v/\v<=ne:=by rw[g];split<;>split<;>omega
  have z:∀E,aC E a 3 ((bC.set k v).flatMap bE).toArray->cX a f E->zy l a n f (.int .i64 ((k:Int)+1)) E:=λ E M U=>⟨k+1,bC.set k v,cz,O,by simp[Y],λ q aB=>by
   by_cases e:k=q
   ·subst e
    rw[nE O,r]
    exact R
   ·rw[oF e]
    exact a1 q O,M,U⟩
  have f_:=m.lt;obtain⟨b1,U,c2,e4,e6⟩:=dC b m z g Y;clear b m z g Y X C s H a2 a1 R b7 r;go_upto_region 5 with fail;refine eE 14 (λ J=>ab wr J) (λ J=>cX a wr J) Z (dx (aN _ _)) (dx (aN _ _)) (λ g r=>?_);generalize z:wr.drew=u0 at g r⊢;clear z;refine aU 0 (h:=aU 1 (h:=aU 2 (h:=aU 3 (h:=aU 4 (h:=aU 5 (h:=aU 6 (h:=aU 7 (h:=aU 8 (h:=aU 9 (h:=aU 10 (h:=aU 11 (h:=aU 12 (h:=aU 13 (h:=?_))))))))))))));rw[<-e4.o];have m:=g.ay U.o f_;have g0:(bC.flatMap bE).toArray.size=l.length:=by simp[lg eB];exact e6.o
  refine aV 14 λ K C=>?_;refine ej I _ _ _ I a k 3 _ (.int .i64 v) I I m O Z I I ?_;intro E M a9;have z:cX a wr E:=bR r a9 (λ i u=>u.2);refine dE C z ?_;clear C K g r;intro r;have g:True:=aD;refine cg Z ?_;have C:=c2.o E (by rw[yb];exact M) (dM b1.o z);have R:=ai C;clear C g r z M a9 m a5 y1 e0 a7;go_wp2_with fail;go_roundw;case rel=>exact R.o
  case measure=>exact bS
 have a3:decide (k<n)=false:=ax a6;have a4:decide ((k:Int)<(n:Int))=false:=aY;have r:iB l bC:=⟨Y,λ q aB=>a1 q (an B.o)⟩;obtain⟨b9,rfl⟩:=aW (wr:World);have z:CQ l a f (fU l bC) (.int .i64 0) b9:=⟨bC,I,r,m,b⟩;have a':b9.cell? ⟨iX,0,none⟩=some (.slice A n c):=by rw[(T.o b9 b).cell];rfl
 have g:=ai z;clear z a1 m b Y r a3 a4 a';go_wp2_with fail;go_step3;go_wp2_with fail;go_loopg[9] (fU l bC) (λ gk v wr=>CQ l a f gk v wr);case atStart=>exact g.o
 clear g;obtain⟨g,rfl,r,m,b⟩:=hrel;have d9:=b.size;have a':wr.cell? ⟨iX,0,none⟩=some (.slice A n c):=by rw[(T.o wr b).cell];rfl
 obtain⟨g4,rfl⟩:=aW (wr:World);have a1:zM l a n f g n (.int .i64 0) g4:=⟨0,I,I,λ q j e aB=>absurd aB O,m,b⟩;obtain⟨Y,z⟩:=ck a1 r;clear a1 r m b;go_wp2_with fail;go_loopg[38] n (λ gk i wr=>zM l a n f g gk i wr);case atStart=>exact Y.o
 clear Y;obtain⟨q,rfl,f',a5,m,b⟩:=hrel;by_cases b8:q<n
 ·obtain⟨G,N,cs,y,rfl,c8,H,⟨Q,ne,ce,rfl,s⟩,-,X⟩:=(b0.o wr b).at_ b8;have a3:decide (q<n)=true:=ax b8;have a4:decide ((q:Int)<(n:Int))=true:=aY;have i0:(0:Int)<=q:=O;have i1:(q:Int)<n:=O;have d9:=b.size;have b_:wr.cell? ⟨G,N+q,none⟩=some (.slice Q ne ce):=by have:=X 0 _ I;simpa using this
  have a7:q<l.length:=an B.o;have Y:=iQ (d:=([]:List bz)) H;have c_:=z.o.2 q a7;have b7:=s.1;have i8:=s.2.1;rw[Y]at c_;obtain⟨r,a2⟩:∃r:Nat,g.getD q 0=r:=⟨(g.getD q 0).toNat,O⟩;rw[a2]at c_;have i9:ne<=100000:=by have:=c1.o _ (eo H);omega
  have e1:=cE ((l.getD q [])=y) Y;obtain⟨U,e2,c5,a1,b1⟩:=dC m a5 s a2 b;clear m a5 s a2 b X H Y;go_upto_region 10 with fail;have Y:ab wr (wr.alloc (.cells #[q] 3)):=cx _ _;have H:aC (wr.alloc (.cells #[q] 3)) wr.heap.size 3 #[q]:=cu wr _ _;generalize wr.alloc (.cells #[q] 3)=s at*;have X:cX a f s:=dM b1.o (Y.only a);have j1:=Y.size;obtain⟨jR,a2⟩:=aW wr.heap.size;rw[<-a2]at H⊢;have g9:wr.heap.size<=jR:=O;have g':=H.lt;clear a2;have a8:=Y.ay U.o U.o.lt;have g_:=U.o.lt;have b6:=T.o s X;have a2:=V.o s X;have g5:s.cell? ⟨iU,0,none⟩=some (.slice (some ⟨a,0,none⟩) n n):=by rw[a2.cell];rfl
  have a':s.cell? ⟨jR,0,none⟩=some (.int .i64 q):=by rw[H.cell];rfl
  have d_:s.cell? ⟨a,q,none⟩=some (.int .i64 (r:Int)):=by rw[a8.cell,tN (by rw[z.o.1];exact a7),a1.o]
  have j3:(0:Int)<=r:=O;have j4:(r:Int)<=ce:=O;have b5:∀i,S i->i<s.heap.size:=λ i u=>an (F.o i u);have c7:bl dG 7 s (λ i=>i<s.heap.size) Q r ce (y.take r):=((c5.o.aq (Y.mono (λ i u=>an (F.o i u)))).more b5).bW jy O;have c4:rO s (λ i=>i<s.heap.size) iX iU jR (some ⟨G,N,none⟩) n c (some ⟨a,0,none⟩) n l g q:=⟨b6,a2,H,(b0.o s X).more b5 (zF b5),uS a8 O (cM z.o.1 B.o) aJ,λ i u=>u⟩;have key:=Gk s _ iX iU jR _ n c _ n l g q c4 aJ c1.o Q r ce (y.take r) c7 O;have c9:(y.take r).length=r:=by rw[jm];have:=c5.o.1;omega
  have h8:=a2.lt;obtain⟨c6,c3,b2,e7,c0⟩:=dC key X a8 c9 H;clear key X a8 c9 H c7 c4 b6 a2 Y;go_wp2_with fail;refine c6.o.mono ?_;rintro e Y ⟨rfl,X⟩;have c7:cX a f Y:=dM c3.o (X.only a);have c9:=X.ay b2.o b2.o.lt;have e0:Y.cell? ⟨jR,0,none⟩=some (.int .i64 q):=by rw[(X.ay c0.o c0.o.lt).cell];rfl
  have j2:=X.size;obtain⟨H,b6⟩:=aW (jP (lB l g q) 0 (y.take r));rw[<-b6];obtain⟨a8,c4,a2⟩:=cf c7 c9 b6;clear c7 c9 b6 X b_ g5 a' d_ c6 c3 b2;by_cases D:0<=H
  ·have t0:decide ((0:Int)<=H)=true:=ax D;have X:=Cl (k:=0) (l:=y.take r) (p:=lB l g q) (by rw[<-a2.o];exact D);rw[<-a2.o,e7.o]at X;have y1:Y.cell? ⟨iU,0,none⟩=some (.slice (some ⟨a,0,none⟩) n n):=(by rw[(V.o Y a8.o).cell];rfl);have dN:fU l (g.set q H)<fU l g:=EN z.o a7 D (by rw[a1.o];omega);have a':iB l (g.set q H):=z.o.set a7 D (by rw[a1.o];omega);have g0:(g.flatMap bE).toArray.size=n:=(by simp[lg eB];have:=z.o.1;have:=B.o;omega);have b_:=ai a';clear a' X;go_wp2_with(refine dO I _ (.tmp 56) (.tmp 55) I a q 3 _ (.int .i64 H) I I c4.o O Z I I ?_;intro E M a9);go_roundg (fU l (g.set q H));case measure=>exact dN
   case rel=>exact⟨_,I,b_.o,by rw[yb];exact M,bR a8.o a9 (λ i u=>u.2)⟩
  have t0:decide ((0:Int)<=H)=false:=ax D;have a':=Fb (k:=0) (l:=y.take r) (p:=lB l g q) (by rw[<-a2.o];omega);have u:sV l g (q+1):=λ p j e hp X he=>by
   by_cases b2:p=q
   ·subst b2;rw[e1.o]at he;rw[a1.o]at X;have h2:=a' j e (by rw[gL O];exact he);simpa [lB]using h2
   exact e2.o p j e O X he
  have C:zM l a n f g (gk-1) (.int .i64 ((q:Int)+1)) Y:=⟨q+1,cz,O,u,c4.o,a8.o⟩;have R:=ai C;clear C a' u;go_wp2_with fail;go_roundg (gk-1);case measure=>omega
  case rel=>exact R.o
 have b2:q=n:=O;have a3:decide (q<n)=false:=ax b8;have a4:decide ((q:Int)<(n:Int))=false:=aY;have b6:=m;have a':=e3.o wr b;have u:sV l g l.length:=by rw[<-B.o,<-b2];exact a5
 have c3:=z.o.1;have c6:=B.o;have dN:=m.lt;have C:Eo l n w (.returned (.slice (some ⟨a,0,none⟩) n n)) wr:=⟨a,g,I,z.o,u,b6,O,O,a'⟩;have d_:wr.cell? ⟨iU,0,none⟩=some (.slice (some ⟨a,0,none⟩) n n):=by rw[(V.o wr b).cell];rfl
 have R:=ai C;clear C a5 m b b6 a' u c3 c6 b2 f';go_wp2_with fail;(try rw[Exit.noGoto_ret]);go_ret;exact R.o
end Go.Proofs.YtdhklhebgclcoaaGreatDoor
