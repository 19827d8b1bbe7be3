import Derived.Test.YtdhklhebgclcoaaGreatDoorM6
import Derived.Test.YtdhklhebgclcoaaGreatDoorM7
set_option linter.unusedVariables false
set_option linter.unusedSimpArgs false
set_option maxRecDepth 100000
set_option maxHeartbeats 32000000
namespace Go.Proofs.YtdhklhebgclcoaaGreatDoor
open Go.Proofs Go.Proofs.Tryz Go.RowKit
def AZ(l:List (List bz))(bC:List Int)(q:Nat):Prop:=∀(p k:Nat) (a:List bz) (af:bz),p<q->l[p]?=some a->a[k]?=some af->(k:Int)<bC.getD p 0->mH l bC p af=false
def od(bC xs:List Int):Prop:=∀q,bC.getD q 0<=xs.getD q 0
theorem od.set{bC xs q v}(h:od bC xs)(aB:q<bC.length)(a:v<=bC.getD q 0):od (bC.set q v) xs:=λ p=>by
 by_cases e:q=p
 ·subst e
  rw[nE aB]
  exact Int.le_trans a (h _)
 ·rw[oF e]
  exact h p
def Aw(l:List (List bz))(xs:List Int)(n:Nat)(w:World)(e:Ending)(ae:World):Prop:=∃(A:Option Addr) (c:Nat) (bC:List Int),e=.returned (.slice A n c)/\ae.ownsRow w.heap.size 3 1 (.slice A n c) n (bC.flatMap bE)/\ab w ae/\iB l bC/\od bC xs/\¬vj l bC
def CY(xs:List Int)(n:Nat)(w:World)(v i:Value)(wr:World):Prop:=∃k:Nat,i=.int .i64 k/\k<=n/\wr.ownsRow w.heap.size 3 1 v k ((xs.take k).flatMap bE)/\ab w wr
def Ah(l:List (List bz))(xs:List Int)(n:Nat)(w:World)(V:Value)(gk:Nat)(v:Value)(wr:World):Prop:=∃(b:Bool) (bC:List Int),v=.bool b/\gk=fU l bC+b.toNat/\iB l bC/\od bC xs/\(b=false->AZ l bC n)/\wr.ownsRow w.heap.size 3 1 V n (bC.flatMap bE)/\ab w wr
def Ax(l:List (List bz))(xs bC:List Int)(n:Nat)(w:World)(V:Value)(gk:Nat)(v i:Value)(wr:World):Prop:=∃(b:Bool) (zs:List Int) (q:Nat),v=.bool b/\i=.int .i64 q/\gk+q=n/\iB l zs/\od zs xs/\(b=false->zs=bC/\AZ l bC q)/\(b=true->fU l zs<fU l bC)/\wr.ownsRow w.heap.size 3 1 V n (zs.flatMap bE)/\ab w wr
def wW(l:List (List bz))(xs bC:List Int)(n q:Nat)(a:List bz)(w:World)(V:Value)(gk:Nat)(v i:Value)(wr:World):Prop:=∃(b:Bool) (zs:List Int) (k:Nat),v=.bool b/\i=.int .i64 k/\gk=(zs.getD q 0).toNat-k/\iB l zs/\od zs xs/\(b=false->zs=bC/\AZ l bC q/\∀(j:Nat) (af:bz),j<k->a[j]?=some af->mH l bC q af=false)/\(b=true->fU l zs<fU l bC)/\wr.ownsRow w.heap.size 3 1 V n (zs.flatMap bE)/\ab w wr
theorem KM(w S A B n c R l x)(f:∀i,S i->i<w.heap.size)(a:cN w S 1 (fT w S) A n c l)(m:bl bE 1 w S B n R x)(aJ:n<=1000)(hlen:∀z∈l,z.length<=100000)(y:iB l x):Calls Tryz.prog 131 #[.slice A n c,.slice B n R] w (Aw l x n w):=by
 obtain⟨k0,r,E,D,C⟩:=eO pg;have s:=a.1;have H:=m.1;have t:CY x n w (.slice none 0 0) (.int .i64 0) w:=⟨0,I,Nat.zero_le _,by simpa using ee _ _ _ _,aN _ _⟩;obtain⟨V,c2,h',e4,e7,a',a2,e,g9⟩:=df f a m hlen y s H t r;obtain⟨i8,i7,h_⟩:=cf E D C;clear f a m hlen y s H t r E D C;go_enter func131,ntmps131;go_wp2_with fail;go_loopw[5,6] (λ v i wr=>CY x n w v i wr) (λ v i _=>n- (intOf i).toNat);case atStart=>exact e.o
 clear e;obtain⟨k,rfl,m3,e,a⟩:=hrel;obtain⟨dJ,t,rfl,m4,m5⟩:=dZ e;have e0:=a.size;have f:=cS a V.o;by_cases b6:k<n
 ·obtain⟨c7,g1,cs,T,rfl,C,M,⟨b_,ne,ce,rfl,U⟩,-,D⟩:=(c2.o.aq f (wq f)).at_ b6;obtain⟨P,X,E,rfl,y,r,F⟩:=(h'.o.aq f).at_ eB b6;have d1:decide (k<n)=true:=ax b6;have a_:decide ((k:Int)<(n:Int))=true:=aY;have d2:(0:Int)<=k:=O;have d3:(k:Int)<n:=O;have W:∀J,ab wr J->J.cell? ⟨c7,g1+k,none⟩=some (.slice b_ ne ce):=λ J m=>(m.cell (p:=⟨c7,g1+k,none⟩) (Nat.lt_of_lt_of_le (V.o c7 C) e0)).trans (by have:=D 0 _ I;simpa using this);have y1:∀J,ab wr J->J.cell? ⟨P,X+k,none⟩=some (.int .i64 E):=λ J m=>(m.cell (p:=⟨P,X+k,none⟩) (Nat.lt_of_lt_of_le (V.o P y) e0)).trans (by have:=F 0 _ I;simpa using this);have G:=e7.o.2 k (an a'.o);rw[nV r,iQ M,<-U.1]at G;have N:(if (0:Int)<(if (ne:Int)<E then(ne:Int)else E)then(if (ne:Int)<E then(ne:Int)else E)else 0)=E:=by split<;>split at*<;>omega
  have L:x.take (k+1)=x.take k++[E]:=by rw[nK,r];rfl
  obtain⟨c3,a9,s,h9⟩:=cH e a N L;clear e a N L D F U f M r G C y;go_upto_region 7 with fail;refine fy λ u0 D G=>?_;refine ag 0 (h:=ag 1 (h:=ag 2 (h:=ag 3 (h:=ag 4 (h:=ag 5 (h:=ag 6 (h:=ag 7 (h:=ag 8 (h:=ag 9 (h:=ag 10 (h:=ag 11 (h:=?_))))))))))));rw[s.o];generalize r:(if (ne:Int)<E then(ne:Int)else E)=m8;clear r;refine cg Z ?_;have r:=dy c3.o D (λ i C=>C.2);have Q:=aM a9.o D;have m6:=Q.size;obtain⟨h5,g'⟩:=ck r Q;clear r Q G D W y1 c3 a9 s;go_wp2_with(refine lr I 23 3 1 _ I eK _ [(0,.int .i64 E)] I (mj _) ?_;intro k7 s r m7;refine jo ?_);refine ai ?_;have N:dz k7 (λ i=>i=u0.heap.size) 1 (some ⟨u0.heap.size,0,none⟩) 1 (bE E):=⟨I,λ _=>⟨_,0,I,I,λ i u hu=>by rw[s.cell];simpa [bE]using hu⟩⟩;have L:=dy h5.o r (λ i C=>C.2);obtain⟨h6,e6,g_⟩:=cf N L r;clear N L r s;go_wp2_with(at_builtin;refine fe _ I (.tmp 33) (.tmp 35) 23 I w.heap.size 3 k0 _ 1 8 eK g9.o i8.o i7.o h_.o I O (.slice dJ k t) k ((x.take k).flatMap bE) I e6.o _ (some ⟨u0.heap.size,0,none⟩) 1 1 (bE E) I h6.o (jG _) dQ O O ?_;intro eC k8 j9 j4 l7);have j8:ab w k8:=fh (aM g'.o g_.o) e6.o j4 (λ i C=>C) O;go_roundw;case rel=>exact⟨k+1,cz,O,by rw[h9.o,hJ];simpa using j9,j8⟩
  case measure=>exact bS
 have d1:decide (k<n)=false:=ax b6;have a_:decide ((k:Int)<(n:Int))=false:=aY;obtain rfl:k=n:=O;rw[hU (an a2.o)]at e;have s:Ah l x k w (.slice dJ k t) (fU l x+1) (.bool true) wr:=⟨true,x,I,I,e7.o,λ q=>sG _,(by intro h;cases h),e,a⟩;have r:=ai s;clear s e a f d1 a_;go_wp2_with fail;go_loopg[8] (fU l x+1) (λ gk v wr=>Ah l x k w (.slice dJ k t) gk v wr);case atStart=>exact r.o
 clear r;obtain⟨b,bC,rfl,r,f,hle,L,e,a⟩:=hrel;cases b with
 |false=>
  have s:Aw l x k w (.returned (.slice dJ k t)) wr:=⟨dJ,t,bC,I,e,a,f,hle,λ⟨q,j,T,af,h1,h2,aA,aS⟩=>by
   have e_:=L I q j T af (cM ((dV.1 h1).1) a'.o) h1 h2 aA
   rw[aS]at e_
   cases e_⟩
  have N:=ai s;clear s e a f hle L r;go_wp2_with fail;go_ret;exact N.o
 |true=>
  have Y:gk=fU l bC+1:=r;obtain⟨k9,rfl⟩:=aW (wr:World);have a0:Ax l x bC k w (.slice dJ k t) k (.bool false) (.int .i64 0) k9:=⟨false,bC,0,I,I,I,f,hle,λ _=>⟨I,λ p _ _ _ hp=>absurd hp O⟩,(by intro h;cases h),e,a⟩;obtain⟨W,g8⟩:=ck a0 Y;clear a0 Y e a f hle L r;go_wp2_with fail;go_loopg[8,9] k (λ gk v i wr=>Ax l x bC k w (.slice dJ k t) gk v i wr);case atStart=>exact W.o
  clear W;obtain⟨b,zs,q,rfl,rfl,j7,f,hle,r,L,e,a⟩:=hrel;by_cases aB:q<k
  ·obtain⟨e9,rfl⟩:=aW (gk:Nat);obtain⟨P,X,cs,T,G,y,M,⟨b_,ne,ce,W,U⟩,-,F⟩:=c2.o.at_ aB;subst G W;have y1:∀J,ab w J->J.cell? ⟨P,X+q,none⟩=some (.slice b_ ne ce):=λ J m=>(m.cell (p:=⟨P,X+q,none⟩) (V.o P y)).trans (by have:=F 0 _ I;simpa using this);have d1:decide (q<k)=true:=ax aB;have a_:decide ((q:Int)<(k:Int))=true:=aY;have d2:(0:Int)<=q:=O;have d3:(q:Int)<k:=O;have a5:q<l.length:=an a'.o;obtain⟨k',rfl⟩:=aW (wr:World);have W:wW l x bC k q T w (.slice dJ k t) ((zs.getD q 0).toNat-0) (.bool b) (.int .i64 0) k':=⟨b,zs,0,I,I,I,f,hle,λ h=>⟨(r h).1,(r h).2,λ j _ b5=>absurd b5 O⟩,L,e,a⟩;obtain⟨k5,a0⟩:=aW ((zs.getD q 0).toNat-0);rw[<-a0]at W;obtain⟨Y,c6,c0,i'⟩:=cH W U M y1;clear W U M y1 e a f hle r L F y a0;go_wp2_with fail;go_loopg[8,10] k5 (λ gk v i wr=>wW l x bC k q T w (.slice dJ k t) gk v i wr);case atStart=>exact Y.o
   clear Y;obtain⟨b,zs,j,rfl,rfl,j6,f,hle,r,L,e,a⟩:=hrel;obtain⟨g,cap,cur,j_,l9,b3,m2,l_,m0,d9⟩:=pf e (k:=q) aB (j:Int);injection j_ with y _ j3;subst y;obtain rfl:=j3;obtain⟨M,rfl⟩:=aW (wr:World);have e0:=a.size;have d_:=f.2 q a5;have j5:=iQ (d:=([]:List bz)) c0.o;rw[j5,<-c6.o.1]at d_;obtain⟨F,U⟩:∃F:Nat,zs.getD q 0=F:=⟨(zs.getD q 0).toNat,O⟩;rw[U]at d_ j6;have b7:=mn e;have b9:∀J,ab M J->J.cell? ⟨g,q,none⟩=some (.int .i64 F):=λ J m=>by have h1:=(b7.aq (m.mono (λ i C=>C.2))).at_ eB aB;obtain⟨l1,m',m_,c8,-,j',j2⟩:=h1;injection c8 with c8;injection c8 with W y _;subst W y;have:=j2 0 _ I;rw[nV j']at U;subst U;simpa using this
   by_cases b5:j<F
   ·have i_:decide (j<F)=true:=ax b5;have j0:decide ((j:Int)<(F:Int))=true:=aY;have l5:(0:Int)<=j:=O;have l8:j<=100000:=cM c6.o.1 (e4.o T (eo c0.o));have l6:(j:Int)<ne:=O;obtain⟨be,g4,af,Y,j1,y,a0⟩:=c6.o.at_ jy (k:=j) O;subst Y;have a3:M.rangeAt be (g4+j*7) (dG af):=λ i u hu=>(a.cell (p:=⟨be,_,none⟩) (V.o be j1)).trans (a0 i u hu);have g5:=b9 M (aN _ _);have a6:=i'.o M a
    have a1:mH l zs q af=false->∀J,ab M J->wW l x bC k q T w (.slice (some ⟨g,0,none⟩) k t) (F- (j+1)) (.bool b) (.int .i64 ((j:Int)+1)) J:=λ Y J m=>
     ⟨b,zs,j+1,I,cz,by rw[U];rfl,f,hle,λ h=>⟨(r h).1,(r h).2.1,λ a8 b0 h2 aA=>by
      by_cases aS:a8=j
      ·subst aS
       rw[aA]at y
       injection y with y
       subst y
       rw[<-(r h).1]
       exact Y
      ·exact(r h).2.2 a8 b0 O aA⟩,L,dy e m (λ i C=>C.2),aM a m⟩
    have a4:∀J,aC J g 3 (cur.setIfInBounds q (.int .i64 j))->ab w J->wW l x bC k q T w (.slice (some ⟨g,0,none⟩) k t) (j- (j+1)) (.bool true) (.int .i64 ((j:Int)+1)) J:=λ J Y m=>
     ⟨true,zs.set q j,j+1,I,cz,by rw[nE (by rw[f.1];exact a5)];rfl,f.set a5 O O,hle.set (by rw[f.1];exact a5) O,(by intro h;cases h),λ _=>by
      have h1:=EN f a5 (v:=(j:Int)) O O
      cases b with
      |false=>rw[<-(r I).1];exact h1
      |true=>exact Nat.lt_trans h1 (L I),d9 J Y,m⟩
    have c_:=b3.lt;obtain⟨h7,e5,e8,a9,h8,e2,c3,k_⟩:=fl a3 a1 a4 a b7 b3 e U;clear a3 a1 a4 a b7 b3 e U y a0 d9 f hle r L;go_upto_region 19 with(first|(refine gK rfl _ (.tmp 57) rfl be (g4+j*7) (dG af) _ rfl h7.o underlying50 rfl Z ?_)|(refine db rfl _ (.tmp 11) (.tmp 58) rfl M.heap.size 50 _ (dG af) rfl rfl (aC.new _ _ _) rfl Z rfl ?_;intro u1 y a0));have a4:ab M u1:=zv (cx _ _) a0 (Nat.le_refl _);obtain⟨a3,Y⟩:=aW M.heap.size;rw[<-Y]at y⊢;clear Y a0 g5 a6 b9;have rg:∀J,ab u1 J->J.rangeAt a3 0 (dG af):=λ J k i u hu=>by rw[(k.ay y y.lt).cell,Nat.zero_add,fg];exact hu
    have b1:∀J,ab u1 J->J.cell? ⟨a3,0,none⟩=some (.int .i64 af.kind):=λ J k=>by rw[(k.ay y y.lt).cell];rfl
    have bX:∀J,ab u1 J->J.cell? ⟨a3,2,none⟩=some (.int .i64 af.aH):=λ J k=>by rw[(k.ay y y.lt).cell];rfl
    have b2:∀J,ab u1 J->J.cell? ⟨a3,4,none⟩=some (.int .i64 af.bb):=λ J k=>by rw[(k.ay y y.lt).cell];rfl
    have a0:=aM a9.o a4
    have a1:∀J,ab u1 J->Calls Tryz.prog 144 #[.slice (some ⟨P,X,none⟩) k c,q,.agg (dG af).toArray] J (kV (kY l q af) J):=λ J Y=>
     have au:=(aM a0 Y).mono V.o
     Bz J S (some ⟨P,X,none⟩) k c q l af (λ i C=>Nat.lt_of_lt_of_le (V.o i C) (aM a0 Y).size) (c2.o.aq au (wq au)) aJ e4.o
    obtain⟨k6,a6⟩:=aW (kY l q af);rw[<-a6]at a1;obtain⟨i9,g7,Y,e3,c5⟩:=dC rg a1 a4 a0 a6;clear rg a1 a4 a0 a6;refine fy λ u0 D G=>?_;clear y;refine ag 0 (h:=ag 1 (h:=?_));refine cK 2 I (dw ba _ _ I a3 0 I (dG af) _ (λ J m=>i9.o J m) mB I Z) ?_;refine aV 3 λ K a0=>?_;go_simp;refine(g7.o u0 D).mono ?_;rintro e' u2 ⟨rfl,Q⟩;have y:=aM D Q;refine aZ a0 aD y ?_;clear a0 K G D;intro G D;cases k6 with
    |false=>
     refine ag 4 (h:=ag 5 (h:=?_));refine bU 6 (h:=bU 7 (h:=bU 8 (h:=bU 9 (h:=bU 10 (h:=bU 11 (h:=bU 12 (h:=bU 13 (h:=bU 14 (h:=bU 15 (h:=bU 16 (h:=bU 17 (h:=bU 18 (h:=bU 19 (h:=?_))))))))))))));refine ag 20 (h:=?_);refine cg Z ?_;have a6:=(aM Y.o y).ay e2.o c_;have a4:=aM e3.o y;obtain⟨c4,c1⟩:=ck a6 a4;clear a6 a4 G D y Q b1 bX b2;go_wp2_with(refine dO I _ (.tmp 83) (.tmp 82) I g q 3 _ (.int .i64 j) I I c4.o O Z I I ?_;intro e1 W a7);have s:=e8.o e1 W (zv c1.o a7 O);have N:=ai s;clear s W a7;go_roundg ((j:Nat)- (j+1));case measure=>omega
     case rel=>exact N.o
    |true=>
     by_cases a0:af.kind=1
     ·have t1:(af.kind==1)=true:=ax a0;obtain⟨a1,b4,g0⟩:=Cq c5.o.symm a0;rw[b4]at bX;have f0:(0:Int)<=a1:=O;have f1:(a1:Int)<k:=an a'.o;obtain⟨l0,m9,b8,f',f_,d',c9⟩:=(h8.o.aq (cS (aM Y.o y) (λ i C=>C.2))).at_ eB (k:=a1) O;simp only[Option.some.injEq,Addr.mk.injEq,and_true]at f';obtain⟨rfl,rfl⟩:=f';have g6:∀J,ab u1 J->J.cell? ⟨g,a1,none⟩=some (.int .i64 b8):=λ J m=>by have h0:=c9 0 _ I;rw[Nat.mul_one,Nat.add_zero,Nat.zero_add]at h0;have dN:g<u1.heap.size:=Nat.lt_of_lt_of_le c_ Y.o.size;exact(m.cell (p:=⟨g,a1,none⟩) dN).trans ((y.cell (p:=⟨g,a1,none⟩) dN).symm.trans h0)
      by_cases R:b8<af.bb
      ·have t2:decide (b8<af.bb)=true:=ax R;clear b4 a0 R d' c9 f_ g0;refine ag 4 (h:=ag 5 (h:=ag 6 (h:=ag 7 (h:=ag 8 (h:=ag 9 (h:=ag 10 (h:=ag 11 (h:=ag 12 (h:=ag 13 (h:=ag 14 (h:=ag 15 (h:=ag 16 (h:=ag 17 (h:=ag 18 (h:=ag 19 (h:=ag 20 (h:=?_)))))))))))))))));refine cg Z ?_;have a6:=(aM Y.o y).ay e2.o c_;have a4:=aM e3.o y;obtain⟨c4,c1⟩:=ck a6 a4;clear a6 a4 G D y Q b1 bX b2 g6;go_wp2_with(refine dO I _ (.tmp 83) (.tmp 82) I g q 3 _ (.int .i64 j) I I c4.o O Z I I ?_;intro e1 W a7);have s:=e8.o e1 W (zv c1.o a7 O);have N:=ai s;clear s W a7;go_roundg ((j:Nat)- (j+1));case measure=>omega
       case rel=>exact N.o
      have t2:decide (b8<af.bb)=false:=ax R;have C:mH l zs q af=false:=(by unfold mH;rw[<-c5.o,b4,Int.toNat_natCast,nV d',tB R];simp);clear b4 a0 R d' c9 f_ g0;refine ag 4 (h:=ag 5 (h:=ag 6 (h:=ag 7 (h:=ag 8 (h:=ag 9 (h:=ag 10 (h:=ag 11 (h:=ag 12 (h:=ag 13 (h:=ag 14 (h:=ag 15 (h:=ag 16 (h:=ag 17 (h:=ag 18 (h:=ag 19 (h:=ag 20 (h:=?_)))))))))))))))));refine cg Z ?_;have s:=e5.o C _ (aM Y.o y);have N:=ai s;clear s G D y Q b1 bX b2 C g6;go_wp2_with fail;go_roundg (F- (j+1));case measure=>omega
      case rel=>exact N.o
     have t1:(af.kind==1)=false:=ax a0;have C:mH l zs q af=false:=(by unfold mH;rw[<-c5.o,tB a0];simp);refine ag 4 (h:=ag 5 (h:=ag 6 (h:=ag 7 (h:=ag 8 (h:=ag 9 (h:=?_))))));refine bU 10 (h:=bU 11 (h:=bU 12 (h:=bU 13 (h:=bU 14 (h:=bU 15 (h:=bU 16 (h:=bU 17 (h:=bU 18 (h:=?_)))))))));refine ag 19 (h:=ag 20 (h:=?_));refine cg Z ?_;have s:=e5.o C _ (aM Y.o y);have N:=ai s;clear s G D y Q b1 bX b2 C;go_wp2_with fail;go_roundg (F- (j+1));case measure=>omega
     case rel=>exact N.o
   have i_:decide (j<F)=false:=ax b5;have j0:decide ((j:Int)<(F:Int))=false:=aY;have g5:=b9 M (aN _ _)
   have H:Ax l x bC k w (.slice (some ⟨g,0,none⟩) k t) (e9-1) (.bool b) (.int .i64 ((q:Int)+1)) M:=⟨b,zs,q+1,I,cz,O,f,hle,λ h=>⟨(r h).1,λ p a8 C b0 h1 h2 aA aS=>by
    by_cases s:p=q
    ·subst s
     rw[c0.o]at h2
     injection h2 with h2
     subst h2
     rw[<-(r h).1,U]at aS
     exact(r h).2.2 a8 b0 O aA
    ·exact(r h).2.1 p a8 C b0 O h2 aA aS⟩,L,e,a⟩
   have a2:=ai H;clear H e a f hle r L b7 b3 d9 b9 U d_;go_wp2_with fail;go_roundg (e9-1);case measure=>omega
   case rel=>exact a2.o
  have d1:decide (q<k)=false:=ax aB;have a_:decide ((q:Int)<(k:Int))=false:=aY;have y:q=k:=O;have H:∃s,s<fU l bC+1/\Ah l x k w (.slice dJ k t) s (.bool b) wr:=by
   cases b with
   |false=>obtain⟨rfl,h2⟩:=r I;exact⟨fU l zs,O,false,zs,I,I,f,hle,λ _=>y▸h2,e,a⟩
   |true=>exact⟨fU l zs+1,an (L I),true,zs,I,I,f,hle,(by intro h;cases h),e,a⟩
  obtain⟨s,D,H⟩:=H;have a2:=ai H;clear H e a f hle r L y j7;go_wp2_with fail;go_roundg s;case measure=>have:=g8.o;omega
  case rel=>exact a2.o
theorem ey{p}[Decidable p](h:p):decide p=true:=Av h
theorem ep{p}[Decidable p](h:¬p):decide p=false:=tB h
theorem ot{a b:Int}(h:a=b):(a==b)=true:=ax h
theorem iR{a b:Int}(h:¬a=b):(a==b)=false:=ax h
theorem ea{k n:Nat}(h:k<n):decide (k<n)=true/\decide ((k:Int)<(n:Int))=true/\(0:Int)<=k/\(k:Int)<n:=⟨ey h,ey O,O,O⟩
theorem eN{k n:Nat}(h:¬k<n):decide (k<n)=false/\decide ((k:Int)<(n:Int))=false:=⟨ep h,ep O⟩
theorem bJ{α}(a:α):∃x,x=a:=⟨a,I⟩
section
variable {P:Program} {ops:Array Oper} {Q:Exit->Act->World->Prop} {a:Act} {w:World}
end
def zK(ops:Array Oper)(i k:Nat):Bool:=((ops[k]?).map (λ o=>o.after.any (λ e=>e.on==i&&Region.binds .any e))).getD false
def sJ(ops:Array Oper):Nat->Nat->Nat->Bool
 |0,i,k=>zK ops i k
 |n+1,i,k=>zK ops i k||(List.range ops.size).any (λ m=>zK ops i m&&sJ ops n m k)
theorem lG.reach{ops l k}(h:lG .any ops l):∀(n i:Nat),sJ ops n i k=true->l.getD i false=false->l.getD k false=false
 |0,i,e,a=>h.uu e a
 |n+1,i,e,a=>by
  unfold sJ at e
  rcases (Bool.or_eq_true _ _).mp e with e|e
  ·exact h.uu e a
  ·obtain⟨m,-,b⟩:=List.any_eq_true.1 e
   rw[Bool.and_eq_true]at b
   exact lG.reach h n m b.2 (h.uu b.1 a)
section
variable {P:Program} {ops:Array Oper} {Q:Exit->Act->World->Prop} {k:Nat} {A B:World->Prop} {n:Nat} {l:Array Bool} {a:Act} {w:World}
theorem jZ{i:Nat}{d:Oper}{v:Value}(e:ops.toList[i]?=some d)(au:Region.noSelect ops=true)(r:Region.free .any ops l i=true)(j:(Region.ready .any ops l).contains i=true)
  (he:sJ ops 12 i k=true)(g:i≠k)
  (p:∀c a w,Q (.panic c) (a.put d.dst v) w->Q (.panic c) a w)(s:YieldsIf P ops (λ w=>A w/\B w) d v a)(m:A w)(o:B w)
  (h:fV P ops Q k A B n (l.setIfInBounds i true) (a.put d.dst v) w):fV P ops Q k A B (n+1) l a w:=λ av=>
 have f:ops[i]?=some d:=by rw[<-qH];exact e
 wpAnyL_first f (zf au) p (λ l' ae q e b=>⟨b.1 (by rw[pT false g];exact q.reach 12 i he e),b.2⟩)
  (λ l' ae b=>⟨λ h0=>b.1 (by rw[pT false g];exact h0),b.2⟩) n l a w av (zU f r) (ax j) s ⟨λ _=>m,o⟩
  (h (av.jO (ax j)))
theorem bn(i:Nat){b:Oper}{v:Value}{d:Act}(q:ops.toList[i]?=some b:=by rfl)(hw:Region.wanted b (yielded ops a.tmps)=true:=by rfl)(au:Region.noSelect ops=true:=by kernel_rfl)(p:Region.free .any ops l i=true:=by kernel_rfl)(s:(Region.ready .any ops l).contains i=true:=by kernel_rfl)(he:sJ ops 12 i k=true:=by kernel_rfl)(r:i≠k:=by decide)(e:A w:=by assumption)(g:B w:=by first|assumption|trivial)(t:∀J,A J/\B J->(execOp a.eval b).run P J=.ok (.value v) J:=by(rintro J ⟨f,j⟩;(try dsimp only at j);(try dsimp only at f);go_simp;try with_reducible rfl))(o:a.put b.dst v=d:=by((try simp only[Act.put,List.setIfInBounds_toArray,List.set_cons_zero,List.set_cons_succ]);rfl))(m:∀c a w,Q (.panic c) (a.put b.dst v) w->Q (.panic c) a w:=by exactλ _ _ _ h=>h)(h:fV P ops Q k A B n (l.setIfInBounds i true) d w):fV P ops Q k A B (n+1) l a w:=by subst o;exact jZ q au p s he r m (.inl ⟨hw,t⟩) e g h
end
structure gQ (P:Program) (t e:TypeId) (size bytes:Nat):Prop where
 u:P.underlying t=some (.slice e)
 i:∃(i:TypeInfo) (z:Value),P.info? e=some i/\i.zero=some z/\i.size=size/\i.bytes=bytes/\z.cells.size=size
 pos:0<size
theorem gQ.ML{P:Program}{t e:TypeId}{size bytes:Nat}{z:Value}(hu:P.underlying t=some (.slice e))(h:(P.info? e).map (λ i=>(i.zero,i.size,i.bytes))=some (some z,size,bytes))(a:z.cells.size=size:=by rfl)(hp:0<size:=by omega):gQ P t e size bytes:=by obtain⟨i,h1,h2,aA,aS⟩:=eO h;exact⟨hu,⟨i,z,h1,h2,aA,aS,a⟩,hp⟩
abbrev vW:=@gQ.ML
section
variable {P:Program} {ops:Array Oper} {rest:List Oper} {o cI:Oper} {a:Act} {w W:World} {K:Act->World->Prop} {Q:Exit->Act->World->Prop} {E:Prop} {t e:TypeId} {size bytes:Nat}
theorem CC(b:gQ P t e size bytes)(x:Operand)(g:o.op=.call {callee:=.builtin .append,args:=#[.const (.slice none 0 0),x],argTypes:=#[t,t]}){S A}{m c:Nat}{news}(k:a.eval x=.slice A m c)(j:dz w S size A m news)(h1:∀u∈news,u.oneCell'=true)(hm:m*bytes<=140737488355328)(l:m<=140737488355328)(h:∀(B:Option Addr) (d:Nat) (ae:World),ae.ownsRow w.heap.size e size (.slice B m d) m news->ab w ae->K (a.put o.dst (.slice B m d)) ae):Oper.wp P o a w K Q:=by obtain⟨i,z,i1,i2,i3,i4,i5⟩:=b.i;have aJ:=World.ownsRow_nil w w.heap.size e size;refine xH w (.const (.slice none 0 0)) x t g w.heap.size e i z size bytes b.u i1 i2 i3 i4 i5 b.pos (.slice none 0 0) 0 [] I aJ S A m c news k j h1 dQ (by rw[Nat.zero_add];exact hm) (Nat.le_refl _) (λ bT ae h2 aA aS=>?_);rw[qu,Nat.zero_add]at h2;obtain⟨B,d,rfl,-,-⟩:=dZ h2;exact h B d ae h2 (fh (aN _ _) aJ aA (λ i f=>f) (Nat.le_refl _))
theorem mD(b:gQ P t e size bytes)(x:Operand){S:Nat->Prop}{A:Option Addr}{m c:Nat}{news:List Value}(k:dz w S size A m news)(h1:∀u∈news,u.oneCell'=true)(hm:m*bytes<=140737488355328)(i:m<=140737488355328)(h:∀(B:Option Addr) (d:Nat) (ae:World),ae.ownsRow w.heap.size e size (.slice B m d) m news->ab w ae->wpList P ops Q rest (a.put o.dst (.slice B m d)) ae)(g:o.guard=none:=by rfl)(j:o.op=.call {callee:=.builtin .append,args:=#[.const (.slice none 0 0),x],argTypes:=#[t,t]}:=by rfl)(l:a.eval x=.slice A m c:=by rfl):wpList P ops Q (o::rest) a w:=pS g λ _ f=>CC b x j l k h1 hm i (λ B d ae h2 aA=>f _ _ (h B d ae h2 aA))
theorem nM(b:gQ P t e size bytes)(x s:Operand)(p:Nat×Operand){v u:Value}{n:Nat}{xs cs:List Value}(B:W.heap.size<=w.heap.size)(q:w.ownsRow W.heap.size e size v n xs)(d:fc P e 1 [(p.1,u)]=some cs.toArray)(C:cs.length=size)(h1:∀u∈cs,u.oneCell'=true)(aJ:(n+1)*bytes<=140737488355328)(D:n+1<=140737488355328)(h:∀(bT:Value) (ae:World),ae.ownsRow W.heap.size e size bT (n+1) (xs++cs)->aw (λ i=>i<w.heap.size/\v.ownBlock≠some i) w ae->(bT.ownBlock=v.ownBlock\/bT.ownBlock=some (w.heap.size+1))->wpList P ops Q rest ((a.put o.dst (.slice (some ⟨w.heap.size,0,none⟩) 1 1)).put cI.dst bT) ae)(f:o.guard=none:=by rfl)(l:o.op=.buildSlice t 1 #[p]:=by rfl)(hu:a.eval p.2=u:=by rfl)(g:cI.guard=none:=by rfl)(m:cI.op=.call {callee:=.builtin .append,args:=#[s,x],argTypes:=#[t,t]}:=by rfl)(au:(a.put o.dst (.slice (some ⟨w.heap.size,0,none⟩) 1 1)).eval s=v:=by rfl)(y:(a.put o.dst (.slice (some ⟨w.heap.size,0,none⟩) 1 1)).eval x=.slice (some ⟨w.heap.size,0,none⟩) 1 1:=by rfl):wpList P ops Q (o::cI::rest) a w:=by obtain⟨i,z,i1,i2,i3,i4,i5⟩:=b.i;refine gJ f t e 1 #[p] l b.u cs.toArray [(p.1,u)] (by simp[hu]) d ?_;have r:=dy q (cx w (.cells cs.toArray e)) (λ i c=>c.2);have A:(w.alloc (.cells cs.toArray e)).heap.size=w.heap.size+1:=aT;refine fe _ g s x t m W.heap.size e i z size bytes b.u i1 i2 i3 i4 i5 b.pos v n xs au r (λ i=>i=w.heap.size) (some ⟨w.heap.size,0,none⟩) 1 1 cs y (eW O) h1 dQ aJ O (λ bT ae h2 aA aS=>?_);refine h bT ae h2 (jA (cS (cx w _) (λ i c=>c.1)) aA (λ i c=>O) (λ k j c=>c.2 j)) ?_;rw[A]at aS;exact aS
theorem aw.row{T n xs v ae}(h:aw T W w)(a:∀i,T i->i<W.heap.size)(c:w.ownsRow W.heap.size e size v n xs)(au:aw (λ i=>i<w.heap.size/\v.ownBlock≠some i) w ae):aw T W ae:=bR h au (λ i b=>⟨cQ (a i b) h.size,λ e=>cM ((c.lt i e).1) (a i b)⟩)
theorem rH{α:Type}{enc:α->List Value}{l:List α}{b:α}(f:gQ P t e size bytes)(x s:Operand)(p:Nat×Operand){v u:Value}{n:Nat}(c:ab W w)(d:w.ownsRow W.heap.size e size v n (l.flatMap enc))(g:fc P e 1 [(p.1,u)]=some (enc b).toArray)(k:(enc b).length=size)(h1:∀u∈enc b,u.oneCell'=true)(aJ:(n+1)*bytes<=140737488355328)(m:n+1<=140737488355328)(h:∀(bT:Value) (ae:World),ae.ownsRow W.heap.size e size bT (n+1) ((l++[b]).flatMap enc)->ab W ae->Hi (wpList P ops Q rest ((a.put o.dst (.slice (some ⟨w.heap.size,0,none⟩) 1 1)).put cI.dst bT) ae))(i:o.guard=none:=by rfl)(q:o.op=.buildSlice t 1 #[p]:=by rfl)(hu:a.eval p.2=u:=by rfl)(j:cI.guard=none:=by rfl)(r:cI.op=.call {callee:=.builtin .append,args:=#[s,x],argTypes:=#[t,t]}:=by rfl)(au:(a.put o.dst (.slice (some ⟨w.heap.size,0,none⟩) 1 1)).eval s=v:=by rfl)(y:(a.put o.dst (.slice (some ⟨w.heap.size,0,none⟩) 1 1)).eval x=.slice (some ⟨w.heap.size,0,none⟩) 1 1:=by rfl):wpList P ops Q (o::cI::rest) a w:=nM f x s p c.size d g k h1 aJ m (λ bT ae h2 aA _=>(h bT ae (ax h2) (aw.row c (λ _ h=>h) d aA)).o) i q hu j r au y
theorem qs{α:Type}{R:World->(Nat->Prop)->List Value->α->Prop}(n:Good R){l:List α}{b:α}(E:gQ P t e size bytes)(x s:Operand)(p:Nat×Operand){v u:Value}{cs:List Value}(j:ab W w)(H:fB R size e w W.heap.size v l)(T:R w (Rest w W.heap.size v) cs b)(G:fc P e 1 [(p.1,u)]=some cs.toArray)(r:cs.length=size)(h1:∀u∈cs,u.oneCell'=true)(aJ:(l.length+1)*bytes<=140737488355328)(M:l.length+1<=140737488355328)(h:∀(bT:Value) (ae:World),fB R size e ae W.heap.size bT (l++[b])->ab W ae->Hi (wpList P ops Q rest ((a.put o.dst (.slice (some ⟨w.heap.size,0,none⟩) 1 1)).put cI.dst bT) ae))(K:o.guard=none:=by rfl)(N:o.op=.buildSlice t 1 #[p]:=by rfl)(hu:a.eval p.2=u:=by rfl)(L:cI.guard=none:=by rfl)(S:cI.op=.call {callee:=.builtin .append,args:=#[s,x],argTypes:=#[t,t]}:=by rfl)(au:(a.put o.dst (.slice (some ⟨w.heap.size,0,none⟩) 1 1)).eval s=v:=by rfl)(U:(a.put o.dst (.slice (some ⟨w.heap.size,0,none⟩) 1 1)).eval x=.slice (some ⟨w.heap.size,0,none⟩) 1 1:=by rfl):wpList P ops Q (o::cI::rest) a w:=by
 obtain⟨aP,z,A,m,B⟩:=H;refine nM E x s p j.size m G r h1 aJ M (λ bT ae h2 aA aS=>(h bT ae ?_ (aw.row j (λ _ h=>h) m aA)).o) K N hu L S au U;have V:=aA.size
 have hm:∀i,Rest w W.heap.size v i->Rest ae W.heap.size bT i:=λ i f=>⟨f.1,an f.2.1,by
  rcases aS with h|h
  ·rw[h];exact f.2.2
  ·rw[h];intro q;injection q with q;have:=f.2.1;omega⟩
 have F:aw (Rest w W.heap.size v) w ae:=aA.mono (λ i f=>⟨f.2.1,f.2.2⟩);refine⟨aP++[cs],by simp[z],λ c av=>?_,ax h2,λ k cs' y g d=>?_⟩
 ·rcases jV.1 av with h|h
  ·exact A c h
  simp at h;rw[h];exact r
 refine n.more hm (n.aq F ?_);rcases jB k l.length with j|j
 ·rw[me O]at g;rw[me j]at d;exact B k cs' y g d
 rw[oH O]at g;rw[oH j]at d;have C:k-l.length=0:=by have:=(dV.1 d).1;simpa using this
 have D:k-aP.length=0:=O;rw[C]at d;rw[D]at g;simp at g d;subst g d;exact T
theorem Bs{α:Type}{enc:α->List Value}{l cA:List α}(b:gQ P t e size bytes)(x s:Operand){v:Value}{n m c:Nat}{S:Nat->Prop}{A:Option Addr}(d:ab W w)(f:w.ownsRow W.heap.size e size v n (l.flatMap enc))(p:dz w S size A m (cA.flatMap enc))(h1:∀u∈cA.flatMap enc,u.oneCell'=true)(aJ:(n+m)*bytes<=140737488355328)(r:n+m<=140737488355328)(h:∀(bT:Value) (ae:World),ae.ownsRow W.heap.size e size bT (n+m) ((l++cA).flatMap enc)->ab W ae->Hi (wpList P ops Q rest (a.put o.dst bT) ae))(g:o.guard=none:=by rfl)(k:o.op=.call {callee:=.builtin .append,args:=#[s,x],argTypes:=#[t,t]}:=by rfl)(au:a.eval s=v:=by rfl)(q:a.eval x=.slice A m c:=by rfl):wpList P ops Q (o::rest) a w:=by obtain⟨i,z,i1,i2,i3,i4,i5⟩:=b.i;refine fe _ g s x t k W.heap.size e i z size bytes b.u i1 i2 i3 i4 i5 b.pos v n _ au f S A m c _ q p h1 dQ aJ d.size (λ bT ae h2 aA aS=>?_);exact(h bT ae (by rw[hJ];exact h2) (fh d f aA (λ i j=>j) d.size)).o
theorem BH(z)(a:z.cells=#[z])(n):madeCells z.cells (n*1)=(List.replicate n z).toArray:=by apply Array.ext';have:=tC z n;rw[a];simpa using this
theorem ym{z:Value}(hu:P.underlying t=some (.slice e))(j:(P.info? e).map (λ i=>(i.zero,i.size,i.bytes))=some (some z,1,bytes))(d:bytes<=1000)(n:Nat)(x:Operand)(aJ:n<=1000000)(h:∀ae,aC ae w.heap.size e (List.replicate n z).toArray->ab w ae->Hi (wpList P ops Q rest (a.put o.dst (.slice (some ⟨w.heap.size,0,none⟩) n n)) ae))(m:z.cells=#[z]:=by rfl)(g:o.guard=none:=by rfl)(k:o.op=.makeSlice t x x:=by rfl)(l:a.eval x=.int .i64 n:=by rfl):wpList P ops Q (o::rest) a w:=by
 obtain⟨i,i1,i2,i3,i4⟩:=eO j;have f:i.bytes*n<=281474976710656:=by rw[i4];exact ik (Nat.mul_le_mul d aJ) O
 have b:=xu (P:=P) t e i z hu i1 i2 .i64 .i64 n n (dq _) f O w;rw[i3,BH z m]at b;refine pS g λ _ c=>?_;unfold Oper.wp execOp;simp only[k,l,Sem.run_bind,b,Result.andThen_ok];exact c _ _ (h _ (cu _ _ _) (cx _ _)).o
end
def jf(w:World)(S:Nat->Prop)(cs:List Value)(l:List Int):Prop:=∃(A:Option Addr) (n c:Nat),cs=[.slice A n c]/\bl bE 1 w S A n c l
theorem jf.aq{w ae S}(a:aw S w ae)(cs l)(h:jf w S cs l):jf ae S cs l:=by obtain⟨A,n,c,e,h⟩:=h;exact⟨A,n,c,e,h.aq a⟩
theorem jf.more{w S T}(a:∀i,S i->T i)(cs l)(h:jf w S cs l):jf w T cs l:=by obtain⟨A,n,c,e,h⟩:=h;exact⟨A,n,c,e,h.more a⟩
theorem jf.iC:Good jf:=⟨λ h k=>jf.aq h _ _ k,λ h k=>jf.more h _ _ k⟩
abbrev sw:=@jf.iC
theorem yC{f g}:∀(n:Nat),(∀i,i<n->f i<=g i)->kg n f<=kg n g
 |0,_=>Nat.le_refl _
 |n+1,h=>by
  have:=yC n (λ i a=>h i O)
  have:=h n O
  simp only[kg]
  omega
theorem Cn{f g q}:∀(n:Nat),(∀i,i<n->f i<=g i)->q<n->f q<g q->kg n f<kg n g
 |0,_,h,_=>O
 |n+1,h,aB,b=>by
  have h1:=yC n (λ i a=>h i O)
  have h2:=h n O
  simp only[kg]
  by_cases e:q=n
  ·subst e;omega
  ·have:=Cn n (λ i a=>h i O) O b
   omega
theorem Mh{l zs bC}(h:od zs bC):fU l zs<=fU l bC:=yC _ (λ i _=>an (h i))
theorem Ir{l zs bC}(h:od zs bC)(a:iB l zs)(d:iB l bC)(c:vj l bC)(aJ:¬vj l zs):fU l zs<fU l bC:=by
 by_cases aB:∃q,q<l.length/\zs.getD q 0<bC.getD q 0
 ·obtain⟨q,aB,dN⟩:=aB;exact Cn _ (λ i _=>an (h i)) aB (an (a.2 q aB))
 refine absurd ?_ aJ;have e:zs=bC:=by refine List.ext_getElem (by rw[a.1,d.1]) (λ i h1 h2=>?_);have aA:=h i;have aS:¬zs.getD i 0<bC.getD i 0:=λ b=>aB ⟨i,by rw[<-a.1];exact h1,b⟩;rw[nV (dA h1),nV (dA h2)]at aA aS;omega
 rw[e];exact c
theorem iB.full(l):iB l (fD l):=⟨by simp[fD],λ q _=>by rw[yJ];omega⟩
def zZ(l:List (List bz))(a:List (List Int))(n:Nat)(w:World)(e:Ending)(ae:World):Prop:=∃(A:Option Addr) (m c:Nat) (b:Bool),e=.returned (.tuple #[.slice A m c,.bool b])/\ab w ae/\(b=true->m=n/\∃bC:List Int,ae.ownsRow w.heap.size 3 1 (.slice A n c) n (bC.flatMap bE)/\iB l bC/\∀q,q<n->bC.getD q 0∈a.getD q [])
def yQ(l:List (List bz))(n:Nat)(w:World)(gk:Nat)(v:Value)(wr:World):Prop:=∃bC,gk=fU l bC/\iB l bC/\wr.ownsRow w.heap.size 3 1 v n (bC.flatMap bE)/\ab w wr
def xB(l:List (List bz))(a:List (List Int))(bC:List Int)(n:Nat)(w:World)(V:Value)(gk:Nat)(i:Value)(wr:World):Prop:=∃(zs:List Int) (q:Nat),i=.int .i64 q/\gk+q=n/\iB l zs/\od zs bC/\(∀p,p<q->zs.getD p 0∈a.getD p [])/\wr.ownsRow w.heap.size 3 1 V n (zs.flatMap bE)/\ab w wr
def wU(W:World)(a:List Int)(c:Int)(b i:Value)(wr:World):Prop:=∃(v:Int) (k:Nat),b=.int .i64 v/\i=.int .i64 k/\k<=a.length/\(v<0\/(v∈a/\v<=c))/\ab W wr
theorem Jz(w S A B n c a_ l D)(d:∀i,S i->i<w.heap.size)(r:cN w S 1 (fT w S) A n c l)(s:cN w S 1 (jf w S) B n a_ D)(aJ:n<=1000)(hlen:∀z∈l,z.length<=100000)(F:∀z∈D,z.length<=100000):Calls Tryz.prog 109 #[.slice A n c,.slice B n a_] w (zZ l D n w):=by
 have K:=r.1;have H:=s.1;have G:=KT w S A n c l d r aJ
 have E:∀(J:World) (C:Option Addr) (k:Nat) (x:List Int),ab w J->J.ownsRow w.heap.size 3 1 (.slice C n k) n (x.flatMap bE)->iB l x->Calls Tryz.prog 131 #[.slice A n c,.slice C n k] J (Aw l x n J):=λ J C k x f t u=>
  have au:=f.mono d
  KM J (·<J.heap.size) A C n c k l x (λ _ h=>h) ((r.aq au (wq au)).more (λ i m=>Nat.lt_of_lt_of_le (d i m) f.size) (zF (λ i m=>Nat.lt_of_lt_of_le (d i m) f.size))) ((mn t).more (λ i m=>m.2)) aJ hlen u
 have y:∀(J:World) (C:Option Addr) (k:Nat) (x:List Int),ab w J->J.ownsRow w.heap.size 3 1 (.slice C n k) n (x.flatMap bE)->iB l x->Calls Tryz.prog 130 #[.slice A n c,.slice C n k] J (vC l x J):=λ J C k x f t u=>
  have au:=f.mono d
  Ia J (·<J.heap.size) A C n c k l x (λ _ h=>h) ((r.aq au (wq au)).more (λ i m=>Nat.lt_of_lt_of_le (d i m) f.size) (zF (λ i m=>Nat.lt_of_lt_of_le (d i m) f.size))) ((mn t).more (λ i m=>m.2)) aJ hlen (λ q g_ he=>by
   have:=u.2 q (List.getElem?_eq_some_iff.1 he).1
   rw[iQ he]at this
   exact this)
 obtain⟨a0,g4,b9,g5,b_,a8,g6,f,b8⟩:=df d r s hlen F K H G E;have b7:=ai y;clear d r s hlen F K H G E y;go_enter func109,ntmps109;go_wp2_with fail;refine(f.o).mono ?_;rintro e f' ⟨b5,c_,rfl,r,t⟩;have e8:(fD l).length=n:=by rw[a8.o];simp[fD]
 rw[e8]at r⊢;have d:=cE (yQ l n w (fU l (fD l)) (.slice b5 n c_) f') (⟨_,I,iB.full l,r,t⟩);clear r t f;go_wp2_with fail;go_loopg[6] (fU l (fD l)) (λ gk v wr=>yQ l n w gk v wr);case atStart=>exact d.o
 clear d;obtain⟨bC,s,d,r,t⟩:=hrel;obtain⟨e2,rfl⟩:=aW gk;obtain⟨C,k,rfl,-,-⟩:=dZ r;obtain⟨g0,rfl⟩:=aW (wr:World);have u:xB l D bC n w (.slice C n k) n (.int .i64 0) g0:=⟨bC,0,I,I,d,λ _=>Int.le_refl _,λ _ h=>absurd h O,r,t⟩;obtain⟨f,c5,g1⟩:=cf u s d;clear u s d r t;go_wp2_with fail;go_loopg[7] n (λ d i wr=>xB l D bC n w (.slice C n k) d i wr);case atStart=>exact f.o
 clear f;obtain⟨zs,q,rfl,c0,L,hle,R,r,t⟩:=hrel;obtain⟨wp,rfl⟩:=aW (wr:World);have e_:=t.size;by_cases aB:q<n
 ·obtain⟨d1,d2,d3,d4⟩:=ea aB;obtain⟨P,a7,cs,a,rfl,y,d,⟨b6,T,b0,rfl,s⟩,-,E⟩:=b9.o.at_ aB;obtain⟨g,cap,cur,a6,e5,e6,h_,-,-,-⟩:=pf r (k:=q) aB 0;injection a6 with K _ a3;subst K a3;obtain⟨_,_,F,a2,-,a4,H⟩:=(mn r).at_ eB aB;injection a2 with a2;injection a2 with Q f _;subst Q f;have y1:∀J,ab wp J->J.cell? ⟨P,a7+q,none⟩=some (.slice b6 T b0):=λ J f=>((aM t f).cell (p:=⟨P,a7+q,none⟩) (a0.o P y)).trans (by have:=E 0 _ I;simpa using this);have M:∀J,ab wp J->J.cell? ⟨g,q,none⟩=some (.int .i64 F):=λ J f=>(f.cell (p:=⟨g,q,none⟩) e6.lt).trans (by have:=H 0 _ I;simpa using this);have i8:a.length<=100000:=b_.o a (List.mem_of_getElem? d);have i9:=s.1;have U:wU wp a F (.int .i64 (-1)) (.int .i64 0) wp:=⟨-1,0,I,I,Nat.zero_le _,.inl O,aN _ _⟩;have V:=s.aq (t.mono a0.o);obtain⟨u,Y,N,G,W,X,c7,a1,a'⟩:=df U r t L hle R V y1 M;obtain⟨c4,c8⟩:=ck d a4;clear U r t L hle R V y1 M d a4 s E H y;go_wp2_with fail;go_loopw[8,9] (λ b i wr=>wU wp a F b i wr) (λ _ i _=>T- (intOf i).toNat);case atStart=>exact u.o
  clear u;obtain⟨v,j,rfl,rfl,h',u,s⟩:=hrel;have y1:=a1.o wr s;have M:=a'.o wr s;by_cases a4:j<T
  ·obtain⟨d_,e0,b1,g'⟩:=ea a4;obtain⟨H,U,dK,rfl,y,E,a9⟩:=c7.o.at_ eB a4;have e9:=Nat.lt_of_lt_of_le (a0.o H y) e_;have d:∀J,ab wp J->J.cell? ⟨H,U+j,none⟩=some (.int .i64 dK):=λ J f=>(f.cell (p:=⟨H,U+j,none⟩) e9).trans (by have:=a9 0 _ I;simpa using this);have b3:∀J,ab wr J->J.cell? ⟨P,a7+q,none⟩=some (.slice (some ⟨H,U,none⟩) T b0):=λ J f=>a1.o J (aM s f);have b2:∀J,ab wr J->J.cell? ⟨H,U+j,none⟩=some (.int .i64 dK):=λ J f=>d J (aM s f);have b4:∀J,ab wr J->J.cell? ⟨g,q,none⟩=some (.int .i64 F):=λ J f=>a'.o J (aM s f);have a5:dK∈a:=List.mem_of_getElem? E;obtain⟨V,c9⟩:=ck s d;clear s d a9 E y;go_upto_region 9 with fail;refine fy λ u0 e3 h8=>?_;refine ag 0 (h:=ag 1 (h:=ag 2 (h:=ag 3 (h:=ag 4 (h:=ag 5 (h:=ag 6 (h:=ag 7 (h:=ag 8 (h:=ag 9 (h:=ag 10 (h:=ag 11 (h:=?_))))))))))));refine cg Z ?_;have E:=aM V.o e3;by_cases av:dK<=F
   ·have t1:=ey av;have j0:=a1.o u0 E;have i_:=c9.o u0 E;have d:∀J,ab u0 J->wU wp a F (.int .i64 (if v<dK then dK else v)) (.int .i64 ((j:Int)+1)) J:=λ J f=>⟨_,j+1,I,cz,O,by split;exact .inr ⟨a5,av⟩;exact u,aM E f⟩;obtain⟨y,a9⟩:=ck d u;clear d u b3 b2 b4 E y1 M a5;go_wp2_with fail;go_roundw;case rel=>exact y.o _ (aN _ _)
    case measure=>exact bS
   have t1:=ep av;have d:∀J,ab u0 J->wU wp a F (.int .i64 v) (.int .i64 ((j:Int)+1)) J:=λ J f=>⟨_,j+1,I,cz,O,u,aM E f⟩;obtain⟨y,a9⟩:=ck d u;clear d u b3 b2 b4 E y1 M a5;go_wp2_with fail;go_roundw;case rel=>exact y.o _ (aN _ _)
   case measure=>exact bS
  obtain⟨d_,e0⟩:=eN a4;by_cases M:v<0
  ·have t1:=ey M;have d:zZ l D n w (.returned (.tuple Px)) wr:=⟨none,0,0,false,I,aM N.o s,(by intro h;cases h)⟩;obtain⟨y,a9,V⟩:=cf d u s;clear d u s;go_wp2_with fail;go_ret2;exact y.o
  have t1:=ep M;have u:=u.resolve_left M;have E:=dy Y.o s (λ i m=>m.2);obtain⟨h5,g8,jq,a6,-,a5,i7,-,-,b2⟩:=pf E (k:=q) aB v;injection a6 with K _ a3;injection K with K;injection K with b3 _ _;subst b3 a3;have d:∀J,aC J g 3 (jq.setIfInBounds q (.int .i64 v))->aw (·≠g) wr J->xB l D bC n w (.slice (some ⟨g,0,none⟩) n k) (gk-1) (.int .i64 ((q:Int)+1)) J:=λ J e4 f=>by
   have a3:q<l.length:=(by rw[<-a8.o];exact aB);have b3:q<zs.length:=(by rw[G.o.1];exact a3);have b4:=nV c8.o;refine⟨zs.set q v,q+1,cz,O,G.o.set a3 O (by rw[b4];exact u.2),W.o.set b3 (by rw[b4];exact u.2),λ p hp=>?_,b2 J e4,zv (aM N.o s) f e5⟩;by_cases e:p=q
   ·subst e;rw[nE b3,iQ c4.o];exact u.1
   rw[oF (eM e)];exact X.o p O
  obtain⟨y,c1,V⟩:=cf d a5 s;clear d a5 s b2 E u;go_wp2_with(refine dO I _ (.tmp 53) (.tmp 52) I g q 3 _ (.int .i64 v) I I c1.o O Z I I ?_;intro f_ Q s);have d:=y.o f_ Q s;have y:=ai d;clear d Q s;go_roundg (gk-1);case measure=>omega
  case rel=>exact y.o
 obtain⟨d1,d2⟩:=eN aB;have u:q=n:=O;have s:=b7.o wp C k zs t r L;obtain⟨c2,Y,N,G,W,X,c6⟩:=dW s r t L hle R u;clear s r t L hle R u c0;go_wp2_with fail;refine(c2.o).mono ?_;rintro e a5 ⟨b,rfl,r,s⟩;have E:=dy Y.o r (λ i m=>m.2);have m:=aM N.o r;cases b with
 |true=>have d:∀i,zZ l D n w (.returned (.tuple #[.slice C n k,.bool true])) (a5.drewN i):=λ i=>⟨C,n,k,true,I,m.drewN i,λ _=>⟨I,zs,Cd E i,G.o,by have:=X.o;rw[c6.o]at this;exact this⟩⟩;have y:=ai d;clear d r s E m;go_wp2_with fail;go_ret2;exact y.o 0
 |false=>
  have L:=b8.o a5 C k zs m E G.o;have u:=s I;obtain⟨c3,t,c0⟩:=cf L m u;clear L m u r s E;go_wp2_with fail;refine(c3.o).mono ?_;rintro e b2 ⟨s,u,xs,rfl,r,E,m,L,Q⟩;have dN:=Ir L m G.o c0.o Q;have e7:=Mh (l:=l) W.o;have i':=t.o.size;obtain⟨bY,g7,b1,h6,h7⟩:=dZ r;injection b1 with R g9 d9;subst R d9;have R:b2.ownsRow w.heap.size 3 1 (.slice s n u) n (xs.flatMap bE):=by
   obtain⟨q1,q2⟩:=r;refine⟨q1,?_⟩;rcases q2 with h0|⟨e1,d9,d',M,h9,rest⟩
   ·exact .inl h0
   exact .inr ⟨e1,d9,d',M,O,rest⟩
  have d:yQ l n w (fU l xs) (.slice s n u) b2:=⟨xs,I,m,R,aM t.o E⟩;have hm:fU l xs<e2:=by rw[c5.o];omega
  have y:=ai d;clear d r R E m L Q dN e7;go_wp2_with fail;go_roundg (fU l xs);case measure=>exact hm
  case rel=>exact y.o
theorem fT.iC:Good fT:=⟨λ h k=>wq h _ _ k,λ h k=>zF h _ _ k⟩
theorem HO:gQ Tryz.prog 34 50 7 56:=vW (z:=.agg PE) hO Z
theorem ui:gQ Tryz.prog 27 34 1 24:=vW (z:=.slice none 0 0) kv Z
theorem vi(A n c):fc Tryz.prog 34 1 [(0,.slice A n c)]=some [Value.slice A n c].toArray:=Z
theorem ue(A n c):∀u∈[Value.slice A n c],u.oneCell'=true:=by intro u hu;simp at hu;subst hu;rfl
theorem HZ{α:Type}{enc:α->List Value}{size n c:Nat}{w ae:World}{e:TypeId}{B:Option Addr}{l:List α}{V:Value}{base:Nat}(aJ:n=l.length)(h:ae.ownsRow w.heap.size e size (.slice B n c) n (l.flatMap enc))(g:base<=w.heap.size)(f:∀i,V.ownBlock=some i->i<w.heap.size):bl enc size ae (Rest ae base V) B n c l:=by subst aJ;obtain⟨A,d,a,h1⟩:=nS h;injection a with a _ b;subst a b;exact h1.more (λ i a=>⟨an a.1,a.2,λ e=>cM (f i e) a.1⟩)
theorem gF.boxed{w W g aj f y cs}(h:gr w (kL w) f aj cs y)(b:ab w W)(a:aC W g 63 cs.toArray):gF W g aj f y:=⟨cs,a,h.aq b⟩
def jH(y:bQ):List (List bz):=y.procs.map (λ x=>x.st.events)
def Ek(l:List (List bz))(w:World)(e:Ending)(ae:World):Prop:=∃(A:Option Addr) (c:Nat),e=.returned (.slice A l.length c)/\cN ae (cP ae w.heap.size) 1 (fT ae (cP ae w.heap.size)) A l.length c l/\ab w ae
def Bc(l:List (List bz))(W:World)(v i:Value)(wr:World):Prop:=∃k:Nat,i=.int .i64 k/\k<=l.length/\fB fT 1 34 wr W.heap.size v (l.take k)/\ab W wr
theorem Df(w aj f y cs)(B:gr w (kL w) f aj cs y)(aJ:y.procs.length<=1000)(he:∀x∈y.procs,x.st.events.length<=100000):Calls Tryz.prog 110 #[.agg cs.toArray] w (Ek (jH y) w):=by
 have a:=B;obtain⟨A,F,E,bM,bK,bN,bd,bj,ac,aL,bt,fn,bw,bk,bD,bH,lc,bB,rc,wn,wc,bF,bP,rfl,-⟩:=B;obtain⟨d,X,R⟩:=cf a aJ he;clear a aJ he;unfold dr;go_enter func110,ntmps110;go_wp2_with fail;generalize a:w.alloc _=W;have b:ab w W:=a▸cx w _;have c:gF W w.heap.size aj f y:=gF.boxed d.o b (by rw[<-a];exact cu w _ _);have h:Bc (jH y) W (.slice none 0 0) (.int .i64 0) W:=⟨0,I,ef _,ax uG,aN _ _⟩;obtain⟨c7,g⟩:=bJ w.heap.size;rw[<-g]at c⊢;obtain⟨e,Y,q⟩:=cf h c b;clear h c b a g d;go_loopw[3,4] (λ v i wr=>Bc (jH y) W v i wr) (λ _ i _=>y.procs.length- (intOf i).toNat);case atStart=>exact e.o
 clear e;obtain⟨k,rfl,c_,e,c⟩:=hrel;have hp:=Y.o.aq c;have j:(jH y).length=y.procs.length:=by simp[jH]
 by_cases b1:k<y.procs.length
 ·obtain⟨x,a⟩:∃x,y.procs[k]?=some x:=⟨_,dA b1⟩;obtain⟨L,P,N,a2,a4,a5,a3,a7,a6,C,b5,b0,a_,a',a9,b4,b3,b7,b6,c2,c1,b9,b8,bq,bg,bp,bu,M,V,K,G,H,Q,p1,q1,p2,q2,aK,aI,aR,aQ,cn,cv,bZ,bA,bh,cq,cm,gc,aJ,av,cj,ct,g,b2,av,l,b,aB⟩:=hp.proc a;obtain⟨_,_,_,_,_,_,_,_,_,_,_,_,z,s1,s2,u,S⟩:=aB.st;simp only[List.cons.injEq,Value.slice.injEq,and_true]at z;obtain⟨⟨rfl,rfl,rfl⟩,⟨rfl,rfl,rfl⟩,⟨rfl,rfl,rfl⟩,⟨rfl,rfl,rfl⟩⟩:=z;have D:=av wr (aN _ _) 3 _ I;have b_:=b wr (aN _ _) 3 _ I;obtain⟨d1,d2,d3,d4⟩:=ea b2;have c8:=R.o x (eo a);have m:=X.o;have c9:k<=1000:=O;have h:(jH y).take (k+1)=(jH y).take k++[x.st.events]:=by rw[nK];simp[jH,List.getElem?_map,a]
  have d:((jH y).take k).length=k:=aY;have d9:p2<=100000:=an s2.1;obtain⟨n,p,t,a1,c5,s,c4,U,r⟩:=df e c s2 h a m g j d;clear e c s2 h a m g j d av l b aB s1 u S hp;go_wp2_with(at_builtin;refine mD HO (.tmp 19) t.o.2.2.2 (mi tA _) O O ?_;intro c3 c6 d' u b;refine jo ?_);refine ai ?_;have h:=n.o.same fT.iC b (λ i _ a=>a);have m:=aM p.o b;have d:=HZ (V:=u3) (base:=W.heap.size) t.o.1 u p.o.size (λ i a=>by obtain⟨_,_,_,a8,_⟩:=n.o;exact(a8.lt i a).2);obtain⟨S,T,a0⟩:=cf h m d;clear h m d u b D b_;go_wp2_with(refine qs fT.iC ui (.tmp 21) (.tmp 12) (0,.tmp 20) T.o S.o ⟨_,_,_,I,a0.o⟩ (vi _ _ _) I (ue _ _ _) (cM r.o s.o) (cM r.o s.o) ?_;intro b_ c0 m u);refine ai ?_;have b:Bc (jH y) W b_ (.int .i64 ((k:Int)+1)) c0:=⟨k+1,cz,an U.o,by rw[a1.o];exact m,u⟩;have h:=ai b;clear b m u;go_wp2_with fail;go_roundw;case rel=>exact h.o
  case measure=>exact bS
 obtain⟨L,P,N,a2,a4,a5,a3,a7,a6,C,b5,b0,a_,a',a9,b4,b3,b7,b6,c2,c1,b9,b8,g,av,l⟩:=hp.sys;have D:=av wr (aN _ _) 3 _ I;obtain⟨d1,d2⟩:=eN (show¬k<C from O);rw[hU O]at e;obtain⟨m,u,rfl,d⟩:=e.done fT.iC;have b:Ek (jH y) w (.returned (.slice m (jH y).length u)) wr:=⟨m,u,I,?_,aM q.o c⟩
 ·have h:=ai b;clear b av l d c hp g j;go_wp2_with fail;go_ret;exact h.o
 have:=q.o.size;exact d.more (λ i a=>⟨an a.1,a.2⟩) (zF (λ i a=>⟨an a.1,a.2⟩))
theorem oq:gQ Tryz.prog 23 3 1 8:=vW (z:=.int .i64 0) eK Z
theorem ve:gQ Tryz.prog 189 23 1 24:=vW (z:=.slice none 0 0) underlying189 Z
theorem zh:gQ Tryz.prog 73 175 9 72:=vW (z:=.agg Pv) ll Z
theorem uf:(Tryz.prog.info? 4).map (λ i=>(i.zero,i.size,i.bytes))=some (some (.bool false),1,1):=Z
theorem vq(A n c):fc Tryz.prog 23 1 [(0,.slice A n c)]=some [Value.slice A n c].toArray:=Z
def jv(l:List Bool):Array Value:=(l.map Value.bool).toArray
theorem uV(l q b):(jv l).setIfInBounds q (.bool b)=jv (l.set q b):=by simp[jv,List.map_set]
theorem sH{l q}(h:q<l.length):(jv l)[q]?=some (.bool (l.getD q false)):=by simp[jv,List.getD,h]
theorem wK(l):(jv l).size=l.length:=by simp[jv]
def qS(x:cO)(a:List Int):Prop:=a.length<=100000/\∀k∈a,rq x k
def xQ(y:bQ)(w:World)(e:Ending)(ae:World):Prop:=∃(A:Option Addr) (m c:Nat) (b:Bool),e=.returned (.tuple #[.slice A m c,.bool b])/\ab w ae/\(b=true->m=y.procs.length/\∃bC:List Int,ae.ownsRow w.heap.size 3 1 (.slice A m c) m (bC.flatMap bE)/\∀p x,y.procs[p]?=some x->rq x (bC.getD p 0))
def rP(m n b:Nat)(W:World)(i:Value)(wr:World):Prop:=∃(k:Nat) (a:List Bool),i=.int .i64 k/\k<=m/\a.length=n/\aC wr b 4 (jv a)/\ab W wr
def vn(m:Nat)(W:World)(v i:Value)(wr:World):Prop:=∃(k:Nat) (st:List cy),i=.int .i64 k/\k<=m/\st.length<=k*20000/\wr.ownsRow W.heap.size 175 9 v st.length (st.flatMap da)/\ab W wr
def sr(y:bQ)(W:World)(v i:Value)(wr:World):Prop:=∃(k:Nat) (b:List (List Int)),i=.int .i64 k/\k<=y.procs.length/\b.length=k/\(∀(q:Nat) (x:cO) (a:List Int),y.procs[q]?=some x->b[q]?=some a->qS x a)/\fB jf 1 23 wr W.heap.size v b/\ab W wr
def yG(x:cO)(W:World)(v i:Value)(wr:World):Prop:=∃(k:Nat) (l:List Int),i=.int .i64 k/\k<=x.st.events.length+1/\(∃c∈x.bV,c.idx<=k)/\l.length<=k/\(∀z∈l,rq x z)/\wr.ownsRow W.heap.size 3 1 v l.length (l.flatMap bE)/\ab W wr
theorem sr.next{y W ae bT}{k:Nat}{x c a}(f:y.procs[k]?=some x)(e:c.length=k)(h:∀(q:Nat) (x:cO) (a:List Int),y.procs[q]?=some x->c[q]?=some a->qS x a)(i:qS x a)(j:fB jf 1 23 ae W.heap.size bT (c++[a]))(l:ab W ae)(m:k<1000):sr y W bT (.int .i64 ((k:Int)+1)) ae:=
 ⟨k+1,c++[a],cz,(List.getElem?_eq_some_iff.1 f).1,by simp[e],λ q cl g d b=>by
  by_cases aB:q<k
  ·rw[List.getElem?_append_left O]at b
   exact h q cl g d b
  ·rw[List.getElem?_append_right O]at b
   obtain rfl:q=k:=by
    have:=(List.getElem?_eq_some_iff.1 b).1
    simp at this
    omega
   rw[f]at d
   cases d
   rw[e,Nat.sub_self]at b
   simp at b
   rw[<-b]
   exact i,j,l⟩
theorem ER(w S aj n j f y cs U B b0 k7 r0)(l_:gr w (kL w) f aj cs y)(d:dB n f.bo j U y)(r3:n<=31)(t_:j<=10000)(m:∀i,S i->i<w.heap.size)(s:bl bE 1 w S B b0 k7 r0)(v5:b0<=100000):Calls Tryz.prog 70 #[.agg cs.toArray,.slice B b0 k7] w (xQ y w):=by
 have t:=l_;obtain⟨A,F,E,bM,bK,bN,bd,bj,ac,aL,bt,fn,bw,bk,bD,bH,lc,bB,rc,wn,wc,bF,bP,rfl,a5⟩:=l_;have g:=a5.procs.len;have r4:aL<=31:=by rw[g,d.len];exact r3
 clear a5;obtain⟨p0,b7,p5,n7,a6⟩:=dC t d m s g;clear t d m s g;unfold dr;go_enter func70,ntmps70;go_upto_region 2 with fail;generalize g:w.alloc _=P;have m:ab w P:=g▸cx w _;have d:aC P w.heap.size 63 (dr f y.busy aj A F E bM bK bN bd bj ac aL bt fn bw bk bD bH lc bB rc wn wc bF bP).toArray:=by rw[<-g];exact cu w _ _
 have s:gF P w.heap.size aj f y:=gF.boxed p0.o m d;obtain⟨c_,t⟩:=bJ w.heap.size;rw[<-t]at s d⊢;obtain⟨a_,c6,a4⟩:=cf s m d;clear s m d g t;go_wp2_with(refine ym oE uf O aL (.tmp 21) O ?_;intro s0 Y m);refine ai ?_;obtain⟨R,d⟩:=bJ P.heap.size;have a0:rP aL aL R P (.int .i64 0) s0:=⟨0,List.replicate aL false,I,Nat.zero_le _,aT,by rw[d];simpa [jv]using Y,m⟩;have g:P.heap.size<=R:=O;rw[<-d];obtain⟨L,a8⟩:=ck a0 g;clear a0 g Y m d;go_wp2_with fail;go_loopw[8] (λ i wr=>rP aL aL R P i wr) (λ i _=>aL- (intOf i).toNat);case atStart=>exact L.o
 clear L;obtain⟨k,a9,rfl,b4,d,T,g⟩:=hrel;by_cases D:k<aL
 ·obtain⟨x,s⟩:∃x,y.procs[k]?=some x:=⟨_,dA (an a6.o)⟩;obtain⟨i_,j2,j1,j8,j',j_,j9,k5,k0,m8,m7,l6,l5,l0,k_,m3,m2,m',m9,n3,n2,n0,m_,bq,bg,bp,bu,M,V,K,G,H,Q,p1,q1,p2,q2,aK,aI,aR,aQ,cn,cv,bZ,bA,bh,cq,cm,gc,aJ,av,cj,ct,a',e2,av,a5,X,aB⟩:=a_.o.proc s;have a7:=av wr g 3 _ I;have W:=X wr g 0 _ I;obtain⟨k8,m⟩:=bJ x.down;rw[<-m,Nat.add_zero]at W;obtain⟨d1,d2,d3,d4⟩:=ea D;obtain⟨d5,d6,d7,d8⟩:=ea e2;obtain⟨C,N,a2,j6⟩:=cH T g d a';clear T g d a' av a5 X aB m;go_wp2_with(refine dO I _ (.tmp 36) (.tmp 35) I R k 4 _ (.bool k8) I I C.o (by rw[wK];have:=a2.o;omega) Z I I ?_;intro e5 a1 a3);have m:rP aL aL R P (.int .i64 ((k:Int)+1)) e5:=⟨k+1,a9.set k k8,cz,O,by simp[a2.o],by rw[<-uV];exact a1,zv N.o a3 a8.o⟩;have t:=ai m;clear m a1 a3 a7 W;go_roundw;case rel=>exact t.o
  case measure=>exact bS
 obtain⟨d1,d2⟩:=eN D;have L:=cE (rP b0 aL R P (.int .i64 0) wr) (⟨0,a9,I,Nat.zero_le _,d,T,g⟩);clear d T g;go_wp2_with fail;go_loopw[9] (λ i wr=>rP b0 aL R P i wr) (λ i _=>b0- (intOf i).toNat);case atStart=>exact L.o
 clear L d1 d2 D b4;obtain⟨k,a9,rfl,b4,d,T,g⟩:=hrel;by_cases D:k<b0
 ·obtain⟨h7,m5,v,rfl,b1,b5,b3⟩:=n7.o.at_ eB D;have b8:wr.cell? ⟨h7,m5+k,none⟩=some (.int .i64 v):=((aM c6.o g).cell (p:=⟨h7,m5+k,none⟩) (p5.o h7 b1)).trans (by have:=b3 0 _ I;simpa using this);obtain⟨d1,d2,d3,d4⟩:=ea D;have b6:∀W J,W.length=aL->aC J R 4 (jv W)->ab P J->rP b0 aL R P (.int .i64 ((k:Int)+1)) J:=λ W J h1 h2 aA=>⟨k+1,W,cz,O,h1,h2,aA⟩;obtain⟨C,N,a2,b2⟩:=cH T g d b6;clear T g d b6 b3 b5 b1;by_cases W:0<=v
  ·have t1:=ey W;by_cases b1:v<aL
   ·obtain⟨bZ,rfl⟩:∃bZ:Nat,v=bZ:=⟨v.toNat,O⟩;obtain⟨k9,k',s5,s6⟩:=ea (show bZ<aL from O);clear W b1;go_wp2_with(refine dO I _ (.tmp 61) (.const (.bool true)) I R bZ 4 _ (.bool true) I I C.o (by rw[wK];have:=a2.o;omega) Z I I ?_;intro e5 a1 a3);have m:=b2.o (a9.set bZ true) e5 (by simp[a2.o]) (by rw[<-uV];exact a1) (zv N.o a3 a8.o);have t:=ai m;clear m a1 a3 b8;go_roundw;case rel=>exact t.o
    case measure=>exact bS
   have t2:=ep b1;have m:=b2.o a9 wr a2.o C.o N.o;have t:=ai m;clear m W b1;go_wp2_with fail;go_roundw;case rel=>exact t.o
   case measure=>exact bS
  have t1:=ep W;have m:=b2.o a9 wr a2.o C.o N.o;have t:=ai m;clear m W;go_wp2_with fail;go_roundw;case rel=>exact t.o
  case measure=>exact bS
 obtain⟨d1,d2⟩:=eN D;obtain⟨b9,rfl⟩:=aW (wr:World);have a1:=a_.o.aq g;have W:=aM c6.o g;have Y:=g.ay a4.o a4.o.lt;have a0:vn aL b9 (.slice none 0 0) (.int .i64 0) b9:=⟨0,[],I,Nat.zero_le _,aT,ee _ _ _ _,aN _ _⟩;obtain⟨L,b_,c7,b5,C,a2⟩:=er a0 a1 W Y T d;clear a0 a1 W Y T d g a_ c6 a4 a8;go_wp2_with fail;go_loopw[10,11] (λ v i wr=>vn aL b9 v i wr) (λ _ i _=>aL- (intOf i).toNat);case atStart=>exact L.o
 clear L d1 d2 D b4;obtain⟨k,st,rfl,b4,c5,Y,g⟩:=hrel;by_cases D:k<aL
 ·obtain⟨x,s⟩:∃x,y.procs[k]?=some x:=⟨_,dA (an a6.o)⟩;obtain⟨i_,j2,j1,j8,j',j_,j9,k5,k0,m8,m7,l6,l5,l0,k_,m3,m2,m',m9,n3,n2,n0,m_,bq,bg,bp,bu,M,V,K,G,H,Q,p1,q1,p2,q2,aK,aI,aR,aQ,cn,cv,bZ,bA,bh,cq,cm,gc,aJ,av,cj,ct,a',e2,av,a5,X,aB⟩:=b_.o.proc s;have a_:=b7.o.procs k x s;have s8:=b7.o.gD;have i7:=a_.log.len;have d:=a_.known.len;have a1:=aB.log.1;have s_:cm<=10000:=O;have t':aJ<=10000:=an aB.known.1;(try simp only[List.length_map]at d);have a7:=av wr g 3 _ I;have b1:=X wr g 10 _ I;have c1:=λ J s=>av J s 3 _ I;have a4:=λ J s=>X J s 11 _ I;have e1:=aB.log.aq g;have a3:=aB.known;obtain⟨b,W⟩:=bJ (a9.getD k false);have a8:∀J,ab b9 J->J.cell? ⟨R,k,none⟩=some (.bool b):=λ J s=>by rw[W,(s.ay C.o C.o.lt).cell];exact sH (an a2.o)
  obtain⟨d1,d2,d3,d4⟩:=ea D;obtain⟨d5,d6,d7,d8⟩:=ea e2;obtain⟨g_,N,e9,o0,b8,h5,q8,h6,j6⟩:=df Y g e1 a3 c5 c1 a4 a8 a';obtain⟨g7,o4,j5⟩:=cf a1 i7 d;clear Y g e1 a3 c5 c1 a4 a8 a' a1 i7 d av a5 X aB a_ W s;go_wp2_with(at_builtin;refine Bs zh (.tmp 73) (.tmp 67) N.o g_.o e9.o.2.2.2 (mi mU _) (an b8.o) (an b8.o) ?_;intro v2 c4 a3 a1);refine ai ?_;have a8:=h6.o c4 a1;cases b with
  |true=>
   have m:vn aL b9 v2 (.int .i64 ((k:Int)+1)) c4:=⟨k+1,st++x.log,cz,O,by have:=b8.o;have:=g7.o;simp;omega,by simpa [g7.o]using a3,a1⟩;have t:=ai m;clear m a3 a1 a7 b1;go_wp2_with fail;go_roundw;case rel=>exact t.o
   case measure=>exact bS
  |false=>
   have a7:=h5.o c4 a1;have c2:=q8.o c4 a1;have a4:=Bu c4 (·<c4.heap.size) H aJ av _ (λ _ h=>h) ((o0.o.aq a1).more (λ i d=>Nat.lt_of_lt_of_le d a1.size)) O;obtain⟨n_,o8,n9⟩:=cf a4 a3 a1;clear a4 a3 a1 b1;go_wp2_with fail;refine(n_.o).mono ?_;rintro e g1 ⟨bY,c0,rfl,a3,b1⟩;have b3:=aM n9.o b1;have a4:=dy o8.o b1 (λ i d=>d.2);obtain⟨r7,a1⟩:=bJ (x.known.map cV.az).length;rw[<-a1]at a3⊢;have v3:r7<=10000:=(by rw[a1,uQ];have:=j5.o;omega);obtain⟨p6,o9,c3,o6⟩:=cH a3 a4 b3 a1;clear a3 a4 b3 a1 b1 a7 c2 a8;go_wp2_with(at_builtin;refine Bs zh (.tmp 87) (.tmp 80) c3.o o9.o p6.o.2.2.2 (mi mU _) (an b8.o) (an b8.o) ?_;intro v4 a1 a3 a4);refine ai ?_;have m:vn aL b9 v4 (.int .i64 ((k:Int)+1)) a1:=⟨k+1,st++x.log++x.known.map cV.az,cz,O,by have:=b8.o;have:=j5.o;have:=o4.o;simp only[List.length_append,List.length_map];omega,by simpa [g7.o,o6.o,Nat.add_assoc]using a3,a4⟩;have t:=ai m;clear m a3 a4;go_wp2_with fail;go_roundw;case rel=>exact t.o
   case measure=>exact bS
 obtain⟨d1,d2⟩:=eN D;obtain⟨a3,rfl⟩:=aW (wr:World);have d_:=b_.o.aq g;have d9:=aM c7.o g;have c8:=g.ay b5.o b5.o.lt;have c9:=g.ay C.o C.o.lt;obtain⟨n5,q_,rfl,c2⟩:=nS Y;obtain⟨m4,d'⟩:=bJ st.length;have v7:m4<=1000000:=by have:aL*20000<=31*20000:=Nat.mul_le_mul_right _ r4;have:k*20000<=aL*20000:=Nat.mul_le_mul_right _ b4;omega
 rw[<-d']at c2⊢;have a0:sr y a3 (.slice none 0 0) (.int .i64 0) a3:=⟨0,[],I,Nat.zero_le _,I,(by intro _ _ _ _ h;cases h),uG,aN _ _⟩;obtain⟨L,e_,o3,j3,j4,p8⟩:=er a0 d_ d9 c8 c9 c2;clear a0 d_ d9 c8 c9 c2 g b_ c7 b5 C Y c5 d';go_wp2_with fail;go_loopw[12,13] (λ v i wr=>sr y a3 v i wr) (λ _ i _=>aL- (intOf i).toNat);case atStart=>exact L.o
 clear L d1 d2 D b4;obtain⟨k,b_,rfl,b4,C,f_,d',g⟩:=hrel;obtain⟨b5,rfl⟩:=aW (wr:World);by_cases D:k<aL
 ·obtain⟨x,s⟩:∃x,y.procs[k]?=some x:=⟨_,dA (an a6.o)⟩;obtain⟨i_,j2,j1,j8,j',j_,j9,k5,k0,m8,m7,l6,l5,l0,k_,m3,m2,m',m9,n3,n2,n0,m_,bq,bg,bp,bu,M,V,K,G,H,Q,p1,q1,p2,q2,aK,aI,aR,aQ,cn,cv,bZ,bA,bh,cq,cm,gc,aJ,av,cj,ct,a',e2,av,a5,X,aB⟩:=e_.o.proc s;have a_:=b7.o.procs k x s;have h_:=a_.af;have s9:=a_.fO;obtain⟨_,_,_,_,_,_,_,_,_,_,_,_,l1,s1,s2,d_,e0⟩:=aB.st;simp only[List.cons.injEq,Value.slice.injEq,and_true]at l1;obtain⟨⟨rfl,rfl,rfl⟩,⟨rfl,rfl,rfl⟩,⟨rfl,rfl,rfl⟩,⟨rfl,rfl,rfl⟩⟩:=l1;have c9:=s2.1;have c8:=aB.bV.len;have u_:bh<=20000:=O;have a7:=av b5 g 3 _ I;have e3:=X b5 g 9 _ I;have c1:=λ J s=>av J s 3 _ I;have d9:=λ J s=>X J s 3 _ I;have c5:=Jf b5 _ _ K bh cq x.bV (λ i d=>Nat.lt_of_lt_of_le d g.size) (aB.bV.mW.aq g (λ cs a h=>iz.aq g h)) O;obtain⟨b,W⟩:=bJ (a9.getD k false);have a8:∀J,ab a3 J->J.cell? ⟨R,k,none⟩=some (.bool b):=λ J s=>by rw[W,(s.ay j4.o j4.o.lt).cell];exact sH (an a2.o)
  obtain⟨d1,d2,d3,d4⟩:=ea D;obtain⟨d5,d6,d7,d8⟩:=ea e2;have b6:∀a bT ae,qS x a->fB jf 1 23 ae a3.heap.size bT (b_++[a])->ab a3 ae->sr y a3 bT (.int .i64 ((k:Int)+1)) ae:=λ a bT ae h1 h2 aA=>sr.next s C f_ h1 h2 aA O;have c7:∀i,b5.heap.size<=i->u12.ownBlock≠some i:=λ i d=>d'.fresh d;have i7:b_.length<=31:=O;obtain⟨g8,N,c2,h5,q9,h6,b2,p9,q7⟩:=df d' g c5 c1 d9 a8 b6 s s2;obtain⟨f',e6,g6,o_,e7,j6⟩:=er a_ c7 h_ c9 c8 a';clear d' g c5 c1 d9 a8 b6 s s2 a_ c7 h_ c9 c8 a' av a5 X aB W s1 d_ e0 C;go_wp2_with fail;refine(c2.o).mono ?_;rintro e g1 ⟨j0,c0,rfl,X,b1⟩;have b3:=aM N.o b1;have C:=rh g1 c_ aj k f y x (e_.o.aq b3) p9.o;obtain⟨bk,g0⟩:=bJ x.st.events.length;rw[<-g0]at C;obtain⟨a5,a',c3,a_,g5⟩:=dC X b1 b3 C g0;clear X b1 b3 C g0 a7 e3 c2;go_wp2_with fail;refine(a_.o).mono ?_;rintro e a1 ⟨rfl,w4,b6⟩;have X:ab g1 a1:=b6▸ek _ _;have a4:=aM c3.o X;have b3:=aM a'.o X;have C:=a5.o.aq (X.mono (λ i d=>d.2));have c1:=e_.o.aq a4;have c2:bl bE 1 a1 (λ i=>b5.heap.size<=i/\i<g1.heap.size) j0 bh c0 (x.bV.map fH.idx):=⟨by simp[e7.o],C.2.1,C.2.2.1,C.reads⟩;have a8:=h6.o a1 a4;have a7:=h5.o a1 a4;have d9:=q9.o a1 a4;have c5:=X.size;obtain⟨b1,g',n6,o',j7,c8⟩:=er a4 b3 C c1 c2 c5;clear a4 b3 C c1 c2 c5 b6 X a5 a' c3 a_;cases b with
  |true=>
   have C:=ID a1 (·<a1.heap.size) k bg j0 n5 p2 q2 bh c0 m4 q_ x.st.events (x.bV.map fH.idx) st (λ _ h=>h) ((q7.o.aq b1.o).more (λ i d=>Nat.lt_of_lt_of_le d b1.o.size)) (j7.o.more (λ i d=>cM d.2 c8.o)) ((p8.o.aq (b1.o.mono (λ i d=>d.2))).more (λ i d=>Nat.lt_of_lt_of_le d.2 b1.o.size)) (cM g6.o o_.o) (an e7.o) O;have a4:=ai C;clear C;go_wp2_with fail;refine(a4.o).mono ?_;rintro e C ⟨r,g4,h8,rfl,e3,X,c3,c9⟩
   have a':qS x r:=⟨an g6.o,λ z a5=>by
    obtain⟨h1,h2,c,av,aA⟩:=c3 z a5
    obtain⟨bc,r1,rfl⟩:=xh.1 av
    exact⟨h1,h2,bc,r1,aA⟩⟩
   have c1:=g8.o.same sw (aM g'.o X) (λ i _ d=>d);have b3:=aM b1.o X;have a_:bl bE 1 C (Rest C a3.heap.size u12) g4 r.length h8 r:=e3.more (λ i d=>⟨cM d.1 b1.o.size,d.2,e6.o i (cM d.1 g'.o.size)⟩);obtain⟨g9,b6,c7,c5⟩:=cH c1 b3 a_ a';clear c1 b3 a_ a' e3 X c3 c9 a7 d9 a8 a4;go_wp2_with(refine qs sw ve (.tmp 127) (.tmp 115) (0,.tmp 126) b6.o g9.o ⟨_,_,_,I,c7.o⟩ (vq _ _ _) I (ue _ _ _) O O ?_;intro v6 n1 a7 a4);refine ai ?_;have m:=b2.o _ _ _ c5.o a7 a4;have t:=ai m;clear m a7 a4;go_wp2_with fail;go_roundw;case rel=>exact t.o
   case measure=>exact bS
  |false=>
   have a7:=vP a1 c_ aj f y o'.o;obtain⟨r6,a8⟩:=bJ (rf f.bo);rw[<-a8]at a7;have o5:=ai a7;clear a7 a8;go_wp2_with fail;refine(o5.o).mono ?_;rintro e C ⟨rfl,w5,i9⟩;have a7:ab a1 C:=i9▸ek _ _;have b3:=aM b1.o a7;have v_:=a7.size;have e0:=aM g'.o a7;have h9:=n6.o.aq (a7.mono (λ i d=>cM d.2 c8.o));have c1:=g8.o.same sw e0 (λ i _ d=>d);obtain⟨c9,a8⟩:∃c3,x.bV[0]?=some c3:=⟨_,dA (wy.2 f'.o.bV)⟩;have r2:0<bh:=cM e7.o (wy.2 f'.o.bV);have l7:=f'.o.en c9 (eo a8);obtain⟨c3,i8⟩:∃c3:Nat,c9.idx=c3:=⟨c9.idx.toNat,O⟩;have i':=j7.o.aq (a7.mono (λ i d=>cM d.2 c8.o));obtain⟨k6,m6,r8,rfl,-,e4,h'⟩:=i'.at_ eB r2;obtain rfl:r8=(c3:Int):=(by rw[gU,a8]at e4;simp at e4;rw[<-e4];exact i8);have y1:C.cell? ⟨k6,m6,none⟩=some (.int .i64 c3):=(by have:=h' 0 _ I;simpa using this);have w3:(0:Int)<bh:=O;have h_:bk<=64:=cM g5.o g6.o;have g0:x.st.events.length<=bk:=an g5.o;have s':bk<=x.st.events.length:=an g5.o;cases r6 with
   |true=>
    have a0:yG x C (.slice none 0 0) (.int .i64 c3) C:=⟨c3,[],I,O,⟨c9,eo a8,O⟩,aT,aT,ee _ _ _ _,aN _ _⟩;obtain⟨L,b6,g9,e8⟩:=cH a0 b3 c1 e0;clear a0 b3 c1 e0 i9 a7 h9 a8 l7 i8 i' e4 h';go_wp2_with fail;go_loopw[16,17] (λ v i wr=>yG x C v i wr) (λ _ i _=>bk+1- (intOf i).toNat);case atStart=>exact L.o
    clear L;obtain⟨q,l,rfl,m0,d_,v9,d9,Y,a0⟩:=hrel;by_cases aB:q<=bk
    ·have k9:=ey aB;have k':decide ((q:Int)<=(bk:Int))=true:=ey O;have T:rq x q:=⟨O,O,d_⟩;obtain⟨c,L,l9⟩:=d_
     have l8:∀bT ae,ae.ownsRow C.heap.size 3 1 bT (l.length+1) ((l++[(q:Int)]).flatMap bE)->ab C ae->yG x C bT (.int .i64 ((q:Int)+1)) ae:=λ bT ae h1 h2=>⟨q+1,l++[(q:Int)],cz,O,⟨c,L,O⟩,aY,λ z a5=>by
      rcases jV.1 a5 with h|h
      ·exact d9 z h
      ·simp at h;rw[h];exact T,ax h1,h2⟩
     obtain⟨g_,o1,o7⟩:=cf Y a0 l8;clear Y a0 l8 T d9 L l9 m0;go_wp2_with(refine rH (b:=(q:Int)) oq (.tmp 141) (.tmp 139) (0,.tmp 140) o1.o g_.o (mj _) I (jG _) O O ?_;intro r9 T l8 L);refine ai ?_;have m:=o7.o r9 T l8 L;have t:=ai m;clear m l8 L;go_wp2_with fail;go_roundw;case rel=>exact t.o
     case measure=>exact bS
    have k9:=ep aB;have k':decide ((q:Int)<=(bk:Int))=false:=ep O;obtain⟨n4,q',rfl,m0⟩:=nS Y;have a':qS x l:=⟨O,d9⟩;have l8:=g9.o.same sw a0 (λ i _ d=>d);have l9:=aM b6.o a0;have a_:bl bE 1 wr (Rest wr a3.heap.size u12) n4 l.length q' l:=m0.more (λ i d=>⟨cM d.1 b6.o.size,d.2,e6.o i (cM d.1 e8.o.size)⟩);obtain⟨n8,n',c7,c5⟩:=cH l8 l9 a_ a';clear l8 l9 a_ a' Y a0 d9 m0 d_;go_wp2_with(refine qs sw ve (.tmp 145) (.tmp 143) (0,.tmp 144) n'.o n8.o ⟨_,_,_,I,c7.o⟩ (vq _ _ _) I (ue _ _ _) O O ?_;intro r_ e5 d9 d_);refine ai ?_;have m:=b2.o _ _ _ c5.o d9 d_;have t:=ai m;clear m d9 d_;go_wp2_with fail;go_roundw;case rel=>exact t.o
    case measure=>exact bS
   |false=>
    obtain⟨r5,s3,i1,i2,i3,i4,i5⟩:=oq.i
    have a':qS x (x.bV.map fH.idx++[(bk:Int)]):=⟨aY,λ z a5=>by
     rcases jV.1 a5 with h|h
     ·obtain⟨c,av,rfl⟩:=xh.1 h
      have:=f'.o.en c av
      exact⟨this.1,this.2.1,c,av,sG _⟩
     ·simp at h
      rw[h]
      exact⟨O,O,c9,eo a8,O⟩⟩
    obtain⟨b6,e8,l8,c5,p',p_,q0,q5,q6⟩:=df b3 e0 h9 a' i1 i2 i3 i4 i5;clear b3 e0 h9 a' i1 i2 i3 i4 i5 i9 a7 a8 l7 i8 i' e4 h' y1 c1;go_wp2_with(refine lr I 23 3 1 _ I eK _ [(0,.int .i64 bk)] I (mj _) ?_;intro n1 a8 a4 w1;refine jo ?_);refine ai ?_;have c1:dz n1 (λ i=>i=C.heap.size) 1 (some ⟨C.heap.size,0,none⟩) 1 (bE bk):=⟨I,λ _=>⟨_,0,I,I,λ i u hu=>by rw[a8.cell];simpa [bE]using hu⟩⟩;have a0:=l8.o.aq (a4.mono (λ i d=>cM d.2 c8.o));have b3:=aM e8.o a4;have a':=aM b6.o a4;obtain⟨m0,i9,a7,s4⟩:=cH c1 a0 b3 a';clear c1 a0 b3 a' a8 a4;go_wp2_with(at_builtin;refine Hb _ I (.tmp 104) (.tmp 106) 23 I 3 r5 s3 1 8 eK p'.o p_.o q0.o q5.o q6.o O _ (some ⟨k6,m6,none⟩) bh c0 _ I i9.o (λ i=>i=C.heap.size) (some ⟨C.heap.size,0,none⟩) 1 1 (bE bk) I m0.o (jG _) dQ O ?_;intro a0 a8 T a' L;refine jo ?_);refine ai ?_;have b3:ab b5 T:=bR a7.o L (λ i d=>⟨Nat.lt_of_lt_of_le d a7.o.size,λ h=>an h.1⟩);have e0:=aM N.o b3;have c1:=g8.o.same sw b3 (λ i _ d=>d);have w2:=L.size
    have a_:bl bE 1 T (Rest T a3.heap.size u12) a0 (bh+1) a8 (x.bV.map fH.idx++[(bk:Int)]):=⟨by simp[e7.o],a'.2.1,a'.2.2.1,by
     have:=a'.reads
     rw[hJ]
     refine(by simpa using this:dz T _ 1 a0 (bh+1) _).more (λ i d=>?_)
     have h0:=a7.o.size
     have s7:=N.o.size
     rcases d with h|h
     ·exact⟨an h.1,by have:=h.2;have:=a7.o.size;have:=c8.o;have:=e8.o.size;omega,e6.o i h.1⟩
     ·exact⟨an h.1,h.2,e6.o i (an h.1)⟩⟩
    obtain⟨i',l7,c7⟩:=cf c1 e0 a_;clear c1 e0 a_ a' L b3;go_wp2_with(refine qs sw ve (.tmp 108) (.tmp 103) (0,.tmp 107) l7.o i'.o ⟨_,_,_,I,c7.o⟩ (vq _ _ _) I (ue _ _ _) O O ?_;intro r_ e5 d9 d_);refine ai ?_;have m:=b2.o _ _ _ c5.o d9 d_;have t:=ai m;clear m d9 d_;go_wp2_with fail;go_roundw;case rel=>exact t.o
    case measure=>exact bS
 obtain⟨d1,d2⟩:=eN D;have e4:=aM o3.o g;have W:=g.ay j3.o j3.o.lt;have hp:=e_.o.aq g;obtain⟨jc,d_,c2⟩:=hp;have e0:jc=dr f y.busy aj A F E bM bK bN bd bj ac aL bt fn bw bk bD bH lc bB rc wn wc bF bP:=by have:=d_.symm.trans W;injection this with this;injection this with this;simpa using this
 rw[e0]at c2;have a':b_.length=aL:=an a6.o;obtain⟨bY,c0,rfl,a_⟩:=d'.done sw
 have h9:=Df b5 aj f y _ c2 (by rw[b7.o.len];omega) (λ x s=>by
  obtain⟨q,aB⟩:=mv s
  have:=(b7.o.procs q x aB).af
  omega)
 have e1:(jH y).length=aL:=by simp[jH];exact a6.o.symm
 have d9:∀z∈b_,z.length<=100000:=λ z a5=>by obtain⟨q,aB⟩:=mv a5;have v8:=(dV.1 aB).1;exact(f_ q y.procs[q] z (dA (an a6.o)) aB).1
 rw[a']at a_⊢;obtain⟨c6,b3,c1,e9,i8,h',p7,N,l9⟩:=df e4 W h9 e1 f_ d9 a_ g a';clear e4 W h9 e1 f_ d9 a_ g a' d_ c2 e0 d';unfold dr at b3 c1;go_wp2_with(refine ew I _ (.tmp 2) I c_ 63 _ _ I b3.o tH I Z ?_;refine jo ?_);refine ai ?_;go_wp2_with fail;refine(c1.o).mono ?_;rintro e C ⟨g4,h8,rfl,e3,X⟩;have a_:=X
 have a':=Jz C (·<C.heap.size) g4 bY aL h8 c0 (jH y) b_ (λ _ h=>h) (by rw[<-e9.o];exact e3.more (λ i d=>d.2) (zF (λ i d=>d.2))) ((p7.o.aq (X.mono (λ i d=>d.2)) (jf.aq (X.mono (λ i d=>d.2)))).more (λ i d=>Nat.lt_of_lt_of_le d.2 X.size) (jf.more (λ i d=>Nat.lt_of_lt_of_le d.2 X.size))) O (λ z a5=>by
  obtain⟨x,s,rfl⟩:=xh.1 a5
  obtain⟨q,aB⟩:=mv s
  have:=(b7.o.procs q x aB).af
  omega) h'.o
 have a4:=aM c6.o X;rw[e9.o];obtain⟨c2,g⟩:=ck a' a4;clear a' a4 e3 X a_;go_wp2_with fail;refine(c2.o).mono ?_;rintro e T ⟨a0,a_,a8,X,rfl,L,a4⟩
 have m:∀i,xQ y w (.returned (.tuple #[.slice a0 a_ a8,.bool X])) (T.drewN i):=λ i=>⟨a0,a_,a8,X,I,(aM g.o L).drewN i,λ W=>by
  obtain⟨rfl,bC,Y,e3,d_⟩:=a4 W
  refine⟨a6.o,bC,Cd ?_ i,λ p x s=>?_⟩
  ·have a5:=g.o.size
   obtain⟨q1,q2⟩:=Y
   refine⟨q1,?_⟩
   rcases q2 with h0|⟨c_,d9,d',e0,e1,rest⟩
   ·exact .inl h0
   ·exact .inr ⟨c_,d9,d',e0,O,rest⟩
  ·have hp:=(dV.1 s).1
   have a':p<b_.length:=cM a6.o l9.o
   have:=d_ p (an a6.o)
   rw[iQ (dA a')]at this
   exact(i8.o p x _ s (dA a')).2 _ this⟩
 have t:=ai m;clear m L a4;go_wp2_with fail;go_ret2;exact t.o 0
def CX(w:World)(e:Ending)(ae:World):Prop:=∃(A:Option Addr) (m c:Nat) (a:List (List Int)),e=.returned (.slice A m c)/\cN ae (cP ae w.heap.size) 1 (jf ae (cP ae w.heap.size)) A m c a/\ab w ae/\m<=65536/\∀z∈a,z.length<=16
def yN(M:Nat)(w:World)(v i:Value)(wr:World):Prop:=∃(k:Nat) (a:List (List Int)),i=.int .i64 k/\k<=M/\a.length<=k/\(∀z∈a,z.length<=16)/\fB jf 1 23 wr w.heap.size v a/\ab w wr
def xN(n:Nat)(W:World)(v i:Value)(wr:World):Prop:=∃(q:Nat) (l:List Int),i=.int .i64 q/\q<=n/\l.length<=q/\wr.ownsRow W.heap.size 3 1 v l.length (l.flatMap bE)/\ab W wr
theorem ME(w)(n y:Int)(aJ:n=2\/n=3):Calls Tryz.prog 112 #[n,y] w (CX w):=by
 obtain⟨M,c⟩:=aW (2^n.toNat:Nat);obtain⟨N,d⟩:=aW (n.toNat:Nat);have e:yN M w (.slice none 0 0) (.int .i64 0) w:=⟨0,[],I,Nat.zero_le _,aT,aT,uG,aN _ _⟩;have a:=ai e;clear e;have key:(n=2/\(∀k:Nat,k<M->decide ((k:Int)<4)=true)/\(∀k:Nat,¬k<M->decide ((k:Int)<4)=false)/\(∀k:Nat,k<N->decide ((k:Int)<2)=true)/\(∀k:Nat,¬k<N->decide ((k:Int)<2)=false))\/(n=3/\(∀k:Nat,k<M->decide ((k:Int)<8)=true)/\(∀k:Nat,¬k<M->decide ((k:Int)<8)=false)/\(∀k:Nat,k<N->decide ((k:Int)<3)=true)/\(∀k:Nat,¬k<N->decide ((k:Int)<3)=false)):=by
  rcases aJ with rfl|rfl
  ·have h1:M=4:=c;have h2:N=2:=d;exact .inl ⟨I,λ k h=>ey O,λ k h=>ep O,λ k h=>ey O,λ k h=>ep O⟩
  have h1:M=8:=c;have h2:N=3:=d;exact .inr ⟨I,λ k h=>ey O,λ k h=>ep O,λ k h=>ey O,λ k h=>ep O⟩
 rcases key with ⟨rfl,f,g,j,m⟩|⟨rfl,f,g,j,m⟩
 all_goals
  have b2:M<=8:=by rw[c];decide
  have b3:N<=3:=by rw[d];decide
  obtain⟨V,W,X,Y,a_,b0⟩:=er f g j m c d;clear f g j m c d;go_enter func112,ntmps112;by_cases hm:y<0
  ·have t2:=ey hm;go_wp2_with fail;go_ret;exact⟨none,0,0,[],I,iv,aN _ _,O,aT⟩
  have t2:=ep hm;clear hm;go_wp2_with fail;go_loopw[5,6] (λ v i wr=>yN M w v i wr) (λ _ i _=>M- (intOf i).toNat);case atStart=>exact a.o
  clear a;obtain⟨k,f,rfl,b4,K,s,j,t⟩:=hrel;by_cases H:k<M
  ·have d1:=V.o k H;obtain⟨g,rfl⟩:=aW (wr:World);have e:xN N g (.slice none 0 0) (.int .i64 0) g:=⟨0,[],I,Nat.zero_le _,aT,World.ownsRow_nil _ _ _ _,aN _ _⟩;have m:∀J bT,((∃l:List Int,l.length<=16/\fB jf 1 23 J w.heap.size bT (f++[l]))\/fB jf 1 23 J w.heap.size bT f)->ab w J->yN M w bT (.int .i64 ((k:Int)+1)) J:=λ J bT h aA=>by
    rcases h with ⟨l,h1,h2⟩|h2
    ·exact⟨k+1,f++[l],cz,O,aY,λ z a5=>by
      rcases List.mem_append.1 a5 with h|h
      ·exact s z h
      ·simp at h;rw[h];exact h1,h2,aA⟩
    exact⟨k+1,f,cz,O,O,s,h2,aA⟩
   have c:∀i,g.heap.size<=i->u5.ownBlock≠some i:=λ i d=>j.fresh d;have b7:f.length<=8:=O;obtain⟨a,A,x,D,R⟩:=dC e j t m c;clear e j t m c s K;go_wp2_with fail;go_loopw[7,8] (λ v i wr=>xN N g v i wr) (λ _ i _=>N- (intOf i).toNat);case atStart=>exact a.o
   clear a;obtain⟨q,l,rfl,aB,b5,p,e⟩:=hrel;by_cases P:q<N
   ·have a2:=X.o q P;have b1:(0:Int)<=q:=O;have a:∀(bT:Value) (l':List Int) (J:World),l'.length<=l.length+1->J.ownsRow g.heap.size 3 1 bT l'.length (l'.flatMap bE)->ab g J->xN N g bT (.int .i64 ((q:Int)+1)) J:=λ bT l' J h1 h2 aA=>⟨q+1,l',cz,O,O,h2,aA⟩;obtain⟨E,B,C⟩:=cf p e a;clear p e a;go_upto_if 36 with fail;generalize (bits BinOp.and IntKind.i64 ((k:Int)/2^q) 1==1)=a6;cases a6 with
    |true=>
     go_wp2_with(refine rH (b:=(q:Int)) oq (.tmp 39) (.tmp 37) (0,.tmp 38) B.o E.o (mj _) I (jG _) O O ?_;intro a7 a9 r m);refine ai ?_;have a:=C.o a7 (l++[(q:Int)]) a9 aT (ax r) m;have c:=ai a;clear a r m;go_wp2_with fail;go_roundw;case rel=>exact c.o
     case measure=>exact bS
    |false=>
     have a:=C.o u7 l wr O E.o B.o;have c:=ai a;clear a;go_wp2_with fail;go_roundw;case rel=>exact c.o
     case measure=>exact bS
   have a2:=Y.o q P;obtain⟨Q,a1,rfl,u⟩:=nS p;obtain⟨lm,m⟩:=bJ l.length;have b6:lm<=16:=O;have a4:l.length<=16:=O;rw[<-m]at u⊢;by_cases L:(lm:Int)<=y
   ·have a3:=ey L;have F:=A.o.same sw e (λ i _ d=>d);have G:=aM x.o e;have b8:=x.o.size;have r:bl bE 1 wr (Rest wr w.heap.size u5) Q lm a1 l:=u.more (λ i d=>⟨an d.1,d.2,R.o i d.1⟩);obtain⟨S,T,a0,U⟩:=cH F G r m;clear F G r m p e u;go_wp2_with(refine qs sw ve (.tmp 47) (.tmp 45) (0,.tmp 46) T.o S.o ⟨_,_,_,I,a0.o⟩ (vq _ _ _) I (ue _ _ _) O O ?_;intro a8 a' F G);refine ai ?_;have a:=D.o a' a8 (.inl ⟨l,a4,F⟩) G;have c:=ai a;clear a F G;go_wp2_with fail;go_roundw;case rel=>exact c.o
    case measure=>exact bS
   have a3:=ep L;have a:=D.o wr u5 (.inr (A.o.same sw e (λ i _ d=>d))) (aM x.o e);obtain⟨c,U⟩:=ck a m;clear a m p e u;go_wp2_with fail;go_roundw;case rel=>exact c.o
   case measure=>exact bS
  have d1:=W.o k H;obtain⟨e,m,rfl,r⟩:=j.done sw;have a:CX w (.returned (.slice e f.length m)) wr:=⟨e,_,m,f,I,r,t,O,s⟩;have c:=ai a;clear a r t s K j;go_wp2_with fail;go_ret;exact c.o
def uk(n:Nat)(w:World)(e:Ending)(ae:World):Prop:=∃(A:Option Addr) (m c:Nat) (b:Bool),e=.returned (.tuple #[.slice A m c,.bool b])/\ab w ae/\(b=true->(m=0\/m=n)/\∃bC:List Int,bl bE 1 ae (cP ae w.heap.size) A m c bC)
def Bg(m n:Nat)(w:World)(v i:Value)(wr:World):Prop:=∃k:Nat,i=.int .i64 k/\k<=m/\((k=0/\v=.slice none 0 0)\/(0<k/\∃bC:List Int,wr.ownsRow w.heap.size 3 1 v n (bC.flatMap bE)))/\ab w wr
def xC(n:Nat)(w:World)(V X:Value)(i:Value)(wr:World):Prop:=∃(k:Nat) (bC xs:List Int),i=.int .i64 k/\k<=n/\wr.ownsRow w.heap.size 3 1 V n (bC.flatMap bE)/\wr.ownsRow w.heap.size 3 1 X n (xs.flatMap bE)/\(X=V\/∀b,X.ownBlock=some b->V.ownBlock≠some b)/\ab w wr
theorem Gu{w:World}{b b' n:Nat}{e:TypeId}{size:Nat}{v:Value}{xs:List Value}(h:w.ownsRow b e size v n xs)(g:b'<=b):w.ownsRow b' e size v n xs:=by
 obtain⟨q1,q2⟩:=h;refine⟨q1,?_⟩;rcases q2 with h0|⟨d,a,c,f,i,rest⟩
 ·exact .inl h0
 exact .inr ⟨d,a,c,f,O,rest⟩
theorem Iw(w aj n j f y cs U)(V:gr w (kL w) f aj cs y)(d:dB n f.bo j U y)(l:n=2\/n=3)(g0:j<=10000):Calls Tryz.prog 72 #[.agg cs.toArray] w (uk n w):=by
 have s:=V;obtain⟨A,F,E,bM,bK,bN,bd,bj,ac,aL,bt,fn,bw,bk,bD,bH,lc,bB,rc,wn,wc,bF,bP,rfl,r⟩:=V;have q:aL=n:=by rw[r.procs.len,d.len]
 have i':n<=3:=O;subst q;have q:(aL:Int)=2\/(aL:Int)=3:=O;clear r;obtain⟨d',a8,c8,h5⟩:=cH s d q l;clear s d q l;unfold dr;go_enter func72,ntmps72;go_upto_region 1 with fail;generalize q:w.alloc _=W;have r:ab w W:=q▸cx w _;have d:aC W w.heap.size 63 (dr f y.busy aj A F E bM bK bN bd bj ac aL bt fn bw bk bD bH lc bB rc wn wc bF bP).toArray:=by rw[<-q];exact cu w _ _
 have l:gF W w.heap.size aj f y:=gF.boxed d'.o r d;obtain⟨P,x⟩:=bJ w.heap.size;rw[<-x]at l d⊢;have s:=zk W P aj f y l (by rw[a8.o.len];omega);obtain⟨d9,c4,b3,t⟩:=cH l r d s;clear l r d s q x;go_wp2_with fail;refine(t.o).mono ?_;rintro e M ⟨b,rfl,cL,r⟩;have d:ab W M:=r▸ek _ _;have l:=d.ay b3.o b3.o.lt;have s:=d9.o.aq d;have q:=aM c4.o d;clear r d t;cases b with
 |true=>have d:uk aL w (.returned (.tuple Px)) M:=⟨none,0,0,false,I,q,(by intro h;cases h)⟩;have r:=ai d;clear d l s q;go_wp2_with fail;go_ret2;exact r.o
 |false=>
 have H:M.cell? ⟨P,3,none⟩=some (.slice (some ⟨aj,0,none⟩) aL bt):=by rw[l.cell];rfl
 have G:M.cell? ⟨P,2,none⟩=some (.int .i64 f.pb):=by rw[l.cell];rfl
 have x:=ME M aL f.pb c8.o;obtain⟨t,b1,c9,c5⟩:=cH x l s q;clear x l s q;go_wp2_with fail;refine(t.o).mono ?_;rintro e x ⟨g_,ms,jc,j0,rfl,D,l,i9,B⟩;have z:=aM c5.o l;have s:=l.ay b1.o b1.o.lt;have C:=c9.o.aq l;have q:=cE (Bg ms aL x (.slice none 0 0) (.int .i64 0) x) (⟨0,I,Nat.zero_le _,.inl ⟨I,I⟩,aN _ _⟩);obtain⟨X,b2,c_,d_,c6⟩:=dC z s C D B;clear z s C D B l H G t;go_wp2_with fail;go_loopw[4,6] (λ v i wr=>Bg ms aL x v i wr) (λ _ i _=>ms- (intOf i).toNat);case atStart=>exact q.o
 clear q;obtain⟨k,rfl,h_,a2,C⟩:=hrel;obtain⟨a6,rfl⟩:=aW (wr:World);by_cases a_:k<ms
 ·obtain⟨d1,d2,d3,d4⟩:=ea a_;have i7:k<=65536:=O;obtain⟨b5,c2,cs,a,rfl,t,D,⟨a7,a5,a9,rfl,s⟩,-,z⟩:=d_.o.at_ a_;have y1:∀J,ab a6 J->J.cell? ⟨b5,c2+k,none⟩=some (.slice a7 a5 a9):=λ J q=>((aM C q).cell (p:=⟨b5,c2+k,none⟩) t.2).trans (by have:=z 0 _ I;simpa using this);have l:=C.ay b2.o b2.o.lt;have rg:∀J,ab a6 J->J.rangeAt P 0 (dr f y.busy aj A F E bM bK bN bd bj ac aL bt fn bw bk bD bH lc bB rc wn wc bF bP):=λ J k i u hu=>by rw[(k.ay l l.lt).cell,Nat.zero_add,List.getElem?_toArray];exact hu
  have H:=c_.o.aq C;have i8:a5<=16:=by have h1:=s.1;have h2:=c6.o a (List.mem_of_getElem? D);omega
  have G:∀J,ab a6 J->Calls Tryz.prog 70 #[.agg (dr f y.busy aj A F E bM bK bN bd bj ac aL bt fn bw bk bD bH lc bB rc wn wc bF bP).toArray,.slice a7 a5 a9] J (xQ y J):=λ J a4=>by obtain⟨e3,e8,c1⟩:=H.aq a4;have f_:e3=dr f y.busy aj A F E bM bK bN bd bj ac aL bt fn bw bk bD bH lc bB rc wn wc bF bP:=(by have:=e8.symm.trans (a4.ay l l.lt);injection this with this;injection this with this;simpa using this);rw[f_]at c1;exact ER J (cP x M.heap.size) aj aL j f y _ U a7 a5 a9 a c1 a8.o O g0 (λ i B=>Nat.lt_of_lt_of_le B.2 (aM C a4).size) (s.aq ((aM C a4).mono (λ i B=>B.2))) O
  have e0:=cE (y.procs.length=aL) a8.o.len;obtain⟨b4,a3,e1,c7⟩:=cH C a2 rg G;clear C a2 rg G z s D t l H;go_upto_region 8 with fail;refine fy λ u0 t z=>?_;refine cK 0 I (dw ba _ _ I P 0 I (dr f y.busy aj A F E bM bK bN bd bj ac aL bt fn bw bk bD bH lc bB rc wn wc bF bP) _ (λ J q=>e1.o J q) tH I Z) ?_;refine ag 1 (h:=ag 2 (h:=ag 3 (h:=ag 4 (h:=?_))));have i_:=t.size;refine aV 5 λ K R=>?_;go_simp;refine(c7.o u0 t).mono ?_;rintro e u1 ⟨G,l,H,e2,rfl,a0,Y⟩;have L:=aM t a0;refine aZ R aD L ?_;clear R K z t;intro z t;refine ag 6 (h:=ag 7 (h:=ag 8 (h:=ag 9 (h:=ag 10 (h:=?_)))));refine cg Z ?_;have N:=aM b4.o L;cases e2 with
  |false=>have d:uk aL w (.returned (.tuple Px)) u1:=⟨none,0,0,false,I,aM X.o N,(by intro h;cases h)⟩;have r:=ai d;clear d z t L a0 Y y1 N;go_wp2_with fail;go_ret2;exact r.o
  |true=>
   obtain⟨s,xs,D,-⟩:=Y I;rw[e0.o]at s;subst s;have Q:=Gu (b':=x.heap.size) D (an b4.o.size);have T:∃(dJ:Option Addr) (s:Nat),((k=0/\dJ=G/\s=H)\/(0<k/\u4=.slice dJ l s))/\xC l x (.slice dJ l s) (.slice G l H) (.int .i64 0) u1:=by
    rcases a3.o with ⟨h1,h2⟩|⟨h1,bC,h2⟩
    ·exact⟨G,H,.inl ⟨h1,I,I⟩,0,xs,xs,I,Nat.zero_le _,Q,Q,.inl I,N⟩
    obtain⟨dJ,s,he,-,-⟩:=dZ h2;rw[he]at h2
    exact⟨dJ,s,.inr ⟨h1,he⟩,0,bC,xs,I,Nat.zero_le _,dy h2 L (λ i B=>B.2),Q,.inr (λ b S e7=>by
     have aA:=(D.lt b S).1
     have aS:=(h2.lt b e7).2
     omega),N⟩
   obtain⟨dJ,s,a',T⟩:=T;have a1:=ai T;clear T z t L a0 Y y1 N D Q;have Q:=ai a';clear a';go_upto_if 36 with fail;generalize L:((k:Int)==0)=c3;go_cut[4]from 37 to 37 (λ v J=>v=.slice dJ l s/\u1=J);case first=>
    rcases Q.o with ⟨N,h1,h2⟩|⟨N,h2⟩
    ·obtain rfl:c3=true:=(by rw[<-L];exact ot O);subst h1 h2;clear N L;go_wp2_with fail;go_meet;exact⟨I,I⟩
    obtain rfl:c3=false:=(by rw[<-L];exact iR O);clear N L;go_wp2_with fail;go_meet;exact⟨h2,I⟩
   obtain⟨rfl,rfl⟩:=hcut;clear Q a3 L;go_wp2_with fail;go_loopw[9] (λ i wr=>xC l x (.slice dJ l s) (.slice G l H) i wr) (λ i _=>l- (intOf i).toNat);case atStart=>exact a1.o
   clear a1;obtain⟨p,bC,xs,rfl,b_,L,D,a0,a1⟩:=hrel;by_cases hp:p<l
   ·obtain⟨e4,e5,h8,h9⟩:=ea hp;obtain⟨g,cap,cur,a3,e9,T,g1,-,-,-⟩:=pf L (k:=p) hp 0;have c0:∀(v:Int) (ae:World),aC ae g 3 (cur.setIfInBounds p (.int .i64 v))->ae.ownsRow x.heap.size 3 1 (.slice dJ l s) l ((bC.set p v).flatMap bE):=λ v ae S=>by obtain⟨h',h7,jq,g4,-,e_,-,-,-,b_⟩:=pf L hp v;have he:=a3.symm.trans g4;injection he with h1 _ _;injection h1 with h1;injection h1 with h1 _ _;subst h1;have:cur=jq:=(by have:=T.symm.trans e_;injection this with this;injection this);subst this;exact b_ ae S
    obtain⟨h6,j1,g9,Q,-,g6,b9⟩:=(mn L).at_ eB hp;obtain⟨b6,cI,g8,e6,b7,g5,b8⟩:=(mn D).at_ eB hp;have g':∀J,ab wr J->J.cell? ⟨g,p,none⟩=some (.int .i64 g9):=λ J q=>by injection a3 with a' _ _;rw[a']at Q;injection Q with Q;injection Q with Y N _;subst Y N;exact(q.cell (p:=⟨g,p,none⟩) T.lt).trans (by have:=b9 0 _ I;simpa using this)
    have g7:∀J,ab wr J->J.cell? ⟨b6,cI+p,none⟩=some (.int .i64 g8):=λ J q=>(q.cell (p:=⟨b6,cI+p,none⟩) b7.2).trans (by have:=b8 0 _ I;simpa using this)
    have d:∀(v:Int) (J N:World),ab wr J->aC N g 3 (cur.setIfInBounds p (.int .i64 v))->aw (·≠g) J N->xC l x (.slice dJ l s) (.slice G l H) (.int .i64 ((p:Int)+1)) N:=λ v J N h1 h2 aA=>
     have V:=c0 v N h2
     have q:∃b0:List Int,N.ownsRow x.heap.size 3 1 (.slice G l H) l (b0.flatMap bE):=by
      rcases a0 with he|he
      ·exact⟨bC.set p v,by rw[he];exact V⟩
      ·exact⟨xs,fu (dy D h1 (λ i B=>B.2)) aA (λ b S e=>he b S (by rw[a3,e];rfl))⟩
     q.elim λ b0 q=>⟨p+1,bC.set p v,b0,cz,O,V,q,a0,zv (aM a1 h1) aA e9⟩
    injection a3 with a' _ f';have N:=cE (∀J,ab wr J->aC J g 3 cur) (λ J q=>q.ay T T.lt);have r:=ai d;clear d L D a0 a1 c0 b9 b8 Q g6 g5 f' b7 T;subst a' e6;go_upto_region 16 with fail;refine fS 12 λ u2 z t=>?_;refine aU 0 (h:=aU 1 (h:=aU 2 (h:=aU 3 (h:=aU 4 (h:=aU 5 (h:=aU 6 (h:=aU 7 (h:=aU 8 (h:=aU 9 (h:=aU 10 (h:=aU 11 (h:=?_))))))))))));have Q:=z;refine aV 12 λ K R=>?_;refine ej I _ _ _ I g p 3 cur _ I I (N.o u2 z) g1 Z I I ?_;intro a' Y T;refine dE R aD ?_;clear R K z t;intro t;have z:True:=aD;refine cg Z ?_;have d:=r.o _ u2 a' Q Y T;have r:=ai d;clear d Y T z t g' g7 N Q;go_wp2_with fail;go_roundw;case rel=>exact r.o
    case measure=>exact bS
   obtain⟨e4,e5⟩:=eN hp;have d:Bg ms l x (.slice dJ l s) (.int .i64 ((k:Int)+1)) wr:=⟨k+1,cz,O,.inr ⟨O,bC,L⟩,a1⟩;have r:=ai d;clear d L D a0 a1;go_wp2_with fail;go_roundw;case rel=>exact r.o
   case measure=>exact bS
 obtain⟨d1,d2⟩:=eN a_;have d:∃(A:Option Addr) (m c:Nat),u4=.slice A m c/\uk aL w (.returned (.tuple #[.slice A m c,.bool true])) a6:=by
  rcases a2 with ⟨-,h2⟩|⟨-,bC,h2⟩
  ·exact⟨none,0,0,h2,none,0,0,true,I,aM X.o C,λ _=>⟨.inl I,[],iq⟩⟩
  obtain⟨A,c,rfl,-,-⟩:=dZ h2;have t:=X.o.size;exact⟨A,aL,c,I,A,aL,c,true,I,aM X.o C,λ _=>⟨.inr I,bC,(mn h2).more (λ i B=>⟨an B.1,B.2⟩)⟩⟩
 obtain⟨A,m,c,rfl,d⟩:=d;have r:=ai d;clear d a2 C;go_wp2_with fail;go_ret2;exact r.o
section
variable {w ae u:World} {L:Nat->Nat} {gs aj p:Nat} {f:dn} {y:bQ} {x:cO}
variable {A F E bM bK bN bd:Option Addr} {bj ac aL bt fn bw bk bD bH lc bB rc wn wc bF bP:Nat} {bq bg bp bu M V K G H Q:Option Addr} {p1 q1 p2 q2 aK aI aR aQ cn cv bZ bA bh cq cm gc aJ av cj ct:Nat} {cur:Array Value}
theorem fw.zs(h:fw w L gs aj f y A F E bM bK bN bd bj ac aL bt fn bw bk bD bH lc bB rc wn wc bF bP):∀J,ab w J->J.cell? ⟨gs,0,none⟩=some (.slice A bj ac)/\J.cell? ⟨gs,1,none⟩=some (.int .i64 f.bo)/\J.cell? ⟨gs,2,none⟩=some (.int .i64 f.pb)/\J.cell? ⟨gs,3,none⟩=some (.slice (some ⟨aj,0,none⟩) aL bt)/\J.cell? ⟨gs,4,none⟩=some (.slice F fn bw)/\J.cell? ⟨gs,5,none⟩=some (.slice E bk bD)/\J.cell? ⟨gs,6,none⟩=some (.bool y.busy)/\J.cell? ⟨gs,7,none⟩=some (.slice bM bH lc)/\J.cell? ⟨gs,8,none⟩=some (.slice bK bB rc)/\J.cell? ⟨gs,9,none⟩=some (.slice bN wn wc)/\J.cell? ⟨gs,10,none⟩=some (.slice bd bF bP):=λ J k=>have c:=λ j u hu=>h.kK k h.fm.lt j u hu;⟨c 0 _ I,c 1 _ I,c 2 _ I,c 3 _ I,c 4 _ I,c 5 _ I,c 6 _ I,c 7 _ I,c 8 _ I,c 9 _ I,c 10 _ I⟩
theorem eJ.zs(h:eJ w L gs aj f y p x A F E bM bK bN bd bj ac aL bt fn bw bk bD bH lc bB rc wn wc bF bP bq bg bp bu M V K G H Q p1 q1 p2 q2 aK aI aR aQ cn cv bZ bA bh cq cm gc aJ av cj ct cur):∀J,ab w J->J.cell? ⟨aj,p*14,none⟩=some (.bool x.down)/\J.cell? ⟨aj,p*14+1,none⟩=some (.int .i64 x.inc)/\J.cell? ⟨aj,p*14+2,none⟩=some (.slice bq p1 q1)/\J.cell? ⟨aj,p*14+3,none⟩=some (.slice bg p2 q2)/\J.cell? ⟨aj,p*14+4,none⟩=some (.slice bp aK aI)/\J.cell? ⟨aj,p*14+5,none⟩=some (.slice bu aR aQ)/\J.cell? ⟨aj,p*14+6,none⟩=some (.slice M cn cv)/\J.cell? ⟨aj,p*14+7,none⟩=some (.int .i64 x.clock)/\J.cell? ⟨aj,p*14+8,none⟩=some (.slice V bZ bA)/\J.cell? ⟨aj,p*14+9,none⟩=some (.slice K bh cq)/\J.cell? ⟨aj,p*14+10,none⟩=some (.slice G cm gc)/\J.cell? ⟨aj,p*14+11,none⟩=some (.slice H aJ av)/\J.cell? ⟨aj,p*14+12,none⟩=some (.int .i64 x.gZ)/\J.cell? ⟨aj,p*14+13,none⟩=some (.slice Q cj ct):=λ J k=>have c:=λ j u hu=>h.fN k h.cZ.lt j u hu;⟨by have:=c 0 _ I;simpa using this,c 1 _ I,c 2 _ I,c 3 _ I,c 4 _ I,c 5 _ I,c 6 _ I,c 7 _ I,c 8 _ I,c 9 _ I,c 10 _ I,c 11 _ I,c 12 _ I,c 13 _ I⟩
theorem fw.fE(h:fw w L gs aj f y A F E bM bK bN bd bj ac aL bt fn bw bk bD bH lc bB rc wn wc bF bP)(c:ab w u):fw u (dc L w) gs aj f y A F E bM bK bN bd bj ac aL bt fn bw bk bD bH lc bB rc wn wc bF bP:=by
 have e:aj<w.heap.size:=by obtain⟨cur,aP,d,_⟩:=h.dI.procs;exact d.1
 exact⟨c.ay h.fm h.fm.lt,by rw[fY h.fm.lt];exact h.dP,by rw[fY e];exact h.pl,h.nX,h.dI.same c (λ a i _ _ b _=>⟨b.1,cQ b.1 c.size,by rw[fY b.1];exact b.2⟩)⟩
theorem eJ.fE(h:eJ w L gs aj f y p x A F E bM bK bN bd bj ac aL bt fn bw bk bD bH lc bB rc wn wc bF bP bq bg bp bu M V K G H Q p1 q1 p2 q2 aK aI aR aQ cn cv bZ bA bh cq cm gc aJ av cj ct cur)(c:ab w u):eJ u (dc L w) gs aj f y p x A F E bM bK bN bd bj ac aL bt fn bw bk bD bH lc bB rc wn wc bF bP bq bg bp bu M V K G H Q p1 q1 p2 q2 aK aI aR aQ cn cv bZ bA bh cq cm gc aJ av cj ct cur:=⟨h.s.fE c,h.iD,c.ay h.cZ h.cZ.lt,h.fG,h.bt,h.du.same c (λ i b=>⟨b.1,cQ b.1 c.size,by rw[fY b.1];exact b.2⟩) (λ a _ i b _=>⟨b.1,cQ b.1 c.size,by rw[fY b.1];exact b.2⟩)⟩
end
theorem cJ.CK{α}{enc:α->Value}{w ae L a n c b off p e}{l:List α}{cur}{v:α}(h:cJ w (bx w L a) e 1 (λ cs x=>cs=[enc x]) (some ⟨b,off,none⟩) n c l)(hp:p<n)(q:a≠0)(r:aC w b e cur)(s:aC ae b e (cur.setIfInBounds (off+p) (enc v)))(au:aw (·≠b) w ae):cJ ae (bx ae L a) e 1 (λ cs x=>cs=[enc x]) (some ⟨b,off,none⟩) n c (l.set p v):=by
 obtain⟨aP,h1,h2,aA,⟨aS,u,y,k⟩,m⟩:=h;rcases k with ⟨h,-⟩|⟨B,C,g,d,o,t,A,z⟩
 ·cases h
 injection d with d;injection d with hA1 hA2 _;subst hA1 hA2;have:g=cur:=by have:=t.symm.trans r;injection this with this;injection this
 subst this;have f:p<aP.length:=O;refine cJ.put (bd:=λ _ _ cs x=>cs=[enc x]) (λ _ _ _ _ _ _ _ _ h=>h) q h1 h2 aA o.2 u y A z m (i:=p) (j:=0) (vs:=[enc v]) (cs:=aP[p]) hp (dA f) aT I (by simpa [eY]using s) au ?_;have:=aA _ (wM f);simp;exact nD aY
section
variable {w ae:World} {L:Nat->Nat} {gs aj p b off:Nat} {f:dn} {y:bQ} {cur:Array Value}
variable {A F E bM bK bN bd:Option Addr} {bj ac aL bt fn bw bk bD bH lc bB rc wn wc bF bP:Nat}
theorem cJ.sn{α}{enc:α->Value}{a n c e}{l:List α}{A}(h:cJ w (bx w L a) e 1 (λ cs x=>cs=[enc x]) A n c l)(hp:p<n):∃(b off:Nat) (cur:Array Value) (x:α),A=some ⟨b,off,none⟩/\L b=a/\aC w b e cur/\off+p<cur.size/\l[p]?=some x/\cur[off+p]?=some (enc x):=by
 obtain⟨aP,h1,h2,aA,⟨aS,u,v,k⟩,m⟩:=h;rcases k with ⟨-,h⟩|⟨i,t,j,o,q,r,d,s⟩
 ·omega
 have f:p<aP.length:=O;have g:p<l.length:=O;have:=m p _ _ (dA f) (dA g);refine⟨i,t,j,l[p],o,q.2,r,O,dA g,s p _ ?_⟩;have d:=nk aP p 0 f aA O;rw[Nat.mul_one,Nat.add_zero]at d;rw[d,this];rfl
theorem fw.GZ(h:fw w L gs aj f y A F E bM bK bN bd bj ac aL bt fn bw bk bD bH lc bB rc wn wc bF bP)(hp:p<bF)(c:bd=some ⟨b,off,none⟩)(a:L b=5)(d:aC w b 3 cur){v:Int}(g:aC ae b 3 (cur.setIfInBounds (off+p) (.int .i64 v)))(au:aw (·≠b) w ae):cG ae L gs aj f {y with rel:=y.rel.set p v}/\cW w L ae L:=by subst c;obtain⟨k,l,m,n,o,q,r,-⟩:=h.parts 5 (ae:=ae) (bL:=L) (au.mono (λ i c e=>c.2.2 (by rw[e];exact a))) (λ _ _=>I) O;have j:=au.ay h.fm (λ e=>by have:=h.dP;rw[e,a]at this;omega);exact h.fin 5 O (bO:={y with rel:=y.rel.set p v}) (au.mono (λ i c e=>c.2.2 (by rw[e];exact a))) j (λ _ _=>I) ⟨k,l O,m O,n,o,q O,r O,cJ.CK (enc:=λ x=>.int .i64 x) h.dI.rel hp O d g au⟩
theorem fw.LW(h:fw w L gs aj f y A F E bM bK bN bd bj ac aL bt fn bw bk bD bH lc bB rc wn wc bF bP)(hp:p<bB)(c:bK=some ⟨b,off,none⟩)(a:L b=6)(d:aC w b 4 cur){v:Bool}(g:aC ae b 4 (cur.setIfInBounds (off+p) (.bool v)))(au:aw (·≠b) w ae):cG ae L gs aj f {y with rest:=y.rest.set p v}/\cW w L ae L:=by subst c;obtain⟨k,l,m,n,o,-,q,r⟩:=h.parts 6 (ae:=ae) (bL:=L) (au.mono (λ i c e=>c.2.2 (by rw[e];exact a))) (λ _ _=>I) O;have j:=au.ay h.fm (λ e=>by have:=h.dP;rw[e,a]at this;omega);exact h.fin 6 O (bO:={y with rest:=y.rest.set p v}) (au.mono (λ i c e=>c.2.2 (by rw[e];exact a))) j (λ _ _=>I) ⟨k,l O,m O,n,o,cJ.CK (enc:=λ x=>.bool x) h.dI.rest hp O d g au,q O,r O⟩
end
theorem cG.load{w L gs aj f y}(h:cG w L gs aj f y):∃cs:List Value,cs.length=11/\aC w gs 63 cs.toArray/\∀J,ab w J->gr J (kL J) f aj cs y:=by obtain⟨cs,h1,-,aA⟩:=h;refine⟨cs,?_,h1,λ J k=>aA.all.aq k⟩;obtain⟨_,_,_,_,_,_,_,_,_,_,_,_,_,_,_,_,_,_,_,_,_,_,_,e,_⟩:=aA;rw[e];rfl
theorem aC.uniq{w g t a c bc}(h:aC w g t c)(k:aC w g a bc):c=bc:=by have:=h.symm.trans k;injection this with this;injection this
section
variable {w ae u cF:World} {L:Nat->Nat} {gs aj p:Nat} {f:dn} {y:bQ} {x:cO}
variable {A F E bM bK bN bd:Option Addr} {bj ac aL bt fn bw bk bD bH lc bB rc wn wc bF bP:Nat} {bq bg bp bu M V K G H Q:Option Addr} {p1 q1 p2 q2 aK aI aR aQ cn cv bZ bA bh cq cm gc aJ av cj ct:Nat} {cur:Array Value}
theorem fw.oO(h:fw w L gs aj f y A F E bM bK bN bd bj ac aL bt fn bw bk bD bH lc bB rc wn wc bF bP){i:Nat}(a:bx w L 0 i\/(w.heap.size<=i/\i<u.heap.size)):i≠gs:=by
 rcases a with a|a
 ·intro e;subst e;have:=h.dP;have:=a.2;omega
 have:=h.fm.lt;omega
theorem fw.Jp(b:ab w u)(au:aw (·≠gs) u cF)(ex:Nat):aw (λ i=>i<w.heap.size/\i≠gs/\L i≠ex) w cF:=bR (b.mono (λ i a=>a.1)) au (λ i a=>a.2.1)
abbrev jx:=@fw.Jp
theorem fw.Jl(h:fw w L gs aj f y A F E bM bK bN bd bj ac aL bt fn bw bk bD bH lc bB rc wn wc bF bP)(c:ab w u)(au:aw (·≠gs) u cF){b:Bool}(d:aC cF gs 63 ((dr f y.busy aj A F E bM bK bN bd bj ac aL bt fn bw bk bD bH lc bB rc wn wc bF bP).toArray.setIfInBounds 6 (.bool b))):cG cF (dc L w) gs aj f {y with busy:=b}/\cW w L cF (dc L w):=by have a:∀i,i<w.heap.size->dc L w i=L i:=λ i e=>fY e;obtain⟨e,g,j,k,l,m,n,o⟩:=h.parts 1 (jx c au 1) a O;exact h.fin 6 O (bO:={y with busy:=b}) (jx c au 6) d a ⟨e,g O,j O,k,l,m O,n O,o O⟩
theorem fw.Cm(h:fw w L gs aj f y A F E bM bK bN bd bj ac aL bt fn bw bk bD bH lc bB rc wn wc bF bP)(b:ab w u)(au:aw (·≠gs) u cF){bf}{d bc:Nat}{r:List Int}(e:aC cF gs 63 ((dr f y.busy aj A F E bM bK bN bd bj ac aL bt fn bw bk bD bH lc bB rc wn wc bF bP).toArray.setIfInBounds 7 (.slice bf d bc)))(g:bl bE 1 u (λ i=>bx w L 0 i\/(w.heap.size<=i/\i<u.heap.size)) bf d bc r):cG cF (dc L w) gs aj f {y with dY:=r}/\cW w L cF (dc L w):=by have c:∀i,i<w.heap.size->dc L w i=L i:=λ i a=>fY a;obtain⟨k,l,m,n,-,o,p,q⟩:=h.parts 1 (jx b au 1) c O;have j:=(g.aq (au.mono (λ i a=>h.oO a))).more (T:=bx cF (dc L w) 0) (λ i a=>tW b au.size a);exact h.fin 6 O (bO:={y with dY:=r}) (jx b au 6) e c ⟨k,l O,m O,n,j,o O,p O,q O⟩
theorem fw.xz(h:fw w L gs aj f y A F E bM bK bN bd bj ac aL bt fn bw bk bD bH lc bB rc wn wc bF bP)(b:ab w u)(au:aw (·≠gs) u cF){bf}{d bc:Nat}{r:List kX}(e:aC cF gs 63 ((dr f y.busy aj A F E bM bK bN bd bj ac aL bt fn bw bk bD bH lc bB rc wn wc bF bP).toArray.setIfInBounds 5 (.slice bf d bc)))(g:bl fL 3 u (λ i=>bx w L 0 i\/(w.heap.size<=i/\i<u.heap.size)) bf d bc r):cG cF (dc L w) gs aj f {y with ends:=r}/\cW w L cF (dc L w):=by have c:∀i,i<w.heap.size->dc L w i=L i:=λ i a=>fY a;obtain⟨k,l,m,-,n,o,p,q⟩:=h.parts 1 (jx b au 1) c O;have j:=(g.aq (au.mono (λ i a=>h.oO a))).more (T:=bx cF (dc L w) 0) (λ i a=>tW b au.size a);exact h.fin 6 O (bO:={y with ends:=r}) (jx b au 6) e c ⟨k,l O,m O,j,n,o O,p O,q O⟩
theorem fw.GB{bL}(h:fw w L gs aj f y A F E bM bK bN bd bj ac aL bt fn bw bk bD bH lc bB rc wn wc bF bP)(au:aw (λ i=>i<w.heap.size/\i≠gs/\L i≠6) w cF)(b:∀i,i<w.heap.size->bL i=L i){bf}{c bc:Nat}{r:List Bool}(d:aC cF gs 63 ((dr f y.busy aj A F E bM bK bN bd bj ac aL bt fn bw bk bD bH lc bB rc wn wc bF bP).toArray.setIfInBounds 8 (.slice bf c bc)))(e:cJ cF (bx cF bL 6) 4 1 (λ cs a=>cs=pM a) bf c bc r):cG cF bL gs aj f {y with rest:=r}/\cW w L cF bL:=by obtain⟨g,j,k,l,m,-,n,o⟩:=h.parts 6 au b O;exact h.fin 6 O (bO:={y with rest:=r}) au d b ⟨g,j O,k O,l,m,e,n O,o O⟩
theorem fw.rL{bL}(h:fw w L gs aj f y A F E bM bK bN bd bj ac aL bt fn bw bk bD bH lc bB rc wn wc bF bP)(au:aw (λ i=>i<w.heap.size/\i≠gs/\L i≠3) w cF)(a:∀i,i<w.heap.size->bL i=L i){bf}{b bc:Nat}{r:List gM}(c:aC cF gs 63 ((dr f y.busy aj A F E bM bK bN bd bj ac aL bt fn bw bk bD bH lc bB rc wn wc bF bP).toArray.setIfInBounds 4 (.slice bf b bc)))(d:cJ cF (bx cF bL 3) 136 9 (fM cF (bx cF bL 0)) bf b bc r):cG cF bL gs aj f {y with cY:=r}/\cW w L cF bL:=by obtain⟨e,g,-,j,k,l,m,n⟩:=h.parts 3 au a O;exact h.fin 3 O (bO:={y with cY:=r}) au c a ⟨e,g O,d,j,k,l O,m O,n O⟩
theorem fw.FI(h:fw w L gs aj f y A F E bM bK bN bd bj ac aL bt fn bw bk bD bH lc bB rc wn wc bF bP)(d:ab w u){u1}(s1:aw (·≠gs) u u1)(a:aC u1 gs 63 ((dr f y.busy aj A F E bM bK bN bd bj ac aL bt fn bw bk bD bH lc bB rc wn wc bF bP).toArray.setIfInBounds 7 (.slice none 0 0)))(s2:aw (·≠gs) u1 cF)(b:aC cF gs 63 (((dr f y.busy aj A F E bM bK bN bd bj ac aL bt fn bw bk bD bH lc bB rc wn wc bF bP).toArray.setIfInBounds 7 (.slice none 0 0)).setIfInBounds 8 (.slice none 0 0))):∃bL,cG cF bL gs aj f {y with dY:=[],rest:=[]}/\cW w L cF bL:=by obtain⟨g,f1⟩:=h.Cm d s1 (r:=[]) a iq;obtain⟨A,F,E,bM,bK,bN,bd,bj,ac,aL,bt,fn,bw,bk,bD,bH,lc,bB,rc,wn,wc,bF,bP,h2⟩:=g.ops;have e:=h2.fm.uniq a;rw[<-e]at b;obtain⟨cI,f2⟩:=h2.GB (s2.mono (λ i c=>c.2.1)) (λ _ _=>I) (r:=[]) b kQ;exact⟨_,cI,f1.trans f2⟩
theorem eJ.Lm(g:eJ w L gs aj f y p x A F E bM bK bN bd bj ac aL bt fn bw bk bD bH lc bB rc wn wc bF bP bq bg bp bu M V K G H Q p1 q1 p2 q2 aK aI aR aQ cn cv bZ bA bh cq cm gc aJ av cj ct cur)(i:y.procs[p]?=some x)(h:ab w u){u1 u2 u3}(s1:aw (·≠aj) u u1)(d:aC u1 aj 76 (cur.setIfInBounds (p*14+11) (.slice none 0 0)))(s2:aw (·≠aj) u1 u2)(c:aC u2 aj 76 ((cur.setIfInBounds (p*14+11) (.slice none 0 0)).setIfInBounds (p*14+13) (.slice none 0 0)))(m:aw (·≠aj) u2 u3)(a:aC u3 aj 76 (((cur.setIfInBounds (p*14+11) (.slice none 0 0)).setIfInBounds (p*14+13) (.slice none 0 0)).setIfInBounds (p*14+12) (.int .i64 0)))(n:aw (·≠aj) u3 cF)(b:aC cF aj 76 ((((cur.setIfInBounds (p*14+11) (.slice none 0 0)).setIfInBounds (p*14+13) (.slice none 0 0)).setIfInBounds (p*14+12) (.int .i64 0)).setIfInBounds (p*14) (.bool true))):∃bL,cG cF bL gs aj f {y with procs:=y.procs.set p {x with known:=[],queue:=[],gZ:=0,down:=true}}/\cW w L cF bL:=by obtain⟨j,f1⟩:=g.nH h s1 d (r:=[]) iq;have e:=kN (cl:={x with known:=[]}) i;obtain⟨A,F,E,bM,bK,bN,bd,bj,ac,aL,bt,fn,bw,bk,bD,bH,lc,bB,rc,wn,wc,bF,bP,bq,bg,bp,bu,M,V,K,G,H,Q,p1,q1,p2,q2,aK,aI,aR,aQ,cn,cv,bZ,bA,bh,cq,cm,gc,aJ,av,cj,ct,o,h1⟩:=j.op e;rw[<-h1.cZ.uniq d]at c a b;obtain⟨cI,f2⟩:=h1.zW (aN _ _) s2 c;have bX:=kN (cl:={x with known:=[],queue:=[]}) e;obtain⟨A,F,E,bM,bK,bN,bd,bj,ac,aL,bt,fn,bw,bk,bD,bH,lc,bB,rc,wn,wc,bF,bP,bq,bg,bp,bu,M,V,K,G,H,Q,p1,q1,p2,q2,aK,aI,aR,aQ,cn,cv,bZ,bA,bh,cq,cm,gc,aJ,av,cj,ct,q,h2⟩:=cI.op bX;rw[<-h2.cZ.uniq c]at a b;obtain⟨k,f3⟩:=h2.sN (aN _ _) m a;have g3:=kN (cl:={x with known:=[],queue:=[],gZ:=0}) bX;obtain⟨A,F,E,bM,bK,bN,bd,bj,ac,aL,bt,fn,bw,bk,bD,bH,lc,bB,rc,wn,wc,bF,bP,bq,bg,bp,bu,M,V,K,G,H,Q,p1,q1,p2,q2,aK,aI,aR,aQ,cn,cv,bZ,bA,bh,cq,cm,gc,aJ,av,cj,ct,s,aA⟩:=k.op g3;rw[<-aA.cZ.uniq a]at b;obtain⟨l,f4⟩:=aA.BN (aN _ _) n b;refine⟨_,?_,((f1.trans f2).trans f3).trans f4⟩;simpa using l
end
def jr:List Bool->Nat
 |[]=>0
 |b::l=>(!b).toNat+jr l
theorem Eg:∀(l:List Bool) (k:Nat),l[k]?=some false->jr (l.set k true)<jr l
 |a::l,0,h=>by simp at h;subst h;simp[jr]
 |a::l,k+1,h=>by
  have:=Eg l k (ax h)
  simp only[List.set_cons_succ,jr]
  omega
 |[],_,h=>by simp at h
def Fi(n:Nat)(w:World)(e:Ending)(ae:World):Prop:=∃(g:Nat) (a:List Bool),e=.returned (.slice (some ⟨g,0,none⟩) n n)/\a.length=n/\aC ae g 4 (jv a)/\w.heap.size<=g/\ab w ae
def Ao(n c:Nat)(w:World)(gk:Nat)(v:Value)(wr:World):Prop:=∃(b:Bool) (a:List Bool),v=.bool b/\gk=jr a+b.toNat/\a.length=n/\aC wr c 4 (jv a)/\ab w wr
def zc(n c:Nat)(o:List Bool)(w:World)(gk:Nat)(v i:Value)(wr:World):Prop:=∃(b:Bool) (a:List Bool) (q:Nat),v=.bool b/\i=.int .i64 q/\gk+q=n/\(b=false->jr a=jr o)/\(b=true->jr a<jr o)/\a.length=n/\aC wr c 4 (jv a)/\ab w wr
def vJ(n m c:Nat)(o:List Bool)(w:World)(gk:Nat)(v i:Value)(wr:World):Prop:=∃(b:Bool) (a:List Bool) (k:Nat),v=.bool b/\i=.int .i64 k/\k<=m/\gk=m-k/\(b=false->jr a=jr o)/\(b=true->jr a<jr o)/\a.length=n/\aC wr c 4 (jv a)/\ab w wr
theorem Ky(w gs aj n p j f y U)(h:gF w gs aj f y)(a:dB n f.bo j U y)(hp:p<n)(g6:n<=31)(g4:j<=10000):Calls Tryz.prog 98 #[.pointer (some ⟨gs,0,none⟩),p] w (Fi n w):=by
 have d:=h;obtain⟨A,F,E,bM,bK,bN,bd,bj,ac,aL,bt,fn,bw,bk,bD,bH,lc,bB,rc,wn,wc,bF,bP,c,av,s⟩:=h.sys;obtain rfl:aL=n:=c.trans a.len;have u:=av w (aN _ _) 3 _ I;have e:=λ J r=>av J r 1 _ I;obtain⟨d1,d2,d3,d4⟩:=ea hp;obtain⟨b3,b0,b2,c6⟩:=cH d a c e;clear d a c e h av s;go_enter func98,ntmps98;go_wp2_with(refine ym oE uf O aL (.tmp 14) O ?_;intro d' d e);refine ai ?_;obtain⟨c,a⟩:=bJ w.heap.size;have m:aC d' c 4 (jv (List.replicate aL false)):=by rw[a];simpa [jv]using d
 have a5:w.heap.size<=c:=O;rw[<-a];have D:p<(jv (List.replicate aL false)).size:=by rw[wK];simpa using hp
 have c3:=ai e;clear e d a u;go_wp2_with(refine dO I _ (.tmp 18) (.const (.bool true)) I c p 4 _ (.bool true) I I m D Z I I ?_;intro a9 a C;refine jo ?_);refine ai ?_;rw[uV]at a;have e:ab w a9:=zv c3.o C a5;have i8:=c6.o a9 e;obtain⟨X,d⟩:=bJ ((List.replicate aL false).set p true);have z:X.length=aL:=by rw[d];simp
 rw[<-d]at a;obtain⟨Y,B⟩:=bJ (f.bo==2);have g:Ao aL c w (jr X+Y.toNat) (.bool Y) a9:=⟨Y,X,I,I,z,a,e⟩;obtain⟨c7,t⟩:=bJ (jr X+Y.toNat);rw[<-t]at g;have l:=ai g;clear g C m D a e d z t d1 d2 d3 d4;go_wp2_with fail;generalize (f.bo==2)=g_ at B⊢;subst B;go_loopg[6] c7 (λ gk v wr=>Ao aL c w gk v wr);case atStart=>exact l.o
 clear l;obtain⟨b,o,rfl,e,b8,d,a⟩:=hrel;cases b with
 |false=>have a1:=cE (Fi aL w (.returned (.slice (some ⟨c,0,none⟩) aL aL)) wr) (⟨c,o,I,b8,d,a5,a⟩);clear e d a;go_wp2_with fail;go_ret;exact a1.o
 |true=>
  have l:gk=jr o+1:=e;obtain⟨c8,rfl⟩:=aW gk;have g:=cE (zc aL c o w aL (.bool false) (.int .i64 0) wr) (⟨false,o,0,I,I,I,λ _=>I,nofun,b8,d,a⟩);have c2:=ai l;clear l e d a;go_wp2_with fail;go_loopg[6,7] aL (λ gk v i wr=>zc aL c o w gk v i wr);case atStart=>exact g.o
  clear g;obtain⟨b,m,q,rfl,rfl,c9,g,l,e,d,a⟩:=hrel;by_cases aB:q<aL
  ·obtain⟨d1,d2,d3,d4⟩:=ea aB;obtain⟨a2,rfl⟩:=aW gk;obtain⟨x,r⟩:∃x,y.procs[q]?=some x:=⟨_,dA (by rw[<-b2.o];exact aB)⟩;obtain⟨d_,e1,e0,e4,e6,e7,e5,e9,e8,d9,h5,g1,g0,f_,f',g',g9,h7,h6,i7,h_,h9,h8,bq,bg,bp,bu,M,V,K,G,H,Q,p1,q1,p2,q2,aK,aI,aR,aQ,cn,cv,bZ,bA,bh,cq,cm,gc,aJ,av,cj,ct,D,g8,av,s,B,L⟩:=b3.o.proc r;obtain⟨_,_,_,_,_,_,_,_,_,_,_,_,b4,s1,s2,N,P⟩:=L.st;simp only[List.cons.injEq,Value.slice.injEq,and_true]at b4;obtain⟨⟨rfl,rfl,rfl⟩,⟨rfl,rfl,rfl⟩,⟨rfl,rfl,rfl⟩,⟨rfl,rfl,rfl⟩⟩:=b4;have t:=b0.o.procs q x r;have g7:p2<=64:=cM s2.1 t.af;have u:=av wr a 3 _ I;have R:=B wr a 3 _ I;have e_:(q:Int)<d9:=O;have C:=t.st.aH;have z:=cE (vJ aL p2 c o w p2 (.bool b) (.int .i64 0) wr) (⟨b,m,0,I,I,Nat.zero_le _,I,g,l,e,d,a⟩);obtain⟨c5,e3,a',e2⟩:=cH s2 r C D;clear s2 r C D av s B L s1 N P t g l d a e;go_wp2_with fail;go_loopg[6,9] p2 (λ gk v i wr=>vJ aL p2 c o w gk v i wr);case atStart=>exact z.o
   clear z u R;obtain⟨b,m,k,rfl,rfl,g5,r,g,l,e,d,a⟩:=hrel;obtain⟨b_,s⟩:=bJ (m.getD q false);have i9:wr.cell? ⟨c,q,none⟩=some (.bool b_):=(by rw[s,d.cell];exact sH O);have u:∀i,zc aL c o w (a2-1) (.bool b) (.int .i64 ((q:Int)+1)) (wr.drewN i):=λ i=>⟨b,m,q+1,I,cz,O,g,l,e,d.drewN i,a.drewN i⟩;have t:∀i,k<p2->vJ aL p2 c o w (p2- (k+1)) (.bool b) (.int .i64 ((k:Int)+1)) (wr.drewN i):=λ i h=>⟨b,m,k+1,I,cz,O,I,g,l,e,d.drewN i,a.drewN i⟩;obtain⟨C,b1,T⟩:=cf t u r;clear t u s r;cases b_ with
   |false=>
    obtain⟨R,S,N,W,P⟩:=dC g l d a e;clear g l d a e;go_wp2_with fail;go_roundg (a2-1);case measure=>omega
    case rel=>exact b1.o 0
   |true=>
    by_cases B:k<p2
    ·obtain⟨dv,cc,cT,eV⟩:=ea B;obtain⟨be,a0,af,rfl,a3,D,u⟩:=(c5.o.aq (a.mono (λ i r=>r))).at_ jy B;have v0:wr.cell? ⟨be,a0+k*7,none⟩=some (.int .i64 af.kind):=(by have:=u 0 _ I;simpa using this);have v2:wr.cell? ⟨be,a0+k*7+2,none⟩=some (.int .i64 af.aH):=(by have:=u 2 _ I;simpa using this);have v4:wr.cell? ⟨be,a0+k*7+4,none⟩=some (.int .i64 af.bb):=(by have:=u 4 _ I;simpa using this);by_cases s:af.kind=1
     ·have t1:=ot s;obtain⟨r,a4⟩:∃r:Nat,af.aH=r:=⟨af.aH.toNat,an (a'.o af (eo D) s)⟩;have b6:r<aL:=an (a'.o af (eo D) s);rw[a4]at v2;obtain⟨f1,f2,f3,f4⟩:=ea b6;obtain⟨c0,z⟩:=bJ (m.getD r false);have y1:wr.cell? ⟨c,r,none⟩=some (.bool c0):=(by rw[z,d.cell];exact sH O);cases c0 with
      |true=>
       obtain⟨R,S,N,W,P⟩:=dC g l d a e;clear g l d a e u D a3 a4 s z;go_upto_region 13 with fail;go_quiet(fail);go_wp2_with fail;go_roundg (p2- (k+1));case measure=>have:=T.o;omega
       case rel=>exact C.o _ B
      |false=>
       obtain⟨L,a7⟩:∃L,y.procs[r]?=some L:=⟨_,dA (by rw[<-b2.o];exact b6)⟩;have a8:=b0.o.procs r L a7;have a6:=λ i=>wg (wr.drewN i) gs aj r f y L (b3.o.aq (a.drewN i)) a7 a8.bV (an a8.fO);generalize (L.bV.getLast a8.bV).idx=li at a6;have b7:m[r]?=some false:=(by rw[dA O];rw[List.getD,dA O]at z;simp at z;rw[z]);have c_:r<(jv m).size:=(by rw[wK];omega)
       have b9:∀i J,aC J c 4 ((jv m).setIfInBounds r (.bool true))->aw (·≠c) (wr.drewN i) J->vJ aL p2 c o w (p2- (k+1)) (.bool true) (.int .i64 ((k:Int)+1)) J:=λ i J h1 h2=>
        have:=Eg m r b7
        ⟨true,m.set r true,k+1,I,cz,O,I,nofun,λ _=>by
         cases b with
         |false=>rw[<-g I];exact this
         |true=>exact Nat.lt_trans this (l I),by simp[e],by rw[<-uV];exact h1,zv (a.drewN i) h2 a5⟩
       obtain⟨a_,c4⟩:=ck a6 b9;have b5:∀i,aC (wr.drewN i) c 4 (jv m):=λ i=>d.drewN i;have c1:=ai b5;have h':∀i,(wr.drewN i).cell? ⟨be,a0+k*7+2,none⟩=some (.int .i64 r):=λ i=>v2;obtain⟨R,S,N,W,P⟩:=dC g l d a e;clear g l d a e u D a3 a4 s z a6 b9 b5 a7 b7;go_upto_region 13 with fail;by_cases z:li<af.bb
       ·have t3:=ey z;clear z;go_quiet(exact oX (a_.o _));go_wp2_with(refine dO I _ (.tmp 92) (.const (.bool true)) I c r 4 _ (.bool true) I I (c1.o _) c_ Z I I ?_;intro a7 a4 a6);have a1:=ai (c4.o _ a7 a4 a6);clear a4 a6;go_roundg (p2- (k+1));case measure=>have:=T.o;omega
        case rel=>exact a1.o
       have t3:=ep z;clear z;go_quiet(exact oX (a_.o _));go_wp2_with fail;go_roundg (p2- (k+1));case measure=>have:=T.o;omega
       case rel=>exact C.o _ B
     have t1:=iR s;obtain⟨R,S,N,W,P⟩:=dC g l d a e;clear g l d a e u D a3 s;go_upto_region 13 with fail;go_quiet(fail);go_wp2_with fail;go_roundg (p2- (k+1));case measure=>have:=T.o;omega
     case rel=>exact C.o _ B
    obtain⟨dv,cc⟩:=eN B;obtain⟨R,S,N,W,P⟩:=dC g l d a e;clear g l d a e;go_wp2_with fail;go_roundg (a2-1);case measure=>omega
    case rel=>exact b1.o 0
  obtain⟨d1,d2⟩:=eN aB;have t:∃bX,bX<jr o+1/\Ao aL c w bX (.bool b) wr:=by
   cases b with
   |false=>exact⟨jr m,an (g I),false,m,I,I,e,d,a⟩
   |true=>exact⟨jr m+1,an (l I),true,m,I,I,e,d,a⟩
  obtain⟨bX,s,t⟩:=t;have dN:bX<c8:=by rw[c2.o];exact s
  have C:=ai t;clear t g l d a c9 s e;go_wp2_with fail;go_roundg bX;case measure=>exact dN
  case rel=>exact C.o
theorem fx.Ce{n j p:Nat}{bo:Int}{U y bO}(h:fx n bo j U y bO):fA y bO/\dB n bo j U bO:=⟨h.1,h.2.1⟩
def rB(w:World)(L:Nat->Nat)(gs aj:Nat)(f:dn)(n j:Nat)(U:List cy)(y:bQ)(J:World):Prop:=∃(bL:Nat->Nat) (bO:bQ),cG J bL gs aj f bO/\cW w L J bL/\fx n f.bo j U y bO
def vK(w:World)(L:Nat->Nat)(gs aj:Nat)(f:dn)(n j:Nat)(U:List cy)(y:bQ)(i:Value)(wr:World):Prop:=∃(k:Nat) (bL:Nat->Nat) (bO:bQ),i=.int .i64 k/\k<=n/\cG wr bL gs aj f bO/\cW w L wr bL/\fA y bO/\dB n f.bo j U bO/\∀(q:Nat) (z a:cO),k<=q->y.procs[q]?=some z->bO.procs[q]?=some a->a.bV=z.bV
theorem GS(w L gs aj p n j f y U)(h:cG w L gs aj f y)(a:dB n f.bo j U y)(hp:p<n)(b4:n<=31)(b2:j<=10000)(c:∀(q:Nat) (x:cO),y.procs[q]?=some x->x.bV.length<=j):Calls Tryz.prog 65 #[.pointer (some ⟨gs,0,none⟩),p] w (ig w L gs aj f (λ bO=>fA y bO/\dB n f.bo j U bO)):=by
 have d:=Ky w gs aj n p j f y U h.ptr a hp b4 b2;have b:=h;obtain⟨u,R,t,a1⟩:=cH b a d c;clear b a d c h;go_enter func65,ntmps65;go_wp2_with fail;refine(t.o).mono ?_;rintro e Y ⟨a4,a',rfl,D,B,N,l⟩;have g:=u.o.fE l;have a:=ki (L:=L) l;obtain⟨b,c⟩:=bJ (dc L w);have b1:b a4=0:=by rw[c];exact jd N
 rw[<-c]at g a;have a9:=cE (y.procs.length=n) R.o.len;have C:=cE (∃k:Nat,(.int .i64 0:Value)=.int .i64 k/\k<=n/\ab Y Y) (⟨0,I,Nat.zero_le _,aN _ _⟩);obtain⟨m,r,d,a7⟩:=cH g a B D;clear g a B D l N c u t;go_wp2_with fail;go_loopw[7] (λ i wr=>∃k:Nat,i=.int .i64 k/\k<=n/\ab Y wr) (λ i _=>n- (intOf i).toNat);case atStart=>exact C.o
 clear C;obtain⟨k,rfl,b3,a⟩:=hrel;by_cases g:k<n
 ·obtain⟨d1,d2,d3,d4⟩:=ea g;obtain⟨T,B⟩:=bJ (a'.getD k false);have c5:wr.cell? ⟨a4,k,none⟩=some (.bool T):=by rw[B,(a.ay d.o d.o.lt).cell];exact sH (an a7.o)
  obtain⟨x,l⟩:∃x,y.procs[k]?=some x:=⟨_,dA (by rw[a9.o];exact g)⟩;obtain⟨c7,c9,c8,d9,d_,e0,d',e2,e1,c4,g0,e7,e6,e5,e4,f_,f',g4,g1,g8,g7,g6,g5,bq,bg,bp,bu,M,V,K,G,H,Q,p1,q1,p2,q2,aK,aI,aR,aQ,cn,cv,bZ,bA,bh,cq,cm,gc,aJ,av,cj,ct,u,e8,av,D,c,N⟩:=m.o.ptr.proc l;have a2:=av wr a 3 _ I;have c6:=c wr a 0 _ I;obtain⟨c1,t⟩:=bJ x.down;rw[<-t,Nat.add_zero]at c6;have e3:(k:Int)<c4:=O;have X:∃cc:Nat,(.int .i64 ((k:Int)+1):Value)=.int .i64 cc/\cc<=n/\ab Y wr:=⟨k+1,cz,O,a⟩;have b_:=cE (ig w L gs aj f (λ bO=>fA y bO/\dB n f.bo j U bO) (.returned (.tuple #[.int .i64 0,.int .i64 12])) wr) (⟨0,12,I,b,y,m.o.aq a (λ _ _=>I),r.o.trans (wE a (λ _ _=>I)),pq y,R.o⟩);obtain⟨a0,c_⟩:=ck X u;clear X u av D c N a t B l;cases T with
  |false=>
   go_wp2_with fail;go_roundw;case rel=>exact a0.o
   case measure=>exact bS
  |true=>
   cases c1 with
   |false=>
    go_wp2_with fail;go_roundw;case rel=>exact a0.o
    case measure=>exact bS
   |true=>go_wp2_with fail;go_ret2;exact b_.o
 obtain⟨d1,d2⟩:=eN g;obtain⟨c,rfl⟩:=aW (wr:World);have u:=m.o.aq a (λ _ _=>I:∀i,i<Y.heap.size->b i=b i);have N:=r.o.trans (wE a (λ _ _=>I));have S:=a.ay d.o d.o.lt;obtain⟨x,l⟩:∃x,y.procs[p]?=some x:=⟨_,dA (by rw[a9.o];exact hp)⟩;obtain⟨A,F,E,bM,bK,bN,bd,bj,ac,aL,bt,fn,bw,bk,bD,bH,lc,bB,rc,wn,wc,bF,bP,bq,bg,bp,bu,M,V,K,G,H,Q,p1,q1,p2,q2,aK,aI,aR,aQ,cn,cv,bZ,bA,bh,cq,cm,gc,aJ,av,cj,ct,cur,D⟩:=u.op l;have a3:=(D.s.zs c (aN _ _)).2.1;obtain⟨a6,a5,W,t,P⟩:=dC u N S D l;clear u N S D l a m r d;go_upto_if 37 with fail;clear a3 d1 d2 g b3;obtain⟨pi,a⟩:=bJ (f.bo==3);rw[<-a];clear a;go_cut[]from 38 to 50 (λ J=>rB c b gs aj f n j U y J);case first=>
  cases pi with
  |false=>have d:=cE (rB c b gs aj f n j U y c) (⟨b,y,a6.o,xW _ _,fx.refl R.o⟩);go_wp2_with fail;go_meet;exact d.o
  |true=>have a2:=(t.o.s.zs c (aN _ _)).2.2.2.1;have g9:=t.o.fN (aN (λ _=>True) c) aD 7 _ I;have e9:(0:Int)<=p:=O;have e_:(p:Int)<aL:=an t.o.iD;go_wp2_with(refine dO I _ (.tmp 50) (.tmp 47) I aj (p*14+7) 76 _ _ I I t.o.cZ (an t.o.fG) Z I I ?_;intro m N r);obtain⟨v,D,u⟩:∃v:Int,cG m (dc b c) gs aj f {y with procs:=y.procs.set p {x with clock:=v}}/\cW c b m (dc b c):=⟨_,t.o.Dp (aN _ _) r N⟩;have a:=R.o.procs p x P.o;have d:=cE (rB c b gs aj f n j U y m) (⟨_,_,D,u,qA R.o P.o ⟨a.st,a.af,a.marks,a.gu,a.vec,a.bV,a.fO,a.en,a.log,a.known,a.fQ,a.queue⟩ ⟨I,I,I,I⟩ I I⟩);clear D u N r a;go_meet;exact d.o
 obtain⟨S,r,D,u,a⟩:=hcut;obtain⟨m,rfl⟩:=aW (wc:World);have b5:=u.ay W.o (.inl b1);rw[b1]at b5;obtain⟨N,c3⟩:=b5;have a_:=a5.o.trans u;have b0:∀(q:Nat) (x:cO),r.procs[q]?=some x->x.bV.length<=j:=λ q x l=>by
  have aB:q<y.procs.length:=by rw[<-a.1.len];exact(dV.1 l).1
  rw[a.2.2.2 q _ x (dA aB) l];exact a1.o q _ (dA aB)
 have b6:vK m S gs aj f n j U r (.int .i64 0) m:=⟨0,S,r,I,Nat.zero_le _,D,xW _ _,pq r,a.2.1,λ q z a3 _ h1 h2=>by rw[h1]at h2;cases h2;rfl⟩;obtain⟨C,b7,b9,a8,b8⟩:=dC b6 N a_ a b0;clear b6 N a_ a b0 D u a6 a5 W t P a1;go_wp2_with fail;go_loopw[8] (λ i wr=>vK m S gs aj f n j U r i wr) (λ i _=>n- (intOf i).toNat);case atStart=>exact C.o
 clear C;obtain⟨k,a1,N,rfl,b3,u,hF,C,a,D⟩:=hrel;by_cases g:k<n
 ·obtain⟨d1,d2,d3,d4⟩:=ea g;obtain⟨T,B⟩:=bJ (a'.getD k false);have c5:wr.cell? ⟨a4,k,none⟩=some (.bool T):=by rw[B,((hF.ay b7.o (.inl c3)).1).cell];exact sH (an a7.o)
  cases T with
  |false=>
   have W:vK m S gs aj f n j U r (.int .i64 ((k:Int)+1)) wr:=⟨k+1,a1,N,cz,O,u,hF,C,a,λ q z a3 h=>D q z a3 O⟩;have d:=ai W;clear W u hF C a D B;go_wp2_with fail;go_roundw;case rel=>exact d.o
   case measure=>exact bS
  |true=>
   obtain⟨b6,a6⟩:∃x,N.procs[k]?=some x:=⟨_,dA (by rw[a.len];exact g)⟩;obtain⟨a2,a5⟩:∃x,r.procs[k]?=some x:=⟨_,dA (by rw[a8.o.2.1.len];exact g)⟩;have b0:=xn wr a1 gs aj k n j f N b6 U u a a6 b4 b2 (by rw[D k a2 b6 (Nat.le_refl _) a5 a6];exact b8.o k a2 a5)
   have X:∀ae t P,cG ae t gs aj f P->cW wr a1 ae t->lJ n f.bo j U k N P->vK m S gs aj f n j U r (.int .i64 ((k:Int)+1)) ae:=λ ae t P h1 h2 aA=>⟨k+1,t,P,cz,O,h1,hF.trans h2,C.trans aA.1,aA.2.1,λ q z a3 aS c2 a_=>by
    have aB:q<N.procs.length:=by rw[a.len,<-aA.2.1.len];exact(dV.1 a_).1
    rw[aA.2.2.2 q _ a3 O (dA aB) a_]
    exact D q z _ O c2 (dA aB)⟩
   obtain⟨c0,a0⟩:=ck b0 X;clear b0 X u hF C a D B a6 a5;go_wp2_with fail;refine(c0.o).mono ?_;rintro e a6 ⟨rfl,t,P,X,B,a5⟩;have W:=a0.o a6 t P X B a5;have d:=ai W;clear W X B a5;go_wp2_with fail;go_roundw;case rel=>exact d.o
   case measure=>exact bS
 obtain⟨d1,d2⟩:=eN g;have d:=cE (ig w L gs aj f (λ bO=>fA y bO/\dB n f.bo j U bO) (.returned (.tuple Pu)) wr) (⟨1,0,I,a1,N,u,b9.o.trans hF,a8.o.1.trans C,a⟩);clear u hF C a D;go_wp2_with fail;go_ret2;exact d.o
theorem JE(d):fc Tryz.prog 175 1 [(0,.agg (da d).toArray)]=some (da d).toArray:=Z
theorem Km{a m:Int}{n:Nat}(h:(if (n:Int)<a then(n:Int)else a)=m):∃k:Nat,(if (0:Int)<m then m else 0)=(k:Int)/\k<=n:=by
 have hm:m<=n:=by rw[<-h];split<;>omega
 by_cases h2:(0:Int)<m
 ·rw[di h2];exact⟨m.toNat,O,O⟩
 rw[dg h2];exact⟨0,I,Nat.zero_le _⟩
def Bi(D:List cy)(W:World)(v i:Value)(wr:World):Prop:=∃(k:Nat) (l:List cy),i=.int .i64 k/\k<=D.length/\l.length<=k/\(∀d∈l,d∈D)/\wr.ownsRow W.heap.size 175 9 v l.length (l.flatMap da)/\ab W wr
theorem Mq(w L)(gs aj p n j:Nat)(f y x U)(b3:Int)(h:cG w L gs aj f y)(t:dB n f.bo j U y)(c:y.procs[p]?=some x)(j':n<=31)(j8:j<=10000):Calls Tryz.prog 68 #[.pointer (some ⟨gs,0,none⟩),p,b3] w (ig w L gs aj f (λ bO=>dB n f.bo j U bO/\((bO.dY=[]/\bO.rest=[])\/bO=y))):=by
 have k0:p<n:=by rw[<-t.len];exact(List.getElem?_eq_some_iff.1 c).1
 obtain⟨A,F,E,bM,bK,bN,bd,bj,ac,aL,bt,fn,bw,bk,bD,bH,lc,bB,rc,wn,wc,bF,bP,bq,bg,bp,bu,M,V,K,G,H,Q,p1,q1,p2,q2,aK,aI,aR,aQ,cn,cv,bZ,bA,bh,cq,cm,gc,aJ,av,cj,ct,cur,q⟩:=h.op c;have P:=t.procs p x c;have a:ab w w:=aN _ _;have a9:=(q.s.zs w a).2.2.2.1;have S:=(q.s.zs w a).2.1;obtain⟨g5,N⟩:=bJ x.down;have R:=(q.zs w a).1;rw[<-N]at R;have k8:(0:Int)<=p:=O;have k9:(p:Int)<aL:=an q.iD;have C:=h;obtain⟨a_,a1,a',B,g⟩:=dC C t c P q;clear C t c P q h a N;go_enter func68,ntmps68;cases g5 with
 |true=>go_wp2_with fail;go_ret2;exact⟨0,12,I,L,y,a_.o,xW _ _,a1.o,.inr I⟩
 |false=>
 go_upto_region 4 with fail;go_cut[35]from 22 to 34 (λ v J=>∃b6:Bool,v=.bool b6/\w=J);case first=>
  by_cases a:f.bo=7
  ·have t7:=ot a;clear a;go_wp2_with fail;go_meet;exact⟨_,I,I⟩
  have t7:=iR a;clear a;go_wp2_with fail;go_meet;exact⟨_,I,I⟩
 obtain⟨b6,rfl,a⟩:=hcut;subst a;clear S a9 R;go_upto_if 35 with fail;go_cut[]from 9 to 83 (λ J=>rB w L gs aj f n j U y J);case first=>
  cases b6 with
  |false=>have P:=cE (rB w L gs aj f n j U y w) (⟨L,y,a_.o,xW _ _,fx.refl a1.o⟩);go_wp2_with fail;go_meet;exact P.o
  |true=>
   obtain⟨_,_,_,_,_,_,_,_,_,_,_,_,c2,s1,s2,a7,a8⟩:=g.o.du.st;simp only[List.cons.injEq,Value.slice.injEq,and_true]at c2;obtain⟨⟨rfl,rfl,rfl⟩,⟨rfl,rfl,rfl⟩,⟨rfl,rfl,rfl⟩,⟨rfl,rfl,rfl⟩⟩:=c2;have S:=g.o.zs;have b1:=(S w (aN _ _)).2.2.2.1;have j_:p2<=64:=cM s2.1 B.o.af;have t:=BI w (bx w L 0) bg p2 q2 p x.st.events (λ i a=>a.1) s2 O;obtain⟨Y,c0⟩:=ck t S;clear t S s1 s2 a7 a8;go_wp2_with fail;refine(Y.o).mono ?_;rintro e c8 ⟨h5,j0,rfl,C,N⟩;obtain⟨D,t⟩:=bJ (iZ p 0 x.st.events);have a2:∀d∈D,d∈U:=(by rw[t];exact B.o.fQ);have b0:D.length=x.st.events.length:=(by rw[t];exact tM _ _ _);rw[<-t]at C⊢;have j5:D.length<=64:=an B.o.af;have a4:=B.o.en _ (List.getLast_mem B.o.bV);have R:=wg c8 gs aj p f y x (a_.o.ptr.aq N) a'.o B.o.bV (an B.o.fO);obtain⟨a3,a5⟩:∃a3:Nat,(x.bV.getLast B.o.bV).idx=a3:=⟨(x.bV.getLast B.o.bV).idx.toNat,O⟩;rw[a5]at R a4;have a6:a3<=D.length:=O;obtain⟨cL,T⟩:=bJ D.length;have j9:cL<=64:=O;rw[<-T]at C⊢;obtain⟨a0,W,X,d_,e6⟩:=dC C N R a2 T;clear C N R a2 T b1 t b0 a4 a5 Y;go_wp2_with fail;refine(X.o).mono ?_;rintro e Y ⟨rfl,m,hm⟩;have t:ab c8 Y:=hm▸ek _ _;have N:=aM W.o t;have T:=a0.o.aq (t.mono (λ i a=>a.2));have k7:=t.size;have R:Bi D Y (.slice none 0 0) (.int .i64 a3) Y:=⟨a3,[],I,a6,aT,aT,ee _ _ _ _,aN _ _⟩;obtain⟨C,f_,b8⟩:=cf R T N;clear R T N hm t a0 W X a6;go_wp2_with fail;go_loopw[9,11] (λ v i wr=>Bi D Y v i wr) (λ _ i _=>cL- (intOf i).toNat);case atStart=>exact C.o
   clear C;obtain⟨k,l,rfl,c4,c5,a2,a5,a0⟩:=hrel;by_cases b1:k<cL
   ·obtain⟨d1,d2,d3,d4⟩:=ea b1;obtain⟨R,b5,d,rfl,C,T,N⟩:=f_.o.at_ lN b1;have t:=aM b8.o a0;have c_:∀J,ab wr J->J.cell? ⟨aj,p*14+10,none⟩=some (.slice G cm gc):=λ J c=>(c0.o J (aM t c)).2.2.2.2.2.2.2.2.2.2.1;have g7:R<Y.heap.size:=an C.2;have rg:∀J,ab wr J->J.rangeAt R (b5+k*9) (da d):=λ J c i u hu=>((aM a0 c).cell (p:=⟨R,_,none⟩) g7).trans (N i u hu);have W:∀J,ab wr J->Calls Tryz.prog 106 #[.slice G cm gc,.agg (da d).toArray] J (lU J):=λ J c=>DM J (bx w L 0) G cm gc x.log d (λ i a=>Nat.lt_of_lt_of_le a.1 (aM t c).size) (g.o.du.log.aq ((aM t c).mono (λ i a=>a.1))) (nx g.o.du.log.1 B.o.log.len a1.o.gD);have a4:∀(l':List cy) bT J,l'.length<=l.length+1->(∀z∈l',z∈D)->J.ownsRow Y.heap.size 175 9 bT l'.length (l'.flatMap da)->ab Y J->Bi D Y bT (.int .i64 ((k:Int)+1)) J:=λ l' bT J h1 h2 aA aS=>⟨k+1,l',cz,an e6.o,O,h2,aA,aS⟩;have X:∀z∈l++[d],z∈D:=λ z S=>by
     rcases List.mem_append.1 S with h|h
     ·exact a2 z h
     simp at h;rw[h];exact List.mem_of_getElem? T
    obtain⟨c1,e1,b_,e7,e_,e3,e5⟩:=dW rg W a4 X a5 a0 a2;clear rg W a4 X a5 a0 a2 N T C t;go_upto_region 10 with fail;refine fy λ u0 N C=>?_;refine ag 0 (h:=ag 1 (h:=ag 2 (h:=ag 3 (h:=ag 4 (h:=ag 5 (h:=ag 6 (h:=?_)))))));refine cK 7 I (dw ba _ _ I R (b5+k*9) I (da d) _ (λ J c=>c1.o J c) gY I Z) ?_;refine aV 8 λ K T=>?_;go_simp;refine(e1.o u0 N).mono ?_;rintro e u1 ⟨g6,rfl,X⟩;have t:=aM N X;refine aZ T aD t ?_;clear T K C N;intro C N;refine ag 9 (h:=?_);refine cg Z ?_;have a6:=dy e_.o t (λ i a=>a.2);have a4:=aM e3.o t;have b0:=c1.o u1 t;clear C N t X c_;cases g6 with
    |true=>
     have W:=b_.o l u9 u1 O e5.o a6 a4;have P:=ai W;clear W a6 a4 b0;go_wp2_with fail;go_roundw;case rel=>exact P.o
     case measure=>exact bS
    |false=>
     obtain⟨f',e4,g1⟩:=cf a6 a4 b0;clear a6 a4 b0;go_wp2_with(refine gK I _ (.tmp 65) I R (b5+k*9) (da d) _ I g1.o gY I Z ?_;refine jo ?_);refine ai ?_;go_wp2_with(refine rH (b:=d) zh (.tmp 67) (.tmp 62) (0,.tmp 66) e4.o f'.o (JE d) I (mU _) O O ?_;intro g9 g' a4 t);refine ai ?_;have W:=b_.o (l++[d]) g9 g' aT e7.o (ax a4) t;have P:=ai W;clear W a4 t;go_wp2_with fail;go_roundw;case rel=>exact P.o
     case measure=>exact bS
   obtain⟨d1,d2⟩:=eN b1;obtain⟨c9,rfl⟩:=aW (wr:World);obtain⟨b7,a6,rfl,a4⟩:=nS a5;have g8:l.length<=64:=O;obtain⟨b4,b2⟩:=bJ l.length;rw[<-b2]at a4 g8⊢;have X:=aM b8.o a0;have j6:=a4.2.1;have c_:∀J,ab c9 J->J.cell? ⟨aj,p*14+10,none⟩=some (.slice G cm gc):=λ J c=>(c0.o J (aM X c)).2.2.2.2.2.2.2.2.2.2.1
   have c3:∀t,t<=b4->∀J,ab c9 J->Calls Tryz.prog 100 #[.slice G cm gc,.slice b7 t a6] J (qw x.log (l.take t) J):=λ t b0 J c=>
    yO J (·<J.heap.size) G b7 cm gc t a6 x.log (l.take t) (λ _ h=>h) ((g.o.du.log.aq ((aM X c).mono (λ i a=>a.1))).more (λ i a=>Nat.lt_of_lt_of_le a.1 (aM X c).size)) (((a4.bW lN b0).aq (c.mono (λ i a=>a.2))).more (λ i a=>Nat.lt_of_lt_of_le a.2 c.size)) (nx g.o.du.log.1 B.o.log.len a1.o.gD) O
   have d':=cE (∀t,∀z∈l.take t,z∈U) (λ t z S=>d_.o z (a2 z (List.mem_of_mem_take S)));obtain⟨e8,b9,h8⟩:=cf c3 X b2;clear c3 X b2 a4 a5 a0 a2 c5 c4;go_upto_region 12 with fail;refine fS 15 λ u0 C N=>?_;refine bn 0 (h:=bn 1 (h:=bn 2 (h:=bn 3 (h:=bn 4 (h:=bn 5 (h:=bn 6 (h:=bn 7 (h:=bn 8 (h:=bn 9 (h:=?_))))))))));generalize a0:(if (b4:Int)<b3 then(b4:Int)else b3)=l0;obtain⟨t,X,b0⟩:=Km a0;have e2:=ai X;clear X a0;refine bn 10 (h:=?_);rw[e2.o];have dv:(0:Int)<=t:=O;have cc:(t:Int)<=a6:=O;refine bn 11 (h:=?_);have k6:=(aM b9.o C).size;refine aV 12 λ K T=>?_;go_simp;refine(e8.o t b0 u0 C).mono ?_;rintro e u1 ⟨r,c4,a5,d9,g4,rfl,b2,a4⟩;have hA2:=aM C a4;refine aZ T hA2 aD ?_;clear T K C N;intro C N;refine bn 13 (h:=bn 14 (h:=?_));refine aV 15 λ K T=>?_;have X:=aM b9.o hA2;refine ej I _ _ _ I aj (p*14+10) 76 _ (.slice d9 r.length g4) I I (X.ay g.o.cZ g.o.cZ.lt) (an g.o.fG) Z I I ?_;intro g_ a2 c3;refine dE T aD ?_;clear T K C N;intro N;have C:True:=aD;refine cg Z ?_;obtain⟨a0,T⟩:=g.o.tr X c3 a2 (r:=r) (b2.more (λ i a=>.inr ⟨an a.1,a.2⟩));have a:=B.o
   have W:rB w L gs aj f n j U y g_:=⟨_,_,a0,T,qA a1.o a'.o ⟨a.st,a.af,a.marks,a.gu,a.vec,a.bV,a.fO,a.en,⟨c4,λ z S=>by
    rcases a5 z S with h|h
    ·exact a.log.2 z h
    ·exact d'.o t z h⟩,a.known,a.fQ,a.queue⟩ ⟨I,I,I,I⟩ I I⟩
   have P:=ai W;clear W a0 T a2 c3 X b2 a4 hA2 C N c4 a5 a;go_wp2_with fail;go_meet;exact P.o
 obtain⟨h9,m3,T,a4,W⟩:=hcut;obtain⟨a9,X,-,-⟩:=W.at_ a'.o;clear g;obtain⟨A,F,E,bM,bK,bN,bd,bj,ac,aL,bt,fn,bw,bk,bD,bH,lc,bB,rc,wn,wc,bF,bP,bq,bg,bp,bu,M,V,K,G,H,Q,p1,q1,p2,q2,aK,aI,aR,aQ,cn,cv,bZ,bA,bh,cq,cm,gc,aJ,av,cj,ct,cur,q⟩:=T.op X;have a5:=q.cZ;have k5:=q.fG;have j7:gs≠aj:=λ e=>by have h1:=q.s.dP;have h2:=q.s.pl;rw[e]at h1;omega
 have b2:=q.s.fm;obtain⟨a2,g0,g,C,a0,N,e9⟩:=dW a5 b2 q X a4 W T;clear a5 b2 q X a4 W T;go_wp2_with(refine dO I _ (.tmp 89) (.const (.slice none 0 0)) I aj (p*14+11) 76 _ (.slice none 0 0) I I a2.o O Z I I ?_;intro v1 R s1;refine jo ?_);refine ai ?_;go_wp2_with(refine dO I _ (.tmp 91) (.const (.slice none 0 0)) I aj (p*14+13) 76 _ (.slice none 0 0) I I R aY Z I I ?_;intro v2 q s2;refine jo ?_);refine ai ?_;go_wp2_with(refine dO I _ (.tmp 93) (.const (.int .i64 0)) I aj (p*14+12) 76 _ (.int .i64 0) I I q aY Z I I ?_;intro l_ T a7;refine jo ?_);refine ai ?_;go_wp2_with(refine dO I _ (.tmp 95) (.const (.bool true)) I aj (p*14) 76 _ (.bool true) I I T aY Z I I ?_;intro v4 b2 a8;refine jo ?_);refine ai ?_;obtain⟨h',c5,c3⟩:=g.o.Lm C.o (aN _ _) s1 R s2 q a7 T a8 b2;have a:=N.o.2.1.procs p a9 C.o;have c6:=N.o.2.1.gy C.o (cl:={a9 with known:=[],queue:=[],gZ:=0,down:=true}) ⟨a.st,a.af,a.marks,a.gu,a.vec,a.bV,a.fO,a.en,a.log,⟨List.Pairwise.nil,aT⟩,a.fQ,aT⟩ (by have:=N.o.2.1.load;simp;omega);obtain⟨cC,h7,h6,h_,i8,i9,i7,i_,i',l5,l1,j4,j3,j2,j1,k_,k',l7,l6,m2,m0,l9,l8,W⟩:=c5.ops;have c7:=W.fm;have c4:=a0.o.trans c3;obtain⟨a4,a5,X,e0⟩:=cH W c7 c6 c4;clear W c7 c6 c4 s1 R s2 q a7 T a8 b2 c5 c3 g a2 g0 C e9 a0 a;go_wp2_with(refine dO I _ (.tmp 99) (.const (.slice none 0 0)) I gs 7 63 _ (.slice none 0 0) I I a5.o (by simp[dr]) Z I I ?_;intro a2 g T;refine jo ?_);refine ai ?_;go_wp2_with(refine dO I _ (.tmp 101) (.const (.slice none 0 0)) I gs 8 63 _ (.slice none 0 0) I I g (by simp[dr]) Z I I ?_;intro v6 q W;refine jo ?_);refine ai ?_;obtain⟨a0,R,C⟩:=a4.o.FI (aN _ _) T g W q;have a:=X.o;have P:=cE (ig w L gs aj f (λ bO=>dB n f.bo j U bO/\((bO.dY=[]/\bO.rest=[])\/bO=y)) (.returned (.tuple Pu)) v6) (⟨1,0,I,a0,_,R,e0.o.trans C,⟨a.len,a.gD,a.procs,a.cY,a.load,a.ends,a.world,a.rel⟩,.inl ⟨I,I⟩⟩);clear T g W q R C a a4 a5 X;go_wp2_with fail;go_ret2;exact P.o
def zC(U:List cy)(w:World)(e:Ending)(ae:World):Prop:=∃r:List cV,gG U r/\jU cB 10 r w e ae
def oS(U:List cy)(m:Nat)(W:World)(v i:Value)(wr:World):Prop:=∃(k:Nat) (r:List cV) (A:Option Addr) (c:Nat),i=.int .i64 k/\k<=m/\gG U r/\v=.slice A r.length c/\bl cB 10 wr (cP wr W.heap.size) A r.length c r/\ab W wr
theorem gG.ji(U):gG U []:=⟨List.Pairwise.nil,aT⟩
theorem bl.wT{α:Type}{enc:α->List Value}{size n c:Nat}{w u W:World}{A:Option Addr}{l:List α}(h:bl enc size w (cP w W.heap.size) A n c l)(b:ab w u):bl enc size u (·<u.heap.size) A n c l:=(h.aq (b.mono (λ i a=>a.2))).more (λ i a=>cQ a.2 b.size)
theorem LK(w)(gs aj p n j k:Nat)(f y x U)(h:gF w gs aj f y)(b:dB n f.bo j U y)(m:y.procs[p]?=some x)(n6:p<n)(k_:n<=31)(n4:j<=10000):Calls Tryz.prog 135 #[.pointer (some ⟨gs,0,none⟩),p,k] w (zC U w):=by
 obtain⟨A,F,E,bM,bK,bN,bd,bj,ac,aL,bt,fn,bw,bk,bD,bH,lc,bB,rc,wn,wc,bF,bP,bq,bg,bp,bu,M,V,K,G,H,Q,p1,q1,p2,q2,aK,aI,aR,aQ,cn,cv,bZ,bA,bh,cq,cm,gc,aJ,av,cj,ct,g,j1,C,R,L,a⟩:=h.proc m;have l:=b.procs p x m;have b3:=C w (aN _ _) 3 _ I;have i1:(0:Int)<=p:=O;have i2:(p:Int)<aL:=O;have n7:aL<=31:=by rw[g,b.len];exact k_
 have P:=b.gD;have t:∀r:List cV,gG U r->r.length<=10000:=λ r a=>an a.len;have N:w.rangeAt aj (p*14) (ic bq bg bp bu M V K G H Q p1 q1 p2 q2 aK aI aR aQ cn cv bZ bA bh cq cm gc aJ av cj ct x):=λ i u hu=>L w (aN _ _) i u hu;obtain⟨_,_,_,_,_,_,_,_,_,_,_,_,i8,s1,s2,S,T⟩:=a.st;simp only[List.cons.injEq,Value.slice.injEq,and_true]at i8;obtain⟨⟨rfl,rfl,rfl⟩,⟨rfl,rfl,rfl⟩,⟨rfl,rfl,rfl⟩,⟨rfl,rfl,rfl⟩⟩:=i8;have n2:cm<=10000:=cM a.log.1 l.log.len;have B:=h;obtain⟨k5,e3,m2,b9,e6,s,e5,e7,h5⟩:=df B b m l a N g t s2;clear B b m l a N g t s2 h R C L s1 S T P;go_enter func135,ntmps135;go_upto_region 2 with(first|(refine gK rfl _ (.tmp 18) rfl aj (p*14) (ic bq bg bp bu M V K G H Q p1 q1 p2 q2 aK aI aR aQ cn cv bZ bA bh cq cm gc aJ av cj ct x) _ rfl s.o underlying76 rfl Z ?_)|(refine db rfl _ (.tmp 7) (.tmp 19) rfl w.heap.size 76 _ (ic bq bg bp bu M V K G H Q p1 q1 p2 q2 aK aI aR aQ cn cv bZ bA bh cq cm gc aJ av cj ct x) rfl rfl (aC.new _ _ _) rfl Z rfl ?_;intro t a B));have b:ab w t:=zv (cx _ _) B (Nat.le_refl _);obtain⟨b_,g⟩:=bJ w.heap.size;rw[<-g]at a⊢;have b6:∀J,ab t J->J.cell? ⟨b_,10,none⟩=some (.slice G cm gc):=λ J k=>by rw[(k.ay a a.lt).cell];rfl
 have d_:∀J,ab t J->J.cell? ⟨b_,3,none⟩=some (.slice bg p2 q2):=λ J k=>by rw[(k.ay a a.lt).cell];rfl
 have e0:∀J,ab t J->J.cell? ⟨b_,9,none⟩=some (.slice K bh cq):=λ J k=>by rw[(k.ay a a.lt).cell];rfl
 have l:=k5.o.aq b;have a8:=cE (oS U cm t (.slice none 0 0) (.int .i64 0) t) (⟨0,[],none,0,I,Nat.zero_le _,gG.ji U,I,iq,aN _ _⟩);obtain⟨b8,h7,k6,k7,e4⟩:=dC b b6 d_ e0 l;clear b b6 d_ e0 l a B g b3 s;(try simp only[Act.put]);go_wp2_with fail;go_loopw[8,9] (λ v i wr=>oS U cm t v i wr) (λ _ i _=>cm- (intOf i).toNat);case atStart=>exact a8.o
 clear a8;obtain⟨q,r,A,c,rfl,aB,s,rfl,N,a⟩:=hrel;have b6:=h7.o wr a;by_cases a7:q<cm
 ·obtain⟨d1,d2,d3,d4⟩:=ea a7;obtain⟨a5,b2,d,rfl,c0,c2,c1⟩:=e6.o.log.at_ lN a7;have c3:=b9.o.log.2 d (List.mem_of_getElem? c2);have a6:=aM b8.o a;have rg:∀J,ab wr J->J.rangeAt a5 (b2+q*9) (da d):=λ J m i u hu=>((aM a6 m).cell (p:=⟨a5,_,none⟩) c0).trans (c1 i u hu);obtain⟨g1,g5,g4,g9,g_,h6,g',h9,h8,b7,g0,i',i9,i7,h_,j4,j3,j6,j5,j',j9,j8,j7,a',a9,c5⟩:=e4.o.sys;have b3:∀J,ab wr J->J.cell? ⟨gs,3,none⟩=some (.slice (some ⟨aj,0,none⟩) b7 g0):=λ J m=>a9 J (aM a m) 3 _ I;have l0:b7<=32:=an e5.o;have b6:∀J,ab wr J->J.cell? ⟨b_,10,none⟩=some (.slice (some ⟨a5,b2,none⟩) cm gc):=λ J m=>h7.o J (aM a m);have j2:=e7.o r s
  have c4:∀(J:World) (B:Int),ab wr J->Calls Tryz.prog 94 #[.slice A r.length c,.agg (cB ⟨d,B⟩).toArray] J (oG r ⟨d,B⟩ J):=λ J B f'=>
   pj J (·<J.heap.size) A r.length c r ⟨d,B⟩ (λ _ h=>h) (N.wT f') O
  have b:=a;obtain⟨e8,e2,g6,e1,g8,S⟩:=er rg c4 b c3 a' s;clear rg c4 b c3 a' s c1 c2 c0 a6 a9 c5 N;go_upto_region 6 with fail;refine fy λ u0 b P=>?_;refine ag 0 (h:=ag 1 (h:=ag 2 (h:=ag 3 (h:=ag 4 (h:=?_)))));refine cK 5 I (dw ba _ _ I a5 (b2+q*9) I (da d) _ (λ J m=>e8.o J m) gY I Z) ?_;refine ag 6 (h:=ag 7 (h:=ag 8 (h:=ag 9 (h:=ag 10 (h:=?_)))));refine aV 11 λ K W=>?_;go_simp;refine(qV u0 b7 l0).mono ?_;rintro e u1 ⟨B,rfl,X⟩;have T:=aM b X;refine aZ W aD T ?_;clear W K P b;intro P b;clear T X;refine cK 12 I (gh ba _ _ I _ [(0,.agg (da d).toArray),(1,.int .u32 B)] I (jh d B)) ?_;refine aV 13 λ K W=>?_;go_simp;refine(e2.o u1 B b).mono ?_;rintro e u2 ⟨l,C,L,a1,a0,rfl,c6,X⟩;have T:=aM b X;have l1:=b.size;refine aZ W aD T ?_;clear W K P b;intro P b;clear T;refine ag 14 (h:=?_);refine cg Z ?_;have c7:bl cB 10 u2 (cP u2 t.heap.size) C l.length L l:=by obtain⟨bY,h',b0,aA⟩:=nS c6;injection b0 with b0 _ e9;subst b0 e9;exact aA.more (λ i g=>⟨cM g.1 g6.o.size,g.2⟩)
  have Y:gG U l:=⟨a1,λ z a2=>by
   obtain⟨b4,b1,rfl⟩:=List.mem_map.1 a2
   rcases a0 b4 b1 with h|h
   ·exact S.o.2 _ h
   ·rw[h];exact e1.o⟩
  have R:oS U cm t (.slice C l.length L) (.int .i64 ((q:Int)+1)) u2:=⟨q+1,l,C,L,cz,O,Y,I,c7,aM g6.o b⟩;have a3:=ai R;clear R c7 Y a1 a0 c6 X P b b3 b6;go_wp2_with fail;go_roundw;case rel=>exact a3.o
  case measure=>exact bS
 obtain⟨d1,d2⟩:=eN a7;obtain⟨d',rfl⟩:=aW (wr:World);have d_:=k6.o d' a;have a6:=aM b8.o a;have a_:=BI d' (·<d'.heap.size) bg p2 q2 p x.st.events (λ _ h=>h) ((h5.o.aq a6).more (λ i g=>Nat.lt_of_lt_of_le g a6.size)) (cM h5.o.1 b9.o.af);obtain⟨g7,a4,b5,S⟩:=cH a_ a N s;clear a_ a N s;go_wp2_with fail;refine(g7.o).mono ?_;rintro e c8 ⟨bY,h',rfl,d9,c_⟩;obtain⟨D,c9⟩:=bJ (iZ p 0 x.st.events);have i_:∀d∈D,d∈U:=by rw[c9];exact b9.o.fQ
 have m_:D.length<=64:=by rw[c9,tM];exact b9.o.af
 rw[<-c9]at d9⊢;obtain⟨a_,e_⟩:=bJ D.length;rw[<-e_]at d9⊢;have n1:a_<=64:=O;have f_:=aM a4.o c_;have a8:=cE (oS U a_ t (.slice A r.length c) (.int .i64 0) c8) (⟨0,r,A,c,I,Nat.zero_le _,S.o,I,(b5.o.aq (c_.mono (λ i g=>g.2))).more (λ i g=>⟨g.1,Nat.lt_of_lt_of_le g.2 c_.size⟩),f_⟩);have k0:=cE (bl da 9 c8 (cP c8 d'.heap.size) bY a_ h' D) d9;obtain⟨l9,e1,l8⟩:=cf f_ i_ e_;clear f_ i_ e_ d9 c_ c9 a4 b5 S g7 a6 d_ b6;go_wp2_with fail;go_loopw[8,11] (λ v i wr=>oS U a_ t v i wr/\ab c8 wr) (λ _ i _=>a_- (intOf i).toNat);case atStart=>exact⟨a8.o,aN _ _⟩
 clear a8 d1 d2 a7 aB;obtain⟨⟨q,r,A,c,rfl,aB,s,rfl,N,a⟩,c9⟩:=hrel;by_cases a7:q<a_
 ·obtain⟨d1,d2,d3,d4⟩:=ea a7;have j0:=e6.o.bV.len;have n0:=List.length_pos_iff.2 b9.o.bV;have k':0<bh:=O;obtain⟨c_,ok,m8,d_,rfl,e_,-,⟨m7,p',p8,rfl,-⟩,-,g7⟩:=e6.o.bV.mW.at_ k';obtain⟨a5,b2,d,rfl,c0,c2,c1⟩:=k0.o.at_ lN a7;have c3:=e1.o d (List.mem_of_getElem? c2);have a6:=aM b8.o a;have rg:∀J,ab wr J->J.rangeAt a5 (b2+q*9) (da d):=λ J m i u hu=>((aM c9 m).cell (p:=⟨a5,_,none⟩) c0.2).trans (c1 i u hu);have y1:∀J,ab wr J->J.cell? ⟨a5,b2+q*9+1,none⟩=some (.int .i64 d.idx):=λ J m=>rg J m 1 _ I;have j_:∀J,ab wr J->J.cell? ⟨c_,ok,none⟩=some (.int .i64 d_.idx):=λ J m=>((aM a6 m).cell (p:=⟨c_,ok,none⟩) e_).trans (by have:=g7 0 _ I;simpa using this);have e0:∀J,ab wr J->J.cell? ⟨b_,9,none⟩=some (.slice (some ⟨c_,ok,none⟩) bh cq):=λ J m=>k7.o J (aM a m);have n_:(0:Int)<bh:=O;obtain⟨k9,i_⟩:=bJ d.idx;rw[<-i_]at y1;obtain⟨k8,f_⟩:=bJ d_.idx;rw[<-f_]at j_;have j2:=e7.o r s
  have c4:∀(J:World) (B:Int),ab wr J->Calls Tryz.prog 94 #[.slice A r.length c,.agg (cB ⟨d,B⟩).toArray] J (oG r ⟨d,B⟩ J):=λ J B f'=>
   pj J (·<J.heap.size) A r.length c r ⟨d,B⟩ (λ _ h=>h) (N.wT f') O
  have b6:∀(l:List cV) (C:Option Addr) (L:Nat) (J:World),gG U l->bl cB 10 J (cP J t.heap.size) C l.length L l->ab wr J->oS U a_ t (.slice C l.length L) (.int .i64 ((q:Int)+1)) J/\ab c8 J:=λ l C L J h1 h2 aA=>⟨⟨q+1,l,C,L,cz,O,h1,I,h2,aM a aA⟩,aM c9 aA⟩;obtain⟨f',e8,e2,a4,S,d9,b5,l_⟩:=fl c3 rg c4 a s b6 N j0;clear rg c4 a s b6 N j0 c3 c1 c2 c0 a6 c9 e_ g7 i_ f_;go_upto_region 11 with fail;refine fy λ u0 b P=>?_;refine ag 0 (h:=ag 1 (h:=ag 2 (h:=ag 3 (h:=ag 4 (h:=ag 5 (h:=ag 6 (h:=ag 7 (h:=ag 8 (h:=ag 9 (h:=ag 10 (h:=?_)))))))))));refine cg Z ?_;clear y1 j_ e0;generalize decide (k8<k9)=e_;cases e_ with
  |true=>
   have a6:=b;have c0:=ai a6;clear a6 b P;go_upto_region 12 with fail;refine fy λ u1 b P=>?_;refine ag 0 (h:=ag 1 (h:=ag 2 (h:=ag 3 (h:=?_))));refine cK 4 I (dw ba _ _ I a5 (b2+q*9) I (da d) _ (λ J m=>e8.o J (aM c0.o m)) gY I Z) ?_;refine ag 5 (h:=?_);refine aV 6 λ K W=>?_;go_simp;refine(jW u1 p O).mono ?_;rintro e u2 ⟨B,rfl,X⟩;have T:=aM b X;refine aZ W aD T ?_;clear W K P b;intro P b;clear T X;refine cK 7 I (gh ba _ _ I _ [(0,.agg (da d).toArray),(1,.int .u32 B)] I (jh d B)) ?_;refine aV 8 λ K W=>?_;go_simp;refine(e2.o u2 B (aM c0.o b)).mono ?_;rintro e u3 ⟨l,C,L,a1,a0,rfl,c6,X⟩;have T:=aM b X;have l1:=(aM c0.o b).size;refine aZ W aD T ?_;clear W K P b;intro P b;clear T;refine ag 9 (h:=?_);refine cg Z ?_;have c7:bl cB 10 u3 (cP u3 t.heap.size) C l.length L l:=(by obtain⟨cC,c3,b0,aA⟩:=nS c6;injection b0 with b0 _ e9;subst b0 e9;exact aA.more (λ i g=>⟨cM g.1 a4.o.size,g.2⟩))
   have Y:gG U l:=⟨a1,λ z a2=>by
    obtain⟨b4,b1,rfl⟩:=List.mem_map.1 a2
    rcases a0 b4 b1 with h|h
    ·exact S.o.2 _ h
    ·rw[h];exact f'.o⟩
   have R:=d9.o l C L u3 Y c7 (aM c0.o b);have a3:=ai R;clear R c7 Y a1 a0 c6 X P b;go_wp2_with fail;go_roundw;case rel=>exact a3.o
   case measure=>exact bS
  |false=>
   have R:=d9.o r A c u0 S.o ((b5.o.aq (b.mono (λ i g=>g.2))).more (λ i g=>⟨g.1,Nat.lt_of_lt_of_le g.2 b.size⟩)) b;have a3:=ai R;clear R P b;go_wp2_with fail;go_roundw;case rel=>exact a3.o
   case measure=>exact bS
 obtain⟨d1,d2⟩:=eN a7;have a8:=cE (oS U aL t (.slice A r.length c) (.int .i64 0) wr) (⟨0,r,A,c,I,Nat.zero_le _,s,I,N,a⟩);clear s N a c9;go_wp2_with fail;go_loopw[8,12] (λ v i wr=>oS U aL t v i wr) (λ _ i _=>aL- (intOf i).toNat);case atStart=>exact a8.o
 clear a8 d1 d2 a7 aB;obtain⟨q,r,A,c,rfl,aB,s,rfl,N,a⟩:=hrel;have j2:=e7.o r s;by_cases n9:q<aL
 ·obtain⟨b,X⟩:∃b,y.procs[q]?=some b:=⟨_,List.getElem?_eq_getElem (an e5.o)⟩;obtain⟨g1,g5,g4,g9,g_,h6,g',h9,h8,b7,g0,i',i9,i7,h_,j4,j3,j6,j5,j',j9,j8,j7,j0,j_,l5,l6,m4,m6,m3,l7,H1,m5,o5,o9,o6,o',o7,o_,o8,p0,o4,o3,p9,p7,o1,o0,m',m9,c4,g7,p6,p5,a',j1,a9,c5,P,W⟩:=e4.o.proc X;obtain⟨d1,d2,d3,d4⟩:=ea j1;have b3:=a9 wr a 3 _ I;have c7:=P wr a 0 _ I;have i_:=P wr a 11 _ I;obtain⟨f_,a6⟩:=bJ b.down;rw[<-a6,Nat.add_zero]at c7;have T:=e3.o.procs q b X;have b6:∀(l:List cV) (C:Option Addr) (L:Nat) (J:World),gG U l->bl cB 10 J (cP J t.heap.size) C l.length L l->ab wr J->oS U aL t (.slice C l.length L) (.int .i64 ((q:Int)+1)) J:=λ l C L J h1 h2 aA=>⟨q+1,l,C,L,cz,O,h1,I,h2,aM a aA⟩;have n3:c4<=10000:=nx W.known.1 T.known.len e3.o.gD;have b0:=Cz wr (·<wr.heap.size) H1 c4 g7 b.known p k (λ _ h=>h) ((W.known.aq a).more (λ i g=>Nat.lt_of_lt_of_le g a.size)) O;have a8:=b6 r A c wr s N (aN _ _);have n8:q<=31:=O;obtain⟨e9,c1,a7,c2,g8,b5,S,a4⟩:=fl b6 a8 b0 T a' N s a;clear a8 b0 T a' N s a a9 c5 P W a6 b6 X;by_cases P:q=p
  ·have t1:((q:Int)!=(p:Int))=false:=aY;clear P;go_wp2_with fail;go_roundw;case rel=>exact c1.o
   case measure=>exact bS
  have t1:((q:Int)!=(p:Int))=true:=aY;clear P;cases f_ with
  |true=>
   go_wp2_with fail;go_roundw;case rel=>exact c1.o
   case measure=>exact bS
  |false=>
   go_wp2_with fail;refine(a7.o).mono ?_;rintro e c6 ⟨cC,c3,rfl,X,P⟩;obtain⟨dR,T⟩:=bJ (b.known.filter (λ x=>decide (x.az.proc≠(p:Int))||decide (x.az.idx<=(k:Int))));rw[<-T]at X⊢;obtain⟨b6,a6⟩:=bJ dR.length;rw[<-a6]at X⊢;have b0:∀z∈dR,z.az∈U:=λ z a2=>by rw[T]at a2;exact c2.o.known.2 _ (List.mem_map_of_mem (List.mem_filter.1 a2).1)
   have n5:b6<=10000:=(by have h1:dR.length<=b.known.length:=(by rw[T];exact List.length_filter_le _ _);have:=c2.o.known.len;have:=e3.o.gD;omega);have W:=AE c6 (·<c6.heap.size) A cC r.length c b6 c3 p r dR (λ _ h=>h) (b5.o.wT P) (X.more (λ i g=>g.2)) O O O O;have n':=P.size;obtain⟨a8,c9,e0,m0⟩:=cH W P b0 a6;clear W P b0 a6 X T b3 c7 i_ a7;go_wp2_with fail;refine(a8.o).mono ?_;rintro e b0 ⟨P,a1,a0,a6,a7,rfl,X,T⟩
   have Y:gG U P:=⟨a1,λ z a2=>by
    obtain⟨b4,b1,rfl⟩:=List.mem_map.1 a2
    rcases List.mem_append.1 (a0 b4 b1)with h|h
    ·exact S.o.2 _ h
    ·obtain⟨i_,c7,e⟩:=List.mem_map.1 h
     rw[<-e]
     exact e0.o i_ c7⟩
   have R:=e9.o P a6 a7 b0 Y (X.more (λ i g=>⟨cM g.1 a4.o.size,g.2⟩)) (aM c9.o T);have a3:=ai R;clear R Y a1 a0 X T;go_wp2_with fail;go_roundw;case rel=>exact a3.o
   case measure=>exact bS
 obtain⟨g1,g5,g4,g9,g_,h6,g',h9,h8,b7,g0,i',i9,i7,h_,j4,j3,j6,j5,j',j9,j8,j7,a',a9,c5⟩:=e4.o.sys;have b3:=a9 wr a 3 _ I;obtain⟨d1,d2⟩:=eN (show¬q<b7 from an e5.o);have W:=AE wr (·<wr.heap.size) A none r.length c 0 0 p r [] (λ _ h=>h) (N.wT (aN _ _)) iq O O O O;obtain⟨a8,a4,S,g8⟩:=cH W a s a';clear W a s a' a9 c5 N;go_wp2_with fail;refine(a8.o).mono ?_;rintro e b0 ⟨P,a1,a0,a6,a7,rfl,X,T⟩
 have Y:gG U P:=⟨a1,λ z a2=>by
  obtain⟨b4,b1,rfl⟩:=List.mem_map.1 a2
  have h:=a0 b4 b1
  simp only[List.map_nil,List.append_nil]at h
  exact S.o.2 _ h⟩
 have R:zC U w (.returned (.slice a6 P.length a7)) b0:=⟨P,Y,a6,a7,I,X.more (λ i g=>⟨cM g.1 ((aM b8.o a4.o).size),g.2⟩),aM (aM b8.o a4.o) T⟩;have a3:=ai R;clear R Y a1 a0 X T b3;go_wp2_with fail;go_ret;exact a3.o
theorem Ms:gQ Tryz.prog 35 40 4 32:=vW (z:=.agg Pw) gA Z
theorem JY(s):fc Tryz.prog 40 1 [(0,.agg (dF s).toArray)]=some (dF s).toArray:=Z
theorem eJ.ua{w L gs aj p f y x A F E bM bK bN bd bj ac aL bt fn bw bk bD bH lc bB rc wn wc bF bP bq bg bp bu M V K G H Q p1 q1 p2 q2 aK aI aR aQ cn cv bZ bA bh cq cm gc aJ av cj ct cur}(a:eJ w L gs aj f y p x A F E bM bK bN bd bj ac aL bt fn bw bk bD bH lc bB rc wn wc bF bP bq bg bp bu M V K G H Q p1 q1 p2 q2 aK aI aR aQ cn cv bZ bA bh cq cm gc aJ av cj ct cur):∀J,ab w J->J.rangeAt aj (p*14+2) [.slice bq p1 q1,.slice bg p2 q2,.slice bp aK aI,.slice bu aR aQ]:=λ J b i u hu=>by
 have aS:i<4:=(dV.1 hu).1
 have:=a.fN b a.cZ.lt (2+i) u (by
  rw[<-hu]
  rcases i with _|_|_|_|i
  ·rfl
  ·rfl
  ·rfl
  ·rfl
  ·omega)
 rw[nr]
 exact this
def yx(cD:List ev)(W:World)(v i:Value)(wr:World):Prop:=∃(k:Nat) (l:List ev),i=.int .i64 k/\k<=cD.length/\l.length<=k/\(∀s∈l,s∈cD)/\wr.ownsRow W.heap.size 40 4 v l.length (l.flatMap dF)/\ab W wr
def AR(W:World)(v v2:Value)(J:World):Prop:=∃(g:Nat) (a c:Int) (b:Bool),v=.pointer (some ⟨g,0,none⟩)/\v2=.bool b/\aC J g 42 #[a,c]/\W.heap.size<=g/\ab W J
def AM(w:World)(L:Nat->Nat)(gs aj:Nat)(f:dn)(n j:Nat)(U:List cy)(y:bQ)(m:Nat)(i:Value)(wr:World):Prop:=∃(k:Nat) (bL:Nat->Nat) (bO:bQ),i=.int .i64 k/\k<=m/\cG wr bL gs aj f bO/\cW w L wr bL/\fA y bO/\dB n f.bo j U bO/\dX bO<=dX y+k
theorem HF(w L)(gs aj p n j:Nat)(f y x U)(h:cG w L gs aj f y)(c:dB n f.bo j U y)(B:y.procs[p]?=some x)(o5:n<=31)(n':j<=10000):Calls Tryz.prog 64 #[.pointer (some ⟨gs,0,none⟩),p] w (ig w L gs aj f (λ bO=>fA y bO/\dB n f.bo j U bO)):=by
 have l1:p<n:=by rw[<-c.len];exact(List.getElem?_eq_some_iff.1 B).1
 obtain⟨A,F,E,bM,bK,bN,bd,bj,ac,aL,bt,fn,bw,bk,bD,bH,lc,bB,rc,wn,wc,bF,bP,bq,bg,bp,bu,M,V,K,G,H,Q,p1,q1,p2,q2,aK,aI,aR,aQ,cn,cv,bZ,bA,bh,cq,cm,gc,aJ,av,cj,ct,cur,a⟩:=h.op B;have D:=c.procs p x B;have d:ab w w:=aN _ _;have k5:=(a.s.zs w d).2.2.2.1;obtain⟨k8,q⟩:=bJ x.down;have Y:=(a.zs w d).1;rw[<-q]at Y;have o9:(0:Int)<=p:=O;have o':(p:Int)<aL:=an a.iD;have C:∀J (i:Int),ab w J->ig w L gs aj f (λ bO=>fA y bO/\dB n f.bo j U bO) (.returned (.tuple #[.int .i64 0,i])) J:=λ J i P=>⟨0,i,I,dc L w,y,h.fE P,ki P,pq y,c⟩;have g:=h;obtain⟨g0,a1,e_,b2,a2,e9⟩:=er g c B D a C;clear g c B D a C h d q;go_enter func64,ntmps64;cases k8 with
 |true=>go_wp2_with fail;go_ret2;exact e9.o w 12 (aN _ _)
 |false=>
 obtain⟨_,_,_,_,_,_,_,_,_,_,_,_,b3,s1,s2,C,X⟩:=a2.o.du.st;simp only[List.cons.injEq,Value.slice.injEq,and_true]at b3;obtain⟨⟨rfl,rfl,rfl⟩,⟨rfl,rfl,rfl⟩,⟨rfl,rfl,rfl⟩,⟨rfl,rfl,rfl⟩⟩:=b3;have o6:x.st.events.length<=64:=b2.o.af;have o7:aK<=600:=cM C.1 b2.o.st.cD;have T:∀J (a0:Int),ab w J->Calls Tryz.prog 36 #[.agg #[.slice bq p1 q1,.slice bg p2 q2,.slice bp aK aI,.slice bu aR aQ],a0] J (lC x.st.events a0 J):=λ J a0 P=>AN J (bx w L 0) bq bg bp bu p1 q1 p2 q2 aK aI aR aQ x.st.events a0 (λ i a=>Nat.lt_of_lt_of_le a.1 P.size) (s2.aq (P.mono (λ i a=>a.1))) O;have a4:=a1.o.gD;have b6:=a1.o.load;have a5:=tE e_.o;have R:∀J (d g c:Int),ab w J->Calls Tryz.prog 97 #[.slice F fn bw,p,.agg #[d,g],c] J (na J):=λ J d g c P=>Fh J (bx w L 3) (bx w L 0) F fn bw y.cY p d g c (a2.o.s.dI.cY.aq (P.mono (λ i a=>a.1)) (λ cs m hm=>hm.aq (P.mono (λ i a=>a.1)))) (λ i a=>Nat.lt_of_lt_of_le a.1 P.size) (an a2.o.s.dI.cY.len);have S:∀J (d g c:Int),ab w J->Calls Tryz.prog 97 #[.slice Q cj ct,p,.agg #[d,g],c] J (na J):=λ J d g c P=>Fh J (bx w L (12+4*p)) (bx w L 0) Q cj ct x.queue p d g c (a2.o.du.queue.aq (P.mono (λ i a=>a.1)) (λ cs m hm=>hm.aq (P.mono (λ i a=>a.1)))) (λ i a=>Nat.lt_of_lt_of_le a.1 P.size) (an a2.o.du.queue.len);have W:∀(t:Nat),t<n->∃(c1 c2 c3 c4:Option Addr) (c7 a3 c8 q c9 D c_ N:Nat),(∀J,ab w J->J.rangeAt aj (t*14+2) [.slice c1 c7 a3,.slice c2 c8 q,.slice c3 c9 D,.slice c4 c_ N])/\∀J (d g c:Int),ab w J->∃r:Int,Calls Tryz.prog 37 #[.agg #[.slice c1 c7 a3,.slice c2 c8 q,.slice c3 c9 D,.slice c4 c_ N],p,.agg #[d,g],c] J (λ e ae=>e=.returned (.int .i64 r)/\ab J ae):=λ t q=>by obtain⟨e2,j3⟩:∃e2,y.procs[t]?=some e2:=⟨_,List.getElem?_eq_getElem (by rw[a1.o.len];exact q)⟩;obtain⟨e3,l_,l9,m6,m9,m_,m8,n1,n0,p',p9,n6,n5,n4,n3,p6,p5,q6,q5,r1,r0,q8,q7,g8,g',h5,h6,m5,m',m4,m0,m2,m7,j5,j9,j6,j',j7,j_,j8,k0,p8,p7,q_,q',p0,o_,n8,n7,o4,n9,q0,p_,n2,j0⟩:=g0.o.op j3;obtain⟨_,_,_,_,_,_,_,_,_,_,_,_,b3,s1,s2,C,X⟩:=j0.du.st;simp only[List.cons.injEq,Value.slice.injEq,and_true]at b3;obtain⟨⟨rfl,rfl,rfl⟩,⟨rfl,rfl,rfl⟩,⟨rfl,rfl,rfl⟩,⟨rfl,rfl,rfl⟩⟩:=b3;exact⟨g8,g',h5,h6,j5,j9,j6,j',j7,j_,j8,k0,j0.ua,λ J d g c P=>⟨_,zJ J (bx w L 0) g8 g' h5 h6 j5 j9 j6 j' j7 j_ j8 k0 e2.st.events p d g c (λ i a=>Nat.lt_of_lt_of_le a.1 P.size) (s2.aq (P.mono (λ i a=>a.1))) (an ((a1.o.procs t e2 j3).af))⟩⟩
 have b_:yx x.st.cD w (.slice none 0 0) (.int .i64 0) w:=⟨0,[],I,Nat.zero_le _,aT,aT,ee _ _ _ _,aN _ _⟩;have e0:=a2.o.zs;have D:=a2.o.s.zs;have c:=a2.o.ua;have i9:=ai c;clear c;obtain⟨e7,h8,h9,i8,b1,g4,f',f_⟩:=fl T R S W b_ C e0 D;clear T R S W b_ C e0 D s1 s2 X a4 b6 a5;go_wp2_with fail;clear k5 Y;go_loopw[7,8] (λ v i wr=>yx x.st.cD w v i wr) (λ _ i _=>aK- (intOf i).toNat);case atStart=>exact b1.o
 clear b1;obtain⟨k,l,rfl,P,o1,b7,d_,a6⟩:=hrel;have l8:=(f'.o wr a6).2.2.2.2.1;by_cases d':k<aK
 ·obtain⟨d1,d2,d3,d4⟩:=ea d';obtain⟨a3,a',s,rfl,g6,au,b4⟩:=(g4.o.aq (a6.mono (λ i a=>a.1))).at_ kE d';have b9:wr.rangeAt a3 (a'+k*4) (dF s):=λ i u hu=>b4 i u hu;have c:=List.mem_of_getElem? au;obtain⟨t,q⟩:∃t:Nat,s.aa=t:=⟨s.aa.toNat,an (b2.o.st.snd s c)⟩;have l5:t<n:=an (b2.o.st.snd s c);have b8:∀(l':List ev) bT J,l'.length<=l.length+1->(∀z∈l',z∈x.st.cD)->J.ownsRow w.heap.size 40 4 bT l'.length (l'.flatMap dF)->ab w J->yx x.st.cD w bT (.int .i64 ((k:Int)+1)) J:=λ l' bT J h1 h2 aA aS=>⟨k+1,l',cz,an g4.o.1,O,h2,aA,aS⟩;have N:∀z∈l++[s],z∈x.st.cD:=λ z e0=>by
   rcases List.mem_append.1 e0 with h|h
   ·exact b7 z h
   simp at h;rw[h];exact c
  obtain⟨q9,R⟩:=bJ s;obtain⟨c6,D,C,c5,k7,e8⟩:=er b9 d_ a6 b8 N b7;clear b9 d_ a6 b8 N b7 b4 au g6 c R;go_upto_region 9 with(first|(refine gK rfl _ (.tmp 39) rfl a3 (a'+k*4) (dF s) _ rfl c6.o underlying40 rfl Z ?_)|(refine db rfl _ (.tmp 9) (.tmp 40) rfl wr.heap.size 40 _ (dF s) rfl rfl (aC.new _ _ _) rfl Z rfl ?_;intro R c W));have a5:ab wr R:=ab.write (ab.new _ _) W (Nat.le_refl _);obtain⟨a9,N⟩:=bJ wr.heap.size;rw[<-N]at c⊢;have S:=ab.trans C.o a5;have T:=dy D.o a5 (λ i a=>a.2);have a7:∀J,ab R J->J.cell? ⟨a9,0,none⟩=some (.int .i64 s.idx):=λ J k=>by rw[(k.ay c c.lt).cell];rfl
  have d9:∀J,ab R J->J.cell? ⟨a9,1,none⟩=some (.int .i64 s.ord):=λ J k=>by rw[(k.ay c c.lt).cell];rfl
  have g5:∀J,ab R J->J.cell? ⟨a9,2,none⟩=some (.int .i64 t):=λ J k=>by rw[(k.ay c c.lt).cell,<-q];rfl
  obtain⟨a8,X⟩:=bJ s.idx;obtain⟨e1,Y⟩:=bJ s.ord;rw[<-X]at a7;rw[<-Y]at d9;obtain⟨g7,g9,g_,h7,b0,g1⟩:=er a7 d9 g5 c S T;clear c S T a7 d9 g5 W a5 N q X Y c6 D C;simp only[Act.put];go_cut[10,11]from 41 to 50 (λ v v2 J=>AR R v v2 J);case first=>
   have a7:=g7.o;refine fy λ u0 c C=>?_;refine ag 0 (h:=ag 1 (h:=ag 2 (h:=?_)));refine cK 3 I (dw ba _ _ I aj (p*14+2) I [.slice bq p1 q1,.slice bg p2 q2,.slice (some ⟨a3,a',none⟩) aK aI,.slice bu aR aQ] _ (λ J B=>i9.o J (ab.trans b0.o B)) qT I Z) ?_;refine ag 4 (h:=ag 5 (h:=?_));refine gO (i:=6) (j:=10) Z (ed I (λ K q=>?_)) (ed I (λ K q=>?_))
   ·go_simp;refine(e7.o u0 a8 (ab.trans b0.o c)).mono ?_;rintro e u1 ⟨rfl,T⟩;generalize fq x.st.events a8=d;generalize fp x.st.events a8=g;generalize fK x.st.events a8=a_;have N:=ab.trans c T;refine aZ q aD N ?_;clear q K C c;intro C c;refine ag 7 (h:=ag 8 (h:=ag 9 (h:=?_)));refine aV 10 λ K q=>?_;go_simp;generalize aB:u1.alloc (.cells Pr 42)=u2;have a4:aC u2 u1.heap.size 42 Pr:=aB▸cu _ _ _;have b5:ab u1 u2:=aB▸ab.new _ _;clear aB;have W:=ab.trans N b5;refine aZ q aD W ?_;clear q K C c;intro C c;refine aV 11 λ K q=>?_;refine eD I _ _ _ I u1.heap.size 0 42 _ [d,g] I I a4 aT Z I ?_;intro u3 Y c0;rw[eX [d,g] Pr I]at Y;have X:ab R u3:=ab.write W c0 N.size;have D:AR R (.pointer (some ⟨u1.heap.size,0,none⟩)) (.bool a_) u3:=⟨_,d,g,a_,I,I,Y,N.size,X⟩;refine aZ q aD X ?_;clear q K C c;intro C c;refine ag 12 (h:=?_);refine cg Z ?_;have S:=ai D;clear D Y c0 X W N a4 T b5 C c a7;go_wp2_with fail;go_meet;exact S.o
   go_simp;generalize aB:u0.alloc (.cells Pr 42)=u1;have a4:aC u1 u0.heap.size 42 Pr:=aB▸cu _ _ _;have T:ab u0 u1:=aB▸ab.new _ _;have j4:=c.size;clear aB;have N:=ab.trans c T;refine aZ q aD N ?_;clear q K C c;intro C c;refine aV 6 λ K q=>?_;go_simp;refine(e7.o u1 a8 (ab.trans b0.o N)).mono ?_;rintro e u2 ⟨rfl,a5⟩;generalize fq x.st.events a8=d;generalize fp x.st.events a8=g;generalize fK x.st.events a8=a_;have W:=ab.trans N a5;refine aZ q aD W ?_;clear q K C c;intro C c;refine ag 7 (h:=ag 8 (h:=ag 9 (h:=?_)));refine aV 11 λ K q=>?_;refine eD I _ _ _ I u0.heap.size 0 42 _ [d,g] I I (a5.ay a4 a4.lt) aT Z I ?_;intro u3 Y c0;rw[eX [d,g] Pr I]at Y;have X:ab R u3:=ab.write W c0 j4;have D:AR R (.pointer (some ⟨u0.heap.size,0,none⟩)) (.bool a_) u3:=⟨_,d,g,a_,I,I,Y,j4,X⟩;refine aZ q aD X ?_;clear q K C c;intro C c;refine ag 12 (h:=?_);refine cg Z ?_;have S:=ai D;clear D Y c0 X W N a4 T a5 C c a7;go_wp2_with fail;go_meet;exact S.o
  case rest=>
   obtain⟨c0,d,g,a_,rfl,rfl,h',k6,a5⟩:=hcut;obtain⟨W,rfl⟩:=aW (wc:World);have a7:=ab.trans b0.o a5;have i7:=dy g1.o a5 (λ i a=>a.2);have a4:=a5.ay h7.o h7.o.lt;obtain⟨c1,c2,c3,c4,c7,k9,c8,k',c9,k_,c_,l0,j1,j2⟩:=i8.o t l5;obtain⟨e5,X,h_,e4,i',i_,e6⟩:=dW h' a7 i7 a4 j1 j2 a5;clear h' a7 i7 a4 j1 j2 a5 k6 b0 g1;go_upto_region 10 with fail;go_cut[89]from 51 to 88 (λ v J=>∃b:Bool,v=.bool b/\ab W J);case first=>
    have k5:∀J,ab W J->J.cell? ⟨gs,3,none⟩=some (.slice (some ⟨aj,0,none⟩) aL bt):=λ J B=>(f_.o J (ab.trans X.o B)).2.2.2.1;have r2:∀J,ab W J->J.cell? ⟨gs,4,none⟩=some (.slice F fn bw):=λ J B=>(f_.o J (ab.trans X.o B)).2.2.2.2.1;have r3:∀J,ab W J->J.cell? ⟨aj,p*14+13,none⟩=some (.slice Q cj ct):=λ J B=>(f'.o J (ab.trans X.o B)).2.2.2.2.2.2.2.2.2.2.2.2.2;have d9:∀J,ab W J->J.cell? ⟨a9,1,none⟩=some (.int .i64 e1):=λ J B=>g9.o J (ab.trans e6.o B);have g5:∀J,ab W J->J.cell? ⟨a9,2,none⟩=some (.int .i64 t):=λ J B=>g_.o J (ab.trans e6.o B);have a4:∀J,ab W J->J.rangeAt c0 0 [d,g]:=λ J k i u hu=>by rw[(k.ay e5.o e5.o.lt).cell,Nat.zero_add,List.getElem?_toArray];exact hu
    have t0:(0:Int)<=t:=O;have t1:(t:Int)<aL:=cM a2.o.s.nX a1.o.len;have g1:=ai a4;clear a4;refine fy λ u0 c C=>?_;refine ag 0 (h:=ag 1 (h:=ag 2 (h:=ag 3 (h:=ag 4 (h:=ag 5 (h:=ag 6 (h:=ag 7 (h:=?_))))))));refine cK 8 I (dw ba _ _ I aj (t*14+2) I [.slice c1 c7 k9,.slice c2 c8 k',.slice c3 c9 k_,.slice c4 c_ l0] _ (λ J B=>i'.o J (ab.trans X.o B)) qT I Z) ?_;refine ag 9 (h:=?_);refine cK 10 I (dw ba _ _ I c0 0 I [d,g] _ (λ J B=>g1.o J B) wj I Z) ?_;refine ag 11 (h:=ag 12 (h:=?_));refine aV 13 λ K q=>?_;go_simp;obtain⟨r,a4⟩:=i_.o u0 d g e1 (ab.trans X.o c);refine a4.mono ?_;rintro e u1 ⟨rfl,T⟩;have N:=ab.trans c T;clear a4;refine aZ q aD N ?_;clear q K C c;intro C c;clear N T;by_cases a4:r=0
    ·have t3:=ot a4;clear a4;refine ag 14 (h:=ag 15 (h:=ag 16 (h:=ag 17 (h:=ag 18 (h:=ag 19 (h:=ag 20 (h:=?_)))))));refine cK 21 I (dw ba _ _ I c0 0 I [d,g] _ (λ J B=>g1.o J B) wj I Z) ?_;refine ag 22 (h:=ag 23 (h:=?_));refine aV 24 λ K q=>?_;go_simp;refine(h8.o u1 d g e1 (ab.trans X.o c)).mono ?_;rintro e u2 ⟨v,rfl,T⟩;have N:=ab.trans c T;refine aZ q aD N ?_;clear q K C c;intro C c;clear N T;by_cases v0:v<0
     ·have t4:=ey v0;clear v0;refine ag 25 (h:=ag 26 (h:=ag 27 (h:=ag 28 (h:=ag 29 (h:=ag 30 (h:=ag 31 (h:=ag 32 (h:=?_))))))));refine cK 33 I (dw ba _ _ I c0 0 I [d,g] _ (λ J B=>g1.o J B) wj I Z) ?_;refine ag 34 (h:=ag 35 (h:=?_));refine aV 36 λ K q=>?_;go_simp;refine(h9.o u2 d g e1 (ab.trans X.o c)).mono ?_;rintro e u3 ⟨v2,rfl,T⟩;have N:=ab.trans c T;refine aZ q aD N ?_;clear q K C c;intro C c;clear N T;refine ag 37 (h:=ag 38 (h:=?_));refine cg Z ?_;go_wp2_with fail;go_meet;exact⟨_,I,c⟩
     have t4:=ep v0;clear v0;refine ag 25 (h:=ag 26 (h:=ag 27 (h:=?_)));refine bU 28 (h:=bU 29 (h:=bU 30 (h:=bU 31 (h:=bU 32 (h:=bU 33 (h:=bU 34 (h:=bU 35 (h:=bU 36 (h:=bU 37 (h:=?_))))))))));refine ag 38 (h:=?_);refine cg Z ?_;go_wp2_with fail;go_meet;exact⟨_,I,c⟩
    have t3:=iR a4;clear a4;refine ag 14 (h:=ag 15 (h:=?_));refine bU 16 (h:=bU 17 (h:=bU 18 (h:=bU 19 (h:=bU 20 (h:=bU 21 (h:=bU 22 (h:=bU 23 (h:=bU 24 (h:=bU 25 (h:=?_))))))))));refine ag 26 (h:=ag 27 (h:=?_));refine bU 28 (h:=bU 29 (h:=bU 30 (h:=bU 31 (h:=bU 32 (h:=bU 33 (h:=bU 34 (h:=bU 35 (h:=bU 36 (h:=bU 37 (h:=?_))))))))));refine ag 38 (h:=?_);refine cg Z ?_;go_wp2_with fail;go_meet;exact⟨_,I,c⟩
   obtain⟨b,rfl,q⟩:=hcut;obtain⟨T,rfl⟩:=aW (wc:World);have b5:=ab.trans X.o q;have N:=dy h_.o q (λ i a=>a.2);have Y:=q.ay e4.o e4.o.lt;obtain⟨h',i7,j2⟩:=cf b5 N Y;clear b5 N Y q X h_ e4 e5 i' i_ e6 g7 g9 g_;cases b with
  |false=>
   have D:=c5.o l _ T O e8.o i7.o h'.o;have S:=ai D;clear D;go_wp2_with fail;go_roundw;case rel=>exact S.o
   case measure=>exact bS
  |true=>
   have n_:l.length<=600:=O;go_wp2_with(refine ew I _ (.tmp 9) I a9 40 (dF s) _ I j2.o pZ I Z ?_;refine jo ?_);refine ai ?_;go_wp2_with(refine rH (b:=s) Ms (.tmp 92) (.tmp 90) (0,.tmp 91) h'.o i7.o (JY s) I (nY _) O O ?_;intro l6 l7 N q);refine ai ?_;have D:=c5.o (l++[s]) l6 l7 aT k7.o (ax N) q;have S:=ai D;clear D N q;go_wp2_with fail;go_roundw;case rel=>exact S.o
   case measure=>exact bS
 obtain⟨d1,d2⟩:=eN d';obtain⟨R,rfl⟩:=aW (wr:World);obtain⟨e3,i',rfl,j1⟩:=nS d_;obtain⟨q,Y⟩:=bJ (dc L w);have b5:cG R q gs aj f y:=Y▸g0.o.fE a6;have g7:Hi (cW w L R q):=ai (Y▸ki a6);have e6:bl dF 4 R (bx R q 0) e3 l.length i' l:=j1.more (λ i a=>⟨a.2,by rw[Y];exact jd a.1⟩);obtain⟨N,e5⟩:=bJ l.length;have o3:N<=600:=an g4.o.1;rw[<-e5]at e6⊢;have e4:=xf R gs aj f y b5.ptr (an a1.o.load) (by rw[a1.o.len];omega);obtain⟨b0,b6⟩:=bJ (dX y);have o0:b0<=2000:=an a1.o.load;rw[<-b6]at e4;have o8:IntKind.i64.wrap ((b0:Int)+(N:Int))=(b0:Int)+(N:Int):=eI _ O;have i_:=a6;obtain⟨g_,h_,g9,e8,m3,k6,a4⟩:=dW b5 e6 e4 b7 e5 b6 i_;clear b5 e6 e4 b7 e5 b6 i_ d_ j1 a6 Y e7 h8 h9 i8 i9;go_wp2_with fail;refine(g9.o).mono ?_;rintro e W ⟨rfl,m,hm⟩;have Y:ab R W:=hm▸ab.fZ _ _;clear hm g9 l8;by_cases b5:(256:Int)<(b0:Int)+(N:Int)
 ·have t1:=ey b5;have D:=e9.o W 4 (ab.trans a4.o Y);have S:=ai D;clear D Y b5;go_wp2_with fail;go_ret2;exact S.o
 have t1:=ep b5;have a7:=ab.trans a4.o Y;have e6:=(f_.o W a7).2.1;have e5:=(f'.o W a7).2.2.2.2.2.2.2.2.2.2.2.2.1;have a6:=λ i=>rh (W.drewN i) gs aj p f y x (g0.o.ptr.aq (a7.drewN i)) e_.o;obtain⟨bk,e4⟩:=bJ x.st.events.length;rw[<-e4]at a6;obtain⟨h8,b7⟩:=bJ x.gZ;rw[<-b7]at e5;obtain⟨d_,X,b6⟩:=cf a6 a7 Y;clear a7 Y a6 e4 b7;go_upto_region 14 with fail;clear t1;go_cut[115]from 100 to 114 (λ v J=>∃b:Bool,v=.bool b/\ab W J);case first=>
  by_cases Y:f.bo=6
  ·have t6:=ot Y;clear Y;by_cases a6:h8<(bk:Int)
   ·have t7:=ey a6;clear a6;go_quiet(exact oX (d_.o _));go_wp2_with fail;go_meet;exact⟨_,I,ab.fZ _ _⟩
   have t7:=ep a6;clear a6;go_quiet(exact oX (d_.o _));go_wp2_with fail;go_meet;exact⟨_,I,ab.fZ _ _⟩
  have t6:=iR Y;clear Y;go_quiet(fail);go_wp2_with fail;go_meet;exact⟨_,I,ab.fZ _ _⟩
 case rest=>obtain⟨b,rfl,a5⟩:=hcut;obtain⟨T,rfl⟩:=aW (wc:World);have Y:=ab.trans b6.o a5;clear e6 e5;cases b with
 |true=>have D:=e9.o T 15 (ab.trans a4.o Y);have S:=ai D;clear D a5 Y;go_wp2_with fail;go_ret2;exact S.o
 |false=>
 have a7:cG T q gs aj f y:=g_.o.aq Y (λ _ _=>I);have a6:=g7.o.trans (wE Y (λ _ _=>I:∀i,i<R.heap.size->q i=q i));have b7:bl dF 4 T (bx T q 0) e3 N i' l:=(h_.o.aq (Y.mono (λ i a=>a.1))).more (λ i a=>⟨Nat.lt_of_lt_of_le a.1 Y.size,a.2⟩);have b_:AM T q gs aj f n j U y N (.int .i64 0) T:=⟨0,q,y,I,Nat.zero_le _,a7,xW _ _,pq y,a1.o,O⟩;have h9:b0+N<=256:=O;obtain⟨b1,e7,g9⟩:=cf b_ a6 b7;clear b_ a6 b7 a5 Y a7 g_ g7 h_ b6 a4 X;go_wp2_with fail;go_loopw[12] (λ i wr=>AM T q gs aj f n j U y N i wr) (λ i _=>N- (intOf i).toNat);case atStart=>exact b1.o
 clear b1 d1 d2 d' P;obtain⟨k,b1,a6,rfl,P,a7,hF,a4,a5,e4⟩:=hrel;by_cases b6:k<N
 ·obtain⟨d1,d2,d3,d4⟩:=ea b6;obtain⟨a3,a',s,rfl,g6,au,b4⟩:=(g9.o.aq (hF.1.mono (λ i a=>⟨a.1,.inl a.2⟩))).at_ kE b6;have b_:=b2.o.st.snd s (e8.o s (List.mem_of_getElem? au));obtain⟨a0,d'⟩:∃a0:Nat,s.idx=a0:=⟨s.idx.toNat,O⟩;have b9:wr.rangeAt a3 (a'+k*4) [a0,s.ord,s.aa,s.val]:=λ i u hu=>b4 i u (by rw[<-hu,<-d'];rfl);have b7:p<a6.procs.length:=by rw[a5.len];exact l1
  have e6:=(a4.procs p x _ e_.o (List.getElem?_eq_getElem b7)).1.st;have e5:=xD wr b1 gs aj p n j a0 f a6 _ U s.ord s.aa s.val a7 a5 (List.getElem?_eq_getElem b7) O O (by rw[e6];omega) ⟨b_.2.2.1,b_.2.2.2⟩ (an k6.o);have b8:∀ae Y X,cG ae Y gs aj f X->cW wr b1 ae Y->fA a6 X->dB n f.bo j U X->dX X=dX a6+1->AM T q gs aj f n j U y N (.int .i64 ((k:Int)+1)) ae:=λ ae Y X h1 h2 aA aS g7=>⟨k+1,Y,X,cz,O,h1,hF.trans h2,a4.trans aA,aS,O⟩;obtain⟨c6,g7,c5⟩:=cf b9 e5 b8;clear b9 e5 b8 b4 au g6 b_ d' e6 a7 hF a4 a5 e4 b7;go_wp2_with(refine gK I _ (.tmp 126) I a3 (a'+k*4) [a0,s.ord,s.aa,s.val] _ I c6.o pZ I Z ?_;refine jo ?_);refine ai ?_;go_wp2_with fail;refine(g7.o).mono ?_;rintro e d' ⟨rfl,Y,X,b7,b4,b8,b_,b9⟩;have D:=c5.o d' Y X b7 b4 b8 b_ b9;have S:=ai D;clear D b7 b4 b8 b_ b9;go_wp2_with fail;go_roundw;case rel=>exact S.o
  case measure=>exact bS
 obtain⟨d1,d2⟩:=eN b6;have S:=cE (ig w L gs aj f (λ bO=>fA y bO/\dB n f.bo j U bO) (.returned (.tuple Pu)) wr) (⟨1,0,I,b1,a6,a7,e7.o.trans hF,a4,a5⟩);clear a7 hF a4 a5 e4;go_wp2_with fail;go_ret2;exact S.o
end Go.Proofs.YtdhklhebgclcoaaGreatDoor
