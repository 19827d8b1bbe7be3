import Derived.Test.YtdhklhebgclcoaaGreatDoorM11
set_option linter.unusedVariables false
set_option linter.unusedSimpArgs false
set_option maxRecDepth 100000
set_option maxHeartbeats 32000000
namespace Go.Proofs.YtdhklhebgclcoaaGreatDoor
open Go.Proofs Go.Proofs.Tryz Go.RowKit
def mX(op:Int):Int:=if op=1\/op=2\/(4<=op/\op<=7)then 0 else if op=3\/op=8\/op=9 then 1 else if 10<=op/\op<=22 then 2 else -1
theorem Kq(w)(op:Int):Calls Tryz.prog 139 #[op] w (λ e ae=>e=.returned (.int .i64 (mX op))/\ae=w):=by
 generalize b:mX op=r;have a:=ai b;clear b;by_cases h1:op=1\/op=2\/(4<=op/\op<=7)
 ·rcases h1 with h|h|h
  ·subst h;have e:r=0:=(by rw[<-a.o];unfold mX;(repeat' split)<;>omega);subst e;go_enter jF,mE;go_wp2_with fail;go_ret;exact⟨I,I⟩
  ·subst h;have e:r=0:=(by rw[<-a.o];unfold mX;(repeat' split)<;>omega);subst e;go_enter jF,mE;go_wp2_with fail;go_ret;exact⟨I,I⟩
  have b:(op==1)=false:=aY;have c:(op==2)=false:=aY;have e:r=0:=by rw[<-a.o];unfold mX;(repeat' split)<;>omega
  subst e;go_enter jF,mE;go_wp2_with fail;go_ret;exact⟨I,I⟩
 have b:(op==1)=false:=aY;have c:(op==2)=false:=aY;by_cases h2:op=3\/op=8\/op=9
 ·rcases h2 with h|h|h<;>subst h<;>(have e:r=1:=(by rw[<-a.o];unfold mX;(repeat' split)<;>omega);subst e;go_enter func139,ntmps139;go_wp2_with fail;go_ret;exact⟨rfl,rfl⟩)
 have f:(op==3)=false:=aY;have g:(op==8)=false:=aY;have i:(op==9)=false:=aY;by_cases aS:4<=op
 ·have k:¬op<=7:=O;by_cases d:10<=op
  ·by_cases j:op<=22
   ·have e:r=2:=(by rw[<-a.o];unfold mX;(repeat' split)<;>omega);subst e;go_enter jF,mE;go_wp2_with fail;go_ret;exact⟨I,I⟩
   have e:r=-1:=(by rw[<-a.o];unfold mX;(repeat' split)<;>omega);subst e;go_enter jF,mE;go_wp2_with fail;go_ret;exact⟨I,I⟩
  omega
 have d:¬10<=op:=O;have e:r=-1:=by rw[<-a.o];unfold mX;(repeat' split)<;>omega
 subst e;go_enter jF,mE;go_wp2_with fail;go_ret;exact⟨I,I⟩
theorem mo(b:ByteArray)(w:World)(n:Nat):Calls Tryz.prog 76 #[.string b] (w.drewN n) λ e a=>e=.returned (.bool (oe b))/\∃m,a=w.drewN m:=Calls.quiet_of_same (oc b _)
theorem mb(op:Int)(w:World)(n:Nat):Calls Tryz.prog 139 #[op] (w.drewN n) λ e a=>e=.returned (.int .i64 (mX op))/\∃m,a=w.drewN m:=Calls.quiet_of_same (Kq _ op)
def zP(n:Nat):Prop:=∀(w:World) (S:Nat->Prop) (cs:List Value) (e:dU),(∀i,S i->i<w.heap.size)->dt w S n cs e->dU.ei 1000 n e->Calls Tryz.prog 121 #[.agg cs.toArray] w (lz w)
def sX(W:World)(m:Nat)(i:Value)(wr:World):Prop:=∃k:Nat,i=.int .i64 k/\k<=m/\ab W wr
def sm(W:World)(s:Value)(J:World):Prop:=∃b,s=.bool b/\ab W J
theorem Hy(n)(t:zP n):zP (n+1):=by
 intro w S cs e f Y V;obtain⟨op,val,name,slot,size,args⟩:=e;obtain⟨l,q,A,m,c,rfl,d⟩:=Y;obtain⟨v,g⟩:=V;have h:=d.1;have a_:m<=1000:=O;obtain⟨r,Q,K,H,a4,a5,a3⟩:=dW f t g d l q h;clear f t g d l q h v;have X:∃l:Bool,l=((op==2)||(op==3)):=⟨_,I⟩;obtain⟨l,g⟩:=X;go_enter func121,ntmps121;go_upto_region 1 with fail;generalize f:w.alloc (.cells #[op,val,.string name,slot,size,.slice A m c] 99)=W;have h:ab w W:=f▸cx w _;have d:aC W w.heap.size 99 #[op,val,.string name,slot,size,.slice A m c]:=f▸cu w _ _;have b0:=d.lt;have t:W.cell? ⟨w.heap.size,0,none⟩=some (.int .i64 op):=by rw[d.cell];rfl
 have v:W.cell? ⟨w.heap.size,1,none⟩=some (.int .i64 val):=by rw[d.cell];rfl
 have x:W.cell? ⟨w.heap.size,2,none⟩=some (.string name):=by rw[d.cell];rfl
 have B:W.cell? ⟨w.heap.size,3,none⟩=some (.int .i64 slot):=by rw[d.cell];rfl
 have D:W.cell? ⟨w.heap.size,4,none⟩=some (.int .i64 size):=by rw[d.cell];rfl
 have q:W.cell? ⟨w.heap.size,5,none⟩=some (.slice A m c):=by rw[d.cell];rfl
 clear f;obtain⟨f,a2⟩:=ck h d;clear h d;go_cut[3]from 5 to 12 (λ d J=>sb W l d J);case first=>
  have C:=ai g;clear g;cases q2:(op==2)with
  |true=>go_wp2_with fail;go_meet;exact⟨by rw[C.o,q2];rfl,I⟩
  |false=>go_wp2_with fail;go_meet;exact⟨by rw[C.o,q2];rfl,I⟩
 obtain⟨rfl,rfl⟩:=hcut;clear g;go_upto_region 2 with fail;go_cut[67]from 13 to 66 (λ s J=>sm W s J);case first=>
  cases q1:(mX op !=(m:Int))with
  |true=>as_aux_lemma=>go_wp2_with fail;go_quiet(first|(go_at_call 139;exact mb _ _ _)|(go_at_call 76;exact mo _ _ _));go_wp2_with fail;go_meet;exact⟨_,I,(aN _ _).drewN _⟩
  |false=>
   cases q2:(slot !=0)with
   |true=>as_aux_lemma=>go_wp2_with fail;go_quiet(first|(go_at_call 139;exact mb _ _ _)|(go_at_call 76;exact mo _ _ _));go_wp2_with fail;go_meet;exact⟨_,I,(aN _ _).drewN _⟩
   |false=>
    cases aI:(size !=0)with
    |true=>as_aux_lemma=>go_wp2_with fail;go_quiet(first|(go_at_call 139;exact mb _ _ _)|(go_at_call 76;exact mo _ _ _));go_wp2_with fail;go_meet;exact⟨_,I,(aN _ _).drewN _⟩
    |false=>
     cases l with
     |true=>
      cases aQ:oe name with
      |true=>
       cases h:(op==1)with
       |true=>
        have z:(op !=1)=false:=(by simp[bne,h]);cases a0:decide (val<0)with
        |true=>as_aux_lemma=>go_wp2_with fail;go_quiet(first|(go_at_call 139;exact mb _ _ _)|(go_at_call 76;exact mo _ _ _));go_wp2_with fail;go_meet;exact⟨_,I,(aN _ _).drewN _⟩
        |false=>as_aux_lemma=>go_wp2_with fail;go_quiet(first|(go_at_call 139;exact mb _ _ _)|(go_at_call 76;exact mo _ _ _));go_wp2_with fail;go_meet;exact⟨_,I,(aN _ _).drewN _⟩
       |false=>
        have z:(op !=1)=true:=(by simp[bne,h]);cases a1:(val !=0)with
        |true=>as_aux_lemma=>go_wp2_with fail;go_quiet(first|(go_at_call 139;exact mb _ _ _)|(go_at_call 76;exact mo _ _ _));go_wp2_with fail;go_meet;exact⟨_,I,(aN _ _).drewN _⟩
        |false=>as_aux_lemma=>go_wp2_with fail;go_quiet(first|(go_at_call 139;exact mb _ _ _)|(go_at_call 76;exact mo _ _ _));go_wp2_with fail;go_meet;exact⟨_,I,(aN _ _).drewN _⟩
      |false=>as_aux_lemma=>go_wp2_with fail;go_quiet(first|(go_at_call 139;exact mb _ _ _)|(go_at_call 76;exact mo _ _ _));go_wp2_with fail;go_meet;exact⟨_,I,(aN _ _).drewN _⟩
     |false=>
      cases b2:name.toList.isEmpty with
      |true=>
       cases h:(op==1)with
       |true=>
        have z:(op !=1)=false:=(by simp[bne,h]);cases a0:decide (val<0)with
        |true=>as_aux_lemma=>go_wp2_with fail;go_quiet(first|(go_at_call 139;exact mb _ _ _)|(go_at_call 76;exact mo _ _ _));go_wp2_with fail;go_meet;exact⟨_,I,(aN _ _).drewN _⟩
        |false=>as_aux_lemma=>go_wp2_with fail;go_quiet(first|(go_at_call 139;exact mb _ _ _)|(go_at_call 76;exact mo _ _ _));go_wp2_with fail;go_meet;exact⟨_,I,(aN _ _).drewN _⟩
       |false=>
        have z:(op !=1)=true:=(by simp[bne,h]);cases a1:(val !=0)with
        |true=>as_aux_lemma=>go_wp2_with fail;go_quiet(first|(go_at_call 139;exact mb _ _ _)|(go_at_call 76;exact mo _ _ _));go_wp2_with fail;go_meet;exact⟨_,I,(aN _ _).drewN _⟩
        |false=>as_aux_lemma=>go_wp2_with fail;go_quiet(first|(go_at_call 139;exact mb _ _ _)|(go_at_call 76;exact mo _ _ _));go_wp2_with fail;go_meet;exact⟨_,I,(aN _ _).drewN _⟩
      |false=>as_aux_lemma=>go_wp2_with fail;go_quiet(first|(go_at_call 139;exact mb _ _ _)|(go_at_call 76;exact mo _ _ _));go_wp2_with fail;go_meet;exact⟨_,I,(aN _ _).drewN _⟩
 obtain⟨b,rfl,g⟩:=hcut;have d:ab w wc:=aM f.o g;have R:wc.cell? ⟨w.heap.size,5,none⟩=some (.slice A m c):=(g.cell (p:=⟨w.heap.size,5,none⟩) aY).trans q;have b1:=g.size;clear t v x B D q g;cases b with
 |true=>have q:=ai d;clear d;go_wp2_with fail;go_ret;exact⟨_,I,q.o⟩
 |false=>
  have q:=ai d;clear d;go_wp2_with fail;go_loopw[4] (λ i wr=>sX wc m i wr) (λ i _=>m- (intOf i).toNat);case atStart=>exact⟨0,I,O,aN _ _⟩
  obtain⟨k,rfl,a9,d⟩:=hrel;have a6:wr.cell? ⟨w.heap.size,5,none⟩=some (.slice A m c):=(d.cell (p:=⟨w.heap.size,5,none⟩) aY).trans R;have g:ab w wr:=aM q.o d;by_cases v:k<m
  ·obtain⟨b',x,cs',a,rfl,T,B,t,a',E⟩:=H.o.at_ v;have G:wr.rangeAt b' (x+k*6) cs':=λ j u hu=>(g.cell (p:=⟨b',x+k*6+j,none⟩) (r.o b' T)).trans (E j u hu);have D:=gi (cS g r.o) _ _ _ t;have F:=K.o a (eo B);have U:decide (k<m)=true:=ax v;have a7:(0:Int)<=k:=O;have a8:(k:Int)<m:=O;have hlen:=t.len;clear t E B;obtain⟨B,N,P,L,f,M⟩:=er d G D F g hlen;clear d G D F g hlen;go_wp2_with(refine oP I _ (.tmp 78) I b' (x+k*6) I cs' _ N.o gd I (rR M.o) ?_);refine(Q.o wr S cs' a (λ i t=>cQ (r.o i t) f.o.size) P.o L.o).mono ?_;rintro e b3 ⟨y,rfl,t⟩;have D:=aM B.o t;have E:=aM f.o t;obtain⟨F,G⟩:=ck D E;clear D E t;cases y with
   |true=>
    go_wp2_with fail;go_roundw;case rel=>exact⟨k+1,cz,O,F.o⟩
    case measure=>exact bS
   |false=>go_wp2_with fail;go_ret;exact⟨_,I,G.o⟩
  have U:decide (k<m)=false:=ax v;obtain⟨f,B⟩:=ck g d;clear g d;go_wp2_with fail;go_ret;exact⟨_,I,f.o⟩
theorem zY:∀n,zP n
 |0=>λ _ _ _ _ _ h=>h.elim
 |n+1=>Hy n (zY n)
theorem oh.aq{w ae S A m c vs}(h:oh w S A m c vs)(a:aw S w ae):oh ae S A m c vs:=⟨h.1.aq a,h.2⟩
def AI(n:Nat):Prop:=∀(w:World) (S:Nat->Prop) (V:Option Addr) (a bA:Nat) (vs:List jQ) (cs:List Value) (e:dU),(∀i,S i->i<w.heap.size)->oh w S V a bA vs->dt w S n cs e->dU.ei 1000 n e->Calls Tryz.prog 79 #[.slice V a bA,.agg cs.toArray] w (lz w)
theorem HA(n)(B:AI n):AI (n+1):=by
 intro w S V L bA vs cs e q x a2 a1;obtain⟨op,val,name,slot,size,args⟩:=e;obtain⟨F,G,A,m,c,rfl,l⟩:=a2;obtain⟨E,r⟩:=a1;have v:=l.1;have a9:m<=1000:=O;generalize h:w.alloc (.cells #[op,val,.string name,slot,size,.slice A m c] 99)=W;have t:ab w W:=h▸cx w _;have g:aC W w.heap.size 99 #[op,val,.string name,slot,size,.slice A m c]:=h▸cu w _ _;have K:=g.lt;have C:W.cell? ⟨w.heap.size,2,none⟩=some (.string name):=by rw[g.cell];rfl
 obtain⟨f,D,U,N,M,a3,d,z⟩:=fl q x B r l v t g;clear q x B r l v t g E F G;go_enter func79,ntmps79;go_wp2_with fail;clear h;refine(uZ W S V L bA vs name (λ i r=>an (f.o i r)) (D.o.aq (cS d.o f.o))).mono ?_;rintro e x ⟨ls,b0,l,rfl,-,-,g⟩;have q:=aM d.o g;have a':=g.size;have t:x.cell? ⟨w.heap.size,0,none⟩=some (.int .i64 op):=(g.cell (p:=⟨w.heap.size,0,none⟩) K).trans (by rw[z.o.cell];rfl);have h:x.cell? ⟨w.heap.size,5,none⟩=some (.slice A m c):=(g.cell (p:=⟨w.heap.size,5,none⟩) K).trans (by rw[z.o.cell];rfl);clear g C;have P:=ai q;clear q;go_upto_region 2 with fail;go_cut[28]from 17 to 27 (λ s J=>sm x s J);case first=>
  cases q2:(op==2)with
  |true=>
   cases aI:(op==3)with
   |true=>
    cases l with
    |true=>go_wp2_with fail;go_meet;exact⟨_,I,aN _ _⟩
    |false=>go_wp2_with fail;go_meet;exact⟨_,I,aN _ _⟩
   |false=>
    cases l with
    |true=>go_wp2_with fail;go_meet;exact⟨_,I,aN _ _⟩
    |false=>go_wp2_with fail;go_meet;exact⟨_,I,aN _ _⟩
  |false=>
   cases aI:(op==3)with
   |true=>
    cases l with
    |true=>go_wp2_with fail;go_meet;exact⟨_,I,aN _ _⟩
    |false=>go_wp2_with fail;go_meet;exact⟨_,I,aN _ _⟩
   |false=>
    cases l with
    |true=>go_wp2_with fail;go_meet;exact⟨_,I,aN _ _⟩
    |false=>go_wp2_with fail;go_meet;exact⟨_,I,aN _ _⟩
 obtain⟨b,rfl,g⟩:=hcut;have q:=aM P.o g;have X:wc.cell? ⟨w.heap.size,5,none⟩=some (.slice A m c):=(g.cell (p:=⟨w.heap.size,5,none⟩) aY).trans h;have a_:=g.size;clear t h g;have C:=ai q;clear q;cases b with
 |true=>go_wp2_with fail;go_ret;exact⟨_,I,C.o⟩
 |false=>
  go_wp2_with fail;go_loopw[8] (λ i wr=>sX wc m i wr) (λ i _=>m- (intOf i).toNat);case atStart=>exact⟨0,I,O,aN _ _⟩
  obtain⟨k,rfl,a7,g⟩:=hrel;have a4:wr.cell? ⟨w.heap.size,5,none⟩=some (.slice A m c):=(g.cell (p:=⟨w.heap.size,5,none⟩) aY).trans X;have h:ab w wr:=aM C.o g;by_cases t:k<m
  ·obtain⟨b',v,cs',a,rfl,Y,B,q,a8,F⟩:=M.o.at_ t;have H:wr.rangeAt b' (v+k*6) cs':=λ j u hu=>(h.cell (p:=⟨b',v+k*6+j,none⟩) (f.o b' Y)).trans (F j u hu);have E:=gi (cS h f.o) _ _ _ q;have G:=N.o a (eo B);have a0:decide (k<m)=true:=ax t;have a5:(0:Int)<=k:=O;have a6:(k:Int)<m:=O;have hlen:=q.len;clear q F B;obtain⟨B,R,T,F,d,Q⟩:=er g H E G h hlen;clear g H E G h hlen;go_wp2_with(refine oP I _ (.tmp 40) I b' (v+k*6) I cs' _ R.o gd I (rR Q.o) ?_);refine(U.o wr S V L bA vs cs' a (λ i r=>cQ (f.o i r) d.o.size) (D.o.aq (cS d.o f.o)) T.o F.o).mono ?_;rintro e b1 ⟨y,rfl,q⟩;have r:=aM B.o q;have E:=aM d.o q;obtain⟨G,H⟩:=ck r E;clear r E q;cases y with
   |true=>
    go_wp2_with fail;go_roundw;case rel=>exact⟨k+1,cz,O,G.o⟩
    case measure=>exact bS
   |false=>go_wp2_with fail;go_ret;exact⟨_,I,H.o⟩
  have a0:decide (k<m)=false:=ax t;obtain⟨d,B⟩:=ck h g;clear h g;go_wp2_with fail;go_ret;exact⟨_,I,d.o⟩
theorem Be:∀n,AI n
 |0=>λ _ _ _ _ _ _ _ _ _ _ h=>h.elim
 |n+1=>HA n (Be n)
def AW(n:Nat):Prop:=∀(w:World) (S:Nat->Prop) (V:Option Addr) (b bA:Nat) (vs:List jQ) (A:Option Addr) (m c:Nat) (l:List cd),(∀i,S i->i<w.heap.size)->oh w S V b bA vs->cN w S 18 (λ cs s=>cU w S n cs s) A m c l->l.length<=1000->(∀a∈l,cd.ei 1000 n a)->Calls Tryz.prog 52 #[.slice V b bA,.slice A m c] w (lz w)
theorem Cs(n)(v:∀k,n=k+1->AW k):AW n:=by
 intro w S V g bA vs A m c l d r a x f;have q:=a.1;have d9:m<=1000:=O;obtain⟨h,t,b7,b8,b6,c7⟩:=er d r a v f q;clear d r a v f q x;go_enter func52,ntmps52;go_wp2_with fail;go_loopw[5] (λ i wr=>sX w m i wr) (λ i _=>m- (intOf i).toNat);case atStart=>exact⟨0,I,O,aN _ _⟩
 obtain⟨k,rfl,c_,v⟩:=hrel;by_cases X:k<m;case neg=>have c5:decide (k<m)=false:=ax X;have C:=ai v;clear v;go_wp2_with fail;go_ret;exact⟨_,I,C.o⟩
 obtain⟨b',d,cs',s,rfl,q,a5,U,b9,r⟩:=b7.o.at_ X;obtain⟨x,rfl⟩:∃x,n=x+1:=by
  cases n with
  |zero=>exact U.elim
  |succ x=>exact⟨x,I⟩
 obtain⟨kind,name,slot,size,place,value,body,fJ,G,H,E,D,L,z,p1,q1,cI,K,F,cA,M,B,p2,q2,N,P,a0,R,a1,T,a',rfl,a9,a_,a6,a7⟩:=sq U;have a8:=b6.o s (eo a5);rw[a']at a8;obtain⟨f1,f2,f3,f4,f5,f6⟩:=a8;have c5:decide (k<m)=true:=ax X;have c8:(0:Int)<=k:=O;have c9:(k:Int)<m:=O;have Y:=b8.o x I;have a2:∀J,ab w J->J.cell? ⟨b',d+k*18,none⟩=some (.int .i64 kind):=λ J a=>(a.cell (p:=⟨b',d+k*18,none⟩) (h.o b' q)).trans (r 0 _ I);have Q:∀J,ab w J->J.cell? ⟨b',d+k*18+1,none⟩=some (.string name):=λ J a=>(a.cell (p:=⟨b',d+k*18+1,none⟩) (h.o b' q)).trans (r 1 _ I);have a3:∀J,ab w J->J.cell? ⟨b',d+k*18+16,none⟩=some (.slice N a0 R):=λ J a=>(a.cell (p:=⟨b',d+k*18+16,none⟩) (h.o b' q)).trans (r 16 _ I);have a4:∀J,ab w J->J.cell? ⟨b',d+k*18+17,none⟩=some (.slice P a1 T):=λ J a=>(a.cell (p:=⟨b',d+k*18+17,none⟩) (h.o b' q)).trans (r 17 _ I);have b4:∀J,ab w J->J.rangeAt b' (d+k*18+4) [G,H,.string E,D,L,.slice z p1 q1]:=λ J a j u hu=>by have W:j<6:=(dV.1 hu).1;have:=r (4+j) u (by match j,W with|0,_|1,_|2,_|3,_|4,_|5,_=>exact hu);rw[nr];exact(a.cell (p:=⟨b',d+k*18+(4+j),none⟩) (h.o b' q)).trans this
 have b5:∀J,ab w J->J.rangeAt b' (d+k*18+10) [cI,K,.string F,cA,M,.slice B p2 q2]:=λ J a j u hu=>by have W:j<6:=(dV.1 hu).1;have:=r (10+j) u (by match j,W with|0,_|1,_|2,_|3,_|4,_|5,_=>exact hu);rw[nr];exact(a.cell (p:=⟨b',d+k*18+(10+j),none⟩) (h.o b' q)).trans this
 have slt:∀J,ab w J->∀i,S i->i<J.heap.size:=λ J a i f=>cQ (h.o i f) a.size;have f:∀J,ab w J->aw S w J:=λ J a=>cS a h.o;have b2:∀J,ab w J->Calls Tryz.prog 78 #[.slice V g bA,.string name] J (xI J):=λ J a=>uZ J S V g bA vs name (slt J a) (t.o.aq (f J a));have b3:∀J,ab w J->Calls Tryz.prog 79 #[.slice V g bA,.agg #[G,H,.string E,D,L,.slice z p1 q1]] J (lz J):=λ J a=>Be 5 J S V g bA vs [G,H,.string E,D,L,.slice z p1 q1] place (slt J a) (t.o.aq (f J a)) (gi (f J a) _ _ _ a9) f1;have jt:∀J,ab w J->Calls Tryz.prog 79 #[.slice V g bA,.agg #[cI,K,.string F,cA,M,.slice B p2 q2]] J (lz J):=λ J a=>Be 5 J S V g bA vs [cI,K,.string F,cA,M,.slice B p2 q2] value (slt J a) (t.o.aq (f J a)) (gi (f J a) _ _ _ a_) f2;have b0:∀J,ab w J->Calls Tryz.prog 52 #[.slice V g bA,.slice N a0 R] J (lz J):=λ J a=>Y J S V g bA vs N a0 R body (slt J a) (t.o.aq (f J a)) (a6.aq (f J a) (fa (f J a) _)) f3 f5;have b1:∀J,ab w J->Calls Tryz.prog 52 #[.slice V g bA,.slice P a1 T] J (lz J):=λ J a=>Y J S V g bA vs P a1 T fJ (slt J a) (t.o.aq (f J a)) (a7.aq (f J a) (fa (f J a) _)) f4 f6;have dv:=Q wr v;clear r U b9 a' a5 f1 f2 f3 f4 f5 f6 a9 a_ a6 a7 Y slt f q;obtain⟨C,a7,c6,a9,a',c3,c4,c0,c1⟩:=df v a2 Q a3 a4 b4 b5 b2 b3;obtain⟨c2,b9,b_⟩:=cf jt b0 b1;clear v a2 Q a3 a4 b4 b5 b2 b3 jt b0 b1;go_wp2_with fail;refine(c0.o wr C.o).mono ?_;rintro e a2 ⟨ls,b1,r,rfl,-,-,q⟩;have f:=aM C.o q;have v:=a7.o a2 f;clear q dv;have a_:=ai f;clear f;go_upto_region 5 with fail;go_cut[43]from 26 to 42 (λ s J=>sm a2 s J);case first=>
  cases q1:(kind==1)with
  |true=>
   cases q2:(kind==2)with
   |true=>
    cases r with
    |true=>go_wp2_with fail;go_meet;exact⟨_,I,aN _ _⟩
    |false=>go_wp2_with fail;go_meet;exact⟨_,I,aN _ _⟩
   |false=>
    cases r with
    |true=>go_wp2_with fail;go_meet;exact⟨_,I,aN _ _⟩
    |false=>go_wp2_with fail;go_meet;exact⟨_,I,aN _ _⟩
  |false=>
   cases q2:(kind==2)with
   |true=>
    cases r with
    |true=>go_wp2_with fail;go_meet;exact⟨_,I,aN _ _⟩
    |false=>go_wp2_with fail;go_meet;exact⟨_,I,aN _ _⟩
   |false=>
    cases r with
    |true=>go_wp2_with fail;go_meet;exact⟨_,I,aN _ _⟩
    |false=>go_wp2_with fail;go_meet;exact⟨_,I,aN _ _⟩
 obtain⟨b,rfl,f⟩:=hcut;obtain⟨a3,q⟩:=aW (wc:World);subst q;have q:=aM a_.o f;clear f v;have f:=ai q;clear q;cases b with
 |true=>go_wp2_with fail;go_ret;exact⟨_,I,f.o⟩
 |false=>
  go_wp2_with(refine oP I _ (.tmp 48) I b' (d+k*18+4) I [G,H,.string E,D,L,.slice z p1 q1] _ (c3.o a3 f.o) gd I Z ?_);refine(c1.o a3 f.o).mono ?_;rintro e a4 ⟨y,rfl,q⟩;have v:=aM f.o q;clear q;have q:=ai v;clear v;cases y with
  |false=>go_wp2_with fail;go_ret;exact⟨_,I,q.o⟩
  |true=>
   go_wp2_with(refine JR ba _ (.tmp 57) I b' (d+k*18+10) I [cI,K,.string F,cA,M,.slice B p2 q2] _ (c4.o a4 q.o) gd I Z ?_);refine(c2.o a4 q.o).mono ?_;rintro e a5 ⟨y,rfl,v⟩;have Q:=aM q.o v;have Y:=a9.o a5 Q;clear v;have v:=ai Q;clear Q;cases y with
   |false=>go_wp2_with fail;go_ret;exact⟨_,I,v.o⟩
   |true=>
    go_wp2_with fail;refine(b9.o a5 v.o).mono ?_;rintro e a6 ⟨y,rfl,Q⟩;have U:=aM v.o Q;have b0:=a'.o a6 U;clear Q Y;have Q:=ai U;clear U;cases y with
    |false=>go_wp2_with fail;go_ret;exact⟨_,I,Q.o⟩
    |true=>
     go_wp2_with fail;refine(b_.o a6 Q.o).mono ?_;rintro e b2 ⟨y,rfl,U⟩;have Y:=aM Q.o U;clear U b0;have U:=ai Y;clear Y;cases y with
     |false=>go_wp2_with fail;go_ret;exact⟨_,I,U.o⟩
     |true=>
      go_wp2_with fail;go_roundw;case rel=>exact⟨k+1,cz,O,U.o⟩
      case measure=>exact bS
theorem BY:∀n,AW n
 |0=>Cs 0 (λ k e=>O)
 |n+1=>Cs (n+1) (λ k e=>by
  have a:k=n:=O
  rw[a]
  exact BY n)
end Go.Proofs.YtdhklhebgclcoaaGreatDoor
