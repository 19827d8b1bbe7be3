import Derived.Test.YtdhklhebgclcoaaGreatDoorM2
set_option linter.unusedVariables false
set_option linter.unusedSimpArgs false
set_option maxRecDepth 100000
set_option maxHeartbeats 32000000
namespace Go.Proofs.YtdhklhebgclcoaaGreatDoor
open Go.Proofs Go.Proofs.Tryz Go.RowKit
theorem tZ:(Tryz.prog.info? 3).map (λ i=>(i.zero,i.size,i.bytes))=some (some (.int .i64 0),1,8):=Z
theorem bl.tR{α}{enc:α->List Value}{size n c w S A}{l:List α}(h:bl enc size w S A n c l)(f:∀i,S i->i<w.heap.size)(au:∀a,(enc a).length=size){k}(d:k<n):∃(b off:Nat) (x:α),A=some ⟨b,off,none⟩/\b<w.heap.size/\l[k]?=some x/\∀J,ab w J->∀(j:Nat) (u:Value),(enc x)[j]?=some u->J.cell? ⟨b,off+k*size+j,none⟩=some u:=by obtain⟨b,off,x,e,g,m,av⟩:=h.at_ au d;exact⟨b,off,x,e,f b g,m,λ J d j u hu=>(d.cell (p:=⟨b,off+k*size+j,none⟩) (f b g)).trans (av j u hu)⟩
theorem cN.tR{α size n c}{R:List Value->α->Prop}{w S A}{l:List α}(h:cN w S size R A n c l)(d:∀i,S i->i<w.heap.size){k}(a:k<n):∃(b off:Nat) (cs:List Value) (x:α),A=some ⟨b,off,none⟩/\b<w.heap.size/\l[k]?=some x/\R cs x/\cs.length=size/\∀J,ab w J->∀(j:Nat) (u:Value),cs[j]?=some u->J.cell? ⟨b,off+k*size+j,none⟩=some u:=by obtain⟨b,off,cs,x,e,f,o,m,g,av⟩:=h.at_ a;exact⟨b,off,cs,x,e,d b f,o,m,g,λ J a j u hu=>(a.cell (p:=⟨b,off+k*size+j,none⟩) (d b f)).trans (av j u hu)⟩
theorem KO(w)(a b:Int):Calls Tryz.prog 84 #[a,b] w (lU w):=by go_enter func84,ntmps84;go_wp2_with fail;go_ret;exact⟨_,I,aN _ _⟩
theorem LP(w S A B n c d q l m)(e:∀i,S i->i<w.heap.size)(f:bl bE 1 w S A n c l)(hm:bl bE 1 w S B d q m)(aJ:n<=1000000)(M:d<=1000000):Calls Tryz.prog 126 #[.slice A n c,.slice B d q] w (lU w):=by
 obtain⟨v,s,t⟩:=cf e f hm;clear e f hm;go_enter func126,ntmps126;go_wp2_with fail;go_loopw[5] (λ i wr=>pw n w i wr) (λ i _=>n- (intOf i).toNat);case atStart=>exact⟨0,I,ef _,aN _ _⟩
 obtain⟨k,rfl,L,e⟩:=hrel;have f:=cS e v.o;by_cases h:k<n
 ·have z:decide (k<n)=true:=ax h;have C:decide ((k:Int)<(n:Int))=true:=aY;have G:(0:Int)<=k:=O;have H:(k:Int)<n:=O;by_cases p:k<d
  ·have D:decide (k<d)=true:=ax p;have E:decide ((k:Int)<(d:Int))=true:=aY;have K:(k:Int)<d:=O;obtain⟨x,F,a,rfl,-,-,h1⟩:=(s.o.aq f).at_ eB h;obtain⟨y,cI,b,rfl,-,-,h2⟩:=(t.o.aq f).at_ eB p;have N:wr.cell? ⟨x,F+k,none⟩=some (.int .i64 a):=(by have:=h1 0 _ I;simpa using this);have P:wr.cell? ⟨y,cI+k,none⟩=some (.int .i64 b):=(by have:=h2 0 _ I;simpa using this);have g:∀j,pw n w (.int .i64 ((k:Int)+1)) (wr.drewN j):=λ j=>⟨k+1,cz,O,aM e (ek _ _)⟩;have r:=cE (∀(b:Bool) j,lU w (.returned (.bool b)) (wr.drewN j)) (λ b j=>⟨b,I,aM e (ek _ _)⟩);have u:=ai g;clear g h1 h2 e f;by_cases av:a<b
   ·have t1:decide (a<b)=true:=ax av;go_upto_region 4 with fail;go_quiet(fail);go_wp2_with fail;go_ret;exact r.o _ _
   have t1:decide (a<b)=false:=ax av;go_upto_region 4 with fail;go_quiet(fail);go_wp2_with fail;go_roundw;case rel=>exact u.o _
   case measure=>exact bS
  have D:decide (k<d)=false:=ax p;have E:decide ((k:Int)<(d:Int))=false:=aY;have g:=ai e;clear e f;go_wp2_with fail;go_ret;exact⟨false,I,g.o⟩
 have z:decide (k<n)=false:=ax h;have C:decide ((k:Int)<(n:Int))=false:=aY;have g:=ai e;clear e f;go_wp2_with fail;go_ret;exact⟨false,I,g.o⟩
theorem Jb(w S A B n c a d l m s)(f:∀i,S i->i<w.heap.size)(h:bl bE 1 w S A n c l)(hm:bl bE 1 w S B a d m)(aJ:n<=1000000)(k:a<=1000000):Calls Tryz.prog 87 #[.int .i64 4,.slice A n c,.slice B a d,.bool s,.bool s] w (lU w):=by
 have g:=LP w S A B n c a d l m f h hm aJ k;have j:=ai g;clear g h hm f;cases s with
 |true=>go_enter func87,ntmps87;go_wp2_with fail;refine j.o.mono ?_;rintro e h ⟨b,rfl,f⟩;have g:=ai f;clear f;go_wp2_with fail;go_ret;exact⟨b,I,g.o⟩
 |false=>go_enter func87,ntmps87;go_wp2_with fail;go_ret;exact⟨false,I,aN _ _⟩
def yU(n:Nat)(w:World)(e:Ending)(ae:World):Prop:=∃(r:List Int) (A:Option Addr) (c:Nat),r.length=n/\e=.returned (.slice A n c)/\fo ae (λ i=>w.heap.size<=i/\i<ae.heap.size) 3 1 A n c (r.flatMap bE)/\ab w ae
def Aj(A:Option Addr)(n c:Nat)(W:World)(i:Value)(wr:World):Prop:=∃(k:Nat) (r:List Int),i=.int .i64 k/\k<=n/\r.length=n/\wr.ownsRow W.heap.size 3 1 (.slice A n c) n (r.flatMap bE)/\ab W wr
theorem Mw(w S A B n c d G l m)(f:∀i,S i->i<w.heap.size)(e:bl bE 1 w S A n c l)(hm:bl bE 1 w S B d G m)(aJ:n<=1000000)(c3:d<=1000000):Calls Tryz.prog 88 #[.slice A n c,.slice B d G] w (yU n w):=by
 obtain⟨i0,g,p,q,s⟩:=eO tZ;have j:=e.1;obtain⟨X,a5,a6,a7,Y,a0,a1,F⟩:=fl g p q s e hm j f;clear g p q s e hm j f;go_enter func88,ntmps88;go_upto_region 2 with(first|(at_builtin;refine fe _ rfl (.const (.slice none 0 0)) (.tmp 7) 23 rfl w.heap.size 3 i0 _ 1 8 underlying23 X.o a5.o a6.o a7.o rfl O (.slice none 0 0) 0 [] rfl (World.ownsRow_nil _ _ _ _) S A n c (l.flatMap bE) rfl Y.o.2.2.2 (mi jG _) dQ O (Nat.le_refl _) ?_;intro v1 T e g s;refine Hi.o ?_));rw[qu,gb]at e;have p:ab w T:=fh (aN _ _) (ee w w.heap.size 3 1) g (λ i f=>f) (dq _);refine ai ?_;obtain⟨u,j,rfl,c4,b9⟩:=dZ e;have q:Aj u n j w (.int .i64 0) T:=⟨0,l,I,ef _,an a1.o,e,p⟩;have a3:=ai q;clear q e g s p;go_wp2_with fail;go_loopw[6] (λ i wr=>Aj u n j w i wr) (λ i _=>n- (intOf i).toNat);case atStart=>exact a3.o
 obtain⟨k,r,rfl,c2,v,g,e⟩:=hrel;have x:=cS e F.o;have t:yU n w (.returned (.slice u n j)) wr:=by obtain⟨bf,bc,p,a9⟩:=yW g;injection p with p b7 q;subst p q;exact⟨r,u,j,v,I,a9,e⟩
 by_cases z:k<n
 ·have b0:decide (k<n)=true:=ax z;have b1:decide ((k:Int)<(n:Int))=true:=aY;have b_:(0:Int)<=k:=O;have c0:(k:Int)<n:=O;by_cases C:k<d
  ·have b2:decide (k<d)=true:=ax C;have b3:decide ((k:Int)<(d:Int))=true:=aY;have c1:(k:Int)<d:=O;obtain⟨a8,cI,b,rfl,-,-,h2⟩:=(a0.o.aq x).tR (λ i f=>cM (F.o i f) e.size) eB C;obtain⟨p,cur,rfl,a',q,P,b6,a_,y⟩:=qQ g O;obtain⟨b8,c5,a,L,-,s,h1⟩:=pF g (aN _ _) v z eB;simp only[Option.some.injEq,Addr.mk.injEq,and_true]at L;obtain⟨rfl,rfl⟩:=L;have M:∀J,ab wr J->J.cell? ⟨a8,cI+k,none⟩=some (.int .i64 b):=λ J D=>by have:=h2 J D 0 _ I;simpa using this
   have H:∀J,ab wr J->J.cell? ⟨p,k,none⟩=some (.int .i64 a):=λ J D=>by have:=h1 J D 0 _ I;simpa using this
   have b5:=q.lt;have b4:k<cur.size:=(by rw[P];omega);obtain⟨W,a4,E,V⟩:=cH q y e s;clear q y e s h1 h2 g t x;go_upto_region 5 with fail;refine eE 12 (λ J=>ab wr J) (λ J=>cX p wr J) Z (dx (aN _ _)) (dx (aN _ _)) (λ q s=>?_);generalize y:wr.drew=u0 at q s⊢;clear y;refine aU 0 (h:=aU 1 (h:=aU 2 (h:=aU 3 (h:=aU 4 (h:=aU 5 (h:=aU 6 (h:=aU 7 (h:=aU 8 (h:=aU 9 (h:=aU 10 (h:=aU 11 (h:=?_))))))))))));clear H M;have N:=q.ay W.o b5;refine aV 12 λ K H=>?_;refine ej I _ _ _ I p k 3 _ _ I I N b4 Z I I ?_;intro U M R;have y:cX p wr U:=bR s R (λ i f=>f.2);refine dE H y ?_;clear H K q s;intro s;have q:True:=aD;refine cg Z ?_;have Q:=tU (k:=k) (o:=0) (e':=if a<b then b else a) eB a' (by rw[Nat.mul_one,Nat.add_zero];exact M) P b6 a_ a4.o v V.o O I;have H:Aj (some ⟨p,0,none⟩) n j w (.int .i64 ((k:Int)+1)) U:=⟨k+1,_,cz,O,by rw[oL];exact v,Q,bR E.o y (λ i f=>⟨an E.o.size,O⟩)⟩;have a2:=ai H;clear H q s y M R Q N;go_wp2_with fail;go_roundw;case rel=>exact a2.o
   case measure=>exact bS
  have b2:decide (k<d)=false:=ax C;have b3:decide ((k:Int)<(d:Int))=false:=aY;have f:=ai t;clear t x g e;go_wp2_with fail;go_ret;exact f.o
 have b0:decide (k<n)=false:=ax z;have b1:decide ((k:Int)<(n:Int))=false:=aY;have f:=ai t;clear t x g e;go_wp2_with fail;go_ret;exact f.o
def sW(l:List bz)(a:Int)(w:World)(e:Ending)(ae:World):Prop:=∃r:Nat,e=.returned (.int .i64 r)/\r<=l.length/\(0<r->a<r/\∃af,l[r-1]?=some af/\af.kind=1)/\ab w ae
theorem zn(w S A)(n c:Nat)(l)(a:Int)(d:∀i,S i->i<w.heap.size)(b:bl dG 7 w S A n c l)(aJ:n<=1000000):Calls Tryz.prog 102 #[.slice A n c,a] w (sW l a w):=by
 have e:=b.1;obtain⟨s,q,r⟩:=cf d b e;clear d b e;go_enter func102,ntmps102;go_wp2_with fail;go_loopw[5] (λ i wr=>pw n w i wr) (λ i _=>n- (intOf i).toNat);case atStart=>exact⟨0,I,ef _,aN _ _⟩
 obtain⟨k,rfl,C,b⟩:=hrel;have g:=cS b s.o;by_cases f:k<n
 ·have u:decide (k<n)=true:=ax f;have v:decide ((k:Int)<(n:Int))=true:=aY;have z:(0:Int)<=k:=O;have B:(k:Int)<n:=O;have D:IntKind.i64.wrap ((k:Int)+1)=(k:Int)+1:=eI _ O;have m:pw n w (.int .i64 ((k:Int)+1)) wr:=⟨k+1,cz,O,b⟩;obtain⟨t,y,x,rfl,-,p,h1⟩:=(q.o.aq g).at_ jy f;have E:wr.cell? ⟨t,y+k*7,none⟩=some (.int .i64 x.kind):=by have:=h1 0 _ I;simpa using this
  have d:x.kind=1->a<(k:Int)+1->sW l a w (.returned (.int .i64 ((k:Int)+1))) wr:=λ h1 h2=>⟨k+1,I,an r.o,λ _=>⟨O,x,ax p,h1⟩,b⟩;obtain⟨j,e⟩:=ck m d;clear m d h1 p b g;by_cases av:a<(k:Int)+1
  ·have t1:decide (a<(k:Int)+1)=true:=ax av;by_cases aB:x.kind=1
   ·have t2:(x.kind==1)=true:=ax aB;go_wp2_with fail;go_ret;exact e.o aB av
   have t2:(x.kind==1)=false:=ax aB;go_wp2_with fail;go_roundw;case rel=>exact j.o
   case measure=>exact bS
  have t1:decide (a<(k:Int)+1)=false:=ax av;go_wp2_with fail;go_roundw;case rel=>exact j.o
  case measure=>exact bS
 have u:decide (k<n)=false:=ax f;have v:decide ((k:Int)<(n:Int))=false:=aY;have d:sW l a w (.returned (.int .i64 0)) wr:=⟨0,I,ef _,λ h=>absurd h O,b⟩;have e:=ai d;clear d b g;go_wp2_with fail;go_ret;exact e.o
theorem Hl(w S A)(n c:Nat)(l)(g:Int)(d:∀i,S i->i<w.heap.size)(f:bl dG 7 w S A n c l)(aJ:n<=1000000):Calls Tryz.prog 103 #[.slice A n c,g] w (na w):=by
 have h:=zn w S A n c l g d f aJ;have p:=cE (∀(b:World) (r:Nat),ab w b->Calls Tryz.prog 102 #[.slice A n c,r] b (sW l r b)) (λ b r a=>zn b S A n c l r (λ i j=>Nat.lt_of_lt_of_le (d i j) a.size) (f.aq (cS a d)) aJ);have j:=f.1;obtain⟨m,q⟩:=ck h j;clear h j f d;go_enter func103,ntmps103;go_wp2_with fail;refine m.o.mono ?_;rintro e b ⟨r,rfl,s,-,a⟩;by_cases h0:r=0
 ·subst h0;have d:=ai a;clear a;go_wp2_with fail;go_ret;exact⟨_,I,d.o⟩
 have t0:((r:Int)==0)=false:=aY;have u:(r==0)=false:=aY;have f:=p.o b r a;obtain⟨d,k⟩:=ck a f;clear a f;go_wp2_with fail;refine k.o.mono ?_;rintro e v ⟨a,rfl,t,-,h⟩;have j:=aM d.o h;have f:=ai j;clear j h;by_cases h1:0<a
 ·have t1:decide ((0:Int)<a)=true:=aY;have h:decide (0<a)=true:=ax h1;go_wp2_with fail;go_ret;exact⟨_,I,f.o⟩
 have t1:decide ((0:Int)<a)=false:=aY;have h:decide (0<a)=false:=ax h1;go_wp2_with fail;go_ret;exact⟨_,I,f.o⟩
theorem Hm(w S A)(n c:Nat)(l)(a:Int)(e:∀i,S i->i<w.heap.size)(b:bl dG 7 w S A n c l)(aJ:n<=1000000):Calls Tryz.prog 96 #[.slice A n c,a] w (na w):=by
 rcases n with _|m
 ·go_enter vF,vk;go_wp2_with fail;go_ret;exact⟨_,I,aN _ _⟩
 obtain⟨d,g,x,rfl,-,f,h1⟩:=b.at_ jy (k:=m) O;have q:w.cell? ⟨d,g+m*7,none⟩=some (.int .i64 x.kind):=by have:=h1 0 _ I;simpa using this
 have t0:decide ((0:Int)<((m+1:Nat):Int))=true:=by rw[decide_eq_true_eq];omega
 have p:decide ((0:Int)<(m:Int)+1)=true:=by rw[decide_eq_true_eq];omega
 have h:IntKind.i64.wrap (((m+1:Nat):Int)-1)=(m:Int):=by rw[show((m+1:Nat):Int)-1=(m:Int)from O];exact eI _ O
 have j:IntKind.i64.wrap ((m:Int)+1-1)=(m:Int):=by rw[show(m:Int)+1-1=(m:Int)from O];exact eI _ O
 have o:IntKind.i64.wrap (m:Int)=(m:Int):=eI _ O;have i0:(0:Int)<=m:=O;clear b h1 f e;by_cases aB:x.kind=1
 ·have t2:(x.kind !=1)=false:=ax aB;go_enter vF,vk;go_wp2_with fail;go_ret;exact⟨_,I,aN _ _⟩
 have t2:(x.kind !=1)=true:=ax aB;by_cases av:a=m
 ·have t3:(a==(m:Int))=true:=ax av;go_enter vF,vk;go_wp2_with fail;go_ret;exact⟨_,I,aN _ _⟩
 have t3:(a==(m:Int))=false:=ax av;go_enter vF,vk;go_wp2_with fail;go_ret;exact⟨_,I,aN _ _⟩
def LG(l:List fH)(W:World)(v i:Value)(wr:World):Prop:=∃k:Nat,i=.int .i64 k/\k<=l.length/\wr.ownsRow W.heap.size 3 1 v k (((l.map fH.idx).take k).flatMap bE)/\ab W wr
theorem Jf(w S T A n c l)(g:∀i,S i->i<w.heap.size)(d:cN w S 3 (iz w T) A n c l)(aJ:n<=1000000):Calls Tryz.prog 107 #[.slice A n c] w (λ e ae=>∃(B:Option Addr) (f:Nat),e=.returned (.slice B n f)/\fo ae (λ i=>w.heap.size<=i/\i<ae.heap.size) 3 1 B n f ((l.map fH.idx).flatMap bE)/\ab w ae):=by
 obtain⟨i0,f,m,p,q⟩:=eO tZ;have j:=d.1;obtain⟨s,z,C,D,t,h,u⟩:=dW f m p q d j g;clear f m p q d j g;go_enter func107,ntmps107;go_wp2_with fail;go_loopw[3,4] (λ v i wr=>LG l w v i wr) (λ _ i _=>n- (intOf i).toNat);case atStart=>exact⟨0,I,Nat.zero_le _,ee _ _ _ _,aN _ _⟩
 obtain⟨k,rfl,G,f,d⟩:=hrel;have Q:=d.size;by_cases j:k<n
 ·obtain⟨b,off,cs,y,rfl,-,r,⟨dJ,R,L,rfl,-⟩,-,p⟩:=(t.o.aq (cS d u.o) (ia:=λ cs a=>∃(A:Option Addr) (n c:Nat),cs=[.int .i64 a.idx,.int .i64 a.clock,.slice A n c]/\True) (λ cs a ⟨A,n,c,e,_⟩=>⟨A,n,c,e,aD⟩)).at_ j;have E:decide (k<n)=true:=ax j;have F:decide ((k:Int)<(n:Int))=true:=aY;have N:(0:Int)<=k:=O;have P:(k:Int)<n:=O;have W:wr.cell? ⟨b,off+k*3,none⟩=some (.int .i64 y.idx):=by have:=p 0 _ I;simpa using this
  have q:(l.map fH.idx).take (k+1)=(l.map fH.idx).take k++[y.idx]:=by rw[nK,gU,r];rfl
  have H:k+1<=l.length:=an h.o;obtain⟨g,m,x⟩:=cf d f q;clear d f q p r G;go_wp2_with(first|(refine gJ I 23 3 1 _ I eK _ [(0,.int .i64 y.idx)] I (mj _) ?_)|(at_builtin;refine fe _ I (.tmp 11) (.tmp 17) 23 I w.heap.size 3 i0 _ 1 8 eK s.o z.o C.o D.o I O _ k _ I (m.o.alloc _) _ (some ⟨wr.heap.size,0,none⟩) 1 1 (bE y.idx) I (eW I) (jG _) dQ O aY ?_;intro U V K G M));go_roundw;case rel=>refine⟨k+1,cz,H,?_,(eL g.o _).append (m.o.alloc _) G (λ i p=>p) aY⟩;rw[x.o,hJ];simpa using K
  case measure=>exact bS
 have E:decide (k<n)=false:=ax j;have F:decide ((k:Int)<(n:Int))=false:=aY;have q:(l.map fH.idx).take k=l.map fH.idx:=hU (by have:=h.o;simp;omega);rw[q]at f;have p:k=n:=an h.o;subst p;obtain⟨bf,bc,r,p⟩:=yW f;subst r;obtain⟨r,g⟩:=ck p d;clear p d f q;go_wp2_with fail;go_ret;exact⟨bf,bc,I,r.o,g.o⟩
def eF(L:Nat->Nat)(a:Nat)(w J:World):Prop:=aw (λ i=>i<w.heap.size/\L i≠a) w J
theorem eF.refl{L a w}:eF L a w w:=aN _ _
theorem eF.aq{L a w J b}(h:eF L a w J)(k:ab J b):eF L a w b:=bR h k (λ i c=>cQ c.1 h.size)
theorem eF.vh{L a w J}(h:ab w J):eF L a w J:=h.mono (λ i b=>b.1)
abbrev jI:=@eF.vh
theorem eF.app{L c a w J d}(h:eF L a w J)(f:∀i,i<w.heap.size->c i=L i)(k:aw (λ k=>k<J.heap.size/\¬bx J c a k) J d):eF L a w d:=bR h k (λ i b=>⟨cQ b.1 h.size,λ e=>b.2 (by rw[<-f i b.1];exact e.2)⟩)
theorem bx.mono{w ae L bL a i}(h:bx w L a i)(c:w.heap.size<=ae.heap.size)(b:∀i,i<w.heap.size->bL i=L i):bx ae bL a i:=⟨cQ h.1 c,by rw[b i h.1];exact h.2⟩
theorem cJ.BM{α:Type}{w ae wr:World}{L:Nat->Nat}{a size n m bc:Nat}{e:TypeId}{bd:List Value->α->Prop}{bf:Option Addr}{aP jc:List (List Value)}{l cA:List α}(h1:aP.length=n)(h2:n=l.length)(aA:∀cs∈aP,cs.length=size)(j:∀(k:Nat) (cs:List Value) (b:α),aP[k]?=some cs->l[k]?=some b->bd cs b)(f:jc.length=m)(bX:m=cA.length)(g3:∀cs∈jc,cs.length=size)(g:∀(k:Nat) (cs:List Value) (b:α),jc[k]?=some cs->cA[k]?=some b->bd cs b)(o:fo ae (λ k=>bx w L a k\/(w.heap.size<=k/\k<ae.heap.size)) e size bf (n+m) bc (aP.flatten++jc.flatten))(s:w.heap.size<=ae.heap.size):cJ ae (bx ae (ext L w.heap.size (λ _=>a)) a) e size bd bf (n+m) bc (l++cA):=by
 refine⟨aP++jc,by simp[h1,f],by simp[<-h2,<-bX],λ cs av=>?_,?_,λ k cs b c d=>?_⟩
 ·rcases List.mem_append.1 av with h|h
  ·exact aA cs h
  exact g3 cs h
 ·rw[List.flatten_append];refine o.more (λ i p r=>⟨r,?_⟩);rcases p with h|h
  ·rw[eT h.1];exact h.2
  exact ja h.1
 rcases Nat.lt_or_ge k n with q|q
 ·rw[List.getElem?_append_left O]at c;rw[List.getElem?_append_left O]at d;exact j k cs b c d
 rw[List.getElem?_append_right O]at c;rw[List.getElem?_append_right O]at d;rw[h1]at c;rw[<-h2]at d;exact g (k-n) cs b c d
theorem tL{α:Type}{bd:List Value->α->Prop}{cs0}{c:α}(h:bd cs0 c):∀(k:Nat) (cs:List Value) (b:α),[cs0][k]?=some cs->[c][k]?=some b->bd cs b:=by
 intro k cs b a d;rcases k with _|k
 ·simp at a d;subst a d;exact h
 simp at a
theorem cJ.reads{α w S e size n c}{bd:List Value->α->Prop}{A}{l:List α}(h:cJ w S e size bd A n c l):∃aP:List (List Value),aP.length=n/\n=l.length/\(∀cs∈aP,cs.length=size)/\fo w S e size A n c aP.flatten/\∀(k:Nat) (cs:List Value) (a:α),aP[k]?=some cs->l[k]?=some a->bd cs a:=h
theorem DH{α:Type}{enc:α->List Value}:∀{aP:List (List Value)} {l:List α},aP.length=l.length->(∀(k:Nat) (cs:List Value) (a:α),aP[k]?=some cs->l[k]?=some a->cs=enc a)->aP.flatten=l.flatMap enc
 |[],[],_,_=>rfl
 |c::aP,a::l,h,h2=>by
  rw[List.flatten_cons,List.flatMap_cons,h2 0 c a I I,DH (ax h) (λ k cs b d e=>h2 (k+1) cs b (ax d) (ax e))]
 |[],_::_,h,_=>by simp at h
 |_::_,[],h,_=>by simp at h
theorem cJ.ap{α}{enc:α->List Value}{w S e size n c A}{l:List α}(h:cJ w S e size (λ cs a=>cs=enc a) A n c l):fo w S e size A n c (l.flatMap enc):=by obtain⟨aP,h1,h2,aA,aS,b⟩:=h;rw[DH O b]at aS;exact aS
theorem cJ.dP{α}{enc:α->List Value}{w S e size n c A}{l:List α}(h:cJ w S e size (λ cs a=>cs=enc a) A n c l):bl enc size w S A n c l:=⟨h.len,h.ap.2.1,h.ap.2.2.1,h.ap.reads⟩
theorem Kt{α:Type}{enc:α->List Value}(l:List α):(l.map enc).flatten=l.flatMap enc:=by rw[List.flatMap_def]
theorem cJ.Di{α}{enc:α->List Value}{w S e size n c A}{l:List α}(au:∀a,(enc a).length=size)(aJ:n=l.length)(h:fo w S e size A n c (l.flatMap enc)):cJ w S e size (λ cs a=>cs=enc a) A n c l:=
 ⟨l.map enc,by simp[aJ],aJ,by simp;exactλ a _=>au a,by rw[Kt];exact h,λ k cs a b d=>by
  rw[gU,d]at b
  simpa using b.symm⟩
abbrev oy:=@cJ.Di
structure fw (w:World) (L:Nat->Nat) (gs aj:Nat) (f:dn) (y:bQ) (A F E bM bK bN bd:Option Addr) (bj ac aL bt fn bw bk bD bH lc bB rc wn wc bF bP:Nat):Prop where
 fm:aC w gs 63 (dr f y.busy aj A F E bM bK bN bd bj ac aL bt fn bw bk bD bH lc bB rc wn wc bF bP).toArray
 dP:L gs=1
 pl:L aj=2
 nX:aL=y.procs.length
 dI:oo w (bx w L) f aj A F E bM bK bN bd bj ac aL bt fn bw bk bD bH lc bB rc wn wc bF bP y
structure eJ (w:World) (L:Nat->Nat) (gs aj:Nat) (f:dn) (y:bQ) (p:Nat) (x:cO) (A F E bM bK bN bd:Option Addr) (bj ac aL bt fn bw bk bD bH lc bB rc wn wc bF bP:Nat) (bq bg bp bu M V K G H Q:Option Addr) (p1 q1 p2 q2 aK aI aR aQ cn cv bZ bA bh cq cm gc aJ av cj ct:Nat) (cur:Array Value):Prop where
 s:fw w L gs aj f y A F E bM bK bN bd bj ac aL bt fn bw bk bD bH lc bB rc wn wc bF bP
 iD:p<aL
 cZ:aC w aj 76 cur
 fG:p*14+14<=cur.size
 bt:∀(j:Nat) (u:Value),(ic bq bg bp bu M V K G H Q p1 q1 p2 q2 aK aI aR aQ cn cv bZ bA bh cq cm gc aJ av cj ct x)[j]?=some u->cur[p*14+j]?=some u
 du:qO w (bx w L) p bq bg bp bu M V K G H Q p1 q1 p2 q2 aK aI aR aQ cn cv bZ bA bh cq cm gc aJ av cj ct x
section
variable {w ae J:World} {L bL:Nat->Nat} {gs aj p:Nat} {f:dn} {y bO:bQ} {x cl:cO} {T:Nat->Prop}
variable {A F E bM bK bN bd:Option Addr} {bj ac aL bt fn bw bk bD bH lc bB rc wn wc bF bP:Nat} {bq bg bp bu M V K G H Q:Option Addr} {p1 q1 p2 q2 aK aI aR aQ cn cv bZ bA bh cq cm gc aJ av cj ct:Nat} {cur:Array Value}
theorem cG.ops(h:cG w L gs aj f y):∃(A F E bM bK bN bd:Option Addr) (bj ac aL bt fn bw bk bD bH lc bB rc wn wc bF bP:Nat),fw w L gs aj f y A F E bM bK bN bd bj ac aL bt fn bw bk bD bH lc bB rc wn wc bF bP:=by
 obtain⟨c,h1,h2,A,F,E,bM,bK,bN,bd,bj,ac,aL,bt,fn,bw,bk,bD,bH,lc,bB,rc,wn,wc,bF,bP,e,h⟩:=h;have b:L aj=2:=by obtain⟨cur,aP,a,_⟩:=h.procs;exact a.2
 refine⟨A,F,E,bM,bK,bN,bd,bj,ac,aL,bt,fn,bw,bk,bD,bH,lc,bB,rc,wn,wc,bF,bP,?_,h2,b,h.procs.len,h⟩;rw[<-e];exact h1
theorem cG.op(h:cG w L gs aj f y)(b:y.procs[p]?=some x):∃(A F E bM bK bN bd:Option Addr) (bj ac aL bt fn bw bk bD bH lc bB rc wn wc bF bP:Nat) (bq bg bp bu M V K G H Q:Option Addr) (p1 q1 p2 q2 aK aI aR aQ cn cv bZ bA bh cq cm gc aJ av cj ct:Nat) (cur:Array Value),eJ w L gs aj f y p x A F E bM bK bN bd bj ac aL bt fn bw bk bD bH lc bB rc wn wc bF bP bq bg bp bu M V K G H Q p1 q1 p2 q2 aK aI aR aQ cn cv bZ bA bh cq cm gc aJ av cj ct cur:=by obtain⟨A,F,E,bM,bK,bN,bd,bj,ac,aL,bt,fn,bw,bk,bD,bH,lc,bB,rc,wn,wc,bF,bP,au⟩:=h.ops;have hp:=(dV.1 b).1;have m:=au.nX;obtain⟨cur,cs,cl,i,c,k,a,⟨bq,bg,bp,bu,M,V,K,G,H,Q,p1,q1,p2,q2,aK,aI,aR,aQ,cn,cv,bZ,bA,bh,cq,cm,gc,aJ,av,cj,ct,d,e⟩,l,g⟩:=au.dI.procs.at_ (p:=p) O;rw[b]at a;cases a;have hmul:(p+1)*14<=aL*14:=Nat.mul_le_mul_right _ O;exact⟨A,F,E,bM,bK,bN,bd,bj,ac,aL,bt,fn,bw,bk,bD,bH,lc,bB,rc,wn,wc,bF,bP,bq,bg,bp,bu,M,V,K,G,H,Q,p1,q1,p2,q2,aK,aI,aR,aQ,cn,cv,bZ,bA,bh,cq,cm,gc,aJ,av,cj,ct,cur,au,O,c,O,λ j u hu=>g j u (by rw[d];exact hu),e⟩
theorem fw.kK(h:fw w L gs aj f y A F E bM bK bN bd bj ac aL bt fn bw bk bD bH lc bB rc wn wc bF bP)(au:aw T w J)(a:T gs)(j:Nat)(u)(hu:(dr f y.busy aj A F E bM bK bN bd bj ac aL bt fn bw bk bD bH lc bB rc wn wc bF bP)[j]?=some u):J.cell? ⟨gs,j,none⟩=some u:=by rw[(au.ay h.fm a).cell,fg];exact hu
theorem eJ.fN(h:eJ w L gs aj f y p x A F E bM bK bN bd bj ac aL bt fn bw bk bD bH lc bB rc wn wc bF bP bq bg bp bu M V K G H Q p1 q1 p2 q2 aK aI aR aQ cn cv bZ bA bh cq cm gc aJ av cj ct cur)(au:aw T w J)(a:T aj)(j:Nat)(u)(hu:(ic bq bg bp bu M V K G H Q p1 q1 p2 q2 aK aI aR aQ cn cv bZ bA bh cq cm gc aJ av cj ct x)[j]?=some u):J.cell? ⟨aj,p*14+j,none⟩=some u:=by rw[(au.ay h.cZ a).cell];exact h.bt j u hu
theorem fw.rV(h:fw w L gs aj f y A F E bM bK bN bd bj ac aL bt fn bw bk bD bH lc bB rc wn wc bF bP){a:Nat}(b:a≠1)(au:eF L a w J)(j:Nat)(u)(hu:(dr f y.busy aj A F E bM bK bN bd bj ac aL bt fn bw bk bD bH lc bB rc wn wc bF bP)[j]?=some u):J.cell? ⟨gs,j,none⟩=some u:=h.kK au ⟨h.fm.lt,by rw[h.dP];exact eM b⟩ j u hu
theorem eJ.oA(h:eJ w L gs aj f y p x A F E bM bK bN bd bj ac aL bt fn bw bk bD bH lc bB rc wn wc bF bP bq bg bp bu M V K G H Q p1 q1 p2 q2 aK aI aR aQ cn cv bZ bA bh cq cm gc aJ av cj ct cur){a:Nat}(b:a≠2)(au:eF L a w J)(j:Nat)(u)(hu:(ic bq bg bp bu M V K G H Q p1 q1 p2 q2 aK aI aR aQ cn cv bZ bA bh cq cm gc aJ av cj ct x)[j]?=some u):J.cell? ⟨aj,p*14+j,none⟩=some u:=h.fN au ⟨h.cZ.lt,by rw[h.s.pl];exact eM b⟩ j u hu
theorem fw.parts(h:fw w L gs aj f y A F E bM bK bN bd bj ac aL bt fn bw bk bD bH lc bB rc wn wc bF bP)(ex:Nat)(au:aw (λ i=>i<w.heap.size/\i≠gs/\L i≠ex) w ae)(H:∀i,i<w.heap.size->bL i=L i)(hex:ex≠0):cN ae (bx ae bL 0) 5 (iE ae (bx ae bL 0)) A bj ac f.jL/\((ex<2\/(3<=ex/\ex<7))->mg ae (bx ae bL) aj aL bt y.procs)/\(ex≠3->cJ ae (bx ae bL 3) 136 9 (fM ae (bx ae bL 0)) F fn bw y.cY)/\(bl fL 3 ae (bx ae bL 0) E bk bD y.ends)/\(bl bE 1 ae (bx ae bL 0) bM bH lc y.dY)/\(ex≠6->cJ ae (bx ae bL 6) 4 1 (λ cs a=>cs=pM a) bK bB rc y.rest)/\(ex≠4->cJ ae (bx ae bL 4) 222 4 (λ cs a=>cs=nw a) bN wn wc y.world)/\(ex≠5->cJ ae (bx ae bL 5) 3 1 (λ cs a=>cs=bE a) bd bF bP y.rel):=by have j:∀a i,a≠1->a≠ex->bx w L a i->(i<w.heap.size/\i≠gs/\L i≠ex)/\bx ae bL a i:=λ a i k g d=>⟨⟨d.1,λ e=>by subst e;exact k (d.2.symm.trans h.dP),λ e=>g (d.2.symm.trans e)⟩,d.mono au.size H⟩;have o:aw (bx w L 0) w ae:=au.mono (λ i d=>(j 0 i O (eM hex) d).1);have m:∀i,bx w L 0 i->bx ae bL 0 i:=λ i d=>(j 0 i O (eM hex) d).2;have ap:∀{α:Type} {a:Nat} {ty:TypeId} {size:Nat} {bd fF:List Value->α->Prop} {A:Option Addr} {n c:Nat} {l:List α},a≠1->a≠ex->cJ w (bx w L a) ty size bd A n c l->(∀cs b,bd cs b->fF cs b)->cJ ae (bx ae bL a) ty size fF A n c l:=λ {α a ty size bd fF A n c l} k g h q=>(h.aq (au.mono (λ i d=>(j a i k g d).1)) q).qE (λ i d=>(j a i k g d).2);refine⟨(h.dI.jL.aq o (λ cs c h=>h.aq o)).more m (λ cs c h=>h.more m),λ g=>?_,λ g=>ap O (eM g) h.dI.cY (λ cs b h=>(h.aq o).more m),(h.dI.ends.aq o).more m,(h.dI.dY.aq o).more m,λ g=>ap O (eM g) h.dI.rest (λ _ _ h=>h),λ g=>ap O (eM g) h.dI.world (λ _ _ h=>h),λ g=>ap O (eM g) h.dI.rel (λ _ _ h=>h)⟩;obtain⟨cur,aP,t,u,v,z,B,C,D,G,r,s⟩:=h.dI.procs;have q:=j 2 aj O O t;exact⟨cur,aP,q.2,au.ay u q.1,v,z,B,C,D,G,r,λ p cs x q1 q2=>(s p cs x q1 q2).same au (λ i d=>j 0 i O (eM hex) d) (λ a k i d k=>j a i O O d)⟩
theorem eJ.parts(h:eJ w L gs aj f y p x A F E bM bK bN bd bj ac aL bt fn bw bk bD bH lc bB rc wn wc bF bP bq bg bp bu M V K G H Q p1 q1 p2 q2 aK aI aR aQ cn cv bZ bA bh cq cm gc aJ av cj ct cur)(ex:Nat)(au:aw (λ i=>i<w.heap.size/\i≠aj/\L i≠ex) w ae)(q:∀i,i<w.heap.size->bL i=L i)(hex:ex≠0):ec ae (bx ae bL 0) [.slice bq p1 q1,.slice bg p2 q2,.slice bp aK aI,.slice bu aR aQ] x.st/\(ex≠10+4*p->cJ ae (bx ae bL (10+4*p)) 71 2 (jn ae (bx ae bL 0)) M cn cv x.marks)/\(ex≠13+4*p->cJ ae (bx ae bL (13+4*p)) 3 1 (λ cs a=>cs=bE a) V bZ bA x.vec)/\(ex≠11+4*p->cJ ae (bx ae bL (11+4*p)) 113 3 (iz ae (bx ae bL 0)) K bh cq x.bV)/\bl da 9 ae (bx ae bL 0) G cm gc x.log/\bl cB 10 ae (bx ae bL 0) H aJ av x.known/\(ex≠12+4*p->cJ ae (bx ae bL (12+4*p)) 136 9 (fM ae (bx ae bL 0)) Q cj ct x.queue):=by have o:∀a i,a≠2->a≠ex->bx w L a i->(i<w.heap.size/\i≠aj/\L i≠ex)/\bx ae bL a i:=λ a i k m d=>⟨⟨d.1,λ e=>by subst e;exact k (d.2.symm.trans h.s.pl),λ e=>m (d.2.symm.trans e)⟩,d.mono au.size q⟩;have j:aw (bx w L 0) w ae:=au.mono (λ i d=>(o 0 i O (eM hex) d).1);have g:∀i,bx w L 0 i->bx ae bL 0 i:=λ i d=>(o 0 i O (eM hex) d).2;have ap:∀{α:Type} {a:Nat} {ty:TypeId} {size:Nat} {bd fF:List Value->α->Prop} {A:Option Addr} {n c:Nat} {l:List α},a≠2->a≠ex->cJ w (bx w L a) ty size bd A n c l->(∀cs b,bd cs b->fF cs b)->cJ ae (bx ae bL a) ty size fF A n c l:=λ {α a ty size bd fF A n c l} k m h r=>(h.aq (au.mono (λ i d=>(o a i k m d).1)) r).qE (λ i d=>(o a i k m d).2);exact⟨(h.du.st.aq j).more g,λ d=>ap O (eM d) h.du.marks (λ cs b h=>(h.aq j).more g),λ d=>ap O (eM d) h.du.vec (λ _ _ h=>h),λ d=>ap O (eM d) h.du.bV (λ cs b h=>(h.aq j).more g),(h.du.log.aq j).more g,(h.du.known.aq j).more g,λ d=>ap O (eM d) h.du.queue (λ cs b h=>(h.aq j).more g)⟩
theorem eJ.put(h:eJ w L gs aj f y p x A F E bM bK bN bd bj ac aL bt fn bw bk bD bH lc bB rc wn wc bF bP bq bg bp bu M V K G H Q p1 q1 p2 q2 aK aI aR aQ cn cv bZ bA bh cq cm gc aJ av cj ct cur){jq cs'}(au:aw (λ i=>i<w.heap.size/\i≠aj/\¬(10+4*p<=L i/\L i<=13+4*p)) w ae)(r:∀i,i<w.heap.size->bL i=L i)(t:aC ae aj 76 jq)(N:jq.size=cur.size)(z:∀j u,cs'[j]?=some u->jq[p*14+j]?=some u)(C:∀i,i<p*14\/p*14+14<=i->jq[i]?=cur[i]?)(B:cs'.length=14)(D:jj ae (bx ae bL) p cs' cl):cG ae bL gs aj f {y with procs:=y.procs.set p cl}:=by
 have k:∀a i,a≠2->¬(10+4*p<=a/\a<=13+4*p)->bx w L a i->(i<w.heap.size/\i≠aj/\¬(10+4*p<=L i/\L i<=13+4*p))/\bx ae bL a i:=λ a i g q d=>⟨⟨d.1,λ e=>by subst e;exact g (d.2.symm.trans h.s.pl),λ e=>q (by rw[<-d.2];exact e)⟩,d.mono au.size r⟩;have o:aw (bx w L 0) w ae:=au.mono (λ i d=>(k 0 i O O d).1);have m:∀i,bx w L 0 i->bx ae bL 0 i:=λ i d=>(k 0 i O O d).2;have ap:∀{α:Type} {a:Nat} {ty:TypeId} {size:Nat} {bd fF:List Value->α->Prop} {A:Option Addr} {n c:Nat} {l:List α},a≠2->a<10->cJ w (bx w L a) ty size bd A n c l->(∀cs b,bd cs b->fF cs b)->cJ ae (bx ae bL a) ty size fF A n c l:=λ {α a ty size bd fF A n c l} g q h v=>(h.aq (au.mono (λ i d=>(k a i g O d).1)) v).qE (λ i d=>(k a i g O d).2);have v:gs≠aj:=λ e=>by have h1:=h.s.dP;have h2:=h.s.pl;rw[e]at h1;omega
 refine⟨_,au.ay h.s.fm ⟨h.s.fm.lt,v,by rw[h.s.dP];omega⟩,by rw[r gs h.s.fm.lt];exact h.s.dP,A,F,E,bM,bK,bN,bd,bj,ac,aL,bt,fn,bw,bk,bD,bH,lc,bB,rc,wn,wc,bF,bP,I,?_⟩;exact⟨(h.s.dI.jL.aq o (λ cs c h=>h.aq o)).more m (λ cs c h=>h.more m),h.s.dI.procs.set (T:=λ i=>i<w.heap.size/\i≠aj/\¬(10+4*p<=L i/\L i<=13+4*p)) h.iD h.cZ au t N z C B (λ a i g q d _=>k a i O q d) ⟨t.lt,by rw[r aj h.cZ.lt];exact h.s.pl⟩ D,ap O O h.s.dI.cY (λ cs b h=>(h.aq o).more m),(h.s.dI.ends.aq o).more m,(h.s.dI.dY.aq o).more m,ap O O h.s.dI.rest (λ _ _ h=>h),ap O O h.s.dI.world (λ _ _ h=>h),ap O O h.s.dI.rel (λ _ _ h=>h)⟩
theorem eJ.Kh(h:eJ w L gs aj f y p x A F E bM bK bN bd bj ac aL bt fn bw bk bD bH lc bB rc wn wc bF bP bq bg bp bu M V K G H Q p1 q1 p2 q2 aK aI aR aQ cn cv bZ bA bh cq cm gc aJ av cj ct cur){j:Nat}{vs cs':List Value}(au:aw (λ i=>i<w.heap.size/\i≠aj/\¬(10+4*p<=L i/\L i<=13+4*p)) w ae)(c:∀i,i<w.heap.size->bL i=L i)(d:aC ae aj 76 (eY cur (p*14+j) vs))
  (b:j+vs.length<=14)(a:cs'=(ic bq bg bp bu M V K G H Q p1 q1 p2 q2 aK aI aR aQ cn cv bZ bA bh cq cm gc aJ av cj ct x).take j++vs++(ic bq bg bp bu M V K G H Q p1 q1 p2 q2 aK aI aR aQ cn cv bZ bA bh cq cm gc aJ av cj ct x).drop (j+vs.length))(e:jj ae (bx ae bL) p cs' cl):cG ae bL gs aj f {y with procs:=y.procs.set p cl}:=
 h.put au c d (tY _ _ _) (by rw[a];exact BK h.bt I b h.fG) (EH b h.fG) (by rw[a];simp[ic];omega) e
theorem fw.put(h:fw w L gs aj f y A F E bM bK bN bd bj ac aL bt fn bw bk bD bH lc bB rc wn wc bF bP){bf b a c d e fF}{j g r q n m l k p o t s z x v u:Nat}(C:aC ae gs 63 (dr f bO.busy aj bf b a c d e fF j g r q n m l k p o t s z x v u).toArray)(B:∀i,i<w.heap.size->bL i=L i)(D:oo ae (bx ae bL) f aj bf b a c d e fF j g r q n m l k p o t s z x v u bO):cG ae bL gs aj f bO:=⟨_,C,by rw[B gs h.fm.lt];exact h.dP,bf,b,a,c,d,e,fF,j,g,r,q,n,m,l,k,p,o,t,s,z,x,v,u,I,D⟩
theorem aw.join{S T a b c}(h:aw S a b)(k:aw T b c):aw (λ i=>S i/\T i) a c:=bR (h.mono (λ i d=>d.1)) k (λ i d=>d.2)
end
def iy(v:Value)(w:World)(e:Ending)(ae:World):Prop:=e=.returned v/\∃m,ae=w.drewN m
theorem iy.drew{v w e ae n}(h:iy v (w.drewN n) e ae):iy v w e ae:=by obtain⟨h1,m,h2⟩:=h;exact⟨h1,n+m,by rw[h2,vo]⟩
def rf(a:Int):Bool:=decide (5<=a)&&decide (a<=8)
theorem LX(w)(a:Int):Calls Tryz.prog 128 #[a] w (iy (.bool (rf a)) w):=by
 unfold rf;by_cases h:5<=a
 ·have t0:decide (5<=a)=true:=ax h;rw[t0,Bool.true_and];go_enter func128,ntmps128;go_wp2_with fail;go_ret;exact⟨I,0,I⟩
 have t0:decide (5<=a)=false:=ax h;rw[t0,Bool.false_and];go_enter func128,ntmps128;go_wp2_with fail;go_ret;exact⟨I,0,I⟩
theorem vP(w gs aj f y)(h:gF w gs aj f y):Calls Tryz.prog 95 #[.pointer (some ⟨gs,0,none⟩)] w (iy (.bool (rf f.bo)) w):=by obtain⟨A,F,E,bM,bK,bN,bd,bj,ac,aL,bt,fn,bw,bk,bD,bH,lc,bB,rc,wn,wc,bF,bP,b,av,a⟩:=h.sys;have c:w.cell? ⟨gs,1,none⟩=some (.int .i64 f.bo):=av w (aN _ _) 1 _ I;clear av a b;go_enter func95,ntmps95;go_wp2_with fail;refine(LX w f.bo).mono ?_;rintro e a ⟨rfl,m,rfl⟩;go_wp2_with fail;go_ret;exact⟨I,m,I⟩
theorem rh(w)(gs aj p:Nat)(f y x)(h:gF w gs aj f y)(g:y.procs[p]?=some x):Calls Tryz.prog 55 #[.pointer (some ⟨gs,0,none⟩),p] w (iy (.int .i64 x.st.events.length) w):=by obtain⟨A,F,E,bM,bK,bN,bd,bj,ac,aL,bt,fn,bw,bk,bD,bH,lc,bB,rc,wn,wc,bF,bP,bq,bg,bp,bu,M,V,K,G,H,Q,p1,q1,p2,q2,aK,aI,aR,aQ,cn,cv,bZ,bA,bh,cq,cm,gc,aJ,av,cj,ct,k,n,av,j,b,e⟩:=h.proc g;obtain⟨_,_,_,_,_,_,_,_,_,_,_,_,a,s1,s2,l,m⟩:=e.st;simp only[List.cons.injEq,Value.slice.injEq]at a;obtain⟨-,⟨rfl,rfl,rfl⟩,-⟩:=a;have d:=s2.1;have q:w.cell? ⟨gs,3,none⟩=some (.slice (some ⟨aj,0,none⟩) aL bt):=av w (aN _ _) 3 _ I;have r:w.cell? ⟨aj,p*14+3,none⟩=some (.slice bg p2 q2):=b w (aN _ _) 3 _ I;have i0:(0:Int)<=p:=O;have i1:(p:Int)<aL:=O;have c:iy (.int .i64 x.st.events.length) w (.returned (.int .i64 p2)) w:=⟨by rw[d],0,I⟩;have i:=ai c;clear c av j b e s1 s2 l m d k g h;go_enter func55,ntmps55;go_wp2_with fail;go_ret;exact i.o
theorem wg(w)(gs aj p:Nat)(f y x)(h:gF w gs aj f y)(l:y.procs[p]?=some x)(a:x.bV≠[])(r:x.bV.length<=1000000):Calls Tryz.prog 86 #[.pointer (some ⟨gs,0,none⟩),p] w (iy (.int .i64 (x.bV.getLast a).idx) w):=by
 obtain⟨A,F,E,bM,bK,bN,bd,bj,ac,aL,bt,fn,bw,bk,bD,bH,lc,bB,rc,wn,wc,bF,bP,bq,bg,bp,bu,M,V,K,G,H,Q,p1,q1,p2,q2,aK,aI,aR,aQ,cn,cv,bZ,bA,bh,cq,cm,gc,aJ,av,cj,ct,t,z,av,s,i,e⟩:=h.proc l;have d:=e.bV.len;rcases bh with _|m
 ·exact absurd (nD d.symm) a
 obtain⟨b,off,cs,c,rfl,-,n,⟨dJ,N,v,rfl,-⟩,-,g⟩:=e.bV.mW.at_ (k:=m) O;have P:w.cell? ⟨gs,3,none⟩=some (.slice (some ⟨aj,0,none⟩) aL bt):=av w (aN _ _) 3 _ I;have R:w.cell? ⟨aj,p*14+9,none⟩=some (.slice (some ⟨b,off,none⟩) (m+1) cq):=i w (aN _ _) 9 _ I;have u:w.cell? ⟨b,off+m*3,none⟩=some (.int .i64 c.idx):=by have:=g 0 _ I;simpa using this
 have i0:(0:Int)<=p:=O;have i1:(p:Int)<aL:=O;have L:(0:Int)<=m:=O;have B:IntKind.i64.wrap (((m+1:Nat):Int)-1)=(m:Int):=by rw[show((m+1:Nat):Int)-1=(m:Int)from O];exact eI _ O
 have C:IntKind.i64.wrap ((m:Int)+1-1)=(m:Int):=by rw[show(m:Int)+1-1=(m:Int)from O];exact eI _ O
 have D:IntKind.i64.wrap (m:Int)=(m:Int):=eI _ O
 have j:iy (.int .i64 (x.bV.getLast a).idx) w (.returned (.int .i64 c.idx)) w:=⟨by
  rw[List.getLast_eq_getElem]
  have:x.bV[x.bV.length-1]?=some c:=by rw[<-d];exact n
  rw[dA (an (wy.2 a))]at this
  injection this with this
  rw[this],0,I⟩
 have q:=ai j;clear j av s i e d t l h r g n;go_enter func86,ntmps86;go_wp2_with fail;go_ret;exact q.o
def lL(y:bQ)(k:Nat):Nat:=y.cY.length+((y.procs.take k).map (λ x=>x.queue.length)).sum
theorem Gr{y k}(h:y.procs.length<=k):lL y k=dX y:=by unfold lL dX;rw[hU h]
theorem LQ{y k x}(h:y.procs[k]?=some x):lL y (k+1)=lL y k+x.queue.length:=by unfold lL;rw[nK,h];simp;omega
theorem KC{y}(k):lL y k<=dX y:=by
 unfold lL dX;have:y.procs=y.procs.take k++y.procs.drop k:=(List.take_append_drop _ _).symm;conv=>rhs;rw[this]
 rw[rI,List.sum_append];omega
theorem xf(w gs aj f y)(h:gF w gs aj f y)(hm:dX y<=1000000)(aJ:y.procs.length<=1000):Calls Tryz.prog 63 #[.pointer (some ⟨gs,0,none⟩)] w (iy (.int .i64 (dX y)) w):=by
 obtain⟨A,F,E,bM,bK,bN,bd,bj,ac,aL,bt,fn,bw,bk,bD,bH,lc,bB,rc,wn,wc,bF,bP,c,av,a⟩:=h.sys;have e:w.cell? ⟨gs,4,none⟩=some (.slice F fn bw):=av w (aN _ _) 4 _ I;have b:fn=lL y 0:=by rw[a.cY.len];simp[lL]
 have d:(.int .i64 (fn:Int):Value)=.int .i64 (lL y 0:Nat):=by rw[b]
 obtain⟨q,H⟩:=ck d h;clear d h av a b c;go_enter func63,ntmps63;go_wp2_with fail;go_loopw[3,4] (λ v i wr=>∃k:Nat,i=.int .i64 k/\k<=y.procs.length/\v=.int .i64 (lL y k:Nat)/\∃m,wr=w.drewN m) (λ _ i _=>y.procs.length- (intOf i).toNat);case atStart=>exact⟨0,I,Nat.zero_le _,q.o,0,I⟩
 obtain⟨k,rfl,C,rfl,m,b⟩:=hrel;have hp:gF wr gs aj f y:=H.o.aq (by rw[b];exact ek _ _);clear e;by_cases e:k<y.procs.length
 ·obtain⟨A,F,E,bM,bK,bN,bd,bj,ac,aL,bt,fn,bw,bk,bD,bH,lc,bB,rc,wn,wc,bF,bP,bq,bg,bp,bu,M,V,K,G,H,Q,p1,q1,p2,q2,aK,aI,aR,aQ,cn,cv,bZ,bA,bh,cq,cm,gc,aJ,av,cj,ct,c,u,av,a,d,l⟩:=hp.proc (dA e);have x:wr.cell? ⟨gs,3,none⟩=some (.slice (some ⟨aj,0,none⟩) aL bt):=av wr (aN _ _) 3 _ I;have D:wr.cell? ⟨aj,k*14+13,none⟩=some (.slice Q cj ct):=d wr (aN _ _) 13 _ I;have r:decide (k<aL)=true:=ax u;have t:decide ((k:Int)<(aL:Int))=true:=aY;have z:(0:Int)<=k:=O;have B:(k:Int)<aL:=O;have au:=LQ (dA e);have hle:=KC (y:=y) (k+1);have aB:=l.queue.len;obtain⟨s,n⟩:=aW (lL y k);rw[<-n]at au⊢;have hw:IntKind.i64.wrap ((s:Int)+(cj:Int))=(s:Int)+(cj:Int):=eI _ O;have g:∃j:Nat,(.int .i64 ((k:Int)+1):Value)=.int .i64 j/\j<=y.procs.length/\(.int .i64 ((s:Int)+(cj:Int)):Value)=.int .i64 (lL y j:Nat)/\∃m,wr=w.drewN m:=⟨k+1,cz,O,by rw[au,<-aB];go_num,m,b⟩;have p:=ai g;clear g av a d l au hle aB n b hp c;go_wp2_with fail;go_roundw;case rel=>exact p.o
  case measure=>exact bS
 obtain⟨A,F,E,bM,bK,bN,bd,bj,ac,aL,bt,fn,bw,bk,bD,bH,lc,bB,rc,wn,wc,bF,bP,c,av,a⟩:=hp.sys;have x:wr.cell? ⟨gs,3,none⟩=some (.slice (some ⟨aj,0,none⟩) aL bt):=av wr (aN _ _) 3 _ I;have r:decide (k<aL)=false:=aY;have t:decide ((k:Int)<(aL:Int))=false:=aY;have d:iy (.int .i64 (dX y)) w (.returned (.int .i64 (lL y k:Nat))) wr:=⟨by rw[Gr O],m,b⟩;have g:=ai d;clear d av a b hp c;go_wp2_with fail;go_ret;exact g.o
theorem BJ(w)(gs aj p:Nat)(f y x)(h:gF w gs aj f y)(g:y.procs[p]?=some x)(hm:dX y<=1000000)(aJ:y.procs.length<=1000)(he:x.st.events.length<=1000000):Calls Tryz.prog 60 #[.pointer (some ⟨gs,0,none⟩),p] w (iy (.bool (decide (64<=x.st.events.length)||decide (256<dX y+8))) w):=by
 have a:∀j,Calls Tryz.prog 55 #[.pointer (some ⟨gs,0,none⟩),p] (w.drewN j) (iy (.int .i64 x.st.events.length) (w.drewN j)):=λ j=>rh _ gs aj p f y x (h.aq (ek _ _)) g;have b:∀j,Calls Tryz.prog 63 #[.pointer (some ⟨gs,0,none⟩)] (w.drewN j) (iy (.int .i64 (dX y)) (w.drewN j)):=λ j=>xf _ gs aj f y (h.aq (ek _ _)) hm aJ;obtain⟨n,c⟩:=aW x.st.events.length;obtain⟨s,d⟩:=aW (dX y);rw[<-c]at a he⊢;rw[<-d]at b hm⊢;have hw:IntKind.i64.wrap ((s:Int)+8)=(s:Int)+8:=eI _ O;obtain⟨bq,bg⟩:=ck a b;clear a b h g c d;by_cases h1:64<=n
 ·have t1:decide (64<=n)=true:=ax h1;have c:decide ((64:Int)<=(n:Int))=true:=aY;rw[t1,Bool.true_or];go_enter func60,ntmps60;go_wp2_with fail;refine(bq.o 0).mono ?_;rintro e a ⟨rfl,j,rfl⟩;go_wp2_with fail;go_ret;exact⟨I,_,I⟩
 have t1:decide (64<=n)=false:=ax h1;have c:decide ((64:Int)<=(n:Int))=false:=aY;rw[t1,Bool.false_or];by_cases h2:256<s+8
 ·have t2:decide (256<s+8)=true:=ax h2;have d:decide ((256:Int)<(s:Int)+8)=true:=aY;rw[t2];go_enter func60,ntmps60;go_wp2_with fail;refine(bq.o 0).mono ?_;rintro e a ⟨rfl,j,rfl⟩;go_wp2_with fail;refine(bg.o j).mono ?_;rintro e a ⟨rfl,b,rfl⟩;go_wp2_with fail;go_ret;exact⟨I,_,I⟩
 have t2:decide (256<s+8)=false:=ax h2;have d:decide ((256:Int)<(s:Int)+8)=false:=aY;rw[t2];go_enter func60,ntmps60;go_wp2_with fail;refine(bq.o 0).mono ?_;rintro e a ⟨rfl,j,rfl⟩;go_wp2_with fail;refine(bg.o j).mono ?_;rintro e a ⟨rfl,b,rfl⟩;go_wp2_with fail;go_ret;exact⟨I,_,I⟩
def Aq(w:World)(e:Ending)(ae:World):Prop:=∃b:Bool,iy (.bool b) w e ae
theorem zk(w gs aj f y)(h:gF w gs aj f y)(aJ:y.procs.length<=1000):Calls Tryz.prog 69 #[.pointer (some ⟨gs,0,none⟩)] w (Aq w):=by
 have H:=ai h;clear h;go_enter func69,ntmps69;go_wp2_with fail;go_loopw[3] (λ i wr=>∃k:Nat,i=.int .i64 k/\k<=y.procs.length/\∃m,wr=w.drewN m) (λ i _=>y.procs.length- (intOf i).toNat);case atStart=>exact⟨0,I,Nat.zero_le _,0,I⟩
 obtain⟨k,rfl,D,m,a⟩:=hrel;have hp:gF wr gs aj f y:=H.o.aq (by rw[a];exact ek _ _);by_cases t:k<y.procs.length
 ·obtain⟨A,F,E,bM,bK,bN,bd,bj,ac,aL,bt,fn,bw,bk,bD,bH,lc,bB,rc,wn,wc,bF,bP,bq,bg,bp,bu,M,V,K,G,H,Q,p1,q1,p2,q2,aK,aI,aR,aQ,cn,cv,bZ,bA,bh,cq,cm,gc,aJ,av,cj,ct,d,u,av,c,e,v⟩:=hp.proc (dA t);have x:wr.cell? ⟨gs,3,none⟩=some (.slice (some ⟨aj,0,none⟩) aL bt):=av wr (aN _ _) 3 _ I;have z:wr.cell? ⟨aj,k*14,none⟩=some (.bool y.procs[k].down):=by have:=e wr (aN _ _) 0 _ I;simpa using this
  have r:decide (k<aL)=true:=ax u;have s:decide ((k:Int)<(aL:Int))=true:=aY;have B:(0:Int)<=k:=O;have C:(k:Int)<aL:=O;have n:∃j:Nat,(.int .i64 ((k:Int)+1):Value)=.int .i64 j/\j<=y.procs.length/\∃m,wr=w.drewN m:=⟨k+1,cz,O,m,a⟩;have l:Aq w (.returned (.bool true)) wr:=⟨true,I,m,a⟩;obtain⟨q,g⟩:=aW (y.procs[k].down);rw[<-g]at z;obtain⟨p,b⟩:=ck n l;clear n l av c e v a hp d g;cases q with
  |true=>go_wp2_with fail;go_ret;exact b.o
  |false=>
   go_wp2_with fail;go_roundw;case rel=>exact p.o
   case measure=>exact bS
 obtain⟨A,F,E,bM,bK,bN,bd,bj,ac,aL,bt,fn,bw,bk,bD,bH,lc,bB,rc,wn,wc,bF,bP,d,av,c⟩:=hp.sys;have x:wr.cell? ⟨gs,3,none⟩=some (.slice (some ⟨aj,0,none⟩) aL bt):=av wr (aN _ _) 3 _ I;have r:decide (k<aL)=false:=aY;have s:decide ((k:Int)<(aL:Int))=false:=aY;have b:=cE (Aq w (.returned (.bool false)) wr) (⟨false,I,m,a⟩);clear av c a hp d;go_wp2_with fail;go_ret;exact b.o
def oW(k:Int):Bool:=decide (k∈[(2:Int),3,6,7,8,9,10,12])
def oz(k:Int):Bool:=decide (k∈[(1:Int),4,5])
theorem Kc(w)(k:Int):Calls Tryz.prog 57 #[k] w (iy (.bool (oW k)) w):=by
 have key:∀c:Int,c∈[(2:Int),3,6,7,8,9,10,12]->Calls Tryz.prog 57 #[c] w (iy (.bool (oW c)) w):=by intro c av;simp only[List.mem_cons,List.not_mem_nil,or_false]at av;rcases av with rfl|rfl|rfl|rfl|rfl|rfl|rfl|rfl<;>(go_enter func57,ntmps57;go_wp2_with fail;go_ret;exact⟨rfl,0,rfl⟩)
 by_cases h:k∈[(2:Int),3,6,7,8,9,10,12]
 ·exact key k h
 have i:oW k=false:=by simpa [oW]using h
 rw[i];simp only[List.mem_cons,List.not_mem_nil,or_false,not_or]at h;obtain⟨h2,aA,d,e,f,g,a,b⟩:=h;have t2:(k==2)=false:=ax h2;have t3:(k==3)=false:=ax aA;have t6:(k==6)=false:=ax d;have t7:(k==7)=false:=ax e;have t8:(k==8)=false:=ax f;have t9:(k==9)=false:=ax g;have t10:(k==10)=false:=ax a;have t12:(k==12)=false:=ax b;clear h2 aA d e f g a b i key;go_enter func57,ntmps57;go_wp2_with fail;go_ret;exact⟨I,0,I⟩
theorem Gm(w)(k:Int):Calls Tryz.prog 58 #[k] w (iy (.bool (oz k)) w):=by
 have key:∀c:Int,c∈[(1:Int),4,5]->Calls Tryz.prog 58 #[c] w (iy (.bool (oz c)) w):=by intro c av;simp only[List.mem_cons,List.not_mem_nil,or_false]at av;rcases av with rfl|rfl|rfl<;>(go_enter func58,ntmps58;go_wp2_with fail;go_ret;exact⟨rfl,0,rfl⟩)
 by_cases h:k∈[(1:Int),4,5]
 ·exact key k h
 have b:oz k=false:=by simpa [oz]using h
 rw[b];simp only[List.mem_cons,List.not_mem_nil,or_false,not_or]at h;obtain⟨h1,aS,a⟩:=h;have t1:(k==1)=false:=ax h1;have t4:(k==4)=false:=ax aS;have t5:(k==5)=false:=ax a;clear h1 aS a b key;go_enter func58,ntmps58;go_wp2_with fail;go_ret;exact⟨I,0,I⟩
theorem Gn(a b c d e f g h i j:Int):Tryz.prog.built 179 [(0,.agg #[a,b,c,d,e,f,g,h,i]),(1,.int .u32 j)]=some #[.int .i64 a,.int .i64 b,.int .i64 c,.int .i64 d,.int .i64 e,.int .i64 f,.int .i64 g,.int .i64 h,.int .i64 i,.int .u32 j]:=Z
def yp(l:List cV)(w:World)(e:Ending)(ae:World):Prop:=∃r:List cV,r.map cV.az=l.map cV.az/\jU cB 10 r w e ae
def Ep(l:List cV)(W:World)(v i:Value)(wr:World):Prop:=∃(k:Nat) (r:List cV),i=.int .i64 k/\k<=l.length/\r.map cV.az=(l.take k).map cV.az/\wr.ownsRow W.heap.size 179 10 v k (r.flatMap cB)/\ab W wr
theorem Js(w S A)(n c L:Nat)(l)(d:∀i,S i->i<w.heap.size)(a:bl cB 10 w S A n c l)(aJ:n<=1000000)(a9:L<=32):Calls Tryz.prog 99 #[.slice A n c,L] w (yp l w):=by
 obtain⟨i0,f,m,p,q⟩:=eO uc;have g:=a.1;obtain⟨T,a2,a3,a4,V,x,a0⟩:=dW f m p q a g d;clear f m p q a g d;go_enter func99,ntmps99;go_wp2_with fail;go_loopw[5,6] (λ v i wr=>Ep l w v i wr) (λ _ i _=>n- (intOf i).toNat);case atStart=>exact⟨0,[],I,ef _,aT,ee _ _ _ _,aN _ _⟩
 obtain⟨k,r,rfl,p,m,s,q⟩:=hrel;have b1:=q.size;by_cases C:k<n
 ·obtain⟨b,off,y,rfl,a',g,a⟩:=V.o.tR a0.o ff C;have a6:decide (k<n)=true:=ax C;have a7:decide ((k:Int)<(n:Int))=true:=aY;have a_:(0:Int)<=k:=O;have b0:(k:Int)<n:=O;have a8:k+1<=l.length:=an x.o;have f:(l.take (k+1)).map cV.az=(l.take k).map cV.az++[y.az]:=by rw[nK,g,rI];rfl
  have z:∀J,ab w J->J.cell? ⟨b,off+k*10+9,none⟩=some (.int .u32 y.hold):=λ J t=>by have:=a J t 9 _ I;simpa using this
  have X:=cE (∀J,ab w J->J.rangeAt b (off+k*10) [y.az.proc,y.az.idx,y.az.af.kind,y.az.af.inc,y.az.af.aH,y.az.af.bI,y.az.af.bb,y.az.af.ord,y.az.af.val]) (λ J t j u hu=>a J t j u (rQ hu));have d:=cE (ab wr wr.drew) (dx (aN _ _));obtain⟨W,a1,Y,U⟩:=cH s f m q;clear s f m q a g p;go_upto_region 5 with fail;refine eE 99 (λ _=>True) (λ J=>ab w J) Z aD (aM U.o d.o) (λ f a=>?_);have F:=d.o;clear d;generalize d:wr.drew=u0 at a F⊢;clear d;refine ag 0 (h:=ag 1 (h:=ag 2 (h:=ag 3 (h:=ag 4 (h:=?_)))));refine cK 5 I (dw ba _ _ I b (off+k*10) I [y.az.proc,y.az.idx,y.az.af.kind,y.az.af.inc,y.az.af.aH,y.az.af.bI,y.az.af.bb,y.az.af.ord,y.az.af.val] _ (λ J t=>X.o J t) gY I Z) ?_;refine ag 6 (h:=ag 7 (h:=ag 8 (h:=ag 9 (h:=ag 10 (h:=ag 11 (h:=?_))))));clear z;refine aV 12 λ K d=>?_;go_simp;refine(qV u0 L a9).mono ?_;rintro e u1 ⟨Q,rfl,D⟩;have z:=aM a D;have N:=dy (dy W.o F (λ i g=>g.2)) D (λ i g=>g.2);refine aZ d aD z ?_;clear d K f a;intro f a;refine ag 13 (h:=?_);obtain⟨hw,p⟩:=aW (bits BinOp.or IntKind.u32 y.hold Q);refine cK 14 I (gh ba _ _ I _ [(0,.agg #[y.az.proc,y.az.idx,y.az.af.kind,y.az.af.inc,y.az.af.aH,y.az.af.bI,y.az.af.bb,y.az.af.ord,y.az.af.val]),(1,.int .u32 (bits BinOp.or IntKind.u32 y.hold Q))] I (Gn _ _ _ _ _ _ _ _ _ _)) ?_;rw[<-p];clear p;refine aV 15 λ K d=>?_;refine gl I _ _ _ _ I ma _ [(0,.agg #[y.az.proc,y.az.idx,y.az.af.kind,y.az.af.inc,y.az.af.aH,y.az.af.bI,y.az.af.bb,y.az.af.ord,y.az.af.val,.int .u32 hw])] I (qJ _ _ _ _ _ _ _ _ _ _) ?_;have E:ab u1 (u1.alloc (.cells #[y.az.proc,y.az.idx,y.az.af.kind,y.az.af.inc,y.az.af.aH,y.az.af.bI,y.az.af.bb,y.az.af.ord,y.az.af.val,.int .u32 hw] 179)):=cx _ _;have H:=eW (w:=u1) (e:=179) (cs:=cB ⟨y.az,hw⟩) (size:=10) (n:=1) I;have p:=aM z E;have G:=dy N E (λ i g=>g.2);refine aZ d aD p ?_;clear d K f a;intro f a;change dz (u1.alloc (.cells #[y.az.proc,y.az.idx,y.az.af.kind,y.az.af.inc,y.az.af.aH,y.az.af.bI,y.az.af.bb,y.az.af.ord,y.az.af.val,.int .u32 hw] 179)) _ _ _ _ _ at H;generalize B:u1.alloc (.cells #[y.az.proc,y.az.idx,y.az.af.kind,y.az.af.inc,y.az.af.aH,y.az.af.bI,y.az.af.bb,y.az.af.ord,y.az.af.val,.int .u32 hw] 179)=u2 at*;clear B;refine aV 16 λ K d=>?_;refine iL _ ba (.tmp 13) (.tmp 28) _ ba w.heap.size 179 i0 _ 10 80 ma T.o a2.o a3.o a4.o I O _ k (r.flatMap cB) ba G _ (some ⟨u1.heap.size,0,none⟩) 1 1 (cB ⟨y.az,hw⟩) ba H (qm _) dQ O (an p.size) ?_;intro eC R P M a5;have B:ab w R:=fh p G M (λ i g=>g) p.size;refine aZ d aD B ?_;clear d K f a;intro f a;refine ag 17 (h:=?_);refine cg Z ?_;have d:Ep l w eC (.int .i64 ((k:Int)+1)) R:=⟨k+1,r++[⟨y.az,hw⟩],cz,a8,by rw[rI,Y.o,a1.o];rfl,by rw[hJ];simpa using P,B⟩;have g:=ai d;clear d f a F P M a5 G N z p B E H D;go_wp2_with fail;go_roundw;case rel=>exact g.o
  case measure=>exact bS
 have a6:decide (k<n)=false:=ax C;have a7:decide ((k:Int)<(n:Int))=false:=aY;have p:k=n:=an x.o;have hlen:r.length=k:=by have:=mK List.length m;simp at this;omega
 have d:l.take k=l:=hU (an x.o);rw[d]at m;rw[<-hlen]at s;obtain⟨bf,bc,f,a⟩:=nj (k:=0) s q;subst f;have f:=cE (yp l w (.returned (.slice bf r.length bc)) wr) (⟨r,m,a⟩);clear s q a d m hlen;go_wp2_with fail;go_ret;exact f.o
def Ai(a b:List cV)(w:World)(e:Ending)(ae:World):Prop:=∃r:List cV,lv (r.map cV.az)/\(∀x∈r,x.az∈a.map cV.az++b.map cV.az)/\jU cB 10 r w e ae
def sM(D:List cy)(m:Nat)(W:World)(v i:Value)(wr:World):Prop:=∃(k:Nat) (r:List cV),i=.int .i64 k/\k<=m/\lv (r.map cV.az)/\(∀x∈r,x.az∈D)/\wr.ownsRow W.heap.size 179 10 v r.length (r.flatMap cB)/\ab W wr
def Bb(D:List cy)(A:Option Addr)(n c:Nat)(W:World)(i:Value)(wr:World):Prop:=∃(k:Nat) (r:List cV),i=.int .i64 k/\k<=n/\r.length=n/\lv (r.map cV.az)/\(∀x∈r,x.az∈D)/\wr.ownsRow W.heap.size 179 10 (.slice A n c) n (r.flatMap cB)/\ab W wr
theorem AE(w S A B)(n b7 l b8 p:Nat)(a b)(f:∀i,S i->i<w.heap.size)(c:bl cB 10 w S A n b7 a)(d:bl cB 10 w S B l b8 b)(e6:n<=100000)(e7:l<=100000)(hm:n+l<=100000)(hp:p<=31):Calls Tryz.prog 89 #[.slice A n b7,.slice B l b8,p] w (Ai a b w):=by
 have g:=c.1;have q:=d.1;obtain⟨c4,c5,b4,b5,b6,a7⟩:=er c d g q f hm;clear c d g q f hm;go_enter func89,ntmps89;go_wp2_with fail;go_loopw[7,8] (λ v i wr=>sM (a.map cV.az++b.map cV.az) n w v i wr) (λ _ i _=>n- (intOf i).toNat);case atStart=>exact⟨0,[],I,ef _,List.Pairwise.nil,aT,ee _ _ _ _,aN _ _⟩
 obtain⟨k,r,rfl,c1,g,f,c,d⟩:=hrel;obtain⟨m,hm⟩:=aW r.length;have e1:m<=100000:=by
  have:=g.le (U:=a.map cV.az++b.map cV.az) (λ x D=>by
   obtain⟨y,F,rfl⟩:=xh.1 D
   exact f y F)
  have h1:=b4.o;have h2:=b5.o;have aA:=a7.o;simp at this;omega
 by_cases C:k<n
 ·obtain⟨R,a6,y,rfl,d9,F,T⟩:=c4.o.tR b6.o ff C;have W:decide (k<n)=true:=ax C;have X:decide ((k:Int)<(n:Int))=true:=aY;have b_:(0:Int)<=k:=O;have c0:(k:Int)<n:=O;have a3:wr.rangeAt R (a6+k*10) [y.az.proc,y.az.idx,y.az.af.kind,y.az.af.inc,y.az.af.aH,y.az.af.bI,y.az.af.bb,y.az.af.ord,y.az.af.val,.int .u32 y.hold]:=λ j u hu=>T wr d j u hu;have Y:y.az∈a.map cV.az++b.map cV.az:=List.mem_append_left _ (xh.2 ⟨y,eo F,I⟩);have M:=d.size;obtain⟨t,q,rfl,G,V⟩:=dZ c;have a4:bl cB 10 wr (λ i=>i<wr.heap.size) t r.length q r:=⟨I,G,V,(lX c).more (λ i s=>s.2)⟩;have H:=pj wr _ t r.length q r y (λ i s=>s) a4 O;rw[<-hm]at H⊢;obtain⟨a_,a9,N,P,a',a7⟩:=er a3 H d f Y hm;clear a3 H d f Y hm T F c a4 g G;go_wp2_with(first|(refine gK I _ (.tmp 20) I R (a6+k*10) [y.az.proc,y.az.idx,y.az.af.kind,y.az.af.inc,y.az.af.aH,y.az.af.bI,y.az.af.bb,y.az.af.ord,y.az.af.val,.int .u32 y.hold] _ I a_.o ml I Z ?_));refine a9.o.mono ?_;rintro e b3 ⟨dj,a8,b1,a5,a1,rfl,a2,a0⟩
  have E:sM (a.map cV.az++b.map cV.az) n w (.slice a8 dj.length b1) (.int .i64 ((k:Int)+1)) b3:=⟨k+1,dj,cz,O,a5,λ x D=>by
   rcases a1 x D with h|h
   ·obtain⟨z,M,e⟩:=xh.1 h
    rw[<-e]
    exact P.o z M
   ·rw[h]
    exact a'.o,Af a2 M,aM N.o a0⟩
  obtain⟨e4,L⟩:=aW dj.length;rw[<-L]at E⊢;obtain⟨Q,c7⟩:=ck E L;clear E L a5 a1 a2 a0;go_wp2_with fail;go_roundw;case rel=>exact Q.o
  case measure=>exact bS
 have W:decide (k<n)=false:=ax C;have X:decide ((k:Int)<(n:Int))=false:=aY;obtain⟨t,q,rfl,G,V⟩:=dZ c;have b2:sM (a.map cV.az++b.map cV.az) l w (.slice t r.length q) (.int .i64 0) wr:=⟨0,r,I,ef _,g,f,c,d⟩;rw[<-hm]at b2⊢;have b0:=ai b2;clear b2 g f c d;go_wp2_with fail;go_loopw[7,9] (λ v i wr=>sM (a.map cV.az++b.map cV.az) l w v i wr) (λ _ i _=>l- (intOf i).toNat);case atStart=>exact b0.o
 obtain⟨k,r,rfl,c1,g,f,c,d⟩:=hrel;obtain⟨m,hm⟩:=aW r.length;have e1:m<=100000:=by
  have:=g.le (U:=a.map cV.az++b.map cV.az) (λ x D=>by
   obtain⟨y,F,rfl⟩:=xh.1 D
   exact f y F)
  have h1:=b4.o;have h2:=b5.o;have aA:=a7.o;simp at this;omega
 by_cases C:k<l
 ·obtain⟨R,a6,y,rfl,d9,F,T⟩:=c5.o.tR b6.o ff C;have W:decide (k<l)=true:=ax C;have X:decide ((k:Int)<(l:Int))=true:=aY;have b_:(0:Int)<=k:=O;have c0:(k:Int)<l:=O;have a3:wr.rangeAt R (a6+k*10) [y.az.proc,y.az.idx,y.az.af.kind,y.az.af.inc,y.az.af.aH,y.az.af.bI,y.az.af.bb,y.az.af.ord,y.az.af.val,.int .u32 y.hold]:=λ j u hu=>T wr d j u hu;have Y:y.az∈a.map cV.az++b.map cV.az:=List.mem_append_right _ (xh.2 ⟨y,eo F,I⟩);have M:=d.size;obtain⟨t,q,rfl,G,V⟩:=dZ c;have a4:bl cB 10 wr (λ i=>i<wr.heap.size) t r.length q r:=⟨I,G,V,(lX c).more (λ i s=>s.2)⟩;have H:=pj wr _ t r.length q r y (λ i s=>s) a4 O;rw[<-hm]at H⊢;obtain⟨a_,a9,N,P,a',a7⟩:=er a3 H d f Y hm;clear a3 H d f Y hm T F c a4 g G;go_wp2_with(first|(refine gK I _ (.tmp 32) I R (a6+k*10) [y.az.proc,y.az.idx,y.az.af.kind,y.az.af.inc,y.az.af.aH,y.az.af.bI,y.az.af.bb,y.az.af.ord,y.az.af.val,.int .u32 y.hold] _ I a_.o ml I Z ?_));refine a9.o.mono ?_;rintro e b3 ⟨dj,a8,b1,a5,a1,rfl,a2,a0⟩
  have E:sM (a.map cV.az++b.map cV.az) l w (.slice a8 dj.length b1) (.int .i64 ((k:Int)+1)) b3:=⟨k+1,dj,cz,O,a5,λ x D=>by
   rcases a1 x D with h|h
   ·obtain⟨z,M,e⟩:=xh.1 h
    rw[<-e]
    exact P.o z M
   ·rw[h]
    exact a'.o,Af a2 M,aM N.o a0⟩
  obtain⟨e4,L⟩:=aW dj.length;rw[<-L]at E⊢;obtain⟨Q,c7⟩:=ck E L;clear E L a5 a1 a2 a0;go_wp2_with fail;go_roundw;case rel=>exact Q.o
  case measure=>exact bS
 have W:decide (k<l)=false:=ax C;have X:decide ((k:Int)<(l:Int))=false:=aY;obtain⟨t,q,rfl,G,V⟩:=dZ c;rw[<-hm]at c⊢;have b0:=cE (Bb (a.map cV.az++b.map cV.az) t m q w (.int .i64 0) wr) (⟨0,r,I,ef _,hm.symm,g,f,c,d⟩);clear g f c d hm G;go_wp2_with fail;go_loopw[10] (λ i wr=>Bb (a.map cV.az++b.map cV.az) t m q w i wr) (λ i _=>m- (intOf i).toNat);case atStart=>exact b0.o
 obtain⟨k,r,rfl,c1,Y,g,f,c,d⟩:=hrel;by_cases C:k<m
 ·have W:decide (k<m)=true:=ax C;have X:decide ((k:Int)<(m:Int))=true:=aY;have b_:(0:Int)<=k:=O;have c0:(k:Int)<m:=O;obtain⟨L,cur,rfl,c_,F,b9,e2,d',a1⟩:=qQ c O;obtain⟨e5,e8,H,a4,-,T,G⟩:=pF c (aN _ _) Y C ff;simp only[Option.some.injEq,Addr.mk.injEq,and_true]at a4;obtain⟨rfl,rfl⟩:=a4;have e0:=F.lt;have a2:∀J,ab wr J->J.cell? ⟨L,k*10+9,none⟩=some (.int .u32 H.hold):=λ J D=>by have:=G J D 9 _ I;simpa using this
  have d_:k*10+9<cur.size:=by rw[b9];omega
  obtain⟨c6,c9,N,a0,c8,P⟩:=er F a1 d T g f;clear F a1 d T g f G c;go_upto_region 13 with fail;refine eE 10 (λ J=>ab wr J) (λ J=>cX L wr J) Z (dx (aN _ _)) (dx (aN _ _)) (λ F G=>?_);generalize T:wr.drew=u0 at F G⊢;clear T;refine aU 0 (h:=aU 1 (h:=aU 2 (h:=aU 3 (h:=aU 4 (h:=aU 5 (h:=?_))))));clear a2;refine aV 6 λ K T=>?_;go_simp;refine(jW u0 p hp).mono ?_;rintro e u1 ⟨e3,rfl,a3⟩;have hA1:=aM F a3;have a1:cX L wr u1:=bR G a3 (λ i s=>cM s.1 F.size);refine aZ T hA1 a1 ?_;clear T K F G;intro F G;refine aU 7 (h:=?_);refine ag 8 (h:=ag 9 (h:=?_));have b2:=hA1.ay c6.o e0;refine aV 10 λ K T=>?_;refine ej I _ _ _ I L (k*10+9) 179 _ _ I I b2 d_ Z I I ?_;intro c3 a5 c2;have a2:cX L wr c3:=bR a1 c2 (λ i s=>s.2);refine dE T a2 ?_;clear T K F G;intro G;have F:True:=aD;refine cg Z ?_;have T:=tU (k:=k) (o:=9) (e':=⟨H.az,bits BinOp.or IntKind.u32 H.hold e3⟩) ff c_ a5 b9 e2 d' c9.o Y a0.o O I
  have E:Bb (a.map cV.az++b.map cV.az) (some ⟨L,0,none⟩) m q w (.int .i64 ((k:Int)+1)) c3:=⟨k+1,_,cz,O,by rw[oL];exact Y,by rw[DD a0.o];exact c8.o,λ x D=>by
   rcases wO D with h|h
   ·exact P.o x h
   ·rw[h];exact P.o H (eo a0.o),T,bR N.o a2 (λ i s=>⟨an N.o.size,O⟩)⟩
  have Q:=ai E;clear E F G hA1 a1 a2 a5 c2 T b2 a3;go_wp2_with fail;go_roundw;case rel=>exact Q.o
  case measure=>exact bS
 have W:decide (k<m)=false:=ax C;have X:decide ((k:Int)<(m:Int))=false:=aY;rw[<-Y]at c;obtain⟨bf,bc,H,E⟩:=nj (k:=0) c d;have F:Ai a b w (.returned (.slice t m q)) wr:=⟨r,g,f,by rw[Y]at E;exact E⟩;have G:=ai F;clear F c d E H g f;go_wp2_with fail;go_ret;exact G.o
end Go.Proofs.YtdhklhebgclcoaaGreatDoor
