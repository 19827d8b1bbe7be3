import Derived.Defers
import Derived.Recover
import Derived.Laws.Pointers
import Derived.Lib.SliceRun
import Derived.Test.YtdhklhebgclcoaaGreatDoorM0
set_option linter.unusedVariables false
set_option linter.unusedSimpArgs false
set_option maxRecDepth 100000
set_option maxHeartbeats 32000000
namespace Go.Proofs.YtdhklhebgclcoaaGreatDoor
open Go.Proofs Go.Proofs.Tryz Go.RowKit
def zG(l:List cV)(w:World)(e:Ending)(ae:World):Prop:=∃r:List cV,r.Sublist l/\jU cB 10 r w e ae
def KF(l:List cV)(W:World)(v i:Value)(wr:World):Prop:=∃(k:Nat) (r:List cV),i=.int .i64 k/\k<=l.length/\r.length<=k/\r.Sublist (l.take k)/\wr.ownsRow W.heap.size 179 10 v r.length (r.flatMap cB)/\ab W wr
theorem Kx(w S A)(n c:Nat)(l)(f:Int)(d:∀i,S i->i<w.heap.size)(a:bl cB 10 w S A n c l)(aJ:n<=1000000):Calls Tryz.prog 82 #[.slice A n c,f] w (zG l w):=by
 obtain⟨i0,g,q,B,s⟩:=eO uc;have h:=a.1;obtain⟨R,Y,a0,a1,U,D,E⟩:=dW g q B s a h d;clear g q B s a h d;go_enter func82,ntmps82;go_wp2_with fail;go_loopw[5,6] (λ v i wr=>KF l w v i wr) (λ _ i _=>n- (intOf i).toNat);case atStart=>exact⟨0,[],I,ef _,dq _,aT,ee _ _ _ _,aN _ _⟩
 obtain⟨k,r,rfl,K,P,q,d,a⟩:=hrel;have a8:k<=n:=an D.o;have a9:=a.size;obtain⟨m,hm⟩:=aW r.length;rw[<-hm]at d P;by_cases z:k<n
 ·obtain⟨b,off,y,rfl,s,C,g⟩:=(U.o.aq (cS a E.o)).at_ ff z;have a3:decide (k<n)=true:=ax z;have a4:decide ((k:Int)<(n:Int))=true:=aY;have a6:(0:Int)<=k:=O;have a7:(k:Int)<n:=O;have H:k+1<=l.length:=an D.o;have a2:b<wr.heap.size:=an (E.o b s);have a5:wr.cell? ⟨b,off+k*10+9,none⟩=some (.int .u32 y.hold):=by have:=g 9 _ I;simpa using this
  have t:∀J,ab wr J->J.rangeAt b (off+k*10) [y.az.proc,y.az.idx,y.az.af.kind,y.az.af.inc,y.az.af.aH,y.az.af.bI,y.az.af.bb,y.az.af.ord,y.az.af.val,.int .u32 y.hold]:=λ J h j u hu=>(h.cell (p:=⟨b,off+k*10+j,none⟩) a2).trans (g j u hu);have x:(l.take (k+1))=l.take k++[y]:=by rw[nK,C];rfl
  obtain⟨W,T,V,h,G,F⟩:=er t a d hm q x;clear t a d hm q x g C K s;go_wp2_with fail;refine(Mj wr y.hold).mono ?_;rintro e Q ⟨t,rfl,g⟩;have B:=g.size;have M:=dy V.o g (λ i x=>x.2);have L:=aM T.o g;have N:=W.o Q g;obtain⟨s,C,X⟩:=cf M L N;clear M L N g a5;by_cases g:t<=f
  ·have t1:decide (t<=f)=true:=ax g;go_wp2_with(first|(refine wpList_load_mid I _ (.tmp 24) I b (off+k*10) I [y.az.proc,y.az.idx,y.az.af.kind,y.az.af.inc,y.az.af.aH,y.az.af.bI,y.az.af.bb,y.az.af.ord,y.az.af.val,.int .u32 y.hold] _ X.o ml I Z ?_)|(refine gJ I 74 179 1 _ I ma _ [(0,.agg #[y.az.proc,y.az.idx,y.az.af.kind,y.az.af.inc,y.az.af.aH,y.az.af.bI,y.az.af.bb,y.az.af.ord,y.az.af.val,.int .u32 y.hold])] I (qJ _ _ _ _ _ _ _ _ _ _) ?_)|(at_builtin;refine fe _ I (.tmp 21) (.tmp 26) 74 I w.heap.size 179 i0 _ 10 80 ma R.o Y.o a0.o a1.o I O _ m _ I (s.o.alloc _) _ (some ⟨Q.heap.size,0,none⟩) 1 1 (cB y) I (eW I) (qm _) dQ O aY ?_;intro a' a_ N M a5));go_roundw;case rel=>refine⟨k+1,r++[y],cz,H,by have:=h.o;simp;omega,by rw[F.o];exact G.o.append (List.Sublist.refl _),?_,(eL C.o _).append (s.o.alloc _) M (λ i x=>x) aY⟩;rw[gp,<-h.o,hJ];simpa using N
   case measure=>exact bS
  have t1:decide (t<=f)=false:=ax g;go_wp2_with fail;go_roundw;case rel=>refine⟨k+1,r,cz,H,an h.o,by rw[F.o];exact G.o.trans (List.sublist_append_left _ _),?_,C.o⟩;rw[<-h.o];exact s.o
  case measure=>exact bS
 have a3:decide (k<n)=false:=ax z;have a4:decide ((k:Int)<(n:Int))=false:=aY;rw[hm]at d;obtain⟨bf,bc,L,x⟩:=nj (k:=0) d a;subst L;have L:=cE (zG l w (.returned (.slice bf r.length bc)) wr) (⟨r,q.trans (List.take_sublist _ _),x⟩);clear d a q x hm P K;go_wp2_with fail;go_ret;exact L.o
def iZ(p:Int):Nat->List bz->List cy
 |_,[]=>[]
 |k,e::l=>⟨p,(k:Int)+1,e⟩::iZ p (k+1) l
theorem tM(p):∀(k:Nat) (l:List bz),(iZ p k l).length=l.length
 |_,[]=>rfl
 |k,e::l=>by simp[iZ,tM p (k+1) l]
theorem AX(p):∀(k:Nat) (l:List bz) (e:bz),iZ p k (l++[e])=iZ p k l++[⟨p,((k+l.length:Nat):Int)+1,e⟩]
 |k,[],e=>by simp[iZ]
 |k,x::l,e=>by
  simp only[List.cons_append,iZ,AX p (k+1) l e,List.length_cons]
  rw[show k+1+l.length=k+(l.length+1)from O]
theorem Lh{p:Int}{l:List bz}{k:Nat}{y}(h:l[k]?=some y):iZ p 0 (l.take (k+1))=iZ p 0 (l.take k)++[⟨p,(k:Int)+1,y⟩]:=by obtain⟨a,rfl⟩:=dV.1 h;rw[qv a,AX,jm,vG O,gb]
theorem vY{p}:∀{k j:Nat} {l:List bz} {e:bz},l[j]?=some e->(iZ p k l)[j]?=some ⟨p,((k+j:Nat):Int)+1,e⟩
 |k,0,x::l,e,h=>by simp at h;subst h;simp[iZ]
 |k,j+1,x::l,e,h=>by
  simp only[iZ,List.getElem?_cons_succ]at h⊢
  rw[vY h,show k+1+j=k+(j+1)from O]
 |_,0,[],_,h=>by simp at h
 |_,_+1,[],_,h=>by simp at h
theorem Gt(p k a b c d e f g:Int):Tryz.prog.built 175 [(0,.int .i64 p),(1,.int .i64 k),(2,.agg #[a,b,c,d,e,f,g])]=some #[.int .i64 p,.int .i64 k,.int .i64 a,.int .i64 b,.int .i64 c,.int .i64 d,.int .i64 e,.int .i64 f,.int .i64 g]:=Z
theorem BI(w S A)(n c:Nat)(p:Int)(l)(d:∀i,S i->i<w.heap.size)(a:bl dG 7 w S A n c l)(aJ:n<=1000000):Calls Tryz.prog 105 #[p,.slice A n c] w (jU da 9 (iZ p 0 l) w):=by
 obtain⟨i0,e,h,j,q⟩:=eO sZ;have g:=a.1;obtain⟨z,K,L,M,C,f,G⟩:=dW e h j q a g d;clear e h j q a g d;go_enter func105,ntmps105;go_wp2_with fail;go_loopw[5,6] (λ v i wr=>rn da 9 175 l.length (λ k=>iZ p 0 (l.take k)) w v i wr) (λ _ i _=>n- (intOf i).toNat);case atStart=>exact⟨0,I,ef _,dq _,ee _ _ _ _,aN _ _⟩
 obtain⟨k,rfl,T,e,a,d⟩:=hrel;dsimp only at e a;have X:k<=n:=an f.o;have a0:=d.size;by_cases g:k<n
 ·obtain⟨b,off,y,rfl,N,x,s⟩:=(C.o.aq (cS d G.o)).at_ jy g;have P:decide (k<n)=true:=ax g;have Q:decide ((k:Int)<(n:Int))=true:=aY;have V:(0:Int)<=k:=O;have W:(k:Int)<n:=O;have R:k+1<=l.length:=an f.o;have a1:IntKind.i64.wrap ((k:Int)+1)=(k:Int)+1:=eI _ O;have j:=Lh (p:=p) x;have t:(iZ p 0 (l.take (k+1))).length<=k+1:=by rw[tM,jm];omega
  have u:wr.rangeAt b (off+k*7) [y.kind,y.inc,y.aH,y.bI,y.bb,y.ord,y.val]:=s;obtain⟨r,h⟩:=aW (iZ p 0 (l.take k));rw[<-h]at a j e;obtain⟨m,hm⟩:=aW r.length;have Y:m<=k:=O;rw[<-hm]at a;obtain⟨F,B,q,E,U,H,D⟩:=dW u d a hm h j t;clear u d a hm h j t s x e T N;go_wp2_with(first|(refine wpList_load_mid I _ (.tmp 19) I b (off+k*7) I [y.kind,y.inc,y.aH,y.bI,y.bb,y.ord,y.val] _ F.o mB I Z ?_)|(refine fW I 175 _ I _ [(0,.int .i64 p),(1,.int .i64 ((k:Int)+1)),(2,.agg #[y.kind,y.inc,y.aH,y.bI,y.bb,y.ord,y.val])] I (Gt _ _ _ _ _ _ _ _ _) ?_)|(refine gJ I 73 175 1 _ I ll _ [(0,.agg #[p,.int .i64 ((k:Int)+1),y.kind,y.inc,y.aH,y.bI,y.bb,y.ord,y.val])] I (ph _ _ _ _ _ _ _ _ _) ?_)|(at_builtin;refine fe _ I (.tmp 13) (.tmp 22) 73 I w.heap.size 175 i0 _ 9 72 ll z.o K.o L.o M.o I O _ m _ I (q.o.alloc _) _ (some ⟨wr.heap.size,0,none⟩) 1 1 (da ⟨p,(k:Int)+1,y⟩) I (eW I) (mU _) dQ O aY ?_;intro N T u t x));go_roundw;case rel=>refine⟨k+1,cz,R,D.o,?_,(eL B.o _).append (q.o.alloc _) t (λ i h=>h) aY⟩;dsimp only;rw[H.o,gp,<-E.o,hJ];simpa using u
  case measure=>exact bS
 have P:decide (k<n)=false:=ax g;have Q:decide ((k:Int)<(n:Int))=false:=aY;have j:l.take k=l:=hU (an f.o);rw[j]at a;obtain⟨bf,bc,rfl,h⟩:=nj (k:=0) a d;have s:=ai h;clear h a d e j;go_wp2_with fail;go_ret;exact s.o
def lU(w:World)(e:Ending)(ae:World):Prop:=∃b:Bool,e=.returned (.bool b)/\ab w ae
def pw(n:Nat)(W:World)(i:Value)(wr:World):Prop:=∃k:Nat,i=.int .i64 k/\k<=n/\ab W wr
theorem DM(cR S A n c l d)(a:∀i,S i->i<cR.heap.size)(m:bl da 9 cR S A n c l)(aJ:n<=1000000):Calls Tryz.prog 106 #[.slice A n c,.agg (da d).toArray] cR (lU cR):=by
 show Calls Tryz.prog 106 #[.slice A n c,.agg #[d.proc,d.idx,d.af.kind,d.af.inc,d.af.aH,d.af.bI,d.af.bb,d.af.ord,d.af.val]] cR _;generalize e:cR.alloc (.cells #[d.proc,d.idx,d.af.kind,d.af.inc,d.af.aH,d.af.bI,d.af.bb,d.af.ord,d.af.val] 175)=w;have g:ab cR w:=e▸cx cR _;have f:aC w cR.heap.size 175 #[d.proc,d.idx,d.af.kind,d.af.inc,d.af.aH,d.af.bI,d.af.bb,d.af.ord,d.af.val]:=e▸cu cR _ _;have q:=m.aq (g.mono a);have M:=f.lt;obtain⟨C,v,B,t⟩:=cH q a f g;clear q a f g m;go_enter func106,ntmps106;go_upto_region 1 with fail;clear e;go_wp2_with fail;go_loopw[5] (λ i wr=>pw n w i wr) (λ i _=>n- (intOf i).toNat);case atStart=>exact⟨0,I,ef _,aN _ _⟩
 obtain⟨k,rfl,Q,a⟩:=hrel;have R:=a.size;by_cases r:k<n
 ·obtain⟨b,off,y,rfl,G,x,g⟩:=(C.o.aq (a.mono (λ i e=>an (v.o i e)))).at_ lN r;have K:decide (k<n)=true:=ax r;have L:decide ((k:Int)<(n:Int))=true:=aY;have N:(0:Int)<=k:=O;have P:(k:Int)<n:=O;have H:b<wr.heap.size:=an (v.o b G);have m:∀J,ab wr J->J.rangeAt b (off+k*9) [y.proc,y.idx,y.af.kind,y.af.inc,y.af.aH,y.af.bI,y.af.bb,y.af.ord,y.af.val]:=λ J e j u hu=>(e.cell (p:=⟨b,off+k*9+j,none⟩) H).trans (g j u hu);have f:=a.ay B.o M;have q:∀J,ab wr J->J.rangeAt cR.heap.size 0 [d.proc,d.idx,d.af.kind,d.af.inc,d.af.aH,d.af.bI,d.af.bb,d.af.ord,d.af.val]:=λ J e j u hu=>by rw[(e.ay f f.lt).cell,gb,fg];exact hu
  obtain⟨E,F,s⟩:=cf m q a;clear m q a g x f;go_upto_region 4 with fail;refine fy λ u0 g x=>?_;refine ag 0 (h:=ag 1 (h:=ag 2 (h:=?_)));refine cK 3 I (dw ba _ _ I b (off+k*9) I [y.proc,y.idx,y.af.kind,y.af.inc,y.af.aH,y.af.bI,y.af.bb,y.af.ord,y.af.val] _ (λ J e=>E.o J e) gY I Z) ?_;refine cK 4 I (dw ba _ _ I cR.heap.size 0 I [d.proc,d.idx,d.af.kind,d.af.inc,d.af.aH,d.af.bI,d.af.bb,d.af.ord,d.af.val] _ (λ J e=>F.o J e) gY I Z) ?_;by_cases q:y=d
  ·subst q;refine cK 5 I (gR ba (.bool true) (λ J _=>by go_simp)) ?_;refine cg Z ?_;have f:=aM t.o (aM s.o g);have m:=ai f;clear f x g;go_wp2_with fail;go_ret;exact⟨true,I,m.o⟩
  have himp:=yh q;refine cK 5 I (gR ba (.bool false) (λ J _=>by go_simp;exact himp)) ?_;refine cg Z ?_;have z:pw n w (.int .i64 ((k:Int)+1)) u0:=⟨k+1,cz,O,aM s.o g⟩;have D:=ai z;clear z x g himp q;go_wp2_with fail;go_roundw;case rel=>exact D.o
  case measure=>exact bS
 have K:decide (k<n)=false:=ax r;have L:decide ((k:Int)<(n:Int))=false:=aY;have f:=aM t.o a;have m:=ai f;clear f a;go_wp2_with fail;go_ret;exact⟨false,I,m.o⟩
theorem HY(cR S A n c l d)(a:∀i,S i->i<cR.heap.size)(m:bl da 9 cR S A n c l)(aJ:n<=10000):Calls Tryz.prog 93 #[.slice A n c,.agg (da d).toArray] cR (qw l [d] cR):=by show Calls Tryz.prog 93 #[.slice A n c,.agg #[d.proc,d.idx,d.af.kind,d.af.inc,d.af.aH,d.af.bI,d.af.bb,d.af.ord,d.af.val]] cR _;generalize b:cR.alloc (.cells #[d.proc,d.idx,d.af.kind,d.af.inc,d.af.aH,d.af.bI,d.af.bb,d.af.ord,d.af.val] 175)=w;have g:ab cR w:=b▸cx cR _;have f:aC w cR.heap.size 175 #[d.proc,d.idx,d.af.kind,d.af.inc,d.af.aH,d.af.bI,d.af.bb,d.af.ord,d.af.val]:=b▸cu cR _ _;have p:=m.aq (g.mono a);have y:=f.lt;obtain⟨v,k,t,h⟩:=cH p a f g;clear p a f g m;go_enter func93,ntmps93;go_upto_region 1 with fail;clear b;go_wp2_with(first|(refine ew I _ (.tmp 3) I cR.heap.size 175 [d.proc,d.idx,d.af.kind,d.af.inc,d.af.aH,d.af.bI,d.af.bb,d.af.ord,d.af.val] _ I t.o gY I Z ?_)|(refine gJ I 73 175 1 _ I ll _ [(0,.agg #[d.proc,d.idx,d.af.kind,d.af.inc,d.af.aH,d.af.bI,d.af.bb,d.af.ord,d.af.val])] I (ph _ _ _ _ _ _ _ _ _) ?_));have b:ab w (w.alloc (.cells #[d.proc,d.idx,d.af.kind,d.af.inc,d.af.aH,d.af.bI,d.af.bb,d.af.ord,d.af.val] 175)):=cx _ _;have g:aC (w.alloc (.cells #[d.proc,d.idx,d.af.kind,d.af.inc,d.af.aH,d.af.bI,d.af.bb,d.af.ord,d.af.val] 175)) w.heap.size 175 #[d.proc,d.idx,d.af.kind,d.af.inc,d.af.aH,d.af.bI,d.af.bb,d.af.ord,d.af.val]:=cu _ _ _;generalize w.alloc (.cells #[d.proc,d.idx,d.af.kind,d.af.inc,d.af.aH,d.af.bI,d.af.bb,d.af.ord,d.af.val] 175)=f at*;have z:=b.size;have cA:=g.lt;have s:=(v.o.aq (b.mono (λ i a=>an (k.o i a)))).more (T:=(·<f.heap.size)) (λ i a=>an (k.o i a));have p:bl da 9 f (·<f.heap.size) (some ⟨w.heap.size,0,none⟩) 1 1 [d]:=⟨I,dq _,by simp[maxLen],I,λ _=>⟨w.heap.size,0,I,cA,λ j u hu=>by rw[g.cell,gb,fg];exact(show(da d)[j]?=some u from ax hu)⟩⟩;refine(yO f _ _ _ n c 1 1 l [d] (λ i a=>a) s p O O).mono ?_;rintro e x ⟨r,h1,h2,bf,bc,rfl,aS,m⟩;have q:qw l [d] cR (.returned (.slice bf r.length bc)) x:=⟨r,h1,h2,bf,bc,I,aS.more (λ i a=>⟨cM a.1 h.o.size,a.2⟩),aM h.o (aM b m)⟩;have a:=ai q;clear q b g s p aS m h1 h2;go_wp2_with fail;go_ret;exact a.o
structure kX where
 proc:Int
 inc:Int
 idx:Int
def fL(x:kX):List Value:=[.int .i64 x.proc,.int .i64 x.inc,.int .i64 x.idx]
theorem qf(x):(fL x).length=3:=I
theorem xG(x):∀u∈fL x,u.oneCell'=true:=by intro u hu;simp[fL]at hu;rcases hu with h|h|h<;>subst h<;>rfl
theorem Gy:(Tryz.prog.info? 219).map (λ i=>(i.zero,i.size,i.bytes))=some (some (.agg Pz),3,24):=Z
theorem Cv(a b c:Int):fc Tryz.prog 219 1 [(0,.agg #[a,b,c])]=some #[.int .i64 a,.int .i64 b,.int .i64 c]:=Z
theorem Hk(cR S A)(n c:Nat)(l)(f li d:Int)(a:∀i,S i->i<cR.heap.size)(m:bl fL 3 cR S A n c l)(aJ:n<=1000000):Calls Tryz.prog 125 #[.slice A n c,f,.agg #[li,d]] cR (lU cR):=by
 generalize e:cR.alloc (.cells #[li,d] 42)=w;have h:ab cR w:=e▸cx cR _;have g:aC w cR.heap.size 42 #[li,d]:=e▸cu cR _ _;have r:=m.aq (h.mono a);have s:=g.lt;obtain⟨t,u,p,q⟩:=cH r a g h;clear r a g h m;go_enter func125,ntmps125;go_upto_region 1 with fail;clear e;go_wp2_with fail;go_loopw[7] (λ i wr=>pw n w i wr) (λ i _=>n- (intOf i).toNat);case atStart=>exact⟨0,I,ef _,aN _ _⟩
 obtain⟨k,rfl,E,a⟩:=hrel;have F:=a.size;by_cases m:k<n
 ·obtain⟨b,off,y,rfl,B,z,e⟩:=(t.o.aq (a.mono (λ i g=>an (u.o i g)))).at_ qf m;have v:decide (k<n)=true:=ax m;have x:decide ((k:Int)<(n:Int))=true:=aY;have C:(0:Int)<=k:=O;have D:(k:Int)<n:=O;have G:wr.cell? ⟨b,off+k*3,none⟩=some (.int .i64 y.proc):=by have:=e 0 _ I;simpa using this
  have H:wr.cell? ⟨b,off+k*3+1,none⟩=some (.int .i64 y.inc):=by have:=e 1 _ I;simpa using this
  have K:wr.cell? ⟨b,off+k*3+2,none⟩=some (.int .i64 y.idx):=by have:=e 2 _ I;simpa using this
  have L:wr.cell? ⟨cR.heap.size,0,none⟩=some (.int .i64 li):=by rw[(a.ay p.o s).cell];rfl
  have y1:wr.cell? ⟨cR.heap.size,1,none⟩=some (.int .i64 d):=by rw[(a.ay p.o s).cell];rfl
  have r:∀j,pw n w (.int .i64 ((k:Int)+1)) (wr.drewN j):=λ j=>⟨k+1,cz,O,aM a (ek _ _)⟩;have g:=cE (∀j,ab cR (wr.drewN j)) (λ j=>aM q.o (aM a (ek _ _)));have h:=ai r;clear r e z a;by_cases p1:y.proc=f
  ·have q1:(y.proc==f)=true:=ax p1;by_cases p2:li<=y.inc
   ·have q2:decide (li<=y.inc)=true:=ax p2;by_cases aK:y.idx<d
    ·have aI:decide (y.idx<d)=true:=ax aK;go_upto_region 4 with fail;go_quiet(fail);go_wp2_with fail;go_ret;exact⟨true,I,g.o _⟩
    have aI:decide (y.idx<d)=false:=ax aK;go_upto_region 4 with fail;go_quiet(fail);go_wp2_with fail;go_roundw;case rel=>exact h.o _
    case measure=>exact bS
   have q2:decide (li<=y.inc)=false:=ax p2;go_upto_region 4 with fail;go_quiet(fail);go_wp2_with fail;go_roundw;case rel=>exact h.o _
   case measure=>exact bS
  have q1:(y.proc==f)=false:=ax p1;go_upto_region 4 with fail;go_quiet(fail);go_wp2_with fail;go_roundw;case rel=>exact h.o _
  case measure=>exact bS
 have v:decide (k<n)=false:=ax m;have x:decide ((k:Int)<(n:Int))=false:=aY;have e:=aM q.o a;have g:=ai e;clear e a;go_wp2_with fail;go_ret;exact⟨false,I,g.o⟩
theorem Hv(cR:World)(a b:kX):Calls Tryz.prog 151 #[.agg #[a.proc,a.inc,a.idx],.agg #[b.proc,b.inc,b.idx]] cR (lU cR):=by
 generalize f:(cR.alloc (.cells #[a.proc,a.inc,a.idx] 219)).alloc (.cells #[b.proc,b.inc,b.idx] 219)=w;have g:ab cR w:=f▸eL (cx cR _) _;have d:aC w cR.heap.size 219 #[a.proc,a.inc,a.idx]:=f▸(cu cR _ _).alloc _;have e:aC w (cR.heap.size+1) 219 #[b.proc,b.inc,b.idx]:=f▸(by simpa using cu (cR.alloc _) _ _);have h:w.cell? ⟨cR.heap.size,0,none⟩=some (.int .i64 a.proc):=by rw[d.cell];rfl
 have i:w.cell? ⟨cR.heap.size,1,none⟩=some (.int .i64 a.inc):=by rw[d.cell];rfl
 have j:w.cell? ⟨cR.heap.size,2,none⟩=some (.int .i64 a.idx):=by rw[d.cell];rfl
 have k:w.cell? ⟨cR.heap.size+1,0,none⟩=some (.int .i64 b.proc):=by rw[e.cell];rfl
 have y1:w.cell? ⟨cR.heap.size+1,1,none⟩=some (.int .i64 b.inc):=by rw[e.cell];rfl
 have l:w.cell? ⟨cR.heap.size+1,2,none⟩=some (.int .i64 b.idx):=by rw[e.cell];rfl
 have c:=ai g;clear g d e;by_cases p1:b.proc=a.proc
 ·have q1:(b.proc==a.proc)=true:=ax p1;by_cases p2:a.inc<=b.inc
  ·have q2:decide (a.inc<=b.inc)=true:=ax p2;by_cases aK:b.idx<=a.idx
   ·have aI:decide (b.idx<=a.idx)=true:=ax aK;go_enter vf,vz;go_wp2_with fail;go_ret;first|exact⟨true,I,eL (cx _ _) _⟩|exact⟨true,I,c.o⟩
   have aI:decide (b.idx<=a.idx)=false:=ax aK;go_enter vf,vz;go_wp2_with fail;go_ret;first|exact⟨false,I,eL (cx _ _) _⟩|exact⟨false,I,c.o⟩
  have q2:decide (a.inc<=b.inc)=false:=ax p2;go_enter vf,vz;go_wp2_with fail;go_ret;first|exact⟨false,I,eL (cx _ _) _⟩|exact⟨false,I,c.o⟩
 have q1:(b.proc==a.proc)=false:=ax p1;go_enter vf,vz;go_wp2_with fail;go_ret;first|exact⟨false,I,eL (cx _ _) _⟩|exact⟨false,I,c.o⟩
theorem GR(cR S A B C n c h f j g l m dm bW li a k gm bV)(hm:m=[.int .i64 dm,.int .i64 bW,.int .i64 li,.int .i64 a,.int .i64 k,.int .i64 gm,.int .i64 bV,.slice B h f,.slice C j g])(r:∀i,S i->i<cR.heap.size)(s:bl fL 3 cR S A n c l)(aJ:n<=1000000):Calls Tryz.prog 83 #[.slice A n c,.agg m.toArray] cR (lU cR):=by
 subst hm;show Calls Tryz.prog 83 #[.slice A n c,.agg #[dm,bW,li,a,k,gm,bV,.slice B h f,.slice C j g]] cR _;generalize p:cR.alloc (.cells #[dm,bW,li,a,k,gm,bV,.slice B h f,.slice C j g] 136)=w;have q:ab cR w:=p▸cx cR _;have d:aC w cR.heap.size 136 #[dm,bW,li,a,k,gm,bV,.slice B h f,.slice C j g]:=p▸cu cR _ _;have t:=s.aq (q.mono r);have x:=d.lt;have y:w.cell? ⟨cR.heap.size,0,none⟩=some (.int .i64 dm):=by rw[d.cell];rfl
 have z:w.cell? ⟨cR.heap.size,2,none⟩=some (.int .i64 li):=by rw[d.cell];rfl
 have D:w.cell? ⟨cR.heap.size,3,none⟩=some (.int .i64 a):=by rw[d.cell];rfl
 have key:=Hk w S A n c l dm li a (λ i u=>an (r i u)) t aJ;obtain⟨u,v⟩:=ck q key;clear q key d t s;go_enter func83,ntmps83;go_upto_region 1 with fail;clear p;go_wp2_with fail;refine v.o.mono ?_;rintro e s ⟨b,rfl,p⟩;have d:=aM u.o p;have q:=ai d;clear d p;go_wp2_with fail;go_ret;exact⟨b,I,q.o⟩
def eG(w:World)(B:Nat->Prop)(gc r:Nat):Prop:=B gc/\(∀i,B i->i<w.heap.size)/\∃(A:Option Addr) (n c i:Nat),aC w gc 84 #[.slice A n c,i]/\i+r=n/\n<=4096/\∀j,j<n->∃a b,A=some ⟨a,b,none⟩/\a≠gc/\B a/\∃x:Nat,x<256/\w.cell? ⟨a,b+j,none⟩=some (.int .u8 x)
theorem eG.lt{w B gc r}(h:eG w B gc r):gc<w.heap.size:=h.2.1 _ h.1
theorem eG.same{w ae B gc r}(h:eG w B gc r)(k:aw B w ae):eG ae B gc r:=by obtain⟨h1,h2,A,n,c,i,f,a,aJ,av⟩:=h;refine⟨h1,λ i a=>cQ (h2 i a) k.size,A,n,c,i,k.ay f h1,a,aJ,λ j l=>?_⟩;obtain⟨d,b,e,aA,aS,x,m,g⟩:=av j l;exact⟨d,b,e,aA,aS,x,m,(k.cell (p:=⟨d,b+j,none⟩) aS).trans g⟩
theorem eG.aq{w ae B gc r}(h:eG w B gc r)(k:ab w ae):eG ae B gc r:=h.same (cS k h.2.1)
theorem eG.alloc{w B gc r}(h:eG w B gc r)(o):eG (w.alloc o) B gc r:=h.aq (cx w o)
theorem eG.write{w ae B gc r k}(h:eG w B gc r)(s:aw (·≠k) w ae)(b:¬B k):eG ae B gc r:=h.same (s.mono λ i a e=>b (e▸a))
theorem Ct(w B gc r)(h:eG w B gc r):Calls Tryz.prog 34 #[.pointer (some ⟨gc,0,none⟩)] w λ e ae=>e=.returned (.bool (decide (0<r)))/\∃k,ae=w.drewN k:=by obtain⟨_,_,A,n,c,i,a,f,aJ,av⟩:=h;have h0:=a.cell 0;have h1:=a.cell 1;simp at h0 h1;have b:decide (i<n)=decide (0<r):=aY;have d:=ai b;clear b a av f;go_enter func34,ntmps34;go_wp2;go_quiet(fail);go_wp2;go_ret;exact⟨by simp[<-d.o],_,I⟩
def Gx(n:Int)(B:Nat->Prop)(gc r:Nat)(w:World)(e:Ending)(ae:World):Prop:=∃v:Int,0<=v/\v<n/\e=.returned (.int .i64 v)/\eG ae B gc (r-1)/\cX gc w ae
theorem gx(w B)(gc r:Nat)(n:Int)(h:eG w B gc r)(aJ:1<=n)(K:n<=4611686018427387904):Calls Tryz.prog 23 #[.pointer (some ⟨gc,0,none⟩),n] w (Gx n B gc r w):=by
 have a:=Ct w B gc r h;have l:=ai a;clear a;have H:=ai h;obtain⟨C,t,A,len,c,i,a,d,hlen,av⟩:=h;by_cases L:0<r
 ·have dN:i<len:=O;obtain⟨f,b,rfl,E,G,x,M,u⟩:=av i dN;have h0:=a.cell 0;have h1:=a.cell 1;have f1:=a.frozen 1;simp at h0 h1;have z:decide (0<r)=true:=aY;have g:=λ k=>ai (aC.jO (w:=w.drewN k) a 1 (.int .i64 (i+1)));have N:∀k,((w.drewN k).setCell ⟨gc,1,none⟩ (.int .i64 (i+1))).cell? ⟨gc,0,none⟩=some (.slice (some ⟨f,b,none⟩) len c):=λ k=>by rw[(g k).o.cell];simp
  have q1:∀k,((w.drewN k).setCell ⟨gc,1,none⟩ (.int .i64 (i+1))).cell? ⟨gc,1,none⟩=some (.int .i64 (i+1)):=λ k=>by rw[(g k).o.cell];simp
  have q2:∀k,((w.drewN k).setCell ⟨gc,1,none⟩ (.int .i64 (i+1))).cell? ⟨f,b+i,none⟩=some (.int .u8 x):=λ k=>by rw[Eb _ _ _ _ (λ q=>E (mK Addr.block q).symm)];exact u
  obtain⟨s,p⟩:=ck d av;clear d av a;go_enter func23,ntmps23;go_wp2_with(go_at_call 34;refine(l.o).mono ?_;rintro e ae ⟨rfl,k,rfl⟩);go_quiet(fail);go_wp2;go_ret;refine⟨x%n,Int.emod_nonneg _ O,Int.emod_lt_of_pos _ O,I,⟨C,λ i d=>by simpa [World.setCell]using t i d,some ⟨f,b,none⟩,len,c,i+1,?_,an s.o,hlen,λ j D=>?_⟩,?_⟩
  ·exact(show aC _ gc 84 _ from(g k).o)
  ·obtain⟨m,b',e,aA,aS,y,F,v⟩:=p.o j D;refine⟨m,b',e,aA,aS,y,F,?_⟩;exact(Eb (w.drewN k) ⟨gc,1,none⟩ ⟨m,b'+j,none⟩ _ (λ q=>aA (mK Addr.block q).symm)).trans v
  exact mN (aw.setCell (mN (aN _ _) _) (λ h=>h.2 I) _) _
 have z:decide (0<r)=false:=aY;clear av a d;go_enter func23,ntmps23;go_wp2_with(go_at_call 34;refine(l.o).mono ?_;rintro e ae ⟨rfl,k,rfl⟩);go_ret;refine⟨0,O,O,I,?_,?_⟩
 ·have:=H.o;rw[show r-1=r from O];exact this
 exact mN (aN _ _) _
def Ie(B:Nat->Prop)(gc r:Nat)(w:World)(e:Ending)(ae:World):Prop:=∃v:Int,(Lit.int .i64 v).wf=true/\e=.returned (.int .i64 v)/\(∃dj,dj<=r-1/\eG ae B gc dj)/\cX gc w ae
theorem tX(w B gc r)(h:eG w B gc r):Calls Tryz.prog 48 #[.pointer (some ⟨gc,0,none⟩)] w (Ie B gc r w):=by
 have H:=ai h;clear h;go_enter func48,ntmps48;go_wp2_with fail;refine(gx _ B gc r 6 (H.o.alloc _) O O).mono ?_;rintro e E ⟨v,C,D,rfl,a,b⟩;obtain⟨i,l⟩:=ck a b;clear a b;by_cases a:v=5
 ·have u:(v==5)=true:=by simp[a]
  have z:=ai a;clear a;go_wp2_with fail;refine(gx _ B gc (r-1) 10 i.o O O).mono ?_;rintro e n ⟨k,m,t,rfl,b,c⟩;have g:=dM l.o c;have q:∃x:Int,(Lit.int .i64 x).wf=true/\n.cell? ⟨w.heap.size,k.toNat,none⟩=some (.int .i64 x):=by
   have dN:=H.o.lt;rw[g.cell (p:=⟨w.heap.size,k.toNat,none⟩) ⟨aT,aY⟩];obtain⟨j,rfl⟩:=Int.eq_ofNat_of_zero_le m;have s:j<10:=O;simp only[Int.toNat_natCast];match j,s with
   |0,_|1,_|2,_|3,_|4,_|5,_|6,_|7,_|8,_|9,_=>refine⟨_,?_,by simp;rfl⟩;decide
  obtain⟨x,y,A⟩:=q;obtain⟨f,d⟩:=ck g b;clear g c b;go_wp2;go_ret;exact⟨x,y,I,⟨r-1-1,O,d.o⟩,cX.tD f.o⟩
 have u:(v==5)=false:=by simp[a]
 clear a;go_wp2_with fail;refine(gx _ B gc (r-1) 12 i.o O O).mono ?_;rintro e n ⟨k,m,t,rfl,b,c⟩;have f:=ai (dM l.o c);have d:=ai b;clear c b;go_wp2;go_ret;exact⟨k-2,WalkArith.wf_i64 O,I,⟨r-1-1,O,d.o⟩,cX.tD f.o⟩
def rK(x:Int):List Value:=[.int .u8 x]
theorem Gi(x):(rK x).length=1:=I
def HC(S:Nat->Prop)(a:Nat)(w:World)(e:Ending)(ae:World):Prop:=∃r,r<=a/\e=.returned (.pointer (some ⟨w.heap.size,0,none⟩))/\eG ae (λ i=>S i\/i=w.heap.size) w.heap.size r/\ab w ae
theorem Mi(w A)(n c a:Nat)(zs S)(g:∀i,S i->i<w.heap.size)(d:bl rK 1 w S A n c zs)(l:∀x∈zs,0<=x/\x<256)(hm:a<=4096):Calls Tryz.prog 19 #[.slice A n c,a] w (HC S a w):=by
 obtain⟨p,q,f⟩:=cf d l g;have D:=d.2.1;have z:c<=9223372036854775807:=d.2.2.1;clear d l g;have key:∀(m:Nat),m<=n->m<=4096->eG (w.alloc (.cells #[.slice A m c,.int .i64 0] 84)) (λ i=>S i\/i=w.heap.size) w.heap.size m:=by intro m C t;have l:∀i,(S i\/i=w.heap.size)->i<w.heap.size+1:=λ i d=>d.elim (λ h=>an (f.o i h)) (λ h=>O);refine⟨.inr I,λ i d=>ax (l i d),A,m,c,0,cu _ _ _,O,t,λ j B=>?_⟩;obtain⟨b,off,x,e,g,u,s⟩:=p.o.at_ Gi (k:=j) O;have h0:=s 0 _ I;have v:=q.o x (eo u);obtain⟨y,rfl⟩:=qY v.1;have r:=f.o b g;refine⟨b,off,e,O,.inl g,y,O,?_⟩;rw[World.cell?_alloc_lt _ _ _ r];simpa using h0
 have d:=ai key;clear key;by_cases h:a<n
 ·have h1:(a:Int)<n:=O;have h2:(0:Int)<=a:=O;have aA:(a:Int)<=c:=O;go_enter func19,ntmps19;go_wp2_with fail;go_ret;exact⟨a,Nat.le_refl _,I,d.o a O hm,cx _ _⟩
 have h1:¬(a:Int)<n:=O;go_enter func19,ntmps19;go_wp2_with fail;go_ret;exact⟨n,O,I,d.o n (Nat.le_refl _) O,cx _ _⟩
inductive dU where
 |mk (op val:Int) (name:ByteArray) (slot size:Int) (args:List dU)
def dt(w:World)(S:Nat->Prop):Nat->List Value->dU->Prop
 |0,_,_=>False
 |n+1,cs,.mk op val name slot size args=>gX slot/\gX size/\∃(A:Option Addr) (m c:Nat),cs=[.int .i64 op,.int .i64 val,.string name,.int .i64 slot,.int .i64 size,.slice A m c]/\cN w S 6 (dt w S n) A m c args
theorem dt.aq{w ae S}(a:aw S w ae):∀(n:Nat) (cs:List Value) (e:dU),dt w S n cs e->dt ae S n cs e
 |0,_,_,h=>h
 |n+1,cs,.mk op val name slot size args,h=>by
  obtain⟨h1,h2,A,m,c,e,au⟩:=h
  exact⟨h1,h2,A,m,c,e,au.aq a (dt.aq a n)⟩
abbrev gi:=@dt.aq
theorem dt.more{w S T}(a:∀i,S i->T i):∀(n:Nat) (cs:List Value) (e:dU),dt w S n cs e->dt w T n cs e
 |0,_,_,h=>h
 |n+1,cs,.mk op val name slot size args,h=>by
  obtain⟨h1,h2,A,m,c,e,au⟩:=h
  exact⟨h1,h2,A,m,c,e,au.more a (dt.more a n)⟩
abbrev kP:=@dt.more
theorem dt.up{w S}:∀(n:Nat) (cs:List Value) (e:dU),dt w S n cs e->dt w S (n+1) cs e
 |n+1,cs,.mk op val name slot size args,h=>by
  obtain⟨h1,h2,A,m,c,e,au⟩:=h
  exact⟨h1,h2,A,m,c,e,au.more (λ _ h=>h) (dt.up n)⟩
def xy(w:World)(S:Nat->Prop)(n b off:Nat)(e:dU):Prop:=S b/\∃cs,dt w S n cs e/\∀j u,cs[j]?=some u->w.cell? ⟨b,off+j,none⟩=some u
theorem xy.aq{w ae S n b off e}(h:xy w S n b off e)(c:aw S w ae):xy ae S n b off e:=by obtain⟨a,cs,d,av⟩:=h;exact⟨a,cs,gi c n cs e d,λ j u hu=>(c.cell (p:=⟨b,off+j,none⟩) a).trans (av j u hu)⟩
structure eS where
 self:Int
 procs:Int
 aH:Int
 val:Int
def Bl(w:World)(S:Nat->Prop)(b:Nat)(v:eS):Prop:=S b/\w.cell? ⟨b,0,none⟩=some (.int .i64 v.self)/\w.cell? ⟨b,1,none⟩=some (.int .i64 v.procs)/\w.cell? ⟨b,2,none⟩=some (.int .i64 v.aH)/\w.cell? ⟨b,3,none⟩=some (.int .i64 v.val)
theorem Bl.aq{w ae S b v}(h:Bl w S b v)(c:aw S w ae):Bl ae S b v:=by obtain⟨a,h0,h1,h2,aA⟩:=h;exact⟨a,(c.cell (p:=⟨b,0,none⟩) a).trans h0,(c.cell (p:=⟨b,1,none⟩) a).trans h1,(c.cell (p:=⟨b,2,none⟩) a).trans h2,(c.cell (p:=⟨b,3,none⟩) a).trans aA⟩
def mO(cells:List Int)(k:Int):Int:=if k<0\/(cells.length:Int)<=k then 0 else cells.getD k.toNat 0
def uy(cells:List Int)(slot size i:Int):Int:=if i<0\/size<=i then 0 else mO cells (wrap64 (slot+i))
def eA(cells:List Int)(v:eS):Nat->dU->Int
 |0,_=>0
 |n+1,.mk op val _ slot size args=>
  if op=1 then val else if op=2 then mO cells slot else if op=3 then uy cells slot size (match args[0]? with|some a=>eA cells v n a|none=>0)
  else if op=4 then v.self else if op=5 then v.procs else if op=6 then v.aH else if op=7 then v.val else if op<8\/22<op then 0
  else ub op (match args[0]? with|some a=>eA cells v n a|none=>0) (match args[1]? with|some a=>eA cells v n a|none=>0)
def mu(cells:List Int)(v:eS)(n:Nat)(args:List dU)(i:Nat):Int:=match args[i]? with|some a=>eA cells v n a|none=>0
theorem dt.iC(n):Good (λ w S cs e=>dt w S n cs e):=⟨λ a h=>gi a n _ _ h,λ a h=>kP a n _ _ h⟩
theorem dt.len{w S}:∀{n:Nat} {cs:List Value} {e:dU},dt w S n cs e->cs.length=6
 |n+1,cs,.mk op val name slot size args,h=>by obtain⟨_,_,A,m,c,e,_⟩:=h;rw[e];rfl
theorem dt.one{w S}:∀{n:Nat} {cs:List Value} {e:dU},dt w S n cs e->cs.all (·.oneCell')=true
 |n+1,cs,.mk op val name slot size args,h=>by obtain⟨_,_,A,m,c,e,_⟩:=h;rw[e];rfl
theorem dt.nP{w S n cs e}(h:dt w S n cs e):∀u∈cs,u.oneCell'=true:=λ u hu=>AK.1 h.one u hu
theorem dt.open_{w S}:∀{n:Nat} {cs:List Value} {e:dU},dt w S n cs e->∃op val name slot size args A m c,e=.mk op val name slot size args/\cs=[.int .i64 op,.int .i64 val,.string name,.int .i64 slot,.int .i64 size,.slice A m c]
 |n+1,cs,.mk op val name slot size args,h=>by obtain⟨_,_,A,m,c,e,_⟩:=h;exact⟨op,val,name,slot,size,args,A,m,c,I,e⟩
abbrev kG:=@dt.open_
def dU.ei(k:Nat):Nat->dU->Prop
 |0,_=>True
 |n+1,.mk _ _ _ _ _ args=>args.length<=k/\∀a∈args,dU.ei k n a
theorem sF{k n op val name slot size}:dU.ei k (n+1) (.mk op val name slot size []):=⟨aT,aT⟩
theorem gX.zero:gX 0:=⟨O,O⟩
abbrev ib:=@gX.zero
theorem dt.leaf{w S}(n:Nat)(op val:Int)(name):dt w S (n+1) [op,val,.string name,.int .i64 0,.int .i64 0,.slice none 0 0] (.mk op val name 0 0 []):=⟨ib,ib,none,0,0,I,iv⟩
abbrev lR:=@dt.leaf
theorem rR{cs:List Value}(h:cs.length=6):(Tryz.prog.info? 99).map (·.size)=some cs.length:=by rw[h];kernel_rfl
def iY(w:World):Prop:=(∀i,i<3->∃s,w.cell? ⟨0,i,none⟩=some (.string s))/\(∀i,i<2->∃s,w.cell? ⟨1,i,none⟩=some (.string s))/\2<=w.heap.size
theorem iY.same{w ae T}(h:iY w)(k:aw T w ae)(h0:T 0)(b:T 1):iY ae:=by
 obtain⟨h1,h2,aA⟩:=h;refine⟨λ i a=>?_,λ i a=>?_,ik aA k.size⟩
 ·obtain⟨s,au⟩:=h1 i a;exact⟨s,(k.cell (p:=⟨_,i,none⟩) (by first|exact h0|exact b)).trans au⟩
 obtain⟨s,au⟩:=h2 i a;exact⟨s,(k.cell (p:=⟨_,i,none⟩) (by first|exact b|exact h0)).trans au⟩
theorem iY.aq{w ae}(h:iY w)(k:ab w ae):iY ae:=by have:=h.2.2;exact h.same k O O
theorem iY.qb{w B gc r}(h:iY w)(av:eG w B gc r):2<=gc:=by
 obtain⟨h1,h2,aA⟩:=h;obtain⟨_,_,A,n,c,i,b,_⟩:=av;have a:=b.cell 0;simp at a;rcases jB gc 2 with dN|d
 ·exfalso;have:gc=0\/gc=1:=O;rcases this with rfl|rfl
  ·obtain⟨s,au⟩:=h1 0 O;rw[a]at au;cases au
  obtain⟨s,au⟩:=h2 0 O;rw[a]at au;cases au
 exact d
theorem iY.only{w ae gc}(h:iY w)(a:2<=gc)(k:cX gc w ae):iY ae:=by have:=h.2.2;exact h.same k ⟨O,O⟩ ⟨O,O⟩
def BA(n:Nat)(B:Nat->Prop)(gc r:Nat)(w:World)(e:Ending)(ae:World):Prop:=∃(x:dU) (cs:List Value) (dj:Nat),e=.returned (.agg cs.toArray)/\dt ae (cP ae w.heap.size) n cs x/\dU.ei 2 n x/\dj<=r-1/\eG ae B gc dj/\cX gc w ae
def xc(n:Nat):Prop:=∀(w:World) (B:Nat->Prop) (gc r:Nat),eG w B gc r->iY w->Calls Tryz.prog 49 #[.pointer (some ⟨gc,0,none⟩),n] w (BA n B gc r w)
theorem pE{fn:Func}{p:Tmp}(c:fn.results=#[.cell p 99]){tmps:Array Value}{ae:World}{b:Nat}{cs:List Value}(hp:tmps.getD p undef=.pointer (some ⟨b,0,none⟩))(a:aC ae b 99 cs.toArray)(d:cs.length=6):(results fn tmps).run Tryz.prog ae=.ok (.agg cs.toArray) ae:=gP c _ _ _ ⟨b,0,none⟩ _ hp (ez cs _ a (λ j v e=>ax e) gd I (rR d))
def HJ(n:Nat)(b:World)(a:Value)(J:World):Prop:=∃k:Int,a=.int .i64 k/\0<=k/\k<12/\(n=0->k<8)/\b=J
def sb(a:World)(b:Bool)(s:Value)(J:World):Prop:=s=.bool b/\a=J
theorem xq(op val slot size:Int)(name A)(m c:Nat):fc Tryz.prog 99 1 [(0,.agg #[op,val,.string name,slot,size,.slice A m c])]=some #[.int .i64 op,.int .i64 val,.string name,.int .i64 slot,.int .i64 size,.slice A m c]:=Z
theorem Jo(op val slot size:Int)(name A)(m c:Nat)(d g f e:Int)(b bf)(a bc:Nat):fc Tryz.prog 99 2 [(0,.agg #[op,val,.string name,slot,size,.slice A m c]),(1,.agg #[d,g,.string b,f,e,.slice bf a bc])]=some #[.int .i64 op,.int .i64 val,.string name,.int .i64 slot,.int .i64 size,.slice A m c,.int .i64 d,.int .i64 g,.string b,.int .i64 f,.int .i64 e,.slice bf a bc]:=Z
theorem Le(n)(k6:n<=1000)(d:0<n->xc n):xc (n+1):=by
 intro w B gc r av a;have b3:=a.qb av;have h_:=av.lt;have c:=av.2.1;obtain⟨h8,g7,g',g6⟩:=cH d av a c;clear d av a c;go_enter func49,ntmps49;go_wp2_with fail;generalize a:w.alloc (.cells ak 99)=W;have c:aC W w.heap.size 99 _:=a▸cu _ _ _;have d:ab w W:=a▸ab.new _ _;have f':w.heap.size<W.heap.size:=c.lt;clear a;refine(gx W B gc r 12 (g7.o.aq d) O O).mono ?_;rintro e l ⟨v,t,u,rfl,q,a⟩;have l1:=a.size;have g:=a.ay c ⟨f',O⟩;have m:cX gc w l:=dM (d.only gc) a;have s:iY l:=g'.o.only b3 m;clear a c d;obtain⟨b,a⟩:=aW w.heap.size
 have fin:∀(d c:World) (f:Nat) (cs:List Value) (x:dU),eG d B gc f->f<=r-1->cX gc w d->aw (·≠b) d c->dt c (cP c b) (n+1) cs x->dU.ei 2 (n+1) x->BA (n+1) B gc r w (.returned (.agg cs.toArray)) c:=λ d c f cs x h1 h2 aA aS Y a0=>
  ⟨x,cs,f,I,by rw[<-a];exact Y,a0,h2,h1.write aS (λ f=>an (g6.o b f)),aA.write aS O⟩
 rw[<-a]at g f' h_;rw[<-a];obtain⟨a7,a6,a9,a8,a5,j4⟩:=er q g m s fin a;clear q g m s fin a;go_upto_region 2 with fail;go_cut[14]from 9 to 13 (λ a J=>sb l (decide (n=0)&&decide (8<=v)) a J);case first=>
  by_cases aJ:n=0
  ·subst aJ;go_wp2_with fail;go_meet;exact⟨aT,I⟩
  have h':decide (((n+1:Nat):Int)<=1)=false:=aY;go_wp2_with fail;go_meet;exact⟨by simp[aJ],I⟩
 obtain⟨rfl,rfl⟩:=hcut;go_upto_if 14 with fail;go_cut[5]from 14 to 16 (λ a J=>HJ n l a J);case first=>
  generalize g:(decide (n=0)&&decide (8<=v))=d';have c9:=ai g;clear g;cases d' with
  |true=>have V:n=0/\8<=v:=ax c9.o;have j5:=ai V.1;have j8:=V.2;clear V;go_wp2_with fail;go_meet;exact⟨v-8,cz,O,O,λ _=>O,I⟩
  |false=>
   have V:¬(n=0/\8<=v):=λ h=>by have:=c9.o;simp[h.1,h.2]at this
   have g1:=ai V;clear V;go_wp2_with fail;go_meet;exact⟨v,I,O,O,λ aJ=>an g1.o,I⟩
 obtain⟨k,rfl,j_,k0,a,rfl⟩:=hcut;have j6:=ai a;clear a t u;by_cases h2:k<2
 ·as_aux_lemma=>go_wp2_with fail;refine(gx l B gc _ 5 a7.o O O).mono ?_;rintro e d ⟨v2,b0,b6,rfl,y,f⟩;have q:=f.ay a6.o ⟨O,O⟩;have t:=dM a9.o f;obtain⟨a1,P,M⟩:=cf y t q;clear y t q f;go_wp2_with(refine db I _ (.tmp 4) (.tmp 22) I b 99 _ [.int .i64 1,v2,.string ⟨#[]⟩,.int .i64 0,.int .i64 0,.slice none 0 0] I I M.o I Z I ?_;intro c s a;have N:=ai s;have a2:=ai a;clear s a);exact dS (pE pd I N.o I) I (a5.o d c _ _ _ a1.o O P.o a2.o (lR n 1 v2 _) sF)
 by_cases aS:k<4
 ·as_aux_lemma=>go_wp2_with fail;refine(gx l B gc _ 3 a7.o O O).mono ?_;rintro e d ⟨v2,b0,b6,rfl,y,f⟩;have q:=f.ay a6.o ⟨O,O⟩;have c5:=f.size;have L:=a8.o.only b3 f;have t:=dM a9.o f;obtain⟨a1,P,M,b4⟩:=cH y t q L;clear y t q L f;obtain⟨j,rfl⟩:=Int.eq_ofNat_of_zero_le b0;obtain⟨b1,A⟩:=b4.o.1 j O;have e8:(0:Int)<=j:=O;have i7:(j:Int)<3:=O;go_wp2_with(refine db I _ (.tmp 4) (.tmp 30) I b 99 _ [.int .i64 2,.int .i64 0,.string b1,.int .i64 0,.int .i64 0,.slice none 0 0] I I M.o I Z I ?_;intro c s a;have N:=ai s;have a2:=ai a;clear s a);exact dS (pE pd I N.o I) I (a5.o d c _ _ _ a1.o O P.o a2.o (lR n 2 0 b1) sF)
 by_cases Y:k=4
 ·as_aux_lemma=>have i8:(k==4)=true:=ax Y;clear Y;go_wp2_with(refine db I _ (.tmp 4) (.tmp 34) I b 99 _ [.int .i64 7,.int .i64 0,.string ⟨#[]⟩,.int .i64 0,.int .i64 0,.slice none 0 0] I I a6.o I Z I ?_;intro c s a;have N:=ai s;have a2:=ai a;clear s a);exact dS (pE pd I N.o I) I (a5.o l c _ _ _ a7.o O a9.o a2.o (lR n 7 0 _) sF)
 have i8:(k==4)=false:=ax Y;by_cases a0:k=5
 ·as_aux_lemma=>
  have i9:(k==5)=true:=ax a0;clear a0;go_wp2_with fail;have u:ab l (l.alloc (.cells PK 3)):=ab.new _ _;refine(gx _ B gc _ 3 (a7.o.alloc _) O O).mono ?_;rintro e d ⟨v2,b0,b6,rfl,y,f⟩;have j9:gc<l.heap.size:=O;have q:=f.ay (a6.o.alloc (.cells PK 3)) ⟨aY,O⟩;have m:=f.ay (cu l 3 PK) ⟨aT,O⟩;have t:=dM a9.o (cX.tD f);obtain⟨j,rfl⟩:=Int.eq_ofNat_of_zero_le b0;have e9:∃op:Int,d.cell? ⟨l.heap.size,j,none⟩=some (.int .i64 op):=by
   rw[m.cell];match j,b6 with
   |0,_=>exact⟨_,I⟩
   |1,_=>exact⟨_,I⟩
   |2,_=>exact⟨_,I⟩
   |j+3,h=>omega
  obtain⟨op,e9⟩:=e9;have e8:(0:Int)<=j:=O;obtain⟨a1,P,M⟩:=cf y t q;clear y t q f m u;go_wp2_with(refine db I _ (.tmp 4) (.tmp 43) I b 99 _ [op,.int .i64 0,.string ⟨#[]⟩,.int .i64 0,.int .i64 0,.slice none 0 0] I I M.o I Z I ?_;intro c s a;have N:=ai s;have a2:=ai a;clear s a);exact dS (pE pd I N.o I) I (a5.o d c _ _ _ a1.o O P.o a2.o (lR n op 0 _) sF)
 have i9:(k==5)=false:=ax a0;go_upto_region 12 with fail;go_cut[44]from 45 to 50 (λ m J=>sb l (decide (k=6)||decide (n=0)) m J);case first=>
  by_cases U:k=6
  ·have b5:(k==6)=true:=ax U;have h5:=ai U;clear U Y a0;go_wp2_with fail;go_meet;exact⟨by simp[h5.o],I⟩
  have b5:(k==6)=false:=ax U;by_cases aJ:n=0
  ·subst aJ;go_wp2_with fail;go_meet;exact⟨aT,I⟩
  have h':decide (((n+1:Nat):Int)<=1)=false:=aY;go_wp2_with fail;go_meet;exact⟨by simp[U,aJ];omega,I⟩
 obtain⟨rfl,rfl⟩:=hcut;generalize g:(decide (k=6)||decide (n=0))=d';cases d' with
 |true=>have c9:=ai g;clear g Y a0;as_aux_lemma=>go_wp2_with fail;refine(gx l B gc _ 200 a7.o O O).mono ?_;rintro e d ⟨v2,b0,b6,rfl,y,f⟩;have q:=f.ay a6.o ⟨O,O⟩;have c5:=f.size;have L:=a8.o.only b3 f;have t:=dM a9.o f;obtain⟨a1,P,M,b4⟩:=cH y t q L;clear y t q L f;go_wp2_with(refine db I _ (.tmp 4) (.tmp 54) I b 99 _ [.int .i64 1,.int .i64 (1+v2),.string ⟨#[]⟩,.int .i64 0,.int .i64 0,.slice none 0 0] I I M.o I Z I ?_;intro c s a;have N:=ai s;have a2:=ai a;clear s a);exact dS (pE pd I N.o I) I (a5.o d c _ _ _ a1.o O P.o a2.o (lR n 1 (1+v2) _) sF)
 |false=>
  have b5:k≠6/\n≠0:=ax g;have j0:0<n:=O;have k8:((n+1:Nat):Int)-1=(n:Int):=O;have l0:IntKind.i64.wrap (n:Int)=n:=eI _ O;have c2:=ai (h8.o j0);have k5:(k==6)=false:=ax b5.1;clear g;by_cases U:k=7
  ·have i':(k==7)=true:=ax U;clear U Y a0 b5;as_aux_lemma=>go_upto_region 15 with fail;have u:True:=aD;refine eE 99 (λ _=>True) (λ J=>aw (λ i=>i<l.heap.size/\i≠gc/\i≠b) l J) Z aD (dx (aN _ _)) (λ _ g=>?_);refine ag 0 (h:=ag 4 (h:=ag 5 (h:=ag 6 (h:=?_))));refine aV 1 λ K m=>?_;go_simp;refine(gx _ B gc _ 2 (a7.o.aq (dx (aN _ _))) O O).mono ?_;rintro e d ⟨v2,b0,b6,rfl,y,f⟩;have c0:cX gc l d:=dM (dx (aN _ _)) f;have c5:=c0.size;have q:=c0.ay a6.o ⟨O,O⟩;have L:=a8.o.only b3 c0;have t:=dM a9.o c0;obtain⟨j,rfl⟩:=Int.eq_ofNat_of_zero_le b0;obtain⟨b1,z⟩:=a8.o.2.1 j O;have e8:(0:Int)<=j:=O;have i7:(j:Int)<2:=O;have j':=a8.o.2.2;have A:∀J,aw (λ i=>i<l.heap.size/\i≠gc/\i≠b) l J->J.cell? ⟨1,j,none⟩=some (.string b1):=λ J d_=>(d_.cell (p:=⟨1,j,none⟩) ⟨aY,aY,aY⟩).trans z;refine aZ m aD (bR g f (λ i a=>⟨a.1,a.2.1⟩)) ?_;clear m K u g;intro u g;clear z;refine ag 2 (h:=ag 3 (h:=?_));refine aV 7 λ K m=>?_;go_simp;refine(c2.o d B gc _ y L).mono ?_;rintro e c ⟨g0,e1,c7,rfl,C,a_,e_,a',z⟩;obtain⟨b8,b7⟩:=ck C a_;clear a_;obtain⟨E,H,D,G,F,b9,bY,X,Q,rfl,rfl⟩:=kG C;clear C;have j1:=z.size;have s:=z.ay q ⟨O,O⟩;have c1:=dM t z;refine aZ m aD (bR g z (λ i a=>⟨O,a.2.1⟩)) ?_;clear m K u g;intro u g;clear A;refine aV 8 λ K m=>?_;refine gl I _ _ _ _ I rj _ [(0,.agg #[E,H,.string D,G,F,.slice bY X Q])] I (xq _ _ _ _ _ _ _ _) ?_;refine aZ m aD (rM g (λ i a=>O) _) ?_;clear m K u g;intro u g;refine ag 9 (h:=?_);refine aV 10 λ K m=>?_;refine eD I _ _ _ I b 0 99 _ [.int .i64 3,.int .i64 0,.string b1,.int .i64 0,.int .i64 0,.slice (some ⟨c.heap.size,0,none⟩) 1 1] I I (s.alloc _) aT Z I ?_;intro A a3 a4;rw[eX [.int .i64 3,.int .i64 0,.string b1,.int .i64 0,.int .i64 0,.slice (some ⟨c.heap.size,0,none⟩) 1 1] ak I]at a3;have c6:=a4.size;simp at c6;have c3:aw (cP c d.heap.size) c A:=bR (cS (ab.new c _) (λ i (a:cP c d.heap.size i)=>a.2)) a4 (λ i a=>an a.1);have c4:=kP (T:=cP A b) (λ i (a:cP c d.heap.size i)=>⟨an a.1,an a.2⟩) _ _ _ (gi c3 _ _ _ b8.o);have b2:aC A c.heap.size 99 ([.int .i64 E,.int .i64 H,.string D,.int .i64 G,.int .i64 F,.slice bY X Q]).toArray:=a4.ay (cu c _ _) O;have b_:=a5.o _ A c7 [.int .i64 3,.int .i64 0,.string b1,.int .i64 0,.int .i64 0,.slice (some ⟨c.heap.size,0,none⟩) 1 1] (.mk 3 0 b1 0 0 [.mk E H D G F b9]) (a'.alloc _) O (cX.alloc c1 _) a4 ⟨ib,ib,_,1,1,I,cN.one (R:=λ w S cs e=>dt w S n cs e) b2 ⟨O,O⟩ I c4⟩ ⟨aT,ax b7.o⟩;refine aZ m aD (bR g a4 (λ i a=>a.2.2)) ?_;clear m K u g;intro u g;refine cg Z ?_;obtain⟨d9,c8⟩:=ck b_ a3;clear b_ a3 u g a4 c3 c4 b2 a' z c1 s q t f c0 y;go_wp2_with fail;exact dS (pE pd I c8.o I) I d9.o
  have i':(k==7)=false:=ax U;by_cases V:k=8
  ·have i_:(k==8)=true:=ax V;clear V U Y a0 b5;as_aux_lemma=>go_wp2_with fail;refine(gx l B gc _ 2 a7.o O O).mono ?_;rintro e d ⟨v2,b0,b6,rfl,y,f⟩;have q:=f.ay a6.o ⟨O,O⟩;have c5:=f.size;have L:=a8.o.only b3 f;have t:=dM a9.o f;obtain⟨a1,P,M,b4⟩:=cH y t q L;clear y t q L f;go_wp2_with fail;refine(c2.o d B gc _ a1.o b4.o).mono ?_;rintro e c ⟨g0,e1,c7,rfl,C,a_,e_,a',z⟩;obtain⟨b8,b7⟩:=ck C a_;clear a_;obtain⟨E,H,D,G,F,b9,bY,X,Q,rfl,rfl⟩:=kG C;clear C;have j1:=z.size;have s:=z.ay M.o ⟨O,O⟩;have c1:=dM P.o z;obtain⟨N,h6,c_⟩:=cf s c1 a';clear s c1 a' z;go_wp2_with(first|(refine gJ I _ _ _ _ I rj _ [(0,.agg #[E,H,.string D,G,F,.slice bY X Q])] I (xq _ _ _ _ _ _ _ _) ?_)|(refine db I _ (.tmp 4) (.tmp 79) I b 99 _ [.int .i64 (8+v2),.int .i64 0,.string ⟨#[]⟩,.int .i64 0,.int .i64 0,.slice (some ⟨c.heap.size,0,none⟩) 1 1] I I (N.o.alloc _) I Z I ?_;intro A a3 a4;have c8:=ai a3;have c0:=ai a4;clear a3 a4));have c6:=c0.o.size;simp at c6;have c3:aw (cP c d.heap.size) c A:=bR (cS (ab.new c _) (λ i (a:cP c d.heap.size i)=>a.2)) c0.o (λ i a=>an a.1);have c4:=kP (T:=cP A b) (λ i (a:cP c d.heap.size i)=>⟨an a.1,an a.2⟩) _ _ _ (gi c3 _ _ _ b8.o);have b2:aC A c.heap.size 99 #[E,H,.string D,G,F,.slice bY X Q]:=c0.o.ay (cu c _ _) O;exact dS (pE pd I c8.o I) I (a5.o _ A c7 [.int .i64 (8+v2),.int .i64 0,.string ⟨#[]⟩,.int .i64 0,.int .i64 0,.slice (some ⟨c.heap.size,0,none⟩) 1 1] (.mk (8+v2) 0 ⟨#[]⟩ 0 0 [.mk E H D G F b9]) (c_.o.alloc _) O (cX.alloc h6.o _) c0.o ⟨ib,ib,_,1,1,I,cN.one (R:=λ w S cs e=>dt w S n cs e) (cs:=[.int .i64 E,.int .i64 H,.string D,.int .i64 G,.int .i64 F,.slice bY X Q]) b2 ⟨O,O⟩ I c4⟩ ⟨aT,ax b7.o⟩)
  have i_:(k==8)=false:=ax V;clear V U Y a0 b5;as_aux_lemma=>go_wp2_with fail;refine(c2.o l B gc _ a7.o a8.o).mono ?_;rintro e d ⟨g0,e1,c7,rfl,C,a_,e_,a',z⟩;obtain⟨b8,b7⟩:=ck C a_;clear a_;obtain⟨E,H,D,G,F,b9,bY,X,Q,rfl,rfl⟩:=kG C;clear C;have c5:=z.size;have q:=z.ay a6.o ⟨O,O⟩;have L:=a8.o.only b3 z;have t:=dM a9.o z;obtain⟨M,b4,P,c_⟩:=cH q L t a';clear q L t a' z;go_upto_region 19 with(refine db rfl _ (.tmp 6) (.tmp 83) rfl d.heap.size 99 _ [E,H,.string D,G,F,.slice bY X Q] rfl rfl (aC.new _ _ _) rfl Z rfl ?_;intro U f q;have g5:=ai f;have y:Hi (ab d U):=ai (ab.write (ab.new d _) q (Nat.le_refl _));have l5:d.heap.size<U.heap.size:=f.lt;clear f q);have u:True:=aD;have f:=y.o.ay M.o O;have q:=c_.o.aq y.o;have s:=b4.o.aq y.o;obtain⟨g4,g8,g_⟩:=cf f q s;clear f q s;refine eE 99 (λ _=>True) (λ J=>aw (λ i=>i<U.heap.size/\i≠gc/\i≠b) U J) Z aD (dx (aN _ _)) (λ _ g=>?_);refine ag 0 (h:=ag 4 (h:=ag 5 (h:=ag 6 (h:=?_))));refine cK 3 I (iS ba _ _ I d.heap.size 0 99 _ [E,H,.string D,G,F,.slice bY X Q] _ I (λ J d_=>d_.ay g5.o ⟨O,O,O⟩) (λ j v f=>ax f) gd I Z) ?_;refine aV 1 λ K m=>?_;go_simp;refine(gx _ B gc _ 13 (g8.o.aq (dx (aN _ _))) O O).mono ?_;rintro e A ⟨t,k9,k',rfl,e5,a4⟩;have z:cX gc U A:=dM (dx (aN _ _)) a4;have c6:=z.size;have a3:=z.ay g4.o ⟨O,O⟩;have e7:=g_.o.only b3 z;refine aZ m aD (bR g a4 (λ i a=>⟨a.1,a.2.1⟩)) ?_;clear m K u g;intro u g;have k_:IntKind.i64.wrap (10+t)=10+t:=eI _ O;refine ag 2 (h:=?_);refine aV 7 λ K m=>?_;go_simp;refine(c2.o A B gc _ e5 e7).mono ?_;rintro e f ⟨l7,j7,j3,rfl,s,q,k7,e6,L⟩;obtain⟨h7,g9⟩:=ck s q;clear q;obtain⟨a_,d_,a',c1,b5,h9,cC,f_,e0,rfl,rfl⟩:=kG s;clear s;have l6:=L.size;have a0:=dM z L;have e4:=L.ay a3 ⟨O,O⟩;refine aZ m aD (bR g L (λ i a=>⟨O,a.2.1⟩)) ?_;clear m K u g;intro u g;refine aV 8 λ K m=>?_;refine gl I _ _ _ _ I rj _ [(0,.agg #[E,H,.string D,G,F,.slice bY X Q]),(1,.agg #[a_,d_,.string a',c1,b5,.slice cC f_ e0])] I (Jo _ _ _ _ _ _ _ _ _ _ _ _ _ _ _ _) ?_;refine aZ m aD (rM g (λ i a=>O) _) ?_;clear m K u g;intro u g;refine ag 9 (h:=?_);refine aV 10 λ K m=>?_;refine eD I _ _ _ I b 0 99 _ [.int .i64 (10+t),.int .i64 0,.string ⟨#[]⟩,.int .i64 0,.int .i64 0,.slice (some ⟨f.heap.size,0,none⟩) 2 2] I I (e4.alloc _) aT Z I ?_;intro V Y q;rw[eX [.int .i64 (10+t),.int .i64 0,.string ⟨#[]⟩,.int .i64 0,.int .i64 0,.slice (some ⟨f.heap.size,0,none⟩) 2 2] ak I]at Y;have j2:=q.size;simp at j2;have e2:aw (cP d l.heap.size) d V:=bR (bR (bR (cS y.o (λ i (a:cP d l.heap.size i)=>a.2)) a0 (λ i a=>⟨an a.2,an a.1⟩)) (ab.new f _) (λ i a=>an a.2)) q (λ i a=>an a.1);have e3:aw (cP f A.heap.size) f V:=bR (cS (ab.new f _) (λ i (a:cP f A.heap.size i)=>a.2)) q (λ i a=>an a.1);have C:=kP (T:=cP V b) (λ i (a:cP d l.heap.size i)=>⟨an a.1,an a.2⟩) _ _ _ (gi e2 _ _ _ b8.o);have s:=kP (T:=cP V b) (λ i (a:cP f A.heap.size i)=>⟨an a.1,an a.2⟩) _ _ _ (gi e3 _ _ _ h7.o);have b2:=q.ay (cu f 99 (([.int .i64 E,.int .i64 H,.string D,.int .i64 G,.int .i64 F,.slice bY X Q]:List Value)++([.int .i64 a_,.int .i64 d_,.string a',.int .i64 c1,.int .i64 b5,.slice cC f_ e0]:List Value)).toArray) O;have b_:=a5.o _ V j3 [.int .i64 (10+t),.int .i64 0,.string ⟨#[]⟩,.int .i64 0,.int .i64 0,.slice (some ⟨f.heap.size,0,none⟩) 2 2] (.mk (10+t) 0 ⟨#[]⟩ 0 0 [.mk E H D G F b9,.mk a_ d_ a' c1 b5 h9]) (e6.alloc _) O (cX.alloc (dM (oJ P.o y.o) a0) _) q ⟨ib,ib,_,2,2,I,cN.two (R:=λ w S cs e=>dt w S n cs e) b2 ⟨O,O⟩ I I C s⟩ ⟨aT,by simpa using ⟨b7.o,g9.o⟩⟩;refine aZ m aD (bR g q (λ i a=>a.2.2)) ?_;clear m K u g;intro u g;refine cg Z ?_;obtain⟨d9,a⟩:=ck b_ Y;clear b_ Y u g q e2 e3 C s b2 e6 a0 L e4 a3 z a4 e5 e7;go_wp2_with fail;exact dS (pE pd I a.o I) I d9.o
theorem oI:∀n,n<=1000->0<n->xc n
 |0,_,h=>absurd h O
 |n+1,h,_=>Le n O (λ aJ=>oI n O aJ)
inductive cd where
 |mk (kind:Int) (name:ByteArray) (slot size:Int) (place value:dU) (body fJ:List cd)
def JA(kind:Int)(name:ByteArray)(slot size:Int)(a vs:List Value)(b e:Value):List Value:=.int .i64 kind::.string name::.int .i64 slot::.int .i64 size::(a++(vs++[b,e]))
def cU(w:World)(S:Nat->Prop):Nat->List Value->cd->Prop
 |0,_,_=>False
 |n+1,cs,.mk kind name slot size place value body fJ=>gX slot/\gX size/\∃(e vs:List Value) (A a:Option Addr) (m c d b:Nat),cs=JA kind name slot size e vs (.slice A m c) (.slice a d b)/\dt w S 5 e place/\dt w S 5 vs value/\cN w S 18 (cU w S n) A m c body/\cN w S 18 (cU w S n) a d b fJ
theorem cU.aq{w ae S}(a:aw S w ae):∀(n:Nat) (cs:List Value) (e:cd),cU w S n cs e->cU ae S n cs e
 |0,_,_,h=>h
 |n+1,cs,.mk kind name slot size place value body fJ,h=>by
  obtain⟨h1,h2,j,vs,A,b,m,c,i,d,e,hp,g,f,he⟩:=h
  exact⟨h1,h2,j,vs,A,b,m,c,i,d,e,gi a _ _ _ hp,gi a _ _ _ g,f.aq a (cU.aq a n),he.aq a (cU.aq a n)⟩
abbrev fa:=@cU.aq
theorem cU.more{w S T}(a:∀i,S i->T i):∀(n:Nat) (cs:List Value) (e:cd),cU w S n cs e->cU w T n cs e
 |0,_,_,h=>h
 |n+1,cs,.mk kind name slot size place value body fJ,h=>by
  obtain⟨h1,h2,k,vs,A,b,m,c,j,d,e,hp,g,f,he⟩:=h
  exact⟨h1,h2,k,vs,A,b,m,c,j,d,e,kP a _ _ _ hp,kP a _ _ _ g,f.more a (cU.more a n),he.more a (cU.more a n)⟩
abbrev fP:=@cU.more
theorem cU.up{w S}:∀(n:Nat) (cs:List Value) (e:cd),cU w S n cs e->cU w S (n+1) cs e
 |n+1,cs,.mk kind name slot size place value body fJ,h=>by
  obtain⟨h1,h2,i,vs,A,a,m,c,g,b,e,hp,f,d,he⟩:=h
  exact⟨h1,h2,i,vs,A,a,m,c,g,b,e,hp,f,d.more (λ _ h=>h) (cU.up n),he.more (λ _ h=>h) (cU.up n)⟩
theorem cU.iC(n):Good (λ w S cs e=>cU w S n cs e):=⟨λ a h=>fa a n _ _ h,λ a h=>fP a n _ _ h⟩
theorem dt.upto{w S cs e}:∀{n m:Nat},n<=m->dt w S n cs e->dt w S m cs e
 |n,0,hm,h=>by have e:n=0:=O;rw[e]at h;exact h.elim
 |n,m+1,hm,h=>by
  rcases Nat.lt_or_ge n (m+1)with dN|a
  ·exact dt.up _ _ _ (dt.upto O h)
  ·obtain rfl:n=m+1:=O
   exact h
theorem dU.BV{k w S}:∀{n m:Nat} {cs:List Value} {e:dU},dt w S n cs e->dU.ei k n e->dU.ei k m e
 |n+1,0,cs,.mk op val name slot size args,h,d=>trivial
 |n+1,m+1,cs,.mk op val name slot size args,h,d=>by
  obtain⟨_,_,A,o,c,e,au⟩:=h
  refine⟨d.1,λ a l=>?_⟩
  obtain⟨j,f,rfl⟩:=List.mem_iff_getElem.1 l
  obtain⟨_,_,cs',g,_,_,b,i,_⟩:=au.at_ (k:=j) (an au.1)
  rw[List.getElem?_eq_getElem f]at b
  injection b with b
  rw[b]
  refine dU.BV i (d.2 g ?_)
  rw[<-b]
  exact List.getElem_mem f
theorem cU.open_{w:World}{S:Nat->Prop}:∀{n:Nat} {cs:List Value} {s:cd},cU w S n cs s->∃(kind:Int) (name:ByteArray) (slot size:Int) (place value:dU) (body fJ:List cd) (l o:Int) (j:ByteArray) (g q:Int) (b:Option Addr) (p1 q1:Nat) (cI p:Int) (k:ByteArray) (cA r:Int) (d:Option Addr) (p2 q2:Nat) (A a:Option Addr) (m c i f:Nat),
      s=.mk kind name slot size place value body fJ/\cs=[.int .i64 kind,.string name,.int .i64 slot,.int .i64 size,.int .i64 l,.int .i64 o,.string j,.int .i64 g,.int .i64 q,.slice b p1 q1,.int .i64 cI,.int .i64 p,.string k,.int .i64 cA,.int .i64 r,.slice d p2 q2,.slice A m c,.slice a i f]/\
      dt w S 5 [l,o,.string j,g,q,.slice b p1 q1] place/\dt w S 5 [cI,p,.string k,cA,r,.slice d p2 q2] value/\cN w S 18 (cU w S (n-1)) A m c body/\cN w S 18 (cU w S (n-1)) a i f fJ
 |n+1,cs,.mk kind name slot size place value body fJ,h=>by
  obtain⟨h1,h2,y,vs,A,a,m,c,i,f,e,hp,t,u,he⟩:=h
  obtain⟨l,o,j,g,q,v,b,p1,q1,-,rfl⟩:=kG hp
  obtain⟨cI,p,k,cA,r,x,d,p2,q2,-,rfl⟩:=kG t
  exact⟨kind,name,slot,size,place,value,body,fJ,l,o,j,g,q,b,p1,q1,cI,p,k,cA,r,d,p2,q2,A,a,m,c,i,f,I,e,hp,t,u,he⟩
abbrev sq:=@cU.open_
theorem cU.len{w S n cs s}(h:cU w S n cs s):cs.length=18:=by obtain⟨_,_,_,_,_,_,_,_,_,_,_,_,_,_,_,_,_,_,_,_,_,_,_,_,_,_,_,_,_,_,_,e,_⟩:=sq h;rw[e];rfl
theorem cU.nP{w S n cs s}(h:cU w S n cs s):∀u∈cs,u.oneCell'=true:=by obtain⟨_,_,_,_,_,_,_,_,_,_,_,_,_,_,_,_,_,_,_,_,_,_,_,_,_,_,_,_,_,_,_,e,_⟩:=sq h;rw[e];exactλ u hu=>AK.1 (show List.all _ (·.oneCell')=true from I) u hu
def cd.ei(k:Nat):Nat->cd->Prop
 |0,_=>True
 |n+1,.mk _ _ _ _ place value body fJ=>dU.ei k 5 place/\dU.ei k 5 value/\body.length<=k/\fJ.length<=k/\(∀a∈body,cd.ei k n a)/\(∀a∈fJ,cd.ei k n a)
def kj:dU:=.mk 0 0 ⟨#[]⟩ 0 0 []
theorem qn{w S}(n):dt w S (n+1) [.int .i64 0,.int .i64 0,.string ⟨#[]⟩,.int .i64 0,.int .i64 0,.slice none 0 0] kj:=lR n 0 0 ⟨#[]⟩
theorem vp(k n):dU.ei k n kj:=by
 cases n with
 |zero=>trivial
 |succ n=>exact sF
structure iO where
 kind:Int
 dst:Int
 val:Int
def ql(e:iO):List Value:=[.int .i64 e.kind,.int .i64 e.dst,.int .i64 e.val]
theorem LU(x):(ql x).length=3:=I
theorem Hw(d):∀u∈ql d,u.oneCell'=true:=by intro u hu;simp[ql]at hu;rcases hu with h|h|h<;>subst h<;>rfl
structure dH where
 cells:List Int
 dh:List iO
 fuel:Nat
inductive Task where
 |list (l:List cd)
 |kr (s:cd)
 |loop (s:cd)
inductive lp where
 |done (s:dH)
 |dead (s:dH)
def lp.st:lp->dH
 |.done s=>s
 |.dead s=>s
def cd.kind:cd->Int|.mk k _ _ _ _ _ _ _=>k
def cd.slot:cd->Int|.mk _ _ k _ _ _ _ _=>k
def cd.size:cd->Int|.mk _ _ _ k _ _ _ _=>k
def cd.place:cd->dU|.mk _ _ _ _ e _ _ _=>e
def cd.value:cd->dU|.mk _ _ _ _ _ e _ _=>e
def cd.body:cd->List cd|.mk _ _ _ _ _ _ b _=>b
def cd.fJ:cd->List cd|.mk _ _ _ _ _ _ _ b=>b
def dH.gE(s:dH):dH:={s with fuel:=s.fuel-1}
def dH.set(s:dH)(k x:Int):dH:=if 0<=k/\k<s.cells.length then {s with cells:=s.cells.set k.toNat x}else s
def dH.lY(s:dH)(e:iO):dH:=if s.dh.length<8 then {s with dh:=s.dh++[e]}else s
def oD(v:eS)(s:cd)(m:dH):dH:=if s.kind=1 then m.set s.slot (eA m.cells v 5 s.value)else if s.kind=2 then(if 0<=eA m.cells v 5 s.place/\eA m.cells v 5 s.place<s.size then m.set (wrap64 (s.slot+eA m.cells v 5 s.place)) (eA m.cells v 5 s.value)else m)else if s.kind=5 then(if 0<=eA m.cells v 5 s.place/\eA m.cells v 5 s.place<v.procs/\eA m.cells v 5 s.place≠v.self then m.lY ⟨1,eA m.cells v 5 s.place,eA m.cells v 5 s.value⟩else m)else if s.kind=6 then m.lY ⟨2,0,eA m.cells v 5 s.value⟩else m
inductive eu (v:eS):Task->dH->lp->Prop
 |nil (m:dH):eu v (.list []) m (.done m)
 |cons {s:cd} {l:List cd} {m cL:dH} {r:lp} (h1:eu v (.kr s) m (.done cL)) (h2:eu v (.list l) cL r):eu v (.list (s::l)) m r
 |sj {s:cd} {l:List cd} {m cL:dH} (h1:eu v (.kr s) m (.dead cL)):eu v (.list (s::l)) m (.dead cL)
 |empty {s:cd} {m:dH} (h:m.fuel=0):eu v (.kr s) m (.dead m)
 |simple {s:cd} {m:dH} (h:0<m.fuel) (aA:s.kind≠3) (aS:s.kind≠4):eu v (.kr s) m (.done (oD v s m.gE))
 |mM {s:cd} {m:dH} {r:lp} (h:0<m.fuel) (aA:s.kind=3) (h1:eu v (.list (if eA m.cells v 5 s.value=0 then s.fJ else s.body)) m.gE r):eu v (.kr s) m r
 |mY {s:cd} {m:dH} {r:lp} (h:0<m.fuel) (aS:s.kind=4) (h1:eu v (.loop s) m.gE r):eu v (.kr s) m r
 |stop {s:cd} {m:dH} (h:eA m.cells v 5 s.value=0):eu v (.loop s) m (.done m)
 |pe {s:cd} {m cL:dH} (h:eA m.cells v 5 s.value≠0) (h1:eu v (.list s.body) m (.dead cL)):eu v (.loop s) m (.dead cL)
 |out {s:cd} {m cL:dH} (h:eA m.cells v 5 s.value≠0) (h1:eu v (.list s.body) m (.done cL)) (h0:cL.fuel=0):eu v (.loop s) m (.dead cL)
 |again {s:cd} {m cL:dH} {r:lp} (h:eA m.cells v 5 s.value≠0) (h1:eu v (.list s.body) m (.done cL)) (h0:0<cL.fuel) (h2:eu v (.loop s) cL.gE r):eu v (.loop s) m r
theorem eu.az{v t m r}(h:eu v t m r):∀{dj:lp},eu v t m dj->r=dj:=by
 induction h with
 |nil m=>intro dj b;cases b;rfl
 |cons h1 h2 d i=>
  intro dj b;cases b with
  |cons a bX=>have e:=d a;injection e with e;subst e;exact i bX
  |sj a=>have e:=d a;cases e
 |sj h1 d=>
  intro dj b;cases b with
  |cons a bX=>have e:=d a;cases e
  |sj a=>exact d a
 |empty h0=>
  intro dj b;cases b with
  |empty _=>rfl
  |simple h _ _=>omega
  |mM h _ _=>omega
  |mY h _ _=>omega
 |simple h aA aS=>
  intro dj b;cases b with
  |empty h0=>omega
  |simple _ _ _=>rfl
  |mM _ g3 _=>exact absurd g3 aA
  |mY _ f _=>exact absurd f aS
 |mM h aA h1 c=>
  intro dj b;cases b with
  |empty h0=>omega
  |simple _ g3 _=>exact absurd aA g3
  |mM _ _ a=>exact c a
  |mY _ f _=>omega
 |mY h aS h1 c=>
  intro dj b;cases b with
  |empty h0=>omega
  |simple _ _ f=>exact absurd aS f
  |mM _ g3 _=>omega
  |mY _ _ a=>exact c a
 |stop h=>
  intro dj b;cases b with
  |stop _=>rfl
  |pe g _=>exact absurd h g
  |out g _ _=>exact absurd h g
  |again g _ _ _=>exact absurd h g
 |pe h h1 c=>
  intro dj b;cases b with
  |stop g=>exact absurd g h
  |pe _ a=>exact c a
  |out _ a _=>have e:=c a;cases e
  |again _ a _ _=>have e:=c a;cases e
 |out h h1 h0 c=>
  intro dj b;cases b with
  |stop g=>exact absurd g h
  |pe _ a=>have e:=c a;cases e
  |out _ a _=>have e:=c a;injection e with e;subst e;rfl
  |again _ a j _=>have e:=c a;injection e with e;subst e;omega
 |again h h1 h0 h2 d i=>
  intro dj b;cases b with
  |stop g=>exact absurd g h
  |pe _ a=>have e:=d a;cases e
  |out _ a j=>have e:=d a;injection e with e;subst e;omega
  |again _ a _ bX=>have e:=d a;injection e with e;subst e;exact i bX
theorem dH.vN(m:dH)(k x:Int):(m.set k x).cells.length=m.cells.length/\(m.set k x).dh=m.dh/\(m.set k x).fuel=m.fuel:=by
 unfold dH.set;split
 ·exact⟨aT,I,I⟩
 exact⟨I,I,I⟩
theorem dH.BD(m:dH)(e:iO):(m.lY e).cells=m.cells/\(m.lY e).fuel=m.fuel/\(m.dh.length<=8->(m.lY e).dh.length<=8):=by
 unfold dH.lY;split
 ·exact⟨I,I,λ _=>aY⟩
 exact⟨I,I,λ h=>h⟩
def lT(m a:dH):Prop:=a.cells.length=m.cells.length/\(m.dh.length<=8->a.dh.length<=8)/\a.fuel<=m.fuel
theorem lT.trans{a b c}(h:lT a b)(k:lT b c):lT a c:=⟨k.1.trans h.1,λ e=>k.2.1 (h.2.1 e),ik k.2.2 h.2.2⟩
theorem lT.refl(a):lT a a:=⟨I,λ h=>h,dq _⟩
abbrev qR:=@lT.refl
theorem lT.gE(a):lT a a.gE:=⟨I,λ h=>h,by simp[dH.gE]⟩
abbrev qd:=@lT.gE
theorem Mb(v s m):lT m (oD v s m):=by
 unfold oD;split
 ·have:=m.vN s.slot (eA m.cells v 5 s.value);exact⟨this.1,λ h=>by rw[this.2.1];exact h,by rw[this.2.2];exact dq _⟩
 split
 ·split
  ·have:=m.vN (wrap64 (s.slot+eA m.cells v 5 s.place)) (eA m.cells v 5 s.value);exact⟨this.1,λ h=>by rw[this.2.1];exact h,by rw[this.2.2];exact dq _⟩
  exact qR _
 split
 ·split
  ·have:=m.BD ⟨1,eA m.cells v 5 s.place,eA m.cells v 5 s.value⟩;exact⟨by rw[this.1],this.2.2,by rw[this.2.1];exact dq _⟩
  exact qR _
 split
 ·have:=m.BD ⟨2,0,eA m.cells v 5 s.value⟩;exact⟨by rw[this.1],this.2.2,by rw[this.2.1];exact dq _⟩
 exact qR _
theorem eu.fit{v t m r}(h:eu v t m r):lT m r.st:=by
 induction h with
 |nil m=>exact qR _
 |cons _ _ i1 i2=>exact i1.trans i2
 |sj _ i1=>exact i1
 |empty _=>exact qR _
 |simple _ _ _=>exact(qd _).trans (Mb _ _ _)
 |mM _ _ _ i=>exact(qd _).trans i
 |mY _ _ _ i=>exact(qd _).trans i
 |stop _=>exact qR _
 |pe _ _ i=>exact i
 |out _ _ _ i=>exact i
 |again _ _ _ _ i1 i2=>exact(lT.trans i1 (qd _)).trans i2
theorem eu.snoc{v a s m cL r}(h1:eu v (.list a) m (.done cL))(h2:eu v (.kr s) cL r):(∀c,r=.done c->eu v (.list (a++[s])) m (.done c))/\(∀c b,r=.dead c->eu v (.list (a++s::b)) m (.dead c)):=by
 induction a generalizing m with
 |nil=>cases h1;exact⟨λ c e=>by subst e;exact .cons h2 (.nil _),λ c b e=>by subst e;exact .sj h2⟩
 |cons x a f=>
  cases h1 with
  |cons d bX=>have:=f bX;exact⟨λ c e=>.cons d (this.1 c e),λ c b e=>.cons d (this.2 c b e)⟩
structure eb where
 init:List Int
 start:List cd
 message:List cd
 tick:List cd
 input:List cd
noncomputable def ij (v:eS)(body:List cd)(cells:List Int):dH:=open Classical in if h:∃r,eu v (.list body) ⟨cells,[],400⟩ r then h.choose.st else ⟨cells,[],0⟩
theorem wi{v body cells r}(h:eu v (.list body) ⟨cells,[],400⟩ r):ij v body cells=r.st:=by have a:∃r,eu v (.list body) ⟨cells,[],400⟩ r:=⟨r,h⟩;unfold ij;rw[dif_pos a];exact mK lp.st (a.choose_spec.az h)
theorem rA(v body cells):(ij v body cells).cells.length=cells.length/\(ij v body cells).dh.length<=8:=by
 by_cases a:∃r,eu v (.list body) ⟨cells,[],400⟩ r
 ·obtain⟨r,h⟩:=a;rw[wi h];have:=h.fit;exact⟨this.1,this.2.1 aT⟩
 unfold ij;rw[dif_neg a];exact⟨I,aT⟩
def ix(index:Int):Int->List iO->List ev
 |_,[]=>[]
 |ord,e::l=>if e.kind=1 then ⟨index,ord,e.dst,e.val⟩::ix index (ord+1) l else ix index ord l
def iP(index:Int):List iO->List nL
 |[]=>[]
 |e::l=>if e.kind=1 then iP index l else ⟨index,e.val⟩::iP index l
noncomputable def jw (v:eS)(body:List cd)(cells:List Int)(index:Int)(s:de):de:=
 {s with cells:=(ij v body cells).cells,cD:=s.cD++ix index 0 (ij v body cells).dh,outs:=s.outs++iP index (ij v body cells).dh}
noncomputable def ky (c:eb)(self procs:Int):de:=jw ⟨self,procs,self,0⟩ c.start c.init 0 ⟨[],[],[],[]⟩
noncomputable def gC (c:eb)(self procs:Int)(s:de)(e:bz):de:=
 if e.kind=1 then jw ⟨self,procs,e.aH,e.val⟩ c.message s.cells (s.events.length+1) {s with events:=s.events++[e]}
 else if e.kind=2 then jw ⟨self,procs,self,e.val⟩ c.tick s.cells (s.events.length+1) {s with events:=s.events++[e]}
 else if e.kind=3 then jw ⟨self,procs,self,e.val⟩ c.input s.cells (s.events.length+1) {s with events:=s.events++[e]}
 else {s with events:=s.events++[e]}
noncomputable def gI (c:eb)(self procs:Int)(l:List bz):de:=l.foldl (gC c self procs) (ky c self procs)
theorem rk(c self procs s e):(gC c self procs s e).events=s.events++[e]:=by
 unfold gC;split
 ·rfl
 split
 ·rfl
 split<;>rfl
theorem CB(c self procs l e):gI c self procs (l++[e])=gC c self procs (gI c self procs l) e:=by unfold gI;rw[List.foldl_append];rfl
theorem wh(c self procs l):(gI c self procs l).events=l:=by
 have key:∀(l:List bz) (s:de),(l.foldl (gC c self procs) s).events=s.events++l:=by
  intro l;induction l with
  |nil=>intro s;simp
  |cons e l a=>intro s;rw[List.foldl_cons,a,rk];simp
 rw[gI,key];rfl
theorem JK(a):tz a (-1)=wrap64 (-a):=by simp[tz,Int.tdiv_neg]
theorem Kj(a):tT a (-1)=0:=by simp[tT,Int.tmod_neg]
theorem jk(x w):Calls Tryz.prog 155 #[.bool x] w λ e ae=>e=.returned (.int .i64 (jE x))/\w=ae:=by
 cases x
 ·go_enter func155,ntmps155;go_wp2_with fail;go_ret;exact⟨I,I⟩
 go_enter func155,ntmps155;go_wp2_with fail;go_ret;exact⟨I,I⟩
theorem GW(a b:Int)(w):Calls Tryz.prog 154 #[.int .i64 8,a,b] w (iH (wrap64 (-a)) w):=by go_enter qB,jb;go_wp2_with(go_at_call 155;refine(jk _ _).mono ?_;rintro e ae ⟨rfl,rfl⟩);go_ret;exact⟨I,I⟩
theorem HK(a b:Int)(w):Calls Tryz.prog 154 #[.int .i64 9,a,b] w (iH (jE (a==0)) w):=by go_enter qB,jb;go_wp2_with(go_at_call 155;refine(jk _ _).mono ?_;rintro e ae ⟨rfl,rfl⟩);go_ret;exact⟨I,I⟩
theorem MT(a b:Int)(w):Calls Tryz.prog 154 #[.int .i64 10,a,b] w (iH (wrap64 (a+b)) w):=by go_enter qB,jb;go_wp2_with(go_at_call 155;refine(jk _ _).mono ?_;rintro e ae ⟨rfl,rfl⟩);go_ret;exact⟨I,I⟩
theorem HP(a b:Int)(w):Calls Tryz.prog 154 #[.int .i64 11,a,b] w (iH (wrap64 (a-b)) w):=by go_enter qB,jb;go_wp2_with(go_at_call 155;refine(jk _ _).mono ?_;rintro e ae ⟨rfl,rfl⟩);go_ret;exact⟨I,I⟩
theorem IC(a b:Int)(w):Calls Tryz.prog 154 #[.int .i64 12,a,b] w (iH (wrap64 (a*b)) w):=by go_enter qB,jb;go_wp2_with(go_at_call 155;refine(jk _ _).mono ?_;rintro e ae ⟨rfl,rfl⟩);go_ret;exact⟨I,I⟩
theorem Iq(a:Int)(w):Calls Tryz.prog 154 #[.int .i64 13,a,.int .i64 0] w (iH (0) w):=by go_enter qB,jb;go_wp2_with(go_at_call 155;refine(jk _ _).mono ?_;rintro e ae ⟨rfl,rfl⟩);go_ret;exact⟨I,I⟩
theorem Kb(a:Int)(w):Calls Tryz.prog 154 #[.int .i64 13,a,.int .i64 (-1)] w (iH (wrap64 (-a)) w):=by go_enter qB,jb;go_wp2_with(go_at_call 155;refine(jk _ _).mono ?_;rintro e ae ⟨rfl,rfl⟩);go_ret;exact⟨I,I⟩
theorem LI(a b:Int)(w)(c:¬b=0)(h0:(b==0)=false)(h1:(b==-1)=false):Calls Tryz.prog 154 #[.int .i64 13,a,b] w (iH (wrap64 (a.tdiv b)) w):=by go_enter qB,jb;go_wp2_with(go_at_call 155;refine(jk _ _).mono ?_;rintro e ae ⟨rfl,rfl⟩);go_ret;exact⟨I,I⟩
theorem LD(a:Int)(w):Calls Tryz.prog 154 #[.int .i64 14,a,.int .i64 0] w (iH (0) w):=by go_enter qB,jb;go_wp2_with(go_at_call 155;refine(jk _ _).mono ?_;rintro e ae ⟨rfl,rfl⟩);go_ret;exact⟨I,I⟩
theorem JZ(a:Int)(w):Calls Tryz.prog 154 #[.int .i64 14,a,.int .i64 (-1)] w (iH (0) w):=by go_enter qB,jb;go_wp2_with(go_at_call 155;refine(jk _ _).mono ?_;rintro e ae ⟨rfl,rfl⟩);go_ret;exact⟨I,I⟩
theorem MP(a b:Int)(w)(c:¬b=0)(h0:(b==0)=false)(h1:(b==-1)=false):Calls Tryz.prog 154 #[.int .i64 14,a,b] w (iH (a.tmod b) w):=by go_enter qB,jb;go_wp2_with(go_at_call 155;refine(jk _ _).mono ?_;rintro e ae ⟨rfl,rfl⟩);go_ret;exact⟨I,I⟩
theorem KP(a b:Int)(w):Calls Tryz.prog 154 #[.int .i64 15,a,b] w (iH (jE (decide (a<b))) w):=by go_enter qB,jb;go_wp2_with(go_at_call 155;refine(jk _ _).mono ?_;rintro e ae ⟨rfl,rfl⟩);go_ret;exact⟨I,I⟩
theorem LF(a b:Int)(w):Calls Tryz.prog 154 #[.int .i64 16,a,b] w (iH (jE (decide (a<=b))) w):=by go_enter qB,jb;go_wp2_with(go_at_call 155;refine(jk _ _).mono ?_;rintro e ae ⟨rfl,rfl⟩);go_ret;exact⟨I,I⟩
theorem MF(a b:Int)(w):Calls Tryz.prog 154 #[.int .i64 17,a,b] w (iH (jE (decide (b<a))) w):=by go_enter qB,jb;go_wp2_with(go_at_call 155;refine(jk _ _).mono ?_;rintro e ae ⟨rfl,rfl⟩);go_ret;exact⟨I,I⟩
theorem JG(a b:Int)(w):Calls Tryz.prog 154 #[.int .i64 18,a,b] w (iH (jE (decide (b<=a))) w):=by go_enter qB,jb;go_wp2_with(go_at_call 155;refine(jk _ _).mono ?_;rintro e ae ⟨rfl,rfl⟩);go_ret;exact⟨I,I⟩
theorem HD(a b:Int)(w):Calls Tryz.prog 154 #[.int .i64 19,a,b] w (iH (jE (a==b)) w):=by go_enter qB,jb;go_wp2_with(go_at_call 155;refine(jk _ _).mono ?_;rintro e ae ⟨rfl,rfl⟩);go_ret;exact⟨I,I⟩
theorem GK(a b:Int)(w):Calls Tryz.prog 154 #[.int .i64 20,a,b] w (iH (jE (a !=b)) w):=by go_enter qB,jb;go_wp2_with(go_at_call 155;refine(jk _ _).mono ?_;rintro e ae ⟨rfl,rfl⟩);go_ret;exact⟨I,I⟩
theorem HH(a b:Int)(w):Calls Tryz.prog 154 #[.int .i64 21,a,b] w (iH (jE (a !=0&&b !=0)) w):=by
 cases h1:(a !=0)
 ·go_enter qB,jb;go_wp2_with(go_at_call 155;refine(jk _ _).mono ?_;rintro e ae ⟨rfl,rfl⟩);go_ret;exact⟨I,I⟩
 go_enter qB,jb;go_wp2_with(go_at_call 155;refine(jk _ _).mono ?_;rintro e ae ⟨rfl,rfl⟩);go_ret;exact⟨I,I⟩
theorem KW(a b:Int)(w):Calls Tryz.prog 154 #[.int .i64 22,a,b] w (iH (jE (a !=0||b !=0)) w):=by
 cases h1:(a !=0)
 ·go_enter qB,jb;go_wp2_with(go_at_call 155;refine(jk _ _).mono ?_;rintro e ae ⟨rfl,rfl⟩);go_ret;exact⟨I,I⟩
 go_enter qB,jb;go_wp2_with(go_at_call 155;refine(jk _ _).mono ?_;rintro e ae ⟨rfl,rfl⟩);go_ret;exact⟨I,I⟩
theorem Ji(op a b:Int)(w):Calls Tryz.prog 154 #[op,a,b] w (iH (ub op a b) w):=by
 by_cases h1:op<8\/22<op
 ·have au:ub op a b=0:=by unfold ub;repeat rw[if_neg O]
  rw[au];clear au;rcases h1 with h1|h1
  all_goals go_enter qB,jb;go_wp2_with fail;go_ret;exact⟨I,I⟩
 have av:op=8\/op=9\/op=10\/op=11\/op=12\/op=13\/op=14\/op=15\/op=16\/op=17\/op=18\/op=19\/op=20\/op=21\/op=22:=O;rcases av with rfl|rfl|rfl|rfl|rfl|rfl|rfl|rfl|rfl|rfl|rfl|rfl|rfl|rfl|rfl
 ·exact GW a b w
 ·exact HK a b w
 ·exact MT a b w
 ·exact HP a b w
 ·exact IC a b w
 ·show Calls _ _ _ _ (iH (tz a b) w);by_cases c:b=0
  ·subst c;exact Iq a w
  by_cases d:b=-1
  ·subst d;rw[JK];exact Kb a w
  have:=LI a b w c (ax c) (ax d);rw[show tz a b=_ from if_neg c];exact this
 ·show Calls _ _ _ _ (iH (tT a b) w);by_cases c:b=0
  ·subst c;exact LD a w
  by_cases d:b=-1
  ·subst d;rw[Kj];exact JZ a w
  have:=MP a b w c (ax c) (ax d);rw[show tT a b=_ from if_neg c];exact this
 ·exact KP a b w
 ·exact LF a b w
 ·exact MF a b w
 ·exact JG a b w
 ·exact HD a b w
 ·exact GK a b w
 ·exact HH a b w
 exact KW a b w
theorem rS(x)(h:-9223372036854775808<=x/\x<=9223372036854775807):wrap64 x=x:=by unfold wrap64;omega
theorem FA(w S A)(m c:Nat)(cells)(k:Int)(h:bl bE 1 w S A m c cells)(hm:m<=9223372036854775807):Calls Tryz.prog 152 #[.slice A m c,k] w (iH (mO cells k) w):=by
 by_cases h1:k<0
 ·have au:mO cells k=0:=di (.inl h1);rw[au];clear au;go_enter func152,iT;go_wp2_with fail;go_ret;exact⟨I,I⟩
 by_cases h2:(m:Int)<=k
 ·have au:mO cells k=0:=di (.inr (an h.1));rw[au];clear au;go_enter func152,iT;go_wp2_with fail;go_ret;exact⟨I,I⟩
 obtain⟨j,rfl⟩:=qY (show 0<=k from O);obtain⟨b,off,x,rfl,_,a,av⟩:=h.at_ eB (k:=j) O;have au:mO cells j=x:=by unfold mO;rw[dg (an h.1)];simp[a]
 have d:w.cell? ⟨b,off+j,none⟩=some (.int .i64 x):=by have:=av 0 _ I;simpa using this
 rw[au];clear au av a h;have aA:(j:Int)<m:=O;have aS:(0:Int)<=j:=O;go_enter func152,iT;go_wp2_with fail;go_ret;exact⟨I,I⟩
def KD(len:Nat)(slot size i:Int)(w:World)(e:Ending)(ae:World):Prop:=∃p:Int,e=.returned (.int .i64 p)/\(((0<=i/\i<size)/\0<=slot+i/\slot+i<len)/\p=slot+i\/¬((0<=i/\i<size)/\0<=slot+i/\slot+i<len)/\p<0)/\w=ae
theorem FE(w A)(m c:Nat)(slot size i:Int)(au:gX slot)(g:gX size)(hm:m<=9223372036854775807):Calls Tryz.prog 149 #[slot,size,i,.slice A m c] w (KD m slot size i w):=by
 obtain⟨l,n⟩:=au;obtain⟨j,k⟩:=g;by_cases h1:i<0
 ·go_enter zz,pW;go_wp2_with fail;go_ret;exact⟨-1,I,.inr ⟨O,O⟩,I⟩
 by_cases h2:size<=i
 ·go_enter zz,pW;go_wp2_with fail;go_ret;exact⟨-1,I,.inr ⟨O,O⟩,I⟩
 by_cases aA:slot<0
 ·have a:(slot=-9223372036854775808/\wrap64 (-slot)=slot)\/wrap64 (-slot)=-slot:=by
   by_cases h:slot=-9223372036854775808
   ·left;exact⟨h,by rw[h];unfold wrap64;omega⟩
   right;exact rS _ O
  by_cases aS:i<wrap64 (-slot)
  ·have f:¬((0<=i/\i<size)/\0<=slot+i/\slot+i<m):=(by rcases a with h|h<;>omega);clear a;go_enter zz,pW;go_wp2_with fail;go_ret;exact⟨-1,I,.inr ⟨f,O⟩,I⟩
  have e:¬(m:Int)<=slot:=O;have b:¬0<=slot:=O;have y1:IntKind.i64.wrap (slot+i)=slot+i:=eI _ O;have d:=ai a;clear a;by_cases a:(m:Int)<=slot+i
  ·go_enter zz,pW;go_wp2_with fail;go_ret;exact⟨-1,I,.inr ⟨O,O⟩,I⟩
  go_enter zz,pW;go_wp2_with fail;go_ret;refine⟨slot+i,by first|rfl|rw[rS (slot+i) O],?_,I⟩;rcases d.o with h|h
  ·right;exact⟨O,O⟩
  left;exact⟨O,I⟩
 by_cases aS:(m:Int)<=slot
 ·go_enter zz,pW;go_wp2_with fail;go_ret;exact⟨-1,I,.inr ⟨O,O⟩,I⟩
 have p:IntKind.i64.wrap ((m:Int)-slot)=m-slot:=eI _ O;by_cases e:(m:Int)-slot<=i
 ·have b:0<=slot:=O;go_enter zz,pW;go_wp2_with fail;go_ret;exact⟨-1,I,.inr ⟨O,O⟩,I⟩
 have y1:IntKind.i64.wrap (slot+i)=slot+i:=eI _ O;have b:0<=slot:=O;have a:¬(m:Int)<=slot+i:=O;go_enter zz,pW;go_wp2_with fail;go_ret;exact⟨slot+i,by first|rfl|rw[rS (slot+i) O],.inl ⟨O,I⟩,I⟩
theorem Ho{cells slot size i p}(au:gX slot)(b:gX size)(hm:cells.length<=9223372036854775807)(h:((0<=i/\i<size)/\0<=slot+i/\slot+i<cells.length)/\p=slot+i\/¬((0<=i/\i<size)/\0<=slot+i/\slot+i<cells.length)/\p<0):mO cells p=uy cells slot size i:=by
 obtain⟨d,e⟩:=au;obtain⟨f,g⟩:=b;unfold uy;rcases h with ⟨h1,rfl⟩|⟨h1,h2⟩
 ·rw[if_neg O,rS _ O]
 have h0:mO cells p=0:=if_pos (.inl h2);rw[h0];by_cases a:i<0\/size<=i
 ·rw[if_pos a]
 rw[if_neg a];have:mO cells (wrap64 (slot+i))=0:=by
  unfold mO;refine if_pos ?_;by_cases c:slot+i<=9223372036854775807
  ·rw[rS _ O];omega
  left;unfold wrap64;omega
 exact this.symm
def vU(n:Nat):Prop:=∀(cells:List Int) (v:eS) (e:dU) (cs:List Value) (w:World) (S:Nat->Prop) (A:Option Addr) (m c:Nat),(∀i,S i->i<w.heap.size)->dt w S n cs e->bl bE 1 w S A m c cells->m<=9223372036854775807->Calls Tryz.prog 148 #[.agg cs.toArray,.slice A m c,.agg #[v.self,v.procs,v.aH,v.val]] w (pI (eA cells v n e) w)
theorem FL(n:Nat)(q:vU n)(cells v)(op val slot size:Int)(name args bf)(b bc:Nat)(w S A)(m c i:Nat)(y:i<=1)(f:∀i,S i->i<w.heap.size)(d:cN w S 6 (dt w S n) bf b bc args)(av:bl bE 1 w S A m c cells)(hm:m<=9223372036854775807):Calls Tryz.prog 153 #[.agg #[op,val,.string name,slot,size,.slice bf b bc],i,.slice A m c,.agg #[v.self,v.procs,v.aH,v.val]] w (pI (mu cells v n args i) w):=by
 have a0:b<=9223372036854775807:=ik d.2.1 d.2.2.1;have g:=d.1;obtain⟨N,D,B,l,H⟩:=dC q av d f g;clear q av d f g;by_cases h:b<=i
 ·have au:mu cells v n args i=0:=by unfold mu;rw[lH (an H.o)]
  rw[au];clear au;have T:(b:Int)<=(i:Int):=O;go_enter func153,ntmps153;go_wp2_with fail;go_ret;exact⟨I,eL (cx _ _) _⟩
 obtain⟨b',f,cs',a,rfl,Q,q,g,Y,r⟩:=B.o.at_ (k:=i) O;have au:mu cells v n args i=eA cells v n a:=by unfold mu;rw[q]
 rw[au];clear au;generalize d:eA cells v n a=x;have T:¬(b:Int)<=(i:Int):=O;have V:(i:Int)<(b:Int):=O;have X:(0:Int)<=(i:Int):=O;have hlen:=g.len;obtain⟨M,E,L,G⟩:=cH d r g hlen;clear d r g hlen q;go_enter func153,ntmps153;go_upto_region 3 with fail;generalize g:(w.alloc (.cells #[op,val,.string name,slot,size,.slice (some ⟨b',f,none⟩) b bc] 99)).alloc (.cells #[v.self,v.procs,v.aH,v.val] 133)=W;have s:ab w W:=g▸eL (cx w _) _;have R:aC W w.heap.size 99 #[op,val,.string name,slot,size,.slice (some ⟨b',f,none⟩) b bc]:=g▸(cu w _ _).alloc _;have q:aC W (w.heap.size+1) 133 #[v.self,v.procs,v.aH,v.val]:=by have:=cu (w.alloc (.cells #[op,val,.string name,slot,size,.slice (some ⟨b',f,none⟩) b bc] 99)) 133 #[v.self,v.procs,v.aH,v.val];rw[g]at this;simpa using this
 have a1:w.heap.size+1<W.heap.size:=q.lt;have P:∀J,ab W J->J.cell? ⟨w.heap.size,5,none⟩=some (.slice (some ⟨b',f,none⟩) b bc):=λ J r=>(r.cell (p:=⟨w.heap.size,5,none⟩) aY).trans (by rw[R.cell];rfl);clear g;have r:True:=aD;obtain⟨g,C⟩:=ck s q;clear s q;refine eE 99 (λ _=>True) (λ J=>ab W J) Z aD (dx (aN _ _)) (λ _ q=>?_);refine ag 0 (h:=ag 1 (h:=ag 2 (h:=ag 3 (h:=?_))));refine cK 4 I (dw ba _ _ I b' (f+i*6) I cs' _ (λ J d j u hu=>((aM g.o d).cell (p:=⟨b',f+i*6+j,none⟩) (l.o b' Q)).trans (E.o j u hu)) gd I (rR G.o)) ?_;refine ag 5 (h:=?_);refine cK 6 I (iS ba _ _ I (w.heap.size+1) 0 133 _ [v.self,v.procs,v.aH,v.val] _ I (λ J d=>d.ay C.o O) aT pH I Z) ?_;refine aV 7 λ K t=>?_;go_simp;refine(N.o cells v a cs' W.drew S A m c (λ i y=>cQ (l.o i y) g.o.size) (gi (cS (dx g.o) l.o) _ _ _ L.o) (D.o.aq (cS (dx g.o) l.o)) hm).mono ?_;rw[M.o];rintro e U ⟨rfl,z⟩;have s:ab W U:=aM q z;refine aZ t aD s ?_;clear t K r q;intro r q;refine ag 8 (h:=?_);refine cg Z ?_;have t:=aM g.o s;have F:=ai t;clear t z s r q P;go_wp2_with fail;go_ret;exact⟨I,F.o⟩
theorem IS(n)(j:vU n):vU (n+1):=by
 intro cells v e cs w S A m c a he av hm;obtain⟨op,val,name,slot,size,args⟩:=e;obtain⟨f,g,bf,k,bc,rfl,b⟩:=he;have d:=av.1;obtain⟨a3,P,q,X,a1,a2,Y⟩:=dW j av a b f g d;clear j av a b f g d;by_cases h1:op=1
 ·subst h1;as_aux_lemma=>have au:eA cells v (n+1) (.mk 1 val name slot size args)=val:=I;rw[au];clear au;go_enter nN,nQ;go_wp2_with fail;go_ret;exact⟨I,eL (cx _ _) _⟩
 by_cases h2:op=2
 ·subst h2;as_aux_lemma=>have au:eA cells v (n+1) (.mk 2 val name slot size args)=mO cells slot:=I;rw[au];clear au;have a0:=cE (ab w ((w.alloc (.cells #[.int .i64 2,val,.string name,slot,size,.slice bf k bc] 99)).alloc (.cells #[v.self,v.procs,v.aH,v.val] 133))) (eL (cx _ _) _);go_enter nN,nQ;go_wp2_with(go_at_call 152;refine(FA _ S A m c cells _ (P.o.aq (cS a0.o q.o)) hm).mono ?_;rintro e C ⟨rfl,rfl⟩);go_ret;exact⟨I,a0.o⟩
 by_cases aA:op=3
 ·subst aA;as_aux_lemma=>
  have au:eA cells v (n+1) (.mk 3 val name slot size args)=uy cells slot size (mu cells v n args 0):=I;rw[au];clear au;go_enter nN,nQ;go_upto_region 7 with fail;generalize r:(w.alloc (.cells #[.int .i64 3,val,.string name,slot,size,.slice bf k bc] 99)).alloc (.cells #[v.self,v.procs,v.aH,v.val] 133)=W;have B:ab w W:=r▸eL (cx w _) _;have t:aC W w.heap.size 99 #[.int .i64 3,val,.string name,slot,size,.slice bf k bc]:=r▸(cu w _ _).alloc _;have u:aC W (w.heap.size+1) 133 #[v.self,v.procs,v.aH,v.val]:=by have:=cu (w.alloc (.cells #[.int .i64 3,val,.string name,slot,size,.slice bf k bc] 99)) 133 #[v.self,v.procs,v.aH,v.val];rw[r]at this;simpa using this
  have a6:w.heap.size+1<W.heap.size:=u.lt;clear r;have key:∀(f:World) (i:Nat),i<=1->ab W f->Calls Tryz.prog 153 #[.agg #[.int .i64 3,val,.string name,slot,size,.slice bf k bc],i,.slice A m c,.agg #[v.self,v.procs,v.aH,v.val]] f (pI (mu cells v n args i) f):=λ f i z s=>by have j:=aM B s;exact FL n a3.o cells v 3 val slot size name args bf k bc f S A m c i z (λ i z=>Nat.lt_of_lt_of_le (q.o i z) j.size) (X.o.aq (cS j q.o) (gi (cS j q.o) n)) (P.o.aq (cS j q.o)) hm
  have g:True:=aD;have d:∀J,ab W J->J.cell? ⟨w.heap.size,3,none⟩=some (.int .i64 slot):=λ J j=>(j.cell (p:=⟨w.heap.size,3,none⟩) aY).trans (by rw[t.cell];rfl);have l:∀J,ab W J->J.cell? ⟨w.heap.size,4,none⟩=some (.int .i64 size):=λ J j=>(j.cell (p:=⟨w.heap.size,4,none⟩) aY).trans (by rw[t.cell];rfl);generalize a:mu cells v n args 0=x;have L:=λ f s=>a▸key f 0 O s;obtain⟨Q,N,M,V,U⟩:=dC B u t L a;clear B u t L a key;refine eE 99 (λ _=>True) (λ J=>ab W J) Z aD (dx (aN _ _)) (λ _ b=>?_);refine ag 0 (h:=ag 1 (h:=ag 2 (h:=ag 3 (h:=ag 4 (h:=?_)))));refine cK 5 I (iS ba _ _ I w.heap.size 0 99 _ [.int .i64 3,val,.string name,slot,size,.slice bf k bc] _ I (λ J a=>a.ay M.o O) aT gd I Z) ?_;refine ag 6 (h:=?_);refine cK 7 I (iS ba _ _ I (w.heap.size+1) 0 133 _ [v.self,v.procs,v.aH,v.val] _ I (λ J a=>a.ay N.o O) aT pH I Z) ?_;refine ag 9 (h:=?_);clear d l;refine aV 8 λ K d=>?_;go_simp;refine(V.o W.drew (dx (aN _ _))).mono ?_;rintro e C ⟨rfl,H⟩;have l:ab W C:=aM b H;refine aZ d aD l ?_;clear d K g b;intro g b;refine aV 10 λ K d=>?_;go_simp;refine(FE C A m c slot size x a1.o a2.o hm).mono ?_;rintro e R ⟨p,rfl,hp,rfl⟩;refine aZ d aD l ?_;clear d K g b;intro g b;refine aV 11 λ K d=>?_;go_simp;refine(FA C S A m c cells p (P.o.aq (cS (aM Q.o l) q.o)) hm).mono ?_;rw[Ho a1.o a2.o (by rw[<-Y.o];exact hm) (by rw[<-Y.o];exact hp)];rintro e R ⟨rfl,rfl⟩;refine aZ d aD l ?_;clear d K g b;intro g b;refine ag 12 (h:=?_);refine cg Z ?_;have G:=aM Q.o l;have T:=ai G;clear G H l g b hp;go_wp2_with fail;go_ret;exact⟨by rw[U.o];rfl,T.o⟩
 by_cases aS:op=4
 ·subst aS;as_aux_lemma=>have au:eA cells v (n+1) (.mk 4 val name slot size args)=v.self:=I;rw[au];clear au;go_enter nN,nQ;go_wp2_with fail;go_ret;exact⟨I,eL (cx _ _) _⟩
 by_cases D:op=5
 ·subst D;as_aux_lemma=>have au:eA cells v (n+1) (.mk 5 val name slot size args)=v.procs:=I;rw[au];clear au;go_enter nN,nQ;go_wp2_with fail;go_ret;exact⟨I,eL (cx _ _) _⟩
 by_cases E:op=6
 ·subst E;as_aux_lemma=>have au:eA cells v (n+1) (.mk 6 val name slot size args)=v.aH:=I;rw[au];clear au;go_enter nN,nQ;go_wp2_with fail;go_ret;exact⟨I,eL (cx _ _) _⟩
 by_cases F:op=7
 ·subst F;as_aux_lemma=>have au:eA cells v (n+1) (.mk 7 val name slot size args)=v.val:=I;rw[au];clear au;go_enter nN,nQ;go_wp2_with fail;go_ret;exact⟨I,eL (cx _ _) _⟩
 have t1:(op==1)=false:=ax h1;have t2:(op==2)=false:=ax h2;have t3:(op==3)=false:=ax aA;have t4:(op==4)=false:=ax aS;have t5:(op==5)=false:=ax D;have t6:(op==6)=false:=ax E;have t7:(op==7)=false:=ax F;by_cases a4:op<8
 ·as_aux_lemma=>
  have au:eA cells v (n+1) (.mk op val name slot size args)=0:=by unfold eA;rw[dg h1,dg h2,dg aA,dg aS,dg D,dg E,dg F,di (.inl a4)]
  rw[au];clear au;go_enter nN,nQ;go_wp2_with fail;go_ret;exact⟨I,eL (cx _ _) _⟩
 by_cases a5:22<op
 ·as_aux_lemma=>
  have au:eA cells v (n+1) (.mk op val name slot size args)=0:=by unfold eA;rw[dg h1,dg h2,dg aA,dg aS,dg D,dg E,dg F,di (.inr a5)]
  rw[au];clear au;go_enter nN,nQ;go_wp2_with fail;go_ret;exact⟨I,eL (cx _ _) _⟩
 as_aux_lemma=>
 have au:eA cells v (n+1) (.mk op val name slot size args)=ub op (mu cells v n args 0) (mu cells v n args 1):=by rw[eA,dg h1,dg h2,dg aA,dg aS,dg D,dg E,dg F,dg O];rfl
 rw[au];clear au h1 h2 aA aS D E F;go_enter nN,nQ;go_upto_region 18 with fail;generalize r:(w.alloc (.cells #[op,val,.string name,slot,size,.slice bf k bc] 99)).alloc (.cells #[v.self,v.procs,v.aH,v.val] 133)=W;have B:ab w W:=r▸eL (cx w _) _;have t:aC W w.heap.size 99 #[op,val,.string name,slot,size,.slice bf k bc]:=r▸(cu w _ _).alloc _;have u:aC W (w.heap.size+1) 133 #[v.self,v.procs,v.aH,v.val]:=by have:=cu (w.alloc (.cells #[op,val,.string name,slot,size,.slice bf k bc] 99)) 133 #[v.self,v.procs,v.aH,v.val];rw[r]at this;simpa using this
 have a6:w.heap.size+1<W.heap.size:=u.lt;clear r;have key:∀(f:World) (i:Nat),i<=1->ab W f->Calls Tryz.prog 153 #[.agg #[op,val,.string name,slot,size,.slice bf k bc],i,.slice A m c,.agg #[v.self,v.procs,v.aH,v.val]] f (pI (mu cells v n args i) f):=λ f i z s=>by have j:=aM B s;exact FL n a3.o cells v op val slot size name args bf k bc f S A m c i z (λ i z=>Nat.lt_of_lt_of_le (q.o i z) j.size) (X.o.aq (cS j q.o) (gi (cS j q.o) n)) (P.o.aq (cS j q.o)) hm
 have g:True:=aD;have F:∀J,ab W J->J.cell? ⟨w.heap.size,0,none⟩=some (.int .i64 op):=λ J j=>(j.cell (p:=⟨w.heap.size,0,none⟩) aY).trans (by rw[t.cell];rfl);generalize a:mu cells v n args 0=x;generalize r:mu cells v n args 1=y;have L:=λ f s=>a▸key f 0 O s;have dv:=λ f s=>r▸key f 1 O s;obtain⟨Q,N,M,V,U,E,D⟩:=dW B u t L a dv r;clear B u t L a dv r key;refine eE 99 (λ _=>True) (λ J=>ab W J) Z aD (dx (aN _ _)) (λ _ b=>?_);refine ag 0 (h:=ag 1 (h:=?_));refine cK 2 I (iS ba _ _ I w.heap.size 0 99 _ [op,val,.string name,slot,size,.slice bf k bc] _ I (λ J a=>a.ay M.o O) aT gd I Z) ?_;refine ag 3 (h:=?_);refine cK 4 I (iS ba _ _ I (w.heap.size+1) 0 133 _ [v.self,v.procs,v.aH,v.val] _ I (λ J a=>a.ay N.o O) aT pH I Z) ?_;refine cK 6 I (iS ba _ _ I w.heap.size 0 99 _ [op,val,.string name,slot,size,.slice bf k bc] _ I (λ J a=>a.ay M.o O) aT gd I Z) ?_;refine ag 7 (h:=?_);refine cK 8 I (iS ba _ _ I (w.heap.size+1) 0 133 _ [v.self,v.procs,v.aH,v.val] _ I (λ J a=>a.ay N.o O) aT pH I Z) ?_;clear F;refine aV 5 λ K d=>?_;go_simp;refine(V.o W.drew (dx (aN _ _))).mono ?_;rintro e C ⟨rfl,H⟩;have l:ab W C:=aM b H;refine aZ d aD l ?_;clear d K g b;intro g b;refine aV 9 λ K d=>?_;go_simp;refine(E.o C l).mono ?_;rintro e R ⟨rfl,t⟩;have r:ab W R:=aM l t;refine aZ d aD r ?_;clear d K g b;intro g b;refine aV 10 λ K d=>?_;go_simp;refine(Ji op x y R).mono ?_;rintro e u ⟨rfl,rfl⟩;refine aZ d aD r ?_;clear d K g b;intro g b;refine ag 11 (h:=?_);refine cg Z ?_;have G:=aM Q.o r;have T:=ai G;clear G H l t r g b;go_wp2_with fail;go_ret;exact⟨by rw[U.o,D.o];rfl,T.o⟩
theorem FB:∀n,vU n
 |0=>λ _ _ _ _ _ _ _ _ _ _ he=>he.elim
 |n+1=>IS n (FB n)
theorem yq:∀xs:List Int,xs.flatMap bE=xs.map (λ x=>Value.int .i64 x)
 |[]=>rfl
 |x::xs=>by rw[List.flatMap_cons,yq xs];rfl
theorem pf{w}{base n:Nat}{e v}{xs:List Int}(h:w.ownsRow base e 1 v n (xs.flatMap bE)){k:Nat}(m:k<n)(x:Int):∃(g cap:Nat) (cur:Array Value),v=.slice (some ⟨g,0,none⟩) n cap/\base<=g/\aC w g e cur/\k<cur.size/\n<=cap/\cap<=9223372036854775807/\∀ae,aC ae g e (cur.setIfInBounds k (.int .i64 x))->ae.ownsRow base e 1 v n ((xs.set k x).flatMap bE):=by
 obtain⟨c,h2⟩:=h;rcases h2 with ⟨_,h0⟩|⟨g,cap,cur,rfl,a,j,d,b,i,l⟩
 ·omega
 refine⟨g,cap,cur,I,a,j,O,d,b,λ ae f=>⟨?_,.inr ⟨g,cap,cur.setIfInBounds k (.int .i64 x),I,a,f,d,b,ax i,?_⟩⟩⟩
 ·rw[lg eB]at c⊢;simpa using c
 rw[yq,List.map_set,<-yq,<-l];simp[List.take_set]
theorem fu{w ae T base n size e v xs}(h:w.ownsRow base e size v n xs)(k:aw T w ae)(a:∀b,v.ownBlock=some b->T b):ae.ownsRow base e size v n xs:=by
 refine⟨h.1,?_⟩;rcases h.2 with aJ|⟨g,cap,cur,rfl,c,d,rest⟩
 ·exact .inl aJ
 exact .inr ⟨g,cap,cur,I,c,(k.block g (a g I)).trans d,rest⟩
theorem Jg:(Tryz.prog.info? 164).map (λ i=>(i.zero,i.size,i.bytes))=some (some (.agg Pz),3,24):=Z
theorem LM(a b c:Int):fc Tryz.prog 164 1 [(0,.agg #[a,b,c])]=some #[.int .i64 a,.int .i64 b,.int .i64 c]:=Z
def zX(w:World)(S:Nat->Prop)(n b off:Nat)(s:cd):Prop:=S b/\∃cs,cU w S n cs s/\∀j u,cs[j]?=some u->w.cell? ⟨b,off+j,none⟩=some u
theorem zX.aq{w ae S n b off s}(h:zX w S n b off s)(c:aw S w ae):zX ae S n b off s:=by obtain⟨a,cs,d,av⟩:=h;exact⟨a,cs,fa c n cs s d,λ j u hu=>(c.cell (p:=⟨b,off+j,none⟩) a).trans (av j u hu)⟩
theorem wS{α:Type}{l:List α}{k:Nat}{s:α}(h:l[k]?=some s):l.take (k+1)=l.take k++[s]/\l=l.take k++s::l.drop (k+1):=by obtain⟨a,rfl⟩:=dV.1 h;refine⟨by rw[qv a],?_⟩;rw[<-pR a,List.take_append_drop]
theorem pg:(Tryz.prog.info? 3).map (λ i=>(i.zero,i.size,i.bytes))=some (some (.int .i64 0),1,8):=Z
theorem HM:(Tryz.prog.info? 50).map (λ i=>(i.zero,i.size,i.bytes))=some (some (.agg PE),7,56):=Z
theorem uR{w:World}{base b n size:Nat}{e:TypeId}{v:Value}{xs:List Value}(h:w.ownsRow base e size v n xs)(a:b<=base):w.ownsRow b e size v n xs:=by
 refine⟨h.1,?_⟩;rcases h.2 with aJ|⟨g,cap,cur,rfl,c,rest⟩
 ·exact .inl aJ
 exact .inr ⟨g,cap,cur,I,ik a c,rest⟩
theorem sD{fn:Func}{p q r:Tmp}(h:fn.results=#[.tmp p,.tmp q,.tmp r])(tmps P w):(results fn tmps).run P w=.ok (.tuple #[tmps.getD p undef,tmps.getD q undef,tmps.getD r undef]) w:=by simp[results,h,Sem.run_bind,Result.andThen]
def HN(v:eS)(body:List cd)(cells:List Int)(w:World)(e:Ending)(ae:World):Prop:=∃(C E:Value) (f:Int),e=.returned (.tuple #[C,E,f])/\ae.ownsRow w.heap.size 3 1 C (ij v body cells).cells.length ((ij v body cells).cells.flatMap bE)/\ae.ownsRow w.heap.size 164 3 E (ij v body cells).dh.length ((ij v body cells).dh.flatMap ql)/\(∀b,C.ownBlock=some b->E.ownBlock≠some b)/\ab w ae
def qi(C E:Value)(fuel:Nat)(v:eS):Array Value:=#[C,E,.int .i64 v.self,.int .i64 v.procs,.int .i64 v.aH,.int .i64 v.val,.int .i64 (400- (fuel:Int))]
def fI(w:World)(F:Nat->Prop)(g:Nat)(v:eS)(m:dH):Prop:=∃C E:Value,aC w g 207 (qi C E m.fuel v)/\w.ownsRow 0 3 1 C m.cells.length (m.cells.flatMap bE)/\w.ownsRow 0 164 3 E m.dh.length (m.dh.flatMap ql)/\¬F g/\C.ownBlock≠some g/\E.ownBlock≠some g/\(∀b,C.ownBlock=some b->E.ownBlock≠some b)/\(∀b,C.ownBlock=some b->¬F b)/\(∀b,E.ownBlock=some b->¬F b)/\∀i,F i->i<w.heap.size
theorem fI.aq{w ae F g v m}(h:fI w F g v m)(b:ab w ae):fI ae F g v m:=by obtain⟨C,E,c,av,he,h1,h2,aA,aS,d,e,f⟩:=h;exact⟨C,E,b.ay c c.lt,dy av b (λ i a=>a.2),dy he b (λ i a=>a.2),h1,h2,aA,aS,d,e,λ i a=>cQ (f i a) b.size⟩
def zi(F:Nat->Prop)(g:Nat)(v:eS)(m:dH)(w:World)(e:Ending)(ae:World):Prop:=e=.returned (.tuple #[])/\fI ae F g v m/\aw F w ae
def FU(F:Nat->Prop)(g:Nat)(v:eS)(m:dH)(w:World)(e:Ending)(ae:World):Prop:=(0<m.fuel/\e=.returned (.bool true)/\fI ae F g v m.gE/\aw F w ae)\/(m.fuel=0/\e=.returned (.bool false)/\fI ae F g v m/\aw F w ae)
theorem Bq(w F g v m)(hm:fI w F g v m)(y:m.fuel<=400):Calls Tryz.prog 140 #[.pointer (some ⟨g,0,none⟩)] w (FU F g v m w):=by
 have j:=hm;obtain⟨C,E,a,av,h,h1,h2,aA,aS,c,d,f⟩:=hm;have x:w.cell? ⟨g,6,none⟩=some (.int .i64 (400- (m.fuel:Int))):=by rw[a.cell];rfl
 by_cases u:m.fuel=0
 ·have d0:decide ((400:Int)<=400- (m.fuel:Int))=true:=aY;have t:=ai j;clear j a av h aS c d f;go_enter func140,ntmps140;go_wp2_with fail;go_ret;exact .inr ⟨u,I,t.o,aN _ _⟩
 have d0:decide ((400:Int)<=400- (m.fuel:Int))=false:=aY;have z:IntKind.i64.wrap (400- (m.fuel:Int)+1)=400- ((m.fuel-1:Nat):Int):=by rw[eI _ O];omega
 obtain⟨q,r,s,k,l,n,p⟩:=dW a av h aS c d f;clear a av h aS c d f j;go_enter func140,ntmps140;go_wp2_with(refine dO I _ (.tmp 14) _ I g 6 207 _ (.int .i64 (400- ((m.fuel-1:Nat):Int))) I I q.o (by simp[qi]) Z I I ?_;intro ae d f;have h:=ai d;have c:=ai f;clear d f);go_ret;refine .inl ⟨O,I,⟨C,E,?_,fu r.o c.o (λ b a e=>h2 (by rw[<-e];exact a)),fu s.o c.o (λ b a e=>aA (by rw[<-e];exact a)),h1,h2,aA,k.o,l.o,n.o,λ i d=>cQ (p.o i d) c.o.size⟩,c.o.mono (λ i d e=>h1 (e▸d))⟩;simpa [qi,dH.gE]using h.o
theorem xd(w F g v st S cs e)(z:∀i,S i->i<w.heap.size)(hm:fI w F g v st)(a:dt w S 5 cs e):Calls Tryz.prog 141 #[.pointer (some ⟨g,0,none⟩),.agg cs.toArray] w (pI (eA st.cells v 5 e) w):=by obtain⟨C,E,D,av,a1,h1,h2,aA,aS,X,Y,a0⟩:=hm;obtain⟨A,c,rfl,L⟩:=nS av;have a2:=D.lt;generalize N:eA st.cells v 5 e=r;obtain⟨n,q,m,l,s,a4,f,p1,q1,-,rfl⟩:=kG a;generalize B:w.alloc (.cells #[n,q,.string m,l,s,.slice f p1 q1] 99)=W;have d:ab w W:=B▸cx w _;have G:aC W w.heap.size 99 #[n,q,.string m,l,s,.slice f p1 q1]:=B▸cu w _ _;have a3:=G.lt;have k:aC W g _ _:=d.ay D a2;have V:∀J,ab W J->J.cell? ⟨g,0,none⟩=some (.slice A st.cells.length c):=λ J a=>(a.cell (p:=⟨g,0,none⟩) k.lt).trans (by rw[k.cell];rfl);have y:True:=aD;have P:=gi (cS d z) _ _ _ a;have M:=L.aq (cS d (λ i b=>b.2));obtain⟨R,x,U,H,T,Q,t⟩:=dW z M P k N G d;clear z M P k N G d av a1 h1 h2 aA aS X Y a0 D L a;go_enter func141,ntmps141;go_upto_region 1 with fail;clear B;refine eE 99 (λ _=>True) (λ J=>ab W J) Z aD (dx (aN _ _)) (λ _ d=>?_);refine cK 0 I (iS ba _ _ I w.heap.size 0 99 _ [n,q,.string m,l,s,.slice f p1 q1] _ I (λ J a=>a.ay Q.o a3) (λ j u hu=>ax hu) gd I Z) ?_;refine ag 1 (h:=ag 2 (h:=ag 3 (h:=ag 4 (h:=ag 5 (h:=ag 6 (h:=ag 7 (h:=?_)))))));refine cK 8 I (iS ba _ _ I g 2 207 _ [v.self,v.procs,v.aH,v.val] _ I (λ J a=>a.ay H.o H.o.lt) (λ j u hu=>by match j,hu with|0,hu|1,hu|2,hu|3,hu=>exact hu) pH I Z) ?_;clear V;refine aV 9 λ K k=>?_;go_simp;refine(FB 5 st.cells v e [n,q,.string m,l,s,.slice f p1 q1] W.drew (λ i=>i<W.heap.size) A st.cells.length c (λ i b=>b) (kP (λ i b=>cQ (R.o i b) t.o.size) _ _ _ (gi (dx (aN _ _)) _ _ _ U.o)) ((x.o.more (λ i b=>cQ b.2 t.o.size)).aq (dx (aN _ _))) (ik x.o.2.1 x.o.2.2.1)).mono ?_;rw[T.o];rintro e D ⟨rfl,z⟩;have b:ab W D:=aM d z;refine aZ k aD b ?_;clear k K y d;intro y d;refine ag 10 (h:=?_);refine cg Z ?_;have k:=aM t.o b;have B:=ai k;clear k z y d b;go_wp2_with fail;go_ret;exact⟨I,B.o⟩
theorem Ef(w F g v st x)(hm:fI w F g v st)(a4:st.dh.length<=8):Calls Tryz.prog 150 #[.pointer (some ⟨g,0,none⟩),.agg #[x.kind,x.dst,x.val]] w (zi F g v (st.lY x) w):=by
 have R:=hm.aq (cx w (.cells #[x.kind,x.dst,x.val] 164));obtain⟨i0,N,S,a1,a2⟩:=eO Jg;by_cases a7:st.dh.length<8
 ·have au:st.lY x={st with dh:=st.dh++[x]}:=di a7;rw[au];obtain⟨C,E,G,L,t,h1,h2,aA,aS,B,D,y⟩:=hm;have b8:=G.lt;have q:=t.lt;generalize z:w.alloc (.cells #[x.kind,x.dst,x.val] 164)=W at*;have l:ab w W:=z▸cx w _;have n:aC W w.heap.size 164 #[x.kind,x.dst,x.val]:=z▸cu w _ _;have c1:=n.lt;have a:=l.ay G b8;have av:=dy L l (λ i d=>d.2);have r:=dy t l (λ i d=>d.2);obtain⟨A,c,M,b9,a3⟩:=dZ r;have c6:c<=9223372036854775807:=a3;subst M;have a6:=a.lt;have a0:W.cell? ⟨g,1,none⟩=some (.slice A st.dh.length c):=by rw[a.cell];rfl
  have d1:decide ((st.dh.length:Int)<8)=true:=aY;have c5:∀J,aw (λ i=>i=g\/i=w.heap.size) W J->J.cell? ⟨g,1,none⟩=some (.slice A st.dh.length c):=λ J s=>(s.cell (p:=⟨g,1,none⟩) (.inl I)).trans a0;have Q:∀J,aw (λ i=>i=g\/i=w.heap.size) W J->aC J w.heap.size 164 #[x.kind,x.dst,x.val]:=λ J s=>s.ay n (.inr I);have P:∀i,i=g\/i=w.heap.size->i<W.heap.size/\Value.ownBlock (.slice A st.dh.length c)≠some i:=by
   rintro i (rfl|rfl)
   ·exact⟨a6,aA⟩
   exact⟨c1,λ f=>by have:=(q _ f).2;omega⟩
  obtain⟨a_,H,b0,U,X,b2,b5,b6,b7⟩:=df a av r aS l N S a1 a2;obtain⟨c3,b4,Y,c4,a',V,m⟩:=dW n Q P q B D y;clear a av r aS l N S a1 a2 n Q P q B D y au a4 G L t R;go_enter func150,ntmps150;go_upto_region 1 with fail;clear z;go_upto_region 2 with fail;refine eE 10 (λ J=>aw (λ i=>i=g\/i=w.heap.size) W J) (λ J=>True) Z (aw.drew (aw.refl _ _)) aD (λ n q=>?_);refine ag 0 (h:=ag 1 (h:=ag 2 (h:=ag 3 (h:=?_))));refine aU 4 (h:=?_);refine il 5 I (iS ba _ _ I w.heap.size 0 164 _ [x.kind,x.dst,x.val] _ I (λ J s=>b4.o J s.1) (λ j u hu=>by match j,hu with|0,hu|1,hu|2,hu=>exact hu) underlying164 I Z) ?_;refine aV 6 λ K l=>?_;refine gl I _ _ _ _ I underlying160 _ [(0,.agg #[x.kind,x.dst,x.val])] I (LM _ _ _) ?_;have s:ab W (W.drew.alloc (.cells #[x.kind,x.dst,x.val] 164)):=eL (aw.drew (aw.refl _ _)) _;refine aZ l (s.mono (λ i d=>(Y.o i d).1)) aD ?_;clear l K n q;intro n q;refine aV 7 λ K l=>?_;refine iL _ ba (.tmp 14) (.tmp 16) _ ba 0 164 i0 _ 3 24 underlying160 b2.o b5.o b6.o b7.o I O (.slice A st.dh.length c) st.dh.length (st.dh.flatMap ql) ba (dy b0.o s (λ i d=>d.2)) _ (some ⟨W.heap.size,0,none⟩) 1 1 (ql x) ba (eW (w:=W.drew) I) (Hw _) dQ O (ef _) ?_;intro v2 c2 S a5 N;have t:aw (λ i=>i<W.heap.size/\Value.ownBlock (.slice A st.dh.length c)≠some i) W c2:=aw.grown (s.mono (λ i d=>d.1)) a5 (λ i d=>cQ d.1 s.size) (λ k z f=>f.2 z);have c8:=s.size;refine aZ l (t.mono Y.o) aD ?_;clear l K n q;intro n q;obtain⟨G,L,z,c9,c7⟩:=dZ S;subst z;have a1:=t.ay a_.o ⟨a6,aA⟩;refine ag 8 (h:=ag 9 (h:=?_));refine aV 10 λ K l=>?_;refine ej I _ _ _ I g 1 207 _ (.slice G (st.dh.length+1) L) I I a1 (by simp[qi]) Z I I ?_;intro a9 a2 z;refine dE l aD ?_;clear l K n q;intro q;have n:True:=aD;refine cg Z ?_;have c0:=t.size;have l:∀b,Value.ownBlock (.slice G (st.dh.length+1) L)=some b->b≠g/\(∀b',C.ownBlock=some b'->b≠b'):=λ b a=>by
   have Q:=H.o.lt;rcases N with h|h
   ·rw[h]at a;exact⟨λ e=>aA (by rw[<-e];exact a),λ b' P e=>U.o b' P (by rw[<-e];exact a)⟩
   rw[h]at a;injection a with a;have b_:W.heap.size<=b:=(by rw[<-a];simp);exact⟨λ e=>O,λ b' P e=>an ((Q b' P).2)⟩
  have a4:fI a9 F g v {st with dh:=st.dh++[x]}:=by
   refine⟨C,.slice G (st.dh.length+1) L,?_,?_,?_,h1,h2,λ f=>(l g f).1 I,λ b a f=>(l b f).2 b a I,a'.o,λ b a hF=>?_,λ i d=>cQ (m.o i d) (ik X.o.size (ik c0 z.size))⟩
   ·simpa [qi]using a2
   ·have Q:=H.o.lt;exact fu (fu H.o t (λ b a=>⟨(Q b a).2,U.o b a⟩)) z (λ b a e=>h2 (by rw[<-e];exact a))
   ·have:=fu S z (λ b a=>(l b a).1);simpa using this
   rcases N with h|h
   ·rw[h]at a;exact V.o b a hF
   rw[h]at a;injection a with a;have b_:W.heap.size<=b:=(by rw[<-a];simp);have:=m.o b hF;omega
  have a8:aw F w a9:=by refine aw.trans (aw.mono X.o m.o) (aw.trans (t.mono (T:=F) (λ i d=>⟨an (m.o i d),λ f=>V.o i f d⟩)) z (λ i d e=>h1 (e▸d))) (λ i d=>d)
  obtain⟨b1,b3⟩:=ck a4 a8;clear a4 a8 t z a2 a1 l S a5 N s;go_wp2_with fail;exact bodyPost_end (results_none results150 _ _ _) I ⟨I,b1.o,b3.o⟩
 have au:st.lY x=st:=if_neg a7;rw[au];have l:=R;obtain⟨C,E,a,av,r,h1,h2,aA,aS,B,D,y⟩:=hm;obtain⟨A,c,M,b9,a3⟩:=dZ r;subst M;have a0:(w.alloc (.cells #[x.kind,x.dst,x.val] 164)).cell? ⟨g,1,none⟩=some (.slice A st.dh.length c):=by rw[(a.alloc _).cell];rfl
 have d1:decide ((st.dh.length:Int)<8)=false:=aY;have t:=a.lt;obtain⟨s,m⟩:=ck l y;clear l y R a av r aS au B D;go_enter func150,ntmps150;go_wp2_with fail;exact bodyPost_end (results_none results150 _ _ _) I ⟨I,s.o,aw.mono (cx w _) m.o⟩
theorem fI.put{w F g v st}(hm:fI w F g v st){j}(s:j<st.cells.length)(x):∃(a cap:Nat) (cur:Array Value),w.cell? ⟨g,0,none⟩=some (.slice (some ⟨a,0,none⟩) st.cells.length cap)/\aC w a 3 cur/\j<cur.size/\¬F a/\a≠g/\st.cells.length<=cap/\cap<=9223372036854775807/\∀d ae,ab w d->aC ae a 3 (cur.setIfInBounds j (.int .i64 x))->aw (·≠a) d ae->fI ae F g v {st with cells:=st.cells.set j x}/\aw F w ae:=by obtain⟨C,E,c,av,o,h1,h2,aA,aS,k,n,l⟩:=hm;obtain⟨a,cap,cur,rfl,z,q,t,u,r,y⟩:=pf av s x;have m:a≠g:=λ e=>h2 (by rw[e];rfl);have A:=c.lt;refine⟨a,cap,cur,by rw[c.cell];rfl,q,t,k a I,m,u,r,λ d ae f p h=>⟨⟨_,E,h.ay (f.ay c c.lt) (λ e=>m e.symm),?_,fu (dy o f (λ i d=>d.2)) h (λ b c e=>aS a I (by rw[<-e];exact c)),h1,h2,aA,aS,k,n,λ i d=>Nat.lt_of_lt_of_le (l i d) (Nat.le_trans f.size h.size)⟩,bR (cS f l) h (λ i d e=>k a I (e▸d))⟩⟩;simpa using y ae p
theorem Fu{w F g v m}(h:fI w F g v m):w.cell? ⟨g,2,none⟩=some (.int .i64 v.self)/\w.cell? ⟨g,3,none⟩=some (.int .i64 v.procs)/\g<w.heap.size/\¬F g/\∃A c,w.cell? ⟨g,0,none⟩=some (.slice A m.cells.length c)/\m.cells.length<=c/\c<=9223372036854775807:=by obtain⟨C,E,a,av,f,h1,h2,aA,aS,b,d,e⟩:=h;obtain⟨A,c,rfl,aJ,hm⟩:=dZ av;exact⟨by rw[a.cell];rfl,by rw[a.cell];rfl,a.lt,h1,A,c,by rw[a.cell];rfl,aJ,hm⟩
theorem Ca{m:dH}{j:Nat}(h:j<m.cells.length)(x:Int):m.set j x={m with cells:=m.cells.set j x}:=by unfold dH.set;rw[di O];simp
theorem Fl{m:dH}{k:Int}(h:¬(0<=k/\k<m.cells.length))(x:Int):m.set k x=m:=dg h
theorem GD(n w F g v m S cs s)(b3:∀i,S i->i<w.heap.size)(c4:cU w S (n+1) cs s)(hm:fI w F g v m)(h9:m.dh.length<=8)(aA:s.kind≠3)(aS:s.kind≠4):Calls Tryz.prog 142 #[.pointer (some ⟨g,0,none⟩),.agg cs.toArray] w (zi F g v (oD v s m) w):=by
 have l7:gX s.slot/\gX s.size:=by obtain⟨_,_,_,_,_,_,_,_⟩:=s;exact⟨c4.1,c4.2.1⟩
 obtain⟨kind,name,slot,size,place,value,body,fJ,a2,a3,a1,a0,a4,U,p1,q1,cI,P,N,cA,Q,D,p2,q2,c6,c7,g8,e0,g9,e1,l6,rfl,i_,j2,j',k0⟩:=sq c4;subst l6;obtain⟨g0,g1⟩:=l7;simp only[cd.slot,cd.size,cd.kind]at g0 g1 aA aS;generalize L:w.alloc (.cells #[kind,.string name,slot,size,a2,a3,.string a1,a0,a4,.slice U p1 q1,cI,P,.string N,cA,Q,.slice D p2 q2,.slice c6 g8 e0,.slice c7 g9 e1] 101)=W;have X:ab w W:=L▸ab.new w _;have V:aC W w.heap.size 101 #[kind,.string name,slot,size,a2,a3,.string a1,a0,a4,.slice U p1 q1,cI,P,.string N,cA,Q,.slice D p2 q2,.slice c6 g8 e0,.slice c7 g9 e1]:=L▸cu w _ _;have g6:=V.lt;have e5:∀i,F i->i<w.heap.size:=by obtain⟨C,E,_,_,_,_,_,_,_,_,_,j7⟩:=hm;exact j7
 have j1:aw F w W:=X.mono e5;have b8:=hm.aq X;have h7:W.cell? ⟨w.heap.size,0,none⟩=some (.int .i64 kind):=by rw[V.cell];rfl
 have d':∀J,ab W J->J.cell? ⟨w.heap.size,2,none⟩=some (.int .i64 slot):=λ J a=>(a.cell (p:=⟨w.heap.size,2,none⟩) g6).trans (by rw[V.cell];rfl);have d_:∀J,ab W J->J.cell? ⟨w.heap.size,3,none⟩=some (.int .i64 size):=λ J a=>(a.cell (p:=⟨w.heap.size,3,none⟩) g6).trans (by rw[V.cell];rfl);have slt:∀J,ab W J->∀i,S i->i<J.heap.size:=λ J a i b7=>nx (b3 i b7) X.size a.size;have e3:∀J,ab W J->dt J S 5 [a2,a3,.string a1,a0,a4,.slice U p1 q1] place:=λ J a=>gi ((ab.trans X a).mono (λ i b7=>an (b3 i b7))) _ _ _ i_;have e4:∀J,ab W J->dt J S 5 [cI,P,.string N,cA,Q,.slice D p2 q2] value:=λ J a=>gi ((ab.trans X a).mono (λ i b7=>an (b3 i b7))) _ _ _ j2;have g7:∀J,ab W J->Calls Tryz.prog 141 #[.pointer (some ⟨g,0,none⟩),.agg #[a2,a3,.string a1,a0,a4,.slice U p1 q1]] J (pI (eA m.cells v 5 place) J):=λ J a=>xd J F g v m S _ place (slt J a) (b8.aq a) (e3 J a);have jt:∀J,ab W J->Calls Tryz.prog 141 #[.pointer (some ⟨g,0,none⟩),.agg #[cI,P,.string N,cA,Q,.slice D p2 q2]] J (pI (eA m.cells v 5 value) J):=λ J a=>xd J F g v m S _ value (slt J a) (b8.aq a) (e4 J a);generalize g4:eA m.cells v 5 place=f at g7;generalize g5:eA m.cells v 5 value=B at jt;have h':∀J,ab W J->aC J w.heap.size 101 #[kind,.string name,slot,size,a2,a3,.string a1,a0,a4,.slice U p1 q1,cI,P,.string N,cA,Q,.slice D p2 q2,.slice c6 g8 e0,.slice c7 g9 e1]:=λ J a=>a.ay V g6;obtain⟨bX,g3,e6,m',g',h8,a7,i9,i8⟩:=Fu b8;have cc:=d' W (aN _ _);have cT:=d_ W (aN _ _);have b:True:=aD;have c:oD v (.mk kind name slot size place value body fJ) m=if kind=1 then m.set slot B else if kind=2 then(if 0<=f/\f<size then m.set (wrap64 (slot+f)) B else m)else if kind=5 then(if 0<=f/\f<v.procs/\f≠v.self then m.lY ⟨1,f,B⟩else m)else if kind=6 then m.lY ⟨2,0,B⟩else m:=by rw[<-g4,<-g5];rfl
 generalize k5:oD v (.mk kind name slot size place value body fJ) m=fin at c;clear k5;obtain⟨m2,a6,c2,m0,b1,A,bg,bp,m5⟩:=df b3 e5 X V j1 b8 d' d_ slt;obtain⟨l9,l_,h6,c3,a5,m3,m4⟩:=dW e3 e4 g7 jt h' g4 g5;clear b3 e5 X V j1 b8 d' d_ slt e3 e4 g7 jt h' g4 g5 c4 i_ j2 j' k0 hm;by_cases q:kind=1
 ·subst q;rw[if_pos I]at c;as_aux_lemma=>
  by_cases t:0<=slot/\slot<m.cells.length
  ·obtain⟨j,rfl⟩:=Int.eq_ofNat_of_zero_le t.1;have a8:j<m.cells.length:=O;rw[Ca a8]at c;obtain⟨b2,cap,cur,b6,b5,e9,j9,k7,k_,j_,b_⟩:=A.o.put a8 B;have d1:decide ((j:Int)<(m.cells.length:Int))=true:=ax a8;have d2:(j:Int)<(m.cells.length:Int):=O;have d3:(0:Int)<=j:=O;have R:∀J,ab W J->J.cell? ⟨g,0,none⟩=some (.slice (some ⟨b2,0,none⟩) m.cells.length cap):=λ J a=>(a.cell (p:=⟨g,0,none⟩) e6).trans b6;have e2:=bg.o;clear a7 t i9 i8;obtain⟨c9,a_,j4,x⟩:=cH b_ b5 R c;clear b_ b5 R c;go_enter gS,qK;go_upto_region 3 with fail;clear L;go_quiet(fail);go_upto_region 4 with fail;have R:=j4.o;clear b6 bX g3 cc cT h7;refine eE 11 (λ J=>ab W J) (λ _=>True) Z (dx (mN (aN _ _) _)) aD (λ b d=>?_);have j8:=b;refine aU 0 (h:=aU 1 (h:=aU 2 (h:=aU 3 (h:=aU 4 (h:=aU 5 (h:=aU 6 (h:=aU 7 (h:=?_))))))));refine il 8 I (iS ba _ _ I w.heap.size 10 101 _ [cI,P,.string N,cA,Q,.slice D p2 q2] _ I (λ J a=>a5.o J a.1) (λ j u hu=>by match j,hu with|0,hu|1,hu|2,hu|3,hu|4,hu|5,hu=>exact hu) gd I Z) ?_;clear e2 R;refine aV 9 λ K k=>?_;go_simp;refine(c3.o _ b).mono ?_;rintro e T ⟨rfl,q⟩;have y:ab W T:=ab.trans b q;refine aZ k y aD ?_;clear k K b d;intro b d;refine aU 10 (h:=?_);refine aV 11 λ K k=>?_;refine ej I _ _ _ I b2 j 3 cur (.int .i64 B) (by simp[go_sem]) I (y.ay a_.o a_.o.lt) e9 Z I I ?_;intro a9 b4 c0;obtain⟨Y,c1⟩:=c9.o T a9 y b4 c0;rw[<-x.o]at Y;have l:=bR b1.o c1 (λ _ h=>h);refine dE k aD ?_;clear k K b d;intro d;have b:True:=aD;refine cg Z ?_;obtain⟨c8,H⟩:=ck Y l;clear Y l b4 c0 c1 q y b d j8;go_wp2_with fail;exact qC (iN iI _ _ _) I ⟨I,c8.o,H.o⟩
  rw[Fl t]at c;replace c:=c.symm;subst c;by_cases f':0<=slot
  ·have d1:decide (slot<(m.cells.length:Int))=false:=aY;clear t;go_enter gS,qK;go_upto_region 3 with fail;clear L;go_quiet(fail);go_wp2_with fail;exact qC (iN iI _ _ _) I ⟨I,A.o.aq (ab.fZ _ _),mN b1.o _⟩
  clear t;go_enter gS,qK;go_upto_region 3 with fail;clear L;go_quiet(fail);go_wp2_with fail;exact qC (iN iI _ _ _) I ⟨I,A.o.aq (ab.fZ _ _),mN b1.o _⟩
 rw[dg q]at c;have m6:(kind==1)=false:=ax q;by_cases M:kind=2
 ·subst M;rw[if_pos I]at c;as_aux_lemma=>
  have R:∀J,ab W J->J.cell? ⟨g,0,none⟩=some (.slice g' m.cells.length h8):=λ J a=>(a.cell (p:=⟨g,0,none⟩) e6).trans a7;have e2:=bg.o;have j6:=bp.o;have k':m.cells.length<=9223372036854775807:=O;clear bX g3 cc cT;have x:=ai c;clear c;go_enter gS,qK;go_upto_region 6 with fail;clear L;refine eE 99 (λ _=>True) (λ J=>ab W J) Z aD (dx (aN _ _)) (λ _ d=>?_);refine ag 0 (h:=ag 1 (h:=ag 2 (h:=ag 3 (h:=ag 4 (h:=ag 5 (h:=?_))))));refine cK 6 I (iS ba _ _ I w.heap.size 4 101 _ [a2,a3,.string a1,a0,a4,.slice U p1 q1] _ I (λ J a=>a5.o J a) (λ j u hu=>by match j,hu with|0,hu|1,hu|2,hu|3,hu|4,hu|5,hu=>exact hu) gd I Z) ?_;refine ag 8 (h:=ag 9 (h:=ag 10 (h:=ag 11 (h:=?_))));clear e2 j6 R;refine aV 7 λ K k=>?_;go_simp;refine(h6.o _ d).mono ?_;rintro e T ⟨rfl,q⟩;have y:ab W T:=ab.trans d q;refine aZ k aD y ?_;clear k K b d;intro b d;refine aV 12 λ K k=>?_;go_simp;refine(FE T g' m.cells.length h8 slot size f g0 g1 k').mono ?_;rintro e a9 ⟨p,rfl,hp,rfl⟩;refine aZ k aD y ?_;clear k K b d;intro b d;refine ag 13 (h:=?_);refine cg Z ?_;obtain⟨n0,n1⟩:=g0;obtain⟨n2,n3⟩:=g1;rcases hp with ⟨⟨⟨b9,e_⟩,i',l0⟩,l1⟩|⟨b9,e_⟩
  ·obtain⟨j,k9⟩:=Int.eq_ofNat_of_zero_le i';have l5:p=j:=O;subst l5;have a8:j<m.cells.length:=O;have j3:wrap64 (slot+f)=j:=(by rw[rS _ O];omega);have z:=x.o;rw[if_pos ⟨b9,e_⟩,j3,Ca a8]at z;obtain⟨b2,cap,cur,b6,b5,e9,j9,k7,k_,j_,b_⟩:=A.o.put a8 B;have d2:(j:Int)<(m.cells.length:Int):=O;have d3:(0:Int)<=j:=O;have R:∀J,ab W J->J.cell? ⟨g,0,none⟩=some (.slice (some ⟨b2,0,none⟩) m.cells.length cap):=λ J a=>(a.cell (p:=⟨g,0,none⟩) e6).trans b6;clear b9 e_ i' l0 l1 j3 k9 q d a7 i9 i8 b b6;obtain⟨c9,a_,d9,j5⟩:=cH b_ b5 z y;clear b_ b5 z y;go_upto_region 8 with fail;refine eE 10 (λ J=>ab W J) (λ _=>True) Z (dx j5.o) aD (λ b d=>?_);refine aU 0 (h:=aU 1 (h:=aU 2 (h:=aU 3 (h:=aU 4 (h:=aU 5 (h:=aU 6 (h:=?_)))))));refine il 7 I (iS ba _ _ I w.heap.size 10 101 _ [cI,P,.string N,cA,Q,.slice D p2 q2] _ I (λ J a=>a5.o J a.1) (λ j u hu=>by match j,hu with|0,hu|1,hu|2,hu|3,hu|4,hu|5,hu=>exact hu) gd I Z) ?_;clear R;refine aV 8 λ K k=>?_;go_simp;refine(c3.o _ b).mono ?_;rintro e a' ⟨rfl,i7⟩;have c5:ab W a':=ab.trans b i7;refine aZ k c5 aD ?_;clear k K b d;intro b d;refine aU 9 (h:=?_);refine aV 10 λ K k=>?_;refine ej I _ _ _ I b2 j 3 cur (.int .i64 B) (by simp[go_sem]) I (c5.ay a_.o a_.o.lt) e9 Z I I ?_;intro l8 b4 c0;obtain⟨Y,c1⟩:=c9.o a' l8 c5 b4 c0;rw[<-d9.o]at Y;have l:=bR b1.o c1 (λ _ h=>h);refine dE k aD ?_;clear k K b d;intro d;have b:True:=aD;refine cg Z ?_;obtain⟨c8,H⟩:=ck Y l;clear Y l b4 c0 c1 i7 c5 b d;go_wp2_with fail;exact qC (iN iI _ _ _) I ⟨I,c8.o,H.o⟩
  have z:=x.o;have k6:fin=m:=by
   rw[z];split
   ·rename_i k8;refine Fl (λ aB=>b9 ⟨k8,?_⟩) _;unfold wrap64 at aB;omega
   rfl
  subst k6;have d1:decide (0<=p)=false:=aY;have r:=A.o.aq y;have l:=ab.trans c2.o y;obtain⟨G,H⟩:=ck r l;clear r l b9 q y d b z x;go_wp2_with fail;exact qC (iN iI _ _ _) I ⟨I,G.o,H.o.mono a6.o⟩
 rw[dg M]at c;have m7:(kind==2)=false:=ax M;by_cases e7:kind=5
 ·subst e7;rw[if_pos I]at c;as_aux_lemma=>
  have x:=ai c;clear c a7;go_enter gS,qK;go_wp2_with(refine px I _ (.tmp 64) I w.heap.size 4 101 _ [a2,a3,.string a1,a0,a4,.slice U p1 q1] _ I (a5.o W (aN _ _)) (λ j u hu=>by match j,hu with|0,hu|1,hu|2,hu|3,hu|4,hu|5,hu=>exact hu) gd I Z ?_);clear L;refine(h6.o W (aN _ _)).mono ?_;rintro e T ⟨rfl,q⟩;obtain⟨f2,f3,-,-,-⟩:=Fu (A.o.aq q);clear bX g3 h7 cc cT;have b0:=ai q;clear q;have z:=x.o;by_cases t:0<=f/\f<v.procs/\f≠v.self
  ·rw[if_pos t]at z;obtain⟨f',j0,f_⟩:=t;have m_:(f !=v.self)=true:=ax f_;have d9:=ai z;clear z f_;go_wp2_with(refine px I _ (.tmp 90) I w.heap.size 10 101 _ [cI,P,.string N,cA,Q,.slice D p2 q2] _ I (a5.o T b0.o) (λ j u hu=>by match j,hu with|0,hu|1,hu|2,hu|3,hu|4,hu|5,hu=>exact hu) gd I Z ?_);refine(c3.o T b0.o).mono ?_;rintro e a9 ⟨rfl,M⟩;have h_:=ab.trans b0.o M;have h5:=ai h_;clear h_ M f2 f3;go_wp2_with fail;refine(Ef a9 F g v m ⟨1,f,B⟩ (A.o.aq h5.o) h9).mono ?_;rintro e a' ⟨rfl,r,l⟩;rw[<-d9.o]at r;have c_:=cE (aw F w a') (bR (cS (ab.trans c2.o h5.o) a6.o) l (λ _ h=>h));have G:=ai r;clear r l;go_wp2_with fail;exact qC (iN iI _ _ _) I ⟨I,G.o,c_.o⟩
  rw[dg t]at z;subst z;have r:=A.o.aq b0.o;have l:=ab.trans c2.o b0.o;obtain⟨G,H⟩:=ck r l;clear r l;by_cases f':0<=f
  ·by_cases j0:f<v.procs
   ·have f_:(f !=v.self)=false:=(by have:f=v.self:=Classical.byContradiction λ h=>t ⟨f',j0,h⟩;simpa using this);clear t x;go_wp2_with fail;exact qC (iN iI _ _ _) I ⟨I,G.o,H.o.mono a6.o⟩
   clear t x;go_wp2_with fail;exact qC (iN iI _ _ _) I ⟨I,G.o,H.o.mono a6.o⟩
  clear t x;go_wp2_with fail;exact qC (iN iI _ _ _) I ⟨I,G.o,H.o.mono a6.o⟩
 rw[dg e7]at c;have m8:(kind==5)=false:=ax e7;by_cases e8:kind=6
 ·subst e8;rw[if_pos I]at c;as_aux_lemma=>have x:=ai c;clear c a7;go_enter gS,qK;go_wp2_with(refine px I _ (.tmp 99) I w.heap.size 10 101 _ [cI,P,.string N,cA,Q,.slice D p2 q2] _ I (a5.o W (aN _ _)) (λ j u hu=>by match j,hu with|0,hu|1,hu|2,hu|3,hu|4,hu|5,hu=>exact hu) gd I Z ?_);clear L;refine(c3.o W (aN _ _)).mono ?_;rintro e a9 ⟨rfl,M⟩;have g_:=ai M;clear M;go_wp2_with fail;refine(Ef a9 F g v m ⟨2,0,B⟩ (A.o.aq g_.o) h9).mono ?_;rintro e a' ⟨rfl,r,l⟩;rw[<-x.o]at r;have c_:=cE (aw F w a') (bR (cS (ab.trans c2.o g_.o) a6.o) l (λ _ h=>h));have G:=ai r;clear r l;go_wp2_with fail;exact qC (iN iI _ _ _) I ⟨I,G.o,c_.o⟩
 rw[dg e8]at c;have m9:(kind==6)=false:=ax e8;subst c;clear a7 bX g3 cc cT;go_enter gS,qK;go_wp2_with fail;clear L;exact qC (iN iI _ _ _) I ⟨I,A.o,b1.o⟩
theorem fI.fresh{w f F g v m}(h:fI w F g v m)(d:ab w f)(p:w.heap.size<f.heap.size):fI f (λ i=>F i\/i=w.heap.size) g v m:=by
 obtain⟨C,E,a,av,j,h1,h2,aA,aS,k,l,n⟩:=h;have o:=a.lt;refine⟨C,E,d.ay a a.lt,dy av d (λ i c=>c.2),dy j d (λ i c=>c.2),λ h=>h.elim h1 (λ e=>O),h2,aA,aS,λ b a h=>h.elim (k b a) (λ e=>?_),λ b a h=>h.elim (l b a) (λ e=>?_),λ i c=>c.elim (λ h=>cQ (n i h) d.size) (λ e=>O)⟩
 ·have:=(av.lt b a).2;omega
 have:=(j.lt b a).2;omega
theorem fI.less{w F c g v m}(h:fI w F g v m)(hF:∀i,c i->F i):fI w c g v m:=by obtain⟨C,E,a,av,j,h1,h2,aA,aS,d,e,f⟩:=h;exact⟨C,E,a,av,j,λ h=>h1 (hF _ h),h2,aA,aS,λ b a h=>d b a (hF _ h),λ b a h=>e b a (hF _ h),λ i k=>f i (hF _ k)⟩
theorem fI.lt{w F g v m}(h:fI w F g v m):∀i,F i->i<w.heap.size:=by obtain⟨C,E,e,av,d,h1,h2,aA,aS,b,c,a⟩:=h;exact a
def yL(F:Nat->Prop)(g:Nat)(v:eS)(t:Task)(m:dH)(w:World)(e:Ending)(ae:World):Prop:=(∃a,eu v t m (.done a)/\e=.returned (.bool true)/\fI ae F g v a/\aw F w ae)\/(∃a,eu v t m (.dead a)/\e=.returned (.bool false)/\fI ae F g v a/\aw F w ae)
def zN(n:Nat):Prop:=∀(w:World) (F:Nat->Prop) (g:Nat) (v:eS) (m:dH) (S:Nat->Prop) (A:Option Addr) (len c:Nat) (l:List cd),(∀i,S i->F i)->cN w S 18 (cU w S n) A len c l->fI w F g v m->m.fuel<=400->m.dh.length<=8->Calls Tryz.prog 123 #[.pointer (some ⟨g,0,none⟩),.slice A len c] w (yL F g v (.list l) m w)
def MS(F:Nat->Prop)(g:Nat)(v:eS)(m:dH)(l:List cd)(w:World)(i:Value)(wr:World):Prop:=∃(k:Nat) (a:dH),i=.int .i64 k/\k<=l.length/\eu v (.list (l.take k)) m (.done a)/\fI wr F g v a/\aw F w wr
def IG(F:Nat->Prop)(g:Nat)(v:eS)(s:cd)(m:dH)(w:World)(wr:World):Prop:=∃a,(∀r,eu v (.kr s) a r->eu v (.kr s) m r)/\fI wr F g v a/\aw F w wr/\lT m a
def zL(g:Nat)(w:World):Nat:=match w.cell? ⟨g,6,none⟩with|some (.int _ f)=>(400-f).toNat|_=>0
theorem Fk{w F g v m}(h:fI w F g v m)(b:m.fuel<=400):zL g w=m.fuel:=by
 obtain⟨C,E,a,_⟩:=h;have:w.cell? ⟨g,6,none⟩=some (.int .i64 (400- (m.fuel:Int))):=by rw[a.cell];rfl
 unfold zL;rw[this];simp;omega
theorem JB{v s m c r}(e:0<m.fuel)(aS:s.kind=4)(b:eA m.gE.cells v 5 s.value≠0)(a:eu v (.list s.body) m.gE (.done c))(h:eu v (.kr s) c r):eu v (.kr s) m r:=by
 refine .mY e aS ?_;cases h with
 |empty h0=>exact .out b a h0
 |simple h _ d=>exact absurd aS d
 |mM _ g3 _=>omega
 |mY h0 _ h1=>exact .again b a h0 h1
theorem Dj(n)(t:∀k,n=k+1->zN k):zN n:=by
 intro w F g v m S A len c l d a hm f b;have q:=a.1;have y:=a.2.1;have x:c<=9223372036854775807:=a.2.2.1;have k0:len<=9223372036854775807:=O;obtain⟨c_,i9,i',h_,g1,h9,g_⟩:=dW d a t hm q f b;clear d a t hm q f b y x;go_enter func123,ntmps123;go_wp2_with fail;go_loopw[5] (λ i wr=>MS F g v m l w i wr) (λ i _=>len- (intOf i).toNat);case atStart=>exact⟨0,m,I,O,ax (eu.nil m),h_.o,aN _ _⟩
 obtain⟨k,x,rfl,j_,hex,b,a⟩:=hrel;by_cases e6:k<len;case neg=>have j4:decide (k<len)=false:=ax e6;have j5:l.take k=l:=hU (an g1.o);rw[j5]at hex;obtain⟨h8,b_,e4⟩:=cf hex b a;clear hex b a;go_wp2_with fail;go_ret;exact .inl ⟨x,h8.o,I,b_.o,e4.o⟩
 obtain⟨y,d⟩:=aW (wr:World);subst d;obtain⟨b',e7,cs',s,rfl,K,z,f,Q,M⟩:=i9.o.at_ e6;obtain⟨b5,rfl⟩:∃b5,n=b5+1:=by
  cases n with
  |zero=>exact f.elim
  |succ b5=>exact⟨b5,I⟩
 have d:aw S w y:=a.mono c_.o;have t:=fa d _ _ _ f;have V:y.rangeAt b' (e7+k*18) cs':=λ j u hu=>(d.cell (p:=⟨b',e7+k*18+j,none⟩) K).trans (M j u hu);obtain⟨kind,name,slot,size,place,value,body,fJ,c5,c6,c4,c3,c7,b6,p1,q1,cI,a',a9,cA,a_,a2,p2,q2,a0,a1,a7,a4,a8,a5,C,q,U,W,L,N⟩:=sq t;have B:=hex.fit;have e5:x.fuel<=400:=ik B.2.2 h9.o;have H:x.dh.length<=8:=B.2.1 g_.o;have j4:decide (k<len)=true:=ax e6;have j9:(0:Int)<=k:=O;have j':(k:Int)<len:=O;have P:k+1<=l.length:=an g1.o;have Y:=i'.o b5 I;subst q;have D:∀X,eu v (.kr s) x (.done X)->eu v (.list (l.take (k+1))) m (.done X):=λ X q=>by rw[(wS z).1];exact(eu.snoc hex q).1 X I
 have E:∀X,eu v (.kr s) x (.dead X)->eu v (.list l) m (.dead X):=λ X q=>by rw[(wS z).2];exact(eu.snoc hex q).2 X _ I
 clear M f Q K B hex z;obtain⟨i7,b_,e4,j7,R,e0,T,M,Q⟩:=df V b a d t U W L N;obtain⟨K,c8,b7,c9,e9⟩:=dC Y D E P H;clear V b a d t U W L N Y D E P H;go_upto_region 5 with(first|(refine wpList_load_mid rfl _ (.tmp 16) rfl b' (e7+k*18) rfl [kind,.string name,slot,size,c5,c6,.string c4,c3,c7,.slice b6 p1 q1,cI,a',.string a9,cA,a_,.slice a2 p2 q2,.slice a0 a7 a4,.slice a1 a8 a5] _ i7.o underlying101 rfl Z ?_)|(refine db rfl _ (.tmp 6) (.tmp 17) rfl y.heap.size 101 _ [kind,.string name,slot,size,c5,c6,.string c4,c3,c7,.slice b6 p1 q1,cI,a',.string a9,cA,a_,.slice a2 p2 q2,.slice a0 a7 a4,.slice a1 a8 a5] rfl rfl (aC.new _ _ _) rfl Z rfl ?_;intro H t b4));have E:ab y H:=zv (cx _ _) b4 (dq _);have j6:y.heap.size<H.heap.size:=t.lt;obtain⟨G,D⟩:=aW (λ i=>F i\/i=y.heap.size:Nat->Prop);have b3:fI H G g v x:=by rw[D];exact b_.o.fresh E j6
 have z:∀i,F i->G i:=λ i P=>by rw[D];exact .inl P
 have d_:G y.heap.size:=by rw[D];exact .inr I
 have b8:aw F w H:=bR e4.o E b_.o.lt;have d':∀J,aw G H J->aw F w J:=λ J q=>bR b8 q z;have f:∀J,aw G H J->aw S y J:=λ J q=>bR (cS E (λ i P=>b_.o.lt i (c_.o i P))) q (λ i P=>z i (c_.o i P));have L:∀J,aw G H J->J.cell? ⟨y.heap.size,0,none⟩=some (.int .i64 kind):=λ J q=>(q.cell (p:=⟨y.heap.size,0,none⟩) d_).trans (by rw[t.cell];rfl);have Y:∀J,aw G H J->J.cell? ⟨y.heap.size,16,none⟩=some (.slice a0 a7 a4):=λ J q=>(q.cell (p:=⟨y.heap.size,16,none⟩) d_).trans (by rw[t.cell];rfl);have a3:∀J,aw G H J->J.cell? ⟨y.heap.size,17,none⟩=some (.slice a1 a8 a5):=λ J q=>(q.cell (p:=⟨y.heap.size,17,none⟩) d_).trans (by rw[t.cell];rfl);have W:∀J,aw G H J->aC J y.heap.size 101 #[kind,.string name,slot,size,c5,c6,.string c4,c3,c7,.slice b6 p1 q1,cI,a',.string a9,cA,a_,.slice a2 p2 q2,.slice a0 a7 a4,.slice a1 a8 a5]:=λ J q=>q.ay t d_;have B:∀i,S i->G i:=λ i P=>z i (c_.o i P);have jt:∀(J:World) (a:dH),aw G H J->fI J G g v a->Calls Tryz.prog 141 #[.pointer (some ⟨g,0,none⟩),.agg #[cI,a',.string a9,cA,a_,.slice a2 p2 q2]] J (pI (eA a.cells v 5 value) J):=λ J a q b=>xd J G g v a S _ value (λ i P=>b.lt i (B i P)) b (gi (f J q) _ _ _ T.o);have c0:∀(J:World) (a:dH),aw G H J->fI J G g v a->a.fuel<=400->a.dh.length<=8->Calls Tryz.prog 123 #[.pointer (some ⟨g,0,none⟩),.slice a0 a7 a4] J (yL G g v (.list body) a J):=λ J a q b b0 d=>K.o J G g v a S a0 a7 a4 body B (M.o.aq (f J q) (fa (f J q) _)) b b0 d;have c1:∀(J:World) (a:dH),aw G H J->fI J G g v a->a.fuel<=400->a.dh.length<=8->Calls Tryz.prog 123 #[.pointer (some ⟨g,0,none⟩),.slice a1 a8 a5] J (yL G g v (.list fJ) a J):=λ J a q b b0 d=>K.o J G g v a S a1 a8 a5 fJ B (Q.o.aq (f J q) (fa (f J q) _)) b b0 d;have c2:∀(J:World) (a:dH),aw G H J->fI J G g v a->a.dh.length<=8->s.kind≠3->s.kind≠4->Calls Tryz.prog 142 #[.pointer (some ⟨g,0,none⟩),.agg #[kind,.string name,slot,size,c5,c6,.string c4,c3,c7,.slice b6 p1 q1,cI,a',.string a9,cA,a_,.slice a2 p2 q2,.slice a0 a7 a4,.slice a1 a8 a5]] J (zi G g v (oD v s a) J):=λ J a q b d aA aS=>GD b5 J G g v a S _ s (λ i P=>b.lt i (B i P)) (fa (f J q) _ _ _ R.o) b d aA aS;have b9:s.value=value:=by rw[C];rfl
 have a6:s.body=body:=by rw[C];rfl
 have b1:s.fJ=fJ:=by rw[C];rfl
 have b2:s.kind=kind:=by rw[C];rfl
 have k5:=L H (aN _ _);clear C D;obtain⟨f',U,V,g9,e8,g',e1,g7,g6⟩:=df b3 z d' L Y a3 W jt c0;obtain⟨i_,j0,d9,e2,h7,N⟩:=er c1 c2 b9 a6 b1 b2;clear b3 z d' L Y a3 W jt c0 c1 c2 b9 a6 b1 b2 b4 t E f R T M Q e0 K b8 B;by_cases aS:kind=4
 ·have j3:(kind==4)=true:=ax aS;as_aux_lemma=>
  go_wp2_with fail;go_loopw[] (λ J=>IG G g v s x H J) (λ J=>zL g J);case atStart=>exact⟨x,λ r h=>h,f'.o,aN _ _,qR _⟩
  obtain⟨a,z,b,t,f⟩:=hrel;have b0:a.fuel<=400:=ik f.2.2 e5;have d:=f.2.1 e9.o;obtain⟨d',f_,g4,h',h5⟩:=dC z b t f d;clear z b t f d;go_wp2_with fail;refine(Bq wr G g v a f_.o b0).mono ?_;rintro e T (⟨K,rfl,Q,L⟩|⟨K,rfl,Q,L⟩);case inr=>have b:=b7.o a (d'.o _ (.empty K));have f:=V.o T (bR g4.o L (λ _ h=>h));have d:=Q.less U.o;obtain⟨z,C,B⟩:=cf b f d;clear b f d Q L;go_wp2_with fail;go_ret;exact .inr ⟨a,z.o,I,B.o,C.o⟩
  have t:=bR g4.o L (λ _ h=>h);obtain⟨a3,e3⟩:=ck Q t;clear Q t L;go_wp2_with(refine px I _ (.tmp 25) I y.heap.size 10 101 _ [cI,a',.string a9,cA,a_,.slice a2 p2 q2] _ I (e1.o T e3.o) (λ j u hu=>by match j,hu with|0,hu|1,hu|2,hu|3,hu|4,hu|5,hu=>exact hu) gd I Z ?_);refine(g7.o T a.gE e3.o a3.o).mono ?_;rintro e Y ⟨rfl,b1⟩;have W:=bR e3.o (cS b1 a3.o.lt) (λ _ h=>h);have a6:=a3.o.aq b1;generalize c2:eA a.gE.cells v 5 value=e0;obtain⟨M,b9,c0⟩:=cf W a6 c2;clear W a6 c2 b1;cases b4:(e0==0)with
  |true=>
   have t:e0=0:=ax b4;have c1:eu v (.kr s) x (.done a.gE):=d'.o _ (.mY K (N.o.trans aS) (.stop (by rw[d9.o,c0.o];exact t)));have b:=c8.o _ c1;have f:=V.o Y M.o;have d:=b9.o.less U.o;obtain⟨z,C,B⟩:=cf b f d;clear b f d c1 t;go_wp2_with fail;go_roundw;case rel=>exact⟨k+1,a.gE,cz,c9.o,z.o,B.o,C.o⟩
   case measure=>exact bS
  |false=>
   have t:eA a.gE.cells v 5 s.value≠0:=(by rw[d9.o,c0.o];simpa using b4);have j1:=e8.o Y M.o;have b8:=cE (a.gE.fuel<=400) (ik (qd a).2.2 b0);have g5:=ai t;clear t;go_wp2_with fail;refine(g6.o Y a.gE M.o b9.o b8.o h5.o).mono ?_;rintro e b2 (⟨R,t,rfl,D,E⟩|⟨R,t,rfl,D,E⟩)
   ·have b3:=bR M.o E (λ _ h=>h);rw[<-e2.o]at t;have g8:=t.fit;have h6:=cE (∀r,eu v (.kr s) R r->eu v (.kr s) x r) (λ r h=>d'.o r (JB K (N.o.trans aS) g5.o t h));obtain⟨i8,g0,e_⟩:=cf b3 D g8;clear b3 D g8 E t;go_wp2_with fail;go_roundw;case rel=>exact⟨R,h6.o,g0.o,i8.o,(h'.o.trans (qd a)).trans e_.o⟩
    have g8:R.fuel<=a.gE.fuel:=e_.o.2.2;rw[Fk g0.o (ik g8 b8.o),Fk f_.o b0];simp only[dH.gE]at g8;omega
   have b3:=bR M.o E (λ _ h=>h);rw[<-e2.o]at t;have c1:eu v (.kr s) x (.dead R):=d'.o _ (.mY K (N.o.trans aS) (.pe g5.o t));have b:=b7.o _ c1;have f:=V.o b2 b3;have d:=D.less U.o;obtain⟨z,C,B⟩:=cf b f d;clear b f d E t b3 c1 D;go_wp2_with fail;go_ret;exact .inr ⟨_,z.o,I,B.o,C.o⟩
 have j3:(kind==4)=false:=ax aS;as_aux_lemma=>
 go_wp2_with fail;refine(Bq H G g v x f'.o e5).mono ?_;rintro e T (⟨K,rfl,Q,L⟩|⟨K,rfl,Q,L⟩);case inr=>have b:=b7.o x (.empty K);have f:=V.o T L;have d:=Q.less U.o;obtain⟨z,C,B⟩:=cf b f d;clear b f d Q L;go_wp2_with fail;go_ret;exact .inr ⟨_,z.o,I,B.o,C.o⟩
 have k6:=g9.o T L;have j8:=g'.o T L;have c1:=cE (x.gE.dh.length<=8) e9.o;have b8:=cE (x.gE.fuel<=400) (ik (qd x).2.2 e5);obtain⟨a3,b3⟩:=ck Q L;clear Q L;by_cases aA:kind=3
 ·have j2:(kind !=3)=false:=ax aA;go_wp2_with(refine px I _ (.tmp 46) I y.heap.size 10 101 _ [cI,a',.string a9,cA,a_,.slice a2 p2 q2] _ I (e1.o T b3.o) (λ j u hu=>by match j,hu with|0,hu|1,hu|2,hu|3,hu|4,hu|5,hu=>exact hu) gd I Z ?_);refine(g7.o T x.gE b3.o a3.o).mono ?_;rintro e Y ⟨rfl,b1⟩;have W:=bR b3.o (cS b1 a3.o.lt) (λ _ h=>h);have a6:=a3.o.aq b1;have j1:=e8.o Y W;generalize c2:eA x.gE.cells v 5 value=e0;obtain⟨M,b9,c0⟩:=cf W a6 c2;clear W a6 c2 b1;cases b4:(e0 !=0)with
  |true=>
   have Q:(if eA x.cells v 5 s.value=0 then s.fJ else s.body)=body:=(by rw[dg (by rw[d9.o];intro h;have h2:=c0.o;simp only[dH.gE]at h2;rw[h]at h2;rw[<-h2]at b4;simp at b4),e2.o]);have L:=ai Q;clear Q;go_wp2_with fail;refine(g6.o Y x.gE M.o b9.o b8.o c1.o).mono ?_;rintro e b2 (⟨R,t,rfl,D,E⟩|⟨R,t,rfl,D,E⟩)
   ·rw[<-L.o]at t;have b:=c8.o _ (.mM K (N.o.trans aA) t);have f:=V.o b2 (bR M.o E (λ _ h=>h));have d:=D.less U.o;obtain⟨z,C,B⟩:=cf b f d;clear b f d E t D;go_wp2_with fail;go_roundw;case rel=>exact⟨k+1,R,cz,c9.o,z.o,B.o,C.o⟩
    case measure=>exact bS
   rw[<-L.o]at t;have b:=b7.o _ (.mM K (N.o.trans aA) t);have f:=V.o b2 (bR M.o E (λ _ h=>h));have d:=D.less U.o;obtain⟨z,C,B⟩:=cf b f d;clear b f d E t D;go_wp2_with fail;go_ret;exact .inr ⟨_,z.o,I,B.o,C.o⟩
  |false=>
   have Q:(if eA x.cells v 5 s.value=0 then s.fJ else s.body)=fJ:=(by rw[di (by rw[d9.o];have h2:=c0.o;simp only[dH.gE]at h2;rw[h2];simpa using b4),h7.o]);have L:=ai Q;clear Q;go_wp2_with fail;refine(i_.o Y x.gE M.o b9.o b8.o c1.o).mono ?_;rintro e b2 (⟨R,t,rfl,D,E⟩|⟨R,t,rfl,D,E⟩)
   ·rw[<-L.o]at t;have b:=c8.o _ (.mM K (N.o.trans aA) t);have f:=V.o b2 (bR M.o E (λ _ h=>h));have d:=D.less U.o;obtain⟨z,C,B⟩:=cf b f d;clear b f d E t D;go_wp2_with fail;go_roundw;case rel=>exact⟨k+1,R,cz,c9.o,z.o,B.o,C.o⟩
    case measure=>exact bS
   rw[<-L.o]at t;have b:=b7.o _ (.mM K (N.o.trans aA) t);have f:=V.o b2 (bR M.o E (λ _ h=>h));have d:=D.less U.o;obtain⟨z,C,B⟩:=cf b f d;clear b f d E t D;go_wp2_with fail;go_ret;exact .inr ⟨_,z.o,I,B.o,C.o⟩
 have j2:(kind !=3)=true:=ax aA;go_wp2_with(refine ew I _ (.tmp 6) I y.heap.size 101 [kind,.string name,slot,size,c5,c6,.string c4,c3,c7,.slice b6 p1 q1,cI,a',.string a9,cA,a_,.slice a2 p2 q2,.slice a0 a7 a4,.slice a1 a8 a5] _ I (e1.o T b3.o) underlying101 I Z ?_);refine(j0.o T x.gE b3.o a3.o c1.o (by rw[N.o];exact aA) (by rw[N.o];exact aS)).mono ?_;rintro e Y ⟨rfl,a6,W⟩;have b:=c8.o _ (.simple K (by rw[N.o];exact aA) (by rw[N.o];exact aS));have f:=V.o Y (bR b3.o W (λ _ h=>h));have d:=a6.less U.o;obtain⟨z,C,B⟩:=cf b f d;clear b f d W a6;go_wp2_with fail;go_roundw;case rel=>exact⟨k+1,_,cz,c9.o,z.o,B.o,C.o⟩
 case measure=>exact bS
theorem zm:∀n,zN n
 |0=>Dj 0 (λ k e=>O)
 |n+1=>Dj (n+1) (λ k e=>by
  have a:k=n:=O
  rw[a]
  exact zm n)
theorem wY{w:World}{base b n size:Nat}{e:TypeId}{v:Value}{xs:List Value}(h:w.ownsRow base e size v n xs)(a:∀g,v.ownBlock=some g->b<=g):w.ownsRow b e size v n xs:=by
 refine⟨h.1,?_⟩;rcases h.2 with aJ|⟨g,cap,cur,rfl,c,rest⟩
 ·exact .inl aJ
 exact .inr ⟨g,cap,cur,I,a g I,rest⟩
theorem CL(A)(n c:Nat)(a b d e:Int):Tryz.prog.built 207 [(0,.slice A n c),(2,.agg #[a,b,d,e])]=some #[.slice A n c,.slice none 0 0,.int .i64 a,.int .i64 b,.int .i64 d,.int .i64 e,.int .i64 0]:=Z
theorem GC(n w S A a7 m c a5 a8 body cells v)(f:∀i,S i->i<w.heap.size)(B:cN w S 18 (cU w S n) A m c body)(p:bl bE 1 w S a7 a5 a8 cells)(g1:a5<=1000000):Calls Tryz.prog 81 #[.slice A m c,.slice a7 a5 a8,.agg #[v.self,v.procs,v.aH,v.val]] w (HN v body cells w):=by
 obtain⟨i0,t,F,H,L⟩:=eO pg;generalize l:w.alloc (.cells #[v.self,v.procs,v.aH,v.val] 133)=W;have g:ab w W:=l▸ab.new w _;have a:aC W w.heap.size 133 #[v.self,v.procs,v.aH,v.val]:=l▸aC.new w _ _;have g4:w.heap.size<W.heap.size:=a.lt;have q:True:=aD;have k:∀i,S i->i<W.heap.size:=λ i d=>an (f i d);have D:=B.aq (cS g f) (fa (cS g f) _);have s:=(p.aq (cS g f)).more k;have z:∀u∈cells.flatMap bE,u.oneCell'=true:=λ u hu=>by obtain⟨x,_,G⟩:=td.1 hu;exact jG x u G
 have y:=p.1;obtain⟨g0,c5,d_,P,c8,c3,c7,c4,c9⟩:=df f g a k D s z t F;obtain⟨c_,d9,c6⟩:=cf H L y;clear f g a k D s z t F H L y B p;go_enter func81,ntmps81;go_upto_region 1 with fail;clear l;refine eE 99 (λ _=>True) (λ J=>ab W J) Z aD (dx (aN _ _)) (λ _ f=>?_);refine ag 0 (h:=?_);refine cK 2 I (iS ba _ _ I w.heap.size 0 133 _ [v.self,v.procs,v.aH,v.val] _ I (λ J G=>G.ay d_.o O) (λ j u hu=>by match j,hu with|0,hu|1,hu|2,hu|3,hu=>exact hu) pH I Z) ?_;refine gO (i:=1) (j:=4) Z (ed I (λ K g=>?_)) (ed I (λ K g=>?_))
 ·refine iL _ ba (.const (.slice none 0 0)) (.tmp 10) _ ba W.heap.size 3 i0 _ 1 8 eK c4.o c9.o c_.o d9.o I O (.slice none 0 0) 0 [] ba (ee _ _ _ _) _ a7 a5 a8 (cells.flatMap bE) ba (c3.o.aq (dx (aN _ _))).2.2.2 c7.o dQ O (f.size) ?_;intro C k a1 Q c0;have p:k.ownsRow W.heap.size 3 1 C cells.length (cells.flatMap bE):=by have:=c6.o;simpa [this]using a1
  obtain⟨bY,s,hC,e6,e3⟩:=dZ p;subst hC;have H:ab W k:=fh f (ee _ W.heap.size 3 1) Q (λ i d=>d) f.size;refine aZ g aD H ?_;clear g K q f;intro q f;refine cK 3 I (gh ba _ _ I _ _ I (CL bY cells.length s v.self v.procs v.aH v.val)) ?_;refine aV 4 λ K g=>?_;go_simp;have t:ab W (k.alloc (.cells PB 207)):=ab.alloc H _;refine aZ g aD t ?_;clear g K q f;intro q f;have f':=H.size;refine aV 5 λ K g=>?_;refine eD I _ _ _ I k.heap.size 0 207 _ [.slice bY cells.length s,.slice none 0 0,v.self,v.procs,v.aH,v.val,.int .i64 0] I I (aC.new _ _ _) aT Z I ?_;intro y z F;rw[eX _ _ ba]at z;have N:ab W y:=ab.write t F f';refine aZ g aD N ?_;clear g K q f;intro q f;refine cg Z ?_;have dN:=p.lt;have a2:=dy p (ab.new k (.cells PB 207)) (λ i d=>d.2);clear p;have p:=uR a2 (ef _);have e9:=z.lt;have f_:=F.size;have Y:fI y (λ i=>i<W.heap.size) k.heap.size v ⟨cells,[],400⟩:=by refine⟨.slice bY cells.length s,.slice none 0 0,?_,fu p F (λ b a e=>(λ b (a:Value.ownBlock (.slice bY cells.length s)=some b) (e:b=k.heap.size)=>an ((dN b a).2)) b a e),ee _ _ _ _,O,λ l=>(λ b (a:Value.ownBlock (.slice bY cells.length s)=some b) (e:b=k.heap.size)=>an ((dN b a).2)) _ l I,(λ l=>by cases l),(λ b _ l=>by cases l),λ b a h=>an ((λ b (a:Value.ownBlock (.slice bY cells.length s)=some b)=>(dN b a).1) b a),(λ b l=>by cases l),λ i d=>O⟩;simpa [qi]using z
  have D:ab W y:=N;have a4:=c8.o.aq (cS D P.o) (fa (cS D P.o) _);obtain⟨b3,b2,b4⟩:=cf Y D a4;clear Y D a4 z F p N t a2 dN H Q c0 a1 f q;go_wp2_with fail;refine(zm n y (λ i=>i<W.heap.size) k.heap.size v ⟨cells,[],400⟩ S A m c body P.o b4.o b3.o (dq _) aT).mono ?_;rintro e t aS;obtain⟨r,R,G,rfl,a0,a3⟩:∃r R,eu v (.list body) ⟨cells,[],400⟩ r/\e=.returned (.bool R)/\fI t (λ i=>i<W.heap.size) k.heap.size v r.st/\aw (λ i=>i<W.heap.size) y t:=by
   rcases aS with ⟨c2,h1,h2,aA,aS⟩|⟨c2,h1,h2,aA,aS⟩
   ·exact⟨_,_,h1,h2,aA,aS⟩
   exact⟨_,_,h1,h2,aA,aS⟩
  rw[<-wi G]at a0;obtain⟨C,E,B,M,L,b9,bX,g3,T,U,V,b_⟩:=a0;obtain⟨a',b7,hC,e7,e4⟩:=dZ M;subst hC;obtain⟨a_,b8,hC,e8,e5⟩:=dZ L;subst hC;have e0:t.cell? ⟨k.heap.size,0,none⟩=some (.slice a' (ij v body cells).cells.length b7):=by rw[B.cell];rfl
  have e1:t.cell? ⟨k.heap.size,1,none⟩=some (.slice a_ (ij v body cells).dh.length b8):=by rw[B.cell];rfl
  have e2:t.cell? ⟨k.heap.size,6,none⟩=some (.int .i64 (400- ((ij v body cells).fuel:Int))):=by rw[B.cell];rfl
  have X:ab w t:=bR c5.o (bR b2.o a3 (λ i d=>d)) (λ i d=>O);have a6:=wY M (b:=w.heap.size) (λ b a=>an (U b a));have cI:=wY L (b:=w.heap.size) (λ b a=>an (V b a));obtain⟨b5,b6,b0,b1⟩:=cH a6 cI T X;clear a6 cI T X B G a3 b9 bX g3 U V b_ M L aS;go_wp2_with fail;go_quiet(fail);go_wp2_with fail;refine bodyPost_ret (sD results81 _ _ _) I ?_;refine⟨_,_,_,I,b5.o,b6.o,b0.o,mN b1.o _⟩
 go_simp;have a9:ab W (W.alloc (.cells PB 207)).drew:=dx (ab.new W _);have c1:aC (W.alloc (.cells PB 207)).drew W.heap.size 207 _:=aC.new W _ _;refine aZ g aD a9 ?_;clear g K q f;intro q f;generalize d':(W.alloc (.cells PB 207)).drew=cR at*;have e_:W.heap.size<cR.heap.size:=c1.lt;clear d';refine aV 1 λ K g=>?_;refine iL _ ba (.const (.slice none 0 0)) (.tmp 10) _ ba cR.heap.size 3 i0 _ 1 8 eK c4.o c9.o c_.o d9.o I O (.slice none 0 0) 0 [] ba (ee _ _ _ _) _ a7 a5 a8 (cells.flatMap bE) ba (c3.o.aq (cS a9 (λ i d=>d))).2.2.2 c7.o dQ O (dq _) ?_;intro C k a1 Q c0;have p:k.ownsRow cR.heap.size 3 1 C cells.length (cells.flatMap bE):=by have:=c6.o;simpa [this]using a1
 obtain⟨bY,s,hC,e6,e3⟩:=dZ p;subst hC;have H:ab W k:=fh a9 (ee _ cR.heap.size 3 1) Q (λ i d=>O) (dq _);have d':ab cR k:=fh (aN _ _) (ee _ cR.heap.size 3 1) Q (λ i d=>d) (dq _);refine aZ g aD H ?_;clear g K q f;intro q f;refine cK 3 I (gh ba _ _ I _ _ I (CL bY cells.length s v.self v.procs v.aH v.val)) ?_;refine aV 5 λ K g=>?_;refine eD I _ _ _ I W.heap.size 0 207 _ [.slice bY cells.length s,.slice none 0 0,v.self,v.procs,v.aH,v.val,.int .i64 0] I I (d'.ay c1 e_) aT Z I ?_;intro y z F;rw[eX _ _ ba]at z;have N:ab W y:=ab.write H F (dq _);refine aZ g aD N ?_;clear g K q f;intro q f;refine cg Z ?_;have dN:=p.lt;have a2:=p;clear p;have p:=uR a2 (ef _);have e9:=z.lt;have f_:=F.size;have Y:fI y (λ i=>i<W.heap.size) W.heap.size v ⟨cells,[],400⟩:=by refine⟨.slice bY cells.length s,.slice none 0 0,?_,fu p F (λ b a e=>(λ b (a:Value.ownBlock (.slice bY cells.length s)=some b) (e:b=W.heap.size)=>an ((dN b a).1)) b a e),ee _ _ _ _,O,λ l=>(λ b (a:Value.ownBlock (.slice bY cells.length s)=some b) (e:b=W.heap.size)=>an ((dN b a).1)) _ l I,(λ l=>by cases l),(λ b _ l=>by cases l),λ b a h=>by have:=(λ b (a:Value.ownBlock (.slice bY cells.length s)=some b)=>an ((dN b a).1)) b a;omega,(λ b l=>by cases l),λ i d=>O⟩;simpa [qi]using z
 have D:ab W y:=N;have a4:=c8.o.aq (cS D P.o) (fa (cS D P.o) _);obtain⟨b3,b2,b4⟩:=cf Y D a4;clear Y D a4 z F p N a9 d' c1 a2 dN H Q c0 a1 f q;go_wp2_with fail;refine(zm n y (λ i=>i<W.heap.size) W.heap.size v ⟨cells,[],400⟩ S A m c body P.o b4.o b3.o (dq _) aT).mono ?_;rintro e t aS;obtain⟨r,R,G,rfl,a0,a3⟩:∃r R,eu v (.list body) ⟨cells,[],400⟩ r/\e=.returned (.bool R)/\fI t (λ i=>i<W.heap.size) W.heap.size v r.st/\aw (λ i=>i<W.heap.size) y t:=by
  rcases aS with ⟨c2,h1,h2,aA,aS⟩|⟨c2,h1,h2,aA,aS⟩
  ·exact⟨_,_,h1,h2,aA,aS⟩
  exact⟨_,_,h1,h2,aA,aS⟩
 rw[<-wi G]at a0;obtain⟨C,E,B,M,L,b9,bX,g3,T,U,V,b_⟩:=a0;obtain⟨a',b7,hC,e7,e4⟩:=dZ M;subst hC;obtain⟨a_,b8,hC,e8,e5⟩:=dZ L;subst hC;have e0:t.cell? ⟨W.heap.size,0,none⟩=some (.slice a' (ij v body cells).cells.length b7):=by rw[B.cell];rfl
 have e1:t.cell? ⟨W.heap.size,1,none⟩=some (.slice a_ (ij v body cells).dh.length b8):=by rw[B.cell];rfl
 have e2:t.cell? ⟨W.heap.size,6,none⟩=some (.int .i64 (400- ((ij v body cells).fuel:Int))):=by rw[B.cell];rfl
 have X:ab w t:=bR c5.o (bR b2.o a3 (λ i d=>d)) (λ i d=>O);have a6:=wY M (b:=w.heap.size) (λ b a=>an (U b a));have cI:=wY L (b:=w.heap.size) (λ b a=>an (V b a));obtain⟨b5,b6,b0,b1⟩:=cH a6 cI T X;clear a6 cI T X B G a3 b9 bX g3 U V b_ M L aS;go_wp2_with fail;go_quiet(fail);go_wp2_with fail;refine bodyPost_ret (sD results81 _ _ _) I ?_;refine⟨_,_,_,I,b5.o,b6.o,b0.o,mN b1.o _⟩
theorem vO:(Tryz.prog.info? 40).map (λ i=>(i.zero,i.size,i.bytes))=some (some (.agg Pw),4,32):=Z
theorem Ld:(Tryz.prog.info? 166).map (λ i=>(i.zero,i.size,i.bytes))=some (some (.agg Pr),2,16):=Z
theorem KX(a b c d:Int):fc Tryz.prog 40 1 [(0,.agg #[a,b,c,d])]=some #[.int .i64 a,.int .i64 b,.int .i64 c,.int .i64 d]:=Z
theorem Hu(a b:Int):fc Tryz.prog 166 1 [(0,.agg #[a,b])]=some #[.int .i64 a,.int .i64 b]:=Z
theorem yl(w:World)(a b:Obj)(t:TypeId)(cs:Array Value):aC (((w.alloc a).alloc (.cells cs t)).alloc b) (w.heap.size+1) t cs:=ax ((cu (w.alloc a) t cs).alloc b)
theorem yn(w:World)(a cI:Obj)(t:TypeId)(cs:Array Value):aC (((w.alloc a).alloc cI).alloc (.cells cs t)) (w.heap.size+2) t cs:=ax (cu ((w.alloc a).alloc cI) t cs)
def kp(l:List iO):Nat:=(l.filter (λ e=>e.kind==1)).length
theorem LO(l):kp l<=l.length:=nC _ _
theorem Ic(l e):kp (l++[e])=kp l+(if e.kind=1 then 1 else 0):=by unfold kp;rw[vM,gp];by_cases h:e.kind=1<;>simp[h]
theorem AB(b e):∀(l:List iO) (o:Int),ix b o (l++[e])=ix b o l++(if e.kind=1 then [⟨b,o+kp l,e.dst,e.val⟩]else [])
 |[],o=>by simp[ix,kp]
 |x::l,o=>by
  rw[List.cons_append,ix,ix]
  by_cases a:x.kind=1
  ·rw[di a,di a,AB b e l (o+1),List.cons_append]
   have:kp (x::l)=kp l+1:=by simp[kp,a]
   have c:o+1+(kp l:Int)=o+((kp l+1:Nat):Int):=O
   rw[this,c]
  ·rw[dg a,dg a,AB b e l o]
   have:kp (x::l)=kp l:=by simp[kp,a]
   rw[this]
theorem xX(a e):∀l:List iO,iP a (l++[e])=iP a l++(if e.kind=1 then []else [⟨a,e.val⟩])
 |[]=>by simp[iP]
 |x::l=>by
  rw[List.cons_append,iP,iP]
  by_cases b:x.kind=1
  ·rw[di b,di b,xX a e l]
  ·rw[dg b,dg b,xX a e l,List.cons_append]
theorem uK(a):∀(l:List iO) (o:Int),(ix a o l).length<=l.length
 |[],_=>by simp[ix]
 |x::l,o=>by
  rw[ix]
  split
  ·have:=uK a l (o+1);simp;omega
  ·have:=uK a l o;simp;omega
theorem wN(a):∀l:List iO,(iP a l).length<=l.length
 |[]=>by simp[iP]
 |x::l=>by
  rw[iP]
  split
  ·have:=wN a l;simp;omega
  ·have:=wN a l;simp;omega
def lj(S:Nat->Prop)(w ae:World)(i:Nat):Prop:=S i\/(w.heap.size<=i/\i<ae.heap.size)
def pG(S:Nat->Prop)(s:de)(w:World)(e:Ending)(ae:World):Prop:=∃cs,e=.returned (.agg cs.toArray)/\ec ae (lj S w ae) cs s/\ab w ae
theorem lj.lt{S w ae}(a:∀i,S i->i<w.heap.size)(c:w.heap.size<=ae.heap.size):∀i,lj S w ae i->i<ae.heap.size:=λ i b=>b.elim (λ h=>cQ (a i h) c) (λ h=>h.2)
theorem lj.mono{S w W a b}(h1:w.heap.size<=W.heap.size)(h2:a.heap.size<=b.heap.size):∀i,lj S W a i->lj S w b i:=λ i c=>c.elim .inl (λ h=>.inr ⟨O,O⟩)
def vH(B:Nat)(c:Int)(s:de)(dh:List iO)(W:World)(a b o i:Value)(wr:World):Prop:=
 ∃k:Nat,k<=dh.length/\i=.int .i64 k/\o=.int .i64 (kp (dh.take k))/\wr.ownsRow B 40 4 a (s.cD++ix c 0 (dh.take k)).length ((s.cD++ix c 0 (dh.take k)).flatMap dF)/\
  wr.ownsRow B 166 2 b (s.outs++iP c (dh.take k)).length ((s.outs++iP c (dh.take k)).flatMap mJ)/\(∀g,a.ownBlock=some g->b.ownBlock≠some g)/\aw (·<B) W wr
theorem vE{α:Type}{enc:α->List Value}(h:∀a,∀u∈enc a,u.oneCell'=true)(l:List α):∀u∈l.flatMap enc,u.oneCell'=true:=λ u hu=>by obtain⟨x,_,b⟩:=td.1 hu;exact h x u b
theorem BS(n:Nat)(w S cs s A)(m c:Nat)(body v)(r:Int)(u:∀i,S i->i<w.heap.size)(k9:ec w S cs s)(R:cN w S 18 (cU w S n) A m c body)(h1:s.cells.length<=1000000)(h2:s.cD.length<=1000000)(aA:s.outs.length<=1000000):Calls Tryz.prog 54 #[.agg cs.toArray,.slice A m c,.agg #[v.self,v.procs,v.aH,v.val],r] w (pG S (jw v body s.cells r s) w):=by
 obtain⟨c7,U,bY,cC,c4,c_,a3,V,b3,b9,b4,b_,rfl,B,t,b0,b1⟩:=k9;obtain⟨i0,H,a1,a2,a4⟩:=eO vO;obtain⟨h',L,a5,a6,a7⟩:=eO Ld;have M:=B.1;have P:=b0.1;have Q:=b1.1;have k8:c4<=1000000:=O;have m4:b3<=1000000:=O;have m5:b4<=1000000:=O;generalize q:((w.alloc (.cells #[.slice c7 c4 c_,.slice U a3 V,.slice bY b3 b9,.slice cC b4 b_] 38)).alloc (.cells #[v.self,v.procs,v.aH,v.val] 133)).alloc (.cells Pt 38)=W;have z:ab w W:=q▸eL (eL (cx w _) _) _;have a9:aC W w.heap.size 38 #[.slice c7 c4 c_,.slice U a3 V,.slice bY b3 b9,.slice cC b4 b_]:=q▸((cu w _ _).alloc _).alloc _;have G:aC W (w.heap.size+1) 133 #[v.self,v.procs,v.aH,v.val]:=q▸yl w _ _ _ _;have y:aC W (w.heap.size+2) 38 Pt:=q▸yn w _ _ _ _;have n1:w.heap.size+2<W.heap.size:=y.lt;have a':W.cell? ⟨w.heap.size,0,none⟩=some (.slice c7 c4 c_):=by rw[a9.cell];rfl
 have F:∀i,S i->i<W.heap.size:=λ i d=>an (u i d);have l:=cS z u;have q1:=B.aq l;have q2:=(t.aq l);have aI:=(b0.aq l);have aQ:=(b1.aq l);have a0:=R.aq l (fa l _);have D:True:=aD;obtain⟨e2,j2,h_,i8,i9,b8,j7,j8,j9⟩:=df u z a9 G y F q1 q2 aI;obtain⟨gv,j6,f_,g1,g4,g5,g0,g6,g7⟩:=df aQ a0 H a1 a2 a4 L a5 a6;obtain⟨g8,l6,j3,j4⟩:=cH a7 M P Q;clear u z a9 G y F q1 q2 aI aQ a0 H a1 a2 a4 L a5 a6 a7 M P Q B t b0 b1 R l;go_enter func54,ntmps54;go_wp2_with(refine ew I _ (.tmp 6) I (w.heap.size+1) 133 [v.self,v.procs,v.aH,v.val] _ I i8.o pH I Z ?_);clear q;refine(GC n W S A c7 m c c4 c_ body s.cells v b8.o j6.o j7.o k8).mono ?_;rintro e n3 ⟨C,E,f,rfl,q,u,B,M⟩;obtain⟨a5,a8,hC,m8,l9⟩:=dZ q;subst hC;obtain⟨k_,ce,l,m9,l_⟩:=dZ u;subst l;have m':=M.size;have y:=M.ay h_.o O;have z:=M.ay i9.o O;have k7:=(rA v body s.cells).2;generalize hF:ij v body s.cells=l at q u k7;have F:jw v body s.cells r s={s with cells:=l.cells,cD:=s.cD++ix r 0 l.dh,outs:=s.outs++iP r l.dh}:=by rw[<-hF];rfl
 obtain⟨e_,f',l1,a7,i7,i',l5,c9⟩:=fl q u B M y z hF F;clear q u B M y z hF F a';go_upto_region 3 with(refine dO rfl _ (.tmp 26) _ rfl w.heap.size 0 38 _ (.slice a5 l.cells.length a8) rfl rfl i7.o aT Z rfl rfl ?_;intro q G t);have u:aC q w.heap.size 38 #[.slice a5 l.cells.length a8,.slice U a3 V,.slice bY b3 b9,.slice cC b4 b_]:=ax G;have m_:=t.size;have Q:ab w q:=zv (aM j2.o a7.o) t (dq _);have H:=t.ay i'.o O;have L:=fu e_.o t (λ b z e=>an ((e_.o.lt b z).1));have P:=fu f'.o t (λ b z e=>an ((f'.o.lt b z).1));have a2:∀J,ab q J->J.cell? ⟨w.heap.size,2,none⟩=some (.slice bY b3 b9):=λ J B=>(B.cell (p:=⟨w.heap.size,2,none⟩) u.lt).trans (by rw[u.cell];rfl);have a4:∀J,ab q J->J.cell? ⟨w.heap.size,3,none⟩=some (.slice cC b4 b_):=λ J B=>(B.cell (p:=⟨w.heap.size,3,none⟩) u.lt).trans (by rw[u.cell];rfl);have y:aw (λ i=>i<W.heap.size/\i≠w.heap.size) W q:=bR (cS a7.o (λ i d=>d.1)) t (λ i d=>d.2);have F:∀i,S i->i<W.heap.size/\i≠w.heap.size:=λ i d=>⟨b8.o i d,an (e2.o i d)⟩;have R:=j8.o.aq (y.mono F);have a0:=(j9.o.aq (y.mono F)).more (T:=λ i=>i<q.heap.size) (λ i d=>an (b8.o i d));have a1:=(gv.o.aq (y.mono F)).more (T:=λ i=>i<q.heap.size) (λ i d=>an (b8.o i d));clear G t y F;obtain⟨d_,j1,e0,c8,j0,j',j_,k0⟩:=fl u Q H L P R a0 a1;clear u Q H L P R a0 a1;refine eE 99 (λ _=>True) (λ J=>ab q J) Z aD (dx (aN _ _)) (λ _ y=>?_);refine ag 0 (h:=ag 1 (h:=ag 3 (h:=ag 4 (h:=?_))));clear a2 a4;refine aV 2 λ K F=>?_;refine iL _ ba (.const (.slice none 0 0)) (.tmp 28) _ ba q.heap.size 40 i0 _ 4 32 gA f_.o g1.o g4.o g5.o I O (.slice none 0 0) 0 [] ba (ee _ _ _ _) _ bY b3 b9 (s.cD.flatMap dF) ba (j_.o.aq (dx (aN _ _))).2.2.2 (vE nY _) dQ O y.size ?_;intro eP b6 a1 R a';have G:ab q b6:=fh y (ee _ q.heap.size 40 4) R (λ i d=>d) y.size;have L:b6.ownsRow q.heap.size 40 4 eP s.cD.length (s.cD.flatMap dF):=by have:=j3.o;simpa [this]using a1
 refine aZ F aD G ?_;clear F K D y;intro D y;refine aV 5 λ K F=>?_;refine iL _ ba (.const (.slice none 0 0)) (.tmp 31) _ ba b6.heap.size 166 h' _ 2 16 nz g0.o g6.o g7.o g8.o I O (.slice none 0 0) 0 [] ba (ee _ _ _ _) _ cC b4 b_ (s.outs.flatMap mJ) ba (k0.o.aq G).2.2.2 (vE Ea _) dQ O (dq _) ?_;intro eC d' a4 a0 a_;have H:ab b6 d':=fh (aN _ _) (ee _ b6.heap.size 166 2) a0 (λ i d=>d) (dq _);have c2:ab q d':=aM G H;have P:d'.ownsRow b6.heap.size 166 2 eC s.outs.length (s.outs.flatMap mJ):=by have:=j4.o;simpa [this]using a4
 have a2:=dy L H (λ i d=>d.2);have Q:∀g,eP.ownBlock=some g->eC.ownBlock≠some g:=λ g u t=>by have h1:=(L.lt g u).2;have h2:=(P.lt g t).1;omega
 refine aZ F aD c2 ?_;clear F K D y;intro D y;refine ag 6 (h:=ag 7 (h:=?_));refine cg Z ?_;have a6:vH q.heap.size r s l.dh q eP eC (.int .i64 0) (.int .i64 0) d':=⟨0,ef _,I,by simp[kp],by simpa [ix]using a2,by simpa [iP]using uR P G.size,Q,c2⟩;have j5:=ai a6;clear a6 G c2 H a1 L a4 P a2 Q R a0 a' a_ D y;go_wp2_with fail;go_loopw[12,13,14,15] (λ a b o i wr=>vH q.heap.size r s l.dh q a b o i wr) (λ _ _ _ i _=>l.dh.length- (intOf i).toNat);case atStart=>exact j5.o
 obtain⟨k,d9,rfl,rfl,H,L,a',Q⟩:=hrel;obtain⟨a,G⟩:=aW (u12:Value);subst G;obtain⟨b,G⟩:=aW (u13:Value);subst G;have n0:=Q.size;have g_:=LO (l.dh.take k);have h5:(l.dh.take k).length<=8:=by rw[jm];omega
 have h8:=uK r (l.dh.take k) 0;have h9:=wN r (l.dh.take k);have h6:(s.cD++ix r 0 (l.dh.take k)).length<=1000008:=by rw[gp];omega
 have h7:(s.outs++iP r (l.dh.take k)).length<=1000008:=by rw[gp];omega
 by_cases e8:k<l.dh.length
 ·obtain⟨l0,l7,k6,P⟩:=nS j0.o;injection k6 with G _ R;subst G R;have a2:=(P.more (T:=λ i=>i<q.heap.size) (λ i d=>d.2)).aq Q;obtain⟨be,b5,x,rfl,R,B,G⟩:=a2.at_ LU e8;have e6:∀J,aw (·<q.heap.size) wr J->J.cell? ⟨be,b5+k*3,none⟩=some (.int .i64 x.kind):=λ J B=>(B.cell (p:=⟨be,b5+k*3,none⟩) R).trans (G 0 _ I);have g9:∀J,aw (·<q.heap.size) wr J->J.cell? ⟨be,b5+k*3+1,none⟩=some (.int .i64 x.dst):=λ J B=>(B.cell (p:=⟨be,b5+k*3+1,none⟩) R).trans (G 1 _ I);have e7:∀J,aw (·<q.heap.size) wr J->J.cell? ⟨be,b5+k*3+2,none⟩=some (.int .i64 x.val):=λ J B=>(B.cell (p:=⟨be,b5+k*3+2,none⟩) R).trans (G 2 _ I);have f0:=e6 wr (aN _ _);have f2:=e7 wr (aN _ _);have k5:decide (k<l.dh.length)=true:=ax e8;have m0:(0:Int)<=k:=O;have m2:(k:Int)<l.dh.length:=O;have M:k+1<=l.dh.length:=O;have a4:=(wS B).1;have t1:=AB r x (l.dh.take k) 0;have t2:=xX r x (l.dh.take k);have t3:=Ic (l.dh.take k) x;rw[<-a4]at t1 t2 t3;generalize a0:s.cD++ix r 0 (l.dh.take k)=X at H h6;generalize a1:s.outs++iP r (l.dh.take k)=Y at L h7;generalize g':kp (l.dh.take k)=N at*;have l8:N<=8:=O;clear P a2 G B a4 h8 h9 h5 g_;by_cases a_:x.kind=1
  ·have c2:(x.kind==1)=true:=ax a_;rw[di a_]at t1 t2 t3;have D:True:=aD;have c5:s.cD++ix r 0 (l.dh.take (k+1))=X++[⟨r,N,x.dst,x.val⟩]:=(by rw[t1,<-pV,a0];simp);have c6:s.outs++iP r (l.dh.take (k+1))=Y:=(by rw[t2,Ac];exact a1);clear t1 t2 a0 a1 g' f2 a_;obtain⟨B,G,a6,b7,e3,e4,e5,a7,i_⟩:=df H L a' Q c5 c6 t3 M R;clear H L a' Q c5 c6 t3 M R;as_aux_lemma=>
   go_upto_region 9 with fail;clear f0 e6;refine eE 99 (λ _=>True) (λ J=>aw (·<q.heap.size) wr J) Z aD (dx (aN _ _)) (λ _ y=>?_);refine ag 0 (h:=ag 1 (h:=ag 2 (h:=ag 3 (h:=ag 4 (h:=ag 5 (h:=ag 6 (h:=ag 7 (h:=ag 8 (h:=ag 9 (h:=ag 10 (h:=ag 11 (h:=ag 12 (h:=ag 13 (h:=?_))))))))))))));clear g9 e7;refine aV 14 λ K F=>?_;refine gl I _ _ _ _ I gA _ [(0,.agg #[r,N,x.dst,x.val])] I (KX _ _ _ _) ?_;have P:ab wr (wr.drew.alloc (.cells #[r,N,x.dst,x.val] 40)):=eL (dx (aN _ _)) _;refine aZ F aD (P.mono (λ i d=>O)) ?_;clear F K D y;intro D y;refine aV 15 λ K F=>?_;refine iL _ ba (.tmp 45) (.tmp 59) _ ba q.heap.size 40 i0 _ 4 32 gA f_.o g1.o g4.o g5.o I O a X.length (X.flatMap dF) ba (dy B.o P (λ i d=>d.2)) _ (some ⟨wr.heap.size,0,none⟩) 1 1 (dF ⟨r,N,x.dst,x.val⟩) ba (eW (w:=wr.drew) I) (nY _) dQ O (an P.size) ?_;intro e9 a4 c3 c1 c0;have a2:aw (λ i=>i<wr.heap.size/\a.ownBlock≠some i) wr a4:=jA (P.mono (λ i d=>d.1)) c1 (λ i d=>cQ d.1 P.size) (λ k d9 t=>t.2 d9);have b2:aw (·<q.heap.size) wr a4:=a2.mono (λ i d=>⟨O,λ t=>an ((B.o.lt i t).1)⟩);refine aZ F aD b2 ?_;clear F K D y;intro D y;refine ag 16 (h:=?_);refine cg Z ?_;have F:vH q.heap.size r s l.dh q e9 b (.int .i64 (N+1)) (.int .i64 (k+1)) a4:=by
    refine⟨k+1,a7.o,aT,?_,?_,?_,?_,bR b7.o b2 (λ _ h=>h)⟩
    ·rw[e5.o];simp
    ·rw[e3.o];simpa using c3
    ·rw[e4.o];exact fu G.o a2 (λ g u=>⟨(G.o.lt g u).2,λ t=>a6.o g t u⟩)
    intro g u t;rcases c0 with h|h
    ·rw[h]at u;exact a6.o g u t
    rw[h]at u;injection u with u;have h1:=(G.o.lt g t).2;have k':wr.heap.size<=g:=(by rw[<-u];simp);omega
   have e1:=ai F;clear F a2 b2 c3 c1 c0 P D y;go_wp2_with fail;go_roundw;case rel=>exact e1.o
   case measure=>exact bS
  have c2:(x.kind==1)=false:=ax a_;rw[dg a_]at t1 t2 t3;have c5:s.cD++ix r 0 (l.dh.take (k+1))=X:=by rw[t1,Ac];exact a0
  have c6:s.outs++iP r (l.dh.take (k+1))=Y++[⟨r,x.val⟩]:=by rw[t2,<-pV,a1]
  clear t1 t2 a0 a1 g' a_ e6 g9 e7;obtain⟨B,G,a6,b7,e3,e4,e5,a7,i_⟩:=df H L a' Q c5 c6 t3 M R;clear H L a' Q c5 c6 t3 M R;as_aux_lemma=>
  go_wp2_with(first|(refine gJ I _ _ _ _ I nz _ [(0,.agg #[r,x.val])] I (Hu _ _) ?_)|(refine fe _ I (.tmp 63) (.tmp 71) _ I q.heap.size 166 h' _ 2 16 nz g0.o g6.o g7.o g8.o I O b Y.length (Y.flatMap mJ) I (dy G.o (cx wr _) (λ i d=>d.2)) _ (some ⟨wr.heap.size,0,none⟩) 1 1 (mJ ⟨r,x.val⟩) I (eW I) (Ea _) dQ O aY ?_;intro e9 a4 c3 c1 c0;have c6:=ai c3;have c5:=ai c1;have a_:=ai c0;clear c3 c1 c0));have P:ab wr (wr.alloc (.cells #[r,x.val] 166)):=cx _ _;have a2:aw (λ i=>i<wr.heap.size/\b.ownBlock≠some i) wr a4:=jA (P.mono (λ i d=>d.1)) c5.o (λ i d=>cQ d.1 P.size) (λ k d9 t=>t.2 d9);have b2:aw (·<q.heap.size) wr a4:=a2.mono (λ i d=>⟨O,λ t=>an ((G.o.lt i t).1)⟩);have F:vH q.heap.size r s l.dh q a e9 (.int .i64 N) (.int .i64 (k+1)) a4:=by
   refine⟨k+1,a7.o,aT,?_,?_,?_,?_,bR b7.o b2 (λ _ h=>h)⟩
   ·rw[e5.o];simp
   ·rw[e3.o];exact fu B.o a2 (λ g u=>⟨(B.o.lt g u).2,λ t=>a6.o g u t⟩)
   ·rw[e4.o];simpa using c6.o
   intro g u t;rcases a_.o with h|h
   ·rw[h]at t;exact a6.o g u t
   rw[h]at t;injection t with t;have h1:=(B.o.lt g u).2;have k':wr.heap.size<=g:=(by rw[<-t];simp);omega
  have e1:=ai F;clear F a2 b2 P;go_roundw;case rel=>exact e1.o
  case measure=>exact bS
 have k5:decide (k<l.dh.length)=false:=ax e8;have a2:l.dh.take k=l.dh:=hU O;rw[a2]at H L;generalize a0:s.cD++ix r 0 l.dh=X at H;generalize a1:s.outs++iP r l.dh=Y at L;have y:=c9.o;rw[a0,a1]at y;clear a0 a1 c9;have c9:=ai y;clear y;obtain⟨y,F,D,m6,g'⟩:=dZ H;subst D;obtain⟨D,M,R,m7,m3⟩:=dZ L;subst R;have R:=Q.ay d_.o d_.o.lt;have P:=Q.ay e0.o e0.o.lt;have dR:=d_.o.lt;have n2:=e0.o.lt;obtain⟨B,G,a6,b7,c0,b2⟩:=er H L a' Q R P;clear H L a' Q R P a2 h8 h9 h5 g_ h6 h7;as_aux_lemma=>
 go_upto_region 13 with(first|(refine dO rfl _ (.tmp 75) _ rfl w.heap.size 2 38 _ (.slice y X.length F) rfl rfl c0.o aT Z rfl rfl ?_;intro h5 H b0;have L:=ai H;have Q:=ai b0;clear H b0)|(refine dO rfl _ (.tmp 76) _ rfl w.heap.size 3 38 _ (.slice D Y.length M) rfl rfl L.o aT Z rfl rfl ?_;intro a2 a9 b1;have P:=ai a9;have R:=ai b1;clear a9 b1));have a1:aC a2 w.heap.size 38 #[.slice a5 l.cells.length a8,.slice U a3 V,.slice y X.length F,.slice D Y.length M]:=ax P.o;have H:aw (·≠w.heap.size) wr a2:=bR Q.o R.o (λ _ h=>h);have a0:=H.ay b2.o O;clear P R L Q;obtain⟨a',b0,a9⟩:=cf a1 H a0;clear a1 H a0;go_wp2_with(first|(refine ew I _ (.tmp 4) I w.heap.size 38 [.slice a5 l.cells.length a8,.slice U a3 V,.slice y X.length F,.slice D Y.length M] _ I a'.o qT I Z ?_)|(refine db I _ (.tmp 8) (.tmp 77) I (w.heap.size+2) 38 _ [.slice a5 l.cells.length a8,.slice U a3 V,.slice y X.length F,.slice D Y.length M] I I a9.o I Z I ?_;intro R H L;have a0:=ai H;have a1:=ai L;clear H L));refine dS (gP results54 _ _ _ ⟨w.heap.size+2,0,none⟩ _ I (ez [.slice a5 l.cells.length a8,.slice U a3 V,.slice y X.length F,.slice D Y.length M] _ a0.o (λ j v H=>ax H) qT I Z)) I ?_;have H:aw (λ i=>i≠w.heap.size/\i≠w.heap.size+2) wr R:=bR (b0.o.mono (λ i d=>d.1)) a1.o (λ i d=>d.2);have g_:=H.size;have Q:aw (λ i=>i<q.heap.size/\i≠w.heap.size/\i≠w.heap.size+2) q R:=bR (b7.o.mono (λ i d=>d.1)) H (λ i d=>d.2);refine⟨_,I,?_,?_⟩
 ·rw[c9.o];have e6:=fu c8.o Q (λ b z=>⟨(c8.o.lt b z).2,an ((c8.o.lt b z).1),an ((c8.o.lt b z).1)⟩);have e7:=fu B.o H (λ b z=>⟨an ((B.o.lt b z).1),an ((B.o.lt b z).1)⟩);have g9:=fu G.o H (λ b z=>⟨an ((G.o.lt b z).1),an ((G.o.lt b z).1)⟩);obtain⟨_,_,z,p1⟩:=nS e6;obtain⟨_,_,L,aK⟩:=nS e7;obtain⟨_,_,P,aR⟩:=nS g9;injection z with z _ b1;injection L with L _ c1;injection P with P _ c3;subst z b1 L c1 P c3;refine⟨_,_,_,_,_,_,_,_,_,_,_,_,I,p1.more (λ i d=>.inr ⟨an d.1,d.2⟩),?_,aK.more (λ i d=>.inr ⟨an d.1,d.2⟩),aR.more (λ i d=>.inr ⟨an d.1,d.2⟩)⟩;exact(j'.o.aq (Q.mono (λ i d=>⟨an (b8.o i d),an (e2.o i d),an (e2.o i d)⟩))).more (λ i d=>.inl d)
 exact bR j1.o Q (λ i d=>⟨O,O,O⟩)
end Go.Proofs.YtdhklhebgclcoaaGreatDoor
