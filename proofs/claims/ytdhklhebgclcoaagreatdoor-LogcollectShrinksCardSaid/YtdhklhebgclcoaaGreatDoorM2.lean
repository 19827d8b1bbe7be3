import Derived.Deep.AppendSrc
import Derived.Test.YtdhklhebgclcoaaGreatDoorM1
set_option linter.unusedVariables false
set_option linter.unusedSimpArgs false
set_option maxRecDepth 100000
set_option maxHeartbeats 32000000
namespace Go.Proofs.YtdhklhebgclcoaaGreatDoor
open Go.Proofs.Tryz Go.RowKit
section
open Go.Proofs
def iE(w:World)(S:Nat->Prop)(cs:List Value)(c:eb):Prop:=∃(a b d bY cC:Option Addr) (j e cL f k g l h m i:Nat),cs=[.slice a j e,.slice b cL f,.slice d k g,.slice bY l h,.slice cC m i]/\bl bE 1 w S a j e c.init/\cN w S 18 (cU w S 3) b cL f c.start/\cN w S 18 (cU w S 3) d k g c.message/\cN w S 18 (cU w S 3) bY l h c.tick/\cN w S 18 (cU w S 3) cC m i c.input/\c.init.length<=1000000
theorem iE.aq{w ae S cs c}(h:iE w S cs c)(a:aw S w ae):iE ae S cs c:=by obtain⟨b,d,f,bY,cC,n,g,cL,i,o,j,p,k,q,l,e,h0,h1,h2,aA,aS,m⟩:=h;exact⟨b,d,f,bY,cC,n,g,cL,i,o,j,p,k,q,l,e,h0.aq a,h1.aq a (fa a _),h2.aq a (fa a _),aA.aq a (fa a _),aS.aq a (fa a _),m⟩
theorem iE.more{w S T cs c}(h:iE w S cs c)(a:∀i,S i->T i):iE w T cs c:=by obtain⟨b,d,f,bY,cC,o,g,cL,j,p,k,q,l,r,m,e,h0,h1,h2,aA,aS,n⟩:=h;exact⟨b,d,f,bY,cC,o,g,cL,j,p,k,q,l,r,m,e,h0.more a,h1.more a (fP a _),h2.more a (fP a _),aA.more a (fP a _),aS.more a (fP a _),n⟩
theorem qh{w S cs s}(h:ec w S cs s):∃(a b c d:Option Addr) (p1 q1 p2 q2 aK aI aR aQ:Nat),cs=[.slice a p1 q1,.slice b p2 q2,.slice c aK aI,.slice d aR aQ]/\ec w S [.slice a p1 q1,.slice b p2 q2,.slice c aK aI,.slice d aR aQ] s:=by have l:=h;obtain⟨e,f,bY,cC,m,g,n,i,o,j,p,k,rfl,_⟩:=h;exact⟨e,f,bY,cC,m,g,n,i,o,j,p,k,I,l⟩
theorem HB{S w W c d cs s b}(f:∀i,S i->i<w.heap.size)(g:w.heap.size<=W.heap.size)(h:ec c (lj S W c) cs s)(au:aw (·≠b) c d)(h1:w.heap.size<=b)(h2:b<W.heap.size):ec d (lj S w d) cs s:=
 (h.aq (au.mono (λ i a e=>a.elim (λ a=>an (f i a)) (λ a=>O)))).more (lj.mono g au.size)
theorem rW{w:World}{b:Nat}{cs:List Value}(c:cs.length=4)(a:aC w b 38 cs.toArray):(loadVar 38 ⟨b,0,none⟩).run Tryz.prog w=.ok (.agg cs.toArray) w:=ez cs _ a (λ j v d=>ax d) qT I (by rw[c];kernel_rfl)
theorem Ee(w S cs c)(self procs:Int)(h:∀i,S i->i<w.heap.size)(av:iE w S cs c):Calls Tryz.prog 41 #[.agg cs.toArray,self,procs] w (pG S (ky c self procs) w):=by
 obtain⟨a,b,q,bY,cC,k,d,cL,f,x,r,y,s,z,t,rfl,h0,h1,h2,aA,aS,u⟩:=av;generalize l:(w.alloc (.cells #[.slice a k d,.slice b cL f,.slice q x r,.slice bY y s,.slice cC z t] 87)).alloc (.cells Pt 38)=W;have p:ab w W:=l▸eL (cx w _) _;have m:aC W w.heap.size 87 #[.slice a k d,.slice b cL f,.slice q x r,.slice bY y s,.slice cC z t]:=l▸(cu w _ _).alloc _;have n:aC W (w.heap.size+1) 38 Pt:=l▸(by simpa using cu (w.alloc _) _ _);have L:w.heap.size+1<W.heap.size:=n.lt;have N:W.cell? ⟨w.heap.size,0,none⟩=some (.slice a k d):=by rw[m.cell];rfl
 have P:W.cell? ⟨w.heap.size,1,none⟩=some (.slice b cL f):=by rw[m.cell];rfl
 have j:=cS p h;have key:=BS 3 W S [.slice a k d,.slice none 0 0,.slice none 0 0,.slice none 0 0] ⟨c.init,[],[],[]⟩ b cL f c.start ⟨self,procs,self,0⟩ 0 (λ i v=>an (h i v)) ⟨_,_,_,_,_,_,_,_,_,_,_,_,I,h0.aq j,iq,iq,iq⟩ (h1.aq j (fa j _)) u aT aT;have v:jw ⟨self,procs,self,0⟩ c.start (de.mk c.init [] [] []).cells 0 ⟨c.init,[],[],[]⟩=ky c self procs:=I;rw[v]at key;obtain⟨H,E,B⟩:=cf key p n;clear key p n;have F:=ai h;clear h h0 h1 h2 aA aS u m j v;go_enter func41,ntmps41;go_wp2_with fail;refine H.o.mono ?_;rintro e R ⟨M,rfl,K,h⟩;have j:=h.ay B.o L;obtain⟨n,p,u,v,p1,q1,p2,q2,aK,aI,aR,aQ,rfl,g⟩:=qh K;have Q:=h.size;obtain⟨D,A,G⟩:=cf h j g;clear h j g;go_wp2_with(refine db I _ (.tmp 6) (.tmp 16) I (w.heap.size+1) 38 _ [.slice n p1 q1,.slice p p2 q2,.slice u aK aI,.slice v aR aQ] I I A.o I Z I ?_;intro T j m;have C:=ai j;have h:=ai m;clear j m);refine dS (gP results41 _ _ _ ⟨w.heap.size+1,0,none⟩ _ I (rW I C.o)) I ?_;exact⟨_,I,HB F.o (Nat.le_of_lt O) G.o h.o O O,zv (aM E.o D.o) h.o O⟩
theorem KK(w:World)(a b c:Obj)(t:TypeId)(cs:Array Value):aC ((((w.alloc a).alloc (.cells cs t)).alloc b).alloc c) (w.heap.size+1) t cs:=(yl w a b t cs).alloc c
theorem IK(w:World)(a cI b:Obj)(t:TypeId)(cs:Array Value):aC ((((w.alloc a).alloc cI).alloc (.cells cs t)).alloc b) (w.heap.size+2) t cs:=(yn w a cI t cs).alloc b
theorem JP(w:World)(a cI b:Obj)(t:TypeId)(cs:Array Value):aC ((((w.alloc a).alloc cI).alloc b).alloc (.cells cs t)) (w.heap.size+3) t cs:=ax (cu (((w.alloc a).alloc cI).alloc b) t cs)
theorem DA(a b c d e f g:Int):fc Tryz.prog 50 1 [(0,.agg #[a,b,c,d,e,f,g])]=some #[.int .i64 a,.int .i64 b,.int .i64 c,.int .i64 d,.int .i64 e,.int .i64 f,.int .i64 g]:=Z
def zH(W:World)(b:Nat)(x y z:Value)(a:List bz)(J:World):Prop:=∃A c,aC J b 38 #[x,.slice A a.length c,y,z]/\bl dG 7 J (λ i=>W.heap.size<=i/\i<J.heap.size) A a.length c a/\aw (λ i=>i<W.heap.size/\i≠b) W J
theorem Fe(w S cs cr c s)(self procs:Int)(x)(d:∀i,S i->i<w.heap.size)(av:iE w S cs c)(au:ec w S cr s)(h1:s.cells.length<=1000000)(h2:s.cD.length<=1000000)(aA:s.outs.length<=1000000)(aS:s.events.length<=1000000):Calls Tryz.prog 90 #[.agg cs.toArray,self,procs,.agg cr.toArray,.agg (dG x).toArray] w (pG S (gC c self procs s x) w):=by
 obtain⟨d_,e0,a8,bY,cC,e9,e5,cL,e6,c0,b7,c1,b8,c2,b9,rfl,u0,u1,u2,u3,u4,u5⟩:=av;obtain⟨l,a3,q,r,p1,q1,p2,q2,aK,aI,aR,aQ,rfl,t,bX,g3,y⟩:=au;obtain⟨i0,z,D,E,F⟩:=eO HM;have B:=bX.1;have j5:p2<=1000000:=O;show Calls Tryz.prog 90 #[.agg #[.slice d_ e9 e5,.slice e0 cL e6,.slice a8 c0 b7,.slice bY c1 b8,.slice cC c2 b9],self,procs,.agg #[.slice l p1 q1,.slice a3 p2 q2,.slice q aK aI,.slice r aR aQ],.agg #[x.kind,x.inc,x.aH,x.bI,x.bb,x.ord,x.val]] w _;generalize a:(((w.alloc (.cells #[.slice d_ e9 e5,.slice e0 cL e6,.slice a8 c0 b7,.slice bY c1 b8,.slice cC c2 b9] 87)).alloc (.cells #[.slice l p1 q1,.slice a3 p2 q2,.slice q aK aI,.slice r aR aQ] 38)).alloc (.cells #[x.kind,x.inc,x.aH,x.bI,x.bb,x.ord,x.val] 50)).alloc (.cells Pt 38)=W;have k:ab w W:=a▸ab.alloc (ab.alloc (ab.alloc (ab.new w _) _) _) _;have g8:=cE (aC W w.heap.size 87 #[.slice d_ e9 e5,.slice e0 cL e6,.slice a8 c0 b7,.slice bY c1 b8,.slice cC c2 b9]) (a▸(((cu w _ _).alloc _).alloc _).alloc _);have a5:=cE (aC W (w.heap.size+1) 38 #[.slice l p1 q1,.slice a3 p2 q2,.slice q aK aI,.slice r aR aQ]) (a▸KK w _ _ _ _ _);have e2:=cE (aC W (w.heap.size+2) 50 #[x.kind,x.inc,x.aH,x.bI,x.bb,x.ord,x.val]) (a▸IK w _ _ _ _ _);have g:aC W (w.heap.size+3) 38 Pt:=a▸JP w _ _ _ _ _;have j6:w.heap.size+3<W.heap.size:=g.lt;have C:=cS k d;have G:=bX.aq C;have f:True:=aD;obtain⟨a6,g9,g7,f_,c8,c_,d9,d',f'⟩:=df d k g G z D E F B;obtain⟨i_,j0,h5,h6,h7,j1,g4,h_,g5⟩:=df u0 u1 u2 u3 u4 u5 t bX g3;have g6:=ai y;clear d k g G z D E F B u0 u1 u2 u3 u4 u5 t bX g3 y C;go_enter func90,ntmps90;go_upto_region 1 with fail;clear a;go_cut[]from 12 to 18 (λ J=>zH W (w.heap.size+1) (.slice l p1 q1) (.slice q aK aI) (.slice r aR aQ) (s.events++[x]) J);case first=>
  have E:∀J,ab W J->J.cell? ⟨w.heap.size+1,1,none⟩=some (.slice a3 p2 q2):=λ J H=>(H.cell (p:=⟨w.heap.size+1,1,none⟩) a5.o.lt).trans (by rw[a5.o.cell];rfl);refine eE 7 (λ J=>ab W J) (λ _=>True) Z (dx (aN _ _)) aD (λ f g=>?_);refine aU 0 (h:=aU 1 (h:=?_));refine il 3 I (iS ba _ _ I (w.heap.size+2) 0 50 _ [x.kind,x.inc,x.aH,x.bI,x.bb,x.ord,x.val] _ I (λ J H=>H.1.ay e2.o e2.o.lt) (λ j u hu=>ax hu) mB I Z) ?_;clear E;refine gO (i:=2) (j:=4) Z (ed I (λ K d=>?_)) (ed I (λ K d=>?_))
  ·refine iL _ ba (.const (.slice none 0 0)) (.tmp 13) _ ba W.heap.size 50 i0 _ 7 56 hO c8.o c_.o d9.o d'.o I O (.slice none 0 0) 0 [] ba (World.ownsRow_nil _ _ _ _) _ a3 p2 q2 (s.events.flatMap dG) ba (f_.o.aq (dx (aN _ _))).2.2.2 (vE tA _) dQ O f.size ?_;intro eP B Q M U;have C:ab W B:=fh f (World.ownsRow_nil _ W.heap.size 50 7) M (λ i a=>a) f.size;have D:B.ownsRow W.heap.size 50 7 eP s.events.length (s.events.flatMap dG):=(by have:=f'.o;simpa [this]using Q);refine aZ d C aD ?_;clear d K f g;intro f g;refine aV 4 λ K d=>?_;refine gl I _ _ _ _ I hO _ [(0,.agg #[x.kind,x.inc,x.aH,x.bI,x.bb,x.ord,x.val])] I (DA _ _ _ _ _ _ _) ?_;have k:ab B (B.alloc (.cells #[x.kind,x.inc,x.aH,x.bI,x.bb,x.ord,x.val] 50)):=ab.new _ _;have P:=ab.trans C k;refine aZ d P aD ?_;clear d K f g;intro f g;refine aV 5 λ K d=>?_;refine iL _ ba (.tmp 14) (.tmp 16) _ ba W.heap.size 50 i0 _ 7 56 hO c8.o c_.o d9.o d'.o I O eP s.events.length (s.events.flatMap dG) ba (dy D k (λ i a=>a.2)) _ (some ⟨B.heap.size,0,none⟩) 1 1 (dG x) ba (eW I) (tA _) dQ O (P.size) ?_;intro eC c5 z N X;have y:ab W c5:=fh P (dy D k (λ i a=>a.2)) N (λ i a=>a) P.size;refine aZ d y aD ?_;clear d K f g;intro f g;obtain⟨V,a2,Y,h9,h8⟩:=dZ z;subst Y;refine aU 6 (h:=?_);refine aV 7 λ K d=>?_;refine ej I _ _ _ I (w.heap.size+1) 1 38 _ (.slice V (s.events.length+1) a2) I I (y.ay a5.o a5.o.lt) aT Z I I ?_;intro wc G t;have L:zH W (w.heap.size+1) (.slice l p1 q1) (.slice q aK aI) (.slice r aR aQ) (s.events++[x]) wc:=(by refine⟨V,a2,ax G,?_,bR (cS y (λ i a=>a.1)) t (λ i a=>a.2)⟩;have o:=fu z t (λ b F e=>an ((z.lt b F).1));have e_:wc.ownsRow W.heap.size 50 7 (.slice V (s.events.length+1) a2) (s.events++[x]).length ((s.events++[x]).flatMap dG):=ax o;obtain⟨_,_,e8,p⟩:=nS e_;injection e8 with E _ R;subst E R;exact p);refine dE d aD ?_;clear d K f g;intro g;have f:True:=aD;refine cg Z ?_;have e3:=ai L;clear L G t y k P C Q D z M N U X f g;go_wp2_with fail;go_meet;exact e3.o
  refine gl I _ _ _ _ I hO _ [(0,.agg #[x.kind,x.inc,x.aH,x.bI,x.bb,x.ord,x.val])] I (DA _ _ _ _ _ _ _) ?_;have k:ab W (W.drew.alloc (.cells #[x.kind,x.inc,x.aH,x.bI,x.bb,x.ord,x.val] 50)):=ab.alloc (dx (aN _ _)) _;have P:=eW (w:=W.drew) (e:=50) (cs:=dG x) (size:=7) (n:=1) I;have a4:W.heap.size<(W.drew.alloc (.cells #[x.kind,x.inc,x.aH,x.bI,x.bb,x.ord,x.val] 50)).heap.size:=aT;refine aZ d k aD ?_;clear d K f g;intro f g;generalize a1:W.drew.alloc (.cells #[x.kind,x.inc,x.aH,x.bI,x.bb,x.ord,x.val] 50)=B at*;have a0:dz B (λ i=>i=W.heap.size) 7 (some ⟨W.heap.size,0,none⟩) 1 (dG x):=a1▸P;clear a1 P;refine aV 2 λ K d=>?_;refine iL _ ba (.const (.slice none 0 0)) (.tmp 13) _ ba B.heap.size 50 i0 _ 7 56 hO c8.o c_.o d9.o d'.o I O (.slice none 0 0) 0 [] ba (World.ownsRow_nil _ _ _ _) _ a3 p2 q2 (s.events.flatMap dG) ba ((f_.o.more (T:=λ i=>i<W.heap.size) (λ i a=>an (a6.o i a))).aq k).2.2.2 (vE tA _) dQ O (Nat.le_refl _) ?_;intro eP c5 Q M U;have P:ab B c5:=fh (aN _ _) (World.ownsRow_nil _ B.heap.size 50 7) M (λ i a=>a) (Nat.le_refl _);have C:ab W c5:=ab.trans k P;have D:c5.ownsRow B.heap.size 50 7 eP s.events.length (s.events.flatMap dG):=by have:=f'.o;simpa [this]using Q
  refine aZ d C aD ?_;clear d K f g;intro f g;refine aV 5 λ K d=>?_;refine iL _ ba (.tmp 14) (.tmp 16) _ ba B.heap.size 50 i0 _ 7 56 hO c8.o c_.o d9.o d'.o I O eP s.events.length (s.events.flatMap dG) ba D _ (some ⟨W.heap.size,0,none⟩) 1 1 (dG x) ba (a0.aq (P.mono (λ i a=>O))) (tA _) dQ O (P.size) ?_;intro eC wd z N X;have y:ab W wd:=fh C D N (λ i a=>O) P.size;refine aZ d y aD ?_;clear d K f g;intro f g;obtain⟨V,a2,Y,h9,h8⟩:=dZ z;subst Y;refine aU 6 (h:=?_);refine aV 7 λ K d=>?_;refine ej I _ _ _ I (w.heap.size+1) 1 38 _ (.slice V (s.events.length+1) a2) I I (y.ay a5.o a5.o.lt) aT Z I I ?_;intro wc G t;have L:zH W (w.heap.size+1) (.slice l p1 q1) (.slice q aK aI) (.slice r aR aQ) (s.events++[x]) wc:=by refine⟨V,a2,ax G,?_,bR (cS y (λ i a=>a.1)) t (λ i a=>a.2)⟩;have o:=fu (uR z (Nat.le_of_lt a4)) t (λ b F e=>an ((z.lt b F).1));have e_:wc.ownsRow W.heap.size 50 7 (.slice V (s.events.length+1) a2) (s.events++[x]).length ((s.events++[x]).flatMap dG):=ax o;obtain⟨_,_,e8,p⟩:=nS e_;injection e8 with E _ R;subst E R;exact p
  refine dE d aD ?_;clear d K f g;intro g;have f:True:=aD;refine cg Z ?_;have e3:=ai L;clear L G t y k C P Q D z M N U X f g a0 a4;go_wp2_with fail;go_meet;exact e3.o
 obtain⟨C,ce,M,N,t⟩:=hcut;have j8:=t.size;generalize P:s.events++[x]=d at M N;have Q:d.length=s.events.length+1:=by rw[<-P];simp
 have X:=t.ay g8.o ⟨O,O⟩;have L:=t.ay e2.o ⟨O,O⟩;have U:=t.ay g7.o ⟨O,O⟩;have g:ab w wc:=bR g9.o t (λ i a=>⟨O,O⟩);obtain⟨T,f⟩:=aW (λ i=>S i\/(W.heap.size<=i/\i<wc.heap.size):Nat->Prop);have b_:∀i,S i->T i:=λ i a=>by rw[f];exact .inl a
 have y:∀i,T i->i<wc.heap.size:=λ i a=>by rw[f]at a;exact a.elim (λ h=>an (a6.o i h)) (λ h=>h.2)
 have G:∀i,T i->i<w.heap.size\/W.heap.size<=i:=λ i a=>by rw[f]at a;exact a.elim (λ h=>.inl (a6.o i h)) (λ h=>.inr h.1)
 have E:∀i,T i->lj S w wc i:=λ i a=>by rw[f]at a;exact a.elim .inl (λ h=>.inr ⟨O,h.2⟩)
 have D:=cS g a6.o;have R:ec wc T [.slice l p1 q1,.slice C d.length ce,.slice q aK aI,.slice r aR aQ] {s with events:=d}:=⟨_,_,_,_,_,_,_,_,_,_,_,_,I,(g4.o.aq D).more b_,N.more (λ i a=>by rw[f];exact .inr a),(g5.o.aq D).more b_,(g6.o.aq D).more b_⟩;have key:∀(J:World) (A:Option Addr) (m c:Nat) (body:List cd) (v:eS),ab wc J->cN w S 18 (cU w S 3) A m c body->Calls Tryz.prog 54 #[.agg #[.slice l p1 q1,.slice C d.length ce,.slice q aK aI,.slice r aR aQ],.slice A m c,.agg #[v.self,v.procs,v.aH,v.val],d.length] J (pG T (jw v body s.cells d.length {s with events:=d}) J):=λ J A m c body v H F=>BS 3 J T [.slice l p1 q1,.slice C d.length ce,.slice q aK aI,.slice r aR aQ] {s with events:=d} A m c body v d.length (λ i a=>Nat.lt_of_lt_of_le (y i a) H.size) (R.aq (H.mono y)) ((F.aq (cS (ab.trans g H) a6.o) (fa (cS (ab.trans g H) a6.o) _)).more b_ (fP b_ _)) h1 h2 aA;have fin:∀(J c3 z:World) (e7:List Value) (st:de),ab wc J->ab J c3->ec c3 (lj T J c3) e7 st->aw (·≠w.heap.size+3) c3 z->ec z (lj S w z) e7 st/\ab w z:=λ J c3 z e7 st H h1 h' au=>by
  have j_:=H.size;have k0:=h1.size;have k5:=au.size;refine⟨(h'.aq (au.mono (λ i a e=>?_))).more (λ i a=>?_),ab.write (ab.trans (ab.trans g H) h1) au O⟩
  ·rcases a with a|a
   ·rcases G i a with h|h<;>omega
   omega
  rcases a with a|a
  ·rcases E i a with h|h
   ·exact .inl h
   exact .inr ⟨h.1,O⟩
  exact .inr ⟨O,O⟩
 have Y:wc.cell? ⟨w.heap.size+2,6,none⟩=some (.int .i64 x.val):=by rw[L.cell];rfl
 have F:gC c self procs s x=if x.kind=1 then jw ⟨self,procs,x.aH,x.val⟩ c.message s.cells d.length {s with events:=d}else if x.kind=2 then jw ⟨self,procs,self,x.val⟩ c.tick s.cells d.length {s with events:=d}else if x.kind=3 then jw ⟨self,procs,self,x.val⟩ c.input s.cells d.length {s with events:=d}else {s with events:=d}:=by rw[Q,<-P];unfold gC;push_cast;rfl
 clear P f N D t;have j4:d.length<=2000000:=O;have f:=R;obtain⟨a4,c7,N,i',e4,c6,c9,P,g'⟩:=df X L U g key fin F M f;obtain⟨g_,i8,i9,i7⟩:=cH y E G Q;clear X L U g key fin F M f y E G Q R;go_upto_region 3 with(refine db rfl _ (.tmp 11) (.tmp 24) rfl wc.heap.size 133 _ [self,procs,self,x.val] rfl rfl (aC.new _ _ _) rfl Z rfl ?_;intro y f g);have M:ab wc y:=ab.write (ab.new _ _) g (Nat.le_refl _);have j7:wc.heap.size<y.heap.size:=f.lt;have j2:y.cell? ⟨w.heap.size+2,0,none⟩=some (.int .i64 x.kind):=(M.cell (p:=⟨w.heap.size+2,0,none⟩) c7.o.lt).trans (by rw[c7.o.cell];rfl);have j3:y.cell? ⟨w.heap.size+2,2,none⟩=some (.int .i64 x.aH):=(M.cell (p:=⟨w.heap.size+2,2,none⟩) c7.o.lt).trans (by rw[c7.o.cell];rfl);clear Y;obtain⟨e1,a0⟩:=ck f M;clear f M g;by_cases k:x.kind=1
 ·have g1:(x.kind==1)=true:=ax k;as_aux_lemma=>
  go_upto_region 6 with(refine dO rfl _ (.tmp 31) _ rfl wc.heap.size 2 133 _ (.int .i64 x.aH) rfl rfl e1.o aT Z rfl rfl ?_;intro a7 g t);have R:aC a7 wc.heap.size 133 #[self,procs,x.aH,x.val]:=ax g;have f:ab wc a7:=ab.write a0.o t (Nat.le_refl _);clear g t;have g:=f.ay P.o P.o.lt;have f5:a7.cell? ⟨w.heap.size,2,none⟩=some (.slice a8 c0 b7):=(f.cell (p:=⟨w.heap.size,2,none⟩) a4.o.lt).trans (by rw[a4.o.cell];rfl);have f8:a7.cell? ⟨w.heap.size+1,1,none⟩=some (.slice C d.length ce):=by rw[g.cell];rfl
  have U:=e4.o a7 a8 c0 b7 c.message ⟨self,procs,x.aH,x.val⟩ f h5.o;have D:=f.ay N.o N.o.lt;obtain⟨b2,b4,X,b3,L⟩:=dC R f g U D;clear R f g U D;go_wp2_with(first|(refine ew I _ (.tmp 8) I (w.heap.size+1) 38 [.slice l p1 q1,.slice C d.length ce,.slice q aK aI,.slice r aR aQ] _ I X.o qT I Z ?_)|(refine ew I _ (.tmp 11) I wc.heap.size 133 [self,procs,x.aH,x.val] _ I b2.o pH I Z ?_));refine b3.o.mono ?_;rintro e c4 ⟨g0,rfl,t,F⟩;obtain⟨a9,a',a_,b0,d1,f1,d2,f2,d3,f3,d4,f4,rfl,t⟩:=qh t;have Q:=F.ay L.o L.o.lt;obtain⟨b6,b5,b1⟩:=cf t F Q;clear t F Q f5 f8;go_wp2_with(refine db I _ (.tmp 10) (.tmp 39) I (w.heap.size+3) 38 _ [.slice a9 d1 f1,.slice a' d2 f2,.slice a_ d3 f3,.slice b0 d4 f4] I I b1.o I Z I ?_;intro z E G;have Y:=ai E;have a1:=ai G;clear E G);refine dS (gP ra _ _ _ ⟨w.heap.size+3,0,none⟩ _ I (rW I Y.o)) I ?_;have:=c6.o a7 c4 z _ _ b4.o b5.o b6.o a1.o;have aB:=c9.o;rw[di k]at aB;rw[aB];exact⟨_,I,this.1,this.2⟩
 have j9:(x.kind==1)=false:=ax k;by_cases M:x.kind=2
 ·have g1:(x.kind==2)=true:=ax M;as_aux_lemma=>
  have R:=e1.o;have f:=a0.o;have g:=f.ay P.o P.o.lt;have f5:y.cell? ⟨w.heap.size,3,none⟩=some (.slice bY c1 b8):=(f.cell (p:=⟨w.heap.size,3,none⟩) a4.o.lt).trans (by rw[a4.o.cell];rfl);have f8:y.cell? ⟨w.heap.size+1,1,none⟩=some (.slice C d.length ce):=by rw[g.cell];rfl
  have U:=e4.o y bY c1 b8 c.tick ⟨self,procs,self,x.val⟩ f h6.o;have D:=f.ay N.o N.o.lt;obtain⟨b2,b4,X,b3,L⟩:=dC R f g U D;clear R f g U D;go_wp2_with(first|(refine ew I _ (.tmp 8) I (w.heap.size+1) 38 [.slice l p1 q1,.slice C d.length ce,.slice q aK aI,.slice r aR aQ] _ I X.o qT I Z ?_)|(refine ew I _ (.tmp 11) I wc.heap.size 133 [self,procs,self,x.val] _ I b2.o pH I Z ?_));refine b3.o.mono ?_;rintro e c4 ⟨g0,rfl,t,F⟩;obtain⟨a9,a',a_,b0,d1,f1,d2,f2,d3,f3,d4,f4,rfl,t⟩:=qh t;have Q:=F.ay L.o L.o.lt;obtain⟨b6,b5,b1⟩:=cf t F Q;clear t F Q f5 f8;go_wp2_with(refine db I _ (.tmp 10) (.tmp 49) I (w.heap.size+3) 38 _ [.slice a9 d1 f1,.slice a' d2 f2,.slice a_ d3 f3,.slice b0 d4 f4] I I b1.o I Z I ?_;intro z E G;have Y:=ai E;have a1:=ai G;clear E G);refine dS (gP ra _ _ _ ⟨w.heap.size+3,0,none⟩ _ I (rW I Y.o)) I ?_;have:=c6.o y c4 z _ _ b4.o b5.o b6.o a1.o;have aB:=c9.o;rw[dg k,di M]at aB;rw[aB];exact⟨_,I,this.1,this.2⟩
 have j':(x.kind==2)=false:=ax M;by_cases f:x.kind=3
 ·have g1:(x.kind==3)=true:=ax f;as_aux_lemma=>
  have R:=e1.o;have f:=a0.o;have g:=f.ay P.o P.o.lt;have f5:y.cell? ⟨w.heap.size,4,none⟩=some (.slice cC c2 b9):=(f.cell (p:=⟨w.heap.size,4,none⟩) a4.o.lt).trans (by rw[a4.o.cell];rfl);have f8:y.cell? ⟨w.heap.size+1,1,none⟩=some (.slice C d.length ce):=by rw[g.cell];rfl
  have U:=e4.o y cC c2 b9 c.input ⟨self,procs,self,x.val⟩ f h7.o;have D:=f.ay N.o N.o.lt;obtain⟨b2,b4,X,b3,L⟩:=dC R f g U D;clear R f g U D;go_wp2_with(first|(refine ew I _ (.tmp 8) I (w.heap.size+1) 38 [.slice l p1 q1,.slice C d.length ce,.slice q aK aI,.slice r aR aQ] _ I X.o qT I Z ?_)|(refine ew I _ (.tmp 11) I wc.heap.size 133 [self,procs,self,x.val] _ I b2.o pH I Z ?_));refine b3.o.mono ?_;rintro e c4 ⟨g0,rfl,t,F⟩;obtain⟨a9,a',a_,b0,d1,f1,d2,f2,d3,f3,d4,f4,rfl,t⟩:=qh t;have Q:=F.ay L.o L.o.lt;obtain⟨b6,b5,b1⟩:=cf t F Q;clear t F Q f5 f8;go_wp2_with(refine db I _ (.tmp 10) (.tmp 59) I (w.heap.size+3) 38 _ [.slice a9 d1 f1,.slice a' d2 f2,.slice a_ d3 f3,.slice b0 d4 f4] I I b1.o I Z I ?_;intro z E G;have Y:=ai E;have a1:=ai G;clear E G);refine dS (gP ra _ _ _ ⟨w.heap.size+3,0,none⟩ _ I (rW I Y.o)) I ?_;have:=c6.o y c4 z _ _ b4.o b5.o b6.o a1.o;have aB:=c9.o;rw[dg k,dg M,di f]at aB;rw[aB];exact⟨_,I,this.1,this.2⟩
 have t:(x.kind==3)=false:=ax f;have g:=a0.o.ay P.o P.o.lt;have D:=a0.o.ay N.o N.o.lt;obtain⟨X,L⟩:=ck g D;clear g D;go_wp2_with(first|(refine ew I _ (.tmp 8) I (w.heap.size+1) 38 [.slice l p1 q1,.slice C d.length ce,.slice q aK aI,.slice r aR aQ] _ I X.o qT I Z ?_)|(refine db I _ (.tmp 10) (.tmp 60) I (w.heap.size+3) 38 _ [.slice l p1 q1,.slice C d.length ce,.slice q aK aI,.slice r aR aQ] I I L.o I Z I ?_;intro z E G;have Y:=ai E;have a1:=ai G;clear E G));refine dS (gP ra _ _ _ ⟨w.heap.size+3,0,none⟩ _ I (rW I Y.o)) I ?_;have:=c6.o y y z _ _ a0.o (aN _ _) ((g'.o.aq (a0.o.mono g_.o)).more (λ i a=>.inl a)) a1.o;have aB:=c9.o;rw[dg k,dg M,dg f]at aB;rw[aB];exact⟨_,I,this.1,this.2⟩
end
section
open Go.Proofs
theorem xb(v body cells a s):(jw v body cells a s).cells.length=cells.length/\(jw v body cells a s).cD.length<=s.cD.length+8/\(jw v body cells a s).outs.length<=s.outs.length+8:=by
 have h:=rA v body cells;have h1:=uK a (ij v body cells).dh 0;have h2:=wN a (ij v body cells).dh;refine⟨h.1,?_,?_⟩
 ·show(s.cD++_).length<=_;rw[gp];omega
 show(s.outs++_).length<=_;rw[gp];omega
theorem FJ(c self procs s x):(gC c self procs s x).cells.length=s.cells.length/\(gC c self procs s x).cD.length<=s.cD.length+8/\(gC c self procs s x).outs.length<=s.outs.length+8:=by
 unfold gC;split
 ·exact xb _ _ _ _ _
 split
 ·exact xb _ _ _ _ _
 split
 ·exact xb _ _ _ _ _
 exact⟨I,aT,aT⟩
theorem uD(c self procs l):(gI c self procs l).cells.length=c.init.length/\(gI c self procs l).cD.length<=8*(l.length+1)/\(gI c self procs l).outs.length<=8*(l.length+1)/\(gI c self procs l).events.length=l.length:=by
 have key:∀(l:List bz) (s:de),(l.foldl (gC c self procs) s).cells.length=s.cells.length/\(l.foldl (gC c self procs) s).cD.length<=s.cD.length+8*l.length/\(l.foldl (gC c self procs) s).outs.length<=s.outs.length+8*l.length:=by
  intro l;induction l with
  |nil=>intro s;exact⟨I,aT,aT⟩
  |cons x l b=>intro s;have h1:=b (gC c self procs s x);have h2:=FJ c self procs s x;rw[List.foldl_cons,List.length_cons];exact⟨h1.1.trans h2.1,O,O⟩
 have h:=key l (ky c self procs);have h0:=xb ⟨self,procs,self,0⟩ c.start c.init 0 ⟨[],[],[],[]⟩;have a:(ky c self procs).cells.length=c.init.length/\(ky c self procs).cD.length<=8/\(ky c self procs).outs.length<=8:=by
  refine⟨h0.1,?_,?_⟩
  ·have:=h0.2.1;simp only[List.length_nil,Nat.zero_add]at this;exact this
  have:=h0.2.2;simp only[List.length_nil,Nat.zero_add]at this;exact this
 refine⟨h.1.trans a.1,?_,?_,by rw[wh]⟩
 ·have:=h.2.1;unfold gI;omega
 have:=h.2.2;unfold gI;omega
def yH(S:Nat->Prop)(B b:Nat)(w:World)(i:Nat):Prop:=(S i\/(B<=i/\i<w.heap.size))/\i≠b
def zD(S:Nat->Prop)(B b:Nat)(c:eb)(self procs:Int)(l:List bz)(cR:World)(i:Value)(wr:World):Prop:=
 ∃(k:Nat) (a d e f:Option Addr) (p1 q1 p2 q2 aK aI aR aQ:Nat),i=.int .i64 k/\k<=l.length/\aC wr b 38 #[.slice a p1 q1,.slice d p2 q2,.slice e aK aI,.slice f aR aQ]/\ec wr (yH S B b wr) [.slice a p1 q1,.slice d p2 q2,.slice e aK aI,.slice f aR aQ] (gI c self procs (l.take k))/\aw (·<B) cR wr
theorem Ju{c}{self procs:Int}{l:List bz}{k:Nat}{x}(h:l[k]?=some x):gC c self procs (gI c self procs (l.take k)) x=gI c self procs (l.take (k+1)):=by rw[(wS h).1,CB]
theorem Jc(w S cs c)(self procs:Int)(A)(n b3:Nat)(l)(b:∀i,S i->i<w.heap.size)(av:iE w S cs c)(r:bl dG 7 w S A n b3 l)(aJ:l.length<=100000):Calls Tryz.prog 145 #[.agg cs.toArray,self,procs,.slice A n b3] w (pG S (gI c self procs l) w):=by
 have P:=av;obtain⟨v,y,z,bY,cC,H,C,cL,D,L,E,M,F,N,G,rfl,-,-,-,-,-,e1⟩:=av;generalize d:(w.alloc (.cells #[.slice v H C,.slice y cL D,.slice z L E,.slice bY M F,.slice cC N G] 87)).alloc (.cells Pt 38)=W;have q:ab w W:=d▸ab.alloc (ab.new w _) _;have B:aC W w.heap.size 87 #[.slice v H C,.slice y cL D,.slice z L E,.slice bY M F,.slice cC N G]:=d▸(cu w _ _).alloc _;have g:aC W (w.heap.size+1) 38 Pt:=d▸(by simpa using cu (w.alloc _) _ _);have c7:w.heap.size+1<W.heap.size:=g.lt;have t:=cS q b;have f:∀i,S i->i<W.heap.size:=λ i a=>an (b i a);have m:=P.aq t;have Q:=r.aq t;have R:=r.1;have key:=Ee W S [.slice v H C,.slice y cL D,.slice z L E,.slice bY M F,.slice cC N G] c self procs f m;have e3:n<=100000:=O;obtain⟨c4,c1,b0,b8,s,b_,c2,b2,c5⟩:=df b q B g f m Q R key;clear b q B g f m Q R key r P t;go_enter func145,ntmps145;go_wp2_with(refine ew I _ (.tmp 4) I w.heap.size 87 [.slice v H C,.slice y cL D,.slice z L E,.slice bY M F,.slice cC N G] _ I b0.o wG I Z ?_);clear d;refine c5.o.mono ?_;rintro e d ⟨c_,rfl,b,t⟩;obtain⟨g,m,q,r,p1,q1,p2,q2,aK,aI,aR,aQ,rfl,b⟩:=qh b;have e4:=t.size;obtain⟨Y,B⟩:=ck t b;clear t b;go_upto_region 2 with(refine db rfl _ (.tmp 9) (.tmp 14) rfl d.heap.size 38 _ [.slice g p1 q1,.slice m p2 q2,.slice q aK aI,.slice r aR aQ] rfl rfl (aC.new _ _ _) rfl Z rfl ?_;intro a7 b R);have f:ab d a7:=ab.write (ab.new _ _) R (dq _);have e5:d.heap.size<a7.heap.size:=b.lt;have Q:zD S W.heap.size d.heap.size c self procs l W (.int .i64 0) a7:=by
  refine⟨0,g,m,q,r,p1,q1,p2,q2,aK,aI,aR,aQ,I,ef _,b,?_,ab.trans Y.o f⟩;refine(B.o.aq (f.mono (λ i a=>?_))).more (λ i a=>?_)
  ·rcases a with h|h
   ·have:=s.o i h;omega
   exact h.2
  rcases a with h|h
  ·exact⟨.inl h,an (s.o i h)⟩
  exact⟨.inr ⟨h.1,O⟩,O⟩
 have P:=ai Q;clear Q b R f;go_wp2_with fail;go_loopw[10] (λ i wr=>zD S W.heap.size d.heap.size c self procs l W i wr) (λ i _=>n- (intOf i).toNat);case atStart=>exact P.o
 clear P B;obtain⟨k,g,m,q,r,p1,q1,p2,q2,aK,aI,aR,aQ,rfl,e2,R,U,f⟩:=hrel;have e9:=f.size;have d':=R.lt;have b4:=uD c self procs (l.take k);have b6:(l.take k).length<=100000:=by rw[jm];omega
 by_cases a5:k<n
 ·obtain⟨b',a6,x,rfl,B,b,V⟩:=(c2.o.aq (f.mono s.o)).at_ jy a5;have T:=f.ay b0.o O;have c6:decide (k<n)=true:=ax a5;have d_:(0:Int)<=k:=O;have e0:(k:Int)<n:=O;have t:k+1<=l.length:=an b2.o;have P:∀i,yH S W.heap.size d.heap.size wr i->i<wr.heap.size:=λ i a=>a.1.elim (λ h=>an (s.o i h)) (λ h=>h.2);have Q:=λ J (b:ab wr J)=>Fe J (yH S W.heap.size d.heap.size wr) [.slice v H C,.slice y cL D,.slice z L E,.slice bY M F,.slice cC N G] [.slice g p1 q1,.slice m p2 q2,.slice q aK aI,.slice r aR aQ] c (gI c self procs (l.take k)) self procs x (λ i a=>cQ (P i a) b.size) ((b_.o.aq (cS (bR f b (λ i a=>O)) s.o)).more (λ i a=>⟨.inl a,an (s.o i a)⟩)) (U.aq (b.mono P)) O O O O;rw[Ju b]at Q;have X:∀J,ab wr J->J.rangeAt b' (a6+k*7) [x.kind,x.inc,x.aH,x.bI,x.bb,x.ord,x.val]:=λ J b j u hu=>(b.cell (p:=⟨b',a6+k*7+j,none⟩) (by have:=s.o b' B;simp;omega)).trans (V j u hu);clear V b U B b6 b4;obtain⟨B,a0,b1,b9,c3,Y,c9⟩:=dW R f T Q X t P;clear R f T Q X t P;go_upto_region 5 with fail;refine eE 9 (λ J=>ab wr J) (λ _=>True) Z (dx (aN _ _)) aD (λ t P=>?_);refine il 0 I (iS ba _ _ I w.heap.size 0 87 _ [.slice v H C,.slice y cL D,.slice z L E,.slice bY M F,.slice cC N G] _ I (λ J b=>b.1.ay b1.o b1.o.lt) (λ j u hu=>ax hu) wG I Z) ?_;refine aU 1 (h:=aU 2 (h:=?_));refine il 3 I (iS ba _ _ I d.heap.size 0 38 _ [.slice g p1 q1,.slice m p2 q2,.slice q aK aI,.slice r aR aQ] _ I (λ J b=>b.1.ay B.o B.o.lt) (λ j u hu=>ax hu) qT I Z) ?_;refine aU 4 (h:=aU 5 (h:=aU 6 (h:=?_)));refine il 7 I (dw ba _ _ I b' (a6+k*7) I [x.kind,x.inc,x.aH,x.bI,x.bb,x.ord,x.val] _ (λ J b=>c3.o J b.1) mB I Z) ?_;refine aV 8 λ K Q=>?_;go_simp;refine(b9.o _ t).mono ?_;rintro e b7 ⟨d9,rfl,V,a4⟩;obtain⟨a8,a9,a',a_,d1,f1,d2,f2,d3,f3,d4,f4,rfl,V⟩:=qh V;have T:ab wr b7:=ab.trans t a4;refine aZ Q T aD ?_;clear Q K t P;intro t P;refine aV 9 λ K Q=>?_;refine eD I _ _ _ I d.heap.size 0 38 _ [.slice a8 d1 f1,.slice a9 d2 f2,.slice a' d3 f3,.slice a_ d4 f4] I I (T.ay B.o B.o.lt) aT Z I ?_;intro c8 a3 X;rw[eX _ _ ba]at a3;have e6:=a4.size;have e7:wr.heap.size<=b7.heap.size:=T.size;have e8:=X.size;have b5:zD S W.heap.size d.heap.size c self procs l W (.int .i64 (k+1)) c8:=by
   refine⟨k+1,a8,a9,a',a_,d1,f1,d2,f2,d3,f3,d4,f4,aT,Y.o,a3,?_,bR a0.o (bR (cS T (λ i (a:i<W.heap.size)=>O)) X (λ i a=>O)) (λ i a=>a)⟩;refine(V.aq (X.mono (λ i a e=>?_))).more (λ i a=>?_)
   ·rcases a with h|h
    ·exact h.2 e
    have a2:=h.1;simp at a2;omega
   rcases a with h|h
   ·rcases h.1 with a1|a1
    ·exact⟨.inl a1,h.2⟩
    exact⟨.inr ⟨a1.1,O⟩,h.2⟩
   have a2:=h.1;simp at a2;exact⟨.inr ⟨O,an h.2⟩,O⟩
  refine dE Q aD ?_;clear Q K t P;intro P;have t:True:=aD;refine cg Z ?_;have c0:=ai b5;clear b5 a3 X V a4 T t P;go_wp2_with fail;go_roundw;case rel=>exact c0.o
  case measure=>exact bS
 have c6:decide (k<n)=false:=ax a5;have P:l.take k=l:=hU (an b2.o);rw[P]at U;have t:=f.ay b8.o c7;obtain⟨B,V,a0,T⟩:=cH R U f t;clear R U f t P b4 b6;go_wp2_with(first|(refine ew I _ (.tmp 9) I d.heap.size 38 [.slice g p1 q1,.slice m p2 q2,.slice q aK aI,.slice r aR aQ] _ I B.o qT I Z ?_)|(refine db I _ (.tmp 8) (.tmp 30) I (w.heap.size+1) 38 _ [.slice g p1 q1,.slice m p2 q2,.slice q aK aI,.slice r aR aQ] I I T.o I Z I ?_;intro R t P;have Q:=ai t;have f:=ai P;clear t P));refine dS (gP results145 _ _ _ ⟨w.heap.size+1,0,none⟩ _ I (rW I Q.o)) I ?_;have t:=f.o.size;refine⟨_,I,(V.o.aq (f.o.mono (λ i a e=>?_))).more (λ i a=>?_),ab.write (bR c1.o a0.o (λ i a=>O)) f.o O⟩
 ·rcases a.1 with h|h
  ·have:=c4.o i h;omega
  omega
 rcases a.1 with h|h
 ·exact .inl h
 exact .inr ⟨O,O⟩
end
section
open Go.Proofs
structure mc where
 clock:Int
 vec:List Int
structure fH where
 idx:Int
 clock:Int
 vec:List Int
structure gM where
 aH:Int
 dst:Int
 bI:Int
 bb:Int
 ord:Int
 val:Int
 clock:Int
 vec:List Int
 known:List cV
structure nt where
 proc:Int
 idx:Int
 ord:Int
 val:Int
structure cO where
 down:Bool
 inc:Int
 st:de
 marks:List mc
 clock:Int
 vec:List Int
 bV:List fH
 log:List cy
 known:List cV
 gZ:Int
 queue:List gM
structure bQ where
 procs:List cO
 cY:List gM
 ends:List kX
 busy:Bool
 dY:List Int
 rest:List Bool
 world:List nt
 rel:List Int
structure nA (n:Nat) (U:List cy) (m:gM):Prop where
 aH:0<=m.aH/\m.aH<n
 dst:0<=m.dst/\m.dst<n
 vec:m.vec.length<=n
 known:gG U m.known
structure kR (n:Nat) (s:de):Prop where
 cells:s.cells.length<=1000000
 cD:s.cD.length<=8*(s.events.length+1)
 outs:s.outs.length<=8*(s.events.length+1)
 aH:∀e∈s.events,e.kind=1->0<=e.aH/\e.aH<n
 snd:∀x∈s.cD,0<=x.idx/\x.idx<=s.events.length/\0<=x.aa/\x.aa<n
def mh(n:Nat)(bo:Int)(v:List Int):Prop:=v.length<=n/\(bo=4->v.length=n)
structure iJ (n:Nat) (bo:Int) (j:Nat) (U:List cy) (p:Nat) (x:cO):Prop where
 st:kR n x.st
 af:x.st.events.length<=64
 marks:x.marks.length=x.st.events.length+1
 gu:∀m∈x.marks,mh n bo m.vec
 vec:mh n bo x.vec
 bV:x.bV≠[]
 fO:x.bV.length<=j+1
 en:∀c∈x.bV,0<=c.idx/\c.idx<=x.st.events.length/\mh n bo c.vec
 log:jz U x.log
 known:gG U x.known
 fQ:∀d∈iZ p 0 x.st.events,d∈U
 queue:∀m∈x.queue,nA n U m
def dX(y:bQ):Nat:=y.cY.length+(y.procs.map (λ x=>x.queue.length)).sum
def rq(x:cO)(k:Int):Prop:=0<=k/\k<=x.st.events.length/\∃c∈x.bV,c.idx<=k
structure sS (n:Nat) (y:bQ):Prop where
 dY:y.dY.length=n
 rest:y.rest.length=n
 back:∀(p:Nat) (x:cO),y.procs[p]?=some x->y.rest.getD p true=false->rq x (y.dY.getD p 0)
structure dB (n:Nat) (bo:Int) (j:Nat) (U:List cy) (y:bQ):Prop where
 len:y.procs.length=n
 gD:U.length<=j
 procs:∀(p:Nat) (x:cO),y.procs[p]?=some x->iJ n bo j U p x
 cY:∀m∈y.cY,nA n U m
 load:dX y<=2000
 ends:y.ends.length<=j
 world:y.world.length<=200000*j
 rel:y.rel.length=n
def mm(n:Nat)(y:bQ):Prop:=y.dY=[]\/(y.busy=true/\sS n y)
structure kT (x cl:cO):Prop where
 down:cl.down=x.down
 inc:cl.inc=x.inc
 st:cl.st=x.st
 marks:cl.marks=x.marks
structure fA (y bO:bQ):Prop where
 len:bO.procs.length=y.procs.length
 procs:∀(p:Nat) (x cl:cO),y.procs[p]?=some x->bO.procs[p]?=some cl->kT x cl/\∀c∈x.bV,∃bc∈cl.bV,bc.idx=c.idx
 ends:bO.ends=y.ends
 busy:bO.busy=y.busy
 dY:bO.dY=y.dY
 rest:bO.rest=y.rest
 world:bO.world=y.world
 rel:bO.rel=y.rel
theorem kT.refl(x):kT x x:=⟨I,I,I,I⟩
theorem kT.trans{x y z}(h:kT x y)(k:kT y z):kT x z:=⟨k.down.trans h.down,k.inc.trans h.inc,k.st.trans h.st,k.marks.trans h.marks⟩
theorem fA.refl(y):fA y y:=⟨I,λ p x cl h a=>by rw[h]at a;cases a;exact⟨.refl _,λ c av=>⟨c,av,I⟩⟩,I,I,I,I,I,I⟩
abbrev pq:=@fA.refl
theorem fA.trans{x y z}(h:fA x y)(k:fA y z):fA x z:=by
 refine⟨k.len.trans h.len,λ p a c b av=>?_,k.ends.trans h.ends,k.busy.trans h.busy,k.dY.trans h.dY,k.rest.trans h.rest,k.world.trans h.world,k.rel.trans h.rel⟩;have hp:p<y.procs.length:=by rw[h.len];exact(dV.1 b).1
 obtain⟨h1,h2⟩:=h.procs p a y.procs[p] b (dA hp);obtain⟨dv,cc⟩:=k.procs p y.procs[p] c (dA hp) av;refine⟨h1.trans dv,λ c av=>?_⟩;obtain⟨bc,g,e⟩:=h2 c av;obtain⟨d,i,f⟩:=cc bc g;exact⟨d,i,f.trans e⟩
theorem gG.more{U V l}(h:gG U l)(au:∀x∈U,x∈V):gG V l:=jz.more h au
theorem nA.more{n U V m}(h:nA n U m)(au:∀x∈U,x∈V):nA n V m:=⟨h.aH,h.dst,h.vec,h.known.more au⟩
theorem iJ.more{n j a p bo U V x}(h:iJ n bo j U p x)(au:∀x∈U,x∈V)(c:j<=a):iJ n bo a V p x:=⟨h.st,h.af,h.marks,h.gu,h.vec,h.bV,an h.fO,h.en,h.log.more au,h.known.more au,λ d b=>au d (h.fQ d b),λ m hm=>(h.queue m hm).more au⟩
theorem dB.more{n j a bo U V y}(h:dB n bo j U y)(au:∀x∈U,x∈V)(c:j<=a)(b:V.length<=a):dB n bo a V y:=⟨h.len,b,λ p x e=>(h.procs p x e).more au c,λ m hm=>(h.cY m hm).more au,h.load,an h.ends,an h.world,h.rel⟩
theorem dB.up{n j a bo U y}(h:dB n bo j U y)(b:j<=a):dB n bo a U y:=h.more (λ _ h=>h) b (an h.gD)
theorem Eu:∀(l:List Nat) (p a b:Nat),l[p]?=some a->(l.set p b).sum+a=l.sum+b
 |x::l,0,a,b,h=>by simp at h;subst h;simp;omega
 |x::l,p+1,a,b,h=>by
  have:=Eu l p a b (ax h)
  simp
  omega
theorem ES:∀(l:List Nat) (p a:Nat),l[p]?=some a->a<=l.sum
 |x::l,0,a,h=>by simp at h;subst h;simp
 |x::l,p+1,a,h=>by
  have:=ES l p a (ax h)
  simp
  omega
theorem rE{y p x cl}(h:y.procs[p]?=some x):dX {y with procs:=y.procs.set p cl}+x.queue.length=dX y+cl.queue.length:=by unfold dX;rw[List.map_set];have:=Eu (y.procs.map (λ x=>x.queue.length)) p x.queue.length cl.queue.length (by rw[gU,h];rfl);simp only;omega
theorem tE{y}{p:Nat}{x}(h:y.procs[p]?=some x):x.queue.length+y.cY.length<=dX y:=by unfold dX;have:=ES (y.procs.map (λ x=>x.queue.length)) p x.queue.length (by rw[gU,h];rfl);omega
theorem dB.gy{n j p bo U y x cl}(h:dB n bo j U y)(b:y.procs[p]?=some x)(c:iJ n bo j U p cl)(d:dX y+cl.queue.length<=2000+x.queue.length):dB n bo j U {y with procs:=y.procs.set p cl}:=
 ⟨by simp only[List.length_set];exact h.len,h.gD,λ q z a=>by
  by_cases aB:q=p
  ·subst aB
   simp only at a
   rw[iW (dV.1 b).1]at a
   cases a
   exact c
  ·simp only at a
   rw[lQ (eM aB)]at a
   exact h.procs q z a,h.cY,an (rE (cl:=cl) b),h.ends,h.world,h.rel⟩
theorem fA.gy{y p x cl}(f:y.procs[p]?=some x)(av:kT x cl)(g:∀c∈x.bV,∃bc∈cl.bV,bc.idx=c.idx):fA y {y with procs:=y.procs.set p cl}:=
 ⟨aT,λ q a b e d=>by
  by_cases aB:q=p
  ·subst aB
   simp only at d
   rw[iW (dV.1 f).1]at d
   cases d
   rw[f]at e
   cases e
   exact⟨av,g⟩
  ·simp only at d
   rw[lQ (eM aB)]at d
   rw[e]at d
   cases d
   exact⟨.refl _,λ c av=>⟨c,av,I⟩⟩,I,I,I,I,I,I⟩
theorem fA.Cm{n y bO}(h:fA y bO)(hp:mm n y):mm n bO:=by
 rcases hp with hp|⟨k,hp⟩
 ·exact .inl (h.dY.trans hp)
 refine .inr ⟨h.busy.trans k,by rw[h.dY];exact hp.dY,by rw[h.rest];exact hp.rest,λ p cl b a=>?_⟩;have dN:p<y.procs.length:=by rw[<-h.len];exact(dV.1 b).1
 obtain⟨i,j⟩:=h.procs p y.procs[p] cl (dA dN) b;obtain⟨d,f,c,av,g⟩:=hp.back p y.procs[p] (dA dN) (by rw[h.rest]at a;exact a);obtain⟨bc,l,e⟩:=j c av;refine⟨by rw[h.dY];exact d,by rw[h.dY,i.st];exact f,bc,l,by rw[h.dY,e];exact g⟩
end
section
open Go.Proofs
def qx(p:Prop)(w:World)(e:Ending)(ae:World):Prop:=∃b:Bool,(b=true↔p)/\e=.returned (.bool b)/\∃k,ae=w.drewN k
def Hs{α:Type}(l cA:List α)(n:Nat)(w:World)(i:Value)(wr:World):Prop:=∃k m:Nat,k<=n/\i=.int .i64 k/\l.take k=cA.take k/\wr=w.drewN m
theorem HI{α:Type}{l cA:List α}{k:Nat}{a:α}(h:l.take k=cA.take k)(h1:l[k]?=some a)(h2:cA[k]?=some a):l.take (k+1)=cA.take (k+1):=by obtain⟨b,rfl⟩:=dV.1 h1;obtain⟨c,e⟩:=dV.1 h2;rw[qv b,qv c,h,e]
theorem Gh{α:Type}{l cA:List α}{k:Nat}{a b:α}(h1:l[k]?=some a)(h2:cA[k]?=some b)(h:a≠b):¬l=cA:=λ e=>by
 subst e
 rw[h1]at h2
 exact h (kA h2)
theorem ED(a b:ev):a=b↔a.idx=b.idx/\a.ord=b.ord/\a.aa=b.aa/\a.val=b.val:=by cases a;cases b;simp
theorem DQ(w S T A t n g c x l cA)(a:bl dF 4 w S A n c l)(p:bl dF 4 w T t g x cA)(aJ:n<=1000000)(U:g<=1000000):Calls Tryz.prog 17 #[.slice A n c,.slice t g x] w (qx (l=cA) w):=by
 have q:=a.1;have r:=p.1;by_cases u:n=g;case neg=>have f:¬l=cA:=λ e=>u (by rw[q,r,e]);have d0:((n:Int)!=(g:Int))=true:=aY;clear a p q r;have s:=ai f;clear f;go_enter func17,ntmps17;go_wp2_with fail;go_ret;exact⟨false,ax s.o,I,0,I⟩
 subst u;obtain⟨G,H,K,L⟩:=cH a p q r;clear a p q r;go_enter func17,ntmps17;go_wp2_with fail;go_loopw[5] (λ i wr=>Hs l cA n w i wr) (λ i _=>n- (intOf i).toNat);case atStart=>exact⟨0,0,ef _,I,I,I⟩
 obtain⟨k,m,R,rfl,a,rfl⟩:=hrel;by_cases C:k<n
 ·obtain⟨b,off,d,rfl,_,z,p⟩:=G.o.at_ kE C;obtain⟨v,F,d2,rfl,_,B,q⟩:=H.o.at_ kE C;have P:(0:Int)<=(k:Int):=O;have Q:(k:Int)<(n:Int):=O;have D:∀j,(w.drewN j).rangeAt b (off+k*4) [d.idx,d.ord,d.aa,d.val]:=λ j=>p;have E:∀j,(w.drewN j).rangeAt v (F+k*4) [d2.idx,d2.ord,d2.aa,d2.val]:=λ j=>q;clear p q;have y:True:=aD;obtain⟨q,r,u,M,N⟩:=dC z B a D E;clear z B a D E;go_upto_region 6 with fail;refine eE 99 (λ _=>True) (λ J=>∃j,J=w.drewN j) Z aD ⟨m+1,I⟩ (λ _ z=>?_);refine ag 0 (h:=ag 1 (h:=ag 2 (h:=?_)));refine cK 3 I (dw ba _ _ I b (off+k*4) I [d.idx,d.ord,d.aa,d.val] _ (λ J p=>by obtain⟨j,rfl⟩:=p;exact M.o j) pZ I Z) ?_;refine ag 4 (h:=ag 5 (h:=ag 6 (h:=?_)));refine cK 7 I (dw ba _ _ I v (F+k*4) I [d2.idx,d2.ord,d2.aa,d2.val] _ (λ J p=>by obtain⟨j,rfl⟩:=p;exact N.o j) pZ I Z) ?_;by_cases he:d=d2
  ·subst he;have B:=HI u.o q.o r.o;refine cK 8 I (gR ba (.bool false) (λ J _=>by go_simp)) ?_;refine cg Z ?_;have D:=ai B;clear B y z;go_wp2_with fail;go_roundw;case rel=>exact⟨k+1,m+1,O,cz,D.o,I⟩
   case measure=>exact bS
  have f:=Gh q.o r.o he;have himp:d.idx=d2.idx->d.ord=d2.ord->d.aa=d2.aa->¬d.val=d2.val:=λ h0 h1 h2 aA=>he ((ED d d2).2 ⟨h0,h1,h2,aA⟩);refine cK 8 I (gR ba (.bool true) (λ J _=>by go_simp;exact himp)) ?_;refine cg Z ?_;have s:=ai f;clear f y z he himp;go_wp2_with fail;go_ret;exact⟨false,ax s.o,I,m+1,I⟩
 have f:l=cA:=by rw[hU (an K.o),hU (an L.o)]at a;exact a
 obtain⟨u,y⟩:=ck a f;clear a f;go_wp2_with fail;go_ret;exact⟨true,ax y.o,I,m,I⟩
end
section
open Go.Proofs
end
section
open Go.Proofs
theorem drop_cons{α:Type}{l:List α}{k:Nat}{y:α}(h:l[k]?=some y):l.drop k=y::l.drop (k+1):=by obtain⟨a,rfl⟩:=dV.1 h;exact pR a
section
variable {P:Program} {ops:Array Oper} {o:Oper} {a:Act} {w:World} {K:Act->World->Prop} {Q:Exit->Act->World->Prop} {E:Prop}
end
end
section
open Go.Proofs
def ng(v:Int)(w:World)(e:Ending)(ae:World):Prop:=e=.returned (.int .i64 v)/\ab w ae
def js(aH a b ord:Int)(e:bz):Bool:=e.kind==1&&e.aH==aH&&e.bI==a&&e.bb==b&&e.ord==ord
def om(p:bz->Bool):Nat->List bz->Int
 |_,[]=>0
 |k,e::l=>if p e then k+1 else om p (k+1) l
def kS(c:List bz)(aH a b ord:Int):Int:=om (js aH a b ord) 0 c
theorem DI{p:bz->Bool}{l:List bz}{k:Nat}{x}(h:l[k]?=some x):om p k (l.drop k)=if p x then(k:Int)+1 else om p (k+1) (l.drop (k+1)):=by rw[drop_cons h];rfl
theorem nn(a b c d e f g):∀j v,([.int .i64 d,.int .i64 e]:List Value)[j]?=some v->(#[.int .i64 a,.int .i64 b,.int .i64 c,.int .i64 d,.int .i64 e,.int .i64 f,.int .i64 g]:Array Value)[3+j]?=some v:=λ j v h=>by
 rcases j with _|_|j
 ·exact h
 ·exact h
 ·simp at h
def uh(W:World)(c:List bz)(aH a b ord:Int)(i:Value)(wr:World):Prop:=∃k:Nat,i=.int .i64 k/\k<=c.length/\kS c aH a b ord=om (js aH a b ord) k (c.drop k)/\ab W wr
def fq(a:List bz)(k:Int):Int:=if 0<k/\k<=a.length then(a.getD (k.toNat-1) ⟨0,0,0,0,0,0,0⟩).inc else 0
def fp(a:List bz)(k:Int):Int:=if 0<k/\k<=a.length then k else 0
def fK(a:List bz)(k:Int):Bool:=decide (0<=k/\k<=a.length)
def lC(a:List bz)(k:Int)(w:World)(e:Ending)(ae:World):Prop:=e=.returned (.tuple #[.agg #[.int .i64 (fq a k),.int .i64 (fp a k)],.bool (fK a k)])/\ab w ae
def ju(l:List ev)(k:Int):List ev:=l.filter (λ y=>y.idx==k)
theorem KH{l:List ev}{k:Nat}{y}(a:Int)(h:l[k]?=some y):ju (l.take (k+1)) a=ju (l.take k) a++(if y.idx==a then [y]else []):=by obtain⟨b,rfl⟩:=dV.1 h;rw[qv b];unfold ju;rw[vM];simp[List.filter_cons]
theorem IL(l:List ev)(a:Int)(k:Nat)(h:k<=l.length):(ju (l.take k) a).length<=k:=by unfold ju;have:=nC (λ y:ev=>y.idx==a) (l.take k);rw[jm]at this;omega
def zw(B:Nat)(a:Int)(l:List ev)(W:World)(v i:Value)(wr:World):Prop:=∃k:Nat,i=.int .i64 k/\k<=l.length/\wr.ownsRow B 40 4 v (ju (l.take k) a).length ((ju (l.take k) a).flatMap dF)/\ab W wr
def Ew(l:List ev)(w:World)(e:Ending)(ae:World):Prop:=∃(A:Option Addr) (n c:Nat),e=.returned (.slice A n c)/\bl dF 4 ae (λ i=>w.heap.size<=i/\i<ae.heap.size) A n c l/\ab w ae
theorem Fa(w S s m t u)(p1 q1 p2 q2 aK aI aR aQ:Nat)(e)(k:Int)(h:∀i,S i->i<w.heap.size)(g:bl dG 7 w S m p2 q2 e)(aJ:e.length<=1000000):Calls Tryz.prog 14 #[.agg #[.slice s p1 q1,.slice m p2 q2,.slice t aK aI,.slice u aR aQ],k] w (lC e k w):=by
 have hp:=g.1;have aB:=g.2.1;generalize f:(w.alloc (.cells #[.slice s p1 q1,.slice m p2 q2,.slice t aK aI,.slice u aR aQ] 38)).alloc (.cells Pr 42)=W;have d:ab w W:=f▸eL (cx w _) _;have y:aC W w.heap.size 38 #[.slice s p1 q1,.slice m p2 q2,.slice t aK aI,.slice u aR aQ]:=f▸(cu w _ _).alloc _;have z:aC W (w.heap.size+1) 42 Pr:=f▸(by simpa using cu (w.alloc _) _ _);have T:w.heap.size+1<W.heap.size:=z.lt;have l:W.cell? ⟨w.heap.size,1,none⟩=some (.slice m p2 q2):=by rw[y.cell];rfl
 have key:∀(ae:World) (a b:Int) (q:Bool),aC ae (w.heap.size+1) 42 #[a,b]->aw (·≠w.heap.size+1) W ae->a=fq e k->b=fp e k->q=fK e k->
   lC e k w (.returned (.tuple #[.agg #[a,b],.bool q])) ae:=λ ae a b q _ au h1 h2 aA=>⟨by rw[h1,h2,aA],zv d au O⟩
 have A:=g.aq (cS d h);have R:p2<=1000000:=O;obtain⟨H,G,p,r,E,n,K,c⟩:=fl d y z key A l h hp;clear d y z key A l h hp g aJ;by_cases A:k=0
 ·subst A;have t0:decide ((p2:Int)<0)=false:=aT;go_enter jK,ux;go_upto_region 1 with fail;clear f;have l:=n.o;go_wp2_with(refine db I _ (.tmp 4) (.tmp 20) I (w.heap.size+1) 42 _ [.int .i64 0,.int .i64 0] I I p.o I Z I ?_;intro v6 d g);exact dS (gT vX _ _ _ ⟨w.heap.size+1,0,none⟩ _ _ I I (ez [.int .i64 0,.int .i64 0] _ d (λ j v h=>ax h) wj I Z)) I (r.o v6 _ _ _ d g (by simp[fq]) (by simp[fp]) (by simp[fK]))
 have t0:(k==0)=false:=ax A;by_cases B:k<0
 ·have t1:decide (k<0)=true:=ax B;go_enter jK,ux;go_upto_region 1 with fail;clear f;have l:=n.o;go_wp2_with(refine db I _ (.tmp 4) (.tmp 16) I (w.heap.size+1) 42 _ [.int .i64 0,.int .i64 0] I I p.o I Z I ?_;intro v6 d g);exact dS (gT vX _ _ _ ⟨w.heap.size+1,0,none⟩ _ _ I I (ez [.int .i64 0,.int .i64 0] _ d (λ j v h=>ax h) wj I Z)) I (r.o v6 _ _ _ d g (by have:=c.o;simp[fq];omega) (by have:=c.o;simp[fp];omega) (by have:=c.o;simp[fK];omega))
 have t1:decide (k<0)=false:=ax B;by_cases y:(p2:Int)<k
 ·have t2:decide ((p2:Int)<k)=true:=ax y;go_enter jK,ux;go_upto_region 1 with fail;clear f;have l:=n.o;go_wp2_with(refine db I _ (.tmp 4) (.tmp 16) I (w.heap.size+1) 42 _ [.int .i64 0,.int .i64 0] I I p.o I Z I ?_;intro v6 d g);exact dS (gT vX _ _ _ ⟨w.heap.size+1,0,none⟩ _ _ I I (ez [.int .i64 0,.int .i64 0] _ d (λ j v h=>ax h) wj I Z)) I (r.o v6 _ _ _ d g (by have:=c.o;simp[fq];omega) (by have:=c.o;simp[fp];omega) (by have:=c.o;simp[fK];omega))
 have t2:decide ((p2:Int)<k)=false:=ax y;obtain⟨b,off,x,rfl,Q,C,z⟩:=E.o.at_ jy (k:=k.toNat-1) O;have L:W.cell? ⟨b,off+(k.toNat-1)*7+1,none⟩=some (.int .i64 x.inc):=z 1 _ I;have M:(k-1).toNat=k.toNat-1:=O;have N:(0:Int)<=k-1:=O;have P:k-1<(p2:Int):=O;have D:e.getD (k.toNat-1) ⟨0,0,0,0,0,0,0⟩=x:=by simp[List.getD,C]
 have F:=ai D;clear D z C;go_enter jK,ux;go_upto_region 1 with fail;clear f;have l:=n.o;go_wp2_with(refine db I _ (.tmp 4) (.tmp 29) I (w.heap.size+1) 42 _ [x.inc,k] I I p.o I Z I ?_;intro v6 d g);exact dS (gT vX _ _ _ ⟨w.heap.size+1,0,none⟩ _ _ I I (ez [x.inc,k] _ d (λ j v h=>ax h) wj I Z)) I (r.o v6 _ _ _ d g (by unfold fq;rw[di ⟨an c.o,an c.o⟩,F.o]) (by unfold fp;rw[di ⟨an c.o,an c.o⟩]) (by have:=c.o;unfold fK;simp;omega))
theorem AN(w S s m t u)(p1 q1 p2 q2 aK aI aR aQ:Nat)(e)(k:Int)(h:∀i,S i->i<w.heap.size)(g:bl dG 7 w S m p2 q2 e)(aJ:e.length<=1000000):Calls Tryz.prog 36 #[.agg #[.slice s p1 q1,.slice m p2 q2,.slice t aK aI,.slice u aR aQ],k] w (lC e k w):=by
 have hp:=g.1;have aB:=g.2.1;generalize f:(w.alloc (.cells #[.slice s p1 q1,.slice m p2 q2,.slice t aK aI,.slice u aR aQ] 38)).alloc (.cells Pr 42)=W;have d:ab w W:=f▸eL (cx w _) _;have y:aC W w.heap.size 38 #[.slice s p1 q1,.slice m p2 q2,.slice t aK aI,.slice u aR aQ]:=f▸(cu w _ _).alloc _;have z:aC W (w.heap.size+1) 42 Pr:=f▸(by simpa using cu (w.alloc _) _ _);have T:w.heap.size+1<W.heap.size:=z.lt;have l:W.cell? ⟨w.heap.size,1,none⟩=some (.slice m p2 q2):=by rw[y.cell];rfl
 have key:∀(ae:World) (a b:Int) (q:Bool),aC ae (w.heap.size+1) 42 #[a,b]->aw (·≠w.heap.size+1) W ae->a=fq e k->b=fp e k->q=fK e k->
   lC e k w (.returned (.tuple #[.agg #[a,b],.bool q])) ae:=λ ae a b q _ au h1 h2 aA=>⟨by rw[h1,h2,aA],zv d au O⟩
 have A:=g.aq (cS d h);have R:p2<=1000000:=O;obtain⟨H,G,p,r,E,n,K,c⟩:=fl d y z key A l h hp;clear d y z key A l h hp g aJ;by_cases A:k=0
 ·subst A;go_enter fb,wv;go_upto_region 1 with fail;clear f;have l:=n.o;go_wp2_with(refine db I _ (.tmp 4) (.tmp 9) I (w.heap.size+1) 42 _ [.int .i64 0,.int .i64 0] I I p.o I Z I ?_;intro v6 d g);exact dS (gT vA _ _ _ ⟨w.heap.size+1,0,none⟩ _ _ I I (ez [.int .i64 0,.int .i64 0] _ d (λ j v h=>ax h) wj I Z)) I (r.o v6 _ _ _ d g (by simp[fq]) (by simp[fp]) (by simp[fK]))
 have t0:(k==0)=false:=ax A;by_cases B:k<0
 ·have t1:decide (k<0)=true:=ax B;go_enter fb,wv;go_upto_region 1 with fail;clear f;have l:=n.o;go_wp2_with(refine db I _ (.tmp 4) (.tmp 20) I (w.heap.size+1) 42 _ [.int .i64 0,.int .i64 0] I I p.o I Z I ?_;intro v6 d g);exact dS (gT vA _ _ _ ⟨w.heap.size+1,0,none⟩ _ _ I I (ez [.int .i64 0,.int .i64 0] _ d (λ j v h=>ax h) wj I Z)) I (r.o v6 _ _ _ d g (by have:=c.o;simp[fq];omega) (by have:=c.o;simp[fp];omega) (by have:=c.o;simp[fK];omega))
 have t1:decide (k<0)=false:=ax B;by_cases y:(p2:Int)<k
 ·have t2:decide ((p2:Int)<k)=true:=ax y;go_enter fb,wv;go_upto_region 1 with fail;clear f;have l:=n.o;go_wp2_with(refine db I _ (.tmp 4) (.tmp 20) I (w.heap.size+1) 42 _ [.int .i64 0,.int .i64 0] I I p.o I Z I ?_;intro v6 d g);exact dS (gT vA _ _ _ ⟨w.heap.size+1,0,none⟩ _ _ I I (ez [.int .i64 0,.int .i64 0] _ d (λ j v h=>ax h) wj I Z)) I (r.o v6 _ _ _ d g (by have:=c.o;simp[fq];omega) (by have:=c.o;simp[fp];omega) (by have:=c.o;simp[fK];omega))
 have t2:decide ((p2:Int)<k)=false:=ax y;obtain⟨b,off,x,rfl,Q,C,z⟩:=E.o.at_ jy (k:=k.toNat-1) O;have L:W.cell? ⟨b,off+(k.toNat-1)*7+1,none⟩=some (.int .i64 x.inc):=z 1 _ I;have M:(k-1).toNat=k.toNat-1:=O;have N:(0:Int)<=k-1:=O;have P:k-1<(p2:Int):=O;have D:e.getD (k.toNat-1) ⟨0,0,0,0,0,0,0⟩=x:=by simp[List.getD,C]
 have F:=ai D;clear D z C;go_enter fb,wv;go_upto_region 1 with fail;clear f;have l:=n.o;go_wp2_with(refine db I _ (.tmp 4) (.tmp 29) I (w.heap.size+1) 42 _ [x.inc,k] I I p.o I Z I ?_;intro v6 d g);exact dS (gT vA _ _ _ ⟨w.heap.size+1,0,none⟩ _ _ I I (ez [x.inc,k] _ d (λ j v h=>ax h) wj I Z)) I (r.o v6 _ _ _ d g (by unfold fq;rw[di ⟨an c.o,an c.o⟩,F.o]) (by unfold fp;rw[di ⟨an c.o,an c.o⟩]) (by have:=c.o;unfold fK;simp;omega))
theorem Ey(w S v g y z)(p1 q1 p2 q2 aK aI aR aQ:Nat)(f)(aH b c ord:Int)(d:∀i,S i->i<w.heap.size)(n:bl dG 7 w S g p2 q2 f)(aJ:f.length<=1000000):Calls Tryz.prog 15 #[.agg #[.slice v p1 q1,.slice g p2 q2,.slice y aK aI,.slice z aR aQ],aH,.agg #[b,c],ord] w (ng (kS f aH b c ord) w):=by
 have hp:=n.1;have a6:p2<=1000000:=O;generalize e:(w.alloc (.cells #[.slice v p1 q1,.slice g p2 q2,.slice y aK aI,.slice z aR aQ] 38)).alloc (.cells #[b,c] 42)=W;have m:ab w W:=e▸eL (cx w _) _;have h:aC W w.heap.size 38 #[.slice v p1 q1,.slice g p2 q2,.slice y aK aI,.slice z aR aQ]:=e▸(cu w _ _).alloc _;have j:aC W (w.heap.size+1) 42 #[b,c]:=e▸(by simpa using cu (w.alloc _) _ _);have a7:w.heap.size+1<W.heap.size:=j.lt;have a:W.cell? ⟨w.heap.size,1,none⟩=some (.slice g p2 q2):=by rw[h.cell];rfl
 have p:=(n.aq (cS m d)).more (T:=λ i=>i<W.heap.size) (λ i l=>an (d i l));obtain⟨F,C,D,V,P,a1,G⟩:=dW m h j p a d hp;clear m h j p a d hp n;go_enter func15,ntmps15;go_upto_region 1 with fail;clear e;have a:=P.o;go_wp2_with fail;clear a;go_loopw[14] (λ i wr=>uh W f aH b c ord i wr) (λ i _=>p2- (intOf i).toNat);case atStart=>exact⟨0,I,ef _,I,aN _ _⟩
 obtain⟨k,rfl,a5,p,e⟩:=hrel;have a8:=e.size;have n:=e.ay C.o C.o.lt;have u:=e.ay D.o D.o.lt;have a:wr.cell? ⟨w.heap.size,1,none⟩=some (.slice g p2 q2):=by rw[n.cell];rfl
 by_cases B:k<p2
 ·obtain⟨b',N,x,rfl,a2,m,d⟩:=(V.o.aq (cS e (λ i l=>l))).at_ jy B;have Y:decide (k<p2)=true:=ax B;have a3:(0:Int)<=k:=O;have a4:(k:Int)<p2:=O;have l:wr.rangeAt b' (N+k*7) [x.kind,x.inc,x.aH,x.bI,x.bb,x.ord,x.val]:=d;have j:=p.trans (DI m);have h:k+1<=f.length:=an G.o;clear d m p;obtain⟨X,H,E,R,A,U⟩:=er l j e n u h;clear l j e n u h;go_upto_region 4 with(first|(refine wpList_load_mid rfl _ (.tmp 17) rfl b' (N+k*7) rfl [x.kind,x.inc,x.aH,x.bI,x.bb,x.ord,x.val] _ X.o underlying50 rfl Z ?_)|(refine db rfl _ (.tmp 10) (.tmp 18) rfl wr.heap.size 50 _ [x.kind,x.inc,x.aH,x.bI,x.bb,x.ord,x.val] rfl rfl (aC.new _ _ _) rfl Z rfl ?_;intro j d m));have h:ab wr j:=zv (cx _ _) m (dq _);have l:=h.ay A.o A.o.lt;have t:=aM E.o h;clear a;have a9:j.cell? ⟨wr.heap.size,0,none⟩=some (.int .i64 x.kind):=by rw[d.cell];rfl
  have a':j.cell? ⟨wr.heap.size,2,none⟩=some (.int .i64 x.aH):=by rw[d.cell];rfl
  have a_:j.cell? ⟨wr.heap.size,5,none⟩=some (.int .i64 x.ord):=by rw[d.cell];rfl
  obtain⟨s,r,K⟩:=cf d l t;clear d l t m h;have fin:∀q:Bool,js aH b c ord x=q->q=false->uh W f aH b c ord (.int .i64 (k+1)) j:=λ q h1 h2=>⟨k+1,aT,U.o,by have:=H.o;rw[h1,h2]at this;simpa using this,K.o⟩;have a:js aH b c ord x=true->ng (kS f aH b c ord) w (.returned (.int .i64 (k+1))) j:=λ h1=>⟨by have:=H.o;rw[h1]at this;simp[this],aM F.o K.o⟩;obtain⟨l,Q⟩:=ck fin a;clear fin a;by_cases h:x.kind=1;case neg=>
   have t0:(x.kind==1)=false:=ax h;have a:=l.o false (by simp[js,h]) I;have d:=ai a;clear a h;go_wp2_with fail;go_roundw;case rel=>exact d.o
   case measure=>exact bS
  have t0:(x.kind==1)=true:=ax h;by_cases m:x.aH=aH;case neg=>
   have t1:(x.aH==aH)=false:=ax m;have a:=l.o false (by simp[js,m]) I;have d:=ai a;clear a h m;go_wp2_with fail;go_roundw;case rel=>exact d.o
   case measure=>exact bS
  have t1:(x.aH==aH)=true:=ax m;by_cases L:x.bI=b;case neg=>
   have a:=l.o false (by simp[js,L]) I;have d:=ai a;clear a;go_wp2_with(first|(refine kZ ba _ (.tmp 29) I wr.heap.size 3 50 _ [x.bI,x.bb] _ I s.o (nn x.kind x.inc x.aH x.bI x.bb x.ord x.val) wj I Z ?_)|(refine mZ ba _ (.tmp 6) I (w.heap.size+1) 42 [b,c] _ I r.o wj I Z ?_));go_roundw;case rel=>exact d.o
   case measure=>exact bS
  by_cases M:x.bb=c;case neg=>
   have a:=l.o false (by simp[js,M]) I;have d:=ai a;clear a;go_wp2_with(first|(refine kZ ba _ (.tmp 29) I wr.heap.size 3 50 _ [x.bI,x.bb] _ I s.o (nn x.kind x.inc x.aH x.bI x.bb x.ord x.val) wj I Z ?_)|(refine mZ ba _ (.tmp 6) I (w.heap.size+1) 42 [b,c] _ I r.o wj I Z ?_));go_roundw;case rel=>exact d.o
   case measure=>exact bS
  by_cases t:x.ord=ord;case neg=>
   have a:=l.o false (by simp[js,t]) I;have t4:(x.ord==ord)=false:=ax t;have d:=ai a;clear a;go_wp2_with(first|(refine kZ ba _ (.tmp 29) I wr.heap.size 3 50 _ [x.bI,x.bb] _ I s.o (nn x.kind x.inc x.aH x.bI x.bb x.ord x.val) wj I Z ?_)|(refine mZ ba _ (.tmp 6) I (w.heap.size+1) 42 [b,c] _ I r.o wj I Z ?_));go_roundw;case rel=>exact d.o
   case measure=>exact bS
  have t4:(x.ord==ord)=true:=ax t;have a:=Q.o (by simp[js,h,m,L,M,t]);have d:=ai a;clear a;go_wp2_with(first|(refine kZ ba _ (.tmp 29) I wr.heap.size 3 50 _ [x.bI,x.bb] _ I s.o (nn x.kind x.inc x.aH x.bI x.bb x.ord x.val) wj I Z ?_)|(refine mZ ba _ (.tmp 6) I (w.heap.size+1) 42 [b,c] _ I r.o wj I Z ?_));go_ret;exact d.o
 have Y:decide (k<p2)=false:=ax B;have a:ng (kS f aH b c ord) w (.returned (.int .i64 0)) wr:=⟨by rw[p,uO (an G.o)];rfl,aM F.o e⟩;obtain⟨d,a0,E,R,A⟩:=dC a p e n u;clear a p e n u;go_wp2_with fail;go_ret;exact d.o
theorem zJ(w S v g y z)(p1 q1 p2 q2 aK aI aR aQ:Nat)(f)(aH b c ord:Int)(d:∀i,S i->i<w.heap.size)(n:bl dG 7 w S g p2 q2 f)(aJ:f.length<=1000000):Calls Tryz.prog 37 #[.agg #[.slice v p1 q1,.slice g p2 q2,.slice y aK aI,.slice z aR aQ],aH,.agg #[b,c],ord] w (ng (kS f aH b c ord) w):=by
 have hp:=n.1;have a6:p2<=1000000:=O;generalize e:(w.alloc (.cells #[.slice v p1 q1,.slice g p2 q2,.slice y aK aI,.slice z aR aQ] 38)).alloc (.cells #[b,c] 42)=W;have m:ab w W:=e▸eL (cx w _) _;have h:aC W w.heap.size 38 #[.slice v p1 q1,.slice g p2 q2,.slice y aK aI,.slice z aR aQ]:=e▸(cu w _ _).alloc _;have j:aC W (w.heap.size+1) 42 #[b,c]:=e▸(by simpa using cu (w.alloc _) _ _);have a7:w.heap.size+1<W.heap.size:=j.lt;have a:W.cell? ⟨w.heap.size,1,none⟩=some (.slice g p2 q2):=by rw[h.cell];rfl
 have p:=(n.aq (cS m d)).more (T:=λ i=>i<W.heap.size) (λ i l=>an (d i l));obtain⟨F,C,D,V,P,a1,G⟩:=dW m h j p a d hp;clear m h j p a d hp n;go_enter func37,ntmps37;go_upto_region 1 with fail;clear e;have a:=P.o;go_wp2_with fail;clear a;go_loopw[9] (λ i wr=>uh W f aH b c ord i wr) (λ i _=>p2- (intOf i).toNat);case atStart=>exact⟨0,I,ef _,I,aN _ _⟩
 obtain⟨k,rfl,a5,p,e⟩:=hrel;have a8:=e.size;have n:=e.ay C.o C.o.lt;have u:=e.ay D.o D.o.lt;have a:wr.cell? ⟨w.heap.size,1,none⟩=some (.slice g p2 q2):=by rw[n.cell];rfl
 by_cases B:k<p2
 ·obtain⟨b',N,x,rfl,a2,m,d⟩:=(V.o.aq (cS e (λ i l=>l))).at_ jy B;have Y:decide (k<p2)=true:=ax B;have a3:(0:Int)<=k:=O;have a4:(k:Int)<p2:=O;have l:wr.rangeAt b' (N+k*7) [x.kind,x.inc,x.aH,x.bI,x.bb,x.ord,x.val]:=d;have j:=p.trans (DI m);have h:k+1<=f.length:=an G.o;clear d m p;obtain⟨X,H,E,R,A,U⟩:=er l j e n u h;clear l j e n u h;go_upto_region 5 with(first|(refine wpList_load_mid rfl _ (.tmp 21) rfl b' (N+k*7) rfl [x.kind,x.inc,x.aH,x.bI,x.bb,x.ord,x.val] _ X.o underlying50 rfl Z ?_)|(refine db rfl _ (.tmp 10) (.tmp 22) rfl wr.heap.size 50 _ [x.kind,x.inc,x.aH,x.bI,x.bb,x.ord,x.val] rfl rfl (aC.new _ _ _) rfl Z rfl ?_;intro j d m));have h:ab wr j:=zv (cx _ _) m (dq _);have l:=h.ay A.o A.o.lt;have t:=aM E.o h;clear a;have a9:j.cell? ⟨wr.heap.size,0,none⟩=some (.int .i64 x.kind):=by rw[d.cell];rfl
  have a':j.cell? ⟨wr.heap.size,2,none⟩=some (.int .i64 x.aH):=by rw[d.cell];rfl
  have a_:j.cell? ⟨wr.heap.size,5,none⟩=some (.int .i64 x.ord):=by rw[d.cell];rfl
  obtain⟨s,r,K⟩:=cf d l t;clear d l t m h;have fin:∀q:Bool,js aH b c ord x=q->q=false->uh W f aH b c ord (.int .i64 (k+1)) j:=λ q h1 h2=>⟨k+1,aT,U.o,by have:=H.o;rw[h1,h2]at this;simpa using this,K.o⟩;have a:js aH b c ord x=true->ng (kS f aH b c ord) w (.returned (.int .i64 (k+1))) j:=λ h1=>⟨by have:=H.o;rw[h1]at this;simp[this],aM F.o K.o⟩;obtain⟨l,Q⟩:=ck fin a;clear fin a;by_cases h:x.kind=1;case neg=>
   have t0:(x.kind==1)=false:=ax h;have a:=l.o false (by simp[js,h]) I;have d:=ai a;clear a h;go_wp2_with fail;go_roundw;case rel=>exact d.o
   case measure=>exact bS
  have t0:(x.kind==1)=true:=ax h;by_cases m:x.aH=aH;case neg=>
   have t1:(x.aH==aH)=false:=ax m;have a:=l.o false (by simp[js,m]) I;have d:=ai a;clear a h m;go_wp2_with fail;go_roundw;case rel=>exact d.o
   case measure=>exact bS
  have t1:(x.aH==aH)=true:=ax m;by_cases L:x.bI=b;case neg=>
   have a:=l.o false (by simp[js,L]) I;have d:=ai a;clear a;go_wp2_with(first|(refine kZ ba _ (.tmp 33) I wr.heap.size 3 50 _ [x.bI,x.bb] _ I s.o (nn x.kind x.inc x.aH x.bI x.bb x.ord x.val) wj I Z ?_)|(refine mZ ba _ (.tmp 6) I (w.heap.size+1) 42 [b,c] _ I r.o wj I Z ?_));go_roundw;case rel=>exact d.o
   case measure=>exact bS
  by_cases M:x.bb=c;case neg=>
   have a:=l.o false (by simp[js,M]) I;have d:=ai a;clear a;go_wp2_with(first|(refine kZ ba _ (.tmp 33) I wr.heap.size 3 50 _ [x.bI,x.bb] _ I s.o (nn x.kind x.inc x.aH x.bI x.bb x.ord x.val) wj I Z ?_)|(refine mZ ba _ (.tmp 6) I (w.heap.size+1) 42 [b,c] _ I r.o wj I Z ?_));go_roundw;case rel=>exact d.o
   case measure=>exact bS
  by_cases t:x.ord=ord;case neg=>
   have a:=l.o false (by simp[js,t]) I;have t4:(x.ord==ord)=false:=ax t;have d:=ai a;clear a;go_wp2_with(first|(refine kZ ba _ (.tmp 33) I wr.heap.size 3 50 _ [x.bI,x.bb] _ I s.o (nn x.kind x.inc x.aH x.bI x.bb x.ord x.val) wj I Z ?_)|(refine mZ ba _ (.tmp 6) I (w.heap.size+1) 42 [b,c] _ I r.o wj I Z ?_));go_roundw;case rel=>exact d.o
   case measure=>exact bS
  have t4:(x.ord==ord)=true:=ax t;have a:=Q.o (by simp[js,h,m,L,M,t]);have d:=ai a;clear a;go_wp2_with(first|(refine kZ ba _ (.tmp 33) I wr.heap.size 3 50 _ [x.bI,x.bb] _ I s.o (nn x.kind x.inc x.aH x.bI x.bb x.ord x.val) wj I Z ?_)|(refine mZ ba _ (.tmp 6) I (w.heap.size+1) 42 [b,c] _ I r.o wj I Z ?_));go_ret;exact d.o
 have Y:decide (k<p2)=false:=ax B;have a:ng (kS f aH b c ord) w (.returned (.int .i64 0)) wr:=⟨by rw[p,uO (an G.o)];rfl,aM F.o e⟩;obtain⟨d,a0,E,R,A⟩:=dC a p e n u;clear a p e n u;go_wp2_with fail;go_ret;exact d.o
end
section
open Go.Proofs
structure dD where
 proc:Int
 kind:Int
 aH:Int
 idx:Int
 ord:Int
 val:Int
def gV(x:dD):List Value:=[.int .i64 x.proc,.int .i64 x.kind,.int .i64 x.aH,.int .i64 x.idx,.int .i64 x.ord,.int .i64 x.val]
theorem EB(x):(gV x).length=6:=I
theorem Fz(d):∀u∈gV d,u.oneCell'=true:=by intro u hu;simp[gV]at hu;rcases hu with h|h|h|h|h|h<;>subst h<;>rfl
theorem MG:(Tryz.prog.info? 200).map (λ i=>(i.zero,i.size,i.bytes))=some (some (.agg #[.int .i64 0,.int .i64 0,.int .i64 0,.int .i64 0,.int .i64 0,.int .i64 0]),6,48):=Z
theorem xu{P}(t e i z)(g:P.underlying t=some (.slice e))(f:P.info? e=some i)(j:i.zero=some z)(b cq)(n c:Nat)(m:n<=c)(l:i.bytes*c<=281474976710656)(k:c<=9223372036854775807)(w):(Instr.makeSlice t (.int b (n:Int)) (.int cq (c:Int))).run P w=.ok (.slice (some ⟨w.heap.size,0,none⟩) n c) (w.alloc (.cells (madeCells z.cells (c*i.size)) e)):=by
 have d:(i.bytes:Int)*(c:Int)<=281474976710656:=by have h:((i.bytes*c:Nat):Int)<=281474976710656:=O;rwa [Int.natCast_mul]at h
 have a:=run_make (P:=P) w t e i z g f j b cq n c O O d O;simp only[Int.toNat_natCast]at a;exact a
end
section
open Go.Proofs
structure sI where
 proc:Int
 idx:Int
 ord:Int
 val:Int
structure kB where
 cr:List de
 world:List sI
def je:de:=⟨[],[],[],[]⟩
def lM:eb:=⟨[],[],[],[],[]⟩
structure oQ (cs:List eb) (m:kB):Prop where
 len:m.cr.length=cs.length
 st:∀p,p<cs.length->m.cr.getD p je=gI (cs.getD p lM) p cs.length (m.cr.getD p je).events
 ei:∀p,p<cs.length->(m.cr.getD p je).events.length<=64
theorem oQ.lens{cs m}(h:oQ cs m){p}(hp:p<cs.length):(m.cr.getD p je).cells.length=(cs.getD p lM).init.length/\(m.cr.getD p je).cD.length<=8*((m.cr.getD p je).events.length+1)/\(m.cr.getD p je).outs.length<=8*((m.cr.getD p je).events.length+1)/\(m.cr.getD p je).events.length<=64:=by have h1:=uD (cs.getD p lM) p cs.length (m.cr.getD p je).events;rw[<-h.st p hp]at h1;exact⟨h1.1,h1.2.1,h1.2.2.1,h.ei p hp⟩
end
section
variable {P:Program} (w:World)
theorem AJ(base:Nat)(e:TypeId)(z:Value)(size n m c:Nat)(xs news:List Value)(b:xs.length=n*size)(a:news.length=m*size)(g:z.cells.size=size)(d:base<=w.heap.size)(av:n+m<=c)(f:c<=maxLen):(w.drew.alloc (.cells (xs.toArray++news.toArray++Builtin.zeroCells z.cells (c- (n+m))) e)).ownsRow base e size (.slice (some ⟨w.heap.size,0,none⟩) (n+m) c) (n+m) (xs++news):=by
 have hlen:(xs++news).length=(n+m)*size:=by rw[gp,b,a,nO]
 refine⟨hlen,.inr ⟨w.heap.size,_,_,I,d,heap_alloc_new w.drew _,av,f,?_,?_⟩⟩
 ·simp only[Array.size_append,List.size_toArray,size_zeroCells,g,b,a,<-Nat.add_mul];congr 1;omega
 simp only[Array.toList_append,List.append_assoc];rw[<-pV,<-hlen];exact List.take_left
end
theorem bl.DG{α}{enc:α->List Value}{size n base e v w}{l:List α}(h:w.ownsRow base e size v n (l.flatMap enc))(aJ:n=l.length):∃A c,v=.slice A n c/\bl enc size w (λ i=>base<=i/\i<w.heap.size) A n c l:=by subst aJ;exact nS h
structure uW where
 seq:Int
 LA:Int
 val:Int
def wL(p:uW):List Value:=[.int .i64 p.seq,.int .i64 p.LA,.int .i64 p.val]
structure xL where
 GV:Int
 base:Int
 kept:List Int
 want:Int
 early:List uW
def rY(w:World)(S:Nat->Prop)(cs:List Value)(k:xL):Prop:=∃(a b:Option Addr) (e c f d:Nat),cs=[.int .i64 k.GV,.int .i64 k.base,.slice a e c,.int .i64 k.want,.slice b f d]/\bl bE 1 w S a e c k.kept/\bl wL 3 w S b f d k.early
theorem rY.aq{w ae S cs k}(h:rY w S cs k)(a:aw S w ae):rY ae S cs k:=by obtain⟨b,c,g,d,i,f,e,h1,h2⟩:=h;exact⟨b,c,g,d,i,f,e,h1.aq a,h2.aq a⟩
theorem rY.more{w S T cs k}(h:rY w S cs k)(a:∀i,S i->T i):rY w T cs k:=by obtain⟨b,c,g,d,j,f,e,h1,h2⟩:=h;exact⟨b,c,g,d,j,f,e,h1.more a,h2.more a⟩
def fo(w:World)(S:Nat->Prop)(e:TypeId)(size:Nat)(A:Option Addr)(n c:Nat)(xs:List Value):Prop:=xs.length=n*size/\n<=c/\c<=maxLen/\((A=none/\c=0)\/∃(b off:Nat) (cur:Array Value),A=some ⟨b,off,none⟩/\S b/\w.heap[b]?=some (.cells cur e (0,0))/\off+c*size<=cur.size/\∀(j:Nat) (u:Value),xs[j]?=some u->cur[off+j]?=some u)
section
variable {w ae:World} {S T:Nat->Prop} {e:TypeId} {size n c:Nat} {A:Option Addr} {xs:List Value}
theorem fo.ji:fo w S e size none 0 0 []:=⟨aT,dq _,by simp[maxLen],.inl ⟨I,I⟩⟩
theorem fo.reads(h:fo w S e size A n c xs):dz w S size A n xs:=by
 refine⟨h.1,λ aJ=>?_⟩;rcases h.2.2.2 with ⟨_,h0⟩|⟨b,off,cur,a,d,f,g,av⟩
 ·have:=h.2.1;omega
 exact⟨b,off,a,d,λ j u hu=>by rw[cell_of_row w b (off+j) cur e (0,0) f];exact av j u hu⟩
theorem fo.aq(h:fo w S e size A n c xs)(i:aw S w ae):fo ae S e size A n c xs:=by refine⟨h.1,h.2.1,h.2.2.1,h.2.2.2.imp id ?_⟩;rintro⟨b,off,cur,d,a,g,f,av⟩;exact⟨b,off,cur,d,a,(i.block b a).trans g,f,av⟩
theorem fo.more(h:fo w S e size A n c xs)(f:∀i,S i->i<w.heap.size->T i):fo w T e size A n c xs:=by refine⟨h.1,h.2.1,h.2.2.1,h.2.2.2.imp id ?_⟩;rintro⟨b,off,cur,d,g,a,j,av⟩;exact⟨b,off,cur,d,f b g (pc.1 a).1,a,j,av⟩
theorem fo.from_(h:fo w S e size A n c xs){k:Nat}(i:k<=n):fo w S e size (if c=k then A else A.map (·.add (k*size))) (n-k) (c-k) (xs.drop (k*size)):=by
 have h2:=h.2.1;refine⟨by rw[pn,h.1,Nat.sub_mul],O,an h.2.2.1,?_⟩;rcases h.2.2.2 with ⟨rfl,h0⟩|⟨b,off,cur,rfl,d,f,g,av⟩
 ·subst h0;obtain rfl:k=0:=O;exact .inl ⟨aT,I⟩
 by_cases a:c=k
 ·rw[if_pos a];subst a;refine .inr ⟨b,off,cur,I,d,f,aY,λ j u hu=>?_⟩;rw[uO (by rw[h.1];exact nG _ h2)]at hu;cases hu
 rw[if_neg a];refine .inr ⟨b,off+k*size,cur,by simp[mF],d,f,?_,λ j u hu=>?_⟩
 ·have:k*size+(c-k)*size=c*size:=by rw[<-nO];congr 1;omega
  omega
 rw[nr];exact av _ u (by rw[<-hu,oa])
theorem fo.sQ{base v}(h:w.ownsRow base e size v n xs):∃A c,v=.slice A n c/\fo w (λ i=>base<=i/\i<w.heap.size) e size A n c xs:=by
 rcases h.2 with ⟨rfl,rfl⟩|⟨g,cap,cur,rfl,b,a,k,d,f,l⟩
 ·exact⟨none,0,I,h.1,dq _,by simp[maxLen],.inl ⟨I,I⟩⟩
 refine⟨_,cap,I,h.1,k,d,.inr ⟨g,0,cur,I,⟨b,(pc.1 a).1⟩,a,by rw[gb,f];exact dq _,λ j u hu=>?_⟩⟩;rw[gb];rw[<-l,mT]at hu;split at hu
 ·simpa using hu
 cases hu
abbrev yW:=@fo.sQ
end
theorem Mn(g t):∀(vs:List Value) (o:Nat) (w:World) (cs:Array Value),w.heap[g]?=some (.cells cs t (0,0))->(w.setCells g o vs).heap[g]?=some (.cells (eY cs o vs) t (0,0)):=λ vs o w cs h=>aC.setCells (g:=g) (t:=t) vs o w cs h
theorem ry:∀(vs:List Value) (o:Nat) (cs:Array Value),o+vs.length<=cs.size->∀j,(eY cs o vs)[j]?=if o<=j/\j<o+vs.length then vs[j-o]? else cs[j]?
 |[],o,cs,_,j=>by simp[eY];intro h1 h2;omega
 |v::vs,o,cs,h,j=>by
  simp at h
  rw[eY,ry vs (o+1) _ aY j]
  by_cases h1:o+1<=j/\j<o+1+vs.length
  ·rw[di h1,di aY]
   have:j-o=(j- (o+1))+1:=O
   rw[this,List.getElem?_cons_succ]
  ·rw[dg h1]
   by_cases h2:j=o
   ·subst h2
    rw[di aT,Nat.sub_self]
    simp[Array.getElem?_setIfInBounds,show j<cs.size from O]
   ·rw[dg aY,Array.getElem?_setIfInBounds_ne O]
theorem tY:∀(vs:List Value) (o:Nat) (cs:Array Value),(eY cs o vs).size=cs.size
 |[],_,_=>rfl
 |v::vs,o,cs=>by rw[eY,tY vs];simp
section
variable {P:Program} (w:World)
theorem Gl{size e e'}(d:P.underlying e=some (.slice e')){T B m c news}(a:dz w T size B m news)(h1:∀u∈news,u.oneCell'=true):Src P size e (.slice B m c) m news w:=by
 rcases B with _|f
 ·have hm:m=0:=by
   rcases qD m with h0|h0
   ·exact h0
   obtain⟨_,_,h,_⟩:=a.2 h0;cases h
  subst hm;have aJ:news=[]:=nD (ax a.1);subst aJ;exact Src.ofNil w d c
 refine Src.ofSlice w d f m c news a.1 (λ j u hu=>?_) h1;rcases qD m with h0|h0
 ·subst h0;have aJ:news=[]:=nD (ax a.1);subst aJ;simp at hu
 obtain⟨b,off,h,_,av⟩:=a.2 h0;injection h with h;subst h;rw[mF];exact av j u hu
theorem Gj(t ty e i z size bytes)(o:P.underlying t=some (.slice e))(r:P.info? e=some i)(G:i.zero=some z)(y:i.size=size)(x:i.bytes=bytes)(H:z.cells.size=size)(R:0<size)(S A n c xs)(g:fo w S e size A n c xs)(T B m f news)(v:dz w T size B m news)(h1:∀u∈news,u.oneCell'=true)(p:n+m<=maxLen)(D:(n+m)*bytes<=140737488355328):∃bf bc ae,(Builtin.append_ #[t,t] ty #[.slice A n c,.slice B m f]).run P w=.ok (.slice bf (n+m) bc) ae/\fo ae (λ k=>S k\/(w.heap.size<=k/\k<ae.heap.size)) e size bf (n+m) bc (xs++news)/\aw (λ k=>k<w.heap.size/\¬S k) w ae:=by
 rcases g.2.2.2 with ⟨rfl,a⟩|⟨b,off,cur,rfl,C,l,M,av⟩
 ·subst a;obtain rfl:n=0:=an g.2.1;obtain rfl:xs=[]:=nD (ax g.1);obtain⟨bT,ae,d,s,Q,_⟩:=xO (P:=P) w w.heap.size t ty e i z size bytes o r G y x H R (.slice none 0 0) 0 [] (ee w w.heap.size e size) T B m f news v h1 p D (dq _);obtain⟨bf,bc,rfl,q⟩:=yW s;exact⟨bf,bc,ae,d,q.more (λ k a _=>.inr a),cS (fh (aN (·<w.heap.size) w) (ee w w.heap.size e size) Q (λ _ h=>h) (dq _)) (λ k a=>a.1)⟩
 subst y;subst x;have au:=Gl (P:=P) w (c:=f) o v h1;have y:=g.1;have F:=v.1;by_cases x:n+m<=c
 ·have hmul:n*i.size+m*i.size<=c*i.size:=by rw[<-nO];exact nG _ x
  have L:∀j,j<news.length->(w.cell? ⟨b,off+n*i.size+j,none⟩).isSome=true:=λ j E=>by rw[cell_of_row w b _ cur e (0,0) l];simp;omega
  have N:∀j,j<news.length->w.frozen? ⟨b,off+n*i.size+j,none⟩=false:=λ j _=>aC.frozen (w:=w) l _;have d:=run_append_room_src w t t ty e i o r b off n c (.slice B m f) m news au x L N;refine⟨_,_,_,d,⟨by rw[gp,y,F,nO],x,g.2.2.1,.inr ⟨b,off,_,I,.inl C,Mn b e news _ w cur l,by rw[tY];exact M,λ j u hu=>?_⟩⟩,cS (tk b w _ news) (λ k a K=>a.2 (K▸C))⟩;rw[ry news _ cur O];by_cases E:j<xs.length
  ·rw[dg O];rw[me E]at hu;exact av j u hu
  rw[oH O]at hu;have dN:=(dV.1 hu).1;rw[di O];rw[<-hu];congr 1;omega
 have hold:(Builtin.firstCells i.size n (.slice (some ⟨b,off,none⟩) n c)).run P w.drew=.ok xs.toArray w.drew:=run_firstCells_some w.drew i.size n ⟨b,off,none⟩ n c xs y (λ j u hu=>by rw[mF];exact(cell_of_row w b (off+j) cur e (0,0) l).trans (av j u hu));have V:n+m<=9223372036854775807:=by simp only[maxLen]at p;omega
 have d:=run_append_grow_src w t t ty e i z o r G (some ⟨b,off,none⟩) n c xs hold (.slice B m f) m news au O O (growslice_fits O D);have s:=AJ w w.heap.size e z i.size n m _ xs news y F H (dq _) (grownCap_ge w (n+m) c e) (grownCap_le_maxLen w (n+m) c e p);have K:(xs++news).toArray=xs.toArray++news.toArray:=aT;rw[K]at d;obtain⟨bf,bc,U,q⟩:=yW s;rw[U]at d;exact⟨bf,bc,_,d,q.more (λ k a _=>.inr a),⟨I,I,I,aT,λ k a=>uA w.drew _ k a.1⟩⟩
theorem FM{o:Oper}{a}{K:Act->World->Prop}{Q:Exit->Act->World->Prop}(s x:Operand)(t)(p:o.op=.call {callee:=.builtin .append,args:=#[s,x],argTypes:=#[t,t]})(e)(i:TypeInfo)(z)(size bytes:Nat)(D:P.underlying t=some (.slice e))(l:P.info? e=some i)(F:i.zero=some z)(v:i.size=size)(g:i.bytes=bytes)(G:z.cells.size=size)(C:0<size)(S A)(n c:Nat)(xs)(y:a.eval s=.slice A n c)(f:fo w S e size A n c xs)(T B)(m b:Nat)(news)(E:a.eval x=.slice B m b)(q:dz w T size B m news)(h1:∀u∈news,u.oneCell'=true)(d:n+m<=maxLen)(j:(n+m)*bytes<=140737488355328)(h:∀bf bc ae,fo ae (λ k=>S k\/(w.heap.size<=k/\k<ae.heap.size)) e size bf (n+m) bc (xs++news)->aw (λ k=>k<w.heap.size/\¬S k) w ae->K (a.put o.dst (.slice bf (n+m) bc)) ae):o.wp P a w K Q:=by obtain⟨bf,bc,ae,r,h2,aA⟩:=Gj (P:=P) w t o.type e i z size bytes D l F v g G C S A n c xs f T B m b news q h1 d j;unfold Oper.wp execOp;simp only[p,resolve,invoke,builtin,Sem.run_bind,Sem.run_pure,Result.andThen_ok,List.map_toArray,List.map_cons,List.map_nil,y,E,r];exact h bf bc ae h2 aA
theorem Hb{ops rest o a Q}(p:o.guard=none)(s x t)(r:o.op=.call {callee:=.builtin .append,args:=#[s,x],argTypes:=#[t,t]})(e i z size bytes)(E:P.underlying t=some (.slice e))(q:P.info? e=some i)(G:i.zero=some z)(y:i.size=size)(j:i.bytes=bytes)(H:z.cells.size=size)(D:0<size)(S A n c xs)(C:a.eval s=.slice A n c)(g:fo w S e size A n c xs)(T B m b news)(F:a.eval x=.slice B m b)(v:dz w T size B m news)(h1:∀u∈news,u.oneCell'=true)(d:n+m<=maxLen)(l:(n+m)*bytes<=140737488355328)(h:∀bf bc ae,fo ae (λ k=>S k\/(w.heap.size<=k/\k<ae.heap.size)) e size bf (n+m) bc (xs++news)->aw (λ k=>k<w.heap.size/\¬S k) w ae->wpList P ops Q rest (a.put o.dst (.slice bf (n+m) bc)) ae):wpList P ops Q (o::rest) a w:=pS p λ _ f=>FM w s x t r e i z size bytes E q G y j H D S A n c xs C g T B m b news F v h1 d l λ bf bc ae h2 aA=>f _ _ (h bf bc ae h2 aA)
theorem qp{ops o a K Q E}(l:o.guard=none)(s x t)(q:o.op=.call {callee:=.builtin .append,args:=#[s,x],argTypes:=#[t,t]})(e i z size bytes)(D:P.underlying t=some (.slice e))(p:P.info? e=some i)(G:i.zero=some z)(v:i.size=size)(g:i.bytes=bytes)(H:z.cells.size=size)(C:0<size)(S A n c xs)(y:a.eval s=.slice A n c)(f:fo w S e size A n c xs)(T B m b news)(F:a.eval x=.slice B m b)(r:dz w T size B m news)(h1:∀u∈news,u.oneCell'=true)(d:n+m<=maxLen)(j:(n+m)*bytes<=140737488355328)(h:∀bf bc ae,fo ae (λ k=>S k\/(w.heap.size<=k/\k<ae.heap.size)) e size bf (n+m) bc (xs++news)->aw (λ k=>k<w.heap.size/\¬S k) w ae->K (a.put o.dst (.slice bf (n+m) bc)) ae):if Region.wanted o (yielded ops a.tmps)=true then Oper.wp P o a w K Q else E:=by
 have hw:Region.wanted o (yielded ops a.tmps)=true:=by simp[Region.wanted,l]
 rw[di hw];exact FM w s x t q e i z size bytes D p G v g H C S A n c xs y f T B m b news F r h1 d j h
end
section
open Go.Proofs
def nf(w:World)(X:Nat->Prop)(i:Nat):Prop:=i<w.heap.size/\¬X i
theorem CD{size}:∀(aP:List (List Value)) (k j:Nat) (cs:List Value),(∀c∈aP,c.length=size)->aP[k]?=some cs->j<size->aP.flatten[k*size+j]?=cs[j]?
 |c::aP,0,j,cs,h,a,b=>by
  simp at a
  subst a
  rw[List.flatten_cons,List.getElem?_append_left (by rw[h c aT];omega),Nat.zero_mul,Nat.zero_add]
 |c::aP,k+1,j,cs,h,a,b=>by
  have av:=h c aT
  rw[List.flatten_cons,List.getElem?_append_right (by rw[av,Nat.add_mul];omega),av]
  have:(k+1)*size+j-size=k*size+j:=by rw[Nat.add_mul];omega
  rw[this,CD aP k j cs (λ c av=>h c (by simp[av])) (ax a) b]
theorem wo{size}:∀(aP:List (List Value)),(∀c∈aP,c.length=size)->aP.flatten.length=aP.length*size
 |[],_=>aT
 |c::aP,h=>by
  rw[List.flatten_cons,List.length_append,h c aT,wo aP (λ c av=>h c (by simp[av])),List.length_cons,nO]
  omega
theorem tj{size}:∀(aP:List (List Value)) (k:Nat) (cs:List Value),(∀c∈aP,c.length=size)->cs.length=size->k<aP.length->∀i,(aP.set k cs).flatten[i]?=if k*size<=i/\i<k*size+size then cs[i-k*size]? else aP.flatten[i]?
 |c::aP,0,cs,h,av,_,i=>by
  have h0:=h c aT
  rw[List.set_cons_zero,List.flatten_cons,List.flatten_cons,Nat.zero_mul,Nat.zero_add,Nat.sub_zero]
  by_cases a:i<size
  ·rw[di ⟨O,a⟩,List.getElem?_append_left O]
  ·rw[dg O,List.getElem?_append_right O,List.getElem?_append_right O,av,h0]
 |c::aP,k+1,cs,h,av,b,i=>by
  have h0:=h c aT
  rw[List.set_cons_succ,List.flatten_cons,List.flatten_cons]
  have d:=tj aP k cs (λ c av=>h c (by simp[av])) av (ax b)
  have e:(k+1)*size=k*size+size:=by rw[Nat.add_mul];omega
  by_cases a:i<size
  ·rw[List.getElem?_append_left O,dg O,List.getElem?_append_left O]
  ·rw[List.getElem?_append_right O,h0,d (i-size)]
   by_cases h2:k*size<=i-size/\i-size<k*size+size
   ·rw[di h2,di O]
    congr 1
    omega
   ·rw[dg h2,dg O,List.getElem?_append_right O,h0]
def iw(w:World)(X:Nat->Prop)(aP:List (List Value))(cr:List de):Prop:=aP.length=cr.length/\(∀cs∈aP,cs.length=4)/\∀(k:Nat) (cs:List Value) (s:de),aP[k]?=some cs->cr[k]?=some s->ec w (nf w X) cs s
section
variable {w ae:World} {X EX T:Nat->Prop} {aP:List (List Value)} {cr:List de}
theorem nf.vh(b:ab w ae){i:Nat}(a:nf w X i):nf ae X i:=⟨cM a.1 b.size,a.2⟩
theorem iw.ji:iw w X [] []:=⟨I,aT,aT⟩
theorem iw.same(h:iw w X aP cr)(au:aw T w ae)(c:∀i,nf w X i->T i)(d:∀i,nf w X i->¬EX i):iw ae EX aP cr:=⟨h.1,h.2.1,λ k cs s a b=>((h.2.2 k cs s a b).aq (au.mono c)).more (λ i a=>⟨cM a.1 au.size,d i a⟩)⟩
theorem iw.aq(h:iw w X aP cr)(b:ab w ae):iw ae X aP cr:=h.same b (λ i a=>a.1) (λ i a=>a.2)
theorem iw.at_(h:iw w X aP cr){k:Nat}(f:k<cr.length):∃(a b c d:Option Addr) (p1 q1 p2 q2 aK aI aR aQ:Nat),aP[k]?=some [.slice a p1 q1,.slice b p2 q2,.slice c aK aI,.slice d aR aQ]/\ec w (nf w X) [.slice a p1 q1,.slice b p2 q2,.slice c aK aI,.slice d aR aQ] (cr.getD k je):=by
 have g:k<aP.length:=by rw[h.1];exact f
 have i:=h.2.2 k aP[k] cr[k] (dA g) (dA f);obtain⟨a,b,c,d,p1,q1,p2,q2,aK,aI,aR,aQ,e,j⟩:=qh i;refine⟨a,b,c,d,p1,q1,p2,q2,aK,aI,aR,aQ,by rw[dA g,e],?_⟩;have:cr.getD k je=cr[k]:=by simp[List.getD,f]
 rw[this];exact j
theorem iw.of(h:iw w X aP cr){k:Nat}{cs}(b:aP[k]?=some cs)(a:k<cr.length):ec w (nf w X) cs (cr.getD k je):=by
 have c:=h.2.2 k cs cr[k] b (dA a);have:cr.getD k je=cr[k]:=by simp[List.getD,a]
 rw[this];exact c
theorem iw.cell(h:iw w X aP cr){g:Nat}{t}{k j:Nat}{cs u}(b:aC w g t aP.flatten.toArray)(a:aP[k]?=some cs)(hu:cs[j]?=some u):w.cell? ⟨g,k*4+j,none⟩=some u:=by
 have d:cs.length=4:=h.2.1 cs (eo a);have c:j<4:=by rw[<-d];exact(dV.1 hu).1
 rw[b.cell,fg,CD aP k j cs h.2.1 a c];exact hu
theorem iw.jO(h:iw w X aP cr){k:Nat}{cs s}(f:ec w (nf w X) cs s)(av:cs.length=4):iw w X (aP.set k cs) (cr.set k s):=by
 refine⟨by simp[h.1],λ c e=>?_,λ j c t a b=>?_⟩
 ·rcases wO e with h1|h1
  ·exact h.2.1 c h1
  rw[h1];exact av
 rw[uU]at a b;by_cases d:k=j
 ·rw[if_pos d]at a b;split at a
  ·split at b
   ·injection a with a;injection b with b;rw[<-a,<-b];exact f
   cases b
  cases a
 rw[if_neg d]at a b;exact h.2.2 j c t a b
theorem iw.snoc(h:iw w X aP cr){cs s}(i:ec w (nf w X) cs s)(av:cs.length=4):iw w X (aP++[cs]) (cr++[s]):=by
 refine⟨by simp[h.1],λ c g=>?_,λ j c t b a=>?_⟩
 ·rcases jV.1 g with h1|h1
  ·exact h.2.1 c h1
  simp at h1;rw[h1];exact av
 have h1:=h.1;rcases jB j cr.length with d|d
 ·rw[me O]at b;rw[me d]at a;exact h.2.2 j c t b a
 rw[oH O]at b;rw[oH d]at a;have e:j-cr.length=0:=by have:=(dV.1 a).1;simpa using this
 have f:j-aP.length=0:=O;rw[e]at a;rw[f]at b;simp at b a;subst b a;exact i
theorem iw.dP(h:iw w X aP cr){A}{c:Nat}{S}(aJ:cr.length<=c)(av:c<=maxLen)(f:dz w S 4 A cr.length aP.flatten)(d:∀i,S i->T i)(e:∀i,nf w X i->T i):cN w T 4 (ec w T) A cr.length c cr:=⟨I,aJ,av,aP,h.1,h.2.1,f.more d,λ k cs s a b=>(h.2.2 k cs s a b).more e⟩
end
def ld(w:World)(S:Nat->Prop)(A:Option Addr)(n c:Nat)(l:List eb):Prop:=cN w S 5 (iE w S) A n c l
theorem ld.aq{w ae S A n c l}(h:ld w S A n c l)(b:aw S w ae):ld ae S A n c l:=lF h b (λ cs a h=>h.aq b)
theorem ld.more{w S T A n c l}(h:ld w S A n c l)(b:∀i,S i->T i):ld w T A n c l:=cN.more h b (λ cs a h=>h.more b)
theorem ld.at_{w S A n c l}(h:ld w S A n c l){k}(H:k<n):∃(b off:Nat) (i j m o p:Option Addr) (B C p1 q1 p2 q2 aK aI aR aQ:Nat),A=some ⟨b,off,none⟩/\S b/\iE w S [.slice i B C,.slice j p1 q1,.slice m p2 q2,.slice o aK aI,.slice p aR aQ] (l.getD k lM)/\w.rangeAt b (off+k*5) [.slice i B C,.slice j p1 q1,.slice m p2 q2,.slice o aK aI,.slice p aR aQ]:=by
 obtain⟨b,off,cs,a,e,F,G,E,K,av⟩:=cN.at_ h H;obtain⟨d,f,g,bY,cC,v,q,cL,r,x,s,y,t,z,u,D,rest⟩:=E;subst D;have D:l.getD k lM=a:=by simp[List.getD,G]
 refine⟨b,off,d,f,g,bY,cC,v,q,cL,r,x,s,y,t,z,u,e,F,?_,av⟩;rw[D];exact⟨d,f,g,bY,cC,v,q,cL,r,x,s,y,t,z,u,I,rest⟩
end
section
open Go.Proofs
def bx(w:World)(L:Nat->Nat)(a:Nat)(i:Nat):Prop:=i<w.heap.size/\L i=a
def ext(L:Nat->Nat)(a:Nat)(F:Nat->Nat)(i:Nat):Nat:=if i<a then L i else F i
theorem eT{L a F i}(h:i<a):ext L a F i=L i:=di h
theorem ja{L a F i}(h:a<=i):ext L a F i=F i:=dg O
def jN(w:World)(L:Nat->Nat)(a:Nat)(e:TypeId)(size:Nat)(A:Option Addr)(n c:Nat)(xs:List Value):Prop:=n<=c/\c<=maxLen/\((w.ownsRow 0 e size (.slice A n c) n xs/\∀b,Value.ownBlock (.slice A n c)=some b->L b=a)\/(c=n/\dz w (bx w L 0) size A n xs))
section
variable {w ae:World} {L bL:Nat->Nat} {a:Nat} {e:TypeId} {size:Nat} {A:Option Addr} {n c:Nat} {xs:List Value} {T:Nat->Prop}
theorem jN.same(h:jN w L a e size A n c xs)(au:aw T w ae)(j:∀i,i<w.heap.size->(L i=a\/L i=0)->T i)(g:∀i,i<w.heap.size->bL i=L i):jN ae bL a e size A n c xs:=by
 obtain⟨h1,h2,aA⟩:=h;refine⟨h1,h2,?_⟩;rcases aA with ⟨aA,aS⟩|⟨aA,aS⟩
 ·exact .inl ⟨fu aA au (λ b f=>j b (aA.lt b f).2 (.inl (aS b f))),λ b f=>by rw[g b (aA.lt b f).2];exact aS b f⟩
 exact .inr ⟨aA,(aS.aq (au.mono (λ i d=>j i d.1 (.inr d.2)))).more (λ i d=>⟨cQ d.1 au.size,by rw[g i d.1];exact d.2⟩)⟩
theorem jN.reads(h:jN w L a e size A n c xs):dz w (λ i=>i<w.heap.size/\(L i=a\/L i=0)) size A n xs:=by
 obtain⟨h1,h2,aA⟩:=h;rcases aA with ⟨aA,aS⟩|⟨aA,aS⟩
 ·have j:=lX aA;refine⟨j.1,λ aJ=>?_⟩;obtain⟨b,off,e,k,av⟩:=j.2 aJ;rcases aA.2 with ⟨h0,m⟩|⟨g,cap,cur,d,_⟩
  ·omega
  injection d with d;rw[e]at d;injection d with d;injection d with o l;refine⟨b,off,e,⟨k.2,.inl (aS b ?_)⟩,av⟩;rw[e,l];rfl
 exact aS.more (λ i f=>⟨f.1,.inr f.2⟩)
theorem jN.dP{α}{enc:α->List Value}{l:List α}(h:jN w L a e size A l.length c (l.flatMap enc)):bl enc size w (λ i=>i<w.heap.size/\(L i=a\/L i=0)) A l.length c l:=⟨I,h.1,h.2.1,h.reads⟩
theorem jN.ji:jN w L a e size none 0 0 []:=⟨dq _,by simp[maxLen],.inl ⟨ee _ _ _ _,λ b c=>by cases c⟩⟩
theorem jN.full(h:dz w (bx w L 0) size A n xs)(aJ:n<=maxLen):jN w L a e size A n n xs:=⟨dq _,aJ,.inr ⟨I,h⟩⟩
variable {P:Program}
end
def qP(w:World)(L:Nat->Nat)(g:Nat)(s:de):Prop:=∃(a b bY cC:Option Addr) (h c d e f:Nat),aC w g 38 #[.slice a h c,.slice b s.events.length d,.slice bY s.cD.length e,.slice cC s.outs.length f]/\L g=1/\bl bE 1 w (λ i=>i<w.heap.size/\(L i=2\/L i=0)) a h c s.cells/\jN w L 3 50 7 b s.events.length d (s.events.flatMap dG)/\jN w L 4 40 4 bY s.cD.length e (s.cD.flatMap dF)/\jN w L 5 166 2 cC s.outs.length f (s.outs.flatMap mJ)
theorem IE{α:Type}{enc:α->List Value}{size:Nat}{w ae:World}{L bL:Nat->Nat}{a:Nat}{A:Option Addr}{n c:Nat}{l:List α}{T:Nat->Prop}(h:bl enc size w (λ i=>i<w.heap.size/\(L i=a\/L i=0)) A n c l)(au:aw T w ae)(e:∀i,i<w.heap.size->(L i=a\/L i=0)->T i)(d:∀i,i<w.heap.size->bL i=L i):bl enc size ae (λ i=>i<ae.heap.size/\(bL i=a\/bL i=0)) A n c l:=(h.aq (au.mono (λ i b=>e i b.1 b.2))).more (λ i b=>⟨cQ b.1 au.size,by rw[d i b.1];exact b.2⟩)
theorem qP.aq{w ae L bL g s}(h:qP w L g s)(c:ab w ae)(b:∀i,i<w.heap.size->bL i=L i):qP ae bL g s:=by obtain⟨e,f,bY,cC,o,j,k,l,m,d,h1,h2,aA,aS,n⟩:=h;exact⟨e,f,bY,cC,o,j,k,l,m,c.ay d d.lt,by rw[b g d.lt];exact h1,IE h2 c (λ i a _=>a) b,aA.same c (λ i a _=>a) b,aS.same c (λ i a _=>a) b,n.same c (λ i a _=>a) b⟩
theorem qP.lt{w L g s}(h:qP w L g s):g<w.heap.size/\L g=1:=by obtain⟨b,c,bY,cC,j,d,e,f,i,a,h1,_⟩:=h;exact⟨a.lt,h1⟩
theorem qP.open_{w L g s}(h:qP w L g s):∃(j k l m:Option Addr) (p1 q1 p2 q2 aK aI aR aQ:Nat),aC w g 38 #[.slice j p1 q1,.slice k p2 q2,.slice l aK aI,.slice m aR aQ]/\ec w (λ i=>i<w.heap.size/\i≠g/\(L i=0\/L i=2\/L i=3\/L i=4\/L i=5)) [.slice j p1 q1,.slice k p2 q2,.slice l aK aI,.slice m aR aQ] s:=by
 obtain⟨d,f,bY,cC,r,n,o,p,q,u,h1,h2,aA,aS,t⟩:=h;have c:∀i a,a≠1->(L i=a\/L i=0)->i≠g:=λ i a v h e=>by subst e;omega
 refine⟨d,f,bY,cC,r,n,_,o,_,p,_,q,u,d,f,bY,cC,r,n,_,o,_,p,_,q,I,h2.more (λ i b=>⟨b.1,c i 2 O b.2,O⟩),aA.dP.more (λ i b=>⟨b.1,c i 3 O b.2,O⟩),aS.dP.more (λ i b=>⟨b.1,c i 4 O b.2,O⟩),t.dP.more (λ i b=>⟨b.1,c i 5 O b.2,O⟩)⟩
end
section
open Go.Proofs
def jn(w:World)(S:Nat->Prop)(cs:List Value)(m:mc):Prop:=∃(A:Option Addr) (n c:Nat),cs=[.int .i64 m.clock,.slice A n c]/\bl bE 1 w S A n c m.vec
def iz(w:World)(S:Nat->Prop)(cs:List Value)(m:fH):Prop:=∃(A:Option Addr) (n c:Nat),cs=[.int .i64 m.idx,.int .i64 m.clock,.slice A n c]/\bl bE 1 w S A n c m.vec
def fM(w:World)(S:Nat->Prop)(cs:List Value)(m:gM):Prop:=∃(A B:Option Addr) (n c b a:Nat),cs=[.int .i64 m.aH,.int .i64 m.dst,.int .i64 m.bI,.int .i64 m.bb,.int .i64 m.ord,.int .i64 m.val,.int .i64 m.clock,.slice A n c,.slice B b a]/\bl bE 1 w S A n c m.vec/\bl cB 10 w S B b a m.known
def nw(x:nt):List Value:=[.int .i64 x.proc,.int .i64 x.idx,.int .i64 x.ord,.int .i64 x.val]
def pM(b:Bool):List Value:=[.bool b]
theorem Dq(d):∀u∈nw d,u.oneCell'=true:=by intro u hu;simp[nw]at hu;rcases hu with h|h|h|h<;>subst h<;>rfl
section
variable {w ae:World} {S T:Nat->Prop} {cs:List Value}
theorem jn.aq{m}(a:aw S w ae)(h:jn w S cs m):jn ae S cs m:=by obtain⟨A,n,c,e,h⟩:=h;exact⟨A,n,c,e,h.aq a⟩
theorem jn.more{m}(a:∀i,S i->T i)(h:jn w S cs m):jn w T cs m:=by obtain⟨A,n,c,e,h⟩:=h;exact⟨A,n,c,e,h.more a⟩
theorem iz.aq{m}(a:aw S w ae)(h:iz w S cs m):iz ae S cs m:=by obtain⟨A,n,c,e,h⟩:=h;exact⟨A,n,c,e,h.aq a⟩
theorem iz.more{m}(a:∀i,S i->T i)(h:iz w S cs m):iz w T cs m:=by obtain⟨A,n,c,e,h⟩:=h;exact⟨A,n,c,e,h.more a⟩
theorem fM.aq{m}(a:aw S w ae)(h:fM w S cs m):fM ae S cs m:=by obtain⟨A,B,n,c,d,b,e,h,h2⟩:=h;exact⟨A,B,n,c,d,b,e,h.aq a,h2.aq a⟩
theorem fM.more{m}(a:∀i,S i->T i)(h:fM w S cs m):fM w T cs m:=by obtain⟨A,B,n,c,d,b,e,h,h2⟩:=h;exact⟨A,B,n,c,d,b,e,h.more a,h2.more a⟩
end
def cJ{α:Type}(w:World)(S:Nat->Prop)(e:TypeId)(size:Nat)(bd:List Value->α->Prop)(A:Option Addr)(n c:Nat)(l:List α):Prop:=∃aP:List (List Value),aP.length=n/\n=l.length/\(∀cs∈aP,cs.length=size)/\fo w S e size A n c aP.flatten/\∀(k:Nat) (cs:List Value) (a:α),aP[k]?=some cs->l[k]?=some a->bd cs a
section
variable {α:Type} {w ae:World} {S T:Nat->Prop} {e:TypeId} {size:Nat} {bd fF:List Value->α->Prop} {A:Option Addr} {n c:Nat} {l:List α}
theorem cJ.aq(h:cJ w S e size bd A n c l)(i:aw S w ae)(g:∀cs a,bd cs a->fF cs a):cJ ae S e size fF A n c l:=by obtain⟨aP,h1,h2,aA,aS,f⟩:=h;exact⟨aP,h1,h2,aA,aS.aq i,λ k cs a b d=>g _ _ (f k cs a b d)⟩
theorem cJ.more(h:cJ w S e size bd A n c l)(j:∀i,S i->i<w.heap.size->T i)(g:∀cs a,bd cs a->fF cs a):cJ w T e size fF A n c l:=by obtain⟨aP,h1,h2,aA,aS,f⟩:=h;exact⟨aP,h1,h2,aA,aS.more j,λ k cs a b d=>g _ _ (f k cs a b d)⟩
theorem cJ.qE(h:cJ w S e size bd A n c l)(a:∀i,S i->T i):cJ w T e size bd A n c l:=h.more (λ i b _=>a i b) (λ _ _ h=>h)
theorem cJ.ji:cJ w S e size bd none 0 0 ([]:List α):=⟨[],I,I,aT,fo.ji,aT⟩
abbrev kQ:=@cJ.ji
theorem cJ.mW(h:cJ w S e size bd A n c l):cN w S size bd A n c l:=by obtain⟨aP,h1,h2,aA,aS,a⟩:=h;exact⟨h2,aS.2.1,aS.2.2.1,aP,h1,aA,aS.reads,a⟩
theorem cJ.len(h:cJ w S e size bd A n c l):n=l.length:=h.choose_spec.2.1
end
structure qO (w:World) (R:Nat->Nat->Prop) (p:Nat) (bq bg bp bu M V K G H Q:Option Addr) (p1 q1 p2 q2 aK aI aR aQ cn cv bZ bA bh cq cm gc aJ av cj ct:Nat) (x:cO):Prop where
 st:ec w (R 0) [.slice bq p1 q1,.slice bg p2 q2,.slice bp aK aI,.slice bu aR aQ] x.st
 marks:cJ w (R (10+4*p)) 71 2 (jn w (R 0)) M cn cv x.marks
 vec:cJ w (R (13+4*p)) 3 1 (λ cs a=>cs=bE a) V bZ bA x.vec
 bV:cJ w (R (11+4*p)) 113 3 (iz w (R 0)) K bh cq x.bV
 log:bl da 9 w (R 0) G cm gc x.log
 known:bl cB 10 w (R 0) H aJ av x.known
 queue:cJ w (R (12+4*p)) 136 9 (fM w (R 0)) Q cj ct x.queue
def ic(bq bg bp bu M V K G H Q:Option Addr)(p1 q1 p2 q2 aK aI aR aQ cn cv bZ bA bh cq cm gc aJ av cj ct:Nat)(x:cO):List Value:=[.bool x.down,.int .i64 x.inc,.slice bq p1 q1,.slice bg p2 q2,.slice bp aK aI,.slice bu aR aQ,.slice M cn cv,.int .i64 x.clock,.slice V bZ bA,.slice K bh cq,.slice G cm gc,.slice H aJ av,.int .i64 x.gZ,.slice Q cj ct]
def jj(w:World)(R:Nat->Nat->Prop)(p:Nat)(cs:List Value)(x:cO):Prop:=∃(bq bg bp bu M V K G H Q:Option Addr) (p1 q1 p2 q2 aK aI aR aQ cn cv bZ bA bh cq cm gc aJ av cj ct:Nat),cs=ic bq bg bp bu M V K G H Q p1 q1 p2 q2 aK aI aR aQ cn cv bZ bA bh cq cm gc aJ av cj ct x/\qO w R p bq bg bp bu M V K G H Q p1 q1 p2 q2 aK aI aR aQ cn cv bZ bA bh cq cm gc aJ av cj ct x
def mg(w:World)(R:Nat->Nat->Prop)(g n c:Nat)(l:List cO):Prop:=∃(cur:Array Value) (aP:List (List Value)),R 2 g/\aC w g 76 cur/\n<=c/\c<=maxLen/\n*14<=cur.size/\aP.length=n/\n=l.length/\(∀cs∈aP,cs.length=14)/\(∀(j:Nat) (u:Value),aP.flatten[j]?=some u->cur[j]?=some u)/\∀(p:Nat) (cs:List Value) (x:cO),aP[p]?=some cs->l[p]?=some x->jj w R p cs x
structure dn where
 jL:List eb
 bo:Int
 pb:Int
structure oo (w:World) (R:Nat->Nat->Prop) (f:dn) (aj:Nat) (A F E bM bK bN bd:Option Addr) (bj ac aL bt fn bw bk bD bH lc bB rc wn wc bF bP:Nat) (y:bQ):Prop where
 jL:cN w (R 0) 5 (iE w (R 0)) A bj ac f.jL
 procs:mg w R aj aL bt y.procs
 cY:cJ w (R 3) 136 9 (fM w (R 0)) F fn bw y.cY
 ends:bl fL 3 w (R 0) E bk bD y.ends
 dY:bl bE 1 w (R 0) bM bH lc y.dY
 rest:cJ w (R 6) 4 1 (λ cs a=>cs=pM a) bK bB rc y.rest
 world:cJ w (R 4) 222 4 (λ cs a=>cs=nw a) bN wn wc y.world
 rel:cJ w (R 5) 3 1 (λ cs a=>cs=bE a) bd bF bP y.rel
def dr(f:dn)(b:Bool)(aj:Nat)(A F E bM bK bN bd:Option Addr)(bj ac aL bt fn bw bk bD bH lc bB rc wn wc bF bP:Nat):List Value:=[.slice A bj ac,.int .i64 f.bo,.int .i64 f.pb,.slice (some ⟨aj,0,none⟩) aL bt,.slice F fn bw,.slice E bk bD,.bool b,.slice bM bH lc,.slice bK bB rc,.slice bN wn wc,.slice bd bF bP]
def gr(w:World)(R:Nat->Nat->Prop)(f:dn)(aj:Nat)(cs:List Value)(y:bQ):Prop:=∃(A F E bM bK bN bd:Option Addr) (bj ac aL bt fn bw bk bD bH lc bB rc wn wc bF bP:Nat),cs=dr f y.busy aj A F E bM bK bN bd bj ac aL bt fn bw bk bD bH lc bB rc wn wc bF bP/\oo w R f aj A F E bM bK bN bd bj ac aL bt fn bw bk bD bH lc bB rc wn wc bF bP y
section
variable {w ae:World} {R ia:Nat->Nat->Prop} {T:Nat->Prop}
theorem qO.same{p:Nat}{bq bg bp bu M V K G H Q}{p1 q1 p2 q2 aK aI aR aQ cn cv bZ bA bh cq cm gc aJ av cj ct:Nat}{x}(h:qO w R p bq bg bp bu M V K G H Q p1 q1 p2 q2 aK aI aR aQ cn cv bZ bA bh cq cm gc aJ av cj ct x)(au:aw T w ae)(h0:∀i,R 0 i->T i/\ia 0 i)(h1:∀a,a=10+4*p\/a=11+4*p\/a=12+4*p\/a=13+4*p->∀i,R a i->i<w.heap.size->T i/\ia a i):qO ae ia p bq bg bp bu M V K G H Q p1 q1 p2 q2 aK aI aR aQ cn cv bZ bA bh cq cm gc aJ av cj ct x:=by
 have f:aw (R 0) w ae:=au.mono (λ i d=>(h0 i d).1);have e:∀i,R 0 i->ia 0 i:=λ i d=>(h0 i d).2;have ap:∀{α:Type} {a:Nat} {ty:TypeId} {size:Nat} {bd fF:List Value->α->Prop} {A:Option Addr} {n c:Nat} {l:List α},(a=10+4*p\/a=11+4*p\/a=12+4*p\/a=13+4*p)->cJ w (R a) ty size bd A n c l->(∀cs b,bd cs b->fF cs b)->cJ ae (ia a) ty size fF A n c l:=λ {α a ty size bd fF A n c l} g h k=>by have j:=h.more (T:=λ i=>R a i/\i<w.heap.size) (λ i d m=>⟨d,m⟩) (λ _ _ h=>h);exact(j.aq (au.mono (λ i d=>(h1 a g i d.1 d.2).1)) k).qE (λ i d=>(h1 a g i d.1 d.2).2)
 exact⟨(h.st.aq f).more e,ap O h.marks (λ cs b h=>(h.aq f).more e),ap O h.vec (λ _ _ h=>h),ap O h.bV (λ cs b h=>(h.aq f).more e),(h.log.aq f).more e,(h.known.aq f).more e,ap O h.queue (λ cs b h=>(h.aq f).more e)⟩
theorem jj.same{p:Nat}{cs x}(h:jj w R p cs x)(au:aw T w ae)(h0:∀i,R 0 i->T i/\ia 0 i)(h1:∀a,a=10+4*p\/a=11+4*p\/a=12+4*p\/a=13+4*p->∀i,R a i->i<w.heap.size->T i/\ia a i):jj ae ia p cs x:=by obtain⟨bq,bg,bp,bu,M,V,K,G,H,Q,p1,q1,p2,q2,aK,aI,aR,aQ,cn,cv,bZ,bA,bh,cq,cm,gc,aJ,av,cj,ct,e,h⟩:=h;exact⟨bq,bg,bp,bu,M,V,K,G,H,Q,p1,q1,p2,q2,aK,aI,aR,aQ,cn,cv,bZ,bA,bh,cq,cm,gc,aJ,av,cj,ct,e,h.same au h0 h1⟩
theorem mg.same{g n c:Nat}{l:List cO}(h:mg w R g n c l)(au:aw T w ae)(h1:∀a i,a≠1->a≠7->R a i->(a=0\/i<w.heap.size)->T i/\ia a i):mg ae ia g n c l:=by obtain⟨cur,aP,k,d,m,o,q,r,s,t,f,j⟩:=h;have e:=h1 2 g O O k (.inr d.lt);exact⟨cur,aP,e.2,au.ay d e.1,m,o,q,r,s,t,f,λ p cs x q1 q2=>(j p cs x q1 q2).same au (λ i b=>h1 0 i O O b (.inl I)) (λ a u i b u=>h1 a i O O b (.inr u))⟩
theorem oo.same{f}{aj:Nat}{A F E bM bK bN bd}{bj ac aL bt fn bw bk bD bH lc bB rc wn wc bF bP:Nat}{y}(h:oo w R f aj A F E bM bK bN bd bj ac aL bt fn bw bk bD bH lc bB rc wn wc bF bP y)(au:aw T w ae)(h1:∀a i,a≠1->a≠7->R a i->(a=0\/i<w.heap.size)->T i/\ia a i):oo ae ia f aj A F E bM bK bN bd bj ac aL bt fn bw bk bD bH lc bB rc wn wc bF bP y:=by
 have g:aw (R 0) w ae:=au.mono (λ i d=>(h1 0 i O O d (.inl I)).1);have e:∀i,R 0 i->ia 0 i:=λ i d=>(h1 0 i O O d (.inl I)).2;have ap:∀{α:Type} {a:Nat} {ty:TypeId} {size:Nat} {bd fF:List Value->α->Prop} {A:Option Addr} {n c:Nat} {l:List α},a≠1->a≠7->cJ w (R a) ty size bd A n c l->(∀cs b,bd cs b->fF cs b)->cJ ae (ia a) ty size fF A n c l:=λ {α a ty size bd fF A n c l} j k h o=>by have m:=h.more (T:=λ i=>R a i/\i<w.heap.size) (λ i d p=>⟨d,p⟩) (λ _ _ h=>h);exact(m.aq (au.mono (λ i d=>(h1 a i j k d.1 (.inr d.2)).1)) o).qE (λ i d=>(h1 a i j k d.1 (.inr d.2)).2)
 exact⟨(h.jL.aq g (λ cs c h=>h.aq g)).more e (λ cs c h=>h.more e),h.procs.same au h1,ap O O h.cY (λ cs b h=>(h.aq g).more e),(h.ends.aq g).more e,(h.dY.aq g).more e,ap O O h.rest (λ _ _ h=>h),ap O O h.world (λ _ _ h=>h),ap O O h.rel (λ _ _ h=>h)⟩
theorem gr.same{f}{aj:Nat}{cs y}(h:gr w R f aj cs y)(au:aw T w ae)(h1:∀a i,a≠1->a≠7->R a i->(a=0\/i<w.heap.size)->T i/\ia a i):gr ae ia f aj cs y:=by obtain⟨A,F,E,bM,bK,bN,bd,bj,ac,aL,bt,fn,bw,bk,bD,bH,lc,bB,rc,wn,wc,bF,bP,e,h⟩:=h;exact⟨A,F,E,bM,bK,bN,bd,bj,ac,aL,bt,fn,bw,bk,bD,bH,lc,bB,rc,wn,wc,bF,bP,e,h.same au h1⟩
def kL(w:World)(a i:Nat):Prop:=i<w.heap.size
theorem gr.aq{f}{aj:Nat}{cs y}(h:gr w (kL w) f aj cs y)(c:ab w ae):gr ae (kL ae) f aj cs y:=h.same c (λ a i _ _ b _=>⟨b,cQ b c.size⟩)
theorem gr.all{L f aj cs y}(h:gr w (bx w L) f aj cs y):gr w (kL w) f aj cs y:=h.same (aN (λ _=>True) w) (λ a i _ _ b _=>⟨aD,b.1⟩)
theorem mg.at_{g n c p l}(h:mg w R g n c l)(hp:p<n):∃(cur:Array Value) (cs:List Value) (x:cO),R 2 g/\aC w g 76 cur/\n*14<=cur.size/\l[p]?=some x/\jj w R p cs x/\cs.length=14/\∀j u,cs[j]?=some u->cur[p*14+j]?=some u:=by
 obtain⟨cur,aP,k,m,r,s,o,t,v,b,f,i⟩:=h;have a:p<aP.length:=O;have e:p<l.length:=O;have d:=b _ (List.getElem_mem a);refine⟨cur,aP[p],l[p],k,m,o,List.getElem?_eq_getElem e,i p _ _ (List.getElem?_eq_getElem a) (List.getElem?_eq_getElem e),d,λ j u hu=>f _ u ?_⟩;have q:j<14:=by rw[<-d];exact(List.getElem?_eq_some_iff.1 hu).1
 rw[nk aP p j a b q];exact hu
theorem mg.len{g n c l}(h:mg w R g n c l):n=l.length:=by obtain⟨cur,aP,e,f,i,j,k,m,a,o,b,d⟩:=h;exact a
theorem mg.set{n c p:Nat}{l:List cO}{g:Nat}{cur jq cs' cl}(h:mg w R g n c l)(hp:p<n)(A:aC w g 76 cur)(au:aw T w ae)(B:aC ae g 76 jq)(K:jq.size=cur.size)(C:∀j u,cs'[j]?=some u->jq[p*14+j]?=some u)(D:∀i,i<p*14\/p*14+14<=i->jq[i]?=cur[i]?)(b:cs'.length=14)(h1:∀a i,a=0\/10<=a->¬(10+4*p<=a/\a<=13+4*p)->R a i->(a=0\/i<w.heap.size)->T i/\ia a i)(h2:ia 2 g)(E:jj ae ia p cs' cl):mg ae ia g n c (l.set p cl):=by
 obtain⟨m,aP,F,s,t,v,G,y,z,e,o,r⟩:=h;have bD:m=cur:=by have:=s.symm.trans A;injection this with this;injection this
 subst bD;have k:p<aP.length:=O;refine⟨jq,aP.set p cs',h2,B,t,v,O,by rw[oL];exact y,by rw[oL];exact z,λ cs av=>?_,λ j u hu=>?_,λ q cs x q1 q2=>?_⟩
 ·rcases wO av with h|h
  ·exact e cs h
  rw[h];exact b
 ·rw[tj aP p cs' e b k]at hu;by_cases f:p*14<=j/\j<p*14+14
  ·rw[if_pos f]at hu;have:=C (j-p*14) u hu;rwa [show p*14+(j-p*14)=j from O]at this
  rw[if_neg f]at hu;rw[D j O];exact o j u hu
 by_cases aB:q=p
 ·subst aB;rw[iW k]at q1;rw[iW O]at q2;cases q1;cases q2;exact E
 rw[lQ (eM aB)]at q1;rw[lQ (eM aB)]at q2;refine(r q cs x q1 q2).same au (λ i d=>h1 0 i (.inl I) O d (.inl I)) (λ a H i d b=>h1 a i O O d (.inr b))
end
def gF(w:World)(gs aj:Nat)(f:dn)(y:bQ):Prop:=∃cs:List Value,aC w gs 63 cs.toArray/\gr w (kL w) f aj cs y
theorem gF.aq{w ae gs aj f y}(h:gF w gs aj f y)(a:ab w ae):gF ae gs aj f y:=by obtain⟨cs,h1,h2⟩:=h;exact⟨cs,a.ay h1 h1.lt,h2.aq a⟩
theorem gF.proc{w gs aj p f y x}(h:gF w gs aj f y)(d:y.procs[p]?=some x):∃(A F E bM bK bN bd:Option Addr) (bj ac aL bt fn bw bk bD bH lc bB rc wn wc bF bP:Nat) (bq bg bp bu M V K G H Q:Option Addr) (p1 q1 p2 q2 aK aI aR aQ cn cv bZ bA bh cq cm gc aJ av cj ct:Nat),aL=y.procs.length/\p<aL/\(∀J,ab w J->∀j u,(dr f y.busy aj A F E bM bK bN bd bj ac aL bt fn bw bk bD bH lc bB rc wn wc bF bP)[j]?=some u->J.cell? ⟨gs,j,none⟩=some u)/\oo w (kL w) f aj A F E bM bK bN bd bj ac aL bt fn bw bk bD bH lc bB rc wn wc bF bP y/\(∀J,ab w J->∀j u,(ic bq bg bp bu M V K G H Q p1 q1 p2 q2 aK aI aR aQ cn cv bZ bA bh cq cm gc aJ av cj ct x)[j]?=some u->J.cell? ⟨aj,p*14+j,none⟩=some u)/\qO w (kL w) p bq bg bp bu M V K G H Q p1 q1 p2 q2 aK aI aR aQ cn cv bZ bA bh cq cm gc aJ av cj ct x:=by
 obtain⟨m,h1,A,F,E,bM,bK,bN,bd,bj,ac,aL,bt,fn,bw,bk,bD,bH,lc,bB,rc,wn,wc,bF,bP,e,h⟩:=h;have l:=h.procs.len;have hp:=(dV.1 d).1;obtain⟨cur,cs,cl,n,b,o,c,⟨bq,bg,bp,bu,M,V,K,G,H,Q,p1,q1,p2,q2,aK,aI,aR,aQ,cn,cv,bZ,bA,bh,cq,cm,gc,aJ,av,cj,ct,g,i⟩,q,k⟩:=h.procs.at_ (p:=p) O;rw[d]at c;cases c;refine⟨A,F,E,bM,bK,bN,bd,bj,ac,aL,bt,fn,bw,bk,bD,bH,lc,bB,rc,wn,wc,bF,bP,bq,bg,bp,bu,M,V,K,G,H,Q,p1,q1,p2,q2,aK,aI,aR,aQ,cn,cv,bZ,bA,bh,cq,cm,gc,aJ,av,cj,ct,l,O,λ J a j u hu=>?_,h,λ J a j u hu=>?_,i⟩
 ·rw[(a.ay h1 h1.lt).cell,fg,e];exact hu
 rw[(a.ay b b.lt).cell];exact k j u (by rw[g];exact hu)
theorem gF.sys{w gs aj f y}(h:gF w gs aj f y):∃(A F E bM bK bN bd:Option Addr) (bj ac aL bt fn bw bk bD bH lc bB rc wn wc bF bP:Nat),aL=y.procs.length/\(∀J,ab w J->∀j u,(dr f y.busy aj A F E bM bK bN bd bj ac aL bt fn bw bk bD bH lc bB rc wn wc bF bP)[j]?=some u->J.cell? ⟨gs,j,none⟩=some u)/\oo w (kL w) f aj A F E bM bK bN bd bj ac aL bt fn bw bk bD bH lc bB rc wn wc bF bP y:=by obtain⟨b,h1,A,F,E,bM,bK,bN,bd,bj,ac,aL,bt,fn,bw,bk,bD,bH,lc,bB,rc,wn,wc,bF,bP,e,h⟩:=h;refine⟨A,F,E,bM,bK,bN,bd,bj,ac,aL,bt,fn,bw,bk,bD,bH,lc,bB,rc,wn,wc,bF,bP,h.procs.len,λ J a j u hu=>?_,h⟩;rw[(a.ay h1 h1.lt).cell,fg,e];exact hu
def cG(w:World)(L:Nat->Nat)(gs aj:Nat)(f:dn)(y:bQ):Prop:=∃cs:List Value,aC w gs 63 cs.toArray/\L gs=1/\gr w (bx w L) f aj cs y
def cW(w:World)(L:Nat->Nat)(ae:World)(bL:Nat->Nat):Prop:=aw (λ i=>i<w.heap.size/\(L i=0\/L i=7)) w ae/\∀i,i<w.heap.size->bL i=L i
theorem cW.refl(w L):cW w L w L:=⟨aN _ _,λ _ _=>I⟩
abbrev xW:=@cW.refl
theorem cW.trans{a b c L M N}(h:cW a L b M)(k:cW b M c N):cW a L c N:=⟨bR h.1 k.1 (λ i d=>⟨cQ d.1 h.1.size,by rw[h.2 i d.1];exact d.2⟩),λ i d=>(k.2 i (cQ d h.1.size)).trans (h.2 i d)⟩
theorem cW.vh{w ae L bL}(c:ab w ae)(a:∀i,i<w.heap.size->bL i=L i):cW w L ae bL:=⟨c.mono (λ i b=>b.1),a⟩
abbrev wE:=@cW.vh
theorem cG.ptr{w L gs aj f y}(h:cG w L gs aj f y):gF w gs aj f y:=by obtain⟨cs,h1,h2,aA⟩:=h;exact⟨cs,h1,aA.all⟩
theorem cG.aq{w ae L bL gs aj f y}(h:cG w L gs aj f y)(c:ab w ae)(d:∀i,i<w.heap.size->bL i=L i):cG ae bL gs aj f y:=by obtain⟨cs,h1,h2,aA⟩:=h;exact⟨cs,c.ay h1 h1.lt,by rw[d gs h1.lt];exact h2,aA.same c (λ a i _ _ b _=>⟨b.1,cQ b.1 c.size,by rw[d i b.1];exact b.2⟩)⟩
theorem BK{cur:Array Value}{cs vs:List Value}{o a j:Nat}(h:∀i u,cs[i]?=some u->cur[o+i]?=some u)(b:cs.length=a)(c:j+vs.length<=a)(d:o+a<=cur.size):∀i u,(cs.take j++vs++cs.drop (j+vs.length))[i]?=some u->(eY cur (o+j) vs)[o+i]?=some u:=by
 intro i u hu;rw[ry vs (o+j) cur O];rcases jB i j with h1|h1
 ·rw[pV,me aY,gL h1]at hu;rw[if_neg O];exact h i u hu
 rcases jB i (j+vs.length)with h2|h2
 ·rw[me aY,oH aY]at hu;rw[if_pos O,<-hu];congr 1;simp;omega
 rw[oH aY,oa]at hu;rw[if_neg O];refine h i u ?_;rw[<-hu];congr 1;simp;omega
theorem EH{cur vs o a j}(c:j+vs.length<=a)(d:o+a<=cur.size):∀i,i<o\/o+a<=i->(eY cur (o+j) vs)[i]?=cur[i]?:=by intro i b;rw[ry vs (o+j) cur O,dg O]
theorem cG.put{w ae:World}{L:Nat->Nat}{gs aj p j:Nat}{f:dn}{y:bQ}{cur:Array Value}{cs vs:List Value}{cl:cO}(h:cG w L gs aj f y)(hp:p<y.procs.length)(r:aC w aj 76 cur)(H:cs.length=14)(G:∀i u,cs[i]?=some u->cur[p*14+i]?=some u)(x:j+vs.length<=14)(au:aw (·≠aj) w ae)(s:aC ae aj 76 (eY cur (p*14+j) vs))(M:jj w (bx w L) p (cs.take j++vs++cs.drop (j+vs.length)) cl):cG ae L gs aj f {y with procs:=y.procs.set p cl}:=by
 obtain⟨B,h1,h2,A,F,E,bM,bK,bN,bd,bj,ac,aL,bt,fn,bw,bk,bD,bH,lc,bB,rc,wn,wc,bF,bP,e,h⟩:=h;have t:L aj=2:=by obtain⟨cur,aP,q,_⟩:=h.procs;exact q.2
 have K:p<aL:=by have:=h.procs.len;omega
 have v:p*14+14<=cur.size:=by
  obtain⟨z,aP,q,C,N,P,Q,_⟩:=h.procs;have bD:z=cur:=by have:=C.symm.trans r;injection this with this;injection this
  subst bD;omega
 have g:∀a i,a≠2->bx w L a i->i≠aj/\bx ae L a i:=λ a i k d=>⟨λ e=>by subst e;exact k (d.2.symm.trans t),Nat.lt_of_lt_of_le d.1 au.size,d.2⟩;have R:=h;refine⟨B,au.ay h1 (λ e=>by subst e;omega),h2,A,F,E,bM,bK,bN,bd,bj,ac,aL,bt,fn,bw,bk,bD,bH,lc,bB,rc,wn,wc,bF,bP,e,?_⟩;have o:aw (bx w L 0) w ae:=au.mono (λ i d=>(g 0 i O d).1);have m:∀i,bx w L 0 i->bx ae L 0 i:=λ i d=>(g 0 i O d).2;have ap:∀{α:Type} {a:Nat} {ty:TypeId} {size:Nat} {bd fF:List Value->α->Prop} {A:Option Addr} {n c:Nat} {l:List α},a≠2->cJ w (bx w L a) ty size bd A n c l->(∀cs b,bd cs b->fF cs b)->cJ ae (bx ae L a) ty size fF A n c l:=λ {α a ty size bd fF A n c l} k h D=>(h.aq (au.mono (λ i d=>(g a i k d).1)) D).qE (λ i d=>(g a i k d).2);exact⟨(h.jL.aq o (λ cs c h=>h.aq o)).more m (λ cs c h=>h.more m),h.procs.set K r au s (tY _ _ _) (BK G H x v) (EH x v) aY (λ a i k _ d _=>g a i O d) ⟨s.lt,t⟩ (M.same au (λ i d=>g 0 i O d) (λ a k i d _=>g a i O d)),ap O h.cY (λ cs b h=>(h.aq o).more m),(h.ends.aq o).more m,(h.dY.aq o).more m,ap O h.rest (λ _ _ h=>h),ap O h.world (λ _ _ h=>h),ap O h.rel (λ _ _ h=>h)⟩
end
section
open Go.Proofs
def fT(w:World)(S:Nat->Prop)(cs:List Value)(l:List bz):Prop:=∃(A:Option Addr) (n c:Nat),cs=[.slice A n c]/\bl dG 7 w S A n c l
theorem fT.aq{w ae S}(a:aw S w ae)(cs l)(h:fT w S cs l):fT ae S cs l:=by obtain⟨A,n,c,e,h⟩:=h;exact⟨A,n,c,e,h.aq a⟩
abbrev wq:=@fT.aq
theorem fT.more{w S T}(a:∀i,S i->T i)(cs l)(h:fT w S cs l):fT w T cs l:=by obtain⟨A,n,c,e,h⟩:=h;exact⟨A,n,c,e,h.more a⟩
abbrev zF:=@fT.more
def iM(l:List (List bz))(at_:List Int)(q:Int)(e:bz):Bool:=if e.kind=1 then decide (0<=e.aH)&&decide (e.aH<l.length)&&decide (e.aH≠q)&&decide (e.bb<=at_.getD e.aH.toNat 0)&&fK (l.getD e.aH.toNat []) e.bb&&decide (fq (l.getD e.aH.toNat []) e.bb=e.bI)&&decide (fp (l.getD e.aH.toNat []) e.bb=e.bb)else true
def gW(q:Int)(e:bz):dD:=if e.kind=1 then ⟨q,e.kind,e.aH,e.bb,e.ord,0⟩else ⟨q,e.kind,0,0,0,e.val⟩
def kV(v:Bool)(w:World)(e:Ending)(ae:World):Prop:=e=.returned (.bool v)/\ab w ae
theorem Mt(a b c d e):Tryz.prog.built 200 [(0,.int .i64 a),(1,.int .i64 b),(2,.int .i64 c),(3,.int .i64 d),(4,.int .i64 e)]=some #[.int .i64 a,.int .i64 b,.int .i64 c,.int .i64 d,.int .i64 e,.int .i64 0]:=Z
theorem BQ(a b c):Tryz.prog.built 200 [(0,.int .i64 a),(1,.int .i64 b),(5,.int .i64 c)]=some #[.int .i64 a,.int .i64 b,.int .i64 0,.int .i64 0,.int .i64 0,.int .i64 c]:=Z
def Bf(W:World)(a b:Int)(c:Bool)(p o:Value)(J:World):Prop:=∃g:Nat,p=.pointer (some ⟨g,0,none⟩)/\o=.bool c/\aC J g 42 #[a,b]/\ab W J
end
section
open Go.Proofs
def kq(l:List (List bz))(at_:List Int)(q:Nat):bz:=(l.getD q []).getD (at_.getD q 0).toNat ⟨0,0,0,0,0,0,0⟩
def lD(l:List (List bz))(bW at_:List Int)(q:Nat):Bool:=decide (at_.getD q 0<bW.getD q 0)&&iM l at_ q (kq l at_ q)
def gj(at_:List Int)(q:Nat):List Int:=at_.set q (at_.getD q 0+1)
def tl(p:Nat->Bool)(n q:Nat):Prop:=q<n/\p q=true/\∀i,i<q->p i=false
theorem tl.eq{p n a b}(h:tl p n a)(k:tl p n b):a=b:=by
 rcases Nat.lt_trichotomy a b with q|q|q
 ·have:=k.2.2 a q;rw[h.2.1]at this;cases this
 ·exact q
 have:=h.2.2 b q;rw[k.2.1]at this;cases this
inductive kF (l:List (List bz)) (bW:List Int):List Int->List dD->Option (List dD)->Prop
 |done {at_:List Int} {out:List dD} (h:at_=bW):kF l bW at_ out (some out)
 |stuck {at_:List Int} {out:List dD} (h:at_≠bW) (aJ:∀q,q<l.length->lD l bW at_ q=false):kF l bW at_ out none
 |step {at_:List Int} {out:List dD} {r:Option (List dD)} {q:Nat} (h:at_≠bW) (aB:tl (lD l bW at_) l.length q) (au:kF l bW (gj at_ q) (out++[gW q (kq l at_ q)]) r):kF l bW at_ out r
theorem kF.az{l bW at_ out r}(h:kF l bW at_ out r):∀{dj:Option (List dD)},kF l bW at_ out dj->r=dj:=by
 induction h with
 |done h=>
  intro dj k;cases k with
  |done _=>rfl
  |stuck g _=>exact absurd h g
  |step g _ _=>exact absurd h g
 |stuck h aJ=>
  intro dj k;cases k with
  |done g=>exact absurd g h
  |stuck _ _=>rfl
  |step _ g _=>have:=aJ _ g.1;rw[g.2.1]at this;cases this
 |step h aB au a=>
  intro dj k;cases k with
  |done g=>exact absurd g h
  |stuck _ g=>have:=g _ aB.1;rw[aB.2.1]at this;cases this
  |step _ g b=>have e:=aB.eq g;subst e;exact a b
def kD(l:List (List bz))(at_ bW:List Int):Prop:=at_.length=l.length/\bW.length=l.length/\∀q,q<l.length->0<=at_.getD q 0/\at_.getD q 0<=bW.getD q 0/\bW.getD q 0<=(l.getD q []).length
theorem nE{at_:List Int}{q:Nat}{v:Int}(h:q<at_.length):(at_.set q v).getD q 0=v:=by simp[List.getD,h]
theorem oF{at_:List Int}{q i:Nat}{v:Int}(h:q≠i):(at_.set q v).getD i 0=at_.getD i 0:=by simp[List.getD,List.getElem?_set,h]
theorem kD.inc{l at_ bW q}(h:kD l at_ bW)(aB:q<l.length)(dN:at_.getD q 0<bW.getD q 0):kD l (gj at_ q) bW:=by
 obtain⟨h1,h2,aA⟩:=h;refine⟨by simp[gj,h1],h2,λ i a=>?_⟩;have:=aA i a;unfold gj;by_cases e:q=i
 ·subst e;rw[nE O];omega
 rw[oF e];exact this
def ke:List Int->List Int->Nat
 |a::b,t::c=>(t-a).toNat+ke b c
 |_,_=>0
theorem su:∀(at_ bW:List Int) (q:Nat),q<at_.length->q<bW.length->at_.getD q 0<bW.getD q 0->ke (gj at_ q) bW<ke at_ bW
 |a::b,t::c,0,_,_,h=>by
  simp only[gj,List.getD_cons_zero,List.set_cons_zero,ke]at h⊢
  omega
 |a::b,t::c,q+1,h1,h2,h=>by
  have d:=su b c q (ax h1) (ax h2) (ax h)
  simp only[gj,List.getD_cons_succ,List.set_cons_succ,ke]at d⊢
  omega
 |[],_,_,h1,_,_=>by simp at h1
 |_::_,[],_,_,h2,_=>by simp at h2
def ow(l:List (List bz))(from_ bW:List Int)(r:Option (List dD)):Prop:=(kD l from_ bW/\kF l bW from_ [] r)\/(¬kD l from_ bW/\r=none)
theorem ow.az{l from_ bW r dj}(h:ow l from_ bW r)(k:ow l from_ bW dj):r=dj:=by
 rcases h with ⟨h1,h2⟩|⟨h1,h2⟩
 ·rcases k with ⟨dv,cc⟩|⟨dv,cc⟩
  ·exact h2.az cc
  exact absurd h1 dv
 rcases k with ⟨dv,cc⟩|⟨dv,cc⟩
 ·exact absurd dv h1
 rw[h2,cc]
end
section
open Go.Proofs
def qt(l:List (List bz))(dm bW:List Int)(w:World)(e:Ending)(ae:World):Prop:=∃r,ow l dm bW r/\ab w ae/\((r=none/\e=.returned (.tuple Px))\/∃(out:List dD) (A:Option Addr) (n c:Nat),r=some out/\e=.returned (.tuple #[.slice A n c,.bool true])/\bl gV 6 ae (λ i=>w.heap.size<=i/\i<ae.heap.size) A n c out)
theorem AT{K:Nat}:∀(at_ bW:List Int),(∀q,q<at_.length->bW.getD q 0-at_.getD q 0<=K)->ke at_ bW<=at_.length*K
 |[],_,_=>by simp[ke]
 |_::_,[],_=>by simp[ke]
 |a::b,t::c,h=>by
  have h0:=h 0 aT
  have d:=AT (K:=K) b c (λ q aB=>by have:=h (q+1) (ax aB);simpa using this)
  simp at h0
  simp only[ke,List.length_cons,Nat.add_mul]
  omega
theorem kD.left{l at_ bW}(h:kD l at_ bW)(b:∀x∈l,x.length<=100000):ke at_ bW<=l.length*100000:=by
 have:=AT (K:=100000) at_ bW (λ q aB=>by
  have aA:=h.2.2 q (by rw[<-h.1];exact aB)
  have c:(l.getD q []).length<=100000:=by
   have a:q<l.length:=by rw[<-h.1];exact aB
   simp only[List.getD,List.getElem?_eq_getElem a,Option.getD_some]
   exact b _ (wM a)
  omega)
 rw[h.1]at this;exact this
theorem iQ{α:Type}{l:List α}{k:Nat}{a d:α}(h:l[k]?=some a):l.getD k d=a:=by simp[List.getD,h]
def FD(l:List (List bz))(dm bW:List Int)(W:World)(i:Value)(wr:World):Prop:=∃k:Nat,i=.int .i64 k/\k<=l.length/\(∀q,q<k->0<=dm.getD q 0/\dm.getD q 0<=bW.getD q 0/\bW.getD q 0<=(l.getD q []).length)/\ab W wr
def EZ(l:List (List bz))(dm bW:List Int)(k B:Nat)(W:World)(a:Option Addr)(c gk:Nat)(v:Value)(wr:World):Prop:=
 ∃(at_:List Int) (out:List dD),gk=ke at_ bW/\kD l at_ bW/\out.length+gk<=ke dm bW/\(∀r,kF l bW at_ out r->kF l bW dm [] r)/\wr.ownsRow B 3 1 (.slice a k c) k (at_.flatMap bE)/\wr.ownsRow B 200 6 v out.length (out.flatMap gV)/\(∀b,v.ownBlock=some b->a.map (·.block)≠some b)/\ab W wr
theorem mn{w B k b a l}(h:w.ownsRow B 3 1 (.slice a k b) k (l.flatMap bE)):bl bE 1 w (λ i=>B<=i/\i<w.heap.size) a k b l:=by
 obtain⟨bf,bc,c,h1,h2⟩:=dZ h;simp only[Value.slice.injEq,true_and]at c;obtain⟨rfl,rfl⟩:=c;have d:k=l.length:=by have:=h.1;rw[lg eB]at this;omega
 exact⟨d,h1,h2,lX h⟩
theorem Ip{w B m c A l}(h:w.ownsRow B 200 6 (.slice A m c) m (l.flatMap gV)):bl gV 6 w (λ i=>B<=i/\i<w.heap.size) A m c l:=by
 obtain⟨bf,bc,a,h1,h2⟩:=dZ h;simp only[Value.slice.injEq,true_and]at a;obtain⟨rfl,rfl⟩:=a;have b:m=l.length:=by have:=h.1;rw[lg EB]at this;omega
 exact⟨b,h1,h2,lX h⟩
theorem DS(a b c d e f:Int):fc Tryz.prog 200 1 [(0,.agg #[a,b,c,d,e,f])]=some #[.int .i64 a,.int .i64 b,.int .i64 c,.int .i64 d,.int .i64 e,.int .i64 f]:=Z
end
section
open Go.Proofs
def nc(n:Nat):Array Value:=(List.replicate n (.int .i64 0)).toArray
theorem Ig(n):madeCells (Value.cells (.int .i64 0)) (n*1)=nc n:=by apply Array.ext';have:=tC (.int .i64 0) n;simpa [nc,Value.cells]using this
def nu(n:Nat):List Int:=List.replicate n 0
theorem CS(n):(nu n).flatMap bE=List.replicate n (.int .i64 0):=by
 unfold nu;induction n with
 |zero=>rfl
 |succ n a=>rw[yB,List.flatMap_cons,a,yB];rfl
def fD(l:List (List bz)):List Int:=l.map (λ x=>(x.length:Int))
end
section
open Go.Proofs
def jl(b:List bz)(li a:Int):Bool:=fK b a&&decide (fq b a=li)&&decide (fp b a=a)
theorem EC(a li):jl a li 0=decide (li=0):=by unfold jl fK fq fp;simp;rw[eq_comm]
theorem HW{b li a}(h:a<0):jl b li a=false:=by unfold jl fK;have:decide (0<=a/\a<=(b.length:Int))=false:=aY;rw[this];simp
theorem Jk{b li a}(h:(b.length:Int)<a):jl b li a=false:=by unfold jl fK;have:decide (0<=a/\a<=(b.length:Int))=false:=aY;rw[this];simp
theorem Dg{a}{li:Int}{k:Nat}{af}(h:a[k]?=some af):jl a li ((k:Int)+1)=decide (af.inc=li):=by have b:=(dV.1 h).1;unfold jl fK fq fp;have h1:(0:Int)<(k:Int)+1/\(k:Int)+1<=a.length:=O;rw[di h1,di h1];have h2:((k:Int)+1).toNat-1=k:=O;rw[h2,iQ h];have aA:decide (0<=(k:Int)+1/\(k:Int)+1<=(a.length:Int))=true:=aY;rw[aA];simp
theorem DN(w S A)(n c:Nat)(g)(li a:Int)(u:∀i,S i->i<w.heap.size)(m:bl dG 7 w S A n c g)(aJ:n<=1000000):Calls Tryz.prog 147 #[.slice A n c,.agg #[li,a]] w (kV (jl g li a) w):=by
 have q:=m.1;generalize f:w.alloc (.cells #[li,a] 42)=W;have e:ab w W:=f▸cx w _;have d:aC W w.heap.size 42 #[li,a]:=f▸cu w _ _;have z:W.cell? ⟨w.heap.size,0,none⟩=some (.int .i64 li):=by rw[d.cell];rfl
 have B:W.cell? ⟨w.heap.size,1,none⟩=some (.int .i64 a):=by rw[d.cell];rfl
 have fin:∀b,jl g li a=b->∀ae,ab W ae->kV (jl g li a) w (.returned (.bool b)) ae:=λ b d ae l=>⟨by rw[d],aM e l⟩;have p:=m.aq (cS e u);obtain⟨y,x,j,r,s⟩:=dC e d fin p q;clear e d fin p q m;by_cases h0:a=0
 ·subst h0;have d:=j.o _ (EC g li) W (aN _ _);have t1:(li==0)=decide (li=0):=by by_cases h:li=0<;>simp[h]
  obtain⟨e,p⟩:=ck d t1;clear d t1;go_enter vu,wB;go_upto_region 1 with fail;clear f;go_wp2_with fail;go_ret;rw[p.o];exact e.o
 have t0:(a==0)=false:=ax h0;by_cases h1:a<0
 ·have t1:decide ((0:Int)<a)=false:=aY;have d:=j.o _ (HW h1);have e:=ai d;clear d h0;go_enter vu,wB;go_upto_region 1 with fail;clear f;go_upto_region 3 with fail;go_quiet(fail);go_wp2_with fail;go_ret;exact e.o _ (ek _ _)
 have t1:decide ((0:Int)<a)=true:=aY;by_cases h2:(n:Int)<a
 ·have t2:decide (a<=(n:Int))=false:=aY;have d:=j.o _ (Jk (an s.o));have e:=ai d;clear d h0;go_enter vu,wB;go_upto_region 1 with fail;clear f;go_upto_region 3 with fail;go_quiet(fail);go_wp2_with fail;go_ret;exact e.o _ (ek _ _)
 have t2:decide (a<=(n:Int))=true:=aY;obtain⟨k,l⟩:∃k:Nat,a=(k:Int)+1:=⟨(a-1).toNat,O⟩;subst l;obtain⟨t,v,af,rfl,C,m,l⟩:=r.o.at_ jy (k:=k) O;have D:W.cell? ⟨t,v+k*7+1,none⟩=some (.int .i64 af.inc):=l 1 _ I;have d:=j.o _ (Dg (li:=li) m);have t3:(af.inc==li)=decide (af.inc=li):=by by_cases h:af.inc=li<;>simp[h]
 have i1:(k:Int)+1-1=k:=O;have i2:(0:Int)<=k:=O;have i3:(k:Int)<n:=O;obtain⟨e,q⟩:=ck d t3;clear d t3 h0 l m;go_enter vu,wB;go_upto_region 1 with fail;clear f;go_upto_region 3 with fail;go_quiet(fail);go_wp2_with fail;go_ret;rw[q.o];exact e.o _ (ek _ _)
theorem EE{l at_ q e}(h:e.kind=1):iM l at_ q e=(decide (0<=e.aH)&&decide (e.aH<l.length)&&decide (e.aH≠q)&&jl (l.getD e.aH.toNat []) e.bI e.bb&&decide (e.bb<=at_.getD e.aH.toNat 0)):=by unfold iM jl;rw[di h];cases decide (0<=e.aH)<;>cases decide (e.aH<(l.length:Int))<;>cases decide (e.aH≠q)<;>cases decide (e.bb<=at_.getD e.aH.toNat 0)<;>simp
def mG:List Value:=[.int .i64 0,.int .i64 0,.int .i64 0,.int .i64 0,.int .i64 0,.int .i64 0,.int .i64 0]
theorem IU(w S A Y)(n c j H:Nat)(l at_)(q bj:Nat)(Q af)(d:∀i,S i->i<w.heap.size)(f:cN w S 1 (fT w S) A n c l)(e:bl bE 1 w S Y j H at_)(a:j=n)(aJ:n<=100000)(hlen:∀x∈l,x.length<=1000000)(aB:l[q]?=some Q)(E:at_[q]?=some (bj:Int))(s:Q[bj]?=some af):Calls Tryz.prog 137 #[.slice A n c,.slice Y j H,q] w (kV (iM l at_ q af) w):=by
 subst a;have P:=f.1;have N:=e.1;have a8:q<j:=an ((dV.1 aB).1);have e0:=(dV.1 s).1;obtain⟨y,C,cs,b7,rfl,b9,t,⟨c3,ne,ce,rfl,v⟩,-,F⟩:=f.at_ a8;have a:Q=b7:=by rw[aB]at t;injection t
 subst a;obtain⟨z,D,dK,rfl,b_,m,G⟩:=e.at_ eB a8;have a:(bj:Int)=dK:=by rw[E]at m;injection m
 subst a;have W:=v.1;obtain⟨be,B,b6,rfl,c0,r,L⟩:=v.at_ jy (k:=bj) O;have a:af=b6:=by rw[s]at r;injection r
 subst a;have U:w.cell? ⟨y,C+q,none⟩=some (.slice (some ⟨be,B,none⟩) ne ce):=by have:=F 0 _ I;simpa using this
 have V:w.cell? ⟨z,D+q,none⟩=some (.int .i64 bj):=by have:=G 0 _ I;simpa using this
 have M:∀J,ab w J->J.cell? ⟨y,C+q,none⟩=some (.slice (some ⟨be,B,none⟩) ne ce):=λ J a=>(a.cell (p:=⟨y,C+q,none⟩) (d _ b9)).trans U;have y1:∀J,ab w J->J.cell? ⟨z,D+q,none⟩=some (.int .i64 bj):=λ J a=>(a.cell (p:=⟨z,D+q,none⟩) (d _ b_)).trans V;have T:∀J,ab w J->J.rangeAt be (B+bj*7) [af.kind,af.inc,af.aH,af.bI,af.bb,af.ord,af.val]:=λ J a i u hu=>(a.cell (p:=⟨be,B+bj*7+i,none⟩) (d _ c0)).trans (L i u hu);have i0:(0:Int)<=q:=O;have i1:(q:Int)<j:=O;have i2:(0:Int)<=bj:=O;have i3:(bj:Int)<ne:=O;have R:=aB;obtain⟨b0,a_,b4,b3,a0,c9,b2,c_⟩:=fl f e d T P N hlen R;clear f e d T P N hlen R L F G U V r m t v W aB E s;go_enter func137,ntmps137;go_upto_region 1 with fail;refine fy λ u0 d f=>?_;have L:=d.size;refine ag 0 (h:=ag 1 (h:=ag 2 (h:=ag 3 (h:=ag 4 (h:=ag 5 (h:=ag 6 (h:=ag 7 (h:=ag 8 (h:=?_)))))))));refine cK 9 I (dw ba _ _ I be (B+bj*7) I [af.kind,af.inc,af.aH,af.bI,af.bb,af.ord,af.val] _ (λ J a=>b3.o J a) mB I Z) ?_;clear M y1;refine aV 10 λ K r=>?_;go_simp;have F:ab u0 (u0.alloc (.cells mG.toArray 50)):=cx _ _;have t:aC (u0.alloc (.cells mG.toArray 50)) u0.heap.size 50 mG.toArray:=cu _ _ _;have s:=aM d F;refine aZ r aD s ?_;clear r K f d;intro f d;generalize e:u0.alloc (.cells PE 50)=u7 at*;have m:u0.alloc (.cells mG.toArray 50)=u7:=e;rw[m]at F t s;clear e m;refine aV 11 λ K r=>?_;refine eD I _ _ _ I u0.heap.size 0 50 _ [af.kind,af.inc,af.aH,af.bI,af.bb,af.ord,af.val] I I t (by simp[mG]) Z I ?_;intro m e G;rw[eX [af.kind,af.inc,af.aH,af.bI,af.bb,af.ord,af.val] mG.toArray I]at e;have v:ab w m:=zv s G L;obtain⟨g,E⟩:=aW u0.heap.size;rw[<-E]at e;rw[<-E];refine aZ r aD v ?_;clear r K f d;intro f d;refine cg Z ?_;clear f d s F t G E L;have b5:m.cell? ⟨g,0,none⟩=some (.int .i64 af.kind):=by rw[e.cell];rfl
 have H:m.cell? ⟨g,2,none⟩=some (.int .i64 af.aH):=by rw[e.cell];rfl
 have fin:∀b,iM l at_ q af=b->∀ae,ab m ae->kV (iM l at_ q af) w (.returned (.bool b)) ae:=λ b t ae s=>⟨by rw[t],aM v s⟩;obtain⟨G,E,t⟩:=cf e v fin;clear e v fin;by_cases s:af.kind=1;case neg=>have t0:(af.kind !=1)=true:=ax s;have hp:=t.o true (by unfold iM;rw[dg s]);have e:=ai hp;clear hp s;go_wp2_with fail;go_ret;exact e.o _ (aN _ _)
 have t0:(af.kind !=1)=false:=ax s;have v:=EE (l:=l) (at_:=at_) (q:=q) s;have F:=ai v;clear v s;by_cases h1:af.aH<0
 ·have t1:decide ((0:Int)<=af.aH)=false:=aY;have hp:=t.o false (by rw[F.o,t1];simp);have e:=ai hp;clear hp;go_upto_region 4 with fail;go_quiet(fail);go_wp2_with fail;go_ret;exact e.o _ (ek _ _)
 have t1:decide ((0:Int)<=af.aH)=true:=aY;by_cases h2:(j:Int)<=af.aH
 ·have t2:decide (af.aH<(j:Int))=false:=aY;have hp:=t.o false (by rw[F.o,t1,<-a0.o,t2];simp);have e:=ai hp;clear hp;go_upto_region 4 with fail;go_quiet(fail);go_wp2_with fail;go_ret;exact e.o _ (ek _ _)
 have t2:decide (af.aH<(j:Int))=true:=aY;by_cases aA:af.aH=q
 ·have t3:(af.aH !=(q:Int))=false:=ax aA;have hp:=t.o false (by rw[F.o];simp[aA]);have s:=aA;obtain⟨e,c5⟩:=ck hp s;clear hp s aA;go_upto_region 4 with fail;go_quiet(fail);go_wp2_with fail;go_ret;exact e.o _ (ek _ _)
 have t3:(af.aH !=(q:Int))=true:=ax aA;obtain⟨dm,L⟩:∃dm:Nat,af.aH=dm:=⟨af.aH.toNat,O⟩;have a4:dm<j:=O;have e1:=E.o.size;have V:=G.o.lt;obtain⟨d_,e6,cs,s,hA9,c1,R,⟨N,X,P,rfl,W⟩,-,a3⟩:=b0.o.at_ a4;obtain⟨d',e5,fv,hA8,b8,a5,a2⟩:=a_.o.at_ eB a4;simp only[Option.some.injEq,Addr.mk.injEq,and_true]at hA9 hA8;obtain⟨rfl,rfl⟩:=hA9;obtain⟨rfl,rfl⟩:=hA8;have T:at_.getD af.aH.toNat 0=fv:=by rw[L];exact iQ a5
 have U:l.getD af.aH.toNat []=s:=by rw[L];exact iQ R
 have v:=b4.o;have M:∀J,ab m J->J.cell? ⟨y,C+dm,none⟩=some (.slice N X P):=λ J a=>((aM E.o a).cell (p:=⟨y,C+dm,none⟩) (v _ c1)).trans (by have:=a3 0 _ I;simpa using this);have y1:∀J,ab m J->J.cell? ⟨z,D+dm,none⟩=some (.int .i64 fv):=λ J a=>((aM E.o a).cell (p:=⟨z,D+dm,none⟩) (v _ b8)).trans (by have:=a2 0 _ I;simpa using this);have a9:∀J,ab m J->J.cell? ⟨g,2,none⟩=some (.int .i64 af.aH):=λ J a=>by rw[(a.ay G.o V).cell];rfl
 have a':∀J,ab m J->J.cell? ⟨g,4,none⟩=some (.int .i64 af.bb):=λ J a=>by rw[(a.ay G.o V).cell];rfl
 have a7:iM l at_ q af=(jl s af.bI af.bb&&decide (af.bb<=fv)):=by rw[F.o,T,U,t1,<-a0.o,t2];simp[aA]
 have c2:s.length<=1000000:=b2.o _ (eo R);have a6:∀u,ab m u->Calls Tryz.prog 147 #[.slice N X P,.agg #[af.bI,af.bb]] u (kV (jl s af.bI af.bb) u):=λ u hu=>DN u S N X P s af.bI af.bb (λ i a1=>cM (v i a1) hu.size) (W.aq ((aM E.o hu).mono v)) (by rw[W.1];exact c2);have e2:(0:Int)<=af.aH:=O;have e3:af.aH<(j:Int):=O;have e4:af.aH.toNat=dm:=O;obtain⟨a1,b1,c7,c8,c4,c6,d9⟩:=dW a7 a6 T U aA L v;clear a7 a6 T U aA L v a3 a2 W R a5;go_upto_region 4 with fail;clear b5 H;refine fy λ u0 d f=>?_;refine ag 0 (h:=ag 1 (h:=ag 2 (h:=ag 3 (h:=ag 4 (h:=ag 5 (h:=ag 6 (h:=ag 7 (h:=ag 8 (h:=ag 9 (h:=ag 10 (h:=ag 11 (h:=ag 12 (h:=ag 13 (h:=ag 14 (h:=ag 15 (h:=ag 16 (h:=ag 17 (h:=ag 18 (h:=ag 19 (h:=ag 20 (h:=ag 21 (h:=ag 22 (h:=?_)))))))))))))))))))))));refine cK 23 I (dw ba _ _ I g 3 I [af.bI,af.bb] _ (λ J a=>λ i u hu=>((a.ay G.o V).cell _).trans (by match i,hu with|0,hu=>exact hu|1,hu=>exact hu)) wj I Z) ?_;refine aV 24 λ K r=>?_;go_simp;refine(b1.o u0 d).mono ?_;rintro L u1 ⟨rfl,H⟩;have v:=aM d H;refine aZ r aD v ?_;clear r K f d;intro f d;cases r:jl s af.bI af.bb with
 |false=>refine ag 25 (h:=ag 26 (h:=?_));refine bU 27 (h:=bU 28 (h:=bU 29 (h:=bU 30 (h:=bU 31 (h:=bU 32 (h:=bU 33 (h:=bU 34 (h:=bU 35 (h:=?_)))))))));refine ag 36 (h:=ag 37 (h:=?_));refine cg Z ?_;have hp:=t.o false (by rw[a1.o,r];simp) _ v;have e:=ai hp;clear hp f d v H r M y1 a9 a';go_wp2_with fail;go_ret;exact e.o
 |true=>have t5:decide (af.bb<=fv)=decide (af.bb<=fv):=I;refine ag 25 (h:=ag 26 (h:=ag 27 (h:=ag 28 (h:=ag 29 (h:=ag 30 (h:=ag 31 (h:=ag 32 (h:=ag 33 (h:=ag 34 (h:=ag 35 (h:=ag 36 (h:=ag 37 (h:=?_)))))))))))));refine cg Z ?_;have hp:=t.o (decide (af.bb<=fv)) (by rw[a1.o,r];simp) _ v;have e:=ai hp;clear hp f d v H r M y1 a9 a';go_wp2_with fail;go_ret;exact e.o
end
section
open Go.Proofs
section
variable {P:Program} {ops:Array Oper} {rest:List Oper} {o:Oper} {a:Act} {w:World} {Q:Exit->Act->World->Prop}
theorem lr(c:o.guard=none)(t e len)(parts:Array (Nat×Operand))(d:o.op=.buildSlice t len parts)(hu:P.underlying t=some (.slice e))(cells)(vs:List (Nat×Value))(hp:parts.toList.map (λ p=>(p.1,a.eval p.2))=vs)(b:fc P e len vs=some cells)(h:∀ae,aC ae w.heap.size e cells->ab w ae->w.heap.size<ae.heap.size->wpList P ops Q rest (a.put o.dst (.slice (some ⟨w.heap.size,0,none⟩) len len)) ae):wpList P ops Q (o::rest) a w:=gJ c t e len parts d hu cells vs hp b (h _ (cu _ _ _) (cx _ _) aT)
end
def eg(op val:Int)(name:ByteArray)(A:Option Addr)(m:Nat):List Value:=[.int .i64 op,.int .i64 val,.string name,.int .i64 0,.int .i64 0,.slice A m m]
def iV(k:Int)(name:ByteArray)(a vs:List Value)(A:Option Addr)(m:Nat):List Value:=.int .i64 k::.string name::.int .i64 0::.int .i64 0::(a++(vs++[.slice A m m,.slice none 0 0]))
def fj:List Value:=[.int .i64 0,.int .i64 0,.string ⟨#[]⟩,.int .i64 0,.int .i64 0,.slice none 0 0]
section
variable {w:World} {S:Nat->Prop}
theorem xp{k name a vs p v}(hp:dt w S 5 a p)(b:dt w S 5 vs v)(n):cU w S (n+1) (iV k name a vs none 0) (.mk k name 0 0 p v [] []):=⟨ib,ib,a,vs,none,none,0,0,0,0,I,hp,b,iv,iv⟩
end
end
section
open Go.Proofs
def wm(l:List (List bz))(W:World)(v i:Value)(wr:World):Prop:=∃k:Nat,i=.int .i64 k/\k<=l.length/\wr.ownsRow W.heap.size 3 1 v k (((fD l).take k).flatMap bE)/\ab W wr
theorem mj(a):fc Tryz.prog 3 1 [(0,.int .i64 a)]=some #[.int .i64 a]:=Z
theorem EV{l k x}(h:l[k]?=some x):(fD l).take (k+1)=(fD l).take k++[(x.length:Int)]:=by rw[nK];simp[fD,List.getElem?_map,h]
def uE(l:List (List bz))(bW at_:List Int)(k:Nat)(W:World)(i:Value)(wr:World):Prop:=∃q:Nat,i=.int .i64 q/\q<=k/\(∀j,j<q->lD l bW at_ j=false)/\ab W wr
def yR(bW at_:List Int)(k:Nat)(W:World)(i:Value)(wr:World):Prop:=∃q:Nat,i=.int .i64 q/\q<=k/\(∀j,j<q->at_.getD j 0=bW.getD j 0)/\ab W wr
theorem CH{a b:List Int}(c:a.length=b.length)(h:∀j,j<a.length->a.getD j 0=b.getD j 0):a=b:=by apply List.ext_getElem c;intro i h1 h2;have:=h i h1;simpa [List.getD,h1,h2]using this
theorem MQ(w S A g_ l0 n c Y j7 H n7 l dm bW)(D:∀i,S i->i<w.heap.size)(z:cN w S 1 (fT w S) A n c l)(y:bl bE 1 w S g_ Y j7 dm)(C:bl bE 1 w S l0 H n7 bW)(aJ:n<=1000)(hlen:∀x∈l,x.length<=100000)(v7:Y<=1000000)(v8:H<=1000000):Calls Tryz.prog 114 #[.slice A n c,.slice g_ Y j7,.slice l0 H n7] w (qt l dm bW w):=by
 have s:=z.1;have f:=y.1;have t:=C.1;have h6:=cE (¬kD l dm bW->∀ae,ab w ae->qt l dm bW w (.returned (.tuple Px)) ae) (λ h ae E=>⟨none,.inr ⟨h,I⟩,E,.inl ⟨I,I⟩⟩);obtain⟨i_,M,m6,m2,m_⟩:=dC hlen D z y C;clear hlen D z y C;by_cases h1:Y=n;case neg=>have t1:((Y:Int)!=n)=true:=aY;have w_:(Y !=n)=true:=ax h1;have F:=h6.o (λ h=>h1 (an h.1)) w (aN _ _);obtain⟨h7,z,j0,m'⟩:=cH F s f t;clear F s f t h1;go_enter func114,dk;go_wp2_with fail;go_ret2;exact h7.o
 subst h1;by_cases h2:H=Y;case neg=>have t2:((H:Int)!=Y)=true:=aY;have x0:(H !=Y)=true:=ax h2;have F:=h6.o (λ h=>h2 (cM h.1 h.2.1)) w (aN _ _);obtain⟨h7,z,j0,m'⟩:=cH F s f t;clear F s f t h2;go_enter func114,dk;go_wp2_with fail;go_ret2;exact h7.o
 subst h2;have y:dm.length=l.length/\bW.length=l.length:=O;obtain⟨z,j0,m',m8⟩:=cH s f t y;clear s f t y;go_enter func114,dk;go_wp2_with fail;go_loopw[8] (λ i wr=>FD l dm bW w i wr) (λ i _=>H- (intOf i).toNat);case atStart=>exact⟨0,I,Nat.zero_le _,λ q aB=>absurd aB O,aN _ _⟩
 obtain⟨k,rfl,v3,y,s⟩:=hrel;have f:=cS s M.o;by_cases e3:k<H
 ·obtain⟨q8,s_,fv,rfl,-,E,D⟩:=(m2.o.aq f).at_ eB e3;obtain⟨a0,b9,t,rfl,-,U,Q⟩:=(m_.o.aq f).at_ eB e3;obtain⟨a7,c6,cs,j9,rfl,-,a4,⟨l5,ne,ce,rfl,b7⟩,-,c3⟩:=(m6.o.aq f (wq f)).at_ e3;have k5:decide (k<H)=true:=ax e3;have r3:(0:Int)<=k:=O;have r4:(k:Int)<H:=O;have g5:wr.cell? ⟨q8,s_+k,none⟩=some (.int .i64 fv):=by have:=D 0 _ I;simpa using this
  have g':wr.cell? ⟨a0,b9+k,none⟩=some (.int .i64 t):=by have:=Q 0 _ I;simpa using this
  have x2:wr.cell? ⟨a7,c6+k,none⟩=some (.slice l5 ne ce):=by have:=c3 0 _ I;simpa using this
  have C:=iQ (d:=0) E;have bX:=iQ (d:=0) U;have a2:=iQ (d:=[]) a4;have b4:=b7.1;have G:k+1<=l.length:=an z.o;have N:∀ae,ab wr ae->¬(0<=fv/\fv<=t/\t<=ne)->qt l dm bW w (.returned (.tuple Px)) ae:=λ ae b1 a6=>h6.o (λ h=>a6 (by have:=h.2.2 k O;rw[C,bX,a2]at this;omega)) ae (ab.trans s b1)
  have P:(0<=fv/\fv<=t/\t<=ne)->∀ae,ab wr ae->FD l dm bW w (.int .i64 (k+1)) ae:=λ L ae b1=>⟨k+1,aT,G,λ q aB=>by
   rcases Nat.lt_or_ge q k with h|h
   ·exact y q h
   ·obtain rfl:q=k:=O
    rw[C,bX,a2]
    omega,ab.trans s b1⟩
  obtain⟨j1,q5⟩:=ck N P;clear N P D Q c3 y C bX a2 b4 b7 E U a4 G s f;by_cases q1:fv<0
  ·have t1:decide (fv<0)=true:=ax q1;go_upto_region 6 with fail;go_quiet(fail);go_wp2_with fail;go_ret2;exact j1.o _ (ab.fZ _ _) O
  have t1:decide (fv<0)=false:=ax q1;by_cases q2:t<fv
  ·have t2:decide (t<fv)=true:=ax q2;go_upto_region 6 with fail;go_quiet(fail);go_wp2_with fail;go_ret2;exact j1.o _ (ab.fZ _ _) O
  have t2:decide (t<fv)=false:=ax q2;by_cases aI:(ne:Int)<t
  ·have t3:decide ((ne:Int)<t)=true:=ax aI;go_upto_region 6 with fail;go_quiet(fail);go_wp2_with fail;go_ret2;exact j1.o _ (ab.fZ _ _) O
  have t3:decide ((ne:Int)<t)=false:=ax aI;go_upto_region 6 with fail;go_quiet(fail);go_wp2_with fail;go_roundw;case rel=>exact q5.o ⟨O,O,O⟩ _ (ab.fZ _ _)
  case measure=>exact bS
 have k5:decide (k<H)=false:=ax e3;obtain rfl:k=H:=an z.o;have N:kD l dm bW:=⟨m8.o.1,m8.o.2,λ q aB=>y q (an z.o)⟩;have a':=N.left i_.o;obtain⟨wd,rfl⟩:=aW (wr:World);have G:=s;have w6:=G.size;have E:=m2.o.aq f;have a1:=m_.o.aq f;have X:=m6.o.aq f (wq f);have P:ke dm bW<=100000000:=an z.o;have a_:dm.length=k:=an j0.o;obtain⟨o8,W,a8,a5,a3⟩:=eO MG;obtain⟨s5,s7,s9,s8,s6⟩:=eO pg;have V:=E.2.2.2;have a9:wd.ownsRow wd.heap.size 3 1 (.slice none 0 0) 0 []:=ee _ _ _ _;have R:∀u∈dm.flatMap bE,u.oneCell'=true:=by intro u hu;obtain⟨a,-,q_⟩:=td.1 hu;exact jG a u q_
 obtain⟨j6,m5,t_,n0,m7,q0,m3,n5,n4⟩:=df N G E a1 X P W a8 a5;obtain⟨n3,p9,D,p8⟩:=cH a3 V a9 R;clear N G E a1 X P W a8 a5 a3 V a9 R y a' f s;go_wp2_with(at_builtin;refine fe _ I (.const (.slice none 0 0)) (.tmp 61) 23 I wd.heap.size 3 s5 _ 1 8 eK s7 s9 s8 s6 I O (.slice none 0 0) 0 [] I D.o _ g_ k j7 (dm.flatMap bE) I p9.o p8.o dQ O (Nat.le_refl _) ?_;intro eP o' y E W;refine jo ?_);refine ai ?_;rw[Nat.zero_add,qu]at y;obtain⟨l1,c2,f,-,-⟩:=dZ y;subst f;have G:ab wd o':=fh (aN _ _) D.o E (λ i f=>f) (Nat.le_refl _);have s4:=G.size;obtain⟨B,P⟩:=aW wd.heap.size;rw[<-P]at y s4;have V:wd.heap.size<=B:=O;have R:EZ l dm bW k B wd l1 c2 (ke dm bW) (.slice none 0 0) o':=⟨dm,[],I,j6.o,aT,λ r h=>h,y,ee _ _ _ _,λ b F=>(by cases F),G⟩;obtain⟨N,d9⟩:=ck R V;clear R V y G E W a_ D P;go_wp2_with fail;go_loopg[10] (ke dm bW) (λ gk v wr=>EZ l dm bW k B wd l1 c2 gk v wr);case atStart=>exact N.o
 clear N;obtain⟨at_,out,rfl,L,v_,W,R,y,N,s⟩:=hrel;obtain⟨dJ,a1,rfl,w2,w3⟩:=dZ y;have w8:=s.size;generalize P:out.length=m at*;have v5:m<=100000000:=an q0.o;obtain⟨c7,rfl⟩:=aW (wr:World);have X:B<=c7.heap.size\/True:=.inr aD;have V:uE l bW at_ k c7 (.int .i64 0) c7:=⟨0,I,Nat.zero_le _,λ j a5=>absurd a5 O,aN _ _⟩;obtain⟨D,g9,c1,j2,l_,i9,g8,G⟩:=fl L W R y N s P V;clear L W R y N s P V X;go_wp2_with fail;go_loopw[11] (λ i wr=>uE l bW at_ k c7 i wr) (λ i _=>k- (intOf i).toNat);case atStart=>exact G.o
 clear G;obtain⟨q,rfl,w1,a6,L⟩:=hrel;have w7:=L.size;have e4:=ab.trans i9.o L;have b8:aw S wd wr:=cS e4 (λ i f=>an (M.o i f));by_cases e_:q<k
 ·obtain⟨y,cur,E,n_,d_,k0,o5,o0,k9⟩:=qQ c1.o O;subst E;have c4:=d_.lt;obtain⟨u_,o9,dK,n',-,W,a_⟩:=(mn c1.o).at_ eB e_;simp only[Option.some.injEq,Addr.mk.injEq,and_true]at n';obtain⟨rfl,rfl⟩:=n';obtain⟨a0,b9,t,rfl,n9,U,Q⟩:=(n0.o.aq b8).at_ eB e_;obtain⟨a7,c6,cs,j9,rfl,q9,a4,⟨l5,ne,ce,rfl,b7⟩,-,c3⟩:=(m7.o.aq b8 (wq b8)).at_ e_;have k5:decide (q<k)=true:=ax e_;have r2:decide ((q:Int)<(k:Int))=true:=aY;have r3:(0:Int)<=q:=O;have r4:(q:Int)<k:=O;have r5:a0<wr.heap.size:=by have:=M.o _ n9;omega
  have g5:wr.cell? ⟨y,q,none⟩=some (.int .i64 dK):=(L.cell (p:=⟨y,q,none⟩) c4).trans (by have:=a_ 0 _ I;simpa using this);have g':wr.cell? ⟨a0,b9+q,none⟩=some (.int .i64 t):=by have:=Q 0 _ I;simpa using this
  have C:=iQ (d:=0) W;have bX:=iQ (d:=0) U;have a2:=iQ (d:=[]) a4;have k8:=D.o.2.2 q (an z.o);rw[C,bX,a2]at k8;have o6:ne=j9.length:=b7.1;obtain⟨bj,rfl⟩:∃bj:Nat,dK=bj:=⟨dK.toNat,O⟩;by_cases dN:(bj:Int)<t
  ·have t1:((bj:Int)==t)=false:=aY;obtain⟨be,c5,af,rfl,q',N,a'⟩:=b7.at_ jy (k:=bj) O;have G:kq l at_ q=af:=(by unfold kq;rw[a2,C];simp[List.getD,N]);have a3:lD l bW at_ q=iM l at_ q af:=(by unfold lD;rw[C,bX,G];simp[dN]);have i0:(0:Int)<=bj:=O;have i1:(bj:Int)<ne:=O;have y1:∀J,ab wr J->J.cell? ⟨y,q,none⟩=some (.int .i64 bj):=λ J s=>(s.cell (p:=⟨y,q,none⟩) (by show y<_;omega)).trans g5;have b2:∀J,ab wr J->J.cell? ⟨a0,b9+q,none⟩=some (.int .i64 t):=λ J s=>(s.cell (p:=⟨a0,b9+q,none⟩) r5).trans g';have r1:a7<wr.heap.size:=(by have:=M.o _ q9;omega);have a8:∀J,ab wr J->J.cell? ⟨a7,c6+q,none⟩=some (.slice (some ⟨be,c5,none⟩) ne ce):=λ J s=>(s.cell (p:=⟨a7,c6+q,none⟩) r1).trans (by have:=c3 0 _ I;simpa using this);have b0:∀J,ab wr J->J.rangeAt be (c5+bj*7) [af.kind,af.inc,af.aH,af.bI,af.bb,af.ord,af.val]:=λ J s i u hu=>(s.cell (p:=⟨be,c5+bj*7+i,none⟩) (by have:=M.o _ q';show be<_;omega)).trans (a' i u hu);have E:cur[q]?=some (.int .i64 (bj:Int)):=(by rw[<-d_.cell];rw[<-L.cell (p:=⟨y,q,none⟩) c4];exact g5);have v9:ne<=100000:=(by have:=i_.o _ (eo a4);omega);have V:=W;have R:=C;have P:at_.getD q 0<bW.getD q 0:=(by rw[C,bX];exact dN);have b4:at_≠bW:=λ h=>by rw[h]at P;omega
   have X:∀u,ab wr u->Calls Tryz.prog 137 #[.slice (some ⟨a7,c6,none⟩) k c,.slice (some ⟨y,0,none⟩) k c2,q] u (kV (iM l at_ q af) u):=λ u hu=>by have w9:=hu.size;have o3:=ab.trans e4 hu;have r8:=(m7.o.aq (o3.mono (λ i f=>by have:=M.o i f;show i<_;omega)) (wq (o3.mono (λ i f=>by have:=M.o i f;show i<_;omega)))).more (T:=λ i=>i<u.heap.size) (λ i f=>an (M.o i f)) (zF (T:=λ i=>i<u.heap.size) (λ i f=>an (M.o i f)));have r0:=((mn c1.o).aq ((ab.trans L hu).mono (λ i f=>f.2))).more (T:=λ i=>i<u.heap.size) (λ i f=>an f.2);exact IU u _ _ _ k c k c2 l at_ q bj j9 af (λ i f=>f) r8 r0 I O (λ x s=>an (i_.o x s)) a4 W N
   have o7:q<cur.size:=(by rcases Nat.lt_or_ge q cur.size with h|h;exact h;rw[uT h]at E;cases E);obtain⟨a9,c8,g7,g6,n1,m0,p7,l9,l8⟩:=df b0 a6 L d_ k9 G a3 k0 E;obtain⟨l7,l6,c0,m9,p6⟩:=dC V R P b4 X;clear b0 a6 L d_ k9 G a3 k0 E V R P b4 X a_ Q c3 a' N W U a4 b7 C bX a2 k8 o6 g5 g';go_upto_region 11 with fail;refine fy λ u0 E N=>?_;refine ag 0 (h:=ag 1 (h:=ag 2 (h:=ag 3 (h:=ag 4 (h:=ag 5 (h:=ag 6 (h:=ag 7 (h:=ag 8 (h:=ag 9 (h:=ag 10 (h:=ag 11 (h:=ag 12 (h:=ag 13 (h:=ag 14 (h:=ag 15 (h:=ag 16 (h:=ag 17 (h:=?_))))))))))))))))));refine aV 18 λ K a3=>?_;go_simp;refine(p6.o u0 E).mono ?_;rintro e u1 ⟨rfl,R⟩;have G:=ab.trans E R;refine aZ a3 aD G ?_;clear a3 K N E;intro N E;rw[<-p7.o];clear G;cases X:lD l bW at_ q with
   |false=>
    refine ag 19 (h:=ag 20 (h:=ag 21 (h:=?_)));refine cg Z ?_
    have G:uE l bW at_ k c7 (.int .i64 ((q:Int)+1)) u1:=⟨q+1,cz,O,λ j a5=>(by
     rcases Nat.lt_or_ge j q with h|h
     ·exact c8.o j h
     ·obtain rfl:j=q:=O
      exact X),ab.trans g7.o E⟩
    obtain⟨V,h_⟩:=ck G X;clear G X N E R a8 y1 b2 b8;go_wp2_with fail;go_roundw;case rel=>exact V.o
    case measure=>exact bS
   |true=>
    refine ag 19 (h:=ag 20 (h:=ag 21 (h:=?_)));refine cg Z ?_;have P:=E;have b5:∀J,ab u1 J->J.cell? ⟨y,q,none⟩=some (.int .i64 bj):=λ J s=>y1 J (ab.trans P s);have b3:∀J,ab u1 J->J.cell? ⟨a7,c6+q,none⟩=some (.slice (some ⟨be,c5,none⟩) ne ce):=λ J s=>a8 J (ab.trans P s);have b0:∀J,ab u1 J->J.rangeAt be (c5+bj*7) [af.kind,af.inc,af.aH,af.bI,af.bb,af.ord,af.val]:=λ J s=>a9.o J (ab.trans P s);have t6:((q:Int)==(k:Int))=false:=aY;have x1:(q==k)=false:=aY;have a':=ab.trans g7.o P;have w4:=P.size;obtain⟨h_,q7,p'⟩:=cf X b0 a';clear X b0 a' N E P R a8 y1 b2 b8 a9;go_upto_region 14 with fail;refine fy λ u2 E N=>?_;have r9:=E.size;refine ag 0 (h:=ag 1 (h:=ag 2 (h:=ag 3 (h:=ag 4 (h:=ag 5 (h:=ag 6 (h:=ag 7 (h:=ag 8 (h:=?_)))))))));refine cK 9 I (dw ba _ _ I be (c5+bj*7) I [af.kind,af.inc,af.aH,af.bI,af.bb,af.ord,af.val] _ (λ J s=>q7.o J s) mB I Z) ?_;clear b3 b5;refine aV 10 λ K a3=>?_;go_simp;have X:ab u2 (u2.alloc (.cells mG.toArray 50)):=ab.new _ _;have P:aC (u2.alloc (.cells mG.toArray 50)) u2.heap.size 50 mG.toArray:=cu _ _ _;have a9:=ab.trans E X;refine aZ a3 aD a9 ?_;clear a3 K N E;intro N E;generalize a8:u2.alloc (.cells PE 50)=u3 at*;have a':u2.alloc (.cells mG.toArray 50)=u3:=a8;rw[a']at X P a9;clear a8 a';refine aV 11 λ K a3=>?_;refine eD I _ _ _ I u2.heap.size 0 50 _ [af.kind,af.inc,af.aH,af.bI,af.bb,af.ord,af.val] I I P (by simp[mG]) Z I ?_;intro u5 a8 b2;rw[eX [af.kind,af.inc,af.aH,af.bI,af.bb,af.ord,af.val] mG.toArray I]at a8;have b0:ab u1 u5:=ab.write a9 b2 r9;obtain⟨g,a'⟩:=aW u2.heap.size;rw[<-a']at a8;rw[<-a'];refine aZ a3 aD b0 ?_;clear a3 K N E;intro N E;refine cg Z ?_;have a3:=ab.trans p'.o b0;have w5:=a3.size;have o1:=a8.lt;have n6:u5.cell? ⟨g,0,none⟩=some (.int .i64 af.kind):=(by rw[a8.cell];rfl);have n8:u5.cell? ⟨g,6,none⟩=some (.int .i64 af.val):=(by rw[a8.cell];rfl);obtain⟨n2,m4⟩:=ck a8 a3;clear a8 a3 N E a9 X P b2 a' b0;by_cases R:af.kind=1
    ·have t9:(af.kind==1)=true:=ax R;have e1:gW q af=⟨q,af.kind,af.aH,af.bb,af.ord,0⟩:=(by unfold gW;rw[di R]);have h':=ai e1;clear e1 R;go_upto_region 16 with(first|(refine fW rfl 200 _ rfl _ [(0,.int .i64 q),(1,.int .i64 af.kind),(5,.int .i64 af.val)] rfl (BQ _ _ _) ?_)|(refine db rfl _ (.tmp 13) (.tmp 106) rfl u5.heap.size 200 _ [q,af.kind,.int .i64 0,.int .i64 0,.int .i64 0,af.val] rfl rfl (aC.new _ _ _) rfl Z rfl ?_;intro u6 a8 f_));have b2:ab u5 u6:=ab.write (ab.new _ _) f_ (Nat.le_refl _);have o4:=a8.lt;have a3:=b2.ay n2.o o1;have d0:u6.cell? ⟨g,0,none⟩=some (.int .i64 af.kind):=(by rw[a3.cell];rfl);have d2:u6.cell? ⟨g,2,none⟩=some (.int .i64 af.aH):=(by rw[a3.cell];rfl);have d4:u6.cell? ⟨g,4,none⟩=some (.int .i64 af.bb):=(by rw[a3.cell];rfl);have d5:u6.cell? ⟨g,5,none⟩=some (.int .i64 af.ord):=(by rw[a3.cell];rfl);obtain⟨o_,p_⟩:=ck a8 b2;clear a8 b2 f_ a3 n6 n8;go_upto_region 17 with fail;go_upto_region 18 with(first|(refine fW rfl 200 _ rfl _ [(0,.int .i64 q),(1,.int .i64 af.kind),(2,.int .i64 af.aH),(3,.int .i64 af.bb),(4,.int .i64 af.ord)] rfl (Mt _ _ _ _ _) ?_)|(refine db rfl _ (.tmp 13) (.tmp 120) rfl u5.heap.size 200 _ [q,af.kind,af.aH,af.bb,af.ord,.int .i64 0] rfl rfl o_.o rfl Z rfl ?_;intro u7 P E));have X:ab u5 u7:=ab.write p_.o E (Nat.le_refl _);have r6:=P.lt;clear d0 d2 d4 d5 E;have E:=ab.trans m4.o X;have e6:=dy c1.o E (λ i f=>f.2);have e7:=dy j2.o E (λ i f=>f.2);have e0:=E.ay g6.o c4;have s0:=E.size;obtain⟨i7,q6,j4,p5,h8⟩:=dC E e6 e7 e0 P;clear E e6 e7 e0 P X;go_wp2_with(refine ew I _ (.tmp 13) I u5.heap.size 200 [q,af.kind,af.aH,af.bb,af.ord,.int .i64 0] _ I h8.o underlying200 I Z ?_;refine jo ?_);refine ai ?_;refine lr I 196 200 1 _ I pL _ [(0,.agg #[q,af.kind,af.aH,af.bb,af.ord,.int .i64 0])] I (DS _ _ _ _ _ _) ?_;intro u8 a9 b3 s3;have e8:=dy j4.o b3 (λ i f=>f.2);have f':dz u8 (λ i=>i=u7.heap.size) 6 (some ⟨u7.heap.size,0,none⟩) 1 (gV (gW q af)):=⟨I,λ _=>⟨_,0,I,I,λ i u hu=>by rw[a9.cell];rw[h'.o]at hu;simpa [gV]using hu⟩⟩;obtain⟨c9,j5,p0,i8⟩:=cH e8 f' a9 b3;clear e8 f' a9 b3;go_wp2_with(at_builtin;refine fe _ I (.tmp 121) (.tmp 123) 196 I B 200 o8 _ 6 48 pL m3.o n5.o n4.o n3.o I O (.slice dJ m a1) m (out.flatMap gV) I c9.o (λ i=>i=u7.heap.size) (some ⟨u7.heap.size,0,none⟩) 1 1 (gV (gW q af)) I j5.o (Fz _) dQ O O ?_;intro k_ b_ b6 b0 d';refine jo ?_);refine ai ?_;have N:=ab.trans i7.o i8.o;have e2:aw (λ i=>i<u8.heap.size/\(Value.slice dJ m a1).ownBlock≠some i) u8 b_:=jA ((aN _ _)) b0 (λ i f=>f.1) (λ s' b1 j'=>j'.2 b1);have b5:(Value.slice dJ m a1).ownBlock≠some y:=λ h=>l_.o y h I;have r_:=N.size;have a':=e2.ay (N.ay g6.o c4) ⟨O,b5⟩;have g1:k_.ownBlock≠some y:=λ h=>by
      rcases d' with h1|h1
      ·exact b5 (h1▸h)
      rw[h]at h1;simp at h1;omega
     have t':b_.cell? ⟨y,q,none⟩=some (.int .i64 bj):=(by rw[a'.cell];exact l8.o);have e5:ab wd b_:=fh (ab.trans i9.o N) c9.o b0 (λ i f=>by have:=d9.o;have:i<wd.heap.size:=f;omega) O;obtain⟨h5,j8,k',-,-⟩:=dZ b6;subst k';obtain⟨h9,c_,i',j3⟩:=cH a' g1 e5 b6;clear a' g1 e5 b6 e2 b5 b0 d' N;go_wp2_with(refine dO I _ (.tmp 130) (.tmp 129) I y q 3 cur (.int .i64 (bj+1)) I I h9.o o7 Z I I ?_;intro g4 j_ g0);go_roundg (ke (gj at_ q) bW);case measure=>exact su at_ bW q (cM D.o.1 z.o) (cM D.o.2.1 z.o) c0.o
     have e9:q<l.length:=an z.o;have f:gj at_ q=at_.set q ((bj:Int)+1):=(by unfold gj;rw[l6.o]);have r7:=su at_ bW q (an D.o.1) (an D.o.2.1) c0.o;have k7:g4.ownsRow B 3 1 (.slice (some ⟨y,0,none⟩) k c2) k ((gj at_ q).flatMap bE):=(by rw[f];exact tU (k:=q) (o:=0) eB n_ (ax j_) l9.o o5 o0 n1.o (cM D.o.1 z.o) l7.o O I);have s:(out++[gW q af]).flatMap gV=out.flatMap gV++gV (gW q af):=aT;have k6:g4.ownsRow B 200 6 (.slice h5 (m+1) j8) (out++[gW q af]).length ((out++[gW q af]).flatMap gV):=(by rw[s,gp,g8.o];exact fu j3.o g0 (λ b F e=>c_.o (e▸F)));exact⟨gj at_ q,out++[gW q af],I,D.o.inc e9 c0.o,by have:=g8.o;simp;omega,λ r h=>g9.o r (.step m9.o ⟨e9,h_.o,c8.o⟩ (by rw[m0.o];exact h)),k7,k6,λ b F h=>c_.o (by simp at h;rw[h];exact F),ab.write i'.o g0 (an d9.o)⟩
    have t9:(af.kind==1)=false:=ax R;have e1:gW q af=⟨q,af.kind,0,0,0,af.val⟩:=(by unfold gW;rw[dg R]);have h':=ai e1;clear e1 R;go_upto_region 16 with(first|(refine fW rfl 200 _ rfl _ [(0,.int .i64 q),(1,.int .i64 af.kind),(5,.int .i64 af.val)] rfl (BQ _ _ _) ?_)|(refine db rfl _ (.tmp 13) (.tmp 106) rfl u5.heap.size 200 _ [q,af.kind,.int .i64 0,.int .i64 0,.int .i64 0,af.val] rfl rfl (aC.new _ _ _) rfl Z rfl ?_;intro u6 a8 f_));have b2:ab u5 u6:=ab.write (ab.new _ _) f_ (Nat.le_refl _);have o4:=a8.lt;have a3:=b2.ay n2.o o1;have d0:u6.cell? ⟨g,0,none⟩=some (.int .i64 af.kind):=(by rw[a3.cell];rfl);clear n6 n8;go_upto_region 18 with fail;obtain⟨u7,rfl⟩:=aW (u6:World);have X:=b2;have r6:=o4;have P:=a8;clear f_ a3 d0 a8 b2;have E:=ab.trans m4.o X;have e6:=dy c1.o E (λ i f=>f.2);have e7:=dy j2.o E (λ i f=>f.2);have e0:=E.ay g6.o c4;have s0:=E.size;obtain⟨i7,q6,j4,p5,h8⟩:=dC E e6 e7 e0 P;clear E e6 e7 e0 P X;go_wp2_with(refine ew I _ (.tmp 13) I u5.heap.size 200 [q,af.kind,.int .i64 0,.int .i64 0,.int .i64 0,af.val] _ I h8.o underlying200 I Z ?_;refine jo ?_);refine ai ?_;refine lr I 196 200 1 _ I pL _ [(0,.agg #[q,af.kind,.int .i64 0,.int .i64 0,.int .i64 0,af.val])] I (DS _ _ _ _ _ _) ?_;intro u8 a9 b3 s3;have e8:=dy j4.o b3 (λ i f=>f.2);have f':dz u8 (λ i=>i=u7.heap.size) 6 (some ⟨u7.heap.size,0,none⟩) 1 (gV (gW q af)):=⟨I,λ _=>⟨_,0,I,I,λ i u hu=>by rw[a9.cell];rw[h'.o]at hu;simpa [gV]using hu⟩⟩;obtain⟨c9,j5,p0,i8⟩:=cH e8 f' a9 b3;clear e8 f' a9 b3;go_wp2_with(at_builtin;refine fe _ I (.tmp 121) (.tmp 123) 196 I B 200 o8 _ 6 48 pL m3.o n5.o n4.o n3.o I O (.slice dJ m a1) m (out.flatMap gV) I c9.o (λ i=>i=u7.heap.size) (some ⟨u7.heap.size,0,none⟩) 1 1 (gV (gW q af)) I j5.o (Fz _) dQ O O ?_;intro k_ b_ b6 b0 d';refine jo ?_);refine ai ?_;have N:=ab.trans i7.o i8.o;have e2:aw (λ i=>i<u8.heap.size/\(Value.slice dJ m a1).ownBlock≠some i) u8 b_:=jA ((aN _ _)) b0 (λ i f=>f.1) (λ s' b1 j'=>j'.2 b1);have b5:(Value.slice dJ m a1).ownBlock≠some y:=λ h=>l_.o y h I;have r_:=N.size;have a':=e2.ay (N.ay g6.o c4) ⟨O,b5⟩;have g1:k_.ownBlock≠some y:=λ h=>by
     rcases d' with h1|h1
     ·exact b5 (h1▸h)
     rw[h]at h1;simp at h1;omega
    have t':b_.cell? ⟨y,q,none⟩=some (.int .i64 bj):=(by rw[a'.cell];exact l8.o);have e5:ab wd b_:=fh (ab.trans i9.o N) c9.o b0 (λ i f=>by have:=d9.o;have:i<wd.heap.size:=f;omega) O;obtain⟨h5,j8,k',-,-⟩:=dZ b6;subst k';obtain⟨h9,c_,i',j3⟩:=cH a' g1 e5 b6;clear a' g1 e5 b6 e2 b5 b0 d' N;go_wp2_with(refine dO I _ (.tmp 130) (.tmp 129) I y q 3 cur (.int .i64 (bj+1)) I I h9.o o7 Z I I ?_;intro g4 j_ g0);go_roundg (ke (gj at_ q) bW);case measure=>exact su at_ bW q (cM D.o.1 z.o) (cM D.o.2.1 z.o) c0.o
    have e9:q<l.length:=an z.o;have f:gj at_ q=at_.set q ((bj:Int)+1):=(by unfold gj;rw[l6.o]);have r7:=su at_ bW q (an D.o.1) (an D.o.2.1) c0.o;have k7:g4.ownsRow B 3 1 (.slice (some ⟨y,0,none⟩) k c2) k ((gj at_ q).flatMap bE):=(by rw[f];exact tU (k:=q) (o:=0) eB n_ (ax j_) l9.o o5 o0 n1.o (cM D.o.1 z.o) l7.o O I);have s:(out++[gW q af]).flatMap gV=out.flatMap gV++gV (gW q af):=aT;have k6:g4.ownsRow B 200 6 (.slice h5 (m+1) j8) (out++[gW q af]).length ((out++[gW q af]).flatMap gV):=(by rw[s,gp,g8.o];exact fu j3.o g0 (λ b F e=>c_.o (e▸F)));exact⟨gj at_ q,out++[gW q af],I,D.o.inc e9 c0.o,by have:=g8.o;simp;omega,λ r h=>g9.o r (.step m9.o ⟨e9,h_.o,c8.o⟩ (by rw[m0.o];exact h)),k7,k6,λ b F h=>c_.o (by simp at h;rw[h];exact F),ab.write i'.o g0 (an d9.o)⟩
  have N:(bj:Int)=t:=O;have t1:((bj:Int)==t)=true:=ax N;have E:lD l bW at_ q=false:=by unfold lD;rw[C,bX];simp[dN]
  have G:∀J,ab wr J->uE l bW at_ k c7 (.int .i64 ((q:Int)+1)) J:=λ J s=>⟨q+1,cz,O,λ j a5=>(by
   rcases Nat.lt_or_ge j q with h|h
   ·exact a6 j h
   ·obtain rfl:j=q:=O
    exact E),ab.trans L s⟩
  have V:=ai G;clear G a_ Q c3 W U a4 b7 C bX a2 k8 o6 a6 L d_ k9 k0 E b8 e4 dN N;go_upto_region 11 with fail;go_quiet(fail);go_wp2_with fail;go_roundw;case rel=>exact V.o _ (ab.fZ _ _)
  case measure=>exact bS
 have k5:decide (q<k)=false:=ax e_;have r2:decide ((q:Int)<(k:Int))=false:=aY;obtain rfl:q=k:=O;have N:∀J,ab wr J->yR bW at_ q wr (.int .i64 0) J:=λ J s=>⟨0,I,Nat.zero_le _,λ j a5=>absurd a5 O,s⟩;obtain⟨wf,rfl⟩:=aW (wr:World);obtain⟨E,c8,g7,a2⟩:=cH N a6 L e4;clear N a6 L e4 b8;go_upto_region 11 with fail;go_quiet(fail);go_wp2_with fail;go_loopw[14] (λ i wr=>yR bW at_ q wf i wr) (λ i _=>q- (intOf i).toNat);case atStart=>exact E.o _ (ab.fZ _ _)
 clear E;obtain⟨p,rfl,a',heq,L⟩:=hrel;have N:=ab.trans a2.o L;have P:=ab.trans g7.o L;have X:aw S wd wr:=cS N (λ i f=>an (M.o i f));by_cases R:p<q
 ·obtain⟨y,o9,dK,rfl,a9,W,a_⟩:=((mn c1.o).aq (P.mono (λ i f=>f.2))).at_ eB R;obtain⟨a0,b9,t,rfl,n9,U,Q⟩:=(n0.o.aq X).at_ eB R;have a3:decide (p<q)=true:=ax R;have a4:decide ((p:Int)<(q:Int))=true:=aY;have a6:(0:Int)<=p:=O;have a8:(p:Int)<q:=O;have g5:wr.cell? ⟨y,o9+p,none⟩=some (.int .i64 dK):=by have:=a_ 0 _ I;simpa using this
  have g':wr.cell? ⟨a0,b9+p,none⟩=some (.int .i64 t):=by have:=Q 0 _ I;simpa using this
  have C:=iQ (d:=0) W;have bX:=iQ (d:=0) U;by_cases E:dK=t
  ·have t7:(dK !=t)=false:=ax E
   have G:∀J,ab wr J->yR bW at_ q wf (.int .i64 ((p:Int)+1)) J:=λ J s=>⟨p+1,cz,O,λ j a5=>(by
    rcases Nat.lt_or_ge j p with h|h
    ·exact heq j h
    ·obtain rfl:j=p:=O
     rw[C,bX,E]),ab.trans L s⟩
   have V:=ai G;clear G a_ Q W U C bX heq L N P X E;go_upto_region 23 with fail;go_quiet(fail);go_wp2_with fail;go_roundw;case rel=>exact V.o _ (ab.fZ _ _)
   case measure=>exact bS
  have t7:(dK !=t)=true:=ax E;have b4:at_≠bW:=λ h=>E (by rw[<-C,<-bX,h]);have G:∀J,ab wr J->qt l dm bW w (.returned (.tuple Px)) J:=λ J s=>⟨none,.inl ⟨j6.o,g9.o _ (.stuck b4 (λ j a5=>c8.o j (an z.o)))⟩,ab.trans m5.o (ab.trans N s),.inl ⟨I,I⟩⟩;have V:=ai G;clear G a_ Q W U C bX heq L N P X E b4;go_upto_region 23 with fail;go_quiet(fail);go_wp2_with fail;go_ret2;exact V.o _ (ab.fZ _ _)
 have a3:decide (p<q)=false:=ax R;have a4:decide ((p:Int)<(q:Int))=false:=aY;have he:at_=bW:=CH (cM D.o.1 D.o.2.1) (λ j a5=>heq j (cM D.o.1 z.o));have G:qt l dm bW w (.returned (.tuple #[.slice dJ m a1,.bool true])) wr:=⟨some out,.inl ⟨j6.o,g9.o _ (.done he)⟩,ab.trans m5.o N,.inr ⟨out,dJ,m,a1,I,I,(Ip (dy j2.o P (λ i f=>f.2))).more (λ i f=>⟨cM f.1 d9.o,f.2⟩)⟩⟩;have V:=ai G;clear G heq L N P X he;go_wp2_with fail;go_ret2;exact V.o
end
section
open Go.Proofs
def rZ(v:eS)(e:iO):Prop:=e.kind=1->0<=e.dst/\e.dst<v.procs
theorem Ge(v s m)(h:∀e∈m.dh,rZ v e):∀e∈(oD v s m).dh,rZ v e:=by
 unfold oD;split
 ·rw[(dH.vN _ _ _).2.1];exact h
 split
 ·split
  ·rw[(dH.vN _ _ _).2.1];exact h
  exact h
 split
 ·split
  ·rename_i a;unfold dH.lY;split
   ·intro e he;simp at he;rcases he with he|he
    ·exact h e he
    subst he;exactλ _=>⟨a.1,a.2.1⟩
   exact h
  exact h
 split
 ·unfold dH.lY;split
  ·intro e he;simp at he;rcases he with he|he
   ·exact h e he
   subst he;exactλ h1=>by simp at h1
  exact h
 exact h
theorem eu.LN{v t m r}(h:eu v t m r):(∀e∈m.dh,rZ v e)->∀e∈r.st.dh,rZ v e:=by
 induction h with
 |nil m=>exactλ h=>h
 |cons h1 h2 b c=>exactλ h=>c (b h)
 |sj h1 b=>exactλ h=>b h
 |empty h0=>exactλ h=>h
 |simple h aA aS=>exactλ h=>Ge _ _ _ h
 |mM h aA h1 a=>exactλ h=>a h
 |mY h aS h1 a=>exactλ h=>a h
 |stop h=>exactλ h=>h
 |pe h h1 a=>exactλ h=>a h
 |out h h1 h0 a=>exactλ h=>a h
 |again h h1 h0 h2 b c=>exactλ h=>c (b h)
theorem Gp(v body cells):∀e∈(ij v body cells).dh,rZ v e:=by
 by_cases a:∃r,eu v (.list body) ⟨cells,[],400⟩ r
 ·obtain⟨r,h⟩:=a;rw[wi h];exact h.LN aT
 unfold ij;rw[dif_neg a];simp
theorem Fx{v}(k):∀(dh:List iO) (o:Int),(∀e∈dh,rZ v e)->(ix k o dh).length<=dh.length/\∀y∈ix k o dh,y.idx=k/\0<=y.aa/\y.aa<v.procs
 |[],o,_=>by simp[ix]
 |e::l,o,h=>by
  have a:=λ o=>Fx k l o (λ e he=>h e (by simp[he]))
  rw[ix]
  split
  ·rename_i h1
   have he:=h e aT h1
   refine⟨by simp;exact(a _).1,λ y c=>?_⟩
   rcases List.mem_cons.1 c with b|b
   ·rw[b];exact⟨I,he⟩
   ·exact(a _).2 y b
  ·exact⟨by have:=(a o).1;simp;omega,(a o).2⟩
theorem CP(k):∀(dh:List iO),(iP k dh).length<=dh.length
 |[]=>by simp[iP]
 |e::l=>by
  have:=CP k l
  rw[iP]
  split<;>simp<;>omega
theorem kR.run{n:Nat}{v:eS}{body:List cd}{cells:List Int}{k:Int}{s:de}(d:v.procs=n)(g:0<=k/\k<=s.events.length)(av:cells.length<=1000000)(au:s.cD.length<=8*s.events.length)(i:s.outs.length<=8*s.events.length)(b:∀e∈s.events,e.kind=1->0<=e.aH/\e.aH<n)(c:∀x∈s.cD,0<=x.idx/\x.idx<=s.events.length/\0<=x.aa/\x.aa<n):kR n (jw v body cells k s):=by
 have f:=rA v body cells;have h1:=Fx k (ij v body cells).dh 0 (Gp v body cells);have h2:=CP k (ij v body cells).dh;refine⟨by simp only[jw];omega,?_,?_,b,λ x a=>?_⟩
 ·simp only[jw,List.length_append];omega
 ·simp only[jw,List.length_append];omega
 simp only[jw]at a⊢;rcases jV.1 a with h|h
 ·exact c x h
 have:=h1.2 x h;rw[d]at this;exact⟨O,O,this.2⟩
theorem DF{n:Nat}{c:eb}{p:Int}{s:de}{e:bz}(h:kR n s)(he:e.kind=1->0<=e.aH/\e.aH<n):kR n (gC c p n s e):=by
 have h1:=h.cD;have h2:=h.outs;have d:∀x∈s.events++[e],x.kind=1->0<=x.aH/\x.aH<n:=λ x b=>by
  rcases List.mem_append.1 b with a|a
  ·exact h.aH x a
  simp at a;rw[a];exact he
 have f:∀x∈s.cD,0<=x.idx/\x.idx<=(s.events++[e]).length/\0<=x.aa/\x.aa<n:=λ x b=>by have:=h.snd x b;simp;omega
 have key:∀(v:eS) (body:List cd),v.procs=n->kR n (jw v body s.cells (s.events.length+1) {s with events:=s.events++[e]}):=λ v body g=>kR.run (s:={s with events:=s.events++[e]}) g ⟨O,aT⟩ h.cells aY aY d f;unfold gC;split
 ·exact key _ _ I
 split
 ·exact key _ _ I
 split
 ·exact key _ _ I
 exact⟨h.cells,aY,aY,d,f⟩
theorem CM{n c p}(av:c.init.length<=1000000):kR n (ky c p n):=kR.run I ⟨O,aT⟩ av aT aT aT aT
theorem BO{n c p}:∀(l:List bz) (s:de),kR n s->(∀e∈l,e.kind=1->0<=e.aH/\e.aH<n)->kR n (l.foldl (gC c p n) s)
 |[],s,h,_=>h
 |e::l,s,h,a=>BO l _ (DF h (a e aT)) (λ x b=>a x (by simp[b]))
theorem IY{n:Nat}{c}{p:Int}{l:List bz}(av:c.init.length<=1000000)(a:∀e∈l,e.kind=1->0<=e.aH/\e.aH<n):kR n (gI c p n l):=BO l _ (CM av) a
theorem uj(c p n):(ky c p n).events=[]:=I
theorem Dz(c p n):∀(l:List bz) (s:de),(l.foldl (gC c p n) s).events=s.events++l
 |[],s=>aT
 |e::l,s=>by rw[List.foldl_cons,Dz c p n l,rk];simp
theorem Ku(c p n l):(gI c p n l).events=l:=by unfold gI;rw[Dz,uj];rfl
end
end Go.Proofs.YtdhklhebgclcoaaGreatDoor
