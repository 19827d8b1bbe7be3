import Derived.Test.YtdhklhebgclcoaaGreatDoorM1
set_option linter.unusedVariables false
set_option linter.unusedSimpArgs false
set_option maxRecDepth 100000
set_option maxHeartbeats 32000000
namespace Go.Proofs.YtdhklhebgclcoaaGreatDoor
open Go.Proofs Go.Proofs.Tryz Go.RowKit
theorem zu:(Tryz.prog.info? 101).map (λ i=>(i.zero,i.size,i.bytes))=some (some (.agg #[.int .i64 0,.string ⟨#[]⟩,.int .i64 0,.int .i64 0,.int .i64 0,.int .i64 0,.string ⟨#[]⟩,.int .i64 0,.int .i64 0,.slice none 0 0,.int .i64 0,.int .i64 0,.string ⟨#[]⟩,.int .i64 0,.int .i64 0,.slice none 0 0,.slice none 0 0,.slice none 0 0]),18,232):=Z
theorem qN(k:Int)(j)(s z:Int)(l n:Int)(h)(f p:Int)(b)(p1 q1:Nat)(cI o:Int)(i)(cA q:Int)(d)(p2 q2:Nat)(A a)(m c g e:Nat):fc Tryz.prog 101 1 [(0,.agg #[k,.string j,s,z,l,n,.string h,f,p,.slice b p1 q1,cI,o,.string i,cA,q,.slice d p2 q2,.slice A m c,.slice a g e])]=some #[.int .i64 k,.string j,.int .i64 s,.int .i64 z,.int .i64 l,.int .i64 n,.string h,.int .i64 f,.int .i64 p,.slice b p1 q1,.int .i64 cI,.int .i64 o,.string i,.int .i64 cA,.int .i64 q,.slice d p2 q2,.slice A m c,.slice a g e]:=Z
theorem tc{gc base n wc wn cs x}(c:gc<base)(b:cX gc wc wn)(h:dt wc (cP wc base) n cs x):dt wn (cP wn base) n cs x:=kP (λ i a=>⟨a.1,cQ a.2 b.size⟩) _ _ _ (gi (b.mono (λ i (a:cP wc base i)=>⟨a.2,an a.1⟩)) _ _ _ h)
theorem pU{base n:Nat}{wc wn:World}{cs:List Value}{x:dU}(b:base<=wc.heap.size)(aJ:n<=5)(h:dt wn (cP wn wc.heap.size) n cs x):dt wn (cP wn base) 5 cs x:=dt.upto aJ (kP (λ i a=>⟨an a.1,a.2⟩) _ _ _ h)
theorem Cr{gc base n wc wn A m c l}(d:gc<base)(b:cX gc wc wn)(h:cN wc (cP wc base) 18 (λ cs s=>cU wc (cP wc base) n cs s) A m c l):cN wn (cP wn base) 18 (λ cs s=>cU wn (cP wn base) n cs s) A m c l:=by have au:aw (cP wc base) wc wn:=b.mono (λ i (a:cP wc base i)=>⟨a.2,an a.1⟩);exact(h.aq au (fa au n)).more (λ i a=>⟨a.1,cQ a.2 b.size⟩) (fP (λ i (a:cP wc base i)=>⟨a.1,cQ a.2 b.size⟩) n)
theorem wI{base n:Nat}{wc wn:World}{A:Option Addr}{m c:Nat}{l:List cd}(b:base<=wc.heap.size)(h:cN wn (cP wn wc.heap.size) 18 (λ cs s=>cU wn (cP wn wc.heap.size) n cs s) A m c l):cN wn (cP wn base) 18 (λ cs s=>cU wn (cP wn base) n cs s) A m c l:=h.more (λ i a=>⟨an a.1,a.2⟩) (fP (λ i (a:cP wn wc.heap.size i)=>⟨an a.1,a.2⟩) n)
theorem pY{w S n cs e}(h:dt w S n cs e)(c:dU.ei 2 n e):dU.ei 1000 5 e:=by
 have h2:dU.ei 2 5 e:=dU.BV h c;have key:∀(n:Nat) (e:dU),dU.ei 2 n e->dU.ei 1000 n e:=by
  intro n;induction n with
  |zero=>intro e _;trivial
  |succ n d=>intro e he;obtain⟨op,val,name,slot,size,args⟩:=e;exact⟨an he.1,λ a b=>d a (he.2 a b)⟩
 exact key 5 e h2
def GY(n b:Nat)(B:Nat->Prop)(gc r:Nat)(w:World)(e:Ending)(ae:World):Prop:=∃(l:List cd) (A:Option Addr) (m c dj:Nat),e=.returned (.slice A m c)/\cN ae (cP ae w.heap.size) 18 (λ cs s=>cU ae (cP ae w.heap.size) n cs s) A m c l/\l.length<=b/\(∀a∈l,cd.ei 1000 n a)/\dj<=r/\eG ae B gc dj/\cX gc w ae
def zV(n:Nat):Prop:=∀(a:Nat) (w:World) (B:Nat->Prop) (gc r:Nat),a<=100->eG w B gc r->iY w->Calls Tryz.prog 39 #[.pointer (some ⟨gc,0,none⟩),a,n] w (GY n a B gc r w)
def Dm(n b:Nat)(B:Nat->Prop)(gc r:Nat)(w:World)(v i:Value)(wr:World):Prop:=∃(k dj:Nat) (l:List cd),i=.int .i64 k/\l.length+k<=b/\fB (λ w S cs e=>cU w S n cs e) 18 101 wr w.heap.size v l/\(∀a∈l,cd.ei 1000 n a)/\dj<=r/\eG wr B gc dj/\cX gc w wr
def KR(n:Nat)(b:World)(a:Value)(J:World):Prop:=∃k:Int,a=.int .i64 k/\0<=k/\k<10/\(n=0->k<7)/\b=J
def CR(n:Nat)(B:Nat->Prop)(gc r:Nat)(w:World)(l:List cd)(v:Value)(J:World):Prop:=∃(s:cd) (dj:Nat),fB (λ w S cs e=>cU w S n cs e) 18 101 J w.heap.size v (l++[s])/\cd.ei 1000 n s/\dj<=r/\eG J B gc dj/\cX gc w J
theorem sk{n b gc r dj k:Nat}{B w J l v}(m:0<k)(o:l.length+k<=b)(p:dj<=r)(g:∀a∈l,cd.ei 1000 n a)(h:CR n B gc dj w l v J):Dm n b B gc r w v (.int .i64 ((k:Int)-1)) J:=by
 obtain⟨s,j,f,e,q,d,i⟩:=h;refine⟨k-1,j,l++[s],by congr 1;omega,aY,f,λ a c=>?_,O,d,i⟩;rcases jV.1 c with h1|h1
 ·exact g a h1
 simp at h1;subst h1;exact e
theorem si{n gc r dj:Nat}{B:Nat->Prop}{w wr b f:World}{v d:Value}{l:List cd}{s:cd}{aP:List (List Value)}{cs:List Value}{o:Obj}(m:∀i,B i->i<w.heap.size)(hw:w.heap.size<=wr.heap.size)(z:wr.heap.size<=b.heap.size)(h:aP.length=l.length)(bX:∀cs∈aP,cs.length=18)(g3:b.ownsRow w.heap.size 101 18 v l.length aP.flatten)(j:∀(k:Nat) (cs:List Value) (a:cd),aP[k]?=some cs->l[k]?=some a->cU b (Rest b w.heap.size v) n cs a)(t:∀i,wr.heap.size<=i->v.ownBlock≠some i)(g:cU b (cP b wr.heap.size) n cs s)(q:cd.ei 1000 n s)(y:dj<=r)(av:eG b B gc dj)(u:cX gc w b)(x:f.ownsRow w.heap.size 101 18 d (l.length+1) (aP.flatten++cs))(e:(b.alloc o).grownBy f v.ownBlock)(p:d.ownBlock=v.ownBlock\/d.ownBlock=some (b.alloc o).heap.size):CR n B gc r w l d f:=by
 refine⟨s,dj,fB.push (cU.iC n) h bX j (cx b o) x e p g.len (fP (λ i c=>⟨an c.1,c.2,t i c.1⟩) _ _ _ g),q,y,?_,?_⟩
 ·exact(av.alloc o).same (fh (aN _ _) (g3.alloc o) e (λ i c=>m i c) aY)
 exact fh (cX.alloc u o) (g3.alloc o) e (λ i c=>c.1) aY
theorem Ln(c)(d e:Int)(b)(dR f:Int)(a)(aR aQ:Nat):Tryz.prog.built 101 [(0,.int .i64 1),(1,.string c),(5,.agg #[d,e,.string b,dR,f,.slice a aR aQ])]=some #[.int .i64 1,.string c,.int .i64 0,.int .i64 0,.int .i64 0,.int .i64 0,.string ⟨#[]⟩,.int .i64 0,.int .i64 0,.slice none 0 0,.int .i64 d,.int .i64 e,.string b,.int .i64 dR,.int .i64 f,.slice a aR aQ,.slice none 0 0,.slice none 0 0]:=Z
theorem MN(f)(g k:Int)(d)(dR m:Int)(a)(aR aQ:Nat)(h l:Int)(e)(c n:Int)(b)(i j:Nat):Tryz.prog.built 101 [(0,.int .i64 2),(1,.string f),(4,.agg #[g,k,.string d,dR,m,.slice a aR aQ]),(5,.agg #[h,l,.string e,c,n,.slice b i j])]=some #[.int .i64 2,.string f,.int .i64 0,.int .i64 0,.int .i64 g,.int .i64 k,.string d,.int .i64 dR,.int .i64 m,.slice a aR aQ,.int .i64 h,.int .i64 l,.string e,.int .i64 c,.int .i64 n,.slice b i j,.slice none 0 0,.slice none 0 0]:=Z
theorem Ll(e g:Int)(c)(dL i:Int)(a)(aK aI:Nat)(f h:Int)(d)(dR j:Int)(b)(aR aQ:Nat):Tryz.prog.built 101 [(0,.int .i64 5),(4,.agg #[e,g,.string c,dL,i,.slice a aK aI]),(5,.agg #[f,h,.string d,dR,j,.slice b aR aQ])]=some #[.int .i64 5,.string ⟨#[]⟩,.int .i64 0,.int .i64 0,.int .i64 e,.int .i64 g,.string c,.int .i64 dL,.int .i64 i,.slice a aK aI,.int .i64 f,.int .i64 h,.string d,.int .i64 dR,.int .i64 j,.slice b aR aQ,.slice none 0 0,.slice none 0 0]:=Z
theorem JX(c d:Int)(b)(dL e:Int)(a)(aK aI:Nat):Tryz.prog.built 101 [(0,.int .i64 6),(5,.agg #[c,d,.string b,dL,e,.slice a aK aI])]=some #[.int .i64 6,.string ⟨#[]⟩,.int .i64 0,.int .i64 0,.int .i64 0,.int .i64 0,.string ⟨#[]⟩,.int .i64 0,.int .i64 0,.slice none 0 0,.int .i64 c,.int .i64 d,.string b,.int .i64 dL,.int .i64 e,.slice a aK aI,.slice none 0 0,.slice none 0 0]:=Z
theorem Kg(h i:Int)(g)(dL j:Int)(b)(aK aI:Nat)(cC)(e c:Nat)(a)(f d:Nat):Tryz.prog.built 101 [(0,.int .i64 3),(5,.agg #[h,i,.string g,dL,j,.slice b aK aI]),(6,.slice cC e c),(7,.slice a f d)]=some #[.int .i64 3,.string ⟨#[]⟩,.int .i64 0,.int .i64 0,.int .i64 0,.int .i64 0,.string ⟨#[]⟩,.int .i64 0,.int .i64 0,.slice none 0 0,.int .i64 h,.int .i64 i,.string g,.int .i64 dL,.int .i64 j,.slice b aK aI,.slice cC e c,.slice a f d]:=Z
theorem KN(e f:Int)(d)(dL g:Int)(a)(aK aI:Nat)(cC)(c b:Nat):Tryz.prog.built 101 [(0,.int .i64 4),(5,.agg #[e,f,.string d,dL,g,.slice a aK aI]),(6,.slice cC c b)]=some #[.int .i64 4,.string ⟨#[]⟩,.int .i64 0,.int .i64 0,.int .i64 0,.int .i64 0,.string ⟨#[]⟩,.int .i64 0,.int .i64 0,.slice none 0 0,.int .i64 e,.int .i64 f,.string d,.int .i64 dL,.int .i64 g,.slice a aK aI,.slice cC c b,.slice none 0 0]:=Z
theorem Hr(n)(q9:n<=100)(g:0<n->zV n):zV (n+1):=by
 intro m5 w B gc r q8 b c;have a0:=c.qb b;have p_:=b.lt;have d:=b.2.1;have p':=c.2.2;obtain⟨i0,f,m,q,s⟩:=eO zu;obtain⟨m0,m9,n0,e5,e8,e_,f',f_⟩:=fl g b c d f m q s;clear g b c d f m q s;go_enter func39,ntmps39;go_wp2_with fail;refine(gx w B gc r ((m5:Int)+1) m9.o O O).mono ?_;rintro e r0 ⟨v1,o5,q',rfl,b,c⟩;obtain⟨o9,rfl⟩:=qY o5;obtain⟨m7,n3⟩:=ck b c;clear b c;go_wp2_with fail;go_loopw[7,8] (λ v i wr=>Dm (n+1) m5 B gc r w v i wr) (λ _ i _=>(intOf i).toNat);case atStart=>exact⟨o9,r-1,[],I,aY,uG,aT,O,m7.o,n3.o⟩
 obtain⟨k,dj,l,rfl,g5,h7,j7,d',j6,g6⟩:=hrel;have g7:=g6.size;by_cases g4:0<k
 ·have b:=n0.o.only a0 g6;have g1:gc<wr.heap.size:=O;obtain⟨k9,c4,k7,k',n1⟩:=dC h7 j7 j6 g6 b;clear h7 j7 j6 g6 b;go_wp2_with fail;refine(gx wr B gc dj 10 k7.o O O).mono ?_;rintro e d ⟨v2,q,s,rfl,f,c⟩;have q_:=c.size;have m:=fB.same (cU.iC (n+1)) k9.o c (λ i h1 h2=>⟨h2,O⟩);have g:=n1.o.only a0 c;have e9:=cE (cX gc w d) (dM k'.o c);have e7:=cE (∀i,wr.heap.size<=i->_≠some i) (λ i b=>k9.o.fresh b);obtain⟨e6,n2,a9⟩:=cf f m g;clear f m g c;go_upto_region 6 with fail;go_cut[25]from 20 to 24 (λ c J=>sb d (decide (n=0)&&decide (7<=v2)) c J);case first=>
   by_cases aJ:n=0
   ·subst aJ;go_wp2_with fail;go_meet;exact⟨aT,I⟩
   have p9:decide (((n+1:Nat):Int)<=1)=false:=aY;go_wp2_with fail;go_meet;exact⟨by simp[aJ],I⟩
  obtain⟨rfl,rfl⟩:=hcut;go_upto_if 25 with fail;go_cut[9]from 25 to 27 (λ c J=>KR n d c J);case first=>
   generalize c:(decide (n=0)&&decide (7<=v2))=n8;have l9:=ai c;clear c;cases n8 with
   |true=>have c:n=0/\7<=v2:=ax l9.o;have p5:=ai c.1;have p8:=c.2;clear c;go_wp2_with fail;go_meet;exact⟨v2-7,cz,O,O,λ _=>O,I⟩
   |false=>
    have c:¬(n=0/\7<=v2):=λ h=>by have:=l9.o;simp[h.1,h.2]at this
    have m6:=ai c;clear c;go_wp2_with fail;go_meet;exact⟨v2,I,O,O,λ aJ=>an m6.o,I⟩
  obtain⟨c2,rfl,q0,q5,c,rfl⟩:=hcut;have l_:=ai c;clear c q s;have q6:l.length<=100:=O;obtain⟨aP,c,bX,g3,f⟩:=n2.o;obtain⟨e1,e2,e3,e4⟩:=cH c bX g3 f;clear c bX g3 f;by_cases t0:c2<3
  ·as_aux_lemma=>
   go_upto_region 10 with fail;have t:True:=aD;refine eE 99 (λ _=>True) (λ J=>aw (λ i=>i<w.heap.size/\i≠gc) d J) Z aD (dx (aN _ _)) (λ _ g=>?_);refine ag 0 (h:=ag 1 (h:=ag 5 (h:=?_)));refine aV 2 λ K q=>?_;go_simp;refine(gx d.drew B gc _ 3 (e6.o.aq (dx (aN _ _))) O O).mono ?_;rintro e D ⟨o_,l7,o6,rfl,Y,Q⟩;have c:cX gc d D:=dM (dx (aN _ _)) Q;have h9:=c.size;have N:=a9.o.only a0 c;have a1:=dM e9.o c;obtain⟨j,rfl⟩:=qY l7;obtain⟨a2,u⟩:=a9.o.1 j O;have n_:(0:Int)<=j:=O;have o0:(j:Int)<3:=O;have x:∀J,aw (λ i=>i<w.heap.size/\i≠gc) d J->J.cell? ⟨0,j,none⟩=some (.string a2):=λ J C=>(C.cell (p:=⟨0,j,none⟩) ⟨show 0<w.heap.size from O,show 0≠gc from O⟩).trans u;refine aZ q aD (bR g Q (λ i b=>⟨by have:=b.1;first|omega|(simp;omega),b.2⟩)) ?_;clear q K t g;intro t g;clear u;refine ag 3 (h:=ag 4 (h:=?_));clear x;refine aV 6 λ K q=>?_;go_simp;refine(oI 3 O O D B gc _ Y N).mono ?_;rintro e m ⟨a7,m3,k6,rfl,y,a4,j9,a',a5⟩;obtain⟨V,W,U,dR,X,m2,E,aR,aQ,c3,rfl⟩:=kG y;have c1:=pY y a4;have b1:=pU (base:=wr.heap.size) O O y;clear y a4 c3;have f:=a5;have k0:=f.size;have a_:=N.only a0 f;have b0:=dM a1 f;refine aZ q aD (bR g a5 (λ i b=>⟨by have:=b.1;first|omega|(simp;omega),b.2⟩)) ?_;clear q K t g;intro t g;have P:=dy e3.o (show aw (λ i=>i<d.heap.size/\i≠gc) d m from dM c f) (λ i b=>⟨b.2,O⟩);have s:cX gc d m:=dM c f;have G:=P;have H:∀(k:Nat) (cs:List Value) (a:cd),aP[k]?=some cs->l[k]?=some a->cU m (Rest m w.heap.size _) (n+1) cs a:=λ k cs a a8 b6=>fP (λ i b=>⟨b.1,Nat.lt_of_lt_of_le b.2.1 s.size,b.2.2⟩) _ _ _ (fa (s.mono (λ i b=>⟨b.2.1,an b.1⟩)) _ _ _ (e4.o k cs a a8 b6));have T:cU m (cP m wr.heap.size) (n+1) [.int .i64 1,.string a2,.int .i64 0,.int .i64 0,.int .i64 0,.int .i64 0,.string ⟨#[]⟩,.int .i64 0,.int .i64 0,.slice none 0 0,V,W,.string U,dR,X,.slice E aR aQ,.slice none 0 0,.slice none 0 0] (.mk 1 a2 0 0 kj a7 [] []):=⟨ib,ib,[.int .i64 0,.int .i64 0,.string ⟨#[]⟩,.int .i64 0,.int .i64 0,.slice none 0 0],[.int .i64 V,.int .i64 W,.string U,.int .i64 dR,.int .i64 X,.slice E aR aQ],_,_,_,_,_,_,I,qn 4,b1,iv,iv⟩;have S:cd.ei 1000 (n+1) (.mk 1 a2 0 0 kj a7 [] []):=⟨vp _ _,c1,aT,aT,aT,aT⟩;obtain⟨z,b2,F,b5⟩:=cH G H T S;clear G H T S P s;refine cK 7 I (gh ba _ _ I _ [(0,.int .i64 1),(1,.string a2),(5,.agg #[V,W,.string U,dR,X,.slice E aR aQ])] I (Ln _ _ _ _ _ _ _ _ _)) ?_;refine aV 8 λ K q=>?_;refine gl I _ _ _ _ I An _ [(0,.agg #[.int .i64 1,.string a2,.int .i64 0,.int .i64 0,.int .i64 0,.int .i64 0,.string ⟨#[]⟩,.int .i64 0,.int .i64 0,.slice none 0 0,V,W,.string U,dR,X,.slice E aR aQ,.slice none 0 0,.slice none 0 0])] I (qN _ _ _ _ _ _ _ _ _ _ _ _ _ _ _ _ _ _ _ _ _ _ _ _ _ _) ?_;refine aZ q aD (rM g (λ i b=>an b.1) _) ?_;clear q K t g;intro t g;refine aV 9 λ K q=>?_;refine iL _ I (.tmp 41) (.tmp 49) _ I w.heap.size 101 i0 _ 18 232 An e8.o e_.o f'.o f_.o I O _ l.length aP.flatten I (z.o.alloc _) _ (some ⟨m.heap.size,0,none⟩) 1 1 [.int .i64 1,.string a2,.int .i64 0,.int .i64 0,.int .i64 0,.int .i64 0,.string ⟨#[]⟩,.int .i64 0,.int .i64 0,.slice none 0 0,V,W,.string U,dR,X,.slice E aR aQ,.slice none 0 0,.slice none 0 0] I (eW I) F.o.nP dQ O aY ?_;intro i' i_ R A L;have M:=si (r:=dj) e5.o g7 O e1.o e2.o z.o b2.o e7.o F.o b5.o O a' b0 R A L;refine aZ q aD (fh g (z.o.alloc _) A (λ i b=>b.1) aY) ?_;clear q K t g;intro t g;refine ag 10 (h:=?_);refine cg Z ?_;have b3:=ai M;clear M R A L t g;go_wp2_with fail;go_roundw;case rel=>exact sk g4 g5 d' c4.o b3.o
   case measure=>exact bS
  by_cases t1:c2=3
  ·have a8:(c2==3)=true:=ax t1;clear t1;as_aux_lemma=>
   go_upto_region 12 with fail;have t:True:=aD;refine eE 99 (λ _=>True) (λ J=>aw (λ i=>i<w.heap.size/\i≠gc) d J) Z aD (dx (aN _ _)) (λ _ g=>?_);refine ag 0 (h:=ag 1 (h:=ag 5 (h:=ag 7 (h:=?_))));refine aV 2 λ K q=>?_;go_simp;refine(gx d.drew B gc _ 2 (e6.o.aq (dx (aN _ _))) O O).mono ?_;rintro e D ⟨o_,l7,o6,rfl,Y,Q⟩;have c:cX gc d D:=dM (dx (aN _ _)) Q;have h9:=c.size;have N:=a9.o.only a0 c;have a1:=dM e9.o c;obtain⟨j,rfl⟩:=qY l7;obtain⟨a2,u⟩:=a9.o.2.1 j O;have n_:(0:Int)<=j:=O;have o0:(j:Int)<2:=O;have x:∀J,aw (λ i=>i<w.heap.size/\i≠gc) d J->J.cell? ⟨1,j,none⟩=some (.string a2):=λ J C=>(C.cell (p:=⟨1,j,none⟩) ⟨show 1<w.heap.size from O,show 1≠gc from O⟩).trans u;refine aZ q aD (bR g Q (λ i b=>⟨by have:=b.1;first|omega|(simp;omega),b.2⟩)) ?_;clear q K t g;intro t g;clear u;refine ag 3 (h:=ag 4 (h:=?_));clear x;refine aV 6 λ K q=>?_;go_simp;refine(oI 2 O O D B gc _ Y N).mono ?_;rintro e m ⟨a7,m3,k6,rfl,y,a4,j9,a',a5⟩;obtain⟨V,W,U,dR,X,m2,E,aR,aQ,c3,rfl⟩:=kG y;have c1:=pY y a4;have b1:=pU (base:=wr.heap.size) O O y;clear y a4 c3;have f:=a5;have k0:=f.size;have a_:=N.only a0 f;have b0:=dM a1 f;refine aZ q aD (bR g a5 (λ i b=>⟨by have:=b.1;first|omega|(simp;omega),b.2⟩)) ?_;clear q K t g;intro t g;refine aV 8 λ K q=>?_;go_simp;refine(oI 2 O O m B gc _ a' a_).mono ?_;rintro e a3 ⟨j1,p7,o',rfl,d_,h6,o3,j5,h8⟩;obtain⟨i7,j0,h_,h',j2,p6,g8,i8,i9,u,rfl⟩:=kG d_;have n':=pY d_ h6;have j_:=pU (base:=wr.heap.size) O O d_;clear d_ h6 u;have a6:=h8;have o8:=a6.size;have l1:=a_.only a0 a6;have j8:=dM b0 a6;have j':=tc g1 a6 b1;refine aZ q aD (bR g h8 (λ i b=>⟨by have:=b.1;first|omega|(simp;omega),b.2⟩)) ?_;clear q K t g;intro t g;have P:=dy e3.o (show aw (λ i=>i<d.heap.size/\i≠gc) d a3 from dM c (dM f a6)) (λ i b=>⟨b.2,O⟩);have s:cX gc d a3:=dM c (dM f a6);have G:=P;have H:∀(k:Nat) (cs:List Value) (a:cd),aP[k]?=some cs->l[k]?=some a->cU a3 (Rest a3 w.heap.size _) (n+1) cs a:=λ k cs a a8 b6=>fP (λ i b=>⟨b.1,Nat.lt_of_lt_of_le b.2.1 s.size,b.2.2⟩) _ _ _ (fa (s.mono (λ i b=>⟨b.2.1,an b.1⟩)) _ _ _ (e4.o k cs a a8 b6));have T:cU a3 (cP a3 wr.heap.size) (n+1) [.int .i64 2,.string a2,.int .i64 0,.int .i64 0,V,W,.string U,dR,X,.slice E aR aQ,i7,j0,.string h_,h',j2,.slice g8 i8 i9,.slice none 0 0,.slice none 0 0] (.mk 2 a2 0 0 a7 j1 [] []):=⟨ib,ib,[.int .i64 V,.int .i64 W,.string U,.int .i64 dR,.int .i64 X,.slice E aR aQ],[.int .i64 i7,.int .i64 j0,.string h_,.int .i64 h',.int .i64 j2,.slice g8 i8 i9],_,_,_,_,_,_,I,j',j_,iv,iv⟩;have S:cd.ei 1000 (n+1) (.mk 2 a2 0 0 a7 j1 [] []):=⟨c1,n',aT,aT,aT,aT⟩;obtain⟨z,b2,F,b5⟩:=cH G H T S;clear G H T S P s;refine cK 9 I (gh ba _ _ I _ [(0,.int .i64 2),(1,.string a2),(4,.agg #[V,W,.string U,dR,X,.slice E aR aQ]),(5,.agg #[i7,j0,.string h_,h',j2,.slice g8 i8 i9])] I (MN _ _ _ _ _ _ _ _ _ _ _ _ _ _ _ _ _)) ?_;refine aV 10 λ K q=>?_;refine gl I _ _ _ _ I An _ [(0,.agg #[.int .i64 2,.string a2,.int .i64 0,.int .i64 0,V,W,.string U,dR,X,.slice E aR aQ,i7,j0,.string h_,h',j2,.slice g8 i8 i9,.slice none 0 0,.slice none 0 0])] I (qN _ _ _ _ _ _ _ _ _ _ _ _ _ _ _ _ _ _ _ _ _ _ _ _ _ _) ?_;refine aZ q aD (rM g (λ i b=>an b.1) _) ?_;clear q K t g;intro t g;refine aV 11 λ K q=>?_;refine iL _ I (.tmp 54) (.tmp 64) _ I w.heap.size 101 i0 _ 18 232 An e8.o e_.o f'.o f_.o I O _ l.length aP.flatten I (z.o.alloc _) _ (some ⟨a3.heap.size,0,none⟩) 1 1 [.int .i64 2,.string a2,.int .i64 0,.int .i64 0,V,W,.string U,dR,X,.slice E aR aQ,i7,j0,.string h_,h',j2,.slice g8 i8 i9,.slice none 0 0,.slice none 0 0] I (eW I) F.o.nP dQ O aY ?_;intro i' i_ R A L;have M:=si (r:=dj) e5.o g7 O e1.o e2.o z.o b2.o e7.o F.o b5.o O j5 j8 R A L;refine aZ q aD (fh g (z.o.alloc _) A (λ i b=>b.1) aY) ?_;clear q K t g;intro t g;refine ag 12 (h:=?_);refine cg Z ?_;have b3:=ai M;clear M R A L t g;go_wp2_with fail;go_roundw;case rel=>exact sk g4 g5 d' c4.o b3.o
   case measure=>exact bS
  have a8:(c2==3)=false:=ax t1;by_cases t2:c2<6
  ·as_aux_lemma=>
   go_wp2_with fail;refine(oI 2 O O d B gc _ e6.o a9.o).mono ?_;rintro e D ⟨b_,l0,l8,rfl,C,b7,l6,Y,Q⟩;obtain⟨t,u,q,dL,x,k_,g,aK,aI,d9,rfl⟩:=kG C;have b8:=pY C b7;have b9:=pU (base:=wr.heap.size) O O C;clear C b7 d9;have c:=Q;have h9:=c.size;have N:=a9.o.only a0 c;have a1:=dM e9.o c;obtain⟨c7,c9,c0,b4,c_,c8⟩:=er Y a1 N c b9 b8;clear Y a1 N c b9 b8 Q;go_wp2_with fail;refine(oI 2 O O D B gc _ c7.o c0.o).mono ?_;rintro e m ⟨a7,m3,k6,rfl,y,a4,j9,a',a5⟩;obtain⟨V,W,U,dR,X,m2,E,aR,aQ,c3,rfl⟩:=kG y;have c1:=pY y a4;have b1:=pU (base:=wr.heap.size) O O y;clear y a4 c3;have f:=a5;have k0:=f.size;have a_:=c0.o.only a0 f;have b0:=dM c9.o f;have c6:=tc g1 f c_.o;obtain⟨g9,g',j3,c5,g_,h5,m_⟩:=dW a' b0 a_ f c6 b1 c1;clear a' b0 a_ f c6 b1 c1 a5;have P:=dy e3.o (show aw (λ i=>i<d.heap.size/\i≠gc) d m from dM b4.o c5.o) (λ i b=>⟨b.2,O⟩);have s:cX gc d m:=dM b4.o c5.o;have G:=P;have H:∀(k:Nat) (cs:List Value) (a:cd),aP[k]?=some cs->l[k]?=some a->cU m (Rest m w.heap.size _) (n+1) cs a:=λ k cs a a8 b6=>fP (λ i b=>⟨b.1,Nat.lt_of_lt_of_le b.2.1 s.size,b.2.2⟩) _ _ _ (fa (s.mono (λ i b=>⟨b.2.1,an b.1⟩)) _ _ _ (e4.o k cs a a8 b6));have T:cU m (cP m wr.heap.size) (n+1) [.int .i64 5,.string ⟨#[]⟩,.int .i64 0,.int .i64 0,t,u,.string q,dL,x,.slice g aK aI,V,W,.string U,dR,X,.slice E aR aQ,.slice none 0 0,.slice none 0 0] (.mk 5 ⟨#[]⟩ 0 0 b_ a7 [] []):=⟨ib,ib,[.int .i64 t,.int .i64 u,.string q,.int .i64 dL,.int .i64 x,.slice g aK aI],[.int .i64 V,.int .i64 W,.string U,.int .i64 dR,.int .i64 X,.slice E aR aQ],_,_,_,_,_,_,I,g_.o,h5.o,iv,iv⟩;have S:cd.ei 1000 (n+1) (.mk 5 ⟨#[]⟩ 0 0 b_ a7 [] []):=⟨c8.o,m_.o,aT,aT,aT,aT⟩;obtain⟨z,b2,F,b5⟩:=cH G H T S;clear G H T S P s;go_wp2_with(first|(refine fW I _ _ I _ [(0,.int .i64 5),(4,.agg #[t,u,.string q,dL,x,.slice g aK aI]),(5,.agg #[V,W,.string U,dR,X,.slice E aR aQ])] I (Ll _ _ _ _ _ _ _ _ _ _ _ _ _ _ _ _) ?_)|(refine gJ I _ _ _ _ I An _ [(0,.agg #[.int .i64 5,.string ⟨#[]⟩,.int .i64 0,.int .i64 0,t,u,.string q,dL,x,.slice g aK aI,V,W,.string U,dR,X,.slice E aR aQ,.slice none 0 0,.slice none 0 0])] I (qN _ _ _ _ _ _ _ _ _ _ _ _ _ _ _ _ _ _ _ _ _ _ _ _ _ _) ?_)|(at_builtin;refine fe _ I (.tmp 69) (.tmp 75) _ I w.heap.size 101 i0 _ 18 232 An e8.o e_.o f'.o f_.o I O _ l.length aP.flatten I (z.o.alloc _) _ (some ⟨m.heap.size,0,none⟩) 1 1 [.int .i64 5,.string ⟨#[]⟩,.int .i64 0,.int .i64 0,t,u,.string q,dL,x,.slice g aK aI,V,W,.string U,dR,X,.slice E aR aQ,.slice none 0 0,.slice none 0 0] I (eW I) F.o.nP dQ O aY ?_;intro i' i_ R A L));have M:=si (r:=dj) e5.o g7 O e1.o e2.o z.o b2.o e7.o F.o b5.o O g9.o g'.o R A L;have b3:=ai M;clear M R A L;go_wp2_with fail;go_roundw;case rel=>exact sk g4 g5 d' c4.o b3.o
   case measure=>exact bS
  by_cases t3:c2=6
  ·have n9:(c2==6)=true:=ax t3;clear t3;as_aux_lemma=>
   go_wp2_with fail;refine(oI 2 O O d B gc _ e6.o a9.o).mono ?_;rintro e D ⟨b_,l0,l8,rfl,C,b7,l6,Y,Q⟩;obtain⟨t,u,q,dL,x,k_,g,aK,aI,d9,rfl⟩:=kG C;have b8:=pY C b7;have b9:=pU (base:=wr.heap.size) O O C;clear C b7 d9;have c:=Q;have h9:=c.size;have N:=a9.o.only a0 c;have a1:=dM e9.o c;obtain⟨c7,c9,c0,b4,c_,c8⟩:=er Y a1 N c b9 b8;clear Y a1 N c b9 b8 Q;have P:=dy e3.o (show aw (λ i=>i<d.heap.size/\i≠gc) d D from b4.o) (λ i b=>⟨b.2,O⟩);have s:cX gc d D:=b4.o;have G:=P;have H:∀(k:Nat) (cs:List Value) (a:cd),aP[k]?=some cs->l[k]?=some a->cU D (Rest D w.heap.size _) (n+1) cs a:=λ k cs a a8 b6=>fP (λ i b=>⟨b.1,Nat.lt_of_lt_of_le b.2.1 s.size,b.2.2⟩) _ _ _ (fa (s.mono (λ i b=>⟨b.2.1,an b.1⟩)) _ _ _ (e4.o k cs a a8 b6));have T:cU D (cP D wr.heap.size) (n+1) [.int .i64 6,.string ⟨#[]⟩,.int .i64 0,.int .i64 0,.int .i64 0,.int .i64 0,.string ⟨#[]⟩,.int .i64 0,.int .i64 0,.slice none 0 0,t,u,.string q,dL,x,.slice g aK aI,.slice none 0 0,.slice none 0 0] (.mk 6 ⟨#[]⟩ 0 0 kj b_ [] []):=⟨ib,ib,[.int .i64 0,.int .i64 0,.string ⟨#[]⟩,.int .i64 0,.int .i64 0,.slice none 0 0],[.int .i64 t,.int .i64 u,.string q,.int .i64 dL,.int .i64 x,.slice g aK aI],_,_,_,_,_,_,I,qn 4,c_.o,iv,iv⟩;have S:cd.ei 1000 (n+1) (.mk 6 ⟨#[]⟩ 0 0 kj b_ [] []):=⟨vp _ _,c8.o,aT,aT,aT,aT⟩;obtain⟨z,b2,F,b5⟩:=cH G H T S;clear G H T S P s;go_wp2_with(first|(refine fW I _ _ I _ [(0,.int .i64 6),(5,.agg #[t,u,.string q,dL,x,.slice g aK aI])] I (JX _ _ _ _ _ _ _ _) ?_)|(refine gJ I _ _ _ _ I An _ [(0,.agg #[.int .i64 6,.string ⟨#[]⟩,.int .i64 0,.int .i64 0,.int .i64 0,.int .i64 0,.string ⟨#[]⟩,.int .i64 0,.int .i64 0,.slice none 0 0,t,u,.string q,dL,x,.slice g aK aI,.slice none 0 0,.slice none 0 0])] I (qN _ _ _ _ _ _ _ _ _ _ _ _ _ _ _ _ _ _ _ _ _ _ _ _ _ _) ?_)|(at_builtin;refine fe _ I (.tmp 80) (.tmp 84) _ I w.heap.size 101 i0 _ 18 232 An e8.o e_.o f'.o f_.o I O _ l.length aP.flatten I (z.o.alloc _) _ (some ⟨D.heap.size,0,none⟩) 1 1 [.int .i64 6,.string ⟨#[]⟩,.int .i64 0,.int .i64 0,.int .i64 0,.int .i64 0,.string ⟨#[]⟩,.int .i64 0,.int .i64 0,.slice none 0 0,t,u,.string q,dL,x,.slice g aK aI,.slice none 0 0,.slice none 0 0] I (eW I) F.o.nP dQ O aY ?_;intro i' i_ R A L));have M:=si (r:=dj) e5.o g7 O e1.o e2.o z.o b2.o e7.o F.o b5.o O c7.o c9.o R A L;have b3:=ai M;clear M R A L;go_wp2_with fail;go_roundw;case rel=>exact sk g4 g5 d' c4.o b3.o
   case measure=>exact bS
  have n9:(c2==6)=false:=ax t3;by_cases t4:c2<9
  ·have l5:0<n:=an l_.o;have o4:((n+1:Nat):Int)-1=(n:Int):=O;have o7:IntKind.i64.wrap (n:Int)=n:=eI _ O;have j4:=ai (m0.o l5);as_aux_lemma=>
   go_wp2_with fail;refine(oI 2 O O d B gc _ e6.o a9.o).mono ?_;rintro e D ⟨b_,l0,l8,rfl,C,b7,l6,Y,Q⟩;obtain⟨t,u,q,dL,x,k_,g,aK,aI,d9,rfl⟩:=kG C;have b8:=pY C b7;have b9:=pU (base:=wr.heap.size) O O C;clear C b7 d9;have c:=Q;have h9:=c.size;have N:=a9.o.only a0 c;have a1:=dM e9.o c;obtain⟨c7,c9,c0,b4,c_,c8⟩:=er Y a1 N c b9 b8;clear Y a1 N c b9 b8 Q;go_wp2_with fail;refine(j4.o 2 D B gc _ O c7.o c0.o).mono ?_;rintro e m ⟨a7,cC,c3,c1,k6,rfl,y,o1,a4,j9,a',a5⟩;have b1:=wI (base:=wr.heap.size) O y;clear y;have f:=a5;have k0:=f.size;have a_:=c0.o.only a0 f;have b0:=dM c9.o f;have c6:=tc g1 f c_.o;obtain⟨g9,g',j3,c5,g_,h5,k8⟩:=dW a' b0 a_ f c6 b1 a4;clear a' b0 a_ f c6 b1 a4 a5;go_wp2_with fail;refine(j4.o 1 m B gc _ O g9.o j3.o).mono ?_;rintro e a3 ⟨j1,e0,k5,g0,o',rfl,d_,q7,h6,o3,j5,h8⟩;have j_:=wI (base:=wr.heap.size) O d_;clear d_;have a6:=h8;have o8:=a6.size;have l1:=j3.o.only a0 a6;have j8:=dM g'.o a6;have m4:=tc g1 a6 g_.o;have j':=Cr g1 a6 h5.o;obtain⟨m8,n4,p0,d_,n5,n6,n7,m'⟩:=fl j5 j8 l1 a6 m4 j' j_ h6;clear j5 j8 l1 a6 m4 j' j_ h6 h8;have P:=dy e3.o (show aw (λ i=>i<d.heap.size/\i≠gc) d a3 from dM b4.o (dM c5.o d_.o)) (λ i b=>⟨b.2,O⟩);have s:cX gc d a3:=dM b4.o (dM c5.o d_.o);have G:=P;have H:∀(k:Nat) (cs:List Value) (a:cd),aP[k]?=some cs->l[k]?=some a->cU a3 (Rest a3 w.heap.size _) (n+1) cs a:=λ k cs a a8 b6=>fP (λ i b=>⟨b.1,Nat.lt_of_lt_of_le b.2.1 s.size,b.2.2⟩) _ _ _ (fa (s.mono (λ i b=>⟨b.2.1,an b.1⟩)) _ _ _ (e4.o k cs a a8 b6));have T:cU a3 (cP a3 wr.heap.size) (n+1) [.int .i64 3,.string ⟨#[]⟩,.int .i64 0,.int .i64 0,.int .i64 0,.int .i64 0,.string ⟨#[]⟩,.int .i64 0,.int .i64 0,.slice none 0 0,t,u,.string q,dL,x,.slice g aK aI,.slice cC c3 c1,.slice e0 k5 g0] (.mk 3 ⟨#[]⟩ 0 0 kj b_ a7 j1):=⟨ib,ib,[.int .i64 0,.int .i64 0,.string ⟨#[]⟩,.int .i64 0,.int .i64 0,.slice none 0 0],[.int .i64 t,.int .i64 u,.string q,.int .i64 dL,.int .i64 x,.slice g aK aI],_,_,_,_,_,_,I,qn 4,n5.o,n6.o,n7.o⟩;have S:cd.ei 1000 (n+1) (.mk 3 ⟨#[]⟩ 0 0 kj b_ a7 j1):=⟨vp _ _,c8.o,O,O,k8.o,m'.o⟩;obtain⟨z,b2,F,b5⟩:=cH G H T S;clear G H T S P s;go_wp2_with(first|(refine fW I _ _ I _ [(0,.int .i64 3),(5,.agg #[t,u,.string q,dL,x,.slice g aK aI]),(6,.slice cC c3 c1),(7,.slice e0 k5 g0)] I (Kg _ _ _ _ _ _ _ _ _ _ _ _ _ _) ?_)|(refine gJ I _ _ _ _ I An _ [(0,.agg #[.int .i64 3,.string ⟨#[]⟩,.int .i64 0,.int .i64 0,.int .i64 0,.int .i64 0,.string ⟨#[]⟩,.int .i64 0,.int .i64 0,.slice none 0 0,t,u,.string q,dL,x,.slice g aK aI,.slice cC c3 c1,.slice e0 k5 g0])] I (qN _ _ _ _ _ _ _ _ _ _ _ _ _ _ _ _ _ _ _ _ _ _ _ _ _ _) ?_)|(at_builtin;refine fe _ I (.tmp 89) (.tmp 101) _ I w.heap.size 101 i0 _ 18 232 An e8.o e_.o f'.o f_.o I O _ l.length aP.flatten I (z.o.alloc _) _ (some ⟨a3.heap.size,0,none⟩) 1 1 [.int .i64 3,.string ⟨#[]⟩,.int .i64 0,.int .i64 0,.int .i64 0,.int .i64 0,.string ⟨#[]⟩,.int .i64 0,.int .i64 0,.slice none 0 0,t,u,.string q,dL,x,.slice g aK aI,.slice cC c3 c1,.slice e0 k5 g0] I (eW I) F.o.nP dQ O aY ?_;intro i' i_ R A L));have M:=si (r:=dj) e5.o g7 O e1.o e2.o z.o b2.o e7.o F.o b5.o O m8.o n4.o R A L;have b3:=ai M;clear M R A L;go_wp2_with fail;go_roundw;case rel=>exact sk g4 g5 d' c4.o b3.o
   case measure=>exact bS
  have l5:0<n:=an l_.o;have o4:((n+1:Nat):Int)-1=(n:Int):=O;have o7:IntKind.i64.wrap (n:Int)=n:=eI _ O;have j4:=ai (m0.o l5);as_aux_lemma=>
  go_wp2_with fail;refine(oI 2 O O d B gc _ e6.o a9.o).mono ?_;rintro e D ⟨b_,l0,l8,rfl,C,b7,l6,Y,Q⟩;obtain⟨t,u,q,dL,x,k_,g,aK,aI,d9,rfl⟩:=kG C;have b8:=pY C b7;have b9:=pU (base:=wr.heap.size) O O C;clear C b7 d9;have c:=Q;have h9:=c.size;have N:=a9.o.only a0 c;have a1:=dM e9.o c;obtain⟨c7,c9,c0,b4,c_,c8⟩:=er Y a1 N c b9 b8;clear Y a1 N c b9 b8 Q;go_wp2_with fail;refine(j4.o 2 D B gc _ O c7.o c0.o).mono ?_;rintro e m ⟨a7,cC,c3,c1,k6,rfl,y,o1,a4,j9,a',a5⟩;have b1:=wI (base:=wr.heap.size) O y;clear y;have f:=a5;have k0:=f.size;have a_:=c0.o.only a0 f;have b0:=dM c9.o f;have c6:=tc g1 f c_.o;obtain⟨g9,g',j3,c5,g_,h5,k8⟩:=dW a' b0 a_ f c6 b1 a4;clear a' b0 a_ f c6 b1 a4 a5;have P:=dy e3.o (show aw (λ i=>i<d.heap.size/\i≠gc) d m from dM b4.o c5.o) (λ i b=>⟨b.2,O⟩);have s:cX gc d m:=dM b4.o c5.o;have G:=P;have H:∀(k:Nat) (cs:List Value) (a:cd),aP[k]?=some cs->l[k]?=some a->cU m (Rest m w.heap.size _) (n+1) cs a:=λ k cs a a8 b6=>fP (λ i b=>⟨b.1,Nat.lt_of_lt_of_le b.2.1 s.size,b.2.2⟩) _ _ _ (fa (s.mono (λ i b=>⟨b.2.1,an b.1⟩)) _ _ _ (e4.o k cs a a8 b6));have T:cU m (cP m wr.heap.size) (n+1) [.int .i64 4,.string ⟨#[]⟩,.int .i64 0,.int .i64 0,.int .i64 0,.int .i64 0,.string ⟨#[]⟩,.int .i64 0,.int .i64 0,.slice none 0 0,t,u,.string q,dL,x,.slice g aK aI,.slice cC c3 c1,.slice none 0 0] (.mk 4 ⟨#[]⟩ 0 0 kj b_ a7 []):=⟨ib,ib,[.int .i64 0,.int .i64 0,.string ⟨#[]⟩,.int .i64 0,.int .i64 0,.slice none 0 0],[.int .i64 t,.int .i64 u,.string q,.int .i64 dL,.int .i64 x,.slice g aK aI],_,_,_,_,_,_,I,qn 4,g_.o,h5.o,iv⟩;have S:cd.ei 1000 (n+1) (.mk 4 ⟨#[]⟩ 0 0 kj b_ a7 []):=⟨vp _ _,c8.o,O,aT,k8.o,aT⟩;obtain⟨z,b2,F,b5⟩:=cH G H T S;clear G H T S P s;go_wp2_with(first|(refine fW I _ _ I _ [(0,.int .i64 4),(5,.agg #[t,u,.string q,dL,x,.slice g aK aI]),(6,.slice cC c3 c1)] I (KN _ _ _ _ _ _ _ _ _ _ _) ?_)|(refine gJ I _ _ _ _ I An _ [(0,.agg #[.int .i64 4,.string ⟨#[]⟩,.int .i64 0,.int .i64 0,.int .i64 0,.int .i64 0,.string ⟨#[]⟩,.int .i64 0,.int .i64 0,.slice none 0 0,t,u,.string q,dL,x,.slice g aK aI,.slice cC c3 c1,.slice none 0 0])] I (qN _ _ _ _ _ _ _ _ _ _ _ _ _ _ _ _ _ _ _ _ _ _ _ _ _ _) ?_)|(at_builtin;refine fe _ I (.tmp 28) (.tmp 36) _ I w.heap.size 101 i0 _ 18 232 An e8.o e_.o f'.o f_.o I O _ l.length aP.flatten I (z.o.alloc _) _ (some ⟨m.heap.size,0,none⟩) 1 1 [.int .i64 4,.string ⟨#[]⟩,.int .i64 0,.int .i64 0,.int .i64 0,.int .i64 0,.string ⟨#[]⟩,.int .i64 0,.int .i64 0,.slice none 0 0,t,u,.string q,dL,x,.slice g aK aI,.slice cC c3 c1,.slice none 0 0] I (eW I) F.o.nP dQ O aY ?_;intro i' i_ R A L));have M:=si (r:=dj) e5.o g7 O e1.o e2.o z.o b2.o e7.o F.o b5.o O g9.o g'.o R A L;have b3:=ai M;clear M R A L;go_wp2_with fail;go_roundw;case rel=>exact sk g4 g5 d' c4.o b3.o
  case measure=>exact bS
 obtain⟨e0,g0,f,c⟩:=fB.done (cU.iC (n+1)) h7;subst f;obtain⟨k9,c4,k7,k',f⟩:=dC h7 j7 j6 g6 c;clear h7 j7 j6 g6 c;go_wp2_with fail;go_ret;exact⟨l,e0,_,g0,dj,I,f.o,O,c4.o,d',k7.o,k'.o⟩
theorem DK:∀n,n<=100->0<n->zV n
 |0,_,h=>absurd h O
 |n+1,h,_=>Hr n O (λ aJ=>DK n O aJ)
structure jQ where
 name:ByteArray
 size:Int
 init:Int
def qU(v:jQ):List Value:=[.string v.name,.int .i64 v.size,.int .i64 v.init]
theorem sC(v):(qU v).length=3:=I
structure tI where
 vars:List jQ
 start:List cd
 message:List cd
 tick:List cd
 input:List cd
def fX(w:World)(S:Nat->Prop)(A:Option Addr)(m c:Nat)(l:List cd):Prop:=cN w S 18 (λ cs s=>cU w S 3 cs s) A m c l/\l.length<=100/\∀a∈l,cd.ei 1000 3 a
theorem fX.aq{w ae S A m c l}(h:fX w S A m c l)(a:aw S w ae):fX ae S A m c l:=⟨h.1.aq a (fa a 3),h.2⟩
theorem fX.more{w S T A m c l}(h:fX w S A m c l)(a:∀i,S i->T i):fX w T A m c l:=⟨h.1.more a (fP a 3),h.2⟩
def oN(w:World)(S:Nat->Prop)(cs:List Value)(p:tI):Prop:=∃(A a b bY cC:Option Addr) (m c cL d h e i f j g:Nat),cs=[.slice A m c,.slice a cL d,.slice b h e,.slice bY i f,.slice cC j g]/\bl qU 3 w S A m c p.vars/\p.vars.length<=100/\(∀v∈p.vars,(0<=v.size/\v.size<=100)/\-100<=v.init/\v.init<=100)/\fX w S a cL d p.start/\fX w S b h e p.message/\fX w S bY i f p.tick/\fX w S cC j g p.input
theorem oN.aq{w ae S cs p}(h:oN w S cs p)(a:aw S w ae):oN ae S cs p:=by obtain⟨A,b,d,bY,cC,m,c,cL,f,n,g,o,i,q,j,e,h0,k,l,h1,h2,aA,aS⟩:=h;exact⟨A,b,d,bY,cC,m,c,cL,f,n,g,o,i,q,j,e,h0.aq a,k,l,h1.aq a,h2.aq a,aA.aq a,aS.aq a⟩
theorem oN.more{w S T cs p}(h:oN w S cs p)(a:∀i,S i->T i):oN w T cs p:=by obtain⟨A,b,d,bY,cC,m,c,cL,f,o,g,q,j,r,k,e,h0,l,n,h1,h2,aA,aS⟩:=h;exact⟨A,b,d,bY,cC,m,c,cL,f,o,g,q,j,r,k,e,h0.more a,l,n,h1.more a,h2.more a,aA.more a,aS.more a⟩
theorem BG{w S k}:∀{n m:Nat} {cs:List Value} {s:cd},cU w S n cs s->cd.ei k n s->cd.ei k m s
 |n+1,0,cs,.mk kind name slot size place value body fJ,h,d=>trivial
 |n+1,m+1,cs,.mk kind name slot size place value body fJ,h,d=>by
  obtain⟨_,_,z,vs,A,i,v,c,x,p,e,hp,y,t,he⟩:=h
  obtain⟨f1,f2,f3,f4,f5,f6⟩:=d
  have key:∀(A:Option Addr) (g c:Nat) (l:List cd),cN w S 18 (cU w S n) A g c l->(∀a∈l,cd.ei k n a)->∀a∈l,cd.ei k m a:=λ A g c l au u a r=>by
   obtain⟨j,f,rfl⟩:=List.mem_iff_getElem.1 r
   obtain⟨_,_,cs',o,_,_,b,q,_⟩:=au.at_ (k:=j) (an au.1)
   rw[List.getElem?_eq_getElem f]at b
   injection b with b
   rw[b]
   refine BG q (u o ?_)
   rw[<-b]
   exact List.getElem_mem f
  exact⟨f1,f2,f3,f4,key A v c body t f5,key i x p fJ he f6⟩
theorem cU.upto{w S cs e}:∀{n m:Nat},n<=m->cU w S n cs e->cU w S m cs e
 |n,0,hm,h=>by have e:n=0:=O;rw[e]at h;exact h.elim
 |n,m+1,hm,h=>by
  rcases Nat.lt_or_ge n (m+1)with dN|a
  ·exact cU.up _ _ _ (cU.upto O h)
  ·have e:n=m+1:=O
   rw[<-e]
   exact h
theorem Lf{n f:Nat}{wc wn:World}{base:Nat}{A:Option Addr}{m c:Nat}{l:List cd}(aJ:n<=3)(hm:f<=100)(p:base<=wc.heap.size)(h:cN wn (cP wn wc.heap.size) 18 (λ cs s=>cU wn (cP wn wc.heap.size) n cs s) A m c l)(r:l.length<=f)(q:∀a∈l,cd.ei 1000 n a):fX wn (cP wn base) A m c l:=by have d:=wI p h;refine⟨d.more (λ _ h=>h) (λ _ _=>cU.upto aJ),O,λ a o=>?_⟩;obtain⟨j,e,rfl⟩:=List.mem_iff_getElem.1 o;obtain⟨_,_,cs',g,_,_,b,i,_⟩:=d.at_ (k:=j) (an d.1);rw[dA e]at b;injection b with b;rw[b];refine BG i (q g ?_);rw[<-b];exact wM e
def lz(w:World)(e:Ending)(ae:World):Prop:=∃b,e=.returned (.bool b)/\ab w ae
def rC(b a:Int)(w:World)(e:Ending)(ae:World):Prop:=∃v,(b<=v/\v<=a)/\e=.returned (.int .i64 v)/\ab w ae
theorem Gq(w)(op val slot size:Int)(name A)(m c:Nat):Calls Tryz.prog 122 #[.agg #[op,val,.string name,slot,size,.slice A m c]] w (lz w):=by go_enter func122,ntmps122;go_wp2_with fail;all_goals(go_ret;exact⟨_,I,cx _ _⟩)
def za(n:Nat):Prop:=∀(w:World) (S:Nat->Prop) (cs:List Value) (e:dU),(∀i,S i->i<w.heap.size)->dt w S n cs e->dU.ei 1000 n e->Calls Tryz.prog 138 #[.agg cs.toArray] w (rC 1 n w)
def MA(n:Nat)(W:World)(args:List dU)(v i:Value)(wr:World):Prop:=∃(k:Nat) (x:Int),v=.int .i64 x/\(0<=x/\x<=n)/\i=.int .i64 k/\k<=args.length/\ab W wr
theorem Gz(n)(aJ:n<=1000)(l:za n):za (n+1):=by
 intro w S cs e d q Q;obtain⟨op,val,name,slot,size,args⟩:=e;obtain⟨t,z,A,m,c,rfl,b⟩:=q;obtain⟨r,f⟩:=Q;have h:=b.1;have a0:m<=1000:=O;obtain⟨g,L,F,E,s⟩:=dC d l f b h;clear d l f b h r t z;go_enter func138,ntmps138;go_upto_region 1 with fail;generalize b:w.alloc (.cells #[op,val,.string name,slot,size,.slice A m c] 99)=W;have f:ab w W:=b▸cx w _;have d:aC W w.heap.size 99 #[op,val,.string name,slot,size,.slice A m c]:=b▸cu w _ _;have a4:=d.lt;have M:W.cell? ⟨w.heap.size,5,none⟩=some (.slice A m c):=by rw[d.cell];rfl
 clear b d;have d:=ai f;clear f;go_wp2_with fail;go_loopw[3,4] (λ v i wr=>MA n W args v i wr) (λ _ i _=>m- (intOf i).toNat);case atStart=>exact⟨0,0,I,O,I,O,aN _ _⟩
 obtain⟨k,x,rfl,q,rfl,V,b⟩:=hrel;obtain⟨a1,a2⟩:=q;have R:wr.cell? ⟨w.heap.size,5,none⟩=some (.slice A m c):=(b.cell (p:=⟨w.heap.size,5,none⟩) aY).trans M;have a5:=b.size;have X:k<=m:=an s.o;by_cases l:k<m
 ·obtain⟨b',r,cs',a,rfl,N,z,h,Y,B⟩:=E.o.at_ l;have f:ab w wr:=aM d.o b;have D:wr.rangeAt b' (r+k*6) cs':=λ j u hu=>(f.cell (p:=⟨b',r+k*6+j,none⟩) (g.o b' N)).trans (B j u hu);have t:=gi (cS f g.o) _ _ _ h;have C:=F.o a (eo z);have P:decide (k<m)=true:=ax l;have T:(0:Int)<=k:=O;have U:(k:Int)<m:=O;have hlen:=h.len;clear h B z;obtain⟨h,H,K,z,d,G⟩:=er b D t C f hlen;clear b D t C f hlen;go_wp2_with(refine oP I _ (.tmp 16) I b' (r+k*6) I cs' _ H.o gd I (rR G.o) ?_);refine(L.o wr S cs' a (λ i f=>cQ (g.o i f) d.o.size) K.o z.o).mono ?_;rintro e a6 ⟨y,C,rfl,f⟩;obtain⟨D,a3⟩:=C;have t:=aM h.o f;have B:=ai t;clear t f;go_wp2_with fail;go_roundw;case rel=>exact⟨k+1,(if x<y then y else x),I,by split<;>omega,cz,an s.o,B.o⟩
  case measure=>exact bS
 have P:decide (k<m)=false:=ax l;have d:=cE (ab w wr) (aM d.o b);have h:=ai b;clear b;go_wp2_with fail;go_ret;exact⟨x+1,O,I,d.o⟩
theorem yY:∀n,n<=1000->za n
 |0,_=>λ _ _ _ _ _ h=>h.elim
 |n+1,h=>Gz n O (yY n O)
open Go.RowKit Go.Proofs Go.Proofs.Tryz
open Go.RowKit Go.Proofs Go.Proofs.Tryz
def xE(n:Nat):Prop:=∀(w:World) (S:Nat->Prop) (A:Option Addr) (m c:Nat) (l:List cd),(∀i,S i->i<w.heap.size)->cN w S 18 (λ cs s=>cU w S n cs s) A m c l->l.length<=1000->(∀a∈l,cd.ei 1000 n a)->Calls Tryz.prog 117 #[.slice A m c] w (rC 0 (n+5) w)
def Ly(n:Nat)(w:World)(m:Nat)(v i:Value)(wr:World):Prop:=∃(k:Nat) (x:Int),v=.int .i64 x/\(0<=x/\x<=n+5)/\i=.int .i64 k/\k<=m/\ab w wr
def fC(a b:Int):Int:=if a<b then b else a
theorem JD{P}(w a b):(Builtin.max2 (.int .i64 a) (.int .i64 b)).run P w=.ok (.int .i64 (fC a b)) w:=by
 unfold fC;by_cases h:a<b
 ·simp[Builtin.max2,h]
 simp[Builtin.max2,h]
theorem EL{P}(w e ty)(a b c d:Int):(Builtin.max_ e ty #[a,b,c,d]).run P w=.ok (.int .i64 (fC (fC (fC a b) c) d)) w:=by simp[Builtin.max_,List.foldlM,Sem.run_bind,JD]
theorem CI(n)(aJ:n<=100)(f:∀k,n=k+1->xE k):xE n:=by
 intro w S A m c l a au g b;have d:=au.1;have g9:m<=1000:=O;have c7:=ai au;clear au;obtain⟨t,d',c5,e5⟩:=cH a f b d;clear a f b d g;go_enter func117,ntmps117;go_wp2_with fail;go_loopw[3,4] (λ v i wr=>Ly n w m v i wr) (λ _ i _=>m- (intOf i).toNat);case atStart=>exact⟨0,0,I,O,I,O,aN _ _⟩
 obtain⟨k,x,rfl,a,rfl,g7,f⟩:=hrel;obtain⟨g',g_⟩:=a;by_cases T:k<m
 ·obtain⟨b',g,cs',s,rfl,E,z,d,g8,b⟩:=c7.o.at_ T;obtain⟨r,rfl⟩:∃r,n=r+1:=by
   cases n with
   |zero=>exact d.elim
   |succ r=>exact⟨r,I⟩
  have D:=d;obtain⟨kind,name,slot,size,place,value,body,fJ,X,Y,V,U,a1,L,p1,q1,cI,a0,W,cA,a2,N,p2,q2,a3,a4,b5,a6,b6,a7,y,rfl,F,R,B,C⟩:=sq d;have a8:=c5.o s (eo z);rw[y]at a8;obtain⟨f1,f2,f3,f4,f5,f6⟩:=a8;have G:∀J,ab wr J->J.rangeAt b' (g+k*18+4) [X,Y,.string V,U,a1,.slice L p1 q1]:=λ J a j u hu=>by have Q:j<6:=(dV.1 hu).1;have:=b (4+j) u (by match j,Q with|0,_|1,_|2,_|3,_|4,_|5,_=>exact hu);rw[nr];exact((aM f a).cell (p:=⟨b',g+k*18+(4+j),none⟩) (t.o b' E)).trans this
  have H:∀J,ab wr J->J.rangeAt b' (g+k*18+10) [cI,a0,.string W,cA,a2,.slice N p2 q2]:=λ J a j u hu=>by have Q:j<6:=(dV.1 hu).1;have:=b (10+j) u (by match j,Q with|0,_|1,_|2,_|3,_|4,_|5,_=>exact hu);rw[nr];exact((aM f a).cell (p:=⟨b',g+k*18+(10+j),none⟩) (t.o b' E)).trans this
  have a_:∀J,ab wr J->J.cell? ⟨b',g+k*18+16,none⟩=some (.slice a3 b5 a6):=λ J a=>((aM f a).cell (p:=⟨b',g+k*18+16,none⟩) (t.o b' E)).trans (b 16 _ I);have b0:∀J,ab wr J->J.cell? ⟨b',g+k*18+17,none⟩=some (.slice a4 b6 a7):=λ J a=>((aM f a).cell (p:=⟨b',g+k*18+17,none⟩) (t.o b' E)).trans (b 17 _ I);have e1:decide (k<m)=true:=ax T;have g5:(0:Int)<=k:=O;have g6:(k:Int)<m:=O;have q:True:=aD;have slt:∀J,ab wr J->∀i,S i->i<J.heap.size:=λ J a i P=>cQ (t.o i P) (aM f a).size;have a':∀J,ab wr J->aw S w J:=λ J a=>cS (aM f a) t.o;have a9:=d'.o r I;clear b D y d;obtain⟨P,c9,c_,c8,d9,c3,c4,b_,c0⟩:=df f G H F R B C f1 f2;obtain⟨c1,c2,e4,D,y,a5⟩:=er f5 f6 z slt a' a9;clear f G H F R B C f1 f2 f5 f6 z slt a' a9;go_upto_region 5 with fail;refine eE 99 (λ _=>True) (λ J=>ab wr J) Z aD (dx (aN _ _)) (λ _ b=>?_);refine ag 0 (h:=ag 1 (h:=ag 2 (h:=ag 3 (h:=ag 4 (h:=?_)))));refine cK 5 I (dw ba _ _ I b' (g+k*18+4) I [X,Y,.string V,U,a1,.slice L p1 q1] _ (λ J a=>c9.o J a) gd I Z) ?_;refine ag 7 (h:=ag 8 (h:=ag 9 (h:=ag 10 (h:=?_))));refine cK 11 I (dw ba _ _ I b' (g+k*18+10) I [cI,a0,.string W,cA,a2,.slice N p2 q2] _ (λ J a=>c_.o J a) gd I Z) ?_;refine ag 13 (h:=ag 14 (h:=ag 15 (h:=ag 16 (h:=ag 17 (h:=ag 19 (h:=ag 20 (h:=ag 21 (h:=ag 22 (h:=ag 23 (h:=?_))))))))));clear a_ b0;refine aV 6 λ K d=>?_;go_simp;refine(yY 5 O wr.drew S [X,Y,.string V,U,a1,.slice L p1 q1] place (D.o _ b) (gi (y.o _ b) _ _ _ c8.o) b_.o).mono ?_;rintro e b7 ⟨y1,b1,rfl,a9⟩;have C:ab wr b7:=aM b a9;refine aZ d aD C ?_;clear d K q b;intro q b;refine aV 12 λ K d=>?_;go_simp;refine(yY 5 O b7 S [cI,a0,.string W,cA,a2,.slice N p2 q2] value (D.o _ C) (gi (y.o _ C) _ _ _ d9.o) c0.o).mono ?_;rintro e b8 ⟨F,b2,rfl,a'⟩;have z:ab wr b8:=aM C a';refine aZ d aD z ?_;clear d K q b;intro q b;refine aV 18 λ K d=>?_;go_simp;refine(a5.o b8 S a3 b5 a6 body (D.o _ z) (c3.o.aq (y.o _ z) (fa (y.o _ z) _)) f3 c1.o).mono ?_;rintro e b9 ⟨G,b3,rfl,a_⟩;have B:ab wr b9:=aM z a_;refine aZ d aD B ?_;clear d K q b;intro q b;refine aV 24 λ K d=>?_;go_simp;refine(a5.o b9 S a4 b6 a7 fJ (D.o _ B) (c4.o.aq (y.o _ B) (fa (y.o _ B) _)) f4 c2.o).mono ?_;rintro e e2 ⟨H,b4,rfl,b0⟩;have R:ab wr e2:=aM B b0;refine aZ d aD R ?_;clear d K q b;intro q b;refine cK 25 I (gR ba (.int .i64 (fC (fC (fC y1 F) G) H)) (λ J _=>by go_simp;rw[EL];rfl)) ?_;have d_:0<=fC (fC (fC y1 F) G) H/\fC (fC (fC y1 F) G) H<=(r:Int)+5:=by obtain⟨e6,e_⟩:=b1;obtain⟨e7,f'⟩:=b2;obtain⟨e8,f_⟩:=b3;obtain⟨e9,g0⟩:=b4;unfold fC;split<;>split<;>split<;>omega
  generalize fC (fC (fC y1 F) G) H=M at*;obtain⟨g1,g4⟩:=d_;have e3:IntKind.i64.wrap (1+M)=1+M:=eI _ O;refine ag 26 (h:=?_);refine cK 27 I (gR ba (.int .i64 (fC x (1+M))) (λ J _=>by unfold fC;go_simp)) ?_;refine ag 28 (h:=?_);refine cg Z ?_;have e0:0<=fC x (1+M)/\fC x (1+M)<=((r+1:Nat):Int)+5:=by unfold fC;split<;>omega
  have d:=aM P.o R;have c6:=ai d;clear d a9 C a' z a_ B b0 R q b e3 b1 b2 b3 b4;go_wp2_with fail;go_roundw;case rel=>exact⟨k+1,fC x (1+M),I,e0,cz,O,c6.o⟩
  case measure=>exact bS
 have e1:decide (k<m)=false:=ax T;have P:=ai f;clear f;go_wp2_with fail;go_ret;exact⟨x,O,I,P.o⟩
theorem FT(n)(h:n<=100):xE n:=by
 induction n with
 |zero=>exact CI 0 h (λ k e=>O)
 |succ n b=>refine CI (n+1) h (λ k e=>?_);have a:k=n:=O;rw[a];exact b O
open Go.RowKit Go.Proofs Go.Proofs.Tryz
theorem MD(w S A g j bY cC m c cL k s n t q u r Q cA dL dR)(a:∀i,S i->i<w.heap.size)(h1:fX w S g cL k Q)(h2:fX w S j s n cA)(aA:fX w S bY t q dL)(aS:fX w S cC u r dR):Calls Tryz.prog 75 #[.agg #[.slice A m c,.slice g cL k,.slice j s n,.slice bY t q,.slice cC u r]] w (rC 0 8 w):=by
 obtain⟨F,H1,V,X,Y⟩:=dC a h1 h2 aA aS;clear a h1 h2 aA aS;go_enter func75,ntmps75;go_upto_region 1 with fail;generalize b:w.alloc (.cells #[.slice A m c,.slice g cL k,.slice j s n,.slice bY t q,.slice cC u r] 106)=W;have x:ab w W:=b▸cx w _;have a:aC W w.heap.size 106 #[.slice A m c,.slice g cL k,.slice j s n,.slice bY t q,.slice cC u r]:=b▸cu w _ _;have b4:=a.lt;clear b;have b:∀J,ab W J->J.cell? ⟨w.heap.size,1,none⟩=some (.slice g cL k):=λ J f=>(f.cell (p:=⟨w.heap.size,1,none⟩) aY).trans (by rw[a.cell];rfl);have y:∀J,ab W J->J.cell? ⟨w.heap.size,2,none⟩=some (.slice j s n):=λ J f=>(f.cell (p:=⟨w.heap.size,2,none⟩) aY).trans (by rw[a.cell];rfl);have z:∀J,ab W J->J.cell? ⟨w.heap.size,3,none⟩=some (.slice bY t q):=λ J f=>(f.cell (p:=⟨w.heap.size,3,none⟩) aY).trans (by rw[a.cell];rfl);have B:∀J,ab W J->J.cell? ⟨w.heap.size,4,none⟩=some (.slice cC u r):=λ J f=>(f.cell (p:=⟨w.heap.size,4,none⟩) aY).trans (by rw[a.cell];rfl);have key:∀(A:Option Addr) (m c:Nat) (l:List cd) (J:World),fX w S A m c l->ab W J->Calls Tryz.prog 117 #[.slice A m c] J (rC 0 8 J):=λ A m c l J h f=>by have G:=aM x f;have au:=h.aq (cS G F.o);have:=FT 3 O J S A m c l (λ i d=>Nat.lt_of_lt_of_le (F.o i d) G.size) au.1 (an au.2.1) au.2.2;exact this
 have d:True:=aD;clear a;obtain⟨a1,v⟩:=ck x key;clear x key;refine eE 99 (λ _=>True) (λ J=>ab W J) Z aD (dx (aN _ _)) (λ _ a=>?_);refine ag 0 (h:=ag 1 (h:=ag 3 (h:=ag 4 (h:=ag 6 (h:=ag 7 (h:=ag 9 (h:=ag 10 (h:=?_))))))));clear b y z B;refine aV 2 λ K b=>?_;go_simp;refine(v.o g cL k Q W.drew H1.o a).mono ?_;rintro e R ⟨y1,a3,rfl,H⟩;have x:ab W R:=aM a H;refine aZ b aD x ?_;clear b K d a;intro d a;refine aV 5 λ K b=>?_;go_simp;refine(v.o j s n cA R V.o x).mono ?_;rintro e T ⟨B,a4,rfl,L⟩;have y:ab W T:=aM x L;refine aZ b aD y ?_;clear b K d a;intro d a;refine aV 8 λ K b=>?_;go_simp;refine(v.o bY t q dL T X.o y).mono ?_;rintro e U ⟨C,a5,rfl,N⟩;have z:ab W U:=aM y N;refine aZ b aD z ?_;clear b K d a;intro d a;refine aV 11 λ K b=>?_;go_simp;refine(v.o cC u r dR U Y.o z).mono ?_;rintro e a7 ⟨D,a6,rfl,P⟩;have E:ab W a7:=aM z P;refine aZ b aD E ?_;clear b K d a;intro d a;refine cK 12 I (gR ba (.int .i64 (fC (fC (fC y1 B) C) D)) (λ J _=>by go_simp;rw[EL];rfl)) ?_;have a2:0<=fC (fC (fC y1 B) C) D/\fC (fC (fC y1 B) C) D<=8:=by obtain⟨a8,b0⟩:=a3;obtain⟨a9,b1⟩:=a4;obtain⟨a',b2⟩:=a5;obtain⟨a_,b3⟩:=a6;unfold fC;split<;>split<;>split<;>omega
 generalize fC (fC (fC y1 B) C) D=M at*;refine ag 13 (h:=?_);refine cg Z ?_;have b:=aM a1.o E;have a0:=ai b;clear b H x L y N z P E d a;go_wp2_with fail;go_ret;exact⟨M,a2,I,a0.o⟩
open Go.RowKit Go.Proofs Go.Proofs.Tryz
def vV(b:Bool)(w:World)(e:Ending)(ae:World):Prop:=e=.returned (.bool b)/\ae=w
def oZ(x:Int):Bool:=decide ((97<=x/\x<=122)\/(65<=x/\x<=90)\/x=95)
def vr(x:Int):Bool:=decide (48<=x/\x<=57)
theorem rl(w x):Calls Tryz.prog 118 #[.int .u8 x] w (vV (oZ x) w):=by go_enter func118,ntmps118;go_wp2_with fail;all_goals(go_ret;refine⟨mK (λ b=>Ending.returned (.bool b)) ?_,I⟩;rw[Bool.eq_iff_iff];simp only[oZ,Bool.or_eq_true,Bool.and_eq_true,decide_eq_true_eq,beq_iff_eq,true_iff,Bool.false_eq_true,false_iff];omega)
theorem BX(w x):Calls Tryz.prog 120 #[.int .u8 x] w (vV (vr x) w):=by go_enter func120,ntmps120;go_wp2_with fail;all_goals(go_ret;refine⟨mK (λ b=>Ending.returned (.bool b)) ?_,I⟩;rw[Bool.eq_iff_iff];simp only[vr,Bool.or_eq_true,Bool.and_eq_true,decide_eq_true_eq,beq_iff_eq,true_iff,Bool.false_eq_true,false_iff];omega)
def noSpace(b:ByteArray)(k:Nat):Prop:=∀j,j<k->∀h:j<b.size,((b[j].toNat:Int)==32)=false
def pP(b:ByteArray)(k:Nat):Bool:=((ByteArray.mk #[32,118,97,114,32,97,114,114,97,121,32,111,110,32,115,116,97,114,116,32,109,101,115,115,97,103,101,32,116,105,99,107,32,105,110,112,117,116,32,105,102,32,101,108,115,101,32,119,104,105,108,101,32,115,101,110,100,32,111,117,116,112,117,116,32,115,101,108,102,32,112,114,111,99,115,32,102,114,111,109,32,118,97,108,117,101,32]).extract k (k+(1+b.size+1))).toList==((ByteArray.mk #[32])++b++(ByteArray.mk #[32])).toList
open Classical in
noncomputable def nW (b:ByteArray):Bool:=decide (b.size≠0/\noSpace b b.size/\∃k,k+(1+b.size+1)<=87/\pP b k=true)
theorem xM{b}(h:¬(b.size≠0/\noSpace b b.size/\∃k,k+(1+b.size+1)<=87/\pP b k=true)):nW b=false:=by unfold nW;simpa using h
theorem MR{b}(h:b.size≠0/\noSpace b b.size/\∃k,k+(1+b.size+1)<=87/\pP b k=true):nW b=true:=by unfold nW;simpa using h
def ye(a:Nat)(P:Nat->Prop)(w:World)(i:Value)(wr:World):Prop:=∃k:Nat,i=.int .i64 k/\k<=a/\P k/\wr=w
theorem Dv(b)(x:b.size<=1000000)(w):Calls Tryz.prog 119 #[.string b] w (vV (nW b) w):=by
 generalize a:nW b=r;by_cases h0:b.size=0
 ·have d0:((b.size:Int)==0)=true:=ax h0;have:r=false:=a▸xM (λ h=>h.1 h0);subst this;clear a;go_enter func119,ntmps119;go_wp2_with fail;go_ret;exact⟨I,I⟩
 have d0:((b.size:Int)==0)=false:=ax h0;have l:=ai a;clear a;go_enter func119,ntmps119;go_wp2_with fail;go_loopw[3] (λ i wr=>ye b.size (noSpace b) w i wr) (λ i _=>b.size- (intOf i).toNat);case atStart=>exact⟨0,I,O,λ j f=>O,I⟩
 obtain⟨k,rfl,A,a,rfl⟩:=hrel;by_cases g:k<b.size
 ·have v:decide (k<b.size)=true:=ax g;have y:(0:Int)<=k:=O;have z:(k:Int)<b.size:=O;cases p:((b[k].toNat:Int)==32)with
  |true=>have:r=false:=l.o▸xM (λ h=>by have:=h.2.1 k g g;rw[p]at this;cases this);subst this;have n:=ai a;clear a;go_wp2_with fail;go_ret;exact⟨I,I⟩
  |false=>
   have d:noSpace b (k+1):=λ j f h=>by
    rcases jB j k with c|c
    ·exact a j c h
    have e:j=k:=O;subst e;exact p
   obtain⟨u,n⟩:=ck d a;clear d a;go_wp2_with fail;go_roundw;case rel=>exact⟨k+1,cz,O,u.o,I⟩
   case measure=>exact bS
 have v:decide (k<b.size)=false:=ax g;have d:noSpace b b.size:=λ j f h=>a j O h;obtain⟨n,s⟩:=ck a d;clear a d;go_wp2_with fail;go_loopw[5] (λ i J=>ye 87 (λ k=>∀j,j<k->pP b j=false) wr i J) (λ i _=>87- (intOf i).toNat);case atStart=>exact⟨0,I,O,λ j f=>O,I⟩
 obtain⟨cc,rfl,B,a,rfl⟩:=hrel;by_cases av:(cc:Int)+(1+b.size+1)<=87
 ·cases d:pP b cc with
  |true=>have:r=true:=l.o▸MR ⟨h0,s.o,cc,O,d⟩;subst this;unfold pP at d;have m:=ai a;clear a;go_wp2_with fail;go_ret;exact⟨I,I⟩
  |false=>
   have q:∀j,j<cc+1->pP b j=false:=λ j f=>by
    rcases jB j cc with c|c
    ·exact a j c
    have e:j=cc:=O;subst e;exact d
   unfold pP at d;obtain⟨m,t⟩:=ck a q;clear a q;go_wp2_with fail;go_roundw;case rel=>exact⟨cc+1,cz,O,t.o,I⟩
   case measure=>exact bS
 have:r=false:=l.o▸xM (λ⟨_,_,cT,aA,q⟩=>by
  have:=a cT O
  rw[q]at this
  cases this)
 subst this;have m:=ai a;clear a;go_wp2_with fail;go_ret;exact⟨I,I⟩
def rF(b:ByteArray)(k:Nat):Prop:=∀j,j<k->∀h:j<b.size,(oZ b[j].toNat||vr b[j].toNat)=true
open Classical in
noncomputable def oe (b:ByteArray):Bool:=decide (∃h:0<b.size,b.size<=16/\oZ b[0].toNat=true/\nW b=false/\rF b b.size)
open Classical in
theorem tF{b}(h:¬(∃h:0<b.size,b.size<=16/\oZ b[0].toNat=true/\nW b=false/\rF b b.size)):oe b=false:=by unfold oe;exact decide_eq_false h
open Classical in
theorem GO{b}(h:∃h:0<b.size,b.size<=16/\oZ b[0].toNat=true/\nW b=false/\rF b b.size):oe b=true:=by unfold oe;exact decide_eq_true h
theorem oc(b w):Calls Tryz.prog 76 #[.string b] w (vV (oe b) w):=by
 generalize a:oe b=r;by_cases h0:b.size=0
 ·have d0:((b.size:Int)==0)=true:=ax h0;have:r=false:=a▸tF (λ h=>by obtain⟨h,_⟩:=h;omega);subst this;clear a;go_enter mP,sR;go_wp2_with fail;go_ret;exact⟨I,I⟩
 have d0:((b.size:Int)==0)=false:=ax h0;have hp:0<b.size:=O;by_cases y:16<b.size
 ·have d1:decide (16<b.size)=true:=ax y;have:r=false:=a▸tF (λ h=>by obtain⟨_,h,_⟩:=h;omega);subst this;clear a;go_enter mP,sR;go_wp2_with fail;go_ret;exact⟨I,I⟩
 have d1:decide (16<b.size)=false:=ax y;cases c:oZ b[0].toNat with
 |false=>have:r=false:=a▸tF (λ h=>by obtain⟨_,_,h,_⟩:=h;rw[c]at h;cases h);subst this;clear a;have d:=ai c;clear c;go_enter mP,sR;go_wp2_with(go_at_call 118;refine(rl _ _).mono ?_;rw[d.o];rintro e n ⟨rfl,rfl⟩);go_ret;exact⟨I,I⟩
 |true=>
  cases f:nW b with
  |true=>have:r=false:=a▸tF (λ h=>by obtain⟨_,_,_,h,_⟩:=h;rw[f]at h;cases h);subst this;clear a;obtain⟨d,p⟩:=ck c f;clear c f;go_enter mP,sR;go_wp2_with(first|(go_at_call 118;refine(rl _ _).mono ?_;rw[d.o];rintro e n ⟨rfl,rfl⟩)|(go_at_call 119;refine(Dv _ O _).mono ?_;rw[p.o];rintro e n ⟨rfl,rfl⟩));go_ret;exact⟨I,I⟩
  |false=>
   obtain⟨d,p,x⟩:=cf c f a;clear c f a;go_enter mP,sR;go_wp2_with(first|(go_at_call 118;refine(rl _ _).mono ?_;rw[d.o];rintro e n ⟨rfl,rfl⟩)|(go_at_call 119;refine(Dv _ O _).mono ?_;rw[p.o];rintro e n ⟨rfl,rfl⟩));go_loopw[3] (λ i wr=>ye b.size (rF b) n i wr) (λ i _=>b.size- (intOf i).toNat);case atStart=>exact⟨0,I,O,λ j v=>O,I⟩
   obtain⟨k,rfl,D,a,rfl⟩:=hrel;by_cases q:k<b.size
   ·have A:decide (k<b.size)=true:=ax q;have B:(0:Int)<=k:=O;have C:(k:Int)<b.size:=O;cases c:oZ b[k].toNat with
    |true=>
     have m:rF b (k+1):=λ j v h=>by
      rcases jB j k with l|l
      ·exact a j l h
      have e:j=k:=O;subst e;rw[c];rfl
     obtain⟨t,s,g⟩:=cf m a c;clear m a c;go_wp2_with(go_at_call 118;refine(rl _ _).mono ?_;rw[g.o];rintro e z ⟨rfl,rfl⟩);go_roundw;case rel=>exact⟨k+1,cz,O,t.o,I⟩
     case measure=>exact bS
    |false=>
     cases f:vr b[k].toNat with
     |true=>
      have m:rF b (k+1):=λ j v h=>by
       rcases jB j k with l|l
       ·exact a j l h
       have e:j=k:=O;subst e;rw[c,f];rfl
      obtain⟨t,s,g,u⟩:=cH m a c f;clear m a c f;go_wp2_with(first|(go_at_call 118;refine(rl _ _).mono ?_;rw[g.o];rintro e z ⟨rfl,rfl⟩)|(go_at_call 120;refine(BX _ _).mono ?_;rw[u.o];rintro e m ⟨rfl,rfl⟩));go_roundw;case rel=>exact⟨k+1,cz,O,t.o,I⟩
      case measure=>exact bS
     |false=>
      have:r=false:=x.o▸tF (λ h=>by
       obtain⟨_,_,_,_,h⟩:=h
       have:=h k q q
       rw[c,f]at this
       cases this)
      subst this;obtain⟨s,g,u⟩:=cf a c f;clear a c f;go_wp2_with(first|(go_at_call 118;refine(rl _ _).mono ?_;rw[g.o];rintro e z ⟨rfl,rfl⟩)|(go_at_call 120;refine(BX _ _).mono ?_;rw[u.o];rintro e m ⟨rfl,rfl⟩));go_ret;exact⟨I,I⟩
   have A:decide (k<b.size)=false:=ax q;have:r=true:=x.o▸GO ⟨hp,O,d.o,p.o,λ j v h=>a j O h⟩;subst this;have s:=ai a;clear a;go_wp2_with fail;go_ret;exact⟨I,I⟩
open Go.RowKit Go.Proofs Go.Proofs.Tryz
theorem FH(w name)(size init:Int):Calls Tryz.prog 51 #[.agg #[.string name,size,init]] w (rC 1 2147483649 w):=by go_enter func51,ntmps51;go_wp2_with fail;all_goals(go_ret;refine⟨_,?_,I,cx _ _⟩;(repeat' split)<;>omega)
def oh(w:World)(S:Nat->Prop)(A:Option Addr)(m c:Nat)(vs:List jQ):Prop:=bl qU 3 w S A m c vs/\m<=1000/\∀v∈vs,gX v.size
def xI(w:World)(e:Ending)(ae:World):Prop:=∃(s z:Int) (b:Bool),e=.returned (.tuple #[s,z,.bool b])/\gX s/\gX z/\ab w ae
theorem JR{P:Program}{ops:Array Oper}{rest:List Oper}{op:Oper}{a:Act}{w:World}{Q:Exit->Act->World->Prop}(hw:Region.wanted op (yielded ops a.tmps)=true)(ty:TypeId)(x:Operand)(f:op.op=.load ty x)
  (g o:Nat)(j:a.eval x=.pointer (some ⟨g,o,none⟩))(vs:List Value)(d:TypeDesc)(i:w.rangeAt g o vs)
  (hu:P.underlying ty=some d)(c:d.isRow=true)(e:(P.info? ty).map (·.size)=some vs.length)
  (h:wpList P ops Q rest (a.put op.dst (.agg vs.toArray)) w):wpList P ops Q (op::rest) a w:=
 rN λ K b=>by
  rw[di hw]
  exact tt ty x f g o j vs d i hu c e (b _ _ h)
def HR(w:World)(m:Nat)(s i:Value)(wr:World):Prop:=∃(k:Nat) (x:Int),s=.int .i64 x/\(0<=x/\x<=2147483648)/\i=.int .i64 k/\k<=m/\ab w wr
theorem uZ(w S A m c vs name)(b:∀i,S i->i<w.heap.size)(f:oh w S A m c vs):Calls Tryz.prog 78 #[.slice A m c,.string name] w (xI w):=by
 obtain⟨a,hm,d⟩:=f;have H:=a.2.1;have D:c<=9223372036854775807:=a.2.2.1;obtain⟨p,r,l⟩:=cf b a d;clear b a d;go_enter func78,ntmps78;go_wp2_with fail;go_loopw[7,8] (λ s i wr=>HR w m s i wr) (λ _ i _=>m- (intOf i).toNat);case atStart=>exact⟨0,0,I,O,I,O,aN _ _⟩
 obtain⟨k,x,rfl,⟨M,N⟩,rfl,G,b⟩:=hrel;by_cases h:k<m;case neg=>have z:decide (k<m)=false:=ax h;have a:=ai b;clear b;go_wp2_with fail;refine dS (sD sY _ _ _) I ?_;exact⟨_,_,_,I,⟨O,O⟩,⟨O,O⟩,a.o⟩
 obtain⟨b',g,v,rfl,C,f,d⟩:=(r.o.aq (cS b p.o)).at_ sC h;have B:=l.o v (eo f);have t:wr.cell? ⟨b',g+k*3,none⟩=some (.string v.name):=d 0 _ I;have u:wr.cell? ⟨b',g+k*3+1,none⟩=some (.int .i64 v.size):=d 1 _ I;have j:wr.rangeAt b' (g+k*3) [.string v.name,v.size,v.init]:=d;have z:decide (k<m)=true:=ax h;have E:(0:Int)<=k:=O;have F:(k:Int)<m:=O;obtain⟨K,L⟩:=B;clear d f;obtain⟨a,n⟩:=ck b j;clear b j;cases q:(v.name.toList==name.toList)with
 |true=>
  by_cases Q:v.size<0
  ·go_wp2_with fail;go_quiet(fail);go_wp2_with fail;refine dS (sD sY _ _ _) I ?_;exact⟨_,_,_,I,⟨O,O⟩,⟨O,O⟩,mN a.o _⟩
  go_wp2_with fail;go_quiet(fail);go_wp2_with fail;refine dS (sD sY _ _ _) I ?_;exact⟨_,_,_,I,⟨O,O⟩,⟨O,O⟩,mN a.o _⟩
 |false=>
  go_wp2_with(refine oP I _ (.tmp 32) I b' (g+k*3) I [.string v.name,v.size,v.init] _ n.o underlying103 I Z ?_);refine(FH wr v.name v.size v.init).mono ?_;rintro e R ⟨y,⟨j,P⟩,rfl,d⟩;have f:=aM a.o d;have b:=ai f;clear f d t u;by_cases d:2147483648<x+y
  ·have f:decide (2147483648<x+y)=true:=ax d;go_wp2_with fail;refine dS (sD sY _ _ _) I ?_;exact⟨_,_,_,I,⟨O,O⟩,⟨O,O⟩,b.o⟩
  have f:decide (2147483648<x+y)=false:=ax d;go_wp2_with fail;go_roundw;case rel=>exact⟨k+1,x+y,I,⟨O,O⟩,cz,O,b.o⟩
  case measure=>exact bS
end Go.Proofs.YtdhklhebgclcoaaGreatDoor
