import Derived.Test.YtdhklhebgclcoaaGreatDoorM12
set_option linter.unusedVariables false
set_option linter.unusedSimpArgs false
set_option maxRecDepth 100000
set_option maxHeartbeats 32000000
namespace Go.Proofs.YtdhklhebgclcoaaGreatDoor
open Go.Proofs Go.Proofs.Tryz Go.RowKit
def GU(W:World)(d e f:Value)(J:World):Prop:=∃a b c,d=.bool a/\e=.bool b/\f=.bool c/\ab W J
def At(n:Nat):Prop:=∀(w:World) (S:Nat->Prop) (A:Option Addr) (m c:Nat) (l:List cd),(∀i,S i->i<w.heap.size)->cN w S 18 (λ cs s=>cU w S n cs s) A m c l->l.length<=1000->(∀a∈l,cd.ei 1000 n a)->Calls Tryz.prog 77 #[.slice A m c] w (lz w)
theorem Dc(n)(h:∀k,n=k+1->At k):At n:=by
 intro w S A m c l d a q f;have g:=a.1;have e6:m<=1000:=O;obtain⟨W,b9,b_,b7,d_⟩:=dC d a h f g;clear d a h f g q;go_enter func77,ntmps77;go_wp2_with fail;go_loopw[3] (λ i wr=>sX w m i wr) (λ i _=>m- (intOf i).toNat);case atStart=>exact⟨0,I,O,aN _ _⟩
 obtain⟨k,rfl,e5,a⟩:=hrel;by_cases Y:k<m;case neg=>have c7:decide (k<m)=false:=ax Y;have V:=ai a;clear a;go_wp2_with fail;go_ret;exact⟨_,I,V.o⟩
 obtain⟨b',a0,cs',s,rfl,f,g,d,X,v⟩:=b9.o.at_ Y;obtain⟨R,rfl⟩:∃R,n=R+1:=by
  cases n with
  |zero=>exact d.elim
  |succ R=>exact⟨R,I⟩
 obtain⟨kind,name,slot,size,place,value,body,fJ,z,C,y,x,D,t,p1,q1,cI,N,M,cA,P,G,p2,q2,E,F,q,K,h,L,T,rfl,H,U,r,B⟩:=sq d;have b5:=b7.o s (eo g);rw[T]at b5;obtain⟨f1,f2,f3,f4,f5,f6⟩:=b5;have Q:wr.rangeAt b' (a0+k*18) [kind,.string name,slot,size,z,C,.string y,x,D,.slice t p1 q1,cI,N,.string M,cA,P,.slice G p2 q2,.slice E q K,.slice F h L]:=λ j u hu=>(a.cell (p:=⟨b',a0+k*18+j,none⟩) (W.o b' f)).trans (v j u hu);have c7:decide (k<m)=true:=ax Y;have e3:(0:Int)<=k:=O;have e4:(k:Int)<m:=O;have a2:=b_.o R I;clear v d X T g f;obtain⟨a9,V,a8,a',a6,a7,v,X,a1⟩:=df Q a H U r B a2 f1 f2;obtain⟨a4,a5⟩:=ck f5 f6;clear Q a H U r B a2 f1 f2 f5 f6;go_upto_region 5 with(first|(refine wpList_load_mid rfl _ (.tmp 16) rfl b' (a0+k*18) rfl [kind,.string name,slot,size,z,C,.string y,x,D,.slice t p1 q1,cI,N,.string M,cA,P,.slice G p2 q2,.slice E q K,.slice F h L] _ a9.o underlying101 rfl Z ?_)|(refine db rfl _ (.tmp 4) (.tmp 17) rfl wr.heap.size 101 _ [kind,.string name,slot,size,z,C,.string y,x,D,.slice t p1 q1,cI,N,.string M,cA,P,.slice G p2 q2,.slice E q K,.slice F h L] rfl rfl (aC.new _ _ _) rfl Z rfl ?_;intro f H b6));have Q:ab wr f:=zv (cx _ _) b6 (dq _);have r:ab w f:=aM V.o Q;have d:∀J,ab f J->aC J wr.heap.size 101 #[kind,.string name,slot,size,z,C,.string y,x,D,.slice t p1 q1,cI,N,.string M,cA,P,.slice G p2 q2,.slice E q K,.slice F h L]:=λ J a=>a.ay H H.lt;have B:∀J,ab f J->J.cell? ⟨wr.heap.size,0,none⟩=some (.int .i64 kind):=λ J a=>by rw[(d J a).cell];rfl
 have b0:∀J,ab f J->J.cell? ⟨wr.heap.size,1,none⟩=some (.string name):=λ J a=>by rw[(d J a).cell];rfl
 have b3:∀J,ab f J->J.cell? ⟨wr.heap.size,2,none⟩=some (.int .i64 slot):=λ J a=>by rw[(d J a).cell];rfl
 have b4:∀J,ab f J->J.cell? ⟨wr.heap.size,3,none⟩=some (.int .i64 size):=λ J a=>by rw[(d J a).cell];rfl
 have b1:∀J,ab f J->J.cell? ⟨wr.heap.size,16,none⟩=some (.slice E q K):=λ J a=>by rw[(d J a).cell];rfl
 have b2:∀J,ab f J->J.cell? ⟨wr.heap.size,17,none⟩=some (.slice F h L):=λ J a=>by rw[(d J a).cell];rfl
 have slt:∀J,ab f J->∀i,S i->i<J.heap.size:=λ J a i g=>cQ (W.o i g) (aM r a).size;have g:∀J,ab f J->aw S w J:=λ J a=>cS (aM r a) W.o;have c2:=cE (∀J,ab f J->Calls Tryz.prog 121 #[.agg #[z,C,.string y,x,D,.slice t p1 q1]] J (lz J)) (λ J a=>zY 5 J S [z,C,.string y,x,D,.slice t p1 q1] place (slt J a) (gi (g J a) _ _ _ a8.o) X.o);have a_:=cE (∀J,ab f J->Calls Tryz.prog 121 #[.agg #[cI,N,.string M,cA,P,.slice G p2 q2]] J (lz J)) (λ J a=>zY 5 J S [cI,N,.string M,cA,P,.slice G p2 q2] value (slt J a) (gi (g J a) _ _ _ a'.o) a1.o);have c0:=cE (∀J,ab f J->Calls Tryz.prog 77 #[.slice E q K] J (lz J)) (λ J a=>v.o J S E q K body (slt J a) (a6.o.aq (g J a) (fa (g J a) _)) f3 a4.o);have c1:=cE (∀J,ab f J->Calls Tryz.prog 77 #[.slice F h L] J (lz J)) (λ J a=>v.o J S F h L fJ (slt J a) (a7.o.aq (g J a) (fa (g J a) _)) f4 a5.o);have c4:=B f (aN _ _);obtain⟨d',b8,T,U,bq,bg,bp,a2,a3⟩:=df Q r d B b0 b3 b4 b1 b2;clear Q r d B b0 b3 b4 b1 b2 H b6 slt g a9 a8 a' a6 a7 v X a1 a4 a5 f3 f4;(try simp only[Act.put,List.setIfInBounds_toArray,List.set_cons_zero,List.set_cons_succ]);go_cut[5,6,7]from 8 to 41 (λ d g r J=>GU f d g r J);case first=>
  cases d1:(kind==1)with
  |true=>
   cases d2:(kind==2)with
   |true=>
    cases d3:(kind==3)with
    |true=>go_quiet(fail);go_wp2_with fail;go_meet;exact⟨_,_,_,I,I,I,ek _ _⟩
    |false=>go_quiet(fail);go_wp2_with fail;go_meet;exact⟨_,_,_,I,I,I,ek _ _⟩
   |false=>
    cases d3:(kind==3)with
    |true=>go_quiet(fail);go_wp2_with fail;go_meet;exact⟨_,_,_,I,I,I,ek _ _⟩
    |false=>go_quiet(fail);go_wp2_with fail;go_meet;exact⟨_,_,_,I,I,I,ek _ _⟩
  |false=>
   cases d2:(kind==2)with
   |true=>
    cases d3:(kind==3)with
    |true=>go_quiet(fail);go_wp2_with fail;go_meet;exact⟨_,_,_,I,I,I,ek _ _⟩
    |false=>go_quiet(fail);go_wp2_with fail;go_meet;exact⟨_,_,_,I,I,I,ek _ _⟩
   |false=>
    cases d3:(kind==3)with
    |true=>go_quiet(fail);go_wp2_with fail;go_meet;exact⟨_,_,_,I,I,I,ek _ _⟩
    |false=>go_quiet(fail);go_wp2_with fail;go_meet;exact⟨_,_,_,I,I,I,ek _ _⟩
 obtain⟨b6,c3,a7,rfl,rfl,rfl,d⟩:=hcut;obtain⟨B,g⟩:=aW (wc:World);subst g;clear c4;have v:=ai d;clear d;go_upto_region 6 with fail;go_cut[83]from 42 to 82 (λ s J=>sm B s J);case first=>
  as_aux_lemma=>have c5:=U.o B v.o;have e0:=bq.o B v.o;have e1:=bg.o B v.o;have e2:=bp.o B v.o;cases e7:decide (kind<1)with
  |true=>go_wp2_with fail;go_meet;exact⟨_,I,aN _ _⟩
  |false=>
   cases e8:decide (6<kind)with
   |true=>go_wp2_with fail;go_meet;exact⟨_,I,aN _ _⟩
   |false=>
    cases ct:(slot !=0)with
    |true=>go_wp2_with fail;go_meet;exact⟨_,I,aN _ _⟩
    |false=>
     cases e9:(size !=0)with
     |true=>go_wp2_with fail;go_meet;exact⟨_,I,aN _ _⟩
     |false=>
      cases b6 with
      |true=>
       cases b2:oe name with
       |true=>go_wp2_with(first|(go_at_call 76;refine(oc name _).mono ?_;rw[b2];rintro e g ⟨rfl,d⟩;replace d:=d.symm;subst d)|(refine kZ ba _ (.tmp 79) I wr.heap.size 10 101 _ [cI,N,.string M,cA,P,.slice G p2 q2] _ I (T.o B v.o) (λ j u hu=>by match j,hu with|0,hu|1,hu|2,hu|3,hu|4,hu|5,hu=>exact hu) gd I Z ?_));refine(a_.o B v.o).mono ?_;rintro e g ⟨Q,rfl,r⟩;go_wp2_with fail;go_meet;exact⟨_,I,r⟩
       |false=>go_wp2_with(go_at_call 76;refine(oc name _).mono ?_;rw[b2];rintro e g ⟨rfl,d⟩;replace d:=d.symm;subst d);go_meet;exact⟨_,I,aN _ _⟩
      |false=>
       cases e_:name.toList.isEmpty with
       |true=>go_wp2_with(refine kZ ba _ (.tmp 79) I wr.heap.size 10 101 _ [cI,N,.string M,cA,P,.slice G p2 q2] _ I (T.o B v.o) (λ j u hu=>by match j,hu with|0,hu|1,hu|2,hu|3,hu|4,hu|5,hu=>exact hu) gd I Z ?_);refine(a_.o B v.o).mono ?_;rintro e g ⟨Q,rfl,r⟩;go_wp2_with fail;go_meet;exact⟨_,I,r⟩
       |false=>go_wp2_with fail;go_meet;exact⟨_,I,aN _ _⟩
 obtain⟨b,rfl,r⟩:=hcut;obtain⟨g,d⟩:=aW (wc:World);subst d;have d:=aM v.o r;have X:=aM b8.o d;clear r;obtain⟨H,a5⟩:=ck d X;clear d X;cases b with
 |true=>go_wp2_with fail;go_ret;exact⟨_,I,a5.o⟩
 |false=>
  go_upto_region 8 with fail;go_cut[121]from 84 to 120 (λ s J=>sm g s J);case first=>
   have c5:=U.o g H.o;have a':∀J,ab g J->J.cell? ⟨wr.heap.size,0,none⟩=some (.int .i64 kind):=λ J a=>U.o J (aM H.o a);have b0:∀J,ab g J->J.cell? ⟨wr.heap.size,16,none⟩=some (.slice E q K):=λ J a=>a2.o J (aM H.o a);have b1:∀J,ab g J->J.cell? ⟨wr.heap.size,17,none⟩=some (.slice F h L):=λ J a=>a3.o J (aM H.o a);cases c3 with
   |true=>
    as_aux_lemma=>go_wp2_with(refine kZ ba _ (.tmp 86) I wr.heap.size 4 101 _ [z,C,.string y,x,D,.slice t p1 q1] _ I (T.o g H.o) (λ j u hu=>by match j,hu with|0,hu|1,hu|2,hu|3,hu|4,hu|5,hu=>exact hu) gd I Z ?_);refine(c2.o g H.o).mono ?_;rintro e r ⟨Q,rfl,d⟩;have c9:=a' r d;have c_:=b0 r d;have d9:=b1 r d;cases Q with
    |true=>
     cases a7 with
     |true=>
      cases aI:(kind !=3)with
      |true=>
       cases a1:decide (0<h)with
       |true=>go_wp2_with fail;go_meet;exact⟨_,I,d⟩
       |false=>go_wp2_with fail;go_meet;exact⟨_,I,d⟩
      |false=>go_wp2_with fail;go_meet;exact⟨_,I,d⟩
     |false=>
      cases c8:decide (0<q)with
      |true=>go_wp2_with fail;go_meet;exact⟨_,I,d⟩
      |false=>
       cases aI:(kind !=3)with
       |true=>
        cases a1:decide (0<h)with
        |true=>go_wp2_with fail;go_meet;exact⟨_,I,d⟩
        |false=>go_wp2_with fail;go_meet;exact⟨_,I,d⟩
       |false=>go_wp2_with fail;go_meet;exact⟨_,I,d⟩
    |false=>go_wp2_with fail;go_meet;exact⟨_,I,d⟩
   |false=>
    as_aux_lemma=>go_wp2_with(refine kZ ba _ (.tmp 95) I wr.heap.size 4 101 _ [z,C,.string y,x,D,.slice t p1 q1] _ I (T.o g H.o) (λ j u hu=>by match j,hu with|0,hu|1,hu|2,hu|3,hu|4,hu|5,hu=>exact hu) gd I Z ?_);refine(Gq g z C x D y t p1 q1).mono ?_;rintro e r ⟨Q,rfl,d⟩;have c9:=a' r d;have c_:=b0 r d;have d9:=b1 r d;cases Q with
    |true=>
     cases a7 with
     |true=>
      cases aI:(kind !=3)with
      |true=>
       cases a1:decide (0<h)with
       |true=>go_wp2_with fail;go_meet;exact⟨_,I,d⟩
       |false=>go_wp2_with fail;go_meet;exact⟨_,I,d⟩
      |false=>go_wp2_with fail;go_meet;exact⟨_,I,d⟩
     |false=>
      cases c8:decide (0<q)with
      |true=>go_wp2_with fail;go_meet;exact⟨_,I,d⟩
      |false=>
       cases aI:(kind !=3)with
       |true=>
        cases a1:decide (0<h)with
        |true=>go_wp2_with fail;go_meet;exact⟨_,I,d⟩
        |false=>go_wp2_with fail;go_meet;exact⟨_,I,d⟩
       |false=>go_wp2_with fail;go_meet;exact⟨_,I,d⟩
    |false=>go_wp2_with fail;go_meet;exact⟨_,I,d⟩
  obtain⟨b,rfl,d⟩:=hcut;obtain⟨r,X⟩:=aW (wc:World);subst X;have X:=aM H.o d;have a8:=aM a5.o d;have a9:=a2.o r X;clear d;obtain⟨a4,a6⟩:=ck X a8;clear X a8;cases b with
  |true=>go_wp2_with fail;go_ret;exact⟨_,I,a6.o⟩
  |false=>
   go_wp2_with fail;refine(c0.o r a4.o).mono ?_;rintro e b3 ⟨c4,rfl,X⟩;have d:=aM a4.o X;have a8:=aM a6.o X;have c6:=a3.o b3 d;clear X a9;obtain⟨b4,X⟩:=ck d a8;clear d a8;cases c4 with
   |false=>go_wp2_with fail;go_ret;exact⟨_,I,X.o⟩
   |true=>
    go_wp2_with fail;refine(c1.o b3 b4.o).mono ?_;rintro e f' ⟨be,rfl,a8⟩;have a9:=aM X.o a8;have d:=ai a9;clear a9 a8 c6;cases be with
    |false=>go_wp2_with fail;go_ret;exact⟨_,I,d.o⟩
    |true=>
     go_wp2_with fail;go_roundw;case rel=>exact⟨k+1,cz,O,d.o⟩
     case measure=>exact bS
theorem De:∀n,At n
 |0=>Dc 0 (λ k e=>O)
 |n+1=>Dc (n+1) (λ k e=>by
  have a:k=n:=O
  rw[a]
  exact De n)
def IA(w:World)(e:Ending)(ae:World):Prop:=∃x:Int,e=.returned (.int .i64 x)/\ab w ae
theorem Hh(w S V j n bY cC f bA cL q x r z t B u vs T cA dL dR)(E:∀i,S i->i<w.heap.size)(D:oh w S V f bA vs)(h1:fX w S j cL q T)(h2:fX w S n x r cA)(aA:fX w S bY z t dL)(aS:fX w S cC B u dR):Calls Tryz.prog 50 #[.agg #[.slice V f bA,.slice j cL q,.slice n x r,.slice bY z t,.slice cC B u]] w (IA w):=by
 generalize H:w.alloc (.cells #[.slice V f bA,.slice j cL q,.slice n x r,.slice bY z t,.slice cC B u] 106)=W;have F:ab w W:=H▸cx w _;have g:aC W w.heap.size 106 #[.slice V f bA,.slice j cL q,.slice n x r,.slice bY z t,.slice cC B u]:=H▸cu w _ _;have L:=g.lt;have C:∀J,ab W J->aw S w J:=λ J a=>cS (aM F a) E;have slt:∀J,ab W J->∀i,S i->i<J.heap.size:=λ J a i G=>Nat.lt_of_lt_of_le (E i G) (aM F a).size;have gz:=MD W S V j n bY cC f bA cL q x r z t B u T cA dL dR (slt W (aN _ _)) (h1.aq (C W (aN _ _))) (h2.aq (C W (aN _ _))) (aA.aq (C W (aN _ _))) (aS.aq (C W (aN _ _)));have U:∀(J:World) (A:Option Addr) (m c:Nat) (l:List cd),ab W J->fX w S A m c l->Calls Tryz.prog 77 #[.slice A m c] J (lz J):=λ J A m c l a h=>De 3 J S A m c l (slt J a) (h.1.aq (C J a) (fa (C J a) _)) (an h.2.1) h.2.2;have K:∀J,ab W J->J.cell? ⟨w.heap.size,0,none⟩=some (.slice V f bA):=λ J a=>(a.cell (p:=⟨w.heap.size,0,none⟩) L).trans (by rw[g.cell];rfl);have M:∀J,ab W J->J.cell? ⟨w.heap.size,1,none⟩=some (.slice j cL q):=λ J a=>(a.cell (p:=⟨w.heap.size,1,none⟩) L).trans (by rw[g.cell];rfl);have N:∀J,ab W J->J.cell? ⟨w.heap.size,2,none⟩=some (.slice n x r):=λ J a=>(a.cell (p:=⟨w.heap.size,2,none⟩) L).trans (by rw[g.cell];rfl);have P:∀J,ab W J->J.cell? ⟨w.heap.size,3,none⟩=some (.slice bY z t):=λ J a=>(a.cell (p:=⟨w.heap.size,3,none⟩) L).trans (by rw[g.cell];rfl);have R:∀J,ab W J->J.cell? ⟨w.heap.size,4,none⟩=some (.slice cC B u):=λ J a=>(a.cell (p:=⟨w.heap.size,4,none⟩) L).trans (by rw[g.cell];rfl);have c4:=D.2.1;have c3:f<=bA/\bA<=9223372036854775807:=⟨D.1.2.1,D.1.2.2.1⟩;obtain⟨b6,b0,H1,a5,a6,a7,G,a8,b2⟩:=df E D h1 h2 aA aS F g C;obtain⟨b7,b1,Q,a0,a1,a2,a3,a4⟩:=fl slt gz U K M N P R;clear E D h1 h2 aA aS F g C slt gz U K M N P R;go_enter func50,ntmps50;go_wp2_with(refine ew I _ (.tmp 1) I w.heap.size 106 [.slice V f bA,.slice j cL q,.slice n x r,.slice bY z t,.slice cC B u] _ I a8.o wk I Z ?_);clear H;refine b1.o.mono ?_;rintro e c7 ⟨d,⟨b8,b9⟩,rfl,a⟩;have b_:decide (16<d)=false:=aY;have a':=ai a;clear a;go_wp2_with fail;go_loopw[3] (λ i wr=>sX W f i wr) (λ i _=>f- (intOf i).toNat);case atStart=>exact⟨0,I,O,a'.o⟩
 obtain⟨k,rfl,c0,E⟩:=hrel;have Y:=a0.o wr E;by_cases R:k<f
 ·obtain⟨b',X,v,rfl,C,D,a⟩:=(b0.o.1.aq (b2.o wr E)).at_ sC R;have g:wr.rangeAt b' (X+k*3) [.string v.name,v.size,v.init]:=a;have b3:decide (k<f)=true:=ax R;have c1:(0:Int)<=k:=O;have c2:(k:Int)<f:=O;clear a D C;obtain⟨M,a_⟩:=ck E g;clear E g;go_upto_region 7 with(first|(refine wpList_load_mid rfl _ (.tmp 18) rfl b' (X+k*3) rfl [.string v.name,v.size,v.init] _ a_.o underlying103 rfl Z ?_)|(refine db rfl _ (.tmp 4) (.tmp 19) rfl wr.heap.size 103 _ [.string v.name,v.size,v.init] rfl rfl (aC.new _ _ _) rfl Z rfl ?_;intro C a g));have H:ab wr C:=zv (cx _ _) g (Nat.le_refl _);have D:=aM M.o H;have P:C.cell? ⟨wr.heap.size,0,none⟩=some (.string v.name):=by rw[a.cell];rfl
  have a9:C.cell? ⟨wr.heap.size,1,none⟩=some (.int .i64 v.size):=by rw[a.cell];rfl
  have b5:C.cell? ⟨wr.heap.size,2,none⟩=some (.int .i64 v.init):=by rw[a.cell];rfl
  clear a g H Y;have N:=ai D;clear D;(try simp only[Act.put,List.setIfInBounds_toArray,List.set_cons_zero,List.set_cons_succ]);go_cut[43]from 15 to 42 (λ s J=>sm C s J);case first=>
   as_aux_lemma=>cases F:oe v.name with
   |true=>
    cases c6:decide (v.size<0)with
    |true=>go_wp2_with(go_at_call 76;refine(oc v.name _).mono ?_;rw[F];rintro e g ⟨rfl,a⟩;replace a:=a.symm;subst a);go_meet;exact⟨_,I,aN _ _⟩
    |false=>
     cases cj:(v.size !=0)with
     |true=>
      cases c5:(v.init !=0)with
      |true=>go_wp2_with(go_at_call 76;refine(oc v.name _).mono ?_;rw[F];rintro e g ⟨rfl,a⟩;replace a:=a.symm;subst a);go_meet;exact⟨_,I,aN _ _⟩
      |false=>
       cases b4:(v.init==-9223372036854775808)with
       |true=>go_wp2_with(go_at_call 76;refine(oc v.name _).mono ?_;rw[F];rintro e g ⟨rfl,a⟩;replace a:=a.symm;subst a);go_meet;exact⟨_,I,aN _ _⟩
       |false=>go_wp2_with(go_at_call 76;refine(oc v.name _).mono ?_;rw[F];rintro e g ⟨rfl,a⟩;replace a:=a.symm;subst a);go_meet;exact⟨_,I,aN _ _⟩
     |false=>
      cases b4:(v.init==-9223372036854775808)with
      |true=>go_wp2_with(go_at_call 76;refine(oc v.name _).mono ?_;rw[F];rintro e g ⟨rfl,a⟩;replace a:=a.symm;subst a);go_meet;exact⟨_,I,aN _ _⟩
      |false=>go_wp2_with(go_at_call 76;refine(oc v.name _).mono ?_;rw[F];rintro e g ⟨rfl,a⟩;replace a:=a.symm;subst a);go_meet;exact⟨_,I,aN _ _⟩
   |false=>go_wp2_with(go_at_call 76;refine(oc v.name _).mono ?_;rw[F];rintro e g ⟨rfl,a⟩;replace a:=a.symm;subst a);go_meet;exact⟨_,I,aN _ _⟩
  obtain⟨b,rfl,K⟩:=hcut;have a:=aM N.o K;have U:=aM G.o a;clear K P a9 b5;obtain⟨P,a9⟩:=ck a U;clear a U;cases b with
  |true=>go_wp2_with fail;go_ret;exact⟨_,I,a9.o⟩
  |false=>
   go_wp2_with fail;go_roundw;case rel=>exact⟨k+1,cz,O,P.o⟩
   case measure=>exact bS
 have b3:decide (k<f)=false:=ax R;have y1:=a1.o wr E;have M:=ai E;clear E;go_wp2_with fail;refine(Q.o wr j cL q T M.o H1.o).mono ?_;rintro e C ⟨y,rfl,H⟩;have D:=aM M.o H;have E:=aM G.o D;have b5:=a2.o C D;clear H Y y1;obtain⟨N,U⟩:=ck D E;clear D E;cases y with
 |false=>go_wp2_with fail;go_ret;exact⟨_,I,U.o⟩
 |true=>
  go_wp2_with fail;refine(Q.o C n x r cA N.o a5.o).mono ?_;rintro e g ⟨y,rfl,K⟩;have a:=aM N.o K;have D:=aM G.o a;have Y:=a3.o g a;clear K b5;obtain⟨P,K⟩:=ck a D;clear a D;cases y with
  |false=>go_wp2_with fail;go_ret;exact⟨_,I,K.o⟩
  |true=>
   go_wp2_with fail;refine(Q.o g bY z t dL P.o a6.o).mono ?_;rintro e H ⟨y,rfl,D⟩;have a:=aM P.o D;have E:=aM G.o a;have b5:=a4.o H a;clear D Y;obtain⟨D,Y⟩:=ck a E;clear a E;cases y with
   |false=>go_wp2_with fail;go_ret;exact⟨_,I,Y.o⟩
   |true=>
    go_wp2_with fail;refine(Q.o H cC B u dR D.o a7.o).mono ?_;rintro e c8 ⟨y,rfl,a⟩;have E:=aM (aM G.o D.o) a;clear a b5;have a:=ai E;clear E;cases y with
    |false=>go_wp2_with fail;go_ret;exact⟨_,I,a.o⟩
    |true=>go_wp2_with fail;go_ret;exact⟨_,I,a.o⟩
end Go.Proofs.YtdhklhebgclcoaaGreatDoor
