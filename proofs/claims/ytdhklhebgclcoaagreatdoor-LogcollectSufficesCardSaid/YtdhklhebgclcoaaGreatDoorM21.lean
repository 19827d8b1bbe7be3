import Derived.Test.YtdhklhebgclcoaaGreatDoorM20
set_option linter.unusedVariables false
set_option linter.unusedSimpArgs false
set_option maxRecDepth 100000
set_option maxHeartbeats 32000000
namespace Go.Proofs.YtdhklhebgclcoaaGreatDoor
open Go.Proofs Go.Proofs.Tryz Go.RowKit
def AD(W:World)(gt m:Nat)(bC:List Int)(i:Value)(wr:World):Prop:=∃(k:Nat) (a:List Int),i=.int .i64 k/\k<=m/\a.length=m/\aC wr gt 3 (a.flatMap bE).toArray/\(∀j,j<k->eQ bC j<=eQ a j)/\aw (λ i=>i<W.heap.size/\i≠gt) W wr
theorem logcollectSuffices_walk(w W a_ H zs)(b:iY w)(c:bl rK 1 w (·<w.heap.size) W a_ H zs)(f:∀y∈zs,0<=y/\y<256):Calls Tryz.prog 5 #[.slice W a_ H] w (oK true w):=by
 obtain⟨F,L,M⟩:=cf b c f;clear b c f;go_enter func5,ntmps5;go_wp2_with fail;refine(Ap w).mono ?_;rintro e g6 ⟨rfl,b⟩;have Q:=ai b;clear b;go_wp2_with fail;refine(AA g6 (·<w.heap.size) W a_ H zs (F.o.aq Q.o) (λ i b=>cQ b Q.o.size) (L.o.aq Q.o) M.o).mono ?_;rintro e f ⟨m,cr,Y,a0,c2,eC,d1,d2,d3,dK,bv,S,rfl,hm,c,z,a2,N,n,l,p⟩;have i_:m<=3:=O;have a5:=ab.trans Q.o p;obtain⟨C,d4,g,V⟩:∃C d4,eC=.slice C m d4/\bl bE 1 f (λ i=>i<f.heap.size) C m d4 bv:=by
  have b4:bv.length=m:=by have:=n.1;rw[oR]at this;omega
  have b5:=n;rw[<-b4]at b5;obtain⟨C,d4,e,h⟩:=nS b5;rw[b4]at e h;exact⟨C,d4,e,h.more (λ i b=>b.2)⟩
 subst g;have a6:cr.length=m:=z.1.symm;have a7:cN f (·<f.heap.size) 4 (ec f (·<f.heap.size)) Y m d1 cr:=z.more (λ i b=>(c i b).1) (λ cs a h=>h.more (λ i b=>(c i b).1));have t:cN f (·<f.heap.size) 1 (fT f (·<f.heap.size)) a0 m d2 (cr.map (·.events)):=a2.more (λ i b=>(c i b).1) (λ cs a ⟨E,q,d,g,h⟩=>⟨E,q,d,g,h.more (λ i b=>(c i b).1)⟩);have R:=N.more (λ i b=>(c i b).1);have hlen:∀x∈cr.map (·.events),x.length<=100000:=λ x r=>by obtain⟨s,au,rfl⟩:=xh.1 r;have:=(l s au).2;show s.events.length<=_;omega
 have a8:∀s∈cr,s.cD.length<=1000:=λ s au=>cM ((l s au).1.cD) ((l s au).2);have a4:∀s∈cr,s.events.length<=1000000:=λ s au=>an ((l s au).2);have A:=zI f (·<f.heap.size) a0 c2 m d2 d3 (cr.map (·.events)) dK (λ i b=>b) t R O hlen;have B:=λ u (g:ab f u)=>zI u (·<f.heap.size) a0 C m d2 d4 (cr.map (·.events)) bv (λ i b=>cQ b g.size) (lF t g (λ cs a h=>wq g cs a h)) (V.aq g) O hlen;obtain⟨h_,a3⟩:=bJ (cr.map (·.events));rw[<-a3]at A B;obtain⟨P,U,X,G,a1,b1,D⟩:=dW A B a5 a7 a8 a4 a6;clear A B a5 a7 a8 a4 a6 N n V z a2 t R p c l hlen a3 F L M;go_wp2_with fail;refine P.o.mono ?_;rintro e g7 ⟨gs,bC,rfl,-,-,c,i7,t,n⟩;have f':=c.lt;obtain⟨l,L,N⟩:=cf c n t;clear c n t P;go_wp2_with fail;refine(U.o g7 L.o).mono ?_;rintro e V ⟨gt,g5,rfl,-,-,n,i8,A,c⟩;have i9:=n.lt;have F:AD V gt m bC (.int .i64 0) V:=⟨0,g5,I,ef _,A.symm,n,λ j f_=>O,aN _ _⟩;have z:=c.ay l.o f';have j1:=c.size;have j0:=L.o.size;obtain⟨t,a5,R⟩:=cf F c z;clear F c z U l n A;go_wp2_with fail;go_loopw[9] (λ i wr=>AD V gt m bC i wr) (λ i _=>m- (intOf i).toNat);case atStart=>exact t.o
 clear t;obtain⟨k,B,rfl,g,P,n,hle,A⟩:=hrel;obtain⟨u,rfl⟩:=aW (wr:World);have j2:=A.size;by_cases a4:k<m
 ·obtain⟨e4,e5,h9,h'⟩:=ea a4;have z:=A.ay R.o ⟨O,O⟩;obtain⟨x,r⟩:=bJ (B.getD k 0);obtain⟨y,c⟩:=bJ (bC.getD k 0);have M:∀J,ab u J->J.cell? ⟨gt,k,none⟩=some (.int .i64 x):=λ J g=>by rw[(g.ay n n.lt).cell,tN O,<-r]
  have t:∀J,ab u J->J.cell? ⟨gs,k,none⟩=some (.int .i64 y):=λ J g=>by rw[(g.ay z z.lt).cell,tN (by rw[<-N.o];exact a4),<-c]
  have l:eQ bC k=y:=by rw[c,wD]
  obtain⟨b0,c5,c9,g8,a2,d_,g9,g'⟩:=fl n hle A z P l r c;clear n hle A z P l r c;go_upto_region 9 with fail;refine fS 12 λ u0 l r=>?_;refine bn 0 (h:=bn 1 (h:=bn 2 (h:=bn 3 (h:=bn 4 (h:=bn 5 (h:=bn 6 (h:=bn 7 (h:=bn 8 (h:=bn 9 (h:=bn 10 (h:=?_)))))))))));generalize c:(if x<y then y else x)=U;have g0:y<=U:=by rw[<-c];split<;>omega
  clear c M t;refine bn 11 (h:=?_);have hA0:=l;refine aV 12 λ K t=>?_;have c:=l.ay b0.o b0.o.lt;refine ej I _ _ _ I gt k 3 _ (.int .i64 U) I I c (by rw[Array.size_eq_length_toList,oR];have:=a2.o;omega) Z I I ?_;intro u1 M a6;rw[<-yb]at M;refine dE t aD ?_;clear t K l r;intro r;have l:True:=aD;refine cg Z ?_
  have a3:AD V gt m bC (.int .i64 ((k:Int)+1)) u1:=⟨k+1,B.set k U,cz,O,by rw[oL];exact a2.o,M,λ j f_=>by
   rw[uY B k j U (an a2.o)]
   by_cases e:j=k
   ·subst e
    rw[di I,d_.o];exact g0
   ·rw[dg e];exact c5.o j O,bR (bR c9.o hA0 (λ i b=>O)) a6 (λ i b=>b.2)⟩
  have c3:=ai a3;clear a3 l hA0 r c M a6;go_wp2_with fail;go_roundw;case rel=>exact c3.o
  case measure=>exact bS
 obtain⟨e4,e5⟩:=eN a4;have c:k=m:=O;subst c;have b2:∀q,eQ bC q<=eQ B q:=λ q=>by
  rcases jB q k with h|h
  ·exact hle q h
  unfold eQ;rw[lH (by rw[<-N.o];exact h),lH O];exact sG _
 have c:ab f u:=bR (ab.trans L.o a5.o) A (λ i b=>⟨O,O⟩);have z:=A.ay R.o ⟨O,O⟩;have a9:=D.o;have t1:=uH u (·<u.heap.size) Y (some ⟨gt,0,none⟩) k d1 k k cr B (λ i h=>h) (lF (G.o.more (λ i b=>cQ b c.size) (λ cs a h=>h)) (aN _ _) (λ cs a h=>h)|>λ _=>(lF G.o c (λ cs a h=>h.aq c)).more (λ i b=>cQ b c.size) (λ cs a h=>h.more (λ i b=>cQ b c.size))) (uS n n.lt P O) O a1.o b1.o;have t2:=λ v (g:ab u v)=>pO v (·<u.heap.size) Y (some ⟨gs,0,none⟩) k d1 k k cr bC (λ i h=>cQ h g.size) (lF ((lF G.o c (λ cs a h=>h.aq c)).more (λ i b=>cQ b c.size) (λ cs a h=>h.more (λ i b=>cQ b c.size))) g (λ cs a h=>h.aq g)) ((uS z z.lt N.o.symm O).aq g) O a1.o b1.o;have b3:=(lF G.o c (λ cs a h=>h.aq c)).more (T:=λ i=>i<u.heap.size) (λ i b=>cQ b c.size) (λ cs a h=>h.more (λ i b=>cQ b c.size));have a':=ab.trans X.o c;obtain⟨a7,a8,c6,a3,D,a6⟩:=er t1 t2 b2 a' a9 b3;clear t1 t2 b2 a' a9 b3 z hle n A c P L a5 R N G X;go_wp2_with fail;refine a7.o.mono ?_;rintro e v1 ⟨g_,c1,h8,rfl,c,n⟩;have z:c1=k:=by rw[c.1];simp[iA];exact D.o
 subst z;obtain⟨L,G⟩:=ck c n;clear c n a7;go_wp2_with fail;refine(a8.o v1 G.o).mono ?_;rintro e v2 ⟨h5,z,lI,rfl,n,A⟩;have N:z=c1:=by rw[n.1];simp[gN];exact D.o
 subst N;have R:=lF a6.o (ab.trans G.o A) (λ cs a h=>h.aq (ab.trans G.o A));have X:=lF L.o (A.mono (λ i b=>b.2)) (λ cs a h=>h.aq (A.mono (λ i b=>b.2)));have P:=ab.trans a3.o (ab.trans G.o A);have N:=cE (vv z v2 (.int .i64 0) v2) (⟨0,0,ef _,I,I⟩);obtain⟨c7,c8,d',c4⟩:=cH n R X P;clear n R X P a8 L a6 G A a3;have q1:((z:Int)!=(z:Int))=false:=aT;go_wp2_with fail;go_loopw[12] (λ i wr=>vv z v2 i wr) (λ i _=>z- (intOf i).toNat);case atStart=>exact N.o
 clear N;obtain⟨cc,R,i',rfl,rfl⟩:=hrel;by_cases p:cc<z
 ·obtain⟨f1,f2,f3,f4⟩:=ea p;obtain⟨e1,g1,h6,rx,rfl,e7,c,⟨X,a',a3,rfl,a9⟩,-,b7⟩:=d'.o.at_ p;obtain⟨oT,g4,h7,A,rfl,e8,n,⟨G,P,L,rfl,N⟩,-,b8⟩:=c7.o.at_ p;obtain⟨e0,os,bq,bg,bp,bu,p1,j3,p2,q2,aK,aI,aR,aQ,st,rfl,e6,F,-,a6,b6⟩:=c8.o.lu p;have b9:rx=hM cr B cc:=by unfold iA at c;rw[gU,Dd (by rw[D.o];exact p)]at c;simpa using c.symm
  have a5:A=gq cr bC cc:=by unfold gN at n;rw[gU,Dd (by rw[D.o];exact p)]at n;simpa using n.symm
  have a7:List.Sublist rx A:=by rw[b9,a5];exact(Hg cr B cc).trans (DZ c6.o cc)
  have a8:List.Sublist A st.cD:=by rw[a5];exact Mp F
  have e_:=a1.o st (eo F);have e9:=a8.length_le;have M:=a7.length_le;have b_:∀j,Calls Tryz.prog 16 #[.slice X a' a3,.slice G P L] (v2.drewN j) (qx (List.Sublist rx A) (v2.drewN j)):=λ j=>zO (v2.drewN j) _ _ X G a' P a3 L rx A (a9.aq ((aN _ _).drewN j)) (N.aq ((aN _ _).drewN j)) (by rw[a9.1];omega) (by rw[N.1];omega);have c0:∀j,Calls Tryz.prog 16 #[.slice G P L,.slice bp aK aI] (v2.drewN j) (qx (List.Sublist A st.cD) (v2.drewN j)):=λ j=>zO (v2.drewN j) _ _ G bp P aK L aI A st.cD (N.aq ((aN _ _).drewN j)) (a6.aq ((aN _ _).drewN j)) (by rw[N.1];omega) (by rw[a6.1];omega);have e2:∀J,(∃j,J=v2.drewN j)->J.cell? ⟨e1,g1+cc,none⟩=some (.slice X a' a3):=λ J ⟨j,e⟩=>by rw[e];have:=b7 0 _ I;simpa using this
  have H:∀J,(∃j,J=v2.drewN j)->J.cell? ⟨oT,g4+cc,none⟩=some (.slice G P L):=λ J ⟨j,e⟩=>by rw[e];have:=b8 0 _ I;simpa using this
  have e3:∀J,(∃j,J=v2.drewN j)->J.cell? ⟨e0,os+cc*4+2,none⟩=some (.slice bp aK aI):=λ J ⟨j,e⟩=>by rw[e];exact b6 2 _ I
  obtain⟨b2,b3,c_,d9⟩:=cH b_ c0 a7 a8;clear b_ c0 a7 a8 a9 N a6 b7 b8 b6 c n b9 a5 F e7 e8 e6 M e9 e_;go_upto_region 16 with fail;refine eE 99 (λ _=>True) (λ J=>∃j,J=v2.drewN j) Z aD ⟨R+1,I⟩ (λ _ r=>?_);have l:True:=aD;refine ag 0 (h:=ag 1 (h:=ag 2 (h:=ag 3 (h:=ag 4 (h:=ag 5 (h:=ag 6 (h:=ag 7 (h:=?_))))))));refine aV 8 λ K t=>?_;go_simp;refine(b2.o (R+1)).mono ?_;rintro e u1 ⟨a8,M,rfl,a6,rfl⟩;obtain rfl:a8=true:=M.2 c_.o;have c:∃j,(v2.drewN (R+1)).drewN a6=v2.drewN j:=⟨_,vo _ _ _⟩;refine aZ t aD c ?_;clear t K l r;intro l r;refine ag 9 (h:=ag 10 (h:=ag 11 (h:=ag 12 (h:=ag 13 (h:=ag 14 (h:=ag 15 (h:=ag 16 (h:=ag 17 (h:=ag 18 (h:=ag 19 (h:=?_)))))))))));obtain⟨a5,F⟩:=c;rw[F];refine aV 20 λ K t=>?_;go_simp;refine(b3.o a5).mono ?_;rintro e u2 ⟨a9,N,rfl,a7,rfl⟩;obtain rfl:a9=true:=N.2 d9.o;have n:∃j,(v2.drewN a5).drewN a7=v2.drewN j:=⟨_,vo _ _ _⟩;refine aZ t aD n ?_;clear t K l r;intro l r;refine ag 21 (h:=ag 22 (h:=?_));refine cg Z ?_;obtain⟨b6,t⟩:=n;rw[t];clear e2 H e3 F t r l M N b2 b3;go_wp2_with fail;go_roundw;case rel=>exact⟨cc+1,_,O,cz,I⟩
  case measure=>exact bS
 obtain⟨f1,f2⟩:=eN p;have l:=ab.trans c4.o (ab.DT (w:=v2) (k:=R) I);have r:=ai l;clear l;go_wp2_with fail;go_ret;exact⟨I,r.o⟩
end Go.Proofs.YtdhklhebgclcoaaGreatDoor
