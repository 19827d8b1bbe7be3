import Derived.Test.YtdhklhebgclcoaaGreatDoorM8
set_option linter.unusedVariables false
set_option linter.unusedSimpArgs false
set_option maxRecDepth 100000
set_option maxHeartbeats 32000000
namespace Go.Proofs.YtdhklhebgclcoaaGreatDoor
open Go.Proofs Go.Proofs.Tryz Go.RowKit
structure oC where
 kind:Int
 proc:Int
 place:Int
 val:Int
def eU(x:oC):List Value:=[.int .i64 x.kind,.int .i64 x.proc,.int .i64 x.place,.int .i64 x.val]
theorem Lb(x):(eU x).length=4:=I
theorem MO(x):∀u∈eU x,u.oneCell'=true:=by intro u hu;simp[eU]at hu;rcases hu with h|h|h|h<;>subst h<;>rfl
def Ke(B:Nat->Prop)(gc:Nat)(w:World)(e:Ending)(ae:World):Prop:=∃x:oC,e=.returned (.agg (eU x).toArray)/\(∃dj,eG ae B gc dj)/\cX gc w ae
theorem ya(a b):Tryz.prog.built 94 [(0,.int .i64 a),(2,.int .i64 b)]=some (eU ⟨a,0,b,0⟩).toArray:=Z
theorem xP(a b c):Tryz.prog.built 94 [(0,.int .i64 a),(1,.int .i64 b),(3,.int .i64 c)]=some (eU ⟨a,b,0,c⟩).toArray:=Z
theorem tG(a b):Tryz.prog.built 94 [(0,.int .i64 a),(1,.int .i64 b)]=some (eU ⟨a,b,0,0⟩).toArray:=Z
theorem Ag(a):Tryz.prog.built 94 [(0,.int .i64 a)]=some (eU ⟨a,0,0,0⟩).toArray:=Z
theorem II(a b c d):Tryz.prog.built 94 [(0,.int .i64 a),(1,.int .i64 b),(2,.int .i64 c),(3,.int .i64 d)]=some (eU ⟨a,b,c,d⟩).toArray:=Z
theorem EU(w B)(gc r n:Nat)(a:eG w B gc r)(b6:1<=n)(b7:n<=1000):Calls Tryz.prog 35 #[.pointer (some ⟨gc,0,none⟩),n] w (Ke B gc w):=by
 have q:=a.2.1;have E:=a.lt;generalize d:w.alloc (.cells Pw 94)=W;have i:ab w W:=d▸cx w _;have f:aC W w.heap.size 94 Pw:=d▸cu w _ _;have t:=a.aq i;have A:=i.only gc;obtain⟨b,g⟩:=bJ w.heap.size;rw[<-g]at f;have z:b≠gc:=O;have C:w.heap.size<=b:=O;have y:¬B b:=λ h=>an (q b h);obtain⟨c,l,m,D,u,s⟩:=er f t A z C y;clear f t A z C y a q i;go_enter func35,ntmps35;go_upto_region 1 with fail;clear d;rw[<-g];clear g E;go_wp2_with fail;refine(gx W B gc r n l.o O O).mono ?_;rintro e b1 ⟨p,b8,b9,rfl,q,d⟩;have g:=d.ay c.o ⟨c.o.lt,D.o⟩;have t:=dM m.o d;obtain⟨f,a,i⟩:=cf q g t;clear q g t d l c m;go_wp2_with fail;refine(gx b1 B gc _ 48 f.o O O).mono ?_;rintro e E ⟨k,b4,b5,rfl,l,c⟩;have d:=c.ay a.o ⟨a.o.lt,D.o⟩;have m:=dM i.o c;obtain⟨q,g,t⟩:=cf l d m;clear l d m c f a i;by_cases M:k<16
 ·have t16:=ey M;go_wp2_with fail;refine(gx E B gc _ 4 q.o O O).mono ?_;rintro e F ⟨x,G,H,rfl,l,f⟩;have i:=f.ay g.o ⟨g.o.lt,D.o⟩;have m:=dM t.o f;obtain⟨A,y,C⟩:=cf l i m;clear l i m f;go_wp2_with(first|(refine fW I 94 _ I _ [(0,.int .i64 1),(2,.int .i64 x)] I (ya _ _) ?_)|(refine db I _ (.tmp 4) (.tmp 17) I b 94 _ (eU ⟨1,0,x,0⟩) I I y.o I Z I ?_;intro z c a));refine dS (gP we _ _ _ ⟨b,0,none⟩ _ I (ez (eU ⟨1,0,x,0⟩) _ c (λ j v d=>ax d) yP I Z)) I ?_;exact⟨_,I,⟨_,A.o.write a s.o⟩,mA C.o a u.o⟩
 have t16:=ep M;by_cases N:k<24
 ·have t24:=ey N;go_wp2_with fail;refine(gx E B gc _ 9 q.o O O).mono ?_;rintro e F ⟨x,G,H,rfl,l,f⟩;have i:=f.ay g.o ⟨g.o.lt,D.o⟩;have m:=dM t.o f;obtain⟨A,y,C⟩:=cf l i m;clear l i m f;go_wp2_with(first|(refine fW I 94 _ I _ [(0,.int .i64 2),(1,.int .i64 p),(3,.int .i64 (x-2))] I (xP _ _ _) ?_)|(refine db I _ (.tmp 4) (.tmp 25) I b 94 _ (eU ⟨2,p,0,x-2⟩) I I y.o I Z I ?_;intro z c a));refine dS (gP we _ _ _ ⟨b,0,none⟩ _ I (ez (eU ⟨2,p,0,x-2⟩) _ c (λ j v d=>ax d) yP I Z)) I ?_;exact⟨_,I,⟨_,A.o.write a s.o⟩,mA C.o a u.o⟩
 have t24:=ep N;by_cases P:k<26
 ·have t26:=ey P;go_wp2_with fail;refine(tX E B gc _ q.o).mono ?_;rintro e F ⟨x,-,rfl,⟨_,-,l⟩,f⟩;have i:=f.ay g.o ⟨g.o.lt,D.o⟩;have m:=dM t.o f;obtain⟨A,y,C⟩:=cf l i m;clear l i m f;go_wp2_with(first|(refine fW I 94 _ I _ [(0,.int .i64 3),(1,.int .i64 p),(3,.int .i64 x)] I (xP _ _ _) ?_)|(refine db I _ (.tmp 4) (.tmp 32) I b 94 _ (eU ⟨3,p,0,x⟩) I I y.o I Z I ?_;intro z c a));refine dS (gP we _ _ _ ⟨b,0,none⟩ _ I (ez (eU ⟨3,p,0,x⟩) _ c (λ j v d=>ax d) yP I Z)) I ?_;exact⟨_,I,⟨_,A.o.write a s.o⟩,mA C.o a u.o⟩
 have t26:=ep P;by_cases Q:k<27
 ·have t27:=ey Q;go_wp2_with fail;refine(gx E B gc _ 3 q.o O O).mono ?_;rintro e F ⟨x,G,H,rfl,l,f⟩;have i:=f.ay g.o ⟨g.o.lt,D.o⟩;have m:=dM t.o f;obtain⟨A,y,C⟩:=cf l i m;clear l i m f;go_wp2_with(first|(refine fW I 94 _ I _ [(0,.int .i64 4),(2,.int .i64 x)] I (ya _ _) ?_)|(refine db I _ (.tmp 4) (.tmp 38) I b 94 _ (eU ⟨4,0,x,0⟩) I I y.o I Z I ?_;intro z c a));refine dS (gP we _ _ _ ⟨b,0,none⟩ _ I (ez (eU ⟨4,0,x,0⟩) _ c (λ j v d=>ax d) yP I Z)) I ?_;exact⟨_,I,⟨_,A.o.write a s.o⟩,mA C.o a u.o⟩
 have t27:=ep Q;by_cases R:k<28
 ·have t28:=ey R;go_wp2_with fail;refine(gx E B gc _ 3 q.o O O).mono ?_;rintro e F ⟨x,G,H,rfl,l,f⟩;have i:=f.ay g.o ⟨g.o.lt,D.o⟩;have m:=dM t.o f;obtain⟨A,y,C⟩:=cf l i m;clear l i m f;go_wp2_with(first|(refine fW I 94 _ I _ [(0,.int .i64 5),(2,.int .i64 x)] I (ya _ _) ?_)|(refine db I _ (.tmp 4) (.tmp 44) I b 94 _ (eU ⟨5,0,x,0⟩) I I y.o I Z I ?_;intro z c a));refine dS (gP we _ _ _ ⟨b,0,none⟩ _ I (ez (eU ⟨5,0,x,0⟩) _ c (λ j v d=>ax d) yP I Z)) I ?_;exact⟨_,I,⟨_,A.o.write a s.o⟩,mA C.o a u.o⟩
 have t28:=ep R;by_cases S:k<30
 ·have t30:=ey S;go_wp2_with(first|(refine fW I 94 _ I _ [(0,.int .i64 6),(1,.int .i64 p)] I (tG _ _) ?_)|(refine db I _ (.tmp 4) (.tmp 49) I b 94 _ (eU ⟨6,p,0,0⟩) I I g.o I Z I ?_;intro z c a));refine dS (gP we _ _ _ ⟨b,0,none⟩ _ I (ez (eU ⟨6,p,0,0⟩) _ c (λ j v d=>ax d) yP I Z)) I ?_;exact⟨_,I,⟨_,q.o.write a s.o⟩,mA t.o a u.o⟩
 have t30:=ep S;by_cases T:k<33
 ·have t33:=ey T;go_wp2_with(first|(refine fW I 94 _ I _ [(0,.int .i64 7),(1,.int .i64 p)] I (tG _ _) ?_)|(refine db I _ (.tmp 4) (.tmp 54) I b 94 _ (eU ⟨7,p,0,0⟩) I I g.o I Z I ?_;intro z c a));refine dS (gP we _ _ _ ⟨b,0,none⟩ _ I (ez (eU ⟨7,p,0,0⟩) _ c (λ j v d=>ax d) yP I Z)) I ?_;exact⟨_,I,⟨_,q.o.write a s.o⟩,mA t.o a u.o⟩
 have t33:=ep T;by_cases U:k<35
 ·have t35:=ey U;go_wp2_with(first|(refine fW I 94 _ I _ [(0,.int .i64 8),(1,.int .i64 p)] I (tG _ _) ?_)|(refine db I _ (.tmp 4) (.tmp 59) I b 94 _ (eU ⟨8,p,0,0⟩) I I g.o I Z I ?_;intro z c a));refine dS (gP we _ _ _ ⟨b,0,none⟩ _ I (ez (eU ⟨8,p,0,0⟩) _ c (λ j v d=>ax d) yP I Z)) I ?_;exact⟨_,I,⟨_,q.o.write a s.o⟩,mA t.o a u.o⟩
 have t35:=ep U;by_cases V:k<38
 ·have t38:=ey V;go_wp2_with(first|(refine fW I 94 _ I _ [(0,.int .i64 9),(1,.int .i64 p)] I (tG _ _) ?_)|(refine db I _ (.tmp 4) (.tmp 64) I b 94 _ (eU ⟨9,p,0,0⟩) I I g.o I Z I ?_;intro z c a));refine dS (gP we _ _ _ ⟨b,0,none⟩ _ I (ez (eU ⟨9,p,0,0⟩) _ c (λ j v d=>ax d) yP I Z)) I ?_;exact⟨_,I,⟨_,q.o.write a s.o⟩,mA t.o a u.o⟩
 have t38:=ep V;by_cases X:k<40
 ·have t40:=ey X;go_wp2_with fail;refine(gx E B gc _ 4 q.o O O).mono ?_;rintro e F ⟨x,G,H,rfl,l,f⟩;have i:=f.ay g.o ⟨g.o.lt,D.o⟩;have m:=dM t.o f;obtain⟨A,y,C⟩:=cf l i m;clear l i m f;go_wp2_with(first|(refine fW I 94 _ I _ [(0,.int .i64 10),(1,.int .i64 p),(3,.int .i64 (x-1))] I (xP _ _ _) ?_)|(refine db I _ (.tmp 4) (.tmp 72) I b 94 _ (eU ⟨10,p,0,x-1⟩) I I y.o I Z I ?_;intro z c a));refine dS (gP we _ _ _ ⟨b,0,none⟩ _ I (ez (eU ⟨10,p,0,x-1⟩) _ c (λ j v d=>ax d) yP I Z)) I ?_;exact⟨_,I,⟨_,A.o.write a s.o⟩,mA C.o a u.o⟩
 have t40:=ep X;by_cases Y:k<42
 ·have t42:=ey Y;go_wp2_with(first|(refine fW I 94 _ I _ [(0,.int .i64 11)] I (Ag _) ?_)|(refine db I _ (.tmp 4) (.tmp 76) I b 94 _ (eU ⟨11,0,0,0⟩) I I g.o I Z I ?_;intro z c a));refine dS (gP we _ _ _ ⟨b,0,none⟩ _ I (ez (eU ⟨11,0,0,0⟩) _ c (λ j v d=>ax d) yP I Z)) I ?_;exact⟨_,I,⟨_,q.o.write a s.o⟩,mA t.o a u.o⟩
 have t42:=ep Y;by_cases a0:k<45
 ·have t45:=ey a0;go_wp2_with(first|(refine fW I 94 _ I _ [(0,.int .i64 12),(1,.int .i64 p)] I (tG _ _) ?_)|(refine db I _ (.tmp 4) (.tmp 81) I b 94 _ (eU ⟨12,p,0,0⟩) I I g.o I Z I ?_;intro z c a));refine dS (gP we _ _ _ ⟨b,0,none⟩ _ I (ez (eU ⟨12,p,0,0⟩) _ c (λ j v d=>ax d) yP I Z)) I ?_;exact⟨_,I,⟨_,q.o.write a s.o⟩,mA t.o a u.o⟩
 have t45:=ep a0;by_cases a1:k<46
 ·have t46:=ey a1;go_wp2_with(first|(refine fW I 94 _ I _ [(0,.int .i64 13)] I (Ag _) ?_)|(refine db I _ (.tmp 4) (.tmp 85) I b 94 _ (eU ⟨13,0,0,0⟩) I I g.o I Z I ?_;intro z c a));refine dS (gP we _ _ _ ⟨b,0,none⟩ _ I (ez (eU ⟨13,0,0,0⟩) _ c (λ j v d=>ax d) yP I Z)) I ?_;exact⟨_,I,⟨_,q.o.write a s.o⟩,mA t.o a u.o⟩
 have t46:=ep a1;by_cases a2:k<47
 ·have t47:=ey a2;go_wp2_with(first|(refine fW I 94 _ I _ [(0,.int .i64 14)] I (Ag _) ?_)|(refine db I _ (.tmp 4) (.tmp 89) I b 94 _ (eU ⟨14,0,0,0⟩) I I g.o I Z I ?_;intro z c a));refine dS (gP we _ _ _ ⟨b,0,none⟩ _ I (ez (eU ⟨14,0,0,0⟩) _ c (λ j v d=>ax d) yP I Z)) I ?_;exact⟨_,I,⟨_,q.o.write a s.o⟩,mA t.o a u.o⟩
 have t47:=ep a2;go_wp2_with fail;refine(tX E B gc _ q.o).mono ?_;rintro e F ⟨x,-,rfl,⟨_,-,l⟩,f⟩;have i:=f.ay g.o ⟨g.o.lt,D.o⟩;have m:=dM t.o f;obtain⟨A,y,C⟩:=cf l i m;clear l i m f;go_wp2_with fail;refine(tX F B gc _ A.o).mono ?_;rintro e b2 ⟨i,-,rfl,⟨_,-,m⟩,f⟩;have l:=f.ay y.o ⟨y.o.lt,D.o⟩;have L:=dM C.o f;obtain⟨a7,K,a'⟩:=cf m l L;clear m l L f;go_wp2_with fail;refine(tX b2 B gc _ a7.o).mono ?_;rintro e b3 ⟨l,-,rfl,⟨_,-,a3⟩,f⟩;have m:=f.ay K.o ⟨K.o.lt,D.o⟩;have a4:=dM a'.o f;obtain⟨a8,L,a_⟩:=cf a3 m a4;clear a3 m a4 f;go_wp2_with fail;refine(tX b3 B gc _ a8.o).mono ?_;rintro e b_ ⟨m,-,rfl,⟨_,-,a4⟩,f⟩;have a3:=f.ay L.o ⟨L.o.lt,D.o⟩;have a5:=dM a_.o f;obtain⟨a9,a6,b0⟩:=cf a4 a3 a5;clear a4 a3 a5 f;go_wp2_with(first|(refine fW I 94 _ I _ [(0,.int .i64 x),(1,.int .i64 i),(2,.int .i64 l),(3,.int .i64 m)] I (II _ _ _ _) ?_)|(refine db I _ (.tmp 4) (.tmp 98) I b 94 _ (eU ⟨x,i,l,m⟩) I I a6.o I Z I ?_;intro z c a));refine dS (gP we _ _ _ ⟨b,0,none⟩ _ I (ez (eU ⟨x,i,l,m⟩) _ c (λ j v d=>ax d) yP I Z)) I ?_;exact⟨_,I,⟨_,a9.o.write a s.o⟩,mA b0.o a u.o⟩
def CA:Value->Nat
 |.slice _ n _=>n
 |_=>0
def sL(B:Nat->Prop)(gc:Nat)(w:World)(e:Ending)(ae:World):Prop:=∃(l:List oC) (A:Option Addr) (c:Nat),l.length<=40/\e=.returned (.slice A l.length c)/\bl eU 4 ae (cP ae w.heap.size) A l.length c l/\(∃dj,eG ae B gc dj)/\cX gc w ae
def yA(B:Nat->Prop)(gc:Nat)(w:World)(v:Value)(wr:World):Prop:=∃l:List oC,l.length<=40/\wr.ownsRow w.heap.size 94 4 v l.length (l.flatMap eU)/\(∃dj,eG wr B gc dj)/\cX gc w wr
theorem Hn:gQ Tryz.prog 67 94 4 32:=vW (z:=.agg Pw) underlying67 Z
theorem Ma(x):fc Tryz.prog 94 1 [(0,.agg (eU x).toArray)]=some (eU x).toArray:=Z
theorem Jj(w B)(gc r n:Nat)(a:eG w B gc r)(S:1<=n)(T:n<=1000):Calls Tryz.prog 22 #[.pointer (some ⟨gc,0,none⟩),n,.int .i64 40] w (sL B gc w):=by
 have d:=a.2.1;have a1:=a.lt;have b:=cE (yA B gc w (.slice none 0 0) w) (⟨[],ef _,ee _ _ _ _,⟨r,a⟩,aN _ _⟩);have F:=ai d;clear d a;go_enter func22,ntmps22;go_wp2_with fail;go_loopw[7] (λ v wr=>yA B gc w v wr) (λ v _=>40-CA v);case atStart=>exact b.o
 clear b;obtain⟨l,R,b,⟨j,av⟩,d⟩:=hrel;obtain⟨g,rfl⟩:=aW (wr:World);obtain⟨A,c,rfl,-,-⟩:=dZ b;obtain⟨m,hm⟩:=bJ l.length;rw[<-hm]at R b⊢;have hle:=Ct g B gc j av;obtain⟨U,p⟩:=bJ (decide (0<j));rw[<-p]at hle;have k:sL B gc w (.returned (.slice A m c)) g:=by have E:=b;rw[hm]at E⊢;obtain⟨bf,bc,e,au⟩:=nS E;injection e with a _ f;subst a f;exact⟨l,A,c,O,I,au,⟨j,av⟩,d⟩
 have q:=EU;have f:∀J,ab g J->sL B gc w (.returned (.slice A m c)) J:=λ J h=>by obtain⟨l,A,c,h1,h2,aA,⟨dj,aS⟩,Q⟩:=k;exact⟨l,A,c,h1,h2,(aA.aq (h.mono (λ i a=>a.2))).more (λ i a=>⟨a.1,cQ a.2 h.size⟩),⟨dj,aS.aq h⟩,oJ Q h⟩
 obtain⟨K,u,N,G,L,y⟩:=er hle f b av d hm;clear hle f b av d hm q k p;by_cases z:m<40
 ·have d1:decide ((m:Int)<40)=true:=ey O;have d2:decide (m<40)=true:=ey z;go_wp2_with fail;refine(K.o).mono ?_;rintro e s ⟨rfl,a2,b⟩;have d:ab g s:=b▸ek _ _;clear b;cases U with
  |false=>have b:=u.o s d;have f:=ai b;clear b d;go_wp2_with fail;go_ret;exact f.o
  |true=>
   have k:=G.o.aq d;have p:=EU s B gc j n k S T;have q:=oJ L.o d;have t:=dy N.o d (λ i a=>a.2);obtain⟨H,M,P⟩:=cf p q t;clear p q t k d d1 d2;go_wp2_with fail;refine(H.o).mono ?_;rintro e a3 ⟨x,rfl,⟨V,q⟩,d⟩;have C:=dM M.o d;have D:=dy P.o d (λ i a=>⟨a.2,λ e=>an a.1⟩);obtain⟨t,Y,k,p⟩:=cH q d C D;clear q d C D;go_wp2_with(refine nM (W:=w) (size:=4) Hn (.tmp 20) (.tmp 16) (0,.tmp 19) k.o.size p.o (Ma x) I (MO x) O O ?_;intro D X d q C;refine jo ?_);refine ai ?_
   have b:yA B gc w D X:=⟨l++[x],by rw[gp,<-y.o];simp;omega,by
    have:=d
    rw[y.o]at this
    simpa using this,⟨V,t.o.same (q.mono (λ i a=>⟨t.o.2.1 i a,λ e=>by have h1:=(p.o.lt i e).1;have h2:=F.o i a;omega⟩))⟩,bR k.o q (λ i a=>⟨cQ a.1 k.o.size,λ e=>by have h1:=(p.o.lt i e).1;have:=a.1;omega⟩)⟩
   obtain⟨a,a0,rfl,-,-⟩:=dZ d;have f:=ai b;clear b d q C;go_wp2_with fail;go_roundw;case rel=>exact f.o
   case measure=>simp[CA];omega
 have d1:decide ((m:Int)<40)=false:=ep O;have d2:decide (m<40)=false:=ep z;have b:=u.o g (aN _ _);have f:=ai b;clear b;go_wp2_with fail;go_ret;exact f.o
end Go.Proofs.YtdhklhebgclcoaaGreatDoor
