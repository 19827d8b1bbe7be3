import Derived.Test.YtdhklhebgclcoaaGreatDoorM1
set_option linter.unusedVariables false
set_option linter.unusedSimpArgs false
set_option maxRecDepth 100000
set_option maxHeartbeats 32000000
namespace Go.Proofs.YtdhklhebgclcoaaGreatDoor
open Go.Proofs Go.Proofs.Tryz Go.RowKit
theorem Iy{a b:kX}(h:¬a=b):a.proc=b.proc->a.inc=b.inc->¬a.idx=b.idx:=λ h1 h2 aA=>h (by
 obtain⟨p,i,x⟩:=a
 obtain⟨d,c,cl⟩:=b
 simp only at h1 h2 aA
 subst h1 h2 aA
 rfl)
def rp(m:Nat)(w:World)(e:Ending)(ae:World):Prop:=∃r:List kX,r.length<=m/\jU fL 3 r w e ae
def Bk(m:Nat)(W w:World)(v i:Value)(wr:World):Prop:=∃(k:Nat) (out:List kX),i=.int .i64 k/\k<=m/\out.length<=k/\wr.ownsRow w.heap.size 219 3 v out.length (out.flatMap fL)/\ab W wr
def Cp(n:Nat)(W:World)(v i:Value)(wr:World):Prop:=∃(k:Nat) (b:Bool),v=.bool b/\i=.int .i64 k/\k<=n/\ab W wr
def JJ(W:World)(v:Value)(J:World):Prop:=∃b:Bool,v=.bool b/\ab W J
def tO(n:Nat)(W:World)(v:Value)(wr:World):Prop:=∃m:Nat,v=.int .i64 m/\m<=n/\ab W wr
theorem GI(w S A B G c9 L c_ a b)(j6:∀i,S i->i<w.heap.size)(e0:bl fL 3 w S A G c9 a)(e2:bl fL 3 w S B L c_ b)(x8:G<=100000)(x9:L<=100000):Calls Tryz.prog 146 #[.slice A G c9,.slice B L c_] w (rp (G+L) w):=by
 obtain⟨i0,m0,o4,o5,o6⟩:=eO Gy;have m_:=e0.1;have n0:=e2.1;obtain⟨c5,c6,c7,c8,o',o_,q7,q8,r1⟩:=df m0 o4 o5 o6 e0 e2 m_ n0 j6;clear m0 o4 o5 o6 e0 e2 m_ n0 j6;go_enter func146,ntmps146;go_upto_region 2 with(first|(at_builtin;refine fe _ rfl (.const (.slice none 0 0)) (.tmp 12) 59 rfl w.heap.size 219 i0 _ 3 24 underlying59 c5.o c6.o c7.o c8.o rfl O (.slice none 0 0) 0 [] rfl (World.ownsRow_nil _ _ _ _) S A G c9 (a.flatMap fL) rfl o'.o.2.2.2 (mi xG _) dQ O (Nat.le_refl _) ?_;intro v1 w7 V l8 s5;refine Hi.o ?_));rw[qu,Nat.zero_add]at V;have H:ab w w7:=fh (aN _ _) (ee w w.heap.size 219 3) l8 (λ i d=>d) (Nat.le_refl _);have w2:=H.size;refine ai ?_;have T:=o_.o.aq (H.mono r1.o);go_upto_region 2 with(first|(at_builtin;refine fe _ rfl (.tmp 13) (.tmp 14) 59 rfl w.heap.size 219 i0 _ 3 24 underlying59 c5.o c6.o c7.o c8.o rfl O v1 G (a.flatMap fL) rfl V S B L c_ (b.flatMap fL) rfl T.2.2.2 (mi xG _) dQ O O ?_;intro v2 s g5 l9 s6;refine Hi.o ?_));have b9:ab w s:=fh H V l9 (λ i d=>d) O;have y6:=b9.size;refine ai ?_;obtain⟨c3,a0,rfl,m',k6⟩:=dZ g5;obtain⟨i_,e1⟩:=aW (a++b);have j8:i_.length=G+L:=by rw[e1,gp];have:=q7.o;have:=q8.o;omega
 have g7:bl fL 3 s (λ i=>w.heap.size<=i/\i<s.heap.size) c3 (G+L) a0 i_:=⟨j8.symm,m',k6,by rw[e1,hJ];exact lX g5⟩;have y2:w.heap.size<=s.heap.size:=b9.size;obtain⟨N,b6⟩:=aW (G+L);have x0:N<=200000:=O;rw[<-b6]at g7;have l6:(.slice c3 (G+L) a0:Value)=.slice c3 N a0:=by rw[b6]
 rw[l6];obtain⟨p9,i',q6⟩:=cf b9 g7 b6;clear b9 g7 b6 V g5 l8 l9 s5 s6 H T e1 j8 m' k6 l6;go_wp2_with fail;go_loopw[6,7] (λ v i wr=>Bk N s s v i wr) (λ _ i _=>N- (intOf i).toNat);case atStart=>exact⟨0,[],I,Nat.zero_le _,Nat.le_refl _,ee _ _ _ _,aN _ _⟩
 obtain⟨k,out,rfl,x5,v8,P,r⟩:=hrel;obtain⟨a7,a8,rfl,-,-⟩:=dZ P;obtain⟨c,U⟩:=aW out.length;rw[<-U]at P v8⊢;have z1:=r.size;by_cases f_:k<N
 ·obtain⟨M,R,e,rfl,x1,he,k7⟩:=(i'.o.aq (r.mono (λ i d=>d.2))).at_ qf f_;have t0:decide ((k:Int)<(N:Int))=true:=aY;have h5:decide (k<N)=true:=ax f_;have z2:(0:Int)<=k:=O;have z3:(k:Int)<(N:Int):=O;have j7:∀g,(Value.slice a7 c a8).ownBlock=some g->g<wr.heap.size:=λ g s'=>(P.lt g s').2;obtain⟨c2,rfl⟩:=aW (wr:World);have x4:c<=200000:=O;have r0:=cE (c2.rangeAt M (R+k*3) [e.proc,e.inc,e.idx]) (λ j u hu=>k7 j u hu);obtain⟨q',h7,Y,r4⟩:=cH P r U j7;clear P r U j7 k7 he;go_upto_region 7 with(first|(refine gK rfl _ (.tmp 24) rfl M (R+k*3) [e.proc,e.inc,e.idx] _ rfl r0.o underlying219 rfl Z ?_)|(refine db rfl _ (.tmp 8) (.tmp 25) rfl c2.heap.size 219 _ [e.proc,e.inc,e.idx] rfl rfl (aC.new _ _ _) rfl Z rfl ?_;intro u1 T n_));have H:ab c2 u1:=zv (cx _ _) n_ (Nat.le_refl _);clear n_;have w2:=H.size;have z9:=T.lt;obtain⟨E,l_⟩:=aW c2.heap.size;rw[<-l_]at T⊢;have n6:(Value.slice a7 c a8).ownBlock≠some E:=λ e=>an (r4.o E e);have V:=dy q'.o H (λ i d=>d.2);have m4:=aM h7.o H;clear l_;obtain⟨b1,i7,q_,p_,p8⟩:=dC T n6 V m4 H;clear T n6 V m4 H;(try simp only[Act.put]);go_upto_region 7 with fail;go_cut[9]from 26 to 27 (λ v J=>v=.bool true/\u1=J);case first=>go_wp2_with fail;go_meet;exact⟨I,I⟩
  rename_i r_;obtain⟨rfl,rfl⟩:=hcut;refine r_ _ _ (wp_seq_k (λ r5 r9=>?_));go_cut[9]from 26 to 58 (λ v J=>JJ u1 v J);case first=>
   go_wp2_with fail;go_loopw[9,10] (λ v i wr=>Cp N u1 v i wr) (λ _ i _=>N- (intOf i).toNat);case atStart=>exact⟨0,true,I,I,Nat.zero_le _,aN _ _⟩
   obtain⟨j,b5,rfl,rfl,x3,a5⟩:=hrel;have z0:=a5.size;by_cases f':j<N
   ·obtain⟨w_,z',x,j5,x2,w1,k9⟩:=(i'.o.aq ((aM h7.o (aM p8.o a5)).mono (λ i d=>d.2))).at_ qf f';simp only[Option.some.injEq,Addr.mk.injEq,and_true]at j5;obtain⟨rfl,rfl⟩:=j5;have t1:decide ((j:Int)<(N:Int))=true:=aY;have w6:decide (j<N)=true:=ax f';have w3:(0:Int)<=j:=O;have w4:(j:Int)<(N:Int):=O;have n':∀J,ab wr J->J.rangeAt M (R+j*3) [x.proc,x.inc,x.idx]:=λ J hw i u hu=>by rw[hw.cell (p:=⟨M,R+j*3+i,none⟩) (by show M<_;omega)];exact k9 i u hu
    have n8:∀J,ab wr J->J.rangeAt E 0 [e.proc,e.inc,e.idx]:=λ J hw i u hu=>by rw[((aM a5 hw).ay b1.o b1.o.lt).cell,Nat.zero_add,fg];exact hu
    have F:∀(b:Bool) J,ab wr J->Cp N u1 (.bool b) (.int .i64 ((j:Int)+1)) J:=λ b J hw=>⟨j+1,b,I,cz,O,aM a5 hw⟩;obtain⟨b4,b3,z⟩:=cf n' n8 F;clear n' n8 F k9 w1 a5;go_upto_region 11 with fail;refine fy λ u0 y a4=>?_;refine ag 0 (h:=ag 1 (h:=ag 2 (h:=?_)));refine cK 3 I (dw ba _ _ I M (R+j*3) I [x.proc,x.inc,x.idx] _ (λ J hw=>b4.o J hw) kx I Z) ?_;refine cK 4 I (dw ba _ _ I E 0 I [e.proc,e.inc,e.idx] _ (λ J hw=>b3.o J hw) kx I Z) ?_;by_cases Q:x=e
    ·rw[Q];refine cK 5 I (gR ba (.bool false) (λ J _=>by go_simp)) ?_;refine ag 6 (h:=?_);refine bU 7 (h:=bU 8 (h:=bU 9 (h:=bU 10 (h:=bU 11 (h:=bU 12 (h:=?_))))));refine ag 13 (h:=ag 14 (h:=ag 15 (h:=ag 16 (h:=?_))));by_cases a_:j<k
     ·have t2:decide ((j:Int)<(k:Int))=true:=aY;have h6:decide (j<k)=true:=ax a_;refine ag 17 (h:=ag 18 (h:=ag 19 (h:=ag 20 (h:=ag 21 (h:=?_)))));refine cK 22 I (dw ba _ _ I M (R+j*3) I [e.proc,e.inc,e.idx] _ (λ J hw=>by have:=b4.o J hw;rw[Q]at this;exact this) kx I Z) ?_;refine cK 23 I (dw ba _ _ I E 0 I [e.proc,e.inc,e.idx] _ (λ J hw=>b3.o J hw) kx I Z) ?_;refine cK 24 I (gR ba (.bool true) (λ J _=>by go_simp)) ?_;refine ag 25 (h:=ag 26 (h:=?_));refine cg Z ?_;clear Q;go_wp2_with fail;go_roundw;case rel=>exact z.o false _ y
      case measure=>exact bS
     have t2:decide ((j:Int)<(k:Int))=false:=aY;have h6:decide (j<k)=false:=ax a_;refine ag 17 (h:=ag 18 (h:=?_));refine bU 19 (h:=bU 20 (h:=bU 21 (h:=bU 22 (h:=bU 23 (h:=bU 24 (h:=?_))))));refine ag 25 (h:=ag 26 (h:=?_));refine cg Z ?_;clear Q;go_wp2_with fail;go_roundw;case rel=>exact z.o b5 _ y
     case measure=>exact bS
    have himp:=Iy Q;refine cK 5 I (gR ba (.bool true) (λ J _=>by go_simp;exact himp)) ?_;refine ag 6 (h:=?_);refine cK 7 I (dw ba _ _ I E 0 I [e.proc,e.inc,e.idx] _ (λ J hw=>b3.o J hw) kx I Z) ?_;refine ag 8 (h:=ag 9 (h:=ag 10 (h:=?_)));refine cK 11 I (dw ba _ _ I M (R+j*3) I [x.proc,x.inc,x.idx] _ (λ J hw=>b4.o J hw) kx I Z) ?_;refine aV 12 λ K a9=>?_;go_simp;refine(Hv u0 e x).mono ?_;rintro e' u3 ⟨b,rfl,t'⟩;have r7:=aM y t';refine aZ a9 aD r7 ?_;clear a9 K a4 y;intro a4 y;cases b with
    |true=>
     refine ag 13 (h:=ag 14 (h:=?_));refine bU 15 (h:=bU 16 (h:=bU 17 (h:=bU 18 (h:=bU 19 (h:=bU 20 (h:=bU 21 (h:=bU 22 (h:=bU 23 (h:=bU 24 (h:=bU 25 (h:=?_)))))))))));refine ag 26 (h:=?_);refine cg Z ?_;clear himp Q;go_wp2_with fail;go_roundw;case rel=>exact z.o false _ y
     case measure=>exact bS
    |false=>
     refine ag 13 (h:=ag 14 (h:=ag 15 (h:=ag 16 (h:=?_))));by_cases a_:j<k
     ·have t2:decide ((j:Int)<(k:Int))=true:=aY;have h6:decide (j<k)=true:=ax a_;refine ag 17 (h:=ag 18 (h:=ag 19 (h:=ag 20 (h:=ag 21 (h:=?_)))));refine cK 22 I (dw ba _ _ I M (R+j*3) I [x.proc,x.inc,x.idx] _ (λ J hw=>b4.o J hw) kx I Z) ?_;refine cK 23 I (dw ba _ _ I E 0 I [e.proc,e.inc,e.idx] _ (λ J hw=>b3.o J hw) kx I Z) ?_;refine cK 24 I (gR ba (.bool false) (λ J _=>by go_simp;exact himp)) ?_;refine ag 25 (h:=ag 26 (h:=?_));refine cg Z ?_;clear himp Q;go_wp2_with fail;go_roundw;case rel=>exact z.o b5 _ y
      case measure=>exact bS
     have t2:decide ((j:Int)<(k:Int))=false:=aY;have h6:decide (j<k)=false:=ax a_;refine ag 17 (h:=ag 18 (h:=?_));refine bU 19 (h:=bU 20 (h:=bU 21 (h:=bU 22 (h:=bU 23 (h:=bU 24 (h:=?_))))));refine ag 25 (h:=ag 26 (h:=?_));refine cg Z ?_;clear himp Q;go_wp2_with fail;go_roundw;case rel=>exact z.o b5 _ y
     case measure=>exact bS
   have t1:decide ((j:Int)<(N:Int))=false:=aY;have w6:decide (j<N)=false:=ax f';go_wp2_with fail;go_meet;exact⟨b5,I,a5⟩
  obtain⟨w5,rfl,C⟩:=hcut;obtain⟨W,rfl⟩:=aW (wc:World);have y7:=C.size;have c0:=dy q_.o C (λ i d=>d.2);have e5:=C.ay b1.o b1.o.lt;have b_:=aM p_.o C;cases w5 with
  |false=>
   have F:Bk N s s (.slice a7 c a8) (.int .i64 ((k:Int)+1)) W:=⟨k+1,out,cz,O,an Y.o,by rw[<-Y.o];exact c0,b_⟩;have z:=ai F;clear F c0 e5 b_ C;go_wp2_with fail;go_roundw;case rel=>exact z.o
   case measure=>exact bS
  |true=>
   obtain⟨i8,X,q0⟩:=cf c0 e5 b_;clear c0 e5 b_ C;go_upto_region 14 with fail;go_cut[11]from 59 to 62 (λ v J=>v=.int .i64 c/\W=J);case first=>go_wp2_with fail;go_meet;exact⟨I,I⟩
   rename_i s0;obtain⟨rfl,rfl⟩:=hcut;refine s0 _ _ (wp_seq_k (λ r5 r9=>?_));go_cut[11]from 63 to 99 (λ v J=>tO c W v J);case first=>
    go_wp2_with fail;go_loopw[11] (λ v wr=>tO c W v wr) (λ v _=>(intOf v).toNat);case atStart=>exact⟨c,I,Nat.le_refl _,aN _ _⟩
    obtain⟨m,rfl,g1,r⟩:=hrel;rcases m with _|f
    ·have t0:decide ((0:Int)<(0:Nat))=false:=aT;have h5:decide ((0:Int)<0)=false:=aT;have b2:=cE (∀j,tO c W (.int .i64 (0:Nat)) (wr.drewN j)) (λ j=>⟨0,I,Nat.zero_le _,aM r (ek _ _)⟩);clear r g1;go_upto_region 15 with fail;go_quiet(fail);go_wp2_with fail;go_meet;exact b2.o _
    obtain⟨j3,o7,a1,s3,-,s8,e8⟩:=pF i8.o r Y.o.symm (k:=f) O qf;have t0:decide ((0:Int)<((f+1:Nat):Int))=true:=(by rw[decide_eq_true_eq];omega);have h5:decide ((0:Int)<(f:Int)+1)=true:=(by rw[decide_eq_true_eq];omega);have y3:IntKind.i64.wrap (((f+1:Nat):Int)-1)=(f:Int):=(by rw[show((f+1:Nat):Int)-1=(f:Int)from O];exact eI _ O);have y4:IntKind.i64.wrap ((f:Int)+1-1)=(f:Int):=(by rw[show(f:Int)+1-1=(f:Int)from O];exact eI _ O);have y5:IntKind.i64.wrap (f:Int)=(f:Int):=eI _ O;have i0:(0:Int)<=f:=O;have i1:(f:Int)<(c:Int):=O;have w8:wr.cell? ⟨j3,o7+f*3,none⟩=some (.int .i64 a1.proc):=(by have:=e8 wr (aN _ _) 0 _ I;simpa using this);have y1:wr.cell? ⟨j3,o7+f*3+1,none⟩=some (.int .i64 a1.inc):=(by have:=e8 wr (aN _ _) 1 _ I;simpa using this);have d0:wr.cell? ⟨E,0,none⟩=some (.int .i64 e.proc):=(by rw[(r.ay X.o X.o.lt).cell];rfl);have d1:wr.cell? ⟨E,1,none⟩=some (.int .i64 e.inc):=(by rw[(r.ay X.o X.o.lt).cell];rfl);have F:∀j,tO c W (.int .i64 (f:Int)) (wr.drewN j):=λ j=>⟨f,I,O,aM r (ek _ _)⟩;have l7:∀j,tO c W (.int .i64 ((f+1:Nat):Int)) (wr.drewN j):=λ j=>⟨f+1,I,g1,aM r (ek _ _)⟩;obtain⟨a2,k_⟩:=aW e.proc;obtain⟨d9,k'⟩:=aW e.inc;obtain⟨a3,l5⟩:=aW a1.proc;obtain⟨d',l0⟩:=aW a1.inc;rw[<-k_]at d0;rw[<-k']at d1;rw[<-l5]at w8;rw[<-l0]at y1;obtain⟨z,b2⟩:=ck F l7;clear F l7 r g1 s8 e8 k_ k' l5 l0;subst s3;by_cases j0:a2<a3
    ·have t1:decide (a2<a3)=true:=ax j0;go_upto_region 15 with fail;go_quiet(fail);go_wp2_with fail;go_roundw;case rel=>exact z.o _
     case measure=>simp[intOf]
    have t1:decide (a2<a3)=false:=ax j0;by_cases a0:a3=a2
    ·have t2:(a3==a2)=true:=ax a0;by_cases j1:d9<d'
     ·have t3:decide (d9<d')=true:=ax j1;go_upto_region 15 with fail;go_quiet(fail);go_wp2_with fail;go_roundw;case rel=>exact z.o _
      case measure=>simp[intOf]
     have t3:decide (d9<d')=false:=ax j1;go_upto_region 15 with fail;go_quiet(fail);go_wp2_with fail;go_meet;exact b2.o _
    have t2:(a3==a2)=false:=ax a0;go_upto_region 15 with fail;go_quiet(fail);go_wp2_with fail;go_meet;exact b2.o _
   obtain⟨m,rfl,x7,C⟩:=hcut;obtain⟨a6,rfl⟩:=aW (wc:World);have y8:=C.size;have n7:=dy i8.o C (λ i d=>d.2);have j_:=C.ay X.o X.o.lt;have m5:=aM q0.o C;obtain⟨i9,c4,q5⟩:=cf n7 j_ m5;clear n7 j_ m5 C;go_upto_region 18 with(first|(refine gJ rfl 59 219 1 _ rfl underlying59 _ [(0,.agg Pz)] rfl (Cv _ _ _) ?_)|(at_builtin;refine fe _ rfl (.tmp 100) (.tmp 102) 59 rfl s.heap.size 219 i0 _ 3 24 underlying59 c5.o c6.o c7.o c8.o rfl O _ c _ rfl (i9.o.alloc _) _ (some ⟨a6.heap.size,0,none⟩) 1 1 [.int .i64 0,.int .i64 0,.int .i64 0] rfl (dz.new rfl) (by intro u hu;simp at hu;subst hu;rfl) dQ O aY ?_;intro z_ D g6 e_ j9));have d_:aw (λ i=>i<a6.heap.size/\(Value.slice a7 c a8).ownBlock≠some i) a6 D:=jA ((cx a6 _).mono (λ i d=>d.1)) e_ (λ i d=>by have:=d.1;simp;omega) (λ z8 s_ s4=>s4.2 s_);have m6:ab s D:=fh (aM q5.o (cx _ _)) (i9.o.alloc _) e_ (λ i d=>d) aY;have e6:=d_.ay c4.o ⟨c4.o.lt,i7.o⟩;obtain⟨w9,t,rfl,-,-⟩:=dZ g6;obtain⟨q,cur,rfl,k5,b7,k8,g4,s7,g9⟩:=qQ g6 O;have y9:=d_.size;have v3:E≠q:=λ e=>by
    rcases j9 with h|h
    ·exact i7.o (h.symm.trans (by rw[e];rfl))
    have h2:q=(a6.alloc (.cells Pz 219)).heap.size:=(by simpa [Value.ownBlock]using h);have:=c4.o.lt;have aA:=(cx a6 (.cells Pz 219)).size;omega
   have x6:=b7.lt;have u_:=e6.lt;clear g6 e_ j9 d_;have y0:IntKind.i64.wrap ((m:Int)+1)=(m:Int)+1:=eI _ O;have w3:(0:Int)<=m:=O;have w4:(m:Int)<=(c:Int)+1:=O;have z4:(0:Int)<=(m:Int)+1:=O;have z5:(m:Int)+1<=(c:Int)+1:=O;have z7:((m:Int)+1).toNat=m+1:=O;obtain⟨g_,n1,n2,n3⟩:=sx q t (m+1) 3;obtain⟨cI,n4,n5,-⟩:=sx q t m 3;have v7:=n5 O;subst v7;have g':(out.flatMap fL).length=c*3:=(by rw[lg qf,Y.o]);have o3:∀j v,((out.flatMap fL).drop (m*3))[j]?=some v->D.cell? ⟨q,m*3+j,none⟩=some v:=λ j v b0=>by
    rw[oa]at b0;rw[b7.cell,<-qH];have h1:=mK (λ l=>l[m*3+j]?) g9;rw[me (dV.1 b0).1,b0,mT]at h1;split at h1
    ·exact h1
    cases h1
   obtain⟨h8,p5,r3,r2,h',h9,h_,q9⟩:=fl m6 e6 g9 o3 n2 n1 n4 n3;clear m6 e6 g9 o3 n2 n1 n4 n3 n5;refine eE 99 (λ _=>True) (λ J=>aw (λ i=>i<D.heap.size/\i≠q) D J) Z aD (dx (aN _ _)) (λ a4 y=>?_);have e7:aC D.drew q 219 cur:=b7;have g8:∀j v,((out.flatMap fL).drop (m*3))[j]?=some v->D.drew.cell? ⟨q,m*3+j,none⟩=some v:=r2.o;have m2:ab D D.drew:=dx (aN _ _);generalize v_:D.drew=u0 at y e7 g8 m2⊢;clear v_;refine ag 0 (h:=ag 1 (h:=ag 2 (h:=?_)));refine cK 3 I (gR ba (.slice (pz q t (m+1) 3) (c+1- (m+1)) (t- (m+1))) (λ J r8=>by go_simp;rfl)) ?_;refine ag 4 (h:=ag 5 (h:=?_));refine cK 6 I (gR ba (.slice (pz q t m 3) (c+1-m) (t-m)) (λ J r8=>by go_simp;rfl)) ?_;rw[h9.o,h_.o];have m9:Nat.min (c+1-m) (c+1- (m+1))=c-m:=(by rw[show Nat.min (c+1-m) (c+1- (m+1))=min (c+1-m) (c+1- (m+1))from I];omega);refine aV 7 λ K a9=>?_;have e9:((out.flatMap fL).drop (m*3)).length=c*3-m*3:=(by rw[pn,g'])
   refine Bn I _ _ 59 59 I 219 3 underlying59 Z q g_ (c+1- (m+1)) (t- (m+1)) (c+1-m) (t-m) q (m*3) I I cur 219 e7 ((out.flatMap fL).drop (m*3)) (by rw[e9,m9,Nat.sub_mul]) (by
    rw[e9]
    by_cases av:t=m+1
    ·have:c=m:=O
     subst this
     have x_:g_<=cur.size:=by
      have aA:=q9.o av
      omega
     omega
    ·rw[h'.o av]
     have h1:m*3<=c*3:=Nat.mul_le_mul_right _ O
     have h2:(c+1)*3<=t*3:=Nat.mul_le_mul_right _ g4
     omega) g8 (λ v b0=>mi xG _ v (tf b0)) ?_
   intro o8 e3 o0;have t_:lay cur g_ ((out.flatMap fL).drop (m*3))=lay cur ((m+1)*3) ((out.flatMap fL).drop (m*3)):=by
    by_cases av:t=m+1
    ·have v5:(out.flatMap fL).drop (m*3)=[]:=sU (by rw[g'];exact Nat.mul_le_mul_right _ O);rw[v5,sE,sE]
    rw[h'.o av]
   rw[t_]at e3;have a':aw (λ i=>i<D.heap.size/\i≠q) D o8:=bR y o0 (λ i d=>d.2);refine aZ a9 aD a' ?_;clear a9 K a4 y;intro a4 y;refine cg Z ?_;have y_:=a'.size;have k0:=a'.ay p5.o ⟨u_,v3⟩;have v9:(c+1)*3<=cur.size:=(by rw[k8];exact Nat.mul_le_mul_right _ g4);have hmul:(m+1)*3+((out.flatMap fL).drop (m*3)).length<=cur.size:=(by rw[e9];have h1:m*3<=c*3:=Nat.mul_le_mul_right _ O;omega);have g0:(lay cur ((m+1)*3) ((out.flatMap fL).drop (m*3))).size=cur.size:=ov hmul;have m3:ab s o8:=bR h8.o a' (λ i d=>⟨an h8.o.size,O⟩);obtain⟨p',p0,p6⟩:=cf m3 e3 k0;clear m3 e3 k0 a4 y a' o0 b7 e7 g8 m2 h9 h_ m9;have dv:(m:Int)<(c:Int)+1:=O;have b8:m*3+((fL e)).length<=(lay cur ((m+1)*3) ((out.flatMap fL).drop (m*3))).size:=(by rw[g0,qf];have:(m+1)*3<=(c+1)*3:=Nat.mul_le_mul_right _ O;omega);go_wp2_with(first|(refine ew I _ (.tmp 8) I E 219 [e.proc,e.inc,e.idx] _ I p6.o kx I Z ?_)|(refine qq I 219 (.tmp 115) (.tmp 114) I q (m*3) 219 _ [e.proc,e.inc,e.idx] I I p0.o b8 Z I ?_;intro c1 j' o1));have e4:aC c1 q 219 (eY (lay cur ((m+1)*3) ((out.flatMap fL).drop (m*3))) (m*3) (fL e)):=j';rw[vg _ _ _ b8]at e4;have n9:c1.ownsRow s.heap.size 219 3 (.slice (some ⟨q,0,none⟩) (c+1) t) (c+1) ((out.take m++e::out.drop m).flatMap fL):=(by rw[<-zq qf,<-Ak (cur:=cur) (zs:=[.int .i64 0,.int .i64 0,.int .i64 0]) (n:=c) (es:=fL e) r3.o g' I I O v9];refine⟨by rw[jm,Am,ov b8,g0];omega,.inr ⟨q,t,_,I,k5,e4,g4,s7,?_,I⟩⟩;rw[ov b8,g0,k8]);have m8:(out.take m++e::out.drop m).length=c+1:=(by have:=Y.o;simp;omega);have m7:ab s c1:=zv p'.o o1 k5;have F:Bk N s s (.slice (some ⟨q,0,none⟩) (c+1) t) (.int .i64 ((k:Int)+1)) c1:=⟨k+1,out.take m++e::out.drop m,cz,O,O,by rw[m8];exact n9,m7⟩;have z:=ai F;clear F n9 m7 j' e4 o1 m8;go_wp2_with fail;go_roundw;case rel=>exact z.o
   case measure=>exact bS
 have t0:decide ((k:Int)<(N:Int))=false:=aY;have h5:decide (k<N)=false:=ax f_;rw[U]at P;obtain⟨bf,bc,a1,s9⟩:=nj (k:=0) P r;obtain⟨o9,r6,j2,aS,j4⟩:=s9;have l1:rp (G+L) w (.returned (.slice a7 c a8)) wr:=⟨out,an q6.o,o9,r6,by rw[U];exact j2,aS.more (λ i d=>⟨an d.1,d.2⟩),aM p9.o j4⟩;obtain⟨p7,Y⟩:=ck l1 U;clear l1 U P r aS j4 a1 j2;go_wp2_with fail;go_ret;exact p7.o
end Go.Proofs.YtdhklhebgclcoaaGreatDoor
