import Derived.Test.YtdhklhebgclcoaaGreatDoorProg
import Derived.WalkKit
import Derived.WalkSpells
import Derived.WalkLawsBesides
import Derived.Outline
import Derived.Below
import Derived.Laws.OwnMore
import Derived.Maps.AppendAt
import Derived.Deep.AppendLies
import Derived.Deep.Draws
import Derived.Deep.QuietTactic
import Derived.BigQuiet
import Derived.RegionTactic
import Derived.OwnWalk
import Derived.StillTailTactics
import Derived.Deep.RegionHeld3
import Derived.Deep.LoopGhost
import Derived.Laws.Rows
import Derived.Deep.MidRow
import Derived.Lib.Hide
import Derived.Great.BuildSlice
import Derived.Laws.Tables
import Derived.Deep.Cut
import Derived.Deep.DeepCutAuto
import Derived.Deep.CutBlock
import Derived.Laws.EntriesVeiled
set_option linter.unusedVariables false
set_option linter.unusedSimpArgs false
set_option maxRecDepth 100000
set_option maxHeartbeats 32000000
namespace Go.Proofs.YtdhklhebgclcoaaGreatDoor
open Go.Proofs.Tryz Go.RowKit
abbrev I:=@rfl
abbrev jB:=@Nat.lt_or_ge
abbrev uT:=@Array.getElem?_eq_none
abbrev uA:=@Below.heap_alloc
abbrev dq:=@Nat.le_refl
abbrev ik:=@Nat.le_trans
abbrev cQ:=@Nat.lt_of_lt_of_le
abbrev pn:=@List.length_drop
abbrev dg:=@if_neg
abbrev nr:=@Nat.add_assoc
abbrev oa:=@List.getElem?_drop
abbrev jm:=@List.length_take
abbrev vG:=@Nat.min_eq_left
abbrev nG:=@Nat.mul_le_mul_right
abbrev mT:=@List.getElem?_take
abbrev pc:=@Array.getElem?_eq_some_iff
abbrev nO:=@Nat.add_mul
abbrev dA:=@List.getElem?_eq_getElem
abbrev dV:=@List.getElem?_eq_some_iff
abbrev qD:=@Nat.eq_zero_or_pos
abbrev nD:=@List.eq_nil_of_length_eq_zero
abbrev pS:=@wpList_plain
abbrev di:=@if_pos
abbrev oP:=@wpList_load_mid
abbrev ee:=@World.ownsRow_nil
abbrev jV:=@List.mem_append
abbrev vB:=@List.mem_iff_getElem?
abbrev yg:=@List.mem_cons
abbrev pJ:=@List.ext_getElem?
abbrev lH:=@List.getElem?_eq_none
abbrev Br:=@Array.getElem?_setIfInBounds
abbrev uU:=@List.getElem?_set
abbrev tv:=@mem_ready
abbrev pT:=@getD_set_ne
abbrev eM:=@Ne.symm
abbrev aD:=True.intro
abbrev qH:=@Array.getElem?_toList
abbrev zf:=@Region.noSelect_spec
abbrev zU:=@Region.free_spec
abbrev dw:=@yieldsIf_load_mid
abbrev rN:=@wpList_step
abbrev tt:=@wp_load_mid
abbrev mK:=@congrArg
abbrev xK:=@List.take_append_of_le_length
abbrev pV:=@List.append_assoc
abbrev sU:=@List.drop_eq_nil_of_le
abbrev qu:=@List.nil_append
abbrev hU:=@List.take_of_length_le
abbrev nK:=@List.take_add_one
abbrev vM:=@List.filter_append
abbrev rI:=@List.map_append
abbrev nC:=@List.length_filter_le
abbrev uQ:=@List.length_map
abbrev me:=@List.getElem?_append_left
abbrev ef:=@Nat.zero_le
abbrev ml:=@underlying179
abbrev ma:=@underlying74
abbrev gp:=@List.length_append
abbrev hJ:=@List.flatMap_append
abbrev gY:=@underlying175
abbrev ll:=@underlying73
abbrev Ba:=@ntmps143
abbrev pR:=@List.drop_eq_getElem_cons
abbrev gU:=@List.getElem?_map
abbrev fg:=@List.getElem?_toArray
abbrev td:=@List.mem_flatMap
abbrev eI:=@IntWalk.i64_in
abbrev oH:=@List.getElem?_append_right
abbrev tf:=@List.mem_of_mem_drop
abbrev Am:=@Array.length_toList
abbrev rJ:=@List.mem_of_mem_take
abbrev eo:=@List.mem_of_getElem?
abbrev oL:=@List.length_set
abbrev wO:=@List.mem_or_eq_of_mem_set
abbrev qv:=@List.take_succ_eq_append_getElem
abbrev gb:=@Nat.zero_add
abbrev mB:=@underlying50
abbrev vf:=@func151
abbrev vz:=@ntmps151
abbrev Eb:=@World.cell?_setCell_other
abbrev qY:=@Int.eq_ofNat_of_zero_le
abbrev AK:=@List.all_eq_true
abbrev gd:=@underlying99
abbrev dS:=@bodyPost_ret
abbrev pd:=@results49
abbrev rj:=@underlying97
abbrev qB:=@func154
abbrev jb:=@ntmps154
abbrev iT:=@ntmps152
abbrev zz:=@func149
abbrev pW:=@ntmps149
abbrev pH:=@underlying133
abbrev nN:=@func148
abbrev nQ:=@ntmps148
abbrev gS:=@func142
abbrev qK:=@ntmps142
abbrev qC:=@bodyPost_end
abbrev iN:=@results_none
abbrev iI:=@results142
abbrev eK:=@underlying23
abbrev gA:=@underlying35
abbrev nz:=@underlying36
abbrev Ac:=@List.append_nil
abbrev qT:=@underlying38
abbrev hO:=@underlying34
abbrev ra:=@results90
abbrev wG:=@underlying87
abbrev iW:=@List.getElem?_set_self
abbrev lQ:=@List.getElem?_set_ne
abbrev kA:=@Option.some.inj
abbrev pZ:=@underlying40
abbrev jK:=@func14
abbrev ux:=@ntmps14
abbrev vX:=@results14
abbrev wj:=@underlying42
abbrev fb:=@func36
abbrev wv:=@ntmps36
abbrev vA:=@results36
abbrev uO:=@List.drop_of_length_le
abbrev gL:=@List.getElem?_take_of_lt
abbrev wM:=@List.getElem_mem
abbrev tC:=@toList_madeCells_one
abbrev yB:=@List.replicate_succ
abbrev vu:=@func147
abbrev wB:=@ntmps147
abbrev dk:=@ntmps114
abbrev pL:=@underlying196
abbrev vF:=@func96
abbrev vk:=@ntmps96
abbrev vo:=@World.drewN_drewN
abbrev wy:=@List.length_pos_iff
abbrev xh:=@List.mem_map
abbrev kx:=@underlying219
abbrev nZ:=@underlying71
abbrev nJ:=@underlying136
abbrev oX:=@Calls.quiet_of
abbrev kH:=@underlying58
abbrev kU:=@results85
abbrev jS:=@underlying72
abbrev qg:=@underlying69
abbrev zQ:=@underlying61
abbrev Av:=@decide_eq_true
abbrev qX:=@func144
abbrev tu:=@ntmps144
abbrev tB:=@decide_eq_false
abbrev ou:=@func38
abbrev wP:=@ntmps38
abbrev ug:=@results38
abbrev uw:=@func30
abbrev sv:=@ntmps30
abbrev sG:=@Int.le_refl
abbrev kv:=@underlying27
abbrev oE:=@underlying60
abbrev mv:=@List.getElem?_of_mem
abbrev tH:=@underlying63
abbrev pN:=@List.getD_eq_getElem?_getD
abbrev sA:=@List.eq_of_mem_replicate
abbrev Fo:=@Array.getElem?_setIfInBounds_ne
abbrev rv:=@underlying57
abbrev yP:=@underlying94
abbrev jM:=@results33
abbrev An:=@underlying85
abbrev mP:=@func76
abbrev sR:=@ntmps76
abbrev sY:=@results78
abbrev jF:=@func139
abbrev mE:=@ntmps139
abbrev wk:=@underlying106
abbrev yz:=@results40
abbrev lZ:=@World.block_lt_of_cell?
abbrev jJ:=@underlying55
abbrev we:=@results35
abbrev lA:=@underlying22
abbrev zx:=@Option.map_eq_some_iff
abbrev yw:=@underlying31
abbrev yu:=@List.getElem?_replicate
abbrev Dd:=@List.getElem?_range
abbrev ah:=@underlying3
abbrev Pv:Array Value:=#[.int .i64 0,.int .i64 0,.int .i64 0,.int .i64 0,.int .i64 0,.int .i64 0,.int .i64 0,.int .i64 0,.int .i64 0]
abbrev qj:Array Value:=#[.int .i64 0,.int .i64 0,.int .i64 0,.int .i64 0,.int .i64 0,.int .i64 0,.int .i64 0,.int .i64 0,.int .i64 0,.int .u32 0]
abbrev Pz:Array Value:=#[.int .i64 0,.int .i64 0,.int .i64 0]
abbrev ak:Array Value:=#[.int .i64 0,.int .i64 0,.string ⟨#[]⟩,.int .i64 0,.int .i64 0,.slice none 0 0]
abbrev PK:Array Value:=#[.int .i64 4,.int .i64 5,.int .i64 6]
abbrev PE:Array Value:=#[.int .i64 0,.int .i64 0,.int .i64 0,.int .i64 0,.int .i64 0,.int .i64 0,.int .i64 0]
abbrev PB:Array Value:=#[.slice none 0 0,.slice none 0 0,.int .i64 0,.int .i64 0,.int .i64 0,.int .i64 0,.int .i64 0]
abbrev Pw:Array Value:=#[.int .i64 0,.int .i64 0,.int .i64 0,.int .i64 0]
abbrev Pr:Array Value:=#[.int .i64 0,.int .i64 0]
abbrev Pt:Array Value:=#[.slice none 0 0,.slice none 0 0,.slice none 0 0,.slice none 0 0]
abbrev Px:Array Value:=#[.slice none 0 0,.bool false]
abbrev Py:Array Value:=#[.int .i64 0,.slice none 0 0]
abbrev PC:Array Value:=#[.int .i64 0,.int .i64 0,.int .i64 0,.int .i64 0,.int .i64 0,.int .i64 0,.int .i64 0,.slice none 0 0,.slice none 0 0]
abbrev PQ:Array Value:=#[.int .i64 0,.int .i64 0,.slice none 0 0]
abbrev Pu:Array Value:=#[.int .i64 1,.int .i64 0]
abbrev PJ:Array Value:=#[.slice none 0 0,.slice none 0 0,.slice none 0 0,.slice none 0 0,.slice none 0 0]
abbrev PA:Array Value:=#[.bool false,.bool false,.bool false,.bool false]
abbrev PU:Array Value:=#[.string ⟨#[97]⟩,.int .i64 2,.int .i64 0]
abbrev Ps:Array Value:=#[.string ⟨#[121]⟩,.int .i64 0,.int .i64 0]
abbrev PR:Array Value:=#[.string ⟨#[122]⟩,.int .i64 0,.int .i64 0]
abbrev PL:Array Value:=#[.string ⟨#[98]⟩,.int .i64 1,.int .i64 0]
abbrev PN:Array Value:=#[.slice none 0 0,.int .i64 0,.int .i64 0]
abbrev PG:Array Value:=#[.int .i64 0,.int .i64 0,.int .i64 1,.int .i64 0,.int .i64 0,.int .i64 1,.int .i64 1,.int .i64 0]
abbrev PD:Array Value:=#[.int .i64 1,.int .i64 0,.int .i64 0,.int .i64 0,.int .i64 0,.int .i64 0,.int .i64 0]
theorem O{p:Prop}(h:p:=by omega):p:=h
theorem Z{p:Prop}(h:p:=by kernel_rfl):p:=h
theorem cz{p:Prop}(h:p:=by go_num):p:=h
theorem aT{p:Prop}(h:p:=by simp):p:=h
theorem eH{p:Prop}(h:p:=by decide):p:=h
theorem ba{p:Prop}(h:p:=by rfl):p:=h
theorem aY{p:Prop}(h:p:=by(simp;omega)):p:=h
theorem dQ{p:Prop}(h:p:=by(simp[maxLen];omega)):p:=h
theorem bS{p:Prop}(h:p:=by(simp[intOf];omega)):p:=h
theorem an{a p:Prop}(x:a)(h:a->p:=by intro;omega):p:=h x
theorem cM{a b p:Prop}(x:a)(y:b)(h:a->b->p:=by(intros;omega)):p:=h x y
theorem nx{a b c p:Prop}(x:a)(y:b)(z:c)(h:a->b->c->p:=by(intros;omega)):p:=h x y z
theorem ax{a p:Prop}(x:a)(h:a->p:=by(intro h;simpa using h)):p:=h x
def Hi(p:Prop):Prop:=p
theorem Hi.o{p}(h:Hi p):p:=h
abbrev jo:=@Hi.o
theorem ai{p}(h:p):Hi p:=h
theorem cE(p)(h:p):Hi p:=h
theorem ck{a b}(c:a)(d:b):Hi a/\Hi b:=⟨c,d⟩
theorem cf{a b c}(d:a)(e:b)(f:c):Hi a/\Hi b/\Hi c:=⟨d,e,f⟩
theorem cH{a b c d}(e:a)(f:b)(g:c)(h:d):Hi a/\Hi b/\Hi c/\Hi d:=⟨e,f,g,h⟩
theorem dC{a b c d e}(f:a)(g:b)(h:c)(i:d)(j:e):Hi a/\Hi b/\Hi c/\Hi d/\Hi e:=⟨f,g,h,i,j⟩
theorem er{a b c d e f}(g:a)(h:b)(i:c)(j:d)(k:e)(l:f):Hi a/\Hi b/\Hi c/\Hi d/\Hi e/\Hi f:=⟨g,h,i,j,k,l⟩
theorem dW{a b c d e f g}(h:a)(i:b)(j:c)(k:d)(l:e)(m:f)(n:g):Hi a/\Hi b/\Hi c/\Hi d/\Hi e/\Hi f/\Hi g:=⟨h,i,j,k,l,m,n⟩
theorem fl{a b c d e f g h}(i:a)(j:b)(k:c)(l:d)(m:e)(n:f)(o:g)(p:h):Hi a/\Hi b/\Hi c/\Hi d/\Hi e/\Hi f/\Hi g/\Hi h:=⟨i,j,k,l,m,n,o,p⟩
theorem df{a b c d e f g h i}(j:a)(k:b)(l:c)(m:d)(n:e)(o:f)(p:g)(q:h)(r:i):Hi a/\Hi b/\Hi c/\Hi d/\Hi e/\Hi f/\Hi g/\Hi h/\Hi i:=⟨j,k,l,m,n,o,p,q,r⟩
instance:Coe Int Value:=⟨λ x=>.int .i64 x⟩
instance:Coe Nat Value:=⟨λ x=>.int .i64 x⟩
theorem aW{α}(a:α):∃x,x=a:=⟨a,I⟩
def aC(w:World)(g:Nat)(t:TypeId)(cs:Array Value):Prop:=w.heap[g]?=some (.cells cs t (0,0))
section
variable {w ae:World} {g:Nat} {t:TypeId} {cs:Array Value}
theorem aC.lt(h:aC w g t cs):g<w.heap.size:=by
 rcases jB g w.heap.size with dN|a
 ·exact dN
 unfold aC at h;rw[uT a]at h;cases h
theorem aC.cell(h:aC w g t cs)(i:Nat):w.cell? ⟨g,i,none⟩=cs[i]?:=cell_of_row w g i cs t (0,0) h
theorem aC.frozen(h:aC w g t cs)(i:Nat):w.frozen? ⟨g,i,none⟩=false:=by unfold aC at h;simp[World.frozen?,h]
theorem aC.new(w:World)(t:TypeId)(cs:Array Value):aC (w.alloc (.cells cs t)) w.heap.size t cs:=heap_alloc_new w _
abbrev cu:=@aC.new
theorem aC.drewN(h:aC w g t cs)(n:Nat):aC (w.drewN n) g t cs:=h
theorem aC.alloc(h:aC w g t cs)(o:Obj):aC (w.alloc o) g t cs:=(uA w o g h.lt).trans h
theorem aC.jO(h:aC w g t cs)(i:Nat)(u):aC (w.setCell ⟨g,i,none⟩ u) g t (cs.setIfInBounds i u):=by unfold aC at h⊢;simp[World.setCell,Array.getElem?_modify,h]
end
structure aw (S:Nat->Prop) (w ae:World):Prop where
 os:ae.os=w.os
 tape:ae.tape=w.tape
 output:ae.output=w.output
 size:w.heap.size<=ae.heap.size
 block:∀k,S k->ae.heap[k]?=w.heap[k]?
section
variable {S T:Nat->Prop} {a b c w ae:World}
theorem aw.refl(S w):aw S w w:=⟨I,I,I,dq _,λ _ _=>I⟩
abbrev aN:=@aw.refl
theorem aw.trans(h:aw S a b)(k:aw T b c)(e:∀i,S i->T i):aw S a c:=⟨k.os.trans h.os,k.tape.trans h.tape,k.output.trans h.output,ik h.size k.size,λ i d=>(k.block i (e i d)).trans (h.block i d)⟩
abbrev bR:=@aw.trans
theorem aw.mono(h:aw S a b)(c:∀i,T i->S i):aw T a b:=⟨h.os,h.tape,h.output,h.size,λ i d=>h.block i (c i d)⟩
abbrev cS:=@aw.mono
theorem aw.drew(h:aw S a b):aw S a b.drew:=⟨h.os,h.tape,h.output,h.size,h.block⟩
abbrev dx:=@aw.drew
theorem aw.drewN(h:aw S a b)(n:Nat):aw S a (b.drewN n):=⟨h.os,h.tape,h.output,h.size,h.block⟩
abbrev mN:=@aw.drewN
theorem aw.alloc(h:aw S a b)(d:∀i,S i->i<b.heap.size)(o:Obj):aw S a (b.alloc o):=⟨h.os,h.tape,h.output,ik h.size aT,λ i c=>(uA b o i (d i c)).trans (h.block i c)⟩
abbrev rM:=@aw.alloc
theorem aw.setCell(h:aw S a b){p:Addr}(hp:¬S p.block)(u):aw S a (b.setCell p u):=⟨h.os,h.tape,h.output,by simpa [World.setCell]using h.size,λ i c=>(Below.heap_setCell b p u i (λ e=>hp (e▸c))).trans (h.block i c)⟩
theorem aw.grown{row:Option Nat}(h:aw S a b)(d:b.grownBy c row)(g:∀i,S i->i<b.heap.size)(j:∀k,row=some k->¬S k):aw S a c:=⟨d.os.trans h.os,d.tape.trans h.tape,d.output.trans h.output,ik h.size d.size,λ i f=>(d.block i (g i f) (λ e=>j i e.symm f)).trans (h.block i f)⟩
abbrev jA:=@aw.grown
theorem aw.cell(h:aw S w ae){p:Addr}(hp:S p.block):ae.cell? p=w.cell? p:=World.cell?_of_block (h.block p.block hp)
theorem aw.frozen(h:aw S w ae){p:Addr}(hp:S p.block):ae.frozen? p=w.frozen? p:=World.frozen?_of_block (h.block p.block hp)
theorem aw.ay{g:Nat}{t cs}(h:aw S w ae)(a:aC w g t cs)(b:S g):aC ae g t cs:=(h.block g b).trans a
abbrev gH:=@aw.ay
theorem aw.below{B}(h:aw (·<B) w ae):Below B w ae:=⟨h.os,h.tape,h.output,h.size,h.block⟩
end
abbrev ab(w ae:World):Prop:=aw (·<w.heap.size) w ae
abbrev cX(g:Nat)(w ae:World):Prop:=aw (λ i=>i<w.heap.size/\i≠g) w ae
theorem ab.trans{a b c}(h:ab a b)(k:ab b c):ab a c:=bR h k λ _ d=>cQ d h.size
abbrev aM:=@ab.trans
theorem ab.only{a b}(h:ab a b)(g):cX g a b:=h.mono λ _ c=>c.1
theorem cX.trans{g a b c}(h:cX g a b)(k:cX g b c):cX g a c:=bR h k λ _ d=>⟨cQ d.1 h.size,d.2⟩
abbrev dM:=@cX.trans
theorem cX.aq{g a b c}(h:cX g a b)(k:ab b c):cX g a c:=dM h (k.only g)
abbrev oJ:=@cX.aq
theorem cX.write{g k a b c}(h:cX g a b)(s:aw (·≠k) b c)(e:a.heap.size<=k):cX g a c:=bR h s λ i d=>O
abbrev mA:=@cX.write
theorem ab.write{k a b c}(h:ab a b)(s:aw (·≠k) b c)(e:a.heap.size<=k):ab a c:=bR h s λ i d=>O
abbrev zv:=@ab.write
theorem cX.alloc{g a b}(h:cX g a b)(o):cX g a (b.alloc o):=rM h (λ i c=>cQ c.1 h.size) o
theorem ab.alloc{a b}(h:ab a b)(o):ab a (b.alloc o):=rM h (λ i c=>cQ c h.size) o
abbrev eL:=@ab.alloc
theorem ab.new(w o):ab w (w.alloc o):=(aN _ _).alloc (λ _ h=>h) o
abbrev cx:=@ab.new
theorem ab.tD{a b o}(h:ab (a.alloc o) b):ab a b:=aM (cx a o) h
theorem cX.tD{g a b o}(h:cX g (a.alloc o) b):cX g a b:=dM ((cx a o).only g) h
theorem ab.fZ(w n):ab w (w.drewN n):=(aN _ _).drewN n
abbrev ek:=@ab.fZ
theorem aw.append{S a b c base n size e v xs}(h:aw S a b)(l:b.ownsRow base e size v n xs)(g:b.grownBy c v.ownBlock)(d:∀i,S i->i<base)(f:base<=b.heap.size):aw S a c:=h.grown g (λ i j=>cQ (d i j) f) (λ k j au=>cM ((l.lt k j).1) (d k au))
abbrev fh:=@aw.append
def dz(w:World)(S:Nat->Prop)(size:Nat)(A:Option Addr)(n:Nat)(xs:List Value):Prop:=xs.length=n*size/\(0<n->∃b off,A=some ⟨b,off,none⟩/\S b/\∀j u,xs[j]?=some u->w.cell? ⟨b,off+j,none⟩=some u)
section
variable {w ae:World} {S T:Nat->Prop} {size n:Nat} {A:Option Addr} {xs:List Value}
theorem dz.none_{A}:dz w S size A 0 []:=⟨aT,λ h=>absurd h O⟩
theorem dz.aq(h:dz w S size A n xs)(c:aw S w ae):dz ae S size A n xs:=
 ⟨h.1,λ aJ=>by
  obtain⟨b,off,e,a,av⟩:=h.2 aJ
  exact⟨b,off,e,a,λ j u hu=>(c.cell (p:=⟨b,off+j,none⟩) a).trans (av j u hu)⟩⟩
theorem dz.more(h:dz w S size A n xs)(a:∀i,S i->T i):dz w T size A n xs:=
 ⟨h.1,λ aJ=>by
  obtain⟨b,off,e,c,av⟩:=h.2 aJ
  exact⟨b,off,e,a _ c,av⟩⟩
theorem mF(b off k):(⟨b,off,none⟩:Addr).add k=⟨b,off+k,none⟩:=by unfold Addr.add;split<;>simp_all
theorem dz.from_(h:dz w S size A n xs){k cap:Nat}(d:k<=n)(av:n<=cap):dz w S size (if cap=k then A else A.map (·.add (k*size))) (n-k) (xs.drop (k*size)):=by refine⟨by rw[pn,h.1,Nat.sub_mul],λ aJ=>?_⟩;obtain⟨b,off,rfl,a,c⟩:=h.2 O;rw[dg O];refine⟨b,off+k*size,by simp[mF],a,λ j u hu=>?_⟩;rw[nr];exact c _ u (by rw[<-hu,oa])
theorem dz.bW(h:dz w S size A n xs){k:Nat}(d:k<=n):dz w S size A k (xs.take (k*size)):=by
 refine⟨by rw[jm,h.1,vG (nG _ d)],λ aJ=>?_⟩;obtain⟨b,off,rfl,a,c⟩:=h.2 O;refine⟨b,off,I,a,λ j u hu=>c j u ?_⟩;rw[mT]at hu;split at hu
 ·exact hu
 cases hu
theorem dz.sQ{base e c}(h:w.ownsRow base e size (.slice A n c) n xs):dz w (λ i=>base<=i/\i<w.heap.size) size A n xs:=by
 refine⟨h.1,λ aJ=>?_⟩;rcases h.2 with ⟨_,h0⟩|⟨g,cap,cur,f,b,d,m,k,l,o⟩
 ·omega
 have a:A=some ⟨g,0,none⟩:=by injection f
 subst a;refine⟨g,0,I,⟨b,(pc.1 d).1⟩,λ j u hu=>?_⟩;have:=h.cells (g:=g) I j u hu;rwa [mF]at this
abbrev lX:=@dz.sQ
theorem dZ{base e v}(h:w.ownsRow base e size v n xs):∃A c,v=.slice A n c/\n<=c/\c<=maxLen:=by
 rcases h.2 with ⟨rfl,rfl⟩|⟨g,cap,cur,rfl,_,_,b,a,_⟩
 ·exact⟨none,0,I,dq _,by simp[maxLen]⟩
 exact⟨_,cap,I,b,a⟩
end
theorem dy{w ae S base n size e v xs}(h:w.ownsRow base e size v n xs)(k:aw S w ae)(c:∀i,base<=i/\i<w.heap.size->S i):ae.ownsRow base e size v n xs:=by
 refine⟨h.1,?_⟩;rcases h.2 with aJ|⟨g,cap,cur,rfl,a,b,rest⟩
 ·exact .inl aJ
 exact .inr ⟨g,cap,cur,I,a,(k.block g (c g ⟨a,(pc.1 b).1⟩)).trans b,rest⟩
theorem lg{α:Type}{enc:α->List Value}{size:Nat}(au:∀a,(enc a).length=size):∀l:List α,(l.flatMap enc).length=l.length*size
 |[]=>aT
 |a::l=>by rw[List.flatMap_cons,List.length_append,au,lg au l,List.length_cons,nO];omega
theorem flat_get{α:Type}{enc:α->List Value}{size:Nat}(au:∀a,(enc a).length=size):∀(l:List α) (k j:Nat) (c:k<l.length),j<size->(l.flatMap enc)[k*size+j]?=(enc l[k])[j]?
 |a::l,0,j,_,b=>by
  rw[List.flatMap_cons,List.getElem?_append_left (by rw[au];omega)];simp
 |a::l,k+1,j,c,b=>by
  rw[List.flatMap_cons,List.getElem?_append_right (by rw[au,Nat.add_mul];omega),au]
  have:(k+1)*size+j-size=k*size+j:=by rw[Nat.add_mul];omega
  rw[this,flat_get au l k j (ax c) b];simp
theorem yo{α:Type}{enc:α->List Value}{size:Nat}(au:∀a,(enc a).length=size):∀(l:List α) (k:Nat),(l.flatMap enc).take (k*size)=(l.take k).flatMap enc
 |l,0=>aT
 |[],k+1=>aT
 |a::l,k+1=>by
  rw[List.flatMap_cons,List.take_succ_cons,List.flatMap_cons,List.take_append,au,List.take_of_length_le (by rw[au,Nat.add_mul];omega)]
  have:(k+1)*size-size=k*size:=by rw[Nat.add_mul];omega
  rw[this,yo au l k]
theorem uL{α:Type}{enc:α->List Value}{size:Nat}(au:∀a,(enc a).length=size):∀(l:List α) (k:Nat),(l.flatMap enc).drop (k*size)=(l.drop k).flatMap enc
 |l,0=>aT
 |[],k+1=>aT
 |a::l,k+1=>by
  rw[List.flatMap_cons,List.drop_succ_cons,List.drop_append,au,List.drop_of_length_le (by rw[au,Nat.add_mul];omega)]
  have:(k+1)*size-size=k*size:=by rw[Nat.add_mul];omega
  rw[this,uL au l k];simp
def bl{α:Type}(enc:α->List Value)(size:Nat)(w:World)(S:Nat->Prop)(A:Option Addr)(n c:Nat)(l:List α):Prop:=n=l.length/\n<=c/\c<=maxLen/\dz w S size A n (l.flatMap enc)
section
variable {α:Type} {enc:α->List Value} {size:Nat} {w ae:World} {S T:Nat->Prop} {A:Option Addr} {n c:Nat} {l:List α}
theorem bl.aq(h:bl enc size w S A n c l)(a:aw S w ae):bl enc size ae S A n c l:=⟨h.1,h.2.1,h.2.2.1,h.2.2.2.aq a⟩
theorem bl.more(h:bl enc size w S A n c l)(a:∀i,S i->T i):bl enc size w T A n c l:=⟨h.1,h.2.1,h.2.2.1,h.2.2.2.more a⟩
theorem bl.ji:bl enc size w S none 0 0 ([]:List α):=⟨I,dq _,by simp[maxLen],ax dz.none_⟩
abbrev iq:=@bl.ji
theorem bl.at_(h:bl enc size w S A n c l)(au:∀a,(enc a).length=size){k:Nat}(i:k<n):∃(b off:Nat) (a:α),A=some ⟨b,off,none⟩/\S b/\l[k]?=some a/\∀j u,(enc a)[j]?=some u->w.cell? ⟨b,off+k*size+j,none⟩=some u:=by
 obtain⟨b,off,e,f,av⟩:=h.2.2.2.2 O;have d:k<l.length:=an h.1;refine⟨b,off,l[k],e,f,dA d,λ j u hu=>?_⟩;have g:j<size:=by rw[<-au l[k]];exact(dV.1 hu).1
 rw[Nat.add_assoc];exact av _ u (by rw[flat_get au l k j d g];exact hu)
theorem bl.from_(h:bl enc size w S A n c l)(au:∀a,(enc a).length=size){k:Nat}(b:k<=n):bl enc size w S (if c=k then A else A.map (·.add (k*size))) (n-k) (c-k) (l.drop k):=by refine⟨by rw[pn,h.1],an h.2.1,an h.2.2.1,?_⟩;rw[<-uL au];exact h.2.2.2.from_ b h.2.1
theorem bl.bW(h:bl enc size w S A n c l)(au:∀a,(enc a).length=size){k:Nat}(b:k<=n):bl enc size w S A k c (l.take k):=by refine⟨by rw[jm];have:=h.1;omega,an h.2.1,h.2.2.1,?_⟩;rw[<-yo au];exact h.2.2.2.bW b
theorem bl.sQ{base e v}(h:w.ownsRow base e size v l.length (l.flatMap enc)):∃A c,v=.slice A l.length c/\bl enc size w (λ i=>base<=i/\i<w.heap.size) A l.length c l:=by obtain⟨A,c,rfl,h1,h2⟩:=dZ h;exact⟨A,c,I,I,h1,h2,lX h⟩
abbrev nS:=@bl.sQ
end
def cN{α:Type}(w:World)(S:Nat->Prop)(size:Nat)(R:List Value->α->Prop)(A:Option Addr)(n c:Nat)(l:List α):Prop:=n=l.length/\n<=c/\c<=maxLen/\∃aP:List (List Value),aP.length=n/\(∀cs∈aP,cs.length=size)/\dz w S size A n aP.flatten/\∀(k:Nat) (cs:List Value) (a:α),aP[k]?=some cs->l[k]?=some a->R cs a
theorem nk{size}:∀(aP:List (List Value)) (k j:Nat) (b:k<aP.length),(∀cs∈aP,cs.length=size)->j<size->aP.flatten[k*size+j]?=aP[k][j]?
 |cs::aP,0,j,_,au,a=>by
  rw[List.flatten_cons,List.getElem?_append_left (by rw[au cs aT];omega)];simp
 |cs::aP,k+1,j,b,au,a=>by
  rw[List.flatten_cons,List.getElem?_append_right (by rw[au cs aT,Nat.add_mul];omega),au cs aT]
  have:(k+1)*size+j-size=k*size+j:=by rw[Nat.add_mul];omega
  rw[this,nk aP k j (ax b) (λ c av=>au c (by simp[av])) a];simp
section
variable {α:Type} {size:Nat} {R ia:List Value->α->Prop} {w ae:World} {S T:Nat->Prop} {A:Option Addr} {n c:Nat} {l:List α}
theorem cN.at_(h:cN w S size R A n c l){k:Nat}(r:k<n):∃(b off:Nat) (cs:List Value) (a:α),A=some ⟨b,off,none⟩/\S b/\l[k]?=some a/\R cs a/\cs.length=size/\∀j u,cs[j]?=some u->w.cell? ⟨b,off+k*size+j,none⟩=some u:=by
 obtain⟨h1,_,_,aP,aS,f,m,o⟩:=h;obtain⟨b,off,e,p,av⟩:=m.2 O;have d:k<aP.length:=O;have g:k<l.length:=O;have i:aP[k].length=size:=f _ (List.getElem_mem d);refine⟨b,off,aP[k],l[k],e,p,List.getElem?_eq_getElem g,o k _ _ (List.getElem?_eq_getElem d) (List.getElem?_eq_getElem g),i,λ j u hu=>?_⟩;have q:j<size:=by rw[<-i];exact(List.getElem?_eq_some_iff.1 hu).1
 rw[Nat.add_assoc];exact av _ u (by rw[nk aP k j d f q];exact hu)
theorem cN.aq(h:cN w S size R A n c l)(j:aw S w ae)(i:∀cs a,R cs a->ia cs a):cN ae S size ia A n c l:=by obtain⟨h1,h2,aA,aP,aS,e,f,g⟩:=h;exact⟨h1,h2,aA,aP,aS,e,f.aq j,λ k cs a b d=>i _ _ (g k cs a b d)⟩
abbrev lF:=@cN.aq
theorem cN.more(h:cN w S size R A n c l)(m:∀i,S i->T i)(j:∀cs a,R cs a->ia cs a):cN w T size ia A n c l:=by obtain⟨h1,h2,aA,aP,aS,e,f,g⟩:=h;exact⟨h1,h2,aA,aP,aS,e,f.more m,λ k cs a b d=>j _ _ (g k cs a b d)⟩
theorem cN.ji:cN w S size R none 0 0 ([]:List α):=⟨I,dq _,by simp[maxLen],[],I,aT,dz.none_,aT⟩
abbrev iv:=@cN.ji
end
def gX(x:Int):Prop:=-9223372036854775808<=x/\x<=9223372036854775807
theorem gX.wf{x}(h:gX x):(Lit.int .i64 x).wf=true:=WalkArith.wf_i64 h
section
variable {P:Program} (w:World)
theorem JW(base t ty e i size)(b:P.underlying t=some (.slice e))(a:P.info? e=some i)(v n xs)(f:w.ownsRow base e size v n xs)(c):(Builtin.append_ #[t,t] ty #[v,.slice none 0 c]).run P w=.ok v w:=by
 rcases f.2 with ⟨rfl,rfl⟩|⟨g,cap,cur,rfl,_,_,d,_⟩
 ·simp[Builtin.append_,run_underlying b,sizeOf,typeInfo,a,Builtin.lenOf,Builtin.firstCells]
 simp[Builtin.append_,run_underlying b,sizeOf,typeInfo,a,Builtin.lenOf,Builtin.firstCells,d,storeCells]
theorem xO(base t ty e i z size bytes)(k:P.underlying t=some (.slice e))(g:P.info? e=some i)(C:i.zero=some z)(y:i.size=size)(q:i.bytes=bytes)(D:z.cells.size=size)(B:0<size)(v n xs)(d:w.ownsRow base e size v n xs)(S A m c news)(a:dz w S size A m news)(h1:∀u∈news,u.oneCell'=true)(o:n+m<=maxLen)(r:(n+m)*bytes<=140737488355328)(p:base<=w.heap.size):∃bT ae,(Builtin.append_ #[t,t] ty #[v,.slice A m c]).run P w=.ok bT ae/\ae.ownsRow base e size bT (n+m) (xs++news)/\w.grownBy ae v.ownBlock/\(bT.ownBlock=v.ownBlock\/bT.ownBlock=some w.heap.size):=by
 rcases A with _|f
 ·have hm:m=0:=by
   rcases qD m with h0|h0
   ·exact h0
   obtain⟨_,_,h,_⟩:=a.2 h0;cases h
  subst hm;have aJ:news=[]:=nD (ax a.1);subst aJ;exact⟨v,w,JW w base t ty e i size k g v n xs d c,ax d,World.grownBy.refl w _,.inl I⟩
 have s:∀j u,news[j]?=some u->w.cell? (f.add j)=some u:=by
  intro j u hu;rcases qD m with h0|h0
  ·subst h0;have aJ:news=[]:=nD (ax a.1);subst aJ;simp at hu
  obtain⟨b,off,h,_,av⟩:=a.2 h0;injection h with h;subst h;rw[mF];exact av j u hu
 obtain⟨bT,ae,x,h2,aA,_,l⟩:=run_append_own_at (P:=P) w base t ty e i z size bytes k g C y q D B v n xs d f m c news a.1 s h1 o r p;exact⟨bT,ae,x,h2,aA,l⟩
theorem xH{o:Oper}{a}{K:Act->World->Prop}{Q:Exit->Act->World->Prop}(s x:Operand)(t)(k:o.op=.call {callee:=.builtin .append,args:=#[s,x],argTypes:=#[t,t]})(base:Nat)(e)(i:TypeInfo)(z)(size bytes:Nat)(B:P.underlying t=some (.slice e))(j:P.info? e=some i)(D:i.zero=some z)(r:i.size=size)(f:i.bytes=bytes)(E:z.cells.size=size)(y:0<size)(v)(n:Nat)(xs)(au:a.eval s=v)(l:w.ownsRow base e size v n xs)(S A)(m c:Nat)(news)(C:a.eval x=.slice A m c)(p:dz w S size A m news)(h1:∀u∈news,u.oneCell'=true)(b:n+m<=maxLen)(g:(n+m)*bytes<=140737488355328)(d:base<=w.heap.size)(h:∀bT ae,ae.ownsRow base e size bT (n+m) (xs++news)->w.grownBy ae v.ownBlock->(bT.ownBlock=v.ownBlock\/bT.ownBlock=some w.heap.size)->K (a.put o.dst bT) ae):o.wp P a w K Q:=by obtain⟨bT,ae,q,h2,aA,aS⟩:=xO (P:=P) w base t o.type e i z size bytes B j D r f E y v n xs l S A m c news p h1 b g d;unfold Oper.wp execOp;simp only[k,resolve,invoke,builtin,Sem.run_bind,Sem.run_pure,Result.andThen_ok,List.map_toArray,List.map_cons,List.map_nil,au,C,q];exact h bT ae h2 aA aS
theorem fe{ops rest o a Q}(k:o.guard=none)(s x t)(p:o.op=.call {callee:=.builtin .append,args:=#[s,x],argTypes:=#[t,t]})(base e i z size bytes)(C:P.underlying t=some (.slice e))(l:P.info? e=some i)(E:i.zero=some z)(y:i.size=size)(g:i.bytes=bytes)(F:z.cells.size=size)(B:0<size)(v n xs)(au:a.eval s=v)(q:w.ownsRow base e size v n xs)(S A m c news)(D:a.eval x=.slice A m c)(r:dz w S size A m news)(h1:∀u∈news,u.oneCell'=true)(b:n+m<=maxLen)(j:(n+m)*bytes<=140737488355328)(f:base<=w.heap.size)(h:∀bT ae,ae.ownsRow base e size bT (n+m) (xs++news)->w.grownBy ae v.ownBlock->(bT.ownBlock=v.ownBlock\/bT.ownBlock=some w.heap.size)->wpList P ops Q rest (a.put o.dst bT) ae):wpList P ops Q (o::rest) a w:=pS k λ _ d=>xH w s x t p base e i z size bytes C l E y g F B v n xs au q S A m c news D r h1 b j f λ bT ae h2 aA aS=>d _ _ (h bT ae h2 aA aS)
theorem iL{ops o a K Q E}(j:o.guard=none)(s x t)(l:o.op=.call {callee:=.builtin .append,args:=#[s,x],argTypes:=#[t,t]})(base e i z size bytes)(B:P.underlying t=some (.slice e))(k:P.info? e=some i)(D:i.zero=some z)(r:i.size=size)(f:i.bytes=bytes)(F:z.cells.size=size)(y:0<size)(v n xs)(au:a.eval s=v)(p:w.ownsRow base e size v n xs)(S A m c news)(C:a.eval x=.slice A m c)(q:dz w S size A m news)(h1:∀u∈news,u.oneCell'=true)(b:n+m<=maxLen)(g:(n+m)*bytes<=140737488355328)(d:base<=w.heap.size)(h:∀bT ae,ae.ownsRow base e size bT (n+m) (xs++news)->w.grownBy ae v.ownBlock->(bT.ownBlock=v.ownBlock\/bT.ownBlock=some w.heap.size)->K (a.put o.dst bT) ae):if Region.wanted o (yielded ops a.tmps)=true then Oper.wp P o a w K Q else E:=by
 have hw:Region.wanted o (yielded ops a.tmps)=true:=by simp[Region.wanted,j]
 rw[di hw];exact xH w s x t l base e i z size bytes B k D r f F y v n xs au p S A m c news C q h1 b g d h
end
theorem dz.new{w:World}{e:TypeId}{cs:List Value}{size n:Nat}(h:cs.length=n*size):dz (w.alloc (.cells cs.toArray e)) (λ i=>i=w.heap.size) size (some ⟨w.heap.size,0,none⟩) n cs:=
 ⟨h,λ _=>⟨w.heap.size,0,I,I,λ j u hu=>by
  rw[(cu w e cs.toArray).cell]
  simpa using hu⟩⟩
abbrev eW:=@dz.new
theorem dz.Ev{w:World}{o:Obj}{m:Nat}{e:TypeId}{cs:List Value}{size n:Nat}(h:cs.length=n*size):dz (((w.alloc o).drewN m).alloc (.cells cs.toArray e)) (λ i=>i=w.heap.size+1) size (some ⟨w.heap.size+1,0,none⟩) n cs:=by have:=eW (w:=(w.alloc o).drewN m) (e:=e) h;simpa using this
theorem Cd{w:World}{base n size:Nat}{e:TypeId}{v:Value}{xs:List Value}(h:w.ownsRow base e size v n xs)(k:Nat):(w.drewN k).ownsRow base e size v n xs:=h
theorem eO{P:Program}{e:TypeId}{z:Value}{size bytes:Nat}(h:(P.info? e).map (λ i=>(i.zero,i.size,i.bytes))=some (some z,size,bytes)):∃i,P.info? e=some i/\i.zero=some z/\i.size=size/\i.bytes=bytes:=by
 cases a:P.info? e with
 |none=>rw[a]at h;cases h
 |some i=>rw[a]at h;simp only[Option.map_some,Option.some.injEq,Prod.mk.injEq]at h;exact⟨i,I,h.1,h.2.1,h.2.2⟩
theorem Dl(g):∀(vs:List Value) (o:Nat) (w:World) (k:Nat),k≠g->(w.setCells g o vs).heap[k]?=w.heap[k]?
 |[],_,_,_,_=>rfl
 |v::vs,o,w,k,a=>by
  show((w.setCell ⟨g,o,none⟩ v).setCells g (o+1) vs).heap[k]?=_
  rw[Dl g vs (o+1) _ k a,Below.heap_setCell _ _ _ _ a]
theorem tk(g w o vs):aw (·≠g) w (w.setCells g o vs):=by
 have key:∀(vs:List Value) (o:Nat) (w:World),(w.setCells g o vs).os=w.os/\(w.setCells g o vs).tape=w.tape/\(w.setCells g o vs).output=w.output/\(w.setCells g o vs).heap.size=w.heap.size:=by
  intro vs;induction vs with
  |nil=>intro o w;exact⟨I,I,I,I⟩
  |cons v vs c=>intro o w;have:=c (o+1) (w.setCell ⟨g,o,none⟩ v);have b:(w.setCell ⟨g,o,none⟩ v).heap.size=w.heap.size:=(by simp[World.setCell]);exact⟨this.1,this.2.1,this.2.2.1,this.2.2.2.trans b⟩
 have:=key vs o w;exact⟨this.1,this.2.1,this.2.2.1,by rw[this.2.2.2];exact Nat.le_refl _,λ k a=>Dl g vs o w k a⟩
def eY(cs:Array Value):Nat->List Value->Array Value
 |_,[]=>cs
 |o,v::vs=>eY (cs.setIfInBounds o v) (o+1) vs
theorem aC.setCells{g t}:∀(vs:List Value) (o:Nat) (w:World) (cs:Array Value),aC w g t cs->aC (w.setCells g o vs) g t (eY cs o vs)
 |[],_,_,_,h=>h
 |v::vs,o,w,_,h=>aC.setCells vs (o+1) (w.setCell ⟨g,o,none⟩ v) _ (h.jO o v)
theorem aC.there{w g t cs}(h:aC w g t cs){o n}(aJ:o+n<=cs.size):w.there g o n:=λ j a=>⟨by rw[h.cell];simp;omega,h.frozen _⟩
section
variable {P:Program} {ops:Array Oper} {rest:List Oper} {op:Oper} {a:Act} {w:World} {Q:Exit->Act->World->Prop}
theorem qq(d:op.guard=none)(ty x y)(f:op.op=.store ty x y)(g o t cs vs)(i:a.eval x=.pointer (some ⟨g,o,none⟩))(j:a.eval y=.agg vs.toArray)(b:aC w g t cs)(c:o+vs.length<=cs.size)(e:(P.info? ty).map (·.size)=some vs.length)(h1:vs.all (·.oneCell')=true)(h:∀ae,aC ae g t (eY cs o vs)->aw (·≠g) w ae->wpList P ops Q rest (a.put op.dst undef) ae):wpList P ops Q (op::rest) a w:=by refine wpList_store_mid d ty x y f g o vs.toArray i j (b.there (ax c)) (ax e) (ax h1) ?_;exact h _ (ax (b.setCells vs o)) (ax (tk g w o vs))
theorem run_storeVar_one(g o ty v)(c:w.there g o 1)(b:(P.info? ty).map (·.size)=some 1)(d:v.cells=#[v])(h1:v.oneCell'=true):(storeVar ty ⟨g,o,none⟩ v).run P w=.ok () (w.setCell ⟨g,o,none⟩ v):=by
 have:=run_storeCells_cells (P:=P) g o [v] 0 w (λ j a=>by simpa using (c j (ax a)).1) (λ j a=>by simpa using (c j (ax a)).2) (λ u hu=>by simp at hu;subst hu;exact h1);cases aB:P.info? ty with
 |none=>simp[aB]at b
 |some i=>
  have au:i.size=1:=by simpa [aB]using b
  simp only[Nat.add_zero]at this;have e:w.setCells g o [v]=w.setCell ⟨g,o,none⟩ v:=I;rw[e]at this;simp[storeVar,sizeOf,typeInfo,aB,d,au,this]
theorem dO(d:op.guard=none)(ty:TypeId)(x y:Operand)(f:op.op=.store ty x y)
  (g o:Nat)(t:TypeId)(cs:Array Value)(v:Value)(j:a.eval x=.pointer (some ⟨g,o,none⟩))(k:a.eval y=v)(b:aC w g t cs)(l:o<cs.size)
  (e:(P.info? ty).map (·.size)=some 1)(i:v.cells=#[v])(h1:v.oneCell'=true)
  (h:∀ae,aC ae g t (cs.setIfInBounds o v)->aw (·≠g) w ae->wpList P ops Q rest (a.put op.dst undef) ae):wpList P ops Q (op::rest) a w:=
 pS d λ _ c=>by
  unfold Oper.wp execOp
  simp only[f,j,k,Instr.storeAt,Instr.sureAddr,Sem.run_bind,Sem.run_pure,Result.andThen_ok,run_storeVar_one g o ty v (b.there O) e i h1]
  exact c _ _ (h _ (b.jO o v) (tk g w o [v]))
theorem px(e:op.guard=none)(ty:TypeId)(x:Operand)(i:op.op=.load ty x)
  (g o:Nat)(t:TypeId)(cs:Array Value)(vs:List Value)(d:TypeDesc)(m:a.eval x=.pointer (some ⟨g,o,none⟩))(b:aC w g t cs)(l:∀j v,vs[j]?=some v->cs[o+j]?=some v)
  (hu:P.underlying ty=some d)(c:d.isRow=true)(f:(P.info? ty).map (·.size)=some vs.length)
  (h:wpList P ops Q rest (a.put op.dst (.agg vs.toArray)) w):wpList P ops Q (op::rest) a w:=
 oP e ty x i g o m vs d (λ j v k=>by rw[b.cell];exact l j v k) hu c f h
end
theorem gP{fn p ty}(h:fn.results=#[.cell p ty])(tmps P w a v)(hp:tmps.getD p undef=.pointer (some a))(b:(loadVar ty a).run P w=.ok v w):(results fn tmps).run P w=.ok v w:=by simp only[results,h];simp only[Array.getD_eq_getD_getElem?]at hp;simp[Sem.run_bind,Result.andThen,hp,asAddr,b]
theorem gT{fn p u ty}(h:fn.results=#[.cell p ty,.tmp u])(tmps P w a v x)(hp:tmps.getD p undef=.pointer (some a))(b:tmps.getD u undef=x)(c:(loadVar ty a).run P w=.ok v w):(results fn tmps).run P w=.ok (.tuple #[v,x]) w:=by simp only[results,h];simp only[Array.getD_eq_getD_getElem?]at hp b;simp[Sem.run_bind,Result.andThen,hp,asAddr,c,b]
theorem ez{P:Program}{w:World}{g o:Nat}{t ty:TypeId}{cs:Array Value}(vs:List Value)(d:TypeDesc)(a:aC w g t cs)(f:∀j v,vs[j]?=some v->cs[o+j]?=some v)
  (hu:P.underlying ty=some d)(b:d.isRow=true)(c:(P.info? ty).map (·.size)=some vs.length):(loadVar ty ⟨g,o,none⟩).run P w=.ok (.agg vs.toArray) w:=
 run_loadVar_mid w g o ty vs d (λ j v e=>by rw[a.cell];exact f j v e) hu b c
open Go.RowKit Go.Proofs.Tryz
def bE(x:Int):List Value:=[.int .i64 x]
theorem eB(x):(bE x).length=1:=I
theorem jG(x):∀u∈bE x,u.oneCell'=true:=by intro u hu;simp[bE]at hu;subst hu;rfl
structure bz where
 kind:Int
 inc:Int
 aH:Int
 bI:Int
 bb:Int
 ord:Int
 val:Int
def dG(e:bz):List Value:=[.int .i64 e.kind,.int .i64 e.inc,.int .i64 e.aH,.int .i64 e.bI,.int .i64 e.bb,.int .i64 e.ord,.int .i64 e.val]
theorem jy(x):(dG x).length=7:=I
theorem tA(d):∀u∈dG d,u.oneCell'=true:=by intro u hu;simp[dG]at hu;rcases hu with h|h|h|h|h|h|h<;>subst h<;>rfl
structure ev where
 idx:Int
 ord:Int
 aa:Int
 val:Int
def dF(m:ev):List Value:=[.int .i64 m.idx,.int .i64 m.ord,.int .i64 m.aa,.int .i64 m.val]
theorem kE(x):(dF x).length=4:=I
theorem nY(d):∀u∈dF d,u.oneCell'=true:=by intro u hu;simp[dF]at hu;rcases hu with h|h|h|h<;>subst h<;>rfl
structure nL where
 idx:Int
 val:Int
def mJ(m:nL):List Value:=[.int .i64 m.idx,.int .i64 m.val]
theorem Gv(x):(mJ x).length=2:=I
theorem Ea(d):∀u∈mJ d,u.oneCell'=true:=by intro u hu;simp[mJ]at hu;rcases hu with h|h<;>subst h<;>rfl
structure de where
 cells:List Int
 events:List bz
 cD:List ev
 outs:List nL
def ec(w:World)(S:Nat->Prop)(cs:List Value)(s:de):Prop:=∃(a b bY cC:Option Addr) (g c h d i e j f:Nat),cs=[.slice a g c,.slice b h d,.slice bY i e,.slice cC j f]/\bl bE 1 w S a g c s.cells/\bl dG 7 w S b h d s.events/\bl dF 4 w S bY i e s.cD/\bl mJ 2 w S cC j f s.outs
theorem ec.aq{w ae S cs s}(h:ec w S cs s)(a:aw S w ae):ec ae S cs s:=by obtain⟨b,c,bY,cC,j,d,k,f,l,g,m,i,e,h1,h2,aA,aS⟩:=h;exact⟨b,c,bY,cC,j,d,k,f,l,g,m,i,e,h1.aq a,h2.aq a,aA.aq a,aS.aq a⟩
theorem ec.more{w S T cs s}(h:ec w S cs s)(a:∀i,S i->T i):ec w T cs s:=by obtain⟨b,c,bY,cC,k,d,l,f,m,g,n,j,e,h1,h2,aA,aS⟩:=h;exact⟨b,c,bY,cC,k,d,l,f,m,g,n,j,e,h1.more a,h2.more a,aA.more a,aS.more a⟩
open Go.RowKit Go.Proofs.Tryz
def Rest(w:World)(base:Nat)(v:Value)(i:Nat):Prop:=base<=i/\i<w.heap.size/\v.ownBlock≠some i
def cP(w:World)(base:Nat)(i:Nat):Prop:=base<=i/\i<w.heap.size
structure Good {α:Type} (R:World->(Nat->Prop)->List Value->α->Prop):Prop where
 aq:∀{w ae:World} {S:Nat->Prop} {cs:List Value} {a:α},aw S w ae->R w S cs a->R ae S cs a
 more:∀{w:World} {S T:Nat->Prop} {cs:List Value} {a:α},(∀i,S i->T i)->R w S cs a->R w T cs a
section
variable {α:Type} {R:World->(Nat->Prop)->List Value->α->Prop} {size base:Nat} {e:TypeId} {w ae W:World} {v bT:Value} {l:List α} {T:Nat->Prop}
def fB(R:World->(Nat->Prop)->List Value->α->Prop)(size:Nat)(e:TypeId)(w:World)(base:Nat)(v:Value)(l:List α):Prop:=∃aP:List (List Value),aP.length=l.length/\(∀cs∈aP,cs.length=size)/\w.ownsRow base e size v l.length aP.flatten/\∀(k:Nat) (cs:List Value) (a:α),aP[k]?=some cs->l[k]?=some a->R w (Rest w base v) cs a
theorem fB.ji:fB R size e w base (.slice none 0 0) ([]:List α):=⟨[],I,aT,ee _ _ _ _,aT⟩
abbrev uG:=@fB.ji
theorem fB.same(d:Good R)(h:fB R size e w base v l)(c:aw T w ae)(f:∀i,base<=i->i<w.heap.size->T i):fB R size e ae base v l:=by obtain⟨aP,h1,h2,aA,aS⟩:=h;refine⟨aP,h1,h2,dy aA c (λ i b=>f i b.1 b.2),λ k cs a g j=>d.more ?_ (d.aq (c.mono (λ i (b:Rest w base v i)=>f i b.1 b.2.1)) (aS k cs a g j))⟩;exactλ i b=>⟨b.1,cQ b.2.1 c.size,b.2.2⟩
theorem fB.push(m:Good R){aP:List (List Value)}{cs}{a:α}(h1:aP.length=l.length)(h2:∀cs∈aP,cs.length=size)(aS:∀(k:Nat) (cs:List Value) (a:α),aP[k]?=some cs->l[k]?=some a->R w (Rest w base v) cs a)(n:ab w W)(y:ae.ownsRow base e size bT (l.length+1) (aP.flatten++cs))(x:W.grownBy ae v.ownBlock)(t:bT.ownBlock=v.ownBlock\/bT.ownBlock=some W.heap.size)(av:cs.length=size)(s:R w (Rest w base v) cs a):fB R size e ae base bT (l++[a]):=by
 have z:=n.size;have j:aw (Rest w base v) w ae:=jA (cS n (λ i (b:Rest w base v i)=>b.2.1)) x (λ i b=>an b.2.1) (λ k g au=>au.2.2 g);have A:=j.size
 have hm:∀i,Rest w base v i->Rest ae base bT i:=λ i b=>⟨b.1,Nat.lt_of_lt_of_le b.2.1 j.size,by
  rcases t with h|h
  ·rw[h];exact b.2.2
  ·rw[h];intro o;injection o with o;have:=b.2.1;omega⟩
 refine⟨aP++[cs],by simp[h1],?_,ax y,λ k cs' p f d=>?_⟩
 ·intro c u;rcases List.mem_append.1 u with h|h
  ·exact h2 c h
  simp at h;rw[h];exact av
 refine m.more hm (m.aq j ?_);rcases Nat.lt_or_ge k l.length with g|g
 ·rw[List.getElem?_append_left O]at f;rw[List.getElem?_append_left g]at d;exact aS k cs' p f d
 rw[List.getElem?_append_right O]at f;rw[List.getElem?_append_right g]at d;have q:k-l.length=0:=by have:=(List.getElem?_eq_some_iff.1 d).1;simpa using this
 have r:k-aP.length=0:=O;rw[q]at d;rw[r]at f;simp at f d;subst f d;exact s
theorem fB.done(g:Good R)(h:fB R size e w base v l):∃A c,v=.slice A l.length c/\cN w (cP w base) size (R w (cP w base)) A l.length c l:=by obtain⟨aP,h1,h2,aA,aS⟩:=h;obtain⟨A,c,rfl,aJ,av⟩:=dZ aA;exact⟨A,c,I,I,aJ,av,aP,h1,h2,lX aA,λ k cs a d f=>g.more (λ i b=>⟨b.1,b.2.1⟩) (aS k cs a d f)⟩
theorem fB.fresh(h:fB R size e w base v l){i:Nat}(a:w.heap.size<=i):v.ownBlock≠some i:=λ e=>by
 obtain⟨aP,_,_,aA,_⟩:=h
 have:=(aA.lt i e).2
 omega
theorem fB.len(h:fB R size e w base v l):∃A c,v=.slice A l.length c/\l.length<=c/\c<=maxLen:=by obtain⟨aP,h1,h2,aA,aS⟩:=h;exact dZ aA
theorem cN.one{S t cs a n}(e:aC w n t cs.toArray)(d:S n)(av:cs.length=size)(f:R w S cs a):cN w S size (R w S) (some ⟨n,0,none⟩) 1 1 [a]:=by
 refine⟨I,dq _,by simp[maxLen],[cs],I,by simp[av],⟨by simp[av],λ _=>⟨n,0,I,d,λ j u hu=>?_⟩⟩,λ k cs' g b c=>?_⟩
 ·rw[e.cell];simpa using hu
 cases k with
 |zero=>simp at b c;subst b c;exact f
 |succ k=>simp at b
theorem cN.two{S t cs jc a d n}(g:aC w n t (cs++jc).toArray)(f:S n)(av:cs.length=size)(e:jc.length=size)(h:R w S cs a)(i:R w S jc d):cN w S size (R w S) (some ⟨n,0,none⟩) 2 2 [a,d]:=by
 refine⟨I,dq _,by simp[maxLen],[cs,jc],I,by simp[av,e],⟨by simp[av,e];omega,λ _=>⟨n,0,I,f,λ j u hu=>?_⟩⟩,λ k cs' l b c=>?_⟩
 ·rw[g.cell];simpa using hu
 match k with
 |0=>simp at b c;subst b c;exact h
 |1=>simp at b c;subst b c;exact i
 |k+2=>simp at b
end
structure cy where
 proc:Int
 idx:Int
 af:bz
def da(d:cy):List Value:=.int .i64 d.proc::.int .i64 d.idx::dG d.af
theorem lN(d):(da d).length=9:=I
theorem mU(d):∀u∈da d,u.oneCell'=true:=by intro u hu;simp[da,dG]at hu;rcases hu with h|h|h|h|h|h|h|h|h<;>subst h<;>rfl
structure cV where
 az:cy
 hold:Int
def cB(k:cV):List Value:=da k.az++[.int .u32 k.hold]
theorem ff(k):(cB k).length=10:=I
theorem qm(k):∀u∈cB k,u.oneCell'=true:=by
 intro u hu;rcases jV.1 hu with h|h
 ·exact mU k.az u h
 simp at h;subst h;rfl
def gz(d:cy):List Int:=[d.proc,d.idx,d.af.inc,d.af.kind,d.af.aH,d.af.bI,d.af.bb,d.af.ord,d.af.val]
theorem Lo{a b}(h:gz a=gz b):a=b:=by obtain⟨p,i,k,n,f,s,t,o,v⟩:=a;obtain⟨w,m,q,r,l,x,y,u,bT⟩:=b;simp[gz]at h;obtain⟨h1,h2,aA,aS,c,d,e,g,j⟩:=h;subst h1 h2 aA aS c d e g j;rfl
def iF:List Int->List Int->Int
 |a::c,b::d=>if a<b then -1 else if b<a then 1 else iF c d
 |_,_=>0
theorem DE:∀{a b:List Int},a.length=b.length->iF a b=0->a=b
 |[],[],_,_=>rfl
 |x::a,y::b,h,h0=>by
  unfold iF at h0
  split at h0
  ·omega
  ·split at h0
   ·omega
   ·obtain rfl:x=y:=O
    rw[DE (ax h) h0]
 |[],_::_,h,_=>by simp at h
 |_::_,[],h,_=>by simp at h
theorem Ft:∀(a:List Int),iF a a=0
 |[]=>rfl
 |x::a=>by
  unfold iF
  rw[dg O,dg O,Ft a]
theorem EY:∀(a b:List Int),0<iF a b->iF b a<0
 |x::a,y::b,h=>by
  unfold iF at h⊢
  split at h
  ·omega
  ·split at h
   ·rw[di (by assumption)];omega
   ·rw[dg O,dg O]
    exact EY a b h
 |[],_,h=>by simp[iF]at h
 |_::_,[],h=>by simp[iF]at h
theorem DP:∀{a b c:List Int},a.length=b.length->b.length=c.length->iF a b<0->iF b c<0->iF a c<0
 |x::a,y::b,z::c,h1,h2,d,bX=>by
  unfold iF at d bX⊢
  split at d
  ·split at bX
   ·rw[di O];omega
   ·split at bX
    ·omega
    ·rw[di O];omega
  ·split at d
   ·omega
   ·split at bX
    ·rw[di O];omega
    ·split at bX
     ·omega
     ·rw[dg O,dg O]
      exact DP (ax h1) (ax h2) d bX
 |[],_,_,_,_,d,_=>by simp[iF]at d
 |_::_,[],_,h1,_,_,_=>by simp at h1
 |_::_,_::_,[],_,h2,_,_=>by simp at h2
def ku(a b:cy):Int:=iF (gz a) (gz b)
def ni(a b:cy):Prop:=ku a b<0
theorem Cx{a b c}(h:ni a b)(k:ni b c):ni a c:=DP (b:=gz b) (by simp[gz]) (by simp[gz]) h k
theorem Je{a b}(h:ni a b):a≠b:=λ e=>by
 subst e
 have:=Ft (gz a)
 unfold ni ku at h
 omega
theorem MW{a b}(h:ku a b<=0)(c:a≠b):ni a b:=by
 unfold ni;rcases Int.lt_or_le (ku a b) 0 with h1|h1
 ·exact h1
 have h2:iF (gz a) (gz b)=0:=by unfold ku at h h1;omega
 exact absurd (Lo (DE (by simp[gz]) h2)) c
theorem Du{a b}(h:0<ku a b):ni b a:=EY _ _ h
abbrev lv(l:List cy):Prop:=l.Pairwise ni
theorem lv.ins{l k d}(h:lv l)(s:k<=l.length)(m:∀i e,k<=i->l[i]?=some e->0<ku e d)(dN:∀e,0<k->l[k-1]?=some e->ku e d<=0/\e≠d):lv (l.take k++d::l.drop k):=by
 have q:∀(i:Nat) e,i<k->l[i]?=some e->ni e d:=λ i e c he=>by
  obtain⟨r,o⟩:∃h1:k-1<l.length,l[k-1]?=some l[k-1]:=⟨O,dA O⟩;have h1:=dN _ O o;have h2:ni l[k-1] d:=MW h1.1 h1.2;by_cases f:i=k-1
  ·subst f;rw[o]at he;injection he with he;rw[<-he];exact h2
  have n:i<l.length:=O;have:=List.pairwise_iff_getElem.1 h i (k-1) n r O;rw[dA n]at he;injection he with he;rw[<-he];exact Cx this h2
 refine List.pairwise_append.2 ⟨h.sublist (List.take_sublist _ _),List.pairwise_cons.2 ⟨λ e he=>?_,h.sublist (List.drop_sublist _ _)⟩,λ a p b g=>?_⟩
 ·obtain⟨j,f⟩:=vB.1 he;rw[oa]at f;exact Du (m _ e O f)
 obtain⟨i,c⟩:=vB.1 p;rw[mT]at c;split at c
 ·have h1:=q i a (by assumption) c;rcases yg.1 g with rfl|g
  ·exact h1
  obtain⟨j,f⟩:=vB.1 g;rw[oa]at f;exact Cx h1 (Du (m _ b O f))
 cases c
theorem EF{α:Type}:∀{l U:List α},l.Nodup->(∀x∈l,x∈U)->l.length<=U.length
 |[],U,_,_=>aT
 |x::l,U,aJ,au=>by
  obtain⟨s,t,rfl⟩:=List.append_of_mem (au x aT)
  have a:=List.nodup_cons.1 aJ
  have:=EF (l:=l) (U:=s++t) a.2 (λ y b=>by
   have h1:=au y (by simp[b])
   simp only[List.mem_append,List.mem_cons]at h1⊢
   rcases h1 with h1|h1|h1
   ·exact .inl h1
   ·subst h1;exact absurd b a.1
   ·exact .inr h1)
  simp only[List.length_append,List.length_cons]at this⊢
  omega
theorem lv.le{l U:List cy}(h:lv l)(au:∀x∈l,x∈U):l.length<=U.length:=EF (h.imp (λ h=>Je h)) au
def jz(U:List cy)(l:List cy):Prop:=lv l/\∀x∈l,x∈U
def gG(U:List cy)(l:List cV):Prop:=jz U (l.map cV.az)
theorem jz.len{U l}(h:jz U l):l.length<=U.length:=h.1.le h.2
theorem gG.len{U l}(h:gG U l):l.length<=U.length:=ax (jz.len h)
theorem jz.nil{U}:jz U []:=⟨List.Pairwise.nil,aT⟩
theorem gG.nil{U}:gG U []:=jz.nil
theorem jz.sub{U l l'}(h:jz U l)(au:l'.Sublist l):jz U l':=⟨h.1.sublist au,λ x a=>h.2 x (au.subset a)⟩
theorem gG.sub{U l l'}(h:gG U l)(au:l'.Sublist l):gG U l':=jz.sub h (au.map _)
theorem jz.more{U V l}(h:jz U l)(au:∀x∈U,x∈V):jz V l:=⟨h.1,λ x a=>au x (h.2 x a)⟩
def Row{α:Type}(enc:α->List Value)(cur:Array Value)(l:List α):Prop:=∀(j:Nat) (u:Value),(l.flatMap enc)[j]?=some u->cur[j]?=some u
section
variable {α:Type} {enc:α->List Value} {size:Nat} {cur jq:Array Value} {l:List α}
theorem Row.jO(au:∀a,(enc a).length=size){k:Nat}{e':α}(o:k<l.length)(h:Row enc cur l)(g:∀j,(j<k*size\/k*size+size<=j)->jq[j]?=cur[j]?)(f:∀r u,(enc e')[r]?=some u->jq[k*size+r]?=some u):Row enc jq (l.set k e'):=by
 intro j u hu;have e:j<(l.set k e').length*size:=by have:=(dV.1 hu).1;rwa [lg au]at this
 have m:0<size:=by
  rcases qD size with h0|h0
  ·subst h0;omega
  exact h0
 have hlen:(l.set k e').length=l.length:=aT;have b:j/size<l.length:=by rw[hlen]at e;exact Nat.div_lt_of_lt_mul (by rw[Nat.mul_comm];exact e)
 have d:j%size<size:=Nat.mod_lt _ m;have c:j/size*size+j%size=j:=Nat.div_add_mod' j size;generalize j/size=i at b c;generalize j%size=r at d c;subst c;rw[flat_get au (l.set k e') i r (by rw[hlen];exact b) d]at hu;by_cases c:k=i
 ·subst c;rw[List.getElem_set_self]at hu;exact f r u hu
 rw[List.getElem_set_ne c]at hu;have h1:=h (i*size+r) u (by rw[flat_get au l i r b d];exact hu);rw[g _ ?_]
 ·exact h1
 rcases jB i k with dN|n
 ·left;have:=nG size (show i+1<=k from dN);rw[nO]at this;omega
 right;have:=nG size (show k+1<=i from O);rw[nO]at this;omega
theorem Hd{m:Nat}(h:Row enc cur l)(hm:(l.flatMap enc).length=m)(av:m<=cur.size):cur.toList.take m=l.flatMap enc:=by
 apply pJ;intro j;rw[mT];split
 ·rename_i b;have a:j<(l.flatMap enc).length:=O;rw[dA a];have:=h j _ (dA a);simpa using this
 rename_i b;rw[lH O]
theorem GG{m}(h:cur.toList.take m=l.flatMap enc):Row enc cur l:=by
 intro j u hu;rw[<-h,mT]at hu;split at hu
 ·simpa using hu
 cases hu
theorem qQ{w base n c e A xs}(h:w.ownsRow base e size (.slice A n c) n xs)(aJ:0<n):∃g cur,A=some ⟨g,0,none⟩/\base<=g/\aC w g e cur/\cur.size=c*size/\n<=c/\c<=maxLen/\cur.toList.take (n*size)=xs:=by
 rcases h.2 with ⟨a,h0⟩|⟨g,cap,cur,a,b,i,j,d,f,k⟩
 ·omega
 simp only[Value.slice.injEq,true_and]at a;obtain⟨rfl,rfl⟩:=a;exact⟨g,cur,I,b,i,f,j,d,k⟩
theorem MM{w}{base g n c:Nat}{e}(au:∀a,(enc a).length=size)(d:base<=g)(h:aC w g e cur)(av:cur.size=c*size)(b:n<=c)(hm:c<=maxLen)(i:Row enc cur l)(f:l.length=n):w.ownsRow base e size (.slice (some ⟨g,0,none⟩) n c) n (l.flatMap enc):=by
 have hlen:(l.flatMap enc).length=n*size:=by rw[lg au,f]
 exact⟨hlen,.inr ⟨g,c,cur,I,d,h,b,hm,av,Hd i hlen (by rw[av];exact nG _ b)⟩⟩
theorem tU{ae base g n c k o ty e e' v}(au:∀a,(enc a).length=size)(h:base<=g)(i:aC ae g ty (cur.setIfInBounds (k*size+o) v))(m:cur.size=c*size)(s:n<=c)(hm:c<=maxLen)(x:cur.toList.take (n*size)=l.flatMap enc)(q:l.length=n)(he:l[k]?=some e)(t:o<size)(p:enc e'=(enc e).set o v):ae.ownsRow base ty size (.slice (some ⟨g,0,none⟩) n c) n ((l.set k e').flatMap enc):=by
 have b:k<l.length:=(dV.1 he).1;have f:=GG x;have z:k*size+size<=cur.size:=by have h1:=nG size (show k+1<=c from O);rw[nO]at h1;omega
 refine MM au h i (ax m) s hm (Row.jO au b f (λ j y=>?_) (λ r u hu=>?_)) (ax q)
 ·rw[Br,dg O]
 have w:r<size:=by rw[<-au e'];exact(dV.1 hu).1
 rw[p,uU]at hu;rw[Br];by_cases d:o=r
 ·subst d;rw[di I,di (by rw[au];exact t)]at hu;rw[di I,di O];exact hu
 rw[dg d]at hu;rw[dg O];refine f _ u ?_;rw[flat_get au l k r b w];have:l[k]=e:=by have:=dA b;rw[he]at this;injection this with this;exact this.symm
 rw[this];exact hu
end
section
variable {P:Program} {ops:Array Oper} {Q:Exit->Act->World->Prop} {md:Region.Mode} {S:Array Bool->World->Prop}
def wpAnyL(P:Program)(md:Region.Mode)(ops:Array Oper)(Q:Exit->Act->World->Prop)(S:Array Bool->World->Prop):Nat->Array Bool->Act->World->Prop
 |0,l,a,w=>Region.ready md ops l=[]/\Q .normal a w
 |n+1,l,a,w=>(Region.ready md ops l=[]->Q .normal a w)/\
  ∀i∈Region.ready md ops l,wpOp P ops Q i (λ b ae=>S (l.setIfInBounds i true) ae/\wpAnyL P md ops Q S n (l.setIfInBounds i true) b ae) a w
theorem FC:∀(n:Nat) (l:Array Bool) (a:Act) (w:World),wpAnyL P md ops Q S n l a w->wpAny P md ops Q n l a w
 |0,_,_,_,h=>h
 |n+1,_,_,_,h=>⟨h.1,λ i d=>wpOp_mono (λ b ae c=>FC n _ b ae c.2) (h.2 i d)⟩
def lG(md:Region.Mode)(ops:Array Oper)(l:Array Bool):Prop:=∀j o,ops[j]?=some o->l.getD j false=true->∀e∈o.after,Region.binds md e=true->l.getD e.on false=true
theorem lG.start:lG md ops (Array.replicate ops.size false):=by intro j o _ h;rw[Array.getD_eq_getD_getElem?,Array.getElem?_replicate]at h;split at h<;>simp at h
theorem lG.jO{l j}(h:lG md ops l)(i:j∈Region.ready md ops l):lG md ops (l.setIfInBounds j true):=by
 intro k o f c e he b;by_cases d:j=k
 ·subst d;obtain⟨_,m,a,g⟩:=tv.1 i;rw[f]at a;injection a with a;subst a;exact getD_set_true (g e he b)
 rw[pT false d]at c;exact getD_set_true (h k o f c e he b)
theorem lG.uu{l}(h:lG md ops l){i k}(he:((ops[k]?).map (λ o=>o.after.any (λ e=>e.on==i&&Region.binds md e))).getD false=true)(c:l.getD i false=false):l.getD k false=false:=by
 cases b:ops[k]? with
 |none=>rw[b]at he;cases he
 |some o=>
  rw[b]at he;simp only[Option.map_some,Option.getD_some]at he;obtain⟨e,hm,a⟩:=Array.any_eq_true'.1 he;simp only[Bool.and_eq_true,beq_iff_eq]at a;cases d:l.getD k false with
  |false=>rfl
  |true=>have:=h k o b d e hm a.2;rw[a.1,c]at this;cases this
theorem wpAnyL_first{i m v T}(t:ops[i]?=some m)(C:∀(j:Nat) (o:Oper) cs b,ops[j]?=some o->o.op≠.select cs b)(F:∀c a w,Q (.panic c) (a.put m.dst v) w->Q (.panic c) a w)(y:∀l w,lG md ops l->l.getD i false=false->S (l.setIfInBounds i true) w->T w)(G:∀l w,S (l.setIfInBounds i true) w->S l w):∀(n:Nat) (l:Array Bool) (a:Act) (w:World),lG md ops l->(∀j g,ops[j]?=some g->j≠i->l.getD j true=false->(∀e∈g.after,Region.binds md e=true->e.on≠i)->m.apart ops g=true)->i∈Region.ready md ops l->YieldsIf P ops T m v a->S (l.setIfInBounds i true) w->wpAnyL P md ops Q S n (l.setIfInBounds i true) (a.put m.dst v) w->wpAnyL P md ops Q S (n+1) l a w:=by
 have dN:∀l:Array Bool,l.getD i true=false->l.getD i false=false:=λ l h=>by
  rcases Nat.lt_or_ge i l.size with s|s
  ·simpa [s]using h
  simp[Array.getElem?_eq_none s]at h
 intro n;induction n with
 |zero=>
  intro l a w av _ d r p H;refine⟨λ h=>(by rw[h]at d;cases d),λ j q=>?_⟩;by_cases f:j=i
  ·subst f;exact r.wpOp t (y _ _ av (dN _ (tv.1 d).1) p) ⟨p,H⟩
  have:=ready_mono q f;rw[H.1]at this;cases this
 |succ n W=>
  intro l a w av z d r p H;refine⟨λ h=>(by rw[h]at d;cases d),λ j q=>?_⟩;by_cases f:j=i
  ·subst f;exact r.wpOp t (y _ _ av (dN _ (tv.1 d).1) p) ⟨p,H⟩
  have h1:=H.2 j (ready_mono q f);obtain⟨B,g,u,K⟩:=tv.1 q;have V:∀e∈g.after,Region.binds md e=true->e.on≠i:=λ e he L heq=>by have h1:=K e he L;rw[heq,dN _ (tv.1 d).1]at h1;cases h1
  have h2:=wpOp_putIf u (z j g u f B V) (λ cs b=>C i m cs b t) (λ cs b=>C j g cs b u) F r h1;refine wpOp_mono (λ E ae aA=>?_) h2;have M:(l.setIfInBounds i true).setIfInBounds j true=(l.setIfInBounds j true).setIfInBounds i true:=Array.setIfInBounds_comm _ _ (eM f);have aS:=aA.2.1;have x:=aA.2.2;rw[M]at aS x;refine⟨G _ _ aS,W (l.setIfInBounds j true) E ae (av.jO q) (λ k ok N R D U=>?_) (ready_mono d (eM f)) aA.1 aS x⟩;refine z k ok N R ?_ U;by_cases A:j=k
  ·subst A;exact B
  rw[pT true A]at D;exact D
end
def hP(k:Nat)(A B:World->Prop)(l:Array Bool)(w:World):Prop:=(l.getD k false=false->A w)/\B w
theorem hP.both{k A B l w}(a:A w)(b:B w):hP k A B l w:=⟨λ _=>a,b⟩
theorem hP.vT{k A B l w}(b:l.getD k false=true)(a:B w):hP k A B l w:=⟨λ h=>(by rw[b]at h;cases h),a⟩
def fV(P:Program)(ops:Array Oper)(Q:Exit->Act->World->Prop)(k:Nat)(A B:World->Prop)(n:Nat)(l:Array Bool)(a:Act)(w:World):Prop:=lG .any ops l->wpAnyL P .any ops Q (hP k A B) n l a w
section
variable {P:Program} {ops:Array Oper} {Q:Exit->Act->World->Prop} {k:Nat} {A B:World->Prop} {n:Nat} {l:Array Bool} {a:Act} {w:World}
theorem eE(k A B){id}(hm:P.follows .mixedOrders=true)(b:A w.drew)(c:B w.drew)(h:A w.drew->B w.drew->fV P ops Q k A B ops.size (Array.replicate ops.size false) a w.drew):(Code.region id ops true).wp P Q a w:=wp_region_any hm (FC _ _ _ _ (h b c lG.start))
theorem fy{id:Nat}(h:∀u,ab w u->True->fV P ops Q 99 (λ _=>True) (λ J=>ab w J) ops.size (Array.replicate ops.size false) a u)(hm:P.follows .mixedOrders=true:=by kernel_rfl):(Code.region id ops true).wp P Q a w:=eE 99 (λ _=>True) (λ J=>ab w J) hm aD (dx (aN _ _)) (λ _ b=>h _ b aD)
theorem fS(k:Nat){id:Nat}(h:∀u,ab w u->True->fV P ops Q k (λ J=>ab w J) (λ _=>True) ops.size (Array.replicate ops.size false) a u)(hm:P.follows .mixedOrders=true:=by kernel_rfl):(Code.region id ops true).wp P Q a w:=eE k (λ J=>ab w J) (λ _=>True) hm (dx (aN _ _)) aD (λ b _=>h _ b aD)
theorem Dw{i:Nat}{d:Oper}{v:Value}(f:ops.toList[i]?=some d)(au:Region.noSelect ops=true)(t:Region.free .any ops l i=true)(m:(Region.ready .any ops l).contains i=true)
  (he:((ops[k]?).map (λ o=>o.after.any (λ e=>e.on==i&&Region.binds .any e))).getD false=true)(j:i≠k)
  (r:∀c a w,Q (.panic c) (a.put d.dst v) w->Q (.panic c) a w)(u:YieldsIf P ops (λ w=>A w/\B w) d v a)(p:A w)(q:B w)
  (h:fV P ops Q k A B n (l.setIfInBounds i true) (a.put d.dst v) w):fV P ops Q k A B (n+1) l a w:=λ av=>
 have g:ops[i]?=some d:=by rw[<-qH];exact f
 wpAnyL_first g (zf au) r (λ l' ae s f b=>⟨b.1 (by rw[pT false j];exact s.uu he f),b.2⟩)
  (λ l' ae b=>⟨λ h0=>b.1 (by rw[pT false j];exact h0),b.2⟩) n l a w av (zU g t) (ax m) u ⟨λ _=>p,q⟩
  (h (av.jO (ax m)))
theorem AP{i:Nat}{d:Oper}{v:Value}(f:ops.toList[i]?=some d)(au:Region.noSelect ops=true)(o:Region.free .any ops l i=true)(j:(Region.ready .any ops l).contains i=true)(g:i≠k)
  (m:∀c a w,Q (.panic c) (a.put d.dst v) w->Q (.panic c) a w)(p:YieldsIf P ops B d v a)(b:hP k A B l w)
  (h:fV P ops Q k A B n (l.setIfInBounds i true) (a.put d.dst v) w):fV P ops Q k A B (n+1) l a w:=λ av=>
 have e:ops[i]?=some d:=by rw[<-qH];exact f
 wpAnyL_first e (zf au) m (λ l' ae q f b=>b.2)
  (λ l' ae b=>⟨λ h0=>b.1 (by rw[pT false g];exact h0),b.2⟩) n l a w av (zU e o) (ax j) p
  ⟨λ h0=>b.1 (by rw[pT false g]at h0;exact h0),b.2⟩ (h (av.jO (ax j)))
def oV(P:Program)(ops:Array Oper)(Q:Exit->Act->World->Prop)(k:Nat)(A B:World->Prop)(n:Nat)(l:Array Bool)(a:Act)(w:World)(i:Nat):Prop:=wpOp P ops Q i (λ b ae=>hP k A B (l.setIfInBounds i true) ae/\fV P ops Q k A B n (l.setIfInBounds i true) b ae) a w
theorem Ik{i}(c:Region.ready .any ops l=[i])(h:oV P ops Q k A B n l a w i):fV P ops Q k A B (n+1) l a w:=λ av=>
 ⟨λ h0=>(by rw[c]at h0;cases h0),λ j b=>by
  have d:=b
  rw[c]at b
  simp at b
  subst b
  exact wpOp_mono (λ b ae b=>⟨b.1,b.2 (av.jO d)⟩) h⟩
theorem gO{i j}(d:Region.ready .any ops l=[i,j])(h:oV P ops Q k A B n l a w i)(h2:oV P ops Q k A B n l a w j):fV P ops Q k A B (n+1) l a w:=λ av=>
 ⟨λ h0=>(by rw[d]at h0;cases h0),λ m hm=>by
  have c:=hm
  rw[d]at hm
  simp at hm
  rcases hm with rfl|rfl
  ·exact wpOp_mono (λ e ae b=>⟨b.1,b.2 (av.jO c)⟩) h
  ·exact wpOp_mono (λ e ae b=>⟨b.1,b.2 (av.jO c)⟩) h2⟩
theorem Da{i j m}(e:Region.ready .any ops l=[i,j,m])(h:oV P ops Q k A B n l a w i)(h2:oV P ops Q k A B n l a w j)(aA:oV P ops Q k A B n l a w m):fV P ops Q k A B (n+1) l a w:=λ av=>
 ⟨λ h0=>(by rw[e]at h0;cases h0),λ q hm=>by
  have c:=hm
  rw[e]at hm
  simp at hm
  rcases hm with rfl|rfl|rfl
  ·exact wpOp_mono (λ d ae b=>⟨b.1,b.2 (av.jO c)⟩) h
  ·exact wpOp_mono (λ d ae b=>⟨b.1,b.2 (av.jO c)⟩) h2
  ·exact wpOp_mono (λ d ae b=>⟨b.1,b.2 (av.jO c)⟩) aA⟩
theorem oV.mk{i o}(e:ops.toList[i]?=some o)(h:∀K:Act->World->Prop,Shut (∀a w,hP k A B (l.setIfInBounds i true) w->(hP k A B (l.setIfInBounds i true) w->fV P ops Q k A B n (l.setIfInBounds i true) a w)->K a w)->if Region.wanted o (yielded ops a.tmps)=true then Oper.wp P o a w K Q else K (a.put o.dst undef) w):oV P ops Q k A B n l a w i:=wpOp_step (by rw[<-qH];exact e) (λ K c=>h K (λ a w b d=>c a w ⟨b,d b⟩))
abbrev ed:=@oV.mk
theorem cg(b:Region.ready .any ops l=[])(h:Q .normal a w):fV P ops Q k A B n l a w:=λ _=>by
 cases n with
 |zero=>exact⟨b,h⟩
 |succ n=>exact⟨λ _=>h,by rw[b];simp⟩
end
section
variable {P:Program} {ops:Array Oper} {o:Oper} {a:Act} {w:World} {K:Act->World->Prop} {Q:Exit->Act->World->Prop} {E:Prop}
theorem eD(d:o.guard=none)(ty x y)(f:o.op=.store ty x y)(g off t cs vs)(i:a.eval x=.pointer (some ⟨g,off,none⟩))(j:a.eval y=.agg vs.toArray)(b:aC w g t cs)(c:off+vs.length<=cs.size)(e:(P.info? ty).map (·.size)=some vs.length)(h1:vs.all (·.oneCell')=true)(h:∀ae,aC ae g t (eY cs off vs)->aw (·≠g) w ae->K (a.put o.dst undef) ae):if Region.wanted o (yielded ops a.tmps)=true then Oper.wp P o a w K Q else E:=by
 have hw:Region.wanted o (yielded ops a.tmps)=true:=by simp[Region.wanted,d]
 rw[di hw];exact wp_store_mid ty x y f g off vs.toArray i j (b.there (ax c)) (ax e) (ax h1) (h _ (ax (b.setCells vs off)) (ax (tk g w off vs)))
theorem ej(c:o.guard=none)(ty x y)(e:o.op=.store ty x y)(g off t cs v)(i:a.eval x=.pointer (some ⟨g,off,none⟩))(j:a.eval y=v)(b:aC w g t cs)(k:off<cs.size)(d:(P.info? ty).map (·.size)=some 1)(f:v.cells=#[v])(h1:v.oneCell'=true)(h:∀ae,aC ae g t (cs.setIfInBounds off v)->aw (·≠g) w ae->K (a.put o.dst undef) ae):if Region.wanted o (yielded ops a.tmps)=true then Oper.wp P o a w K Q else E:=by
 have hw:Region.wanted o (yielded ops a.tmps)=true:=by simp[Region.wanted,c]
 rw[di hw];unfold Oper.wp execOp;simp only[e,i,j,Instr.storeAt,Instr.sureAddr,Sem.run_bind,Sem.run_pure,Result.andThen_ok,run_storeVar_one g off ty v (b.there O) d f h1];exact h _ (b.jO off v) (tk g w off [v])
theorem gR{T}(hw:Region.wanted o (yielded ops a.tmps)=true)(v)(h:∀w,T w->(execOp a.eval o).run P w=.ok (.value v) w):YieldsIf P ops T o v a:=.inl ⟨hw,h⟩
def DW(A:Option Addr)(c k size:Nat):Option Addr:=if c=k then A else A.map (·.add (k*size))
theorem iS{T:World->Prop}(hw:Region.wanted o (yielded ops a.tmps)=true)(ty:TypeId)(x:Operand)(f:o.op=.load ty x)
  (g off:Nat)(t:TypeId)(cs:Array Value)(vs:List Value)(d:TypeDesc)(l:a.eval x=.pointer (some ⟨g,off,none⟩))(b:∀w,T w->aC w g t cs)(i:∀j v,vs[j]?=some v->cs[off+j]?=some v)
  (hu:P.underlying ty=some d)(c:d.isRow=true)(e:(P.info? ty).map (·.size)=some vs.length):YieldsIf P ops T o (.agg vs.toArray) a:=
 dw hw ty x f g off l vs d (λ w k j v h=>by rw[(b w k).cell];exact i j v h) hu c e
end
section
variable {P:Program} {ops:Array Oper} {Q:Exit->Act->World->Prop} {k:Nat} {A B:World->Prop} {n:Nat} {l:Array Bool} {a:Act} {w:World}
theorem aU(i:Nat){b:Oper}{v:Value}{d:Act}(s:ops.toList[i]?=some b:=by rfl)(hw:Region.wanted b (yielded ops a.tmps)=true:=by rfl)(au:Region.noSelect ops=true:=by kernel_rfl)(r:Region.free .any ops l i=true:=by kernel_rfl)(u:(Region.ready .any ops l).contains i=true:=by kernel_rfl)(he:((ops[k]?).map (λ o=>o.after.any (λ e=>e.on==i&&Region.binds .any e))).getD false=true:=by kernel_rfl)(t:i≠k:=by decide)(f:A w:=by assumption)(j:B w:=by first|assumption|trivial)(x:∀J,A J/\B J->(execOp a.eval b).run P J=.ok (.value v) J:=by(rintro J ⟨g,m⟩;(try dsimp only at m);(try dsimp only at g);go_simp;try with_reducible rfl))(q:a.put b.dst v=d:=by((try simp only[Act.put,List.setIfInBounds_toArray,List.set_cons_zero,List.set_cons_succ]);rfl))(p:∀c a w,Q (.panic c) (a.put b.dst v) w->Q (.panic c) a w:=by exactλ _ _ _ h=>h)(h:fV P ops Q k A B n (l.setIfInBounds i true) d w):fV P ops Q k A B (n+1) l a w:=by subst q;exact Dw s au r u he t p (.inl ⟨hw,x⟩) f j h
theorem ag(i:Nat){b:Oper}{v:Value}{d:Act}(o:ops.toList[i]?=some b:=by rfl)(hw:Region.wanted b (yielded ops a.tmps)=true:=by rfl)(au:Region.noSelect ops=true:=by kernel_rfl)(m:Region.free .any ops l i=true:=by kernel_rfl)(q:(Region.ready .any ops l).contains i=true:=by kernel_rfl)(p:i≠k:=by decide)(e:hP k A B l w:=by first|exact hP.both (by assumption) (by first|assumption|trivial)|exact hP.vT Z (by first|assumption|trivial))(r:∀J,B J->(execOp a.eval b).run P J=.ok (.value v) J:=by(intro J f;(try dsimp only at f);go_simp;try with_reducible rfl))(j:a.put b.dst v=d:=by((try simp only[Act.put,List.setIfInBounds_toArray,List.set_cons_zero,List.set_cons_succ]);rfl))(g:∀c a w,Q (.panic c) (a.put b.dst v) w->Q (.panic c) a w:=by exactλ _ _ _ h=>h)(h:fV P ops Q k A B n (l.setIfInBounds i true) d w):fV P ops Q k A B (n+1) l a w:=by subst j;exact AP o au m q p g (.inl ⟨hw,r⟩) e h
theorem il(i:Nat){b:Oper}{v:Value}{d:Act}(q:ops.toList[i]?=some b)(t:YieldsIf P ops (λ w=>A w/\B w) b v a)(h:fV P ops Q k A B n (l.setIfInBounds i true) d w)(au:Region.noSelect ops=true:=by kernel_rfl)(p:Region.free .any ops l i=true:=by kernel_rfl)(s:(Region.ready .any ops l).contains i=true:=by kernel_rfl)(he:((ops[k]?).map (λ o=>o.after.any (λ e=>e.on==i&&Region.binds .any e))).getD false=true:=by kernel_rfl)(r:i≠k:=by decide)(f:A w:=by assumption)(g:B w:=by first|assumption|trivial)(m:a.put b.dst v=d:=by((try simp only[Act.put,List.setIfInBounds_toArray,List.set_cons_zero,List.set_cons_succ]);rfl))(j:∀c a w,Q (.panic c) (a.put b.dst v) w->Q (.panic c) a w:=by exactλ _ _ _ h=>h):fV P ops Q k A B (n+1) l a w:=by subst m;exact Dw q au p s he r j t f g h
theorem cK(i:Nat){b:Oper}{v:Value}{d:Act}(m:ops.toList[i]?=some b)(q:YieldsIf P ops B b v a)(h:fV P ops Q k A B n (l.setIfInBounds i true) d w)(au:Region.noSelect ops=true:=by kernel_rfl)(j:Region.free .any ops l i=true:=by kernel_rfl)(p:(Region.ready .any ops l).contains i=true:=by kernel_rfl)(o:i≠k:=by decide)(e:hP k A B l w:=by first|exact hP.both (by assumption) (by first|assumption|trivial)|exact hP.vT Z (by first|assumption|trivial))(g:a.put b.dst v=d:=by((try simp only[Act.put,List.setIfInBounds_toArray,List.set_cons_zero,List.set_cons_succ]);rfl))(f:∀c a w,Q (.panic c) (a.put b.dst v) w->Q (.panic c) a w:=by exactλ _ _ _ h=>h):fV P ops Q k A B (n+1) l a w:=by subst g;exact AP m au j p o f q e h
theorem bU(i:Nat){b:Oper}{d:Act}(m:ops.toList[i]?=some b:=by rfl)(hw:Region.wanted b (yielded ops a.tmps)=false:=by rfl)(au:Region.noSelect ops=true:=by kernel_rfl)(j:Region.free .any ops l i=true:=by kernel_rfl)(p:(Region.ready .any ops l).contains i=true:=by kernel_rfl)(o:i≠k:=by decide)(e:hP k A B l w:=by first|exact hP.both (by assumption) (by first|assumption|trivial)|exact hP.vT Z (by first|assumption|trivial))(g:a.put b.dst undef=d:=by((try simp only[Act.put,List.setIfInBounds_toArray,List.set_cons_zero,List.set_cons_succ]);rfl))(f:∀c a w,Q (.panic c) (a.put b.dst undef) w->Q (.panic c) a w:=by exactλ _ _ _ h=>h)(h:fV P ops Q k A B n (l.setIfInBounds i true) d w):fV P ops Q k A B (n+1) l a w:=by subst g;exact AP m au j p o f (.inr ⟨hw,I⟩) e h
theorem aV(i:Nat){o:Oper}(h:∀K:Act->World->Prop,Shut (∀a w,hP k A B (l.setIfInBounds i true) w->(hP k A B (l.setIfInBounds i true) w->fV P ops Q k A B n (l.setIfInBounds i true) a w)->K a w)->if Region.wanted o (yielded ops a.tmps)=true then Oper.wp P o a w K Q else K (a.put o.dst undef) w)(c:Region.ready .any ops l=[i]:=by kernel_rfl)(b:ops.toList[i]?=some o:=by rfl):fV P ops Q k A B (n+1) l a w:=Ik c (ed b h)
theorem aZ{K:Act->World->Prop}(e:Shut (∀a w,hP k A B l w->(hP k A B l w->fV P ops Q k A B n l a w)->K a w))(c:A w)(d:B w){b:Act}(h:A w->B w->fV P ops Q k A B n l b w)(f:a=b:=by((try simp only[Act.put,List.setIfInBounds_toArray,List.set_cons_zero,List.set_cons_succ]);rfl)):K a w:=by subst f;exact e.out _ _ (hP.both c d) (λ _=>h c d)
theorem dE{K:Act->World->Prop}(d:Shut (∀a w,hP k A B l w->(hP k A B l w->fV P ops Q k A B n l a w)->K a w))(c:B w){b:Act}(h:B w->fV P ops Q k A B n l b w)(f:l.getD k false=true:=by kernel_rfl)(e:a=b:=by((try simp only[Act.put,List.setIfInBounds_toArray,List.set_cons_zero,List.set_cons_succ]);rfl)):K a w:=by subst e;exact d.out _ _ (hP.vT f c) (λ _=>h c)
end
section
open Go.Proofs
theorem Dy:∀(vs:List Value) (o:Nat) (cs:Array Value),o+vs.length<=cs.size->∀j,(eY cs o vs)[j]?=if o<=j/\j<o+vs.length then vs[j-o]? else cs[j]?
 |[],o,cs,_,j=>by simp[eY];intro h1 h2;omega
 |v::vs,o,cs,h,j=>by
  simp at h
  rw[eY,Dy vs (o+1) _ aY j]
  by_cases h1:o+1<=j/\j<o+1+vs.length
  ·rw[di h1,di aY]
   have:j-o=(j- (o+1))+1:=O
   rw[this,List.getElem?_cons_succ]
  ·rw[dg h1]
   by_cases h2:j=o
   ·subst h2
    rw[di aT,Nat.sub_self]
    simp[Array.getElem?_setIfInBounds,show j<cs.size from O]
   ·rw[dg aY,Array.getElem?_setIfInBounds_ne O]
theorem vb:∀(vs:List Value) (o:Nat) (cs:Array Value),(eY cs o vs).size=cs.size
 |[],_,_=>rfl
 |v::vs,o,cs=>by rw[eY,vb vs];simp
theorem eX(vs cs)(h:cs.size=vs.length):eY cs 0 vs=vs.toArray:=by
 apply Array.ext_getElem?;intro j;rw[Dy vs 0 cs O j];by_cases a:j<vs.length
 ·rw[di O];simp
 rw[dg O,uT O,uT aY]
section
variable {P:Program} {ops:Array Oper} {rest:List Oper} {op:Oper} {a:Act} {w:World} {Q:Exit->Act->World->Prop}
theorem ew(e:op.guard=none)(ty:TypeId)(x:Operand)(i:op.op=.load ty x)
  (g:Nat)(t:TypeId)(vs:List Value)(d:TypeDesc)(l:a.eval x=.pointer (some ⟨g,0,none⟩))(b:aC w g t vs.toArray)
  (hu:P.underlying ty=some d)(c:d.isRow=true)(f:(P.info? ty).map (·.size)=some vs.length)
  (h:wpList P ops Q rest (a.put op.dst (.agg vs.toArray)) w):wpList P ops Q (op::rest) a w:=
 px e ty x i g 0 t _ vs d l b (λ j v k=>ax k) hu c f h
theorem mZ(hw:Region.wanted op (yielded ops a.tmps)=true)(ty:TypeId)(x:Operand)(i:op.op=.load ty x)
  (g:Nat)(t:TypeId)(vs:List Value)(d:TypeDesc)(l:a.eval x=.pointer (some ⟨g,0,none⟩))(c:aC w g t vs.toArray)
  (hu:P.underlying ty=some d)(e:d.isRow=true)(f:(P.info? ty).map (·.size)=some vs.length)
  (h:wpList P ops Q rest (a.put op.dst (.agg vs.toArray)) w):wpList P ops Q (op::rest) a w:=
 rN λ K b=>by
  rw[di hw]
  exact tt ty x i g 0 l vs d (λ j v k=>by rw[c.cell];simpa using k) hu e f (b _ _ h)
theorem kZ(hw:Region.wanted op (yielded ops a.tmps)=true)(ty:TypeId)(x:Operand)(i:op.op=.load ty x)
  (g o:Nat)(t:TypeId)(cs:Array Value)(vs:List Value)(d:TypeDesc)(m:a.eval x=.pointer (some ⟨g,o,none⟩))(c:aC w g t cs)(l:∀j v,vs[j]?=some v->cs[o+j]?=some v)
  (hu:P.underlying ty=some d)(e:d.isRow=true)(f:(P.info? ty).map (·.size)=some vs.length)
  (h:wpList P ops Q rest (a.put op.dst (.agg vs.toArray)) w):wpList P ops Q (op::rest) a w:=
 rN λ K b=>by
  rw[di hw]
  exact tt ty x i g o m vs d (λ j v k=>by rw[c.cell];exact l j v k) hu e f (b _ _ h)
theorem db(d:op.guard=none)(ty:TypeId)(x y:Operand)(i:op.op=.store ty x y)
  (g:Nat)(t:TypeId)(cs:Array Value)(vs:List Value)(k:a.eval x=.pointer (some ⟨g,0,none⟩))(l:a.eval y=.agg vs.toArray)(c:aC w g t cs)(f:cs.size=vs.length)
  (e:(P.info? ty).map (·.size)=some vs.length)(h1:vs.all (·.oneCell')=true)
  (h:∀ae,aC ae g t vs.toArray->aw (·≠g) w ae->wpList P ops Q rest (a.put op.dst undef) ae):wpList P ops Q (op::rest) a w:=
 qq d ty x y i g 0 t cs vs k l c O e h1 (λ ae b j=>h ae (by rw[eX vs cs f]at b;exact b) j)
end
def fc(P:Program)(e:TypeId)(len:Nat)(parts:List (Nat×Value)):Option (Array Value):=
 match P.info? e with
 |some a=>
  match a.zero with
  |some z=>if len*a.size>2^24\/len*a.size=0 then none else Instr.fill (λ i=>some (i*a.size,a.size)) ((Array.range (len*a.size)).map (z.cells[·%z.cells.size]!)) parts
  |none=>none
 |none=>none
section
variable {P:Program} {ops:Array Oper} {rest:List Oper} {o:Oper} {a:Act} {w:World} {K:Act->World->Prop} {Q:Exit->Act->World->Prop} {E:Prop}
theorem EO(t e len)(parts:Array (Nat×Operand))(j:o.op=.buildSlice t len parts)(hu:P.underlying t=some (.slice e))(cells)(vs:List (Nat×Value))(hp:parts.toList.map (λ p=>(p.1,a.eval p.2))=vs)(b:fc P e len vs=some cells)(h:K (a.put o.dst (.slice (some ⟨w.heap.size,0,none⟩) len len)) (w.alloc (.cells cells e))):o.wp P a w K Q:=by
 have c:(parts.map λ(i,x)=>(i,a.eval x)).toList=vs:=by rw[Array.toList_map];exact hp
 subst c;unfold fc at b;cases f:P.info? e with
 |none=>simp[f]at b
 |some c=>
  simp only[f]at b;cases g:c.zero with
  |none=>simp[g]at b
  |some z=>
   simp only[g]at b;by_cases av:len*c.size>2^24\/len*c.size=0
   ·simp[av]at b
   rw[dg av]at b;exact wp_buildSlice t e len parts j cells c z hu f g (λ d=>av (Or.inl d)) (λ d=>av (Or.inr d)) b h
theorem gJ(d:o.guard=none)(t e len)(parts:Array (Nat×Operand))(f:o.op=.buildSlice t len parts)(hu:P.underlying t=some (.slice e))(cells)(vs:List (Nat×Value))(hp:parts.toList.map (λ p=>(p.1,a.eval p.2))=vs)(c:fc P e len vs=some cells)(h:wpList P ops Q rest (a.put o.dst (.slice (some ⟨w.heap.size,0,none⟩) len len)) (w.alloc (.cells cells e))):wpList P ops Q (o::rest) a w:=pS d λ _ b=>EO t e len parts f hu cells vs hp c (b _ _ h)
theorem gl(c:o.guard=none)(t e len)(parts:Array (Nat×Operand))(d:o.op=.buildSlice t len parts)(hu:P.underlying t=some (.slice e))(cells)(vs:List (Nat×Value))(hp:parts.toList.map (λ p=>(p.1,a.eval p.2))=vs)(b:fc P e len vs=some cells)(h:K (a.put o.dst (.slice (some ⟨w.heap.size,0,none⟩) len len)) (w.alloc (.cells cells e))):if Region.wanted o (yielded ops a.tmps)=true then Oper.wp P o a w K Q else E:=by
 have hw:Region.wanted o (yielded ops a.tmps)=true:=by simp[Region.wanted,c]
 rw[di hw];exact EO t e len parts d hu cells vs hp b h
end
section
variable {P:Program} {ops:Array Oper} {rest:List Oper} {o:Oper} {a:Act} {w:World} {Q:Exit->Act->World->Prop}
theorem xF(w:World)(t:TypeId)(parts:Array (Nat×Operand))(cells:Array Value)(vs:List (Nat×Value))(hp:parts.toList.map (λ p=>(p.1,a.eval p.2))=vs)(b:P.built t vs=some cells):(Instr.build t (parts.map λ(i,x)=>(i,a.eval x))).run P w=.ok (.agg cells) w:=by
 refine run_build w t _ cells ?_;have c:(parts.map λ(i,x)=>(i,a.eval x)).toList=vs:=by rw[Array.toList_map];exact hp
 rw[c];exact b
theorem fW(d:o.guard=none)(t:TypeId)(parts:Array (Nat×Operand))(e:o.op=.build t parts)(cells:Array Value)(vs:List (Nat×Value))(hp:parts.toList.map (λ p=>(p.1,a.eval p.2))=vs)(c:P.built t vs=some cells)
  (h:wpList P ops Q rest (a.put o.dst (.agg cells)) w):wpList P ops Q (o::rest) a w:=
 pS d λ _ b=>by
  unfold Oper.wp execOp
  simp only[e,Sem.run_bind,xF w t parts cells vs hp c,Result.andThen_ok]
  exact b _ _ h
theorem gh{T}(hw:Region.wanted o (yielded ops a.tmps)=true)(t)(parts:Array (Nat×Operand))(c:o.op=.build t parts)(cells)(vs:List (Nat×Value))(hp:parts.toList.map (λ p=>(p.1,a.eval p.2))=vs)(b:P.built t vs=some cells):YieldsIf P ops T o (.agg cells) a:=
 gR hw _ λ w _=>by
  unfold execOp
  simp only[c,Sem.run_bind,xF w t parts cells vs hp b,Result.andThen_ok]
  rfl
end
end
section
open Go.Proofs
def lay(cur:Array Value)(o:Nat)(vs:List Value):Array Value:=(cur.toList.take o++vs++cur.toList.drop (o+vs.length)).toArray
theorem ov{cur o vs}(h:o+vs.length<=cur.size):(lay cur o vs).size=cur.size:=by simp[lay];omega
theorem vg:∀(vs:List Value) (o:Nat) (cur:Array Value),o+vs.length<=cur.size->eY cur o vs=lay cur o vs
 |[],o,cur,_=>by simp[eY,lay]
 |v::vs,o,cur,h=>by
  have a:o+1+vs.length<=(cur.setIfInBounds o v).size:=by simp at h⊢;omega
  have b:o<cur.toList.length:=by simp at h⊢;omega
  rw[eY,vg vs (o+1) _ a]
  unfold lay
  congr 1
  rw[Array.toList_setIfInBounds,List.length_cons]
  rw[List.take_add_one,List.getElem?_set_self b,List.take_set_of_le (Nat.le_refl _),List.drop_set_of_lt O]
  simp[Nat.add_assoc,Nat.add_comm,Nat.add_left_comm]
section
variable {P:Program} {ops:Array Oper} {rest:List Oper} {o:Oper} {a:Act} {w:World} {Q:Exit->Act->World->Prop} {K:Act->World->Prop} {E:Prop}
theorem FR(g w cs):aw (·≠g) w (w.setRow g cs):=⟨I,I,I,by simp[World.setRow],λ k a=>setRow_other w g k cs a⟩
theorem HX(ey r ty elem e)(hu:P.underlying ey=some (.slice elem))(h:(P.info? elem).map (·.size)=some e)(g cI a k d q b off cur t)(l:aC w g t cur)(xs)(p:xs.length=Nat.min d a*e)(s:cI+xs.length<=cur.size)(n:∀j v,xs[j]?=some v->w.cell? ⟨b,off+j,none⟩=some v)(h1:∀v∈xs,v.oneCell'=true):(Builtin.copy_ #[ey,r] ty #[.slice (some ⟨g,cI,none⟩) a k,.slice (some ⟨b,off,none⟩) d q]).run P w=.ok (goInt (Nat.min d a)) (w.setRow g (lay cur cI xs)):=by
 have c:=run_loadCells_list (P:=P) w ⟨b,off,none⟩ xs (λ j v o=>by rw[mF];exact n j v o);have f:=run_storeCells_at P g cI t xs 0 cur w l O h1;rw[Nat.add_zero]at f;rw[p]at c;cases aB:P.info? elem with
 |none=>simp[aB]at h
 |some i=>
  have m:i.size=e:=by simpa [aB]using h
  simp only[Nat.min_def]at c⊢;simp[Builtin.copy_,run_underlying hu,Builtin.lenOf,Builtin.firstCells,sizeOf,typeInfo,aB,m,c,f,Nat.min_def,lay]
theorem Bn(q:o.guard=none)(d s ey m)(r:o.op=.call {callee:=.builtin .copy,args:=#[d,s],argTypes:=#[ey,m]})(elem f)(hu:P.underlying ey=some (.slice elem))(y:(P.info? elem).map (·.size)=some f)(g cI c i e l b off)(n:a.eval d=.slice (some ⟨g,cI,none⟩) c i)(au:a.eval s=.slice (some ⟨b,off,none⟩) e l)(cur t)(k:aC w g t cur)(xs)(z:xs.length=Nat.min e c*f)(p:cI+xs.length<=cur.size)(x:∀j v,xs[j]?=some v->w.cell? ⟨b,off+j,none⟩=some v)(h1:∀v∈xs,v.oneCell'=true)(h:∀ae,aC ae g t (lay cur cI xs)->aw (·≠g) w ae->K (a.put o.dst (goInt (Nat.min e c))) ae):if Region.wanted o (yielded ops a.tmps)=true then Oper.wp P o a w K Q else E:=by
 have hw:Region.wanted o (yielded ops a.tmps)=true:=by simp[Region.wanted,q]
 rw[di hw];have u:=HX (P:=P) ey m o.type elem f hu y g cI c i e l b off cur t k xs z p x h1;unfold Oper.wp;simp only[execOp,r,resolve,invoke,builtin,Sem.run_bind,Sem.run_pure,Result.andThen_ok,List.map_toArray,List.map_cons,List.map_nil,n,au,u];exact h _ (setRow_heap w g _ _ t _ k) (FR g w _)
end
section
variable {P:Program} {ops:Array Oper} {rest:List Oper} {op:Oper} {a:Act} {w:World} {Q:Exit->Act->World->Prop}
theorem gK(hw:Region.wanted op (yielded ops a.tmps)=true)(ty:TypeId)(x:Operand)(f:op.op=.load ty x)
  (g o:Nat)(vs:List Value)(d:TypeDesc)(i:a.eval x=.pointer (some ⟨g,o,none⟩))(av:w.rangeAt g o vs)
  (hu:P.underlying ty=some d)(c:d.isRow=true)(e:(P.info? ty).map (·.size)=some vs.length)
  (h:wpList P ops Q rest (a.put op.dst (.agg vs.toArray)) w):wpList P ops Q (op::rest) a w:=
 rN λ K b=>by
  rw[di hw]
  exact tt ty x f g o i vs d av hu c e (b _ _ h)
end
theorem Ak{xs zs es cur n k a}(h:cur.toList.take ((n+1)*a)=xs++zs)(i:xs.length=n*a)(p:zs.length=a)(he:es.length=a)(e:k<=n)(o:(n+1)*a<=cur.size):(lay (lay cur ((k+1)*a) (xs.drop (k*a))) (k*a) es).toList.take ((n+1)*a)=xs.take (k*a)++es++xs.drop (k*a):=by
 have m:k*a<=n*a:=nG _ e;have b:(k+1)*a=k*a+a:=Nat.succ_mul k a;have j:(n+1)*a=n*a+a:=Nat.succ_mul n a;have l:cur.toList.length=cur.size:=aT;have g:cur.toList.take (k*a)=xs.take (k*a):=by have:=mK (List.take (k*a)) h;rw[List.take_take,vG O,xK O]at this;exact this
 have f:(xs.drop (k*a)).length=n*a-k*a:=by simp[i]
 unfold lay;simp only[List.toList_toArray];rw[b,f,he];have c:(cur.toList.take (k*a+a)++xs.drop (k*a)++cur.toList.drop (k*a+a+(n*a-k*a))).take (k*a)=xs.take (k*a):=by rw[pV,xK aY,List.take_take,vG O,g]
 have d:(cur.toList.take (k*a+a)++xs.drop (k*a)++cur.toList.drop (k*a+a+(n*a-k*a))).drop (k*a+a)=xs.drop (k*a)++cur.toList.drop (k*a+a+(n*a-k*a)):=by rw[pV,List.drop_append_of_le_length aY,sU aY,qu]
 rw[c,d,<-pV,xK aY,hU aY]
theorem zq{α:Type}{enc:α->List Value}{b:Nat}(au:∀a,(enc a).length=b)(l:List α)(k:Nat)(e:α):(l.flatMap enc).take (k*b)++enc e++(l.flatMap enc).drop (k*b)=(l.take k++e::l.drop k).flatMap enc:=by rw[yo au,uL au];simp
theorem sZ:(Tryz.prog.info? 175).map (λ i=>(i.zero,i.size,i.bytes))=some (some (.agg Pv),9,72):=Z
theorem uc:(Tryz.prog.info? 179).map (λ i=>(i.zero,i.size,i.bytes))=some (some (.agg qj),10,80):=Z
end
section
open Go.Proofs
def jU{α:Type}(enc:α->List Value)(size:Nat)(r:List α)(w:World)(e:Ending)(ae:World):Prop:=∃(A:Option Addr) (c:Nat),e=.returned (.slice A r.length c)/\bl enc size ae (cP ae w.heap.size) A r.length c r/\ab w ae
def rn{α:Type}(enc:α->List Value)(size:Nat)(ty:TypeId)(m:Nat)(g:Nat->List α)(W:World)(v i:Value)(wr:World):Prop:=∃k:Nat,i=.int .i64 k/\k<=m/\(g k).length<=k/\wr.ownsRow W.heap.size ty size v (g k).length ((g k).flatMap enc)/\ab W wr
theorem vQ{α:Type}{l:List α}{p:α->Bool}{k:Nat}{x:α}(h:l[k]?=some x):(l.take (k+1)).filter p=if p x then(l.take k).filter p++[x]else(l.take k).filter p:=by rw[nK,h,vM];cases hp:p x<;>simp[hp]
theorem Mz{α β:Type}{l:List α}{f:α->β}{k:Nat}{x:α}(h:l[k]?=some x):(l.take (k+1)).map f=(l.take k).map f++[f x]:=by rw[nK,h,rI];rfl
theorem filter_le{α:Type}(l:List α)(p:α->Bool)(k:Nat):((l.take k).filter p).length<=k:=ik (nC _ _) (by rw[jm];omega)
theorem map_le{α β:Type}(l:List α)(f:α->β)(k:Nat):((l.take k).map f).length<=k:=by rw[uQ,jm];omega
theorem nj{α}{enc:α->List Value}{size k:Nat}{ty}{r:List α}{W wr v}(h:wr.ownsRow W.heap.size ty size v r.length (r.flatMap enc))(a:ab W wr):∃A c,v=.slice A r.length c/\jU enc size r W (.returned v) wr:=by obtain⟨A,c,rfl,h1,h2⟩:=dZ h;exact⟨A,c,I,A,c,I,⟨I,h1,h2,lX h⟩,a⟩
theorem rQ{y}{j:Nat}{u}(hu:(da y.az)[j]?=some u):(cB y)[j]?=some u:=by unfold cB;rw[me (dV.1 hu).1];exact hu
theorem ph(a b c d e f g h i:Int):fc Tryz.prog 175 1 [(0,.agg #[a,b,c,d,e,f,g,h,i])]=some #[.int .i64 a,.int .i64 b,.int .i64 c,.int .i64 d,.int .i64 e,.int .i64 f,.int .i64 g,.int .i64 h,.int .i64 i]:=Z
theorem qJ(a b c d e f g h i j:Int):fc Tryz.prog 179 1 [(0,.agg #[a,b,c,d,e,f,g,h,i,.int .u32 j])]=some #[.int .i64 a,.int .i64 b,.int .i64 c,.int .i64 d,.int .i64 e,.int .i64 f,.int .i64 g,.int .i64 h,.int .i64 i,.int .u32 j]:=Z
theorem Cz(w S A)(n c:Nat)(l)(a d:Int)(f:∀i,S i->i<w.heap.size)(e:bl cB 10 w S A n c l)(aJ:n<=1000000):Calls Tryz.prog 134 #[.slice A n c,a,d] w (jU cB 10 (l.filter (λ x=>decide (x.az.proc≠a)||decide (x.az.idx<=d))) w):=by
 obtain⟨i0,g,j,q,s⟩:=eO uc;have h:=e.1;obtain⟨G,K,L,M,R,z,T⟩:=dW g j q s e h f;clear g j q s e h f;go_enter func134,ntmps134;go_wp2_with fail;go_loopw[7,8] (λ v i wr=>rn cB 10 179 l.length (λ k=>(l.take k).filter (λ x=>decide (x.az.proc≠a)||decide (x.az.idx<=d))) w v i wr) (λ _ i _=>n- (intOf i).toNat);case atStart=>exact⟨0,I,ef _,dq _,ee _ _ _ _,aN _ _⟩
 obtain⟨k,rfl,U,q,f,g⟩:=hrel;dsimp only at q f;have a3:k<=n:=an z.o;have a5:=g.size;by_cases D:k<n
 ·obtain⟨b,off,y,rfl,Q,P,e⟩:=(R.o.aq (cS g T.o)).at_ ff D;have V:decide (k<n)=true:=ax D;have W:decide ((k:Int)<(n:Int))=true:=aY;have a1:(0:Int)<=k:=O;have a2:(k:Int)<n:=O;have E:k+1<=l.length:=an z.o;have C:=vQ (p:=(λ x=>decide (x.az.proc≠a)||decide (x.az.idx<=d))) P;have F:=filter_le l (λ x=>decide (x.az.proc≠a)||decide (x.az.idx<=d)) (k+1);have a6:wr.cell? ⟨b,off+k*10,none⟩=some (.int .i64 y.az.proc):=by have:=e 0 _ I;simpa using this
  have a7:wr.cell? ⟨b,off+k*10+1,none⟩=some (.int .i64 y.az.idx):=by have:=e 1 _ I;simpa using this
  have N:wr.rangeAt b (off+k*10) [y.az.proc,y.az.idx,y.az.af.kind,y.az.af.inc,y.az.af.aH,y.az.af.bI,y.az.af.bb,y.az.af.ord,y.az.af.val,.int .u32 y.hold]:=e;obtain⟨r,j⟩:=aW ((l.take k).filter (λ x=>decide (x.az.proc≠a)||decide (x.az.idx<=d)));rw[<-j]at f C q;obtain⟨m,hm⟩:=aW r.length;have a4:m<=k:=O;rw[<-hm]at f;obtain⟨H,s,h,u,a0,B,t⟩:=dW N g f hm j C F;clear N g f hm j C F e P q U Q;by_cases aB:y.az.proc=a
  ·by_cases e:y.az.idx<=d
   ·have t1:(y.az.proc !=a)=false:=ax aB;have t2:decide (y.az.idx<=d)=true:=ax e;have hp:(decide (y.az.proc≠a)||decide (y.az.idx<=d))=true:=(by simp[e]);have j:=ai hp;clear hp aB e;go_wp2_with(first|(refine wpList_load_mid I _ (.tmp 36) I b (off+k*10) I [y.az.proc,y.az.idx,y.az.af.kind,y.az.af.inc,y.az.af.aH,y.az.af.bI,y.az.af.bb,y.az.af.ord,y.az.af.val,.int .u32 y.hold] _ H.o ml I Z ?_)|(refine gJ I 74 179 1 _ I ma _ [(0,.agg #[y.az.proc,y.az.idx,y.az.af.kind,y.az.af.inc,y.az.af.aH,y.az.af.bI,y.az.af.bb,y.az.af.ord,y.az.af.val,.int .u32 y.hold])] I (qJ _ _ _ _ _ _ _ _ _ _) ?_)|(at_builtin;refine fe _ I (.tmp 33) (.tmp 38) 74 I w.heap.size 179 i0 _ 10 80 ma G.o K.o L.o M.o I O _ m _ I (h.o.alloc _) _ (some ⟨wr.heap.size,0,none⟩) 1 1 (cB y) I (eW I) (qm _) dQ O aY ?_;intro X Y F C U));go_roundw;case rel=>refine⟨k+1,cz,E,t.o,?_,(eL s.o _).append (h.o.alloc _) C (λ i e=>e) aY⟩;dsimp only;rw[B.o,di j.o,gp,<-u.o,hJ];simpa using F
    case measure=>exact bS
   have t1:(y.az.proc !=a)=false:=ax aB;have t2:decide (y.az.idx<=d)=false:=ax e;have hp:(decide (y.az.proc≠a)||decide (y.az.idx<=d))=false:=(by simp[aB,e]);have j:=ai hp;clear hp aB e;go_wp2_with fail;go_roundw;case rel=>refine⟨k+1,cz,E,t.o,?_,s.o⟩;dsimp only;rw[B.o,dg (by rw[j.o];simp),<-u.o];exact h.o
   case measure=>exact bS
  have t1:(y.az.proc !=a)=true:=ax aB;have hp:(decide (y.az.proc≠a)||decide (y.az.idx<=d))=true:=by simp[aB]
  have j:=ai hp;clear hp aB;go_wp2_with(first|(refine wpList_load_mid I _ (.tmp 36) I b (off+k*10) I [y.az.proc,y.az.idx,y.az.af.kind,y.az.af.inc,y.az.af.aH,y.az.af.bI,y.az.af.bb,y.az.af.ord,y.az.af.val,.int .u32 y.hold] _ H.o ml I Z ?_)|(refine gJ I 74 179 1 _ I ma _ [(0,.agg #[y.az.proc,y.az.idx,y.az.af.kind,y.az.af.inc,y.az.af.aH,y.az.af.bI,y.az.af.bb,y.az.af.ord,y.az.af.val,.int .u32 y.hold])] I (qJ _ _ _ _ _ _ _ _ _ _) ?_)|(at_builtin;refine fe _ I (.tmp 33) (.tmp 38) 74 I w.heap.size 179 i0 _ 10 80 ma G.o K.o L.o M.o I O _ m _ I (h.o.alloc _) _ (some ⟨wr.heap.size,0,none⟩) 1 1 (cB y) I (eW I) (qm _) dQ O aY ?_;intro X Y F C U));go_roundw;case rel=>refine⟨k+1,cz,E,t.o,?_,(eL s.o _).append (h.o.alloc _) C (λ i e=>e) aY⟩;dsimp only;rw[B.o,di j.o,gp,<-u.o,hJ];simpa using F
  case measure=>exact bS
 have V:decide (k<n)=false:=ax D;have W:decide ((k:Int)<(n:Int))=false:=aY;have P:l.take k=l:=hU (an z.o);rw[P]at f;obtain⟨bf,bc,rfl,N⟩:=nj (k:=0) f g;have Q:=ai N;clear N f g q P;go_wp2_with fail;go_ret;exact Q.o
theorem Mr(w S A)(n c:Nat)(l)(a d:Int)(f:∀i,S i->i<w.heap.size)(e:bl cB 10 w S A n c l)(aJ:n<=1000000):Calls Tryz.prog 116 #[.slice A n c,a,d] w (jU cB 10 (l.filter (λ x=>decide (x.az.proc≠a)||decide (d<x.az.idx))) w):=by
 obtain⟨i0,g,j,q,s⟩:=eO uc;have h:=e.1;obtain⟨G,K,L,M,R,z,T⟩:=dW g j q s e h f;clear g j q s e h f;go_enter func116,ntmps116;go_wp2_with fail;go_loopw[7,8] (λ v i wr=>rn cB 10 179 l.length (λ k=>(l.take k).filter (λ x=>decide (x.az.proc≠a)||decide (d<x.az.idx))) w v i wr) (λ _ i _=>n- (intOf i).toNat);case atStart=>exact⟨0,I,ef _,dq _,ee _ _ _ _,aN _ _⟩
 obtain⟨k,rfl,U,q,f,g⟩:=hrel;dsimp only at q f;have a3:k<=n:=an z.o;have a5:=g.size;by_cases D:k<n
 ·obtain⟨b,off,y,rfl,Q,P,e⟩:=(R.o.aq (cS g T.o)).at_ ff D;have V:decide (k<n)=true:=ax D;have W:decide ((k:Int)<(n:Int))=true:=aY;have a1:(0:Int)<=k:=O;have a2:(k:Int)<n:=O;have E:k+1<=l.length:=an z.o;have C:=vQ (p:=(λ x=>decide (x.az.proc≠a)||decide (d<x.az.idx))) P;have F:=filter_le l (λ x=>decide (x.az.proc≠a)||decide (d<x.az.idx)) (k+1);have a6:wr.cell? ⟨b,off+k*10,none⟩=some (.int .i64 y.az.proc):=by have:=e 0 _ I;simpa using this
  have a7:wr.cell? ⟨b,off+k*10+1,none⟩=some (.int .i64 y.az.idx):=by have:=e 1 _ I;simpa using this
  have N:wr.rangeAt b (off+k*10) [y.az.proc,y.az.idx,y.az.af.kind,y.az.af.inc,y.az.af.aH,y.az.af.bI,y.az.af.bb,y.az.af.ord,y.az.af.val,.int .u32 y.hold]:=e;obtain⟨r,j⟩:=aW ((l.take k).filter (λ x=>decide (x.az.proc≠a)||decide (d<x.az.idx)));rw[<-j]at f C q;obtain⟨m,hm⟩:=aW r.length;have a4:m<=k:=O;rw[<-hm]at f;obtain⟨H,s,h,u,a0,B,t⟩:=dW N g f hm j C F;clear N g f hm j C F e P q U Q;by_cases aB:y.az.proc=a
  ·by_cases e:d<y.az.idx
   ·have t1:(y.az.proc !=a)=false:=ax aB;have t2:decide (d<y.az.idx)=true:=ax e;have hp:(decide (y.az.proc≠a)||decide (d<y.az.idx))=true:=(by simp[e]);have j:=ai hp;clear hp aB e;go_wp2_with(first|(refine wpList_load_mid I _ (.tmp 36) I b (off+k*10) I [y.az.proc,y.az.idx,y.az.af.kind,y.az.af.inc,y.az.af.aH,y.az.af.bI,y.az.af.bb,y.az.af.ord,y.az.af.val,.int .u32 y.hold] _ H.o ml I Z ?_)|(refine gJ I 74 179 1 _ I ma _ [(0,.agg #[y.az.proc,y.az.idx,y.az.af.kind,y.az.af.inc,y.az.af.aH,y.az.af.bI,y.az.af.bb,y.az.af.ord,y.az.af.val,.int .u32 y.hold])] I (qJ _ _ _ _ _ _ _ _ _ _) ?_)|(at_builtin;refine fe _ I (.tmp 33) (.tmp 38) 74 I w.heap.size 179 i0 _ 10 80 ma G.o K.o L.o M.o I O _ m _ I (h.o.alloc _) _ (some ⟨wr.heap.size,0,none⟩) 1 1 (cB y) I (eW I) (qm _) dQ O aY ?_;intro X Y F C U));go_roundw;case rel=>refine⟨k+1,cz,E,t.o,?_,(eL s.o _).append (h.o.alloc _) C (λ i e=>e) aY⟩;dsimp only;rw[B.o,di j.o,gp,<-u.o,hJ];simpa using F
    case measure=>exact bS
   have t1:(y.az.proc !=a)=false:=ax aB;have t2:decide (d<y.az.idx)=false:=ax e;have hp:(decide (y.az.proc≠a)||decide (d<y.az.idx))=false:=(by simp[aB,e]);have j:=ai hp;clear hp aB e;go_wp2_with fail;go_roundw;case rel=>refine⟨k+1,cz,E,t.o,?_,s.o⟩;dsimp only;rw[B.o,dg (by rw[j.o];simp),<-u.o];exact h.o
   case measure=>exact bS
  have t1:(y.az.proc !=a)=true:=ax aB;have hp:(decide (y.az.proc≠a)||decide (d<y.az.idx))=true:=by simp[aB]
  have j:=ai hp;clear hp aB;go_wp2_with(first|(refine wpList_load_mid I _ (.tmp 36) I b (off+k*10) I [y.az.proc,y.az.idx,y.az.af.kind,y.az.af.inc,y.az.af.aH,y.az.af.bI,y.az.af.bb,y.az.af.ord,y.az.af.val,.int .u32 y.hold] _ H.o ml I Z ?_)|(refine gJ I 74 179 1 _ I ma _ [(0,.agg #[y.az.proc,y.az.idx,y.az.af.kind,y.az.af.inc,y.az.af.aH,y.az.af.bI,y.az.af.bb,y.az.af.ord,y.az.af.val,.int .u32 y.hold])] I (qJ _ _ _ _ _ _ _ _ _ _) ?_)|(at_builtin;refine fe _ I (.tmp 33) (.tmp 38) 74 I w.heap.size 179 i0 _ 10 80 ma G.o K.o L.o M.o I O _ m _ I (h.o.alloc _) _ (some ⟨wr.heap.size,0,none⟩) 1 1 (cB y) I (eW I) (qm _) dQ O aY ?_;intro X Y F C U));go_roundw;case rel=>refine⟨k+1,cz,E,t.o,?_,(eL s.o _).append (h.o.alloc _) C (λ i e=>e) aY⟩;dsimp only;rw[B.o,di j.o,gp,<-u.o,hJ];simpa using F
  case measure=>exact bS
 have V:decide (k<n)=false:=ax D;have W:decide ((k:Int)<(n:Int))=false:=aY;have P:l.take k=l:=hU (an z.o);rw[P]at f;obtain⟨bf,bc,rfl,N⟩:=nj (k:=0) f g;have Q:=ai N;clear N f g q P;go_wp2_with fail;go_ret;exact Q.o
theorem Ih(w S A)(n c:Nat)(l)(a d:Int)(f:∀i,S i->i<w.heap.size)(e:bl da 9 w S A n c l)(aJ:n<=1000000):Calls Tryz.prog 133 #[.slice A n c,a,d] w (jU da 9 (l.filter (λ x=>decide (x.proc≠a)||decide (x.idx<=d))) w):=by
 obtain⟨i0,g,j,q,s⟩:=eO sZ;have h:=e.1;obtain⟨G,K,L,M,R,z,T⟩:=dW g j q s e h f;clear g j q s e h f;go_enter func133,ntmps133;go_wp2_with fail;go_loopw[7,8] (λ v i wr=>rn da 9 175 l.length (λ k=>(l.take k).filter (λ x=>decide (x.proc≠a)||decide (x.idx<=d))) w v i wr) (λ _ i _=>n- (intOf i).toNat);case atStart=>exact⟨0,I,ef _,dq _,ee _ _ _ _,aN _ _⟩
 obtain⟨k,rfl,U,q,f,g⟩:=hrel;dsimp only at q f;have a3:k<=n:=an z.o;have a5:=g.size;by_cases D:k<n
 ·obtain⟨b,off,y,rfl,Q,P,e⟩:=(R.o.aq (cS g T.o)).at_ lN D;have V:decide (k<n)=true:=ax D;have W:decide ((k:Int)<(n:Int))=true:=aY;have a1:(0:Int)<=k:=O;have a2:(k:Int)<n:=O;have E:k+1<=l.length:=an z.o;have C:=vQ (p:=(λ x=>decide (x.proc≠a)||decide (x.idx<=d))) P;have F:=filter_le l (λ x=>decide (x.proc≠a)||decide (x.idx<=d)) (k+1);have a6:wr.cell? ⟨b,off+k*9,none⟩=some (.int .i64 y.proc):=by have:=e 0 _ I;simpa using this
  have a7:wr.cell? ⟨b,off+k*9+1,none⟩=some (.int .i64 y.idx):=by have:=e 1 _ I;simpa using this
  have N:wr.rangeAt b (off+k*9) [y.proc,y.idx,y.af.kind,y.af.inc,y.af.aH,y.af.bI,y.af.bb,y.af.ord,y.af.val]:=e;obtain⟨r,j⟩:=aW ((l.take k).filter (λ x=>decide (x.proc≠a)||decide (x.idx<=d)));rw[<-j]at f C q;obtain⟨m,hm⟩:=aW r.length;have a4:m<=k:=O;rw[<-hm]at f;obtain⟨H,s,h,u,a0,B,t⟩:=dW N g f hm j C F;clear N g f hm j C F e P q U Q;by_cases aB:y.proc=a
  ·by_cases e:y.idx<=d
   ·have t1:(y.proc !=a)=false:=ax aB;have t2:decide (y.idx<=d)=true:=ax e;have hp:(decide (y.proc≠a)||decide (y.idx<=d))=true:=(by simp[e]);have j:=ai hp;clear hp aB e;go_wp2_with(first|(refine wpList_load_mid I _ (.tmp 34) I b (off+k*9) I [y.proc,y.idx,y.af.kind,y.af.inc,y.af.aH,y.af.bI,y.af.bb,y.af.ord,y.af.val] _ H.o gY I Z ?_)|(refine gJ I 73 175 1 _ I ll _ [(0,.agg #[y.proc,y.idx,y.af.kind,y.af.inc,y.af.aH,y.af.bI,y.af.bb,y.af.ord,y.af.val])] I (ph _ _ _ _ _ _ _ _ _) ?_)|(at_builtin;refine fe _ I (.tmp 31) (.tmp 36) 73 I w.heap.size 175 i0 _ 9 72 ll G.o K.o L.o M.o I O _ m _ I (h.o.alloc _) _ (some ⟨wr.heap.size,0,none⟩) 1 1 (da y) I (eW I) (mU _) dQ O aY ?_;intro X Y F C U));go_roundw;case rel=>refine⟨k+1,cz,E,t.o,?_,(eL s.o _).append (h.o.alloc _) C (λ i e=>e) aY⟩;dsimp only;rw[B.o,di j.o,gp,<-u.o,hJ];simpa using F
    case measure=>exact bS
   have t1:(y.proc !=a)=false:=ax aB;have t2:decide (y.idx<=d)=false:=ax e;have hp:(decide (y.proc≠a)||decide (y.idx<=d))=false:=(by simp[aB,e]);have j:=ai hp;clear hp aB e;go_wp2_with fail;go_roundw;case rel=>refine⟨k+1,cz,E,t.o,?_,s.o⟩;dsimp only;rw[B.o,dg (by rw[j.o];simp),<-u.o];exact h.o
   case measure=>exact bS
  have t1:(y.proc !=a)=true:=ax aB;have hp:(decide (y.proc≠a)||decide (y.idx<=d))=true:=by simp[aB]
  have j:=ai hp;clear hp aB;go_wp2_with(first|(refine wpList_load_mid I _ (.tmp 34) I b (off+k*9) I [y.proc,y.idx,y.af.kind,y.af.inc,y.af.aH,y.af.bI,y.af.bb,y.af.ord,y.af.val] _ H.o gY I Z ?_)|(refine gJ I 73 175 1 _ I ll _ [(0,.agg #[y.proc,y.idx,y.af.kind,y.af.inc,y.af.aH,y.af.bI,y.af.bb,y.af.ord,y.af.val])] I (ph _ _ _ _ _ _ _ _ _) ?_)|(at_builtin;refine fe _ I (.tmp 31) (.tmp 36) 73 I w.heap.size 175 i0 _ 9 72 ll G.o K.o L.o M.o I O _ m _ I (h.o.alloc _) _ (some ⟨wr.heap.size,0,none⟩) 1 1 (da y) I (eW I) (mU _) dQ O aY ?_;intro X Y F C U));go_roundw;case rel=>refine⟨k+1,cz,E,t.o,?_,(eL s.o _).append (h.o.alloc _) C (λ i e=>e) aY⟩;dsimp only;rw[B.o,di j.o,gp,<-u.o,hJ];simpa using F
  case measure=>exact bS
 have V:decide (k<n)=false:=ax D;have W:decide ((k:Int)<(n:Int))=false:=aY;have P:l.take k=l:=hU (an z.o);rw[P]at f;obtain⟨bf,bc,rfl,N⟩:=nj (k:=0) f g;have Q:=ai N;clear N f g q P;go_wp2_with fail;go_ret;exact Q.o
theorem Mf(w S A)(n c:Nat)(l)(a d:Int)(f:∀i,S i->i<w.heap.size)(e:bl da 9 w S A n c l)(aJ:n<=1000000):Calls Tryz.prog 115 #[.slice A n c,a,d] w (jU da 9 (l.filter (λ x=>decide (x.proc≠a)||decide (d<x.idx))) w):=by
 obtain⟨i0,g,j,q,s⟩:=eO sZ;have h:=e.1;obtain⟨G,K,L,M,R,z,T⟩:=dW g j q s e h f;clear g j q s e h f;go_enter func115,ntmps115;go_wp2_with fail;go_loopw[7,8] (λ v i wr=>rn da 9 175 l.length (λ k=>(l.take k).filter (λ x=>decide (x.proc≠a)||decide (d<x.idx))) w v i wr) (λ _ i _=>n- (intOf i).toNat);case atStart=>exact⟨0,I,ef _,dq _,ee _ _ _ _,aN _ _⟩
 obtain⟨k,rfl,U,q,f,g⟩:=hrel;dsimp only at q f;have a3:k<=n:=an z.o;have a5:=g.size;by_cases D:k<n
 ·obtain⟨b,off,y,rfl,Q,P,e⟩:=(R.o.aq (cS g T.o)).at_ lN D;have V:decide (k<n)=true:=ax D;have W:decide ((k:Int)<(n:Int))=true:=aY;have a1:(0:Int)<=k:=O;have a2:(k:Int)<n:=O;have E:k+1<=l.length:=an z.o;have C:=vQ (p:=(λ x=>decide (x.proc≠a)||decide (d<x.idx))) P;have F:=filter_le l (λ x=>decide (x.proc≠a)||decide (d<x.idx)) (k+1);have a6:wr.cell? ⟨b,off+k*9,none⟩=some (.int .i64 y.proc):=by have:=e 0 _ I;simpa using this
  have a7:wr.cell? ⟨b,off+k*9+1,none⟩=some (.int .i64 y.idx):=by have:=e 1 _ I;simpa using this
  have N:wr.rangeAt b (off+k*9) [y.proc,y.idx,y.af.kind,y.af.inc,y.af.aH,y.af.bI,y.af.bb,y.af.ord,y.af.val]:=e;obtain⟨r,j⟩:=aW ((l.take k).filter (λ x=>decide (x.proc≠a)||decide (d<x.idx)));rw[<-j]at f C q;obtain⟨m,hm⟩:=aW r.length;have a4:m<=k:=O;rw[<-hm]at f;obtain⟨H,s,h,u,a0,B,t⟩:=dW N g f hm j C F;clear N g f hm j C F e P q U Q;by_cases aB:y.proc=a
  ·by_cases e:d<y.idx
   ·have t1:(y.proc !=a)=false:=ax aB;have t2:decide (d<y.idx)=true:=ax e;have hp:(decide (y.proc≠a)||decide (d<y.idx))=true:=(by simp[e]);have j:=ai hp;clear hp aB e;go_wp2_with(first|(refine wpList_load_mid I _ (.tmp 34) I b (off+k*9) I [y.proc,y.idx,y.af.kind,y.af.inc,y.af.aH,y.af.bI,y.af.bb,y.af.ord,y.af.val] _ H.o gY I Z ?_)|(refine gJ I 73 175 1 _ I ll _ [(0,.agg #[y.proc,y.idx,y.af.kind,y.af.inc,y.af.aH,y.af.bI,y.af.bb,y.af.ord,y.af.val])] I (ph _ _ _ _ _ _ _ _ _) ?_)|(at_builtin;refine fe _ I (.tmp 31) (.tmp 36) 73 I w.heap.size 175 i0 _ 9 72 ll G.o K.o L.o M.o I O _ m _ I (h.o.alloc _) _ (some ⟨wr.heap.size,0,none⟩) 1 1 (da y) I (eW I) (mU _) dQ O aY ?_;intro X Y F C U));go_roundw;case rel=>refine⟨k+1,cz,E,t.o,?_,(eL s.o _).append (h.o.alloc _) C (λ i e=>e) aY⟩;dsimp only;rw[B.o,di j.o,gp,<-u.o,hJ];simpa using F
    case measure=>exact bS
   have t1:(y.proc !=a)=false:=ax aB;have t2:decide (d<y.idx)=false:=ax e;have hp:(decide (y.proc≠a)||decide (d<y.idx))=false:=(by simp[aB,e]);have j:=ai hp;clear hp aB e;go_wp2_with fail;go_roundw;case rel=>refine⟨k+1,cz,E,t.o,?_,s.o⟩;dsimp only;rw[B.o,dg (by rw[j.o];simp),<-u.o];exact h.o
   case measure=>exact bS
  have t1:(y.proc !=a)=true:=ax aB;have hp:(decide (y.proc≠a)||decide (d<y.idx))=true:=by simp[aB]
  have j:=ai hp;clear hp aB;go_wp2_with(first|(refine wpList_load_mid I _ (.tmp 34) I b (off+k*9) I [y.proc,y.idx,y.af.kind,y.af.inc,y.af.aH,y.af.bI,y.af.bb,y.af.ord,y.af.val] _ H.o gY I Z ?_)|(refine gJ I 73 175 1 _ I ll _ [(0,.agg #[y.proc,y.idx,y.af.kind,y.af.inc,y.af.aH,y.af.bI,y.af.bb,y.af.ord,y.af.val])] I (ph _ _ _ _ _ _ _ _ _) ?_)|(at_builtin;refine fe _ I (.tmp 31) (.tmp 36) 73 I w.heap.size 175 i0 _ 9 72 ll G.o K.o L.o M.o I O _ m _ I (h.o.alloc _) _ (some ⟨wr.heap.size,0,none⟩) 1 1 (da y) I (eW I) (mU _) dQ O aY ?_;intro X Y F C U));go_roundw;case rel=>refine⟨k+1,cz,E,t.o,?_,(eL s.o _).append (h.o.alloc _) C (λ i e=>e) aY⟩;dsimp only;rw[B.o,di j.o,gp,<-u.o,hJ];simpa using F
  case measure=>exact bS
 have V:decide (k<n)=false:=ax D;have W:decide ((k:Int)<(n:Int))=false:=aY;have P:l.take k=l:=hU (an z.o);rw[P]at f;obtain⟨bf,bc,rfl,N⟩:=nj (k:=0) f g;have Q:=ai N;clear N f g q P;go_wp2_with fail;go_ret;exact Q.o
theorem Bu(w S A n c l)(d:∀i,S i->i<w.heap.size)(a:bl cB 10 w S A n c l)(aJ:n<=1000000):Calls Tryz.prog 101 #[.slice A n c] w (jU da 9 (l.map cV.az) w):=by
 obtain⟨i0,e,p,q,s⟩:=eO sZ;have h:=a.1;obtain⟨C,M,N,P,E,g,K⟩:=dW e p q s a h d;clear e p q s a h d;go_enter func101,ntmps101;go_wp2_with fail;go_loopw[3,4] (λ v i wr=>rn da 9 175 l.length (λ k=>(l.take k).map cV.az) w v i wr) (λ _ i _=>n- (intOf i).toNat);case atStart=>exact⟨0,I,ef _,dq _,ee _ _ _ _,aN _ _⟩
 obtain⟨k,rfl,V,e,a,d⟩:=hrel;dsimp only at e a;have a1:k<=n:=an g.o;have a3:=d.size;by_cases p:k<n
 ·obtain⟨b,off,y,rfl,Q,B,h⟩:=(E.o.aq (cS d K.o)).at_ ff p;have R:decide (k<n)=true:=ax p;have T:decide ((k:Int)<(n:Int))=true:=aY;have Y:(0:Int)<=k:=O;have a0:(k:Int)<n:=O;have U:k+1<=l.length:=an g.o;have s:=Mz (f:=cV.az) B;have x:=map_le l cV.az (k+1);have H:=cE (wr.rangeAt b (off+k*10) [y.az.proc,y.az.idx,y.az.af.kind,y.az.af.inc,y.az.af.aH,y.az.af.bI,y.az.af.bb,y.az.af.ord,y.az.af.val]) (λ j u hu=>h j u (rQ hu));have z:wr.rangeAt b (off+k*10) [y.az.proc,y.az.idx,y.az.af.kind,y.az.af.inc,y.az.af.aH,y.az.af.bI,y.az.af.bb,y.az.af.ord,y.az.af.val,.int .u32 y.hold]:=h;obtain⟨r,q⟩:=aW ((l.take k).map cV.az);rw[<-q]at a s e;obtain⟨m,hm⟩:=aW r.length;have a2:m<=k:=O;rw[<-hm]at a;obtain⟨X,D,t,G,W,L,F⟩:=dW z d a hm q s x;clear z d a hm q s x h B e V Q;go_wp2_with(first|(refine wpList_load_mid I _ (.tmp 15) I b (off+k*10) I [y.az.proc,y.az.idx,y.az.af.kind,y.az.af.inc,y.az.af.aH,y.az.af.bI,y.az.af.bb,y.az.af.ord,y.az.af.val] _ H.o gY I Z ?_)|(refine gJ I 73 175 1 _ I ll _ [(0,.agg #[y.az.proc,y.az.idx,y.az.af.kind,y.az.af.inc,y.az.af.aH,y.az.af.bI,y.az.af.bb,y.az.af.ord,y.az.af.val])] I (ph _ _ _ _ _ _ _ _ _) ?_)|(at_builtin;refine fe _ I (.tmp 11) (.tmp 17) 73 I w.heap.size 175 i0 _ 9 72 ll C.o M.o N.o P.o I O _ m _ I (t.o.alloc _) _ (some ⟨wr.heap.size,0,none⟩) 1 1 (da y.az) I (eW I) (mU _) dQ O aY ?_;intro Q V z x B));go_roundw;case rel=>refine⟨k+1,cz,U,F.o,?_,(eL D.o _).append (t.o.alloc _) x (λ i h=>h) aY⟩;dsimp only;rw[L.o,gp,<-G.o,hJ];simpa using z
  case measure=>exact bS
 have R:decide (k<n)=false:=ax p;have T:decide ((k:Int)<(n:Int))=false:=aY;have q:l.take k=l:=hU (an g.o);rw[q]at a;obtain⟨bf,bc,rfl,h⟩:=nj (k:=0) a d;have s:=ai h;clear h a d e q;go_wp2_with fail;go_ret;exact s.o
end
section
open Go.Proofs
def DX(w:World)(e:Ending)(ae:World):Prop:=∃v:Int,e=.returned (.int .u32 v)/\ab w ae
def na(w:World)(e:Ending)(ae:World):Prop:=∃v:Int,e=.returned (.int .i64 v)/\ab w ae
def yc(w:World)(v i:Value)(wr:World):Prop:=∃k m:Nat,v=.int .i64 m/\i=.int .i64 k/\k<=32/\m<=k/\ab w wr
theorem Mj(w h):Calls Tryz.prog 124 #[.int .u32 h] w (na w):=by
 go_enter func124,ntmps124;go_wp2_with fail;go_loopw[3,4] (λ v i wr=>yc w v i wr) (λ _ i _=>32- (intOf i).toNat);case atStart=>exact⟨0,0,I,I,O,O,aN _ _⟩
 obtain⟨k,m,rfl,rfl,p,hm,a⟩:=hrel;by_cases e:k<32
 ·have t0:decide (k<32)=true:=ax e;have n:decide ((k:Int)<32)=true:=aY;have q:¬(k:Int)<0:=O;have dv:(0:Int)<=k:=O;have d:∀c:Nat,c<=k+1->yc w (.int .i64 c) (.int .i64 ((k:Int)+1)) wr:=λ c f=>⟨k+1,c,I,cz,O,O,a⟩;have f:yc w (.int .i64 ((m:Int)+1)) (.int .i64 ((k:Int)+1)) wr:=by have:=d (m+1) O;simpa using this
  have g:=d m O;obtain⟨c,j,l⟩:=cf a f g;clear a f g d;go_upto_if 13 with fail;generalize (bits BinOp.and IntKind.u32 (h/2^k) 1==1)=b;cases b with
  |true=>
   go_wp2_with fail;go_roundw;case rel=>exact j.o
   case measure=>exact bS
  |false=>
   go_wp2_with fail;go_roundw;case rel=>exact l.o
   case measure=>exact bS
 have t0:decide (k<32)=false:=ax e;have n:decide ((k:Int)<32)=false:=aY;have c:=ai a;clear a;go_wp2_with fail;go_ret;exact⟨m,I,c.o⟩
def Fs(w:World)(n:Nat)(v i:Value)(wr:World):Prop:=∃(k:Nat) (x:Int),v=.int .u32 x/\i=.int .i64 k/\k<=n/\ab w wr
theorem qV(w)(n:Nat)(aJ:n<=32):Calls Tryz.prog 91 #[n] w (DX w):=by
 have hm:(if (32:Int)<(n:Int)then(32:Int)else(n:Int))=n:=by split<;>omega
 have h:¬(32:Int)<(n:Int):=O;go_enter func91,ntmps91;go_wp2_with fail;go_loopw[3,4] (λ v i wr=>Fs w n v i wr) (λ _ i _=>n- (intOf i).toNat);case atStart=>exact⟨0,0,I,I,O,aN _ _⟩
 obtain⟨k,x,rfl,rfl,g,a⟩:=hrel;by_cases c:k<n
 ·have t0:decide (k<n)=true:=ax c;have f:decide ((k:Int)<(n:Int))=true:=aY;have j:¬(k:Int)<0:=O;have dv:(0:Int)<=k:=O;have d:∀y:Int,Fs w n (.int .u32 y) (.int .i64 ((k:Int)+1)) wr:=λ y=>⟨k+1,y,I,cz,O,a⟩;obtain⟨b,e⟩:=ck a d;clear a d;go_wp2_with fail;go_roundw;case rel=>exact e.o _
  case measure=>exact bS
 have t0:decide (k<n)=false:=ax c;have f:decide ((k:Int)<(n:Int))=false:=aY;have b:=ai a;clear a;go_wp2_with fail;go_ret;exact⟨x,I,b.o⟩
theorem jW(w)(p:Nat)(hp:p<=31):Calls Tryz.prog 92 #[p] w (DX w):=by have t0:decide ((p:Int)<0)=false:=aT;have t1:decide ((31:Int)<(p:Int))=false:=aY;have b:decide (31<p)=false:=aY;have dv:(0:Int)<=p:=O;have a:¬(p:Int)<0:=O;go_enter func92,ntmps92;go_wp2_with fail;go_ret;exact⟨_,I,aN _ _⟩
end
section
open Go.Proofs
def lq(a b:Int):Int:=if a<b then -1 else if b<a then 1 else 0
def xa(v:Int)(w:World)(e:Ending)(ae:World):Prop:=e=.returned (.int .i64 v)/\ab w ae
theorem Iv(w)(a b:Int):Calls Tryz.prog 143 #[a,b] w (xa (lq a b) w):=by
 by_cases h:a<b
 ·have t0:decide (a<b)=true:=ax h;have c:=cE (lq a b=-1) (di h);go_enter func143,Ba;go_wp2_with fail;go_ret;exact⟨by rw[c.o];rfl,aN _ _⟩
 have t0:decide (a<b)=false:=ax h;by_cases h2:b<a
 ·have t1:decide (b<a)=true:=ax h2;have d:lq a b=1:=by unfold lq;rw[dg h,di h2]
  have c:=ai d;clear d;go_enter func143,Ba;go_wp2_with fail;go_ret;exact⟨by rw[c.o];rfl,aN _ _⟩
 have t1:decide (b<a)=false:=ax h2;have d:lq a b=0:=by unfold lq;rw[dg h,dg h2]
 have c:=ai d;clear d;go_enter func143,Ba;go_wp2_with fail;go_ret;exact⟨by rw[c.o];rfl,aN _ _⟩
theorem Il(a b c d):iF (a::c) (b::d)=if lq a b=0 then iF c d else lq a b:=by
 unfold lq;rw[iF];by_cases h:a<b
 ·simp[h]
 by_cases h2:b<a
 ·simp[h,h2]
 simp[h,h2]
theorem Is{a b:List Int}{k:Nat}(c:k<a.length)(d:k<b.length):iF (a.drop k) (b.drop k)=if lq (a.getD k 0) (b.getD k 0)=0 then iF (a.drop (k+1)) (b.drop (k+1))else lq (a.getD k 0) (b.getD k 0):=by rw[pR c,pR d,Il];simp[List.getD,c,d]
theorem DB(a b c d e f g h i):Tryz.prog.built 227 [(0,.int .i64 a),(1,.int .i64 b),(2,.int .i64 c),(3,.int .i64 d),(4,.int .i64 e),(5,.int .i64 f),(6,.int .i64 g),(7,.int .i64 h),(8,.int .i64 i)]=some #[.int .i64 a,.int .i64 b,.int .i64 c,.int .i64 d,.int .i64 e,.int .i64 f,.int .i64 g,.int .i64 h,.int .i64 i]:=Z
def jt(d:cy):List Value:=(gz d).map (Value.int .i64)
theorem By{d k}(h:k<9):(jt d)[k]?=some (.int .i64 ((gz d).getD k 0)):=by unfold jt;rw[gU,dA (show k<(gz d).length from h)];simp[List.getD,show k<(gz d).length from h]
def Dn(a b:cy)(W:World)(i:Value)(wr:World):Prop:=∃k:Nat,i=.int .i64 k/\k<=9/\ku a b=iF ((gz a).drop k) ((gz b).drop k)/\ab W wr
theorem DV(w a b):Calls Tryz.prog 127 #[.agg (da a).toArray,.agg (da b).toArray] w (xa (ku a b) w):=by
 show Calls Tryz.prog 127 #[.agg #[a.proc,a.idx,a.af.kind,a.af.inc,a.af.aH,a.af.bI,a.af.bb,a.af.ord,a.af.val],.agg #[b.proc,b.idx,b.af.kind,b.af.inc,b.af.aH,b.af.bI,b.af.bb,b.af.ord,b.af.val]] w _;generalize d:(w.alloc (.cells #[a.proc,a.idx,a.af.kind,a.af.inc,a.af.aH,a.af.bI,a.af.bb,a.af.ord,a.af.val] 175)).alloc (.cells #[b.proc,b.idx,b.af.kind,b.af.inc,b.af.aH,b.af.bI,b.af.bb,b.af.ord,b.af.val] 175)=W;have p:ab w W:=d▸eL (cx w _) _;have m:aC W w.heap.size 175 (da a).toArray:=d▸(cu w _ _).alloc _;have n:aC W (w.heap.size+1) 175 #[b.proc,b.idx,b.af.kind,b.af.inc,b.af.aH,b.af.bI,b.af.bb,b.af.ord,b.af.val]:=d▸(by simpa using cu (w.alloc _) _ _);have l:aC W (w.heap.size+1) 175 (da b).toArray:=n;have E:w.heap.size+1<W.heap.size:=l.lt;have c:∀(j:Nat) (u:Value),(da a)[j]?=some u->W.cell? ⟨w.heap.size,j,none⟩=some u:=λ j u hu=>by rw[m.cell];simpa using hu
 have q:∀(j:Nat) (u:Value),(da b)[j]?=some u->∀J,ab W J->J.cell? ⟨w.heap.size+1,j,none⟩=some u:=λ j u hu J g=>by rw[(g.ay l E).cell];simpa using hu
 have s:=c 0 _ I;have t:=c 1 _ I;have v:=c 2 _ I;have x:=c 3 _ I;have y:=c 4 _ I;have z:=c 5 _ I;have A:=c 6 _ I;have C:=c 7 _ I;have D:=c 8 _ I;obtain⟨r,f⟩:=ck p q;clear p q c m l n;go_enter func127,ntmps127;go_upto_region 1 with fail;clear d;go_upto_region 2 with(refine fW rfl 227 _ rfl _ [(0,.int .i64 a.proc),(1,.int .i64 a.idx),(2,.int .i64 a.af.inc),(3,.int .i64 a.af.kind),(4,.int .i64 a.af.aH),(5,.int .i64 a.af.bI),(6,.int .i64 a.af.bb),(7,.int .i64 a.af.ord),(8,.int .i64 a.af.val)] rfl (DB _ _ _ _ _ _ _ _ _) ?_);have c:ab W (W.alloc (.cells (jt a).toArray 227)):=cx _ _;have d:aC (W.alloc (.cells (jt a).toArray 227)) W.heap.size 227 (jt a).toArray:=cu _ _ _;have hu:W.alloc (.cells (jt a).toArray 227)=W.alloc (.cells #[a.proc,a.idx,a.af.inc,a.af.kind,a.af.aH,a.af.bI,a.af.bb,a.af.ord,a.af.val] 227):=I;rw[hu]at c d;clear hu;generalize W.alloc (.cells #[a.proc,a.idx,a.af.inc,a.af.kind,a.af.aH,a.af.bI,a.af.bb,a.af.ord,a.af.val] 227)=u1 at*;have B:=d.lt;have N:=c.size;have m:=f.o 0 _ I u1 c;have y1:=f.o 1 _ I u1 c;have p:=f.o 2 _ I u1 c;have q:=f.o 3 _ I u1 c;have F:=f.o 4 _ I u1 c;have G:=f.o 5 _ I u1 c;have H:=f.o 6 _ I u1 c;have L:=f.o 7 _ I u1 c;have M:=f.o 8 _ I u1 c;clear s t v x y z A C D;obtain⟨n,l⟩:=ck c d;clear c d;go_upto_region 3 with(refine fW rfl 227 _ rfl _ [(0,.int .i64 b.proc),(1,.int .i64 b.idx),(2,.int .i64 b.af.inc),(3,.int .i64 b.af.kind),(4,.int .i64 b.af.aH),(5,.int .i64 b.af.bI),(6,.int .i64 b.af.bb),(7,.int .i64 b.af.ord),(8,.int .i64 b.af.val)] rfl (DB _ _ _ _ _ _ _ _ _) ?_);have d:ab u1 (u1.alloc (.cells (jt b).toArray 227)):=cx _ _;have c:aC (u1.alloc (.cells (jt b).toArray 227)) u1.heap.size 227 (jt b).toArray:=cu _ _ _;have hu:u1.alloc (.cells (jt b).toArray 227)=u1.alloc (.cells #[b.proc,b.idx,b.af.inc,b.af.kind,b.af.aH,b.af.bI,b.af.bb,b.af.ord,b.af.val] 227):=I;rw[hu]at d c;clear hu m y1 p q F G H L M f;generalize u1.alloc (.cells #[b.proc,b.idx,b.af.inc,b.af.kind,b.af.aH,b.af.bI,b.af.bb,b.af.ord,b.af.val] 227)=u2 at*;have f:=d.ay l.o B;have y:=aM r.o (aM n.o d);obtain⟨s,v⟩:=aW W.heap.size;obtain⟨t,x⟩:=aW u1.heap.size;rw[<-v]at f⊢;rw[<-x]at c⊢;have cA:=c.lt;have dL:=f.lt;have z:∀(j:Nat),j<9->∀J,ab u2 J->J.cell? ⟨s,j,none⟩=some (.int .i64 ((gz a).getD j 0)):=λ j p J g=>by rw[(g.ay f dL).cell,fg];exact By p
 have A:∀(j:Nat),j<9->∀J,ab u2 J->J.cell? ⟨t,j,none⟩=some (.int .i64 ((gz b).getD j 0)):=λ j p J g=>by rw[(g.ay c cA).cell,fg];exact By p
 obtain⟨q,C,D⟩:=cf y z A;clear y z A f c d v x B cA dL n l r;go_wp2_with fail;go_loopw[7] (λ i wr=>Dn a b u2 i wr) (λ i _=>9- (intOf i).toNat);case atStart=>exact⟨0,I,O,I,aN _ _⟩
 obtain⟨k,rfl,A,c,f⟩:=hrel;by_cases d:k<9
 ·have t0:decide (k<9)=true:=ax d;have z:decide ((k:Int)<9)=true:=aY;have i0:(0:Int)<=k:=O;have i1:(k:Int)<9:=O;have i2:k<9:=d;have m:∀J,ab wr J->J.cell? ⟨s,k,none⟩=some (.int .i64 ((gz a).getD k 0)):=λ J g=>C.o k d J (aM f g);have y1:∀J,ab wr J->J.cell? ⟨t,k,none⟩=some (.int .i64 ((gz b).getD k 0)):=λ J g=>D.o k d J (aM f g);rw[Is (show k<(gz a).length from d) (show k<(gz b).length from d)]at c;obtain⟨eP,l⟩:=aW ((gz a).getD k 0);obtain⟨eC,n⟩:=aW ((gz b).getD k 0);rw[<-l,<-n]at c;rw[<-l]at m;rw[<-n]at y1;obtain⟨x,y⟩:=ck c f;clear c f l n;go_upto_region 6 with fail;refine fy λ u0 l n=>?_;refine ag 0 (h:=ag 1 (h:=ag 2 (h:=ag 3 (h:=ag 4 (h:=ag 5 (h:=?_))))));clear m y1;refine aV 6 λ K m=>?_;go_simp;refine(Iv u0 eP eC).mono ?_;rintro e u3 ⟨rfl,v⟩;have r:=aM l v;refine aZ m aD r ?_;clear m K n l;intro n l;refine ag 7 (h:=?_);refine cg Z ?_;have m:=aM y.o l;have c:=x.o;clear n l r v;by_cases h0:lq eP eC=0
  ·rw[di h0]at c;have t1:(lq eP eC !=0)=false:=ax h0;have l:Dn a b u2 (.int .i64 ((k:Int)+1)) u3:=⟨k+1,cz,O,c,m⟩;have r:=ai l;clear l c m h0;go_wp2_with fail;go_roundw;case rel=>exact r.o
   case measure=>exact bS
  rw[dg h0]at c;have t1:(lq eP eC !=0)=true:=ax h0;have l:xa (ku a b) w (.returned (.int .i64 (lq eP eC))) u3:=⟨by rw[c],aM q.o m⟩;have n:=ai l;clear l c m h0;go_wp2_with fail;go_ret;exact n.o
 have t0:decide (k<9)=false:=ax d;have z:decide ((k:Int)<9)=false:=aY;obtain rfl:k=9:=O;have l:xa (ku a b) w (.returned (.int .i64 0)) wr:=⟨by rw[c];rfl,aM q.o f⟩;have n:=ai l;clear l c f;go_wp2_with fail;go_ret;exact n.o
end
section
open Go.Proofs
def qw(a b:List cy)(w:World)(e:Ending)(ae:World):Prop:=∃r:List cy,lv r/\(∀x∈r,x∈a\/x∈b)/\jU da 9 r w e ae
def yS(a b:List cy)(W:World)(v i:Value)(wr:World):Prop:=∃(k:Nat) (out:List cy),i=.int .i64 k/\k<=a.length+b.length/\out.length<=k/\lv out/\(∀x∈out,x∈a\/x∈b)/\wr.ownsRow W.heap.size 175 9 v out.length (out.flatMap da)/\ab W wr
def KV(a:Nat)(W:World)(l:List cy)(k:Nat)(J:World):Prop:=∃d:cy,l[k]?=some d/\aC J a 175 (da d).toArray/\ab W J
def vL(a:List cy)(d:cy)(W:World)(v:Value)(J:World):Prop:=∃m:Nat,v=.int .i64 m/\m<=a.length/\(∀i e,m<=i->a[i]?=some e->0<ku e d)/\ab W J
def py(a:List cy)(d:cy)(W:World)(v:Value)(J:World):Prop:=∃m:Nat,v=.int .i64 m/\m<=a.length/\(∀i e,m<=i->a[i]?=some e->0<ku e d)/\(∀e,0<m->a[m-1]?=some e->ku e d<=0)/\ab W J
def so(a:List cy)(d:cy)(m:Nat)(W:World)(v:Value)(J:World):Prop:=∃b:Bool,v=.bool b/\(b=true->0<m/\a[m-1]?=some d)/\(b=false->∀e,0<m->a[m-1]?=some e->e≠d)/\ab W J
theorem yh{a b:cy}(h:¬a=b):a.proc=b.proc->a.idx=b.idx->a.af.kind=b.af.kind->a.af.inc=b.af.inc->a.af.aH=b.af.aH->a.af.bI=b.af.bI->a.af.bb=b.af.bb->a.af.ord=b.af.ord->¬a.af.val=b.af.val:=λ h1 h2 aA aS c d g j l=>h (by
 obtain⟨p,i,e⟩:=a
 obtain⟨x,q,e'⟩:=b
 obtain⟨k,n,f,s,t,o,v⟩:=e
 obtain⟨r,u,m,y,z,w,bT⟩:=e'
 simp only at h1 h2 aA aS c d g j l
 subst h1 h2 aA aS c d g j l
 rfl)
def pz(g c k a:Nat):Option Addr:=if c=k then some ⟨g,0,none⟩else some ⟨g,k*a,none⟩
theorem sx(g c k a):∃o:Nat,pz g c k a=some ⟨g,o,none⟩/\(c≠k->o=k*a)/\(c=k->o=0):=by
 unfold pz;by_cases h:c=k
 ·exact⟨0,by rw[di h],λ aJ=>absurd h aJ,λ _=>I⟩
 exact⟨k*a,by rw[dg h],λ _=>I,λ b=>absurd b h⟩
theorem pF{α:Type}{enc:α->List Value}{size base n c:Nat}{e w wr A}{l:List α}(h:w.ownsRow base e size (.slice A n c) n (l.flatMap enc))(q:ab w wr)(s:l.length=n){k:Nat}(r:k<n)(au:∀a,(enc a).length=size):∃(g o:Nat) (x:α),A=some ⟨g,o,none⟩/\g<wr.heap.size/\l[k]?=some x/\∀J,ab wr J->∀(j:Nat) (u:Value),(enc x)[j]?=some u->J.cell? ⟨g,o+k*size+j,none⟩=some u:=by
 obtain⟨bf,bc,d,h1,h2⟩:=dZ h;have t:bl enc size w (λ i=>i<w.heap.size) A n c l:=by injection d with d f m;subst d m;exact⟨s.symm,h1,h2,(lX h).more (λ i d=>d.2)⟩
 obtain⟨b,off,x,f,d,v,av⟩:=t.at_ au r;have m:b<wr.heap.size:=Nat.lt_of_lt_of_le d q.size;exact⟨b,off,x,f,m,v,λ J y j u hu=>((y.cell (p:=⟨b,off+k*size+j,none⟩) m).trans (q.cell (p:=⟨b,off+k*size+j,none⟩) d)).trans (av j u hu)⟩
theorem mi{α:Type}{enc:α->List Value}(h:∀x,∀u∈enc x,u.oneCell'=true)(l:List α):∀u∈l.flatMap enc,u.oneCell'=true:=λ u hu=>by
 obtain⟨x,_,a⟩:=td.1 hu
 exact h x u a
theorem sE(cur o):lay cur o []=cur:=by simp[lay]
theorem yO(w S A B q k0 P k5 a b)(k6:∀i,S i->i<w.heap.size)(f_:bl da 9 w S A q k0 a)(g0:bl da 9 w S B P k5 b)(w6:q<=100000)(w7:P<=100000):Calls Tryz.prog 100 #[.slice A q k0,.slice B P k5] w (qw a b w):=by
 obtain⟨i0,l_,o1,o3,o4⟩:=eO sZ;have m_:=f_.1;have n0:=g0.1;have x0:IntKind.i64.wrap ((q:Int)+(P:Int))=(q:Int)+P:=eI _ O;obtain⟨p0,q8,q9,q',o6,o7,c9,p_,j'⟩:=df l_ o1 o3 o4 f_ g0 m_ n0 k6;clear l_ o1 o3 o4 f_ g0 m_ n0 k6;go_enter func100,ntmps100;go_wp2_with fail;go_loopw[5,6] (λ v i wr=>yS a b w v i wr) (λ _ i _=>q+P- (intOf i).toNat);case atStart=>exact⟨0,[],I,Nat.zero_le _,Nat.le_refl _,List.Pairwise.nil,aT,ee _ _ _ _,aN _ _⟩
 obtain⟨k,out,rfl,m2,s6,a3,a2,V,E⟩:=hrel;obtain⟨a7,b1,rfl,-,-⟩:=dZ V;obtain⟨p,a1⟩:=aW out.length;rw[<-a1]at V s6⊢;have t':=E.size;by_cases w4:k<q+P
 ·have t0:decide ((k:Int)<(q:Int)+P)=true:=aY;have w3:k+1<=a.length+b.length:=cM c9.o p_.o;have k7:∀g,(Value.slice a7 p b1).ownBlock=some g->g<wr.heap.size:=λ g r5=>(V.lt g r5).2;obtain⟨W,rfl⟩:=aW (wr:World);have w2:p<=200000:=O;obtain⟨j6,Y,j_,e7,C,q7⟩:=er V E a3 a2 a1 k7;clear V E a3 a2 a1 k7 m2;go_upto_region 6 with fail;have h6:ab W (W.alloc (.cells Pv 175)):=ab.new _ _;have c_:aC (W.alloc (.cells Pv 175)) W.heap.size 175 Pv:=cu _ _ _;generalize W.alloc (.cells Pv 175)=u1 at*;have x1:=h6.size;have y2:=c_.lt;obtain⟨F,l8⟩:=aW W.heap.size;rw[<-l8]at c_⊢;have l9:W.heap.size<=F:=O;have w1:F<u1.heap.size:=O;clear l8;obtain⟨a',e4⟩:=ck h6 c_;clear h6 c_;go_upto_if 22 with fail;go_cut[]from 23 to 33 (λ J=>KV F W (a++b) k J);case first=>
   by_cases h8:k<q
   ·obtain⟨b0,c3,d,rfl,r3,b8,b6⟩:=(o6.o.aq ((ab.trans Y.o a'.o).mono j'.o)).at_ lN h8;have t1:decide ((k:Int)<(q:Int))=true:=aY;have v3:decide (k<q)=true:=ax h8;have t_:(0:Int)<=k:=O;have u_:(k:Int)<(q:Int):=O;have M:u1.rangeAt b0 (c3+k*9) [d.proc,d.idx,d.af.kind,d.af.inc,d.af.aH,d.af.bI,d.af.bb,d.af.ord,d.af.val]:=λ j u hu=>b6 j u hu;have R:(a++b)[k]?=some d:=(by rw[me (an c9.o)];exact b8);obtain⟨a0,a8⟩:=ck M R;clear M R b6 b8;go_wp2_with(first|(refine gK I _ (.tmp 25) I b0 (c3+k*9) [d.proc,d.idx,d.af.kind,d.af.inc,d.af.aH,d.af.bI,d.af.bb,d.af.ord,d.af.val] _ I a0.o gY I Z ?_)|(refine db I _ (.tmp 7) (.tmp 26) I F 175 _ [d.proc,d.idx,d.af.kind,d.af.inc,d.af.aH,d.af.bI,d.af.bb,d.af.ord,d.af.val] I I e4.o I Z I ?_;intro Q g1 i7));go_meet;exact⟨d,a8.o,g1,ab.write a'.o i7 l9⟩
   obtain⟨N,e0⟩:∃N,k=q+N:=⟨k-q,O⟩;obtain⟨b0,c3,d,rfl,r3,b8,b6⟩:=(o7.o.aq ((ab.trans Y.o a'.o).mono j'.o)).at_ lN (k:=N) O;have t1:decide ((k:Int)<(q:Int))=false:=aY;have v3:decide (k<q)=false:=ax h8;have w_:IntKind.i64.wrap ((k:Int)- (q:Int))=(N:Int):=(by rw[show(k:Int)- (q:Int)=(N:Int)from O];exact eI _ O);have t_:(0:Int)<=N:=O;have u_:(N:Int)<(P:Int):=O;have M:u1.rangeAt b0 (c3+N*9) [d.proc,d.idx,d.af.kind,d.af.inc,d.af.aH,d.af.bI,d.af.bb,d.af.ord,d.af.val]:=λ j u hu=>b6 j u hu;have R:(a++b)[k]?=some d:=(by rw[oH (an c9.o),show k-a.length=N from an c9.o];exact b8);obtain⟨a0,a8,v7⟩:=cf M R e0;clear M R e0 b6 b8;go_wp2_with(first|(refine gK I _ (.tmp 32) I b0 (c3+N*9) [d.proc,d.idx,d.af.kind,d.af.inc,d.af.aH,d.af.bI,d.af.bb,d.af.ord,d.af.val] _ I a0.o gY I Z ?_)|(refine db I _ (.tmp 7) (.tmp 33) I F 175 _ [d.proc,d.idx,d.af.kind,d.af.inc,d.af.aH,d.af.bI,d.af.bb,d.af.ord,d.af.val] I I e4.o I Z I ?_;intro Q g1 i7));go_meet;exact⟨d,a8.o,g1,ab.write a'.o i7 l9⟩
  obtain⟨d,R,k',y⟩:=hcut;obtain⟨Q,rfl⟩:=aW (wc:World);have x2:=y.size;have n7:=dy j6.o y (λ i t=>t.2);have m4:=ab.trans Y.o y;have n6:(Value.slice a7 p b1).ownBlock≠some F:=λ e=>an (q7.o F e);obtain⟨j7,p6,c5,a8,j5⟩:=dC n7 m4 k' R n6;clear n7 m4 k' R n6 y a' e4 j6 Y;go_upto_region 9 with fail;go_cut[8]from 34 to 35 (λ v J=>v=.int .i64 p/\Q=J);case first=>go_wp2_with fail;go_meet;exact⟨I,I⟩
  rename_i r1;obtain⟨rfl,rfl⟩:=hcut;refine r1 _ _ (wp_seq_k (λ v8 v_=>?_));go_cut[8]from 36 to 49 (λ v J=>py (out.map id) d Q v J);case first=>
   go_wp2_with fail;go_loopw[8] (λ v wr=>vL (out.map id) d Q v wr) (λ v _=>(intOf v).toNat);case atStart=>exact⟨p,I,by have:=C.o;simp;omega,λ i e t he=>(by rw[lH (by have:=C.o;simp;omega)]at he;cases he),aN _ _⟩
   obtain⟨m,rfl,a6,T,E⟩:=hrel;have r_:m<=p:=(by have:=C.o;simp at a6;omega);have t':=E.size;rcases m with _|f
   ·have t0:decide ((0:Int)<(0:Nat))=false:=aT;have j0:decide ((0:Int)<0)=false:=aT;have G:py (out.map id) d Q (.int .i64 (0:Nat)) (wr.drewN 1):=⟨0,I,Nat.zero_le _,T,λ e h=>absurd h O,ab.trans E (ab.fZ _ _)⟩;have l7:∀j,py (out.map id) d Q (.int .i64 (0:Nat)) (wr.drewN j):=λ j=>⟨0,I,Nat.zero_le _,T,λ e h=>absurd h O,ab.trans E (ab.fZ _ _)⟩;have o_:=ai l7;clear l7 G T E a6;go_upto_region 10 with fail;go_quiet(fail);go_wp2_with fail;go_meet;exact o_.o _
   obtain⟨b2,c2,c,e_,-,b9,b7⟩:=pF j7.o E C.o.symm (k:=f) (an C.o) lN;have t0:decide ((0:Int)<((f+1:Nat):Int))=true:=(by rw[decide_eq_true_eq];omega);have j0:decide ((0:Int)<(f:Int)+1)=true:=(by rw[decide_eq_true_eq];omega);have s9:IntKind.i64.wrap (((f+1:Nat):Int)-1)=(f:Int):=(by rw[show((f+1:Nat):Int)-1=(f:Int)from O];exact eI _ O);have s':IntKind.i64.wrap ((f:Int)+1-1)=(f:Int):=(by rw[show(f:Int)+1-1=(f:Int)from O];exact eI _ O);have s_:IntKind.i64.wrap (f:Int)=(f:Int):=eI _ O;have i0:(0:Int)<=f:=O;have i1:(f:Int)<(p:Int):=O;have b_:(out.map id)[f]?=some (c):=(by rw[gU,b9];rfl);have M:∀J,ab wr J->J.rangeAt b2 (c2+f*9) [c.proc,c.idx,c.af.kind,c.af.inc,c.af.aH,c.af.bI,c.af.bb,c.af.ord,c.af.val]:=λ J z j u hu=>b7 J z j u hu;have c0:∀J,ab wr J->J.rangeAt F 0 [d.proc,d.idx,d.af.kind,d.af.inc,d.af.aH,d.af.bI,d.af.bb,d.af.ord,d.af.val]:=λ J z j u hu=>by rw[((ab.trans E z).ay c5.o c5.o.lt).cell,Nat.zero_add,fg];exact hu
   obtain⟨a0,e6,c8,Y,a9⟩:=dC M c0 T E b_;clear M c0 T E b_ b7 b9 a6;subst e_;go_upto_region 10 with fail;refine fy λ u0 s L=>?_;refine ag 0 (h:=ag 1 (h:=ag 2 (h:=ag 3 (h:=ag 4 (h:=ag 5 (h:=ag 6 (h:=?_)))))));refine cK 7 I (dw ba _ _ I b2 (c2+f*9) I [c.proc,c.idx,c.af.kind,c.af.inc,c.af.aH,c.af.bI,c.af.bb,c.af.ord,c.af.val] _ (λ J z=>a0.o J z) gY I Z) ?_;refine cK 8 I (dw ba _ _ I F 0 I [d.proc,d.idx,d.af.kind,d.af.inc,d.af.aH,d.af.bI,d.af.bb,d.af.ord,d.af.val] _ (λ J z=>e6.o J z) gY I Z) ?_;refine aV 9 λ K b3=>?_;go_simp;refine(DV u0 (c) (d)).mono ?_;rintro e u3 ⟨rfl,h7⟩;have e9:=ab.trans s h7;refine aZ b3 aD e9 ?_;clear b3 K L s;intro L s;obtain⟨e8,g'⟩:=aW (ku (c) (d));rw[<-g'];have c7:=ai g';clear g';by_cases b5:0<e8
   ·have t1:decide ((0:Int)<e8)=true:=ax b5;refine ag 10 (h:=ag 11 (h:=?_));refine cg Z ?_
    have U:vL (out.map id) d Q (.int .i64 (f:Int)) u3:=⟨f,I,by have:=C.o;simp;omega,λ i e t he=>by
     by_cases r6:f=i
     ·subst r6
      rw[a9.o]at he
      injection he with he
      rw[<-he,<-c7.o];exact b5
     ·exact c8.o i e O he,ab.trans Y.o s⟩
    have a_:=ai U;clear U L s e9 h7 c7 b5;go_wp2_with fail;go_roundw;case rel=>exact a_.o
    case measure=>simp[intOf]
   have t1:decide ((0:Int)<e8)=false:=ax b5;refine ag 10 (h:=ag 11 (h:=?_));refine cg Z ?_
   have G:py (out.map id) d Q (.int .i64 ((f+1:Nat):Int)) u3:=⟨f+1,I,by have:=C.o;simp;omega,c8.o,λ e _ he=>by
    rw[Nat.add_sub_cancel,a9.o]at he
    injection he with he
    rw[<-he,<-c7.o];omega,ab.trans Y.o s⟩
   have X:=ai G;clear G L s e9 h7 c7 b5;go_wp2_with fail;go_meet;exact X.o
  obtain⟨m,rfl,a6,T,hle,y⟩:=hcut;obtain⟨c4,rfl⟩:=aW (wc:World);have r_:m<=p:=by have:=C.o;simp at a6;omega
  have x3:=y.size;have n8:=dy j7.o y (λ i t=>t.2);have k_:=y.ay c5.o c5.o.lt;have m5:=ab.trans p6.o y;obtain⟨c8,p9,j8,c6,p7⟩:=dC T hle n8 k_ m5;clear T hle n8 k_ m5 y a6;go_upto_region 12 with fail;go_cut[60]from 50 to 60 (λ v J=>so (out.map id) d m c4 v J);case first=>
   rcases m with _|f
   ·have t0:decide ((0:Int)<(0:Nat))=false:=aT;have j0:decide ((0:Int)<0)=false:=aT;go_quiet(fail);go_wp2_with fail;go_meet;exact⟨false,I,nofun,λ _ e h=>absurd h O,ab.fZ _ _⟩
   obtain⟨b2,c2,c,e_,-,b9,b7⟩:=pF j8.o (aN _ _) C.o.symm (k:=f) (an C.o) lN;have t0:decide ((0:Int)<((f+1:Nat):Int))=true:=(by rw[decide_eq_true_eq];omega);have j0:decide ((0:Int)<(f:Int)+1)=true:=(by rw[decide_eq_true_eq];omega);have s9:IntKind.i64.wrap (((f+1:Nat):Int)-1)=(f:Int):=(by rw[show((f+1:Nat):Int)-1=(f:Int)from O];exact eI _ O);have s':IntKind.i64.wrap ((f:Int)+1-1)=(f:Int):=(by rw[show(f:Int)+1-1=(f:Int)from O];exact eI _ O);have s_:IntKind.i64.wrap (f:Int)=(f:Int):=eI _ O;have i0:(0:Int)<=f:=O;have i1:(f:Int)<(p:Int):=O;have b_:(out.map id)[f]?=some (c):=(by rw[gU,b9];rfl);have M:∀J,ab c4 J->J.rangeAt b2 (c2+f*9) [c.proc,c.idx,c.af.kind,c.af.inc,c.af.aH,c.af.bI,c.af.bb,c.af.ord,c.af.val]:=λ J z j u hu=>b7 J z j u hu;have c0:∀J,ab c4 J->J.rangeAt F 0 [d.proc,d.idx,d.af.kind,d.af.inc,d.af.aH,d.af.bI,d.af.bb,d.af.ord,d.af.val]:=λ J z j u hu=>by rw[(z.ay c6.o c6.o.lt).cell,Nat.zero_add,fg];exact hu
   obtain⟨a0,e6,a9⟩:=cf M c0 b_;clear M c0 b_ b7 b9;subst e_;refine fy λ u0 s L=>?_;refine ag 0 (h:=ag 1 (h:=ag 2 (h:=ag 3 (h:=ag 4 (h:=ag 5 (h:=ag 6 (h:=?_)))))));refine cK 7 I (dw ba _ _ I b2 (c2+f*9) I [c.proc,c.idx,c.af.kind,c.af.inc,c.af.aH,c.af.bI,c.af.bb,c.af.ord,c.af.val] _ (λ J z=>a0.o J z) gY I Z) ?_;refine cK 8 I (dw ba _ _ I F 0 I [d.proc,d.idx,d.af.kind,d.af.inc,d.af.aH,d.af.bI,d.af.bb,d.af.ord,d.af.val] _ (λ J z=>e6.o J z) gY I Z) ?_;by_cases a5:c=d
   ·rw[a5];refine cK 9 I (gR ba (.bool true) (λ J _=>by go_simp)) ?_;refine ag 10 (h:=?_);refine cg Z ?_;have G:so (out.map id) d (f+1) c4 (.bool true) u0:=⟨true,I,λ _=>⟨O,by rw[Nat.add_sub_cancel,a9.o,a5]⟩,nofun,s⟩;have X:=ai G;clear G L s a5;go_wp2_with fail;go_meet;exact X.o
   have himp:=yh a5;refine cK 9 I (gR ba (.bool false) (λ J _=>by go_simp;exact himp)) ?_;refine ag 10 (h:=?_);refine cg Z ?_
   have G:so (out.map id) d (f+1) c4 (.bool false) u0:=⟨false,I,nofun,λ _ e _ he=>by
    rw[Nat.add_sub_cancel,a9.o]at he
    injection he with he
    rw[<-he];exact a5,s⟩
   have X:=ai G;clear G L s a5 himp;go_wp2_with fail;go_meet;exact X.o
  obtain⟨q_,rfl,d',g8,y⟩:=hcut;obtain⟨a4,rfl⟩:=aW (wc:World);have x4:=y.size;have e2:=dy j8.o y (λ i t=>t.2);have g6:=y.ay c6.o c6.o.lt;have e1:=ab.trans p7.o y;cases q_ with
  |true=>
   have r7:=(d' I).2;have s0:=(d' I).1;have U:yS a b w (.slice a7 p b1) (.int .i64 ((k:Int)+1)) a4:=⟨k+1,out,cz,O,an C.o,j_.o,e7.o,by rw[<-C.o];exact e2,e1⟩;have a_:=ai U;clear U e2 g6 e1 r7 s0 y d' g8;go_wp2_with fail;go_roundw;case rel=>exact a_.o
   case measure=>exact bS
  |false=>
   have m':=g8 I;obtain⟨j9,e5,p8,p'⟩:=cH e2 g6 e1 m';clear e2 g6 e1 m' y d' g8;go_upto_region 14 with(first|(refine gJ rfl 73 175 1 _ rfl underlying73 _ [(0,.agg Pv)] rfl (ph _ _ _ _ _ _ _ _ _) ?_)|(at_builtin;refine fe _ rfl (.tmp 61) (.tmp 63) 73 rfl w.heap.size 175 i0 _ 9 72 underlying73 p0.o q8.o q9.o q'.o rfl O _ p _ rfl (j9.o.alloc _) _ (some ⟨a4.heap.size,0,none⟩) 1 1 [.int .i64 0,.int .i64 0,.int .i64 0,.int .i64 0,.int .i64 0,.int .i64 0,.int .i64 0,.int .i64 0,.int .i64 0] rfl (dz.new rfl) (by intro u hu;simp at hu;subst hu;rfl) dQ O aY ?_;intro y3 H h_ h5 k8));have f':aw (λ i=>i<a4.heap.size/\(Value.slice a7 p b1).ownBlock≠some i) a4 H:=jA ((ab.new a4 _).mono (λ i t=>t.1)) h5 (λ i t=>by have:=t.1;simp;omega) (λ N e0 r2=>r2.2 e0);have m6:ab w H:=fh (ab.trans p8.o (ab.new _ _)) (j9.o.alloc _) h5 (λ i t=>t) aY;have g7:=f'.ay e5.o ⟨e5.o.lt,j5.o⟩;obtain⟨v5,D,rfl,-,-⟩:=dZ h_;obtain⟨r,cur,rfl,l1,d9,l5,h',r4,i9⟩:=qQ h_ O;have x5:=f'.size;have s3:F≠r:=λ e=>by
    rcases k8 with h|h
    ·exact j5.o (h.symm.trans (by rw[e];rfl))
    have h2:r=(a4.alloc (.cells Pv 175)).heap.size:=(by simpa [Value.ownBlock]using h);have:=e5.o.lt;have aA:=(ab.new a4 (.cells Pv 175)).size;omega
   have w5:=d9.lt;have r9:=g7.lt;clear h_ h5 k8 f';have w9:IntKind.i64.wrap ((m:Int)+1)=(m:Int)+1:=eI _ O;have x7:(0:Int)<=m:=O;have x8:(m:Int)<=(p:Int)+1:=O;have x9:(0:Int)<=(m:Int)+1:=O;have x_:(m:Int)+1<=(p:Int)+1:=O;have y0:((m:Int)+1).toNat=m+1:=O;obtain⟨i_,n1,n2,n3⟩:=sx r D (m+1) 9;obtain⟨cI,n4,n5,-⟩:=sx r D m 9;have s5:=n5 O;subst s5;have i':(out.flatMap da).length=p*9:=(by rw[lg lN,C.o]);have o0:∀j v,((out.flatMap da).drop (m*9))[j]?=some v->H.cell? ⟨r,m*9+j,none⟩=some v:=λ j v c1=>by
    rw[oa]at c1;rw[d9.cell,<-qH];have h1:=mK (λ l=>l[m*9+j]?) i9;rw[me (dV.1 c1).1,c1,mT]at h1;split at h1
    ·exact h1
    cases h1
   obtain⟨j1,o9,q6,q5,j3,j2,j4,q0⟩:=fl m6 g7 i9 o0 n2 n1 n4 n3;clear m6 g7 i9 o0 n2 n1 n4 n3 n5;refine eE 99 (λ _=>True) (λ J=>aw (λ i=>i<H.heap.size/\i≠r) H J) Z aD (dx (aN _ _)) (λ L s=>?_);have g9:aC H.drew r 175 cur:=d9;have i8:∀j v,((out.flatMap da).drop (m*9))[j]?=some v->H.drew.cell? ⟨r,m*9+j,none⟩=some v:=q5.o;have m0:ab H H.drew:=dx (aN _ _);generalize s8:H.drew=u0 at s g9 i8 m0⊢;clear s8;refine ag 0 (h:=ag 1 (h:=ag 2 (h:=?_)));refine cK 3 I (gR ba (.slice (pz r D (m+1) 9) (p+1- (m+1)) (D- (m+1))) (λ J r0=>by go_simp;rfl)) ?_;refine ag 4 (h:=ag 5 (h:=?_));refine cK 6 I (gR ba (.slice (pz r D m 9) (p+1-m) (D-m)) (λ J r0=>by go_simp;rfl)) ?_;rw[j2.o,j4.o];have m9:Nat.min (p+1-m) (p+1- (m+1))=p-m:=(by rw[show Nat.min (p+1-m) (p+1- (m+1))=min (p+1-m) (p+1- (m+1))from I];omega);refine aV 7 λ K b3=>?_;have g_:((out.flatMap da).drop (m*9)).length=p*9-m*9:=(by rw[pn,i'])
   refine Bn I _ _ 73 73 I 175 9 ll Z r i_ (p+1- (m+1)) (D- (m+1)) (p+1-m) (D-m) r (m*9) I I cur 175 g9 ((out.flatMap da).drop (m*9)) (by rw[g_,m9,Nat.sub_mul]) (by
    rw[g_]
    by_cases av:D=m+1
    ·have:p=m:=O
     subst this
     have w8:i_<=cur.size:=by
      have v9:=q0.o av
      omega
     omega
    ·rw[j3.o av]
     have h1:m*9<=p*9:=Nat.mul_le_mul_right _ O
     have h2:(p+1)*9<=D*9:=Nat.mul_le_mul_right _ h'
     omega) i8 (λ v c1=>mi mU _ v (tf c1)) ?_
   intro o5 g4 n';have r8:lay cur i_ ((out.flatMap da).drop (m*9))=lay cur ((m+1)*9) ((out.flatMap da).drop (m*9)):=by
    by_cases av:D=m+1
    ·have s4:(out.flatMap da).drop (m*9)=[]:=sU (by rw[i'];exact Nat.mul_le_mul_right _ O);rw[s4,sE,sE]
    rw[j3.o av]
   rw[r8]at g4;have b4:aw (λ i=>i<H.heap.size/\i≠r) H o5:=bR s n' (λ i t=>t.2);refine aZ b3 aD b4 ?_;clear b3 K L s;intro L s;refine cg Z ?_;have x6:=b4.size;have l0:=b4.ay o9.o ⟨r9,s3⟩;have s7:(p+1)*9<=cur.size:=(by rw[l5];exact Nat.mul_le_mul_right _ h');have hmul:(m+1)*9+((out.flatMap da).drop (m*9)).length<=cur.size:=(by rw[g_];have h1:m*9<=p*9:=Nat.mul_le_mul_right _ O;omega);have h9:(lay cur ((m+1)*9) ((out.flatMap da).drop (m*9))).size=cur.size:=ov hmul;have m3:ab w o5:=bR j1.o b4 (λ i t=>⟨an j1.o.size,O⟩);obtain⟨p5,o8,o'⟩:=cf m3 g4 l0;clear m3 g4 l0 L s b4 n' d9 g9 i8 m0 j2 j4 m9;have dv:(m:Int)<(p:Int)+1:=O;have d_:m*9+((da d)).length<=(lay cur ((m+1)*9) ((out.flatMap da).drop (m*9))).size:=(by rw[h9,lN];have:(m+1)*9<=(p+1)*9:=Nat.mul_le_mul_right _ O;omega);go_wp2_with(first|(refine ew I _ (.tmp 7) I F 175 [d.proc,d.idx,d.af.kind,d.af.inc,d.af.aH,d.af.bI,d.af.bb,d.af.ord,d.af.val] _ I o'.o gY I Z ?_)|(refine qq I 175 (.tmp 76) (.tmp 75) I r (m*9) 175 _ [d.proc,d.idx,d.af.kind,d.af.inc,d.af.aH,d.af.bI,d.af.bb,d.af.ord,d.af.val] I I o8.o d_ Z I ?_;intro e3 k9 n_));have g5:aC e3 r 175 (eY (lay cur ((m+1)*9) ((out.flatMap da).drop (m*9))) (m*9) (da d)):=k9;rw[vg _ _ _ d_]at g5;have n9:e3.ownsRow w.heap.size 175 9 (.slice (some ⟨r,0,none⟩) (p+1) D) (p+1) ((out.take m++d::out.drop m).flatMap da):=(by rw[<-zq lN,<-Ak (cur:=cur) (zs:=[.int .i64 0,.int .i64 0,.int .i64 0,.int .i64 0,.int .i64 0,.int .i64 0,.int .i64 0,.int .i64 0,.int .i64 0]) (n:=p) (es:=da d) q6.o i' I I O s7];refine⟨by rw[jm,Am,ov d_,h9];omega,.inr ⟨r,D,_,I,l1,g5,h',r4,?_,I⟩⟩;rw[ov d_,h9,l5]);have m8:(out.take m++d::out.drop m).length=p+1:=(by have:=C.o;simp;omega);have m7:ab w e3:=ab.write p5.o n_ l1;have a3:lv (out.take m++d::out.drop m):=j_.o.ins (an C.o) (λ i e t he=>c8.o i e t (by rw[gU,he];rfl)) (λ e h he=>⟨p9.o e h (by rw[gU,he];rfl),p'.o e h (by rw[gU,he];rfl)⟩);have a2:∀x∈out.take m++d::out.drop m,x∈a\/x∈b:=λ x z=>by
    rcases jV.1 z with h|h
    ·exact e7.o x (rJ h)
    rcases yg.1 h with rfl|h
    ·exact jV.1 (eo a8.o)
    exact e7.o x (tf h)
   have U:yS a b w (.slice (some ⟨r,0,none⟩) (p+1) D) (.int .i64 ((k:Int)+1)) e3:=⟨k+1,out.take m++d::out.drop m,cz,O,O,a3,a2,by rw[m8];exact n9,m7⟩;have a_:=ai U;clear U a3 a2 n9 m7 k9 g5 n_ m8;go_wp2_with fail;go_roundw;case rel=>exact a_.o
   case measure=>exact bS
 have t0:decide ((k:Int)<(q:Int)+P)=false:=aY;rw[a1]at V;obtain⟨bf,bc,c,l6⟩:=nj (k:=0) V E;have G:qw a b w (.returned (.slice a7 p b1)) wr:=⟨out,a3,a2,by rw[a1];exact l6⟩;obtain⟨X,C⟩:=ck G a1;clear G a1 V E a3 a2 l6 c m2;go_wp2_with fail;go_ret;exact X.o
end
section
open Go.Proofs
def oG(l:List cV)(bh:cV)(w:World)(e:Ending)(ae:World):Prop:=∃(r:List cV) (A:Option Addr) (c:Nat),lv (r.map cV.az)/\(∀x∈r,x.az∈l.map cV.az\/x.az=bh.az)/\e=.returned (.slice A r.length c)/\ae.ownsRow w.heap.size 179 10 (.slice A r.length c) r.length (r.flatMap cB)/\ab w ae
theorem Af{w:World}{a b n size:Nat}{e:TypeId}{v:Value}{xs:List Value}(h:w.ownsRow a e size v n xs)(c:b<=a):w.ownsRow b e size v n xs:=⟨h.1,h.2.imp id (λ⟨g,cap,cur,h1,h2,aA⟩=>⟨g,cap,cur,h1,ik c h2,aA⟩)⟩
def Az(l:List cV)(bh:cV)(W:World)(v i:Value)(wr:World):Prop:=∃(k:Nat) (out:List cV),i=.int .i64 k/\k<=l.length+1/\out.length<=k/\lv (out.map cV.az)/\(∀x∈out,x.az∈l.map cV.az\/x.az=bh.az)/\wr.ownsRow W.heap.size 179 10 v out.length (out.flatMap cB)/\ab W wr
def HU(a:Nat)(W:World)(l:List cV)(k:Nat)(J:World):Prop:=∃d:cV,l[k]?=some d/\aC J a 179 (cB d).toArray/\ab W J
theorem DD{out:List cV}{k:Nat}{e}{h:Int}(he:out[k]?=some e):(out.set k ⟨e.az,h⟩).map cV.az=out.map cV.az:=by
 rw[List.map_set];apply pJ;intro j;rw[uU];split
 ·rename_i a;subst a;obtain⟨h1,h2⟩:=dV.1 he;rw[di (ax h1),gU,he];rfl
 rfl
theorem pj(cR S A B g5 l bh)(g9:∀i,S i->i<cR.heap.size)(h5:bl cB 10 cR S A B g5 l)(w9:B<=100000):Calls Tryz.prog 94 #[.slice A B g5,.agg (cB bh).toArray] cR (oG l bh cR):=by
 obtain⟨i0,m2,o9,o',o_⟩:=eO uc;show Calls Tryz.prog 94 #[.slice A B g5,.agg #[bh.az.proc,bh.az.idx,bh.az.af.kind,bh.az.af.inc,bh.az.af.aH,bh.az.af.bI,bh.az.af.bb,bh.az.af.ord,bh.az.af.val,.int .u32 bh.hold]] cR _;generalize g_:cR.alloc (.cells #[bh.az.proc,bh.az.idx,bh.az.af.kind,bh.az.af.inc,bh.az.af.aH,bh.az.af.bI,bh.az.af.bb,bh.az.af.ord,bh.az.af.val,.int .u32 bh.hold] 179)=w;have e8:ab cR w:=g_▸ab.new cR _;have h':aC w cR.heap.size 179 #[bh.az.proc,bh.az.idx,bh.az.af.kind,bh.az.af.inc,bh.az.af.aH,bh.az.af.bI,bh.az.af.bb,bh.az.af.ord,bh.az.af.val,.int .u32 bh.hold]:=g_▸cu cR _ _;have n5:=h5.1;have k_:=h5.aq (e8.mono g9);have w4:=h'.lt;have fin:∀e ae,oG l bh w e ae->oG l bh cR e ae:=λ e ae ⟨r,bf,bc,h1,h2,aA,aS,r8⟩=>⟨r,bf,bc,h1,h2,aA,Af aS (an e8.size),ab.trans e8 r8⟩;obtain⟨q6,r4,r5,r6,p7,e3,r1,j8,p6⟩:=df m2 o9 o' o_ k_ n5 g9 h' fin;clear m2 o9 o' o_ k_ n5 g9 h' fin h5 e8;go_enter func94,ntmps94;go_upto_region 1 with fail;clear g_;go_wp2_with fail;go_loopw[5,6] (λ v i wr=>Az l bh w v i wr) (λ _ i _=>B+1- (intOf i).toNat);case atStart=>exact⟨0,[],I,Nat.zero_le _,Nat.le_refl _,List.Pairwise.nil,aT,ee _ _ _ _,aN _ _⟩
 obtain⟨k,out,rfl,m4,t_,a1,a0,U,C⟩:=hrel;obtain⟨b3,a4,rfl,-,-⟩:=dZ U;obtain⟨c,Y⟩:=aW out.length;rw[<-Y]at U t_⊢;have v5:=C.size;by_cases m5:k<=B
 ·have t0:decide ((k:Int)<=(B:Int))=true:=aY;have c7:decide (k<=B)=true:=ax m5;have w7:k+1<=l.length+1:=an e3.o;have k':∀g,(Value.slice b3 c a4).ownBlock=some g->g<wr.heap.size:=λ g s4=>(U.lt g s4).2;obtain⟨c9,rfl⟩:=aW (wr:World);have w6:c<=200000:=O;have l7:=C.ay j8.o j8.o.lt;obtain⟨k5,a3,k8,e4,t,r3,q0⟩:=dW U C a1 a0 Y k' l7;clear U C a1 a0 Y k' l7 m4;go_upto_region 6 with(first|(refine ew rfl _ (.tmp 3) rfl cR.heap.size 179 [bh.az.proc,bh.az.idx,bh.az.af.kind,bh.az.af.inc,bh.az.af.aH,bh.az.af.bI,bh.az.af.bb,bh.az.af.ord,bh.az.af.val,.int .u32 bh.hold] _ rfl q0.o underlying179 rfl Z ?_)|(refine db rfl _ (.tmp 7) (.tmp 15) rfl c9.heap.size 179 _ [bh.az.proc,bh.az.idx,bh.az.af.kind,bh.az.af.inc,bh.az.af.aH,bh.az.af.bI,bh.az.af.bb,bh.az.af.ord,bh.az.af.val,.int .u32 bh.hold] rfl rfl (aC.new _ _ _) rfl Z rfl ?_;intro u1 e5 o3));have i':ab c9 u1:=ab.write (ab.new _ _) o3 (Nat.le_refl _);clear o3;have x1:=i'.size;have y5:=e5.lt;obtain⟨E,m0⟩:=aW c9.heap.size;rw[<-m0]at e5⊢;have s5:c9.heap.size<=E:=O;have w5:E<u1.heap.size:=O;clear m0;obtain⟨e1,e_⟩:=ck i' e5;clear i' e5;(try simp only[Act.put]);go_upto_if 19 with fail;go_cut[]from 20 to 23 (λ J=>HU E c9 (l++[bh]) k J);case first=>
   by_cases j0:k<B
   ·obtain⟨k9,p0,d,rfl,w3,l9,l8⟩:=(p7.o.aq ((ab.trans a3.o e1.o).mono (λ i s=>an (r1.o i s)))).at_ ff j0;have t1:decide ((k:Int)<(B:Int))=true:=aY;have v7:decide (k<B)=true:=ax j0;have x7:(0:Int)<=k:=O;have x8:(k:Int)<(B:Int):=O;have V:u1.rangeAt k9 (p0+k*10) [d.az.proc,d.az.idx,d.az.af.kind,d.az.af.inc,d.az.af.aH,d.az.af.bI,d.az.af.bb,d.az.af.ord,d.az.af.val,.int .u32 d.hold]:=λ j u hu=>l8 j u hu;have P:(l++[bh])[k]?=some d:=(by rw[me (an e3.o)];exact l9);obtain⟨b7,b4⟩:=ck V P;clear V P l8 l9;go_wp2_with(first|(refine gK I _ (.tmp 22) I k9 (p0+k*10) [d.az.proc,d.az.idx,d.az.af.kind,d.az.af.inc,d.az.af.aH,d.az.af.bI,d.az.af.bb,d.az.af.ord,d.az.af.val,.int .u32 d.hold] _ I b7.o ml I Z ?_)|(refine db I _ (.tmp 7) (.tmp 23) I E 179 _ [d.az.proc,d.az.idx,d.az.af.kind,d.az.af.inc,d.az.af.aH,d.az.af.bI,d.az.af.bb,d.az.af.ord,d.az.af.val,.int .u32 d.hold] I I e_.o I Z I ?_;intro W s3 u_));go_meet;exact⟨d,b4.o,s3,ab.write e1.o u_ s5⟩
   have t1:decide ((k:Int)<(B:Int))=false:=aY;have v7:decide (k<B)=false:=ax j0;have P:(l++[bh])[k]?=some bh:=(by rw[oH (an e3.o),show k-l.length=0 from an e3.o];rfl);have b4:=ai P;clear P;go_wp2_with fail;go_meet;exact⟨bh,b4.o,e_.o,e1.o⟩
  obtain⟨d,P,l1,z⟩:=hcut;obtain⟨W,rfl⟩:=aW (wc:World);have x2:=z.size;have o0:=dy k5.o z (λ i s=>s.2);have m7:=ab.trans a3.o z;have n_:(Value.slice b3 c a4).ownBlock≠some E:=λ e=>an (r3.o E e);obtain⟨k6,q8,c_,b4,f_⟩:=dC o0 m7 l1 P n_;clear o0 m7 l1 P n_ z e1 e_ k5 a3;go_upto_region 8 with fail;go_cut[8]from 24 to 25 (λ v J=>v=.int .i64 c/\W=J);case first=>go_wp2_with fail;go_meet;exact⟨I,I⟩
  rename_i r_;obtain⟨rfl,rfl⟩:=hcut;refine r_ _ _ (wp_seq_k (λ v_ w2=>?_));go_cut[8]from 26 to 41 (λ v J=>py (out.map cV.az) d.az W v J);case first=>
   go_wp2_with fail;go_loopw[8] (λ v wr=>vL (out.map cV.az) d.az W v wr) (λ v _=>(intOf v).toNat);case atStart=>exact⟨c,I,by have:=t.o;simp;omega,λ i e s he=>(by rw[lH (by have:=t.o;simp;omega)]at he;cases he),aN _ _⟩
   obtain⟨m,rfl,a_,R,C⟩:=hrel;have s':m<=c:=(by have:=t.o;simp at a_;omega);have v5:=C.size;rcases m with _|a
   ·have t0:decide ((0:Int)<(0:Nat))=false:=aT;have c7:decide ((0:Int)<0)=false:=aT;have F:py (out.map cV.az) d.az W (.int .i64 (0:Nat)) (wr.drewN 1):=⟨0,I,Nat.zero_le _,R,λ e h=>absurd h O,ab.trans C (ab.fZ _ _)⟩;have l_:∀j,py (out.map cV.az) d.az W (.int .i64 (0:Nat)) (wr.drewN j):=λ j=>⟨0,I,Nat.zero_le _,R,λ e h=>absurd h O,ab.trans C (ab.fZ _ _)⟩;have q5:=ai l_;clear l_ F R C a_;go_upto_region 9 with fail;go_quiet(fail);go_wp2_with fail;go_meet;exact q5.o _
   obtain⟨a5,b2,b,a6,-,Q,N⟩:=pF k6.o C t.o.symm (k:=a) (an t.o) ff;have t0:decide ((0:Int)<((a+1:Nat):Int))=true:=(by rw[decide_eq_true_eq];omega);have c7:decide ((0:Int)<(a:Int)+1)=true:=(by rw[decide_eq_true_eq];omega);have o6:IntKind.i64.wrap (((a+1:Nat):Int)-1)=(a:Int):=(by rw[show((a+1:Nat):Int)-1=(a:Int)from O];exact eI _ O);have o7:IntKind.i64.wrap ((a:Int)+1-1)=(a:Int):=(by rw[show(a:Int)+1-1=(a:Int)from O];exact eI _ O);have o8:IntKind.i64.wrap (a:Int)=(a:Int):=eI _ O;have i0:(0:Int)<=a:=O;have i1:(a:Int)<(c:Int):=O;have c1:(out.map cV.az)[a]?=some (b.az):=(by rw[gU,Q];rfl);have V:∀J,ab wr J->J.rangeAt a5 (b2+a*10) [b.az.proc,b.az.idx,b.az.af.kind,b.az.af.inc,b.az.af.aH,b.az.af.bI,b.az.af.bb,b.az.af.ord,b.az.af.val]:=λ J q j u hu=>N J q j u (rQ hu);have c3:∀J,ab wr J->J.rangeAt E 0 [d.az.proc,d.az.idx,d.az.af.kind,d.az.af.inc,d.az.af.aH,d.az.af.bI,d.az.af.bb,d.az.af.ord,d.az.af.val]:=λ J q j u hu=>by rw[((ab.trans C q).ay c_.o c_.o.lt).cell,Nat.zero_add,fg];exact(rQ hu)
   obtain⟨b7,g1,e0,a3,b5⟩:=dC V c3 R C c1;clear V c3 R C c1 N Q a_;subst a6;go_upto_region 9 with fail;refine fy λ u0 p y=>?_;refine ag 0 (h:=ag 1 (h:=ag 2 (h:=ag 3 (h:=ag 4 (h:=ag 5 (h:=ag 6 (h:=ag 7 (h:=?_))))))));refine cK 8 I (dw ba _ _ I a5 (b2+a*10) I [b.az.proc,b.az.idx,b.az.af.kind,b.az.af.inc,b.az.af.aH,b.az.af.bI,b.az.af.bb,b.az.af.ord,b.az.af.val] _ (λ J q=>b7.o J q) gY I Z) ?_;refine ag 9 (h:=?_);refine cK 10 I (dw ba _ _ I E 0 I [d.az.proc,d.az.idx,d.az.af.kind,d.az.af.inc,d.az.af.aH,d.az.af.bI,d.az.af.bb,d.az.af.ord,d.az.af.val] _ (λ J q=>g1.o J q) gY I Z) ?_;refine aV 11 λ K L=>?_;go_simp;refine(DV u0 (b.az) (d.az)).mono ?_;rintro e u3 ⟨rfl,i_⟩;have g7:=ab.trans p i_;refine aZ L aD g7 ?_;clear L K y p;intro y p;obtain⟨g6,i7⟩:=aW (ku (b.az) (d.az));rw[<-i7];have d_:=ai i7;clear i7;by_cases b_:0<g6
   ·have t1:decide ((0:Int)<g6)=true:=ax b_;refine ag 12 (h:=ag 13 (h:=?_));refine cg Z ?_
    have T:vL (out.map cV.az) d.az W (.int .i64 (a:Int)) u3:=⟨a,I,by have:=t.o;simp;omega,λ i e s he=>by
     by_cases s6:a=i
     ·subst s6
      rw[b5.o]at he
      injection he with he
      rw[<-he,<-d_.o];exact b_
     ·exact e0.o i e O he,ab.trans a3.o p⟩
    have b6:=ai T;clear T y p g7 i_ d_ b_;go_wp2_with fail;go_roundw;case rel=>exact b6.o
    case measure=>simp[intOf]
   have t1:decide ((0:Int)<g6)=false:=ax b_;refine ag 12 (h:=ag 13 (h:=?_));refine cg Z ?_
   have F:py (out.map cV.az) d.az W (.int .i64 ((a+1:Nat):Int)) u3:=⟨a+1,I,by have:=t.o;simp;omega,e0.o,λ e _ he=>by
    rw[Nat.add_sub_cancel,b5.o]at he
    injection he with he
    rw[<-he,<-d_.o];omega,ab.trans a3.o p⟩
   have X:=ai F;clear F y p g7 i_ d_ b_;go_wp2_with fail;go_meet;exact X.o
  obtain⟨m,rfl,a_,R,hle,z⟩:=hcut;obtain⟨c8,rfl⟩:=aW (wc:World);have s':m<=c:=by have:=t.o;simp at a_;omega
  have x3:=z.size;have o1:=dy k6.o z (λ i s=>s.2);have l5:=z.ay c_.o c_.o.lt;have m8:=ab.trans q8.o z;obtain⟨e0,q',k7,d9,q9⟩:=dC R hle o1 l5 m8;clear R hle o1 l5 m8 z a_;go_upto_region 11 with fail;go_cut[54]from 42 to 54 (λ v J=>so (out.map cV.az) d.az m c8 v J);case first=>
   rcases m with _|a
   ·have t0:decide ((0:Int)<(0:Nat))=false:=aT;have c7:decide ((0:Int)<0)=false:=aT;go_quiet(fail);go_wp2_with fail;go_meet;exact⟨false,I,nofun,λ _ e h=>absurd h O,ab.fZ _ _⟩
   obtain⟨a5,b2,b,a6,-,Q,N⟩:=pF k7.o (aN _ _) t.o.symm (k:=a) (an t.o) ff;have t0:decide ((0:Int)<((a+1:Nat):Int))=true:=(by rw[decide_eq_true_eq];omega);have c7:decide ((0:Int)<(a:Int)+1)=true:=(by rw[decide_eq_true_eq];omega);have o6:IntKind.i64.wrap (((a+1:Nat):Int)-1)=(a:Int):=(by rw[show((a+1:Nat):Int)-1=(a:Int)from O];exact eI _ O);have o7:IntKind.i64.wrap ((a:Int)+1-1)=(a:Int):=(by rw[show(a:Int)+1-1=(a:Int)from O];exact eI _ O);have o8:IntKind.i64.wrap (a:Int)=(a:Int):=eI _ O;have i0:(0:Int)<=a:=O;have i1:(a:Int)<(c:Int):=O;have c1:(out.map cV.az)[a]?=some (b.az):=(by rw[gU,Q];rfl);have V:∀J,ab c8 J->J.rangeAt a5 (b2+a*10) [b.az.proc,b.az.idx,b.az.af.kind,b.az.af.inc,b.az.af.aH,b.az.af.bI,b.az.af.bb,b.az.af.ord,b.az.af.val]:=λ J q j u hu=>N J q j u (rQ hu);have c3:∀J,ab c8 J->J.rangeAt E 0 [d.az.proc,d.az.idx,d.az.af.kind,d.az.af.inc,d.az.af.aH,d.az.af.bI,d.az.af.bb,d.az.af.ord,d.az.af.val]:=λ J q j u hu=>by rw[(q.ay d9.o d9.o.lt).cell,Nat.zero_add,fg];exact(rQ hu)
   obtain⟨b7,g1,b5⟩:=cf V c3 c1;clear V c3 c1 N Q;subst a6;refine fy λ u0 p y=>?_;refine ag 0 (h:=ag 1 (h:=ag 2 (h:=ag 3 (h:=ag 4 (h:=ag 5 (h:=ag 6 (h:=ag 7 (h:=?_))))))));refine cK 8 I (dw ba _ _ I a5 (b2+a*10) I [b.az.proc,b.az.idx,b.az.af.kind,b.az.af.inc,b.az.af.aH,b.az.af.bI,b.az.af.bb,b.az.af.ord,b.az.af.val] _ (λ J q=>b7.o J q) gY I Z) ?_;refine ag 9 (h:=?_);refine cK 10 I (dw ba _ _ I E 0 I [d.az.proc,d.az.idx,d.az.af.kind,d.az.af.inc,d.az.af.aH,d.az.af.bI,d.az.af.bb,d.az.af.ord,d.az.af.val] _ (λ J q=>g1.o J q) gY I Z) ?_;by_cases a9:b.az=d.az
   ·rw[a9];refine cK 11 I (gR ba (.bool true) (λ J _=>by go_simp)) ?_;refine ag 12 (h:=?_);refine cg Z ?_;have F:so (out.map cV.az) d.az (a+1) c8 (.bool true) u0:=⟨true,I,λ _=>⟨O,by rw[Nat.add_sub_cancel,b5.o,a9]⟩,nofun,p⟩;have X:=ai F;clear F y p a9;go_wp2_with fail;go_meet;exact X.o
   have himp:=yh a9;refine cK 11 I (gR ba (.bool false) (λ J _=>by go_simp;exact himp)) ?_;refine ag 12 (h:=?_);refine cg Z ?_
   have F:so (out.map cV.az) d.az (a+1) c8 (.bool false) u0:=⟨false,I,nofun,λ _ e _ he=>by
    rw[Nat.add_sub_cancel,b5.o]at he
    injection he with he
    rw[<-he];exact a9,p⟩
   have X:=ai F;clear F y p a9 himp;go_wp2_with fail;go_meet;exact X.o
  obtain⟨r7,rfl,e7,h9,z⟩:=hcut;obtain⟨G,rfl⟩:=aW (wc:World);have x4:=z.size;have b0:=dy k7.o z (λ i s=>s.2);have a7:=z.ay d9.o d9.o.lt;have e9:=ab.trans q9.o z;cases r7 with
  |true=>
   have s7:=(e7 I).2;have w8:=(e7 I).1;obtain⟨a,rfl⟩:∃a,m=a+1:=⟨m-1,O⟩;obtain⟨f,cur,rfl,e6,M,c0,c2,h_,b1⟩:=qQ b0 O;obtain⟨a5,b2,b,a6,-,Q,N⟩:=pF b0 (aN _ _) t.o.symm (k:=a) (an t.o) ff;simp only[Option.some.injEq,Addr.mk.injEq,and_true]at a6;obtain⟨rfl,rfl⟩:=a6;have m_:=M.lt;have j1:=a7.lt;have n4:E≠f:=λ e=>f_.o (by rw[e];rfl);have o6:IntKind.i64.wrap (((a+1:Nat):Int)-1)=(a:Int):=(by rw[show((a+1:Nat):Int)-1=(a:Int)from O];exact eI _ O);have o7:IntKind.i64.wrap ((a:Int)+1-1)=(a:Int):=(by rw[show(a:Int)+1-1=(a:Int)from O];exact eI _ O);have o8:IntKind.i64.wrap (a:Int)=(a:Int):=eI _ O;have i0:(0:Int)<=a:=O;have i1:(a:Int)<(c:Int):=O;have v8:∀J,ab G J->J.cell? ⟨f,a*10+9,none⟩=some (.int .u32 b.hold):=λ J q=>by have:=N J q 9 _ I;simpa using this
   have y1:∀J,ab G J->J.cell? ⟨E,9,none⟩=some (.int .u32 d.hold):=λ J q=>by rw[(q.ay a7 j1).cell];rfl
   have a':a*10+9<cur.size:=(by rw[c0];omega);obtain⟨g0,d',e2,g4,f',p_⟩:=er b0 a7 e9 b1 Q M;clear b0 a7 e9 b1 Q M z e7 h9 N s7;go_upto_region 12 with fail;refine eE 11 (λ J=>ab G J) (λ J=>cX f G J) Z (dx (aN _ _)) (dx (aN _ _)) (λ y p=>?_);generalize j5:G.drew=u0 at y p⊢;clear j5;refine aU 0 (h:=aU 1 (h:=aU 2 (h:=aU 3 (h:=aU 4 (h:=aU 5 (h:=aU 6 (h:=aU 7 (h:=aU 8 (h:=?_)))))))));refine ag 9 (h:=ag 10 (h:=?_));clear v8 y1;have a8:=y.ay p_.o m_;refine aV 11 λ K L=>?_;refine ej I _ _ _ I f (a*10+9) 179 _ _ I I a8 a' Z I I ?_;intro a2 b9 c5;have g8:cX f G a2:=bR p c5 (λ i s=>s.2);refine dE L g8 ?_;clear L K y p;intro p;have y:True:=aD;refine cg Z ?_;have c4:=tU (k:=a) (o:=9) (e':=⟨b.az,bits BinOp.or IntKind.u32 b.hold d.hold⟩) ff e6 b9 c0 c2 h_ g4.o t.o.symm f'.o O I;have T:Az l bh w (.slice (some ⟨f,0,none⟩) c a4) (.int .i64 ((k:Int)+1)) a2:=by
    refine⟨k+1,out.set a ⟨b.az,bits BinOp.or IntKind.u32 b.hold d.hold⟩,cz,O,?_,?_,?_,?_,bR e2.o g8 (λ i s=>⟨an e2.o.size,O⟩)⟩;rotate_left 3
    ·have hle:(out.set a ⟨b.az,bits BinOp.or IntKind.u32 b.hold d.hold⟩).length=c:=(by rw[oL];exact t.o.symm);rw[hle];exact c4
    ·rw[oL];have:=t.o;omega
    ·rw[DD f'.o];exact k8.o
    intro x q;rcases wO q with h|h
    ·exact e4.o x h
    rw[h];exact e4.o b (eo f'.o)
   have b6:=ai T;clear T y p g8 b9 c5 c4 a8;go_wp2_with fail;go_roundw;case rel=>exact b6.o
   case measure=>exact bS
  |false=>
   have n3:=h9 I;obtain⟨g0,d',e2,q_⟩:=cH b0 a7 e9 n3;clear b0 a7 e9 n3 z e7 h9;go_upto_region 14 with(first|(refine gJ rfl 74 179 1 _ rfl underlying74 _ [(0,.agg qj)] rfl (qJ _ _ _ _ _ _ _ _ _ _) ?_)|(at_builtin;refine fe _ rfl (.tmp 66) (.tmp 68) 74 rfl w.heap.size 179 i0 _ 10 80 underlying74 q6.o r4.o r5.o r6.o rfl O _ c _ rfl (g0.o.alloc _) _ (some ⟨G.heap.size,0,none⟩) 1 1 [.int .i64 0,.int .i64 0,.int .i64 0,.int .i64 0,.int .i64 0,.int .i64 0,.int .i64 0,.int .i64 0,.int .i64 0,.int .u32 0] rfl (dz.new rfl) (by intro u hu;simp at hu;rcases hu with h|h<;>subst h<;>rfl) dQ O aY ?_;intro y6 H j3 i9 l0));have g':aw (λ i=>i<G.heap.size/\(Value.slice b3 c a4).ownBlock≠some i) G H:=jA ((ab.new G _).mono (λ i s=>s.1)) i9 (λ i s=>by have:=s.1;simp;omega) (λ y4 s8 s0=>s0.2 s8);have m9:ab w H:=fh (ab.trans e2.o (ab.new _ _)) (g0.o.alloc _) i9 (λ i s=>s) aY;have h8:=g'.ay d'.o ⟨d'.o.lt,f_.o⟩;obtain⟨v9,D,rfl,-,-⟩:=dZ j3;obtain⟨f,cur,rfl,e6,M,c0,c2,h_,b1⟩:=qQ j3 O;have x5:=g'.size;have n4:E≠f:=λ e=>by
    rcases l0 with h|h
    ·exact f_.o (h.symm.trans (by rw[e];rfl))
    have h2:f=(G.alloc (.cells qj 179)).heap.size:=(by simpa [Value.ownBlock]using h);have:=d'.o.lt;have aA:=(ab.new G (.cells qj 179)).size;omega
   have m_:=M.lt;have j1:=h8.lt;clear j3 i9 l0 g';have x0:IntKind.i64.wrap ((m:Int)+1)=(m:Int)+1:=eI _ O;have x9:(0:Int)<=m:=O;have x_:(m:Int)<=(c:Int)+1:=O;have y0:(0:Int)<=(m:Int)+1:=O;have y2:(m:Int)+1<=(c:Int)+1:=O;have y3:((m:Int)+1).toNat=m+1:=O;obtain⟨j7,n6,n7,n8⟩:=sx f D (m+1) 10;obtain⟨cI,n9,n',-⟩:=sx f D m 10;have t':=n' O;subst t';have j6:(out.flatMap cB).length=c*10:=(by rw[lg ff,t.o]);have o5:∀j v,((out.flatMap cB).drop (m*10))[j]?=some v->H.cell? ⟨f,m*10+j,none⟩=some v:=λ j v c6=>by
    rw[oa]at c6;rw[M.cell,<-qH];have h1:=mK (λ l=>l[m*10+j]?) b1;rw[me (dV.1 c6).1,c6,mT]at h1;split at h1
    ·exact h1
    cases h1
   obtain⟨j9,p9,g4,r2,j_,j',k0,r0⟩:=fl m9 h8 b1 o5 n7 n6 n9 n8;clear m9 h8 b1 o5 n7 n6 n9 n8 n';refine eE 99 (λ _=>True) (λ J=>aw (λ i=>i<H.heap.size/\i≠f) H J) Z aD (dx (aN _ _)) (λ y p=>?_);have a8:aC H.drew f 179 cur:=M;have j4:∀j v,((out.flatMap cB).drop (m*10))[j]?=some v->H.drew.cell? ⟨f,m*10+j,none⟩=some v:=r2.o;have m3:ab H H.drew:=dx (aN _ _);generalize j5:H.drew=u0 at p a8 j4 m3⊢;clear j5;refine ag 0 (h:=ag 1 (h:=ag 2 (h:=?_)));refine cK 3 I (gR ba (.slice (pz f D (m+1) 10) (c+1- (m+1)) (D- (m+1))) (λ J r9=>by go_simp;rfl)) ?_;refine ag 4 (h:=ag 5 (h:=?_));refine cK 6 I (gR ba (.slice (pz f D m 10) (c+1-m) (D-m)) (λ J r9=>by go_simp;rfl)) ?_;rw[j'.o,k0.o];have n2:Nat.min (c+1-m) (c+1- (m+1))=c-m:=(by rw[show Nat.min (c+1-m) (c+1- (m+1))=min (c+1-m) (c+1- (m+1))from I];omega);refine aV 7 λ K L=>?_;have i8:((out.flatMap cB).drop (m*10)).length=c*10-m*10:=(by rw[pn,j6])
   refine Bn I _ _ 74 74 I 179 10 ma Z f j7 (c+1- (m+1)) (D- (m+1)) (c+1-m) (D-m) f (m*10) I I cur 179 a8 ((out.flatMap cB).drop (m*10)) (by rw[i8,n2,Nat.sub_mul]) (by
    rw[i8]
    by_cases av:D=m+1
    ·have:c=m:=O
     subst this
     have w_:j7<=cur.size:=by
      have w1:=r0.o av
      omega
     omega
    ·rw[j_.o av]
     have h1:m*10<=c*10:=Nat.mul_le_mul_right _ O
     have h2:(c+1)*10<=D*10:=Nat.mul_le_mul_right _ c2
     omega) j4 (λ v c6=>mi qm _ v (tf c6)) ?_
   intro p5 h6 o4;have s9:lay cur j7 ((out.flatMap cB).drop (m*10))=lay cur ((m+1)*10) ((out.flatMap cB).drop (m*10)):=by
    by_cases av:D=m+1
    ·have s_:(out.flatMap cB).drop (m*10)=[]:=sU (by rw[j6];exact Nat.mul_le_mul_right _ O);rw[s_,sE,sE]
    rw[j_.o av]
   rw[s9]at h6;have b8:aw (λ i=>i<H.heap.size/\i≠f) H p5:=bR p o4 (λ i s=>s.2);refine aZ L aD b8 ?_;clear L K y p;intro y p;refine cg Z ?_;have x6:=b8.size;have l6:=b8.ay p9.o ⟨j1,n4⟩;have v3:(c+1)*10<=cur.size:=(by rw[c0];exact Nat.mul_le_mul_right _ c2);have hmul:(m+1)*10+((out.flatMap cB).drop (m*10)).length<=cur.size:=(by rw[i8];have h1:m*10<=c*10:=Nat.mul_le_mul_right _ O;omega);have j2:(lay cur ((m+1)*10) ((out.flatMap cB).drop (m*10))).size=cur.size:=ov hmul;have m6:ab w p5:=bR j9.o b8 (λ i s=>⟨an j9.o.size,O⟩);obtain⟨q7,p8,p'⟩:=cf m6 h6 l6;clear m6 h6 l6 y p b8 o4 M a8 j4 m3 j' k0 n2;have dv:(m:Int)<(c:Int)+1:=O;have a':m*10+((cB d)).length<=(lay cur ((m+1)*10) ((out.flatMap cB).drop (m*10))).size:=(by rw[j2,ff];have:(m+1)*10<=(c+1)*10:=Nat.mul_le_mul_right _ O;omega);go_wp2_with(first|(refine ew I _ (.tmp 7) I E 179 [d.az.proc,d.az.idx,d.az.af.kind,d.az.af.inc,d.az.af.aH,d.az.af.bI,d.az.af.bb,d.az.af.ord,d.az.af.val,.int .u32 d.hold] _ I p'.o ml I Z ?_)|(refine qq I 179 (.tmp 81) (.tmp 80) I f (m*10) 179 _ [d.az.proc,d.az.idx,d.az.af.kind,d.az.af.inc,d.az.af.aH,d.az.af.bI,d.az.af.bb,d.az.af.ord,d.az.af.val,.int .u32 d.hold] I I p8.o a' Z I ?_;intro a2 b9 c5));have h7:aC a2 f 179 (eY (lay cur ((m+1)*10) ((out.flatMap cB).drop (m*10))) (m*10) (cB d)):=b9;rw[vg _ _ _ a']at h7;have c4:a2.ownsRow w.heap.size 179 10 (.slice (some ⟨f,0,none⟩) (c+1) D) (c+1) ((out.take m++d::out.drop m).flatMap cB):=(by rw[<-zq ff,<-Ak (cur:=cur) (zs:=[.int .i64 0,.int .i64 0,.int .i64 0,.int .i64 0,.int .i64 0,.int .i64 0,.int .i64 0,.int .i64 0,.int .i64 0,.int .u32 0]) (n:=c) (es:=cB d) g4.o j6 I I O v3];refine⟨by rw[jm,Am,ov a',j2];omega,.inr ⟨f,D,_,I,e6,h7,c2,h_,?_,I⟩⟩;rw[ov a',j2,c0]);have n0:(out.take m++d::out.drop m).length=c+1:=(by have:=t.o;simp;omega);have m':ab w a2:=ab.write q7.o c5 e6;have n1:(out.take m++d::out.drop m).map cV.az=(out.map cV.az).take m++d.az::(out.map cV.az).drop m:=(by simp[List.map_take,List.map_drop]);have a1:lv ((out.take m++d::out.drop m).map cV.az):=(by rw[n1];exact k8.o.ins (by have:=t.o;simp;omega) e0.o (λ e h he=>⟨q'.o e h he,q_.o e h he⟩));have a0:∀x∈out.take m++d::out.drop m,x.az∈l.map cV.az\/x.az=bh.az:=λ x q=>by
    rcases jV.1 q with h|h
    ·exact e4.o x (rJ h)
    rcases yg.1 h with rfl|h
    ·rcases jV.1 (eo b4.o)with h2|h2
     ·exact .inl (List.mem_map_of_mem h2)
     simp at h2;rw[h2];exact .inr I
    exact e4.o x (tf h)
   have T:Az l bh w (.slice (some ⟨f,0,none⟩) (c+1) D) (.int .i64 ((k:Int)+1)) a2:=⟨k+1,out.take m++d::out.drop m,cz,O,O,a1,a0,by rw[n0];exact c4,m'⟩;have b6:=ai T;clear T a1 a0 c4 m' b9 h7 c5 n0 n1;go_wp2_with fail;go_roundw;case rel=>exact b6.o
   case measure=>exact bS
 have t0:decide ((k:Int)<=(B:Int))=false:=aY;have c7:decide (k<=B)=false:=ax m5;rw[Y]at U;have F:=p6.o (.returned (.slice b3 c a4)) wr ⟨out,b3,a4,a1,a0,by rw[Y],U,C⟩;obtain⟨X,t⟩:=ck F Y;clear F Y U C a1 a0 m4;go_wp2_with fail;go_ret;exact X.o
end
section
open Go.Proofs
def jE(b:Bool):Int:=if b then 1 else 0
def tz(a b:Int):Int:=if b=0 then 0 else wrap64 (a.tdiv b)
def tT(a b:Int):Int:=if b=0 then 0 else a.tmod b
def ub(op a b:Int):Int:=if op=8 then wrap64 (-a)else if op=9 then jE (a==0)else if op=10 then wrap64 (a+b)else if op=11 then wrap64 (a-b)else if op=12 then wrap64 (a*b)else if op=13 then tz a b else if op=14 then tT a b else if op=15 then jE (decide (a<b))else if op=16 then jE (decide (a<=b))else if op=17 then jE (decide (b<a))else if op=18 then jE (decide (b<=a))else if op=19 then jE (a==b)else if op=20 then jE (a !=b)else if op=21 then jE (a !=0&&b !=0)else if op=22 then jE (a !=0||b !=0)else 0
def pI(v:Int)(w:World)(e:Ending)(ae:World):Prop:=e=.returned (.int .i64 v)/\ab w ae
def iH(v:Int)(w:World)(e:Ending)(ae:World):Prop:=e=.returned (.int .i64 v)/\w=ae
end
end Go.Proofs.YtdhklhebgclcoaaGreatDoor
