import Derived.Test.YtipegaojiokppaaGreatDoorGA
import Derived.Test.YtipegaojiokppaaGreatDoorMach3
import Derived.Test.YtipegaojiokppaaGreatDoorProg
import Derived.Test.YtipegaojiokppaaGreatDoorProcR2
import Derived.Test.YtipegaojiokppaaGreatDoorSlices
import Derived.Test.YtipegaojiokppaaGreatDoorBlk
set_option linter.unusedVariables false
namespace Go.Proofs.YtipegaojiokppaaGreatDoor
open Go.RowKit
section
variable {P : Program} (w : World)
theorem owns_grown (base : Nat) (e : TypeId) (z : Value) (size n m c : Nat) (xs news : List Value) (hx : xs.length = n * size) (hl : news.length = m * size) (hzs : z.cells.size = size) (hbase : base ≤ w.heap.size) (hc : n + m ≤ c) (hcm : c ≤ maxLen) :
  (w.drew.alloc (.cells (xs.toArray ++ news.toArray ++ Builtin.zeroCells z.cells (c - (n + m))) e)).ownsRow base e size (.slice (some ⟨w.heap.size,0,none⟩) (n + m) c) (n + m) (xs ++ news):=by
 have hlen : (xs ++ news).length = (n + m) * size:=by rw [List.length_append,hx,hl,Nat.add_mul]
 refine ⟨hlen,.inr ⟨w.heap.size,_,_,rfl,hbase,heap_alloc_new w.drew _,hc,hcm,?_,?_⟩⟩
 ·simp only [Array.size_append,List.size_toArray,size_zeroCells,hzs,hx,hl,← Nat.add_mul]
  congr 1
  omega
 ·simp only [Array.toList_append,List.append_assoc]
  rw [← List.append_assoc,← hlen]
  exact List.take_left
theorem run_append_full (base : Nat) (t ty e : TypeId) (i : TypeInfo) (z : Value) (size bytes : Nat) (ht : P.underlying t = some (.slice e)) (hi : P.info? e = some i) (hz : i.zero = some z)
  (hsize : i.size = size) (hby : i.bytes = bytes) (hzs : z.cells.size = size)
  (S : Nat → Prop) (A : Option Addr) (n : Nat) (xs : List Value) (hr : Reads w S size A n xs)
  (T : Nat → Prop) (B : Option Addr) (m c : Nat) (news : List Value) (hs : Reads w T size B m news) (hm : 0 < m)
  (h63 : n + m ≤ maxLen) (hbytes : (n + m) * bytes ≤ 140737488355328) (hbase : base ≤ w.heap.size) :
  ∃ v' w',(Builtin.append_ #[t,t] ty #[.slice A n n,.slice B m c]).run P w = .ok v' w' ∧ w'.ownsRow base e size v' (n + m) (xs ++ news) ∧ Keep w w' ∧ v'.ownBlock = some w.heap.size:=by
 subst hsize
 subst hby
 have hsmall : n + m ≤ 9223372036854775807:=by simp only [maxLen] at h63; omega
 obtain ⟨b,off,rfl,_,hcs⟩:=hs.2 hm
 have hnews : ∀ j u,news[j]? = some u → w.cell? ((⟨b,off,none⟩ : Addr).add j) = some u:=fun j u hu=>by rw [add_lit']; exact hcs j u hu
 have kp : ∀ o : Obj,Keep w (w.drew.alloc o):=fun o=>⟨rfl,rfl,rfl,by simp,fun k hk=>Below.heap_alloc w.drew o k hk⟩
 cases A with
 | none=>
  have hn : n = 0:=by
   rcases Nat.eq_zero_or_pos n with h0 | h0
   ·exact h0
   ·obtain ⟨_,_,h,_⟩:=hr.2 h0
    cases h
  subst hn
  have hx : xs = []:=List.eq_nil_of_length_eq_zero (by simpa using hr.1)
  subst hx
  have hrun:=run_append_nil (P:=P) w t ty e i z ht hi hz ⟨b,off,none⟩ m c news hs.1 hnews hm (by omega) (by have hb:=hbytes; simp only [Nat.zero_add] at hb; omega)
  have ho:=owns_grown w base e z i.size 0 m (grownCap w m 0 e) [] news (by simp) hs.1 hzs hbase (by have:=grownCap_ge w m 0 e; omega) (grownCap_le_maxLen w m 0 e (by simpa using h63))
  simp only [Nat.zero_add,List.nil_append,Array.empty_append] at ho ⊢
  exact ⟨_,_,hrun,ho,kp _,rfl⟩
 | some a=>
  have holds : ∀ j u,xs[j]? = some u → w.cell? (a.add j) = some u:=by
   intro j u hu
   rcases Nat.eq_zero_or_pos n with h0 | h0
   ·subst h0
    have hx : xs = []:=List.eq_nil_of_length_eq_zero (by simpa using hr.1)
    subst hx
    simp at hu
   ·obtain ⟨b',off',h,_,hc'⟩:=hr.2 h0
    injection h with h
    subst h
    rw [add_lit']
    exact hc' j u hu
  have hrun:=run_append_grow (P:=P) w t ty e i z ht hi hz a n n xs hr.1 holds ⟨b,off,none⟩ m c news hs.1 hnews (by omega) (by omega) (growslice_fits (by omega) hbytes)
  exact ⟨_,_,hrun,owns_grown w base e z i.size n m _ xs news hr.1 hs.1 hzs hbase (grownCap_ge w (n + m) n e) (grownCap_le_maxLen w (n + m) n e h63),kp _,rfl⟩
end
structure Pk where
 seq : Int
 ack : Int
 val : Int
def encPk (p : Pk) : List Value:=[.int .i64 p.seq,.int .i64 p.ack,.int .i64 p.val]
structure Lk where
 win : Int
 base : Int
 kept : List Int
 want : Int
 early : List Pk
def LkR (w : World) (S : Nat → Prop) (cs : List Value) (k : Lk) : Prop:=
 ∃ (A1 A2 : Option Addr) (n1 c1 n2 c2 : Nat),cs = [.int .i64 k.win,.int .i64 k.base,.slice A1 n1 c1,.int .i64 k.want,.slice A2 n2 c2] ∧ Sl encI 1 w S A1 n1 c1 k.kept ∧ Sl encPk 3 w S A2 n2 c2 k.early
theorem LkR.keep {w w' : World} {S : Nat → Prop} {cs : List Value} {k : Lk} (h : LkR w S cs k) (hk : Same S w w') : LkR w' S cs k:=by
 obtain ⟨A1,A2,n1,c1,n2,c2,e,h1,h2⟩:=h
 exact ⟨A1,A2,n1,c1,n2,c2,e,h1.keep hk,h2.keep hk⟩
theorem LkR.more {w : World} {S T : Nat → Prop} {cs : List Value} {k : Lk} (h : LkR w S cs k) (hk : ∀ i,S i → T i) : LkR w T cs k:=by
 obtain ⟨A1,A2,n1,c1,n2,c2,e,h1,h2⟩:=h
 exact ⟨A1,A2,n1,c1,n2,c2,e,h1.more hk,h2.more hk⟩
end Go.Proofs.YtipegaojiokppaaGreatDoor
set_option linter.unusedVariables false
set_option linter.unusedSimpArgs false
namespace Go.Proofs.YtipegaojiokppaaGreatDoor
open Go.RowKit Go.Proofs
def Lab (w : World) (L : Nat → Nat) (a : Nat) (i : Nat) : Prop:=i < w.heap.size ∧ L i = a
def ext (L : Nat → Nat) (n0 : Nat) (F : Nat → Nat) (i : Nat) : Nat:=if i < n0 then L i else F i
theorem ext_old {L : Nat → Nat} {n0 : Nat} {F : Nat → Nat} {i : Nat} (h : i < n0) : ext L n0 F i = L i:=if_pos h
theorem ext_new {L : Nat → Nat} {n0 : Nat} {F : Nat → Nat} {i : Nat} (h : n0 ≤ i) : ext L n0 F i = F i:=if_neg (by omega)
def Gl (w : World) (L : Nat → Nat) (a : Nat) (e : TypeId) (size : Nat) (A : Option Addr) (n c : Nat) (xs : List Value) : Prop:=
 n ≤ c ∧ c ≤ maxLen ∧ ((w.ownsRow 0 e size (.slice A n c) n xs ∧ ∀ b,Value.ownBlock (.slice A n c) = some b → L b = a) ∨ (c = n ∧ Reads w (Lab w L 0) size A n xs))
section
variable {w w' : World} {L L' : Nat → Nat} {a : Nat} {e : TypeId} {size : Nat} {A : Option Addr} {n c : Nat} {xs : List Value} {T : Nat → Prop}
theorem Gl.same (h : Gl w L a e size A n c xs) (hs : Same T w w') (hT : ∀ i,i < w.heap.size → (L i = a ∨ L i = 0) → T i) (hL : ∀ i,i < w.heap.size → L' i = L i) : Gl w' L' a e size A n c xs:=by
 obtain ⟨h1,h2,h3⟩:=h
 refine ⟨h1,h2,?_⟩
 rcases h3 with ⟨h3,h4⟩ | ⟨h3,h4⟩
 ·exact .inl ⟨ownsRow_own h3 hs (fun b hb=>hT b (h3.lt b hb).2 (.inl (h4 b hb))),fun b hb=>by rw [hL b (h3.lt b hb).2]; exact h4 b hb⟩
 ·exact .inr ⟨h3,(h4.keep (hs.mono (fun i hi=>hT i hi.1 (.inr hi.2)))).more (fun i hi=>⟨Nat.lt_of_lt_of_le hi.1 hs.size,by rw [hL i hi.1]; exact hi.2⟩)⟩
theorem Gl.reads (h : Gl w L a e size A n c xs) : Reads w (fun i=>i < w.heap.size ∧ (L i = a ∨ L i = 0)) size A n xs:=by
 obtain ⟨h1,h2,h3⟩:=h
 rcases h3 with ⟨h3,h4⟩ | ⟨h3,h4⟩
 ·have hr:=Reads.of_own h3
  refine ⟨hr.1,fun hn=>?_⟩
  obtain ⟨b,off,e,hb,hc⟩:=hr.2 hn
  rcases h3.2 with ⟨h0,h00⟩ | ⟨g,cap,cur,hv,_⟩
  ·omega
  ·injection hv with hv
   rw [e] at hv
   injection hv with hv
   injection hv with hv1 hv2
   refine ⟨b,off,e,⟨hb.2,.inl (h4 b ?_)⟩,hc⟩
   rw [e,hv2]
   rfl
 ·exact h4.more (fun i hi=>⟨hi.1,.inr hi.2⟩)
theorem Gl.sl {α : Type} {enc : α → List Value} {l : List α} (h : Gl w L a e size A l.length c (l.flatMap enc)) : Sl enc size w (fun i=>i < w.heap.size ∧ (L i = a ∨ L i = 0)) A l.length c l:=⟨rfl,h.1,h.2.1,h.reads⟩
theorem Gl.nil_ : Gl w L a e size none 0 0 []:=⟨Nat.le_refl _,by simp [maxLen],.inl ⟨World.ownsRow_nil _ _ _ _,fun b hb=>by cases hb⟩⟩
theorem Gl.full (h : Reads w (Lab w L 0) size A n xs) (hn : n ≤ maxLen) : Gl w L a e size A n n xs:=⟨Nat.le_refl _,hn,.inr ⟨rfl,h⟩⟩
variable {P : Program}
theorem run_append_gl (t ty : TypeId) (i : TypeInfo) (z : Value) (bytes : Nat) (ht : P.underlying t = some (.slice e)) (hi : P.info? e = some i) (hz : i.zero = some z)
  (hsize : i.size = size) (hby : i.bytes = bytes) (hzs : z.cells.size = size) (hsz : 0 < size) (h : Gl w L a e size A n c xs)
  (T : Nat → Prop) (B : Option Addr) (m c2 : Nat) (news : List Value) (hr : Reads w T size B m news) (h1 : ∀ u ∈ news,u.oneCell' = true) (hm : 0 < m)
  (h63 : n + m ≤ maxLen) (hbytes : (n + m) * bytes ≤ 140737488355328) :
  ∃ A' c' w',(Builtin.append_ #[t,t] ty #[.slice A n c,.slice B m c2]).run P w = .ok (.slice A' (n + m) c') w' ∧ Gl w' (ext L w.heap.size (fun _=>a)) a e size A' (n + m) c' (xs ++ news) ∧ Same (fun k=>k < w.heap.size ∧ L k ≠ a) w w':=by
 obtain ⟨g1,g2,g3⟩:=h
 rcases g3 with ⟨g3,g4⟩ | ⟨g3,g4⟩
 ·obtain ⟨v',w',hrun,hown,hg,hat⟩:=run_append_any (P:=P) w 0 t ty e i z size bytes ht hi hz hsize hby hzs hsz (.slice A n c) n xs g3 T B m c2 news hr h1 h63 hbytes (Nat.zero_le _)
  obtain ⟨A',c',rfl,hn',hc'⟩:=own_form hown
  refine ⟨A',c',w',hrun,⟨hn',hc',.inl ⟨hown,fun b hb=>?_⟩⟩,Same.grown (Same.refl _ _) hg (fun i hi=>hi.1) (fun k hk hh=>hh.2 (g4 k hk))⟩
  rcases hat with h | h
  ·rw [h] at hb
   rw [ext_old (g3.lt b hb).2]
   exact g4 b hb
  ·rw [h] at hb
   injection hb with hb
   rw [ext_new (by omega)]
 ·subst g3
  obtain ⟨v',w',hrun,hown,hk,hat⟩:=run_append_full (P:=P) w 0 t ty e i z size bytes ht hi hz hsize hby hzs _ A c xs g4 T B m c2 news hr hm h63 hbytes (Nat.zero_le _)
  obtain ⟨A',c',rfl,hn',hc'⟩:=own_form hown
  refine ⟨A',c',w',hrun,⟨hn',hc',.inl ⟨hown,fun b hb=>?_⟩⟩,hk.mono (fun i hi=>hi.1)⟩
  rw [hat] at hb
  injection hb with hb
  rw [ext_new (by omega)]
theorem step_append_gl {ops : Array Oper} {o : Oper} {ac : Act} {K : Act → World → Prop} {Q : Exit → Act → World → Prop} {E : Prop} (hgd : o.guard = none) (s x : Operand) (t : TypeId)
  (ho : o.op = .call { callee:=.builtin .append,args:=#[s,x],argTypes:=#[t,t] })
  (i : TypeInfo) (z : Value) (bytes : Nat) (ht : P.underlying t = some (.slice e)) (hi : P.info? e = some i) (hz : i.zero = some z)
  (hsize : i.size = size) (hby : i.bytes = bytes) (hzs : z.cells.size = size) (hsz : 0 < size) (hsv : ac.eval s = .slice A n c) (hg : Gl w L a e size A n c xs)
  (T : Nat → Prop) (B : Option Addr) (m c2 : Nat) (news : List Value) (hx : ac.eval x = .slice B m c2) (hr : Reads w T size B m news) (h1 : ∀ u ∈ news,u.oneCell' = true) (hm : 0 < m)
  (h63 : n + m ≤ maxLen) (hbytes : (n + m) * bytes ≤ 140737488355328)
  (h : ∀ A' c' w',Gl w' (ext L w.heap.size (fun _=>a)) a e size A' (n + m) c' (xs ++ news) → Same (fun k=>k < w.heap.size ∧ L k ≠ a) w w' → K (ac.put o.dst (.slice A' (n + m) c')) w') :
  if Region.wanted o (yielded ops ac.tmps) = true then Oper.wp P o ac w K Q else E:=by
 have hw : Region.wanted o (yielded ops ac.tmps) = true:=by simp [Region.wanted,hgd]
 rw [if_pos hw]
 obtain ⟨A',c',w',hrun,h2,h3⟩:=run_append_gl (P:=P) t o.type i z bytes ht hi hz hsize hby hzs hsz hg T B m c2 news hr h1 hm h63 hbytes
 unfold Oper.wp execOp
 simp only [ho,resolve,invoke,builtin,Sem.run_bind,Sem.run_pure,Result.andThen_ok,List.map_toArray,List.map_cons,List.map_nil,hsv,hx,hrun]
 exact h A' c' w' h2 h3
end
def StM (w : World) (L : Nat → Nat) (g : Nat) (s : St) : Prop:=
 ∃ (A1 A2 A3 A4 : Option Addr) (n1 c1 c2 c3 c4 : Nat),Blk w g 50 #[.slice A1 n1 c1,.slice A2 s.events.length c2,.slice A3 s.sent.length c3,.slice A4 s.outs.length c4] ∧ L g = 1 ∧ Sl encI 1 w (fun i=>i < w.heap.size ∧ (L i = 2 ∨ L i = 0)) A1 n1 c1 s.cells ∧
  Gl w L 3 89 7 A2 s.events.length c2 (s.events.flatMap encEv) ∧ Gl w L 4 92 4 A3 s.sent.length c3 (s.sent.flatMap encSnd) ∧ Gl w L 5 52 2 A4 s.outs.length c4 (s.outs.flatMap encOut)
theorem slL {α : Type} {enc : α → List Value} {size : Nat} {w w' : World} {L L' : Nat → Nat} {a : Nat} {A : Option Addr} {n c : Nat} {l : List α} {T : Nat → Prop} (h : Sl enc size w (fun i=>i < w.heap.size ∧ (L i = a ∨ L i = 0)) A n c l) (hs : Same T w w') (hT : ∀ i,i < w.heap.size → (L i = a ∨ L i = 0) → T i) (hL : ∀ i,i < w.heap.size → L' i = L i) : Sl enc size w' (fun i=>i < w'.heap.size ∧ (L' i = a ∨ L' i = 0)) A n c l:=
 (h.keep (hs.mono (fun i hi=>hT i hi.1 hi.2))).more (fun i hi=>⟨Nat.lt_of_lt_of_le hi.1 hs.size,by rw [hL i hi.1]; exact hi.2⟩)
theorem StM.keep {w w' : World} {L L' : Nat → Nat} {g : Nat} {s : St} (h : StM w L g s) (hk : Keep w w') (hL : ∀ i,i < w.heap.size → L' i = L i) : StM w' L' g s:=by
 obtain ⟨A1,A2,A3,A4,n1,c1,c2,c3,c4,hb,h1,h2,h3,h4,h5⟩:=h
 exact ⟨A1,A2,A3,A4,n1,c1,c2,c3,c4,hk.blk hb hb.lt,by rw [hL g hb.lt]; exact h1,slL h2 hk (fun i hi _=>hi) hL,h3.same hk (fun i hi _=>hi) hL,h4.same hk (fun i hi _=>hi) hL,h5.same hk (fun i hi _=>hi) hL⟩
theorem StM.lt {w : World} {L : Nat → Nat} {g : Nat} {s : St} (h : StM w L g s) : g < w.heap.size ∧ L g = 1:=by
 obtain ⟨A1,A2,A3,A4,n1,c1,c2,c3,c4,hb,h1,_⟩:=h
 exact ⟨hb.lt,h1⟩
theorem StM.open_ {w : World} {L : Nat → Nat} {g : Nat} {s : St} (h : StM w L g s) : ∃ (B1 B2 B3 B4 : Option Addr) (p1 q1 p2 q2 p3 q3 p4 q4 : Nat),Blk w g 50 #[.slice B1 p1 q1,.slice B2 p2 q2,.slice B3 p3 q3,.slice B4 p4 q4] ∧ StR w (fun i=>i < w.heap.size ∧ i ≠ g ∧ (L i = 0 ∨ L i = 2 ∨ L i = 3 ∨ L i = 4 ∨ L i = 5)) [.slice B1 p1 q1,.slice B2 p2 q2,.slice B3 p3 q3,.slice B4 p4 q4] s:=by
 obtain ⟨A1,A2,A3,A4,n1,c1,c2,c3,c4,hb,h1,h2,h3,h4,h5⟩:=h
 have hne : ∀ i a,a ≠ 1 → (L i = a ∨ L i = 0) → i ≠ g:=fun i a ha h e=>by subst e; omega
 refine ⟨A1,A2,A3,A4,n1,c1,_,c2,_,c3,_,c4,hb,A1,A2,A3,A4,n1,c1,_,c2,_,c3,_,c4,rfl,h2.more (fun i hi=>⟨hi.1,hne i 2 (by omega) hi.2,by omega⟩),h3.sl.more (fun i hi=>⟨hi.1,hne i 3 (by omega) hi.2,by omega⟩),h4.sl.more (fun i hi=>⟨hi.1,hne i 4 (by omega) hi.2,by omega⟩),h5.sl.more (fun i hi=>⟨hi.1,hne i 5 (by omega) hi.2,by omega⟩)⟩
end Go.Proofs.YtipegaojiokppaaGreatDoor
set_option linter.unusedVariables false
set_option linter.unusedSimpArgs false
set_option maxRecDepth 100000
namespace Go.Proofs.YtipegaojiokppaaGreatDoor
open Go.RowKit Go.Proofs
theorem runS_len (v : EnvS) (body : List Stm) (cells : List Int) (ix : Int) (s : St) : (runS v body cells ix s).cells.length = cells.length ∧ (runS v body cells ix s).sent.length ≤ s.sent.length + 8 ∧ (runS v body cells ix s).outs.length ≤ s.outs.length + 8:=by
 have h:=execF_fit v body cells
 have h1:=sendsOf_len ix (execF v body cells).effs 0
 have h2:=outsOf_len ix (execF v body cells).effs
 refine ⟨h.1,?_,?_⟩
 ·show (s.sent ++ _).length ≤ _; rw [List.length_append]; omega
 ·show (s.outs ++ _).length ≤ _; rw [List.length_append]; omega
theorem nextS_len (c : Cd) (self procs : Int) (s : St) (x : Ev) : (nextS c self procs s x).cells.length = s.cells.length ∧ (nextS c self procs s x).sent.length ≤ s.sent.length + 8 ∧ (nextS c self procs s x).outs.length ≤ s.outs.length + 8:=by
 unfold nextS
 split
 ·exact runS_len _ _ _ _ _
 ·split
  ·exact runS_len _ _ _ _ _
  ·split
   ·exact runS_len _ _ _ _ _
   ·exact ⟨rfl,by simp,by simp⟩
theorem replayS_len (c : Cd) (self procs : Int) (l : List Ev) : (replayS c self procs l).cells.length = c.init.length ∧ (replayS c self procs l).sent.length ≤ 8 * (l.length + 1) ∧ (replayS c self procs l).outs.length ≤ 8 * (l.length + 1) ∧ (replayS c self procs l).events.length = l.length:=by
 have key : ∀ (l : List Ev) (s : St),(l.foldl (nextS c self procs) s).cells.length = s.cells.length ∧ (l.foldl (nextS c self procs) s).sent.length ≤ s.sent.length + 8 * l.length ∧ (l.foldl (nextS c self procs) s).outs.length ≤ s.outs.length + 8 * l.length:=by
  intro l
  induction l with
  | nil=>intro s; exact ⟨rfl,by simp,by simp⟩
  | cons x l ih=>
   intro s
   have h1:=ih (nextS c self procs s x)
   have h2:=nextS_len c self procs s x
   rw [List.foldl_cons,List.length_cons]
   exact ⟨h1.1.trans h2.1,by omega,by omega⟩
 have h:=key l (startS c self procs)
 have h0:=runS_len ⟨self,procs,self,0⟩ c.start c.init 0 ⟨[],[],[],[]⟩
 have h0' : (startS c self procs).cells.length = c.init.length ∧ (startS c self procs).sent.length ≤ 8 ∧ (startS c self procs).outs.length ≤ 8:=by
  refine ⟨h0.1,?_,?_⟩
  ·have:=h0.2.1; simp only [List.length_nil,Nat.zero_add] at this; exact this
  ·have:=h0.2.2; simp only [List.length_nil,Nat.zero_add] at this; exact this
 refine ⟨h.1.trans h0'.1,?_,?_,by rw [replayS_events]⟩
 ·have:=h.2.1; unfold replayS; omega
 ·have:=h.2.2; unfold replayS; omega
theorem take_replay {c : Cd} {self procs : Int} {l : List Ev} {k : Nat} {x : Ev} (h : l[k]? = some x) : nextS c self procs (replayS c self procs (l.take k)) x = replayS c self procs (l.take (k + 1)):=by
 rw [(take_snoc h).1,replayS_snoc]
end Go.Proofs.YtipegaojiokppaaGreatDoor
set_option linter.unusedVariables false
set_option linter.unusedSimpArgs false
set_option maxRecDepth 100000
namespace Go.Proofs.YtipegaojiokppaaGreatDoor
open Go.RowKit Go.Proofs
def Kinds (l : List Eff) : Prop:=∀ e ∈ l,e.kind = 1 ∨ e.kind = 2
theorem Ms.eff_kinds (m : Ms) (e : Eff) (h : Kinds m.effs) (he : e.kind = 1 ∨ e.kind = 2) : Kinds (m.eff e).effs:=by
 unfold Ms.eff
 split
 ·intro x hx
  simp at hx
  rcases hx with hx | hx
  ·exact h x hx
  ·subst hx; exact he
 ·exact h
theorem simpleS_kinds (v : EnvS) (s : Stm) (m : Ms) (h : Kinds m.effs) : Kinds (simpleS v s m).effs:=by
 unfold simpleS
 split
 ·rw [(m.set_len _ _).2.1]; exact h
 ·split
  ·split
   ·rw [(m.set_len _ _).2.1]; exact h
   ·exact h
  ·split
   ·split
    ·exact m.eff_kinds _ h (.inl rfl)
    ·exact h
   ·split
    ·exact m.eff_kinds _ h (.inr rfl)
    ·exact h
theorem Exec.kinds {v : EnvS} {t : Task} {m : Ms} {r : Res} (h : Exec v t m r) : Kinds m.effs → Kinds r.st.effs:=by
 induction h with
 | nil m=>exact fun h=>h
 | cons _ _ i1 i2=>exact fun h=>i2 (i1 h)
 | consDead _ i1=>exact i1
 | empty _=>exact fun h=>h
 | simple _ _ _=>exact fun h=>simpleS_kinds _ _ _ h
 | ifE _ _ _ i=>exact i
 | whileE _ _ _ i=>exact i
 | stop _=>exact fun h=>h
 | bodyDead _ _ i=>exact i
 | out _ _ _ i=>exact i
 | again _ _ _ _ i1 i2=>exact fun h=>i2 (i1 h)
theorem execF_kinds (v : EnvS) (body : List Stm) (cells : List Int) : Kinds (execF v body cells).effs:=by
 by_cases hx : ∃ r,Exec v (.list body) ⟨cells,[],400⟩ r
 ·obtain ⟨r,h⟩:=hx
  rw [execF_of h]
  exact h.kinds (fun e he=>by simp at he)
 ·unfold execF
  rw [dif_neg hx]
  exact fun e he=>by simp at he
def Frm (w : World) (L : Nat → Nat) (i : Nat) : Prop:=i < w.heap.size ∧ (L i = 0 ∨ 5 < L i)
def HrPost (L : Nat → Nat) (g : Nat) (s : St) (w : World) (e : Ending) (w' : World) : Prop:=e = .returned (.tuple #[]) ∧ ∃ L',(∀ i,i < w.heap.size → L' i = L i) ∧ StM w' L' g s ∧ Same (Frm w L) w w'
def HrRel (L : Nat → Nat) (g : Nat) (ix : Int) (s : St) (effs : List Eff) (W : World) (o i : Value) (wr : World) : Prop:=
 ∃ (k : Nat) (L' : Nat → Nat),k ≤ effs.length ∧ i = .int .i64 k ∧ o = .int .i64 (cntS (effs.take k)) ∧ (∀ i,i < W.heap.size → L' i = L i) ∧ StM wr L' g { s with sent:=s.sent ++ sendsOf ix 0 (effs.take k),outs:=s.outs ++ outsOf ix (effs.take k) } ∧ Same (Frm W L) W wr
theorem StM.addSent {w w6 w7 w8 : World} {L : Nat → Nat} {g : Nat} {s : St} {A1 A2 A4 : Option Addr} {n1 c1 c2 c4 : Nat} {A' : Option Addr} {c' : Nat} (snd : Snd) (hg : L g = 1) (hgl : g < w.heap.size)
  (h2 : Sl encI 1 w (fun i=>i < w.heap.size ∧ (L i = 2 ∨ L i = 0)) A1 n1 c1 s.cells) (h3 : Gl w L 3 89 7 A2 s.events.length c2 (s.events.flatMap encEv)) (h5 : Gl w L 5 52 2 A4 s.outs.length c4 (s.outs.flatMap encOut))
  (hk : Keep w w6) (hs7 : Same (fun k=>k < w6.heap.size ∧ L k ≠ 4) w6 w7) (h4 : Gl w7 (ext L w6.heap.size (fun _=>4)) 4 92 4 A' (s.sent.length + 1) c' (s.sent.flatMap encSnd ++ encSnd snd))
  (hs8 : Same (· ≠ g) w7 w8) (hb8 : Blk w8 g 50 #[.slice A1 n1 c1,.slice A2 s.events.length c2,.slice A' (s.sent.length + 1) c',.slice A4 s.outs.length c4]) :
  StM w8 (ext L w6.heap.size (fun _=>4)) g { s with sent:=s.sent ++ [snd] } ∧ Same (Frm w L) w w8:=by
 have z6:=hk.size
 have z7:=hs7.size
 have z8:=hs8.size
 have hL : ∀ i,i < w.heap.size → ext L w6.heap.size (fun _=>4) i = L i:=fun i hi=>ext_old (by omega)
 have hs : Same (fun i=>i < w.heap.size ∧ L i ≠ 4 ∧ i ≠ g) w w8:=Same.trans (Same.mono hk (fun i hi=>hi.1)) (Same.trans (hs7.mono (T:=fun i=>i < w.heap.size ∧ L i ≠ 4 ∧ i ≠ g) (fun i hi=>⟨by omega,hi.2.1⟩)) hs8 (fun i hi=>hi.2.2)) (fun i hi=>hi)
 have hng : ∀ i,L i ≠ 1 → i ≠ g:=fun i hi e=>hi (by rw [e]; exact hg)
 refine ⟨⟨A1,A2,A',A4,n1,c1,c2,c',c4,by simpa using hb8,by rw [hL g hgl]; exact hg,slL h2 hs (fun i hi h=>⟨hi,by omega,hng i (by omega)⟩) hL,h3.same hs (fun i hi h=>⟨hi,by omega,hng i (by omega)⟩) hL,?_,h5.same hs (fun i hi h=>⟨hi,by omega,hng i (by omega)⟩) hL⟩,hs.mono (fun i hi=>⟨hi.1,by have:=hi.2; omega,hng i (by have:=hi.2; omega)⟩)⟩
 have hg7 : ext L w6.heap.size (fun _=>4) g = 1:=by rw [hL g hgl]; exact hg
 have:=h4.same (L':=ext L w6.heap.size (fun _=>4)) hs8 (fun i hi h e=>by rw [e,hg7] at h; omega) (fun i hi=>rfl)
 simpa using this
theorem StM.addOut {w w6 w7 w8 : World} {L : Nat → Nat} {g : Nat} {s : St} {A1 A2 A3 : Option Addr} {n1 c1 c2 c3 : Nat} {A' : Option Addr} {c' : Nat} (o : Outp) (hg : L g = 1) (hgl : g < w.heap.size)
  (h2 : Sl encI 1 w (fun i=>i < w.heap.size ∧ (L i = 2 ∨ L i = 0)) A1 n1 c1 s.cells) (h3 : Gl w L 3 89 7 A2 s.events.length c2 (s.events.flatMap encEv)) (h4 : Gl w L 4 92 4 A3 s.sent.length c3 (s.sent.flatMap encSnd))
  (hk : Keep w w6) (hs7 : Same (fun k=>k < w6.heap.size ∧ L k ≠ 5) w6 w7) (h5 : Gl w7 (ext L w6.heap.size (fun _=>5)) 5 52 2 A' (s.outs.length + 1) c' (s.outs.flatMap encOut ++ encOut o))
  (hs8 : Same (· ≠ g) w7 w8) (hb8 : Blk w8 g 50 #[.slice A1 n1 c1,.slice A2 s.events.length c2,.slice A3 s.sent.length c3,.slice A' (s.outs.length + 1) c']) :
  StM w8 (ext L w6.heap.size (fun _=>5)) g { s with outs:=s.outs ++ [o] } ∧ Same (Frm w L) w w8:=by
 have z6:=hk.size
 have z7:=hs7.size
 have z8:=hs8.size
 have hL : ∀ i,i < w.heap.size → ext L w6.heap.size (fun _=>5) i = L i:=fun i hi=>ext_old (by omega)
 have hs : Same (fun i=>i < w.heap.size ∧ L i ≠ 5 ∧ i ≠ g) w w8:=Same.trans (Same.mono hk (fun i hi=>hi.1)) (Same.trans (hs7.mono (T:=fun i=>i < w.heap.size ∧ L i ≠ 5 ∧ i ≠ g) (fun i hi=>⟨by omega,hi.2.1⟩)) hs8 (fun i hi=>hi.2.2)) (fun i hi=>hi)
 have hng : ∀ i,L i ≠ 1 → i ≠ g:=fun i hi e=>hi (by rw [e]; exact hg)
 refine ⟨⟨A1,A2,A3,A',n1,c1,c2,c3,c',by simpa using hb8,by rw [hL g hgl]; exact hg,slL h2 hs (fun i hi h=>⟨hi,by omega,hng i (by omega)⟩) hL,h3.same hs (fun i hi h=>⟨hi,by omega,hng i (by omega)⟩) hL,h4.same hs (fun i hi h=>⟨hi,by omega,hng i (by omega)⟩) hL,?_⟩,hs.mono (fun i hi=>⟨hi.1,by have:=hi.2; omega,hng i (by have:=hi.2; omega)⟩)⟩
 have hg7 : ext L w6.heap.size (fun _=>5) g = 1:=by rw [hL g hgl]; exact hg
 have:=h5.same (L':=ext L w6.heap.size (fun _=>5)) hs8 (fun i hi h e=>by rw [e,hg7] at h; omega) (fun i hi=>rfl)
 simpa using this
set_option maxHeartbeats 16000000 in
theorem hrun_any (w : World) (L : Nat → Nat) (g : Nat) (s : St) (S : Nat → Prop) (K0 K1 K2 K3 K4 A A2 : Option Addr) (y0 z0 y1 z1 y2 z2 y3 z3 y4 z4 m c n2 c2 : Nat) (self procs frm val ix : Int) (body : List Stm) (cells : List Int)
  (hst : StM w L g s) (hS : ∀ i,S i → i < w.heap.size ∧ L i = 0) (hsl : SlR w S 18 (StmR w S 3) A m c body) (hcl : Sl encI 1 w (fun i=>i < w.heap.size) A2 n2 c2 cells) (h1 : cells.length ≤ 1000000) (h2 : s.sent.length ≤ 1000000) (h3 : s.outs.length ≤ 1000000) :
  Calls Tryz.prog 51 #[.agg #[.slice K0 y0 z0,.slice K1 y1 z1,.slice K2 y2 z2,.slice K3 y3 z3,.slice K4 y4 z4,.int .i64 self,.int .i64 procs],.pointer (some ⟨g,0,none⟩),.slice A m c,.slice A2 n2 c2,.int .i64 frm,.int .i64 val,.int .i64 ix] w (HrPost L g (runS ⟨self,procs,frm,val⟩ body cells ix s) w):=by
 obtain ⟨i0,hi0,iz0,iz1,iz2⟩:=info_of info_Send
 obtain ⟨j0,hj0,jz0,jz1,jz2⟩:=info_of info_Output
 have hn2:=hcl.1
 have hn2' : n2 ≤ 1000000:=by omega
 obtain ⟨hgl,hLg⟩:=hst.lt
 generalize hW : w.alloc (.cells #[.slice K0 y0 z0,.slice K1 y1 z1,.slice K2 y2 z2,.slice K3 y3 z3,.slice K4 y4 z4,.int .i64 self,.int .i64 procs] 95) = W
 have hkW : Keep w W:=hW ▸ Keep.new w _
 have hb7 : Blk W w.heap.size 95 #[.slice K0 y0 z0,.slice K1 y1 z1,.slice K2 y2 z2,.slice K3 y3 z3,.slice K4 y4 z4,.int .i64 self,.int .i64 procs]:=hW ▸ Blk.new w _ _
 have e5 : W.cell? ⟨w.heap.size,5,none⟩ = some (.int .i64 self):=by rw [hb7.cell]; rfl
 have e6 : W.cell? ⟨w.heap.size,6,none⟩ = some (.int .i64 procs):=by rw [hb7.cell]; rfl
 have hzW:=hb7.lt
 have HST:=Lib.hid hst
 have HS:=Lib.hid hS
 have HSL:=Lib.hid hsl
 have HCL:=Lib.hid hcl
 have HI0:=Lib.hid hi0
 have IZ0:=Lib.hid iz0
 have IZ1:=Lib.hid iz1
 have IZ2:=Lib.hid iz2
 have HJ0:=Lib.hid hj0
 have JZ0:=Lib.hid jz0
 have JZ1:=Lib.hid jz1
 have JZ2:=Lib.hid jz2
 have HN2:=Lib.hid hn2
 have HKW:=Lib.hid hkW
 clear hst hS hsl hcl hi0 iz0 iz1 iz2 hj0 jz0 jz1 jz2 hn2 hkW
 clear hb7
 go_enter Tryz.func51,Tryz.ntmps51
 go_upto_region 2 with (refine wpList_store_all rfl _ (.tmp 14) (.tmp 26) rfl W.heap.size 127 _ [.int .i64 self,.int .i64 procs,.int .i64 frm,.int .i64 val] rfl rfl (Blk.new _ _ _) rfl (by kernel_rfl) rfl ?_; intro w2 hb2 hs2)
 clear hW
 have hk2 : Keep w w2:=Keep.write (Keep.trans HKW.out (Keep.new _ _)) hs2 (by omega)
 have hz2 : W.heap.size < w2.heap.size:=hb2.lt
 have hcall:=irun_any 3 w2 (fun i=>i < w.heap.size) A A2 m c n2 c2 body cells ⟨self,procs,frm,val⟩ (fun i hi=>by omega) ((HSL.out.keep (Same.mono hk2 (fun i hi=>(HS.out i hi).1)) (StmR.keep (Same.mono hk2 (fun i hi=>(HS.out i hi).1)) _)).more (fun i hi=>(HS.out i hi).1) (StmR.more (fun i hi=>(HS.out i hi).1) _)) (HCL.out.keep hk2) hn2'
 have HK2:=Lib.hid hk2
 have HB2:=Lib.hid hb2
 have HCALL:=Lib.hid hcall
 clear hk2 hb2 hcall
 clear hs2 e5 e6
 go_wp2_with (refine wpList_load_all rfl _ (.tmp 14) rfl W.heap.size 127 [.int .i64 self,.int .i64 procs,.int .i64 frm,.int .i64 val] _ rfl HB2.out Tryz.underlying127 rfl (by kernel_rfl) ?_)
 refine HCALL.out.mono ?_
 rintro e w3 ⟨C,E,f,rfl,hcr,her,hdis,hk3⟩
 obtain ⟨Ac,cc,hC,hncc,hccm⟩:=own_form hcr
 subst hC
 obtain ⟨Ae,ce,hE,hnce,hcem⟩:=own_form her
 subst hE
 have hz3:=hk3.size
 have heff:=(execF_fit ⟨self,procs,frm,val⟩ body cells).2
 have hkin:=execF_kinds ⟨self,procs,frm,val⟩ body cells
 generalize hF : execF ⟨self,procs,frm,val⟩ body cells = FF at hcr her heff hkin hdis
 have hrun : runS ⟨self,procs,frm,val⟩ body cells ix s = { s with cells:=FF.cells,sent:=s.sent ++ sendsOf ix 0 FF.effs,outs:=s.outs ++ outsOf ix FF.effs }:=by rw [← hF]; rfl
 obtain ⟨L2,hL2⟩ : ∃ L2 : Nat → Nat,L2 = ext L w.heap.size (fun i=>if Value.ownBlock (.slice Ac FF.cells.length cc) = some i then 2 else 0):=⟨_,rfl⟩
 have hL2o : ∀ i,i < w.heap.size → L2 i = L i:=fun i hi=>by rw [hL2]; exact ext_old hi
 have hL2c : ∀ b,Value.ownBlock (.slice Ac FF.cells.length cc) = some b → L2 b = 2:=fun b hb=>by
  have:=(hcr.lt b hb).1
  rw [hL2,ext_new (by omega),if_pos hb]
 have hL2e : ∀ b,Value.ownBlock (.slice Ae FF.effs.length ce) = some b → L2 b = 0:=fun b hb=>by
  have:=(her.lt b hb).1
  rw [hL2,ext_new (by omega),if_neg (fun h=>hdis b h hb)]
 have hst3:=(HST.out.keep (L':=L2) (Keep.trans HK2.out hk3) hL2o)
 obtain ⟨D1,D2,D3,D4,p1,q1,q2,q3,q4,hbg,hg1,-,t3,t4,t5⟩:=hst3
 have HCR:=Lib.hid hcr
 have HER:=Lib.hid her
 have HK3:=Lib.hid hk3
 have HF:=Lib.hid hF
 have HRUN:=Lib.hid hrun
 have HL2O:=Lib.hid hL2o
 have HL2C:=Lib.hid hL2c
 have HL2E:=Lib.hid hL2e
 have HBG:=Lib.hid hbg
 have T3:=Lib.hid t3
 have T4:=Lib.hid t4
 have T5:=Lib.hid t5
 have HKIN:=Lib.hid hkin
 clear hcr her hk3 hF hrun hL2o hL2c hL2e hbg t3 t4 t5 hkin
 clear hdis hL2
 go_upto_region 4 with (refine wpList_store_one rfl _ (.tmp 38) _ rfl g 0 50 _ (.slice Ac FF.cells.length cc) rfl rfl HBG.out (by simp) (by kernel_rfl) rfl rfl ?_; intro w4 hb4 hs4)
 have hz4:=hs4.size
 have hng : ∀ i,L2 i ≠ 1 → i ≠ g:=fun i hi e=>hi (by rw [e]; exact hg1)
 have hcr4:=ownsRow_own HCR.out hs4 (fun b hb=>hng b (by rw [HL2C.out b hb]; omega))
 have her4:=ownsRow_own HER.out hs4 (fun b hb=>hng b (by rw [HL2E.out b hb]; omega))
 have hst4 : StM w4 L2 g { s with cells:=FF.cells }:=by
  obtain ⟨_,_,ee,pc⟩:=Sl.of_own hcr4
  injection ee with e1 _ e2
  subst e1 e2
  refine ⟨Ac,D2,D3,D4,FF.cells.length,cc,q2,q3,q4,by simpa using hb4,hg1,?_,T3.out.same hs4 (fun i hi h=>hng i (by omega)) (fun _ _=>rfl),T4.out.same hs4 (fun i hi h=>hng i (by omega)) (fun _ _=>rfl),T5.out.same hs4 (fun i hi h=>hng i (by omega)) (fun _ _=>rfl)⟩
  refine ⟨rfl,pc.2.1,pc.2.2.1,pc.2.2.2.1,fun hn=>?_⟩
  obtain ⟨b,off,e,hb,hcx⟩:=pc.2.2.2.2 hn
  have hob : Value.ownBlock (.slice Ac FF.cells.length cc) = some b:=by
   rcases hcr4.2 with ⟨_,h0⟩ | ⟨gx,cap,cur,hv,_⟩
   ·omega
   ·injection hv with hv _ _
    rw [hv] at e
    injection e with e
    injection e with e1 e2
    rw [hv,e1]
    rfl
  exact ⟨b,off,e,⟨hb.2,.inl (HL2C.out b hob)⟩,hcx⟩
 have hsw : Same (Frm w L) w w4:=Same.trans (Same.mono (Keep.trans HK2.out HK3.out) (fun i (hi : Frm w L i)=>hi.1)) hs4 (fun i hi=>hng i (by rw [HL2O.out i hi.1]; have:=hi.2; omega))
 have hesl : Sl encEff 3 w4 (Lab w4 L2 0) Ae FF.effs.length ce FF.effs:=by
  obtain ⟨_,_,ee,pc⟩:=Sl.of_own her4
  injection ee with e1 _ e2
  subst e1 e2
  refine ⟨rfl,pc.2.1,pc.2.2.1,pc.2.2.2.1,fun hn=>?_⟩
  obtain ⟨b,off,e,hb,hcx⟩:=pc.2.2.2.2 hn
  have hob : Value.ownBlock (.slice Ae FF.effs.length ce) = some b:=by
   rcases her4.2 with ⟨_,h0⟩ | ⟨gx,cap,cur,hv,_⟩
   ·omega
   ·injection hv with hv _ _
    rw [hv] at e
    injection e with e
    injection e with e1 e2
    rw [hv,e1]
    rfl
  exact ⟨b,off,e,⟨hb.2,HL2E.out b hob⟩,hcx⟩
 have hrel0 : HrRel L2 g ix { s with cells:=FF.cells } FF.effs w4 (.int .i64 0) (.int .i64 0) w4:=⟨0,L2,Nat.zero_le _,rfl,by simp [cntS],fun _ _=>rfl,by simpa [sendsOf,outsOf] using hst4,Same.refl _ _⟩
 have HSW:=Lib.hid hsw
 have HESL:=Lib.hid hesl
 have HREL0:=Lib.hid hrel0
 clear hsw hesl hrel0
 clear hb4 hs4 hcr4 her4 hst4 hng hg1
 clear T3 T4 T5 HBG HCR HER
 go_wp2_with fail
 go_loopw [17,41] (fun o i wr=>HrRel L2 g ix { s with cells:=FF.cells } FF.effs w4 o i wr) (fun _ i _=>FF.effs.length - (intOf i).toNat)
 case atStart=>exact HREL0.out
 case round=>
  clear HREL0
  obtain ⟨k,L',hk,rfl,rfl,hLL,hst,hsr⟩:=hrel
  have hzr:=hsr.size
  have hcnt:=cntS_le (FF.effs.take k)
  have hctk : (FF.effs.take k).length ≤ 8:=by rw [List.length_take]; omega
  have hln1:=sendsOf_len ix (FF.effs.take k) 0
  have hln2:=outsOf_len ix (FF.effs.take k)
  by_cases hkm : k < FF.effs.length
  case neg=>
   have hd1 : decide (k < FF.effs.length) = false:=by simpa using hkm
   have hkl : FF.effs.take k = FF.effs:=List.take_of_length_le (by omega)
   rw [hkl] at hst
   have hfin : HrPost L g (runS ⟨self,procs,frm,val⟩ body cells ix s) w (.returned (.tuple #[])) wr:=by
    refine ⟨rfl,L',fun i hi=>by rw [hLL i (by omega),HL2O.out i hi],by rw [HRUN.out]; exact hst,Same.trans HSW.out hsr (fun i hi=>⟨by have:=hi.1; omega,by rw [HL2O.out i hi.1]; exact hi.2⟩)⟩
   have HFIN:=Lib.hid hfin
   clear hfin
   clear hst hsr hLL hkl hln1 hln2 hctk hcnt
   as_aux_lemma=>
   go_wp2_with fail
   exact bodyPost_end (results_none Tryz.results51 _ _ _) rfl HFIN.out
  obtain ⟨be,oe,x,rfl,hbe,hx,hcx⟩:=(HESL.out.keep (hsr.mono (fun i hi=>⟨hi.1,.inl hi.2⟩))).at_ encEff_len hkm
  have hd1 : decide (k < FF.effs.length) = true:=by simpa using hkm
  have hd2 : (0 : Int) ≤ k:=by omega
  have hd3 : (k : Int) < FF.effs.length:=by omega
  have hk1 : k + 1 ≤ FF.effs.length:=by omega
  have htk:=(take_snoc hx).1
  have t1:=sendsOf_snoc ix x (FF.effs.take k) 0
  have t2:=outsOf_snoc ix x (FF.effs.take k)
  have t3:=cntS_snoc (FF.effs.take k) x
  rw [← htk] at t1 t2 t3
  have hkx:=HKIN.out x (List.mem_of_getElem? hx)
  have hrg : wr.rangeAt be (oe + k * 3) [.int .i64 x.kind,.int .i64 x.dst,.int .i64 x.val]:=hcx
  generalize hX : s.sent ++ sendsOf ix 0 (FF.effs.take k) = X at hst
  generalize hY : s.outs ++ outsOf ix (FF.effs.take k) = Y at hst
  generalize hN : cntS (FF.effs.take k) = N at *
  have hN8 : N ≤ 8:=by omega
  have hXl : X.length ≤ 1000008:=by rw [← hX,List.length_append]; omega
  have hYl : Y.length ≤ 1000008:=by rw [← hY,List.length_append]; omega
  have hgr:=hst.lt
  clear hcx hx htk hln1 hln2 hctk hcnt
  have HST:=Lib.hid hst
  have HSR:=Lib.hid hsr
  have HLL:=Lib.hid hLL
  have HRG:=Lib.hid hrg
  have HK1:=Lib.hid hk1
  have HBE:=Lib.hid hbe
  clear hst hsr hLL hrg hk1 hbe
  go_upto_region 8 with (first
   | (refine wpList_load_mid rfl _ (.tmp 43) rfl be (oe + k * 3) rfl [.int .i64 x.kind,.int .i64 x.dst,.int .i64 x.val] _ HRG.out Tryz.underlying134 rfl (by kernel_rfl) ?_)
   | (refine wpList_store_all rfl _ (.tmp 19) (.tmp 44) rfl wr.heap.size 134 _ [.int .i64 x.kind,.int .i64 x.dst,.int .i64 x.val] rfl rfl (Blk.new _ _ _) rfl (by kernel_rfl) rfl ?_; intro w5 hb5 hs5))
  have hk5 : Keep wr w5:=Keep.write (Keep.new _ _) hs5 (Nat.le_refl _)
  have hz5 : wr.heap.size < w5.heap.size:=hb5.lt
  obtain ⟨L5,hL5⟩ : ∃ L5 : Nat → Nat,L5 = ext L' wr.heap.size (fun _=>0):=⟨_,rfl⟩
  have hL5o : ∀ i,i < wr.heap.size → L5 i = L' i:=fun i hi=>by rw [hL5]; exact ext_old hi
  have hL5n : L5 wr.heap.size = 0:=by rw [hL5]; exact ext_new (Nat.le_refl _)
  clear hL5
  obtain ⟨D1,D2,D3,D4,p1,q1,q2,q3,q4,hbg,hg1,r2,r3,r4,r5⟩:=HST.out.keep (L':=L5) hk5 hL5o
  replace r4 : Gl w5 L5 4 92 4 D3 X.length q3 (X.flatMap encSnd):=r4
  replace r5 : Gl w5 L5 5 52 2 D4 Y.length q4 (Y.flatMap encOut):=r5
  have hg5:=hbg.lt
  have f0 : w5.cell? ⟨wr.heap.size,0,none⟩ = some (.int .i64 x.kind):=by rw [hb5.cell]; rfl
  have g1 : ∀ wx,Same (fun i=>i = g ∨ i = wr.heap.size) w5 wx → wx.cell? ⟨wr.heap.size,1,none⟩ = some (.int .i64 x.dst):=fun wx hx=>(hx.cell (p:=⟨wr.heap.size,1,none⟩) (.inr rfl)).trans (by rw [hb5.cell]; rfl)
  have g2 : ∀ wx,Same (fun i=>i = g ∨ i = wr.heap.size) w5 wx → wx.cell? ⟨wr.heap.size,2,none⟩ = some (.int .i64 x.val):=fun wx hx=>(hx.cell (p:=⟨wr.heap.size,2,none⟩) (.inr rfl)).trans (by rw [hb5.cell]; rfl)
  have g3 : ∀ wx,Same (fun i=>i = g ∨ i = wr.heap.size) w5 wx → wx.cell? ⟨g,2,none⟩ = some (.slice D3 X.length q3):=fun wx hx=>(hx.cell (p:=⟨g,2,none⟩) (.inl rfl)).trans (by rw [hbg.cell]; rfl)
  have g4 : ∀ wx,Same (fun i=>i = g ∨ i = wr.heap.size) w5 wx → wx.cell? ⟨g,3,none⟩ = some (.slice D4 Y.length q4):=fun wx hx=>(hx.cell (p:=⟨g,3,none⟩) (.inl rfl)).trans (by rw [hbg.cell]; rfl)
  have hmc : X.length ≤ q3 ∧ q3 ≤ 9223372036854775807:=⟨r4.1,r4.2.1⟩
  have hmd : Y.length ≤ q4 ∧ q4 ≤ 9223372036854775807:=⟨r5.1,r5.2.1⟩
  clear hb5 hs5
  have HK5:=Lib.hid hk5
  have HBG:=Lib.hid hbg
  have R2:=Lib.hid r2
  have R3:=Lib.hid r3
  have R4:=Lib.hid r4
  have R5:=Lib.hid r5
  have HL5O:=Lib.hid hL5o
  clear hk5 hbg r2 r3 r4 r5 hL5o
  rcases hkx with hkx | hkx
  ·have hkb : (x.kind == 1) = true:=by simpa using hkx
   rw [if_pos hkx] at t1 t2 t3
   have t1' : s.sent ++ sendsOf ix 0 (FF.effs.take (k + 1)) = X ++ [⟨ix,N,x.dst,x.val⟩]:=by rw [t1,← List.append_assoc,hX]; simp
   have t2' : s.outs ++ outsOf ix (FF.effs.take (k + 1)) = Y:=by rw [t2,List.append_nil]; exact hY
   clear t1 t2 hX hY hN g4 hkx
   have T1':=Lib.hid t1'
   have T2':=Lib.hid t2'
   have T3:=Lib.hid t3
   clear t1' t2' t3
   as_aux_lemma=>
   go_upto_region 10 with fail
   clear f0
   refine wp_region_L 16 (fun wx=>Same (fun i=>i = g ∨ i = wr.heap.size) w5 wx) (fun _=>True) (by kernel_rfl) (Same.drew (Same.refl _ _)) trivial (fun hA hB=>?_)
   refine wpL_takeA (i:=0) (v:=?_) rfl (by kernel_rfl) (by kernel_rfl) (by kernel_rfl) (by kernel_rfl) (by decide) (fun _ _ _ h=>h) (Or.inl ⟨by rfl,?_⟩) hA hB ?_
   rotate_left
   ·rintro wx ⟨hAx,hBx⟩
    (try dsimp only at hBx); (try dsimp only at hAx)
    go_simp
    try with_reducible rfl
   try simp only [Act.put,List.setIfInBounds_toArray,List.set_cons_zero,List.set_cons_succ]
   refine wpL_takeA (i:=1) (v:=?_) rfl (by kernel_rfl) (by kernel_rfl) (by kernel_rfl) (by kernel_rfl) (by decide) (fun _ _ _ h=>h) (Or.inl ⟨by rfl,?_⟩) hA hB ?_
   rotate_left
   ·rintro wx ⟨hAx,hBx⟩
    (try dsimp only at hBx); (try dsimp only at hAx)
    go_simp
    try with_reducible rfl
   try simp only [Act.put,List.setIfInBounds_toArray,List.set_cons_zero,List.set_cons_succ]
   refine wpL_takeA (i:=2) (v:=?_) rfl (by kernel_rfl) (by kernel_rfl) (by kernel_rfl) (by kernel_rfl) (by decide) (fun _ _ _ h=>h) (Or.inl ⟨by rfl,?_⟩) hA hB ?_
   rotate_left
   ·rintro wx ⟨hAx,hBx⟩
    (try dsimp only at hBx); (try dsimp only at hAx)
    go_simp
    try with_reducible rfl
   try simp only [Act.put,List.setIfInBounds_toArray,List.set_cons_zero,List.set_cons_succ]
   refine wpL_takeA (i:=3) (v:=?_) rfl (by kernel_rfl) (by kernel_rfl) (by kernel_rfl) (by kernel_rfl) (by decide) (fun _ _ _ h=>h) (Or.inl ⟨by rfl,?_⟩) hA hB ?_
   rotate_left
   ·rintro wx ⟨hAx,hBx⟩
    (try dsimp only at hBx); (try dsimp only at hAx)
    go_simp
    try with_reducible rfl
   try simp only [Act.put,List.setIfInBounds_toArray,List.set_cons_zero,List.set_cons_succ]
   refine wpL_takeA (i:=4) (v:=?_) rfl (by kernel_rfl) (by kernel_rfl) (by kernel_rfl) (by kernel_rfl) (by decide) (fun _ _ _ h=>h) (Or.inl ⟨by rfl,?_⟩) hA hB ?_
   rotate_left
   ·rintro wx ⟨hAx,hBx⟩
    (try dsimp only at hBx); (try dsimp only at hAx)
    go_simp
    try with_reducible rfl
   try simp only [Act.put,List.setIfInBounds_toArray,List.set_cons_zero,List.set_cons_succ]
   refine wpL_takeA (i:=5) (v:=?_) rfl (by kernel_rfl) (by kernel_rfl) (by kernel_rfl) (by kernel_rfl) (by decide) (fun _ _ _ h=>h) (Or.inl ⟨by rfl,?_⟩) hA hB ?_
   rotate_left
   ·rintro wx ⟨hAx,hBx⟩
    (try dsimp only at hBx); (try dsimp only at hAx)
    go_simp
    try with_reducible rfl
   try simp only [Act.put,List.setIfInBounds_toArray,List.set_cons_zero,List.set_cons_succ]
   refine wpL_takeA (i:=6) (v:=?_) rfl (by kernel_rfl) (by kernel_rfl) (by kernel_rfl) (by kernel_rfl) (by decide) (fun _ _ _ h=>h) (Or.inl ⟨by rfl,?_⟩) hA hB ?_
   rotate_left
   ·rintro wx ⟨hAx,hBx⟩
    (try dsimp only at hBx); (try dsimp only at hAx)
    go_simp
    try with_reducible rfl
   try simp only [Act.put,List.setIfInBounds_toArray,List.set_cons_zero,List.set_cons_succ]
   refine wpL_takeA (i:=7) (v:=?_) rfl (by kernel_rfl) (by kernel_rfl) (by kernel_rfl) (by kernel_rfl) (by decide) (fun _ _ _ h=>h) (Or.inl ⟨by rfl,?_⟩) hA hB ?_
   rotate_left
   ·rintro wx ⟨hAx,hBx⟩
    (try dsimp only at hBx); (try dsimp only at hAx)
    go_simp
    try with_reducible rfl
   try simp only [Act.put,List.setIfInBounds_toArray,List.set_cons_zero,List.set_cons_succ]
   refine wpL_takeA (i:=8) (v:=?_) rfl (by kernel_rfl) (by kernel_rfl) (by kernel_rfl) (by kernel_rfl) (by decide) (fun _ _ _ h=>h) (Or.inl ⟨by rfl,?_⟩) hA hB ?_
   rotate_left
   ·rintro wx ⟨hAx,hBx⟩
    (try dsimp only at hBx); (try dsimp only at hAx)
    go_simp
    try with_reducible rfl
   try simp only [Act.put,List.setIfInBounds_toArray,List.set_cons_zero,List.set_cons_succ]
   refine wpL_takeA (i:=9) (v:=?_) rfl (by kernel_rfl) (by kernel_rfl) (by kernel_rfl) (by kernel_rfl) (by decide) (fun _ _ _ h=>h) (Or.inl ⟨by rfl,?_⟩) hA hB ?_
   rotate_left
   ·rintro wx ⟨hAx,hBx⟩
    (try dsimp only at hBx); (try dsimp only at hAx)
    go_simp
    try with_reducible rfl
   try simp only [Act.put,List.setIfInBounds_toArray,List.set_cons_zero,List.set_cons_succ]
   refine wpL_takeA (i:=10) (v:=?_) rfl (by kernel_rfl) (by kernel_rfl) (by kernel_rfl) (by kernel_rfl) (by decide) (fun _ _ _ h=>h) (Or.inl ⟨by rfl,?_⟩) hA hB ?_
   rotate_left
   ·rintro wx ⟨hAx,hBx⟩
    (try dsimp only at hBx); (try dsimp only at hAx)
    go_simp
    try with_reducible rfl
   try simp only [Act.put,List.setIfInBounds_toArray,List.set_cons_zero,List.set_cons_succ]
   refine wpL_takeA (i:=11) (v:=?_) rfl (by kernel_rfl) (by kernel_rfl) (by kernel_rfl) (by kernel_rfl) (by decide) (fun _ _ _ h=>h) (Or.inl ⟨by rfl,?_⟩) hA hB ?_
   rotate_left
   ·rintro wx ⟨hAx,hBx⟩
    (try dsimp only at hBx); (try dsimp only at hAx)
    go_simp
    try with_reducible rfl
   try simp only [Act.put,List.setIfInBounds_toArray,List.set_cons_zero,List.set_cons_succ]
   clear g1 g2 g3
   refine wpL_one (i:=12) (by kernel_rfl) (StepL.mk rfl (fun K hK=>?_))
   refine step_buildS rfl _ _ _ _ rfl Tryz.underlying47 _ [(0,.agg #[.int .i64 ix,.int .i64 N,.int .i64 x.dst,.int .i64 x.val])] rfl (built_send _ _ _ _) ?_
   have hk6 : Keep w5 (w5.drew.alloc (.cells #[.int .i64 ix,.int .i64 N,.int .i64 x.dst,.int .i64 x.val] 92)):=Keep.alloc (Same.drew (Same.refl _ _)) _
   refine hK.out _ _ (SAB.both (hk6.mono (fun i hi=>by omega)) trivial) (fun hSS=>?_)
   clear hK K hA hB
   have hB:=hSS.2
   have hA:=hSS.1 (by kernel_rfl)
   (try dsimp only at hB); (try dsimp only at hA); clear hSS
   try simp only [Act.put,List.setIfInBounds_toArray,List.set_cons_zero,List.set_cons_succ]
   refine wpL_one (i:=13) (by kernel_rfl) (StepL.mk rfl (fun K hK=>?_))
   refine step_append_gl (by rfl) (.tmp 53) (.tmp 61) _ (by rfl) i0 _ 32 Tryz.underlying47 HI0.out IZ0.out IZ1.out IZ2.out rfl (by omega) (by rfl) (R4.out.same (L':=L5) hk6 (fun i hi _=>hi) (fun _ _=>rfl)) _ (some ⟨w5.heap.size,0,none⟩) 1 1 (encSnd ⟨ix,N,x.dst,x.val⟩) (by rfl) (Reads.new (w:=w5.drew) rfl) (encSnd_one _) (by omega) (by simp [maxLen]; omega) (by omega) ?_
   intro A7 c7 w7 hgl7 hs7
   have hz6:=hk6.size
   have hs57 : Same (fun i=>i < w5.heap.size ∧ L5 i ≠ 4) w5 w7:=Same.trans (Same.mono hk6 (fun i hi=>hi.1)) hs7 (fun i hi=>⟨by omega,hi.2⟩)
   refine hK.out _ _ (SAB.both (hs57.mono (fun i hi=>hi.elim (fun h=>by subst h; exact ⟨hg5,by omega⟩) (fun h=>by subst h; exact ⟨hz5,by omega⟩))) trivial) (fun hSS=>?_)
   clear hK K hA hB
   have hB:=hSS.2
   have hA:=hSS.1 (by kernel_rfl)
   (try dsimp only at hB); (try dsimp only at hA); clear hSS
   try simp only [Act.put,List.setIfInBounds_toArray,List.set_cons_zero,List.set_cons_succ]
   refine wpL_takeB (i:=14) (v:=?_) rfl (by kernel_rfl) (by kernel_rfl) (by kernel_rfl) (by decide) (fun _ _ _ h=>h) (Or.inl ⟨by rfl,?_⟩) (SAB.both hA hB) ?_
   rotate_left
   ·intro wx hBx
    (try dsimp only at hBx)
    go_simp
    try with_reducible rfl
   try simp only [Act.put,List.setIfInBounds_toArray,List.set_cons_zero,List.set_cons_succ]
   refine wpL_takeB (i:=15) (v:=?_) rfl (by kernel_rfl) (by kernel_rfl) (by kernel_rfl) (by decide) (fun _ _ _ h=>h) (Or.inl ⟨by rfl,?_⟩) (SAB.both hA hB) ?_
   rotate_left
   ·intro wx hBx
    (try dsimp only at hBx)
    go_simp
    try with_reducible rfl
   try simp only [Act.put,List.setIfInBounds_toArray,List.set_cons_zero,List.set_cons_succ]
   have hbg7:=hs57.blk HBG.out ⟨hg5,by omega⟩
   refine wpL_one (i:=16) (by kernel_rfl) (StepL.mk rfl (fun K hK=>?_))
   refine step_store_one rfl _ _ _ rfl g 2 50 _ (.slice A7 (X.length + 1) c7) rfl rfl hbg7 (by simp) (by kernel_rfl) rfl rfl ?_
   intro w8 hb8 hs8
   have hadd:=StM.addSent (s:={ s with cells:=FF.cells,sent:=X,outs:=Y }) ⟨ix,N,x.dst,x.val⟩ hg1 hg5 R2.out R3.out R5.out hk6 hs7 hgl7 hs8 (by simpa using hb8)
   obtain ⟨Lx,hLx,hax,hay⟩ : ∃ Lx : Nat → Nat,(∀ i,i < w5.heap.size → Lx i = L5 i) ∧ StM w8 Lx g _ ∧ Same (Frm w5 L5) w5 w8:=⟨_,fun i hi=>ext_old (by omega),hadd.1,hadd.2⟩
   have hfin : HrRel L2 g ix { s with cells:=FF.cells } FF.effs w4 (.int .i64 (N + 1)) (.int .i64 (k + 1)) w8:=by
    refine ⟨k + 1,Lx,HK1.out,by simp,by rw [T3.out]; simp,fun i hi=>?_,?_,Same.trans HSR.out (Same.trans (Same.mono HK5.out (fun i (hi : Frm w4 L2 i)=>by have:=hi.1; omega)) hay (fun i hi=>⟨by have:=hi.1; omega,by rw [HL5O.out i (by have:=hi.1; omega),HLL.out i hi.1]; exact hi.2⟩)) (fun i hi=>hi)⟩
    ·rw [hLx i (by omega),HL5O.out i (by omega),HLL.out i hi]
    ·show StM w8 _ g { s with cells:=FF.cells,sent:=s.sent ++ _,outs:=s.outs ++ _ }
     rw [T1'.out,T2'.out]
     exact hax
   refine hK.out _ _ (SAB.past (by kernel_rfl) trivial) (fun hSS=>?_)
   clear hK K hA hB
   have hB:=hSS.2
   have hA : True:=trivial
   (try dsimp only at hB); (try dsimp only at hA); clear hSS
   try simp only [Act.put,List.setIfInBounds_toArray,List.set_cons_zero,List.set_cons_succ]
   refine wpL_done (by kernel_rfl) ?_
   have HFIN:=Lib.hid hfin
   clear hfin
   clear hadd hax hay hLx hb8 hs8 hs7 hs57 hgl7 hk6 hA hB hbg7
   go_wp2_with fail
   go_roundw
   case rel=>exact HFIN.out
   case measure=>simp [intOf]; omega
  ·have hkb1 : (x.kind == 1) = false:=by simp; omega
   have hkb : (x.kind == 2) = true:=by simpa using hkx
   have hkn : ¬ x.kind = 1:=by omega
   rw [if_neg hkn] at t1 t2 t3
   have t1' : s.sent ++ sendsOf ix 0 (FF.effs.take (k + 1)) = X:=by rw [t1,List.append_nil]; exact hX
   have t2' : s.outs ++ outsOf ix (FF.effs.take (k + 1)) = Y ++ [⟨ix,x.val⟩]:=by rw [t2,← List.append_assoc,hY]
   clear t1 t2 hX hY hN g3 g1 hkx hkn
   have T1':=Lib.hid t1'
   have T2':=Lib.hid t2'
   have T3:=Lib.hid t3
   clear t1' t2' t3
   as_aux_lemma=>
   go_upto_region 13 with fail
   clear f0
   refine wp_region_L 13 (fun wx=>Same (fun i=>i = g ∨ i = wr.heap.size) w5 wx) (fun _=>True) (by kernel_rfl) (Same.drew (Same.refl _ _)) trivial (fun hA hB=>?_)
   refine wpL_takeA (i:=0) (v:=?_) rfl (by kernel_rfl) (by kernel_rfl) (by kernel_rfl) (by kernel_rfl) (by decide) (fun _ _ _ h=>h) (Or.inl ⟨by rfl,?_⟩) hA hB ?_
   rotate_left
   ·rintro wx ⟨hAx,hBx⟩
    (try dsimp only at hBx); (try dsimp only at hAx)
    go_simp
    try with_reducible rfl
   try simp only [Act.put,List.setIfInBounds_toArray,List.set_cons_zero,List.set_cons_succ]
   refine wpL_takeA (i:=1) (v:=?_) rfl (by kernel_rfl) (by kernel_rfl) (by kernel_rfl) (by kernel_rfl) (by decide) (fun _ _ _ h=>h) (Or.inl ⟨by rfl,?_⟩) hA hB ?_
   rotate_left
   ·rintro wx ⟨hAx,hBx⟩
    (try dsimp only at hBx); (try dsimp only at hAx)
    go_simp
    try with_reducible rfl
   try simp only [Act.put,List.setIfInBounds_toArray,List.set_cons_zero,List.set_cons_succ]
   refine wpL_takeA (i:=2) (v:=?_) rfl (by kernel_rfl) (by kernel_rfl) (by kernel_rfl) (by kernel_rfl) (by decide) (fun _ _ _ h=>h) (Or.inl ⟨by rfl,?_⟩) hA hB ?_
   rotate_left
   ·rintro wx ⟨hAx,hBx⟩
    (try dsimp only at hBx); (try dsimp only at hAx)
    go_simp
    try with_reducible rfl
   try simp only [Act.put,List.setIfInBounds_toArray,List.set_cons_zero,List.set_cons_succ]
   refine wpL_takeA (i:=3) (v:=?_) rfl (by kernel_rfl) (by kernel_rfl) (by kernel_rfl) (by kernel_rfl) (by decide) (fun _ _ _ h=>h) (Or.inl ⟨by rfl,?_⟩) hA hB ?_
   rotate_left
   ·rintro wx ⟨hAx,hBx⟩
    (try dsimp only at hBx); (try dsimp only at hAx)
    go_simp
    try with_reducible rfl
   try simp only [Act.put,List.setIfInBounds_toArray,List.set_cons_zero,List.set_cons_succ]
   refine wpL_takeA (i:=4) (v:=?_) rfl (by kernel_rfl) (by kernel_rfl) (by kernel_rfl) (by kernel_rfl) (by decide) (fun _ _ _ h=>h) (Or.inl ⟨by rfl,?_⟩) hA hB ?_
   rotate_left
   ·rintro wx ⟨hAx,hBx⟩
    (try dsimp only at hBx); (try dsimp only at hAx)
    go_simp
    try with_reducible rfl
   try simp only [Act.put,List.setIfInBounds_toArray,List.set_cons_zero,List.set_cons_succ]
   refine wpL_takeA (i:=5) (v:=?_) rfl (by kernel_rfl) (by kernel_rfl) (by kernel_rfl) (by kernel_rfl) (by decide) (fun _ _ _ h=>h) (Or.inl ⟨by rfl,?_⟩) hA hB ?_
   rotate_left
   ·rintro wx ⟨hAx,hBx⟩
    (try dsimp only at hBx); (try dsimp only at hAx)
    go_simp
    try with_reducible rfl
   try simp only [Act.put,List.setIfInBounds_toArray,List.set_cons_zero,List.set_cons_succ]
   refine wpL_takeA (i:=6) (v:=?_) rfl (by kernel_rfl) (by kernel_rfl) (by kernel_rfl) (by kernel_rfl) (by decide) (fun _ _ _ h=>h) (Or.inl ⟨by rfl,?_⟩) hA hB ?_
   rotate_left
   ·rintro wx ⟨hAx,hBx⟩
    (try dsimp only at hBx); (try dsimp only at hAx)
    go_simp
    try with_reducible rfl
   try simp only [Act.put,List.setIfInBounds_toArray,List.set_cons_zero,List.set_cons_succ]
   refine wpL_takeA (i:=7) (v:=?_) rfl (by kernel_rfl) (by kernel_rfl) (by kernel_rfl) (by kernel_rfl) (by decide) (fun _ _ _ h=>h) (Or.inl ⟨by rfl,?_⟩) hA hB ?_
   rotate_left
   ·rintro wx ⟨hAx,hBx⟩
    (try dsimp only at hBx); (try dsimp only at hAx)
    go_simp
    try with_reducible rfl
   try simp only [Act.put,List.setIfInBounds_toArray,List.set_cons_zero,List.set_cons_succ]
   refine wpL_takeA (i:=8) (v:=?_) rfl (by kernel_rfl) (by kernel_rfl) (by kernel_rfl) (by kernel_rfl) (by decide) (fun _ _ _ h=>h) (Or.inl ⟨by rfl,?_⟩) hA hB ?_
   rotate_left
   ·rintro wx ⟨hAx,hBx⟩
    (try dsimp only at hBx); (try dsimp only at hAx)
    go_simp
    try with_reducible rfl
   try simp only [Act.put,List.setIfInBounds_toArray,List.set_cons_zero,List.set_cons_succ]
   clear g2 g4
   refine wpL_one (i:=9) (by kernel_rfl) (StepL.mk rfl (fun K hK=>?_))
   refine step_buildS rfl _ _ _ _ rfl Tryz.underlying48 _ [(0,.agg #[.int .i64 ix,.int .i64 x.val])] rfl (built_out _ _) ?_
   have hk6 : Keep w5 (w5.drew.alloc (.cells #[.int .i64 ix,.int .i64 x.val] 52)):=Keep.alloc (Same.drew (Same.refl _ _)) _
   refine hK.out _ _ (SAB.both (hk6.mono (fun i hi=>by omega)) trivial) (fun hSS=>?_)
   clear hK K hA hB
   have hB:=hSS.2
   have hA:=hSS.1 (by kernel_rfl)
   (try dsimp only at hB); (try dsimp only at hA); clear hSS
   try simp only [Act.put,List.setIfInBounds_toArray,List.set_cons_zero,List.set_cons_succ]
   refine wpL_one (i:=10) (by kernel_rfl) (StepL.mk rfl (fun K hK=>?_))
   refine step_append_gl (by rfl) (.tmp 73) (.tmp 78) _ (by rfl) j0 _ 16 Tryz.underlying48 HJ0.out JZ0.out JZ1.out JZ2.out rfl (by omega) (by rfl) (R5.out.same (L':=L5) hk6 (fun i hi _=>hi) (fun _ _=>rfl)) _ (some ⟨w5.heap.size,0,none⟩) 1 1 (encOut ⟨ix,x.val⟩) (by rfl) (Reads.new (w:=w5.drew) rfl) (encOut_one _) (by omega) (by simp [maxLen]; omega) (by omega) ?_
   intro A7 c7 w7 hgl7 hs7
   have hz6:=hk6.size
   have hs57 : Same (fun i=>i < w5.heap.size ∧ L5 i ≠ 5) w5 w7:=Same.trans (Same.mono hk6 (fun i hi=>hi.1)) hs7 (fun i hi=>⟨by omega,hi.2⟩)
   refine hK.out _ _ (SAB.both (hs57.mono (fun i hi=>hi.elim (fun h=>by subst h; exact ⟨hg5,by omega⟩) (fun h=>by subst h; exact ⟨hz5,by omega⟩))) trivial) (fun hSS=>?_)
   clear hK K hA hB
   have hB:=hSS.2
   have hA:=hSS.1 (by kernel_rfl)
   (try dsimp only at hB); (try dsimp only at hA); clear hSS
   try simp only [Act.put,List.setIfInBounds_toArray,List.set_cons_zero,List.set_cons_succ]
   refine wpL_takeB (i:=11) (v:=?_) rfl (by kernel_rfl) (by kernel_rfl) (by kernel_rfl) (by decide) (fun _ _ _ h=>h) (Or.inl ⟨by rfl,?_⟩) (SAB.both hA hB) ?_
   rotate_left
   ·intro wx hBx
    (try dsimp only at hBx)
    go_simp
    try with_reducible rfl
   try simp only [Act.put,List.setIfInBounds_toArray,List.set_cons_zero,List.set_cons_succ]
   refine wpL_takeB (i:=12) (v:=?_) rfl (by kernel_rfl) (by kernel_rfl) (by kernel_rfl) (by decide) (fun _ _ _ h=>h) (Or.inl ⟨by rfl,?_⟩) (SAB.both hA hB) ?_
   rotate_left
   ·intro wx hBx
    (try dsimp only at hBx)
    go_simp
    try with_reducible rfl
   try simp only [Act.put,List.setIfInBounds_toArray,List.set_cons_zero,List.set_cons_succ]
   have hbg7:=hs57.blk HBG.out ⟨hg5,by omega⟩
   refine wpL_one (i:=13) (by kernel_rfl) (StepL.mk rfl (fun K hK=>?_))
   refine step_store_one rfl _ _ _ rfl g 3 50 _ (.slice A7 (Y.length + 1) c7) rfl rfl hbg7 (by simp) (by kernel_rfl) rfl rfl ?_
   intro w8 hb8 hs8
   have hadd:=StM.addOut (s:={ s with cells:=FF.cells,sent:=X,outs:=Y }) ⟨ix,x.val⟩ hg1 hg5 R2.out R3.out R4.out hk6 hs7 hgl7 hs8 (by simpa using hb8)
   obtain ⟨Lx,hLx,hax,hay⟩ : ∃ Lx : Nat → Nat,(∀ i,i < w5.heap.size → Lx i = L5 i) ∧ StM w8 Lx g _ ∧ Same (Frm w5 L5) w5 w8:=⟨_,fun i hi=>ext_old (by omega),hadd.1,hadd.2⟩
   have hfin : HrRel L2 g ix { s with cells:=FF.cells } FF.effs w4 (.int .i64 N) (.int .i64 (k + 1)) w8:=by
    refine ⟨k + 1,Lx,HK1.out,by simp,by rw [T3.out]; simp,fun i hi=>?_,?_,Same.trans HSR.out (Same.trans (Same.mono HK5.out (fun i (hi : Frm w4 L2 i)=>by have:=hi.1; omega)) hay (fun i hi=>⟨by have:=hi.1; omega,by rw [HL5O.out i (by have:=hi.1; omega),HLL.out i hi.1]; exact hi.2⟩)) (fun i hi=>hi)⟩
    ·rw [hLx i (by omega),HL5O.out i (by omega),HLL.out i hi]
    ·show StM w8 _ g { s with cells:=FF.cells,sent:=s.sent ++ _,outs:=s.outs ++ _ }
     rw [T1'.out,T2'.out]
     exact hax
   refine hK.out _ _ (SAB.past (by kernel_rfl) trivial) (fun hSS=>?_)
   clear hK K hA hB
   have hB:=hSS.2
   have hA : True:=trivial
   (try dsimp only at hB); (try dsimp only at hA); clear hSS
   try simp only [Act.put,List.setIfInBounds_toArray,List.set_cons_zero,List.set_cons_succ]
   refine wpL_done (by kernel_rfl) ?_
   have HFIN:=Lib.hid hfin
   clear hfin
   clear hadd hax hay hLx hb8 hs8 hs7 hs57 hgl7 hk6 hA hB hbg7
   go_wp2_with fail
   go_roundw
   case rel=>exact HFIN.out
   case measure=>simp [intOf]; omega
end Go.Proofs.YtipegaojiokppaaGreatDoor
set_option linter.unusedVariables false
set_option linter.unusedSimpArgs false
set_option maxRecDepth 100000
namespace Go.Proofs.YtipegaojiokppaaGreatDoor
open Go.RowKit Go.Proofs
open Classical in
theorem labs (S : Nat → Prop) (g : Nat) : ∃ L : Nat → Nat,L g = 1 ∧ (∀ i,i ≠ g → (S i → L i = 0) ∧ (¬ S i → L i = 9)) ∧ (∀ i,i ≠ g → L i = 0 ∨ L i = 9):=by
 refine ⟨fun i=>if i = g then 1 else if S i then 0 else 9,by simp,fun i hi=>⟨fun h=>by simp [hi,h],fun h=>by simp [hi,h]⟩,fun i hi=>?_⟩
 by_cases h : S i <;> simp [hi,h]
theorem labs_in {S : Nat → Prop} {g : Nat} {L : Nat → Nat} (hLo : ∀ i,i ≠ g → (S i → L i = 0) ∧ (¬ S i → L i = 9)) {i : Nat} (hi : i ≠ g) (h : L i = 0 ∨ L i = 2 ∨ L i = 3 ∨ L i = 4 ∨ L i = 5) : S i:=
 Classical.byContradiction fun hn=>by have:=(hLo i hi).2 hn; omega
def StV (w : World) (L : Nat → Nat) (cs : List Value) (s : St) : Prop:=
 ∃ (A1 A2 A3 A4 : Option Addr) (n1 c1 c2 c3 c4 : Nat),cs = [.slice A1 n1 c1,.slice A2 s.events.length c2,.slice A3 s.sent.length c3,.slice A4 s.outs.length c4] ∧ Sl encI 1 w (fun i=>i < w.heap.size ∧ (L i = 2 ∨ L i = 0)) A1 n1 c1 s.cells ∧
  Gl w L 3 89 7 A2 s.events.length c2 (s.events.flatMap encEv) ∧ Gl w L 4 92 4 A3 s.sent.length c3 (s.sent.flatMap encSnd) ∧ Gl w L 5 52 2 A4 s.outs.length c4 (s.outs.flatMap encOut)
theorem StV.same {w w' : World} {L L' : Nat → Nat} {cs : List Value} {s : St} {T : Nat → Prop} (h : StV w L cs s) (hs : Same T w w') (hT : ∀ i,i < w.heap.size → (L i = 0 ∨ L i = 2 ∨ L i = 3 ∨ L i = 4 ∨ L i = 5) → T i) (hL : ∀ i,i < w.heap.size → L' i = L i) : StV w' L' cs s:=by
 obtain ⟨A1,A2,A3,A4,n1,c1,c2,c3,c4,e,h2,h3,h4,h5⟩:=h
 exact ⟨A1,A2,A3,A4,n1,c1,c2,c3,c4,e,slL h2 hs (fun i hi h=>hT i hi (by omega)) hL,h3.same hs (fun i hi h=>hT i hi (by omega)) hL,h4.same hs (fun i hi h=>hT i hi (by omega)) hL,h5.same hs (fun i hi h=>hT i hi (by omega)) hL⟩
theorem StV.read {w : World} {L : Nat → Nat} {cs : List Value} {s : St} (h : StV w L cs s) : StR w (fun i=>i < w.heap.size ∧ (L i = 0 ∨ L i = 2 ∨ L i = 3 ∨ L i = 4 ∨ L i = 5)) cs s:=by
 obtain ⟨A1,A2,A3,A4,n1,c1,c2,c3,c4,e,h2,h3,h4,h5⟩:=h
 exact ⟨A1,A2,A3,A4,n1,c1,_,c2,_,c3,_,c4,e,h2.more (fun i hi=>⟨hi.1,by omega⟩),h3.sl.more (fun i hi=>⟨hi.1,by omega⟩),h4.sl.more (fun i hi=>⟨hi.1,by omega⟩),h5.sl.more (fun i hi=>⟨hi.1,by omega⟩)⟩
theorem StM.val {w : World} {L : Nat → Nat} {g : Nat} {s : St} (h : StM w L g s) : ∃ (B1 B2 B3 B4 : Option Addr) (p1 q1 p2 q2 p3 q3 p4 q4 : Nat),Blk w g 50 #[.slice B1 p1 q1,.slice B2 p2 q2,.slice B3 p3 q3,.slice B4 p4 q4] ∧ StV w L [.slice B1 p1 q1,.slice B2 p2 q2,.slice B3 p3 q3,.slice B4 p4 q4] s:=by
 obtain ⟨A1,A2,A3,A4,n1,c1,c2,c3,c4,hb,h1,h2,h3,h4,h5⟩:=h
 exact ⟨A1,A2,A3,A4,n1,c1,_,c2,_,c3,_,c4,hb,A1,A2,A3,A4,n1,c1,c2,c3,c4,rfl,h2,h3,h4,h5⟩
theorem StV.put {w : World} {L : Nat → Nat} {g : Nat} {cs : List Value} {s : St} (h : StV w L cs s) (hb : Blk w g 50 cs.toArray) (hg : L g = 1) : StM w L g s:=by
 obtain ⟨A1,A2,A3,A4,n1,c1,c2,c3,c4,rfl,h2,h3,h4,h5⟩:=h
 exact ⟨A1,A2,A3,A4,n1,c1,c2,c3,c4,hb,hg,h2,h3,h4,h5⟩
theorem StV.len {w : World} {L : Nat → Nat} {cs : List Value} {s : St} (h : StV w L cs s) : ∃ (B1 B2 B3 B4 : Option Addr) (p1 q1 p2 q2 p3 q3 p4 q4 : Nat),cs = [.slice B1 p1 q1,.slice B2 p2 q2,.slice B3 p3 q3,.slice B4 p4 q4]:=by
 obtain ⟨A1,A2,A3,A4,n1,c1,c2,c3,c4,rfl,_⟩:=h
 exact ⟨A1,A2,A3,A4,n1,c1,_,c2,_,c3,_,c4,rfl⟩
def HsPost (S : Nat → Prop) (s : St) (w : World) (e : Ending) (w' : World) : Prop:=∃ (cs : List Value) (L : Nat → Nat),e = .returned (.agg cs.toArray) ∧ StV w' L cs s ∧ (∀ i,i < w.heap.size → (S i → L i = 0) ∧ (¬ S i → L i = 9)) ∧ Keep w w'
theorem HsPost.st {S : Nat → Prop} {s : St} {w w' : World} {e : Ending} (h : HsPost S s w e w') : StPost S s w e w':=by
 obtain ⟨cs,L,h1,h2,h3,h4⟩:=h
 refine ⟨cs,h1,h2.read.more (fun i hi=>?_),h4⟩
 rcases Nat.lt_or_ge i w.heap.size with h | h
 ·exact .inl (Classical.byContradiction fun hn=>by have:=(h3 i h).2 hn; omega)
 ·exact .inr ⟨h,hi.1⟩
set_option maxHeartbeats 16000000 in
theorem hstart_own (w : World) (S : Nat → Prop) (K0 K1 K2 K3 K4 : Option Addr) (y0 z0 y1 z1 y2 z2 y3 z3 y4 z4 : Nat) (c : Cd) (self procs : Int) (hS : ∀ i,S i → i < w.heap.size) (hc : CdR w S [.slice K0 y0 z0,.slice K1 y1 z1,.slice K2 y2 z2,.slice K3 y3 z3,.slice K4 y4 z4] c) :
  Calls Tryz.prog 34 #[.agg #[.slice K0 y0 z0,.slice K1 y1 z1,.slice K2 y2 z2,.slice K3 y3 z3,.slice K4 y4 z4,.int .i64 self,.int .i64 procs]] w (HsPost S (startS c self procs) w):=by
 obtain ⟨A0,A1,A2,A3,A4,m0,c0,m1,c1,m2,c2,m3,c3,m4,c4,e,u0,u1,u2,u3,u4,u5⟩:=hc
 injection e with e0 e
 injection e with e1 e
 injection e0 with e01 e02 e03
 injection e1 with e11 e12 e13
 subst e01 e02 e03 e11 e12 e13
 clear e u2 u3 u4
 generalize hW : ((w.alloc (.cells #[.slice K0 y0 z0,.slice K1 y1 z1,.slice K2 y2 z2,.slice K3 y3 z3,.slice K4 y4 z4,.int .i64 self,.int .i64 procs] 95)).alloc (.cells #[.slice none 0 0,.slice none 0 0,.slice none 0 0,.slice none 0 0] 50)).alloc (.cells #[.slice none 0 0,.slice none 0 0,.slice none 0 0,.slice none 0 0] 50) = W
 have hkW : Keep w W:=hW ▸ Keep.alloc (Keep.alloc (Keep.new w _) _) _
 have hb1 : Blk W w.heap.size 95 #[.slice K0 y0 z0,.slice K1 y1 z1,.slice K2 y2 z2,.slice K3 y3 z3,.slice K4 y4 z4,.int .i64 self,.int .i64 procs]:=hW ▸ ((Blk.new w _ _).alloc _).alloc _
 have hb2 : Blk W (w.heap.size + 1) 50 #[.slice none 0 0,.slice none 0 0,.slice none 0 0,.slice none 0 0]:=hW ▸ blkM w _ _ _ _
 have hb3 : Blk W (w.heap.size + 2) 50 #[.slice none 0 0,.slice none 0 0,.slice none 0 0,.slice none 0 0]:=hW ▸ blkL w _ _ _ _
 have hz : w.heap.size + 2 < W.heap.size:=hb3.lt
 have hsW:=Same.mono hkW hS
 have e0 : W.cell? ⟨w.heap.size,0,none⟩ = some (.slice K0 y0 z0):=by rw [hb1.cell]; rfl
 have e1 : W.cell? ⟨w.heap.size,1,none⟩ = some (.slice K1 y1 z1):=by rw [hb1.cell]; rfl
 have e5 : W.cell? ⟨w.heap.size,5,none⟩ = some (.int .i64 self):=by rw [hb1.cell]; rfl
 obtain ⟨L,hLg,hLo,hLi⟩:=labs S (w.heap.size + 2)
 have hst : StM W L (w.heap.size + 2) ⟨[],[],[],[]⟩:=⟨none,none,none,none,0,0,0,0,0,hb3,hLg,Sl.nil_,Gl.nil_,Gl.nil_,Gl.nil_⟩
 have key:=hrun_any W L (w.heap.size + 2) ⟨[],[],[],[]⟩ S K0 K1 K2 K3 K4 K1 K0 y0 z0 y1 z1 y2 z2 y3 z3 y4 z4 y1 z1 y0 z0 self procs self 0 0 c.start c.init hst (fun i hi=>⟨by have:=hS i hi; omega,(hLo i (by have:=hS i hi; omega)).1 hi⟩) (u1.keep hsW (StmR.keep hsW _)) ((u0.keep hsW).more (fun i hi=>by have:=hS i hi; omega)) u5 (by simp) (by simp)
 have hrun : runS ⟨self,procs,self,0⟩ c.start c.init 0 ⟨[],[],[],[]⟩ = startS c self procs:=rfl
 rw [hrun] at key
 have HS:=Lib.hid hS
 have KEY:=Lib.hid key
 have HKW:=Lib.hid hkW
 have HB1:=Lib.hid hb1
 have HB2:=Lib.hid hb2
 have HLO:=Lib.hid hLo
 have HLI:=Lib.hid hLi
 clear hS key hkW hb1 hb2 hLo hLi
 clear hb3 hst u0 u1 u5 hsW hrun
 go_enter Tryz.func34,Tryz.ntmps34
 go_wp2_with (refine wpList_load_all rfl _ (.tmp 1) rfl w.heap.size 95 [.slice K0 y0 z0,.slice K1 y1 z1,.slice K2 y2 z2,.slice K3 y3 z3,.slice K4 y4 z4,.int .i64 self,.int .i64 procs] _ rfl HB1.out Tryz.underlying95 rfl (by kernel_rfl) ?_)
 clear hW
 refine KEY.out.mono ?_
 rintro e w1 ⟨rfl,L',hL',hst1,hs1⟩
 obtain ⟨B1,B2,B3,B4,p1,q1,p2,q2,p3,q3,p4,q4,hbs,hr⟩:=hst1.val
 have hz1:=hs1.size
 have hbr:=hs1.blk HB2.out ⟨by omega,by have:=HLI.out (w.heap.size + 1) (by omega); omega⟩
 have HBS:=Lib.hid hbs
 have HR:=Lib.hid hr
 have HS1:=Lib.hid hs1
 have HBR:=Lib.hid hbr
 have HL':=Lib.hid hL'
 clear hbs hr hs1 hbr hL'
 clear e0 e1 e5 hst1
 go_wp2_with (first
  | (refine wpList_load_all rfl _ (.tmp 3) rfl (w.heap.size + 2) 50 [.slice B1 p1 q1,.slice B2 p2 q2,.slice B3 p3 q3,.slice B4 p4 q4] _ rfl HBS.out Tryz.underlying50 rfl (by kernel_rfl) ?_)
  | (refine wpList_store_all rfl _ (.tmp 2) (.tmp 14) rfl (w.heap.size + 1) 50 _ [.slice B1 p1 q1,.slice B2 p2 q2,.slice B3 p3 q3,.slice B4 p4 q4] rfl rfl HBR.out rfl (by kernel_rfl) rfl ?_; intro wz hbq hwq; have HBQ:=Lib.hid hbq; have HWQ:=Lib.hid hwq; clear hbq hwq))
 refine bodyPost_ret (results_cell1 Tryz.results34 _ _ _ ⟨w.heap.size + 1,0,none⟩ _ rfl (load_st rfl HBQ.out)) rfl ?_
 have hzq:=HWQ.out.size
 have hL9 : L' (w.heap.size + 1) = 9:=by
  rw [HL'.out _ (by omega)]
  exact (HLO.out _ (by omega)).2 (fun h=>by have:=HS.out _ h; omega)
 refine ⟨_,L',rfl,HR.out.same HWQ.out (fun i hi h e=>by rw [e,hL9] at h; omega) (fun _ _=>rfl),fun i hi=>?_,Keep.write (Same.trans HKW.out HS1.out (fun i hi=>⟨by omega,by have:=HLI.out i (by omega); omega⟩)) HWQ.out (by omega)⟩
 rw [HL'.out i (by omega)]
 exact HLO.out i (by omega)
theorem hstart_any (w : World) (S : Nat → Prop) (K0 K1 K2 K3 K4 : Option Addr) (y0 z0 y1 z1 y2 z2 y3 z3 y4 z4 : Nat) (c : Cd) (self procs : Int) (hS : ∀ i,S i → i < w.heap.size) (hc : CdR w S [.slice K0 y0 z0,.slice K1 y1 z1,.slice K2 y2 z2,.slice K3 y3 z3,.slice K4 y4 z4] c) :
  Calls Tryz.prog 34 #[.agg #[.slice K0 y0 z0,.slice K1 y1 z1,.slice K2 y2 z2,.slice K3 y3 z3,.slice K4 y4 z4,.int .i64 self,.int .i64 procs]] w (StPost S (startS c self procs) w):=
 (hstart_own w S K0 K1 K2 K3 K4 y0 z0 y1 z1 y2 z2 y3 z3 y4 z4 c self procs hS hc).mono (fun _ _ h=>h.st)
end Go.Proofs.YtipegaojiokppaaGreatDoor
set_option linter.unusedVariables false
set_option linter.unusedSimpArgs false
set_option maxRecDepth 100000
namespace Go.Proofs.YtipegaojiokppaaGreatDoor
open Go.RowKit Go.Proofs
theorem StM.addEvent {w w6 w7 w8 : World} {L : Nat → Nat} {g : Nat} {s : St} {A1 A3 A4 : Option Addr} {n1 c1 c3 c4 : Nat} {A' : Option Addr} {c' : Nat} (x : Ev) (hg : L g = 1) (hgl : g < w.heap.size)
  (h2 : Sl encI 1 w (fun i=>i < w.heap.size ∧ (L i = 2 ∨ L i = 0)) A1 n1 c1 s.cells) (h4 : Gl w L 4 92 4 A3 s.sent.length c3 (s.sent.flatMap encSnd)) (h5 : Gl w L 5 52 2 A4 s.outs.length c4 (s.outs.flatMap encOut))
  (hk : Keep w w6) (hs7 : Same (fun k=>k < w6.heap.size ∧ L k ≠ 3) w6 w7) (h3 : Gl w7 (ext L w6.heap.size (fun _=>3)) 3 89 7 A' (s.events.length + 1) c' (s.events.flatMap encEv ++ encEv x))
  (hs8 : Same (· ≠ g) w7 w8) (hb8 : Blk w8 g 50 #[.slice A1 n1 c1,.slice A' (s.events.length + 1) c',.slice A3 s.sent.length c3,.slice A4 s.outs.length c4]) :
  StM w8 (ext L w6.heap.size (fun _=>3)) g { s with events:=s.events ++ [x] } ∧ Same (Frm w L) w w8:=by
 have z6:=hk.size
 have z7:=hs7.size
 have z8:=hs8.size
 have hL : ∀ i,i < w.heap.size → ext L w6.heap.size (fun _=>3) i = L i:=fun i hi=>ext_old (by omega)
 have hs : Same (fun i=>i < w.heap.size ∧ L i ≠ 3 ∧ i ≠ g) w w8:=Same.trans (Same.mono hk (fun i hi=>hi.1)) (Same.trans (hs7.mono (T:=fun i=>i < w.heap.size ∧ L i ≠ 3 ∧ i ≠ g) (fun i hi=>⟨by omega,hi.2.1⟩)) hs8 (fun i hi=>hi.2.2)) (fun i hi=>hi)
 have hng : ∀ i,L i ≠ 1 → i ≠ g:=fun i hi e=>hi (by rw [e]; exact hg)
 refine ⟨⟨A1,A',A3,A4,n1,c1,c',c3,c4,by simpa using hb8,by rw [hL g hgl]; exact hg,slL h2 hs (fun i hi h=>⟨hi,by omega,hng i (by omega)⟩) hL,?_,h4.same hs (fun i hi h=>⟨hi,by omega,hng i (by omega)⟩) hL,h5.same hs (fun i hi h=>⟨hi,by omega,hng i (by omega)⟩) hL⟩,hs.mono (fun i hi=>⟨hi.1,by have:=hi.2; omega,hng i (by have:=hi.2; omega)⟩)⟩
 have hg7 : ext L w6.heap.size (fun _=>3) g = 1:=by rw [hL g hgl]; exact hg
 have:=h3.same (L':=ext L w6.heap.size (fun _=>3)) hs8 (fun i hi h e=>by rw [e,hg7] at h; omega) (fun i hi=>rfl)
 simpa using this
theorem HrPost.from_ {L L3 : Nat → Nat} {g : Nat} {s : St} {w w3 w' : World} {e : Ending} (h : HrPost L3 g s w3 e w') (hL : ∀ i,i < w.heap.size → L3 i = L i) (hs : Same (Frm w L) w w3) : HrPost L g s w e w':=by
 obtain ⟨h1,L',h2,h3,h4⟩:=h
 have z:=hs.size
 exact ⟨h1,L',fun i hi=>by rw [h2 i (by omega),hL i hi],h3,Same.trans hs h4 (fun i hi=>⟨by have:=hi.1; omega,by rw [hL i hi.1]; exact hi.2⟩)⟩
set_option maxHeartbeats 16000000 in
theorem hnext_any (w : World) (L : Nat → Nat) (g : Nat) (s : St) (S : Nat → Prop) (K0 K1 K2 K3 K4 : Option Addr) (y0 z0 y1 z1 y2 z2 y3 z3 y4 z4 : Nat) (c : Cd) (self procs : Int) (x : Ev) (hst : StM w L g s) (hS : ∀ i,S i → i < w.heap.size ∧ L i = 0) (hc : CdR w S [.slice K0 y0 z0,.slice K1 y1 z1,.slice K2 y2 z2,.slice K3 y3 z3,.slice K4 y4 z4] c) (h1 : s.cells.length ≤ 1000000) (h2 : s.sent.length ≤ 1000000) (h3 : s.outs.length ≤ 1000000) (h4 : s.events.length ≤ 1000000) :
  Calls Tryz.prog 35 #[.agg #[.slice K0 y0 z0,.slice K1 y1 z1,.slice K2 y2 z2,.slice K3 y3 z3,.slice K4 y4 z4,.int .i64 self,.int .i64 procs],.pointer (some ⟨g,0,none⟩),.agg (encEv x).toArray] w (HrPost L g (nextS c self procs s x) w):=by
 obtain ⟨A0,A1,A2,A3,A4,m0,c0,m1,c1,m2,c2,m3,c3,m4,c4,e,-,-,u2,u3,u4,-⟩:=hc
 injection e with e0 e
 injection e with e1 e
 injection e with e2 e
 injection e with e3 e
 injection e with e4 e
 injection e2 with e21 e22 e23
 injection e3 with e31 e32 e33
 injection e4 with e41 e42 e43
 subst e21 e22 e23 e31 e32 e33 e41 e42 e43
 clear e e0 e1
 obtain ⟨i0,hi0,iz0,iz1,iz2⟩:=info_of info_Event
 obtain ⟨hgl,hLg⟩:=hst.lt
 show Calls Tryz.prog 35 #[.agg #[.slice K0 y0 z0,.slice K1 y1 z1,.slice K2 y2 z2,.slice K3 y3 z3,.slice K4 y4 z4,.int .i64 self,.int .i64 procs],.pointer (some ⟨g,0,none⟩),.agg #[.int .i64 x.kind,.int .i64 x.inc,.int .i64 x.frm,.int .i64 x.sInc,.int .i64 x.sIdx,.int .i64 x.ord,.int .i64 x.val]] w _
 generalize hW : (w.alloc (.cells #[.slice K0 y0 z0,.slice K1 y1 z1,.slice K2 y2 z2,.slice K3 y3 z3,.slice K4 y4 z4,.int .i64 self,.int .i64 procs] 95)).alloc (.cells #[.int .i64 x.kind,.int .i64 x.inc,.int .i64 x.frm,.int .i64 x.sInc,.int .i64 x.sIdx,.int .i64 x.ord,.int .i64 x.val] 89) = W
 have hkW : Keep w W:=hW ▸ Keep.alloc (Keep.new w _) _
 have hb3 : Blk W w.heap.size 95 #[.slice K0 y0 z0,.slice K1 y1 z1,.slice K2 y2 z2,.slice K3 y3 z3,.slice K4 y4 z4,.int .i64 self,.int .i64 procs]:=hW ▸ (Blk.new w _ _).alloc _
 have hb5 : Blk W (w.heap.size + 1) 89 #[.int .i64 x.kind,.int .i64 x.inc,.int .i64 x.frm,.int .i64 x.sInc,.int .i64 x.sIdx,.int .i64 x.ord,.int .i64 x.val]:=hW ▸ (by simpa using Blk.new (w.alloc _) _ _)
 have hz : w.heap.size + 1 < W.heap.size:=hb5.lt
 obtain ⟨L1,hL1⟩ : ∃ L1 : Nat → Nat,L1 = ext L w.heap.size (fun _=>9):=⟨_,rfl⟩
 have hL1o : ∀ i,i < w.heap.size → L1 i = L i:=fun i hi=>by rw [hL1]; exact ext_old hi
 have hL1n : ∀ i,w.heap.size ≤ i → L1 i = 9:=fun i hi=>by rw [hL1]; exact ext_new hi
 have hstW:=hst.keep (L':=L1) hkW hL1o
 obtain ⟨D1,D2,D3,D4,p1,q1,q2,q3,q4,hbg,hg1,r2,r3,r4,r5⟩:=hstW
 have hgW:=hbg.lt
 have g1 : ∀ wx,Same (fun i=>i = g ∨ i = w.heap.size + 1) W wx → wx.cell? ⟨g,1,none⟩ = some (.slice D2 s.events.length q2):=fun wx hx=>(hx.cell (p:=⟨g,1,none⟩) (.inl rfl)).trans (by rw [hbg.cell]; rfl)
 have hmc : s.events.length ≤ q2 ∧ q2 ≤ 9223372036854775807:=⟨r3.1,r3.2.1⟩
 have HS:=Lib.hid hS
 have HKW:=Lib.hid hkW
 have HB3:=Lib.hid hb3
 have HB5:=Lib.hid hb5
 have HL1O:=Lib.hid hL1o
 have HL1N:=Lib.hid hL1n
 have HI0:=Lib.hid hi0
 have IZ0:=Lib.hid iz0
 have IZ1:=Lib.hid iz1
 have IZ2:=Lib.hid iz2
 have R2:=Lib.hid r2
 have R3:=Lib.hid r3
 have R4:=Lib.hid r4
 have R5:=Lib.hid r5
 have HBG:=Lib.hid hbg
 have U2:=Lib.hid u2
 have U3:=Lib.hid u3
 have U4:=Lib.hid u4
 clear hS hkW hb3 hb5 hL1o hL1n hi0 iz0 iz1 iz2 r2 r3 r4 r5 hbg u2 u3 u4
 clear hst hL1
 go_enter Tryz.func35,Tryz.ntmps35
 go_upto_region 1 with fail
 clear hW
 refine wp_region_L 10 (fun wx=>Same (fun i=>i = g ∨ i = w.heap.size + 1) W wx) (fun _=>True) (by kernel_rfl) (Same.drew (Same.refl _ _)) trivial (fun hA hB=>?_)
 refine wpL_takeA (i:=0) (v:=?_) rfl (by kernel_rfl) (by kernel_rfl) (by kernel_rfl) (by kernel_rfl) (by decide) (fun _ _ _ h=>h) (Or.inl ⟨by rfl,?_⟩) hA hB ?_
 rotate_left
 ·rintro wx ⟨hAx,hBx⟩
  (try dsimp only at hBx); (try dsimp only at hAx)
  go_simp
  try with_reducible rfl
 try simp only [Act.put,List.setIfInBounds_toArray,List.set_cons_zero,List.set_cons_succ]
 refine wpL_takeA (i:=1) (v:=?_) rfl (by kernel_rfl) (by kernel_rfl) (by kernel_rfl) (by kernel_rfl) (by decide) (fun _ _ _ h=>h) (Or.inl ⟨by rfl,?_⟩) hA hB ?_
 rotate_left
 ·rintro wx ⟨hAx,hBx⟩
  (try dsimp only at hBx); (try dsimp only at hAx)
  go_simp
  try with_reducible rfl
 try simp only [Act.put,List.setIfInBounds_toArray,List.set_cons_zero,List.set_cons_succ]
 refine wpL_takeA (i:=2) (v:=?_) rfl (by kernel_rfl) (by kernel_rfl) (by kernel_rfl) (by kernel_rfl) (by decide) (fun _ _ _ h=>h) (Or.inl ⟨by rfl,?_⟩) hA hB ?_
 rotate_left
 ·rintro wx ⟨hAx,hBx⟩
  (try dsimp only at hBx); (try dsimp only at hAx)
  go_simp
  try with_reducible rfl
 try simp only [Act.put,List.setIfInBounds_toArray,List.set_cons_zero,List.set_cons_succ]
 refine wpL_takeA (i:=3) (v:=?_) rfl (by kernel_rfl) (by kernel_rfl) (by kernel_rfl) (by kernel_rfl) (by decide) (fun _ _ _ h=>h) (Or.inl ⟨by rfl,?_⟩) hA hB ?_
 rotate_left
 ·rintro wx ⟨hAx,hBx⟩
  (try dsimp only at hBx); (try dsimp only at hAx)
  go_simp
  try with_reducible rfl
 try simp only [Act.put,List.setIfInBounds_toArray,List.set_cons_zero,List.set_cons_succ]
 refine wpL_takeA (i:=4) (v:=?_) rfl (by kernel_rfl) (by kernel_rfl) (by kernel_rfl) (by kernel_rfl) (by decide) (fun _ _ _ h=>h) (Or.inl ⟨by rfl,?_⟩) hA hB ?_
 rotate_left
 ·rintro wx ⟨hAx,hBx⟩
  (try dsimp only at hBx); (try dsimp only at hAx)
  go_simp
  try with_reducible rfl
 try simp only [Act.put,List.setIfInBounds_toArray,List.set_cons_zero,List.set_cons_succ]
 refine wpL_takeA (i:=5) rfl (by kernel_rfl) (by kernel_rfl) (by kernel_rfl) (by kernel_rfl) (by decide) (fun _ _ _ h=>h) (yieldsIf_blk (by rfl) _ _ rfl (w.heap.size + 1) 0 89 _ [.int .i64 x.kind,.int .i64 x.inc,.int .i64 x.frm,.int .i64 x.sInc,.int .i64 x.sIdx,.int .i64 x.ord,.int .i64 x.val] _ rfl (fun wx hx=>hx.1.blk HB5.out (.inr rfl)) (fun j u hu=>by simpa using hu) Tryz.underlying89 rfl (by kernel_rfl)) hA hB ?_
 try simp only [Act.put,List.setIfInBounds_toArray,List.set_cons_zero,List.set_cons_succ]
 clear g1
 refine wpL_one (i:=6) (by kernel_rfl) (StepL.mk rfl (fun K hK=>?_))
 refine step_buildS rfl _ _ _ _ rfl Tryz.underlying46 _ [(0,.agg #[.int .i64 x.kind,.int .i64 x.inc,.int .i64 x.frm,.int .i64 x.sInc,.int .i64 x.sIdx,.int .i64 x.ord,.int .i64 x.val])] rfl (built_ev _ _ _ _ _ _ _) ?_
 have hk6 : Keep W (W.drew.alloc (.cells #[.int .i64 x.kind,.int .i64 x.inc,.int .i64 x.frm,.int .i64 x.sInc,.int .i64 x.sIdx,.int .i64 x.ord,.int .i64 x.val] 89)):=Keep.alloc (Same.drew (Same.refl _ _)) _
 refine hK.out _ _ (SAB.both (hk6.mono (fun i hi=>by omega)) trivial) (fun hSS=>?_)
 clear hK K hA hB
 have hB:=hSS.2
 have hA:=hSS.1 (by kernel_rfl)
 (try dsimp only at hB); (try dsimp only at hA); clear hSS
 try simp only [Act.put,List.setIfInBounds_toArray,List.set_cons_zero,List.set_cons_succ]
 refine wpL_one (i:=7) (by kernel_rfl) (StepL.mk rfl (fun K hK=>?_))
 refine step_append_gl (by rfl) (.tmp 11) (.tmp 13) _ (by rfl) i0 _ 56 Tryz.underlying46 HI0.out IZ0.out IZ1.out IZ2.out rfl (by omega) (by rfl) (R3.out.same (L':=L1) hk6 (fun i hi _=>hi) (fun _ _=>rfl)) _ (some ⟨W.heap.size,0,none⟩) 1 1 (encEv x) (by rfl) (Reads.new (w:=W.drew) rfl) (encEv_one _) (by omega) (by simp [maxLen]; omega) (by omega) ?_
 intro A7 c7 w7 hgl7 hs7
 have hz6:=hk6.size
 have hs57 : Same (fun i=>i < W.heap.size ∧ L1 i ≠ 3) W w7:=Same.trans (Same.mono hk6 (fun i hi=>hi.1)) hs7 (fun i hi=>⟨by omega,hi.2⟩)
 refine hK.out _ _ (SAB.both (hs57.mono (fun i hi=>hi.elim (fun h=>by subst h; exact ⟨hgW,by omega⟩) (fun h=>by subst h; exact ⟨hz,by rw [HL1N.out _ (by omega)]; omega⟩))) trivial) (fun hSS=>?_)
 clear hK K hA hB
 have hB:=hSS.2
 have hA:=hSS.1 (by kernel_rfl)
 (try dsimp only at hB); (try dsimp only at hA); clear hSS
 try simp only [Act.put,List.setIfInBounds_toArray,List.set_cons_zero,List.set_cons_succ]
 refine wpL_takeB (i:=8) (v:=?_) rfl (by kernel_rfl) (by kernel_rfl) (by kernel_rfl) (by decide) (fun _ _ _ h=>h) (Or.inl ⟨by rfl,?_⟩) (SAB.both hA hB) ?_
 rotate_left
 ·intro wx hBx
  (try dsimp only at hBx)
  go_simp
  try with_reducible rfl
 try simp only [Act.put,List.setIfInBounds_toArray,List.set_cons_zero,List.set_cons_succ]
 refine wpL_takeB (i:=9) (v:=?_) rfl (by kernel_rfl) (by kernel_rfl) (by kernel_rfl) (by decide) (fun _ _ _ h=>h) (Or.inl ⟨by rfl,?_⟩) (SAB.both hA hB) ?_
 rotate_left
 ·intro wx hBx
  (try dsimp only at hBx)
  go_simp
  try with_reducible rfl
 try simp only [Act.put,List.setIfInBounds_toArray,List.set_cons_zero,List.set_cons_succ]
 have hbg7:=hs57.blk HBG.out ⟨hgW,by omega⟩
 refine wpL_one (i:=10) (by kernel_rfl) (StepL.mk rfl (fun K hK=>?_))
 refine step_store_one rfl _ _ _ rfl g 1 50 _ (.slice A7 (s.events.length + 1) c7) rfl rfl hbg7 (by simp) (by kernel_rfl) rfl rfl ?_
 intro w8 hb8 hs8
 have hadd:=StM.addEvent x hg1 hgW R2.out R4.out R5.out hk6 hs7 hgl7 hs8 (by simpa using hb8)
 obtain ⟨L3,hL3,hst3,hs3⟩ : ∃ Lx : Nat → Nat,(∀ i,i < W.heap.size → Lx i = L1 i) ∧ StM w8 Lx g _ ∧ Same (Frm W L1) W w8:=⟨_,fun i hi=>ext_old (by omega),hadd.1,hadd.2⟩
 refine hK.out _ _ (SAB.past (by kernel_rfl) trivial) (fun hSS=>?_)
 clear hK K hA hB
 have hB:=hSS.2
 have hA : True:=trivial
 (try dsimp only at hB); (try dsimp only at hA); clear hSS
 try simp only [Act.put,List.setIfInBounds_toArray,List.set_cons_zero,List.set_cons_succ]
 refine wpL_done (by kernel_rfl) ?_
 have hz83:=hs3.size
 have hL3o : ∀ i,i < w.heap.size → L3 i = L i:=fun i hi=>by rw [hL3 i (by omega),HL1O.out i hi]
 have hsw : Same (Frm w L) w w8:=Same.trans (Same.mono HKW.out (fun i (hi : Frm w L i)=>hi.1)) hs3 (fun i hi=>⟨by have:=hi.1; omega,by rw [HL1O.out i hi.1]; exact hi.2⟩)
 have hsS : Same S w w8:=hsw.mono (fun i hi=>⟨(HS.out i hi).1,.inl (HS.out i hi).2⟩)
 have hb38:=hs3.blk HB3.out ⟨by omega,by rw [HL1N.out _ (by omega)]; omega⟩
 have hb58:=hs3.blk HB5.out ⟨by omega,by rw [HL1N.out _ (by omega)]; omega⟩
 clear hadd hb8 hs8 hs7 hs57 hgl7 hk6 hA hB hbg7 HBG R2 R3 R4 R5
 have hst3':=hst3
 obtain ⟨D1,D2,D3,D4,p1,q1,q2,q3,q4,hbg,hg1,r2,r3,r4,r5⟩:=hst3'
 have hgl8:=hbg.lt
 have r2' : Sl encI 1 w8 (fun i=>i < w8.heap.size) D1 p1 q1 s.cells:=Sl.more r2 (fun i hi=>hi.1)
 have hmc3 : s.events.length + 1 ≤ q2 ∧ q2 ≤ 9223372036854775807:=⟨by have:=r3.1; simpa using this,r3.2.1⟩
 have f1 : w8.cell? ⟨g,1,none⟩ = some (.slice D2 (s.events.length + 1) q2):=by rw [hbg.cell]; simp
 have f5 : w8.cell? ⟨w.heap.size + 1,0,none⟩ = some (.int .i64 x.kind):=by rw [hb58.cell]; rfl
 have c0 : ∀ wx,Keep w8 wx → wx.cell? ⟨g,0,none⟩ = some (.slice D1 p1 q1):=fun wx hx=>(hx.cell (p:=⟨g,0,none⟩) hgl8).trans (by rw [hbg.cell]; rfl)
 have cF : ∀ wx,Keep w8 wx → wx.cell? ⟨w.heap.size + 1,2,none⟩ = some (.int .i64 x.frm):=fun wx hx=>(hx.cell (p:=⟨w.heap.size + 1,2,none⟩) hb58.lt).trans (by rw [hb58.cell]; rfl)
 have cV : ∀ wx,Keep w8 wx → wx.cell? ⟨w.heap.size + 1,6,none⟩ = some (.int .i64 x.val):=fun wx hx=>(hx.cell (p:=⟨w.heap.size + 1,6,none⟩) hb58.lt).trans (by rw [hb58.cell]; rfl)
 have cS : ∀ wx,Keep w8 wx → wx.cell? ⟨w.heap.size,5,none⟩ = some (.int .i64 self):=fun wx hx=>(hx.cell (p:=⟨w.heap.size,5,none⟩) hb38.lt).trans (by rw [hb38.cell]; rfl)
 have c2 : ∀ wx,Keep w8 wx → wx.cell? ⟨w.heap.size,2,none⟩ = some (.slice K2 y2 z2):=fun wx hx=>(hx.cell (p:=⟨w.heap.size,2,none⟩) hb38.lt).trans (by rw [hb38.cell]; rfl)
 have c3 : ∀ wx,Keep w8 wx → wx.cell? ⟨w.heap.size,3,none⟩ = some (.slice K3 y3 z3):=fun wx hx=>(hx.cell (p:=⟨w.heap.size,3,none⟩) hb38.lt).trans (by rw [hb38.cell]; rfl)
 have c4 : ∀ wx,Keep w8 wx → wx.cell? ⟨w.heap.size,4,none⟩ = some (.slice K4 y4 z4):=fun wx hx=>(hx.cell (p:=⟨w.heap.size,4,none⟩) hb38.lt).trans (by rw [hb38.cell]; rfl)
 have hbk : ∀ wx,Keep w8 wx → Blk wx w.heap.size 95 #[.slice K0 y0 z0,.slice K1 y1 z1,.slice K2 y2 z2,.slice K3 y3 z3,.slice K4 y4 z4,.int .i64 self,.int .i64 procs]:=fun wx hx=>hx.blk hb38 hb38.lt
 have key : ∀ (wx : World) (A : Option Addr) (m c : Nat) (body : List Stm) (frm : Int),Keep w8 wx → SlR w S 18 (StmR w S 3) A m c body → Calls Tryz.prog 51 #[.agg #[.slice K0 y0 z0,.slice K1 y1 z1,.slice K2 y2 z2,.slice K3 y3 z3,.slice K4 y4 z4,.int .i64 self,.int .i64 procs],.pointer (some ⟨g,0,none⟩),.slice A m c,.slice D1 p1 q1,.int .i64 frm,.int .i64 x.val,.int .i64 ((s.events.length : Int) + 1)] wx (HrPost L g (runS ⟨self,procs,frm,x.val⟩ body s.cells ((s.events.length : Int) + 1) { s with events:=s.events ++ [x] }) w):=fun wx A m c body frm hx hb=>by
  have hsx : Same S w wx:=Same.trans hsS hx (fun i hi=>by have:=(HS.out i hi).1; omega)
  refine (hrun_any wx L3 g { s with events:=s.events ++ [x] } S K0 K1 K2 K3 K4 A D1 y0 z0 y1 z1 y2 z2 y3 z3 y4 z4 m c p1 q1 self procs frm x.val ((s.events.length : Int) + 1) body s.cells (hst3.keep hx (fun _ _=>rfl)) (fun i hi=>⟨by have:=(HS.out i hi).1; have:=hx.size; omega,by rw [hL3o i (HS.out i hi).1]; exact (HS.out i hi).2⟩) (hb.keep hsx (StmR.keep hsx _)) ((r2'.keep hx).more (fun i hi=>Nat.lt_of_lt_of_le hi hx.size)) h1 h2 h3).mono ?_
  intro e w' h
  exact HrPost.from_ h hL3o (Same.trans hsw hx (fun i hi=>by have:=hi.1; omega))
 have hnx : nextS c self procs s x = if x.kind = 1 then runS ⟨self,procs,x.frm,x.val⟩ c.message s.cells ((s.events.length : Int) + 1) { s with events:=s.events ++ [x] } else if x.kind = 2 then runS ⟨self,procs,self,x.val⟩ c.tick s.cells ((s.events.length : Int) + 1) { s with events:=s.events ++ [x] } else if x.kind = 3 then runS ⟨self,procs,self,x.val⟩ c.input s.cells ((s.events.length : Int) + 1) { s with events:=s.events ++ [x] } else { s with events:=s.events ++ [x] }:=rfl
 have hend : HrPost L g { s with events:=s.events ++ [x] } w (.returned (.tuple #[])) w8:=⟨rfl,L3,hL3o,hst3,hsw⟩
 clear hb38 hb58 hsS hsw hst3 hL3 hL3o hs3 hg1 r2 r2' r3 r4 r5 hbg
 have KEY:=Lib.hid key
 have HNX:=Lib.hid hnx
 have HEND:=Lib.hid hend
 have C0:=Lib.hid c0
 have CF:=Lib.hid cF
 have CV:=Lib.hid cV
 have CS:=Lib.hid cS
 have C2:=Lib.hid c2
 have C3:=Lib.hid c3
 have C4:=Lib.hid c4
 have HBK:=Lib.hid hbk
 clear key hnx hend c0 cF cV cS c2 c3 c4 hbk
 by_cases hk1 : x.kind = 1
 ·have kb : (x.kind == 1) = true:=by simpa using hk1
  have hq:=HNX.out
  rw [if_pos hk1] at hq
  have hcall:=fun wx (hx : Keep w8 wx)=>KEY.out wx K2 y2 z2 c.message x.frm hx U2.out
  rw [← hq] at hcall
  have HCALL:=Lib.hid hcall
  clear hcall
  clear hq
  as_aux_lemma=>
  go_upto_region 5 with fail
  have c0:=C0.out
  have cV:=CV.out
  have cF:=CF.out
  have c2:=C2.out
  clear f1 f5
  refine wp_region_L 14 (fun wx=>Keep w8 wx) (fun _=>True) (by kernel_rfl) (Same.drew (Same.refl _ _)) trivial (fun hA hB=>?_)
  refine wpL_takeA (i:=0) rfl (by kernel_rfl) (by kernel_rfl) (by kernel_rfl) (by kernel_rfl) (by decide) (fun _ _ _ h=>h) (yieldsIf_blk (by rfl) _ _ rfl w.heap.size 0 95 _ [.slice K0 y0 z0,.slice K1 y1 z1,.slice K2 y2 z2,.slice K3 y3 z3,.slice K4 y4 z4,.int .i64 self,.int .i64 procs] _ rfl (fun wx hx=>HBK.out wx hx.1) (fun j u hu=>by simpa using hu) Tryz.underlying95 rfl (by kernel_rfl)) hA hB ?_
  try simp only [Act.put,List.setIfInBounds_toArray,List.set_cons_zero,List.set_cons_succ]
  refine wpL_takeA (i:=1) (v:=?_) rfl (by kernel_rfl) (by kernel_rfl) (by kernel_rfl) (by kernel_rfl) (by decide) (fun _ _ _ h=>h) (Or.inl ⟨by rfl,?_⟩) hA hB ?_
  rotate_left
  ·rintro wx ⟨hAx,hBx⟩
   (try dsimp only at hBx); (try dsimp only at hAx)
   go_simp
   try with_reducible rfl
  try simp only [Act.put,List.setIfInBounds_toArray,List.set_cons_zero,List.set_cons_succ]
  refine wpL_takeB (i:=2) (v:=?_) rfl (by kernel_rfl) (by kernel_rfl) (by kernel_rfl) (by decide) (fun _ _ _ h=>h) (Or.inl ⟨by rfl,?_⟩) (SAB.both hA hB) ?_
  rotate_left
  ·intro wx hBx
   (try dsimp only at hBx)
   go_simp
   try with_reducible rfl
  try simp only [Act.put,List.setIfInBounds_toArray,List.set_cons_zero,List.set_cons_succ]
  refine wpL_takeB (i:=3) (v:=?_) rfl (by kernel_rfl) (by kernel_rfl) (by kernel_rfl) (by decide) (fun _ _ _ h=>h) (Or.inl ⟨by rfl,?_⟩) (SAB.both hA hB) ?_
  rotate_left
  ·intro wx hBx
   (try dsimp only at hBx)
   go_simp
   try with_reducible rfl
  try simp only [Act.put,List.setIfInBounds_toArray,List.set_cons_zero,List.set_cons_succ]
  refine wpL_takeA (i:=4) (v:=?_) rfl (by kernel_rfl) (by kernel_rfl) (by kernel_rfl) (by kernel_rfl) (by decide) (fun _ _ _ h=>h) (Or.inl ⟨by rfl,?_⟩) hA hB ?_
  rotate_left
  ·rintro wx ⟨hAx,hBx⟩
   (try dsimp only at hBx); (try dsimp only at hAx)
   go_simp
   try with_reducible rfl
  try simp only [Act.put,List.setIfInBounds_toArray,List.set_cons_zero,List.set_cons_succ]
  refine wpL_takeB (i:=5) (v:=?_) rfl (by kernel_rfl) (by kernel_rfl) (by kernel_rfl) (by decide) (fun _ _ _ h=>h) (Or.inl ⟨by rfl,?_⟩) (SAB.both hA hB) ?_
  rotate_left
  ·intro wx hBx
   (try dsimp only at hBx)
   go_simp
   try with_reducible rfl
  try simp only [Act.put,List.setIfInBounds_toArray,List.set_cons_zero,List.set_cons_succ]
  refine wpL_takeB (i:=6) (v:=?_) rfl (by kernel_rfl) (by kernel_rfl) (by kernel_rfl) (by decide) (fun _ _ _ h=>h) (Or.inl ⟨by rfl,?_⟩) (SAB.both hA hB) ?_
  rotate_left
  ·intro wx hBx
   (try dsimp only at hBx)
   go_simp
   try with_reducible rfl
  try simp only [Act.put,List.setIfInBounds_toArray,List.set_cons_zero,List.set_cons_succ]
  refine wpL_takeB (i:=7) (v:=?_) rfl (by kernel_rfl) (by kernel_rfl) (by kernel_rfl) (by decide) (fun _ _ _ h=>h) (Or.inl ⟨by rfl,?_⟩) (SAB.both hA hB) ?_
  rotate_left
  ·intro wx hBx
   (try dsimp only at hBx)
   go_simp
   try with_reducible rfl
  try simp only [Act.put,List.setIfInBounds_toArray,List.set_cons_zero,List.set_cons_succ]
  refine wpL_takeA (i:=8) (v:=?_) rfl (by kernel_rfl) (by kernel_rfl) (by kernel_rfl) (by kernel_rfl) (by decide) (fun _ _ _ h=>h) (Or.inl ⟨by rfl,?_⟩) hA hB ?_
  rotate_left
  ·rintro wx ⟨hAx,hBx⟩
   (try dsimp only at hBx); (try dsimp only at hAx)
   go_simp
   try with_reducible rfl
  try simp only [Act.put,List.setIfInBounds_toArray,List.set_cons_zero,List.set_cons_succ]
  refine wpL_takeB (i:=9) (v:=?_) rfl (by kernel_rfl) (by kernel_rfl) (by kernel_rfl) (by decide) (fun _ _ _ h=>h) (Or.inl ⟨by rfl,?_⟩) (SAB.both hA hB) ?_
  rotate_left
  ·intro wx hBx
   (try dsimp only at hBx)
   go_simp
   try with_reducible rfl
  try simp only [Act.put,List.setIfInBounds_toArray,List.set_cons_zero,List.set_cons_succ]
  refine wpL_takeA (i:=10) (v:=?_) rfl (by kernel_rfl) (by kernel_rfl) (by kernel_rfl) (by kernel_rfl) (by decide) (fun _ _ _ h=>h) (Or.inl ⟨by rfl,?_⟩) hA hB ?_
  rotate_left
  ·rintro wx ⟨hAx,hBx⟩
   (try dsimp only at hBx); (try dsimp only at hAx)
   go_simp
   try with_reducible rfl
  try simp only [Act.put,List.setIfInBounds_toArray,List.set_cons_zero,List.set_cons_succ]
  refine wpL_takeB (i:=11) (v:=?_) rfl (by kernel_rfl) (by kernel_rfl) (by kernel_rfl) (by decide) (fun _ _ _ h=>h) (Or.inl ⟨by rfl,?_⟩) (SAB.both hA hB) ?_
  rotate_left
  ·intro wx hBx
   (try dsimp only at hBx)
   go_simp
   try with_reducible rfl
  try simp only [Act.put,List.setIfInBounds_toArray,List.set_cons_zero,List.set_cons_succ]
  refine wpL_takeA (i:=12) (v:=?_) rfl (by kernel_rfl) (by kernel_rfl) (by kernel_rfl) (by kernel_rfl) (by decide) (fun _ _ _ h=>h) (Or.inl ⟨by rfl,?_⟩) hA hB ?_
  rotate_left
  ·rintro wx ⟨hAx,hBx⟩
   (try dsimp only at hBx); (try dsimp only at hAx)
   go_simp
   try with_reducible rfl
  try simp only [Act.put,List.setIfInBounds_toArray,List.set_cons_zero,List.set_cons_succ]
  refine wpL_takeA (i:=13) (v:=?_) rfl (by kernel_rfl) (by kernel_rfl) (by kernel_rfl) (by kernel_rfl) (by decide) (fun _ _ _ h=>h) (Or.inl ⟨by rfl,?_⟩) hA hB ?_
  rotate_left
  ·rintro wx ⟨hAx,hBx⟩
   (try dsimp only at hBx); (try dsimp only at hAx)
   go_simp
   try with_reducible rfl
  try simp only [Act.put,List.setIfInBounds_toArray,List.set_cons_zero,List.set_cons_succ]
  clear c0 cV cF c2
  refine wpL_one (i:=14) (by kernel_rfl) (StepL.mk rfl (fun K hK=>?_))
  go_simp
  refine (HCALL.out _ hA).mono ?_
  rintro e w9 h9
  have he:=h9.1
  subst he
  refine hK.out _ _ (SAB.past (by kernel_rfl) trivial) (fun hSS=>?_)
  clear hK K hA hB
  have hB:=hSS.2
  have hA : True:=trivial
  (try dsimp only at hB); (try dsimp only at hA); clear hSS
  try simp only [Act.put,List.setIfInBounds_toArray,List.set_cons_zero,List.set_cons_succ]
  refine wpL_done (by kernel_rfl) ?_
  have H9:=Lib.hid h9
  clear h9
  clear hA hB
  go_wp2_with fail
  exact bodyPost_end (results_none Tryz.results35 _ _ _) rfl H9.out
 have kf1 : (x.kind == 1) = false:=by simpa using hk1
 by_cases hk2 : x.kind = 2
 ·have kb : (x.kind == 2) = true:=by simpa using hk2
  have hq:=HNX.out
  rw [if_neg hk1,if_pos hk2] at hq
  have hcall:=fun wx (hx : Keep w8 wx)=>KEY.out wx K3 y3 z3 c.tick self hx U3.out
  rw [← hq] at hcall
  have HCALL:=Lib.hid hcall
  clear hcall
  clear hq
  as_aux_lemma=>
  go_upto_region 7 with fail
  have c0:=C0.out
  have cV:=CV.out
  have cS:=CS.out
  have c3:=C3.out
  clear f1 f5
  refine wp_region_L 14 (fun wx=>Keep w8 wx) (fun _=>True) (by kernel_rfl) (Same.drew (Same.refl _ _)) trivial (fun hA hB=>?_)
  refine wpL_takeA (i:=0) rfl (by kernel_rfl) (by kernel_rfl) (by kernel_rfl) (by kernel_rfl) (by decide) (fun _ _ _ h=>h) (yieldsIf_blk (by rfl) _ _ rfl w.heap.size 0 95 _ [.slice K0 y0 z0,.slice K1 y1 z1,.slice K2 y2 z2,.slice K3 y3 z3,.slice K4 y4 z4,.int .i64 self,.int .i64 procs] _ rfl (fun wx hx=>HBK.out wx hx.1) (fun j u hu=>by simpa using hu) Tryz.underlying95 rfl (by kernel_rfl)) hA hB ?_
  try simp only [Act.put,List.setIfInBounds_toArray,List.set_cons_zero,List.set_cons_succ]
  refine wpL_takeA (i:=1) (v:=?_) rfl (by kernel_rfl) (by kernel_rfl) (by kernel_rfl) (by kernel_rfl) (by decide) (fun _ _ _ h=>h) (Or.inl ⟨by rfl,?_⟩) hA hB ?_
  rotate_left
  ·rintro wx ⟨hAx,hBx⟩
   (try dsimp only at hBx); (try dsimp only at hAx)
   go_simp
   try with_reducible rfl
  try simp only [Act.put,List.setIfInBounds_toArray,List.set_cons_zero,List.set_cons_succ]
  refine wpL_takeB (i:=2) (v:=?_) rfl (by kernel_rfl) (by kernel_rfl) (by kernel_rfl) (by decide) (fun _ _ _ h=>h) (Or.inl ⟨by rfl,?_⟩) (SAB.both hA hB) ?_
  rotate_left
  ·intro wx hBx
   (try dsimp only at hBx)
   go_simp
   try with_reducible rfl
  try simp only [Act.put,List.setIfInBounds_toArray,List.set_cons_zero,List.set_cons_succ]
  refine wpL_takeB (i:=3) (v:=?_) rfl (by kernel_rfl) (by kernel_rfl) (by kernel_rfl) (by decide) (fun _ _ _ h=>h) (Or.inl ⟨by rfl,?_⟩) (SAB.both hA hB) ?_
  rotate_left
  ·intro wx hBx
   (try dsimp only at hBx)
   go_simp
   try with_reducible rfl
  try simp only [Act.put,List.setIfInBounds_toArray,List.set_cons_zero,List.set_cons_succ]
  refine wpL_takeA (i:=4) (v:=?_) rfl (by kernel_rfl) (by kernel_rfl) (by kernel_rfl) (by kernel_rfl) (by decide) (fun _ _ _ h=>h) (Or.inl ⟨by rfl,?_⟩) hA hB ?_
  rotate_left
  ·rintro wx ⟨hAx,hBx⟩
   (try dsimp only at hBx); (try dsimp only at hAx)
   go_simp
   try with_reducible rfl
  try simp only [Act.put,List.setIfInBounds_toArray,List.set_cons_zero,List.set_cons_succ]
  refine wpL_takeB (i:=5) (v:=?_) rfl (by kernel_rfl) (by kernel_rfl) (by kernel_rfl) (by decide) (fun _ _ _ h=>h) (Or.inl ⟨by rfl,?_⟩) (SAB.both hA hB) ?_
  rotate_left
  ·intro wx hBx
   (try dsimp only at hBx)
   go_simp
   try with_reducible rfl
  try simp only [Act.put,List.setIfInBounds_toArray,List.set_cons_zero,List.set_cons_succ]
  refine wpL_takeB (i:=6) (v:=?_) rfl (by kernel_rfl) (by kernel_rfl) (by kernel_rfl) (by decide) (fun _ _ _ h=>h) (Or.inl ⟨by rfl,?_⟩) (SAB.both hA hB) ?_
  rotate_left
  ·intro wx hBx
   (try dsimp only at hBx)
   go_simp
   try with_reducible rfl
  try simp only [Act.put,List.setIfInBounds_toArray,List.set_cons_zero,List.set_cons_succ]
  refine wpL_takeB (i:=7) (v:=?_) rfl (by kernel_rfl) (by kernel_rfl) (by kernel_rfl) (by decide) (fun _ _ _ h=>h) (Or.inl ⟨by rfl,?_⟩) (SAB.both hA hB) ?_
  rotate_left
  ·intro wx hBx
   (try dsimp only at hBx)
   go_simp
   try with_reducible rfl
  try simp only [Act.put,List.setIfInBounds_toArray,List.set_cons_zero,List.set_cons_succ]
  refine wpL_takeA (i:=8) (v:=?_) rfl (by kernel_rfl) (by kernel_rfl) (by kernel_rfl) (by kernel_rfl) (by decide) (fun _ _ _ h=>h) (Or.inl ⟨by rfl,?_⟩) hA hB ?_
  rotate_left
  ·rintro wx ⟨hAx,hBx⟩
   (try dsimp only at hBx); (try dsimp only at hAx)
   go_simp
   try with_reducible rfl
  try simp only [Act.put,List.setIfInBounds_toArray,List.set_cons_zero,List.set_cons_succ]
  refine wpL_takeB (i:=9) (v:=?_) rfl (by kernel_rfl) (by kernel_rfl) (by kernel_rfl) (by decide) (fun _ _ _ h=>h) (Or.inl ⟨by rfl,?_⟩) (SAB.both hA hB) ?_
  rotate_left
  ·intro wx hBx
   (try dsimp only at hBx)
   go_simp
   try with_reducible rfl
  try simp only [Act.put,List.setIfInBounds_toArray,List.set_cons_zero,List.set_cons_succ]
  refine wpL_takeA (i:=10) (v:=?_) rfl (by kernel_rfl) (by kernel_rfl) (by kernel_rfl) (by kernel_rfl) (by decide) (fun _ _ _ h=>h) (Or.inl ⟨by rfl,?_⟩) hA hB ?_
  rotate_left
  ·rintro wx ⟨hAx,hBx⟩
   (try dsimp only at hBx); (try dsimp only at hAx)
   go_simp
   try with_reducible rfl
  try simp only [Act.put,List.setIfInBounds_toArray,List.set_cons_zero,List.set_cons_succ]
  refine wpL_takeB (i:=11) (v:=?_) rfl (by kernel_rfl) (by kernel_rfl) (by kernel_rfl) (by decide) (fun _ _ _ h=>h) (Or.inl ⟨by rfl,?_⟩) (SAB.both hA hB) ?_
  rotate_left
  ·intro wx hBx
   (try dsimp only at hBx)
   go_simp
   try with_reducible rfl
  try simp only [Act.put,List.setIfInBounds_toArray,List.set_cons_zero,List.set_cons_succ]
  refine wpL_takeA (i:=12) (v:=?_) rfl (by kernel_rfl) (by kernel_rfl) (by kernel_rfl) (by kernel_rfl) (by decide) (fun _ _ _ h=>h) (Or.inl ⟨by rfl,?_⟩) hA hB ?_
  rotate_left
  ·rintro wx ⟨hAx,hBx⟩
   (try dsimp only at hBx); (try dsimp only at hAx)
   go_simp
   try with_reducible rfl
  try simp only [Act.put,List.setIfInBounds_toArray,List.set_cons_zero,List.set_cons_succ]
  refine wpL_takeA (i:=13) (v:=?_) rfl (by kernel_rfl) (by kernel_rfl) (by kernel_rfl) (by kernel_rfl) (by decide) (fun _ _ _ h=>h) (Or.inl ⟨by rfl,?_⟩) hA hB ?_
  rotate_left
  ·rintro wx ⟨hAx,hBx⟩
   (try dsimp only at hBx); (try dsimp only at hAx)
   go_simp
   try with_reducible rfl
  try simp only [Act.put,List.setIfInBounds_toArray,List.set_cons_zero,List.set_cons_succ]
  clear c0 cV cS c3
  refine wpL_one (i:=14) (by kernel_rfl) (StepL.mk rfl (fun K hK=>?_))
  go_simp
  refine (HCALL.out _ hA).mono ?_
  rintro e w9 h9
  have he:=h9.1
  subst he
  refine hK.out _ _ (SAB.past (by kernel_rfl) trivial) (fun hSS=>?_)
  clear hK K hA hB
  have hB:=hSS.2
  have hA : True:=trivial
  (try dsimp only at hB); (try dsimp only at hA); clear hSS
  try simp only [Act.put,List.setIfInBounds_toArray,List.set_cons_zero,List.set_cons_succ]
  refine wpL_done (by kernel_rfl) ?_
  have H9:=Lib.hid h9
  clear h9
  clear hA hB
  go_wp2_with fail
  exact bodyPost_end (results_none Tryz.results35 _ _ _) rfl H9.out
 have kf2 : (x.kind == 2) = false:=by simpa using hk2
 by_cases hk3 : x.kind = 3
 ·have kb : (x.kind == 3) = true:=by simpa using hk3
  have hq:=HNX.out
  rw [if_neg hk1,if_neg hk2,if_pos hk3] at hq
  have hcall:=fun wx (hx : Keep w8 wx)=>KEY.out wx K4 y4 z4 c.input self hx U4.out
  rw [← hq] at hcall
  have HCALL:=Lib.hid hcall
  clear hcall
  clear hq
  as_aux_lemma=>
  go_upto_region 9 with fail
  have c0:=C0.out
  have cV:=CV.out
  have cS:=CS.out
  have c4:=C4.out
  clear f1 f5
  refine wp_region_L 14 (fun wx=>Keep w8 wx) (fun _=>True) (by kernel_rfl) (Same.drew (Same.refl _ _)) trivial (fun hA hB=>?_)
  refine wpL_takeA (i:=0) rfl (by kernel_rfl) (by kernel_rfl) (by kernel_rfl) (by kernel_rfl) (by decide) (fun _ _ _ h=>h) (yieldsIf_blk (by rfl) _ _ rfl w.heap.size 0 95 _ [.slice K0 y0 z0,.slice K1 y1 z1,.slice K2 y2 z2,.slice K3 y3 z3,.slice K4 y4 z4,.int .i64 self,.int .i64 procs] _ rfl (fun wx hx=>HBK.out wx hx.1) (fun j u hu=>by simpa using hu) Tryz.underlying95 rfl (by kernel_rfl)) hA hB ?_
  try simp only [Act.put,List.setIfInBounds_toArray,List.set_cons_zero,List.set_cons_succ]
  refine wpL_takeA (i:=1) (v:=?_) rfl (by kernel_rfl) (by kernel_rfl) (by kernel_rfl) (by kernel_rfl) (by decide) (fun _ _ _ h=>h) (Or.inl ⟨by rfl,?_⟩) hA hB ?_
  rotate_left
  ·rintro wx ⟨hAx,hBx⟩
   (try dsimp only at hBx); (try dsimp only at hAx)
   go_simp
   try with_reducible rfl
  try simp only [Act.put,List.setIfInBounds_toArray,List.set_cons_zero,List.set_cons_succ]
  refine wpL_takeB (i:=2) (v:=?_) rfl (by kernel_rfl) (by kernel_rfl) (by kernel_rfl) (by decide) (fun _ _ _ h=>h) (Or.inl ⟨by rfl,?_⟩) (SAB.both hA hB) ?_
  rotate_left
  ·intro wx hBx
   (try dsimp only at hBx)
   go_simp
   try with_reducible rfl
  try simp only [Act.put,List.setIfInBounds_toArray,List.set_cons_zero,List.set_cons_succ]
  refine wpL_takeB (i:=3) (v:=?_) rfl (by kernel_rfl) (by kernel_rfl) (by kernel_rfl) (by decide) (fun _ _ _ h=>h) (Or.inl ⟨by rfl,?_⟩) (SAB.both hA hB) ?_
  rotate_left
  ·intro wx hBx
   (try dsimp only at hBx)
   go_simp
   try with_reducible rfl
  try simp only [Act.put,List.setIfInBounds_toArray,List.set_cons_zero,List.set_cons_succ]
  refine wpL_takeA (i:=4) (v:=?_) rfl (by kernel_rfl) (by kernel_rfl) (by kernel_rfl) (by kernel_rfl) (by decide) (fun _ _ _ h=>h) (Or.inl ⟨by rfl,?_⟩) hA hB ?_
  rotate_left
  ·rintro wx ⟨hAx,hBx⟩
   (try dsimp only at hBx); (try dsimp only at hAx)
   go_simp
   try with_reducible rfl
  try simp only [Act.put,List.setIfInBounds_toArray,List.set_cons_zero,List.set_cons_succ]
  refine wpL_takeB (i:=5) (v:=?_) rfl (by kernel_rfl) (by kernel_rfl) (by kernel_rfl) (by decide) (fun _ _ _ h=>h) (Or.inl ⟨by rfl,?_⟩) (SAB.both hA hB) ?_
  rotate_left
  ·intro wx hBx
   (try dsimp only at hBx)
   go_simp
   try with_reducible rfl
  try simp only [Act.put,List.setIfInBounds_toArray,List.set_cons_zero,List.set_cons_succ]
  refine wpL_takeB (i:=6) (v:=?_) rfl (by kernel_rfl) (by kernel_rfl) (by kernel_rfl) (by decide) (fun _ _ _ h=>h) (Or.inl ⟨by rfl,?_⟩) (SAB.both hA hB) ?_
  rotate_left
  ·intro wx hBx
   (try dsimp only at hBx)
   go_simp
   try with_reducible rfl
  try simp only [Act.put,List.setIfInBounds_toArray,List.set_cons_zero,List.set_cons_succ]
  refine wpL_takeB (i:=7) (v:=?_) rfl (by kernel_rfl) (by kernel_rfl) (by kernel_rfl) (by decide) (fun _ _ _ h=>h) (Or.inl ⟨by rfl,?_⟩) (SAB.both hA hB) ?_
  rotate_left
  ·intro wx hBx
   (try dsimp only at hBx)
   go_simp
   try with_reducible rfl
  try simp only [Act.put,List.setIfInBounds_toArray,List.set_cons_zero,List.set_cons_succ]
  refine wpL_takeA (i:=8) (v:=?_) rfl (by kernel_rfl) (by kernel_rfl) (by kernel_rfl) (by kernel_rfl) (by decide) (fun _ _ _ h=>h) (Or.inl ⟨by rfl,?_⟩) hA hB ?_
  rotate_left
  ·rintro wx ⟨hAx,hBx⟩
   (try dsimp only at hBx); (try dsimp only at hAx)
   go_simp
   try with_reducible rfl
  try simp only [Act.put,List.setIfInBounds_toArray,List.set_cons_zero,List.set_cons_succ]
  refine wpL_takeB (i:=9) (v:=?_) rfl (by kernel_rfl) (by kernel_rfl) (by kernel_rfl) (by decide) (fun _ _ _ h=>h) (Or.inl ⟨by rfl,?_⟩) (SAB.both hA hB) ?_
  rotate_left
  ·intro wx hBx
   (try dsimp only at hBx)
   go_simp
   try with_reducible rfl
  try simp only [Act.put,List.setIfInBounds_toArray,List.set_cons_zero,List.set_cons_succ]
  refine wpL_takeA (i:=10) (v:=?_) rfl (by kernel_rfl) (by kernel_rfl) (by kernel_rfl) (by kernel_rfl) (by decide) (fun _ _ _ h=>h) (Or.inl ⟨by rfl,?_⟩) hA hB ?_
  rotate_left
  ·rintro wx ⟨hAx,hBx⟩
   (try dsimp only at hBx); (try dsimp only at hAx)
   go_simp
   try with_reducible rfl
  try simp only [Act.put,List.setIfInBounds_toArray,List.set_cons_zero,List.set_cons_succ]
  refine wpL_takeB (i:=11) (v:=?_) rfl (by kernel_rfl) (by kernel_rfl) (by kernel_rfl) (by decide) (fun _ _ _ h=>h) (Or.inl ⟨by rfl,?_⟩) (SAB.both hA hB) ?_
  rotate_left
  ·intro wx hBx
   (try dsimp only at hBx)
   go_simp
   try with_reducible rfl
  try simp only [Act.put,List.setIfInBounds_toArray,List.set_cons_zero,List.set_cons_succ]
  refine wpL_takeA (i:=12) (v:=?_) rfl (by kernel_rfl) (by kernel_rfl) (by kernel_rfl) (by kernel_rfl) (by decide) (fun _ _ _ h=>h) (Or.inl ⟨by rfl,?_⟩) hA hB ?_
  rotate_left
  ·rintro wx ⟨hAx,hBx⟩
   (try dsimp only at hBx); (try dsimp only at hAx)
   go_simp
   try with_reducible rfl
  try simp only [Act.put,List.setIfInBounds_toArray,List.set_cons_zero,List.set_cons_succ]
  refine wpL_takeA (i:=13) (v:=?_) rfl (by kernel_rfl) (by kernel_rfl) (by kernel_rfl) (by kernel_rfl) (by decide) (fun _ _ _ h=>h) (Or.inl ⟨by rfl,?_⟩) hA hB ?_
  rotate_left
  ·rintro wx ⟨hAx,hBx⟩
   (try dsimp only at hBx); (try dsimp only at hAx)
   go_simp
   try with_reducible rfl
  try simp only [Act.put,List.setIfInBounds_toArray,List.set_cons_zero,List.set_cons_succ]
  clear c0 cV cS c4
  refine wpL_one (i:=14) (by kernel_rfl) (StepL.mk rfl (fun K hK=>?_))
  go_simp
  refine (HCALL.out _ hA).mono ?_
  rintro e w9 h9
  have he:=h9.1
  subst he
  refine hK.out _ _ (SAB.past (by kernel_rfl) trivial) (fun hSS=>?_)
  clear hK K hA hB
  have hB:=hSS.2
  have hA : True:=trivial
  (try dsimp only at hB); (try dsimp only at hA); clear hSS
  try simp only [Act.put,List.setIfInBounds_toArray,List.set_cons_zero,List.set_cons_succ]
  refine wpL_done (by kernel_rfl) ?_
  have H9:=Lib.hid h9
  clear h9
  clear hA hB
  go_wp2_with fail
  exact bodyPost_end (results_none Tryz.results35 _ _ _) rfl H9.out
 have kf3 : (x.kind == 3) = false:=by simpa using hk3
 have hq:=HNX.out
 rw [if_neg hk1,if_neg hk2,if_neg hk3] at hq
 have hend:=HEND.out
 rw [← hq] at hend
 clear hq HEND
 have HEND:=Lib.hid hend
 clear hend
 go_wp2_with fail
 exact bodyPost_end (results_none Tryz.results35 _ _ _) rfl HEND.out
end Go.Proofs.YtipegaojiokppaaGreatDoor
set_option linter.unusedVariables false
set_option linter.unusedSimpArgs false
set_option maxRecDepth 100000
namespace Go.Proofs.YtipegaojiokppaaGreatDoor
open Go.RowKit Go.Proofs
theorem bld_host (K0 K1 K2 K3 K4 : Option Addr) (y0 z0 y1 z1 y2 z2 y3 z3 y4 z4 : Nat) (self procs : Int) : Tryz.prog.built 95 [(0,.agg #[.slice K0 y0 z0,.slice K1 y1 z1,.slice K2 y2 z2,.slice K3 y3 z3,.slice K4 y4 z4]),(1,.int .i64 self),(2,.int .i64 procs)] =
  some #[.slice K0 y0 z0,.slice K1 y1 z1,.slice K2 y2 z2,.slice K3 y3 z3,.slice K4 y4 z4,.int .i64 self,.int .i64 procs]:=by kernel_rfl
set_option maxHeartbeats 8000000 in
theorem pstart_any (w : World) (S : Nat → Prop) (cs : List Value) (c : Cd) (self procs : Int) (hS : ∀ i,S i → i < w.heap.size) (hc : CdR w S cs c) :
  Calls Tryz.prog 39 #[.agg cs.toArray,.int .i64 self,.int .i64 procs] w (StPost S (startS c self procs) w):=by
 have hcc:=hc
 obtain ⟨A0,A1,A2,A3,A4,m0,c0,m1,c1,m2,c2,m3,c3,m4,c4,rfl,-,-,-,-,-,hin⟩:=hc
 generalize hW : (w.alloc (.cells #[.slice A0 m0 c0,.slice A1 m1 c1,.slice A2 m2 c2,.slice A3 m3 c3,.slice A4 m4 c4] 63)).alloc (.cells #[.slice none 0 0,.slice none 0 0,.slice none 0 0,.slice none 0 0] 50) = W
 have hkW : Keep w W:=hW ▸ Keep.alloc (Keep.new w _) _
 have hb : Blk W w.heap.size 63 #[.slice A0 m0 c0,.slice A1 m1 c1,.slice A2 m2 c2,.slice A3 m3 c3,.slice A4 m4 c4]:=hW ▸ (Blk.new w _ _).alloc _
 have hbr : Blk W (w.heap.size + 1) 50 #[.slice none 0 0,.slice none 0 0,.slice none 0 0,.slice none 0 0]:=hW ▸ (by simpa using Blk.new (w.alloc _) _ _)
 have hz : w.heap.size + 1 < W.heap.size:=hbr.lt
 have hsW:=Same.mono hkW hS
 have key:=hstart_any W S A0 A1 A2 A3 A4 m0 c0 m1 c1 m2 c2 m3 c3 m4 c4 c self procs (fun i hi=>by have:=hS i hi; omega) (hcc.keep hsW)
 have HS:=Lib.hid hS
 have HKW:=Lib.hid hkW
 have HB:=Lib.hid hb
 have HBR:=Lib.hid hbr
 have KEY:=Lib.hid key
 clear hS hkW hb hbr key
 clear hcc hsW
 go_enter Tryz.func39,Tryz.ntmps39
 go_wp2_with (first
  | (refine wpList_load_all rfl _ (.tmp 3) rfl w.heap.size 63 [.slice A0 m0 c0,.slice A1 m1 c1,.slice A2 m2 c2,.slice A3 m3 c3,.slice A4 m4 c4] _ rfl HB.out Tryz.underlying63 rfl (by kernel_rfl) ?_)
  | (refine wpList_bld rfl _ _ rfl _ [(0,.agg #[.slice A0 m0 c0,.slice A1 m1 c1,.slice A2 m2 c2,.slice A3 m3 c3,.slice A4 m4 c4]),(1,.int .i64 self),(2,.int .i64 procs)] rfl (bld_host A0 A1 A2 A3 A4 m0 c0 m1 c1 m2 c2 m3 c3 m4 c4 self procs) ?_))
 clear hW
 refine KEY.out.mono ?_
 rintro e w1 ⟨cs1,rfl,hr1,hk1⟩
 obtain ⟨B1,B2,B3,B4,p1,q1,p2,q2,p3,q3,p4,q4,rfl,hr1⟩:=st_open hr1
 have hz1:=hk1.size
 have hb1:=hk1.blk HBR.out hz
 have HK1:=Lib.hid hk1
 have HR1:=Lib.hid hr1
 have HB1:=Lib.hid hb1
 clear hk1 hr1 hb1
 go_wp2_with (refine wpList_store_all rfl _ (.tmp 6) (.tmp 11) rfl (w.heap.size + 1) 50 _ [.slice B1 p1 q1,.slice B2 p2 q2,.slice B3 p3 q3,.slice B4 p4 q4] rfl rfl HB1.out rfl (by kernel_rfl) rfl ?_; intro wz hbz hwz; have HBZ:=Lib.hid hbz; have HWZ:=Lib.hid hwz; clear hbz hwz)
 refine bodyPost_ret (results_cell1 Tryz.results39 _ _ _ ⟨w.heap.size + 1,0,none⟩ _ rfl (load_st rfl HBZ.out)) rfl ?_
 exact ⟨_,rfl,st_after HS.out (by omega) HR1.out HWZ.out (by omega) (by omega),Keep.write (Keep.trans HKW.out HK1.out) HWZ.out (by omega)⟩
end Go.Proofs.YtipegaojiokppaaGreatDoor
set_option linter.unusedVariables false
set_option linter.unusedSimpArgs false
set_option maxRecDepth 100000
namespace Go.Proofs.YtipegaojiokppaaGreatDoor
open Go.RowKit Go.Proofs
set_option maxHeartbeats 16000000 in
theorem pnext_any (w : World) (S : Nat → Prop) (cs ss : List Value) (c : Cd) (s : St) (self procs : Int) (x : Ev) (hS : ∀ i,S i → i < w.heap.size) (hc : CdR w S cs c) (hs : StR w S ss s) (h1 : s.cells.length ≤ 1000000) (h2 : s.sent.length ≤ 1000000) (h3 : s.outs.length ≤ 1000000) (h4 : s.events.length ≤ 1000000) :
  Calls Tryz.prog 59 #[.agg cs.toArray,.int .i64 self,.int .i64 procs,.agg ss.toArray,.agg (encEv x).toArray] w (StPost S (nextS c self procs s x) w):=by
 have hcc:=hc
 obtain ⟨A0,A1,A2,A3,A4,m0,c0,m1,c1,m2,c2,m3,c3,m4,c4,rfl,-,-,-,-,-,-⟩:=hc
 obtain ⟨B1,B2,B3,B4,p1,q1,p2,q2,p3,q3,p4,q4,rfl,g1,g2,g3,g4⟩:=hs
 have o2:=g2.1
 have o3:=g3.1
 have o4:=g4.1
 subst o2 o3 o4
 have b2 : s.events.length ≤ q2 ∧ q2 ≤ 9223372036854775807:=⟨g2.2.1,g2.2.2.1⟩
 have b3 : s.sent.length ≤ q3 ∧ q3 ≤ 9223372036854775807:=⟨g3.2.1,g3.2.2.1⟩
 have b4 : s.outs.length ≤ q4 ∧ q4 ≤ 9223372036854775807:=⟨g4.2.1,g4.2.2.1⟩
 show Calls Tryz.prog 59 #[.agg #[.slice A0 m0 c0,.slice A1 m1 c1,.slice A2 m2 c2,.slice A3 m3 c3,.slice A4 m4 c4],.int .i64 self,.int .i64 procs,.agg #[.slice B1 p1 q1,.slice B2 s.events.length q2,.slice B3 s.sent.length q3,.slice B4 s.outs.length q4],.agg #[.int .i64 x.kind,.int .i64 x.inc,.int .i64 x.frm,.int .i64 x.sInc,.int .i64 x.sIdx,.int .i64 x.ord,.int .i64 x.val]] w _
 generalize hW : (((w.alloc (.cells #[.slice A0 m0 c0,.slice A1 m1 c1,.slice A2 m2 c2,.slice A3 m3 c3,.slice A4 m4 c4] 63)).alloc (.cells #[.slice B1 p1 q1,.slice B2 s.events.length q2,.slice B3 s.sent.length q3,.slice B4 s.outs.length q4] 50)).alloc (.cells #[.int .i64 x.kind,.int .i64 x.inc,.int .i64 x.frm,.int .i64 x.sInc,.int .i64 x.sIdx,.int .i64 x.ord,.int .i64 x.val] 89)).alloc (.cells #[.slice none 0 0,.slice none 0 0,.slice none 0 0,.slice none 0 0] 50) = W
 have hkW : Keep w W:=hW ▸ Keep.alloc (Keep.alloc (Keep.alloc (Keep.new w _) _) _) _
 have hb5 : Blk W w.heap.size 63 #[.slice A0 m0 c0,.slice A1 m1 c1,.slice A2 m2 c2,.slice A3 m3 c3,.slice A4 m4 c4]:=hW ▸ (((Blk.new w _ _).alloc _).alloc _).alloc _
 have hb8 : Blk W (w.heap.size + 1) 50 #[.slice B1 p1 q1,.slice B2 s.events.length q2,.slice B3 s.sent.length q3,.slice B4 s.outs.length q4]:=hW ▸ blk4b w _ _ _ _ _
 have hb9 : Blk W (w.heap.size + 2) 89 #[.int .i64 x.kind,.int .i64 x.inc,.int .i64 x.frm,.int .i64 x.sInc,.int .i64 x.sIdx,.int .i64 x.ord,.int .i64 x.val]:=hW ▸ blk4c w _ _ _ _ _
 have hb10 : Blk W (w.heap.size + 3) 50 #[.slice none 0 0,.slice none 0 0,.slice none 0 0,.slice none 0 0]:=hW ▸ blk4d w _ _ _ _ _
 have hz : w.heap.size + 3 < W.heap.size:=hb10.lt
 have f1 : W.cell? ⟨w.heap.size + 1,1,none⟩ = some (.slice B2 s.events.length q2):=by rw [hb8.cell]; rfl
 obtain ⟨L,hLg,hLo,hLi⟩:=labs S (w.heap.size + 1)
 have HS:=Lib.hid hS
 have HKW:=Lib.hid hkW
 have HB5:=Lib.hid hb5
 have HB8:=Lib.hid hb8
 have HB9:=Lib.hid hb9
 have HB10:=Lib.hid hb10
 have HLO:=Lib.hid hLo
 have HLI:=Lib.hid hLi
 have G1:=Lib.hid g1
 have G2:=Lib.hid g2
 have G3:=Lib.hid g3
 have G4:=Lib.hid g4
 have HCC:=Lib.hid hcc
 clear hS hkW hb5 hb8 hb9 hb10 hLo hLi g1 g2 g3 g4 hcc
 go_enter Tryz.func59,Tryz.ntmps59
 go_wp2_with fail
 clear hW
 refine (clipEvents_any W B2 s.events.length q2 b2.1 b2.2).mono ?_
 rintro e w1 ⟨rfl,hw⟩
 replace hw:=hw.symm
 subst hw
 clear f1
 go_upto_region 2 with (refine wpList_store_one rfl _ (.tmp 14) _ rfl (w.heap.size + 1) 1 50 _ (.slice B2 s.events.length s.events.length) rfl rfl HB8.out (by simp) (by kernel_rfl) rfl rfl ?_; intro w2 hb2 hs2)
 have f2 : w2.cell? ⟨w.heap.size + 1,2,none⟩ = some (.slice B3 s.sent.length q3):=by rw [hb2.cell]; rfl
 have HB2:=Lib.hid hb2
 have HS2:=Lib.hid hs2
 clear hb2 hs2
 go_wp2_with fail
 refine (clipSends_any w2 B3 s.sent.length q3 b3.1 b3.2).mono ?_
 rintro e w3 ⟨rfl,hw⟩
 replace hw:=hw.symm
 subst hw
 clear f2
 go_upto_region 3 with (refine wpList_store_one rfl _ (.tmp 18) _ rfl (w.heap.size + 1) 2 50 _ (.slice B3 s.sent.length s.sent.length) rfl rfl HB2.out (by simp) (by kernel_rfl) rfl rfl ?_; intro w4 hb4 hs4)
 have f3 : w4.cell? ⟨w.heap.size + 1,3,none⟩ = some (.slice B4 s.outs.length q4):=by rw [hb4.cell]; rfl
 have HB4:=Lib.hid hb4
 have HS4:=Lib.hid hs4
 clear hb4 hs4
 go_wp2_with fail
 refine (clipOuts_any w4 B4 s.outs.length q4 b4.1 b4.2).mono ?_
 rintro e w5 ⟨rfl,hw⟩
 replace hw:=hw.symm
 subst hw
 clear f3
 go_upto_region 4 with (refine wpList_store_one rfl _ (.tmp 22) _ rfl (w.heap.size + 1) 3 50 _ (.slice B4 s.outs.length s.outs.length) rfl rfl HB4.out (by simp) (by kernel_rfl) rfl rfl ?_; intro w6 hb6 hs6)
 have hsq : Same (· ≠ w.heap.size + 1) W w6:=Same.trans HS2.out (Same.trans HS4.out hs6 (fun _ h=>h)) (fun _ h=>h)
 have hb6' : Blk w6 (w.heap.size + 1) 50 #[.slice B1 p1 q1,.slice B2 s.events.length s.events.length,.slice B3 s.sent.length s.sent.length,.slice B4 s.outs.length s.outs.length]:=by simpa using hb6
 have hz6:=hsq.size
 have hkw6 : Keep w w6:=Keep.write HKW.out hsq (by omega)
 have hb56:=hsq.blk HB5.out (by omega)
 have hb96:=hsq.blk HB9.out (by omega)
 have hb106:=hsq.blk HB10.out (by omega)
 have hsS:=Same.mono hkw6 HS.out
 have hSL : ∀ i,S i → Lab w6 L 0 i:=fun i hi=>⟨by have:=HS.out i hi; omega,(HLO.out i (by have:=HS.out i hi; omega)).1 hi⟩
 have hst : StM w6 L (w.heap.size + 1) s:=⟨B1,B2,B3,B4,p1,q1,_,_,_,hb6',hLg,(G1.out.keep hsS).more (fun i hi=>⟨(hSL i hi).1,.inr (hSL i hi).2⟩),Gl.full ((G2.out.keep hsS).2.2.2.more hSL) (by simp [maxLen]; omega),Gl.full ((G3.out.keep hsS).2.2.2.more hSL) (by simp [maxLen]; omega),Gl.full ((G4.out.keep hsS).2.2.2.more hSL) (by simp [maxLen]; omega)⟩
 have key:=hnext_any w6 L (w.heap.size + 1) s S A0 A1 A2 A3 A4 m0 c0 m1 c1 m2 c2 m3 c3 m4 c4 c self procs x hst hSL (HCC.out.keep hsS) h1 h2 h3 h4
 have HKW6:=Lib.hid hkw6
 have HB56:=Lib.hid hb56
 have HB96:=Lib.hid hb96
 have HB106:=Lib.hid hb106
 have KEY:=Lib.hid key
 clear hkw6 hb56 hb96 hb106 key
 clear hb6 hb6' hs6 hsq hst hsS hSL
 clear HB2 HS2 HB4 HS4
 go_wp2_with (first
  | (refine wpList_load_all rfl _ (.tmp 5) rfl w.heap.size 63 [.slice A0 m0 c0,.slice A1 m1 c1,.slice A2 m2 c2,.slice A3 m3 c3,.slice A4 m4 c4] _ rfl HB56.out Tryz.underlying63 rfl (by kernel_rfl) ?_)
  | (refine wpList_bld rfl _ _ rfl _ [(0,.agg #[.slice A0 m0 c0,.slice A1 m1 c1,.slice A2 m2 c2,.slice A3 m3 c3,.slice A4 m4 c4]),(1,.int .i64 self),(2,.int .i64 procs)] rfl (bld_host A0 A1 A2 A3 A4 m0 c0 m1 c1 m2 c2 m3 c3 m4 c4 self procs) ?_)
  | (refine wpList_load_all rfl _ (.tmp 9) rfl (w.heap.size + 2) 89 [.int .i64 x.kind,.int .i64 x.inc,.int .i64 x.frm,.int .i64 x.sInc,.int .i64 x.sIdx,.int .i64 x.ord,.int .i64 x.val] _ rfl HB96.out Tryz.underlying89 rfl (by kernel_rfl) ?_))
 refine KEY.out.mono ?_
 rintro e w7 ⟨rfl,L',hL',hst7,hs7⟩
 obtain ⟨D1,D2,D3,D4,d1,f1,d2,f2,d3,f3,d4,f4,hbs,hr⟩:=hst7.open_
 have hz7:=hs7.size
 have hbr:=hs7.blk HB106.out ⟨by omega,by have:=HLI.out (w.heap.size + 3) (by omega); omega⟩
 have HBS:=Lib.hid hbs
 have HR:=Lib.hid hr
 have HS7:=Lib.hid hs7
 have HBR:=Lib.hid hbr
 have HL':=Lib.hid hL'
 clear hbs hr hs7 hbr hL'
 clear hst7
 go_wp2_with (first
  | (refine wpList_load_all rfl _ (.tmp 8) rfl (w.heap.size + 1) 50 [.slice D1 d1 f1,.slice D2 d2 f2,.slice D3 d3 f3,.slice D4 d4 f4] _ rfl HBS.out Tryz.underlying50 rfl (by kernel_rfl) ?_)
  | (refine wpList_store_all rfl _ (.tmp 10) (.tmp 29) rfl (w.heap.size + 3) 50 _ [.slice D1 d1 f1,.slice D2 d2 f2,.slice D3 d3 f3,.slice D4 d4 f4] rfl rfl HBR.out rfl (by kernel_rfl) rfl ?_; intro wz hbq hwq; have HBQ:=Lib.hid hbq; have HWQ:=Lib.hid hwq; clear hbq hwq))
 refine bodyPost_ret (results_cell1 Tryz.results59 _ _ _ ⟨w.heap.size + 3,0,none⟩ _ rfl (load_st rfl HBQ.out)) rfl ?_
 have hr' : StR w7 (Sn S w6 w7) [.slice D1 d1 f1,.slice D2 d2 f2,.slice D3 d3 f3,.slice D4 d4 f4] (nextS c self procs s x):=HR.out.more (fun i hi=>by
  rcases Nat.lt_or_ge i w6.heap.size with h | h
  ·rw [HL'.out i h] at hi
   exact .inl (labs_in HLO.out hi.2.1 hi.2.2)
  ·exact .inr ⟨h,hi.1⟩)
 exact ⟨_,rfl,st_after HS.out (by omega) hr' HWQ.out (by omega) (by omega),Keep.write (Same.trans HKW6.out HS7.out (fun i hi=>⟨by omega,by have:=HLI.out i (by omega); omega⟩)) HWQ.out (by omega)⟩
end Go.Proofs.YtipegaojiokppaaGreatDoor
set_option linter.unusedVariables false
set_option linter.unusedSimpArgs false
set_option maxRecDepth 100000
namespace Go.Proofs.YtipegaojiokppaaGreatDoor
open Go.RowKit Go.Proofs
def PRel (L : Nat → Nat) (g : Nat) (c : Cd) (self procs : Int) (l : List Ev) (w0 : World) (i : Value) (wr : World) : Prop:=
 ∃ (k : Nat) (L' : Nat → Nat),i = .int .i64 k ∧ k ≤ l.length ∧ (∀ i,i < w0.heap.size → L' i = L i) ∧ StM wr L' g (replayS c self procs (l.take k)) ∧ Same (Frm w0 L) w0 wr
set_option maxHeartbeats 16000000 in
theorem preplay_any (w : World) (S : Nat → Prop) (cs : List Value) (c : Cd) (self procs : Int) (A : Option Addr) (n cp : Nat) (l : List Ev) (hS : ∀ i,S i → i < w.heap.size) (hc : CdR w S cs c) (hl : Sl encEv 7 w S A n cp l) (hn : l.length ≤ 100000) :
  Calls Tryz.prog 20 #[.agg cs.toArray,.int .i64 self,.int .i64 procs,.slice A n cp] w (StPost S (replayS c self procs l) w):=by
 have hcc:=hc
 obtain ⟨A0,A1,A2,A3,A4,m0,c0,m1,c1,m2,c2,m3,c3,m4,c4,rfl,-,-,-,-,-,hin⟩:=hc
 generalize hW : (w.alloc (.cells #[.slice A0 m0 c0,.slice A1 m1 c1,.slice A2 m2 c2,.slice A3 m3 c3,.slice A4 m4 c4] 63)).alloc (.cells #[.slice none 0 0,.slice none 0 0,.slice none 0 0,.slice none 0 0] 50) = W
 have hkW : Keep w W:=hW ▸ Keep.alloc (Keep.new w _) _
 have hb : Blk W w.heap.size 63 #[.slice A0 m0 c0,.slice A1 m1 c1,.slice A2 m2 c2,.slice A3 m3 c3,.slice A4 m4 c4]:=hW ▸ (Blk.new w _ _).alloc _
 have hbr : Blk W (w.heap.size + 1) 50 #[.slice none 0 0,.slice none 0 0,.slice none 0 0,.slice none 0 0]:=hW ▸ (by simpa using Blk.new (w.alloc _) _ _)
 have hz : w.heap.size + 1 < W.heap.size:=hbr.lt
 have hnl:=hl.1
 have hn9 : n ≤ 100000:=by omega
 have HS:=Lib.hid hS
 have HKW:=Lib.hid hkW
 have HB:=Lib.hid hb
 have HBR:=Lib.hid hbr
 have HCC:=Lib.hid hcc
 have HL:=Lib.hid hl
 have HNL:=Lib.hid hnl
 clear hS hkW hb hbr hcc hl hnl
 go_enter Tryz.func20,Tryz.ntmps20
 go_upto_region 2 with (first
  | (refine wpList_load_all rfl _ (.tmp 4) rfl w.heap.size 63 [.slice A0 m0 c0,.slice A1 m1 c1,.slice A2 m2 c2,.slice A3 m3 c3,.slice A4 m4 c4] _ rfl HB.out Tryz.underlying63 rfl (by kernel_rfl) ?_)
  | (refine wpList_bld rfl _ _ rfl _ [(0,.agg #[.slice A0 m0 c0,.slice A1 m1 c1,.slice A2 m2 c2,.slice A3 m3 c3,.slice A4 m4 c4]),(1,.int .i64 self),(2,.int .i64 procs)] rfl (bld_host A0 A1 A2 A3 A4 m0 c0 m1 c1 m2 c2 m3 c3 m4 c4 self procs) ?_)
  | (refine wpList_store_all rfl _ (.tmp 9) (.tmp 16) rfl W.heap.size 95 _ [.slice A0 m0 c0,.slice A1 m1 c1,.slice A2 m2 c2,.slice A3 m3 c3,.slice A4 m4 c4,.int .i64 self,.int .i64 procs] rfl rfl (Blk.new _ _ _) rfl (by kernel_rfl) rfl ?_; intro w2 hb2 hs2))
 clear hW
 have hk2 : Keep W w2:=Keep.write (Keep.new _ _) hs2 (Nat.le_refl _)
 have hz2 : W.heap.size < w2.heap.size:=hb2.lt
 have hkw2:=Keep.trans HKW.out hk2
 have key:=hstart_own w2 S A0 A1 A2 A3 A4 m0 c0 m1 c1 m2 c2 m3 c3 m4 c4 c self procs (fun i hi=>by have:=HS.out i hi; omega) (HCC.out.keep (Same.mono hkw2 HS.out))
 have HK2:=Lib.hid hk2
 have HB2:=Lib.hid hb2
 have KEY:=Lib.hid key
 have HKW2:=Lib.hid hkw2
 clear hk2 hb2 key hkw2
 clear hs2
 go_wp2_with (refine wpList_load_all rfl _ (.tmp 9) rfl W.heap.size 95 [.slice A0 m0 c0,.slice A1 m1 c1,.slice A2 m2 c2,.slice A3 m3 c3,.slice A4 m4 c4,.int .i64 self,.int .i64 procs] _ rfl HB2.out Tryz.underlying95 rfl (by kernel_rfl) ?_)
 refine KEY.out.mono ?_
 rintro e w3 ⟨cs1,L0,rfl,hr1,hL0,hk3⟩
 obtain ⟨B1,B2,B3,B4,p1,q1,p2,q2,p3,q3,p4,q4,rfl⟩:=hr1.len
 have hz3:=hk3.size
 have HK3:=Lib.hid hk3
 have HR1:=Lib.hid hr1
 have HL0:=Lib.hid hL0
 clear hk3 hr1 hL0
 go_upto_region 3 with (refine wpList_store_all rfl _ (.tmp 10) (.tmp 18) rfl w3.heap.size 50 _ [.slice B1 p1 q1,.slice B2 p2 q2,.slice B3 p3 q3,.slice B4 p4 q4] rfl rfl (Blk.new _ _ _) rfl (by kernel_rfl) rfl ?_; intro w4 hb4 hs4)
 have hk4 : Keep w3 w4:=Keep.write (Keep.new _ _) hs4 (Nat.le_refl _)
 have hz4 : w3.heap.size < w4.heap.size:=hb4.lt
 obtain ⟨L,hL⟩ : ∃ L : Nat → Nat,L = ext L0 w3.heap.size (fun _=>1):=⟨_,rfl⟩
 have hLo : ∀ i,i < w3.heap.size → L i = L0 i:=fun i hi=>by rw [hL]; exact ext_old hi
 have hLg : L w3.heap.size = 1:=by rw [hL]; exact ext_new (Nat.le_refl _)
 have hst4 : StM w4 L w3.heap.size (startS c self procs):=(HR1.out.same hk4 (fun i hi _=>hi) hLo).put hb4 hLg
 have hrel0 : PRel L w3.heap.size c self procs l w4 (.int .i64 0) w4:=⟨0,L,rfl,Nat.zero_le _,fun _ _=>rfl,hst4,Same.refl _ _⟩
 have hL4 : ∀ i,i < w2.heap.size → (S i → L i = 0) ∧ (¬ S i → L i = 9):=fun i hi=>by rw [hLo i (by omega)]; exact HL0.out i hi
 have hFr : ∀ i,i < w2.heap.size → Frm w4 L i:=fun i hi=>⟨by omega,by
  rcases Classical.em (S i) with h | h
  ·exact .inl ((hL4 i hi).1 h)
  ·have:=(hL4 i hi).2 h; omega⟩
 have hkw4 : Keep w w4:=Keep.trans (Keep.trans HKW2.out HK3.out) hk4
 have hb24:=(Keep.trans HK3.out hk4).blk HB2.out HB2.out.lt
 have hbr4:=(Keep.trans (Keep.trans HK2.out HK3.out) hk4).blk HBR.out hz
 have hev4:=HL.out.keep (Same.mono hkw4 HS.out)
 have hc4:=HCC.out.keep (Same.mono hkw4 HS.out)
 have HREL0:=Lib.hid hrel0
 have HL4:=Lib.hid hL4
 have HFR:=Lib.hid hFr
 have HKW4:=Lib.hid hkw4
 have HB24:=Lib.hid hb24
 have HBR4:=Lib.hid hbr4
 have HEV4:=Lib.hid hev4
 have HC4:=Lib.hid hc4
 clear hrel0 hL4 hFr hkw4 hb24 hbr4 hev4 hc4
 clear hb4 hs4 hk4 hst4 hLo hLg hL
 go_wp2_with fail
 go_loopw [21] (fun i wr=>PRel L w3.heap.size c self procs l w4 i wr) (fun i _=>n - (intOf i).toNat)
 case atStart=>exact HREL0.out
 case round=>
  clear HREL0 HR1 HL0
  obtain ⟨k,L',rfl,hk,hLL,hst,hsr⟩:=hrel
  have hzr:=hsr.size
  have hbd:=replayS_len c self procs (l.take k)
  have htk : (l.take k).length ≤ 100000:=by rw [List.length_take]; omega
  have hSF : ∀ i,S i → Frm w4 L i:=fun i hi=>HFR.out i (by have:=HS.out i hi; omega)
  by_cases hkm : k < n
  ·obtain ⟨b',off',x,rfl,hSb,hx,hcx⟩:=(HEV4.out.keep (hsr.mono hSF)).at_ encEv_len hkm
   have hd1 : decide (k < n) = true:=by simpa using hkm
   have hd2 : (0 : Int) ≤ k:=by omega
   have hd3 : (k : Int) < n:=by omega
   have hk1 : k + 1 ≤ l.length:=by have:=HNL.out; omega
   have hrg : wr.rangeAt b' (off' + k * 7) [.int .i64 x.kind,.int .i64 x.inc,.int .i64 x.frm,.int .i64 x.sInc,.int .i64 x.sIdx,.int .i64 x.ord,.int .i64 x.val]:=hcx
   have hbh:=hsr.blk HB24.out (HFR.out _ (by omega))
   have hcr:=HC4.out.keep (hsr.mono hSF)
   have htr:=take_replay (c:=c) (self:=self) (procs:=procs) hx
   clear hcx hx
   have HRG:=Lib.hid hrg
   have HBH:=Lib.hid hbh
   have HCR:=Lib.hid hcr
   have HTR:=Lib.hid htr
   have HST:=Lib.hid hst
   have HSR:=Lib.hid hsr
   have HLL:=Lib.hid hLL
   have HK1:=Lib.hid hk1
   have HSF:=Lib.hid hSF
   clear hrg hbh hcr htr hst hsr hLL hk1 hSF
   clear hSb
   go_upto_region 6 with (first
    | (refine wpList_load_mid rfl _ (.tmp 23) rfl b' (off' + k * 7) rfl [.int .i64 x.kind,.int .i64 x.inc,.int .i64 x.frm,.int .i64 x.sInc,.int .i64 x.sIdx,.int .i64 x.ord,.int .i64 x.val] _ HRG.out Tryz.underlying89 rfl (by kernel_rfl) ?_)
    | (refine wpList_store_all rfl _ (.tmp 12) (.tmp 24) rfl wr.heap.size 89 _ [.int .i64 x.kind,.int .i64 x.inc,.int .i64 x.frm,.int .i64 x.sInc,.int .i64 x.sIdx,.int .i64 x.ord,.int .i64 x.val] rfl rfl (Blk.new _ _ _) rfl (by kernel_rfl) rfl ?_; intro w5 hb5 hs5))
   have hk5 : Keep wr w5:=Keep.write (Keep.new _ _) hs5 (Nat.le_refl _)
   have hz5 : wr.heap.size < w5.heap.size:=hb5.lt
   have hbh5:=hk5.blk HBH.out HBH.out.lt
   have key:=hnext_any w5 L' w3.heap.size (replayS c self procs (l.take k)) S A0 A1 A2 A3 A4 m0 c0 m1 c1 m2 c2 m3 c3 m4 c4 c self procs x (HST.out.keep hk5 (fun _ _=>rfl)) (fun i hi=>⟨by have:=(HSF.out i hi).1; omega,by rw [HLL.out i (HSF.out i hi).1]; exact (HL4.out i (by have:=HS.out i hi; omega)).1 hi⟩) (HCR.out.keep (hk5.mono (fun i hi=>by have:=(HSF.out i hi).1; omega))) (by omega) (by omega) (by omega) (by omega)
   rw [HTR.out] at key
   have HK5:=Lib.hid hk5
   have HB5:=Lib.hid hb5
   have HBH5:=Lib.hid hbh5
   have KEY:=Lib.hid key
   clear hk5 hb5 hbh5 key
   clear hs5 hbd htk
   go_wp2_with (first
    | (refine wpList_load_all rfl _ (.tmp 9) rfl W.heap.size 95 [.slice A0 m0 c0,.slice A1 m1 c1,.slice A2 m2 c2,.slice A3 m3 c3,.slice A4 m4 c4,.int .i64 self,.int .i64 procs] _ rfl HBH5.out Tryz.underlying95 rfl (by kernel_rfl) ?_)
    | (refine wpList_load_all rfl _ (.tmp 12) rfl wr.heap.size 89 [.int .i64 x.kind,.int .i64 x.inc,.int .i64 x.frm,.int .i64 x.sInc,.int .i64 x.sIdx,.int .i64 x.ord,.int .i64 x.val] _ rfl HB5.out Tryz.underlying89 rfl (by kernel_rfl) ?_))
   refine KEY.out.mono ?_
   rintro e w6 ⟨rfl,L6,hL6,hst6,hs6⟩
   have hfin : PRel L w3.heap.size c self procs l w4 (.int .i64 (k + 1)) w6:=⟨k + 1,L6,by simp,HK1.out,fun i hi=>by rw [hL6 i (by omega),HLL.out i hi],hst6,Same.trans HSR.out (Same.trans (Same.mono HK5.out (fun i (hi : Frm w4 L i)=>by have:=hi.1; omega)) hs6 (fun i hi=>⟨by have:=hi.1; omega,by rw [HLL.out i hi.1]; exact hi.2⟩)) (fun i hi=>hi)⟩
   have HFIN:=Lib.hid hfin
   clear hfin
   clear hst6 hs6 hL6
   go_wp2_with fail
   go_roundw
   case rel=>exact HFIN.out
   case measure=>simp [intOf]; omega
  ·have hd1 : decide (k < n) = false:=by simpa using hkm
   have hkl : l.take k = l:=List.take_of_length_le (by have:=HNL.out; omega)
   rw [hkl] at hst
   obtain ⟨D1,D2,D3,D4,d1,f1,d2,f2,d3,f3,d4,f4,hbs,hr⟩:=hst.val
   have hbz:=hsr.blk HBR4.out (HFR.out _ (by omega))
   have HBS:=Lib.hid hbs
   have HR:=Lib.hid hr
   have HSR:=Lib.hid hsr
   have HBZ:=Lib.hid hbz
   have HLL:=Lib.hid hLL
   clear hbs hr hsr hbz hLL
   clear hkl hbd htk hst
   go_wp2_with (first
    | (refine wpList_load_all rfl _ (.tmp 10) rfl w3.heap.size 50 [.slice D1 d1 f1,.slice D2 d2 f2,.slice D3 d3 f3,.slice D4 d4 f4] _ rfl HBS.out Tryz.underlying50 rfl (by kernel_rfl) ?_)
    | (refine wpList_store_all rfl _ (.tmp 8) (.tmp 29) rfl (w.heap.size + 1) 50 _ [.slice D1 d1 f1,.slice D2 d2 f2,.slice D3 d3 f3,.slice D4 d4 f4] rfl rfl HBZ.out rfl (by kernel_rfl) rfl ?_; intro wz hbq hwq; have HBQ:=Lib.hid hbq; have HWQ:=Lib.hid hwq; clear hbq hwq))
   refine bodyPost_ret (results_cell1 Tryz.results20 _ _ _ ⟨w.heap.size + 1,0,none⟩ _ rfl (load_st rfl HBQ.out)) rfl ?_
   have hzq:=HWQ.out.size
   have hL9 : L' (w.heap.size + 1) = 9:=by
    rw [HLL.out _ (by omega)]
    exact (HL4.out _ (by omega)).2 (fun h=>by have:=HS.out _ h; omega)
   have hv:=HR.out.same (L':=L') HWQ.out (fun i hi h e=>by rw [e,hL9] at h; omega) (fun _ _=>rfl)
   refine ⟨_,rfl,hv.read.more (fun i hi=>?_),Keep.write (Same.trans HKW4.out HSR.out (fun i hi=>HFR.out i (by omega))) HWQ.out (by omega)⟩
   rcases Nat.lt_or_ge i w2.heap.size with h | h
   ·have hi2:=hi.2
    rw [HLL.out i (by omega)] at hi2
    exact .inl (Classical.byContradiction fun hn=>by have:=(HL4.out i h).2 hn; omega)
   ·exact .inr ⟨by omega,hi.1⟩
end Go.Proofs.YtipegaojiokppaaGreatDoor
set_option linter.unusedVariables false
set_option linter.unusedSimpArgs false
set_option maxRecDepth 100000
namespace Go.Proofs.YtipegaojiokppaaGreatDoor
open Go.RowKit Go.Proofs
def SameIs (p : Prop) (w : World) (e : Ending) (w' : World) : Prop:=∃ b : Bool,(b = true ↔ p) ∧ e = .returned (.bool b) ∧ ∃ k,w' = w.drewN k
def SmRel {α : Type} (l l2 : List α) (n : Nat) (w : World) (i : Value) (wr : World) : Prop:=∃ k m : Nat,k ≤ n ∧ i = .int .i64 k ∧ l.take k = l2.take k ∧ wr = w.drewN m
theorem take_eq {α : Type} {l l2 : List α} {k : Nat} {a : α} (h : l.take k = l2.take k) (h1 : l[k]? = some a) (h2 : l2[k]? = some a) : l.take (k + 1) = l2.take (k + 1):=by
 obtain ⟨hk,rfl⟩:=List.getElem?_eq_some_iff.1 h1
 obtain ⟨hk2,e⟩:=List.getElem?_eq_some_iff.1 h2
 rw [List.take_succ_eq_append_getElem hk,List.take_succ_eq_append_getElem hk2,h,e]
theorem ne_at {α : Type} {l l2 : List α} {k : Nat} {a b : α} (h1 : l[k]? = some a) (h2 : l2[k]? = some b) (h : a ≠ b) : ¬ l = l2:=fun e=>by
 subst e
 rw [h1] at h2
 exact h (Option.some.inj h2)
theorem Ev_ext (a b : Ev) : a = b ↔ a.kind = b.kind ∧ a.inc = b.inc ∧ a.frm = b.frm ∧ a.sInc = b.sInc ∧ a.sIdx = b.sIdx ∧ a.ord = b.ord ∧ a.val = b.val:=by
 cases a; cases b; simp
theorem Snd_ext (a b : Snd) : a = b ↔ a.idx = b.idx ∧ a.ord = b.ord ∧ a.to = b.to ∧ a.val = b.val:=by
 cases a; cases b; simp
theorem Outp_ext (a b : Outp) : a = b ↔ a.idx = b.idx ∧ a.val = b.val:=by
 cases a; cases b; simp
set_option maxHeartbeats 4000000 in
theorem sameInts_is (w : World) (S T : Nat → Prop) (A A2 : Option Addr) (n n2 c c2 : Nat) (l l2 : List Int) (hl : Sl encI 1 w S A n c l) (hl2 : Sl encI 1 w T A2 n2 c2 l2) (hn : n ≤ 1000000) (hn2 : n2 ≤ 1000000) :
  Calls Tryz.prog 47 #[.slice A n c,.slice A2 n2 c2] w (SameIs (l = l2) w):=by
 have hnl:=hl.1
 have hnl2:=hl2.1
 by_cases hnn : n = n2
 case neg=>
  have hne : ¬ l = l2:=fun e=>hnn (by rw [hnl,hnl2,e])
  have d0 : ((n : Int) != (n2 : Int)) = true:=by simp; omega
  clear hl hl2 hnl hnl2
  have HNE:=Lib.hid hne
  clear hne
  go_enter Tryz.func47,Tryz.ntmps47
  go_wp2_with fail
  go_ret
  exact ⟨false,by simpa using HNE.out,rfl,0,rfl⟩
 subst hnn
 have HL:=Lib.hid hl
 have HL2:=Lib.hid hl2
 have HNL:=Lib.hid hnl
 have HNL2:=Lib.hid hnl2
 clear hl hl2 hnl hnl2
 go_enter Tryz.func47,Tryz.ntmps47
 go_wp2_with fail
 go_loopw [5] (fun i wr=>SmRel l l2 n w i wr) (fun i _=>n - (intOf i).toNat)
 case atStart=>exact ⟨0,0,Nat.zero_le _,rfl,rfl,rfl⟩
 case round=>
  obtain ⟨k,m,hkn,rfl,htk,rfl⟩:=hrel
  by_cases hk : k < n
  ·obtain ⟨b,off,d,rfl,_,hd,hcell⟩:=HL.out.at_ encI_len hk
   obtain ⟨b2,off2,d2,rfl,_,hd2,hcell2⟩:=HL2.out.at_ encI_len hk
   have hki : (0 : Int) ≤ (k : Int):=by omega
   have hki2 : (k : Int) < (n : Int):=by omega
   have p0:=hcell 0 _ rfl
   have q0:=hcell2 0 _ rfl
   clear hcell hcell2
   simp only [Nat.add_zero,Nat.mul_one] at p0 q0
   by_cases he : d = d2
   ·subst he
    have ht2:=take_eq htk hd hd2
    have HD:=Lib.hid hd
    have HD2:=Lib.hid hd2
    have HTK:=Lib.hid htk
    have HT2:=Lib.hid ht2
    clear hd hd2 htk ht2
    go_wp2_with fail
    go_quiet (fail)
    go_wp2_with fail
    go_roundw
    case rel=>exact ⟨k + 1,_,by omega,by go_num,HT2.out,rfl⟩
    case measure=>simp [intOf]; omega
   ·have hq : (d != d2) = true:=by simpa using he
    have hne:=ne_at hd hd2 he
    have HD:=Lib.hid hd
    have HD2:=Lib.hid hd2
    have HTK:=Lib.hid htk
    have HNE:=Lib.hid hne
    clear hd hd2 htk hne
    clear he
    go_wp2_with fail
    go_quiet (fail)
    go_wp2_with fail
    go_ret
    exact ⟨false,by simpa using HNE.out,rfl,_,World.drewN_drewN _ _ _⟩
  ·have hkl : l = l2:=by
    rw [List.take_of_length_le (by have:=HNL.out; omega),List.take_of_length_le (by have:=HNL2.out; omega)] at htk
    exact htk
   have HTK:=Lib.hid htk
   have HKL:=Lib.hid hkl
   clear htk hkl
   go_wp2_with fail
   go_ret
   exact ⟨true,by simpa using HKL.out,rfl,m,rfl⟩
set_option maxHeartbeats 4000000 in
theorem sameEvents_is (w : World) (S T : Nat → Prop) (A A2 : Option Addr) (n n2 c c2 : Nat) (l l2 : List Ev) (hl : Sl encEv 7 w S A n c l) (hl2 : Sl encEv 7 w T A2 n2 c2 l2) (hn : n ≤ 1000000) (hn2 : n2 ≤ 1000000) :
  Calls Tryz.prog 48 #[.slice A n c,.slice A2 n2 c2] w (SameIs (l = l2) w):=by
 have hnl:=hl.1
 have hnl2:=hl2.1
 by_cases hnn : n = n2
 case neg=>
  have hne : ¬ l = l2:=fun e=>hnn (by rw [hnl,hnl2,e])
  have d0 : ((n : Int) != (n2 : Int)) = true:=by simp; omega
  clear hl hl2 hnl hnl2
  have HNE:=Lib.hid hne
  clear hne
  go_enter Tryz.func48,Tryz.ntmps48
  go_wp2_with fail
  go_ret
  exact ⟨false,by simpa using HNE.out,rfl,0,rfl⟩
 subst hnn
 have HL:=Lib.hid hl
 have HL2:=Lib.hid hl2
 have HNL:=Lib.hid hnl
 have HNL2:=Lib.hid hnl2
 clear hl hl2 hnl hnl2
 go_enter Tryz.func48,Tryz.ntmps48
 go_wp2_with fail
 go_loopw [5] (fun i wr=>SmRel l l2 n w i wr) (fun i _=>n - (intOf i).toNat)
 case atStart=>exact ⟨0,0,Nat.zero_le _,rfl,rfl,rfl⟩
 case round=>
  obtain ⟨k,m,hkn,rfl,htk,rfl⟩:=hrel
  by_cases hk : k < n
  ·obtain ⟨b,off,d,rfl,_,hd,hcell⟩:=HL.out.at_ encEv_len hk
   obtain ⟨b2,off2,d2,rfl,_,hd2,hcell2⟩:=HL2.out.at_ encEv_len hk
   have hki : (0 : Int) ≤ (k : Int):=by omega
   have hki2 : (k : Int) < (n : Int):=by omega
   have hr1 : ∀ j,(w.drewN j).rangeAt b (off + k * 7) [.int .i64 d.kind,.int .i64 d.inc,.int .i64 d.frm,.int .i64 d.sInc,.int .i64 d.sIdx,.int .i64 d.ord,.int .i64 d.val]:=fun j=>hcell
   have hr2 : ∀ j,(w.drewN j).rangeAt b2 (off2 + k * 7) [.int .i64 d2.kind,.int .i64 d2.inc,.int .i64 d2.frm,.int .i64 d2.sInc,.int .i64 d2.sIdx,.int .i64 d2.ord,.int .i64 d2.val]:=fun j=>hcell2
   clear hcell hcell2
   have hA : True:=trivial
   have HD:=Lib.hid hd
   have HD2:=Lib.hid hd2
   have HTK:=Lib.hid htk
   have HR1:=Lib.hid hr1
   have HR2:=Lib.hid hr2
   clear hd hd2 htk hr1 hr2
   go_upto_region 6 with fail
   refine wp_region_L 99 (fun _=>True) (fun wx=>∃ j,wx = w.drewN j) (by kernel_rfl) trivial ⟨m + 1,rfl⟩ (fun _ hB=>?_)
   refine wpL_takeB (i:=0) (v:=?_) rfl (by kernel_rfl) (by kernel_rfl) (by kernel_rfl) (by decide) (fun _ _ _ h=>h) (Or.inl ⟨by rfl,?_⟩) (SAB.both hA hB) ?_
   rotate_left
   ·intro wx hBx
    (try dsimp only at hBx)
    go_simp
    try with_reducible rfl
   try simp only [Act.put,List.setIfInBounds_toArray,List.set_cons_zero,List.set_cons_succ]
   refine wpL_takeB (i:=1) (v:=?_) rfl (by kernel_rfl) (by kernel_rfl) (by kernel_rfl) (by decide) (fun _ _ _ h=>h) (Or.inl ⟨by rfl,?_⟩) (SAB.both hA hB) ?_
   rotate_left
   ·intro wx hBx
    (try dsimp only at hBx)
    go_simp
    try with_reducible rfl
   try simp only [Act.put,List.setIfInBounds_toArray,List.set_cons_zero,List.set_cons_succ]
   refine wpL_takeB (i:=2) (v:=?_) rfl (by kernel_rfl) (by kernel_rfl) (by kernel_rfl) (by decide) (fun _ _ _ h=>h) (Or.inl ⟨by rfl,?_⟩) (SAB.both hA hB) ?_
   rotate_left
   ·intro wx hBx
    (try dsimp only at hBx)
    go_simp
    try with_reducible rfl
   try simp only [Act.put,List.setIfInBounds_toArray,List.set_cons_zero,List.set_cons_succ]
   refine wpL_takeB (i:=3) rfl (by kernel_rfl) (by kernel_rfl) (by kernel_rfl) (by decide) (fun _ _ _ h=>h) (yieldsIf_load_mid (by rfl) _ _ rfl b (off + k * 7) rfl [.int .i64 d.kind,.int .i64 d.inc,.int .i64 d.frm,.int .i64 d.sInc,.int .i64 d.sIdx,.int .i64 d.ord,.int .i64 d.val] _ (fun wx hx=>by obtain ⟨j,rfl⟩:=hx; exact HR1.out j) Tryz.underlying89 rfl (by kernel_rfl)) (SAB.both hA hB) ?_
   try simp only [Act.put,List.setIfInBounds_toArray,List.set_cons_zero,List.set_cons_succ]
   refine wpL_takeB (i:=4) (v:=?_) rfl (by kernel_rfl) (by kernel_rfl) (by kernel_rfl) (by decide) (fun _ _ _ h=>h) (Or.inl ⟨by rfl,?_⟩) (SAB.both hA hB) ?_
   rotate_left
   ·intro wx hBx
    (try dsimp only at hBx)
    go_simp
    try with_reducible rfl
   try simp only [Act.put,List.setIfInBounds_toArray,List.set_cons_zero,List.set_cons_succ]
   refine wpL_takeB (i:=5) (v:=?_) rfl (by kernel_rfl) (by kernel_rfl) (by kernel_rfl) (by decide) (fun _ _ _ h=>h) (Or.inl ⟨by rfl,?_⟩) (SAB.both hA hB) ?_
   rotate_left
   ·intro wx hBx
    (try dsimp only at hBx)
    go_simp
    try with_reducible rfl
   try simp only [Act.put,List.setIfInBounds_toArray,List.set_cons_zero,List.set_cons_succ]
   refine wpL_takeB (i:=6) (v:=?_) rfl (by kernel_rfl) (by kernel_rfl) (by kernel_rfl) (by decide) (fun _ _ _ h=>h) (Or.inl ⟨by rfl,?_⟩) (SAB.both hA hB) ?_
   rotate_left
   ·intro wx hBx
    (try dsimp only at hBx)
    go_simp
    try with_reducible rfl
   try simp only [Act.put,List.setIfInBounds_toArray,List.set_cons_zero,List.set_cons_succ]
   refine wpL_takeB (i:=7) rfl (by kernel_rfl) (by kernel_rfl) (by kernel_rfl) (by decide) (fun _ _ _ h=>h) (yieldsIf_load_mid (by rfl) _ _ rfl b2 (off2 + k * 7) rfl [.int .i64 d2.kind,.int .i64 d2.inc,.int .i64 d2.frm,.int .i64 d2.sInc,.int .i64 d2.sIdx,.int .i64 d2.ord,.int .i64 d2.val] _ (fun wx hx=>by obtain ⟨j,rfl⟩:=hx; exact HR2.out j) Tryz.underlying89 rfl (by kernel_rfl)) (SAB.both hA hB) ?_
   try simp only [Act.put,List.setIfInBounds_toArray,List.set_cons_zero,List.set_cons_succ]
   by_cases he : d = d2
   ·subst he
    have ht2:=take_eq HTK.out HD.out HD2.out
    refine wpL_takeB (i:=8) rfl (by kernel_rfl) (by kernel_rfl) (by kernel_rfl) (by decide) (fun _ _ _ h=>h) (yieldsIf_of (by rfl) (.bool false) (fun wx _=>by go_simp)) (SAB.both hA hB) ?_
    try simp only [Act.put,List.setIfInBounds_toArray,List.set_cons_zero,List.set_cons_succ]
    refine wpL_done (by kernel_rfl) ?_
    have HT2:=Lib.hid ht2
    clear ht2
    clear hA hB
    go_wp2_with fail
    go_roundw
    case rel=>exact ⟨k + 1,m + 1,by omega,by go_num,HT2.out,rfl⟩
    case measure=>simp [intOf]; omega
   ·have hne:=ne_at HD.out HD2.out he
    have himp : d.kind = d2.kind → d.inc = d2.inc → d.frm = d2.frm → d.sInc = d2.sInc → d.sIdx = d2.sIdx → d.ord = d2.ord → ¬ d.val = d2.val:=fun h0 h1 h2 h3 h4 h5 h6=>he ((Ev_ext d d2).2 ⟨h0,h1,h2,h3,h4,h5,h6⟩)
    refine wpL_takeB (i:=8) rfl (by kernel_rfl) (by kernel_rfl) (by kernel_rfl) (by decide) (fun _ _ _ h=>h) (yieldsIf_of (by rfl) (.bool true) (fun wx _=>by go_simp; exact himp)) (SAB.both hA hB) ?_
    try simp only [Act.put,List.setIfInBounds_toArray,List.set_cons_zero,List.set_cons_succ]
    refine wpL_done (by kernel_rfl) ?_
    have HNE:=Lib.hid hne
    clear hne
    clear hA hB he himp
    go_wp2_with fail
    go_ret
    exact ⟨false,by simpa using HNE.out,rfl,m + 1,rfl⟩
  ·have hkl : l = l2:=by
    rw [List.take_of_length_le (by have:=HNL.out; omega),List.take_of_length_le (by have:=HNL2.out; omega)] at htk
    exact htk
   have HTK:=Lib.hid htk
   have HKL:=Lib.hid hkl
   clear htk hkl
   go_wp2_with fail
   go_ret
   exact ⟨true,by simpa using HKL.out,rfl,m,rfl⟩
set_option maxHeartbeats 4000000 in
theorem sameSends_is (w : World) (S T : Nat → Prop) (A A2 : Option Addr) (n n2 c c2 : Nat) (l l2 : List Snd) (hl : Sl encSnd 4 w S A n c l) (hl2 : Sl encSnd 4 w T A2 n2 c2 l2) (hn : n ≤ 1000000) (hn2 : n2 ≤ 1000000) :
  Calls Tryz.prog 49 #[.slice A n c,.slice A2 n2 c2] w (SameIs (l = l2) w):=by
 have hnl:=hl.1
 have hnl2:=hl2.1
 by_cases hnn : n = n2
 case neg=>
  have hne : ¬ l = l2:=fun e=>hnn (by rw [hnl,hnl2,e])
  have d0 : ((n : Int) != (n2 : Int)) = true:=by simp; omega
  clear hl hl2 hnl hnl2
  have HNE:=Lib.hid hne
  clear hne
  go_enter Tryz.func49,Tryz.ntmps49
  go_wp2_with fail
  go_ret
  exact ⟨false,by simpa using HNE.out,rfl,0,rfl⟩
 subst hnn
 have HL:=Lib.hid hl
 have HL2:=Lib.hid hl2
 have HNL:=Lib.hid hnl
 have HNL2:=Lib.hid hnl2
 clear hl hl2 hnl hnl2
 go_enter Tryz.func49,Tryz.ntmps49
 go_wp2_with fail
 go_loopw [5] (fun i wr=>SmRel l l2 n w i wr) (fun i _=>n - (intOf i).toNat)
 case atStart=>exact ⟨0,0,Nat.zero_le _,rfl,rfl,rfl⟩
 case round=>
  obtain ⟨k,m,hkn,rfl,htk,rfl⟩:=hrel
  by_cases hk : k < n
  ·obtain ⟨b,off,d,rfl,_,hd,hcell⟩:=HL.out.at_ encSnd_len hk
   obtain ⟨b2,off2,d2,rfl,_,hd2,hcell2⟩:=HL2.out.at_ encSnd_len hk
   have hki : (0 : Int) ≤ (k : Int):=by omega
   have hki2 : (k : Int) < (n : Int):=by omega
   have hr1 : ∀ j,(w.drewN j).rangeAt b (off + k * 4) [.int .i64 d.idx,.int .i64 d.ord,.int .i64 d.to,.int .i64 d.val]:=fun j=>hcell
   have hr2 : ∀ j,(w.drewN j).rangeAt b2 (off2 + k * 4) [.int .i64 d2.idx,.int .i64 d2.ord,.int .i64 d2.to,.int .i64 d2.val]:=fun j=>hcell2
   clear hcell hcell2
   have hA : True:=trivial
   have HD:=Lib.hid hd
   have HD2:=Lib.hid hd2
   have HTK:=Lib.hid htk
   have HR1:=Lib.hid hr1
   have HR2:=Lib.hid hr2
   clear hd hd2 htk hr1 hr2
   go_upto_region 6 with fail
   refine wp_region_L 99 (fun _=>True) (fun wx=>∃ j,wx = w.drewN j) (by kernel_rfl) trivial ⟨m + 1,rfl⟩ (fun _ hB=>?_)
   refine wpL_takeB (i:=0) (v:=?_) rfl (by kernel_rfl) (by kernel_rfl) (by kernel_rfl) (by decide) (fun _ _ _ h=>h) (Or.inl ⟨by rfl,?_⟩) (SAB.both hA hB) ?_
   rotate_left
   ·intro wx hBx
    (try dsimp only at hBx)
    go_simp
    try with_reducible rfl
   try simp only [Act.put,List.setIfInBounds_toArray,List.set_cons_zero,List.set_cons_succ]
   refine wpL_takeB (i:=1) (v:=?_) rfl (by kernel_rfl) (by kernel_rfl) (by kernel_rfl) (by decide) (fun _ _ _ h=>h) (Or.inl ⟨by rfl,?_⟩) (SAB.both hA hB) ?_
   rotate_left
   ·intro wx hBx
    (try dsimp only at hBx)
    go_simp
    try with_reducible rfl
   try simp only [Act.put,List.setIfInBounds_toArray,List.set_cons_zero,List.set_cons_succ]
   refine wpL_takeB (i:=2) (v:=?_) rfl (by kernel_rfl) (by kernel_rfl) (by kernel_rfl) (by decide) (fun _ _ _ h=>h) (Or.inl ⟨by rfl,?_⟩) (SAB.both hA hB) ?_
   rotate_left
   ·intro wx hBx
    (try dsimp only at hBx)
    go_simp
    try with_reducible rfl
   try simp only [Act.put,List.setIfInBounds_toArray,List.set_cons_zero,List.set_cons_succ]
   refine wpL_takeB (i:=3) rfl (by kernel_rfl) (by kernel_rfl) (by kernel_rfl) (by decide) (fun _ _ _ h=>h) (yieldsIf_load_mid (by rfl) _ _ rfl b (off + k * 4) rfl [.int .i64 d.idx,.int .i64 d.ord,.int .i64 d.to,.int .i64 d.val] _ (fun wx hx=>by obtain ⟨j,rfl⟩:=hx; exact HR1.out j) Tryz.underlying92 rfl (by kernel_rfl)) (SAB.both hA hB) ?_
   try simp only [Act.put,List.setIfInBounds_toArray,List.set_cons_zero,List.set_cons_succ]
   refine wpL_takeB (i:=4) (v:=?_) rfl (by kernel_rfl) (by kernel_rfl) (by kernel_rfl) (by decide) (fun _ _ _ h=>h) (Or.inl ⟨by rfl,?_⟩) (SAB.both hA hB) ?_
   rotate_left
   ·intro wx hBx
    (try dsimp only at hBx)
    go_simp
    try with_reducible rfl
   try simp only [Act.put,List.setIfInBounds_toArray,List.set_cons_zero,List.set_cons_succ]
   refine wpL_takeB (i:=5) (v:=?_) rfl (by kernel_rfl) (by kernel_rfl) (by kernel_rfl) (by decide) (fun _ _ _ h=>h) (Or.inl ⟨by rfl,?_⟩) (SAB.both hA hB) ?_
   rotate_left
   ·intro wx hBx
    (try dsimp only at hBx)
    go_simp
    try with_reducible rfl
   try simp only [Act.put,List.setIfInBounds_toArray,List.set_cons_zero,List.set_cons_succ]
   refine wpL_takeB (i:=6) (v:=?_) rfl (by kernel_rfl) (by kernel_rfl) (by kernel_rfl) (by decide) (fun _ _ _ h=>h) (Or.inl ⟨by rfl,?_⟩) (SAB.both hA hB) ?_
   rotate_left
   ·intro wx hBx
    (try dsimp only at hBx)
    go_simp
    try with_reducible rfl
   try simp only [Act.put,List.setIfInBounds_toArray,List.set_cons_zero,List.set_cons_succ]
   refine wpL_takeB (i:=7) rfl (by kernel_rfl) (by kernel_rfl) (by kernel_rfl) (by decide) (fun _ _ _ h=>h) (yieldsIf_load_mid (by rfl) _ _ rfl b2 (off2 + k * 4) rfl [.int .i64 d2.idx,.int .i64 d2.ord,.int .i64 d2.to,.int .i64 d2.val] _ (fun wx hx=>by obtain ⟨j,rfl⟩:=hx; exact HR2.out j) Tryz.underlying92 rfl (by kernel_rfl)) (SAB.both hA hB) ?_
   try simp only [Act.put,List.setIfInBounds_toArray,List.set_cons_zero,List.set_cons_succ]
   by_cases he : d = d2
   ·subst he
    have ht2:=take_eq HTK.out HD.out HD2.out
    refine wpL_takeB (i:=8) rfl (by kernel_rfl) (by kernel_rfl) (by kernel_rfl) (by decide) (fun _ _ _ h=>h) (yieldsIf_of (by rfl) (.bool false) (fun wx _=>by go_simp)) (SAB.both hA hB) ?_
    try simp only [Act.put,List.setIfInBounds_toArray,List.set_cons_zero,List.set_cons_succ]
    refine wpL_done (by kernel_rfl) ?_
    have HT2:=Lib.hid ht2
    clear ht2
    clear hA hB
    go_wp2_with fail
    go_roundw
    case rel=>exact ⟨k + 1,m + 1,by omega,by go_num,HT2.out,rfl⟩
    case measure=>simp [intOf]; omega
   ·have hne:=ne_at HD.out HD2.out he
    have himp : d.idx = d2.idx → d.ord = d2.ord → d.to = d2.to → ¬ d.val = d2.val:=fun h0 h1 h2 h3=>he ((Snd_ext d d2).2 ⟨h0,h1,h2,h3⟩)
    refine wpL_takeB (i:=8) rfl (by kernel_rfl) (by kernel_rfl) (by kernel_rfl) (by decide) (fun _ _ _ h=>h) (yieldsIf_of (by rfl) (.bool true) (fun wx _=>by go_simp; exact himp)) (SAB.both hA hB) ?_
    try simp only [Act.put,List.setIfInBounds_toArray,List.set_cons_zero,List.set_cons_succ]
    refine wpL_done (by kernel_rfl) ?_
    have HNE:=Lib.hid hne
    clear hne
    clear hA hB he himp
    go_wp2_with fail
    go_ret
    exact ⟨false,by simpa using HNE.out,rfl,m + 1,rfl⟩
  ·have hkl : l = l2:=by
    rw [List.take_of_length_le (by have:=HNL.out; omega),List.take_of_length_le (by have:=HNL2.out; omega)] at htk
    exact htk
   have HTK:=Lib.hid htk
   have HKL:=Lib.hid hkl
   clear htk hkl
   go_wp2_with fail
   go_ret
   exact ⟨true,by simpa using HKL.out,rfl,m,rfl⟩
set_option maxHeartbeats 4000000 in
theorem sameOuts_is (w : World) (S T : Nat → Prop) (A A2 : Option Addr) (n n2 c c2 : Nat) (l l2 : List Outp) (hl : Sl encOut 2 w S A n c l) (hl2 : Sl encOut 2 w T A2 n2 c2 l2) (hn : n ≤ 1000000) (hn2 : n2 ≤ 1000000) :
  Calls Tryz.prog 50 #[.slice A n c,.slice A2 n2 c2] w (SameIs (l = l2) w):=by
 have hnl:=hl.1
 have hnl2:=hl2.1
 by_cases hnn : n = n2
 case neg=>
  have hne : ¬ l = l2:=fun e=>hnn (by rw [hnl,hnl2,e])
  have d0 : ((n : Int) != (n2 : Int)) = true:=by simp; omega
  clear hl hl2 hnl hnl2
  have HNE:=Lib.hid hne
  clear hne
  go_enter Tryz.func50,Tryz.ntmps50
  go_wp2_with fail
  go_ret
  exact ⟨false,by simpa using HNE.out,rfl,0,rfl⟩
 subst hnn
 have HL:=Lib.hid hl
 have HL2:=Lib.hid hl2
 have HNL:=Lib.hid hnl
 have HNL2:=Lib.hid hnl2
 clear hl hl2 hnl hnl2
 go_enter Tryz.func50,Tryz.ntmps50
 go_wp2_with fail
 go_loopw [5] (fun i wr=>SmRel l l2 n w i wr) (fun i _=>n - (intOf i).toNat)
 case atStart=>exact ⟨0,0,Nat.zero_le _,rfl,rfl,rfl⟩
 case round=>
  obtain ⟨k,m,hkn,rfl,htk,rfl⟩:=hrel
  by_cases hk : k < n
  ·obtain ⟨b,off,d,rfl,_,hd,hcell⟩:=HL.out.at_ encOut_len hk
   obtain ⟨b2,off2,d2,rfl,_,hd2,hcell2⟩:=HL2.out.at_ encOut_len hk
   have hki : (0 : Int) ≤ (k : Int):=by omega
   have hki2 : (k : Int) < (n : Int):=by omega
   have hr1 : ∀ j,(w.drewN j).rangeAt b (off + k * 2) [.int .i64 d.idx,.int .i64 d.val]:=fun j=>hcell
   have hr2 : ∀ j,(w.drewN j).rangeAt b2 (off2 + k * 2) [.int .i64 d2.idx,.int .i64 d2.val]:=fun j=>hcell2
   clear hcell hcell2
   have hA : True:=trivial
   have HD:=Lib.hid hd
   have HD2:=Lib.hid hd2
   have HTK:=Lib.hid htk
   have HR1:=Lib.hid hr1
   have HR2:=Lib.hid hr2
   clear hd hd2 htk hr1 hr2
   go_upto_region 6 with fail
   refine wp_region_L 99 (fun _=>True) (fun wx=>∃ j,wx = w.drewN j) (by kernel_rfl) trivial ⟨m + 1,rfl⟩ (fun _ hB=>?_)
   refine wpL_takeB (i:=0) (v:=?_) rfl (by kernel_rfl) (by kernel_rfl) (by kernel_rfl) (by decide) (fun _ _ _ h=>h) (Or.inl ⟨by rfl,?_⟩) (SAB.both hA hB) ?_
   rotate_left
   ·intro wx hBx
    (try dsimp only at hBx)
    go_simp
    try with_reducible rfl
   try simp only [Act.put,List.setIfInBounds_toArray,List.set_cons_zero,List.set_cons_succ]
   refine wpL_takeB (i:=1) (v:=?_) rfl (by kernel_rfl) (by kernel_rfl) (by kernel_rfl) (by decide) (fun _ _ _ h=>h) (Or.inl ⟨by rfl,?_⟩) (SAB.both hA hB) ?_
   rotate_left
   ·intro wx hBx
    (try dsimp only at hBx)
    go_simp
    try with_reducible rfl
   try simp only [Act.put,List.setIfInBounds_toArray,List.set_cons_zero,List.set_cons_succ]
   refine wpL_takeB (i:=2) (v:=?_) rfl (by kernel_rfl) (by kernel_rfl) (by kernel_rfl) (by decide) (fun _ _ _ h=>h) (Or.inl ⟨by rfl,?_⟩) (SAB.both hA hB) ?_
   rotate_left
   ·intro wx hBx
    (try dsimp only at hBx)
    go_simp
    try with_reducible rfl
   try simp only [Act.put,List.setIfInBounds_toArray,List.set_cons_zero,List.set_cons_succ]
   refine wpL_takeB (i:=3) rfl (by kernel_rfl) (by kernel_rfl) (by kernel_rfl) (by decide) (fun _ _ _ h=>h) (yieldsIf_load_mid (by rfl) _ _ rfl b (off + k * 2) rfl [.int .i64 d.idx,.int .i64 d.val] _ (fun wx hx=>by obtain ⟨j,rfl⟩:=hx; exact HR1.out j) Tryz.underlying52 rfl (by kernel_rfl)) (SAB.both hA hB) ?_
   try simp only [Act.put,List.setIfInBounds_toArray,List.set_cons_zero,List.set_cons_succ]
   refine wpL_takeB (i:=4) (v:=?_) rfl (by kernel_rfl) (by kernel_rfl) (by kernel_rfl) (by decide) (fun _ _ _ h=>h) (Or.inl ⟨by rfl,?_⟩) (SAB.both hA hB) ?_
   rotate_left
   ·intro wx hBx
    (try dsimp only at hBx)
    go_simp
    try with_reducible rfl
   try simp only [Act.put,List.setIfInBounds_toArray,List.set_cons_zero,List.set_cons_succ]
   refine wpL_takeB (i:=5) (v:=?_) rfl (by kernel_rfl) (by kernel_rfl) (by kernel_rfl) (by decide) (fun _ _ _ h=>h) (Or.inl ⟨by rfl,?_⟩) (SAB.both hA hB) ?_
   rotate_left
   ·intro wx hBx
    (try dsimp only at hBx)
    go_simp
    try with_reducible rfl
   try simp only [Act.put,List.setIfInBounds_toArray,List.set_cons_zero,List.set_cons_succ]
   refine wpL_takeB (i:=6) (v:=?_) rfl (by kernel_rfl) (by kernel_rfl) (by kernel_rfl) (by decide) (fun _ _ _ h=>h) (Or.inl ⟨by rfl,?_⟩) (SAB.both hA hB) ?_
   rotate_left
   ·intro wx hBx
    (try dsimp only at hBx)
    go_simp
    try with_reducible rfl
   try simp only [Act.put,List.setIfInBounds_toArray,List.set_cons_zero,List.set_cons_succ]
   refine wpL_takeB (i:=7) rfl (by kernel_rfl) (by kernel_rfl) (by kernel_rfl) (by decide) (fun _ _ _ h=>h) (yieldsIf_load_mid (by rfl) _ _ rfl b2 (off2 + k * 2) rfl [.int .i64 d2.idx,.int .i64 d2.val] _ (fun wx hx=>by obtain ⟨j,rfl⟩:=hx; exact HR2.out j) Tryz.underlying52 rfl (by kernel_rfl)) (SAB.both hA hB) ?_
   try simp only [Act.put,List.setIfInBounds_toArray,List.set_cons_zero,List.set_cons_succ]
   by_cases he : d = d2
   ·subst he
    have ht2:=take_eq HTK.out HD.out HD2.out
    refine wpL_takeB (i:=8) rfl (by kernel_rfl) (by kernel_rfl) (by kernel_rfl) (by decide) (fun _ _ _ h=>h) (yieldsIf_of (by rfl) (.bool false) (fun wx _=>by go_simp)) (SAB.both hA hB) ?_
    try simp only [Act.put,List.setIfInBounds_toArray,List.set_cons_zero,List.set_cons_succ]
    refine wpL_done (by kernel_rfl) ?_
    have HT2:=Lib.hid ht2
    clear ht2
    clear hA hB
    go_wp2_with fail
    go_roundw
    case rel=>exact ⟨k + 1,m + 1,by omega,by go_num,HT2.out,rfl⟩
    case measure=>simp [intOf]; omega
   ·have hne:=ne_at HD.out HD2.out he
    have himp : d.idx = d2.idx → ¬ d.val = d2.val:=fun h0 h1=>he ((Outp_ext d d2).2 ⟨h0,h1⟩)
    refine wpL_takeB (i:=8) rfl (by kernel_rfl) (by kernel_rfl) (by kernel_rfl) (by decide) (fun _ _ _ h=>h) (yieldsIf_of (by rfl) (.bool true) (fun wx _=>by go_simp; exact himp)) (SAB.both hA hB) ?_
    try simp only [Act.put,List.setIfInBounds_toArray,List.set_cons_zero,List.set_cons_succ]
    refine wpL_done (by kernel_rfl) ?_
    have HNE:=Lib.hid hne
    clear hne
    clear hA hB he himp
    go_wp2_with fail
    go_ret
    exact ⟨false,by simpa using HNE.out,rfl,m + 1,rfl⟩
  ·have hkl : l = l2:=by
    rw [List.take_of_length_le (by have:=HNL.out; omega),List.take_of_length_le (by have:=HNL2.out; omega)] at htk
    exact htk
   have HTK:=Lib.hid htk
   have HKL:=Lib.hid hkl
   clear htk hkl
   go_wp2_with fail
   go_ret
   exact ⟨true,by simpa using HKL.out,rfl,m,rfl⟩
set_option maxHeartbeats 4000000 in
theorem equalInts_is (w : World) (S T : Nat → Prop) (A A2 : Option Addr) (n n2 c c2 : Nat) (l l2 : List Int) (hl : Sl encI 1 w S A n c l) (hl2 : Sl encI 1 w T A2 n2 c2 l2) (hn : n ≤ 1000000) (hn2 : n2 ≤ 1000000) :
  Calls Tryz.prog 30 #[.slice A n c,.slice A2 n2 c2] w (SameIs (l = l2) w):=by
 have hnl:=hl.1
 have hnl2:=hl2.1
 by_cases hnn : n = n2
 case neg=>
  have hne : ¬ l = l2:=fun e=>hnn (by rw [hnl,hnl2,e])
  have d0 : ((n : Int) != (n2 : Int)) = true:=by simp; omega
  clear hl hl2 hnl hnl2
  have HNE:=Lib.hid hne
  clear hne
  go_enter Tryz.func30,Tryz.ntmps30
  go_wp2_with fail
  go_ret
  exact ⟨false,by simpa using HNE.out,rfl,0,rfl⟩
 subst hnn
 have HL:=Lib.hid hl
 have HL2:=Lib.hid hl2
 have HNL:=Lib.hid hnl
 have HNL2:=Lib.hid hnl2
 clear hl hl2 hnl hnl2
 go_enter Tryz.func30,Tryz.ntmps30
 go_wp2_with fail
 go_loopw [13] (fun i wr=>SmRel l l2 n w i wr) (fun i _=>n - (intOf i).toNat)
 case atStart=>exact ⟨0,0,Nat.zero_le _,rfl,rfl,rfl⟩
 case round=>
  obtain ⟨k,m,hkn,rfl,htk,rfl⟩:=hrel
  by_cases hk : k < n
  ·obtain ⟨b,off,d,rfl,_,hd,hcell⟩:=HL.out.at_ encI_len hk
   obtain ⟨b2,off2,d2,rfl,_,hd2,hcell2⟩:=HL2.out.at_ encI_len hk
   have hki : (0 : Int) ≤ (k : Int):=by omega
   have hki2 : (k : Int) < (n : Int):=by omega
   have p0:=hcell 0 _ rfl
   have q0:=hcell2 0 _ rfl
   clear hcell hcell2
   simp only [Nat.add_zero,Nat.mul_one] at p0 q0
   by_cases he : d = d2
   ·subst he
    have ht2:=take_eq htk hd hd2
    have HD:=Lib.hid hd
    have HD2:=Lib.hid hd2
    have HTK:=Lib.hid htk
    have HT2:=Lib.hid ht2
    clear hd hd2 htk ht2
    go_wp2_with fail
    go_quiet (fail)
    go_wp2_with fail
    go_roundw
    case rel=>exact ⟨k + 1,_,by omega,by go_num,HT2.out,rfl⟩
    case measure=>simp [intOf]; omega
   ·have hq : (d != d2) = true:=by simpa using he
    have hne:=ne_at hd hd2 he
    have HD:=Lib.hid hd
    have HD2:=Lib.hid hd2
    have HTK:=Lib.hid htk
    have HNE:=Lib.hid hne
    clear hd hd2 htk hne
    clear he
    go_wp2_with fail
    go_quiet (fail)
    go_wp2_with fail
    go_ret
    exact ⟨false,by simpa using HNE.out,rfl,_,World.drewN_drewN _ _ _⟩
  ·have hkl : l = l2:=by
    rw [List.take_of_length_le (by have:=HNL.out; omega),List.take_of_length_le (by have:=HNL2.out; omega)] at htk
    exact htk
   have HTK:=Lib.hid htk
   have HKL:=Lib.hid hkl
   clear htk hkl
   go_wp2_with fail
   go_ret
   exact ⟨true,by simpa using HKL.out,rfl,m,rfl⟩
set_option maxHeartbeats 4000000 in
theorem equalEvents_is (w : World) (S T : Nat → Prop) (A A2 : Option Addr) (n n2 c c2 : Nat) (l l2 : List Ev) (hl : Sl encEv 7 w S A n c l) (hl2 : Sl encEv 7 w T A2 n2 c2 l2) (hn : n ≤ 1000000) (hn2 : n2 ≤ 1000000) :
  Calls Tryz.prog 31 #[.slice A n c,.slice A2 n2 c2] w (SameIs (l = l2) w):=by
 have hnl:=hl.1
 have hnl2:=hl2.1
 by_cases hnn : n = n2
 case neg=>
  have hne : ¬ l = l2:=fun e=>hnn (by rw [hnl,hnl2,e])
  have d0 : ((n : Int) != (n2 : Int)) = true:=by simp; omega
  clear hl hl2 hnl hnl2
  have HNE:=Lib.hid hne
  clear hne
  go_enter Tryz.func31,Tryz.ntmps31
  go_wp2_with fail
  go_ret
  exact ⟨false,by simpa using HNE.out,rfl,0,rfl⟩
 subst hnn
 have HL:=Lib.hid hl
 have HL2:=Lib.hid hl2
 have HNL:=Lib.hid hnl
 have HNL2:=Lib.hid hnl2
 clear hl hl2 hnl hnl2
 go_enter Tryz.func31,Tryz.ntmps31
 go_wp2_with fail
 go_loopw [13] (fun i wr=>SmRel l l2 n w i wr) (fun i _=>n - (intOf i).toNat)
 case atStart=>exact ⟨0,0,Nat.zero_le _,rfl,rfl,rfl⟩
 case round=>
  obtain ⟨k,m,hkn,rfl,htk,rfl⟩:=hrel
  by_cases hk : k < n
  ·obtain ⟨b,off,d,rfl,_,hd,hcell⟩:=HL.out.at_ encEv_len hk
   obtain ⟨b2,off2,d2,rfl,_,hd2,hcell2⟩:=HL2.out.at_ encEv_len hk
   have hki : (0 : Int) ≤ (k : Int):=by omega
   have hki2 : (k : Int) < (n : Int):=by omega
   have hr1 : ∀ j,(w.drewN j).rangeAt b (off + k * 7) [.int .i64 d.kind,.int .i64 d.inc,.int .i64 d.frm,.int .i64 d.sInc,.int .i64 d.sIdx,.int .i64 d.ord,.int .i64 d.val]:=fun j=>hcell
   have hr2 : ∀ j,(w.drewN j).rangeAt b2 (off2 + k * 7) [.int .i64 d2.kind,.int .i64 d2.inc,.int .i64 d2.frm,.int .i64 d2.sInc,.int .i64 d2.sIdx,.int .i64 d2.ord,.int .i64 d2.val]:=fun j=>hcell2
   clear hcell hcell2
   have hA : True:=trivial
   have HD:=Lib.hid hd
   have HD2:=Lib.hid hd2
   have HTK:=Lib.hid htk
   have HR1:=Lib.hid hr1
   have HR2:=Lib.hid hr2
   clear hd hd2 htk hr1 hr2
   go_upto_region 6 with fail
   refine wp_region_L 99 (fun _=>True) (fun wx=>∃ j,wx = w.drewN j) (by kernel_rfl) trivial ⟨m + 1,rfl⟩ (fun _ hB=>?_)
   refine wpL_takeB (i:=0) (v:=?_) rfl (by kernel_rfl) (by kernel_rfl) (by kernel_rfl) (by decide) (fun _ _ _ h=>h) (Or.inl ⟨by rfl,?_⟩) (SAB.both hA hB) ?_
   rotate_left
   ·intro wx hBx
    (try dsimp only at hBx)
    go_simp
    try with_reducible rfl
   try simp only [Act.put,List.setIfInBounds_toArray,List.set_cons_zero,List.set_cons_succ]
   refine wpL_takeB (i:=1) (v:=?_) rfl (by kernel_rfl) (by kernel_rfl) (by kernel_rfl) (by decide) (fun _ _ _ h=>h) (Or.inl ⟨by rfl,?_⟩) (SAB.both hA hB) ?_
   rotate_left
   ·intro wx hBx
    (try dsimp only at hBx)
    go_simp
    try with_reducible rfl
   try simp only [Act.put,List.setIfInBounds_toArray,List.set_cons_zero,List.set_cons_succ]
   refine wpL_takeB (i:=2) (v:=?_) rfl (by kernel_rfl) (by kernel_rfl) (by kernel_rfl) (by decide) (fun _ _ _ h=>h) (Or.inl ⟨by rfl,?_⟩) (SAB.both hA hB) ?_
   rotate_left
   ·intro wx hBx
    (try dsimp only at hBx)
    go_simp
    try with_reducible rfl
   try simp only [Act.put,List.setIfInBounds_toArray,List.set_cons_zero,List.set_cons_succ]
   refine wpL_takeB (i:=3) rfl (by kernel_rfl) (by kernel_rfl) (by kernel_rfl) (by decide) (fun _ _ _ h=>h) (yieldsIf_load_mid (by rfl) _ _ rfl b (off + k * 7) rfl [.int .i64 d.kind,.int .i64 d.inc,.int .i64 d.frm,.int .i64 d.sInc,.int .i64 d.sIdx,.int .i64 d.ord,.int .i64 d.val] _ (fun wx hx=>by obtain ⟨j,rfl⟩:=hx; exact HR1.out j) Tryz.underlying89 rfl (by kernel_rfl)) (SAB.both hA hB) ?_
   try simp only [Act.put,List.setIfInBounds_toArray,List.set_cons_zero,List.set_cons_succ]
   refine wpL_takeB (i:=4) (v:=?_) rfl (by kernel_rfl) (by kernel_rfl) (by kernel_rfl) (by decide) (fun _ _ _ h=>h) (Or.inl ⟨by rfl,?_⟩) (SAB.both hA hB) ?_
   rotate_left
   ·intro wx hBx
    (try dsimp only at hBx)
    go_simp
    try with_reducible rfl
   try simp only [Act.put,List.setIfInBounds_toArray,List.set_cons_zero,List.set_cons_succ]
   refine wpL_takeB (i:=5) (v:=?_) rfl (by kernel_rfl) (by kernel_rfl) (by kernel_rfl) (by decide) (fun _ _ _ h=>h) (Or.inl ⟨by rfl,?_⟩) (SAB.both hA hB) ?_
   rotate_left
   ·intro wx hBx
    (try dsimp only at hBx)
    go_simp
    try with_reducible rfl
   try simp only [Act.put,List.setIfInBounds_toArray,List.set_cons_zero,List.set_cons_succ]
   refine wpL_takeB (i:=6) (v:=?_) rfl (by kernel_rfl) (by kernel_rfl) (by kernel_rfl) (by decide) (fun _ _ _ h=>h) (Or.inl ⟨by rfl,?_⟩) (SAB.both hA hB) ?_
   rotate_left
   ·intro wx hBx
    (try dsimp only at hBx)
    go_simp
    try with_reducible rfl
   try simp only [Act.put,List.setIfInBounds_toArray,List.set_cons_zero,List.set_cons_succ]
   refine wpL_takeB (i:=7) rfl (by kernel_rfl) (by kernel_rfl) (by kernel_rfl) (by decide) (fun _ _ _ h=>h) (yieldsIf_load_mid (by rfl) _ _ rfl b2 (off2 + k * 7) rfl [.int .i64 d2.kind,.int .i64 d2.inc,.int .i64 d2.frm,.int .i64 d2.sInc,.int .i64 d2.sIdx,.int .i64 d2.ord,.int .i64 d2.val] _ (fun wx hx=>by obtain ⟨j,rfl⟩:=hx; exact HR2.out j) Tryz.underlying89 rfl (by kernel_rfl)) (SAB.both hA hB) ?_
   try simp only [Act.put,List.setIfInBounds_toArray,List.set_cons_zero,List.set_cons_succ]
   by_cases he : d = d2
   ·subst he
    have ht2:=take_eq HTK.out HD.out HD2.out
    refine wpL_takeB (i:=8) rfl (by kernel_rfl) (by kernel_rfl) (by kernel_rfl) (by decide) (fun _ _ _ h=>h) (yieldsIf_of (by rfl) (.bool false) (fun wx _=>by go_simp)) (SAB.both hA hB) ?_
    try simp only [Act.put,List.setIfInBounds_toArray,List.set_cons_zero,List.set_cons_succ]
    refine wpL_done (by kernel_rfl) ?_
    have HT2:=Lib.hid ht2
    clear ht2
    clear hA hB
    go_wp2_with fail
    go_roundw
    case rel=>exact ⟨k + 1,m + 1,by omega,by go_num,HT2.out,rfl⟩
    case measure=>simp [intOf]; omega
   ·have hne:=ne_at HD.out HD2.out he
    have himp : d.kind = d2.kind → d.inc = d2.inc → d.frm = d2.frm → d.sInc = d2.sInc → d.sIdx = d2.sIdx → d.ord = d2.ord → ¬ d.val = d2.val:=fun h0 h1 h2 h3 h4 h5 h6=>he ((Ev_ext d d2).2 ⟨h0,h1,h2,h3,h4,h5,h6⟩)
    refine wpL_takeB (i:=8) rfl (by kernel_rfl) (by kernel_rfl) (by kernel_rfl) (by decide) (fun _ _ _ h=>h) (yieldsIf_of (by rfl) (.bool true) (fun wx _=>by go_simp; exact himp)) (SAB.both hA hB) ?_
    try simp only [Act.put,List.setIfInBounds_toArray,List.set_cons_zero,List.set_cons_succ]
    refine wpL_done (by kernel_rfl) ?_
    have HNE:=Lib.hid hne
    clear hne
    clear hA hB he himp
    go_wp2_with fail
    go_ret
    exact ⟨false,by simpa using HNE.out,rfl,m + 1,rfl⟩
  ·have hkl : l = l2:=by
    rw [List.take_of_length_le (by have:=HNL.out; omega),List.take_of_length_le (by have:=HNL2.out; omega)] at htk
    exact htk
   have HTK:=Lib.hid htk
   have HKL:=Lib.hid hkl
   clear htk hkl
   go_wp2_with fail
   go_ret
   exact ⟨true,by simpa using HKL.out,rfl,m,rfl⟩
set_option maxHeartbeats 4000000 in
theorem equalSends_is (w : World) (S T : Nat → Prop) (A A2 : Option Addr) (n n2 c c2 : Nat) (l l2 : List Snd) (hl : Sl encSnd 4 w S A n c l) (hl2 : Sl encSnd 4 w T A2 n2 c2 l2) (hn : n ≤ 1000000) (hn2 : n2 ≤ 1000000) :
  Calls Tryz.prog 32 #[.slice A n c,.slice A2 n2 c2] w (SameIs (l = l2) w):=by
 have hnl:=hl.1
 have hnl2:=hl2.1
 by_cases hnn : n = n2
 case neg=>
  have hne : ¬ l = l2:=fun e=>hnn (by rw [hnl,hnl2,e])
  have d0 : ((n : Int) != (n2 : Int)) = true:=by simp; omega
  clear hl hl2 hnl hnl2
  have HNE:=Lib.hid hne
  clear hne
  go_enter Tryz.func32,Tryz.ntmps32
  go_wp2_with fail
  go_ret
  exact ⟨false,by simpa using HNE.out,rfl,0,rfl⟩
 subst hnn
 have HL:=Lib.hid hl
 have HL2:=Lib.hid hl2
 have HNL:=Lib.hid hnl
 have HNL2:=Lib.hid hnl2
 clear hl hl2 hnl hnl2
 go_enter Tryz.func32,Tryz.ntmps32
 go_wp2_with fail
 go_loopw [13] (fun i wr=>SmRel l l2 n w i wr) (fun i _=>n - (intOf i).toNat)
 case atStart=>exact ⟨0,0,Nat.zero_le _,rfl,rfl,rfl⟩
 case round=>
  obtain ⟨k,m,hkn,rfl,htk,rfl⟩:=hrel
  by_cases hk : k < n
  ·obtain ⟨b,off,d,rfl,_,hd,hcell⟩:=HL.out.at_ encSnd_len hk
   obtain ⟨b2,off2,d2,rfl,_,hd2,hcell2⟩:=HL2.out.at_ encSnd_len hk
   have hki : (0 : Int) ≤ (k : Int):=by omega
   have hki2 : (k : Int) < (n : Int):=by omega
   have hr1 : ∀ j,(w.drewN j).rangeAt b (off + k * 4) [.int .i64 d.idx,.int .i64 d.ord,.int .i64 d.to,.int .i64 d.val]:=fun j=>hcell
   have hr2 : ∀ j,(w.drewN j).rangeAt b2 (off2 + k * 4) [.int .i64 d2.idx,.int .i64 d2.ord,.int .i64 d2.to,.int .i64 d2.val]:=fun j=>hcell2
   clear hcell hcell2
   have hA : True:=trivial
   have HD:=Lib.hid hd
   have HD2:=Lib.hid hd2
   have HTK:=Lib.hid htk
   have HR1:=Lib.hid hr1
   have HR2:=Lib.hid hr2
   clear hd hd2 htk hr1 hr2
   go_upto_region 6 with fail
   refine wp_region_L 99 (fun _=>True) (fun wx=>∃ j,wx = w.drewN j) (by kernel_rfl) trivial ⟨m + 1,rfl⟩ (fun _ hB=>?_)
   refine wpL_takeB (i:=0) (v:=?_) rfl (by kernel_rfl) (by kernel_rfl) (by kernel_rfl) (by decide) (fun _ _ _ h=>h) (Or.inl ⟨by rfl,?_⟩) (SAB.both hA hB) ?_
   rotate_left
   ·intro wx hBx
    (try dsimp only at hBx)
    go_simp
    try with_reducible rfl
   try simp only [Act.put,List.setIfInBounds_toArray,List.set_cons_zero,List.set_cons_succ]
   refine wpL_takeB (i:=1) (v:=?_) rfl (by kernel_rfl) (by kernel_rfl) (by kernel_rfl) (by decide) (fun _ _ _ h=>h) (Or.inl ⟨by rfl,?_⟩) (SAB.both hA hB) ?_
   rotate_left
   ·intro wx hBx
    (try dsimp only at hBx)
    go_simp
    try with_reducible rfl
   try simp only [Act.put,List.setIfInBounds_toArray,List.set_cons_zero,List.set_cons_succ]
   refine wpL_takeB (i:=2) (v:=?_) rfl (by kernel_rfl) (by kernel_rfl) (by kernel_rfl) (by decide) (fun _ _ _ h=>h) (Or.inl ⟨by rfl,?_⟩) (SAB.both hA hB) ?_
   rotate_left
   ·intro wx hBx
    (try dsimp only at hBx)
    go_simp
    try with_reducible rfl
   try simp only [Act.put,List.setIfInBounds_toArray,List.set_cons_zero,List.set_cons_succ]
   refine wpL_takeB (i:=3) rfl (by kernel_rfl) (by kernel_rfl) (by kernel_rfl) (by decide) (fun _ _ _ h=>h) (yieldsIf_load_mid (by rfl) _ _ rfl b (off + k * 4) rfl [.int .i64 d.idx,.int .i64 d.ord,.int .i64 d.to,.int .i64 d.val] _ (fun wx hx=>by obtain ⟨j,rfl⟩:=hx; exact HR1.out j) Tryz.underlying92 rfl (by kernel_rfl)) (SAB.both hA hB) ?_
   try simp only [Act.put,List.setIfInBounds_toArray,List.set_cons_zero,List.set_cons_succ]
   refine wpL_takeB (i:=4) (v:=?_) rfl (by kernel_rfl) (by kernel_rfl) (by kernel_rfl) (by decide) (fun _ _ _ h=>h) (Or.inl ⟨by rfl,?_⟩) (SAB.both hA hB) ?_
   rotate_left
   ·intro wx hBx
    (try dsimp only at hBx)
    go_simp
    try with_reducible rfl
   try simp only [Act.put,List.setIfInBounds_toArray,List.set_cons_zero,List.set_cons_succ]
   refine wpL_takeB (i:=5) (v:=?_) rfl (by kernel_rfl) (by kernel_rfl) (by kernel_rfl) (by decide) (fun _ _ _ h=>h) (Or.inl ⟨by rfl,?_⟩) (SAB.both hA hB) ?_
   rotate_left
   ·intro wx hBx
    (try dsimp only at hBx)
    go_simp
    try with_reducible rfl
   try simp only [Act.put,List.setIfInBounds_toArray,List.set_cons_zero,List.set_cons_succ]
   refine wpL_takeB (i:=6) (v:=?_) rfl (by kernel_rfl) (by kernel_rfl) (by kernel_rfl) (by decide) (fun _ _ _ h=>h) (Or.inl ⟨by rfl,?_⟩) (SAB.both hA hB) ?_
   rotate_left
   ·intro wx hBx
    (try dsimp only at hBx)
    go_simp
    try with_reducible rfl
   try simp only [Act.put,List.setIfInBounds_toArray,List.set_cons_zero,List.set_cons_succ]
   refine wpL_takeB (i:=7) rfl (by kernel_rfl) (by kernel_rfl) (by kernel_rfl) (by decide) (fun _ _ _ h=>h) (yieldsIf_load_mid (by rfl) _ _ rfl b2 (off2 + k * 4) rfl [.int .i64 d2.idx,.int .i64 d2.ord,.int .i64 d2.to,.int .i64 d2.val] _ (fun wx hx=>by obtain ⟨j,rfl⟩:=hx; exact HR2.out j) Tryz.underlying92 rfl (by kernel_rfl)) (SAB.both hA hB) ?_
   try simp only [Act.put,List.setIfInBounds_toArray,List.set_cons_zero,List.set_cons_succ]
   by_cases he : d = d2
   ·subst he
    have ht2:=take_eq HTK.out HD.out HD2.out
    refine wpL_takeB (i:=8) rfl (by kernel_rfl) (by kernel_rfl) (by kernel_rfl) (by decide) (fun _ _ _ h=>h) (yieldsIf_of (by rfl) (.bool false) (fun wx _=>by go_simp)) (SAB.both hA hB) ?_
    try simp only [Act.put,List.setIfInBounds_toArray,List.set_cons_zero,List.set_cons_succ]
    refine wpL_done (by kernel_rfl) ?_
    have HT2:=Lib.hid ht2
    clear ht2
    clear hA hB
    go_wp2_with fail
    go_roundw
    case rel=>exact ⟨k + 1,m + 1,by omega,by go_num,HT2.out,rfl⟩
    case measure=>simp [intOf]; omega
   ·have hne:=ne_at HD.out HD2.out he
    have himp : d.idx = d2.idx → d.ord = d2.ord → d.to = d2.to → ¬ d.val = d2.val:=fun h0 h1 h2 h3=>he ((Snd_ext d d2).2 ⟨h0,h1,h2,h3⟩)
    refine wpL_takeB (i:=8) rfl (by kernel_rfl) (by kernel_rfl) (by kernel_rfl) (by decide) (fun _ _ _ h=>h) (yieldsIf_of (by rfl) (.bool true) (fun wx _=>by go_simp; exact himp)) (SAB.both hA hB) ?_
    try simp only [Act.put,List.setIfInBounds_toArray,List.set_cons_zero,List.set_cons_succ]
    refine wpL_done (by kernel_rfl) ?_
    have HNE:=Lib.hid hne
    clear hne
    clear hA hB he himp
    go_wp2_with fail
    go_ret
    exact ⟨false,by simpa using HNE.out,rfl,m + 1,rfl⟩
  ·have hkl : l = l2:=by
    rw [List.take_of_length_le (by have:=HNL.out; omega),List.take_of_length_le (by have:=HNL2.out; omega)] at htk
    exact htk
   have HTK:=Lib.hid htk
   have HKL:=Lib.hid hkl
   clear htk hkl
   go_wp2_with fail
   go_ret
   exact ⟨true,by simpa using HKL.out,rfl,m,rfl⟩
set_option maxHeartbeats 4000000 in
theorem equalOuts_is (w : World) (S T : Nat → Prop) (A A2 : Option Addr) (n n2 c c2 : Nat) (l l2 : List Outp) (hl : Sl encOut 2 w S A n c l) (hl2 : Sl encOut 2 w T A2 n2 c2 l2) (hn : n ≤ 1000000) (hn2 : n2 ≤ 1000000) :
  Calls Tryz.prog 33 #[.slice A n c,.slice A2 n2 c2] w (SameIs (l = l2) w):=by
 have hnl:=hl.1
 have hnl2:=hl2.1
 by_cases hnn : n = n2
 case neg=>
  have hne : ¬ l = l2:=fun e=>hnn (by rw [hnl,hnl2,e])
  have d0 : ((n : Int) != (n2 : Int)) = true:=by simp; omega
  clear hl hl2 hnl hnl2
  have HNE:=Lib.hid hne
  clear hne
  go_enter Tryz.func33,Tryz.ntmps33
  go_wp2_with fail
  go_ret
  exact ⟨false,by simpa using HNE.out,rfl,0,rfl⟩
 subst hnn
 have HL:=Lib.hid hl
 have HL2:=Lib.hid hl2
 have HNL:=Lib.hid hnl
 have HNL2:=Lib.hid hnl2
 clear hl hl2 hnl hnl2
 go_enter Tryz.func33,Tryz.ntmps33
 go_wp2_with fail
 go_loopw [13] (fun i wr=>SmRel l l2 n w i wr) (fun i _=>n - (intOf i).toNat)
 case atStart=>exact ⟨0,0,Nat.zero_le _,rfl,rfl,rfl⟩
 case round=>
  obtain ⟨k,m,hkn,rfl,htk,rfl⟩:=hrel
  by_cases hk : k < n
  ·obtain ⟨b,off,d,rfl,_,hd,hcell⟩:=HL.out.at_ encOut_len hk
   obtain ⟨b2,off2,d2,rfl,_,hd2,hcell2⟩:=HL2.out.at_ encOut_len hk
   have hki : (0 : Int) ≤ (k : Int):=by omega
   have hki2 : (k : Int) < (n : Int):=by omega
   have hr1 : ∀ j,(w.drewN j).rangeAt b (off + k * 2) [.int .i64 d.idx,.int .i64 d.val]:=fun j=>hcell
   have hr2 : ∀ j,(w.drewN j).rangeAt b2 (off2 + k * 2) [.int .i64 d2.idx,.int .i64 d2.val]:=fun j=>hcell2
   clear hcell hcell2
   have hA : True:=trivial
   have HD:=Lib.hid hd
   have HD2:=Lib.hid hd2
   have HTK:=Lib.hid htk
   have HR1:=Lib.hid hr1
   have HR2:=Lib.hid hr2
   clear hd hd2 htk hr1 hr2
   go_upto_region 6 with fail
   refine wp_region_L 99 (fun _=>True) (fun wx=>∃ j,wx = w.drewN j) (by kernel_rfl) trivial ⟨m + 1,rfl⟩ (fun _ hB=>?_)
   refine wpL_takeB (i:=0) (v:=?_) rfl (by kernel_rfl) (by kernel_rfl) (by kernel_rfl) (by decide) (fun _ _ _ h=>h) (Or.inl ⟨by rfl,?_⟩) (SAB.both hA hB) ?_
   rotate_left
   ·intro wx hBx
    (try dsimp only at hBx)
    go_simp
    try with_reducible rfl
   try simp only [Act.put,List.setIfInBounds_toArray,List.set_cons_zero,List.set_cons_succ]
   refine wpL_takeB (i:=1) (v:=?_) rfl (by kernel_rfl) (by kernel_rfl) (by kernel_rfl) (by decide) (fun _ _ _ h=>h) (Or.inl ⟨by rfl,?_⟩) (SAB.both hA hB) ?_
   rotate_left
   ·intro wx hBx
    (try dsimp only at hBx)
    go_simp
    try with_reducible rfl
   try simp only [Act.put,List.setIfInBounds_toArray,List.set_cons_zero,List.set_cons_succ]
   refine wpL_takeB (i:=2) (v:=?_) rfl (by kernel_rfl) (by kernel_rfl) (by kernel_rfl) (by decide) (fun _ _ _ h=>h) (Or.inl ⟨by rfl,?_⟩) (SAB.both hA hB) ?_
   rotate_left
   ·intro wx hBx
    (try dsimp only at hBx)
    go_simp
    try with_reducible rfl
   try simp only [Act.put,List.setIfInBounds_toArray,List.set_cons_zero,List.set_cons_succ]
   refine wpL_takeB (i:=3) rfl (by kernel_rfl) (by kernel_rfl) (by kernel_rfl) (by decide) (fun _ _ _ h=>h) (yieldsIf_load_mid (by rfl) _ _ rfl b (off + k * 2) rfl [.int .i64 d.idx,.int .i64 d.val] _ (fun wx hx=>by obtain ⟨j,rfl⟩:=hx; exact HR1.out j) Tryz.underlying52 rfl (by kernel_rfl)) (SAB.both hA hB) ?_
   try simp only [Act.put,List.setIfInBounds_toArray,List.set_cons_zero,List.set_cons_succ]
   refine wpL_takeB (i:=4) (v:=?_) rfl (by kernel_rfl) (by kernel_rfl) (by kernel_rfl) (by decide) (fun _ _ _ h=>h) (Or.inl ⟨by rfl,?_⟩) (SAB.both hA hB) ?_
   rotate_left
   ·intro wx hBx
    (try dsimp only at hBx)
    go_simp
    try with_reducible rfl
   try simp only [Act.put,List.setIfInBounds_toArray,List.set_cons_zero,List.set_cons_succ]
   refine wpL_takeB (i:=5) (v:=?_) rfl (by kernel_rfl) (by kernel_rfl) (by kernel_rfl) (by decide) (fun _ _ _ h=>h) (Or.inl ⟨by rfl,?_⟩) (SAB.both hA hB) ?_
   rotate_left
   ·intro wx hBx
    (try dsimp only at hBx)
    go_simp
    try with_reducible rfl
   try simp only [Act.put,List.setIfInBounds_toArray,List.set_cons_zero,List.set_cons_succ]
   refine wpL_takeB (i:=6) (v:=?_) rfl (by kernel_rfl) (by kernel_rfl) (by kernel_rfl) (by decide) (fun _ _ _ h=>h) (Or.inl ⟨by rfl,?_⟩) (SAB.both hA hB) ?_
   rotate_left
   ·intro wx hBx
    (try dsimp only at hBx)
    go_simp
    try with_reducible rfl
   try simp only [Act.put,List.setIfInBounds_toArray,List.set_cons_zero,List.set_cons_succ]
   refine wpL_takeB (i:=7) rfl (by kernel_rfl) (by kernel_rfl) (by kernel_rfl) (by decide) (fun _ _ _ h=>h) (yieldsIf_load_mid (by rfl) _ _ rfl b2 (off2 + k * 2) rfl [.int .i64 d2.idx,.int .i64 d2.val] _ (fun wx hx=>by obtain ⟨j,rfl⟩:=hx; exact HR2.out j) Tryz.underlying52 rfl (by kernel_rfl)) (SAB.both hA hB) ?_
   try simp only [Act.put,List.setIfInBounds_toArray,List.set_cons_zero,List.set_cons_succ]
   by_cases he : d = d2
   ·subst he
    have ht2:=take_eq HTK.out HD.out HD2.out
    refine wpL_takeB (i:=8) rfl (by kernel_rfl) (by kernel_rfl) (by kernel_rfl) (by decide) (fun _ _ _ h=>h) (yieldsIf_of (by rfl) (.bool false) (fun wx _=>by go_simp)) (SAB.both hA hB) ?_
    try simp only [Act.put,List.setIfInBounds_toArray,List.set_cons_zero,List.set_cons_succ]
    refine wpL_done (by kernel_rfl) ?_
    have HT2:=Lib.hid ht2
    clear ht2
    clear hA hB
    go_wp2_with fail
    go_roundw
    case rel=>exact ⟨k + 1,m + 1,by omega,by go_num,HT2.out,rfl⟩
    case measure=>simp [intOf]; omega
   ·have hne:=ne_at HD.out HD2.out he
    have himp : d.idx = d2.idx → ¬ d.val = d2.val:=fun h0 h1=>he ((Outp_ext d d2).2 ⟨h0,h1⟩)
    refine wpL_takeB (i:=8) rfl (by kernel_rfl) (by kernel_rfl) (by kernel_rfl) (by decide) (fun _ _ _ h=>h) (yieldsIf_of (by rfl) (.bool true) (fun wx _=>by go_simp; exact himp)) (SAB.both hA hB) ?_
    try simp only [Act.put,List.setIfInBounds_toArray,List.set_cons_zero,List.set_cons_succ]
    refine wpL_done (by kernel_rfl) ?_
    have HNE:=Lib.hid hne
    clear hne
    clear hA hB he himp
    go_wp2_with fail
    go_ret
    exact ⟨false,by simpa using HNE.out,rfl,m + 1,rfl⟩
  ·have hkl : l = l2:=by
    rw [List.take_of_length_le (by have:=HNL.out; omega),List.take_of_length_le (by have:=HNL2.out; omega)] at htk
    exact htk
   have HTK:=Lib.hid htk
   have HKL:=Lib.hid hkl
   clear htk hkl
   go_wp2_with fail
   go_ret
   exact ⟨true,by simpa using HKL.out,rfl,m,rfl⟩
end Go.Proofs.YtipegaojiokppaaGreatDoor
set_option linter.unusedVariables false
set_option linter.unusedSimpArgs false
set_option maxRecDepth 100000
namespace Go.Proofs.YtipegaojiokppaaGreatDoor
open Go.RowKit Go.Proofs
theorem St_ext (a b : St) : a = b ↔ a.cells = b.cells ∧ a.events = b.events ∧ a.sent = b.sent ∧ a.outs = b.outs:=by
 cases a; cases b; simp
def SmPost (p : Prop) (w : World) (e : Ending) (w' : World) : Prop:=∃ b : Bool,(b = true ↔ p) ∧ e = .returned (.bool b) ∧ Keep w w'
def Fine (s : St) : Prop:=s.cells.length ≤ 1000000 ∧ s.events.length ≤ 1000000 ∧ s.sent.length ≤ 1000000 ∧ s.outs.length ≤ 1000000
set_option maxHeartbeats 8000000 in
theorem rsame_any (w : World) (S : Nat → Prop) (cs ct : List Value) (s t : St) (hS : ∀ i,S i → i < w.heap.size) (hs : StR w S cs s) (ht : StR w S ct t) (fs : Fine s) (ft : Fine t) : Calls Tryz.prog 29 #[.agg cs.toArray,.agg ct.toArray] w (SmPost (s = t) w):=by
 obtain ⟨A1,A2,A3,A4,n1,c1,n2,c2,n3,c3,n4,c4,rfl,p1,p2,p3,p4⟩:=hs
 obtain ⟨B1,B2,B3,B4,m1,d1,m2,d2,m3,d3,m4,d4,rfl,q1,q2,q3,q4⟩:=ht
 obtain ⟨f1,f2,f3,f4⟩:=fs
 obtain ⟨g1,g2,g3,g4⟩:=ft
 generalize hW : (w.alloc (.cells #[.slice A1 n1 c1,.slice A2 n2 c2,.slice A3 n3 c3,.slice A4 n4 c4] 50)).alloc (.cells #[.slice B1 m1 d1,.slice B2 m2 d2,.slice B3 m3 d3,.slice B4 m4 d4] 50) = W
 have hkW : Keep w W:=hW ▸ Keep.alloc (Keep.new w _) _
 have hb0 : Blk W w.heap.size 50 #[.slice A1 n1 c1,.slice A2 n2 c2,.slice A3 n3 c3,.slice A4 n4 c4]:=hW ▸ (Blk.new w _ _).alloc _
 have hb1 : Blk W (w.heap.size + 1) 50 #[.slice B1 m1 d1,.slice B2 m2 d2,.slice B3 m3 d3,.slice B4 m4 d4]:=hW ▸ (by simpa using Blk.new (w.alloc _) _ _)
 have hz : w.heap.size + 1 < W.heap.size:=hb1.lt
 have k1:=fun (wx : World) (hx : Keep W wx)=>sameInts_is wx S S A1 B1 n1 m1 c1 d1 s.cells t.cells (p1.keep (Same.mono (Keep.trans hkW hx) hS)) (q1.keep (Same.mono (Keep.trans hkW hx) hS)) (by have:=p1.1; omega) (by have:=q1.1; omega)
 have k2:=fun (wx : World) (hx : Keep W wx)=>sameEvents_is wx S S A2 B2 n2 m2 c2 d2 s.events t.events (p2.keep (Same.mono (Keep.trans hkW hx) hS)) (q2.keep (Same.mono (Keep.trans hkW hx) hS)) (by have:=p2.1; omega) (by have:=q2.1; omega)
 have k3:=fun (wx : World) (hx : Keep W wx)=>sameSends_is wx S S A3 B3 n3 m3 c3 d3 s.sent t.sent (p3.keep (Same.mono (Keep.trans hkW hx) hS)) (q3.keep (Same.mono (Keep.trans hkW hx) hS)) (by have:=p3.1; omega) (by have:=q3.1; omega)
 have k4:=fun (wx : World) (hx : Keep W wx)=>sameOuts_is wx S S A4 B4 n4 m4 c4 d4 s.outs t.outs (p4.keep (Same.mono (Keep.trans hkW hx) hS)) (q4.keep (Same.mono (Keep.trans hkW hx) hS)) (by have:=p4.1; omega) (by have:=q4.1; omega)
 have fin : ∀ (b : Bool) (wx : World),Keep W wx → (b = true ↔ s = t) → SmPost (s = t) w (.returned (.bool b)) wx:=fun b wx hx hb=>⟨b,hb,rfl,Keep.trans hkW hx⟩
 have rd : ∀ wx,Keep W wx → wx.cell? ⟨w.heap.size,0,none⟩ = some (.slice A1 n1 c1) ∧ wx.cell? ⟨w.heap.size,1,none⟩ = some (.slice A2 n2 c2) ∧ wx.cell? ⟨w.heap.size,2,none⟩ = some (.slice A3 n3 c3) ∧ wx.cell? ⟨w.heap.size,3,none⟩ = some (.slice A4 n4 c4) ∧
   wx.cell? ⟨w.heap.size + 1,0,none⟩ = some (.slice B1 m1 d1) ∧ wx.cell? ⟨w.heap.size + 1,1,none⟩ = some (.slice B2 m2 d2) ∧ wx.cell? ⟨w.heap.size + 1,2,none⟩ = some (.slice B3 m3 d3) ∧ wx.cell? ⟨w.heap.size + 1,3,none⟩ = some (.slice B4 m4 d4):=fun wx hx=>by
  have h0:=hx.blk hb0 hb0.lt
  have h1:=hx.blk hb1 hb1.lt
  refine ⟨?_,?_,?_,?_,?_,?_,?_,?_⟩
  ·rw [h0.cell]; rfl
  ·rw [h0.cell]; rfl
  ·rw [h0.cell]; rfl
  ·rw [h0.cell]; rfl
  ·rw [h1.cell]; rfl
  ·rw [h1.cell]; rfl
  ·rw [h1.cell]; rfl
  ·rw [h1.cell]; rfl
 have he:=St_ext s t
 clear p1 p2 p3 p4 q1 q2 q3 q4 hkW hb0 hb1
 obtain ⟨z0,-,-,-,z4,-,-,-⟩:=rd W (Same.refl _ _)
 have K1:=Lib.hid k1
 have K2:=Lib.hid k2
 have K3:=Lib.hid k3
 have K4:=Lib.hid k4
 have FIN:=Lib.hid fin
 have HE:=Lib.hid he
 have HS:=Lib.hid hS
 have F1:=Lib.hid f1
 have F2:=Lib.hid f2
 have F3:=Lib.hid f3
 have F4:=Lib.hid f4
 have G1:=Lib.hid g1
 have G2:=Lib.hid g2
 have G3:=Lib.hid g3
 have G4:=Lib.hid g4
 have RD:=Lib.hid rd
 clear k1 k2 k3 k4 fin he hS f1 f2 f3 f4 g1 g2 g3 g4 rd
 go_enter Tryz.func29,Tryz.ntmps29
 go_upto_region 1 with fail
 clear hW
 go_wp2_with fail
 refine (K1.out W (Same.refl _ _)).mono ?_
 rintro e w1 ⟨b1,i1,rfl,j1,hw1⟩
 have hk1 : Keep W w1:=hw1 ▸ Keep.draws W j1
 clear hw1 z0 z4
 cases b1 with
 | false=>
  have hfin:=FIN.out false w1 hk1 (by rw [HE.out]; simp at i1; simp [i1])
  have HFIN:=Lib.hid hfin
  have I1:=Lib.hid i1
  have HK1:=Lib.hid hk1
  clear hfin i1 hk1
  go_wp2_with fail
  go_ret
  exact HFIN.out
 | true=>
  obtain ⟨-,z1,-,-,-,z5,-,-⟩:=RD.out w1 hk1
  have I1:=Lib.hid i1
  have HK1:=Lib.hid hk1
  clear i1 hk1
  go_wp2_with fail
  refine (K2.out w1 HK1.out).mono ?_
  rintro e w2 ⟨b2,i2,rfl,j2,hw2⟩
  have hk2 : Keep W w2:=Keep.trans HK1.out (hw2 ▸ Keep.draws w1 j2)
  clear hw2 z1 z5
  cases b2 with
  | false=>
   have hfin:=FIN.out false w2 hk2 (by rw [HE.out]; simp at i2; simp [i2])
   have HFIN:=Lib.hid hfin
   have I2:=Lib.hid i2
   have HK2:=Lib.hid hk2
   clear hfin i2 hk2
   go_wp2_with fail
   go_ret
   exact HFIN.out
  | true=>
   obtain ⟨-,-,z2,-,-,-,z6,-⟩:=RD.out w2 hk2
   have I2:=Lib.hid i2
   have HK2:=Lib.hid hk2
   clear i2 hk2
   go_wp2_with fail
   refine (K3.out w2 HK2.out).mono ?_
   rintro e w3 ⟨b3,i3,rfl,j3,hw3⟩
   have hk3 : Keep W w3:=Keep.trans HK2.out (hw3 ▸ Keep.draws w2 j3)
   clear hw3 z2 z6
   cases b3 with
   | false=>
    have hfin:=FIN.out false w3 hk3 (by rw [HE.out]; simp at i3; simp [i3])
    have HFIN:=Lib.hid hfin
    have I3:=Lib.hid i3
    have HK3:=Lib.hid hk3
    clear hfin i3 hk3
    go_wp2_with fail
    go_ret
    exact HFIN.out
   | true=>
    obtain ⟨-,-,-,z3,-,-,-,z7⟩:=RD.out w3 hk3
    have I3:=Lib.hid i3
    have HK3:=Lib.hid hk3
    clear i3 hk3
    go_wp2_with fail
    refine (K4.out w3 HK3.out).mono ?_
    rintro e w4 ⟨b4,i4,rfl,j4,hw4⟩
    have hk4 : Keep W w4:=Keep.trans HK3.out (hw4 ▸ Keep.draws w3 j4)
    clear hw4 z3 z7
    have hfin:=FIN.out b4 w4 hk4 (by rw [HE.out]; have a1:=I1.out; have a2:=I2.out; have a3:=I3.out; simp at a1 a2 a3; simp [a1,a2,a3,i4])
    have HFIN:=Lib.hid hfin
    have I4:=Lib.hid i4
    have HK4:=Lib.hid hk4
    clear hfin i4 hk4
    go_wp2_with fail
    go_ret
    exact HFIN.out
set_option maxHeartbeats 8000000 in
theorem psame_any (w : World) (S : Nat → Prop) (cs ct : List Value) (s t : St) (hS : ∀ i,S i → i < w.heap.size) (hs : StR w S cs s) (ht : StR w S ct t) (fs : Fine s) (ft : Fine t) : Calls Tryz.prog 19 #[.agg cs.toArray,.agg ct.toArray] w (SmPost (s = t) w):=by
 obtain ⟨A1,A2,A3,A4,n1,c1,n2,c2,n3,c3,n4,c4,rfl,p1,p2,p3,p4⟩:=hs
 obtain ⟨B1,B2,B3,B4,m1,d1,m2,d2,m3,d3,m4,d4,rfl,q1,q2,q3,q4⟩:=ht
 obtain ⟨f1,f2,f3,f4⟩:=fs
 obtain ⟨g1,g2,g3,g4⟩:=ft
 generalize hW : (w.alloc (.cells #[.slice A1 n1 c1,.slice A2 n2 c2,.slice A3 n3 c3,.slice A4 n4 c4] 50)).alloc (.cells #[.slice B1 m1 d1,.slice B2 m2 d2,.slice B3 m3 d3,.slice B4 m4 d4] 50) = W
 have hkW : Keep w W:=hW ▸ Keep.alloc (Keep.new w _) _
 have hb0 : Blk W w.heap.size 50 #[.slice A1 n1 c1,.slice A2 n2 c2,.slice A3 n3 c3,.slice A4 n4 c4]:=hW ▸ (Blk.new w _ _).alloc _
 have hb1 : Blk W (w.heap.size + 1) 50 #[.slice B1 m1 d1,.slice B2 m2 d2,.slice B3 m3 d3,.slice B4 m4 d4]:=hW ▸ (by simpa using Blk.new (w.alloc _) _ _)
 have hz : w.heap.size + 1 < W.heap.size:=hb1.lt
 have k1:=fun (wx : World) (hx : Keep W wx)=>equalInts_is wx S S A1 B1 n1 m1 c1 d1 s.cells t.cells (p1.keep (Same.mono (Keep.trans hkW hx) hS)) (q1.keep (Same.mono (Keep.trans hkW hx) hS)) (by have:=p1.1; omega) (by have:=q1.1; omega)
 have k2:=fun (wx : World) (hx : Keep W wx)=>equalEvents_is wx S S A2 B2 n2 m2 c2 d2 s.events t.events (p2.keep (Same.mono (Keep.trans hkW hx) hS)) (q2.keep (Same.mono (Keep.trans hkW hx) hS)) (by have:=p2.1; omega) (by have:=q2.1; omega)
 have k3:=fun (wx : World) (hx : Keep W wx)=>equalSends_is wx S S A3 B3 n3 m3 c3 d3 s.sent t.sent (p3.keep (Same.mono (Keep.trans hkW hx) hS)) (q3.keep (Same.mono (Keep.trans hkW hx) hS)) (by have:=p3.1; omega) (by have:=q3.1; omega)
 have k4:=fun (wx : World) (hx : Keep W wx)=>equalOuts_is wx S S A4 B4 n4 m4 c4 d4 s.outs t.outs (p4.keep (Same.mono (Keep.trans hkW hx) hS)) (q4.keep (Same.mono (Keep.trans hkW hx) hS)) (by have:=p4.1; omega) (by have:=q4.1; omega)
 have fin : ∀ (b : Bool) (wx : World),Keep W wx → (b = true ↔ s = t) → SmPost (s = t) w (.returned (.bool b)) wx:=fun b wx hx hb=>⟨b,hb,rfl,Keep.trans hkW hx⟩
 have rd : ∀ wx,Keep W wx → wx.cell? ⟨w.heap.size,0,none⟩ = some (.slice A1 n1 c1) ∧ wx.cell? ⟨w.heap.size,1,none⟩ = some (.slice A2 n2 c2) ∧ wx.cell? ⟨w.heap.size,2,none⟩ = some (.slice A3 n3 c3) ∧ wx.cell? ⟨w.heap.size,3,none⟩ = some (.slice A4 n4 c4) ∧
   wx.cell? ⟨w.heap.size + 1,0,none⟩ = some (.slice B1 m1 d1) ∧ wx.cell? ⟨w.heap.size + 1,1,none⟩ = some (.slice B2 m2 d2) ∧ wx.cell? ⟨w.heap.size + 1,2,none⟩ = some (.slice B3 m3 d3) ∧ wx.cell? ⟨w.heap.size + 1,3,none⟩ = some (.slice B4 m4 d4):=fun wx hx=>by
  have h0:=hx.blk hb0 hb0.lt
  have h1:=hx.blk hb1 hb1.lt
  refine ⟨?_,?_,?_,?_,?_,?_,?_,?_⟩
  ·rw [h0.cell]; rfl
  ·rw [h0.cell]; rfl
  ·rw [h0.cell]; rfl
  ·rw [h0.cell]; rfl
  ·rw [h1.cell]; rfl
  ·rw [h1.cell]; rfl
  ·rw [h1.cell]; rfl
  ·rw [h1.cell]; rfl
 have he:=St_ext s t
 clear p1 p2 p3 p4 q1 q2 q3 q4 hkW hb0 hb1
 obtain ⟨z0,-,-,-,z4,-,-,-⟩:=rd W (Same.refl _ _)
 have K1:=Lib.hid k1
 have K2:=Lib.hid k2
 have K3:=Lib.hid k3
 have K4:=Lib.hid k4
 have FIN:=Lib.hid fin
 have HE:=Lib.hid he
 have HS:=Lib.hid hS
 have F1:=Lib.hid f1
 have F2:=Lib.hid f2
 have F3:=Lib.hid f3
 have F4:=Lib.hid f4
 have G1:=Lib.hid g1
 have G2:=Lib.hid g2
 have G3:=Lib.hid g3
 have G4:=Lib.hid g4
 have RD:=Lib.hid rd
 clear k1 k2 k3 k4 fin he hS f1 f2 f3 f4 g1 g2 g3 g4 rd
 go_enter Tryz.func19,Tryz.ntmps19
 go_upto_region 1 with fail
 clear hW
 go_wp2_with fail
 refine (K1.out W (Same.refl _ _)).mono ?_
 rintro e w1 ⟨b1,i1,rfl,j1,hw1⟩
 have hk1 : Keep W w1:=hw1 ▸ Keep.draws W j1
 clear hw1 z0 z4
 cases b1 with
 | false=>
  have hfin:=FIN.out false w1 hk1 (by rw [HE.out]; simp at i1; simp [i1])
  have HFIN:=Lib.hid hfin
  have I1:=Lib.hid i1
  have HK1:=Lib.hid hk1
  clear hfin i1 hk1
  go_wp2_with fail
  go_ret
  exact HFIN.out
 | true=>
  obtain ⟨-,z1,-,-,-,z5,-,-⟩:=RD.out w1 hk1
  have I1:=Lib.hid i1
  have HK1:=Lib.hid hk1
  clear i1 hk1
  go_wp2_with fail
  refine (K2.out w1 HK1.out).mono ?_
  rintro e w2 ⟨b2,i2,rfl,j2,hw2⟩
  have hk2 : Keep W w2:=Keep.trans HK1.out (hw2 ▸ Keep.draws w1 j2)
  clear hw2 z1 z5
  cases b2 with
  | false=>
   have hfin:=FIN.out false w2 hk2 (by rw [HE.out]; simp at i2; simp [i2])
   have HFIN:=Lib.hid hfin
   have I2:=Lib.hid i2
   have HK2:=Lib.hid hk2
   clear hfin i2 hk2
   go_wp2_with fail
   go_ret
   exact HFIN.out
  | true=>
   obtain ⟨-,-,z2,-,-,-,z6,-⟩:=RD.out w2 hk2
   have I2:=Lib.hid i2
   have HK2:=Lib.hid hk2
   clear i2 hk2
   go_wp2_with fail
   refine (K3.out w2 HK2.out).mono ?_
   rintro e w3 ⟨b3,i3,rfl,j3,hw3⟩
   have hk3 : Keep W w3:=Keep.trans HK2.out (hw3 ▸ Keep.draws w2 j3)
   clear hw3 z2 z6
   cases b3 with
   | false=>
    have hfin:=FIN.out false w3 hk3 (by rw [HE.out]; simp at i3; simp [i3])
    have HFIN:=Lib.hid hfin
    have I3:=Lib.hid i3
    have HK3:=Lib.hid hk3
    clear hfin i3 hk3
    go_wp2_with fail
    go_ret
    exact HFIN.out
   | true=>
    obtain ⟨-,-,-,z3,-,-,-,z7⟩:=RD.out w3 hk3
    have I3:=Lib.hid i3
    have HK3:=Lib.hid hk3
    clear i3 hk3
    go_wp2_with fail
    refine (K4.out w3 HK3.out).mono ?_
    rintro e w4 ⟨b4,i4,rfl,j4,hw4⟩
    have hk4 : Keep W w4:=Keep.trans HK3.out (hw4 ▸ Keep.draws w3 j4)
    clear hw4 z3 z7
    have hfin:=FIN.out b4 w4 hk4 (by rw [HE.out]; have a1:=I1.out; have a2:=I2.out; have a3:=I3.out; simp at a1 a2 a3; simp [a1,a2,a3,i4])
    have HFIN:=Lib.hid hfin
    have I4:=Lib.hid i4
    have HK4:=Lib.hid hk4
    clear hfin i4 hk4
    go_wp2_with fail
    go_ret
    exact HFIN.out
end Go.Proofs.YtipegaojiokppaaGreatDoor
set_option linter.unusedVariables false
set_option linter.unusedSimpArgs false
set_option maxRecDepth 100000
namespace Go.Proofs.YtipegaojiokppaaGreatDoor
open Go.RowKit Go.Proofs
theorem st_sl {w : World} {S : Nat → Prop} {B1 B2 B3 B4 : Option Addr} {p1 q1 p2 q2 p3 q3 p4 q4 : Nat} {s : St} (h : StR w S [.slice B1 p1 q1,.slice B2 p2 q2,.slice B3 p3 q3,.slice B4 p4 q4] s) :
  Sl encI 1 w S B1 p1 q1 s.cells ∧ Sl encEv 7 w S B2 p2 q2 s.events ∧ Sl encSnd 4 w S B3 p3 q3 s.sent ∧ Sl encOut 2 w S B4 p4 q4 s.outs:=by
 obtain ⟨A1,A2,A3,A4,n1,c1,n2,c2,n3,c3,n4,c4,e,h1,h2,h3,h4⟩:=h
 simp only [List.cons.injEq,Value.slice.injEq,and_true] at e
 obtain ⟨⟨rfl,rfl,rfl⟩,⟨rfl,rfl,rfl⟩,⟨rfl,rfl,rfl⟩,rfl,rfl,rfl⟩:=e
 exact ⟨h1,h2,h3,h4⟩
theorem drop_cons {α : Type} {l : List α} {k : Nat} {y : α} (h : l[k]? = some y) : l.drop k = y :: l.drop (k + 1):=by
 obtain ⟨hk,rfl⟩:=List.getElem?_eq_some_iff.1 h
 exact List.drop_eq_getElem_cons hk
def Bw (w : World) (i : Nat) : Prop:=i < w.heap.size
section
variable {P : Program} {ops : Array Oper} {o : Oper} {a : Act} {w : World} {K : Act → World → Prop} {Q : Exit → Act → World → Prop} {E : Prop}
theorem step_load_blk (hgd : o.guard = none) (ty : TypeId) (x : Operand) (ho : o.op = .load ty x)
  (g off : Nat) (t : TypeId) (cs : Array Value) (vs : List Value) (d : TypeDesc) (hx : a.eval x = .pointer (some ⟨g,off,none⟩)) (hb : Blk w g t cs) (hvs : ∀ j v,vs[j]? = some v → cs[off + j]? = some v)
  (hu : P.underlying ty = some d) (hd : d.isRow = true) (hi : (P.info? ty).map (·.size) = some vs.length)
  (h : K (a.put o.dst (.agg vs.toArray)) w) : if Region.wanted o (yielded ops a.tmps) = true then Oper.wp P o a w K Q else E:=by
 have hw : Region.wanted o (yielded ops a.tmps) = true:=by simp [Region.wanted,hgd]
 rw [if_pos hw]
 have hy:=yieldsIf_blk (T:=fun w'=>w' = w) hw ty x ho g off t cs vs d hx (fun w' e=>e ▸ hb) hvs hu hd hi
 rcases hy with ⟨_,hr⟩ | hn
 ·have e:=hr w rfl
  unfold Oper.wp
  rw [e]
  exact h
 ·simp_all
end
end Go.Proofs.YtipegaojiokppaaGreatDoor
