import Derived.Test.YtipegaojiokppaaGreatDoorMkStmts
set_option linter.unusedVariables false
set_option linter.unusedSimpArgs false
set_option maxRecDepth 100000
namespace Go.Proofs.YtipegaojiokppaaGreatDoor
open Go.RowKit Go.Proofs
structure Vr where
 name : ByteArray
 size : Int
 init : Int
def encVr (v : Vr) : List Value:=[.string v.name,.int .i64 v.size,.int .i64 v.init]
theorem encVr_len (v : Vr) : (encVr v).length = 3:=rfl
structure Prg where
 vars : List Vr
 start : List Stm
 message : List Stm
 tick : List Stm
 input : List Stm
def StmsR (w : World) (S : Nat → Prop) (A : Option Addr) (m c : Nat) (l : List Stm) : Prop:=SlR w S 18 (fun cs s=>StmR w S 3 cs s) A m c l ∧ l.length ≤ 100 ∧ ∀ a ∈ l,Stm.few 1000 3 a
theorem StmsR.keep {w w' : World} {S : Nat → Prop} {A : Option Addr} {m c : Nat} {l : List Stm} (h : StmsR w S A m c l) (hk : Same S w w') : StmsR w' S A m c l:=⟨h.1.keep hk (StmR.keep hk 3),h.2⟩
theorem StmsR.more {w : World} {S T : Nat → Prop} {A : Option Addr} {m c : Nat} {l : List Stm} (h : StmsR w S A m c l) (hS : ∀ i,S i → T i) : StmsR w T A m c l:=⟨h.1.more hS (StmR.more hS 3),h.2⟩
def PrgR (w : World) (S : Nat → Prop) (cs : List Value) (p : Prg) : Prop:=
 ∃ (A A1 A2 A3 A4 : Option Addr) (m c m1 c1 m2 c2 m3 c3 m4 c4 : Nat),cs = [.slice A m c,.slice A1 m1 c1,.slice A2 m2 c2,.slice A3 m3 c3,.slice A4 m4 c4] ∧ Sl encVr 3 w S A m c p.vars ∧ p.vars.length ≤ 100 ∧ (∀ v ∈ p.vars,(0 ≤ v.size ∧ v.size ≤ 100) ∧ -100 ≤ v.init ∧ v.init ≤ 100) ∧
  StmsR w S A1 m1 c1 p.start ∧ StmsR w S A2 m2 c2 p.message ∧ StmsR w S A3 m3 c3 p.tick ∧ StmsR w S A4 m4 c4 p.input
theorem PrgR.keep {w w' : World} {S : Nat → Prop} {cs : List Value} {p : Prg} (h : PrgR w S cs p) (hk : Same S w w') : PrgR w' S cs p:=by
 obtain ⟨A,A1,A2,A3,A4,m,c,m1,c1,m2,c2,m3,c3,m4,c4,e,h0,hl,hv,h1,h2,h3,h4⟩:=h
 exact ⟨A,A1,A2,A3,A4,m,c,m1,c1,m2,c2,m3,c3,m4,c4,e,h0.keep hk,hl,hv,h1.keep hk,h2.keep hk,h3.keep hk,h4.keep hk⟩
theorem PrgR.more {w : World} {S T : Nat → Prop} {cs : List Value} {p : Prg} (h : PrgR w S cs p) (hS : ∀ i,S i → T i) : PrgR w T cs p:=by
 obtain ⟨A,A1,A2,A3,A4,m,c,m1,c1,m2,c2,m3,c3,m4,c4,e,h0,hl,hv,h1,h2,h3,h4⟩:=h
 exact ⟨A,A1,A2,A3,A4,m,c,m1,c1,m2,c2,m3,c3,m4,c4,e,h0.more hS,hl,hv,h1.more hS,h2.more hS,h3.more hS,h4.more hS⟩
theorem stm_few_up {w : World} {S : Nat → Prop} {k : Nat} : ∀ {n m : Nat} {cs : List Value} {s : Stm},StmR w S n cs s → Stm.few k n s → Stm.few k m s
 | n + 1,0,cs,.mk kind name slot size place value body els,h,hf=>trivial
 | n + 1,m + 1,cs,.mk kind name slot size place value body els,h,hf=>by
  obtain ⟨_,_,ps,vs,A,A2,m',c,m2,c2,e,hp,hv,hb,he⟩:=h
  obtain ⟨f1,f2,f3,f4,f5,f6⟩:=hf
  have key : ∀ (A : Option Addr) (mm c : Nat) (l : List Stm),SlR w S 18 (StmR w S n) A mm c l → (∀ a ∈ l,Stm.few k n a) → ∀ a ∈ l,Stm.few k m a:=fun A mm c l hs hl a ha=>by
   obtain ⟨j,hj,rfl⟩:=List.mem_iff_getElem.1 ha
   obtain ⟨_,_,cs',a',_,_,ha',hR,_⟩:=hs.at_ (k:=j) (by have:=hs.1; omega)
   rw [List.getElem?_eq_getElem hj] at ha'
   injection ha' with ha'
   rw [ha']
   refine stm_few_up hR (hl a' ?_)
   rw [← ha']
   exact List.getElem_mem hj
  exact ⟨f1,f2,f3,f4,key A m' c body hb f5,key A2 m2 c2 els he f6⟩
theorem StmR.upto {w : World} {S : Nat → Prop} {cs : List Value} {e : Stm} : ∀ {n m : Nat},n ≤ m → StmR w S n cs e → StmR w S m cs e
 | n,0,hm,h=>by have e : n = 0:=by omega
                rw [e] at h; exact h.elim
 | n,m + 1,hm,h=>by
  rcases Nat.lt_or_ge n (m + 1) with hlt | hge
  ·exact StmR.up _ _ _ (StmR.upto (by omega) h)
  ·have e : n = m + 1:=by omega
   rw [← e]
   exact h
theorem stms_of {n most : Nat} {wc wn : World} {base : Nat} {A : Option Addr} {m c : Nat} {l : List Stm} (hn : n ≤ 3) (hm : most ≤ 100) (hb : base ≤ wc.heap.size) (h : SlR wn (New wn wc.heap.size) 18 (fun cs s=>StmR wn (New wn wc.heap.size) n cs s) A m c l) (hl : l.length ≤ most) (hf : ∀ a ∈ l,Stm.few 1000 n a) : StmsR wn (New wn base) A m c l:=by
 have h':=slr_in hb h
 refine ⟨h'.more (fun _ h=>h) (fun _ _=>StmR.upto hn),by omega,fun a ha=>?_⟩
 obtain ⟨j,hj,rfl⟩:=List.mem_iff_getElem.1 ha
 obtain ⟨_,_,cs',a',_,_,ha',hR,_⟩:=h'.at_ (k:=j) (by have:=h'.1; omega)
 rw [List.getElem?_eq_getElem hj] at ha'
 injection ha' with ha'
 rw [ha']
 refine stm_few_up hR (hf a' ?_)
 rw [← ha']
 exact List.getElem_mem hj
end Go.Proofs.YtipegaojiokppaaGreatDoor
