import Derived.Test.YtipegaojiokppaaGreatDoorGP
import Derived.Deep.AppendSrc
set_option linter.unusedVariables false
set_option linter.unusedSimpArgs false
namespace Go.Proofs.YtipegaojiokppaaGreatDoor
open Go.RowKit
def Ap (w : World) (S : Nat → Prop) (e : TypeId) (size : Nat) (A : Option Addr) (n c : Nat) (xs : List Value) : Prop:=
 xs.length = n * size ∧ n ≤ c ∧ c ≤ maxLen ∧ ((A = none ∧ c = 0) ∨
  ∃ (b off : Nat) (cur : Array Value),A = some ⟨b,off,none⟩ ∧ S b ∧ w.heap[b]? = some (.cells cur e (0,0)) ∧ off + c * size ≤ cur.size ∧ ∀ (j : Nat) (u : Value),xs[j]? = some u → cur[off + j]? = some u)
section
variable {w w' : World} {S T : Nat → Prop} {e : TypeId} {size n c : Nat} {A : Option Addr} {xs : List Value}
theorem Ap.nil_ : Ap w S e size none 0 0 []:=⟨by simp,Nat.le_refl _,by simp [maxLen],.inl ⟨rfl,rfl⟩⟩
theorem Ap.reads (h : Ap w S e size A n c xs) : Reads w S size A n xs:=by
 refine ⟨h.1,fun hn=>?_⟩
 rcases h.2.2.2 with ⟨_,h0⟩ | ⟨b,off,cur,e1,hb,hh,hf,hc⟩
 ·have:=h.2.1; omega
 ·exact ⟨b,off,e1,hb,fun j u hu=>by rw [cell_of_row w b (off + j) cur e (0,0) hh]; exact hc j u hu⟩
theorem Ap.keep (h : Ap w S e size A n c xs) (hk : Same S w w') : Ap w' S e size A n c xs:=by
 refine ⟨h.1,h.2.1,h.2.2.1,h.2.2.2.imp id ?_⟩
 rintro ⟨b,off,cur,e1,hb,hh,hf,hc⟩
 exact ⟨b,off,cur,e1,hb,(hk.block b hb).trans hh,hf,hc⟩
theorem Ap.more (h : Ap w S e size A n c xs) (hS : ∀ i,S i → i < w.heap.size → T i) : Ap w T e size A n c xs:=by
 refine ⟨h.1,h.2.1,h.2.2.1,h.2.2.2.imp id ?_⟩
 rintro ⟨b,off,cur,e1,hb,hh,hf,hc⟩
 exact ⟨b,off,cur,e1,hS b hb (Array.getElem?_eq_some_iff.1 hh).1,hh,hf,hc⟩
theorem Ap.from_ (h : Ap w S e size A n c xs) {k : Nat} (hk : k ≤ n) : Ap w S e size (if c = k then A else A.map (·.add (k * size))) (n - k) (c - k) (xs.drop (k * size)):=by
 have h2:=h.2.1
 refine ⟨by rw [List.length_drop,h.1,Nat.sub_mul],by omega,by have:=h.2.2.1; omega,?_⟩
 rcases h.2.2.2 with ⟨rfl,h0⟩ | ⟨b,off,cur,rfl,hb,hh,hf,hc⟩
 ·subst h0
  obtain rfl : k = 0:=by omega
  exact .inl ⟨by simp,rfl⟩
 ·by_cases hck : c = k
  ·rw [if_pos hck]
   subst hck
   refine .inr ⟨b,off,cur,rfl,hb,hh,by simp; omega,fun j u hu=>?_⟩
   rw [List.drop_of_length_le (by rw [h.1]; exact Nat.mul_le_mul_right _ h2)] at hu
   cases hu
  ·rw [if_neg hck]
   refine .inr ⟨b,off + k * size,cur,by simp [add_lit'],hb,hh,?_,fun j u hu=>?_⟩
   ·have : k * size + (c - k) * size = c * size:=by rw [← Nat.add_mul]; congr 1; omega
    omega
   ·rw [Nat.add_assoc]
    exact hc _ u (by rw [← hu,List.getElem?_drop])
theorem Ap.of_own {base : Nat} {v : Value} (h : w.ownsRow base e size v n xs) : ∃ A c,v = .slice A n c ∧ Ap w (fun i=>base ≤ i ∧ i < w.heap.size) e size A n c xs:=by
 rcases h.2 with ⟨rfl,rfl⟩ | ⟨g,cap,cur,rfl,hbg,hh,hnc,hcm,hcs,htake⟩
 ·exact ⟨none,0,rfl,h.1,Nat.le_refl _,by simp [maxLen],.inl ⟨rfl,rfl⟩⟩
 ·refine ⟨_,cap,rfl,h.1,hnc,hcm,.inr ⟨g,0,cur,rfl,⟨hbg,(Array.getElem?_eq_some_iff.1 hh).1⟩,hh,by rw [Nat.zero_add,hcs]; exact Nat.le_refl _,fun j u hu=>?_⟩⟩
  rw [Nat.zero_add]
  rw [← htake,List.getElem?_take] at hu
  split at hu
  ·simpa using hu
  ·cases hu
end
theorem splice_get : ∀ (vs : List Value) (o : Nat) (cs : Array Value),o + vs.length ≤ cs.size → ∀ j,(splice cs o vs)[j]? = if o ≤ j ∧ j < o + vs.length then vs[j - o]? else cs[j]?
 | [],o,cs,_,j=>by simp [splice]; intro h1 h2; omega
 | v :: vs,o,cs,h,j=>by
  simp at h
  rw [splice,splice_get vs (o + 1) _ (by simp; omega) j]
  by_cases h1 : o + 1 ≤ j ∧ j < o + 1 + vs.length
  ·rw [if_pos h1,if_pos (by simp; omega)]
   have : j - o = (j - (o + 1)) + 1:=by omega
   rw [this,List.getElem?_cons_succ]
  ·rw [if_neg h1]
   by_cases h2 : j = o
   ·subst h2
    rw [if_pos (by simp),Nat.sub_self]
    simp [Array.getElem?_setIfInBounds,show j < cs.size by omega]
   ·rw [if_neg (by simp; omega),Array.getElem?_setIfInBounds_ne (by omega)]
theorem splice_len : ∀ (vs : List Value) (o : Nat) (cs : Array Value),(splice cs o vs).size = cs.size
 | [],_,_=>rfl
 | v :: vs,o,cs=>by rw [splice,splice_len vs]; simp
section
variable {P : Program} (w : World)
end
end Go.Proofs.YtipegaojiokppaaGreatDoor
