import Derived.Test.YtipegaojiokppaaGreatDoorRes3
import Derived.Test.YtipegaojiokppaaGreatDoorMkEv
import Derived.Test.YtipegaojiokppaaGreatDoorGP
import Derived.Test.YtipegaojiokppaaGreatDoorGA
import Derived.OpenShut
import Derived.Test.YtipegaojiokppaaGreatDoorMkExpr
import Derived.ProofKit
import Derived.LaidMore
import Derived.Stop.Joined
import Derived.Deep.Slices
import Derived.ChangeArms
set_option linter.unusedVariables false
set_option linter.unusedSimpArgs false
set_option maxRecDepth 100000
namespace Go.Proofs.YtipegaojiokppaaGreatDoor
open Go.RowKit Go.Proofs
def CodePost (B : Nat → Prop) (gc : Nat) (w : World) (e : Ending) (w' : World) : Prop:=∃ (cs : List Value) (c : Cd) (r' : Nat),e = .returned (.agg cs.toArray) ∧ CdR w' (New w' w.heap.size) cs c ∧ Cod w' B gc r' ∧ Only gc w w'
theorem cd_open {w : World} {S : Nat → Prop} {cs : List Value} {c : Cd} (h : CdR w S cs c) : ∃ (B0 B1 B2 B3 B4 : Option Addr) (p0 q0 p1 q1 p2 q2 p3 q3 p4 q4 : Nat),cs = [.slice B0 p0 q0,.slice B1 p1 q1,.slice B2 p2 q2,.slice B3 p3 q3,.slice B4 p4 q4] ∧ CdR w S [.slice B0 p0 q0,.slice B1 p1 q1,.slice B2 p2 q2,.slice B3 p3 q3,.slice B4 p4 q4] c:=by
 have h':=h
 obtain ⟨A0,A1,A2,A3,A4,m0,c0,m1,c1,m2,c2,m3,c3,m4,c4,rfl,_⟩:=h
 exact ⟨A0,A1,A2,A3,A4,m0,c0,m1,c1,m2,c2,m3,c3,m4,c4,rfl,h'⟩
end Go.Proofs.YtipegaojiokppaaGreatDoor
namespace Go.Proofs.YtipegaojiokppaaGreatDoor
open Go.RowKit
theorem sl_of_ints {k : IntKind} {w : World} {a : Option Addr} {len cap : Nat} {zs : List Int}
  (h : (a = none ∧ len = 0 ∧ cap = 0 ∧ zs = []) ∨ ∃ x,a = some x ∧ len ≤ cap ∧ cap ≤ maxLen ∧ zs.length = cap ∧ (∀ i,i < zs.length → w.cell? (x.add i) = some (.int k (zs.getD i 0))) ∧ ∀ n ∈ zs,(Lit.int k n).wf = true) :
  Sl (fun x : Int=>[.int k x]) 1 w (· < w.heap.size) a len cap (zs.take len):=by
 rcases h with ⟨rfl,rfl,rfl,rfl⟩ | ⟨x,rfl,h1,h2,h3,h4,_⟩
 ·exact Sl.nil_
 ·refine ⟨by simp; omega,h1,h2,by rw [flat_length (size:=1) (fun _=>rfl)]; simp; omega,fun hn=>?_⟩
  obtain ⟨b,off,spot⟩:=x
  have h0:=h4 0 (by omega)
  have hs : spot = none:=by simpa [Addr.add] using World.cell?_spot h0
  subst hs
  refine ⟨b,off,rfl,?_,fun j u hu=>?_⟩
  ·have:=World.block_lt_of_cell? w _ h0
   simpa [Addr.add] using this
  ·have hj : j < len:=by
    have:=(List.getElem?_eq_some_iff.1 hu).1
    rw [flat_length (size:=1) (fun _=>rfl)] at this
    simp at this
    omega
   have hc:=h4 j (by omega)
   rw [add_lit'] at hc
   rw [hc]
   have e : ((zs.take len).flatMap fun x : Int=>[Value.int k x])[j]? = some (.int k (zs.getD j 0)):=by
    have:=flat_get (enc:=fun x : Int=>[Value.int k x]) (size:=1) (fun _=>rfl) (zs.take len) j 0 (by simp; omega) (by omega)
    simp only [Nat.mul_one,Nat.add_zero] at this
    rw [this]
    simp [show j < zs.length by omega]
   rw [e] at hu
   exact hu
theorem wf_take {k : IntKind} {len : Nat} {zs : List Int} (h : ∀ n ∈ zs,(Lit.int k n).wf = true) : ∀ n ∈ zs.take len,(Lit.int k n).wf = true:=fun n hn=>h n (List.mem_of_mem_take hn)
theorem wf_ints {k : IntKind} {w : World} {a : Option Addr} {len cap : Nat} {zs : List Int}
  (h : (a = none ∧ len = 0 ∧ cap = 0 ∧ zs = []) ∨ ∃ x,a = some x ∧ len ≤ cap ∧ cap ≤ maxLen ∧ zs.length = cap ∧ (∀ i,i < zs.length → w.cell? (x.add i) = some (.int k (zs.getD i 0))) ∧ ∀ n ∈ zs,(Lit.int k n).wf = true) :
  ∀ n ∈ zs.take len,(Lit.int k n).wf = true:=by
 rcases h with ⟨rfl,rfl,rfl,rfl⟩ | ⟨x,rfl,_,_,_,_,h⟩
 ·simp
 ·exact wf_take h
theorem i64_of_wf {x : Int} (h : (Lit.int .i64 x).wf = true) : I64 x:=by
 have:=bounds_i64 h
 exact ⟨by omega,by omega⟩
theorem u8_of_wf {x : Int} (h : (Lit.int .u8 x).wf = true) : 0 ≤ x ∧ x < 256:=by
 have:=bounds_u8 h
 omega
end Go.Proofs.YtipegaojiokppaaGreatDoor
namespace Go.Proofs.YtipegaojiokppaaGreatDoor
open Go.ChangeShapes Go.WideShapes Go.ChangeAt Go.RowKit
theorem strs_of_trod {H : Type} {enc : TypeId × Value → H} {W : World} {base : Nat} {spare : Nat → Bool} {held : Bool} {t n fuel : Nat} {cs : List Value} {x : DataW H × List MemPlace} (ht : Tryz.prog.underlying t = some (.array n 9))
  (h : DataW.trod enc Tryz.prog W base spare held fuel t cs = some x) : ∀ i,i < n → ∃ s,cs[i]? = some (.string s):=by
 obtain ⟨xs,m,rfl,hx,hl,hn,hel⟩:=DataW.trod_array ht h
 intro i hi
 have hi':=hel i hi
 have c1 : Tryz.prog.cellsOf 9 = 1:=by kernel_rfl
 rw [c1,List.getElem?_eq_getElem (by omega)] at hi'
 obtain ⟨s,e1,_⟩:=DataW.trod_string Tryz.underlying9 hi'
 refine ⟨s,?_⟩
 have:=congrArg (fun l : List Value=>l[0]?) e1
 simpa using this
theorem tScalars : (Tryz.prog.globals[0]?).map (·.type) = some 137:=by kernel_rfl
theorem tArrays : (Tryz.prog.globals[1]?).map (·.type) = some 139:=by kernel_rfl
theorem laid_in {W : World} {n1 n2 : String} {d1 d2 : DataW Unit} (gScalars : Tryz.prog.globalNamed n1 = some 0) (gArrays : Tryz.prog.globalNamed n2 = some 1) (h : laidMet Tryz.prog [(n1,d1),(n2,d2)] W) : Glob W:=by
 obtain ⟨ps,⟨g0,t0,cs0,f0,p0,q0,hg0,ht0,hv0,hd0,⟨g1,t1,cs1,f1,p1,q1,hg1,ht1,hv1,hd1,_,_⟩,_⟩,_,_⟩:=h
 obtain rfl:=Option.some.inj (gScalars.symm.trans hg0)
 obtain rfl:=Option.some.inj (gArrays.symm.trans hg1)
 obtain rfl:=Option.some.inj (tScalars.symm.trans ht0)
 obtain rfl:=Option.some.inj (tArrays.symm.trans ht1)
 have h1 : ∀ i,i < 3 → ∃ s,W.cell? ⟨0,i,none⟩ = some (.string s):=fun i hi=>by
  obtain ⟨s,hs⟩:=strs_of_trod Tryz.underlying137 hd0 i hi
  exact ⟨s,by rw [World.var?_cell hg0 hv0 i]; simpa using hs⟩
 have h2 : ∀ i,i < 2 → ∃ s,W.cell? ⟨1,i,none⟩ = some (.string s):=fun i hi=>by
  obtain ⟨s,hs⟩:=strs_of_trod Tryz.underlying139 hd1 i hi
  exact ⟨s,by rw [World.var?_cell hg1 hv1 i]; simpa using hs⟩
 refine ⟨h1,h2,?_⟩
 obtain ⟨s,hs⟩:=h1 0 (by omega)
 obtain ⟨s',hs'⟩:=h2 0 (by omega)
 have a:=World.block_lt_of_cell? W _ hs
 have b:=World.block_lt_of_cell? W _ hs'
 simp at a b
 omega
end Go.Proofs.YtipegaojiokppaaGreatDoor
namespace Go.Proofs.YtipegaojiokppaaGreatDoor
open Go.RowKit Go.Deep
section
variable {H : Type} {enc' : TypeId × Value → H} {P : Program} {w : World} {base : Nat} {spare : Nat → Bool} {held : Bool}
def Flat (enc' : TypeId × Value → H) (P : Program) (w : World) (base : Nat) (spare : Nat → Bool) (held : Bool) (t : TypeId) (k : Nat) : Prop:=
 ∀ (fuel : Nat) (cs : List Value) (x : DataW H × List MemPlace),DataW.trod enc' P w base spare held fuel t cs = some x → cs.length = k ∧ ∀ j,j < k → ∃ n,cs[j]? = some (.int .i64 n) ∧ (Lit.int .i64 n).wf = true
theorem flat_i64 {t : TypeId} (ht : P.underlying t = some (.int .i64)) : Flat enc' P w base spare held t 1:=by
 intro fuel cs x h
 obtain ⟨n,rfl,_,hn⟩:=DataW.trod_int ht h
 exact ⟨rfl,fun j hj=>⟨n,by obtain rfl : j = 0:=by omega
                            rfl,hn⟩⟩
theorem flat_struct {t : TypeId} {fs : Array Field} {k : Nat} (ht : P.underlying t = some (.struct fs)) (hC : P.cellsOf t = k)
  (hcov : ∀ j,j < k → ∃ (i : Nat) (f : Field) (m : Nat),fs[i]? = some f ∧ P.cellsOf f.type = m ∧ f.offset ≤ j ∧ j < f.offset + m ∧ Flat enc' P w base spare held f.type m) : Flat enc' P w base spare held t k:=by
 intro fuel cs x h
 obtain ⟨xs,n,_,_,hlen,hxl,hf⟩:=DataW.trod_struct ht h
 refine ⟨hlen.trans hC,fun j hj=>?_⟩
 obtain ⟨i,f,m,hif,hm,h1,h2,hfl⟩:=hcov j hj
 have hi : i < fs.size:=(Array.getElem?_eq_some_iff.1 hif).1
 have ht:=hf i f hif
 rw [hm,List.getElem?_eq_getElem (show i < xs.length by omega)] at ht
 obtain ⟨_,hall⟩:=hfl _ _ _ ht
 obtain ⟨v,hv,hw⟩:=hall (j - f.offset) (by omega)
 refine ⟨v,?_,hw⟩
 rw [List.getElem?_take,if_pos (by omega),List.getElem?_drop,show f.offset + (j - f.offset) = j by omega] at hv
 exact hv
theorem slr_of_trod {α : Type} {size : Nat} {R : List Value → α → Prop} {t e : TypeId} {fuel : Nat} {A : Option Addr} {len cap : Nat} {x : DataW H × List MemPlace} (hsz : 0 < size) (ht : P.underlying t = some (.slice e)) (hC : P.cellsOf e = size)
  (hel : ∀ (n : Nat) (cs : List Value) (y : DataW H × List MemPlace),DataW.trod enc' P w base spare held n e cs = some y → cs.length = size ∧ ∃ a,R cs a)
  (h : DataW.trod enc' P w base spare held fuel t [.slice A len cap] = some x) : ∃ l : List α,SlR w (· < w.heap.size) size R A len cap l:=by
 rcases open_slice ht h with ⟨e0,_⟩ | ⟨a,len',cap',m,n,D,Pl,ecs,_,hl,hm,hmm,_,hi⟩
 ·simp at e0
  obtain ⟨rfl,rfl,rfl⟩:=e0
  exact ⟨[],SlR.nil_⟩
 ·simp at ecs
  obtain ⟨rfl,rfl,rfl⟩:=ecs
  rw [hC] at hi
  have hlm : len ≤ m:=by rw [hmm]; split <;> omega
  have key : ∀ k,k ≤ len → ∃ (css : List (List Value)) (l : List α),css.length = k ∧ l.length = k ∧ (∀ cs ∈ css,cs.length = size) ∧ (∀ (i : Nat) (cs : List Value) (b : α),css[i]? = some cs → l[i]? = some b → R cs b) ∧
    (∀ (i : Nat) (cs : List Value),css[i]? = some cs → ∀ j,j < size → w.cell? ((a.add (i * size)).add j) = cs[j]?):=by
   intro k
   induction k with
   | zero=>intro _; exact ⟨[],[],rfl,rfl,by simp,by simp,by simp⟩
   | succ k ih=>
    intro hk
    obtain ⟨css,l,h1,h2,h3,h4,h5⟩:=ih (by omega)
    obtain ⟨cs,hcs,htr⟩:=hi k (by omega)
    obtain ⟨hcl,b,hb⟩:=hel _ _ _ htr
    obtain ⟨_,_,hat⟩:=World.cells?_some hcs
    refine ⟨css ++ [cs],l ++ [b],by simp [h1],by simp [h2],fun c hc=>?_,fun i c d e1 e2=>?_,fun i c e1 j hj=>?_⟩
    ·rcases List.mem_append.1 hc with h | h
     ·exact h3 c h
     ·simp at h; subst h; exact hcl
    ·rcases Nat.lt_or_ge i k with h | h
     ·rw [List.getElem?_append_left (by omega)] at e1 e2
      exact h4 i c d e1 e2
     ·rw [List.getElem?_append_right (by omega)] at e1 e2
      rw [h1] at e1
      rw [h2] at e2
      rcases Nat.eq_or_lt_of_le h with h' | h'
      ·subst h'
       simp at e1 e2
       subst e1 e2
       exact hb
      ·rw [List.getElem?_eq_none (by simp; omega)] at e1
       cases e1
    ·rcases Nat.lt_or_ge i k with h | h
     ·rw [List.getElem?_append_left (by omega)] at e1
      exact h5 i c e1 j hj
     ·rw [List.getElem?_append_right (by omega),h1] at e1
      rcases Nat.eq_or_lt_of_le h with h' | h'
      ·subst h'
       simp at e1
       subst e1
       exact hat j hj
      ·rw [List.getElem?_eq_none (by simp; omega)] at e1
       cases e1
  obtain ⟨css,l,h1,h2,h3,h4,h5⟩:=key len (Nat.le_refl _)
  refine ⟨l,h2.symm,hl,hm,css,h1,h3,⟨?_,fun hn=>?_⟩,h4⟩
  ·rw [List.length_flatten,show css.map List.length = List.replicate css.length size from List.eq_replicate_iff.2 ⟨by simp,fun b hb=>by obtain ⟨c,hc,rfl⟩:=List.mem_map.1 hb; exact h3 c hc⟩]
   simp [h1]
  ·obtain ⟨b,off,spot⟩:=a
   have h0 : w.cell? ((Addr.add ⟨b,off,spot⟩ (0 * size)).add 0) = (css[0]'(by omega))[0]?:=h5 0 _ (List.getElem?_eq_getElem (by omega)) 0 hsz
   rw [List.getElem?_eq_getElem (by rw [h3 _ (List.getElem_mem _)]; exact hsz)] at h0
   have hs : spot = none:=by simpa [Addr.add] using World.cell?_spot h0
   subst hs
   refine ⟨b,off,rfl,?_,fun j u hu=>?_⟩
   ·have:=World.block_lt_of_cell? w _ h0
    simpa [Addr.add] using this
   ·have hjl : j < len * size:=by
     have:=(List.getElem?_eq_some_iff.1 hu).1
     rw [List.length_flatten,show css.map List.length = List.replicate css.length size from List.eq_replicate_iff.2 ⟨by simp,fun b hb=>by obtain ⟨c,hc,rfl⟩:=List.mem_map.1 hb; exact h3 c hc⟩] at this
     simpa [h1] using this
    have hq : j / size < len:=Nat.div_lt_of_lt_mul (by rw [Nat.mul_comm]; exact hjl)
    have hr : j % size < size:=Nat.mod_lt _ hsz
    have hj : j / size * size + j % size = j:=by rw [Nat.mul_comm]; exact Nat.div_add_mod j size
    have hget:=flatten_get css (j / size) (j % size) (by omega) h3 hr
    rw [hj,hu] at hget
    have hc:=h5 (j / size) _ (List.getElem?_eq_getElem (by omega)) (j % size) hr
    rw [add_lit',add_lit',Nat.add_assoc,hj] at hc
    rw [hc,← hget]
theorem sl_of_slr {α : Type} {enc : α → List Value} {size : Nat} {S : Nat → Prop} {A : Option Addr} {n c : Nat} {l : List α} (h : SlR w S size (fun cs a=>cs = enc a) A n c l) : Sl enc size w S A n c l:=by
 obtain ⟨h1,h2,h3,css,h4,h5,h6,h7⟩:=h
 refine ⟨h1,h2,h3,?_⟩
 have e : css.flatten = l.flatMap enc:=by
  rw [List.flatMap_def]
  congr 1
  apply List.ext_getElem?
  intro i
  rw [List.getElem?_map]
  rcases Nat.lt_or_ge i n with hi | hi
  ·rw [List.getElem?_eq_getElem (show i < css.length by omega),List.getElem?_eq_getElem (show i < l.length by omega)]
   simp only [Option.map_some]
   rw [h7 i _ _ (List.getElem?_eq_getElem (by omega)) (List.getElem?_eq_getElem (by omega))]
  ·rw [List.getElem?_eq_none (by omega),List.getElem?_eq_none (by omega)]
   rfl
 rw [← e]
 exact h6
end
end Go.Proofs.YtipegaojiokppaaGreatDoor
