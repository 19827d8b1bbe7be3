import Derived.Test.YtdhklhebgclcoaaGreatDoorM19
set_option linter.unusedVariables false
set_option linter.unusedSimpArgs false
set_option maxRecDepth 100000
set_option maxHeartbeats 32000000
namespace Go.Proofs.YtdhklhebgclcoaaGreatDoor
open Go.Proofs Go.Proofs.Tryz Go.RowKit
theorem Dh{α:Type}{p q:α->Bool}(h:∀a,p a=true->q a=true):∀l:List α,List.Sublist (l.filter p) (l.filter q)
 |[]=>List.Sublist.refl _
 |a::l=>by
  have b:=Dh h l
  cases hp:p a with
  |true=>rw[List.filter_cons_of_pos hp,List.filter_cons_of_pos (h a hp)];exact b.cons_cons a
  |false=>
   rw[List.filter_cons_of_neg (by simp[hp])]
   cases aB:q a with
   |true=>rw[List.filter_cons_of_pos aB];exact b.cons a
   |false=>rw[List.filter_cons_of_neg (by simp[aB])];exact b
theorem JF{l:List de}{b c:List Int}(h:∀q,eQ b q<=eQ c q){p:Nat}{m:ev}(a:gB l p m b=true):gB l p m c=true:=by
 unfold gB at a⊢;split at a
 ·cases a
 rename_i d;rw[dg d];simp only[Bool.and_eq_true,decide_eq_true_eq]at a⊢;exact⟨a.1,Int.le_trans a.2 (h _)⟩
theorem DZ{l:List de}{b c:List Int}(h:∀q,eQ b q<=eQ c q)(p:Nat):List.Sublist (gq l c p) (gq l b p):=by
 unfold gq;cases l[p]? with
 |none=>exact List.Sublist.refl _
 |some s=>exact Dh (λ a d=>by
   cases e:gB l p a b with
   |false=>rfl
   |true=>rw[JF h e]at d;cases d) _
theorem Hg(l:List de)(cut:List Int)(p:Nat):List.Sublist (hM l cut p) (gq l cut p):=by rw[wu];exact List.filter_sublist
theorem Mp{l:List de}{cut:List Int}{p:Nat}{s:de}(h:l[p]?=some s):List.Sublist (gq l cut p) s.cD:=by unfold gq;rw[h];exact List.filter_sublist
theorem wD(l:List Int)(k:Nat):eQ l k=l.getD k 0:=by unfold eQ;rw[pN];cases l[k]?<;>rfl
theorem uY(a:List Int)(k j:Nat)(x:Int)(b:k<a.length):eQ (a.set k x) j=if j=k then x else eQ a j:=by
 unfold eQ;by_cases h:j=k
 ·subst h;rw[iW b,di I]
 rw[lQ (eM h),dg h]
end Go.Proofs.YtdhklhebgclcoaaGreatDoor
