import Derived.Test.YtipegaojiokppaaGreatDoorGM
import Derived.Test.YtipegaojiokppaaGreatDoorGQ
set_option linter.unusedVariables false
namespace Go.Proofs.YtipegaojiokppaaGreatDoor
open Go.RowKit Go.Deep Go.Proofs
section
variable {H : Type} {enc' : TypeId × Value → H} {w : World} {base : Nat} {spare : Nat → Bool} {held : Bool}
theorem flat_Choice : Flat enc' Tryz.prog w base spare held 57 6:=
 flat_struct Tryz.underlying57 (by kernel_rfl) fun j hj=>by
  match j,hj with
  | 0,_=>exact ⟨0,_,1,rfl,by kernel_rfl,by decide,by decide,flat_i64 Tryz.underlying3⟩
  | 1,_=>exact ⟨1,_,1,rfl,by kernel_rfl,by decide,by decide,flat_i64 Tryz.underlying3⟩
  | 2,_=>exact ⟨2,_,1,rfl,by kernel_rfl,by decide,by decide,flat_i64 Tryz.underlying3⟩
  | 3,_=>exact ⟨3,_,1,rfl,by kernel_rfl,by decide,by decide,flat_i64 Tryz.underlying3⟩
  | 4,_=>exact ⟨4,_,1,rfl,by kernel_rfl,by decide,by decide,flat_i64 Tryz.underlying3⟩
  | 5,_=>exact ⟨5,_,1,rfl,by kernel_rfl,by decide,by decide,flat_i64 Tryz.underlying3⟩
theorem el_Choice (n : Nat) (cs : List Value) (y : DataW H × List MemPlace) (h : DataW.trod enc' Tryz.prog w base spare held n 57 cs = some y) : cs.length = 6 ∧ ∃ d : Chc,cs = encCh d:=by
 obtain ⟨hl,hall⟩:=flat_Choice n cs y h
 refine ⟨hl,?_⟩
 obtain ⟨a0,h0,_⟩:=hall 0 (by omega)
 obtain ⟨a1,h1,_⟩:=hall 1 (by omega)
 obtain ⟨a2,h2,_⟩:=hall 2 (by omega)
 obtain ⟨a3,h3,_⟩:=hall 3 (by omega)
 obtain ⟨a4,h4,_⟩:=hall 4 (by omega)
 obtain ⟨a5,h5,_⟩:=hall 5 (by omega)
 match cs,hl with
 | [c0,c1,c2,c3,c4,c5],_=>
  simp at h0 h1 h2 h3 h4 h5
  subst h0 h1 h2 h3 h4 h5
  exact ⟨⟨a0,a1,a2,a3,a4,a5⟩,rfl⟩
theorem chs_in {fuel : Nat} {A : Option Addr} {len cap : Nat} {x : DataW H × List MemPlace} (h : DataW.trod enc' Tryz.prog w base spare held fuel 23 [.slice A len cap] = some x) : ∃ l : List Chc,Sl encCh 6 w (· < w.heap.size) A len cap l:=by
 obtain ⟨l,hl⟩:=slr_of_trod (R:=fun cs a=>cs = encCh a) (by omega) Tryz.underlying23 (by kernel_rfl) el_Choice h
 exact ⟨l,sl_of_slr hl⟩
end
end Go.Proofs.YtipegaojiokppaaGreatDoor
