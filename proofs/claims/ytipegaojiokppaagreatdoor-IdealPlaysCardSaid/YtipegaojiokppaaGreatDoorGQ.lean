import Derived.Test.YtipegaojiokppaaGreatDoorGA
import Derived.Test.YtipegaojiokppaaGreatDoorGP
set_option linter.unusedVariables false
set_option linter.unusedSimpArgs false
namespace Go.Proofs.YtipegaojiokppaaGreatDoor
open Go.RowKit
def Row {α : Type} (enc : α → List Value) (cur : Array Value) (l : List α) : Prop:=∀ (j : Nat) (u : Value),(l.flatMap enc)[j]? = some u → cur[j]? = some u
section
variable {α : Type} {enc : α → List Value} {size : Nat} {cur cur' : Array Value} {l : List α}
theorem Row.set_ (hs : ∀ a,(enc a).length = size) {k : Nat} {e' : α} (hk : k < l.length) (h : Row enc cur l) (hout : ∀ j,(j < k * size ∨ k * size + size ≤ j) → cur'[j]? = cur[j]?)
  (hin : ∀ r u,(enc e')[r]? = some u → cur'[k * size + r]? = some u) : Row enc cur' (l.set k e'):=by
 intro j u hu
 have hj : j < (l.set k e').length * size:=by
  have:=(List.getElem?_eq_some_iff.1 hu).1
  rwa [flat_length hs] at this
 have hsz : 0 < size:=by
  rcases Nat.eq_zero_or_pos size with h0 | h0
  ·subst h0; omega
  ·exact h0
 have hlen : (l.set k e').length = l.length:=by simp
 have hi : j / size < l.length:=by rw [hlen] at hj; exact Nat.div_lt_of_lt_mul (by rw [Nat.mul_comm]; exact hj)
 have hr : j % size < size:=Nat.mod_lt _ hsz
 have hj' : j / size * size + j % size = j:=Nat.div_add_mod' j size
 generalize j / size = i at hi hj'
 generalize j % size = r at hr hj'
 subst hj'
 rw [flat_get hs (l.set k e') i r (by rw [hlen]; exact hi) hr] at hu
 by_cases hik : k = i
 ·subst hik
  rw [List.getElem_set_self] at hu
  exact hin r u hu
 ·rw [List.getElem_set_ne hik] at hu
  have h1:=h (i * size + r) u (by rw [flat_get hs l i r hi hr]; exact hu)
  rw [hout _ ?_]
  ·exact h1
  ·rcases Nat.lt_or_ge i k with hlt | hge
   ·left
    have:=Nat.mul_le_mul_right size (show i + 1 ≤ k from hlt)
    rw [Nat.add_mul] at this
    omega
   ·right
    have:=Nat.mul_le_mul_right size (show k + 1 ≤ i by omega)
    rw [Nat.add_mul] at this
    omega
theorem row_take {m : Nat} (h : Row enc cur l) (hm : (l.flatMap enc).length = m) (hc : m ≤ cur.size) : cur.toList.take m = l.flatMap enc:=by
 apply List.ext_getElem?
 intro j
 rw [List.getElem?_take]
 split
 ·rename_i hj
  have hj2 : j < (l.flatMap enc).length:=by omega
  rw [List.getElem?_eq_getElem hj2]
  have:=h j _ (List.getElem?_eq_getElem hj2)
  simpa using this
 ·rename_i hj
  rw [List.getElem?_eq_none (by omega)]
theorem row_of_take {m : Nat} (h : cur.toList.take m = l.flatMap enc) : Row enc cur l:=by
 intro j u hu
 rw [← h,List.getElem?_take] at hu
 split at hu
 ·simpa using hu
 ·cases hu
theorem own_open {w : World} {base n c : Nat} {e : TypeId} {A : Option Addr} {xs : List Value} (h : w.ownsRow base e size (.slice A n c) n xs) (hn : 0 < n) :
  ∃ g cur,A = some ⟨g,0,none⟩ ∧ base ≤ g ∧ Blk w g e cur ∧ cur.size = c * size ∧ n ≤ c ∧ c ≤ maxLen ∧ cur.toList.take (n * size) = xs:=by
 rcases h.2 with ⟨h',h0⟩ | ⟨g,cap,cur,h',hb,hg,hnc,hcm,hcs,htake⟩
 ·omega
 ·simp only [Value.slice.injEq,true_and] at h'
  obtain ⟨rfl,rfl⟩:=h'
  exact ⟨g,cur,rfl,hb,hg,hcs,hnc,hcm,htake⟩
theorem own_close {w : World} {base g n c : Nat} {e : TypeId} (hs : ∀ a,(enc a).length = size) (hb : base ≤ g) (h : Blk w g e cur) (hc : cur.size = c * size) (hnc : n ≤ c) (hm : c ≤ maxLen) (hr : Row enc cur l) (hl : l.length = n) :
  w.ownsRow base e size (.slice (some ⟨g,0,none⟩) n c) n (l.flatMap enc):=by
 have hlen : (l.flatMap enc).length = n * size:=by rw [flat_length hs,hl]
 exact ⟨hlen,.inr ⟨g,c,cur,rfl,hb,h,hnc,hm,hc,row_take hr hlen (by rw [hc]; exact Nat.mul_le_mul_right _ hnc)⟩⟩
theorem row_put {w' : World} {base g n c k o : Nat} {ty : TypeId} {e e' : α} {v : Value} (hs : ∀ a,(enc a).length = size) (hb : base ≤ g) (hb' : Blk w' g ty (cur.setIfInBounds (k * size + o) v)) (hcs : cur.size = c * size) (hnc : n ≤ c) (hm : c ≤ maxLen)
  (htk : cur.toList.take (n * size) = l.flatMap enc) (hl : l.length = n) (he : l[k]? = some e) (ho : o < size) (henc : enc e' = (enc e).set o v) : w'.ownsRow base ty size (.slice (some ⟨g,0,none⟩) n c) n ((l.set k e').flatMap enc):=by
 have hk : k < l.length:=(List.getElem?_eq_some_iff.1 he).1
 have hrow:=row_of_take htk
 have hkc : k * size + size ≤ cur.size:=by
  have h1:=Nat.mul_le_mul_right size (show k + 1 ≤ c by omega)
  rw [Nat.add_mul] at h1
  omega
 refine own_close hs hb hb' (by simpa using hcs) hnc hm (Row.set_ hs hk hrow (fun j hj=>?_) (fun r u hu=>?_)) (by simpa using hl)
 ·rw [Array.getElem?_setIfInBounds,if_neg (by omega)]
 ·have hr : r < size:=by rw [← hs e']; exact (List.getElem?_eq_some_iff.1 hu).1
  rw [henc,List.getElem?_set] at hu
  rw [Array.getElem?_setIfInBounds]
  by_cases hor : o = r
  ·subst hor
   rw [if_pos rfl,if_pos (by rw [hs]; exact ho)] at hu
   rw [if_pos rfl,if_pos (by omega)]
   exact hu
  ·rw [if_neg hor] at hu
   rw [if_neg (by omega)]
   refine hrow _ u ?_
   rw [flat_get hs l k r hk hr]
   have : l[k] = e:=by have:=List.getElem?_eq_getElem hk; rw [he] at this; injection this with this; exact this.symm
   rw [this]
   exact hu
end
end Go.Proofs.YtipegaojiokppaaGreatDoor
set_option linter.unusedVariables false
set_option linter.unusedSimpArgs false
set_option maxRecDepth 100000
namespace Go.Proofs.YtipegaojiokppaaGreatDoor
open Go.RowKit Go.Proofs
def RecvPost (v : Int) (w : World) (e : Ending) (w' : World) : Prop:=e = .returned (.int .i64 v) ∧ Keep w w'
def recvP (frm a b ord : Int) (e : Ev) : Bool:=e.kind == 1 && e.frm == frm && e.sInc == a && e.sIdx == b && e.ord == ord
def recvAt (p : Ev → Bool) : Nat → List Ev → Int
 | _,[]=>0
 | k,e :: l=>if p e then k + 1 else recvAt p (k + 1) l
def recvS (evs : List Ev) (frm a b ord : Int) : Int:=recvAt (recvP frm a b ord) 0 evs
theorem recvAt_get {p : Ev → Bool} {l : List Ev} {k : Nat} {x : Ev} (h : l[k]? = some x) : recvAt p k (l.drop k) = if p x then (k : Int) + 1 else recvAt p (k + 1) (l.drop (k + 1)):=by
 rw [drop_cons h]
 rfl
theorem lab_cells (a b c d e f g : Int) : ∀ j v,([.int .i64 d,.int .i64 e] : List Value)[j]? = some v → (#[.int .i64 a,.int .i64 b,.int .i64 c,.int .i64 d,.int .i64 e,.int .i64 f,.int .i64 g] : Array Value)[3 + j]? = some v:=fun j v hv=>by
 rcases j with _ | _ | j
 ·exact hv
 ·exact hv
 ·simp at hv
def RcRel (W : World) (evs : List Ev) (frm a b ord : Int) (i : Value) (wr : World) : Prop:=∃ k : Nat,i = .int .i64 k ∧ k ≤ evs.length ∧ recvS evs frm a b ord = recvAt (recvP frm a b ord) k (evs.drop k) ∧ Keep W wr
def labInc (evs : List Ev) (k : Int) : Int:=if 0 < k ∧ k ≤ evs.length then (evs.getD (k.toNat - 1) ⟨0,0,0,0,0,0,0⟩).inc else 0
def labIdx (evs : List Ev) (k : Int) : Int:=if 0 < k ∧ k ≤ evs.length then k else 0
def labOk (evs : List Ev) (k : Int) : Bool:=decide (0 ≤ k ∧ k ≤ evs.length)
def LabPost (evs : List Ev) (k : Int) (w : World) (e : Ending) (w' : World) : Prop:=e = .returned (.tuple #[.agg #[.int .i64 (labInc evs k),.int .i64 (labIdx evs k)],.bool (labOk evs k)]) ∧ Keep w w'
set_option maxHeartbeats 4000000 in
theorem plabel_any (w : World) (S : Nat → Prop) (B1 B2 B3 B4 : Option Addr) (p1 q1 p2 q2 p3 q3 p4 q4 : Nat) (evs : List Ev) (k : Int) (hS : ∀ i,S i → i < w.heap.size) (hl : Sl encEv 7 w S B2 p2 q2 evs) (hn : evs.length ≤ 1000000) :
  Calls Tryz.prog 64 #[.agg #[.slice B1 p1 q1,.slice B2 p2 q2,.slice B3 p3 q3,.slice B4 p4 q4],.int .i64 k] w (LabPost evs k w):=by
 have hp:=hl.1
 have hq:=hl.2.1
 generalize hW : (w.alloc (.cells #[.slice B1 p1 q1,.slice B2 p2 q2,.slice B3 p3 q3,.slice B4 p4 q4] 50)).alloc (.cells #[.int .i64 0,.int .i64 0] 87) = W
 have hkW : Keep w W:=hW ▸ Keep.alloc (Keep.new w _) _
 have hb2 : Blk W w.heap.size 50 #[.slice B1 p1 q1,.slice B2 p2 q2,.slice B3 p3 q3,.slice B4 p4 q4]:=hW ▸ (Blk.new w _ _).alloc _
 have hb4 : Blk W (w.heap.size + 1) 87 #[.int .i64 0,.int .i64 0]:=hW ▸ (by simpa using Blk.new (w.alloc _) _ _)
 have hz : w.heap.size + 1 < W.heap.size:=hb4.lt
 have e1 : W.cell? ⟨w.heap.size,1,none⟩ = some (.slice B2 p2 q2):=by rw [hb2.cell]; rfl
 have key : ∀ (w' : World) (a b : Int) (q : Bool),Blk w' (w.heap.size + 1) 87 #[.int .i64 a,.int .i64 b] → Same (· ≠ w.heap.size + 1) W w' → a = labInc evs k → b = labIdx evs k → q = labOk evs k →
   LabPost evs k w (.returned (.tuple #[.agg #[.int .i64 a,.int .i64 b],.bool q])) w':=fun w' a b q _ hs h1 h2 h3=>⟨by rw [h1,h2,h3],Keep.write hkW hs (by omega)⟩
 have hlW:=hl.keep (Same.mono hkW hS)
 have hp9 : p2 ≤ 1000000:=by omega
 have HKW:=Lib.hid hkW
 have HB2:=Lib.hid hb2
 have HB4:=Lib.hid hb4
 have KEY:=Lib.hid key
 have HLW:=Lib.hid hlW
 have E1:=Lib.hid e1
 have HS:=Lib.hid hS
 have HP:=Lib.hid hp
 clear hkW hb2 hb4 key hlW e1 hS hp
 clear hl hn
 by_cases hk0 : k = 0
 ·subst hk0
  have t0 : decide ((p2 : Int) < 0) = false:=by simp
  go_enter Tryz.func64,Tryz.ntmps64
  go_upto_region 1 with fail
  clear hW
  have e1:=E1.out
  go_wp2_with (refine wpList_store_all rfl _ (.tmp 4) (.tmp 20) rfl (w.heap.size + 1) 87 _ [.int .i64 0,.int .i64 0] rfl rfl HB4.out rfl (by kernel_rfl) rfl ?_; intro v6 hv6 hs6)
  exact bodyPost_ret (results_cell_tmp' Tryz.results64 _ _ _ ⟨w.heap.size + 1,0,none⟩ _ _ rfl rfl (loadVar_blk [.int .i64 0,.int .i64 0] _ hv6 (fun j v hv=>by simpa using hv) Tryz.underlying87 rfl (by kernel_rfl))) rfl (KEY.out v6 _ _ _ hv6 hs6 (by simp [labInc]) (by simp [labIdx]) (by simp [labOk]))
 ·have t0 : (k == 0) = false:=by simpa using hk0
  by_cases hneg : k < 0
  ·have t1 : decide (k < 0) = true:=by simpa using hneg
   go_enter Tryz.func64,Tryz.ntmps64
   go_upto_region 1 with fail
   clear hW
   have e1:=E1.out
   go_wp2_with (refine wpList_store_all rfl _ (.tmp 4) (.tmp 16) rfl (w.heap.size + 1) 87 _ [.int .i64 0,.int .i64 0] rfl rfl HB4.out rfl (by kernel_rfl) rfl ?_; intro v6 hv6 hs6)
   exact bodyPost_ret (results_cell_tmp' Tryz.results64 _ _ _ ⟨w.heap.size + 1,0,none⟩ _ _ rfl rfl (loadVar_blk [.int .i64 0,.int .i64 0] _ hv6 (fun j v hv=>by simpa using hv) Tryz.underlying87 rfl (by kernel_rfl))) rfl (KEY.out v6 _ _ _ hv6 hs6 (by have:=HP.out; simp [labInc]; omega) (by have:=HP.out; simp [labIdx]; omega) (by have:=HP.out; simp [labOk]; omega))
  ·have t1 : decide (k < 0) = false:=by simpa using hneg
   by_cases hbig : (p2 : Int) < k
   ·have t2 : decide ((p2 : Int) < k) = true:=by simpa using hbig
    go_enter Tryz.func64,Tryz.ntmps64
    go_upto_region 1 with fail
    clear hW
    have e1:=E1.out
    go_wp2_with (refine wpList_store_all rfl _ (.tmp 4) (.tmp 16) rfl (w.heap.size + 1) 87 _ [.int .i64 0,.int .i64 0] rfl rfl HB4.out rfl (by kernel_rfl) rfl ?_; intro v6 hv6 hs6)
    exact bodyPost_ret (results_cell_tmp' Tryz.results64 _ _ _ ⟨w.heap.size + 1,0,none⟩ _ _ rfl rfl (loadVar_blk [.int .i64 0,.int .i64 0] _ hv6 (fun j v hv=>by simpa using hv) Tryz.underlying87 rfl (by kernel_rfl))) rfl (KEY.out v6 _ _ _ hv6 hs6 (by have:=HP.out; simp [labInc]; omega) (by have:=HP.out; simp [labIdx]; omega) (by have:=HP.out; simp [labOk]; omega))
   ·have t2 : decide ((p2 : Int) < k) = false:=by simpa using hbig
    obtain ⟨b,off,x,rfl,hb,hx,hcx⟩:=HLW.out.at_ encEv_len (k:=k.toNat - 1) (by omega)
    have c1 : W.cell? ⟨b,off + (k.toNat - 1) * 7 + 1,none⟩ = some (.int .i64 x.inc):=hcx 1 _ rfl
    have c2 : (k - 1).toNat = k.toNat - 1:=by omega
    have c3 : (0 : Int) ≤ k - 1:=by omega
    have c4 : k - 1 < (p2 : Int):=by omega
    have hxd : evs.getD (k.toNat - 1) ⟨0,0,0,0,0,0,0⟩ = x:=by simp [List.getD,hx]
    have HXD:=Lib.hid hxd
    clear hxd
    clear hcx hx
    go_enter Tryz.func64,Tryz.ntmps64
    go_upto_region 1 with fail
    clear hW
    have e1:=E1.out
    go_wp2_with (refine wpList_store_all rfl _ (.tmp 4) (.tmp 29) rfl (w.heap.size + 1) 87 _ [.int .i64 x.inc,.int .i64 k] rfl rfl HB4.out rfl (by kernel_rfl) rfl ?_; intro v6 hv6 hs6)
    exact bodyPost_ret (results_cell_tmp' Tryz.results64 _ _ _ ⟨w.heap.size + 1,0,none⟩ _ _ rfl rfl (loadVar_blk [.int .i64 x.inc,.int .i64 k] _ hv6 (fun j v hv=>by simpa using hv) Tryz.underlying87 rfl (by kernel_rfl))) rfl (KEY.out v6 _ _ _ hv6 hs6 (by unfold labInc; rw [if_pos ⟨by have:=HP.out; omega,by have:=HP.out; omega⟩,HXD.out]) (by unfold labIdx; rw [if_pos ⟨by have:=HP.out; omega,by have:=HP.out; omega⟩]) (by have:=HP.out; unfold labOk; simp; omega))
set_option maxHeartbeats 8000000 in
theorem preceived_any (w : World) (S : Nat → Prop) (B1 B2 B3 B4 : Option Addr) (p1 q1 p2 q2 p3 q3 p4 q4 : Nat) (evs : List Ev) (frm la lb ord : Int) (hS : ∀ i,S i → i < w.heap.size) (hl : Sl encEv 7 w S B2 p2 q2 evs) (hn : evs.length ≤ 1000000) :
  Calls Tryz.prog 58 #[.agg #[.slice B1 p1 q1,.slice B2 p2 q2,.slice B3 p3 q3,.slice B4 p4 q4],.int .i64 frm,.agg #[.int .i64 la,.int .i64 lb],.int .i64 ord] w (RecvPost (recvS evs frm la lb ord) w):=by
 have hp:=hl.1
 have hp2 : p2 ≤ 1000000:=by omega
 generalize hW : (w.alloc (.cells #[.slice B1 p1 q1,.slice B2 p2 q2,.slice B3 p3 q3,.slice B4 p4 q4] 50)).alloc (.cells #[.int .i64 la,.int .i64 lb] 87) = W
 have hkW : Keep w W:=hW ▸ Keep.alloc (Keep.new w _) _
 have hb2 : Blk W w.heap.size 50 #[.slice B1 p1 q1,.slice B2 p2 q2,.slice B3 p3 q3,.slice B4 p4 q4]:=hW ▸ (Blk.new w _ _).alloc _
 have hb4 : Blk W (w.heap.size + 1) 87 #[.int .i64 la,.int .i64 lb]:=hW ▸ (by simpa using Blk.new (w.alloc _) _ _)
 have hz : w.heap.size + 1 < W.heap.size:=hb4.lt
 have e1 : W.cell? ⟨w.heap.size,1,none⟩ = some (.slice B2 p2 q2):=by rw [hb2.cell]; rfl
 have hlW:=(hl.keep (Same.mono hkW hS)).more (T:=fun i=>i < W.heap.size) (fun i hi=>by have:=hS i hi; omega)
 have HKW:=Lib.hid hkW
 have HB2:=Lib.hid hb2
 have HB4:=Lib.hid hb4
 have HLW:=Lib.hid hlW
 have E1:=Lib.hid e1
 have HS:=Lib.hid hS
 have HP:=Lib.hid hp
 clear hkW hb2 hb4 hlW e1 hS hp
 clear hl
 go_enter Tryz.func58,Tryz.ntmps58
 go_upto_region 1 with fail
 clear hW
 have e1:=E1.out
 go_wp2_with fail
 clear e1
 go_loopw [14] (fun i wr=>RcRel W evs frm la lb ord i wr) (fun i _=>p2 - (intOf i).toNat)
 case atStart=>exact ⟨0,rfl,Nat.zero_le _,rfl,Same.refl _ _⟩
 case round=>
  obtain ⟨k,rfl,hkl,hrc,hkr⟩:=hrel
  have hzr:=hkr.size
  have hbr:=hkr.blk HB2.out HB2.out.lt
  have hbl:=hkr.blk HB4.out HB4.out.lt
  have e1 : wr.cell? ⟨w.heap.size,1,none⟩ = some (.slice B2 p2 q2):=by rw [hbr.cell]; rfl
  by_cases hkn : k < p2
  ·obtain ⟨b',off',x,rfl,hbb,hx,hcx⟩:=(HLW.out.keep (Same.mono hkr (fun i hi=>hi))).at_ encEv_len hkn
   have hd1 : decide (k < p2) = true:=by simpa using hkn
   have hd2 : (0 : Int) ≤ k:=by omega
   have hd3 : (k : Int) < p2:=by omega
   have hrg : wr.rangeAt b' (off' + k * 7) [.int .i64 x.kind,.int .i64 x.inc,.int .i64 x.frm,.int .i64 x.sInc,.int .i64 x.sIdx,.int .i64 x.ord,.int .i64 x.val]:=hcx
   have hrc2:=hrc.trans (recvAt_get hx)
   have hkl1 : k + 1 ≤ evs.length:=by have:=HP.out; omega
   clear hcx hx hrc
   have HRG:=Lib.hid hrg
   have HRC2:=Lib.hid hrc2
   have HKR:=Lib.hid hkr
   have HBR:=Lib.hid hbr
   have HBL:=Lib.hid hbl
   have HKL1:=Lib.hid hkl1
   clear hrg hrc2 hkr hbr hbl hkl1
   go_upto_region 4 with (first
    | (refine wpList_load_mid rfl _ (.tmp 17) rfl b' (off' + k * 7) rfl [.int .i64 x.kind,.int .i64 x.inc,.int .i64 x.frm,.int .i64 x.sInc,.int .i64 x.sIdx,.int .i64 x.ord,.int .i64 x.val] _ HRG.out Tryz.underlying89 rfl (by kernel_rfl) ?_)
    | (refine wpList_store_all rfl _ (.tmp 10) (.tmp 18) rfl wr.heap.size 89 _ [.int .i64 x.kind,.int .i64 x.inc,.int .i64 x.frm,.int .i64 x.sInc,.int .i64 x.sIdx,.int .i64 x.ord,.int .i64 x.val] rfl rfl (Blk.new _ _ _) rfl (by kernel_rfl) rfl ?_; intro w7 hb7 hs7))
   have hk7 : Keep wr w7:=Keep.write (Keep.new _ _) hs7 (Nat.le_refl _)
   have bl7:=hk7.blk HBL.out HBL.out.lt
   have kk7:=Keep.trans HKR.out hk7
   clear e1
   have y0 : w7.cell? ⟨wr.heap.size,0,none⟩ = some (.int .i64 x.kind):=by rw [hb7.cell]; rfl
   have y2 : w7.cell? ⟨wr.heap.size,2,none⟩ = some (.int .i64 x.frm):=by rw [hb7.cell]; rfl
   have y5 : w7.cell? ⟨wr.heap.size,5,none⟩ = some (.int .i64 x.ord):=by rw [hb7.cell]; rfl
   have HB7:=Lib.hid hb7
   have BL7:=Lib.hid bl7
   have KK7:=Lib.hid kk7
   clear hb7 bl7 kk7
   clear hs7 hk7
   have fin : ∀ q : Bool,recvP frm la lb ord x = q → q = false → RcRel W evs frm la lb ord (.int .i64 (k + 1)) w7:=fun q h1 h2=>⟨k + 1,by simp,HKL1.out,by have:=HRC2.out; rw [h1,h2] at this; simpa using this,KK7.out⟩
   have fin2 : recvP frm la lb ord x = true → RecvPost (recvS evs frm la lb ord) w (.returned (.int .i64 (k + 1))) w7:=fun h1=>⟨by have:=HRC2.out; rw [h1] at this; simp [this],Keep.trans HKW.out KK7.out⟩
   have FIN:=Lib.hid fin
   have FIN2:=Lib.hid fin2
   clear fin fin2
   by_cases c0 : x.kind = 1
   case neg=>
    have t0 : (x.kind == 1) = false:=by simpa using c0
    have hfin:=FIN.out false (by simp [recvP,c0]) rfl
    have HFIN:=Lib.hid hfin
    clear hfin
    clear c0
    go_wp2_with fail
    go_roundw
    case rel=>exact HFIN.out
    case measure=>simp [intOf]; omega
   have t0 : (x.kind == 1) = true:=by simpa using c0
   by_cases c1 : x.frm = frm
   case neg=>
    have t1 : (x.frm == frm) = false:=by simpa using c1
    have hfin:=FIN.out false (by simp [recvP,c1]) rfl
    have HFIN:=Lib.hid hfin
    clear hfin
    clear c0 c1
    go_wp2_with fail
    go_roundw
    case rel=>exact HFIN.out
    case measure=>simp [intOf]; omega
   have t1 : (x.frm == frm) = true:=by simpa using c1
   by_cases c2 : x.sInc = la
   case neg=>
    have hfin:=FIN.out false (by simp [recvP,c2]) rfl
    have HFIN:=Lib.hid hfin
    clear hfin
    go_wp2_with (first
     | (refine wpList_load_blkg (by rfl) _ (.tmp 29) rfl wr.heap.size 3 89 _ [.int .i64 x.sInc,.int .i64 x.sIdx] _ rfl HB7.out (lab_cells x.kind x.inc x.frm x.sInc x.sIdx x.ord x.val) Tryz.underlying87 rfl (by kernel_rfl) ?_)
     | (refine wpList_load_allg (by rfl) _ (.tmp 6) rfl (w.heap.size + 1) 87 [.int .i64 la,.int .i64 lb] _ rfl BL7.out Tryz.underlying87 rfl (by kernel_rfl) ?_))
    go_roundw
    case rel=>exact HFIN.out
    case measure=>simp [intOf]; omega
   by_cases c3 : x.sIdx = lb
   case neg=>
    have hfin:=FIN.out false (by simp [recvP,c3]) rfl
    have HFIN:=Lib.hid hfin
    clear hfin
    go_wp2_with (first
     | (refine wpList_load_blkg (by rfl) _ (.tmp 29) rfl wr.heap.size 3 89 _ [.int .i64 x.sInc,.int .i64 x.sIdx] _ rfl HB7.out (lab_cells x.kind x.inc x.frm x.sInc x.sIdx x.ord x.val) Tryz.underlying87 rfl (by kernel_rfl) ?_)
     | (refine wpList_load_allg (by rfl) _ (.tmp 6) rfl (w.heap.size + 1) 87 [.int .i64 la,.int .i64 lb] _ rfl BL7.out Tryz.underlying87 rfl (by kernel_rfl) ?_))
    go_roundw
    case rel=>exact HFIN.out
    case measure=>simp [intOf]; omega
   by_cases c4 : x.ord = ord
   case neg=>
    have hfin:=FIN.out false (by simp [recvP,c4]) rfl
    have t4 : (x.ord == ord) = false:=by simpa using c4
    have HFIN:=Lib.hid hfin
    clear hfin
    go_wp2_with (first
     | (refine wpList_load_blkg (by rfl) _ (.tmp 29) rfl wr.heap.size 3 89 _ [.int .i64 x.sInc,.int .i64 x.sIdx] _ rfl HB7.out (lab_cells x.kind x.inc x.frm x.sInc x.sIdx x.ord x.val) Tryz.underlying87 rfl (by kernel_rfl) ?_)
     | (refine wpList_load_allg (by rfl) _ (.tmp 6) rfl (w.heap.size + 1) 87 [.int .i64 la,.int .i64 lb] _ rfl BL7.out Tryz.underlying87 rfl (by kernel_rfl) ?_))
    go_roundw
    case rel=>exact HFIN.out
    case measure=>simp [intOf]; omega
   have t4 : (x.ord == ord) = true:=by simpa using c4
   have hfin:=FIN2.out (by simp [recvP,c0,c1,c2,c3,c4])
   have HFIN:=Lib.hid hfin
   clear hfin
   go_wp2_with (first
    | (refine wpList_load_blkg (by rfl) _ (.tmp 29) rfl wr.heap.size 3 89 _ [.int .i64 x.sInc,.int .i64 x.sIdx] _ rfl HB7.out (lab_cells x.kind x.inc x.frm x.sInc x.sIdx x.ord x.val) Tryz.underlying87 rfl (by kernel_rfl) ?_)
    | (refine wpList_load_allg (by rfl) _ (.tmp 6) rfl (w.heap.size + 1) 87 [.int .i64 la,.int .i64 lb] _ rfl BL7.out Tryz.underlying87 rfl (by kernel_rfl) ?_))
   go_ret
   exact HFIN.out
  ·have hd1 : decide (k < p2) = false:=by simpa using hkn
   have hfin : RecvPost (recvS evs frm la lb ord) w (.returned (.int .i64 0)) wr:=⟨by rw [hrc,List.drop_of_length_le (by have:=HP.out; omega)]; rfl,Keep.trans HKW.out hkr⟩
   have HFIN:=Lib.hid hfin
   have HRC:=Lib.hid hrc
   have HKR:=Lib.hid hkr
   have HBR:=Lib.hid hbr
   have HBL:=Lib.hid hbl
   clear hfin hrc hkr hbr hbl
   go_wp2_with fail
   go_ret
   exact HFIN.out
set_option maxHeartbeats 8000000 in
theorem rreceived_any (w : World) (S : Nat → Prop) (B1 B2 B3 B4 : Option Addr) (p1 q1 p2 q2 p3 q3 p4 q4 : Nat) (evs : List Ev) (frm la lb ord : Int) (hS : ∀ i,S i → i < w.heap.size) (hl : Sl encEv 7 w S B2 p2 q2 evs) (hn : evs.length ≤ 1000000) :
  Calls Tryz.prog 62 #[.agg #[.slice B1 p1 q1,.slice B2 p2 q2,.slice B3 p3 q3,.slice B4 p4 q4],.int .i64 frm,.agg #[.int .i64 la,.int .i64 lb],.int .i64 ord] w (RecvPost (recvS evs frm la lb ord) w):=by
 have hp:=hl.1
 have hp2 : p2 ≤ 1000000:=by omega
 generalize hW : (w.alloc (.cells #[.slice B1 p1 q1,.slice B2 p2 q2,.slice B3 p3 q3,.slice B4 p4 q4] 50)).alloc (.cells #[.int .i64 la,.int .i64 lb] 87) = W
 have hkW : Keep w W:=hW ▸ Keep.alloc (Keep.new w _) _
 have hb2 : Blk W w.heap.size 50 #[.slice B1 p1 q1,.slice B2 p2 q2,.slice B3 p3 q3,.slice B4 p4 q4]:=hW ▸ (Blk.new w _ _).alloc _
 have hb4 : Blk W (w.heap.size + 1) 87 #[.int .i64 la,.int .i64 lb]:=hW ▸ (by simpa using Blk.new (w.alloc _) _ _)
 have hz : w.heap.size + 1 < W.heap.size:=hb4.lt
 have e1 : W.cell? ⟨w.heap.size,1,none⟩ = some (.slice B2 p2 q2):=by rw [hb2.cell]; rfl
 have hlW:=(hl.keep (Same.mono hkW hS)).more (T:=fun i=>i < W.heap.size) (fun i hi=>by have:=hS i hi; omega)
 have HKW:=Lib.hid hkW
 have HB2:=Lib.hid hb2
 have HB4:=Lib.hid hb4
 have HLW:=Lib.hid hlW
 have E1:=Lib.hid e1
 have HS:=Lib.hid hS
 have HP:=Lib.hid hp
 clear hkW hb2 hb4 hlW e1 hS hp
 clear hl
 go_enter Tryz.func62,Tryz.ntmps62
 go_upto_region 1 with fail
 clear hW
 have e1:=E1.out
 go_wp2_with fail
 clear e1
 go_loopw [9] (fun i wr=>RcRel W evs frm la lb ord i wr) (fun i _=>p2 - (intOf i).toNat)
 case atStart=>exact ⟨0,rfl,Nat.zero_le _,rfl,Same.refl _ _⟩
 case round=>
  obtain ⟨k,rfl,hkl,hrc,hkr⟩:=hrel
  have hzr:=hkr.size
  have hbr:=hkr.blk HB2.out HB2.out.lt
  have hbl:=hkr.blk HB4.out HB4.out.lt
  have e1 : wr.cell? ⟨w.heap.size,1,none⟩ = some (.slice B2 p2 q2):=by rw [hbr.cell]; rfl
  by_cases hkn : k < p2
  ·obtain ⟨b',off',x,rfl,hbb,hx,hcx⟩:=(HLW.out.keep (Same.mono hkr (fun i hi=>hi))).at_ encEv_len hkn
   have hd1 : decide (k < p2) = true:=by simpa using hkn
   have hd2 : (0 : Int) ≤ k:=by omega
   have hd3 : (k : Int) < p2:=by omega
   have hrg : wr.rangeAt b' (off' + k * 7) [.int .i64 x.kind,.int .i64 x.inc,.int .i64 x.frm,.int .i64 x.sInc,.int .i64 x.sIdx,.int .i64 x.ord,.int .i64 x.val]:=hcx
   have hrc2:=hrc.trans (recvAt_get hx)
   have hkl1 : k + 1 ≤ evs.length:=by have:=HP.out; omega
   clear hcx hx hrc
   have HRG:=Lib.hid hrg
   have HRC2:=Lib.hid hrc2
   have HKR:=Lib.hid hkr
   have HBR:=Lib.hid hbr
   have HBL:=Lib.hid hbl
   have HKL1:=Lib.hid hkl1
   clear hrg hrc2 hkr hbr hbl hkl1
   go_upto_region 5 with (first
    | (refine wpList_load_mid rfl _ (.tmp 21) rfl b' (off' + k * 7) rfl [.int .i64 x.kind,.int .i64 x.inc,.int .i64 x.frm,.int .i64 x.sInc,.int .i64 x.sIdx,.int .i64 x.ord,.int .i64 x.val] _ HRG.out Tryz.underlying89 rfl (by kernel_rfl) ?_)
    | (refine wpList_store_all rfl _ (.tmp 10) (.tmp 22) rfl wr.heap.size 89 _ [.int .i64 x.kind,.int .i64 x.inc,.int .i64 x.frm,.int .i64 x.sInc,.int .i64 x.sIdx,.int .i64 x.ord,.int .i64 x.val] rfl rfl (Blk.new _ _ _) rfl (by kernel_rfl) rfl ?_; intro w7 hb7 hs7))
   have hk7 : Keep wr w7:=Keep.write (Keep.new _ _) hs7 (Nat.le_refl _)
   have bl7:=hk7.blk HBL.out HBL.out.lt
   have kk7:=Keep.trans HKR.out hk7
   clear e1
   have y0 : w7.cell? ⟨wr.heap.size,0,none⟩ = some (.int .i64 x.kind):=by rw [hb7.cell]; rfl
   have y2 : w7.cell? ⟨wr.heap.size,2,none⟩ = some (.int .i64 x.frm):=by rw [hb7.cell]; rfl
   have y5 : w7.cell? ⟨wr.heap.size,5,none⟩ = some (.int .i64 x.ord):=by rw [hb7.cell]; rfl
   have HB7:=Lib.hid hb7
   have BL7:=Lib.hid bl7
   have KK7:=Lib.hid kk7
   clear hb7 bl7 kk7
   clear hs7 hk7
   have fin : ∀ q : Bool,recvP frm la lb ord x = q → q = false → RcRel W evs frm la lb ord (.int .i64 (k + 1)) w7:=fun q h1 h2=>⟨k + 1,by simp,HKL1.out,by have:=HRC2.out; rw [h1,h2] at this; simpa using this,KK7.out⟩
   have fin2 : recvP frm la lb ord x = true → RecvPost (recvS evs frm la lb ord) w (.returned (.int .i64 (k + 1))) w7:=fun h1=>⟨by have:=HRC2.out; rw [h1] at this; simp [this],Keep.trans HKW.out KK7.out⟩
   have FIN:=Lib.hid fin
   have FIN2:=Lib.hid fin2
   clear fin fin2
   by_cases c0 : x.kind = 1
   case neg=>
    have t0 : (x.kind == 1) = false:=by simpa using c0
    have hfin:=FIN.out false (by simp [recvP,c0]) rfl
    have HFIN:=Lib.hid hfin
    clear hfin
    clear c0
    go_wp2_with fail
    go_roundw
    case rel=>exact HFIN.out
    case measure=>simp [intOf]; omega
   have t0 : (x.kind == 1) = true:=by simpa using c0
   by_cases c1 : x.frm = frm
   case neg=>
    have t1 : (x.frm == frm) = false:=by simpa using c1
    have hfin:=FIN.out false (by simp [recvP,c1]) rfl
    have HFIN:=Lib.hid hfin
    clear hfin
    clear c0 c1
    go_wp2_with fail
    go_roundw
    case rel=>exact HFIN.out
    case measure=>simp [intOf]; omega
   have t1 : (x.frm == frm) = true:=by simpa using c1
   by_cases c2 : x.sInc = la
   case neg=>
    have hfin:=FIN.out false (by simp [recvP,c2]) rfl
    have HFIN:=Lib.hid hfin
    clear hfin
    go_wp2_with (first
     | (refine wpList_load_blkg (by rfl) _ (.tmp 33) rfl wr.heap.size 3 89 _ [.int .i64 x.sInc,.int .i64 x.sIdx] _ rfl HB7.out (lab_cells x.kind x.inc x.frm x.sInc x.sIdx x.ord x.val) Tryz.underlying87 rfl (by kernel_rfl) ?_)
     | (refine wpList_load_allg (by rfl) _ (.tmp 6) rfl (w.heap.size + 1) 87 [.int .i64 la,.int .i64 lb] _ rfl BL7.out Tryz.underlying87 rfl (by kernel_rfl) ?_))
    go_roundw
    case rel=>exact HFIN.out
    case measure=>simp [intOf]; omega
   by_cases c3 : x.sIdx = lb
   case neg=>
    have hfin:=FIN.out false (by simp [recvP,c3]) rfl
    have HFIN:=Lib.hid hfin
    clear hfin
    go_wp2_with (first
     | (refine wpList_load_blkg (by rfl) _ (.tmp 33) rfl wr.heap.size 3 89 _ [.int .i64 x.sInc,.int .i64 x.sIdx] _ rfl HB7.out (lab_cells x.kind x.inc x.frm x.sInc x.sIdx x.ord x.val) Tryz.underlying87 rfl (by kernel_rfl) ?_)
     | (refine wpList_load_allg (by rfl) _ (.tmp 6) rfl (w.heap.size + 1) 87 [.int .i64 la,.int .i64 lb] _ rfl BL7.out Tryz.underlying87 rfl (by kernel_rfl) ?_))
    go_roundw
    case rel=>exact HFIN.out
    case measure=>simp [intOf]; omega
   by_cases c4 : x.ord = ord
   case neg=>
    have hfin:=FIN.out false (by simp [recvP,c4]) rfl
    have t4 : (x.ord == ord) = false:=by simpa using c4
    have HFIN:=Lib.hid hfin
    clear hfin
    go_wp2_with (first
     | (refine wpList_load_blkg (by rfl) _ (.tmp 33) rfl wr.heap.size 3 89 _ [.int .i64 x.sInc,.int .i64 x.sIdx] _ rfl HB7.out (lab_cells x.kind x.inc x.frm x.sInc x.sIdx x.ord x.val) Tryz.underlying87 rfl (by kernel_rfl) ?_)
     | (refine wpList_load_allg (by rfl) _ (.tmp 6) rfl (w.heap.size + 1) 87 [.int .i64 la,.int .i64 lb] _ rfl BL7.out Tryz.underlying87 rfl (by kernel_rfl) ?_))
    go_roundw
    case rel=>exact HFIN.out
    case measure=>simp [intOf]; omega
   have t4 : (x.ord == ord) = true:=by simpa using c4
   have hfin:=FIN2.out (by simp [recvP,c0,c1,c2,c3,c4])
   have HFIN:=Lib.hid hfin
   clear hfin
   go_wp2_with (first
    | (refine wpList_load_blkg (by rfl) _ (.tmp 33) rfl wr.heap.size 3 89 _ [.int .i64 x.sInc,.int .i64 x.sIdx] _ rfl HB7.out (lab_cells x.kind x.inc x.frm x.sInc x.sIdx x.ord x.val) Tryz.underlying87 rfl (by kernel_rfl) ?_)
    | (refine wpList_load_allg (by rfl) _ (.tmp 6) rfl (w.heap.size + 1) 87 [.int .i64 la,.int .i64 lb] _ rfl BL7.out Tryz.underlying87 rfl (by kernel_rfl) ?_))
   go_ret
   exact HFIN.out
  ·have hd1 : decide (k < p2) = false:=by simpa using hkn
   have hfin : RecvPost (recvS evs frm la lb ord) w (.returned (.int .i64 0)) wr:=⟨by rw [hrc,List.drop_of_length_le (by have:=HP.out; omega)]; rfl,Keep.trans HKW.out hkr⟩
   have HFIN:=Lib.hid hfin
   have HRC:=Lib.hid hrc
   have HKR:=Lib.hid hkr
   have HBR:=Lib.hid hbr
   have HBL:=Lib.hid hbl
   clear hfin hrc hkr hbr hbl
   go_wp2_with fail
   go_ret
   exact HFIN.out
end Go.Proofs.YtipegaojiokppaaGreatDoor
set_option linter.unusedVariables false
set_option linter.unusedSimpArgs false
set_option maxRecDepth 100000
namespace Go.Proofs.YtipegaojiokppaaGreatDoor
open Go.RowKit Go.Proofs
structure Chc where
 proc : Int
 kind : Int
 frm : Int
 idx : Int
 ord : Int
 val : Int
def encCh (x : Chc) : List Value:=[.int .i64 x.proc,.int .i64 x.kind,.int .i64 x.frm,.int .i64 x.idx,.int .i64 x.ord,.int .i64 x.val]
theorem encCh_len (x : Chc) : (encCh x).length = 6:=rfl
theorem encCh_one (d : Chc) : ∀ u ∈ encCh d,u.oneCell' = true:=by
 intro u hu
 simp [encCh] at hu
 rcases hu with h | h | h | h | h | h <;> subst h <;> rfl
theorem info_Choice : (Tryz.prog.info? 57).map (fun i=>(i.zero,i.size,i.bytes)) = some (some (.agg #[.int .i64 0,.int .i64 0,.int .i64 0,.int .i64 0,.int .i64 0,.int .i64 0]),6,48):=by kernel_rfl
theorem run_make_row {P : Program} (t e : TypeId) (i : TypeInfo) (z : Value) (ht : P.underlying t = some (.slice e)) (hi : P.info? e = some i) (hz : i.zero = some z)
  (kl kc : IntKind) (n c : Nat) (hnc : n ≤ c) (hbytes : i.bytes * c ≤ 281474976710656) (h63 : c ≤ 9223372036854775807) (w : World) :
  (Instr.makeSlice t (.int kl (n : Int)) (.int kc (c : Int))).run P w = .ok (.slice (some ⟨w.heap.size,0,none⟩) n c) (w.alloc (.cells (madeCells z.cells (c * i.size)) e)):=by
 have hb : (i.bytes : Int) * (c : Int) ≤ 281474976710656:=by
  have h : ((i.bytes * c : Nat) : Int) ≤ 281474976710656:=by omega
  rwa [Int.natCast_mul] at h
 have hr:=run_make (P:=P) w t e i z ht hi hz kl kc n c (by omega) (by omega) hb (by omega)
 simp only [Int.toNat_natCast] at hr
 exact hr
end Go.Proofs.YtipegaojiokppaaGreatDoor
