import Derived.Test.YtipegaojiokppaaGreatDoorGP
import Derived.Test.YtipegaojiokppaaGreatDoorGQ
import Derived.Test.YtipegaojiokppaaGreatDoorGA
import Derived.Test.YtipegaojiokppaaGreatDoorApd
set_option linter.unusedVariables false
set_option linter.unusedSimpArgs false
namespace Go.Proofs.YtipegaojiokppaaGreatDoor
open Go.RowKit Go.Proofs
structure Sh where
 proc : Int
 idx : Int
 ord : Int
 val : Int
def encSh (x : Sh) : List Value:=[.int .i64 x.proc,.int .i64 x.idx,.int .i64 x.ord,.int .i64 x.val]
theorem encSh_len (x : Sh) : (encSh x).length = 4:=rfl
theorem encSh_one (d : Sh) : ∀ u ∈ encSh d,u.oneCell' = true:=by
 intro u hu
 simp [encSh] at hu
 rcases hu with h | h | h | h <;> subst h <;> rfl
structure Mi where
 ss : List St
 world : List Sh
def zeroEv : Ev:=⟨0,0,0,0,0,0,0⟩
def zeroSt : St:=⟨[],[],[],[]⟩
def zeroCd : Cd:=⟨[],[],[],[],[]⟩
def hitM (x : Chc) (s : Snd) : Bool:=s.idx == x.idx && s.ord == x.ord && s.to == x.proc
def findI (l : List Snd) (x : Chc) : Option Snd:=l.find? (hitM x)
def procI (n : Nat) (p : Int) : Bool:=decide (0 ≤ p) && decide (p < n)
def okI (n : Nat) (x : Chc) : Bool:=procI n x.proc && (x.kind == 1 || x.kind == 2 || x.kind == 3) && (!(x.kind == 1) || procI n x.frm && !(x.frm == x.proc))
def stAt (ss : List St) (p : Int) : St:=ss.getD p.toNat zeroSt
def eventI (ss : List St) (x : Chc) : Ev × Int:=
 if okI ss.length x = false then (zeroEv,3)
 else if 64 ≤ (stAt ss x.proc).events.length then (zeroEv,4)
 else if x.kind ≠ 1 then (⟨x.kind,0,0,0,0,0,x.val⟩,0)
 else match findI (stAt ss x.frm).sent x with
  | none=>(zeroEv,11)
  | some s=>if recvS (stAt ss x.proc).events x.frm 0 x.idx x.ord ≠ 0 then (zeroEv,15) else (⟨1,0,x.frm,0,x.idx,x.ord,s.val⟩,0)
def showS (p : Int) : Int → List Outp → List Sh
 | _,[]=>[]
 | ord,o :: l=>⟨p,o.idx,ord,o.val⟩ :: showS p (ord + 1) l
theorem showS_snoc (p : Int) (o : Outp) : ∀ (l : List Outp) (k : Int),showS p k (l ++ [o]) = showS p k l ++ [⟨p,o.idx,k + l.length,o.val⟩]
 | [],k=>by simp [showS]
 | x :: l,k=>by
  rw [List.cons_append,showS,showS,showS_snoc p o l (k + 1),List.cons_append,List.length_cons]
  have : k + 1 + (l.length : Int) = k + ((l.length + 1 : Nat) : Int):=by omega
  rw [this]
theorem showS_len (p : Int) : ∀ (l : List Outp) (k : Int),(showS p k l).length = l.length
 | [],_=>rfl
 | x :: l,k=>by rw [showS,List.length_cons,List.length_cons,showS_len p l]
noncomputable def execI (cs : List Cd) (m : Mi) (p : Nat) (e : Ev) : Mi:=
 ⟨m.ss.set p (nextS (cs.getD p zeroCd) p m.ss.length (m.ss.getD p zeroSt) e),m.world ++ showS p 0 ((nextS (cs.getD p zeroCd) p m.ss.length (m.ss.getD p zeroSt) e).outs.drop (m.ss.getD p zeroSt).outs.length)⟩
noncomputable def playI (cs : List Cd) : Mi → List Chc → Except Int Mi
 | m,[]=>.ok m
 | m,x :: l=>if (eventI m.ss x).2 = 0 then playI cs (execI cs m x.proc.toNat (eventI m.ss x).1) l else .error (eventI m.ss x).2
noncomputable def startI (cs : List Cd) : Nat → Mi
 | 0=>⟨[],[]⟩
 | k + 1=>⟨(startI cs k).ss ++ [startS (cs.getD k zeroCd) k cs.length],(startI cs k).world ++ showS k 0 (startS (cs.getD k zeroCd) k cs.length).outs⟩
noncomputable def runI (cs : List Cd) (l : List Chc) : Except Int Mi:=
 if cs.length < 1 ∨ 5 < cs.length then .error 3
 else if 320 < l.length then .error 4
 else playI cs (startI cs cs.length) l
theorem eventI_err (ss : List St) (x : Chc) : (eventI ss x).2 = 0 ∨ (eventI ss x).2 = 3 ∨ (eventI ss x).2 = 4 ∨ (eventI ss x).2 = 11 ∨ (eventI ss x).2 = 15:=by
 unfold eventI
 split
 ·simp
 ·split
  ·simp
  ·split
   ·simp
   ·split
    ·simp
    ·split <;> simp
theorem okI_proc {n : Nat} {x : Chc} (h : okI n x = true) : 0 ≤ x.proc ∧ x.proc.toNat < n:=by
 simp only [okI,procI,Bool.and_eq_true,decide_eq_true_eq] at h
 omega
theorem okI_frm {n : Nat} {x : Chc} (h : okI n x = true) (h1 : x.kind = 1) : 0 ≤ x.frm ∧ x.frm.toNat < n ∧ x.frm ≠ x.proc:=by
 simp only [okI,procI,h1,Bool.and_eq_true,decide_eq_true_eq,beq_self_eq_true,Bool.not_true,Bool.false_or,Bool.not_eq_true',beq_eq_false_iff_ne] at h
 obtain ⟨_,⟨a,b⟩,c⟩:=h
 exact ⟨a,by omega,c⟩
theorem eventI_ok {ss : List St} {x : Chc} (h : (eventI ss x).2 = 0) : okI ss.length x = true ∧ (stAt ss x.proc).events.length < 64:=by
 unfold eventI at h
 split at h
 ·simp at h
 ·rename_i h1
  split at h
  ·simp at h
  ·rename_i h2
   exact ⟨by simpa using h1,by omega⟩
theorem playI_app (cs : List Cd) : ∀ (l l2 : List Chc) (m : Mi),playI cs m (l ++ l2) = (match playI cs m l with | .ok m'=>playI cs m' l2 | .error k=>.error k)
 | [],l2,m=>rfl
 | x :: l,l2,m=>by
  rw [List.cons_append,playI,playI]
  split
  ·exact playI_app cs l l2 _
  ·rfl
theorem playI_snoc {cs : List Cd} {m m' : Mi} {l : List Chc} (h : playI cs m l = .ok m') (x : Chc) : playI cs m (l ++ [x]) = if (eventI m'.ss x).2 = 0 then .ok (execI cs m' x.proc.toNat (eventI m'.ss x).1) else .error (eventI m'.ss x).2:=by
 rw [playI_app,h]
 show playI cs m' [x] = _
 rw [playI]
 rfl
theorem playI_cons_ok {cs : List Cd} {m m' : Mi} {x : Chc} {l : List Chc} (h : playI cs m (x :: l) = .ok m') : (eventI m.ss x).2 = 0 ∧ playI cs (execI cs m x.proc.toNat (eventI m.ss x).1) l = .ok m':=by
 rw [playI] at h
 split at h
 ·rename_i h0; exact ⟨h0,h⟩
 ·cases h
theorem playI_err {cs : List Cd} {k : Int} : ∀ (l : List Chc) (m : Mi),playI cs m l = .error k → k = 3 ∨ k = 4 ∨ k = 11 ∨ k = 15
 | [],m,h=>by cases h
 | x :: l,m,h=>by
  rw [playI] at h
  split at h
  ·exact playI_err l _ h
  ·injection h with h
   have:=eventI_err m.ss x
   omega
theorem runI_err {cs : List Cd} {k : Int} {l : List Chc} (h : runI cs l = .error k) : k = 3 ∨ k = 4 ∨ k = 11 ∨ k = 15:=by
 unfold runI at h
 split at h
 ·injection h with h; omega
 ·split at h
  ·injection h with h; omega
  ·exact playI_err _ _ h
structure InvI (cs : List Cd) (m : Mi) : Prop where
 len : m.ss.length = cs.length
 st : ∀ p,p < cs.length → m.ss.getD p zeroSt = replayS (cs.getD p zeroCd) p cs.length (m.ss.getD p zeroSt).events
 few : ∀ p,p < cs.length → (m.ss.getD p zeroSt).events.length ≤ 64
theorem startI_len (cs : List Cd) : ∀ k,(startI cs k).ss.length = k
 | 0=>rfl
 | k + 1=>by rw [startI]; simp [startI_len cs k]
theorem startI_get (cs : List Cd) : ∀ k p,p < k → (startI cs k).ss.getD p zeroSt = startS (cs.getD p zeroCd) p cs.length
 | k + 1,p,h=>by
  have hl:=startI_len cs k
  rw [startI]
  by_cases hp : p < k
  ·have:=startI_get cs k p hp
   simp only [List.getD,List.getElem?_append_left (show p < (startI cs k).ss.length by omega)] at this ⊢
   exact this
  ·obtain rfl : p = k:=by omega
   simp only [List.getD,List.getElem?_append_right (show (startI cs p).ss.length ≤ p by omega),hl,Nat.sub_self]
   rfl
theorem startS_eq (c : Cd) (p n : Int) : startS c p n = replayS c p n []:=rfl
theorem startI_inv (cs : List Cd) : InvI cs (startI cs cs.length):=
 ⟨startI_len cs _,fun p hp=>by rw [startI_get cs _ p hp,startS_eq,replayS_events],fun p hp=>by rw [startI_get cs _ p hp,startS_eq,replayS_events]; simp⟩
theorem getD_set_same {α : Type} {l : List α} {k : Nat} {v d : α} (h : k < l.length) : (l.set k v).getD k d = v:=by simp [List.getD,h]
theorem getD_set_diff {α : Type} {l : List α} {k i : Nat} {v d : α} (h : k ≠ i) : (l.set k v).getD i d = l.getD i d:=by simp [List.getD,List.getElem?_set,h]
theorem execI_inv {cs : List Cd} {m : Mi} (h : InvI cs m) {p : Nat} (hp : p < cs.length) (e : Ev) (h64 : (m.ss.getD p zeroSt).events.length < 64) : InvI cs (execI cs m p e):=by
 have hl:=h.len
 refine ⟨by simp [execI,hl],fun q hq=>?_,fun q hq=>?_⟩
 ·by_cases hpq : p = q
  ·subst hpq
   simp only [execI]
   rw [getD_set_same (by omega),nextS_events,replayS_snoc,← h.st p hp,hl]
  ·simp only [execI]
   rw [getD_set_diff hpq]
   exact h.st q hq
 ·by_cases hpq : p = q
  ·subst hpq
   simp only [execI]
   rw [getD_set_same (by omega),nextS_events,List.length_append,List.length_cons,List.length_nil]
   omega
  ·simp only [execI]
   rw [getD_set_diff hpq]
   exact h.few q hq
theorem step_inv {cs : List Cd} {m : Mi} (h : InvI cs m) {x : Chc} (hx : (eventI m.ss x).2 = 0) : InvI cs (execI cs m x.proc.toNat (eventI m.ss x).1):=by
 have h1:=eventI_ok hx
 have h2:=okI_proc h1.1
 exact execI_inv h (by have:=h.len; omega) _ h1.2
theorem playI_inv {cs : List Cd} {m' : Mi} : ∀ (l : List Chc) (m : Mi),InvI cs m → playI cs m l = .ok m' → InvI cs m'
 | [],m,hi,h=>by injection h with h; exact h ▸ hi
 | x :: l,m,hi,h=>by
  have h:=playI_cons_ok h
  exact playI_inv l _ (step_inv hi h.1) h.2
theorem InvI.lens {cs : List Cd} {m : Mi} (h : InvI cs m) {p : Nat} (hp : p < cs.length) : (m.ss.getD p zeroSt).cells.length = (cs.getD p zeroCd).init.length ∧ (m.ss.getD p zeroSt).sent.length ≤ 8 * ((m.ss.getD p zeroSt).events.length + 1) ∧ (m.ss.getD p zeroSt).outs.length ≤ 8 * ((m.ss.getD p zeroSt).events.length + 1) ∧ (m.ss.getD p zeroSt).events.length ≤ 64:=by
 have h1:=replayS_len (cs.getD p zeroCd) p cs.length (m.ss.getD p zeroSt).events
 rw [← h.st p hp] at h1
 exact ⟨h1.1,h1.2.1,h1.2.2.1,h.few p hp⟩
theorem execI_world {cs : List Cd} {m : Mi} (p : Nat) (e : Ev) : (execI cs m p e).world.length ≤ m.world.length + 8:=by
 have:=(nextS_len (cs.getD p zeroCd) p m.ss.length (m.ss.getD p zeroSt) e).2.2
 simp only [execI,List.length_append,showS_len,List.length_drop]
 omega
theorem startI_world (cs : List Cd) : ∀ k,(startI cs k).world.length ≤ 8 * k
 | 0=>by simp [startI]
 | k + 1=>by
  have:=startI_world cs k
  have h2:=(replayS_len (cs.getD k zeroCd) k cs.length []).2.2.1
  rw [startI,startS_eq]
  simp only [List.length_append,showS_len]
  rw [List.length_nil] at h2
  omega
end Go.Proofs.YtipegaojiokppaaGreatDoor
set_option maxRecDepth 100000
namespace Go.Proofs.YtipegaojiokppaaGreatDoor
open Go.RowKit Go.Proofs
def But (w : World) (X : Nat → Prop) (i : Nat) : Prop:=i < w.heap.size ∧ ¬ X i
theorem cells_get {size : Nat} : ∀ (css : List (List Value)) (k j : Nat) (cs : List Value),(∀ c ∈ css,c.length = size) → css[k]? = some cs → j < size → css.flatten[k * size + j]? = cs[j]?
 | c :: css,0,j,cs,h,hk,hj=>by
  simp at hk
  subst hk
  rw [List.flatten_cons,List.getElem?_append_left (by rw [h c (by simp)]; omega),Nat.zero_mul,Nat.zero_add]
 | c :: css,k + 1,j,cs,h,hk,hj=>by
  have hc:=h c (by simp)
  rw [List.flatten_cons,List.getElem?_append_right (by rw [hc,Nat.add_mul]; omega),hc]
  have : (k + 1) * size + j - size = k * size + j:=by rw [Nat.add_mul]; omega
  rw [this,cells_get css k j cs (fun c hc=>h c (by simp [hc])) (by simpa using hk) hj]
theorem cells_len {size : Nat} : ∀ (css : List (List Value)),(∀ c ∈ css,c.length = size) → css.flatten.length = css.length * size
 | [],_=>by simp
 | c :: css,h=>by
  rw [List.flatten_cons,List.length_append,h c (by simp),cells_len css (fun c hc=>h c (by simp [hc])),List.length_cons,Nat.add_mul]
  omega
theorem flatten_set {size : Nat} : ∀ (css : List (List Value)) (k : Nat) (cs : List Value),(∀ c ∈ css,c.length = size) → cs.length = size → k < css.length → ∀ i,(css.set k cs).flatten[i]? = if k * size ≤ i ∧ i < k * size + size then cs[i - k * size]? else css.flatten[i]?
 | c :: css,0,cs,h,hc,_,i=>by
  have h0:=h c (by simp)
  rw [List.set_cons_zero,List.flatten_cons,List.flatten_cons,Nat.zero_mul,Nat.zero_add,Nat.sub_zero]
  by_cases hi : i < size
  ·rw [if_pos ⟨by omega,hi⟩,List.getElem?_append_left (by omega)]
  ·rw [if_neg (by omega),List.getElem?_append_right (by omega),List.getElem?_append_right (by omega),hc,h0]
 | c :: css,k + 1,cs,h,hc,hk,i=>by
  have h0:=h c (by simp)
  rw [List.set_cons_succ,List.flatten_cons,List.flatten_cons]
  have ih:=flatten_set css k cs (fun c hc=>h c (by simp [hc])) hc (by simpa using hk)
  have e : (k + 1) * size = k * size + size:=by rw [Nat.add_mul]; omega
  by_cases hi : i < size
  ·rw [List.getElem?_append_left (by omega),if_neg (by omega),List.getElem?_append_left (by omega)]
  ·rw [List.getElem?_append_right (by omega),h0,ih (i - size)]
   by_cases h2 : k * size ≤ i - size ∧ i - size < k * size + size
   ·rw [if_pos h2,if_pos (by omega)]
    congr 1
    omega
   ·rw [if_neg h2,if_neg (by omega),List.getElem?_append_right (by omega),h0]
theorem splice_flatten {size : Nat} {css : List (List Value)} {k : Nat} {cs : List Value} (h : ∀ c ∈ css,c.length = size) (hc : cs.length = size) (hk : k < css.length) : splice css.flatten.toArray (k * size) cs = (css.set k cs).flatten.toArray:=by
 have hm:=Nat.mul_le_mul_right size (show k + 1 ≤ css.length from hk)
 rw [Nat.add_mul] at hm
 apply Array.ext_getElem?
 intro i
 rw [splice_get cs _ _ (by simp only [List.size_toArray]; rw [cells_len css h]; omega),List.getElem?_toArray,List.getElem?_toArray,flatten_set css k cs h hc hk,hc]
def StsR (w : World) (X : Nat → Prop) (css : List (List Value)) (ss : List St) : Prop:=
 css.length = ss.length ∧ (∀ cs ∈ css,cs.length = 4) ∧ ∀ (k : Nat) (cs : List Value) (s : St),css[k]? = some cs → ss[k]? = some s → StR w (But w X) cs s
section
variable {w w' : World} {X X' T : Nat → Prop} {css : List (List Value)} {ss : List St}
theorem But.of_keep (hk : Keep w w') {i : Nat} (hi : But w X i) : But w' X i:=⟨by have:=hi.1; have:=hk.size; omega,hi.2⟩
theorem StsR.nil_ : StsR w X [] []:=⟨rfl,by simp,by simp⟩
theorem StsR.same (h : StsR w X css ss) (hs : Same T w w') (hT : ∀ i,But w X i → T i) (hX : ∀ i,But w X i → ¬ X' i) : StsR w' X' css ss:=
 ⟨h.1,h.2.1,fun k cs s e1 e2=>((h.2.2 k cs s e1 e2).keep (hs.mono hT)).more (fun i hi=>⟨by have:=hi.1; have:=hs.size; omega,hX i hi⟩)⟩
theorem StsR.keep (h : StsR w X css ss) (hk : Keep w w') : StsR w' X css ss:=h.same hk (fun i hi=>hi.1) (fun i hi=>hi.2)
theorem StsR.at_ (h : StsR w X css ss) {k : Nat} (hk : k < ss.length) : ∃ (B1 B2 B3 B4 : Option Addr) (p1 q1 p2 q2 p3 q3 p4 q4 : Nat),css[k]? = some [.slice B1 p1 q1,.slice B2 p2 q2,.slice B3 p3 q3,.slice B4 p4 q4] ∧ StR w (But w X) [.slice B1 p1 q1,.slice B2 p2 q2,.slice B3 p3 q3,.slice B4 p4 q4] (ss.getD k zeroSt):=by
 have hk' : k < css.length:=by rw [h.1]; exact hk
 have hr:=h.2.2 k css[k] ss[k] (List.getElem?_eq_getElem hk') (List.getElem?_eq_getElem hk)
 obtain ⟨B1,B2,B3,B4,p1,q1,p2,q2,p3,q3,p4,q4,e,hr'⟩:=st_open hr
 refine ⟨B1,B2,B3,B4,p1,q1,p2,q2,p3,q3,p4,q4,by rw [List.getElem?_eq_getElem hk',e],?_⟩
 have : ss.getD k zeroSt = ss[k]:=by simp [List.getD,hk]
 rw [this]
 exact hr'
theorem StsR.of (h : StsR w X css ss) {k : Nat} {cs : List Value} (hcs : css[k]? = some cs) (hk : k < ss.length) : StR w (But w X) cs (ss.getD k zeroSt):=by
 have hr:=h.2.2 k cs ss[k] hcs (List.getElem?_eq_getElem hk)
 have : ss.getD k zeroSt = ss[k]:=by simp [List.getD,hk]
 rw [this]
 exact hr
theorem StsR.cell (h : StsR w X css ss) {g : Nat} {t : TypeId} {k j : Nat} {cs : List Value} {u : Value} (hb : Blk w g t css.flatten.toArray) (hcs : css[k]? = some cs) (hu : cs[j]? = some u) : w.cell? ⟨g,k * 4 + j,none⟩ = some u:=by
 have hl : cs.length = 4:=h.2.1 cs (List.mem_of_getElem? hcs)
 have hj : j < 4:=by rw [← hl]; exact (List.getElem?_eq_some_iff.1 hu).1
 rw [hb.cell,List.getElem?_toArray,cells_get css k j cs h.2.1 hcs hj]
 exact hu
theorem StsR.set_ (h : StsR w X css ss) {k : Nat} {cs : List Value} {s : St} (hr : StR w (But w X) cs s) (hc : cs.length = 4) : StsR w X (css.set k cs) (ss.set k s):=by
 refine ⟨by simp [h.1],fun c hcm=>?_,fun j c t e1 e2=>?_⟩
 ·rcases List.mem_or_eq_of_mem_set hcm with h1 | h1
  ·exact h.2.1 c h1
  ·rw [h1]; exact hc
 ·rw [List.getElem?_set] at e1 e2
  by_cases hkj : k = j
  ·rw [if_pos hkj] at e1 e2
   split at e1
   ·split at e2
    ·injection e1 with e1
     injection e2 with e2
     rw [← e1,← e2]
     exact hr
    ·cases e2
   ·cases e1
  ·rw [if_neg hkj] at e1 e2
   exact h.2.2 j c t e1 e2
theorem StsR.snoc (h : StsR w X css ss) {cs : List Value} {s : St} (hr : StR w (But w X) cs s) (hc : cs.length = 4) : StsR w X (css ++ [cs]) (ss ++ [s]):=by
 refine ⟨by simp [h.1],fun c hcm=>?_,fun j c t e1 e2=>?_⟩
 ·rcases List.mem_append.1 hcm with h1 | h1
  ·exact h.2.1 c h1
  ·simp at h1; rw [h1]; exact hc
 ·have h1:=h.1
  rcases Nat.lt_or_ge j ss.length with hj | hj
  ·rw [List.getElem?_append_left (by omega)] at e1
   rw [List.getElem?_append_left hj] at e2
   exact h.2.2 j c t e1 e2
  ·rw [List.getElem?_append_right (by omega)] at e1
   rw [List.getElem?_append_right hj] at e2
   have e0 : j - ss.length = 0:=by
    have:=(List.getElem?_eq_some_iff.1 e2).1
    simpa using this
   have e0' : j - css.length = 0:=by omega
   rw [e0] at e2
   rw [e0'] at e1
   simp at e1 e2
   subst e1 e2
   exact hr
theorem StsR.flen (h : StsR w X css ss) : css.flatten.length = ss.length * 4:=by rw [cells_len css h.2.1,h.1]
theorem StsR.sl (h : StsR w X css ss) {A : Option Addr} {c : Nat} {S : Nat → Prop} (hn : ss.length ≤ c) (hc : c ≤ maxLen) (hr : Reads w S 4 A ss.length css.flatten) (hS : ∀ i,S i → T i) (hX : ∀ i,But w X i → T i) : SlR w T 4 (StR w T) A ss.length c ss:=
 ⟨rfl,hn,hc,css,h.1,h.2.1,hr.more hS,fun k cs s e1 e2=>(h.2.2 k cs s e1 e2).more hX⟩
end
def CdsR (w : World) (S : Nat → Prop) (A : Option Addr) (n c : Nat) (l : List Cd) : Prop:=SlR w S 5 (CdR w S) A n c l
theorem CdsR.keep {w w' : World} {S : Nat → Prop} {A : Option Addr} {n c : Nat} {l : List Cd} (h : CdsR w S A n c l) (hk : Same S w w') : CdsR w' S A n c l:=SlR.keep h hk (fun cs a h=>h.keep hk)
theorem CdsR.more {w : World} {S T : Nat → Prop} {A : Option Addr} {n c : Nat} {l : List Cd} (h : CdsR w S A n c l) (hk : ∀ i,S i → T i) : CdsR w T A n c l:=SlR.more h hk (fun cs a h=>h.more hk)
theorem CdsR.at_ {w : World} {S : Nat → Prop} {A : Option Addr} {n c : Nat} {l : List Cd} (h : CdsR w S A n c l) {k : Nat} (hk : k < n) : ∃ (b off : Nat) (B0 B1 B2 B3 B4 : Option Addr) (p0 q0 p1 q1 p2 q2 p3 q3 p4 q4 : Nat),A = some ⟨b,off,none⟩ ∧ S b ∧ CdR w S [.slice B0 p0 q0,.slice B1 p1 q1,.slice B2 p2 q2,.slice B3 p3 q3,.slice B4 p4 q4] (l.getD k zeroCd) ∧ w.rangeAt b (off + k * 5) [.slice B0 p0 q0,.slice B1 p1 q1,.slice B2 p2 q2,.slice B3 p3 q3,.slice B4 p4 q4]:=by
 obtain ⟨b,off,cs,a,e,hS,ha,hR,hcl,hc⟩:=SlR.at_ h hk
 obtain ⟨A0,A1,A2,A3,A4,m0,c0,m1,c1,m2,c2,m3,c3,m4,c4,e2,rest⟩:=hR
 subst e2
 have ha' : l.getD k zeroCd = a:=by simp [List.getD,ha]
 refine ⟨b,off,A0,A1,A2,A3,A4,m0,c0,m1,c1,m2,c2,m3,c3,m4,c4,e,hS,?_,hc⟩
 rw [ha']
 exact ⟨A0,A1,A2,A3,A4,m0,c0,m1,c1,m2,c2,m3,c3,m4,c4,rfl,rest⟩
end Go.Proofs.YtipegaojiokppaaGreatDoor
set_option linter.unusedVariables false
set_option linter.unusedSimpArgs false
namespace Go.Proofs.YtipegaojiokppaaGreatDoor
open Go.RowKit Go.Proofs
theorem runI_ok {cs : List Cd} {l : List Chc} {m : Mi} (h : runI cs l = .ok m) : 1 ≤ cs.length ∧ cs.length ≤ 5 ∧ l.length ≤ 320 ∧ playI cs (startI cs cs.length) l = .ok m:=by
 unfold runI at h
 split at h
 ·cases h
 ·split at h
  ·cases h
  ·exact ⟨by omega,by omega,by omega,h⟩
theorem runI_of {cs : List Cd} {l : List Chc} (h1 : 1 ≤ cs.length) (h5 : cs.length ≤ 5) (hl : l.length ≤ 320) : runI cs l = playI cs (startI cs cs.length) l:=by
 unfold runI
 rw [if_neg (by omega),if_neg (by omega)]
theorem runI_inv {cs : List Cd} {l : List Chc} {m : Mi} (h : runI cs l = .ok m) : InvI cs m:=playI_inv l _ (startI_inv cs) (runI_ok h).2.2.2
theorem playI_take {cs : List Cd} {m m' : Mi} {l : List Chc} (k : Nat) (h : playI cs m l = .ok m') : ∃ m1,playI cs m (l.take k) = .ok m1 ∧ playI cs m1 (l.drop k) = .ok m':=by
 rw [← List.take_append_drop k l,playI_app] at h
 split at h
 ·rename_i m1 h1; exact ⟨m1,h1,h⟩
 ·cases h
theorem playI_world {cs : List Cd} {m' : Mi} : ∀ (l : List Chc) (m : Mi),playI cs m l = .ok m' → ∃ a,m'.world = m.world ++ a
 | [],m,h=>by injection h with h; exact ⟨[],by rw [h]; simp⟩
 | x :: l,m,h=>by
  obtain ⟨a,ha⟩:=playI_world l _ (playI_cons_ok h).2
  exact ⟨_,by rw [ha,execI,List.append_assoc]⟩
theorem runI_pre {cs : List Cd} {l : List Chc} {m : Mi} (k : Nat) (h : runI cs l = .ok m) : ∃ m1,runI cs (l.take k) = .ok m1 ∧ ∃ a,m.world = m1.world ++ a:=by
 obtain ⟨h1,h5,hl,hp⟩:=runI_ok h
 obtain ⟨m1,hm1,hm2⟩:=playI_take k hp
 refine ⟨m1,?_,playI_world _ _ hm2⟩
 rw [runI_of h1 h5 (by rw [List.length_take]; omega)]
 exact hm1
theorem runS_sent (v : EnvS) (body : List Stm) (cells : List Int) (k : Int) (s : St) : ∃ a,(runS v body cells k s).sent = s.sent ++ a ∧ ∀ y ∈ a,y.idx = k:=by
 refine ⟨_,rfl,?_⟩
 intro y hy
 have key : ∀ (l : List Eff) (o : Int),∀ y ∈ sendsOf k o l,y.idx = k:=by
  intro l
  induction l with
  | nil=>intro o y hy; simp [sendsOf] at hy
  | cons e l ih=>
   intro o y hy
   rw [sendsOf] at hy
   split at hy
   ·rcases List.mem_cons.1 hy with h | h
    ·rw [h]
    ·exact ih _ y h
   ·exact ih _ y hy
 exact key _ _ y hy
theorem runS_outs (v : EnvS) (body : List Stm) (cells : List Int) (k : Int) (s : St) : ∃ a,(runS v body cells k s).outs = s.outs ++ a ∧ ∀ y ∈ a,y.idx = k:=by
 refine ⟨_,rfl,?_⟩
 intro y hy
 have key : ∀ (l : List Eff),∀ y ∈ outsOf k l,y.idx = k:=by
  intro l
  induction l with
  | nil=>intro y hy; simp [outsOf] at hy
  | cons e l ih=>
   intro y hy
   rw [outsOf] at hy
   split at hy
   ·exact ih y hy
   ·rcases List.mem_cons.1 hy with h | h
    ·rw [h]
    ·exact ih y h
 exact key _ y hy
theorem nextS_adds (c : Cd) (p n : Int) (s : St) (e : Ev) : (∃ a,(nextS c p n s e).sent = s.sent ++ a ∧ ∀ y ∈ a,y.idx = s.events.length + 1) ∧ (∃ b,(nextS c p n s e).outs = s.outs ++ b ∧ ∀ y ∈ b,y.idx = s.events.length + 1):=by
 unfold nextS
 split
 ·exact ⟨runS_sent _ _ _ _ _,runS_outs _ _ _ _ _⟩
 ·split
  ·exact ⟨runS_sent _ _ _ _ _,runS_outs _ _ _ _ _⟩
  ·split
   ·exact ⟨runS_sent _ _ _ _ _,runS_outs _ _ _ _ _⟩
   ·exact ⟨⟨[],by simp,by simp⟩,[],by simp,by simp⟩
theorem replayS_idx (c : Cd) (p n : Int) (l : List Ev) : (∀ y ∈ (replayS c p n l).sent,0 ≤ y.idx ∧ y.idx ≤ l.length) ∧ (∀ y ∈ (replayS c p n l).outs,0 ≤ y.idx ∧ y.idx ≤ l.length):=by
 obtain ⟨k,hk⟩ : ∃ k,k = l.length:=⟨_,rfl⟩
 induction k generalizing l with
 | zero=>
  obtain rfl : l = []:=List.eq_nil_of_length_eq_zero hk.symm
  obtain ⟨a,ha,h1⟩:=runS_sent ⟨p,n,p,0⟩ c.start c.init 0 ⟨[],[],[],[]⟩
  obtain ⟨b,hb,h2⟩:=runS_outs ⟨p,n,p,0⟩ c.start c.init 0 ⟨[],[],[],[]⟩
  have e : replayS c p n [] = runS ⟨p,n,p,0⟩ c.start c.init 0 ⟨[],[],[],[]⟩:=rfl
  rw [e,ha,hb]
  simp only [List.nil_append,List.length_nil]
  exact ⟨fun y hy=>by have:=h1 y hy; omega,fun y hy=>by have:=h2 y hy; omega⟩
 | succ k ih=>
  have hne : l ≠ []:=by intro e; rw [e] at hk; simp at hk
  obtain ⟨l0,x,rfl⟩ : ∃ l0 x,l = l0 ++ [x]:=⟨_,_,(List.dropLast_concat_getLast hne).symm⟩
  have h0:=ih l0 (by simp at hk; omega)
  obtain ⟨⟨a,ha,h1⟩,b,hb,h2⟩:=nextS_adds c p n (replayS c p n l0) x
  rw [replayS_events] at h1 h2
  rw [replayS_snoc,ha,hb]
  simp only [List.length_append,List.length_cons,List.length_nil]
  refine ⟨fun y hy=>?_,fun y hy=>?_⟩
  ·rcases List.mem_append.1 hy with h | h
   ·have:=h0.1 y h; omega
   ·have:=h1 y h; omega
  ·rcases List.mem_append.1 hy with h | h
   ·have:=h0.2 y h; omega
   ·have:=h2 y h; omega
theorem InvI.idx {cs : List Cd} {m : Mi} (h : InvI cs m) {p : Nat} (hp : p < cs.length) : (∀ y ∈ (m.ss.getD p zeroSt).sent,0 ≤ y.idx ∧ y.idx ≤ (m.ss.getD p zeroSt).events.length) ∧ (∀ y ∈ (m.ss.getD p zeroSt).outs,0 ≤ y.idx ∧ y.idx ≤ (m.ss.getD p zeroSt).events.length):=by
 have h1:=replayS_idx (cs.getD p zeroCd) p cs.length (m.ss.getD p zeroSt).events
 rw [← h.st p hp] at h1
 exact h1
theorem execI_get {cs : List Cd} {m : Mi} {p : Nat} {e : Ev} (hp : p < m.ss.length) : (execI cs m p e).ss.getD p zeroSt = nextS (cs.getD p zeroCd) p m.ss.length (m.ss.getD p zeroSt) e:=by
 simp only [execI]
 rw [getD_set_same hp]
theorem execI_other {cs : List Cd} {m : Mi} {p q : Nat} {e : Ev} (hpq : p ≠ q) : (execI cs m p e).ss.getD q zeroSt = m.ss.getD q zeroSt:=by
 simp only [execI]
 rw [getD_set_diff hpq]
theorem execI_len {cs : List Cd} {m : Mi} {p : Nat} {e : Ev} : (execI cs m p e).ss.length = m.ss.length:=by simp [execI]
theorem eventI_same {ss tt : List St} {x : Chc} (hl : ss.length = tt.length) (he : (stAt ss x.proc).events = (stAt tt x.proc).events) (hf : x.kind = 1 → findI (stAt ss x.frm).sent x = findI (stAt tt x.frm).sent x) : eventI ss x = eventI tt x:=by
 unfold eventI
 rw [hl,he]
 by_cases hk : x.kind = 1
 ·rw [hf hk]
 ·simp only [hk,ne_eq,not_false_eq_true,if_true]
theorem findI_app {l a : List Snd} {x : Chc} (h : ∀ y ∈ a,y.idx ≠ x.idx) : findI (l ++ a) x = findI l x:=by
 unfold findI
 rw [List.find?_append]
 have : a.find? (hitM x) = none:=by
  rw [List.find?_eq_none]
  intro y hy hh
  simp only [hitM,Bool.and_eq_true,beq_iff_eq] at hh
  exact h y hy hh.1.1
 rw [this]
 simp
theorem findI_app_some {l a : List Snd} {x : Chc} {s : Snd} (h : findI l x = some s) : findI (l ++ a) x = some s:=by
 unfold findI at h ⊢
 rw [List.find?_append,h]
 rfl
theorem eventI_find {ss : List St} {x : Chc} (h : (eventI ss x).2 = 0) (h1 : x.kind = 1) : ∃ s,findI (stAt ss x.frm).sent x = some s ∧ recvS (stAt ss x.proc).events x.frm 0 x.idx x.ord = 0 ∧ (eventI ss x).1 = ⟨1,0,x.frm,0,x.idx,x.ord,s.val⟩:=by
 have hk:=eventI_ok h
 unfold eventI at h ⊢
 rw [if_neg (by rw [hk.1]; simp),if_neg (by omega),if_neg (by omega)] at h ⊢
 cases hf : findI (stAt ss x.frm).sent x with
 | none=>rw [hf] at h; simp at h
 | some s=>
  rw [hf] at h
  simp only at h ⊢
  by_cases hr : recvS (stAt ss x.proc).events x.frm 0 x.idx x.ord ≠ 0
  ·rw [if_pos hr] at h; simp at h
  ·refine ⟨s,rfl,by simpa using hr,?_⟩
   rw [if_neg hr]
theorem playI_ss {cs : List Cd} {t : Mi} : ∀ (l : List Chc) (m m' : Mi),m.ss = m'.ss → playI cs m l = .ok t → ∃ u,playI cs m' l = .ok u ∧ u.ss = t.ss
 | [],m,m',e,h=>by injection h with h; exact ⟨m',rfl,by rw [← h,e]⟩
 | x :: l,m,m',e,h=>by
  have h:=playI_cons_ok h
  rw [e] at h
  obtain ⟨u,hu,hs⟩:=playI_ss l _ (execI cs m' x.proc.toNat (eventI m'.ss x).1) (by simp only [execI,e]) h.2
  exact ⟨u,by rw [playI,if_pos h.1]; exact hu,hs⟩
theorem toNat_ne {a b : Int} (ha : 0 ≤ a) (hb : 0 ≤ b) (h : a ≠ b) : a.toNat ≠ b.toNat:=by omega
theorem exchange {cs : List Cd} {m t : Mi} {a b : Chc} {rest : List Chc} (hi : InvI cs m) (hp : a.proc ≠ b.proc) (hab : ¬ (b.kind = 1 ∧ b.frm = a.proc ∧ ((m.ss.getD a.proc.toNat zeroSt).events.length : Int) < b.idx)) (h : playI cs m (a :: b :: rest) = .ok t) :
  ∃ u,playI cs m (b :: a :: rest) = .ok u ∧ u.ss = t.ss:=by
 obtain ⟨ha,h⟩:=playI_cons_ok h
 obtain ⟨hb,h⟩:=playI_cons_ok h
 have ka:=eventI_ok ha
 have kb:=eventI_ok hb
 rw [execI_len] at kb
 have pa:=okI_proc ka.1
 have pb:=okI_proc kb.1
 have hne : a.proc.toNat ≠ b.proc.toNat:=toNat_ne pa.1 pb.1 hp
 have hl:=hi.len
 have grow:=nextS_adds (cs.getD a.proc.toNat zeroCd) a.proc.toNat m.ss.length (m.ss.getD a.proc.toNat zeroSt) (eventI m.ss a).1
 -- the second one's event is the same without the first
 have eb : eventI (execI cs m a.proc.toNat (eventI m.ss a).1).ss b = eventI m.ss b:=by
  refine eventI_same execI_len (by simp only [stAt]; rw [execI_other hne]) (fun h1=>?_)
  have fb:=okI_frm kb.1 h1
  by_cases hf : b.frm = a.proc
  ·obtain ⟨⟨ad,had,hidx⟩,-⟩:=grow
   have hle : b.idx ≤ (m.ss.getD a.proc.toNat zeroSt).events.length:=by
    rcases Classical.em ((m.ss.getD a.proc.toNat zeroSt).events.length < b.idx) with hh | hh
    ·exact absurd ⟨h1,hf,hh⟩ hab
    ·omega
   simp only [stAt,hf]
   rw [execI_get (by omega),had]
   exact findI_app (fun y hy e=>by have:=hidx y hy; omega)
  ·have : a.proc.toNat ≠ b.frm.toNat:=toNat_ne pa.1 fb.1 (fun e=>hf e.symm)
   simp only [stAt]
   rw [execI_other this]
 rw [eb] at hb h
 have ea : eventI (execI cs m b.proc.toNat (eventI m.ss b).1).ss a = eventI m.ss a:=by
  refine eventI_same execI_len (by simp only [stAt]; rw [execI_other (Ne.symm hne)]) (fun h1=>?_)
  have fa:=okI_frm ka.1 h1
  obtain ⟨s,hs,-,-⟩:=eventI_find ha h1
  by_cases hf : a.frm = b.proc
  ·obtain ⟨⟨ad,had,-⟩,-⟩:=nextS_adds (cs.getD b.proc.toNat zeroCd) b.proc.toNat m.ss.length (m.ss.getD b.proc.toNat zeroSt) (eventI m.ss b).1
   rw [hs]
   simp only [stAt,hf] at hs ⊢
   rw [execI_get (by omega),had]
   exact findI_app_some hs
  ·have : b.proc.toNat ≠ a.frm.toNat:=toNat_ne pb.1 fa.1 (fun e=>hf e.symm)
   simp only [stAt]
   rw [execI_other this]
 have hss : (execI cs (execI cs m a.proc.toNat (eventI m.ss a).1) b.proc.toNat (eventI m.ss b).1).ss = (execI cs (execI cs m b.proc.toNat (eventI m.ss b).1) a.proc.toNat (eventI m.ss a).1).ss:=by
  have e1:=execI_other (cs:=cs) (m:=m) (e:=(eventI m.ss a).1) hne
  have e2:=execI_other (cs:=cs) (m:=m) (e:=(eventI m.ss b).1) (Ne.symm hne)
  have e3 : (execI cs m a.proc.toNat (eventI m.ss a).1).ss.length = m.ss.length:=execI_len
  have e4 : (execI cs m b.proc.toNat (eventI m.ss b).1).ss.length = m.ss.length:=execI_len
  simp only [execI] at e1 e2 e3 e4 ⊢
  rw [e1,e2,e3,e4]
  exact List.set_comm _ _ hne
 obtain ⟨u,hu,hs⟩:=playI_ss rest _ _ hss h
 refine ⟨u,?_,hs⟩
 rw [playI,if_pos hb,playI,ea,if_pos ha]
 exact hu
theorem exchange_run {cs : List Cd} {l : List Chc} {m t : Mi} {k : Nat} {a b : Chc} (hk : k + 1 < l.length) (ha : l[k]? = some a) (hb : l[k + 1]? = some b) (hm : runI cs (l.take k) = .ok m) (ht : runI cs l = .ok t) (hp : a.proc ≠ b.proc)
  (hab : ¬ (b.kind = 1 ∧ b.frm = a.proc ∧ ((m.ss.getD a.proc.toNat zeroSt).events.length : Int) < b.idx)) : ∃ u,runI cs ((l.set k b).set (k + 1) a) = .ok u ∧ u.ss = t.ss:=by
 obtain ⟨h1,h5,hl,hp1⟩:=runI_ok ht
 obtain ⟨-,-,-,hp2⟩:=runI_ok hm
 have hinv:=runI_inv hm
 obtain ⟨m1,hm1,hm2⟩:=playI_take k hp1
 rw [hp2] at hm1
 injection hm1 with hm1
 subst hm1
 have e1 : l.drop k = a :: b :: l.drop (k + 2):=by rw [drop_cons ha,drop_cons hb]
 rw [e1] at hm2
 obtain ⟨u,hu,hs⟩:=exchange hinv hp hab hm2
 refine ⟨u,?_,hs⟩
 have e2 : (l.set k b).set (k + 1) a = l.take k ++ (b :: a :: l.drop (k + 2)):=by
  apply List.ext_getElem?
  intro i
  rw [List.getElem?_set,List.getElem?_set]
  have hlt : (l.take k).length = k:=by rw [List.length_take]; omega
  by_cases hik : i < k
  ·rw [if_neg (by omega),if_neg (by omega),List.getElem?_append_left (by omega),List.getElem?_take,if_pos hik]
  ·rw [List.getElem?_append_right (by omega),hlt]
   by_cases h0 : i = k
   ·subst h0
    rw [if_neg (by omega),if_pos rfl,if_pos (by omega),Nat.sub_self]
    rfl
   ·by_cases h00 : i = k + 1
    ·subst h00
     rw [if_pos rfl,if_pos (by simp; omega)]
     have : k + 1 - k = 1:=by omega
     rw [this]
     rfl
    ·rw [if_neg (by omega),if_neg (by omega)]
     obtain ⟨j,hj⟩ : ∃ j,i = k + 2 + j:=⟨i - (k + 2),by omega⟩
     subst hj
     have : k + 2 + j - k = j + 2:=by omega
     rw [this,List.getElem?_cons_succ,List.getElem?_cons_succ,List.getElem?_drop]
 rw [runI_of h1 h5 (by simp; omega),e2,playI_app,hp2]
 exact hu
def UniqS (l : List Snd) : Prop:=l.Pairwise (fun a b=>¬ (a.idx = b.idx ∧ a.ord = b.ord))
theorem UniqS.eq {l : List Snd} (h : UniqS l) {a b : Snd} (ha : a ∈ l) (hb : b ∈ l) (h1 : a.idx = b.idx) (h2 : a.ord = b.ord) : a = b:=by
 unfold UniqS at h
 induction l with
 | nil=>cases ha
 | cons x l ih=>
  rw [List.pairwise_cons] at h
  rcases List.mem_cons.1 ha with ha' | ha'
  ·rcases List.mem_cons.1 hb with hb' | hb'
   ·rw [ha',hb']
   ·rw [ha'] at h1 h2; exact absurd ⟨h1,h2⟩ (h.1 b hb')
  ·rcases List.mem_cons.1 hb with hb' | hb'
   ·rw [hb'] at h1 h2; exact absurd ⟨h1.symm,h2.symm⟩ (h.1 a ha')
   ·exact ih h.2 ha' hb'
theorem sendsOf_uniq (k : Int) : ∀ (l : List Eff) (o : Int),(∀ y ∈ sendsOf k o l,y.idx = k ∧ o ≤ y.ord) ∧ UniqS (sendsOf k o l)
 | [],o=>⟨by simp [sendsOf],by simp [sendsOf,UniqS]⟩
 | e :: l,o=>by
  rw [sendsOf]
  split
  ·have ih:=sendsOf_uniq k l (o + 1)
   refine ⟨fun y hy=>?_,?_⟩
   ·rcases List.mem_cons.1 hy with h | h
    ·rw [h]; exact ⟨rfl,Int.le_refl _⟩
    ·have:=ih.1 y h; exact ⟨this.1,by omega⟩
   ·unfold UniqS
    rw [List.pairwise_cons]
    exact ⟨fun y hy hh=>by have:=(ih.1 y hy).2; have:=hh.2; simp only at this; omega,ih.2⟩
  ·exact sendsOf_uniq k l o
theorem UniqS.app {l a : List Snd} {k : Int} (h : UniqS l) (ha : UniqS a) (hl : ∀ y ∈ l,y.idx < k) (hk : ∀ y ∈ a,y.idx = k) : UniqS (l ++ a):=by
 unfold UniqS at *
 rw [List.pairwise_append]
 exact ⟨h,ha,fun x hx y hy hh=>by have:=hl x hx; have:=hk y hy; omega⟩
theorem nextS_uniq {c : Cd} {p n : Int} {s : St} {e : Ev} (h : UniqS s.sent) (hl : ∀ y ∈ s.sent,y.idx ≤ s.events.length) : UniqS (nextS c p n s e).sent:=by
 have key : ∀ (v : EnvS) (body : List Stm) (t : St),t.sent = s.sent → UniqS (runS v body s.cells (s.events.length + 1) t).sent:=fun v body t ht=>by
  show UniqS (t.sent ++ _)
  rw [ht]
  exact h.app (sendsOf_uniq _ _ _).2 (k:=(s.events.length : Int) + 1) (fun y hy=>by have:=hl y hy; omega) (fun y hy=>((sendsOf_uniq _ _ _).1 y hy).1)
 unfold nextS
 split
 ·exact key _ _ _ rfl
 ·split
  ·exact key _ _ _ rfl
  ·split
   ·exact key _ _ _ rfl
   ·exact h
theorem replayS_uniq (c : Cd) (p n : Int) (l : List Ev) : UniqS (replayS c p n l).sent:=by
 obtain ⟨k,hk⟩ : ∃ k,k = l.length:=⟨_,rfl⟩
 induction k generalizing l with
 | zero=>
  obtain rfl : l = []:=List.eq_nil_of_length_eq_zero hk.symm
  show UniqS ([] ++ sendsOf 0 0 _)
  rw [List.nil_append]
  exact (sendsOf_uniq _ _ _).2
 | succ k ih=>
  have hne : l ≠ []:=by intro e; rw [e] at hk; simp at hk
  obtain ⟨l0,x,rfl⟩ : ∃ l0 x,l = l0 ++ [x]:=⟨_,_,(List.dropLast_concat_getLast hne).symm⟩
  rw [replayS_snoc]
  exact nextS_uniq (ih l0 (by simp at hk; omega)) (fun y hy=>by rw [replayS_events]; exact ((replayS_idx c p n l0).1 y hy).2)
theorem recvAt_pos {p : Ev → Bool} : ∀ (l : List Ev) (k : Nat),0 ≤ recvAt p k l ∧ ((∃ e ∈ l,p e = true) → recvAt p k l ≠ 0)
 | [],k=>⟨by simp [recvAt],by rintro ⟨e,he,_⟩; cases he⟩
 | x :: l,k=>by
  have ih:=recvAt_pos (p:=p) l (k + 1)
  rw [recvAt]
  split
  ·exact ⟨by omega,fun _=>by omega⟩
  ·rename_i hx
   refine ⟨ih.1,?_⟩
   rintro ⟨e,he,hp⟩
   rcases List.mem_cons.1 he with h | h
   ·subst h; exact absurd hp hx
   ·exact ih.2 ⟨e,h,hp⟩
theorem recvAt_zero {p : Ev → Bool} : ∀ (l : List Ev) (k : Nat),(∀ e ∈ l,p e = false) → recvAt p k l = 0
 | [],k,_=>rfl
 | x :: l,k,h=>by
  rw [recvAt,if_neg (by rw [h x (by simp)]; simp)]
  exact recvAt_zero l (k + 1) (fun e he=>h e (by simp [he]))
theorem playI_grow {cs : List Cd} {t : Mi} : ∀ (l : List Chc) (m : Mi),InvI cs m → playI cs m l = .ok t → ∀ q,∃ a b,(t.ss.getD q zeroSt).events = (m.ss.getD q zeroSt).events ++ a ∧ (t.ss.getD q zeroSt).sent = (m.ss.getD q zeroSt).sent ++ b ∧ a.length ≤ l.length
 | [],m,hi,h,q=>by injection h with h; subst h; exact ⟨[],[],by simp,by simp,by simp⟩
 | x :: l,m,hi,h,q=>by
  obtain ⟨h0,h⟩:=playI_cons_ok h
  obtain ⟨a,b,ha,hb,hab⟩:=playI_grow l _ (step_inv hi h0) h q
  have hp:=okI_proc (eventI_ok h0).1
  by_cases hq : x.proc.toNat = q
  ·subst hq
   rw [execI_get hp.2] at ha hb
   obtain ⟨⟨c,hc,-⟩,-⟩:=nextS_adds (cs.getD x.proc.toNat zeroCd) x.proc.toNat m.ss.length (m.ss.getD x.proc.toNat zeroSt) (eventI m.ss x).1
   rw [nextS_events] at ha
   rw [hc] at hb
   exact ⟨_,_,by rw [ha,List.append_assoc],by rw [hb,List.append_assoc],by simp; omega⟩
  ·rw [execI_other hq] at ha hb
   exact ⟨a,b,ha,hb,by simp; omega⟩
theorem playI_done {cs : List Cd} {t : Mi} {y : Chc} : ∀ (l : List Chc) (m : Mi),InvI cs m → playI cs m l = .ok t → y ∈ l → y.kind = 1 →
  okI cs.length y = true ∧ ∃ s v,findI (stAt t.ss y.frm).sent y = some s ∧ (⟨1,0,y.frm,0,y.idx,y.ord,v⟩ : Ev) ∈ (stAt t.ss y.proc).events
 | x :: l,m,hi,h,hy,h1=>by
  obtain ⟨h0,h⟩:=playI_cons_ok h
  rcases List.mem_cons.1 hy with e | hy
  ·subst e
   have hk:=eventI_ok h0
   have hp:=okI_proc hk.1
   have hl:=hi.len
   obtain ⟨s,hs,-,hev⟩:=eventI_find h0 h1
   refine ⟨hl ▸ hk.1,s,s.val,?_,?_⟩
   ·obtain ⟨a,b,-,hb,-⟩:=playI_grow l _ (step_inv hi h0) h y.frm.toNat
    have hf:=okI_frm hk.1 h1
    have : y.proc.toNat ≠ y.frm.toNat:=toNat_ne hp.1 hf.1 (fun e=>hf.2.2 e.symm)
    rw [execI_other this] at hb
    simp only [stAt] at hs ⊢
    rw [hb]
    exact findI_app_some hs
   ·obtain ⟨a,b,ha,-,-⟩:=playI_grow l _ (step_inv hi h0) h y.proc.toNat
    rw [execI_get hp.2,nextS_events,hev] at ha
    simp only [stAt]
    rw [ha]
    simp
  ·exact playI_done l _ (step_inv hi h0) h hy h1
theorem delivers {cs : List Cd} {l : List Chc} {t : Mi} {y : Chc} (ht : runI cs l = .ok t) (hl : l.length ≤ 60) (hy : y ∈ l) (h1 : y.kind = 1) :
  okI cs.length y = true ∧ runI cs (l ++ [y]) = .error 15 ∧ (∀ q : Int,q ≠ y.proc → ∀ u,runI cs (l ++ [{ y with proc:=q }]) ≠ .ok u) ∧ runI cs (l ++ [{ y with idx:=(stAt t.ss y.frm).events.length + 1 }]) = .error 11:=by
 obtain ⟨c1,c5,_,hp⟩:=runI_ok ht
 have hi:=runI_inv ht
 have hlen:=hi.len
 have hi0:=startI_inv cs
 obtain ⟨hok,s,v,hf,hev⟩:=playI_done l _ hi0 hp hy h1
 have few : ∀ q,q < cs.length → (t.ss.getD q zeroSt).events.length < 64:=fun q hq=>by
  obtain ⟨a,b,ha,-,hab⟩:=playI_grow l _ hi0 hp q
  rw [ha,startI_get cs _ q hq,startS_eq,replayS_events]
  simp
  omega
 have hpr:=okI_proc hok
 have hfr:=okI_frm hok h1
 have run : ∀ x,runI cs (l ++ [x]) = if (eventI t.ss x).2 = 0 then .ok (execI cs t x.proc.toNat (eventI t.ss x).1) else .error (eventI t.ss x).2:=fun x=>by
  rw [runI_of c1 c5 (by simp; omega)]
  exact playI_snoc hp x
 refine ⟨hok,?_,?_,?_⟩
 ·have e : (eventI t.ss y).2 = 15:=by
   unfold eventI
   rw [if_neg (by rw [hlen,hok]; simp),if_neg (by have:=few _ hpr.2; simp only [stAt]; omega),if_neg (by omega),hf]
   have : recvS (stAt t.ss y.proc).events y.frm 0 y.idx y.ord ≠ 0:=(recvAt_pos _ 0).2 ⟨_,hev,by simp [recvP]⟩
   simp only
   rw [if_pos this]
  rw [run,e]
  rfl
 ·intro q hq u
  rw [run]
  by_cases h0 : (eventI t.ss { y with proc:=q }).2 = 0
  ·obtain ⟨s',hs',-,-⟩:=eventI_find h0 h1
   simp only at hs'
   have hu : UniqS (stAt t.ss y.frm).sent:=by
    have:=replayS_uniq (cs.getD y.frm.toNat zeroCd) y.frm.toNat cs.length (t.ss.getD y.frm.toNat zeroSt).events
    rw [← hi.st _ hfr.2.1] at this
    exact this
   unfold findI at hf hs'
   have m1:=List.mem_of_find?_eq_some hf
   have m2:=List.mem_of_find?_eq_some hs'
   have g1:=List.find?_some hf
   have g2:=List.find?_some hs'
   simp only [hitM,Bool.and_eq_true,beq_iff_eq] at g1 g2
   have:=hu.eq m1 m2 (by rw [g1.1.1,g2.1.1]) (by rw [g1.1.2,g2.1.2])
   rw [this,g2.2] at g1
   exact absurd g1.2 hq
  ·rw [if_neg h0]
   exact fun h=>by cases h
 ·have e : (eventI t.ss { y with idx:=(stAt t.ss y.frm).events.length + 1 }).2 = 11:=by
   have hok' : okI t.ss.length { y with idx:=(stAt t.ss y.frm).events.length + 1 } = true:=by rw [hlen]; exact hok
   unfold eventI
   rw [if_neg (by rw [hok']; simp),if_neg (by have:=few _ hpr.2; simp only [stAt]; omega),if_neg (by simp only; omega)]
   have : findI (stAt t.ss y.frm).sent { y with idx:=(stAt t.ss y.frm).events.length + 1 } = none:=by
    unfold findI
    rw [List.find?_eq_none]
    intro z hz hh
    simp only [hitM,Bool.and_eq_true,beq_iff_eq] at hh
    have:=((hi.idx hfr.2.1).1 z hz).2
    simp only [stAt] at hh
    omega
   simp only
   rw [this]
  rw [run,e]
  rfl
def worldOf (p : Nat) (w : List Sh) : List Sh:=w.filter (fun x=>x.proc == p)
def zeroOut : Outp:=⟨0,0⟩
def OutOk (p : Nat) (outs : List Outp) (ws : List Sh) : Prop:=
 ws.length = outs.length ∧ ∀ i,i < outs.length → ∃ o : Int,ws[i]? = some ⟨p,(outs.getD i zeroOut).idx,o,(outs.getD i zeroOut).val⟩ ∧ (i = 0 → o = 0) ∧ (0 < i → ((outs.getD (i - 1) zeroOut).idx = (outs.getD i zeroOut).idx ↔ 0 < o))
theorem showS_get (p : Int) : ∀ (l : List Outp) (k : Int) (i : Nat),i < l.length → (showS p k l)[i]? = some ⟨p,(l.getD i zeroOut).idx,k + i,(l.getD i zeroOut).val⟩
 | o :: l,k,0,_=>by simp [showS]
 | o :: l,k,i + 1,h=>by
  rw [showS,List.getElem?_cons_succ,showS_get p l (k + 1) i (by simpa using h)]
  have : k + 1 + (i : Int) = k + ((i + 1 : Nat) : Int):=by omega
  rw [this]
  rfl
theorem getD_left {α : Type} {l a : List α} {i : Nat} {d : α} (h : i < l.length) : (l ++ a).getD i d = l.getD i d:=by simp only [List.getD,List.getElem?_append_left h]
theorem getD_right {α : Type} {l a : List α} {i : Nat} {d : α} (h : l.length ≤ i) : (l ++ a).getD i d = a.getD (i - l.length) d:=by simp only [List.getD,List.getElem?_append_right h]
theorem getD_mem {α : Type} {l : List α} {i : Nat} {d : α} (h : i < l.length) : l.getD i d ∈ l:=by simp [List.getD,h]
theorem OutOk.app {p : Nat} {outs a : List Outp} {ws : List Sh} {k : Int} (h : OutOk p outs ws) (hl : ∀ y ∈ outs,y.idx < k) (hk : ∀ y ∈ a,y.idx = k) : OutOk p (outs ++ a) (ws ++ showS p 0 a):=by
 refine ⟨by simp [h.1,showS_len],fun i hi=>?_⟩
 by_cases h1 : i < outs.length
 ·obtain ⟨o,h2,h3,h4⟩:=h.2 i h1
  rw [getD_left h1,List.getElem?_append_left (by rw [h.1]; exact h1)]
  refine ⟨o,h2,h3,fun h5=>?_⟩
  rw [getD_left (by omega)]
  exact h4 h5
 ·have hia : i - outs.length < a.length:=by simp at hi; omega
  rw [getD_right (by omega),List.getElem?_append_right (by rw [h.1]; omega),h.1,showS_get p a 0 _ hia]
  refine ⟨_,rfl,fun h0=>by omega,fun h0=>?_⟩
  have e1:=hk _ (getD_mem (d:=zeroOut) hia)
  by_cases h2 : i - 1 < outs.length
  ·rw [getD_left h2,e1]
   have:=hl _ (getD_mem (d:=zeroOut) h2)
   omega
  ·rw [getD_right (by omega),e1,hk _ (getD_mem (d:=zeroOut) (by omega))]
   omega
theorem worldOf_app (p : Nat) (a b : List Sh) : worldOf p (a ++ b) = worldOf p a ++ worldOf p b:=List.filter_append _ _
theorem worldOf_show (p q : Nat) : ∀ (l : List Outp) (k : Int),worldOf q (showS p k l) = if p = q then showS p k l else []
 | [],k=>by simp [worldOf,showS]
 | o :: l,k=>by
  have ih:=worldOf_show p q l (k + 1)
  unfold worldOf at ih ⊢
  rw [showS]
  by_cases h : p = q
  ·subst h
   rw [if_pos rfl] at ih ⊢
   rw [List.filter_cons_of_pos (by simp),ih]
  ·rw [if_neg h] at ih ⊢
   rw [List.filter_cons_of_neg (by simp; omega),ih]
theorem worldOf_at {p : Nat} {w : List Sh} {j : Nat} {x : Sh} (h : w[j]? = some x) (hx : x.proc = p) : (worldOf p w)[(worldOf p (w.take j)).length]? = some x:=by
 obtain ⟨hj,e⟩:=List.getElem?_eq_some_iff.1 h
 have : w = w.take j ++ x :: w.drop (j + 1):=by rw [← drop_cons h,List.take_append_drop]
 have e2 : worldOf p w = worldOf p (w.take j) ++ x :: worldOf p (w.drop (j + 1)):=by
  conv=>lhs; rw [this]
  rw [worldOf_app]
  congr 1
  unfold worldOf
  rw [List.filter_cons_of_pos (by simpa using hx)]
 rw [e2,List.getElem?_append_right (Nat.le_refl _),Nat.sub_self]
 rfl
theorem worldOf_take {p : Nat} {w : List Sh} {j : Nat} {x : Sh} (h : w[j]? = some x) : (worldOf p (w.take (j + 1))).length = (worldOf p (w.take j)).length + (if x.proc = p then 1 else 0):=by
 obtain ⟨hj,e⟩:=List.getElem?_eq_some_iff.1 h
 rw [List.take_succ_eq_append_getElem hj,worldOf_app,List.length_append,e]
 congr 1
 unfold worldOf
 by_cases hp : x.proc = p
 ·rw [List.filter_cons_of_pos (by simpa using hp),if_pos hp]; rfl
 ·rw [List.filter_cons_of_neg (by simpa using hp),if_neg hp]; rfl
def outSum (ss : List St) : Nat:=(ss.map (fun s=>s.outs.length)).sum
theorem outSum_app (a b : List St) : outSum (a ++ b) = outSum a + outSum b:=by simp [outSum]
theorem outSum_take {ss : List St} {p : Nat} (h : p < ss.length) : outSum (ss.take (p + 1)) = outSum (ss.take p) + (ss.getD p zeroSt).outs.length:=by
 rw [List.take_succ_eq_append_getElem h,outSum_app]
 simp [outSum,List.getD,h]
theorem outSum_set : ∀ (ss : List St) (p : Nat) (s : St),p < ss.length → outSum (ss.set p s) + (ss.getD p zeroSt).outs.length = outSum ss + s.outs.length
 | x :: ss,0,s,_=>by simp [outSum]; omega
 | x :: ss,p + 1,s,h=>by
  have:=outSum_set ss p s (by simpa using h)
  simp only [outSum,List.set_cons_succ,List.map_cons,List.sum_cons,List.getD_cons_succ] at this ⊢
  omega
structure OutInv (m : Mi) : Prop where
 of : ∀ p,p < m.ss.length → OutOk p (m.ss.getD p zeroSt).outs (worldOf p m.world)
 no : ∀ p,m.ss.length ≤ p → worldOf p m.world = []
 sum : m.world.length = outSum m.ss
theorem startI_out (cs : List Cd) : ∀ k,OutInv (startI cs k)
 | 0=>⟨fun p hp=>by simp [startI] at hp,fun p _=>by simp [startI,worldOf],by simp [startI,outSum]⟩
 | k + 1=>by
  have ih:=startI_out cs k
  have hl:=startI_len cs k
  have hidx:=(replayS_idx (cs.getD k zeroCd) k cs.length []).2
  rw [← startS_eq] at hidx
  refine ⟨fun p hp=>?_,fun p hp=>?_,?_⟩
  ·simp only [startI,List.length_append,hl,List.length_cons,List.length_nil] at hp
   simp only [startI]
   rw [worldOf_app,worldOf_show]
   by_cases hpk : p < k
   ·rw [if_neg (by omega),List.append_nil,getD_left (by omega)]
    exact ih.of p (by omega)
   ·obtain rfl : p = k:=by omega
    rw [if_pos rfl,ih.no p (by omega),getD_right (by omega),hl,Nat.sub_self]
    have : OutOk p ([] ++ (startS (cs.getD p zeroCd) p cs.length).outs) ([] ++ showS p 0 (startS (cs.getD p zeroCd) p cs.length).outs):=
     OutOk.app (k:=0) ⟨rfl,fun i hi=>by simp at hi⟩ (by simp) (fun y hy=>by have:=hidx y hy; simp at this; omega)
    simpa using this
  ·simp only [startI,List.length_append,hl,List.length_cons,List.length_nil] at hp
   simp only [startI]
   rw [worldOf_app,worldOf_show,if_neg (by omega),ih.no p (by omega)]
   rfl
  ·simp only [startI,List.length_append,showS_len]
   rw [outSum_app,ih.sum]
   simp [outSum]
theorem execI_out {cs : List Cd} {m : Mi} {p : Nat} {e : Ev} (hi : InvI cs m) (hp : p < cs.length) (h : OutInv m) : OutInv (execI cs m p e):=by
 have hl:=hi.len
 obtain ⟨-,b,hb,hidx⟩:=nextS_adds (cs.getD p zeroCd) p m.ss.length (m.ss.getD p zeroSt) e
 have hd : (nextS (cs.getD p zeroCd) p m.ss.length (m.ss.getD p zeroSt) e).outs.drop (m.ss.getD p zeroSt).outs.length = b:=by rw [hb]; simp
 have hworld : (execI cs m p e).world = m.world ++ showS p 0 b:=by simp only [execI,hd]
 have hlen : (execI cs m p e).ss.length = m.ss.length:=execI_len
 refine ⟨fun q hq=>?_,fun q hq=>?_,?_⟩
 ·rw [hlen] at hq
  rw [hworld,worldOf_app,worldOf_show]
  by_cases hpq : p = q
  ·subst hpq
   rw [if_pos rfl,execI_get hq,hb]
   exact (h.of p hq).app (fun y hy=>by have:=((hi.idx hp).2 y hy).2; omega) hidx
  ·rw [if_neg hpq,List.append_nil,execI_other hpq]
   exact h.of q hq
 ·rw [hlen] at hq
  rw [hworld,worldOf_app,worldOf_show,if_neg (by omega),h.no q hq]
  rfl
 ·rw [hworld,List.length_append,showS_len,h.sum]
  have:=outSum_set m.ss p (nextS (cs.getD p zeroCd) p m.ss.length (m.ss.getD p zeroSt) e) (by omega)
  rw [hb,List.length_append] at this
  show _ = outSum (m.ss.set p _)
  omega
theorem playI_out {cs : List Cd} {t : Mi} : ∀ (l : List Chc) (m : Mi),InvI cs m → OutInv m → playI cs m l = .ok t → OutInv t
 | [],m,hi,ho,h=>by injection h with h; exact h ▸ ho
 | x :: l,m,hi,ho,h=>by
  obtain ⟨h0,h⟩:=playI_cons_ok h
  have hp:=okI_proc (eventI_ok h0).1
  exact playI_out l _ (step_inv hi h0) (execI_out hi (by have:=hi.len; omega) ho) h
theorem runI_out {cs : List Cd} {l : List Chc} {t : Mi} (h : runI cs l = .ok t) : OutInv t:=playI_out l _ (startI_inv cs) (startI_out cs _) (runI_ok h).2.2.2
theorem getD_lt {α : Type} {l : List α} {i : Nat} {d : α} (h : i < l.length) : l.getD i d = l[i]:=by simp [List.getD,h]
end Go.Proofs.YtipegaojiokppaaGreatDoor
