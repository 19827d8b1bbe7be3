/- orphan.Lower$1, slices.IndexFunc of it, orphan.Lower. -/
import Derived.Test.YtcfpkmfppgodmaaOfit
import Derived.Test.YtcfpkmfppgodmaaAwake34
import Derived.Test.YtcfpkmfppgodmaaOrd
set_option linter.unusedVariables false
set_option linter.unusedSimpArgs false
set_option maxRecDepth 100000
namespace Go.Proofs.Ytcfpkmfppgodmaa
open Go.RowKit Go.Proofs

/-- The event can't be in the cut. -/
def outS (l : List (List Ev)) (ys : List Int) (q : Nat) (e : Ev) : Bool := !possS l ys q e
/-- What the closure has captured: the lineages, the cut and the process, each in a block of its own. -/
structure Cap (w : World) (S : Nat → Prop) (gl gy gq : Nat) (A : Option Addr) (n c : Nat) (Y : Option Addr) (cy : Nat) (l : List (List Ev)) (ys : List Int) (q : Nat) : Prop where
  bl : Blk w gl 22 #[.slice A n c]
  by_ : Blk w gy 23 #[.slice Y n cy]
  bq : Blk w gq 3 #[.int .i64 q]
  lin : SlR w S 1 (EvsR w S) A n c l
  cut : Sl encI 1 w S Y n cy ys
  low : ∀ i, S i → i < w.heap.size
theorem Cap.keep {w w' : World} {S : Nat → Prop} {gl gy gq : Nat} {A : Option Addr} {n c : Nat} {Y : Option Addr} {cy : Nat} {l : List (List Ev)} {ys : List Int} {q : Nat} (h : Cap w S gl gy gq A n c Y cy l ys q) (hk : Keep w w') : Cap w' S gl gy gq A n c Y cy l ys q :=
  ⟨hk.blk h.bl h.bl.lt, hk.blk h.by_ h.by_.lt, hk.blk h.bq h.bq.lt, h.lin.keep (hk.mono h.low) (EvsR.keep (hk.mono h.low)), h.cut.keep (hk.mono h.low), fun i hi => Nat.lt_of_lt_of_le (h.low i hi) hk.size⟩
set_option maxHeartbeats 8000000 in
theorem clos_any (w : World) (S : Nat → Prop) (gl gy gq : Nat) (A : Option Addr) (n c : Nat) (Y : Option Addr) (cy : Nat) (l : List (List Ev)) (ys : List Int) (q : Nat) (e : Ev) (h : Cap w S gl gy gq A n c Y cy l ys q) (hn : n ≤ 1000) (hlen : ∀ x ∈ l, x.length ≤ 100000) :
    Calls Try.prog 32 #[.agg #[.int .i64 e.kind, .int .i64 e.inc, .int .i64 e.frm, .int .i64 e.sInc, .int .i64 e.sIdx, .int .i64 e.ord, .int .i64 e.val], .pointer (some ⟨gl, 0, none⟩), .pointer (some ⟨gy, 0, none⟩), .pointer (some ⟨gq, 0, none⟩)] w (BoolPost (outS l ys q e) w) := by
  generalize hW : w.alloc (.cells #[.int .i64 e.kind, .int .i64 e.inc, .int .i64 e.frm, .int .i64 e.sInc, .int .i64 e.sIdx, .int .i64 e.ord, .int .i64 e.val] 50) = W
  have hkW : Keep w W := hW ▸ Keep.new w _
  have hb4 : Blk W w.heap.size 50 #[.int .i64 e.kind, .int .i64 e.inc, .int .i64 e.frm, .int .i64 e.sInc, .int .i64 e.sIdx, .int .i64 e.ord, .int .i64 e.val] := hW ▸ Blk.new w _ _
  have hW2 := h.keep hkW
  have x1 : W.cell? ⟨gl, 0, none⟩ = some (.slice A n c) := by rw [hW2.bl.cell]; rfl
  have x2 : W.cell? ⟨gy, 0, none⟩ = some (.slice Y n cy) := by rw [hW2.by_.cell]; rfl
  have x3 : W.cell? ⟨gq, 0, none⟩ = some (.int .i64 q) := by rw [hW2.bq.cell]; rfl
  have HKW := Lib.hid hkW
  have HB4 := Lib.hid hb4
  have HW2 := Lib.hid hW2
  have HLEN := Lib.hid hlen
  clear hkW hb4 hW2 hlen
  clear h
  go_enter Try.func32, Try.ntmps32
  go_upto_region 1 with fail
  clear hW
  go_wp2_with (refine wpList_load_all rfl _ (.tmp 4) rfl w.heap.size 50 [.int .i64 e.kind, .int .i64 e.inc, .int .i64 e.frm, .int .i64 e.sInc, .int .i64 e.sIdx, .int .i64 e.ord, .int .i64 e.val] _ rfl HB4.out Try.underlying50 rfl (by kernel_rfl) ?_)
  refine (fits_any W S _ _ n c n cy l ys q e HW2.out.low HW2.out.lin HW2.out.cut rfl (by omega) (fun x hx => by have := HLEN.out x hx; omega)).mono ?_
  rintro e2 w2 ⟨rfl, hk2⟩
  have hk := Keep.trans HKW.out hk2
  have HK := Lib.hid hk
  clear hk
  clear hk2
  go_wp2_with fail
  go_ret
  exact ⟨rfl, HK.out⟩
/-- The first index with p from k on. -/
def idxF (p : Ev → Bool) : Nat → List Ev → Int
  | _, [] => -1
  | k, e :: l => if p e then k else idxF p (k + 1) l
theorem idxF_get {p : Ev → Bool} {l : List Ev} {k : Nat} {x : Ev} (h : l[k]? = some x) : idxF p k (l.drop k) = if p x then (k : Int) else idxF p (k + 1) (l.drop (k + 1)) := by
  obtain ⟨hk, e⟩ := List.getElem?_eq_some_iff.1 h
  rw [List.drop_eq_getElem_cons hk, e]
  rfl
def IxR (W : World) (evs : List Ev) (p : Ev → Bool) (i : Value) (wr : World) : Prop := ∃ k : Nat, i = .int .i64 k ∧ k ≤ evs.length ∧ idxF p 0 evs = idxF p k (evs.drop k) ∧ Keep W wr
set_option maxHeartbeats 8000000 in
theorem indexf_any (w : World) (S : Nat → Prop) (gl gy gq : Nat) (A : Option Addr) (n c : Nat) (Y : Option Addr) (cy : Nat) (l : List (List Ev)) (ys : List Int) (q : Nat) (h : Cap w S gl gy gq A n c Y cy l ys q) (hn : n ≤ 1000) (hlen : ∀ x ∈ l, x.length ≤ 100000)
    (E : Option Addr) (m cE : Nat) (evs : List Ev) (hs : Sl encEv 7 w S E m cE evs) (hm : m ≤ 100000) :
    Calls Try.prog 31 #[.slice E m cE, .func (.func 32) #[] #[.pointer (some ⟨gl, 0, none⟩), .pointer (some ⟨gy, 0, none⟩), .pointer (some ⟨gq, 0, none⟩)]] w (RecvPost (idxF (outS l ys q) 0 evs) w) := by
  have hml := hs.1
  have H := Lib.hid h
  have HS := Lib.hid hs
  have HLEN := Lib.hid hlen
  have HML := Lib.hid hml
  clear h hs hlen hml
  go_enter Try.func31, Try.ntmps31
  go_wp2_with fail
  go_loopw [8] (fun i wr => IxR w evs (outS l ys q) i wr) (fun i _ => m - (intOf i).toNat)
  case atStart => exact ⟨0, rfl, Nat.zero_le _, by simp, Same.refl _ _⟩
  case round =>
    obtain ⟨k, rfl, hkl, hix, hkr⟩ := hrel
    by_cases hkm : k < m
    · obtain ⟨be, oe, ev, rfl, -, hev, hce⟩ := (HS.out.keep (hkr.mono H.out.low)).at_ encEv_len hkm
      have t0 : decide (k < m) = true := by simpa using hkm
      have t0' : decide ((k : Int) < (m : Int)) = true := by simp; omega
      have i0 : (0 : Int) ≤ k := by omega
      have i1 : (k : Int) < m := by omega
      have hra : wr.rangeAt be (oe + k * 7) [.int .i64 ev.kind, .int .i64 ev.inc, .int .i64 ev.frm, .int .i64 ev.sInc, .int .i64 ev.sIdx, .int .i64 ev.ord, .int .i64 ev.val] := fun j u hu => hce j u hu
      have hst := idxF_get (p := outS l ys q) hev
      have HRA := Lib.hid hra
      have HKR := Lib.hid hkr
      have HST := Lib.hid hst
      have HIX := Lib.hid hix
      clear hra hkr hst hix
      clear hce hev
      go_wp2_with (refine wpList_load_range rfl _ (.tmp 14) rfl be (oe + k * 7) [.int .i64 ev.kind, .int .i64 ev.inc, .int .i64 ev.frm, .int .i64 ev.sInc, .int .i64 ev.sIdx, .int .i64 ev.ord, .int .i64 ev.val] _ rfl HRA.out Try.underlying50 rfl (by kernel_rfl) ?_)
      have hcap := H.out.keep HKR.out
      refine (clos_any wr S gl gy gq A n c Y cy l ys q ev hcap hn HLEN.out).mono ?_
      rintro e w2 ⟨rfl, hk2⟩
      have hkk := Keep.trans HKR.out hk2
      obtain ⟨b, hb⟩ : ∃ b, outS l ys q ev = b := ⟨_, rfl⟩
      have hsu := HST.out
      rw [hb] at hsu ⊢
      have HKK := Lib.hid hkk
      have HSU := Lib.hid hsu
      clear hkk hsu
      clear hk2 hcap HKR HST HRA hb
      cases b with
      | true =>
        have hfin : RecvPost (idxF (outS l ys q) 0 evs) w (.returned (.int .i64 k)) w2 := ⟨by rw [HIX.out, HSU.out]; rfl, HKK.out⟩
        have HFIN := Lib.hid hfin
        clear hfin
        clear HSU HIX HKK
        go_wp2_with fail
        go_ret
        exact HFIN.out
      | false =>
        have hix2 : idxF (outS l ys q) 0 evs = idxF (outS l ys q) (k + 1) (evs.drop (k + 1)) := by rw [HIX.out, HSU.out]; rfl
        have hnx : IxR w evs (outS l ys q) (.int .i64 ((k : Int) + 1)) w2 := ⟨k + 1, by go_num, by have := HML.out; omega, hix2, HKK.out⟩
        have HNX := Lib.hid hnx
        clear hnx
        clear HSU HIX HKK hix2
        go_wp2_with fail
        go_roundw
        case rel => exact HNX.out
        case measure => simp [intOf]; omega
    · have t0 : decide (k < m) = false := by simpa using hkm
      have t0' : decide ((k : Int) < (m : Int)) = false := by simp; omega
      have hdr : evs.drop k = [] := List.drop_eq_nil_of_le (by have := HML.out; omega)
      rw [hdr] at hix
      have hfin : RecvPost (idxF (outS l ys q) 0 evs) w (.returned (.int .i64 (-1))) wr := ⟨by rw [hix]; rfl, hkr⟩
      have HFIN := Lib.hid hfin
      clear hfin
      clear hix hdr hkr
      go_wp2_with fail
      go_ret
      exact HFIN.out
end Go.Proofs.Ytcfpkmfppgodmaa
