/- The interpreter's machine: what a statement leaves, said; spend over the machine; list. -/
import Derived.Test.YthmepnpjagpcnaaMach4
set_option linter.unusedVariables false
set_option linter.unusedSimpArgs false
set_option maxRecDepth 100000
namespace Go.Proofs.Ythmepnpjagpcnaa
open Go.RowKit Go.Proofs

def StmAt (w : World) (S : Nat → Prop) (n b off : Nat) (s : Stm) : Prop := S b ∧ ∃ cs, StmR w S n cs s ∧ ∀ j u, cs[j]? = some u → w.cell? ⟨b, off + j, none⟩ = some u
theorem StmAt.keep {w w' : World} {S : Nat → Prop} {n b off : Nat} {s : Stm} (h : StmAt w S n b off s) (hk : Same S w w') : StmAt w' S n b off s := by
  obtain ⟨hb, cs, hr, hc⟩ := h
  exact ⟨hb, cs, StmR.keep hk n cs s hr, fun j u hu => (hk.cell (p := ⟨b, off + j, none⟩) hb).trans (hc j u hu)⟩
def ExPost (base g : Nat) (v : EnvS) (t : Task) (m : Ms) (w : World) (e : Ending) (w' : World) : Prop :=
  (∃ m', Exec v t m (.done m') ∧ e = .returned (.tuple #[]) ∧ Mach w' base g v m' ∧ Same (· < base) w w') ∨ (∃ m', Exec v t m (.dead m') ∧ e = .panicked outOfFuel ∧ Mach w' base g v m' ∧ Same (· < base) w w')
def SpendPost (base g : Nat) (v : EnvS) (m : Ms) (w : World) (e : Ending) (w' : World) : Prop :=
  (0 < m.fuel ∧ e = .returned (.tuple #[]) ∧ Mach w' base g v m.pay ∧ Same (· < base) w w') ∨ (m.fuel = 0 ∧ e = .panicked outOfFuel ∧ Mach w' base g v m ∧ Same (· < base) w w')
theorem mspend_any (w : World) (base g : Nat) (v : EnvS) (m : Ms) (hm : Mach w base g v m) (hf : m.fuel ≤ 1000) : Calls Try.prog 72 #[.pointer (some ⟨g, 0, none⟩)] w (SpendPost base g v m w) := by
  have hm' := hm
  obtain ⟨C, E, hb, hc, hE, h1, h2, h3, h4⟩ := hm
  cases hk : m.fuel with
  | zero =>
    rw [hk] at hb
    exact (spend_out w g C E v hb).mono (by rintro e w' ⟨rfl, rfl⟩; exact .inr ⟨hk, rfl, hm', Same.refl _ _⟩)
  | succ f =>
    rw [hk] at hb
    refine (spend_ok w g C E f v (by omega) hb).mono ?_
    rintro e w' ⟨rfl, hb', hs'⟩
    refine .inl ⟨by omega, rfl, ⟨C, E, ?_, ownsRow_own hc hs' (fun b hb e => h2 (by rw [← e]; exact hb)), ownsRow_own hE hs' (fun b hb e => h3 (by rw [← e]; exact hb)), h1, h2, h3, h4⟩, hs'.mono (fun i hi => by omega)⟩
    have : m.pay.fuel = f := by simp [Ms.pay, hk]
    rw [this]
    exact hb'
def ListSaid (n : Nat) : Prop := ∀ (w : World) (base g : Nat) (v : EnvS) (m : Ms) (S : Nat → Prop) (A : Option Addr) (len c : Nat) (l : List Stm), (∀ i, S i → i < base) → base ≤ w.heap.size → SlR w S 18 (StmR w S n) A len c l → Mach w base g v m → m.fuel ≤ 400 → m.effs.length ≤ 8 →
  Calls Try.prog 70 #[.pointer (some ⟨g, 0, none⟩), .slice A len c] w (ExPost base g v (.list l) m w)
def StmtSaid (n : Nat) : Prop := ∀ (w : World) (base g : Nat) (v : EnvS) (m : Ms) (S : Nat → Prop) (b off : Nat) (s : Stm), (∀ i, S i → i < base) → base ≤ w.heap.size → StmAt w S n b off s → Mach w base g v m → m.fuel ≤ 400 → m.effs.length ≤ 8 →
  Calls Try.prog 71 #[.pointer (some ⟨g, 0, none⟩), .pointer (some ⟨b, off, none⟩)] w (ExPost base g v (.stm s) m w)
def ListRel (base g : Nat) (v : EnvS) (m : Ms) (l : List Stm) (w : World) (i : Value) (wr : World) : Prop :=
  ∃ (k : Nat) (m' : Ms), i = .int .i64 k ∧ k ≤ l.length ∧ Exec v (.list (l.take k)) m (.done m') ∧ Mach wr base g v m' ∧ Same (· < base) w wr
theorem take_snoc {α : Type} {l : List α} {k : Nat} {s : α} (h : l[k]? = some s) : l.take (k + 1) = l.take k ++ [s] ∧ l = l.take k ++ s :: l.drop (k + 1) := by
  obtain ⟨hk, rfl⟩ := List.getElem?_eq_some_iff.1 h
  refine ⟨by rw [List.take_succ_eq_append_getElem hk], ?_⟩
  rw [← List.drop_eq_getElem_cons hk, List.take_append_drop]
set_option maxHeartbeats 4000000 in
theorem mlist_any (n : Nat) (hst : StmtSaid n) : ListSaid n := by
  intro w base g v m S A len c l hS hbz hsl hm hf h8
  have hml := hsl.1
  have hmc := hsl.2.1
  have hcm : c ≤ 9223372036854775807 := hsl.2.2.1
  have hl9 : len ≤ 9223372036854775807 := by omega
  have HS := Lib.hid hS
  have HSL := Lib.hid hsl
  have HST := Lib.hid hst
  have HM := Lib.hid hm
  have HML := Lib.hid hml
  have HF := Lib.hid hf
  have H8 := Lib.hid h8
  clear hS hsl hst hm hml hf h8
  clear hmc hcm
  go_enter Try.func70, Try.ntmps70
  go_wp2_with fail
  go_loopw [7] (fun i wr => ListRel base g v m l w i wr) (fun i _ => len - (intOf i).toNat)
  case atStart => exact ⟨0, m, rfl, by omega, by simpa using Exec.nil m, HM.out, Same.refl _ _⟩
  case round =>
    obtain ⟨k, m', rfl, hk, hex, hmr, hsr⟩ := hrel
    by_cases hkm : k < len
    · obtain ⟨b', off', cs', s, rfl, hSb, ha, hR, hll, hcell⟩ := HSL.out.at_ hkm
      have hsS : Same S w wr := hsr.mono HS.out
      have hat : StmAt wr S n b' (off' + k * 18) s := StmAt.keep ⟨hSb, cs', hR, hcell⟩ hsS
      have hfit := hex.fit
      have hd1 : decide (k < len) = true := by simpa using hkm
      have hd2 : (0 : Int) ≤ k := by omega
      have hd3 : (k : Int) < len := by omega
      have hz := hsr.size
      clear hcell hR hll hSb
      have HAT := Lib.hid hat
      have HEX := Lib.hid hex
      have HMR := Lib.hid hmr
      have HSR := Lib.hid hsr
      have HFIT := Lib.hid hfit
      have HA := Lib.hid ha
      have HSS := Lib.hid hsS
      clear hat hex hmr hsr hfit ha hsS
      go_wp2_with fail
      refine (HST.out wr base g v m' S b' (off' + k * 18) s HS.out (by omega) HAT.out HMR.out (Nat.le_trans HFIT.out.2.2 HF.out) (HFIT.out.2.1 H8.out)).mono ?_
      rintro e w3 (⟨m3, hx3, rfl, hm3, hs3⟩ | ⟨m3, hx3, rfl, hm3, hs3⟩)
      · have hsn := (Exec.snoc HEX.out hx3).1 m3 rfl
        rw [← (take_snoc HA.out).1] at hsn
        have hs3' := Same.trans HSR.out hs3 (fun i hi => hi)
        have hk1 : k + 1 ≤ l.length := by have := HML.out; omega
        have HSN := Lib.hid hsn
        have HM3 := Lib.hid hm3
        have HS3' := Lib.hid hs3'
        have HK1 := Lib.hid hk1
        clear hsn hm3 hs3' hk1
        clear hx3 hs3
        go_wp2_with fail
        go_roundw
        case rel => exact ⟨k + 1, m3, by go_num, HK1.out, HSN.out, HM3.out, HS3'.out⟩
        case measure => simp [intOf]; omega
      · have hsn := (Exec.snoc HEX.out hx3).2 m3 (l.drop (k + 1)) rfl
        rw [← (take_snoc HA.out).2] at hsn
        have hs3' := Same.trans HSR.out hs3 (fun i hi => hi)
        go_wp2_with fail
        exact ⟨rfl, .inr ⟨m3, hsn, rfl, hm3, hs3'⟩⟩
    · have hd1 : decide (k < len) = false := by simpa using hkm
      have hkl : l.take k = l := List.take_of_length_le (by have := HML.out; omega)
      rw [hkl] at hex
      have HEX := Lib.hid hex
      have HMR := Lib.hid hmr
      have HSR := Lib.hid hsr
      clear hex hmr hsr
      go_wp2_with fail
      exact bodyPost_end (results_none Try.results70 _ _ _) rfl (.inl ⟨m', HEX.out, rfl, HMR.out, HSR.out⟩)
end Go.Proofs.Ythmepnpjagpcnaa
