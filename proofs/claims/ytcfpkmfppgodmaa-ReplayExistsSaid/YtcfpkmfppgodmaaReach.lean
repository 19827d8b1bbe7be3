/- orphan.tracker.reach: written by gen_reach.py. -/
import Derived.Test.YtcfpkmfppgodmaaReachM
import Derived.Test.YtcfpkmfppgodmaaLins
set_option linter.unusedVariables false
set_option linter.unusedSimpArgs false
set_option maxRecDepth 100000
namespace Go.Proofs.Ytcfpkmfppgodmaa
open Go.RowKit Go.Proofs

theorem info_Labs : (Try.prog.info? 77).map (fun i => (i.zero, i.size, i.bytes)) = some (some (.slice none 0 0), 1, 24) := by kernel_rfl
theorem builtS_labs (A : Option Addr) (n c : Nat) : builtS Try.prog 77 1 [(0, .slice A n c)] = some #[.slice A n c] := by kernel_rfl
def TrY (v : Value) (W wx : World) : Prop := Same (fun i => i < W.heap.size ∧ v.ownBlock ≠ some i) W wx
def RchPost (l : List (List Ev)) (base gt gv go n : Nat) (A : Option Addr) (cA : Nat) (D : Nat → Prop) (cs : List Nat) (ow : List Bool) (q k : Nat) (w : World) (e : Ending) (w' : World) : Prop :=
  ∃ b : Bool, e = .returned (.bool b) ∧ Same (fun i => i < w.heap.size ∧ ¬ D i) w w' ∧
    (b = true → ∃ (D' : Nat → Prop) (vs' : List Value) (cs' : List Nat), TrM w' D' base gt gv go n A n cA vs' cs' ow ∧ (∀ i, D i → D' i) ∧ (∀ i, D' i → D i ∨ w.heap.size ≤ i) ∧ Adv cs cs' ow ∧ k < cs'.getD q 0 ∧ Rkd l cs' ∧ Bd l cs') ∧
    (b = false → 1 ≤ k ∧ ∀ rk, LinFine (lensN l) l rk → ¬ PreR rk cs ow q k)
def RchL (l : List (List Ev)) (base gt gv go n : Nat) (A : Option Addr) (cA : Nat) (D : Nat → Prop) (cs : List Nat) (ow : List Bool) (q k : Nat) (W : World) (i : Value) (wr : World) : Prop :=
  ∃ (kt : Nat) (D' : Nat → Prop) (vs' : List Value) (cs' : List Nat), i = .int .i64 ((kt : Int) + 1) ∧ cs'.getD q 0 = kt + 1 ∧ kt ≤ k ∧ TrM wr D' base gt gv go n A n cA vs' cs' (ow.set q true) ∧ (∀ i, D i → D' i) ∧ (∀ i, D' i → D i ∨ W.heap.size ≤ i) ∧ Same (fun i => i < W.heap.size ∧ ¬ D i) W wr ∧
    (∀ p, cs.getD p 0 ≤ cs'.getD p 0) ∧ (∀ p, p ≠ q → ow.getD p false = true → cs'.getD p 0 = cs.getD p 0) ∧ Rkd l cs' ∧ Bd l cs'
theorem lb_row {w' : World} {g n c q : Nat} {cur : Array Value} {ms : List (Int × Int)} {x : Int × Int} (hq : q < n) (hml : ms.length = n) (hcs : cur.size = c * 2) (hnc : n ≤ c) (hcm : c ≤ maxLen) (htk : cur.toList.take (n * 2) = ms.flatMap encLb) (hb : Blk w' g 48 (splice cur (q * 2) (encLb x))) : Sl encLb 2 w' (fun i => i = g) (some ⟨g, 0, none⟩) n c (ms.set q x) := by
  have hfit : q * 2 + (encLb x).length ≤ cur.size := by rw [hcs, encLb_len]; omega
  have hrow : Row encLb (splice cur (q * 2) (encLb x)) (ms.set q x) := Row.set_ (cur := cur) encLb_len (by omega) (row_of_take htk) (fun j hj => by rw [splice_at _ _ _ hfit, encLb_len, if_neg (by omega)]) (fun r u hu => by
    have hr : r < 2 := by rw [← encLb_len x]; exact (List.getElem?_eq_some_iff.1 hu).1
    rw [splice_at _ _ _ hfit, encLb_len, if_pos (by omega)]
    have : q * 2 + r - q * 2 = r := by omega
    rw [this]; exact hu)
  refine ⟨by simp [hml], hnc, hcm, by rw [flat_length encLb_len, List.length_set, hml], fun _ => ⟨g, 0, rfl, rfl, fun j u hu => ?_⟩⟩
  rw [hb.cell, Nat.zero_add]
  exact hrow j u hu
set_option maxHeartbeats 32000000 in
theorem reach_any (l : List (List Ev)) (base gt gv go n : Nat) (A : Option Addr) (cA : Nat) (S : Nat → Prop) (hS : ∀ i, S i → i < base) (hn1 : 1 ≤ n) (hn : n ≤ 1000) (hnl : n = l.length) (hlen : ∀ x ∈ l, x.length ≤ 100000) (hc : ConsL l) :
    ∀ (m : Nat) (w : World) (D : Nat → Prop) (vs : List Value) (cs : List Nat) (ow : List Bool) (q k : Nat) (qi ki : Int), qi = (q : Int) → ki = (k : Int) → free ow = m → q < n → k ≤ (l.getD q []).length → base ≤ w.heap.size → TrM w D base gt gv go n A n cA vs cs ow → SlR w S 1 (EvsR w S) A n cA l → Rkd l cs → Bd l cs →
    Calls Try.prog 36 #[.pointer (some ⟨gt, 0, none⟩), .int .i64 qi, .int .i64 ki] w (RchPost l base gt gv go n A cA D cs ow q k w) := by
  obtain ⟨iL, hi0, iz0, is0, ib0⟩ := info_of info_Labs
  have HS := Lib.hid hS
  have HLEN := Lib.hid hlen
  have HC := Lib.hid hc
  have HNL := Lib.hid hnl
  have HI0 := Lib.hid hi0
  have IZ0 := Lib.hid iz0
  have IS0 := Lib.hid is0
  have IB0 := Lib.hid ib0
  clear hS hlen hc hnl hi0 iz0 is0 ib0
  intro m
  induction m using Nat.strongRecOn with
  | _ m ih =>
  intro w D vs cs ow q k qi ki hqi hki hfr hqn hkl hbw htr hl hrk hbd
  subst hqi hki
  have hqlen : (l.getD q []).length ≤ 100000 := by
    have hql : q < l.length := by have := HNL.out; omega
    have h2 := HLEN.out (l.getD q []) (by
      rw [show l.getD q [] = l[q] from getD_of (List.getElem?_eq_getElem hql)]
      exact List.getElem_mem hql)
    exact h2
  obtain ⟨v, xs, hv, hr, hxs⟩ := htr.get hqn
  obtain ⟨Av, cv, rfl, hv1, hv2⟩ := own_form hr
  have hb1 := (hbd.2 q (by have := HNL.out; omega))
  obtain ⟨kt, hkt⟩ : ∃ kt, cs.getD q 0 = kt + 1 := ⟨cs.getD q 0 - 1, by omega⟩
  rw [hkt] at hv hr hv1
  obtain ⟨oq, hoq⟩ : ∃ oq, oq = ow.getD q false := ⟨_, rfl⟩
  have a1 : w.cell? ⟨gt, 1, none⟩ = some (.slice (some ⟨gv, 0, none⟩) n n) := by rw [htr.tr.cell]; rfl
  have a2 : w.cell? ⟨gt, 2, none⟩ = some (.slice (some ⟨go, 0, none⟩) n n) := by rw [htr.tr.cell]; rfl
  have av : w.cell? ⟨gv, q, none⟩ = some (.slice Av (kt + 1) cv) := by rw [htr.vec.cell, List.getElem?_toArray]; exact hv
  have ao : w.cell? ⟨go, q, none⟩ = some (.bool oq) := by rw [htr.flg.cell, flags_get (by rw [htr.olen]; exact hqn), hoq]
  have i0 : (0 : Int) ≤ q := by omega
  have i1 : (q : Int) < n := by omega
  have hktl : kt ≤ 100000 := by omega
  have hk5 : k ≤ 100000 := by omega
  have HTR := Lib.hid htr
  have HL := Lib.hid hl
  have HRK := Lib.hid hrk
  have HBD := Lib.hid hbd
  have HKT := Lib.hid hkt
  have HOQ := Lib.hid hoq
  have IH := Lib.hid ih
  have HFR := Lib.hid hfr
  have HKL := Lib.hid hkl
  have HB1 := Lib.hid hb1
  clear htr hl hrk hbd hkt hoq ih hfr hkl hb1
  clear hv hr hxs
  by_cases hkc : k < kt + 1
  · have t0 : decide ((k : Int) < (kt : Int) + 1) = true := by simp; omega
    have t0' : decide (k < kt + 1) = true := by simpa using hkc
    have t0'' : decide ((k : Int) < ((kt + 1 : Nat) : Int)) = true := by simp; omega
    have hfin : RchPost l base gt gv go n A cA D cs ow q k w (.returned (.bool true)) w := ⟨true, rfl, Same.refl _ _, fun _ => ⟨D, vs, cs, HTR.out, fun _ h => h, fun _ h => .inl h, Adv.refl _ _, by rw [HKT.out]; exact hkc, HRK.out, HBD.out⟩, nofun⟩
    have HFIN := Lib.hid hfin
    clear hfin
    go_enter Try.func36, Try.ntmps36
    go_wp2_with fail
    go_ret
    exact HFIN.out
  have t0 : decide ((k : Int) < (kt : Int) + 1) = false := by simp; omega
  have t0' : decide (k < kt + 1) = false := by simpa using hkc
  have t0'' : decide ((k : Int) < ((kt + 1 : Nat) : Int)) = false := by simp; omega
  cases oq with
  | true =>
    have hfin : RchPost l base gt gv go n A cA D cs ow q k w (.returned (.bool false)) w := ⟨false, rfl, Same.refl _ _, nofun, fun _ => ⟨by omega, fun rk hf hp => onway_no hf hp HOQ.out.symm (by rw [HKT.out]; omega) HB1.out.1 HKL.out⟩⟩
    have HFIN := Lib.hid hfin
    clear hfin
    go_enter Try.func36, Try.ntmps36
    go_wp2_with fail
    go_ret
    exact HFIN.out
  | false =>
  have hgo0 : Blk w go 4 (flags ow) := HTR.out.flg
  have hfl : q < (flags ow).size := by simp [flags]; rw [HTR.out.olen]; exact hqn
  have HGO0 := Lib.hid hgo0
  clear hgo0
  go_enter Try.func36, Try.ntmps36
  go_upto_region 6 with (refine wpList_store_one rfl _ (.tmp 32) (.const (.bool true)) rfl go q 4 _ (.bool true) rfl rfl HGO0.out hfl (by kernel_rfl) rfl rfl ?_; intro w1 hb1' hs1)
  have htr1 := HTR.out.flag hb1' hs1
  have hz1 := hs1.size
  have hf1 : Same (fun i => i < w.heap.size ∧ ¬ D i) w w1 := hs1.mono (fun i hi e => hi.2 (e ▸ HTR.out.dg))
  have hrel0 : RchL l base gt gv go n A cA D cs ow q k w (.int .i64 ((kt : Int) + 1)) w1 := ⟨kt, D, vs, cs, rfl, HKT.out, by omega, htr1, fun _ h => h, fun _ h => .inl h, hf1, fun _ => Nat.le_refl _, fun _ _ _ => rfl, HRK.out, HBD.out⟩
  have a1 : w1.cell? ⟨gt, 1, none⟩ = some (.slice (some ⟨gv, 0, none⟩) n n) := by rw [htr1.tr.cell]; rfl
  have av : w1.cell? ⟨gv, q, none⟩ = some (.slice Av (kt + 1) cv) := by rw [(hs1.cell (p := ⟨gv, q, none⟩) (fun e => HTR.out.vg e)).trans av]
  have HREL0 := Lib.hid hrel0
  clear hrel0
  clear htr1 hf1 hb1' hs1 a2 ao
  go_wp2_with fail
  go_loopw [7] (fun i wr => RchL l base gt gv go n A cA D cs ow q k w i wr) (fun i _ => k + 1 - (intOf i).toNat)
  case atStart => exact HREL0.out
  case round =>
    clear HREL0 a1 av t0 t0' t0'' hkc
    obtain ⟨kt, D1, vs1, cs1, rfl, hkt, hktk, htr1, hD1, hD1n, hsm, hcle, hceq, hrk1, hbd1⟩ := hrel
    have hzr := hsm.size
    have hktl : kt ≤ 100000 := by omega
    have b0 : wr.cell? ⟨gt, 0, none⟩ = some (.slice A n cA) := by rw [htr1.tr.cell]; rfl
    have b2 : wr.cell? ⟨gt, 2, none⟩ = some (.slice (some ⟨go, 0, none⟩) n n) := by rw [htr1.tr.cell]; rfl
    by_cases hik : kt + 1 ≤ k
    · have u0 : decide ((kt : Int) + 1 ≤ (k : Int)) = true := by simp; omega
      have hql : q < l.length := by have := HNL.out; omega
      have hktq : kt < (l.getD q []).length := by have := HKL.out; omega
      have hlr := HL.out.keep (hsm.mono (fun i hi => ⟨by have := HS.out i hi; omega, fun hd => by have := (HTR.out.low i hd).1; have := HS.out i hi; omega⟩)) (EvsR.keep (hsm.mono (fun i hi => ⟨by have := HS.out i hi; omega, fun hd => by have := (HTR.out.low i hd).1; have := HS.out i hi; omega⟩)))
      obtain ⟨c0, o0, cs0, evs, rfl, -, hevs, ⟨Ae, ne, ce, rfl, hse⟩, -, hc0⟩ := hlr.at_ hqn
      have hgev := getD_of (d := ([] : List Ev)) hevs
      obtain ⟨be, oe, ev, rfl, -, hev, hce⟩ := hse.at_ encEv_len (k := kt) (by have := hse.1; rw [← hgev] at this; omega)
      rw [← hgev] at hev
      have hne := hse.1
      rw [← hgev] at hne
      have x0 : wr.cell? ⟨c0, o0 + q, none⟩ = some (.slice (some ⟨be, oe, none⟩) ne ce) := by have := hc0 0 _ rfl; simpa using this
      have k0 : (0 : Int) ≤ kt := by omega
      have k1 : (kt : Int) < ne := by omega
      have hra : wr.rangeAt be (oe + kt * 7) [.int .i64 ev.kind, .int .i64 ev.inc, .int .i64 ev.frm, .int .i64 ev.sInc, .int .i64 ev.sIdx, .int .i64 ev.ord, .int .i64 ev.val] := fun j u hu => hce j u hu
      have HRA := Lib.hid hra
      have HTR1 := Lib.hid htr1
      have HD1 := Lib.hid hD1
      have HD1N := Lib.hid hD1n
      have HSM := Lib.hid hsm
      have HCLE := Lib.hid hcle
      have HCEQ := Lib.hid hceq
      have HRK1 := Lib.hid hrk1
      have HBD1 := Lib.hid hbd1
      have HEV := Lib.hid hev
      have HLR := Lib.hid hlr
      have HKT := Lib.hid hkt
      clear hra htr1 hD1 hD1n hsm hcle hceq hrk1 hbd1 hev hlr hkt
      clear hevs hse hc0 hce hgev hne
      go_upto_region 10 with (first
        | (refine wpList_load_range rfl _ (.tmp 55) rfl be (oe + kt * 7) [.int .i64 ev.kind, .int .i64 ev.inc, .int .i64 ev.frm, .int .i64 ev.sInc, .int .i64 ev.sIdx, .int .i64 ev.ord, .int .i64 ev.val] _ rfl HRA.out Try.underlying50 rfl (by kernel_rfl) ?_)
        | (refine wpList_store_all rfl _ (.tmp 8) (.tmp 56) rfl wr.heap.size 50 _ [.int .i64 ev.kind, .int .i64 ev.inc, .int .i64 ev.frm, .int .i64 ev.sInc, .int .i64 ev.sIdx, .int .i64 ev.ord, .int .i64 ev.val] rfl rfl (Blk.new _ _ _) rfl (by kernel_rfl) rfl ?_; intro w5 hb5 hs5))
      have hz5 : wr.heap.size < w5.heap.size := hb5.lt
      have hk5 : Keep wr w5 := Keep.write (Keep.new _ _) hs5 (Nat.le_refl _)
      have htr5 := HTR1.out.keep hk5
      have hlr5 := HLR.out.keep (hk5.mono (fun i hi => by have := HS.out i hi; omega)) (EvsR.keep (hk5.mono (fun i hi => by have := HS.out i hi; omega)))
      obtain ⟨ge, hge⟩ : ∃ ge, ge = wr.heap.size := ⟨_, rfl⟩
      rw [← hge] at hb5
      rw [← hge]
      have hgew : wr.heap.size ≤ ge := by omega
      have hgel := hb5.lt
      have hgeD : ¬ D1 ge := fun hd => by have := (HTR1.out.low ge hd).2; omega
      have hget : ge ≠ gt := by have := HTR1.out.tr.lt; omega
      obtain ⟨b, c', X, cx, ms, hv, hbl, hcb, hsx, hDb⟩ := htr5.at_ hqn (k := kt) (by rw [HKT.out]; omega)
      rw [HKT.out] at hv
      have c1 : w5.cell? ⟨gt, 1, none⟩ = some (.slice (some ⟨gv, 0, none⟩) n n) := by rw [htr5.tr.cell]; rfl
      have cgv : w5.cell? ⟨gv, q, none⟩ = some (.slice (some ⟨b, 0, none⟩) (kt + 1) c') := by rw [htr5.vec.cell, List.getElem?_toArray]; exact hv
      have hms : ms.length = n := hsx.1.symm
      have hsm5 : Same (fun i => i < w.heap.size ∧ ¬ D i) w w5 := Same.trans HSM.out hk5 (fun i hi => by omega)
      have hcl := cloneLab_any w5 _ X n cx ms hsx (fun i hi => hi.1) (by omega)
      have HTR5 := Lib.hid htr5
      have HLR5 := Lib.hid hlr5
      have HB5 := Lib.hid hb5
      have HMS := Lib.hid hms
      have HSM5 := Lib.hid hsm5
      have HV := Lib.hid hv
      have HCL := Lib.hid hcl
      have HSX := Lib.hid hsx
      clear htr5 hlr5 hb5 hms hsm5 hv hcl hsx
      clear hs5 hk5 HTR1 HLR HRA HSM hge b0 b2 x0
      go_wp2_with fail
      refine HCL.out.mono ?_
      rintro e w6 ⟨vY, rfl, hown, hk6⟩
      have hz6 := hk6.size
      rw [HMS.out] at hown
      obtain ⟨Y, cy, rfl, -, -⟩ := own_form hown
      obtain ⟨g9, cur, rfl, hg9w, hb9, hcs9, hnc9, hcm9, htk9⟩ := own_open (size := 2) hown (by omega)
      have hg9l := hb9.lt
      have hb6 := hk6.blk HB5.out hgel
      have ce1 : w6.cell? ⟨ge, 1, none⟩ = some (.int .i64 ev.inc) := by rw [hb6.cell]; rfl
      have hfit9 : q * 2 + (encLb (ev.inc, (kt : Int) + 1)).length ≤ cur.size := by rw [hcs9, encLb_len]; omega
      have hg9D : ¬ D1 g9 := fun hd => by have := (HTR5.out.low g9 hd).2; omega
      have hg9t : g9 ≠ gt := by have := HTR5.out.tr.lt; omega
      have hge9 : ge ≠ g9 := by omega
      have HK6 := Lib.hid hk6
      have HB6 := Lib.hid hb6
      have HB9 := Lib.hid hb9
      have HCS9 := Lib.hid hcs9
      have HTK9 := Lib.hid htk9
      clear hk6 hb6 hb9 hcs9 htk9
      clear hown HB5 HCL c1 cgv hcb
      go_upto_region 12 with (first
        | (refine wpList_bld rfl 48 _ rfl _ [(0, .int .i64 ev.inc), (1, .int .i64 ((kt : Int) + 1))] rfl (bld_lab2 _ _) ?_)
        | (refine wpList_store_blk rfl _ (.tmp 75) (.tmp 74) rfl g9 (q * 2) 48 cur (encLb (ev.inc, (kt : Int) + 1)) rfl rfl HB9.out hfit9 (by kernel_rfl) rfl ?_; intro w7 hb7 hs7))
      have hz7 := hs7.size
      have hY7 := lb_row hqn HMS.out HCS9.out hnc9 hcm9 HTK9.out hb7
      have hk57 : Keep w5 w7 := Keep.write HK6.out hs7 hg9w
      have htr7 := HTR5.out.keep hk57
      have hlr7 := HLR5.out.keep (hk57.mono (fun i hi => by have := HS.out i hi; omega)) (EvsR.keep (hk57.mono (fun i hi => by have := HS.out i hi; omega)))
      have hsm7 : Same (fun i => i < w.heap.size ∧ ¬ D i) w w7 := Same.trans HSM5.out hk57 (fun i hi => by omega)
      have hb77 := hs7.blk HB6.out hge9
      have ce0 : w7.cell? ⟨ge, 0, none⟩ = some (.int .i64 ev.kind) := by rw [hb77.cell]; rfl
      have hY7' : Sl encLb 2 w7 (fun i => i < w7.heap.size ∧ ¬ D1 i) (some ⟨g9, 0, none⟩) n cy (ms.set q (ev.inc, (kt : Int) + 1)) := hY7.more (fun i hi => by subst hi; exact ⟨by omega, hg9D⟩)
      have HTR7 := Lib.hid htr7
      have HLR7 := Lib.hid hlr7
      have HSM7 := Lib.hid hsm7
      have HB77 := Lib.hid hb77
      have HY7' := Lib.hid hY7'
      clear htr7 hlr7 hsm7 hb77 hY7'
      clear hY7 hk57 hs7 hb7 HK6 HTR5 HLR5 HSM5 HB6 HB9 HCS9 HTK9 HMS hfit9 ce1
      try simp only [Act.put]
      by_cases hek : ev.kind = 1
      · have t1 : (ev.kind == 1) = true := by simpa using hek
        obtain ⟨p1, p2, p3, p4, p5, p6⟩ := HC.out.open_ hql HEV.out hek
        obtain ⟨fr, hfre⟩ : ∃ fr : Nat, ev.frm = (fr : Int) := ⟨ev.frm.toNat, by omega⟩
        obtain ⟨s, hse⟩ : ∃ s : Nat, ev.sIdx = (s : Int) := ⟨ev.sIdx.toNat, by omega⟩
        have hfn : fr < n := by have := HNL.out; omega
        have hfq : fr ≠ q := by omega
        have hft : ev.frm.toNat = fr := by omega
        have hst : ev.sIdx.toNat = s := by omega
        have hsl : s ≤ (l.getD fr []).length := by rw [hft] at p5; omega
        have hqo : q < ow.length := by rw [HTR.out.olen]; exact hqn
        have hcall := IH.out (free (ow.set q true)) (by rw [← HFR.out]; exact free_set hqo HOQ.out.symm) w7 D1 vs1 cs1 (ow.set q true) fr s ev.frm ev.sIdx hfre hse rfl hfn hsl (by have := HSM7.out.size; omega) HTR7.out HLR7.out HRK1.out HBD1.out
        have ce2 : w7.cell? ⟨ge, 2, none⟩ = some (.int .i64 ev.frm) := by rw [HB77.out.cell]; rfl
        have ce4 : w7.cell? ⟨ge, 4, none⟩ = some (.int .i64 ev.sIdx) := by rw [HB77.out.cell]; rfl
        have j0 : (0 : Int) ≤ ev.frm := by omega
        have j1 : ev.frm < (n : Int) := by omega
        have j2 : (0 : Int) ≤ ev.sIdx := by omega
        have HCALL := Lib.hid hcall
        have HFRE := Lib.hid hfre
        have HSE := Lib.hid hse
        have HEK := Lib.hid hek
        have HSL := Lib.hid hsl
        clear hcall hfre hse hek hsl
        clear p1 p2 p3 p4 p5 p6
        go_wp2_with fail
        refine HCALL.out.mono ?_
        rintro e w8 ⟨bb, rfl, hsm8, ht, hf⟩
        have hz8 := hsm8.size
        have hsmw : Same (fun i => i < w.heap.size ∧ ¬ D i) w w8 := Same.trans HSM7.out hsm8 (fun i hi => ⟨by have := HSM7.out.size; omega, fun hd => (HD1N.out i hd).elim hi.2 (fun h => by omega)⟩)
        cases bb with
        | false =>
          have hfin : RchPost l base gt gv go n (some ⟨c0, o0, none⟩) cA D cs ow q k w (.returned (.bool false)) w8 := ⟨false, rfl, hsmw, nofun, fun _ => ⟨by omega, fun rk hfi hp => (hf rfl).2 rk hfi (hp.inner hfi hqo (fun p hpq ho => HCEQ.out p hpq ho) HKT.out (by omega) hik HKL.out HEV.out HEK.out HFRE.out HSE.out (hf rfl).1)⟩⟩
          have HFIN := Lib.hid hfin
          clear hfin
          clear ht hf hsm8 hsmw
          go_wp2_with fail
          go_ret
          exact HFIN.out
        | true =>
          obtain ⟨D2, vs2, cs2, htr8, hD2, hD2n, hadv, hlt, hrk2, hbd2⟩ := ht rfl
          have hkt2 : cs2.getD q 0 = kt + 1 := by rw [hadv.2.2 q (getD_setB hqo)]; exact HKT.out
          have hb78 := hsm8.blk HB77.out ⟨HB77.out.lt, hgeD⟩
          have hY8 := HY7'.out.keep hsm8
          obtain ⟨b2', c2', X2, cx2, ms2, hv2', hbl2, hcb2, hsx2, hDb2⟩ := htr8.at_ hfn hlt
          have hlr8 := HLR7.out.keep (hsm8.mono (fun i hi => ⟨by have := HS.out i hi; have := HSM7.out.size; omega, fun hd => by have := (HTR7.out.low i hd).1; have := HS.out i hi; omega⟩)) (EvsR.keep (hsm8.mono (fun i hi => ⟨by have := HS.out i hi; have := HSM7.out.size; omega, fun hd => by have := (HTR7.out.low i hd).1; have := HS.out i hi; omega⟩)))
          obtain ⟨c2n, hc2n⟩ : ∃ c2n, c2n = cs2.getD fr 0 := ⟨_, rfl⟩
          rw [← hc2n] at hv2' hlt
          have j3 : ev.sIdx < (c2n : Int) := by have := HSE.out; omega
          have z0 : ∀ wx, Keep w8 wx → wx.cell? ⟨gt, 1, none⟩ = some (.slice (some ⟨gv, 0, none⟩) n n) := fun wx hx => by rw [(hx.blk htr8.tr htr8.tr.lt).cell]; rfl
          have z3 : ∀ wx, Keep w8 wx → wx.cell? ⟨gv, fr, none⟩ = some (.slice (some ⟨b2', 0, none⟩) c2n c2') := fun wx hx => by rw [(hx.blk htr8.vec htr8.vec.lt).cell, List.getElem?_toArray]; exact hv2'
          have z4 : ∀ wx, Keep w8 wx → wx.cell? ⟨b2', s, none⟩ = some (.slice X2 n cx2) := fun wx hx => (hx.cell (p := ⟨b2', s, none⟩) hbl2).trans hcb2
          have z5 : ∀ wx, Keep w8 wx → wx.cell? ⟨ge, 2, none⟩ = some (.int .i64 ev.frm) := fun wx hx => by rw [(hx.blk hb78 hb78.lt).cell]; rfl
          have z6 : ∀ wx, Keep w8 wx → wx.cell? ⟨ge, 4, none⟩ = some (.int .i64 ev.sIdx) := fun wx hx => by rw [(hx.blk hb78 hb78.lt).cell]; rfl
          have hpsh : ∀ e : Ev, (l.getD q [])[cs2.getD q 0 - 1]? = some e → e.kind = 1 → 1 ≤ e.sIdx → e.frm.toNat ≠ q ∧ e.sIdx.toNat ≤ cs2.getD e.frm.toNat 0 - 1 := fun e he hk _ => by
            rw [hkt2, Nat.add_sub_cancel, HEV.out] at he
            injection he with he
            subst he
            rw [hft, hst, ← hc2n]
            exact ⟨hfq, by omega⟩
          have hdd : ∀ i, D i → D2 i := fun i hi => hD2 i (HD1.out i hi)
          have hdn : ∀ i, D2 i → D i ∨ w.heap.size ≤ i := fun i hi => (hD2n i hi).elim (HD1N.out i) (fun h => .inr (by have := HSM7.out.size; omega))
          have hcl2 : ∀ p, cs.getD p 0 ≤ cs2.getD p 0 := fun p => Nat.le_trans (HCLE.out p) (hadv.2.1 p)
          have hce2' : ∀ p, p ≠ q → ow.getD p false = true → cs2.getD p 0 = cs.getD p 0 := fun p hp ho => by
            rw [hadv.2.2 p (by rw [getD_setC (fun e => hp e.symm)]; exact ho)]
            exact HCEQ.out p hp ho
          have hkt9 := hkt2
          have HTR8 := Lib.hid htr8
          have HSMW := Lib.hid hsmw
          have HY8 := Lib.hid hY8
          have HSX2 := Lib.hid hsx2
          have HLR8 := Lib.hid hlr8
          have HPSH := Lib.hid hpsh
          have HDD := Lib.hid hdd
          have HDN := Lib.hid hdn
          have HCL2 := Lib.hid hcl2
          have HCE2' := Lib.hid hce2'
          have HRK2 := Lib.hid hrk2
          have HBD2 := Lib.hid hbd2
          have HKT9 := Lib.hid hkt9
          clear htr8 hsmw hY8 hsx2 hlr8 hpsh hdd hdn hcl2 hce2' hrk2 hbd2 hkt9
          clear ht hf hsm8 hD2 hD2n hadv hkt2 hb78 hcb2 hv2' hc2n hlt ce2 ce4 HCALL HY7' HTR7 HLR7 HB77 HSM7
          go_upto_region 15 with fail
          refine wp_region_L 99 (fun _ => True) (fun wx => Keep w8 wx) (by kernel_rfl) trivial (Same.drew (Same.refl _ _)) (fun hA hB => ?_)
          generalize hu0 : w8.drew = u0 at hB ⊢
          clear hu0
          refine wpL_takeB (i := 0) (v := ?_) rfl (by kernel_rfl) (by kernel_rfl) (by kernel_rfl) (by decide) (fun _ _ _ h => h) (Or.inl ⟨by rfl, ?_⟩) (SAB.both hA hB) ?_
          rotate_left
          · intro wx hBx
            (try dsimp only at hBx)
            go_simp
            try with_reducible rfl
          try simp only [Act.put, List.setIfInBounds_toArray, List.set_cons_zero, List.set_cons_succ]
          refine wpL_takeB (i := 1) (v := ?_) rfl (by kernel_rfl) (by kernel_rfl) (by kernel_rfl) (by decide) (fun _ _ _ h => h) (Or.inl ⟨by rfl, ?_⟩) (SAB.both hA hB) ?_
          rotate_left
          · intro wx hBx
            (try dsimp only at hBx)
            go_simp
            try with_reducible rfl
          try simp only [Act.put, List.setIfInBounds_toArray, List.set_cons_zero, List.set_cons_succ]
          refine wpL_takeB (i := 2) (v := ?_) rfl (by kernel_rfl) (by kernel_rfl) (by kernel_rfl) (by decide) (fun _ _ _ h => h) (Or.inl ⟨by rfl, ?_⟩) (SAB.both hA hB) ?_
          rotate_left
          · intro wx hBx
            (try dsimp only at hBx)
            go_simp
            try with_reducible rfl
          try simp only [Act.put, List.setIfInBounds_toArray, List.set_cons_zero, List.set_cons_succ]
          refine wpL_takeB (i := 3) (v := ?_) rfl (by kernel_rfl) (by kernel_rfl) (by kernel_rfl) (by decide) (fun _ _ _ h => h) (Or.inl ⟨by rfl, ?_⟩) (SAB.both hA hB) ?_
          rotate_left
          · intro wx hBx
            (try dsimp only at hBx)
            go_simp
            try with_reducible rfl
          try simp only [Act.put, List.setIfInBounds_toArray, List.set_cons_zero, List.set_cons_succ]
          refine wpL_takeB (i := 4) (v := ?_) rfl (by kernel_rfl) (by kernel_rfl) (by kernel_rfl) (by decide) (fun _ _ _ h => h) (Or.inl ⟨by rfl, ?_⟩) (SAB.both hA hB) ?_
          rotate_left
          · intro wx hBx
            (try dsimp only at hBx)
            go_simp
            try with_reducible rfl
          try simp only [Act.put, List.setIfInBounds_toArray, List.set_cons_zero, List.set_cons_succ]
          refine wpL_takeB (i := 5) (v := ?_) rfl (by kernel_rfl) (by kernel_rfl) (by kernel_rfl) (by decide) (fun _ _ _ h => h) (Or.inl ⟨by rfl, ?_⟩) (SAB.both hA hB) ?_
          rotate_left
          · intro wx hBx
            (try dsimp only at hBx)
            go_simp
            try with_reducible rfl
          try simp only [Act.put, List.setIfInBounds_toArray, List.set_cons_zero, List.set_cons_succ]
          refine wpL_takeB (i := 6) (v := ?_) rfl (by kernel_rfl) (by kernel_rfl) (by kernel_rfl) (by decide) (fun _ _ _ h => h) (Or.inl ⟨by rfl, ?_⟩) (SAB.both hA hB) ?_
          rotate_left
          · intro wx hBx
            (try dsimp only at hBx)
            go_simp
            try with_reducible rfl
          try simp only [Act.put, List.setIfInBounds_toArray, List.set_cons_zero, List.set_cons_succ]
          refine wpL_takeB (i := 7) (v := ?_) rfl (by kernel_rfl) (by kernel_rfl) (by kernel_rfl) (by decide) (fun _ _ _ h => h) (Or.inl ⟨by rfl, ?_⟩) (SAB.both hA hB) ?_
          rotate_left
          · intro wx hBx
            (try dsimp only at hBx)
            go_simp
            try with_reducible rfl
          try simp only [Act.put, List.setIfInBounds_toArray, List.set_cons_zero, List.set_cons_succ]
          refine wpL_takeB (i := 8) (v := ?_) rfl (by kernel_rfl) (by kernel_rfl) (by kernel_rfl) (by decide) (fun _ _ _ h => h) (Or.inl ⟨by rfl, ?_⟩) (SAB.both hA hB) ?_
          rotate_left
          · intro wx hBx
            (try dsimp only at hBx)
            go_simp
            try with_reducible rfl
          try simp only [Act.put, List.setIfInBounds_toArray, List.set_cons_zero, List.set_cons_succ]
          refine wpL_takeB (i := 9) (v := ?_) rfl (by kernel_rfl) (by kernel_rfl) (by kernel_rfl) (by decide) (fun _ _ _ h => h) (Or.inl ⟨by rfl, ?_⟩) (SAB.both hA hB) ?_
          rotate_left
          · intro wx hBx
            (try dsimp only at hBx)
            go_simp
            try with_reducible rfl
          try simp only [Act.put, List.setIfInBounds_toArray, List.set_cons_zero, List.set_cons_succ]
          refine wpL_takeB (i := 10) (v := ?_) rfl (by kernel_rfl) (by kernel_rfl) (by kernel_rfl) (by decide) (fun _ _ _ h => h) (Or.inl ⟨by rfl, ?_⟩) (SAB.both hA hB) ?_
          rotate_left
          · intro wx hBx
            (try dsimp only at hBx)
            go_simp
            try with_reducible rfl
          try simp only [Act.put, List.setIfInBounds_toArray, List.set_cons_zero, List.set_cons_succ]
          refine wpL_takeB (i := 11) (v := ?_) rfl (by kernel_rfl) (by kernel_rfl) (by kernel_rfl) (by decide) (fun _ _ _ h => h) (Or.inl ⟨by rfl, ?_⟩) (SAB.both hA hB) ?_
          rotate_left
          · intro wx hBx
            (try dsimp only at hBx)
            go_simp
            try with_reducible rfl
          try simp only [Act.put, List.setIfInBounds_toArray, List.set_cons_zero, List.set_cons_succ]
          refine wpL_takeB (i := 12) (v := ?_) rfl (by kernel_rfl) (by kernel_rfl) (by kernel_rfl) (by decide) (fun _ _ _ h => h) (Or.inl ⟨by rfl, ?_⟩) (SAB.both hA hB) ?_
          rotate_left
          · intro wx hBx
            (try dsimp only at hBx)
            go_simp
            try with_reducible rfl
          try simp only [Act.put, List.setIfInBounds_toArray, List.set_cons_zero, List.set_cons_succ]
          refine wpL_takeB (i := 13) (v := ?_) rfl (by kernel_rfl) (by kernel_rfl) (by kernel_rfl) (by decide) (fun _ _ _ h => h) (Or.inl ⟨by rfl, ?_⟩) (SAB.both hA hB) ?_
          rotate_left
          · intro wx hBx
            (try dsimp only at hBx)
            go_simp
            try with_reducible rfl
          try simp only [Act.put, List.setIfInBounds_toArray, List.set_cons_zero, List.set_cons_succ]
          clear z0 z3 z4 z5 z6
          refine wpL_one (i := 14) (by kernel_rfl) (StepL.mk rfl (fun K hK => ?_))
          go_simp
          have hzu := hB.size
          refine (merge_any u0 (fun i => i < u0.heap.size) (some ⟨g9, 0, none⟩) X2 n cy cx2 _ _ (fun i hi => hi) ((HY8.out.keep (hB.mono (fun i hi => by have := hi.1; omega))).more (fun i hi => by have := hi.1; omega)) ((HSX2.out.keep (hB.mono (fun i hi => hi.1))).more (fun i hi => by have := hi.1; omega)) hn1 hn).mono ?_
          rintro e u1 ⟨g, ms3, rfl, hml3, hbg3, hgw3, hkm⟩
          have hB9 := Keep.trans hB hkm
          refine hK.out _ _ (SAB.both trivial hB9) (fun hSS => ?_)
          clear hK K hA hB
          have hB := hSS.2
          have hA := hSS.1 (by kernel_rfl)
          (try dsimp only at hB); (try dsimp only at hA); clear hSS
          try simp only [Act.put, List.setIfInBounds_toArray, List.set_cons_zero, List.set_cons_succ]
          refine wpL_takeB (i := 15) (v := ?_) rfl (by kernel_rfl) (by kernel_rfl) (by kernel_rfl) (by decide) (fun _ _ _ h => h) (Or.inl ⟨by rfl, ?_⟩) (SAB.both hA hB) ?_
          rotate_left
          · intro wx hBx
            (try dsimp only at hBx)
            go_simp
            try with_reducible rfl
          try simp only [Act.put, List.setIfInBounds_toArray, List.set_cons_zero, List.set_cons_succ]
          refine wpL_done (by kernel_rfl) ?_
          have htr9 := HTR8.out.keep hB9
          have hgD : ¬ D2 g := fun hd => by have := (HTR8.out.low g hd).2; omega
          have hx : VecR u1 D2 n (.slice (some ⟨g, 0, none⟩) n n) := ⟨_, _, ms3, rfl, hml3.symm, Nat.le_refl _, by simp [maxLen]; omega, by rw [flat_length encLb_len, hml3], fun _ => ⟨g, 0, rfl, ⟨hbg3.lt, hgD⟩, fun j u hu => by rw [hbg3.cell, Nat.zero_add, List.getElem?_toArray]; exact hu⟩⟩
          have hsm9 : Same (fun i => i < w.heap.size ∧ ¬ D i) w u1 := Same.trans HSMW.out hB9 (fun i hi => by have := HSMW.out.size; omega)
          have hlr9 := HLR8.out.keep (hB9.mono (fun i hi => by have := HS.out i hi; have := HSMW.out.size; omega)) (EvsR.keep (hB9.mono (fun i hi => by have := HS.out i hi; have := HSMW.out.size; omega)))
          have hz9 := hB9.size
          have HTR9 := Lib.hid htr9
          have HX := Lib.hid hx
          have HSM9 := Lib.hid hsm9
          have HLR9 := Lib.hid hlr9
          clear htr9 hx hsm9 hlr9
          clear hA hB hB9 hkm hbg3 hml3 HTR8 HSMW HLR8 HY8 HSX2
          obtain ⟨vq, xs9, hv9, hr9, hxs9⟩ := HTR9.out.get hqn
          obtain ⟨A9, c9, rfl, hv91, hv92⟩ := own_form hr9
          rw [HKT9.out] at hv9 hr9 hv91
          have hgvl := HTR9.out.vec.lt
          have hgtl := HTR9.out.tr.lt
          have hbase9 : base ≤ u1.heap.size := by have := HSM9.out.size; omega
          have hgtv : (Value.slice A9 (kt + 1) c9).ownBlock ≠ some gt := fun e => HTR9.out.trD ((HTR9.out.own q _ gt hv9 e).1)
          have hgvv : (Value.slice A9 (kt + 1) c9).ownBlock ≠ some gv := fun e => (HTR9.out.own q _ gv hv9 e).2.1 rfl
          have z1 : ∀ wx, TrY (.slice A9 (kt + 1) c9) u1 wx → wx.cell? ⟨gt, 1, none⟩ = some (.slice (some ⟨gv, 0, none⟩) n n) := fun wx hx => by rw [(Same.blk hx HTR9.out.tr ⟨hgtl, hgtv⟩).cell]; rfl
          have z2 : ∀ wx, TrY (.slice A9 (kt + 1) c9) u1 wx → wx.cell? ⟨gv, q, none⟩ = some (.slice A9 (kt + 1) c9) := fun wx hx => by rw [(Same.blk hx HTR9.out.vec ⟨hgvl, hgvv⟩).cell, List.getElem?_toArray]; exact hv9
          have hxl9 : xs9.length = kt + 1 := by have := hr9.1; omega
          have HV9 := Lib.hid hv9
          have HR9 := Lib.hid hr9
          have HXS9 := Lib.hid hxs9
          clear hv9 hr9 hxs9
          go_upto_region 16 with fail
          refine wp_region_L 16 (fun wx => TrY (.slice A9 (kt + 1) c9) u1 wx) (fun _ => True) (by kernel_rfl) (Same.drew (Same.refl _ _)) trivial (fun hA hB => ?_)
          have hku : Keep u1 u1.drew := Same.drew (Same.refl _ _)
          generalize hu0 : u1.drew = u0 at hA hku ⊢
          clear hu0
          refine wpL_takeA (i := 0) (v := ?_) rfl (by kernel_rfl) (by kernel_rfl) (by kernel_rfl) (by kernel_rfl) (by decide) (fun _ _ _ h => h) (Or.inl ⟨by rfl, ?_⟩) hA hB ?_
          rotate_left
          · rintro wx ⟨hAx, hBx⟩
            (try dsimp only at hBx); (try dsimp only at hAx)
            go_simp
            try with_reducible rfl
          try simp only [Act.put, List.setIfInBounds_toArray, List.set_cons_zero, List.set_cons_succ]
          refine wpL_takeA (i := 1) (v := ?_) rfl (by kernel_rfl) (by kernel_rfl) (by kernel_rfl) (by kernel_rfl) (by decide) (fun _ _ _ h => h) (Or.inl ⟨by rfl, ?_⟩) hA hB ?_
          rotate_left
          · rintro wx ⟨hAx, hBx⟩
            (try dsimp only at hBx); (try dsimp only at hAx)
            go_simp
            try with_reducible rfl
          try simp only [Act.put, List.setIfInBounds_toArray, List.set_cons_zero, List.set_cons_succ]
          refine wpL_takeA (i := 2) (v := ?_) rfl (by kernel_rfl) (by kernel_rfl) (by kernel_rfl) (by kernel_rfl) (by decide) (fun _ _ _ h => h) (Or.inl ⟨by rfl, ?_⟩) hA hB ?_
          rotate_left
          · rintro wx ⟨hAx, hBx⟩
            (try dsimp only at hBx); (try dsimp only at hAx)
            go_simp
            try with_reducible rfl
          try simp only [Act.put, List.setIfInBounds_toArray, List.set_cons_zero, List.set_cons_succ]
          refine wpL_takeA (i := 3) (v := ?_) rfl (by kernel_rfl) (by kernel_rfl) (by kernel_rfl) (by kernel_rfl) (by decide) (fun _ _ _ h => h) (Or.inl ⟨by rfl, ?_⟩) hA hB ?_
          rotate_left
          · rintro wx ⟨hAx, hBx⟩
            (try dsimp only at hBx); (try dsimp only at hAx)
            go_simp
            try with_reducible rfl
          try simp only [Act.put, List.setIfInBounds_toArray, List.set_cons_zero, List.set_cons_succ]
          refine wpL_takeA (i := 4) (v := ?_) rfl (by kernel_rfl) (by kernel_rfl) (by kernel_rfl) (by kernel_rfl) (by decide) (fun _ _ _ h => h) (Or.inl ⟨by rfl, ?_⟩) hA hB ?_
          rotate_left
          · rintro wx ⟨hAx, hBx⟩
            (try dsimp only at hBx); (try dsimp only at hAx)
            go_simp
            try with_reducible rfl
          try simp only [Act.put, List.setIfInBounds_toArray, List.set_cons_zero, List.set_cons_succ]
          refine wpL_takeA (i := 5) (v := ?_) rfl (by kernel_rfl) (by kernel_rfl) (by kernel_rfl) (by kernel_rfl) (by decide) (fun _ _ _ h => h) (Or.inl ⟨by rfl, ?_⟩) hA hB ?_
          rotate_left
          · rintro wx ⟨hAx, hBx⟩
            (try dsimp only at hBx); (try dsimp only at hAx)
            go_simp
            try with_reducible rfl
          try simp only [Act.put, List.setIfInBounds_toArray, List.set_cons_zero, List.set_cons_succ]
          refine wpL_takeA (i := 6) (v := ?_) rfl (by kernel_rfl) (by kernel_rfl) (by kernel_rfl) (by kernel_rfl) (by decide) (fun _ _ _ h => h) (Or.inl ⟨by rfl, ?_⟩) hA hB ?_
          rotate_left
          · rintro wx ⟨hAx, hBx⟩
            (try dsimp only at hBx); (try dsimp only at hAx)
            go_simp
            try with_reducible rfl
          try simp only [Act.put, List.setIfInBounds_toArray, List.set_cons_zero, List.set_cons_succ]
          refine wpL_takeA (i := 7) (v := ?_) rfl (by kernel_rfl) (by kernel_rfl) (by kernel_rfl) (by kernel_rfl) (by decide) (fun _ _ _ h => h) (Or.inl ⟨by rfl, ?_⟩) hA hB ?_
          rotate_left
          · rintro wx ⟨hAx, hBx⟩
            (try dsimp only at hBx); (try dsimp only at hAx)
            go_simp
            try with_reducible rfl
          try simp only [Act.put, List.setIfInBounds_toArray, List.set_cons_zero, List.set_cons_succ]
          refine wpL_takeA (i := 8) (v := ?_) rfl (by kernel_rfl) (by kernel_rfl) (by kernel_rfl) (by kernel_rfl) (by decide) (fun _ _ _ h => h) (Or.inl ⟨by rfl, ?_⟩) hA hB ?_
          rotate_left
          · rintro wx ⟨hAx, hBx⟩
            (try dsimp only at hBx); (try dsimp only at hAx)
            go_simp
            try with_reducible rfl
          try simp only [Act.put, List.setIfInBounds_toArray, List.set_cons_zero, List.set_cons_succ]
          refine wpL_takeA (i := 9) (v := ?_) rfl (by kernel_rfl) (by kernel_rfl) (by kernel_rfl) (by kernel_rfl) (by decide) (fun _ _ _ h => h) (Or.inl ⟨by rfl, ?_⟩) hA hB ?_
          rotate_left
          · rintro wx ⟨hAx, hBx⟩
            (try dsimp only at hBx); (try dsimp only at hAx)
            go_simp
            try with_reducible rfl
          try simp only [Act.put, List.setIfInBounds_toArray, List.set_cons_zero, List.set_cons_succ]
          refine wpL_takeA (i := 10) (v := ?_) rfl (by kernel_rfl) (by kernel_rfl) (by kernel_rfl) (by kernel_rfl) (by decide) (fun _ _ _ h => h) (Or.inl ⟨by rfl, ?_⟩) hA hB ?_
          rotate_left
          · rintro wx ⟨hAx, hBx⟩
            (try dsimp only at hBx); (try dsimp only at hAx)
            go_simp
            try with_reducible rfl
          try simp only [Act.put, List.setIfInBounds_toArray, List.set_cons_zero, List.set_cons_succ]
          refine wpL_takeA (i := 11) (v := ?_) rfl (by kernel_rfl) (by kernel_rfl) (by kernel_rfl) (by kernel_rfl) (by decide) (fun _ _ _ h => h) (Or.inl ⟨by rfl, ?_⟩) hA hB ?_
          rotate_left
          · rintro wx ⟨hAx, hBx⟩
            (try dsimp only at hBx); (try dsimp only at hAx)
            go_simp
            try with_reducible rfl
          try simp only [Act.put, List.setIfInBounds_toArray, List.set_cons_zero, List.set_cons_succ]
          refine wpL_takeA (i := 12) (v := ?_) rfl (by kernel_rfl) (by kernel_rfl) (by kernel_rfl) (by kernel_rfl) (by decide) (fun _ _ _ h => h) (Or.inl ⟨by rfl, ?_⟩) hA hB ?_
          rotate_left
          · rintro wx ⟨hAx, hBx⟩
            (try dsimp only at hBx); (try dsimp only at hAx)
            go_simp
            try with_reducible rfl
          try simp only [Act.put, List.setIfInBounds_toArray, List.set_cons_zero, List.set_cons_succ]
          refine wpL_one (i := 13) (by kernel_rfl) (StepL.mk rfl (fun K hK => ?_))
          refine step_buildS rfl _ _ _ _ rfl Try.underlying78 _ [(0, .slice (some ⟨g, 0, none⟩) n n)] rfl (builtS_labs _ _ _) ?_
          have hkb : Keep u0 (u0.alloc (.cells #[.slice (some ⟨g, 0, none⟩) n n] 77)) := Keep.new _ _
          have hrd := Reads.new (w := u0) (e := 77) (cs := [.slice (some ⟨g, 0, none⟩) n n]) (size := 1) (n := 1) rfl
          have hA9 : TrY (.slice A9 (kt + 1) c9) u1 (u0.alloc (.cells #[.slice (some ⟨g, 0, none⟩) n n] 77)) := Same.trans hA hkb (fun i hi => by have := hku.size; have := hi.1; omega)
          refine hK.out _ _ (SAB.both hA9 trivial) (fun hSS => ?_)
          clear hK K hA hB
          have hB := hSS.2
          have hA := hSS.1 (by kernel_rfl)
          (try dsimp only at hB); (try dsimp only at hA); clear hSS
          try simp only [Act.put, List.setIfInBounds_toArray, List.set_cons_zero, List.set_cons_succ]
          generalize hu2 : u0.alloc (.cells #[.slice (some ⟨g, 0, none⟩) n n] 77) = u2 at *
          have hk92 : Keep u1 u2 := Keep.trans hku hkb
          have hz92 := hk92.size
          have htr92 := HTR9.out.keep hk92
          have hr92 := ownsRow_same HR9.out hk92 (fun i hi => hi.2)
          have hxs92 : ∀ y ∈ xs9, VecR u2 D2 n y := fun y hy => (HXS9.out y hy).keep (hk92.mono (fun i hi => hi.1)) (fun i hi => .inl hi)
          have hx92 : VecR u2 D2 n (.slice (some ⟨g, 0, none⟩) n n) := HX.out.keep (hk92.mono (fun i hi => hi.1)) (fun i hi => .inl hi)
          have hsm92 : Same (fun i => i < w.heap.size ∧ ¬ D i) w u2 := Same.trans HSM9.out hk92 (fun i hi => by have := HSM9.out.size; omega)
          have hlr92 := HLR9.out.keep (hk92.mono (fun i hi => by have := HS.out i hi; omega)) (EvsR.keep (hk92.mono (fun i hi => by have := HS.out i hi; omega)))
          refine wpL_one (i := 14) (by kernel_rfl) (StepL.mk rfl (fun K hK => ?_))
          refine step_append_any _ (by rfl) (.tmp 113) (.tmp 115) _ (by rfl) base 77 iL _ 1 24 Try.underlying78 HI0.out IZ0.out IS0.out IB0.out rfl (by omega) (.slice A9 (kt + 1) c9) (kt + 1) xs9 (by rfl) hr92 _ (some ⟨u0.heap.size, 0, none⟩) 1 1 [.slice (some ⟨g, 0, none⟩) n n] (by rfl) hrd (by intro u hu; simp at hu; subst hu; rfl) (by simp [maxLen]; omega) (by omega) (by omega) ?_
          intro vb wb hownb hgb' hatb
          obtain ⟨Ab, cb, hvb, hnb, hcb⟩ := own_form hownb
          subst hvb
          have hG : Same (fun i => i < u2.heap.size ∧ (Value.slice A9 (kt + 1) c9).ownBlock ≠ some i) u2 wb := Same.grown (Same.refl _ _) hgb' (fun i hi => hi.1) (fun k hk hh => hh.2 hk)
          have hAb : TrY (.slice A9 (kt + 1) c9) u1 wb := Same.trans hA9 hG (fun i hi => ⟨by have := hi.1; omega, hi.2⟩)
          have hblk9 := hG.blk htr92.vec ⟨htr92.vec.lt, hgvv⟩
          refine hK.out _ _ (SAB.both hAb trivial) (fun hSS => ?_)
          clear hK K hA hB
          have hB := hSS.2
          have hA := hSS.1 (by kernel_rfl)
          (try dsimp only at hB); (try dsimp only at hA); clear hSS
          try simp only [Act.put, List.setIfInBounds_toArray, List.set_cons_zero, List.set_cons_succ]
          refine wpL_takeA (i := 15) (v := ?_) rfl (by kernel_rfl) (by kernel_rfl) (by kernel_rfl) (by kernel_rfl) (by decide) (fun _ _ _ h => h) (Or.inl ⟨by rfl, ?_⟩) hA hB ?_
          rotate_left
          · rintro wx ⟨hAx, hBx⟩
            (try dsimp only at hBx); (try dsimp only at hAx)
            go_simp
            try with_reducible rfl
          try simp only [Act.put, List.setIfInBounds_toArray, List.set_cons_zero, List.set_cons_succ]
          clear z1 z2
          refine wpL_one (i := 16) (by kernel_rfl) (StepL.mk rfl (fun K hK => ?_))
          refine step_store_one rfl _ _ _ rfl gv q 78 _ (.slice Ab (kt + 1 + 1) cb) rfl rfl hblk9 (by rw [List.size_toArray, htr92.vlen]; exact hqn) (by kernel_rfl) rfl rfl ?_
          intro wz hbz hsz
          have hpush := htr92.push hqn HV9.out (by rw [HKT9.out]; exact hr92) hxs92 hx92 (by rw [HKT9.out]; exact hownb) hgb' hatb (by simpa using hbz) hsz (by omega)
          rw [HKT9.out] at hpush
          have hDq : ∀ i, (Value.slice A9 (kt + 1) c9).ownBlock = some i → D2 i := fun i e => (HTR9.out.own q _ i HV9.out e).1
          have hdw : ∀ i, D2 i → D i ∨ w.heap.size ≤ i := HDN.out
          have hnew : ∀ i, (Value.slice Ab (kt + 1 + 1) cb).ownBlock = some i → D i ∨ w.heap.size ≤ i := fun i e => by
            rcases hatb with h3 | h3
            · exact hdw i (hDq i (by rw [← h3]; exact e))
            · rw [h3] at e; injection e with e; have := HSM9.out.size; omega
          have hsm93 : Same (fun i => i < w.heap.size ∧ ¬ D i) w wb := Same.trans hsm92 hG (fun i hi => ⟨by have := hsm92.size; omega, fun e => (hdw i (hDq i e)).elim hi.2 (fun h => by omega)⟩)
          have hsmz : Same (fun i => i < w.heap.size ∧ ¬ D i) w wz := Same.trans hsm93 hsz (fun i hi e => hi.2 (e ▸ HTR.out.dv))
          have hrkz := (HRK2.out).push (q := q) (by rw [HTR9.out.clen]; exact hqn) (by rw [HKT9.out]; omega) HPSH.out
          rw [HKT9.out] at hrkz
          have hqc9 : q < (cs2).length := by rw [HTR9.out.clen]; exact hqn
          have f1 : ∀ i, (D2 i ∨ (Value.slice Ab (kt + 1 + 1) cb).ownBlock = some i) → D i ∨ w.heap.size ≤ i := fun i hi => hi.elim (hdw i) (hnew i)
          have f2 : ∀ p, cs.getD p 0 ≤ ((cs2).set q (kt + 1 + 1)).getD p 0 := fun p => by
            by_cases e : q = p
            · subst e
              rw [getD_setN hqc9]
              have := HCL2.out q
              have h2 := HKT9.out
              omega
            · rw [getD_setM e]
              exact HCL2.out p
          have f3 : ∀ p, p ≠ q → ow.getD p false = true → ((cs2).set q (kt + 1 + 1)).getD p 0 = cs.getD p 0 := fun p hp ho => by
            rw [getD_setM (fun e => hp e.symm)]
            exact HCE2'.out p hp ho
          have f4 : Bd l ((cs2).set q (kt + 1 + 1)) := ⟨by rw [List.length_set]; exact (HBD2.out).1, fun p hp => by
            by_cases e : q = p
            · subst e
              rw [getD_setN hqc9]
              omega
            · rw [getD_setM e]
              exact (HBD2.out).2 p hp⟩
          have hfin : RchL l base gt gv go n (some ⟨c0, o0, none⟩) cA D cs ow q k w (.int .i64 ((kt : Int) + 1 + 1)) wz := ⟨kt + 1, _, _, _, by go_num, getD_setN hqc9, by omega, hpush, fun i hi => .inl (HDD.out i hi), f1, hsmz, f2, f3, hrkz, f4⟩
          refine hK.out _ _ (SAB.past (by kernel_rfl) trivial) (fun hSS => ?_)
          clear hK K hA hB
          have hB := hSS.2
          have hA : True := trivial
          (try dsimp only at hB); (try dsimp only at hA); clear hSS
          try simp only [Act.put, List.setIfInBounds_toArray, List.set_cons_zero, List.set_cons_succ]
          refine wpL_done (by kernel_rfl) ?_
          have HFIN := Lib.hid hfin
          clear hfin
          clear f1 f2 f3 f4 hsm93 hA hB hpush hbz hsz hsmz hrkz hblk9 hAb hG hownb hgb' hatb hr92 htr92 hxs92 hx92 hsm92 hlr92 hA9 hrd hkb hku hu2 hnew hdw hDq hk92
          go_wp2_with fail
          go_roundw
          case rel => exact HFIN.out
          case measure => simp [intOf]; omega
      · have t1 : (ev.kind == 1) = false := by simpa using hek
        have hpsh : ∀ e : Ev, (l.getD q [])[cs1.getD q 0 - 1]? = some e → e.kind = 1 → 1 ≤ e.sIdx → e.frm.toNat ≠ q ∧ e.sIdx.toNat ≤ cs1.getD e.frm.toNat 0 - 1 := fun e he hk _ => by
          rw [HKT.out, Nat.add_sub_cancel, HEV.out] at he
          injection he with he
          subst he
          exact absurd hk hek
        have hx : VecR w7 D1 n (.slice (some ⟨g9, 0, none⟩) n cy) := ⟨_, _, _, rfl, HY7'.out⟩
        have hlow1 := HTR7.out.low
        clear HY7'
        have HPSH := Lib.hid hpsh
        have HX := Lib.hid hx
        clear hpsh hx
        clear hek HB77
        obtain ⟨vq, xs9, hv9, hr9, hxs9⟩ := HTR7.out.get hqn
        obtain ⟨A9, c9, rfl, hv91, hv92⟩ := own_form hr9
        rw [HKT.out] at hv9 hr9 hv91
        have hgvl := HTR7.out.vec.lt
        have hgtl := HTR7.out.tr.lt
        have hbase9 : base ≤ w7.heap.size := by have := HSM7.out.size; omega
        have hgtv : (Value.slice A9 (kt + 1) c9).ownBlock ≠ some gt := fun e => HTR7.out.trD ((HTR7.out.own q _ gt hv9 e).1)
        have hgvv : (Value.slice A9 (kt + 1) c9).ownBlock ≠ some gv := fun e => (HTR7.out.own q _ gv hv9 e).2.1 rfl
        have z1 : ∀ wx, TrY (.slice A9 (kt + 1) c9) w7 wx → wx.cell? ⟨gt, 1, none⟩ = some (.slice (some ⟨gv, 0, none⟩) n n) := fun wx hx => by rw [(Same.blk hx HTR7.out.tr ⟨hgtl, hgtv⟩).cell]; rfl
        have z2 : ∀ wx, TrY (.slice A9 (kt + 1) c9) w7 wx → wx.cell? ⟨gv, q, none⟩ = some (.slice A9 (kt + 1) c9) := fun wx hx => by rw [(Same.blk hx HTR7.out.vec ⟨hgvl, hgvv⟩).cell, List.getElem?_toArray]; exact hv9
        have hxl9 : xs9.length = kt + 1 := by have := hr9.1; omega
        have HV9 := Lib.hid hv9
        have HR9 := Lib.hid hr9
        have HXS9 := Lib.hid hxs9
        clear hv9 hr9 hxs9
        go_upto_region 16 with fail
        refine wp_region_L 16 (fun wx => TrY (.slice A9 (kt + 1) c9) w7 wx) (fun _ => True) (by kernel_rfl) (Same.drew (Same.refl _ _)) trivial (fun hA hB => ?_)
        have hku : Keep w7 w7.drew := Same.drew (Same.refl _ _)
        generalize hu0 : w7.drew = u0 at hA hku ⊢
        clear hu0
        refine wpL_takeA (i := 0) (v := ?_) rfl (by kernel_rfl) (by kernel_rfl) (by kernel_rfl) (by kernel_rfl) (by decide) (fun _ _ _ h => h) (Or.inl ⟨by rfl, ?_⟩) hA hB ?_
        rotate_left
        · rintro wx ⟨hAx, hBx⟩
          (try dsimp only at hBx); (try dsimp only at hAx)
          go_simp
          try with_reducible rfl
        try simp only [Act.put, List.setIfInBounds_toArray, List.set_cons_zero, List.set_cons_succ]
        refine wpL_takeA (i := 1) (v := ?_) rfl (by kernel_rfl) (by kernel_rfl) (by kernel_rfl) (by kernel_rfl) (by decide) (fun _ _ _ h => h) (Or.inl ⟨by rfl, ?_⟩) hA hB ?_
        rotate_left
        · rintro wx ⟨hAx, hBx⟩
          (try dsimp only at hBx); (try dsimp only at hAx)
          go_simp
          try with_reducible rfl
        try simp only [Act.put, List.setIfInBounds_toArray, List.set_cons_zero, List.set_cons_succ]
        refine wpL_takeA (i := 2) (v := ?_) rfl (by kernel_rfl) (by kernel_rfl) (by kernel_rfl) (by kernel_rfl) (by decide) (fun _ _ _ h => h) (Or.inl ⟨by rfl, ?_⟩) hA hB ?_
        rotate_left
        · rintro wx ⟨hAx, hBx⟩
          (try dsimp only at hBx); (try dsimp only at hAx)
          go_simp
          try with_reducible rfl
        try simp only [Act.put, List.setIfInBounds_toArray, List.set_cons_zero, List.set_cons_succ]
        refine wpL_takeA (i := 3) (v := ?_) rfl (by kernel_rfl) (by kernel_rfl) (by kernel_rfl) (by kernel_rfl) (by decide) (fun _ _ _ h => h) (Or.inl ⟨by rfl, ?_⟩) hA hB ?_
        rotate_left
        · rintro wx ⟨hAx, hBx⟩
          (try dsimp only at hBx); (try dsimp only at hAx)
          go_simp
          try with_reducible rfl
        try simp only [Act.put, List.setIfInBounds_toArray, List.set_cons_zero, List.set_cons_succ]
        refine wpL_takeA (i := 4) (v := ?_) rfl (by kernel_rfl) (by kernel_rfl) (by kernel_rfl) (by kernel_rfl) (by decide) (fun _ _ _ h => h) (Or.inl ⟨by rfl, ?_⟩) hA hB ?_
        rotate_left
        · rintro wx ⟨hAx, hBx⟩
          (try dsimp only at hBx); (try dsimp only at hAx)
          go_simp
          try with_reducible rfl
        try simp only [Act.put, List.setIfInBounds_toArray, List.set_cons_zero, List.set_cons_succ]
        refine wpL_takeA (i := 5) (v := ?_) rfl (by kernel_rfl) (by kernel_rfl) (by kernel_rfl) (by kernel_rfl) (by decide) (fun _ _ _ h => h) (Or.inl ⟨by rfl, ?_⟩) hA hB ?_
        rotate_left
        · rintro wx ⟨hAx, hBx⟩
          (try dsimp only at hBx); (try dsimp only at hAx)
          go_simp
          try with_reducible rfl
        try simp only [Act.put, List.setIfInBounds_toArray, List.set_cons_zero, List.set_cons_succ]
        refine wpL_takeA (i := 6) (v := ?_) rfl (by kernel_rfl) (by kernel_rfl) (by kernel_rfl) (by kernel_rfl) (by decide) (fun _ _ _ h => h) (Or.inl ⟨by rfl, ?_⟩) hA hB ?_
        rotate_left
        · rintro wx ⟨hAx, hBx⟩
          (try dsimp only at hBx); (try dsimp only at hAx)
          go_simp
          try with_reducible rfl
        try simp only [Act.put, List.setIfInBounds_toArray, List.set_cons_zero, List.set_cons_succ]
        refine wpL_takeA (i := 7) (v := ?_) rfl (by kernel_rfl) (by kernel_rfl) (by kernel_rfl) (by kernel_rfl) (by decide) (fun _ _ _ h => h) (Or.inl ⟨by rfl, ?_⟩) hA hB ?_
        rotate_left
        · rintro wx ⟨hAx, hBx⟩
          (try dsimp only at hBx); (try dsimp only at hAx)
          go_simp
          try with_reducible rfl
        try simp only [Act.put, List.setIfInBounds_toArray, List.set_cons_zero, List.set_cons_succ]
        refine wpL_takeA (i := 8) (v := ?_) rfl (by kernel_rfl) (by kernel_rfl) (by kernel_rfl) (by kernel_rfl) (by decide) (fun _ _ _ h => h) (Or.inl ⟨by rfl, ?_⟩) hA hB ?_
        rotate_left
        · rintro wx ⟨hAx, hBx⟩
          (try dsimp only at hBx); (try dsimp only at hAx)
          go_simp
          try with_reducible rfl
        try simp only [Act.put, List.setIfInBounds_toArray, List.set_cons_zero, List.set_cons_succ]
        refine wpL_takeA (i := 9) (v := ?_) rfl (by kernel_rfl) (by kernel_rfl) (by kernel_rfl) (by kernel_rfl) (by decide) (fun _ _ _ h => h) (Or.inl ⟨by rfl, ?_⟩) hA hB ?_
        rotate_left
        · rintro wx ⟨hAx, hBx⟩
          (try dsimp only at hBx); (try dsimp only at hAx)
          go_simp
          try with_reducible rfl
        try simp only [Act.put, List.setIfInBounds_toArray, List.set_cons_zero, List.set_cons_succ]
        refine wpL_takeA (i := 10) (v := ?_) rfl (by kernel_rfl) (by kernel_rfl) (by kernel_rfl) (by kernel_rfl) (by decide) (fun _ _ _ h => h) (Or.inl ⟨by rfl, ?_⟩) hA hB ?_
        rotate_left
        · rintro wx ⟨hAx, hBx⟩
          (try dsimp only at hBx); (try dsimp only at hAx)
          go_simp
          try with_reducible rfl
        try simp only [Act.put, List.setIfInBounds_toArray, List.set_cons_zero, List.set_cons_succ]
        refine wpL_takeA (i := 11) (v := ?_) rfl (by kernel_rfl) (by kernel_rfl) (by kernel_rfl) (by kernel_rfl) (by decide) (fun _ _ _ h => h) (Or.inl ⟨by rfl, ?_⟩) hA hB ?_
        rotate_left
        · rintro wx ⟨hAx, hBx⟩
          (try dsimp only at hBx); (try dsimp only at hAx)
          go_simp
          try with_reducible rfl
        try simp only [Act.put, List.setIfInBounds_toArray, List.set_cons_zero, List.set_cons_succ]
        refine wpL_takeA (i := 12) (v := ?_) rfl (by kernel_rfl) (by kernel_rfl) (by kernel_rfl) (by kernel_rfl) (by decide) (fun _ _ _ h => h) (Or.inl ⟨by rfl, ?_⟩) hA hB ?_
        rotate_left
        · rintro wx ⟨hAx, hBx⟩
          (try dsimp only at hBx); (try dsimp only at hAx)
          go_simp
          try with_reducible rfl
        try simp only [Act.put, List.setIfInBounds_toArray, List.set_cons_zero, List.set_cons_succ]
        refine wpL_one (i := 13) (by kernel_rfl) (StepL.mk rfl (fun K hK => ?_))
        refine step_buildS rfl _ _ _ _ rfl Try.underlying78 _ [(0, .slice (some ⟨g9, 0, none⟩) n cy)] rfl (builtS_labs _ _ _) ?_
        have hkb : Keep u0 (u0.alloc (.cells #[.slice (some ⟨g9, 0, none⟩) n cy] 77)) := Keep.new _ _
        have hrd := Reads.new (w := u0) (e := 77) (cs := [.slice (some ⟨g9, 0, none⟩) n cy]) (size := 1) (n := 1) rfl
        have hA9 : TrY (.slice A9 (kt + 1) c9) w7 (u0.alloc (.cells #[.slice (some ⟨g9, 0, none⟩) n cy] 77)) := Same.trans hA hkb (fun i hi => by have := hku.size; have := hi.1; omega)
        refine hK.out _ _ (SAB.both hA9 trivial) (fun hSS => ?_)
        clear hK K hA hB
        have hB := hSS.2
        have hA := hSS.1 (by kernel_rfl)
        (try dsimp only at hB); (try dsimp only at hA); clear hSS
        try simp only [Act.put, List.setIfInBounds_toArray, List.set_cons_zero, List.set_cons_succ]
        generalize hu2 : u0.alloc (.cells #[.slice (some ⟨g9, 0, none⟩) n cy] 77) = u2 at *
        have hk92 : Keep w7 u2 := Keep.trans hku hkb
        have hz92 := hk92.size
        have htr92 := HTR7.out.keep hk92
        have hr92 := ownsRow_same HR9.out hk92 (fun i hi => hi.2)
        have hxs92 : ∀ y ∈ xs9, VecR u2 D1 n y := fun y hy => (HXS9.out y hy).keep (hk92.mono (fun i hi => hi.1)) (fun i hi => .inl hi)
        have hx92 : VecR u2 D1 n (.slice (some ⟨g9, 0, none⟩) n cy) := HX.out.keep (hk92.mono (fun i hi => hi.1)) (fun i hi => .inl hi)
        have hsm92 : Same (fun i => i < w.heap.size ∧ ¬ D i) w u2 := Same.trans HSM7.out hk92 (fun i hi => by have := HSM7.out.size; omega)
        have hlr92 := HLR7.out.keep (hk92.mono (fun i hi => by have := HS.out i hi; omega)) (EvsR.keep (hk92.mono (fun i hi => by have := HS.out i hi; omega)))
        refine wpL_one (i := 14) (by kernel_rfl) (StepL.mk rfl (fun K hK => ?_))
        refine step_append_any _ (by rfl) (.tmp 113) (.tmp 115) _ (by rfl) base 77 iL _ 1 24 Try.underlying78 HI0.out IZ0.out IS0.out IB0.out rfl (by omega) (.slice A9 (kt + 1) c9) (kt + 1) xs9 (by rfl) hr92 _ (some ⟨u0.heap.size, 0, none⟩) 1 1 [.slice (some ⟨g9, 0, none⟩) n cy] (by rfl) hrd (by intro u hu; simp at hu; subst hu; rfl) (by simp [maxLen]; omega) (by omega) (by omega) ?_
        intro vb wb hownb hgb' hatb
        obtain ⟨Ab, cb, hvb, hnb, hcb⟩ := own_form hownb
        subst hvb
        have hG : Same (fun i => i < u2.heap.size ∧ (Value.slice A9 (kt + 1) c9).ownBlock ≠ some i) u2 wb := Same.grown (Same.refl _ _) hgb' (fun i hi => hi.1) (fun k hk hh => hh.2 hk)
        have hAb : TrY (.slice A9 (kt + 1) c9) w7 wb := Same.trans hA9 hG (fun i hi => ⟨by have := hi.1; omega, hi.2⟩)
        have hblk9 := hG.blk htr92.vec ⟨htr92.vec.lt, hgvv⟩
        refine hK.out _ _ (SAB.both hAb trivial) (fun hSS => ?_)
        clear hK K hA hB
        have hB := hSS.2
        have hA := hSS.1 (by kernel_rfl)
        (try dsimp only at hB); (try dsimp only at hA); clear hSS
        try simp only [Act.put, List.setIfInBounds_toArray, List.set_cons_zero, List.set_cons_succ]
        refine wpL_takeA (i := 15) (v := ?_) rfl (by kernel_rfl) (by kernel_rfl) (by kernel_rfl) (by kernel_rfl) (by decide) (fun _ _ _ h => h) (Or.inl ⟨by rfl, ?_⟩) hA hB ?_
        rotate_left
        · rintro wx ⟨hAx, hBx⟩
          (try dsimp only at hBx); (try dsimp only at hAx)
          go_simp
          try with_reducible rfl
        try simp only [Act.put, List.setIfInBounds_toArray, List.set_cons_zero, List.set_cons_succ]
        clear z1 z2
        refine wpL_one (i := 16) (by kernel_rfl) (StepL.mk rfl (fun K hK => ?_))
        refine step_store_one rfl _ _ _ rfl gv q 78 _ (.slice Ab (kt + 1 + 1) cb) rfl rfl hblk9 (by rw [List.size_toArray, htr92.vlen]; exact hqn) (by kernel_rfl) rfl rfl ?_
        intro wz hbz hsz
        have hpush := htr92.push hqn HV9.out (by rw [HKT.out]; exact hr92) hxs92 hx92 (by rw [HKT.out]; exact hownb) hgb' hatb (by simpa using hbz) hsz (by omega)
        rw [HKT.out] at hpush
        have hDq : ∀ i, (Value.slice A9 (kt + 1) c9).ownBlock = some i → D1 i := fun i e => (HTR7.out.own q _ i HV9.out e).1
        have hdw : ∀ i, D1 i → D i ∨ w.heap.size ≤ i := HD1N.out
        have hnew : ∀ i, (Value.slice Ab (kt + 1 + 1) cb).ownBlock = some i → D i ∨ w.heap.size ≤ i := fun i e => by
          rcases hatb with h3 | h3
          · exact hdw i (hDq i (by rw [← h3]; exact e))
          · rw [h3] at e; injection e with e; have := HSM7.out.size; omega
        have hsm93 : Same (fun i => i < w.heap.size ∧ ¬ D i) w wb := Same.trans hsm92 hG (fun i hi => ⟨by have := hsm92.size; omega, fun e => (hdw i (hDq i e)).elim hi.2 (fun h => by omega)⟩)
        have hsmz : Same (fun i => i < w.heap.size ∧ ¬ D i) w wz := Same.trans hsm93 hsz (fun i hi e => hi.2 (e ▸ HTR.out.dv))
        have hrkz := (HRK1.out).push (q := q) (by rw [HTR7.out.clen]; exact hqn) (by rw [HKT.out]; omega) HPSH.out
        rw [HKT.out] at hrkz
        have hqc9 : q < (cs1).length := by rw [HTR7.out.clen]; exact hqn
        have f1 : ∀ i, (D1 i ∨ (Value.slice Ab (kt + 1 + 1) cb).ownBlock = some i) → D i ∨ w.heap.size ≤ i := fun i hi => hi.elim (hdw i) (hnew i)
        have f2 : ∀ p, cs.getD p 0 ≤ ((cs1).set q (kt + 1 + 1)).getD p 0 := fun p => by
          by_cases e : q = p
          · subst e
            rw [getD_setN hqc9]
            have := HCLE.out q
            have h2 := HKT.out
            omega
          · rw [getD_setM e]
            exact HCLE.out p
        have f3 : ∀ p, p ≠ q → ow.getD p false = true → ((cs1).set q (kt + 1 + 1)).getD p 0 = cs.getD p 0 := fun p hp ho => by
          rw [getD_setM (fun e => hp e.symm)]
          exact HCEQ.out p hp ho
        have f4 : Bd l ((cs1).set q (kt + 1 + 1)) := ⟨by rw [List.length_set]; exact (HBD1.out).1, fun p hp => by
          by_cases e : q = p
          · subst e
            rw [getD_setN hqc9]
            omega
          · rw [getD_setM e]
            exact (HBD1.out).2 p hp⟩
        have hfin : RchL l base gt gv go n (some ⟨c0, o0, none⟩) cA D cs ow q k w (.int .i64 ((kt : Int) + 1 + 1)) wz := ⟨kt + 1, _, _, _, by go_num, getD_setN hqc9, by omega, hpush, fun i hi => .inl (HD1.out i hi), f1, hsmz, f2, f3, hrkz, f4⟩
        refine hK.out _ _ (SAB.past (by kernel_rfl) trivial) (fun hSS => ?_)
        clear hK K hA hB
        have hB := hSS.2
        have hA : True := trivial
        (try dsimp only at hB); (try dsimp only at hA); clear hSS
        try simp only [Act.put, List.setIfInBounds_toArray, List.set_cons_zero, List.set_cons_succ]
        refine wpL_done (by kernel_rfl) ?_
        have HFIN := Lib.hid hfin
        clear hfin
        clear f1 f2 f3 f4 hsm93 hA hB hpush hbz hsz hsmz hrkz hblk9 hAb hG hownb hgb' hatb hr92 htr92 hxs92 hx92 hsm92 hlr92 hA9 hrd hkb hku hu2 hnew hdw hDq hk92
        go_wp2_with fail
        go_roundw
        case rel => exact HFIN.out
        case measure => simp [intOf]; omega
    · have u0 : decide ((kt : Int) + 1 ≤ (k : Int)) = false := by simp; omega
      have hfl1 : q < (flags (ow.set q true)).size := by simp [flags]; rw [HTR.out.olen]; exact hqn
      have hgo1 := htr1.flg
      have HGO1 := Lib.hid hgo1
      have HTR1 := Lib.hid htr1
      have HD1 := Lib.hid hD1
      have HD1N := Lib.hid hD1n
      have HSM := Lib.hid hsm
      have HCLE := Lib.hid hcle
      have HCEQ := Lib.hid hceq
      have HRK1 := Lib.hid hrk1
      have HBD1 := Lib.hid hbd1
      have HKT := Lib.hid hkt
      clear hgo1 htr1 hD1 hD1n hsm hcle hceq hrk1 hbd1 hkt
      go_wp2_with (refine wpList_store_one rfl _ (.tmp 123) (.const (.bool false)) rfl go q 4 _ (.bool false) rfl rfl HGO1.out hfl1 (by kernel_rfl) rfl rfl ?_; intro w9 hb9 hs9)
      go_ret
      have htr9 := HTR1.out.flag hb9 hs9
      rw [set_back HOQ.out.symm] at htr9
      refine ⟨true, rfl, Same.trans HSM.out hs9 (fun i hi e => hi.2 (e ▸ HTR.out.dg)), fun _ => ⟨D1, vs1, cs1, htr9, HD1.out, HD1N.out, ⟨by rw [htr9.clen, HTR.out.clen], HCLE.out, fun p hp => HCEQ.out p (fun e => by subst e; rw [← HOQ.out] at hp; cases hp) hp⟩, by rw [HKT.out]; omega, HRK1.out, HBD1.out⟩, nofun⟩
end Go.Proofs.Ytcfpkmfppgodmaa
