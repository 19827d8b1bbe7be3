/- orphan.all and orphan.Consistent of all events. -/
import Derived.Test.YtcfpkmfppgodmaaOrph
import Derived.Test.YtcfpkmfppgodmaaOrd
set_option linter.unusedVariables false
set_option linter.unusedSimpArgs false
set_option maxRecDepth 100000
namespace Go.Proofs.Ytcfpkmfppgodmaa
open Go.RowKit Go.Proofs

set_option maxHeartbeats 8000000 in
theorem oall_any (w : World) (S : Nat → Prop) (A : Option Addr) (n c : Nat) (l : List (List Ev)) (hS : ∀ i, S i → i < w.heap.size) (hl : SlR w S 1 (EvsR w S) A n c l) (hn : n ≤ 1000) :
    Calls Try.prog 35 #[.slice A n c] w (IntsPost (lensL l) w) := by
  obtain ⟨iI, hi0, iz0, is0, ib0⟩ := info_of info_Int
  have hmk := fun W => run_make_row (P := Try.prog) 23 3 iI _ Try.underlying23 hi0 iz0 .i64 .i64 n n (Nat.le_refl _) (by rw [ib0]; omega) (by omega) W
  rw [is0, made_zeros] at hmk
  have hnl := hl.1
  have hrel0 : WtL l n w (.int .i64 0) (w.alloc (.cells (zerosA n) 3)) := ⟨0, rfl, Nat.zero_le _, by rw [lensK_zero, ← hnl]; exact own_zeros w n hn, Keep.new _ _⟩
  have HS := Lib.hid hS
  have HL := Lib.hid hl
  have HNL := Lib.hid hnl
  have HREL0 := Lib.hid hrel0
  clear hS hl hnl hrel0
  clear hi0 iz0 is0 ib0
  go_enter Try.func35, Try.ntmps35
  go_wp2_with fail
  go_loopw [11] (fun i wr => WtL l n w i wr) (fun i _ => n - (intOf i).toNat)
  case atStart => exact HREL0.out
  case round =>
    clear HREL0
    obtain ⟨k, rfl, hkn', how, hkr⟩ := hrel
    have hzr := hkr.size
    have hsm := Same.mono hkr HS.out
    by_cases hkn : k < n
    · obtain ⟨g, cur, hg, hbg, hbk, hcs, hnc, hcm, htk⟩ := own_open how (by omega)
      simp only [Option.some.injEq, Addr.mk.injEq, and_true] at hg
      subst hg
      obtain ⟨b0, off0, cs, evs, rfl, hS0, hev, ⟨Ae, ne, ce, rfl, hse⟩, -, hc0⟩ := (HL.out.keep hsm (EvsR.keep hsm)).at_ hkn
      have hd1 : decide (k < n) = true := by simpa using hkn
      have hd2 : (0 : Int) ≤ k := by omega
      have hd3 : (k : Int) < n := by omega
      have x0 : wr.cell? ⟨b0, off0 + k, none⟩ = some (.slice Ae ne ce) := by have := hc0 0 _ rfl; simpa using this
      have hne := hse.1
      have hkc : k < cur.size := by omega
      have hkl : k < l.length := by have := HNL.out; omega
      have HNE := Lib.hid hne
      have HBK := Lib.hid hbk
      have HTK := Lib.hid htk
      have HKR := Lib.hid hkr
      have HCS := Lib.hid hcs
      have HEV := Lib.hid hev
      clear hne hbk htk hkr hcs hev
      clear hc0 hse hsm how
      go_wp2_with (refine wpList_store_one rfl _ (.tmp 20) (.tmp 19) rfl w.heap.size k 3 cur (.int .i64 ne) rfl rfl HBK.out hkc (by kernel_rfl) rfl rfl ?_; intro w9 hb9 hs9)
      go_roundw
      case rel => exact ⟨k + 1, by go_num, by omega, by rw [lensK_succ HEV.out, ← HNE.out]; exact row_put (k := k) (o := 0) encI_len hbg (by simpa using hb9) HCS.out hnc hcm HTK.out (by rw [lensK_len]; exact HNL.out.symm) (lensK_at hkl) (by omega) rfl, Keep.write HKR.out hs9 hbg⟩
      case measure => simp [intOf]; omega
    · have hd1 : decide (k < n) = false := by simpa using hkn
      obtain rfl : k = n := by omega
      have hall : lensK l k = lensL l := by rw [HNL.out]; exact lensK_all l
      rw [hall] at how
      have hlen : (lensL l).length = k := by simp [lensL]; have := HNL.out; omega
      have hs := own_ints how
      have hfin : IntsPost (lensL l) w (.returned (.slice (some ⟨w.heap.size, 0, none⟩) k k)) wr := ⟨_, k, by rw [hlen], by rw [hlen]; exact hs, hkr⟩
      have HFIN := Lib.hid hfin
      clear hfin
      clear how hkr hs hall hlen hsm
      go_wp2_with fail
      go_ret
      exact HFIN.out
/-- Every event can be in the cut of all. -/
def ConsL (l : List (List Ev)) : Prop := ∀ (q k : Nat) (e : Ev), q < l.length → (l.getD q [])[k]? = some e → possS l (lensL l) q e = true
def ConsPost (l : List (List Ev)) (w : World) (e : Ending) (w' : World) : Prop := ∃ b : Bool, (b = true ↔ ConsL l) ∧ e = .returned (.bool b) ∧ Keep w w'
def Cn1 (n : Nat) (W : World) (i : Value) (wr : World) : Prop := ∃ k : Nat, i = .int .i64 k ∧ k ≤ n ∧ Keep W wr
def Cn2 (l : List (List Ev)) (n : Nat) (W : World) (i : Value) (wr : World) : Prop := ∃ q : Nat, i = .int .i64 q ∧ q ≤ n ∧ (∀ (p k : Nat) (e : Ev), p < q → (l.getD p [])[k]? = some e → possS l (lensL l) p e = true) ∧ Keep W wr
def Cn3 (l : List (List Ev)) (evs : List Ev) (q : Nat) (W : World) (i : Value) (wr : World) : Prop := ∃ k : Nat, i = .int .i64 k ∧ k ≤ evs.length ∧ (∀ (j : Nat) (e : Ev), j < k → evs[j]? = some e → possS l (lensL l) q e = true) ∧ Keep W wr
set_option maxHeartbeats 16000000 in
theorem cons_any (w : World) (S : Nat → Prop) (A A2 : Option Addr) (n c c2 : Nat) (l : List (List Ev)) (hS : ∀ i, S i → i < w.heap.size) (hl : SlR w S 1 (EvsR w S) A n c l) (hx : Sl encI 1 w S A2 n c2 (lensL l)) (hn : n ≤ 1000) (hlen : ∀ x ∈ l, x.length ≤ 100000) :
    Calls Try.prog 34 #[.slice A n c, .slice A2 n c2] w (ConsPost l w) := by
  have hnl := hl.1
  have hlz : ∀ wx, Keep w wx → SlR wx S 1 (EvsR wx S) A n c l := fun wx hk => hl.keep (hk.mono hS) (EvsR.keep (hk.mono hS))
  have hxz : ∀ wx, Keep w wx → Sl encI 1 wx S A2 n c2 (lensL l) := fun wx hk => hx.keep (hk.mono hS)
  have tn : ((n : Int) != (n : Int)) = false := by simp
  have tn' : (n != n) = false := by simp
  -- the length of lineage q, in memory twice
  have hcell : ∀ wx, Keep w wx → ∀ q, q < n → ∃ (b0 o0 b2 o2 : Nat) (Ae : Option Addr) (ne ce : Nat), A = some ⟨b0, o0, none⟩ ∧ A2 = some ⟨b2, o2, none⟩ ∧ wx.cell? ⟨b0, o0 + q, none⟩ = some (.slice Ae ne ce) ∧ wx.cell? ⟨b2, o2 + q, none⟩ = some (.int .i64 (ne : Int)) ∧ ne ≤ ce ∧ Sl encEv 7 wx S Ae ne ce (l.getD q []) ∧ q < l.length := fun wx hk q hq => by
    obtain ⟨b0, o0, cs, evs, e1, -, hev, ⟨Ae, ne, ce, rfl, hse⟩, -, hc0⟩ := (hlz wx hk).at_ hq
    obtain ⟨b2, o2, x, e2, -, hx1, hc2⟩ := (hxz wx hk).at_ encI_len hq
    have hg := getD_of (d := ([] : List Ev)) hev
    have hxx : x = (ne : Int) := by
      have := getD_of (d := (0 : Int)) hx1
      rw [lensL_getD, hg] at this
      have := hse.1
      omega
    subst hxx
    refine ⟨b0, o0, b2, o2, Ae, ne, ce, e1, e2, ?_, ?_, hse.2.1, by rw [hg]; exact hse, by omega⟩
    · have := hc0 0 _ rfl; simpa using this
    · have := hc2 0 _ rfl; simpa using this
  have HS := Lib.hid hS
  have HLZ := Lib.hid hlz
  have HXZ := Lib.hid hxz
  have HLEN := Lib.hid hlen
  have HCELL := Lib.hid hcell
  have HNL := Lib.hid hnl
  clear hS hlz hxz hlen hcell hnl
  clear hl hx
  go_enter Try.func34, Try.ntmps34
  go_wp2_with fail
  go_loopw [18] (fun i wr => Cn1 n w i wr) (fun i _ => n - (intOf i).toNat)
  case atStart => exact ⟨0, rfl, Nat.zero_le _, Same.refl _ _⟩
  case round =>
    obtain ⟨q, rfl, hqn', hkr⟩ := hrel
    by_cases hqn : q < n
    · obtain ⟨b0, o0, b2, o2, Ae, ne, ce, rfl, rfl, x0, x2, hnc, hse, hql⟩ := HCELL.out wr hkr q hqn
      have t0 : decide (q < n) = true := by simpa using hqn
      have t0' : decide ((q : Int) < (n : Int)) = true := by simp; omega
      have i0 : (0 : Int) ≤ q := by omega
      have i1 : (q : Int) < n := by omega
      have t1 : decide ((ne : Int) < 0) = false := by simp
      have t2 : decide ((ne : Int) < (ne : Int)) = false := by simp
      have t2' : decide (ne < ne) = false := by simp
      have hfin : Cn1 n w (.int .i64 ((q : Int) + 1)) wr := ⟨q + 1, by go_num, by omega, hkr⟩
      have hfd : ∀ j, Cn1 n w (.int .i64 ((q : Int) + 1)) (wr.drewN j) := fun j => ⟨q + 1, by go_num, by omega, Keep.trans hkr (Keep.draws _ _)⟩
      have HFIN := Lib.hid hfin
      have HFD := Lib.hid hfd
      clear hfin hfd
      clear hse hkr
      go_wp2_with fail
      go_roundw
      case rel => first | exact HFIN.out | exact HFD.out _
      case measure => simp [intOf]; omega
    · have t0 : decide (q < n) = false := by simpa using hqn
      have t0' : decide ((q : Int) < (n : Int)) = false := by simp; omega
      obtain ⟨w1, rfl⟩ : ∃ w1 : World, w1 = wr := ⟨_, rfl⟩
      have hk1 := hkr
      have HK1 := Lib.hid hk1
      clear hk1
      clear hkr
      go_wp2_with fail
      go_loopw [40] (fun i wr => Cn2 l n w1 i wr) (fun i _ => n - (intOf i).toNat)
      case atStart => exact ⟨0, rfl, Nat.zero_le _, fun p k e hp => absurd hp (by omega), Same.refl _ _⟩
      case round =>
        obtain ⟨q2, rfl, hqn2', hall, hkr⟩ := hrel
        have hkw := Keep.trans HK1.out hkr
        by_cases hqn2 : q2 < n
        · obtain ⟨b0, o0, b2, o2, Ae, ne, ce, rfl, rfl, x0, x2, hnc, hse, hql⟩ := HCELL.out wr hkw q2 hqn2
          have t0 : decide (q2 < n) = true := by simpa using hqn2
          have t0' : decide ((q2 : Int) < (n : Int)) = true := by simp; omega
          have i0 : (0 : Int) ≤ q2 := by omega
          have i1 : (q2 : Int) < n := by omega
          have j0 : (0 : Int) ≤ ne := by omega
          have j1 : (ne : Int) ≤ ce := by omega
          have hne5 : ne ≤ 100000 := by
            have h1 := hse.1
            have h2 := HLEN.out (l.getD q2 []) (by
              rw [show l.getD q2 [] = l[q2] from getD_of (List.getElem?_eq_getElem hql)]
              exact List.getElem_mem hql)
            omega
          obtain ⟨w2, rfl⟩ : ∃ w2 : World, w2 = wr := ⟨_, rfl⟩
          obtain ⟨evs, hevs⟩ : ∃ evs, evs = l.getD q2 [] := ⟨_, rfl⟩
          rw [← hevs] at hse
          have hne := hse.1
          have HALL := Lib.hid hall
          have HKR := Lib.hid hkr
          have HKW := Lib.hid hkw
          have HSE := Lib.hid hse
          have HEVS := Lib.hid hevs
          have HNE := Lib.hid hne
          clear hall hkr hkw hse hevs hne
          go_wp2_with fail
          go_loopw [52] (fun i wr => Cn3 l evs q2 w2 i wr) (fun i _ => evs.length - (intOf i).toNat)
          case atStart => exact ⟨0, rfl, Nat.zero_le _, fun j e hj => absurd hj (by omega), Same.refl _ _⟩
          case round =>
            obtain ⟨k, rfl, hkn', hj, hkr3⟩ := hrel
            have hkw3 := Keep.trans HKW.out hkr3
            have hz3 := hkw3.size
            have hne := HNE.out
            by_cases hkn : k < ne
            · obtain ⟨be, oe, ev, rfl, -, hev, hce⟩ := (HSE.out.keep (hkr3.mono (fun i hi => by have := HS.out i hi; have := HKW.out.size; omega))).at_ encEv_len hkn
              have u0 : decide (k < ne) = true := by simpa using hkn
              have u0' : decide ((k : Int) < (ne : Int)) = true := by simp; omega
              have k0 : (0 : Int) ≤ k := by omega
              have k1 : (k : Int) < ne := by omega
              have hra : wr.rangeAt be (oe + k * 7) [.int .i64 ev.kind, .int .i64 ev.inc, .int .i64 ev.frm, .int .i64 ev.sInc, .int .i64 ev.sIdx, .int .i64 ev.ord, .int .i64 ev.val] := fun j u hu => hce j u hu
              have HRA := Lib.hid hra
              have HJ := Lib.hid hj
              have HKR3 := Lib.hid hkr3
              have HKW3 := Lib.hid hkw3
              have HEV := Lib.hid hev
              clear hra hj hkr3 hkw3 hev
              clear hce hne
              go_upto_region 15 with (first
                | (refine wpList_load_range rfl _ (.tmp 54) rfl be (oe + k * 7) [.int .i64 ev.kind, .int .i64 ev.inc, .int .i64 ev.frm, .int .i64 ev.sInc, .int .i64 ev.sIdx, .int .i64 ev.ord, .int .i64 ev.val] _ rfl HRA.out Try.underlying50 rfl (by kernel_rfl) ?_)
                | (refine wpList_store_all rfl _ (.tmp 10) (.tmp 55) rfl wr.heap.size 50 _ [.int .i64 ev.kind, .int .i64 ev.inc, .int .i64 ev.frm, .int .i64 ev.sInc, .int .i64 ev.sIdx, .int .i64 ev.ord, .int .i64 ev.val] rfl rfl (Blk.new _ _ _) rfl (by kernel_rfl) rfl ?_; intro w7 hb7 hs7))
              have hz7 : wr.heap.size < w7.heap.size := hb7.lt
              have hk7 : Keep wr w7 := Keep.write (Keep.new _ _) hs7 (Nat.le_refl _)
              have hkw7 := Keep.trans HKW3.out hk7
              have HB7 := Lib.hid hb7
              have HK7 := Lib.hid hk7
              have HKW7 := Lib.hid hkw7
              clear hb7 hk7 hkw7
              clear hs7 HRA
              go_wp2_with (refine wpList_load_all rfl _ (.tmp 10) rfl wr.heap.size 50 [.int .i64 ev.kind, .int .i64 ev.inc, .int .i64 ev.frm, .int .i64 ev.sInc, .int .i64 ev.sIdx, .int .i64 ev.ord, .int .i64 ev.val] _ rfl HB7.out Try.underlying50 rfl (by kernel_rfl) ?_)
              refine (fits_any w7 S _ _ n c n c2 l (lensL l) q2 ev (fun i hi => by have := HS.out i hi; omega) (HLZ.out w7 HKW7.out) (HXZ.out w7 HKW7.out) rfl (by omega) (fun x hx => by have := HLEN.out x hx; omega)).mono ?_
              rintro e w8 ⟨rfl, hk8⟩
              have hkr8 := Keep.trans (Keep.trans HKR3.out HK7.out) hk8
              have hkw8 := Keep.trans HKW7.out hk8
              cases hp : possS l (lensL l) q2 ev with
              | true =>
                have hfin : Cn3 l evs q2 w2 (.int .i64 ((k : Int) + 1)) w8 := ⟨k + 1, by go_num, by have := HNE.out; omega, fun j e hj2 he => by
                  rcases Nat.lt_or_ge j k with h | h
                  · exact HJ.out j e h he
                  · obtain rfl : j = k := by omega
                    have h2 := HEV.out
                    rw [he] at h2
                    injection h2 with h2
                    rw [h2]; exact hp, hkr8⟩
                have HFIN := Lib.hid hfin
                have HP := Lib.hid hp
                clear hfin hp
                clear hk8 hkr8 hkw8
                go_wp2_with fail
                go_roundw
                case rel => exact HFIN.out
                case measure => have := HNE.out; simp [intOf]; omega
              | false =>
                have hfin : ConsPost l w (.returned (.bool false)) w8 := ⟨false, ⟨(nofun), fun hc => by
                  have h3 := hc q2 k ev hql (by rw [← HEVS.out]; exact HEV.out)
                  rw [hp] at h3; cases h3⟩, rfl, hkw8⟩
                have HFIN := Lib.hid hfin
                have HP := Lib.hid hp
                clear hfin hp
                clear hk8 hkr8 hkw8
                go_wp2_with fail
                go_ret
                exact HFIN.out
            · have u0 : decide (k < ne) = false := by simpa using hkn
              have u0' : decide ((k : Int) < (ne : Int)) = false := by simp; omega
              have hfin : Cn2 l n w1 (.int .i64 ((q2 : Int) + 1)) wr := ⟨q2 + 1, by go_num, by omega, fun p j e hp he => by
                rcases Nat.lt_or_ge p q2 with h | h
                · exact HALL.out p j e h he
                · obtain rfl : p = q2 := by omega
                  rw [← HEVS.out] at he
                  exact hj j e (by have := (List.getElem?_eq_some_iff.1 he).1; omega) he, Keep.trans HKR.out hkr3⟩
              have HFIN := Lib.hid hfin
              clear hfin
              clear hj hkr3 hkw3 hne
              go_wp2_with fail
              go_roundw
              case rel => exact HFIN.out
              case measure => simp [intOf]; omega
        · have t0 : decide (q2 < n) = false := by simpa using hqn2
          have t0' : decide ((q2 : Int) < (n : Int)) = false := by simp; omega
          have hfin : ConsPost l w (.returned (.bool true)) wr := ⟨true, ⟨fun _ q k e hq he => hall q k e (by have := HNL.out; omega) he, fun _ => rfl⟩, rfl, hkw⟩
          have HFIN := Lib.hid hfin
          clear hfin
          clear hall hkr hkw
          go_wp2_with fail
          go_ret
          exact HFIN.out
end Go.Proofs.Ytcfpkmfppgodmaa
