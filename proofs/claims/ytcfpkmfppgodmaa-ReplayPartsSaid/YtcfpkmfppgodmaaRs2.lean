/- ref32.Full, ref34.Schedule and ref34.Witness: written by gen_rs2.py. -/
import Derived.Test.YtcfpkmfppgodmaaRs1
import Derived.Test.YtcfpkmfppgodmaaBx
set_option linter.unusedVariables false
set_option linter.unusedSimpArgs false
set_option maxRecDepth 100000
namespace Go.Proofs.Ytcfpkmfppgodmaa
open Go.RowKit Go.Proofs

def IntsPost (r : List Int) (w : World) (e : Ending) (w' : World) : Prop := ∃ (A : Option Addr) (c : Nat), e = .returned (.slice A r.length c) ∧ Sl encI 1 w' (New w' w.heap.size) A r.length c r ∧ Keep w w'
def FlR (l : List (List Ev)) (W : World) (v i : Value) (wr : World) : Prop := ∃ k : Nat, i = .int .i64 k ∧ k ≤ l.length ∧ wr.ownsRow W.heap.size 3 1 v k (((lensL l).take k).flatMap encI) ∧ Keep W wr
theorem builtS_int (a : Int) : builtS Try.prog 3 1 [(0, .int .i64 a)] = some #[.int .i64 a] := by kernel_rfl
theorem lensL_snoc {l : List (List Ev)} {k : Nat} {x : List Ev} (h : l[k]? = some x) : (lensL l).take (k + 1) = (lensL l).take k ++ [(x.length : Int)] := by
  rw [List.take_add_one]
  simp [lensL, List.getElem?_map, h]
set_option maxHeartbeats 8000000 in
theorem full_any (w : World) (S : Nat → Prop) (A : Option Addr) (n c : Nat) (l : List (List Ev)) (hS : ∀ i, S i → i < w.heap.size) (hl : SlR w S 1 (EvsR w S) A n c l) (hn : n ≤ 1000) :
    Calls Try.prog 30 #[.slice A n c] w (IntsPost (lensL l) w) := by
  obtain ⟨iI, hi0, iz0, is0, ib0⟩ := info_of info_Int
  have hnl := hl.1
  have hrel0 : FlR l w (.slice none 0 0) (.int .i64 0) w := ⟨0, rfl, Nat.zero_le _, by simpa using World.ownsRow_nil _ _ _ _, Same.refl _ _⟩
  have HS := Lib.hid hS
  have HL := Lib.hid hl
  have HNL := Lib.hid hnl
  have HREL0 := Lib.hid hrel0
  have HI0 := Lib.hid hi0
  have IZ0 := Lib.hid iz0
  have IS0 := Lib.hid is0
  have IB0 := Lib.hid ib0
  clear hS hl hnl hrel0 hi0 iz0 is0 ib0
  go_enter Try.func30, Try.ntmps30
  go_wp2_with fail
  go_loopw [3, 4] (fun v i wr => FlR l w v i wr) (fun v i _ => n - (intOf i).toNat)
  case atStart => exact HREL0.out
  case round =>
    clear HREL0
    obtain ⟨k, rfl, hkl, how, hkr⟩ := hrel
    obtain ⟨Av, cv, rfl, hv1, hv2⟩ := own_form how
    have hzr := hkr.size
    have hsm := Same.mono hkr HS.out
    by_cases hkn : k < n
    · obtain ⟨b0, off0, cs, evs, rfl, hS0, hev, ⟨Ae, ne, ce, rfl, hse⟩, -, hc0⟩ := (HL.out.keep hsm (EvsR.keep hsm)).at_ hkn
      have hd1 : decide (k < n) = true := by simpa using hkn
      have hd2 : (0 : Int) ≤ k := by omega
      have hd3 : (k : Int) < n := by omega
      have x0 : wr.cell? ⟨b0, off0 + k, none⟩ = some (.slice Ae ne ce) := by have := hc0 0 _ rfl; simpa using this
      have hne := hse.1
      have hsn := lensL_snoc hev
      have hkl1 : k + 1 ≤ l.length := by have := HNL.out; omega
      have HOW := Lib.hid how
      have HKR := Lib.hid hkr
      have HNE := Lib.hid hne
      have HSN := Lib.hid hsn
      clear how hkr hne hsn
      clear hc0 hse hsm hev
      go_wp2_with (refine wpList_buildX rfl 23 3 1 _ rfl Try.underlying23 _ [(0, .int .i64 ne)] rfl (builtS_int _) ?_; intro w3 hb3 hk3 hz3; refine Hid.out ?_)
      refine Lib.hid ?_
      have hrd : Reads w3 (fun i => i = wr.heap.size) 1 (some ⟨wr.heap.size, 0, none⟩) 1 (encI (ne : Int)) := ⟨rfl, fun _ => ⟨_, 0, rfl, rfl, fun i u hu => by rw [hb3.cell]; simpa [encI] using hu⟩⟩
      have how3 := ownsRow_same HOW.out hk3 (fun i hi => hi.2)
      have HRD := Lib.hid hrd
      have HOW3 := Lib.hid how3
      have HK3 := Lib.hid hk3
      clear hrd how3 hk3
      clear hb3
      go_wp2_with (at_builtin; refine wpList_append_any _ rfl (.tmp 11) (.tmp 17) 23 rfl w.heap.size 3 iI _ 1 8 Try.underlying23 HI0.out IZ0.out IS0.out IB0.out rfl (by omega) (.slice Av k cv) k (((lensL l).take k).flatMap encI) rfl HOW3.out _ (some ⟨wr.heap.size, 0, none⟩) 1 1 (encI (ne : Int)) rfl HRD.out (encI_one _) (by simp [maxLen]; omega) (by omega) (by omega) ?_; intro vb wb hownb hgb hatb)
      have hkb : Keep w wb := Same.append (Keep.trans HKR.out HK3.out) HOW3.out hgb (fun i hi => hi) (by omega)
      go_roundw
      case rel => exact ⟨k + 1, by go_num, hkl1, by rw [HSN.out, ← HNE.out, List.flatMap_append]; simpa using hownb, hkb⟩
      case measure => simp [intOf]; omega
    · have hd1 : decide (k < n) = false := by simpa using hkn
      obtain rfl : k = n := by have := HNL.out; omega
      have hall : (lensL l).take k = lensL l := List.take_of_length_le (by simp [lensL]; have := HNL.out; omega)
      rw [hall] at how
      have hlen : (lensL l).length = k := by simp [lensL]; have := HNL.out; omega
      have hs := own_ints how
      have hfin : IntsPost (lensL l) w (.returned (.slice Av k cv)) wr := ⟨Av, cv, by rw [hlen], by rw [hlen]; exact hs, hkr⟩
      have HFIN := Lib.hid hfin
      clear hfin
      clear how hkr hs hall hlen hsm
      go_wp2_with fail
      go_ret
      exact HFIN.out
def RcL3 (l : List (List Ev)) (to_ at_ : List Int) (k : Nat) (W : World) (i : Value) (wr : World) : Prop := ∃ q : Nat, i = .int .i64 q ∧ q ≤ k ∧ (∀ j, j < q → canS l to_ at_ j = false) ∧ Keep W wr
def RcL4 (to_ at_ : List Int) (k : Nat) (W : World) (i : Value) (wr : World) : Prop := ∃ q : Nat, i = .int .i64 q ∧ q ≤ k ∧ (∀ j, j < q → at_.getD j 0 = to_.getD j 0) ∧ Keep W wr
theorem ext_getD {a b : List Int} (hl : a.length = b.length) (h : ∀ j, j < a.length → a.getD j 0 = b.getD j 0) : a = b := by
  apply List.ext_getElem hl
  intro i h1 h2
  have := h i h1
  simpa [List.getD, h1, h2] using this
set_option maxHeartbeats 16000000 in
theorem rschedule_any (w : World) (S : Nat → Prop) (A A1 A2 : Option Addr) (n c n1 c1 n2 c2 : Nat) (l : List (List Ev)) (fr to_ : List Int) (hS : ∀ i, S i → i < w.heap.size) (hl : SlR w S 1 (EvsR w S) A n c l) (hf : Sl encI 1 w S A1 n1 c1 fr) (ht : Sl encI 1 w S A2 n2 c2 to_)
    (hn : n ≤ 1000) (hlen : ∀ x ∈ l, x.length ≤ 100000) (hn1 : n1 ≤ 1000000) (hn2 : n2 ≤ 1000000) : Calls Try.prog 15 #[.slice A n c, .slice A1 n1 c1, .slice A2 n2 c2] w (SchPost l fr to_ w) := by
  have hnl := hl.1
  have hnf := hf.1
  have hnt := ht.1
  have bad : ¬ Rng l fr to_ → ∀ w', Keep w w' → SchPost l fr to_ w (.returned (.tuple #[.slice none 0 0, .bool false])) w' := fun h w' hk => ⟨none, .inr ⟨h, rfl⟩, hk, .inl ⟨rfl, rfl⟩⟩
  have BAD := Lib.hid bad
  have HLEN := Lib.hid hlen
  have HS := Lib.hid hS
  have HL := Lib.hid hl
  have HF := Lib.hid hf
  have HT := Lib.hid ht
  clear bad hlen hS hl hf ht
  by_cases h1 : n1 = n
  case neg =>
    have t1 : ((n1 : Int) != n) = true := by simp; omega
    have t1' : (n1 != n) = true := by simpa using h1
    have hb := BAD.out (fun h => h1 (by have := h.1; omega)) w (Same.refl _ _)
    have HB := Lib.hid hb
    have HNL := Lib.hid hnl
    have HNF := Lib.hid hnf
    have HNT := Lib.hid hnt
    clear hb hnl hnf hnt
    clear h1
    go_enter Try.func15, Try.ntmps15
    go_wp2_with fail
    go_ret2
    exact HB.out
  subst h1
  by_cases h2 : n2 = n1
  case neg =>
    have t2 : ((n2 : Int) != n1) = true := by simp; omega
    have t2' : (n2 != n1) = true := by simpa using h2
    have hb := BAD.out (fun h => h2 (by have := h.1; have := h.2.1; omega)) w (Same.refl _ _)
    have HB := Lib.hid hb
    have HNL := Lib.hid hnl
    have HNF := Lib.hid hnf
    have HNT := Lib.hid hnt
    clear hb hnl hnf hnt
    clear h2
    go_enter Try.func15, Try.ntmps15
    go_wp2_with fail
    go_ret2
    exact HB.out
  subst h2
  have hlf : fr.length = l.length ∧ to_.length = l.length := by omega
  have HNL := Lib.hid hnl
  have HNF := Lib.hid hnf
  have HNT := Lib.hid hnt
  have HLF := Lib.hid hlf
  clear hnl hnf hnt hlf
  go_enter Try.func15, Try.ntmps15
  go_wp2_with fail
  go_loopw [8] (fun i wr => ScL1 l fr to_ w i wr) (fun i _ => n2 - (intOf i).toNat)
  case atStart => exact ⟨0, rfl, Nat.zero_le _, fun q hq => absurd hq (by omega), Same.refl _ _⟩
  case round =>
    obtain ⟨k, rfl, hkl, hall, hkr⟩ := hrel
    have hsm := Same.mono hkr HS.out
    by_cases hkn : k < n2
    · obtain ⟨b1, off1, fv, rfl, -, hfv, hc1⟩ := (HF.out.keep hsm).at_ encI_len hkn
      obtain ⟨b2, off2, tv, rfl, -, htv, hc2⟩ := (HT.out.keep hsm).at_ encI_len hkn
      obtain ⟨b0, off0, cs, evs, rfl, -, hev, ⟨Ae, ne, ce, rfl, hse⟩, -, hc0⟩ := (HL.out.keep hsm (EvsR.keep hsm)).at_ hkn
      have hd1 : decide (k < n2) = true := by simpa using hkn
      have hd2 : (0 : Int) ≤ k := by omega
      have hd3 : (k : Int) < n2 := by omega
      have x1 : wr.cell? ⟨b1, off1 + k, none⟩ = some (.int .i64 fv) := by have := hc1 0 _ rfl; simpa using this
      have x2 : wr.cell? ⟨b2, off2 + k, none⟩ = some (.int .i64 tv) := by have := hc2 0 _ rfl; simpa using this
      have x0 : wr.cell? ⟨b0, off0 + k, none⟩ = some (.slice Ae ne ce) := by have := hc0 0 _ rfl; simpa using this
      have g1 := getD_of (d := 0) hfv
      have g2 := getD_of (d := 0) htv
      have g0 := getD_of (d := []) hev
      have hne := hse.1
      have hkl1 : k + 1 ≤ l.length := by have := HNL.out; omega
      have hnx : ∀ w', Keep wr w' → ¬ (0 ≤ fv ∧ fv ≤ tv ∧ tv ≤ ne) → SchPost l fr to_ w (.returned (.tuple #[.slice none 0 0, .bool false])) w' := fun w' hk' hno => BAD.out (fun h => hno (by have := h.2.2 k (by omega); rw [g1, g2, g0] at this; omega)) w' (Keep.trans hkr hk')
      have hok : (0 ≤ fv ∧ fv ≤ tv ∧ tv ≤ ne) → ∀ w', Keep wr w' → ScL1 l fr to_ w (.int .i64 (k + 1)) w' := fun hr w' hk' => ⟨k + 1, by simp, hkl1, fun q hq => by
        rcases Nat.lt_or_ge q k with h | h
        · exact hall q h
        · obtain rfl : q = k := by omega
          rw [g1, g2, g0]
          omega, Keep.trans hkr hk'⟩
      have HNX := Lib.hid hnx
      have HOK := Lib.hid hok
      clear hnx hok
      clear hc1 hc2 hc0 hall g1 g2 g0 hne hse hfv htv hev hkl1 hkr hsm
      by_cases q1 : fv < 0
      · have t1 : decide (fv < 0) = true := by simpa using q1
        go_upto_region 6 with fail
        go_quiet (fail)
        go_wp2_with fail
        go_ret2
        exact HNX.out _ (Keep.draws _ _) (by omega)
      have t1 : decide (fv < 0) = false := by simpa using q1
      by_cases q2 : tv < fv
      · have t2 : decide (tv < fv) = true := by simpa using q2
        go_upto_region 6 with fail
        go_quiet (fail)
        go_wp2_with fail
        go_ret2
        exact HNX.out _ (Keep.draws _ _) (by omega)
      have t2 : decide (tv < fv) = false := by simpa using q2
      by_cases q3 : (ne : Int) < tv
      · have t3 : decide ((ne : Int) < tv) = true := by simpa using q3
        go_upto_region 6 with fail
        go_quiet (fail)
        go_wp2_with fail
        go_ret2
        exact HNX.out _ (Keep.draws _ _) (by omega)
      have t3 : decide ((ne : Int) < tv) = false := by simpa using q3
      go_upto_region 6 with fail
      go_quiet (fail)
      go_wp2_with fail
      go_roundw
      case rel => exact HOK.out ⟨by omega, by omega, by omega⟩ _ (Keep.draws _ _)
      case measure => simp [intOf]; omega
    · have hd1 : decide (k < n2) = false := by simpa using hkn
      obtain rfl : k = n2 := by have := HNL.out; omega
      have hrng : Rng l fr to_ := ⟨HLF.out.1, HLF.out.2, fun q hq => hall q (by have := HNL.out; omega)⟩
      have hM := hrng.left HLEN.out
      obtain ⟨wd, rfl⟩ : ∃ wd : World, wd = wr := ⟨_, rfl⟩
      have hkd := hkr
      have hzd := hkd.size
      have hfd := HF.out.keep hsm
      have htd := HT.out.keep hsm
      have hld := HL.out.keep hsm (EvsR.keep hsm)
      have hMx : leftS fr to_ ≤ 100000000 := by have := HNL.out; omega
      have hfl : fr.length = k := by have := HNF.out; omega
      obtain ⟨iC, hi0, iz0, is0, ib0⟩ := info_of info_Choice
      obtain ⟨iI, ji0, jz0, js0, jb0⟩ := info_of info_Int
      have hfr4 := hfd.2.2.2
      have own0 : wd.ownsRow wd.heap.size 3 1 (.slice none 0 0) 0 [] := World.ownsRow_nil _ _ _ _
      have hen1 : ∀ u ∈ fr.flatMap encI, u.oneCell' = true := by
        intro u hu
        obtain ⟨a, -, ha⟩ := List.mem_flatMap.1 hu
        exact encI_one a u ha
      have HRNG := Lib.hid hrng
      have HKD := Lib.hid hkd
      have HFD := Lib.hid hfd
      have HTD := Lib.hid htd
      have HLD := Lib.hid hld
      have HMX := Lib.hid hMx
      have HI0 := Lib.hid hi0
      have IZ0 := Lib.hid iz0
      have IS0 := Lib.hid is0
      have IB0 := Lib.hid ib0
      have HFR4 := Lib.hid hfr4
      have OWN0 := Lib.hid own0
      have HEN1 := Lib.hid hen1
      clear hrng hkd hfd htd hld hMx hi0 iz0 is0 ib0 hfr4 own0 hen1
      clear hall hM hsm hkr
      go_wp2_with (at_builtin; refine wpList_append_any _ rfl (.const (.slice none 0 0)) (.tmp 61) 23 rfl wd.heap.size 3 iI _ 1 8 Try.underlying23 ji0 jz0 js0 jb0 rfl (by omega) (.slice none 0 0) 0 [] rfl OWN0.out _ A1 k c1 (fr.flatMap encI) rfl HFR4.out HEN1.out (by simp [maxLen]; omega) (by omega) (Nat.le_refl _) ?_; intro va wa hoa hga hata; refine Hid.out ?_)
      refine Lib.hid ?_
      rw [Nat.zero_add, List.nil_append] at hoa
      obtain ⟨Aa, ca, hva, -, -⟩ := own_form hoa
      subst hva
      have hka : Keep wd wa := Same.append (Same.refl _ _) OWN0.out hga (fun i hi => hi) (Nat.le_refl _)
      have hza := hka.size
      obtain ⟨B, hBe⟩ : ∃ B, B = wd.heap.size := ⟨_, rfl⟩
      rw [← hBe] at hoa hza
      have hzb : wd.heap.size ≤ B := by omega
      have hrel0 : ScL2 l fr to_ k B wd Aa ca (leftS fr to_) (.slice none 0 0) wa := ⟨fr, [], rfl, HRNG.out, by simp, fun r h => h, hoa, World.ownsRow_nil _ _ _ _, fun b hb => (by cases hb), hka⟩
      have HREL0 := Lib.hid hrel0
      have HZB := Lib.hid hzb
      clear hrel0 hzb
      clear hoa hka hga hata hfl OWN0 hBe
      go_wp2_with fail
      go_loopg [10] (leftS fr to_) (fun gk v wr => ScL2 l fr to_ k B wd Aa ca gk v wr)
      case atStart => exact HREL0.out
      case round =>
        clear HREL0
        obtain ⟨at_, out, rfl, hr, hol, hsc, ho1, ho2, hdj, hkr⟩ := hrel
        obtain ⟨Av, cv, rfl, hv1, hv2⟩ := own_form ho2
        have hzr := hkr.size
        generalize hml : out.length = m at *
        have hm9 : m ≤ 100000000 := by have := HMX.out; omega
        obtain ⟨wo, rfl⟩ : ∃ wo : World, wo = wr := ⟨_, rfl⟩
        have hbig : B ≤ wo.heap.size ∨ True := .inr trivial
        have hrel1 : RcL3 l to_ at_ k wo (.int .i64 0) wo := ⟨0, rfl, Nat.zero_le _, fun j hj => absurd hj (by omega), Same.refl _ _⟩
        have HR := Lib.hid hr
        have HSC := Lib.hid hsc
        have HO1 := Lib.hid ho1
        have HO2 := Lib.hid ho2
        have HDJ := Lib.hid hdj
        have HKR := Lib.hid hkr
        have HML := Lib.hid hml
        have HREL1 := Lib.hid hrel1
        clear hr hsc ho1 ho2 hdj hkr hml hrel1
        clear hbig
        go_wp2_with fail
        go_loopw [11] (fun i wr => RcL3 l to_ at_ k wo i wr) (fun i _ => k - (intOf i).toNat)
        case atStart => exact HREL1.out
        case round =>
          clear HREL1
          obtain ⟨q, rfl, hqk, hno, hkq⟩ := hrel
          have hzq := hkq.size
          have hkwq := Keep.trans HKR.out hkq
          have hsmq : Same S wd wr := Same.mono hkwq (fun i hi => by have := HS.out i hi; omega)
          by_cases hqn : q < k
          · obtain ⟨ga, cur, hga, hbg, hbk, hcs, hnc, hcm, htk⟩ := own_open HO1.out (by omega)
            subst hga
            have hgl := hbk.lt
            obtain ⟨gx, oa, av, haa, -, hav, hca⟩ := (own_ints HO1.out).at_ encI_len hqn
            simp only [Option.some.injEq, Addr.mk.injEq, and_true] at haa
            obtain ⟨rfl, rfl⟩ := haa
            obtain ⟨b2, off2, tv, rfl, hS2, htv, hc2⟩ := (HTD.out.keep hsmq).at_ encI_len hqn
            obtain ⟨b0, off0, cs, evs, rfl, hS0, hev, ⟨Ae, ne, ce, rfl, hse⟩, -, hc0⟩ := (HLD.out.keep hsmq (EvsR.keep hsmq)).at_ hqn
            have hd1 : decide (q < k) = true := by simpa using hqn
            have hd1' : decide ((q : Int) < (k : Int)) = true := by simp; omega
            have hd2 : (0 : Int) ≤ q := by omega
            have hd3 : (q : Int) < k := by omega
            have hl2 : b2 < wr.heap.size := by have := HS.out _ hS2; omega
            have x1 : wr.cell? ⟨ga, q, none⟩ = some (.int .i64 av) := (hkq.cell (p := ⟨ga, q, none⟩) hgl).trans (by have := hca 0 _ rfl; simpa using this)
            have x2 : wr.cell? ⟨b2, off2 + q, none⟩ = some (.int .i64 tv) := by have := hc2 0 _ rfl; simpa using this
            have g1 := getD_of (d := 0) hav
            have g2 := getD_of (d := 0) htv
            have g0 := getD_of (d := []) hev
            have hrq := HR.out.2.2 q (by have := HNL.out; omega)
            rw [g1, g2, g0] at hrq
            have hne9 : ne = evs.length := hse.1
            obtain ⟨an, rfl⟩ : ∃ an : Nat, av = an := ⟨av.toNat, by omega⟩
            by_cases hlt : (an : Int) < tv
            · have t1 : ((an : Int) == tv) = false := by simp; omega
              obtain ⟨be, oe, ev, rfl, hSe, hee, hce⟩ := hse.at_ encEv_len (k := an) (by omega)
              have hea : evAt l at_ q = ev := by unfold evAt; rw [g0, g1]; simp [List.getD, hee]
              have hcan : canS l to_ at_ q = possS l at_ q ev := by unfold canS; rw [g1, g2, hea]; simp [hlt]
              have i0 : (0 : Int) ≤ an := by omega
              have i1 : (an : Int) < ne := by omega
              have y1 : ∀ wx, Keep wr wx → wx.cell? ⟨ga, q, none⟩ = some (.int .i64 an) := fun wx hx => (hx.cell (p := ⟨ga, q, none⟩) (by show ga < _; omega)).trans x1
              have y2 : ∀ wx, Keep wr wx → wx.cell? ⟨b2, off2 + q, none⟩ = some (.int .i64 tv) := fun wx hx => (hx.cell (p := ⟨b2, off2 + q, none⟩) hl2).trans x2
              have hbr0 : b0 < wr.heap.size := by have := HS.out _ hS0; omega
              have y0 : ∀ wx, Keep wr wx → wx.cell? ⟨b0, off0 + q, none⟩ = some (.slice (some ⟨be, oe, none⟩) ne ce) := fun wx hx => (hx.cell (p := ⟨b0, off0 + q, none⟩) hbr0).trans (by have := hc0 0 _ rfl; simpa using this)
              have hre : ∀ wx, Keep wr wx → wx.rangeAt be (oe + an * 7) [.int .i64 ev.kind, .int .i64 ev.inc, .int .i64 ev.frm, .int .i64 ev.sInc, .int .i64 ev.sIdx, .int .i64 ev.ord, .int .i64 ev.val] := fun wx hx i u hu => (hx.cell (p := ⟨be, oe + an * 7 + i, none⟩) (by have := HS.out _ hSe; show be < _; omega)).trans (hce i u hu)
              have hcq : cur[q]? = some (.int .i64 (an : Int)) := by rw [← hbk.cell]; rw [← hkq.cell (p := ⟨ga, q, none⟩) hgl]; exact x1
              have hne5 : ne ≤ 100000 := by have := HLEN.out _ (List.mem_of_getElem? hev); omega
              have hav' := hav
              have g1' := g1
              have hlt2 : at_.getD q 0 < to_.getD q 0 := by rw [g1, g2]; exact hlt
              have hne : at_ ≠ to_ := fun h => by rw [h] at hlt2; omega
              have hcall : ∀ u, Keep wr u → Calls Try.prog 29 #[.slice (some ⟨b0, off0, none⟩) k c, .slice (some ⟨ga, 0, none⟩) k ca, .int .i64 q] u (BoolPost (possS l at_ q ev) u) := fun u hu => by
                have hzu := hu.size
                have hku := Keep.trans hkwq hu
                have hlu := (HLD.out.keep (hku.mono (fun i hi => by have := HS.out i hi; show i < _; omega)) (EvsR.keep (hku.mono (fun i hi => by have := HS.out i hi; show i < _; omega)))).more (T := fun i => i < u.heap.size) (fun i hi => by have := HS.out i hi; omega) (EvsR.more (T := fun i => i < u.heap.size) (fun i hi => by have := HS.out i hi; omega))
                have hau := ((own_ints HO1.out).keep ((Keep.trans hkq hu).mono (fun i hi => hi.2))).more (T := fun i => i < u.heap.size) (fun i hi => by have := hi.2; omega)
                exact can_any u _ _ _ k c k ca l at_ q an evs ev (fun i hi => hi) hlu hau rfl (by omega) (fun x hx => by have := HLEN.out x hx; omega) hev hav hee
              have hqc : q < cur.size := by rcases Nat.lt_or_ge q cur.size with h | h; · exact h
                                            · rw [Array.getElem?_eq_none h] at hcq; cases hcq
              have HRE := Lib.hid hre
              have HNO := Lib.hid hno
              have HKQ := Lib.hid hkq
              have HBK := Lib.hid hbk
              have HTK := Lib.hid htk
              have HEA := Lib.hid hea
              have HCAN := Lib.hid hcan
              have HCS := Lib.hid hcs
              have HCQ := Lib.hid hcq
              have HAV' := Lib.hid hav'
              have G1' := Lib.hid g1'
              have HLT2 := Lib.hid hlt2
              have HNE := Lib.hid hne
              have HCALL := Lib.hid hcall
              clear hre hno hkq hbk htk hea hcan hcs hcq hav' g1' hlt2 hne hcall
              clear hca hc2 hc0 hce hee hav htv hev hse g1 g2 g0 hrq hne9 x1 x2
              go_upto_region 11 with fail
              refine wp_region_L 99 (fun _ => True) (fun wx => Keep wr wx) (by kernel_rfl) trivial (Same.drew (Same.refl _ _)) (fun hA hB => ?_)
              generalize hu0 : wr.drew = u0 at hB ⊢
              clear hu0
              refine wpL_takeB (i := 0) (v := ?_) rfl (by kernel_rfl) (by kernel_rfl) (by kernel_rfl) (by decide) (fun _ _ _ h => h) (Or.inl ⟨by rfl, ?_⟩) (SAB.both hA hB) ?_
              rotate_left
              · intro wx hBx
                (try dsimp only at hBx)
                go_simp
                try with_reducible rfl
              try simp only [Act.put, List.setIfInBounds_toArray, List.set_cons_zero, List.set_cons_succ]
              refine wpL_takeB (i := 1) (v := ?_) rfl (by kernel_rfl) (by kernel_rfl) (by kernel_rfl) (by decide) (fun _ _ _ h => h) (Or.inl ⟨by rfl, ?_⟩) (SAB.both hA hB) ?_
              rotate_left
              · intro wx hBx
                (try dsimp only at hBx)
                go_simp
                try with_reducible rfl
              try simp only [Act.put, List.setIfInBounds_toArray, List.set_cons_zero, List.set_cons_succ]
              refine wpL_takeB (i := 2) (v := ?_) rfl (by kernel_rfl) (by kernel_rfl) (by kernel_rfl) (by decide) (fun _ _ _ h => h) (Or.inl ⟨by rfl, ?_⟩) (SAB.both hA hB) ?_
              rotate_left
              · intro wx hBx
                (try dsimp only at hBx)
                go_simp
                try with_reducible rfl
              try simp only [Act.put, List.setIfInBounds_toArray, List.set_cons_zero, List.set_cons_succ]
              refine wpL_takeB (i := 3) (v := ?_) rfl (by kernel_rfl) (by kernel_rfl) (by kernel_rfl) (by decide) (fun _ _ _ h => h) (Or.inl ⟨by rfl, ?_⟩) (SAB.both hA hB) ?_
              rotate_left
              · intro wx hBx
                (try dsimp only at hBx)
                go_simp
                try with_reducible rfl
              try simp only [Act.put, List.setIfInBounds_toArray, List.set_cons_zero, List.set_cons_succ]
              refine wpL_takeB (i := 4) (v := ?_) rfl (by kernel_rfl) (by kernel_rfl) (by kernel_rfl) (by decide) (fun _ _ _ h => h) (Or.inl ⟨by rfl, ?_⟩) (SAB.both hA hB) ?_
              rotate_left
              · intro wx hBx
                (try dsimp only at hBx)
                go_simp
                try with_reducible rfl
              try simp only [Act.put, List.setIfInBounds_toArray, List.set_cons_zero, List.set_cons_succ]
              refine wpL_takeB (i := 5) (v := ?_) rfl (by kernel_rfl) (by kernel_rfl) (by kernel_rfl) (by decide) (fun _ _ _ h => h) (Or.inl ⟨by rfl, ?_⟩) (SAB.both hA hB) ?_
              rotate_left
              · intro wx hBx
                (try dsimp only at hBx)
                go_simp
                try with_reducible rfl
              try simp only [Act.put, List.setIfInBounds_toArray, List.set_cons_zero, List.set_cons_succ]
              refine wpL_takeB (i := 6) (v := ?_) rfl (by kernel_rfl) (by kernel_rfl) (by kernel_rfl) (by decide) (fun _ _ _ h => h) (Or.inl ⟨by rfl, ?_⟩) (SAB.both hA hB) ?_
              rotate_left
              · intro wx hBx
                (try dsimp only at hBx)
                go_simp
                try with_reducible rfl
              try simp only [Act.put, List.setIfInBounds_toArray, List.set_cons_zero, List.set_cons_succ]
              refine wpL_takeB (i := 7) (v := ?_) rfl (by kernel_rfl) (by kernel_rfl) (by kernel_rfl) (by decide) (fun _ _ _ h => h) (Or.inl ⟨by rfl, ?_⟩) (SAB.both hA hB) ?_
              rotate_left
              · intro wx hBx
                (try dsimp only at hBx)
                go_simp
                try with_reducible rfl
              try simp only [Act.put, List.setIfInBounds_toArray, List.set_cons_zero, List.set_cons_succ]
              refine wpL_takeB (i := 8) (v := ?_) rfl (by kernel_rfl) (by kernel_rfl) (by kernel_rfl) (by decide) (fun _ _ _ h => h) (Or.inl ⟨by rfl, ?_⟩) (SAB.both hA hB) ?_
              rotate_left
              · intro wx hBx
                (try dsimp only at hBx)
                go_simp
                try with_reducible rfl
              try simp only [Act.put, List.setIfInBounds_toArray, List.set_cons_zero, List.set_cons_succ]
              refine wpL_takeB (i := 9) (v := ?_) rfl (by kernel_rfl) (by kernel_rfl) (by kernel_rfl) (by decide) (fun _ _ _ h => h) (Or.inl ⟨by rfl, ?_⟩) (SAB.both hA hB) ?_
              rotate_left
              · intro wx hBx
                (try dsimp only at hBx)
                go_simp
                try with_reducible rfl
              try simp only [Act.put, List.setIfInBounds_toArray, List.set_cons_zero, List.set_cons_succ]
              refine wpL_takeB (i := 10) (v := ?_) rfl (by kernel_rfl) (by kernel_rfl) (by kernel_rfl) (by decide) (fun _ _ _ h => h) (Or.inl ⟨by rfl, ?_⟩) (SAB.both hA hB) ?_
              rotate_left
              · intro wx hBx
                (try dsimp only at hBx)
                go_simp
                try with_reducible rfl
              try simp only [Act.put, List.setIfInBounds_toArray, List.set_cons_zero, List.set_cons_succ]
              refine wpL_takeB (i := 11) (v := ?_) rfl (by kernel_rfl) (by kernel_rfl) (by kernel_rfl) (by decide) (fun _ _ _ h => h) (Or.inl ⟨by rfl, ?_⟩) (SAB.both hA hB) ?_
              rotate_left
              · intro wx hBx
                (try dsimp only at hBx)
                go_simp
                try with_reducible rfl
              try simp only [Act.put, List.setIfInBounds_toArray, List.set_cons_zero, List.set_cons_succ]
              refine wpL_takeB (i := 12) (v := ?_) rfl (by kernel_rfl) (by kernel_rfl) (by kernel_rfl) (by decide) (fun _ _ _ h => h) (Or.inl ⟨by rfl, ?_⟩) (SAB.both hA hB) ?_
              rotate_left
              · intro wx hBx
                (try dsimp only at hBx)
                go_simp
                try with_reducible rfl
              try simp only [Act.put, List.setIfInBounds_toArray, List.set_cons_zero, List.set_cons_succ]
              refine wpL_takeB (i := 13) (v := ?_) rfl (by kernel_rfl) (by kernel_rfl) (by kernel_rfl) (by decide) (fun _ _ _ h => h) (Or.inl ⟨by rfl, ?_⟩) (SAB.both hA hB) ?_
              rotate_left
              · intro wx hBx
                (try dsimp only at hBx)
                go_simp
                try with_reducible rfl
              try simp only [Act.put, List.setIfInBounds_toArray, List.set_cons_zero, List.set_cons_succ]
              refine wpL_takeB (i := 14) (v := ?_) rfl (by kernel_rfl) (by kernel_rfl) (by kernel_rfl) (by decide) (fun _ _ _ h => h) (Or.inl ⟨by rfl, ?_⟩) (SAB.both hA hB) ?_
              rotate_left
              · intro wx hBx
                (try dsimp only at hBx)
                go_simp
                try with_reducible rfl
              try simp only [Act.put, List.setIfInBounds_toArray, List.set_cons_zero, List.set_cons_succ]
              refine wpL_takeB (i := 15) (v := ?_) rfl (by kernel_rfl) (by kernel_rfl) (by kernel_rfl) (by decide) (fun _ _ _ h => h) (Or.inl ⟨by rfl, ?_⟩) (SAB.both hA hB) ?_
              rotate_left
              · intro wx hBx
                (try dsimp only at hBx)
                go_simp
                try with_reducible rfl
              try simp only [Act.put, List.setIfInBounds_toArray, List.set_cons_zero, List.set_cons_succ]
              refine wpL_takeB (i := 16) (v := ?_) rfl (by kernel_rfl) (by kernel_rfl) (by kernel_rfl) (by decide) (fun _ _ _ h => h) (Or.inl ⟨by rfl, ?_⟩) (SAB.both hA hB) ?_
              rotate_left
              · intro wx hBx
                (try dsimp only at hBx)
                go_simp
                try with_reducible rfl
              try simp only [Act.put, List.setIfInBounds_toArray, List.set_cons_zero, List.set_cons_succ]
              refine wpL_takeB (i := 17) (v := ?_) rfl (by kernel_rfl) (by kernel_rfl) (by kernel_rfl) (by decide) (fun _ _ _ h => h) (Or.inl ⟨by rfl, ?_⟩) (SAB.both hA hB) ?_
              rotate_left
              · intro wx hBx
                (try dsimp only at hBx)
                go_simp
                try with_reducible rfl
              try simp only [Act.put, List.setIfInBounds_toArray, List.set_cons_zero, List.set_cons_succ]
              refine wpL_one (i := 18) (by kernel_rfl) (StepL.mk rfl (fun K hK => ?_))
              go_simp
              refine (HCALL.out u0 hB).mono ?_
              rintro e u1 ⟨rfl, hk1⟩
              have hB1 := Keep.trans hB hk1
              refine hK.out _ _ (SAB.both trivial hB1) (fun hSS => ?_)
              clear hK K hA hB
              have hB := hSS.2
              have hA := hSS.1 (by kernel_rfl)
              (try dsimp only at hB); (try dsimp only at hA); clear hSS
              try simp only [Act.put, List.setIfInBounds_toArray, List.set_cons_zero, List.set_cons_succ]
              rw [← HCAN.out]
              clear hB1
              cases hcv : canS l to_ at_ q with
              | false =>
                refine wpL_takeB (i := 19) (v := ?_) rfl (by kernel_rfl) (by kernel_rfl) (by kernel_rfl) (by decide) (fun _ _ _ h => h) (Or.inl ⟨by rfl, ?_⟩) (SAB.both hA hB) ?_
                rotate_left
                · intro wx hBx
                  (try dsimp only at hBx)
                  go_simp
                  try with_reducible rfl
                try simp only [Act.put, List.setIfInBounds_toArray, List.set_cons_zero, List.set_cons_succ]
                refine wpL_takeB (i := 20) (v := ?_) rfl (by kernel_rfl) (by kernel_rfl) (by kernel_rfl) (by decide) (fun _ _ _ h => h) (Or.inl ⟨by rfl, ?_⟩) (SAB.both hA hB) ?_
                rotate_left
                · intro wx hBx
                  (try dsimp only at hBx)
                  go_simp
                  try with_reducible rfl
                try simp only [Act.put, List.setIfInBounds_toArray, List.set_cons_zero, List.set_cons_succ]
                refine wpL_takeB (i := 21) (v := ?_) rfl (by kernel_rfl) (by kernel_rfl) (by kernel_rfl) (by decide) (fun _ _ _ h => h) (Or.inl ⟨by rfl, ?_⟩) (SAB.both hA hB) ?_
                rotate_left
                · intro wx hBx
                  (try dsimp only at hBx)
                  go_simp
                  try with_reducible rfl
                try simp only [Act.put, List.setIfInBounds_toArray, List.set_cons_zero, List.set_cons_succ]
                refine wpL_done (by kernel_rfl) ?_
                have hfin : RcL3 l to_ at_ k wo (.int .i64 ((q : Int) + 1)) u1 := ⟨q + 1, by go_num, by omega, fun j hj => (by
                  rcases Nat.lt_or_ge j q with h | h
                  · exact HNO.out j h
                  · obtain rfl : j = q := by omega
                    exact hcv), Keep.trans HKQ.out hB⟩
                have HFIN := Lib.hid hfin
                have HCV := Lib.hid hcv
                clear hfin hcv
                clear hA hB hk1 y0 y1 y2 hsmq
                go_wp2_with fail
                go_roundw
                case rel => exact HFIN.out
                case measure => simp [intOf]; omega
              | true =>
                refine wpL_takeB (i := 19) (v := ?_) rfl (by kernel_rfl) (by kernel_rfl) (by kernel_rfl) (by decide) (fun _ _ _ h => h) (Or.inl ⟨by rfl, ?_⟩) (SAB.both hA hB) ?_
                rotate_left
                · intro wx hBx
                  (try dsimp only at hBx)
                  go_simp
                  try with_reducible rfl
                try simp only [Act.put, List.setIfInBounds_toArray, List.set_cons_zero, List.set_cons_succ]
                refine wpL_takeB (i := 20) (v := ?_) rfl (by kernel_rfl) (by kernel_rfl) (by kernel_rfl) (by decide) (fun _ _ _ h => h) (Or.inl ⟨by rfl, ?_⟩) (SAB.both hA hB) ?_
                rotate_left
                · intro wx hBx
                  (try dsimp only at hBx)
                  go_simp
                  try with_reducible rfl
                try simp only [Act.put, List.setIfInBounds_toArray, List.set_cons_zero, List.set_cons_succ]
                refine wpL_takeB (i := 21) (v := ?_) rfl (by kernel_rfl) (by kernel_rfl) (by kernel_rfl) (by decide) (fun _ _ _ h => h) (Or.inl ⟨by rfl, ?_⟩) (SAB.both hA hB) ?_
                rotate_left
                · intro wx hBx
                  (try dsimp only at hBx)
                  go_simp
                  try with_reducible rfl
                try simp only [Act.put, List.setIfInBounds_toArray, List.set_cons_zero, List.set_cons_succ]
                refine wpL_done (by kernel_rfl) ?_
                have hk0 := hB
                have z1 : ∀ wx, Keep u1 wx → wx.cell? ⟨ga, q, none⟩ = some (.int .i64 an) := fun wx hx => y1 wx (Keep.trans hk0 hx)
                have z0 : ∀ wx, Keep u1 wx → wx.cell? ⟨b0, off0 + q, none⟩ = some (.slice (some ⟨be, oe, none⟩) ne ce) := fun wx hx => y0 wx (Keep.trans hk0 hx)
                have hre1 : ∀ wx, Keep u1 wx → wx.rangeAt be (oe + an * 7) [.int .i64 ev.kind, .int .i64 ev.inc, .int .i64 ev.frm, .int .i64 ev.sInc, .int .i64 ev.sIdx, .int .i64 ev.ord, .int .i64 ev.val] := fun wx hx => HRE.out wx (Keep.trans hk0 hx)
                have t6 : ((q : Int) == (k : Int)) = false := by simp; omega
                have t6' : (q == k) = false := by simp; omega
                have hk41 := Keep.trans HKQ.out hk0
                have hz1 := hk0.size
                have HCV := Lib.hid hcv
                have HRE1 := Lib.hid hre1
                have HK41 := Lib.hid hk41
                clear hcv hre1 hk41
                clear hA hB hk0 hk1 y0 y1 y2 hsmq HRE
                go_upto_region 14 with fail
                refine wp_region_L 99 (fun _ => True) (fun wx => Keep u1 wx) (by kernel_rfl) trivial (Same.drew (Same.refl _ _)) (fun hA hB => ?_)
                generalize hu2 : u1.drew = u2 at hB ⊢
                clear hu2
                have hz2 := hB.size
                refine wpL_takeB (i := 0) (v := ?_) rfl (by kernel_rfl) (by kernel_rfl) (by kernel_rfl) (by decide) (fun _ _ _ h => h) (Or.inl ⟨by rfl, ?_⟩) (SAB.both hA hB) ?_
                rotate_left
                · intro wx hBx
                  (try dsimp only at hBx)
                  go_simp
                  try with_reducible rfl
                try simp only [Act.put, List.setIfInBounds_toArray, List.set_cons_zero, List.set_cons_succ]
                refine wpL_takeB (i := 1) (v := ?_) rfl (by kernel_rfl) (by kernel_rfl) (by kernel_rfl) (by decide) (fun _ _ _ h => h) (Or.inl ⟨by rfl, ?_⟩) (SAB.both hA hB) ?_
                rotate_left
                · intro wx hBx
                  (try dsimp only at hBx)
                  go_simp
                  try with_reducible rfl
                try simp only [Act.put, List.setIfInBounds_toArray, List.set_cons_zero, List.set_cons_succ]
                refine wpL_takeB (i := 2) (v := ?_) rfl (by kernel_rfl) (by kernel_rfl) (by kernel_rfl) (by decide) (fun _ _ _ h => h) (Or.inl ⟨by rfl, ?_⟩) (SAB.both hA hB) ?_
                rotate_left
                · intro wx hBx
                  (try dsimp only at hBx)
                  go_simp
                  try with_reducible rfl
                try simp only [Act.put, List.setIfInBounds_toArray, List.set_cons_zero, List.set_cons_succ]
                refine wpL_takeB (i := 3) (v := ?_) rfl (by kernel_rfl) (by kernel_rfl) (by kernel_rfl) (by decide) (fun _ _ _ h => h) (Or.inl ⟨by rfl, ?_⟩) (SAB.both hA hB) ?_
                rotate_left
                · intro wx hBx
                  (try dsimp only at hBx)
                  go_simp
                  try with_reducible rfl
                try simp only [Act.put, List.setIfInBounds_toArray, List.set_cons_zero, List.set_cons_succ]
                refine wpL_takeB (i := 4) (v := ?_) rfl (by kernel_rfl) (by kernel_rfl) (by kernel_rfl) (by decide) (fun _ _ _ h => h) (Or.inl ⟨by rfl, ?_⟩) (SAB.both hA hB) ?_
                rotate_left
                · intro wx hBx
                  (try dsimp only at hBx)
                  go_simp
                  try with_reducible rfl
                try simp only [Act.put, List.setIfInBounds_toArray, List.set_cons_zero, List.set_cons_succ]
                refine wpL_takeB (i := 5) (v := ?_) rfl (by kernel_rfl) (by kernel_rfl) (by kernel_rfl) (by decide) (fun _ _ _ h => h) (Or.inl ⟨by rfl, ?_⟩) (SAB.both hA hB) ?_
                rotate_left
                · intro wx hBx
                  (try dsimp only at hBx)
                  go_simp
                  try with_reducible rfl
                try simp only [Act.put, List.setIfInBounds_toArray, List.set_cons_zero, List.set_cons_succ]
                refine wpL_takeB (i := 6) (v := ?_) rfl (by kernel_rfl) (by kernel_rfl) (by kernel_rfl) (by decide) (fun _ _ _ h => h) (Or.inl ⟨by rfl, ?_⟩) (SAB.both hA hB) ?_
                rotate_left
                · intro wx hBx
                  (try dsimp only at hBx)
                  go_simp
                  try with_reducible rfl
                try simp only [Act.put, List.setIfInBounds_toArray, List.set_cons_zero, List.set_cons_succ]
                refine wpL_takeB (i := 7) (v := ?_) rfl (by kernel_rfl) (by kernel_rfl) (by kernel_rfl) (by decide) (fun _ _ _ h => h) (Or.inl ⟨by rfl, ?_⟩) (SAB.both hA hB) ?_
                rotate_left
                · intro wx hBx
                  (try dsimp only at hBx)
                  go_simp
                  try with_reducible rfl
                try simp only [Act.put, List.setIfInBounds_toArray, List.set_cons_zero, List.set_cons_succ]
                refine wpL_takeB (i := 8) (v := ?_) rfl (by kernel_rfl) (by kernel_rfl) (by kernel_rfl) (by decide) (fun _ _ _ h => h) (Or.inl ⟨by rfl, ?_⟩) (SAB.both hA hB) ?_
                rotate_left
                · intro wx hBx
                  (try dsimp only at hBx)
                  go_simp
                  try with_reducible rfl
                try simp only [Act.put, List.setIfInBounds_toArray, List.set_cons_zero, List.set_cons_succ]
                refine wpL_takeB (i := 9) rfl (by kernel_rfl) (by kernel_rfl) (by kernel_rfl) (by decide) (fun _ _ _ h => h) (yieldsIf_load_mid (by rfl) _ _ rfl be (oe + an * 7) rfl [.int .i64 ev.kind, .int .i64 ev.inc, .int .i64 ev.frm, .int .i64 ev.sInc, .int .i64 ev.sIdx, .int .i64 ev.ord, .int .i64 ev.val] _ (fun wx hx => HRE1.out wx hx) Try.underlying50 rfl (by kernel_rfl)) (SAB.both hA hB) ?_
                try simp only [Act.put, List.setIfInBounds_toArray, List.set_cons_zero, List.set_cons_succ]
                clear z0 z1
                refine wpL_one (i := 10) (by kernel_rfl) (StepL.mk rfl (fun K hK => ?_))
                go_simp
                have hk7 : Keep u2 (u2.alloc (.cells zE7.toArray 50)) := Keep.new _ _
                have hb7 : Blk (u2.alloc (.cells zE7.toArray 50)) u2.heap.size 50 zE7.toArray := Blk.new _ _ _
                have hB7 := Keep.trans hB hk7
                refine hK.out _ _ (SAB.both trivial hB7) (fun hSS => ?_)
                clear hK K hA hB
                have hB := hSS.2
                have hA := hSS.1 (by kernel_rfl)
                (try dsimp only at hB); (try dsimp only at hA); clear hSS
                try simp only [Act.put, List.setIfInBounds_toArray, List.set_cons_zero, List.set_cons_succ]
                generalize hu7 : u2.alloc (.cells #[.int .i64 0, .int .i64 0, .int .i64 0, .int .i64 0, .int .i64 0, .int .i64 0, .int .i64 0] 50) = u3 at *
                have hu7' : u2.alloc (.cells zE7.toArray 50) = u3 := hu7
                rw [hu7'] at hk7 hb7 hB7
                clear hu7 hu7'
                refine wpL_one (i := 11) (by kernel_rfl) (StepL.mk rfl (fun K hK => ?_))
                refine step_store_blk rfl _ _ _ rfl u2.heap.size 0 50 _ [.int .i64 ev.kind, .int .i64 ev.inc, .int .i64 ev.frm, .int .i64 ev.sInc, .int .i64 ev.sIdx, .int .i64 ev.ord, .int .i64 ev.val] rfl rfl hb7 (by simp [zE7]) (by kernel_rfl) rfl ?_
                intro u5 hv5 hs5
                rw [splice_all [.int .i64 ev.kind, .int .i64 ev.inc, .int .i64 ev.frm, .int .i64 ev.sInc, .int .i64 ev.sIdx, .int .i64 ev.ord, .int .i64 ev.val] zE7.toArray rfl] at hv5
                have hk5 : Keep u1 u5 := Keep.write hB7 hs5 hz2
                obtain ⟨g, hg⟩ : ∃ g, g = u2.heap.size := ⟨_, rfl⟩
                rw [← hg] at hv5
                rw [← hg]
                refine hK.out _ _ (SAB.both trivial hk5) (fun hSS => ?_)
                clear hK K hA hB
                have hB := hSS.2
                have hA : True := trivial
                (try dsimp only at hB); (try dsimp only at hA); clear hSS
                try simp only [Act.put, List.setIfInBounds_toArray, List.set_cons_zero, List.set_cons_succ]
                refine wpL_done (by kernel_rfl) ?_
                have hk45 := Keep.trans HK41.out hk5
                have hz5 := hk45.size
                have hg5 := hv5.lt
                have c0 : u5.cell? ⟨g, 0, none⟩ = some (.int .i64 ev.kind) := by rw [hv5.cell]; rfl
                have c6 : u5.cell? ⟨g, 6, none⟩ = some (.int .i64 ev.val) := by rw [hv5.cell]; rfl
                have HV5 := Lib.hid hv5
                have HK45 := Lib.hid hk45
                clear hv5 hk45
                clear hA hB hB7 hk7 hb7 hs5 hg hk5
                by_cases hk1 : ev.kind = 1
                · have t9 : (ev.kind == 1) = true := by simpa using hk1
                  have hch : chS q ev = ⟨q, ev.kind, ev.frm, ev.sIdx, ev.ord, 0⟩ := by unfold chS; rw [if_pos hk1]
                  have HCH := Lib.hid hch
                  clear hch
                  clear hk1
                  go_upto_region 16 with (first
                    | (refine wpList_bld rfl 45 _ rfl _ [(0, .int .i64 q), (1, .int .i64 ev.kind), (5, .int .i64 ev.val)] rfl (bld_ch3 _ _ _) ?_)
                    | (refine wpList_store_all rfl _ (.tmp 13) (.tmp 106) rfl u5.heap.size 45 _ [.int .i64 q, .int .i64 ev.kind, .int .i64 0, .int .i64 0, .int .i64 0, .int .i64 ev.val] rfl rfl (Blk.new _ _ _) rfl (by kernel_rfl) rfl ?_; intro u6 hb6 hs6))
                  have hk6 : Keep u5 u6 := Keep.write (Keep.new _ _) hs6 (Nat.le_refl _)
                  have hl6 := hb6.lt
                  have hv6 := hk6.blk HV5.out hg5
                  have d0 : u6.cell? ⟨g, 0, none⟩ = some (.int .i64 ev.kind) := by rw [hv6.cell]; rfl
                  have d2 : u6.cell? ⟨g, 2, none⟩ = some (.int .i64 ev.frm) := by rw [hv6.cell]; rfl
                  have d4 : u6.cell? ⟨g, 4, none⟩ = some (.int .i64 ev.sIdx) := by rw [hv6.cell]; rfl
                  have d5 : u6.cell? ⟨g, 5, none⟩ = some (.int .i64 ev.ord) := by rw [hv6.cell]; rfl
                  have HB6 := Lib.hid hb6
                  have HK6 := Lib.hid hk6
                  clear hb6 hk6
                  clear hs6 hv6 c0 c6
                  go_upto_region 17 with fail
                  go_upto_region 18 with (first
                    | (refine wpList_bld rfl 45 _ rfl _ [(0, .int .i64 q), (1, .int .i64 ev.kind), (2, .int .i64 ev.frm), (3, .int .i64 ev.sIdx), (4, .int .i64 ev.ord)] rfl (bld_ch5 _ _ _ _ _) ?_)
                    | (refine wpList_store_all rfl _ (.tmp 13) (.tmp 120) rfl u5.heap.size 45 _ [.int .i64 q, .int .i64 ev.kind, .int .i64 ev.frm, .int .i64 ev.sIdx, .int .i64 ev.ord, .int .i64 0] rfl rfl HB6.out rfl (by kernel_rfl) rfl ?_; intro u7 hb7 hs7))
                  have hk7 : Keep u5 u7 := Keep.write HK6.out hs7 (Nat.le_refl _)
                  have hl7 := hb7.lt
                  clear d0 d2 d4 d5 hs7
                  have hk47 := Keep.trans HK45.out hk7
                  have hp1 := ownsRow_same HO1.out hk47 (fun i hi => hi.2)
                  have hp2 := ownsRow_same HO2.out hk47 (fun i hi => hi.2)
                  have hbk7 := hk47.blk HBK.out hgl
                  have hz7 := hk47.size
                  have HK47 := Lib.hid hk47
                  have HP1 := Lib.hid hp1
                  have HP2 := Lib.hid hp2
                  have HBK7 := Lib.hid hbk7
                  have HB7 := Lib.hid hb7
                  clear hk47 hp1 hp2 hbk7 hb7
                  clear hk7
                  go_wp2_with (refine wpList_load_all rfl _ (.tmp 13) rfl u5.heap.size 45 [.int .i64 q, .int .i64 ev.kind, .int .i64 ev.frm, .int .i64 ev.sIdx, .int .i64 ev.ord, .int .i64 0] _ rfl HB7.out Try.underlying45 rfl (by kernel_rfl) ?_; refine Hid.out ?_)
                  refine Lib.hid ?_
                  refine wpList_buildX rfl 38 45 1 _ rfl Try.underlying38 _ [(0, .agg #[.int .i64 q, .int .i64 ev.kind, .int .i64 ev.frm, .int .i64 ev.sIdx, .int .i64 ev.ord, .int .i64 0])] rfl (builtS_ch _ _ _ _ _ _) ?_
                  intro u8 hb8 hk8 hz8
                  have hp2' := ownsRow_same HP2.out hk8 (fun i hi => hi.2)
                  have hrd : Reads u8 (fun i => i = u7.heap.size) 6 (some ⟨u7.heap.size, 0, none⟩) 1 (encCh (chS q ev)) := ⟨rfl, fun _ => ⟨_, 0, rfl, rfl, fun i u hu => by rw [hb8.cell]; rw [HCH.out] at hu; simpa [encCh] using hu⟩⟩
                  have HP2' := Lib.hid hp2'
                  have HRD := Lib.hid hrd
                  have HB8 := Lib.hid hb8
                  have HK8 := Lib.hid hk8
                  clear hp2' hrd hb8 hk8
                  go_wp2_with (at_builtin; refine wpList_append_any _ rfl (.tmp 121) (.tmp 123) 38 rfl B 45 iC _ 6 48 Try.underlying38 HI0.out IZ0.out IS0.out IB0.out rfl (by omega) (.slice Av m cv) m (out.flatMap encCh) rfl HP2'.out (fun i => i = u7.heap.size) (some ⟨u7.heap.size, 0, none⟩) 1 1 (encCh (chS q ev)) rfl HRD.out (encCh_one _) (by simp [maxLen]; omega) (by omega) (by omega) ?_; intro vz wz howz hgz hatz; refine Hid.out ?_)
                  refine Lib.hid ?_
                  have hk48 := Keep.trans HK47.out HK8.out
                  have hgs : Same (fun i => i < u8.heap.size ∧ (Value.slice Av m cv).ownBlock ≠ some i) u8 wz := Same.grown ((Same.refl _ _)) hgz (fun i hi => hi.1) (fun k' hk' hS' => hS'.2 hk')
                  have hng : (Value.slice Av m cv).ownBlock ≠ some ga := fun h => HDJ.out ga h rfl
                  have hz48 := hk48.size
                  have hbz := hgs.blk (hk48.blk HBK.out hgl) ⟨by omega, hng⟩
                  have hvg : vz.ownBlock ≠ some ga := fun h => by
                    rcases hatz with h1 | h1
                    · exact hng (h1 ▸ h)
                    · rw [h] at h1
                      simp at h1
                      omega
                  have x4 : wz.cell? ⟨ga, q, none⟩ = some (.int .i64 an) := by rw [hbz.cell]; exact HCQ.out
                  have hkz : Keep wd wz := Same.append (Keep.trans HKR.out hk48) HP2'.out hgz (fun i hi => by have := HZB.out; have : i < wd.heap.size := hi; omega) (by omega)
                  obtain ⟨Az, cz, hvz, -, -⟩ := own_form howz
                  subst hvz
                  have HBZ := Lib.hid hbz
                  have HVG := Lib.hid hvg
                  have HKZ := Lib.hid hkz
                  have HOWZ := Lib.hid howz
                  clear hbz hvg hkz howz
                  clear hgs hng hgz hatz hk48
                  go_wp2_with (refine wpList_store_one rfl _ (.tmp 130) (.tmp 129) rfl ga q 3 cur (.int .i64 (an + 1)) rfl rfl HBZ.out hqc (by kernel_rfl) rfl rfl ?_; intro w9 hb9 hs9)
                  go_roundg (leftS (incS at_ q) to_)
                  case measure => exact leftS_inc at_ to_ q (by have := HR.out.1; have := HNL.out; omega) (by have := HR.out.2.1; have := HNL.out; omega) HLT2.out
                  case rel =>
                    have hql : q < l.length := by have := HNL.out; omega
                    have hi : incS at_ q = at_.set q ((an : Int) + 1) := by unfold incS; rw [G1'.out]
                    have hll := leftS_inc at_ to_ q (by have := HR.out.1; omega) (by have := HR.out.2.1; omega) HLT2.out
                    have hrow : w9.ownsRow B 3 1 (.slice (some ⟨ga, 0, none⟩) k ca) k ((incS at_ q).flatMap encI) := by
                      rw [hi]
                      exact row_put (k := q) (o := 0) encI_len hbg (by simpa using hb9) HCS.out hnc hcm HTK.out (by have := HR.out.1; have := HNL.out; omega) HAV'.out (by omega) rfl
                    have hx : (out ++ [chS q ev]).flatMap encCh = out.flatMap encCh ++ encCh (chS q ev) := by simp
                    have hox : w9.ownsRow B 45 6 (.slice Az (m + 1) cz) (out ++ [chS q ev]).length ((out ++ [chS q ev]).flatMap encCh) := by
                      rw [hx, List.length_append, HML.out]
                      exact ownsRow_own HOWZ.out hs9 (fun b hb e => HVG.out (e ▸ hb))
                    exact ⟨incS at_ q, out ++ [chS q ev], rfl, HR.out.inc hql HLT2.out, by have := HML.out; simp; omega, fun r h => HSC.out r (.step HNE.out ⟨hql, HCV.out, HNO.out⟩ (by rw [HEA.out]; exact h)), hrow, hox, fun b hb h => HVG.out (by simp at h; rw [h]; exact hb), Keep.write HKZ.out hs9 (by have := HZB.out; omega)⟩
                · have t9 : (ev.kind == 1) = false := by simpa using hk1
                  have hch : chS q ev = ⟨q, ev.kind, 0, 0, 0, ev.val⟩ := by unfold chS; rw [if_neg hk1]
                  have HCH := Lib.hid hch
                  clear hch
                  clear hk1
                  go_upto_region 16 with (first
                    | (refine wpList_bld rfl 45 _ rfl _ [(0, .int .i64 q), (1, .int .i64 ev.kind), (5, .int .i64 ev.val)] rfl (bld_ch3 _ _ _) ?_)
                    | (refine wpList_store_all rfl _ (.tmp 13) (.tmp 106) rfl u5.heap.size 45 _ [.int .i64 q, .int .i64 ev.kind, .int .i64 0, .int .i64 0, .int .i64 0, .int .i64 ev.val] rfl rfl (Blk.new _ _ _) rfl (by kernel_rfl) rfl ?_; intro u6 hb6 hs6))
                  have hk6 : Keep u5 u6 := Keep.write (Keep.new _ _) hs6 (Nat.le_refl _)
                  have hl6 := hb6.lt
                  have hv6 := hk6.blk HV5.out hg5
                  have d0 : u6.cell? ⟨g, 0, none⟩ = some (.int .i64 ev.kind) := by rw [hv6.cell]; rfl
                  clear c0 c6
                  go_upto_region 18 with fail
                  obtain ⟨u7, rfl⟩ : ∃ u7 : World, u7 = u6 := ⟨_, rfl⟩
                  have hk7 := hk6
                  have hl7 := hl6
                  have hb7 := hb6
                  clear hs6 hv6 d0 hb6 hk6
                  have hk47 := Keep.trans HK45.out hk7
                  have hp1 := ownsRow_same HO1.out hk47 (fun i hi => hi.2)
                  have hp2 := ownsRow_same HO2.out hk47 (fun i hi => hi.2)
                  have hbk7 := hk47.blk HBK.out hgl
                  have hz7 := hk47.size
                  have HK47 := Lib.hid hk47
                  have HP1 := Lib.hid hp1
                  have HP2 := Lib.hid hp2
                  have HBK7 := Lib.hid hbk7
                  have HB7 := Lib.hid hb7
                  clear hk47 hp1 hp2 hbk7 hb7
                  clear hk7
                  go_wp2_with (refine wpList_load_all rfl _ (.tmp 13) rfl u5.heap.size 45 [.int .i64 q, .int .i64 ev.kind, .int .i64 0, .int .i64 0, .int .i64 0, .int .i64 ev.val] _ rfl HB7.out Try.underlying45 rfl (by kernel_rfl) ?_; refine Hid.out ?_)
                  refine Lib.hid ?_
                  refine wpList_buildX rfl 38 45 1 _ rfl Try.underlying38 _ [(0, .agg #[.int .i64 q, .int .i64 ev.kind, .int .i64 0, .int .i64 0, .int .i64 0, .int .i64 ev.val])] rfl (builtS_ch _ _ _ _ _ _) ?_
                  intro u8 hb8 hk8 hz8
                  have hp2' := ownsRow_same HP2.out hk8 (fun i hi => hi.2)
                  have hrd : Reads u8 (fun i => i = u7.heap.size) 6 (some ⟨u7.heap.size, 0, none⟩) 1 (encCh (chS q ev)) := ⟨rfl, fun _ => ⟨_, 0, rfl, rfl, fun i u hu => by rw [hb8.cell]; rw [HCH.out] at hu; simpa [encCh] using hu⟩⟩
                  have HP2' := Lib.hid hp2'
                  have HRD := Lib.hid hrd
                  have HB8 := Lib.hid hb8
                  have HK8 := Lib.hid hk8
                  clear hp2' hrd hb8 hk8
                  go_wp2_with (at_builtin; refine wpList_append_any _ rfl (.tmp 121) (.tmp 123) 38 rfl B 45 iC _ 6 48 Try.underlying38 HI0.out IZ0.out IS0.out IB0.out rfl (by omega) (.slice Av m cv) m (out.flatMap encCh) rfl HP2'.out (fun i => i = u7.heap.size) (some ⟨u7.heap.size, 0, none⟩) 1 1 (encCh (chS q ev)) rfl HRD.out (encCh_one _) (by simp [maxLen]; omega) (by omega) (by omega) ?_; intro vz wz howz hgz hatz; refine Hid.out ?_)
                  refine Lib.hid ?_
                  have hk48 := Keep.trans HK47.out HK8.out
                  have hgs : Same (fun i => i < u8.heap.size ∧ (Value.slice Av m cv).ownBlock ≠ some i) u8 wz := Same.grown ((Same.refl _ _)) hgz (fun i hi => hi.1) (fun k' hk' hS' => hS'.2 hk')
                  have hng : (Value.slice Av m cv).ownBlock ≠ some ga := fun h => HDJ.out ga h rfl
                  have hz48 := hk48.size
                  have hbz := hgs.blk (hk48.blk HBK.out hgl) ⟨by omega, hng⟩
                  have hvg : vz.ownBlock ≠ some ga := fun h => by
                    rcases hatz with h1 | h1
                    · exact hng (h1 ▸ h)
                    · rw [h] at h1
                      simp at h1
                      omega
                  have x4 : wz.cell? ⟨ga, q, none⟩ = some (.int .i64 an) := by rw [hbz.cell]; exact HCQ.out
                  have hkz : Keep wd wz := Same.append (Keep.trans HKR.out hk48) HP2'.out hgz (fun i hi => by have := HZB.out; have : i < wd.heap.size := hi; omega) (by omega)
                  obtain ⟨Az, cz, hvz, -, -⟩ := own_form howz
                  subst hvz
                  have HBZ := Lib.hid hbz
                  have HVG := Lib.hid hvg
                  have HKZ := Lib.hid hkz
                  have HOWZ := Lib.hid howz
                  clear hbz hvg hkz howz
                  clear hgs hng hgz hatz hk48
                  go_wp2_with (refine wpList_store_one rfl _ (.tmp 130) (.tmp 129) rfl ga q 3 cur (.int .i64 (an + 1)) rfl rfl HBZ.out hqc (by kernel_rfl) rfl rfl ?_; intro w9 hb9 hs9)
                  go_roundg (leftS (incS at_ q) to_)
                  case measure => exact leftS_inc at_ to_ q (by have := HR.out.1; have := HNL.out; omega) (by have := HR.out.2.1; have := HNL.out; omega) HLT2.out
                  case rel =>
                    have hql : q < l.length := by have := HNL.out; omega
                    have hi : incS at_ q = at_.set q ((an : Int) + 1) := by unfold incS; rw [G1'.out]
                    have hll := leftS_inc at_ to_ q (by have := HR.out.1; omega) (by have := HR.out.2.1; omega) HLT2.out
                    have hrow : w9.ownsRow B 3 1 (.slice (some ⟨ga, 0, none⟩) k ca) k ((incS at_ q).flatMap encI) := by
                      rw [hi]
                      exact row_put (k := q) (o := 0) encI_len hbg (by simpa using hb9) HCS.out hnc hcm HTK.out (by have := HR.out.1; have := HNL.out; omega) HAV'.out (by omega) rfl
                    have hx : (out ++ [chS q ev]).flatMap encCh = out.flatMap encCh ++ encCh (chS q ev) := by simp
                    have hox : w9.ownsRow B 45 6 (.slice Az (m + 1) cz) (out ++ [chS q ev]).length ((out ++ [chS q ev]).flatMap encCh) := by
                      rw [hx, List.length_append, HML.out]
                      exact ownsRow_own HOWZ.out hs9 (fun b hb e => HVG.out (e ▸ hb))
                    exact ⟨incS at_ q, out ++ [chS q ev], rfl, HR.out.inc hql HLT2.out, by have := HML.out; simp; omega, fun r h => HSC.out r (.step HNE.out ⟨hql, HCV.out, HNO.out⟩ (by rw [HEA.out]; exact h)), hrow, hox, fun b hb h => HVG.out (by simp at h; rw [h]; exact hb), Keep.write HKZ.out hs9 (by have := HZB.out; omega)⟩
            · have htv' : (an : Int) = tv := by omega
              have t1 : ((an : Int) == tv) = true := by simpa using htv'
              have hcf : canS l to_ at_ q = false := by unfold canS; rw [g1, g2]; simp [hlt]
              have hfin : ∀ wx, Keep wr wx → RcL3 l to_ at_ k wo (.int .i64 ((q : Int) + 1)) wx := fun wx hx => ⟨q + 1, by go_num, by omega, fun j hj => (by
                rcases Nat.lt_or_ge j q with h | h
                · exact hno j h
                · obtain rfl : j = q := by omega
                  exact hcf), Keep.trans hkq hx⟩
              have HFIN := Lib.hid hfin
              clear hfin
              clear hca hc2 hc0 hav htv hev hse g1 g2 g0 hrq hne9 hno hkq hbk htk hcs hcf hsmq hkwq hlt htv'
              go_upto_region 11 with fail
              go_quiet (fail)
              go_wp2_with fail
              go_roundw
              case rel => exact HFIN.out _ (Keep.draws _ _)
              case measure => simp [intOf]; omega
          · have hd1 : decide (q < k) = false := by simpa using hqn
            have hd1' : decide ((q : Int) < (k : Int)) = false := by simp; omega
            obtain rfl : q = k := by omega
            have hrel4 : ∀ wx, Keep wr wx → RcL4 to_ at_ q wr (.int .i64 0) wx := fun wx hx => ⟨0, rfl, Nat.zero_le _, fun j hj => absurd hj (by omega), hx⟩
            obtain ⟨wf, rfl⟩ : ∃ wf : World, wf = wr := ⟨_, rfl⟩
            have HREL4 := Lib.hid hrel4
            have HNO := Lib.hid hno
            have HKQ := Lib.hid hkq
            have HKWQ := Lib.hid hkwq
            clear hrel4 hno hkq hkwq
            clear hsmq
            go_upto_region 11 with fail
            go_quiet (fail)
            go_wp2_with fail
            go_loopw [14] (fun i wr => RcL4 to_ at_ q wf i wr) (fun i _ => q - (intOf i).toNat)
            case atStart => exact HREL4.out _ (Keep.draws _ _)
            case round =>
              clear HREL4
              obtain ⟨p, rfl, hpq, heq, hkp⟩ := hrel
              have hkwp := Keep.trans HKWQ.out hkp
              have hko := Keep.trans HKQ.out hkp
              have hsmp : Same S wd wr := Same.mono hkwp (fun i hi => by have := HS.out i hi; omega)
              by_cases hpn : p < q
              · obtain ⟨ga, oa, av, rfl, hSa, hav, hca⟩ := ((own_ints HO1.out).keep (hko.mono (fun i hi => hi.2))).at_ encI_len hpn
                obtain ⟨b2, off2, tv, rfl, hS2, htv, hc2⟩ := (HTD.out.keep hsmp).at_ encI_len hpn
                have e1 : decide (p < q) = true := by simpa using hpn
                have e1' : decide ((p : Int) < (q : Int)) = true := by simp; omega
                have e2 : (0 : Int) ≤ p := by omega
                have e3 : (p : Int) < q := by omega
                have x1 : wr.cell? ⟨ga, oa + p, none⟩ = some (.int .i64 av) := by have := hca 0 _ rfl; simpa using this
                have x2 : wr.cell? ⟨b2, off2 + p, none⟩ = some (.int .i64 tv) := by have := hc2 0 _ rfl; simpa using this
                have g1 := getD_of (d := 0) hav
                have g2 := getD_of (d := 0) htv
                by_cases hav2 : av = tv
                · have t7 : (av != tv) = false := by simpa using hav2
                  have hfin : ∀ wx, Keep wr wx → RcL4 to_ at_ q wf (.int .i64 ((p : Int) + 1)) wx := fun wx hx => ⟨p + 1, by go_num, by omega, fun j hj => (by
                    rcases Nat.lt_or_ge j p with h | h
                    · exact heq j h
                    · obtain rfl : j = p := by omega
                      rw [g1, g2, hav2]), Keep.trans hkp hx⟩
                  have HFIN := Lib.hid hfin
                  clear hfin
                  clear hca hc2 hav htv g1 g2 heq hkp hkwp hko hsmp hav2
                  go_upto_region 23 with fail
                  go_quiet (fail)
                  go_wp2_with fail
                  go_roundw
                  case rel => exact HFIN.out _ (Keep.draws _ _)
                  case measure => simp [intOf]; omega
                · have t7 : (av != tv) = true := by simpa using hav2
                  have hne : at_ ≠ to_ := fun h => hav2 (by rw [← g1, ← g2, h])
                  have hfin : ∀ wx, Keep wr wx → SchPost l fr to_ w (.returned (.tuple #[.slice none 0 0, .bool false])) wx := fun wx hx => ⟨none, .inl ⟨HRNG.out, HSC.out _ (.stuck hne (fun j hj => HNO.out j (by have := HNL.out; omega)))⟩, Keep.trans HKD.out (Keep.trans hkwp hx), .inl ⟨rfl, rfl⟩⟩
                  have HFIN := Lib.hid hfin
                  clear hfin
                  clear hca hc2 hav htv g1 g2 heq hkp hkwp hko hsmp hav2 hne
                  go_upto_region 23 with fail
                  go_quiet (fail)
                  go_wp2_with fail
                  go_ret2
                  exact HFIN.out _ (Keep.draws _ _)
              · have e1 : decide (p < q) = false := by simpa using hpn
                have e1' : decide ((p : Int) < (q : Int)) = false := by simp; omega
                have he : at_ = to_ := ext_getD (by have := HR.out.1; have := HR.out.2.1; omega) (fun j hj => heq j (by have := HR.out.1; have := HNL.out; omega))
                have hfin : SchPost l fr to_ w (.returned (.tuple #[.slice Av m cv, .bool true])) wr := ⟨some out, .inl ⟨HRNG.out, HSC.out _ (.done he)⟩, Keep.trans HKD.out hkwp, .inr ⟨out, Av, m, cv, rfl, rfl, (own_chs (ownsRow_same HO2.out hko (fun i hi => hi.2))).more (fun i hi => ⟨by have := hi.1; have := HZB.out; omega, hi.2⟩)⟩⟩
                have HFIN := Lib.hid hfin
                clear hfin
                clear heq hkp hkwp hko hsmp he
                go_wp2_with fail
                go_ret2
                exact HFIN.out
end Go.Proofs.Ytcfpkmfppgodmaa
