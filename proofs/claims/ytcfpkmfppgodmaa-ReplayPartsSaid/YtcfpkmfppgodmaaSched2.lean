/- replay.Schedule. -/
import Derived.Test.YtcfpkmfppgodmaaSchedS
import Derived.Test.YtcfpkmfppgodmaaGA
import Derived.Test.YtcfpkmfppgodmaaRow
set_option linter.unusedVariables false
set_option linter.unusedSimpArgs false
set_option maxRecDepth 100000
namespace Go.Proofs.Ytcfpkmfppgodmaa
open Go.RowKit Go.Proofs

def SchPost (l : List (List Ev)) (fr to_ : List Int) (w : World) (e : Ending) (w' : World) : Prop :=
  ∃ r, SchIs l fr to_ r ∧ Keep w w' ∧ ((r = none ∧ e = .returned (.tuple #[.slice none 0 0, .bool false])) ∨ ∃ (out : List Chc) (A : Option Addr) (n c : Nat), r = some out ∧ e = .returned (.tuple #[.slice A n c, .bool true]) ∧ Sl encCh 6 w' (fun i => w.heap.size ≤ i ∧ i < w'.heap.size) A n c out)
theorem leftS_le {K : Nat} : ∀ (at_ to_ : List Int), (∀ q, q < at_.length → to_.getD q 0 - at_.getD q 0 ≤ K) → leftS at_ to_ ≤ at_.length * K
  | [], _, _ => by simp [leftS]
  | _ :: _, [], _ => by simp [leftS]
  | a :: ar, t :: ts, h => by
    have h0 := h 0 (by simp)
    have ih := leftS_le (K := K) ar ts (fun q hq => by have := h (q + 1) (by simpa using hq); simpa using this)
    simp at h0
    simp only [leftS, List.length_cons, Nat.add_mul]
    omega
theorem Rng.left {l : List (List Ev)} {at_ to_ : List Int} (h : Rng l at_ to_) (hl : ∀ x ∈ l, x.length ≤ 100000) : leftS at_ to_ ≤ l.length * 100000 := by
  have := leftS_le (K := 100000) at_ to_ (fun q hq => by
    have h3 := h.2.2 q (by rw [← h.1]; exact hq)
    have hx : (l.getD q []).length ≤ 100000 := by
      have hq' : q < l.length := by rw [← h.1]; exact hq
      simp only [List.getD, List.getElem?_eq_getElem hq', Option.getD_some]
      exact hl _ (List.getElem_mem hq')
    omega)
  rw [h.1] at this
  exact this
theorem getD_of {α : Type} {l : List α} {k : Nat} {a d : α} (h : l[k]? = some a) : l.getD k d = a := by simp [List.getD, h]
def ScL1 (l : List (List Ev)) (fr to_ : List Int) (W : World) (i : Value) (wr : World) : Prop := ∃ k : Nat, i = .int .i64 k ∧ k ≤ l.length ∧ (∀ q, q < k → 0 ≤ fr.getD q 0 ∧ fr.getD q 0 ≤ to_.getD q 0 ∧ to_.getD q 0 ≤ (l.getD q []).length) ∧ Keep W wr
def ScL2 (l : List (List Ev)) (fr to_ : List Int) (k B : Nat) (W : World) (Aa : Option Addr) (ca gk : Nat) (v : Value) (wr : World) : Prop :=
  ∃ (at_ : List Int) (out : List Chc), gk = leftS at_ to_ ∧ Rng l at_ to_ ∧ out.length + gk ≤ leftS fr to_ ∧ (∀ r, Sched l to_ at_ out r → Sched l to_ fr [] r) ∧ wr.ownsRow B 3 1 (.slice Aa k ca) k (at_.flatMap encI) ∧ wr.ownsRow B 45 6 v out.length (out.flatMap encCh) ∧ (∀ b, v.ownBlock = some b → Aa.map (·.block) ≠ some b) ∧ Keep W wr
def ScL3 (l : List (List Ev)) (to_ at_ : List Int) (out : List Chc) (k m B : Nat) (W : World) (Aa : Option Addr) (ca : Nat) (v : Value) (gk : Nat) (x i : Value) (wr : World) : Prop :=
  ∃ q : Nat, x = v ∧ i = .int .i64 q ∧ gk + q = k ∧ (∀ j, j < q → canS l to_ at_ j = false) ∧ wr.ownsRow B 3 1 (.slice Aa k ca) k (at_.flatMap encI) ∧ wr.ownsRow B 45 6 v m (out.flatMap encCh) ∧ Keep W wr
theorem own_ints {w : World} {B k ca : Nat} {Aa : Option Addr} {l : List Int} (h : w.ownsRow B 3 1 (.slice Aa k ca) k (l.flatMap encI)) : Sl encI 1 w (fun i => B ≤ i ∧ i < w.heap.size) Aa k ca l := by
  obtain ⟨A', c', e1, h1, h2⟩ := own_form h
  simp only [Value.slice.injEq, true_and] at e1
  obtain ⟨rfl, rfl⟩ := e1
  have hl : k = l.length := by have := h.1; rw [flat_length encI_len] at this; omega
  exact ⟨hl, h1, h2, Reads.of_own h⟩
theorem own_chs {w : World} {B m c : Nat} {A : Option Addr} {l : List Chc} (h : w.ownsRow B 45 6 (.slice A m c) m (l.flatMap encCh)) : Sl encCh 6 w (fun i => B ≤ i ∧ i < w.heap.size) A m c l := by
  obtain ⟨A', c', e1, h1, h2⟩ := own_form h
  simp only [Value.slice.injEq, true_and] at e1
  obtain ⟨rfl, rfl⟩ := e1
  have hl : m = l.length := by have := h.1; rw [flat_length encCh_len] at this; omega
  exact ⟨hl, h1, h2, Reads.of_own h⟩
theorem builtS_ch (a b c d e f : Int) : builtS Try.prog 45 1 [(0, .agg #[.int .i64 a, .int .i64 b, .int .i64 c, .int .i64 d, .int .i64 e, .int .i64 f])] = some #[.int .i64 a, .int .i64 b, .int .i64 c, .int .i64 d, .int .i64 e, .int .i64 f] := by kernel_rfl
set_option maxHeartbeats 16000000 in
theorem schedule_any (w : World) (S : Nat → Prop) (A A1 A2 : Option Addr) (n c n1 c1 n2 c2 : Nat) (l : List (List Ev)) (fr to_ : List Int) (hS : ∀ i, S i → i < w.heap.size) (hl : SlR w S 1 (EvsR w S) A n c l) (hf : Sl encI 1 w S A1 n1 c1 fr) (ht : Sl encI 1 w S A2 n2 c2 to_)
    (hn : n ≤ 1000) (hlen : ∀ x ∈ l, x.length ≤ 100000) (hn1 : n1 ≤ 1000000) (hn2 : n2 ≤ 1000000) : Calls Try.prog 14 #[.slice A n c, .slice A1 n1 c1, .slice A2 n2 c2] w (SchPost l fr to_ w) := by
  have hnl := hl.1
  have hnf := hf.1
  have hnt := ht.1
  have bad : ¬ Rng l fr to_ → ∀ w', Keep w w' → SchPost l fr to_ w (.returned (.tuple #[.slice none 0 0, .bool false])) w' := fun h w' hk => ⟨none, .inr ⟨h, rfl⟩, hk, .inl ⟨rfl, rfl⟩⟩
  have BAD := Lib.hid bad
  have HLEN := Lib.hid hlen
  have HS := Lib.hid hS
  have HL := Lib.hid hl
  have HF := Lib.hid hf
  have HT := Lib.hid ht
  clear bad hlen hS hl hf ht
  by_cases h1 : n1 = n
  case neg =>
    have t1 : ((n1 : Int) != n) = true := by simp; omega
    have t1' : (n1 != n) = true := by simpa using h1
    have hb := BAD.out (fun h => h1 (by have := h.1; omega)) w (Same.refl _ _)
    have HB := Lib.hid hb
    have HNL := Lib.hid hnl
    have HNF := Lib.hid hnf
    have HNT := Lib.hid hnt
    clear hb hnl hnf hnt
    clear h1
    go_enter Try.func14, Try.ntmps14
    go_wp2_with fail
    go_step3
    go_wp2_with fail
    rw [Exit.noGoto_ret]
    go_ret2
    exact HB.out
  subst h1
  by_cases h2 : n2 = n1
  case neg =>
    have t2 : ((n2 : Int) != n1) = true := by simp; omega
    have t2' : (n2 != n1) = true := by simpa using h2
    have hb := BAD.out (fun h => h2 (by have := h.1; have := h.2.1; omega)) w (Same.refl _ _)
    have HB := Lib.hid hb
    have HNL := Lib.hid hnl
    have HNF := Lib.hid hnf
    have HNT := Lib.hid hnt
    clear hb hnl hnf hnt
    clear h2
    go_enter Try.func14, Try.ntmps14
    go_wp2_with fail
    go_step3
    go_wp2_with fail
    rw [Exit.noGoto_ret]
    go_ret2
    exact HB.out
  subst h2
  have hlf : fr.length = l.length ∧ to_.length = l.length := by omega
  have HNL := Lib.hid hnl
  have HNF := Lib.hid hnf
  have HNT := Lib.hid hnt
  have HLF := Lib.hid hlf
  clear hnl hnf hnt hlf
  go_enter Try.func14, Try.ntmps14
  go_wp2_with fail
  go_step3
  go_wp2_with fail
  go_loopw [28] (fun i wr => ScL1 l fr to_ w i wr) (fun i _ => n2 - (intOf i).toNat)
  case atStart => exact ⟨0, rfl, Nat.zero_le _, fun q hq => absurd hq (by omega), Same.refl _ _⟩
  case round =>
    obtain ⟨k, rfl, hkl, hall, hkr⟩ := hrel
    have hsm := Same.mono hkr HS.out
    by_cases hkn : k < n2
    · obtain ⟨b1, off1, fv, rfl, -, hfv, hc1⟩ := (HF.out.keep hsm).at_ encI_len hkn
      obtain ⟨b2, off2, tv, rfl, -, htv, hc2⟩ := (HT.out.keep hsm).at_ encI_len hkn
      obtain ⟨b0, off0, cs, evs, rfl, -, hev, ⟨Ae, ne, ce, rfl, hse⟩, -, hc0⟩ := (HL.out.keep hsm (EvsR.keep hsm)).at_ hkn
      have hd1 : decide (k < n2) = true := by simpa using hkn
      have hd2 : (0 : Int) ≤ k := by omega
      have hd3 : (k : Int) < n2 := by omega
      have x1 : wr.cell? ⟨b1, off1 + k, none⟩ = some (.int .i64 fv) := by have := hc1 0 _ rfl; simpa using this
      have x2 : wr.cell? ⟨b2, off2 + k, none⟩ = some (.int .i64 tv) := by have := hc2 0 _ rfl; simpa using this
      have x0 : wr.cell? ⟨b0, off0 + k, none⟩ = some (.slice Ae ne ce) := by have := hc0 0 _ rfl; simpa using this
      have g1 := getD_of (d := 0) hfv
      have g2 := getD_of (d := 0) htv
      have g0 := getD_of (d := []) hev
      have hne := hse.1
      have hkl1 : k + 1 ≤ l.length := by have := HNL.out; omega
      have hnx : ∀ w', Keep wr w' → ¬ (0 ≤ fv ∧ fv ≤ tv ∧ tv ≤ ne) → SchPost l fr to_ w (.returned (.tuple #[.slice none 0 0, .bool false])) w' := fun w' hk' hno => BAD.out (fun h => hno (by have := h.2.2 k (by omega); rw [g1, g2, g0] at this; omega)) w' (Keep.trans hkr hk')
      have hok : (0 ≤ fv ∧ fv ≤ tv ∧ tv ≤ ne) → ∀ w', Keep wr w' → ScL1 l fr to_ w (.int .i64 (k + 1)) w' := fun hr w' hk' => ⟨k + 1, by simp, hkl1, fun q hq => by
        rcases Nat.lt_or_ge q k with h | h
        · exact hall q h
        · obtain rfl : q = k := by omega
          rw [g1, g2, g0]
          omega, Keep.trans hkr hk'⟩
      have HNX := Lib.hid hnx
      have HOK := Lib.hid hok
      clear hnx hok
      clear hc1 hc2 hc0 hall g1 g2 g0 hne hse hfv htv hev hkl1 hkr hsm
      by_cases q1 : fv < 0
      · have t1 : decide (fv < 0) = true := by simpa using q1
        go_upto_region 6 with fail
        go_quiet (fail)
        go_wp2_with fail
        (try rw [Exit.noGoto_ret])
        go_ret2
        exact HNX.out _ (Keep.draws _ _) (by omega)
      have t1 : decide (fv < 0) = false := by simpa using q1
      by_cases q2 : tv < fv
      · have t2 : decide (tv < fv) = true := by simpa using q2
        go_upto_region 6 with fail
        go_quiet (fail)
        go_wp2_with fail
        (try rw [Exit.noGoto_ret])
        go_ret2
        exact HNX.out _ (Keep.draws _ _) (by omega)
      have t2 : decide (tv < fv) = false := by simpa using q2
      by_cases q3 : (ne : Int) < tv
      · have t3 : decide ((ne : Int) < tv) = true := by simpa using q3
        go_upto_region 6 with fail
        go_quiet (fail)
        go_wp2_with fail
        (try rw [Exit.noGoto_ret])
        go_ret2
        exact HNX.out _ (Keep.draws _ _) (by omega)
      have t3 : decide ((ne : Int) < tv) = false := by simpa using q3
      go_upto_region 6 with fail
      go_quiet (fail)
      go_wp2_with fail
      go_roundw
      case rel => exact HOK.out ⟨by omega, by omega, by omega⟩ _ (Keep.draws _ _)
      case measure => simp [intOf]; omega
    · have hd1 : decide (k < n2) = false := by simpa using hkn
      obtain rfl : k = n2 := by have := HNL.out; omega
      have hrng : Rng l fr to_ := ⟨HLF.out.1, HLF.out.2, fun q hq => hall q (by have := HNL.out; omega)⟩
      have hM := hrng.left HLEN.out
      obtain ⟨wd, rfl⟩ : ∃ wd : World, wd = wr := ⟨_, rfl⟩
      have hkd := hkr
      have hzd := hkd.size
      have key := cloneInts_any wd S A1 k c1 fr (HF.out.keep hsm) (fun i hi => by have := HS.out i hi; omega) (by omega)
      have hfd := HF.out.keep hsm
      have htd := HT.out.keep hsm
      have hld := HL.out.keep hsm (EvsR.keep hsm)
      have hMx : leftS fr to_ ≤ 100000000 := by have := HNL.out; omega
      have HRNG := Lib.hid hrng
      have KEY := Lib.hid key
      have HKD := Lib.hid hkd
      have HFD := Lib.hid hfd
      have HTD := Lib.hid htd
      have HLD := Lib.hid hld
      have HMX := Lib.hid hMx
      clear hrng key hkd hfd htd hld hMx
      clear hall hM hsm hkr
      go_wp2_with fail
      refine KEY.out.mono ?_
      rintro e w2 ⟨va, rfl, hoa, hka⟩
      have hfl : fr.length = k := by have := HNF.out; omega
      rw [hfl] at hoa
      obtain ⟨Aa, ca, hva, -, -⟩ := own_form hoa
      subst hva
      have hz2 := hka.size
      obtain ⟨iC, hi0, iz0, is0, ib0⟩ := info_of info_Choice
      have hrel0 : ScL2 l fr to_ k wd.heap.size wd Aa ca (leftS fr to_) (.slice none 0 0) w2 := ⟨fr, [], rfl, HRNG.out, by simp, fun r h => h, hoa, World.ownsRow_nil _ _ _ _, fun b hb => (by cases hb), hka⟩
      have HREL0 := Lib.hid hrel0
      have HI0 := Lib.hid hi0
      have IZ0 := Lib.hid iz0
      have IS0 := Lib.hid is0
      have IB0 := Lib.hid ib0
      clear hrel0 hi0 iz0 is0 ib0
      clear hoa hka KEY hfl
      go_wp2_with fail
      go_step3
      go_wp2_with fail
      go_loopg [11] (leftS fr to_) (fun gk v wr => ScL2 l fr to_ k wd.heap.size wd Aa ca gk v wr)
      case atStart => exact HREL0.out
      case round =>
        clear HREL0
        obtain ⟨at_, out, rfl, hr, hol, hsc, ho1, ho2, hdj, hkr⟩ := hrel
        obtain ⟨Av, cv, rfl, hv1, hv2⟩ := own_form ho2
        have hzr := hkr.size
        have key := equalInts_is wr _ S Aa A2 k k ca c2 at_ to_ (own_ints ho1) (HTD.out.keep (Same.mono hkr (fun i hi => by have := HS.out i hi; omega))) (by omega) (by omega)
        generalize hml : out.length = m at *
        have HR := Lib.hid hr
        have HSC := Lib.hid hsc
        have HO1 := Lib.hid ho1
        have HO2 := Lib.hid ho2
        have HDJ := Lib.hid hdj
        have HKR := Lib.hid hkr
        have KEY := Lib.hid key
        have HML := Lib.hid hml
        clear hr hsc ho1 ho2 hdj hkr key hml
        go_wp2_with fail
        refine KEY.out.mono ?_
        rintro e w3 ⟨b3, hb3, rfl, j3, hw3⟩
        have hk3 : Keep wr w3 := hw3 ▸ Keep.draws wr j3
        clear hw3 KEY
        cases b3 with
        | true =>
          have he : at_ = to_ := hb3.1 rfl
          have hfin : SchPost l fr to_ w (.returned (.tuple #[.slice Av m cv, .bool true])) w3 := ⟨some out, .inl ⟨HRNG.out, HSC.out _ (.done he)⟩, Keep.trans HKD.out (Keep.trans HKR.out hk3), .inr ⟨out, Av, m, cv, rfl, rfl, (own_chs (ownsRow_same HO2.out hk3 (fun i hi => hi.2))).more (fun i hi => ⟨by have := hi.1; omega, hi.2⟩)⟩⟩
          have HFIN := Lib.hid hfin
          clear hfin
          clear he hb3 hk3
          go_wp2_with fail
          (try rw [Exit.noGoto_ret])
          go_ret2
          exact HFIN.out
        | false =>
          have hne : at_ ≠ to_ := fun h => (by have := hb3.2 h; cases this)
          have hrel1 : ScL3 l to_ at_ out k m wd.heap.size wd Aa ca (.slice Av m cv) k (.slice Av m cv) (.int .i64 0) w3 := ⟨0, rfl, rfl, by omega, fun j hj => absurd hj (by omega), ownsRow_same HO1.out hk3 (fun i hi => hi.2), ownsRow_same HO2.out hk3 (fun i hi => hi.2), Keep.trans HKR.out hk3⟩
          have hm9 : m ≤ 100000000 := by have := HMX.out; omega
          have HREL1 := Lib.hid hrel1
          have HNE := Lib.hid hne
          clear hrel1 hne
          clear hb3 hk3
          obtain ⟨wo, rfl⟩ : ∃ wo : World, wo = wr := ⟨_, rfl⟩
          go_wp2_with fail
          go_loopg [11, 67] k (fun gk x i wr => ScL3 l to_ at_ out k m wd.heap.size wd Aa ca (.slice Av m cv) gk x i wr)
          case atStart => exact HREL1.out
          case round =>
            clear HREL1
            obtain ⟨q, rfl, rfl, hgq, hno, hp1, hp2, hkq⟩ := hrel
            have hzq := hkq.size
            have hsmq : Same S wd wr := Same.mono hkq (fun i hi => by have := HS.out i hi; omega)
            by_cases hqn : q < k
            · obtain ⟨g, cur, rfl, hbg, hbk, hcs, hnc, hcm, htk⟩ := own_open hp1 (by omega)
              obtain ⟨ga, oa, av, haa, -, hav, hca⟩ := (own_ints hp1).at_ encI_len hqn
              simp only [Option.some.injEq, Addr.mk.injEq, and_true] at haa
              obtain ⟨rfl, rfl⟩ := haa
              obtain ⟨b2, off2, tv, rfl, hS2, htv, hc2⟩ := (HTD.out.keep hsmq).at_ encI_len hqn
              obtain ⟨b0, off0, cs, evs, rfl, hS0, hev, ⟨Ae, ne, ce, rfl, hse⟩, -, hc0⟩ := (HLD.out.keep hsmq (EvsR.keep hsmq)).at_ hqn
              have hd1 : decide (q < k) = true := by simpa using hqn
              have hd2 : (0 : Int) ≤ q := by omega
              have hd3 : (q : Int) < k := by omega
              have x1 : wr.cell? ⟨g, q, none⟩ = some (.int .i64 av) := by have := hca 0 _ rfl; simpa using this
              have x2 : wr.cell? ⟨b2, off2 + q, none⟩ = some (.int .i64 tv) := by have := hc2 0 _ rfl; simpa using this
              have x0 : wr.cell? ⟨b0, off0 + q, none⟩ = some (.slice Ae ne ce) := by have := hc0 0 _ rfl; simpa using this
              have g1 := getD_of (d := 0) hav
              have g2 := getD_of (d := 0) htv
              have g0 := getD_of (d := []) hev
              have hrq := HR.out.2.2 q (by have := HNL.out; omega)
              rw [g1, g2, g0] at hrq
              have hne9 : ne = evs.length := hse.1
              obtain ⟨an, rfl⟩ : ∃ an : Nat, av = an := ⟨av.toNat, by omega⟩
              have hlb : g < wr.heap.size := hbk.lt
              have hl2 : b2 < wr.heap.size := by have := HS.out _ hS2; omega
              have y1 : ∀ wx, Keep wr wx → wx.cell? ⟨g, q, none⟩ = some (.int .i64 an) := fun wx hx => (hx.cell (p := ⟨g, q, none⟩) hlb).trans x1
              have y2 : ∀ wx, Keep wr wx → wx.cell? ⟨b2, off2 + q, none⟩ = some (.int .i64 tv) := fun wx hx => (hx.cell (p := ⟨b2, off2 + q, none⟩) hl2).trans x2
              by_cases hlt : (an : Int) < tv
              · have t1 : decide ((an : Int) < tv) = true := by simpa using hlt
                obtain ⟨be, oe, ev, rfl, hSe, hee, hce⟩ := hse.at_ encEv_len (k := an) (by omega)
                have hea : evAt l at_ q = ev := by unfold evAt; rw [g0, g1]; simp [List.getD, hee]
                have hcan : canS l to_ at_ q = possS l at_ q ev := by unfold canS; rw [g1, g2, hea]; simp [hlt]
                have i0 : (0 : Int) ≤ an := by omega
                have i1 : (an : Int) < ne := by omega
                have hre : ∀ wx, Keep wr wx → wx.rangeAt be (oe + an * 7) [.int .i64 ev.kind, .int .i64 ev.inc, .int .i64 ev.frm, .int .i64 ev.sInc, .int .i64 ev.sIdx, .int .i64 ev.ord, .int .i64 ev.val] := fun wx hx i u hu => (hx.cell (p := ⟨be, oe + an * 7 + i, none⟩) (by have := HS.out _ hSe; show be < _; omega)).trans (hce i u hu)
                have hcq : cur[q]? = some (.int .i64 (an : Int)) := by rw [← hbk.cell]; exact x1
                have hne5 : ne ≤ 100000 := by have := HLEN.out _ (List.mem_of_getElem? hev); omega
                have hav' := hav
                have g1' := g1
                have hlt2 : at_.getD q 0 < to_.getD q 0 := by rw [g1, g2]; exact hlt
                have HRE := Lib.hid hre
                have HNO := Lib.hid hno
                have HP1 := Lib.hid hp1
                have HP2 := Lib.hid hp2
                have HKQ := Lib.hid hkq
                have HBK := Lib.hid hbk
                have HTK := Lib.hid htk
                have HEA := Lib.hid hea
                have HCAN := Lib.hid hcan
                have HCS := Lib.hid hcs
                have HCQ := Lib.hid hcq
                have HAV' := Lib.hid hav'
                have G1' := Lib.hid g1'
                have HLT2 := Lib.hid hlt2
                clear hre hno hp1 hp2 hkq hbk htk hea hcan hcs hcq hav' g1' hlt2
                clear hca hc2 hc0 hce hee hav htv hev hse g1 g2 g0 hrq hne9 x1 x2
                go_upto_region 15 with fail
                refine wp_region_L 99 (fun _ => True) (fun wx => Keep wr wx) (by kernel_rfl) trivial (Same.drew (Same.refl _ _)) (fun hA hB => ?_)
                generalize hu0 : wr.drew = u0 at hB ⊢
                clear hu0
                refine wpL_takeB (i := 0) (v := ?_) rfl (by kernel_rfl) (by kernel_rfl) (by kernel_rfl) (by decide) (fun _ _ _ h => h) (Or.inl ⟨by rfl, ?_⟩) (SAB.both hA hB) ?_
                rotate_left
                · intro wx hBx
                  (try dsimp only at hBx)
                  go_simp
                  try with_reducible rfl
                try simp only [Act.put, List.setIfInBounds_toArray, List.set_cons_zero, List.set_cons_succ]
                refine wpL_takeB (i := 1) (v := ?_) rfl (by kernel_rfl) (by kernel_rfl) (by kernel_rfl) (by decide) (fun _ _ _ h => h) (Or.inl ⟨by rfl, ?_⟩) (SAB.both hA hB) ?_
                rotate_left
                · intro wx hBx
                  (try dsimp only at hBx)
                  go_simp
                  try with_reducible rfl
                try simp only [Act.put, List.setIfInBounds_toArray, List.set_cons_zero, List.set_cons_succ]
                refine wpL_takeB (i := 2) (v := ?_) rfl (by kernel_rfl) (by kernel_rfl) (by kernel_rfl) (by decide) (fun _ _ _ h => h) (Or.inl ⟨by rfl, ?_⟩) (SAB.both hA hB) ?_
                rotate_left
                · intro wx hBx
                  (try dsimp only at hBx)
                  go_simp
                  try with_reducible rfl
                try simp only [Act.put, List.setIfInBounds_toArray, List.set_cons_zero, List.set_cons_succ]
                refine wpL_takeB (i := 3) (v := ?_) rfl (by kernel_rfl) (by kernel_rfl) (by kernel_rfl) (by decide) (fun _ _ _ h => h) (Or.inl ⟨by rfl, ?_⟩) (SAB.both hA hB) ?_
                rotate_left
                · intro wx hBx
                  (try dsimp only at hBx)
                  go_simp
                  try with_reducible rfl
                try simp only [Act.put, List.setIfInBounds_toArray, List.set_cons_zero, List.set_cons_succ]
                refine wpL_takeB (i := 4) (v := ?_) rfl (by kernel_rfl) (by kernel_rfl) (by kernel_rfl) (by decide) (fun _ _ _ h => h) (Or.inl ⟨by rfl, ?_⟩) (SAB.both hA hB) ?_
                rotate_left
                · intro wx hBx
                  (try dsimp only at hBx)
                  go_simp
                  try with_reducible rfl
                try simp only [Act.put, List.setIfInBounds_toArray, List.set_cons_zero, List.set_cons_succ]
                refine wpL_takeB (i := 5) (v := ?_) rfl (by kernel_rfl) (by kernel_rfl) (by kernel_rfl) (by decide) (fun _ _ _ h => h) (Or.inl ⟨by rfl, ?_⟩) (SAB.both hA hB) ?_
                rotate_left
                · intro wx hBx
                  (try dsimp only at hBx)
                  go_simp
                  try with_reducible rfl
                try simp only [Act.put, List.setIfInBounds_toArray, List.set_cons_zero, List.set_cons_succ]
                refine wpL_takeB (i := 6) (v := ?_) rfl (by kernel_rfl) (by kernel_rfl) (by kernel_rfl) (by decide) (fun _ _ _ h => h) (Or.inl ⟨by rfl, ?_⟩) (SAB.both hA hB) ?_
                rotate_left
                · intro wx hBx
                  (try dsimp only at hBx)
                  go_simp
                  try with_reducible rfl
                try simp only [Act.put, List.setIfInBounds_toArray, List.set_cons_zero, List.set_cons_succ]
                refine wpL_takeB (i := 7) (v := ?_) rfl (by kernel_rfl) (by kernel_rfl) (by kernel_rfl) (by decide) (fun _ _ _ h => h) (Or.inl ⟨by rfl, ?_⟩) (SAB.both hA hB) ?_
                rotate_left
                · intro wx hBx
                  (try dsimp only at hBx)
                  go_simp
                  try with_reducible rfl
                try simp only [Act.put, List.setIfInBounds_toArray, List.set_cons_zero, List.set_cons_succ]
                refine wpL_takeB (i := 8) (v := ?_) rfl (by kernel_rfl) (by kernel_rfl) (by kernel_rfl) (by decide) (fun _ _ _ h => h) (Or.inl ⟨by rfl, ?_⟩) (SAB.both hA hB) ?_
                rotate_left
                · intro wx hBx
                  (try dsimp only at hBx)
                  go_simp
                  try with_reducible rfl
                try simp only [Act.put, List.setIfInBounds_toArray, List.set_cons_zero, List.set_cons_succ]
                refine wpL_takeB (i := 9) (v := ?_) rfl (by kernel_rfl) (by kernel_rfl) (by kernel_rfl) (by decide) (fun _ _ _ h => h) (Or.inl ⟨by rfl, ?_⟩) (SAB.both hA hB) ?_
                rotate_left
                · intro wx hBx
                  (try dsimp only at hBx)
                  go_simp
                  try with_reducible rfl
                try simp only [Act.put, List.setIfInBounds_toArray, List.set_cons_zero, List.set_cons_succ]
                refine wpL_takeB (i := 10) (v := ?_) rfl (by kernel_rfl) (by kernel_rfl) (by kernel_rfl) (by decide) (fun _ _ _ h => h) (Or.inl ⟨by rfl, ?_⟩) (SAB.both hA hB) ?_
                rotate_left
                · intro wx hBx
                  (try dsimp only at hBx)
                  go_simp
                  try with_reducible rfl
                try simp only [Act.put, List.setIfInBounds_toArray, List.set_cons_zero, List.set_cons_succ]
                refine wpL_takeB (i := 11) (v := ?_) rfl (by kernel_rfl) (by kernel_rfl) (by kernel_rfl) (by decide) (fun _ _ _ h => h) (Or.inl ⟨by rfl, ?_⟩) (SAB.both hA hB) ?_
                rotate_left
                · intro wx hBx
                  (try dsimp only at hBx)
                  go_simp
                  try with_reducible rfl
                try simp only [Act.put, List.setIfInBounds_toArray, List.set_cons_zero, List.set_cons_succ]
                refine wpL_takeB (i := 12) (v := ?_) rfl (by kernel_rfl) (by kernel_rfl) (by kernel_rfl) (by decide) (fun _ _ _ h => h) (Or.inl ⟨by rfl, ?_⟩) (SAB.both hA hB) ?_
                rotate_left
                · intro wx hBx
                  (try dsimp only at hBx)
                  go_simp
                  try with_reducible rfl
                try simp only [Act.put, List.setIfInBounds_toArray, List.set_cons_zero, List.set_cons_succ]
                refine wpL_takeB (i := 13) (v := ?_) rfl (by kernel_rfl) (by kernel_rfl) (by kernel_rfl) (by decide) (fun _ _ _ h => h) (Or.inl ⟨by rfl, ?_⟩) (SAB.both hA hB) ?_
                rotate_left
                · intro wx hBx
                  (try dsimp only at hBx)
                  go_simp
                  try with_reducible rfl
                try simp only [Act.put, List.setIfInBounds_toArray, List.set_cons_zero, List.set_cons_succ]
                refine wpL_takeB (i := 14) (v := ?_) rfl (by kernel_rfl) (by kernel_rfl) (by kernel_rfl) (by decide) (fun _ _ _ h => h) (Or.inl ⟨by rfl, ?_⟩) (SAB.both hA hB) ?_
                rotate_left
                · intro wx hBx
                  (try dsimp only at hBx)
                  go_simp
                  try with_reducible rfl
                try simp only [Act.put, List.setIfInBounds_toArray, List.set_cons_zero, List.set_cons_succ]
                refine wpL_takeB (i := 15) (v := ?_) rfl (by kernel_rfl) (by kernel_rfl) (by kernel_rfl) (by decide) (fun _ _ _ h => h) (Or.inl ⟨by rfl, ?_⟩) (SAB.both hA hB) ?_
                rotate_left
                · intro wx hBx
                  (try dsimp only at hBx)
                  go_simp
                  try with_reducible rfl
                try simp only [Act.put, List.setIfInBounds_toArray, List.set_cons_zero, List.set_cons_succ]
                refine wpL_takeB (i := 16) (v := ?_) rfl (by kernel_rfl) (by kernel_rfl) (by kernel_rfl) (by decide) (fun _ _ _ h => h) (Or.inl ⟨by rfl, ?_⟩) (SAB.both hA hB) ?_
                rotate_left
                · intro wx hBx
                  (try dsimp only at hBx)
                  go_simp
                  try with_reducible rfl
                try simp only [Act.put, List.setIfInBounds_toArray, List.set_cons_zero, List.set_cons_succ]
                refine wpL_takeB (i := 17) (v := ?_) rfl (by kernel_rfl) (by kernel_rfl) (by kernel_rfl) (by decide) (fun _ _ _ h => h) (Or.inl ⟨by rfl, ?_⟩) (SAB.both hA hB) ?_
                rotate_left
                · intro wx hBx
                  (try dsimp only at hBx)
                  go_simp
                  try with_reducible rfl
                try simp only [Act.put, List.setIfInBounds_toArray, List.set_cons_zero, List.set_cons_succ]
                refine wpL_takeB (i := 18) (v := ?_) rfl (by kernel_rfl) (by kernel_rfl) (by kernel_rfl) (by decide) (fun _ _ _ h => h) (Or.inl ⟨by rfl, ?_⟩) (SAB.both hA hB) ?_
                rotate_left
                · intro wx hBx
                  (try dsimp only at hBx)
                  go_simp
                  try with_reducible rfl
                try simp only [Act.put, List.setIfInBounds_toArray, List.set_cons_zero, List.set_cons_succ]
                refine wpL_takeB (i := 19) rfl (by kernel_rfl) (by kernel_rfl) (by kernel_rfl) (by decide) (fun _ _ _ h => h) (yieldsIf_load_mid (by rfl) _ _ rfl be (oe + an * 7) rfl [.int .i64 ev.kind, .int .i64 ev.inc, .int .i64 ev.frm, .int .i64 ev.sInc, .int .i64 ev.sIdx, .int .i64 ev.ord, .int .i64 ev.val] _ (fun wx hx => HRE.out wx hx) Try.underlying50 rfl (by kernel_rfl)) (SAB.both hA hB) ?_
                try simp only [Act.put, List.setIfInBounds_toArray, List.set_cons_zero, List.set_cons_succ]
                clear y1 y2
                refine wpL_one (i := 20) (by kernel_rfl) (StepL.mk rfl (fun K hK => ?_))
                go_simp
                have hzB := hB.size
                have hsx := (own_ints HP1.out).keep (Same.mono hB (fun i hi => hi.2))
                have hlx := (HLD.out.keep hsmq (EvsR.keep hsmq)).keep (Same.mono hB (fun i hi => by have := HS.out i hi; omega)) (EvsR.keep (Same.mono hB (fun i hi => by have := HS.out i hi; omega)))
                refine (possible_any u0 (fun i => i < u0.heap.size) _ _ _ _ _ _ l at_ q ev (fun i hi => hi) (hlx.more (fun i hi => by have := HS.out i hi; omega) (EvsR.more (fun i hi => by have := HS.out i hi; omega))) (hsx.more (fun i hi => by have := hi.2; omega)) rfl (by omega) (fun x hx => by have := HLEN.out x hx; omega)).mono ?_
                rintro e u1 ⟨rfl, hk1⟩
                have ha := Keep.trans hB hk1
                clear hsx hlx hzB
                refine hK.out _ _ (SAB.both trivial ha) (fun hSS => ?_)
                clear hK K hA hB
                have hB := hSS.2
                have hA := hSS.1 (by kernel_rfl)
                (try dsimp only at hB); (try dsimp only at hA); clear hSS
                try simp only [Act.put, List.setIfInBounds_toArray, List.set_cons_zero, List.set_cons_succ]
                clear ha
                rw [← HCAN.out]
                cases hcv : canS l to_ at_ q with
                | false =>
                  refine wpL_takeB (i := 21) (v := ?_) rfl (by kernel_rfl) (by kernel_rfl) (by kernel_rfl) (by decide) (fun _ _ _ h => h) (Or.inl ⟨by rfl, ?_⟩) (SAB.both hA hB) ?_
                  rotate_left
                  · intro wx hBx
                    (try dsimp only at hBx)
                    go_simp
                    try with_reducible rfl
                  try simp only [Act.put, List.setIfInBounds_toArray, List.set_cons_zero, List.set_cons_succ]
                  refine wpL_done (by kernel_rfl) ?_
                  have hfin : ScL3 l to_ at_ out k m wd.heap.size wd (some ⟨g, 0, none⟩) ca (.slice Av m cv) (gk - 1) (.slice Av m cv) (.int .i64 (q + 1)) u1 := ⟨q + 1, rfl, by simp, by omega, fun j hj => (by
                    rcases Nat.lt_or_ge j q with h | h
                    · exact HNO.out j h
                    · obtain rfl : j = q := by omega
                      exact hcv), ownsRow_same HP1.out hB (fun i hi => hi.2), ownsRow_same HP2.out hB (fun i hi => hi.2), Keep.trans HKQ.out hB⟩
                  have HFIN := Lib.hid hfin
                  have HCV := Lib.hid hcv
                  clear hfin hcv
                  clear hA hB hk1 hsmq
                  go_wp2_with fail
                  go_roundg (gk - 1)
                  case measure => omega
                  case rel => exact HFIN.out
                | true =>
                  refine wpL_takeB (i := 21) (v := ?_) rfl (by kernel_rfl) (by kernel_rfl) (by kernel_rfl) (by decide) (fun _ _ _ h => h) (Or.inl ⟨by rfl, ?_⟩) (SAB.both hA hB) ?_
                  rotate_left
                  · intro wx hBx
                    (try dsimp only at hBx)
                    go_simp
                    try with_reducible rfl
                  try simp only [Act.put, List.setIfInBounds_toArray, List.set_cons_zero, List.set_cons_succ]
                  refine wpL_done (by kernel_rfl) ?_
                  have hk2 := hB
                  have HCV := Lib.hid hcv
                  clear hcv
                  clear hA hB hk1
                  have x3 : u1.cell? ⟨g, q, none⟩ = some (.int .i64 an) := by rw [(hk2.blk HBK.out hlb).cell]; exact HCQ.out
                  have hz2 := hk2.size
                  have hre2 := HRE.out u1 hk2
                  have HK2 := Lib.hid hk2
                  have HRE2 := Lib.hid hre2
                  clear hk2 hre2
                  go_wp2_with (refine wpList_load_mid rfl _ (.tmp 101) rfl be (oe + an * 7) rfl [.int .i64 ev.kind, .int .i64 ev.inc, .int .i64 ev.frm, .int .i64 ev.sInc, .int .i64 ev.sIdx, .int .i64 ev.ord, .int .i64 ev.val] _ HRE2.out Try.underlying50 rfl (by kernel_rfl) ?_)
                  refine (choice_any u1 q ev).mono ?_
                  rintro e u2 ⟨rfl, hk3⟩
                  have hz3 := hk3.size
                  have hk13 := Keep.trans HK2.out hk3
                  have hqo := ownsRow_same HP2.out hk13 (fun i hi => hi.2)
                  have hqb := hk13.blk HBK.out hlb
                  have hzu : wd.heap.size ≤ u2.heap.size := by omega
                  generalize hch : chS q ev = ch at *
                  have HQO := Lib.hid hqo
                  have HQB := Lib.hid hqb
                  have HK13 := Lib.hid hk13
                  have HCH := Lib.hid hch
                  clear hqo hqb hk13 hch
                  clear hk3 x3
                  go_upto_region 17 with (first
                    | (refine wpList_buildS rfl 38 45 1 _ rfl Try.underlying38 _ [(0, .agg #[.int .i64 ch.proc, .int .i64 ch.kind, .int .i64 ch.frm, .int .i64 ch.idx, .int .i64 ch.ord, .int .i64 ch.val])] rfl (builtS_ch _ _ _ _ _ _) ?_)
                    | (refine wpList_append_any _ rfl (.tmp 94) (.tmp 104) 38 rfl wd.heap.size 45 iC _ 6 48 Try.underlying38 HI0.out IZ0.out IS0.out IB0.out rfl (by omega) (.slice Av m cv) m (out.flatMap encCh) rfl (ownsRow_same HQO.out (Keep.new _ _) (fun i hi => hi.2)) (fun i => i = u2.heap.size) (some ⟨u2.heap.size, 0, none⟩) 1 1 (encCh ch) rfl (Reads.new rfl) (encCh_one _) (by simp [maxLen]; omega) (by omega) (Nat.le_trans hzu (Keep.new _ _).size) ?_
                       intro vz wz howz hgz hatz))
                  have hgs : Same (fun i => i < u2.heap.size ∧ (Value.slice Av m cv).ownBlock ≠ some i) u2 wz := Same.grown ((Keep.new u2 _).mono (fun i hi => hi.1)) hgz (fun i hi => by have := hi.1; simp; omega) (fun k' hk' hS' => hS'.2 hk')
                  have hng : (Value.slice Av m cv).ownBlock ≠ some g := fun h => HDJ.out g h rfl
                  have hbz := hgs.blk HQB.out ⟨by have := HQB.out.lt; omega, hng⟩
                  have hvg : vz.ownBlock ≠ some g := fun h => by
                    rcases hatz with h1 | h1
                    · exact hng (h1 ▸ h)
                    · rw [h] at h1
                      have := HQB.out.lt
                      simp at h1
                      omega
                  have x4 : wz.cell? ⟨g, q, none⟩ = some (.int .i64 an) := by rw [hbz.cell]; exact HCQ.out
                  have hkz : Keep wd wz := Same.append (Keep.trans (Keep.trans HKQ.out HK13.out) (Keep.new _ _)) (ownsRow_same HQO.out (Keep.new _ _) (fun i hi => hi.2)) hgz (fun i hi => hi) (Nat.le_trans hzu (Keep.new _ _).size)
                  obtain ⟨Az, cz, hvz, -, -⟩ := own_form howz
                  subst hvz
                  have hqc : q < cur.size := by rcases Nat.lt_or_ge q cur.size with h | h; · exact h
                                                · have := HCQ.out; rw [Array.getElem?_eq_none h] at this; cases this
                  have HBZ := Lib.hid hbz
                  have HVG := Lib.hid hvg
                  have HKZ := Lib.hid hkz
                  have HOWZ := Lib.hid howz
                  clear hbz hvg hkz howz
                  clear hgs hng hgz hatz
                  go_wp2_with (refine wpList_store_one rfl _ (.tmp 111) (.tmp 110) rfl g q 3 cur (.int .i64 (an + 1)) rfl rfl HBZ.out hqc (by kernel_rfl) rfl rfl ?_; intro w9 hb9 hs9)
                  go_roundg (leftS (incS at_ q) to_)
                  case measure => exact leftS_inc at_ to_ q (by have := HR.out.1; have := HNL.out; omega) (by have := HR.out.2.1; have := HNL.out; omega) HLT2.out
                  case rel =>
                    have hql : q < l.length := by have := HNL.out; omega
                    have hi : incS at_ q = at_.set q ((an : Int) + 1) := by unfold incS; rw [G1'.out]
                    have hll := leftS_inc at_ to_ q (by have := HR.out.1; omega) (by have := HR.out.2.1; omega) HLT2.out
                    have hrow : w9.ownsRow wd.heap.size 3 1 (.slice (some ⟨g, 0, none⟩) k ca) k ((incS at_ q).flatMap encI) := by
                      rw [hi]
                      exact row_put (k := q) (o := 0) encI_len hbg (by simpa using hb9) HCS.out hnc hcm HTK.out (by have := HR.out.1; have := HNL.out; omega) HAV'.out (by omega) rfl
                    have hx : (out ++ [ch]).flatMap encCh = out.flatMap encCh ++ encCh ch := by simp
                    have hox : w9.ownsRow wd.heap.size 45 6 (.slice Az (m + 1) cz) (out ++ [ch]).length ((out ++ [ch]).flatMap encCh) := by
                      rw [hx, List.length_append, HML.out]
                      exact ownsRow_own HOWZ.out hs9 (fun b hb e => HVG.out (e ▸ hb))
                    exact ⟨incS at_ q, out ++ [ch], rfl, HR.out.inc hql HLT2.out, by have := HML.out; simp; omega, fun r h => HSC.out r (.step HNE.out ⟨hql, HCV.out, HNO.out⟩ (by rw [HEA.out, HCH.out]; exact h)), hrow, hox, fun b hb h => HVG.out (by simp at h; rw [h]; exact hb), Keep.write HKZ.out hs9 hbg⟩
              · have t1 : decide ((an : Int) < tv) = false := by simpa using hlt
                have hcf : canS l to_ at_ q = false := by unfold canS; rw [g1, g2]; simp [hlt]
                have hfin : ∀ wx, Keep wr wx → ScL3 l to_ at_ out k m wd.heap.size wd (some ⟨g, 0, none⟩) ca (.slice Av m cv) (gk - 1) (.slice Av m cv) (.int .i64 (q + 1)) wx := fun wx hx => ⟨q + 1, rfl, by simp, by omega, fun j hj => (by
                    rcases Nat.lt_or_ge j q with h | h
                    · exact hno j h
                    · obtain rfl : j = q := by omega
                      exact hcf), ownsRow_same hp1 hx (fun i hi => hi.2), ownsRow_same hp2 hx (fun i hi => hi.2), Keep.trans hkq hx⟩
                have HFIN := Lib.hid hfin
                clear hfin
                clear hca hc2 hc0 hav htv hev hse g1 g2 g0 hrq hne9 x1 x2 hno hp1 hp2 hkq hbk htk hcs hcf
                go_upto_region 15 with fail
                refine wp_region_L 99 (fun _ => True) (fun wx => Keep wr wx) (by kernel_rfl) trivial (Same.drew (Same.refl _ _)) (fun hA hB => ?_)
                generalize hu0 : wr.drew = u0 at hB ⊢
                clear hu0
                refine wpL_takeB (i := 0) (v := ?_) rfl (by kernel_rfl) (by kernel_rfl) (by kernel_rfl) (by decide) (fun _ _ _ h => h) (Or.inl ⟨by rfl, ?_⟩) (SAB.both hA hB) ?_
                rotate_left
                · intro wx hBx
                  (try dsimp only at hBx)
                  go_simp
                  try with_reducible rfl
                try simp only [Act.put, List.setIfInBounds_toArray, List.set_cons_zero, List.set_cons_succ]
                refine wpL_takeB (i := 1) (v := ?_) rfl (by kernel_rfl) (by kernel_rfl) (by kernel_rfl) (by decide) (fun _ _ _ h => h) (Or.inl ⟨by rfl, ?_⟩) (SAB.both hA hB) ?_
                rotate_left
                · intro wx hBx
                  (try dsimp only at hBx)
                  go_simp
                  try with_reducible rfl
                try simp only [Act.put, List.setIfInBounds_toArray, List.set_cons_zero, List.set_cons_succ]
                refine wpL_takeB (i := 2) (v := ?_) rfl (by kernel_rfl) (by kernel_rfl) (by kernel_rfl) (by decide) (fun _ _ _ h => h) (Or.inl ⟨by rfl, ?_⟩) (SAB.both hA hB) ?_
                rotate_left
                · intro wx hBx
                  (try dsimp only at hBx)
                  go_simp
                  try with_reducible rfl
                try simp only [Act.put, List.setIfInBounds_toArray, List.set_cons_zero, List.set_cons_succ]
                refine wpL_takeB (i := 3) (v := ?_) rfl (by kernel_rfl) (by kernel_rfl) (by kernel_rfl) (by decide) (fun _ _ _ h => h) (Or.inl ⟨by rfl, ?_⟩) (SAB.both hA hB) ?_
                rotate_left
                · intro wx hBx
                  (try dsimp only at hBx)
                  go_simp
                  try with_reducible rfl
                try simp only [Act.put, List.setIfInBounds_toArray, List.set_cons_zero, List.set_cons_succ]
                refine wpL_takeB (i := 4) (v := ?_) rfl (by kernel_rfl) (by kernel_rfl) (by kernel_rfl) (by decide) (fun _ _ _ h => h) (Or.inl ⟨by rfl, ?_⟩) (SAB.both hA hB) ?_
                rotate_left
                · intro wx hBx
                  (try dsimp only at hBx)
                  go_simp
                  try with_reducible rfl
                try simp only [Act.put, List.setIfInBounds_toArray, List.set_cons_zero, List.set_cons_succ]
                refine wpL_takeB (i := 5) (v := ?_) rfl (by kernel_rfl) (by kernel_rfl) (by kernel_rfl) (by decide) (fun _ _ _ h => h) (Or.inl ⟨by rfl, ?_⟩) (SAB.both hA hB) ?_
                rotate_left
                · intro wx hBx
                  (try dsimp only at hBx)
                  go_simp
                  try with_reducible rfl
                try simp only [Act.put, List.setIfInBounds_toArray, List.set_cons_zero, List.set_cons_succ]
                refine wpL_takeB (i := 6) (v := ?_) rfl (by kernel_rfl) (by kernel_rfl) (by kernel_rfl) (by decide) (fun _ _ _ h => h) (Or.inl ⟨by rfl, ?_⟩) (SAB.both hA hB) ?_
                rotate_left
                · intro wx hBx
                  (try dsimp only at hBx)
                  go_simp
                  try with_reducible rfl
                try simp only [Act.put, List.setIfInBounds_toArray, List.set_cons_zero, List.set_cons_succ]
                refine wpL_takeB (i := 7) (v := ?_) rfl (by kernel_rfl) (by kernel_rfl) (by kernel_rfl) (by decide) (fun _ _ _ h => h) (Or.inl ⟨by rfl, ?_⟩) (SAB.both hA hB) ?_
                rotate_left
                · intro wx hBx
                  (try dsimp only at hBx)
                  go_simp
                  try with_reducible rfl
                try simp only [Act.put, List.setIfInBounds_toArray, List.set_cons_zero, List.set_cons_succ]
                refine wpL_takeB (i := 8) (v := ?_) rfl (by kernel_rfl) (by kernel_rfl) (by kernel_rfl) (by decide) (fun _ _ _ h => h) (Or.inl ⟨by rfl, ?_⟩) (SAB.both hA hB) ?_
                rotate_left
                · intro wx hBx
                  (try dsimp only at hBx)
                  go_simp
                  try with_reducible rfl
                try simp only [Act.put, List.setIfInBounds_toArray, List.set_cons_zero, List.set_cons_succ]
                refine wpL_takeB (i := 9) (v := ?_) rfl (by kernel_rfl) (by kernel_rfl) (by kernel_rfl) (by decide) (fun _ _ _ h => h) (Or.inl ⟨by rfl, ?_⟩) (SAB.both hA hB) ?_
                rotate_left
                · intro wx hBx
                  (try dsimp only at hBx)
                  go_simp
                  try with_reducible rfl
                try simp only [Act.put, List.setIfInBounds_toArray, List.set_cons_zero, List.set_cons_succ]
                refine wpL_takeB (i := 10) (v := undef) rfl (by kernel_rfl) (by kernel_rfl) (by kernel_rfl) (by decide) (fun _ _ _ h => h) (Or.inr ⟨by rfl, rfl⟩) (SAB.both hA hB) ?_
                try simp only [Act.put, List.setIfInBounds_toArray, List.set_cons_zero, List.set_cons_succ]
                refine wpL_takeB (i := 11) (v := undef) rfl (by kernel_rfl) (by kernel_rfl) (by kernel_rfl) (by decide) (fun _ _ _ h => h) (Or.inr ⟨by rfl, rfl⟩) (SAB.both hA hB) ?_
                try simp only [Act.put, List.setIfInBounds_toArray, List.set_cons_zero, List.set_cons_succ]
                refine wpL_takeB (i := 12) (v := undef) rfl (by kernel_rfl) (by kernel_rfl) (by kernel_rfl) (by decide) (fun _ _ _ h => h) (Or.inr ⟨by rfl, rfl⟩) (SAB.both hA hB) ?_
                try simp only [Act.put, List.setIfInBounds_toArray, List.set_cons_zero, List.set_cons_succ]
                refine wpL_takeB (i := 13) (v := undef) rfl (by kernel_rfl) (by kernel_rfl) (by kernel_rfl) (by decide) (fun _ _ _ h => h) (Or.inr ⟨by rfl, rfl⟩) (SAB.both hA hB) ?_
                try simp only [Act.put, List.setIfInBounds_toArray, List.set_cons_zero, List.set_cons_succ]
                refine wpL_takeB (i := 14) (v := undef) rfl (by kernel_rfl) (by kernel_rfl) (by kernel_rfl) (by decide) (fun _ _ _ h => h) (Or.inr ⟨by rfl, rfl⟩) (SAB.both hA hB) ?_
                try simp only [Act.put, List.setIfInBounds_toArray, List.set_cons_zero, List.set_cons_succ]
                refine wpL_takeB (i := 15) (v := undef) rfl (by kernel_rfl) (by kernel_rfl) (by kernel_rfl) (by decide) (fun _ _ _ h => h) (Or.inr ⟨by rfl, rfl⟩) (SAB.both hA hB) ?_
                try simp only [Act.put, List.setIfInBounds_toArray, List.set_cons_zero, List.set_cons_succ]
                refine wpL_takeB (i := 16) (v := undef) rfl (by kernel_rfl) (by kernel_rfl) (by kernel_rfl) (by decide) (fun _ _ _ h => h) (Or.inr ⟨by rfl, rfl⟩) (SAB.both hA hB) ?_
                try simp only [Act.put, List.setIfInBounds_toArray, List.set_cons_zero, List.set_cons_succ]
                refine wpL_takeB (i := 17) (v := undef) rfl (by kernel_rfl) (by kernel_rfl) (by kernel_rfl) (by decide) (fun _ _ _ h => h) (Or.inr ⟨by rfl, rfl⟩) (SAB.both hA hB) ?_
                try simp only [Act.put, List.setIfInBounds_toArray, List.set_cons_zero, List.set_cons_succ]
                refine wpL_takeB (i := 18) (v := undef) rfl (by kernel_rfl) (by kernel_rfl) (by kernel_rfl) (by decide) (fun _ _ _ h => h) (Or.inr ⟨by rfl, rfl⟩) (SAB.both hA hB) ?_
                try simp only [Act.put, List.setIfInBounds_toArray, List.set_cons_zero, List.set_cons_succ]
                refine wpL_takeB (i := 19) (v := undef) rfl (by kernel_rfl) (by kernel_rfl) (by kernel_rfl) (by decide) (fun _ _ _ h => h) (Or.inr ⟨by rfl, rfl⟩) (SAB.both hA hB) ?_
                try simp only [Act.put, List.setIfInBounds_toArray, List.set_cons_zero, List.set_cons_succ]
                refine wpL_takeB (i := 20) (v := undef) rfl (by kernel_rfl) (by kernel_rfl) (by kernel_rfl) (by decide) (fun _ _ _ h => h) (Or.inr ⟨by rfl, rfl⟩) (SAB.both hA hB) ?_
                try simp only [Act.put, List.setIfInBounds_toArray, List.set_cons_zero, List.set_cons_succ]
                refine wpL_takeB (i := 21) (v := ?_) rfl (by kernel_rfl) (by kernel_rfl) (by kernel_rfl) (by decide) (fun _ _ _ h => h) (Or.inl ⟨by rfl, ?_⟩) (SAB.both hA hB) ?_
                rotate_left
                · intro wx hBx
                  (try dsimp only at hBx)
                  go_simp
                  try with_reducible rfl
                try simp only [Act.put, List.setIfInBounds_toArray, List.set_cons_zero, List.set_cons_succ]
                refine wpL_done (by kernel_rfl) ?_
                have hfin := HFIN.out u0 hB
                have HFIN := Lib.hid hfin
                clear hfin
                clear hA hB y1 y2
                go_wp2_with fail
                go_roundg (gk - 1)
                case measure => omega
                case rel => exact HFIN.out
            · have hd1 : decide (q < k) = false := by simpa using hqn
              have hfin : SchPost l fr to_ w (.returned (.tuple #[.slice none 0 0, .bool false])) wr := ⟨none, .inl ⟨HRNG.out, HSC.out _ (.stuck HNE.out (fun j hj => hno j (by have := HNL.out; omega)))⟩, Keep.trans HKD.out hkq, .inl ⟨rfl, rfl⟩⟩
              have HFIN := Lib.hid hfin
              clear hfin
              clear hno hp1 hp2 hkq hsmq
              go_wp2_with fail
              (try rw [Exit.noGoto_ret])
              go_ret2
              exact HFIN.out
end Go.Proofs.Ytcfpkmfppgodmaa
