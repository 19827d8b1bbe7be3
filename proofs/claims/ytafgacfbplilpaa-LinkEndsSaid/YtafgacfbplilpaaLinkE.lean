/- The law LinkEnds (written by gen_ends.py). -/
import Derived.Test.YtafgacfbplilpaaLinkO
import Derived.Test.YtafgacfbplilpaaRowIn
set_option linter.unusedVariables false
set_option linter.unusedSimpArgs false
namespace Go.Proofs.Ytafgacfbplilpaa
open Go.RowKit Go.Proofs

theorem StepR.inn {s t : Ws} (h : StepR s t) : t.inn.length ≤ s.inn.length + 1 := by
  cases h <;> simp
/-- Where the steps end. -/
def CutL (w00 : World) (g : Nat) (wx : World) : Prop :=
  ∃ (L : Nat → Nat) (st : Ws) (C : Cls), L g = 5 ∧ g < wx.heap.size ∧ Pcs (Lab wx L 0) (Lab wx L 1) (Lab wx L 2) (Lab wx L 3) (Lab wx L 4) g C st wx ∧ Inv { st with data := [], ack := [] } 100 ∧ st.inn.length ≤ 60 ∧ (∀ i, i < w00.heap.size → L i = 6) ∧ Keep w00 wx
theorem CutL.draws {w00 : World} {g : Nat} {wx : World} (h : CutL w00 g wx) (m : Nat) : CutL w00 g (wx.drewN m) := by
  obtain ⟨L, st, C, h1, h2, hp, h3, h4, h5, h6⟩ := h
  have hd : Same (fun _ => True) wx (wx.drewN m) := (Same.refl _ _).drewN m
  exact ⟨L, st, C, h1, h2, hp.same hd trivial (fun _ _ => trivial) (fun _ _ => trivial) (fun _ _ => trivial) (fun _ _ => trivial) (fun _ _ => trivial), h3, h4, h5, h6.drewN m⟩
theorem Inv.quiet {st : Ws} {r : Nat} (h : Inv st r) (hi : st.inn.length ≤ 61) : Inv { st with data := [], ack := [] } 100 :=
  ⟨h.win0, h.win1, h.base1, h.sum, h.keptv, h.keptl, h.want, h.outl, h.outp, h.bw, by simp, by simp, h.early, h.asc, by simp, by simp, by simp only; omega⟩
def LawRelE (w0 : World) (g gc : Nat) (gk : Nat) (wr : World) : Prop :=
  ∃ (L : Nat → Nat) (st : Ws), WS wr L g gc st gk ∧ Inv st gk ∧ st.inn.length ≤ 60 ∧ (∀ i, i < w0.heap.size → L i = 6 ∧ i ≠ gc) ∧ Keep w0 wr
theorem LawRelE.start {w0 w1 w3 w4 : World} {S : Nat → Prop} {g r : Nat} {win : Int} {B1 B2 : Option Addr} {m1 d1 m2 d2 : Nat} (h0 : 1 ≤ win) (h1 : win ≤ 8) (hr : r ≤ 240) (hg : w0.heap.size ≤ g) (hgw : g < w3.heap.size) (hk3 : Keep w0 w3)
    (k1 : Sl encI 1 w1 S B1 m1 d1 []) (k2 : Sl encPk 3 w1 S B2 m2 d2 [])
    (hb : Blk w3 g 41 #[.int .i64 win, .int .i64 1, .slice B1 m1 d1, .int .i64 1, .slice B2 m2 d2, .slice none 0 0, .slice none 0 0, .slice none 0 0, .slice none 0 0])
    (hc : Cod w4 (fun i => i < w0.heap.size ∨ i = w3.heap.size) w3.heap.size r) (hk4 : Keep w3 w4) : LawRelE w0 g w3.heap.size r w4 := by
  have hz3 := hk3.size
  have hcl := hc.lt
  refine ⟨lab0 w0.heap.size g w3.heap.size, ⟨⟨win, 1, [], 1, []⟩, [], [], [], []⟩, ⟨if_pos rfl, ⟨⟨B1, m1, d1, B2, m2, d2, none, 0, 0, none, 0, 0, none, 0, 0, none, 0, 0⟩, hk4.blk hb hgw, k1.zero, k2.zero, Ap.nil_, Ap.nil_, Ap.nil_, Ap.nil_, rfl, rfl, rfl, rfl⟩, hc.more (fun i hi => ?_) (fun i hi => hi.1)⟩, Inv.start win h0 h1 r hr, by simp, fun i hi => ⟨(if_neg (by omega)).trans (if_pos (.inl hi)), by omega⟩, Keep.trans hk3 hk4⟩
  have hlt := hc.2.1 i hi
  exact ⟨hlt, (if_neg (by omega)).trans (if_pos hi)⟩
theorem LawRelE.next {w0 : World} {g gc : Nat} {r : Nat} {L : Nat → Nat} {st : Ws} {wr w' : World} {e : Ending} (hinv : Inv st r) (hw : st.inn.length < 60) (hL : ∀ i, i < w0.heap.size → L i = 6 ∧ i ≠ gc) (hk : Keep w0 wr) (h0 : 0 < r)
    (h : StepPost L g gc st r wr e w') : ∃ r', r' < r ∧ e = .returned (.bool true) ∧ LawRelE w0 g gc r' w' := by
  obtain ⟨L', st', r', he, hs, hr, hws, hL', hsame⟩ := h
  have hz := hk.size
  have := hs.inn
  refine ⟨r', by omega, he, L', st', hws, hinv.step hs hr h0, by omega, fun i hi => ⟨by rw [hL' i (by omega)]; exact (hL i hi).1, (hL i hi).2⟩, Same.trans hk hsame (fun i hi => ⟨by omega, .inr (hL i hi).1, (hL i hi).2⟩)⟩
/-- Behind the last offer. -/
def CutM (w00 : World) (g : Nat) (wx : World) : Prop :=
  ∃ (L : Nat → Nat) (st : Ws) (C : Cls), L g = 5 ∧ g < wx.heap.size ∧ Pcs (Lab wx L 0) (Lab wx L 1) (Lab wx L 2) (Lab wx L 3) (Lab wx L 4) g C st wx ∧ Inv { st with data := [], ack := [] } 99 ∧ (∀ i, i < w00.heap.size → L i = 6) ∧ Keep w00 wx
theorem CutM.mk' {w00 w w' : World} {g : Nat} {L : Nat → Nat} (F : Nat → Nat) {st' : Ws} {C : Cls} {S0 S1 S2 S3 S4 : Nat → Prop} (hz : w.heap.size ≤ w'.heap.size) (hg : g < w.heap.size) (hLg : L g = 5) (hp : Pcs S0 S1 S2 S3 S4 g C st' w')
    (h0 : ∀ i, S0 i → i < w'.heap.size ∧ ext L w.heap.size F i = 0) (h1 : ∀ i, S1 i → i < w'.heap.size → ext L w.heap.size F i = 1) (h2 : ∀ i, S2 i → i < w'.heap.size → ext L w.heap.size F i = 2) (h3 : ∀ i, S3 i → i < w'.heap.size → ext L w.heap.size F i = 3) (h4 : ∀ i, S4 i → i < w'.heap.size → ext L w.heap.size F i = 4)
    (hinv : Inv { st' with data := [], ack := [] } 99) (hL : ∀ i, i < w00.heap.size → L i = 6) (hw : w00.heap.size ≤ w.heap.size) (hk : Keep w00 w') : CutM w00 g w' :=
  ⟨ext L w.heap.size F, st', C, by rw [ext_old hg]; exact hLg, by omega, ⟨hp.blk, hp.kept.more h0, hp.early.more h0, hp.data.more (fun i hi hl => ⟨hl, h1 i hi hl⟩), hp.ack.more (fun i hi hl => ⟨hl, h2 i hi hl⟩), hp.inn.more (fun i hi hl => ⟨hl, h3 i hi hl⟩), hp.out.more (fun i hi hl => ⟨hl, h4 i hi hl⟩), hp.ldata, hp.lack, hp.linn, hp.lout⟩, hinv, fun i hi => by rw [ext_old (by omega)]; exact hL i hi, hk⟩
/-- The packets arrive in order: j have arrived. -/
def EndRel (w00 : World) (g b13 : Nat) (B : Option Addr) (nb cb : Nat) (k0 : Lk) (inn0 : List Int) (i : Value) (wr : World) : Prop :=
  ∃ (j : Nat) (L : Nat → Nat) (st : Ws) (C : Cls) (aw : Int), i = .int .i64 j ∧ j ≤ nb ∧ L g = 5 ∧ Lab wr L 8 b13 ∧ Pcs (Lab wr L 0) (Lab wr L 1) (Lab wr L 2) (Lab wr L 3) (Lab wr L 4) g C st wr ∧
    Blk wr b13 48 #[.int .i64 0, .int .i64 aw, .int .i64 0] ∧ Sl encPk 3 wr (Lab wr L 7) B nb cb (packetsS k0) ∧ Inv { st with data := [], ack := [] } (99 - j) ∧
    (st.k.base = k0.base ∧ st.k.kept = k0.kept ∧ st.inn = inn0) ∧ k0.base + j ≤ st.k.want ∧ (0 < j → aw = st.k.want - 1) ∧ (∀ i, i < w00.heap.size → L i = 6) ∧ Keep w00 wr
/-- The end of one arrival. -/
def CutQ (X : World) (g b13 : Nat) (S4 : Nat → Prop) (cs : List Value) (C : Cls) (out : List Int) (nd : Nat) (aw : Int) (wx : World) : Prop :=
  ∃ (A4 : Option Addr) (c4 lo hi : Nat), X.heap.size ≤ lo ∧ lo ≤ hi ∧ hi ≤ wx.heap.size ∧
    Blk wx g 41 (cs ++ ([.slice C.A1 C.n1 C.c1, .slice C.A2 C.n2 C.c2, .slice C.A3 C.n3 C.c3, .slice A4 (C.n4 + nd) c4] : List Value)).toArray ∧
    Ap wx (fun i => S4 i ∨ (lo ≤ i ∧ i < hi)) 3 1 A4 (C.n4 + nd) c4 (out.flatMap encI) ∧ Blk wx b13 48 #[.int .i64 0, .int .i64 aw, .int .i64 0] ∧
    Same (fun i => i < X.heap.size ∧ i ≠ g ∧ i ≠ b13 ∧ ¬ S4 i) X wx
/-- All is acknowledged. -/
def CutI (w00 : World) (g : Nat) (wx : World) : Prop :=
  ∃ (C : Cls) (k : Lk) (S : Nat → Prop) (inn : List Int), Blk wx g 41 (C.all k).toArray ∧ LkR wx S (C.k k) k ∧ k.kept.length = 0 ∧ Sl encI 1 wx S C.A3 C.n3 C.c3 inn ∧ Sl encI 1 wx S C.A4 C.n4 C.c4 inn ∧ (∀ i, S i → i < wx.heap.size) ∧ C.n3 ≤ 1000 ∧ Keep w00 wx
theorem packetsS_at {k : Lk} {j : Nat} {q : Pk} (h : (packetsS k)[j]? = some q) : q.seq = k.base + j ∧ q.ack = 0 := by
  unfold packetsS packetsTo at h
  rw [List.getElem?_map] at h
  cases hr : (List.range k.kept.length)[j]? with
  | none => rw [hr] at h; cases h
  | some i =>
    rw [hr] at h
    simp at h
    have : i = j := by
      rw [List.getElem?_range] at hr
      · injection hr with hr; exact hr.symm
      · have := (List.getElem?_eq_some_iff.1 hr).1; simpa using this
    subst this
    rw [← h]
    exact ⟨rfl, rfl⟩
theorem packetsS_congr {k k' : Lk} (h1 : k.base = k'.base) (h2 : k.kept = k'.kept) : packetsS k = packetsS k' := by unfold packetsS; rw [h1, h2]
theorem Inv.suback {st : Ws} {r : Nat} (h : Inv st r) (ack' : List Pk) (ha : ∀ q ∈ ack', q ∈ st.ack) (hl : ack'.length ≤ st.ack.length) : Inv { st with ack := ack' } r :=
  ⟨h.win0, h.win1, h.base1, h.sum, h.keptv, h.keptl, h.want, h.outl, h.outp, h.bw, h.data, fun p hp => h.ack p (ha p hp), h.early, h.asc, h.ldata, by have := h.lack; simp only; omega, h.linn⟩
theorem Inv.arr' {st : Ws} {r r' : Nat} (h : Inv st r) {p : Pk} (hp : 1 ≤ p.seq ∧ st.inn[(p.seq - 1).toNat]? = some p.val) (hr : r' < r) : Inv { st with k := arriveS st.k p, out := st.out ++ arriveD st.k p } r' :=
  (h.arr hp st.data h.data r' hr (Nat.le_refl _)).suback st.ack (fun q hq => List.mem_append_left _ hq) (by simp)
theorem arriveS_want_ge (k : Lk) (p : Pk) (h : p.seq ≤ k.want) : p.seq + 1 ≤ (arriveS k p).want := by
  unfold arriveS
  split
  · simp; omega
  · split
    · show p.seq + 1 ≤ k.want; omega
    · omega
theorem arriveS_base (k : Lk) (p : Pk) : (arriveS k p).base = k.base ∧ (arriveS k p).kept = k.kept := by
  unfold arriveS
  split
  · exact ⟨rfl, rfl⟩
  · split <;> exact ⟨rfl, rfl⟩
set_option maxHeartbeats 8000000 in
set_option maxRecDepth 100000 in
theorem linkEnds_walk (w00 : World) (x last : Int) (A : Option Addr) (n c : Nat) (zs : List Int) (hx0 : 0 ≤ x) (hx1 : x < 256) (hz : Sl encB 1 w00 (· < w00.heap.size) A n c zs) (hz8 : ∀ y ∈ zs, 0 ≤ y ∧ y < 256) :
    Calls Try.prog 9 #[.int .u8 x, .slice A n c, .int .i64 last] w00 (KTrue w00) := by
  have HZ := Lib.hid hz
  have HZ8 := Lib.hid hz8
  clear hz hz8
  go_enter Try.func9, Try.ntmps9
  go_wp2_with fail
  refine (awake15_any w00).mono ?_
  rintro e w0 ⟨rfl, hk0⟩
  have HK0 := Lib.hid hk0
  clear hk0
  go_wp2_with fail
  have hs1 : 1 ≤ 1 + x % 8 := by omega
  have hs2 : 1 + x % 8 ≤ 8 := by omega
  generalize 1 + x % 8 = s at *
  have e0 : newS s = ⟨s, 1, [], 1, []⟩ := if_neg (by omega)
  refine (new15_any s w0 (fun _ => False)).mono ?_
  rw [e0]
  clear e0
  rintro e w1 ⟨cs1, rfl, ⟨B1, B2, m1, d1, m2, d2, rfl, k1, k2⟩, hk1⟩
  obtain rfl : m1 = 0 := k1.1
  obtain rfl : m2 = 0 := k2.1
  have K1 := Lib.hid k1
  have K2 := Lib.hid k2
  have HK1 := Lib.hid hk1
  clear k1 k2 hk1
  have hz0 := HK0.out.size
  have hz1 := HK1.out.size
  go_upto_region 5 with (first
    | (refine wpList_store_all rfl _ (.tmp 7) (.tmp 27) rfl w1.heap.size 35 _ [.int .i64 s, .int .i64 1, .slice B1 0 d1, .int .i64 1, .slice B2 0 d2] rfl rfl (Blk.new _ _ _) rfl (by kernel_rfl) rfl ?_; intro w2 hb2 hs2; have HB2 := Lib.hid hb2; have HK2 : Hid (Keep w1 w2) := Lib.hid (Keep.write (Keep.new w1 _) hs2 (Nat.le_refl _)); clear hb2 hs2)
    | (refine wpList_load_all rfl _ (.tmp 7) rfl w1.heap.size 35 [.int .i64 s, .int .i64 1, .slice B1 0 d1, .int .i64 1, .slice B2 0 d2] _ rfl HB2.out Try.underlying35 rfl (by kernel_rfl) ?_))
  generalize hW : w2.alloc (.cells #[.int .i64 s, .int .i64 1, .slice B1 0 d1, .int .i64 1, .slice B2 0 d2, .slice none 0 0, .slice none 0 0, .slice none 0 0, .slice none 0 0] 41) = W
  have hbW : Blk W w2.heap.size 41 _ := hW ▸ Blk.new _ _ _
  have hkW : Keep w00 W := hW ▸ Keep.alloc (Keep.trans HK0.out (Keep.trans HK1.out HK2.out)) _
  have hz2 := HK2.out.size
  have hzW : w2.heap.size < W.heap.size := hbW.lt
  have HBW := Lib.hid hbW
  have HKW := Lib.hid hkW
  clear hbW hkW
  clear hW
  go_wp2_with fail
  refine (new_any W A n c 240 zs (fun i => i < w00.heap.size) (fun i hi => by have := HKW.out.size; omega) (HZ.out.keep HKW.out) HZ8.out (by omega)).mono ?_
  rintro e w4 ⟨r, hr, rfl, hc4, hk4⟩
  have hlaw : LawRelE w00 w2.heap.size W.heap.size r w4 := LawRelE.start hs1 hs2 hr (by omega) hzW HKW.out K1.out K2.out HBW.out hc4 hk4
  have HLAW := Lib.hid hlaw
  clear hlaw
  clear hc4 hk4
  generalize W.heap.size = gc at *
  generalize w2.heap.size = g at *
  clear HBW HKW
  go_upto_block 0 with fail
  go_cut [] from 34 to 46 (fun wx => CutL w00 g wx)
  case first =>
    go_wp2_with fail
    go_loopg [] r (fun gk wr => LawRelE w00 g gc gk wr)
    case atStart => exact HLAW.out
    case round =>
      obtain ⟨L, st, hws, hinv, h60', hL, hkr⟩ := hrel
      have hws' := hws
      obtain ⟨hLg, ⟨C, hp⟩, hcod⟩ := hws'
      have HWS := Lib.hid hws
      have HINV := Lib.hid hinv
      have HL := Lib.hid hL
      have HKR := Lib.hid hkr
      have HLG := Lib.hid hLg
      have HP := Lib.hid hp
      clear hws hinv hL hkr hLg hp
      go_wp2_with fail
      refine (left_any wr (Lab wr L 6) gc gk hcod).mono ?_
      rintro e w5 ⟨rfl, m5, rfl⟩
      clear hcod
      by_cases h0 : 0 < gk
      · have hd0 : decide (0 < gk) = true := by simpa using h0
        have g7 : wr.cell? ⟨g, 7, none⟩ = some (.slice C.A3 C.n3 C.c3) := by rw [HP.out.blk.cell]; rfl
        by_cases h60 : C.n3 < 60
        · have hd60 : decide ((C.n3 : Int) < 60) = true := by simp; omega
          go_wp2_with fail
          refine (step_any (wr.drewN m5) L g gc st gk false (HWS.out.draws m5) HINV.out.ok).mono ?_
          intro e w6 hpost
          obtain ⟨r6, hr6, rfl, hlaw6⟩ := LawRelE.next HINV.out (by have := HP.out.linn; omega) HL.out (Same.drewN HKR.out m5) h0 hpost
          have HLAW6 := Lib.hid hlaw6
          clear hlaw6
          clear hpost
          go_wp2_with fail
          go_roundg r6
          case measure => exact hr6
          case rel => exact HLAW6.out
        · have hd60 : decide ((C.n3 : Int) < 60) = false := by simp; omega
          go_wp2_with fail
          go_meet
          exact CutL.draws ⟨L, st, C, HLG.out, HP.out.blk.lt, HP.out, HINV.out.quiet (by omega), h60', fun i hi => (HL.out i hi).1, HKR.out⟩ _
      · have hd0 : decide (0 < gk) = false := by simpa using h0
        go_wp2_with fail
        go_meet
        exact CutL.draws ⟨L, st, C, HLG.out, HP.out.blk.lt, HP.out, HINV.out.quiet (by omega), h60', fun i hi => (HL.out i hi).1, HKR.out⟩ _
  case rest =>
    obtain ⟨L, st, C, hLg, hg, hp, hinv, h60, hL6, hkw⟩ := hcut
    obtain ⟨w, rfl⟩ : ∃ w : World, w = wc := ⟨_, rfl⟩
    have hzw := hkw.size
    have OK0 := Lib.hid hinv.ok
    have hkl := hinv.ok.kept
    have HLG := Lib.hid hLg
    have HP := Lib.hid hp
    have HINV := Lib.hid hinv
    have HL6 := Lib.hid hL6
    have HKW := Lib.hid hkw
    clear hLg hp hinv hL6 hkw
    go_wp2_with (refine wpList_load_blk rfl _ (.tmp 50) rfl g 0 41 _ (C.k st.k) _ rfl HP.out.blk (C.sub st.k) Try.underlying35 rfl (by kernel_rfl) ?_)
    refine (offer_any w (Lab w L 0) (C.k st.k) st.k last (fun i hi => hi.1) HP.out.lk (by have : st.k.kept.length ≤ 8 := hkl; omega)).mono ?_
    rintro e w3 ⟨cs3, rfl, hr3, hk3⟩
    have HR3 := Lib.hid hr3
    have HK3 := Lib.hid hk3
    clear hr3 hk3
    have hz3 := HK3.out.size
    go_upto_if 57 with (refine wpList_store_all rfl _ (.tmp 11) (.tmp 54) rfl w3.heap.size 35 _ cs3 rfl rfl (Blk.new _ _ _) (by rw [HR3.out.len]; rfl) (info_lk HR3.out.len) HR3.out.one ?_; intro w4 hb4 hs4; have HB4 := Lib.hid hb4; have HS4 := Lib.hid hs4; have HK4 : Hid (Keep w w4) := Lib.hid (Keep.write (Keep.alloc HK3.out _) hs4 hz3); have hz4 := HK4.out.size; have hz34 : w3.heap.size < w4.heap.size := hb4.lt; clear hb4 hs4)
    have hlt3 : ∀ i, (Lab w L 0 i ∨ (w.heap.size ≤ i ∧ i < w3.heap.size)) → i < w3.heap.size := fun i hi => hi.elim (fun h => by have := h.1; omega) (fun h => h.2)
    have hlc : LkR w4 (fun i => Lab w L 0 i ∨ (w.heap.size ≤ i ∧ i < w3.heap.size)) cs3 (offerS st.k last) := (HR3.out.keep (Same.mono (Keep.new w3 _) hlt3)).keep (Same.mono HS4.out (fun i hi => by have := hlt3 i hi; omega))
    have hpc := HP.out.same HK4.out hg (fun i hi => hi.1) (fun i hi => hi.1) (fun i hi => hi.1) (fun i hi => hi.1) (fun i hi => hi.1)
    have hb8 := HB4.out
    have HLC := Lib.hid hlc
    have HPC := Lib.hid hpc
    have HB8 := Lib.hid hb8
    clear hlc hpc hb8
    go_cut [] from 57 to 71 (fun wx => CutM w00 g wx)
    case first =>
      by_cases hfull : st.k.win ≤ st.k.kept.length
      · have he : offerErr st.k = 15 := if_pos hfull
        have hed : (offerErr st.k == 0) = false := by rw [he]; rfl
        clear he
        go_wp2_with fail
        go_meet
        exact CutM.mk' (fun _ => 0) hz4 hg HLG.out HPC.out (fun i hi => ⟨by have := hi.1; omega, by rw [ext_old hi.1]; exact hi.2⟩) (fun i hi _ => by rw [ext_old hi.1]; exact hi.2) (fun i hi _ => by rw [ext_old hi.1]; exact hi.2) (fun i hi _ => by rw [ext_old hi.1]; exact hi.2) (fun i hi _ => by rw [ext_old hi.1]; exact hi.2) (HINV.out.less (by omega)) HL6.out hzw (Keep.trans HKW.out HK4.out)
      · have he : offerErr st.k = 0 := if_neg hfull
        have hed : (offerErr st.k == 0) = true := by rw [he]; rfl
        have hes : offerS st.k last = { st.k with kept := st.k.kept ++ [last] } := if_neg hfull
        have hlc := HLC.out
        rw [hes] at hlc
        clear he hes HLC
        obtain ⟨i0, hi0, iz0, iz1, iz2⟩ := info_of info_int'
        obtain ⟨X1, X2, p1, e1, p2, e2, hcs3, k1, k2⟩ := hlc
        simp only at hcs3 k1 k2
        have hLg' := HLG.out
        have hgc3 : ¬ Lab w L 3 g := fun hh => by have := hh.2; omega
        have hln := OK0.out.inn
        have hl3 : C.n3 ≤ 100000 := by rw [HPC.out.linn]; exact hln
        have HL3 := Lib.hid HPC.out.linn
        have A7 : ∀ wx : World, wx.cell? ⟨g, 7, none⟩ = some (.slice C.A3 C.n3 C.c3) → wx.cell? ⟨g, 7, none⟩ = some (.slice C.A3 C.n3 C.c3) := fun _ h => h
        have hA : w4.cell? ⟨g, 7, none⟩ = some (.slice C.A3 C.n3 C.c3) := by rw [HPC.out.blk.cell]; rfl
        have LW3 : ¬ Lab w L 3 w3.heap.size := fun hh => by have := hh.1; omega
        have g3 : g ≠ w3.heap.size := by omega
        clear A7
        have HCS3 := Lib.hid hcs3
        have K1 := Lib.hid k1
        have K2 := Lib.hid k2
        have HI0 := Lib.hid hi0
        have IZ0 := Lib.hid iz0
        have IZ1 := Lib.hid iz1
        have IZ2 := Lib.hid iz2
        have HFULL := Lib.hid hfull
        have HLW3 := Lib.hid LW3
        have HGC3 := Lib.hid hgc3
        clear hcs3 k1 k2 hi0 iz0 iz1 iz2 hfull LW3 hgc3
        clear hln
        go_upto_region 10 with fail
        refine wp_region_L 12 (fun wx => wx.cell? ⟨g, 7, none⟩ = some (.slice C.A3 C.n3 C.c3)) (fun wx => Same (fun i => i < w4.heap.size ∧ i ≠ g ∧ ¬ Lab w L 3 i) w4 wx) (by kernel_rfl) hA (Same.drew (Same.refl _ _)) (fun hA hB => ?_)
        refine wpL_takeB (i := 0) (v := ?_) rfl (by kernel_rfl) (by kernel_rfl) (by kernel_rfl) (by decide) (fun _ _ _ h => h) (Or.inl ⟨by rfl, ?_⟩) (SAB.both hA hB) ?_
        rotate_left
        · intro wx hBx
          (try dsimp only at hBx)
          go_simp
          try with_reducible rfl
        try simp only [Act.put, List.setIfInBounds_toArray, List.set_cons_zero, List.set_cons_succ]
        refine wpL_takeB (i := 1) (v := ?_) rfl (by kernel_rfl) (by kernel_rfl) (by kernel_rfl) (by decide) (fun _ _ _ h => h) (Or.inl ⟨by rfl, ?_⟩) (SAB.both hA hB) ?_
        rotate_left
        · intro wx hBx
          (try dsimp only at hBx)
          go_simp
          try with_reducible rfl
        try simp only [Act.put, List.setIfInBounds_toArray, List.set_cons_zero, List.set_cons_succ]
        refine wpL_takeB (i := 2) rfl (by kernel_rfl) (by kernel_rfl) (by kernel_rfl) (by decide) (fun _ _ _ h => h) (yieldsIf_blk (by rfl) _ _ rfl w3.heap.size 0 35 _ cs3 _ rfl (fun wx hx => hx.blk HB8.out ⟨by omega, fun h => g3 h.symm, HLW3.out⟩) (fun j v hv => by simpa using hv) Try.underlying35 rfl (info_lk HR3.out.len)) (SAB.both hA hB) ?_
        try simp only [Act.put, List.setIfInBounds_toArray, List.set_cons_zero, List.set_cons_succ]
        refine wpL_takeB (i := 3) (v := ?_) rfl (by kernel_rfl) (by kernel_rfl) (by kernel_rfl) (by decide) (fun _ _ _ h => h) (Or.inl ⟨by rfl, ?_⟩) (SAB.both hA hB) ?_
        rotate_left
        · intro wx hBx
          (try dsimp only at hBx)
          go_simp
          try with_reducible rfl
        try simp only [Act.put, List.setIfInBounds_toArray, List.set_cons_zero, List.set_cons_succ]
        refine wpL_takeB (i := 4) (v := ?_) rfl (by kernel_rfl) (by kernel_rfl) (by kernel_rfl) (by decide) (fun _ _ _ h => h) (Or.inl ⟨by rfl, ?_⟩) (SAB.both hA hB) ?_
        rotate_left
        · intro wx hBx
          (try dsimp only at hBx)
          go_simp
          try with_reducible rfl
        try simp only [Act.put, List.setIfInBounds_toArray, List.set_cons_zero, List.set_cons_succ]
        refine wpL_takeB (i := 5) (v := ?_) rfl (by kernel_rfl) (by kernel_rfl) (by kernel_rfl) (by decide) (fun _ _ _ h => h) (Or.inl ⟨by rfl, ?_⟩) (SAB.both hA hB) ?_
        rotate_left
        · intro wx hBx
          (try dsimp only at hBx)
          go_simp
          try with_reducible rfl
        try simp only [Act.put, List.setIfInBounds_toArray, List.set_cons_zero, List.set_cons_succ]
        refine wpL_takeA (i := 6) (v := ?_) rfl (by kernel_rfl) (by kernel_rfl) (by kernel_rfl) (by kernel_rfl) (by decide) (fun _ _ _ h => h) (Or.inl ⟨by rfl, ?_⟩) hA hB ?_
        rotate_left
        · rintro wx ⟨hAx, hBx⟩
          (try dsimp only at hBx); (try dsimp only at hAx)
          go_simp
          try with_reducible rfl
        try simp only [Act.put, List.setIfInBounds_toArray, List.set_cons_zero, List.set_cons_succ]
        refine wpL_takeB (i := 7) (v := ?_) rfl (by kernel_rfl) (by kernel_rfl) (by kernel_rfl) (by decide) (fun _ _ _ h => h) (Or.inl ⟨by rfl, ?_⟩) (SAB.both hA hB) ?_
        rotate_left
        · intro wx hBx
          (try dsimp only at hBx)
          go_simp
          try with_reducible rfl
        try simp only [Act.put, List.setIfInBounds_toArray, List.set_cons_zero, List.set_cons_succ]
        refine wpL_one (i := 8) (by kernel_rfl) (StepL.mk rfl (fun K hK => ?_))
        go_simp
        refine hK.out _ _ (SAB.both (show (w4.alloc _).cell? ⟨g, 7, none⟩ = _ from by rw [(HPC.out.blk.alloc _).cell]; rfl) (Same.alloc hB (fun i hi => by simpa using hi.1) _)) (fun hSS => ?_)
        clear hK K hA hB
        have hB := hSS.2
        have hA := hSS.1 (by kernel_rfl)
        (try dsimp only at hB); (try dsimp only at hA); clear hSS
        try simp only [Act.put, List.setIfInBounds_toArray, List.set_cons_zero, List.set_cons_succ]
        refine wpL_one (i := 9) (by kernel_rfl) (StepL.mk rfl (fun K hK => ?_))
        refine step_append_ap _ (by rfl) (.tmp 64) (.tmp 66) _ (by rfl) 3 i0 _ 1 8 Try.underlying23 HI0.out IZ0.out IZ1.out IZ2.out rfl (by omega) (Lab w L 3) C.A3 C.n3 C.c3 (st.inn.flatMap encI) (by rfl) (HPC.out.inn.keep (Same.mono (Keep.alloc (Same.drew (Same.refl _ w4)) _) (fun i hi => by have := hi.1; omega))) _ (some ⟨w4.heap.size, 0, none⟩) 1 1 (encI last) (by rfl) (Reads.new rfl) (encI_one _) (by simp [maxLen]; omega) (by omega) ?_
        intro A' c' w8 hap8 hs8
        have hz8 := hs8.size
        simp at hz8
        have hB8 : Same (fun i => i < w4.heap.size ∧ i ≠ g ∧ ¬ Lab w L 3 i) w4 w8 := Same.trans hB hs8 (fun i hi => ⟨by simp; omega, hi.2.2⟩)
        have hg8 : Blk w8 g 41 (C.all st.k).toArray := hs8.blk ((HPC.out.blk.drewN 1).alloc _) ⟨by simp; omega, HGC3.out⟩
        refine hK.out _ _ (SAB.both (by rw [hg8.cell]; rfl) hB8) (fun hSS => ?_)
        clear hK K hA hB
        have hB := hSS.2
        have hA := hSS.1 (by kernel_rfl)
        (try dsimp only at hB); (try dsimp only at hA); clear hSS
        try simp only [Act.put, List.setIfInBounds_toArray, List.set_cons_zero, List.set_cons_succ]
        refine wpL_takeB (i := 10) (v := ?_) rfl (by kernel_rfl) (by kernel_rfl) (by kernel_rfl) (by decide) (fun _ _ _ h => h) (Or.inl ⟨by rfl, ?_⟩) (SAB.both hA hB) ?_
        rotate_left
        · intro wx hBx
          (try dsimp only at hBx)
          go_simp
          try with_reducible rfl
        try simp only [Act.put, List.setIfInBounds_toArray, List.set_cons_zero, List.set_cons_succ]
        refine wpL_takeB (i := 11) (v := ?_) rfl (by kernel_rfl) (by kernel_rfl) (by kernel_rfl) (by decide) (fun _ _ _ h => h) (Or.inl ⟨by rfl, ?_⟩) (SAB.both hA hB) ?_
        rotate_left
        · intro wx hBx
          (try dsimp only at hBx)
          go_simp
          try with_reducible rfl
        try simp only [Act.put, List.setIfInBounds_toArray, List.set_cons_zero, List.set_cons_succ]
        refine wpL_one (i := 12) (by kernel_rfl) (StepL.mk rfl (fun K hK => ?_))
        refine step_store_blk rfl _ _ _ rfl g 0 41 _ cs3 rfl rfl hg8 (by rw [HR3.out.len]; simp [Cls.all]) (info_lk HR3.out.len) HR3.out.one ?_
        intro w9 hb9 hs9
        have hB9 : Same (fun i => i < w4.heap.size ∧ i ≠ g ∧ ¬ Lab w L 3 i) w4 w9 := Same.trans hB8 hs9 (fun i hi => hi.2.1)
        refine hK.out _ _ (SAB.past (by kernel_rfl) hB9) (fun hSS => ?_)
        clear hK K hA hB
        have hB := hSS.2
        have hA : True := trivial
        (try dsimp only at hB); (try dsimp only at hA); clear hSS
        try simp only [Act.put, List.setIfInBounds_toArray, List.set_cons_zero, List.set_cons_succ]
        refine wpL_takeB (i := 13) (v := ?_) rfl (by kernel_rfl) (by kernel_rfl) (by kernel_rfl) (by decide) (fun _ _ _ h => h) (Or.inl ⟨by rfl, ?_⟩) (SAB.past (by kernel_rfl) hB) ?_
        rotate_left
        · intro wx hBx
          (try dsimp only at hBx)
          go_simp
          try with_reducible rfl
        try simp only [Act.put, List.setIfInBounds_toArray, List.set_cons_zero, List.set_cons_succ]
        refine wpL_takeB (i := 14) (v := ?_) rfl (by kernel_rfl) (by kernel_rfl) (by kernel_rfl) (by decide) (fun _ _ _ h => h) (Or.inl ⟨by rfl, ?_⟩) (SAB.past (by kernel_rfl) hB) ?_
        rotate_left
        · intro wx hBx
          (try dsimp only at hBx)
          go_simp
          try with_reducible rfl
        try simp only [Act.put, List.setIfInBounds_toArray, List.set_cons_zero, List.set_cons_succ]
        refine wpL_one (i := 15) (by kernel_rfl) (StepL.mk rfl (fun K hK => ?_))
        refine step_store_one rfl _ _ _ rfl g 7 41 _ (.slice A' (C.n3 + 1) c') rfl rfl hb9 (by rw [splice_size]; simp [Cls.all]) (by kernel_rfl) rfl rfl ?_
        intro w10 hb10 hs10
        have hB10 : Same (fun i => i < w4.heap.size ∧ i ≠ g ∧ ¬ Lab w L 3 i) w4 w10 := Same.trans hB9 hs10 (fun i hi => hi.2.1)
        refine hK.out _ _ (SAB.past (by kernel_rfl) hB10) (fun hSS => ?_)
        clear hK K hA hB
        have hB := hSS.2
        have hA : True := trivial
        (try dsimp only at hB); (try dsimp only at hA); clear hSS
        try simp only [Act.put, List.setIfInBounds_toArray, List.set_cons_zero, List.set_cons_succ]
        refine wpL_done (by kernel_rfl) ?_
        have hcs := HCS3.out
        rw [hcs] at hb10
        have hz9 := hs9.size
        have hz10 := hs10.size
        have hcell : Blk w10 g 41 (({ C with B1 := X1, m1 := p1, d1 := e1, B2 := X2, m2 := p2, d2 := e2, A3 := A', n3 := C.n3 + 1, c3 := c' } : Cls).all { st.k with kept := st.k.kept ++ [last] }).toArray := by
          simpa [splice, Cls.all] using hb10
        have hap10 : Ap w10 (fun k => Lab w L 3 k ∨ (w4.heap.size + 1 ≤ k ∧ k < w8.heap.size)) 3 1 A' (C.n3 + 1) c' ((st.inn ++ [last]).flatMap encI) := by
          have e : (st.inn ++ [last]).flatMap encI = st.inn.flatMap encI ++ encI last := by simp
          rw [e]
          refine ((hap8.keep (Same.mono hs9 (fun i hi => ?_))).keep (Same.mono hs10 (fun i hi => ?_))).more (fun i hi _ => ?_)
          · intro e; subst e; rcases hi with hi | hi
            · exact HGC3.out hi
            · simp at hi; omega
          · intro e; subst e; rcases hi with hi | hi
            · exact HGC3.out hi
            · simp at hi; omega
          · rcases hi with hi | hi
            · exact .inl hi
            · simp at hi; exact .inr hi
        have far : ∀ a, a ≠ 5 → a ≠ 3 → ∀ i, Lab w L a i → i < w4.heap.size ∧ i ≠ g ∧ ¬ Lab w L 3 i := fun a ha ha3 i hi => ⟨by have := hi.1; omega, fun e => ha (by rw [← hi.2, e, HLG.out]), fun hh => ha3 (by rw [← hi.2, hh.2])⟩
        have hz0' : ∀ i, (Lab w L 0 i ∨ (w.heap.size ≤ i ∧ i < w3.heap.size)) → i < w4.heap.size ∧ i ≠ g ∧ ¬ Lab w L 3 i := fun i hi => hi.elim (far 0 (by decide) (by decide) i) (fun h => ⟨by omega, by omega, fun hh => by have := hh.1; omega⟩)
        have hpf : Pcs (fun i => Lab w L 0 i ∨ (w.heap.size ≤ i ∧ i < w3.heap.size)) (Lab w L 1) (Lab w L 2) (fun k => Lab w L 3 k ∨ (w4.heap.size + 1 ≤ k ∧ k < w8.heap.size)) (Lab w L 4) g { C with B1 := X1, m1 := p1, d1 := e1, B2 := X2, m2 := p2, d2 := e2, A3 := A', n3 := C.n3 + 1, c3 := c' } { st with k := { st.k with kept := st.k.kept ++ [last] }, inn := st.inn ++ [last] } w10 :=
          ⟨hcell, K1.out.keep (hB10.mono hz0'), K2.out.keep (hB10.mono hz0'), HPC.out.data.keep (hB10.mono (far 1 (by decide) (by decide))), HPC.out.ack.keep (hB10.mono (far 2 (by decide) (by decide))), hap10, HPC.out.out.keep (hB10.mono (far 4 (by decide) (by decide))), HPC.out.ldata, HPC.out.lack, by rw [HL3.out]; simp, HPC.out.lout⟩
        have hinv' : Inv { st with k := { st.k with kept := st.k.kept ++ [last] }, inn := st.inn ++ [last], data := [], ack := [] } 99 := HINV.out.offer last (by have := HFULL.out; simp only; omega) 99 (by omega)
        have hkf : Keep w00 w10 := Same.trans (Keep.trans HKW.out HK4.out) hB10 (fun i hi => ⟨by omega, fun e => by have := HL6.out i hi; rw [e, HLG.out] at this; omega, fun hh => by have := HL6.out i hi; have := hh.2; omega⟩)
        have hz8' := hz8
        have hfin : CutM w00 g w10 := by
          refine CutM.mk' (fun i => if w4.heap.size + 1 ≤ i ∧ i < w8.heap.size then 3 else 0) (by omega) hg HLG.out hpf (fun i hi => ?_) (fun i hi _ => by rw [ext_old hi.1]; exact hi.2) (fun i hi _ => by rw [ext_old hi.1]; exact hi.2) (fun i hi hl => ?_) (fun i hi _ => by rw [ext_old hi.1]; exact hi.2) hinv' HL6.out hzw hkf
          · rcases hi with hi | hi
            · exact ⟨by have := hi.1; omega, by rw [ext_old hi.1]; exact hi.2⟩
            · exact ⟨by omega, by rw [ext_new (by omega), if_neg (by omega)]⟩
          · rcases hi with hi | hi
            · rw [ext_old hi.1]; exact hi.2
            · rw [ext_new (by omega), if_pos hi]
        have HFIN := Lib.hid hfin
        clear hfin
        clear hinv' hkf hz8' hpf hcell hap10 far hz0' hb10 hs10 hb9 hs9 hap8 hs8 hB8 hB9 hB10 hg8 hcs hA hB
        go_wp2_with fail
        go_meet
        exact HFIN.out
    case rest =>
      obtain ⟨L5, st5, C5, hLg5, hg5, hp5, hinv5, hL65, hkw5⟩ := hcut
      obtain ⟨w5, rfl⟩ : ∃ w5 : World, w5 = wc := ⟨_, rfl⟩
      clear HLC HPC HB8 HB4 HS4 HK4 HR3 HK3 HP HINV HLG HL6 HKW OK0
      have hzw5 := hkw5.size
      have hok5 := hinv5.ok
      have HLG5 := Lib.hid hLg5
      have HP5 := Lib.hid hp5
      have HINV5 := Lib.hid hinv5
      have HL65 := Lib.hid hL65
      have HKW5 := Lib.hid hkw5
      have HOK5 := Lib.hid hok5
      clear hLg5 hp5 hinv5 hL65 hkw5 hok5
      go_wp2_with (refine wpList_load_blk rfl _ (.tmp 74) rfl g 0 41 _ (C5.k st5.k) _ rfl (HP5.out.blk.alloc _) (C5.sub st5.k) Try.underlying35 rfl (by kernel_rfl) ?_)
      have hkA : Keep w5 (w5.alloc (.cells #[.int .i64 0, .int .i64 0, .int .i64 0] 48)) := Keep.new w5 _
      refine (packets_any _ (Lab w5 L5 0) (C5.k st5.k) st5.k (fun i hi => by have := hi.1; simp; omega) (HP5.out.lk.keep (hkA.mono (fun i hi => hi.1))) (by have : st5.k.kept.length ≤ 8 := HOK5.out.kept; omega) HOK5.out.base0 (by have : st5.k.base ≤ 100000 := HOK5.out.base1; omega)).mono ?_
      rintro e w7 ⟨B, nb, cb, rfl, hsl, hk7⟩
      have hz7 := hk7.size
      simp at hz7
      have hnb : nb ≤ 8 := by rw [hsl.1, packetsS, packetsTo_len]; exact HOK5.out.kept
      have hk57 : Keep w5 w7 := Keep.trans hkA hk7
      have hstart : EndRel w00 g w5.heap.size B nb cb st5.k st5.inn (.int .i64 0) w7 := by
        refine ⟨0, ext L5 w5.heap.size (fun i => if i = w5.heap.size then 8 else 7), st5, C5, 0, rfl, by omega, by rw [ext_old hg5]; exact HLG5.out, ⟨by omega, by rw [ext_new (Nat.le_refl _)]; simp⟩, ?_, hk7.blk (Blk.new w5 _ _) (by simp), hsl.more (fun i hi => ⟨hi.2, ?_⟩), HINV5.out, ⟨rfl, rfl, rfl⟩, ?_, fun h => absurd h (by omega), fun i hi => by rw [ext_old (by omega)]; exact HL65.out i hi, Keep.trans HKW5.out hk57⟩
        · have hp7 := HP5.out.same hk57 hg5 (fun i hi => hi.1) (fun i hi => hi.1) (fun i hi => hi.1) (fun i hi => hi.1) (fun i hi => hi.1)
          exact ⟨hp7.blk, hp7.kept.more (fun i hi => hi.old (by omega)), hp7.early.more (fun i hi => hi.old (by omega)), hp7.data.more (fun i hi _ => hi.old (by omega)), hp7.ack.more (fun i hi _ => hi.old (by omega)), hp7.inn.more (fun i hi _ => hi.old (by omega)), hp7.out.more (fun i hi _ => hi.old (by omega)), hp7.ldata, hp7.lack, hp7.linn, hp7.lout⟩
        · have := hi.1
          simp at this
          rw [ext_new (by omega)]
          simp
          omega
        · have : st5.k.base ≤ st5.k.want := HINV5.out.bw
          omega
      have HSTART := Lib.hid hstart
      have HSL := Lib.hid hsl
      have HK7 := Lib.hid hk7
      have HK57 := Lib.hid hk57
      clear hstart hsl hk7 hk57
      clear hkA
      go_wp2_with fail
      go_loopw [78] (fun i wr => EndRel w00 g w5.heap.size B nb cb st5.k st5.inn i wr) (fun i _ => nb - (intOf i).toNat)
      case atStart => exact HSTART.out
      case round =>
        obtain ⟨j, L, st, C, aw, rfl, hj, hLg, hL13, hp, hb13, hpk, hinv, ⟨hkb, hkk, hki⟩, hwant, haw, hL6, hkw⟩ := hrel
        obtain ⟨w, rfl⟩ : ∃ w : World, w = wr := ⟨_, rfl⟩
        by_cases hjn : j < nb
        · have hok := hinv.ok
          obtain ⟨b, off, q, rfl, hSb, hq, hqc⟩ := hpk.at_ encPk_len hjn
          have q0 := hqc 0 _ rfl
          have q1 := hqc 1 _ rfl
          have q2 := hqc 2 _ rfl
          simp only [Nat.add_zero] at q0
          have hqs := packetsS_at hq
          have hmem : q ∈ packetsS st.k := by rw [packetsS_congr hkb hkk]; exact List.mem_of_getElem? hq
          have hqok := hinv.packets q hmem
          have i0 : (0 : Int) ≤ j := by omega
          have i1 : (j : Int) < nb := by omega
          have i2 : decide (j < nb) = true := by simpa using hjn
          have hg : g < w.heap.size := hp.blk.lt
          have h13 : w5.heap.size < w.heap.size := hL13.1
          have hn13 : w5.heap.size ≠ g := fun e => by have := hL13.2; rw [e] at this; omega
          have hzw := hkw.size
          have HLG := Lib.hid hLg
          have HL13 := Lib.hid hL13
          have HP := Lib.hid hp
          have HB13 := Lib.hid hb13
          have HPK := Lib.hid hpk
          have HINV := Lib.hid hinv
          have HKB := Lib.hid hkb
          have HKK := Lib.hid hkk
          have HKI := Lib.hid hki
          have HWANT := Lib.hid hwant
          have HAW := Lib.hid haw
          have HL6 := Lib.hid hL6
          have HKW := Lib.hid hkw
          have HOK := Lib.hid hok
          have HQ := Lib.hid hq
          have HQC := Lib.hid hqc
          have HQS := Lib.hid hqs
          have HMEM := Lib.hid hmem
          have HQOK := Lib.hid hqok
          clear hLg hL13 hp hb13 hpk hinv hkb hkk hki hwant haw hL6 hkw hok hq hqc hqs hmem hqok
          go_upto_region 15 with (refine wpList_store_all rfl _ (.tmp 15) (.tmp 81) rfl w.heap.size 48 _ (encPk q) rfl rfl (Blk.new _ _ _) rfl (by kernel_rfl) rfl ?_; intro w4 hb4 hs4; have HB14 := Lib.hid hb4; have HK4 : Hid (Keep w w4) := Lib.hid (Keep.write (Keep.new w _) hs4 (Nat.le_refl _)); have hz4 : w.heap.size < w4.heap.size := hb4.lt; clear hb4 hs4)
          clear q0 q1 q2
          have hp4 := HP.out.same HK4.out hg (fun i hi => hi.1) (fun i hi => hi.1) (fun i hi => hi.1) (fun i hi => hi.1) (fun i hi => hi.1)
          have hlk := hp4.lk
          have hiq : I64 q.seq := by have h1 := HQS.out.1; have h2 : st5.k.base ≤ 100000 := HOK5.out.base1; have h3 := HQOK.out.1; exact ⟨by omega, by omega⟩
          have hw0 : 0 ≤ st.k.want := HOK.out.want0
          have hw1 : st.k.want ≤ 100000 := HOK.out.want1
          have he0 : st.k.early.length ≤ 100 := HOK.out.early
          have ho4 : C.n4 ≤ 100000 := by rw [HP.out.lout]; exact HOK.out.out
          have hdl := arriveD_len st.k q
          have HP4 := Lib.hid hp4
          have HLK := Lib.hid hlk
          have HIQ := Lib.hid hiq
          clear hp4 hlk hiq
          go_frame
          go_cut [16, 17, 18] from 82 to 91 (fun sa sb sc wx => CutR w4 (Lab w L 0) (arriveS st.k q) (arriveD st.k q) sa sb sc wx)
          case first =>
            have hA : True := trivial
            refine wp_region_L 99 (fun _ => True) (fun wx => Keep w4 wx) (by kernel_rfl) trivial (Same.drew (Same.refl _ _)) (fun _ hB => ?_)
            refine wpL_takeB (i := 0) (v := ?_) rfl (by kernel_rfl) (by kernel_rfl) (by kernel_rfl) (by decide) (fun _ _ _ h => h) (Or.inl ⟨by rfl, ?_⟩) (SAB.both hA hB) ?_
            rotate_left
            · intro wx hBx
              (try dsimp only at hBx)
              go_simp
              try with_reducible rfl
            try simp only [Act.put, List.setIfInBounds_toArray, List.set_cons_zero, List.set_cons_succ]
            refine wpL_takeB (i := 1) (v := ?_) rfl (by kernel_rfl) (by kernel_rfl) (by kernel_rfl) (by decide) (fun _ _ _ h => h) (Or.inl ⟨by rfl, ?_⟩) (SAB.both hA hB) ?_
            rotate_left
            · intro wx hBx
              (try dsimp only at hBx)
              go_simp
              try with_reducible rfl
            try simp only [Act.put, List.setIfInBounds_toArray, List.set_cons_zero, List.set_cons_succ]
            refine wpL_takeB (i := 2) (v := ?_) rfl (by kernel_rfl) (by kernel_rfl) (by kernel_rfl) (by decide) (fun _ _ _ h => h) (Or.inl ⟨by rfl, ?_⟩) (SAB.both hA hB) ?_
            rotate_left
            · intro wx hBx
              (try dsimp only at hBx)
              go_simp
              try with_reducible rfl
            try simp only [Act.put, List.setIfInBounds_toArray, List.set_cons_zero, List.set_cons_succ]
            refine wpL_takeB (i := 3) rfl (by kernel_rfl) (by kernel_rfl) (by kernel_rfl) (by decide) (fun _ _ _ h => h) (yieldsIf_blk (by rfl) _ _ rfl g 0 41 _ (C.k st.k) _ rfl (fun wx hx => hx.blk HP4.out.blk (by omega)) (C.sub st.k) Try.underlying35 rfl (by kernel_rfl)) (SAB.both hA hB) ?_
            try simp only [Act.put, List.setIfInBounds_toArray, List.set_cons_zero, List.set_cons_succ]
            refine wpL_takeB (i := 4) rfl (by kernel_rfl) (by kernel_rfl) (by kernel_rfl) (by decide) (fun _ _ _ h => h) (yieldsIf_blk (by rfl) _ _ rfl w.heap.size 0 48 _ (encPk q) _ rfl (fun wx hx => hx.blk HB14.out (by omega)) (fun j v hv => by simpa using hv) Try.underlying48 rfl (by kernel_rfl)) (SAB.both hA hB) ?_
            try simp only [Act.put, List.setIfInBounds_toArray, List.set_cons_zero, List.set_cons_succ]
            have key : ∀ (wa : World), Keep w4 wa → Calls Try.prog 25 #[.agg (C.k st.k).toArray, .agg (encPk q).toArray] wa (ArrPost (arriveS st.k q) (arriveD st.k q) (Lab w L 0) wa) := fun wa ha => arrive_any wa (Lab w L 0) (C.k st.k) st.k q (fun i hi => by have := hi.1; have := ha.size; omega) (LkR.keep HLK.out (ha.mono (fun i hi => by have := hi.1; omega))) (by omega) hw0 (by omega) HIQ.out
            have fin : ∀ (wa wb wf : World) (b15 b17 : Nat) (cs6 : List Value) (A : Option Addr) (n6 c6 : Nat), Keep w4 wa → LkR wb (fun i => Lab w L 0 i ∨ (wa.heap.size ≤ i ∧ i < wb.heap.size)) cs6 (arriveS st.k q) → Sl encI 1 wb (fun i => wa.heap.size ≤ i ∧ i < wb.heap.size) A n6 c6 (arriveD st.k q) → Keep wa wb → w4.heap.size ≤ b15 → w4.heap.size ≤ b17 → (b15 < wa.heap.size ∨ wb.heap.size ≤ b15) → (b17 < wa.heap.size ∨ wb.heap.size ≤ b17) → Same (fun i => i < wb.heap.size ∧ i ≠ b15 ∧ i ≠ b17) wb wf → Blk wf b15 35 cs6.toArray → Blk wf b17 48 #[.int .i64 0, .int .i64 ((arriveS st.k q).want - 1), .int .i64 0] → CutR w4 (Lab w L 0) (arriveS st.k q) (arriveD st.k q) (.pointer (some ⟨b15, 0, none⟩)) (.slice A n6 c6) (.pointer (some ⟨b17, 0, none⟩)) wf := fun wa wb wf b15 b17 cs6 A n6 c6 ha hr hsl hk h15 h17 d15 d17 hs hb15 hb17 => by
              have h1 := ha.size
              have h2 := hk.size
              have h3 := hs.size
              have hlt : ∀ i, (Lab w L 0 i ∨ (wa.heap.size ≤ i ∧ i < wb.heap.size)) → i < wb.heap.size ∧ i ≠ b15 ∧ i ≠ b17 := fun i hi => hi.elim (fun h => by have := h.1; omega) (fun h => by omega)
              refine ⟨b15, b17, cs6, A, n6, c6, rfl, rfl, rfl, h15, h17, hb15, hb17, (hr.keep (hs.mono hlt)).more (fun i hi => ?_), (hsl.keep (hs.mono (fun i hi => hlt i (.inr hi)))).more (fun i hi => ?_), Same.trans (Keep.trans ha hk) hs (fun i hi => by omega)⟩
              · have := hlt i hi
                rcases hi with hi | hi
                · exact .inl hi
                · exact .inr ⟨by omega, by omega, by omega⟩
              · have := hlt i (.inr hi)
                exact ⟨by omega, by omega, by omega⟩
            have KEY := Lib.hid key
            have FIN := Lib.hid fin
            clear key fin
            refine wpL_three (i := 5) (j := 10) (m := 11) (by kernel_rfl) (StepL.mk rfl (fun K hK => ?_)) (StepL.mk rfl (fun K hK => ?_)) (StepL.mk rfl (fun K hK => ?_))
            · go_simp
              refine (KEY.out _ hB).mono ?_
              rintro e w6 ⟨cs6, A6, n6, c6, rfl, hr6, hd6, hk6⟩
              have hz6 := hk6.size
              simp at hz6
              refine hK.out _ _ (SAB.both trivial (Keep.trans hB hk6)) (fun hSS => ?_)
              clear hK K hA hB
              have hB := hSS.2
              have hA := hSS.1 (by kernel_rfl)
              (try dsimp only at hB); (try dsimp only at hA); clear hSS
              try simp only [Act.put, List.setIfInBounds_toArray, List.set_cons_zero, List.set_cons_succ]
              refine wpL_takeB (i := 6) (v := ?_) rfl (by kernel_rfl) (by kernel_rfl) (by kernel_rfl) (by decide) (fun _ _ _ h => h) (Or.inl ⟨by rfl, ?_⟩) (SAB.both hA hB) ?_
              rotate_left
              · intro wx hBx
                (try dsimp only at hBx)
                go_simp
                try with_reducible rfl
              try simp only [Act.put, List.setIfInBounds_toArray, List.set_cons_zero, List.set_cons_succ]
              refine wpL_takeB (i := 7) (v := ?_) rfl (by kernel_rfl) (by kernel_rfl) (by kernel_rfl) (by decide) (fun _ _ _ h => h) (Or.inl ⟨by rfl, ?_⟩) (SAB.both hA hB) ?_
              rotate_left
              · intro wx hBx
                (try dsimp only at hBx)
                go_simp
                try with_reducible rfl
              try simp only [Act.put, List.setIfInBounds_toArray, List.set_cons_zero, List.set_cons_succ]
              refine wpL_takeB (i := 8) (v := ?_) rfl (by kernel_rfl) (by kernel_rfl) (by kernel_rfl) (by decide) (fun _ _ _ h => h) (Or.inl ⟨by rfl, ?_⟩) (SAB.both hA hB) ?_
              rotate_left
              · intro wx hBx
                (try dsimp only at hBx)
                go_simp
                try with_reducible rfl
              try simp only [Act.put, List.setIfInBounds_toArray, List.set_cons_zero, List.set_cons_succ]
              refine wpL_takeB (i := 9) (v := ?_) rfl (by kernel_rfl) (by kernel_rfl) (by kernel_rfl) (by decide) (fun _ _ _ h => h) (Or.inl ⟨by rfl, ?_⟩) (SAB.both hA hB) ?_
              rotate_left
              · intro wx hBx
                (try dsimp only at hBx)
                go_simp
                try with_reducible rfl
              try simp only [Act.put, List.setIfInBounds_toArray, List.set_cons_zero, List.set_cons_succ]
              refine wpL_two (i := 10) (j := 11) (by kernel_rfl) (StepL.mk rfl (fun K hK => ?_)) (StepL.mk rfl (fun K hK => ?_))
              · go_simp
                refine hK.out _ _ (SAB.both trivial (Keep.alloc hB _)) (fun hSS => ?_)
                clear hK K hA hB
                have hB := hSS.2
                have hA := hSS.1 (by kernel_rfl)
                (try dsimp only at hB); (try dsimp only at hA); clear hSS
                try simp only [Act.put, List.setIfInBounds_toArray, List.set_cons_zero, List.set_cons_succ]
                refine wpL_one (i := 11) (by kernel_rfl) (StepL.mk rfl (fun K hK => ?_))
                go_simp
                refine hK.out _ _ (SAB.both trivial (Keep.alloc hB _)) (fun hSS => ?_)
                clear hK K hA hB
                have hB := hSS.2
                have hA := hSS.1 (by kernel_rfl)
                (try dsimp only at hB); (try dsimp only at hA); clear hSS
                try simp only [Act.put, List.setIfInBounds_toArray, List.set_cons_zero, List.set_cons_succ]
                refine wpL_one (i := 12) (by kernel_rfl) (StepL.mk rfl (fun K hK => ?_))
                refine step_store_blk rfl _ _ _ rfl (w6.heap.size) 0 35 _ cs6 rfl rfl ((Blk.new w6 _ _).alloc _) (by rw [hr6.len]; simp) (info_lk hr6.len) hr6.one ?_
                intro w8 hb8 hs8
                rw [splice_all cs6 _ (by rw [hr6.len]; rfl)] at hb8
                have hB8 := Keep.write hB hs8 (by omega)
                refine hK.out _ _ (SAB.both trivial hB8) (fun hSS => ?_)
                clear hK K hA hB
                have hB := hSS.2
                have hA := hSS.1 (by kernel_rfl)
                (try dsimp only at hB); (try dsimp only at hA); clear hSS
                try simp only [Act.put, List.setIfInBounds_toArray, List.set_cons_zero, List.set_cons_succ]
                refine wpL_takeB (i := 13) (v := ?_) rfl (by kernel_rfl) (by kernel_rfl) (by kernel_rfl) (by decide) (fun _ _ _ h => h) (Or.inl ⟨by rfl, ?_⟩) (SAB.both hA hB) ?_
                rotate_left
                · intro wx hBx
                  (try dsimp only at hBx)
                  go_simp
                  try with_reducible rfl
                try simp only [Act.put, List.setIfInBounds_toArray, List.set_cons_zero, List.set_cons_succ]
                refine wpL_one (i := 14) (by kernel_rfl) (StepL.mk rfl (fun K hK => ?_))
                refine step_store_blk rfl _ _ _ rfl (w6.heap.size + 1) 0 48 _ [.int .i64 0, .int .i64 ((arriveS st.k q).want - 1), .int .i64 0] rfl rfl (hs8.blk (Blk.snd w6 _ _ _) (by omega)) (by simp) (by kernel_rfl) rfl ?_
                intro w9 hb9 hs9
                rw [splice_all [.int .i64 0, .int .i64 ((arriveS st.k q).want - 1), .int .i64 0] #[.int .i64 0, .int .i64 0, .int .i64 0] rfl] at hb9
                have hfin := FIN.out _ w6 w9 (w6.heap.size) (w6.heap.size + 1) cs6 A6 n6 c6 (Same.drew (Same.refl _ _)) hr6 hd6 hk6 (by omega) (by omega) (by simp <;> omega) (by simp <;> omega) (Same.trans (Same.trans (Same.mono (Keep.alloc (Keep.new w6 _) _) (fun i hi => hi.1)) hs8 (fun i hi => by omega)) hs9 (fun i hi => by omega)) (hs9.blk hb8 (by omega)) hb9
                refine hK.out _ _ (SAB.both trivial (Keep.write hB hs9 (by omega))) (fun hSS => ?_)
                clear hK K hA hB
                have hB := hSS.2
                have hA := hSS.1 (by kernel_rfl)
                (try dsimp only at hB); (try dsimp only at hA); clear hSS
                try simp only [Act.put, List.setIfInBounds_toArray, List.set_cons_zero, List.set_cons_succ]
                refine wpL_done (by kernel_rfl) ?_
                have HFIN := Lib.hid hfin
                clear hfin
                clear hb8 hs8 hb9 hs9 hr6 hd6 hk6 hA hB hB8
                go_wp2_with fail
                go_meet
                exact HFIN.out
              · go_simp
                refine hK.out _ _ (SAB.both trivial (Keep.alloc hB _)) (fun hSS => ?_)
                clear hK K hA hB
                have hB := hSS.2
                have hA := hSS.1 (by kernel_rfl)
                (try dsimp only at hB); (try dsimp only at hA); clear hSS
                try simp only [Act.put, List.setIfInBounds_toArray, List.set_cons_zero, List.set_cons_succ]
                refine wpL_one (i := 10) (by kernel_rfl) (StepL.mk rfl (fun K hK => ?_))
                go_simp
                refine hK.out _ _ (SAB.both trivial (Keep.alloc hB _)) (fun hSS => ?_)
                clear hK K hA hB
                have hB := hSS.2
                have hA := hSS.1 (by kernel_rfl)
                (try dsimp only at hB); (try dsimp only at hA); clear hSS
                try simp only [Act.put, List.setIfInBounds_toArray, List.set_cons_zero, List.set_cons_succ]
                refine wpL_one (i := 12) (by kernel_rfl) (StepL.mk rfl (fun K hK => ?_))
                refine step_store_blk rfl _ _ _ rfl (w6.heap.size + 1) 0 35 _ cs6 rfl rfl (Blk.snd w6 _ _ _) (by rw [hr6.len]; simp) (info_lk hr6.len) hr6.one ?_
                intro w8 hb8 hs8
                rw [splice_all cs6 _ (by rw [hr6.len]; rfl)] at hb8
                have hB8 := Keep.write hB hs8 (by omega)
                refine hK.out _ _ (SAB.both trivial hB8) (fun hSS => ?_)
                clear hK K hA hB
                have hB := hSS.2
                have hA := hSS.1 (by kernel_rfl)
                (try dsimp only at hB); (try dsimp only at hA); clear hSS
                try simp only [Act.put, List.setIfInBounds_toArray, List.set_cons_zero, List.set_cons_succ]
                refine wpL_takeB (i := 13) (v := ?_) rfl (by kernel_rfl) (by kernel_rfl) (by kernel_rfl) (by decide) (fun _ _ _ h => h) (Or.inl ⟨by rfl, ?_⟩) (SAB.both hA hB) ?_
                rotate_left
                · intro wx hBx
                  (try dsimp only at hBx)
                  go_simp
                  try with_reducible rfl
                try simp only [Act.put, List.setIfInBounds_toArray, List.set_cons_zero, List.set_cons_succ]
                refine wpL_one (i := 14) (by kernel_rfl) (StepL.mk rfl (fun K hK => ?_))
                refine step_store_blk rfl _ _ _ rfl (w6.heap.size) 0 48 _ [.int .i64 0, .int .i64 ((arriveS st.k q).want - 1), .int .i64 0] rfl rfl (hs8.blk ((Blk.new w6 _ _).alloc _) (by omega)) (by simp) (by kernel_rfl) rfl ?_
                intro w9 hb9 hs9
                rw [splice_all [.int .i64 0, .int .i64 ((arriveS st.k q).want - 1), .int .i64 0] #[.int .i64 0, .int .i64 0, .int .i64 0] rfl] at hb9
                have hfin := FIN.out _ w6 w9 (w6.heap.size + 1) (w6.heap.size) cs6 A6 n6 c6 (Same.drew (Same.refl _ _)) hr6 hd6 hk6 (by omega) (by omega) (by simp <;> omega) (by simp <;> omega) (Same.trans (Same.trans (Same.mono (Keep.alloc (Keep.new w6 _) _) (fun i hi => hi.1)) hs8 (fun i hi => by omega)) hs9 (fun i hi => by omega)) (hs9.blk hb8 (by omega)) hb9
                refine hK.out _ _ (SAB.both trivial (Keep.write hB hs9 (by omega))) (fun hSS => ?_)
                clear hK K hA hB
                have hB := hSS.2
                have hA := hSS.1 (by kernel_rfl)
                (try dsimp only at hB); (try dsimp only at hA); clear hSS
                try simp only [Act.put, List.setIfInBounds_toArray, List.set_cons_zero, List.set_cons_succ]
                refine wpL_done (by kernel_rfl) ?_
                have HFIN := Lib.hid hfin
                clear hfin
                clear hb8 hs8 hb9 hs9 hr6 hd6 hk6 hA hB hB8
                go_wp2_with fail
                go_meet
                exact HFIN.out
            · go_simp
              refine hK.out _ _ (SAB.both trivial (Same.drew (Keep.new w4 _))) (fun hSS => ?_)
              clear hK K hA hB
              have hB := hSS.2
              have hA := hSS.1 (by kernel_rfl)
              (try dsimp only at hB); (try dsimp only at hA); clear hSS
              try simp only [Act.put, List.setIfInBounds_toArray, List.set_cons_zero, List.set_cons_succ]
              refine wpL_two (i := 5) (j := 11) (by kernel_rfl) (StepL.mk rfl (fun K hK => ?_)) (StepL.mk rfl (fun K hK => ?_))
              · go_simp
                refine (KEY.out _ hB).mono ?_
                rintro e w6 ⟨cs6, A6, n6, c6, rfl, hr6, hd6, hk6⟩
                have hz6 := hk6.size
                simp at hz6
                refine hK.out _ _ (SAB.both trivial (Keep.trans hB hk6)) (fun hSS => ?_)
                clear hK K hA hB
                have hB := hSS.2
                have hA := hSS.1 (by kernel_rfl)
                (try dsimp only at hB); (try dsimp only at hA); clear hSS
                try simp only [Act.put, List.setIfInBounds_toArray, List.set_cons_zero, List.set_cons_succ]
                refine wpL_takeB (i := 6) (v := ?_) rfl (by kernel_rfl) (by kernel_rfl) (by kernel_rfl) (by decide) (fun _ _ _ h => h) (Or.inl ⟨by rfl, ?_⟩) (SAB.both hA hB) ?_
                rotate_left
                · intro wx hBx
                  (try dsimp only at hBx)
                  go_simp
                  try with_reducible rfl
                try simp only [Act.put, List.setIfInBounds_toArray, List.set_cons_zero, List.set_cons_succ]
                refine wpL_takeB (i := 7) (v := ?_) rfl (by kernel_rfl) (by kernel_rfl) (by kernel_rfl) (by decide) (fun _ _ _ h => h) (Or.inl ⟨by rfl, ?_⟩) (SAB.both hA hB) ?_
                rotate_left
                · intro wx hBx
                  (try dsimp only at hBx)
                  go_simp
                  try with_reducible rfl
                try simp only [Act.put, List.setIfInBounds_toArray, List.set_cons_zero, List.set_cons_succ]
                refine wpL_takeB (i := 8) (v := ?_) rfl (by kernel_rfl) (by kernel_rfl) (by kernel_rfl) (by decide) (fun _ _ _ h => h) (Or.inl ⟨by rfl, ?_⟩) (SAB.both hA hB) ?_
                rotate_left
                · intro wx hBx
                  (try dsimp only at hBx)
                  go_simp
                  try with_reducible rfl
                try simp only [Act.put, List.setIfInBounds_toArray, List.set_cons_zero, List.set_cons_succ]
                refine wpL_takeB (i := 9) (v := ?_) rfl (by kernel_rfl) (by kernel_rfl) (by kernel_rfl) (by decide) (fun _ _ _ h => h) (Or.inl ⟨by rfl, ?_⟩) (SAB.both hA hB) ?_
                rotate_left
                · intro wx hBx
                  (try dsimp only at hBx)
                  go_simp
                  try with_reducible rfl
                try simp only [Act.put, List.setIfInBounds_toArray, List.set_cons_zero, List.set_cons_succ]
                refine wpL_one (i := 11) (by kernel_rfl) (StepL.mk rfl (fun K hK => ?_))
                go_simp
                refine hK.out _ _ (SAB.both trivial (Keep.alloc hB _)) (fun hSS => ?_)
                clear hK K hA hB
                have hB := hSS.2
                have hA := hSS.1 (by kernel_rfl)
                (try dsimp only at hB); (try dsimp only at hA); clear hSS
                try simp only [Act.put, List.setIfInBounds_toArray, List.set_cons_zero, List.set_cons_succ]
                refine wpL_one (i := 12) (by kernel_rfl) (StepL.mk rfl (fun K hK => ?_))
                refine step_store_blk rfl _ _ _ rfl (w4.heap.size) 0 35 _ cs6 rfl rfl ((hk6.blk ((Blk.new w4 _ _).drewN 1) (by simp; try omega)).alloc _) (by rw [hr6.len]; simp) (info_lk hr6.len) hr6.one ?_
                intro w8 hb8 hs8
                rw [splice_all cs6 _ (by rw [hr6.len]; rfl)] at hb8
                have hB8 := Keep.write hB hs8 (by omega)
                refine hK.out _ _ (SAB.both trivial hB8) (fun hSS => ?_)
                clear hK K hA hB
                have hB := hSS.2
                have hA := hSS.1 (by kernel_rfl)
                (try dsimp only at hB); (try dsimp only at hA); clear hSS
                try simp only [Act.put, List.setIfInBounds_toArray, List.set_cons_zero, List.set_cons_succ]
                refine wpL_takeB (i := 13) (v := ?_) rfl (by kernel_rfl) (by kernel_rfl) (by kernel_rfl) (by decide) (fun _ _ _ h => h) (Or.inl ⟨by rfl, ?_⟩) (SAB.both hA hB) ?_
                rotate_left
                · intro wx hBx
                  (try dsimp only at hBx)
                  go_simp
                  try with_reducible rfl
                try simp only [Act.put, List.setIfInBounds_toArray, List.set_cons_zero, List.set_cons_succ]
                refine wpL_one (i := 14) (by kernel_rfl) (StepL.mk rfl (fun K hK => ?_))
                refine step_store_blk rfl _ _ _ rfl (w6.heap.size) 0 48 _ [.int .i64 0, .int .i64 ((arriveS st.k q).want - 1), .int .i64 0] rfl rfl (hs8.blk (Blk.new w6 _ _) (by omega)) (by simp) (by kernel_rfl) rfl ?_
                intro w9 hb9 hs9
                rw [splice_all [.int .i64 0, .int .i64 ((arriveS st.k q).want - 1), .int .i64 0] #[.int .i64 0, .int .i64 0, .int .i64 0] rfl] at hb9
                have hfin := FIN.out _ w6 w9 (w4.heap.size) (w6.heap.size) cs6 A6 n6 c6 (Same.drew (Keep.new w4 _)) hr6 hd6 hk6 (by omega) (by omega) (by simp <;> omega) (by simp <;> omega) (Same.trans (Same.trans (Same.mono (Keep.new w6 _) (fun i hi => hi.1)) hs8 (fun i hi => by omega)) hs9 (fun i hi => by omega)) (hs9.blk hb8 (by omega)) hb9
                refine hK.out _ _ (SAB.both trivial (Keep.write hB hs9 (by omega))) (fun hSS => ?_)
                clear hK K hA hB
                have hB := hSS.2
                have hA := hSS.1 (by kernel_rfl)
                (try dsimp only at hB); (try dsimp only at hA); clear hSS
                try simp only [Act.put, List.setIfInBounds_toArray, List.set_cons_zero, List.set_cons_succ]
                refine wpL_done (by kernel_rfl) ?_
                have HFIN := Lib.hid hfin
                clear hfin
                clear hb8 hs8 hb9 hs9 hr6 hd6 hk6 hA hB hB8
                go_wp2_with fail
                go_meet
                exact HFIN.out
              · go_simp
                refine hK.out _ _ (SAB.both trivial (Same.drew (Keep.alloc (Keep.new w4 _) _))) (fun hSS => ?_)
                clear hK K hA hB
                have hB := hSS.2
                have hA := hSS.1 (by kernel_rfl)
                (try dsimp only at hB); (try dsimp only at hA); clear hSS
                try simp only [Act.put, List.setIfInBounds_toArray, List.set_cons_zero, List.set_cons_succ]
                refine wpL_one (i := 5) (by kernel_rfl) (StepL.mk rfl (fun K hK => ?_))
                go_simp
                refine (KEY.out _ hB).mono ?_
                rintro e w6 ⟨cs6, A6, n6, c6, rfl, hr6, hd6, hk6⟩
                have hz6 := hk6.size
                simp at hz6
                refine hK.out _ _ (SAB.both trivial (Keep.trans hB hk6)) (fun hSS => ?_)
                clear hK K hA hB
                have hB := hSS.2
                have hA := hSS.1 (by kernel_rfl)
                (try dsimp only at hB); (try dsimp only at hA); clear hSS
                try simp only [Act.put, List.setIfInBounds_toArray, List.set_cons_zero, List.set_cons_succ]
                refine wpL_takeB (i := 6) (v := ?_) rfl (by kernel_rfl) (by kernel_rfl) (by kernel_rfl) (by decide) (fun _ _ _ h => h) (Or.inl ⟨by rfl, ?_⟩) (SAB.both hA hB) ?_
                rotate_left
                · intro wx hBx
                  (try dsimp only at hBx)
                  go_simp
                  try with_reducible rfl
                try simp only [Act.put, List.setIfInBounds_toArray, List.set_cons_zero, List.set_cons_succ]
                refine wpL_takeB (i := 7) (v := ?_) rfl (by kernel_rfl) (by kernel_rfl) (by kernel_rfl) (by decide) (fun _ _ _ h => h) (Or.inl ⟨by rfl, ?_⟩) (SAB.both hA hB) ?_
                rotate_left
                · intro wx hBx
                  (try dsimp only at hBx)
                  go_simp
                  try with_reducible rfl
                try simp only [Act.put, List.setIfInBounds_toArray, List.set_cons_zero, List.set_cons_succ]
                refine wpL_takeB (i := 8) (v := ?_) rfl (by kernel_rfl) (by kernel_rfl) (by kernel_rfl) (by decide) (fun _ _ _ h => h) (Or.inl ⟨by rfl, ?_⟩) (SAB.both hA hB) ?_
                rotate_left
                · intro wx hBx
                  (try dsimp only at hBx)
                  go_simp
                  try with_reducible rfl
                try simp only [Act.put, List.setIfInBounds_toArray, List.set_cons_zero, List.set_cons_succ]
                refine wpL_takeB (i := 9) (v := ?_) rfl (by kernel_rfl) (by kernel_rfl) (by kernel_rfl) (by decide) (fun _ _ _ h => h) (Or.inl ⟨by rfl, ?_⟩) (SAB.both hA hB) ?_
                rotate_left
                · intro wx hBx
                  (try dsimp only at hBx)
                  go_simp
                  try with_reducible rfl
                try simp only [Act.put, List.setIfInBounds_toArray, List.set_cons_zero, List.set_cons_succ]
                refine wpL_one (i := 12) (by kernel_rfl) (StepL.mk rfl (fun K hK => ?_))
                refine step_store_blk rfl _ _ _ rfl (w4.heap.size) 0 35 _ cs6 rfl rfl (hk6.blk (((Blk.new w4 _ _).alloc _).drewN 1) (by simp; try omega)) (by rw [hr6.len]; simp) (info_lk hr6.len) hr6.one ?_
                intro w8 hb8 hs8
                rw [splice_all cs6 _ (by rw [hr6.len]; rfl)] at hb8
                have hB8 := Keep.write hB hs8 (by omega)
                refine hK.out _ _ (SAB.both trivial hB8) (fun hSS => ?_)
                clear hK K hA hB
                have hB := hSS.2
                have hA := hSS.1 (by kernel_rfl)
                (try dsimp only at hB); (try dsimp only at hA); clear hSS
                try simp only [Act.put, List.setIfInBounds_toArray, List.set_cons_zero, List.set_cons_succ]
                refine wpL_takeB (i := 13) (v := ?_) rfl (by kernel_rfl) (by kernel_rfl) (by kernel_rfl) (by decide) (fun _ _ _ h => h) (Or.inl ⟨by rfl, ?_⟩) (SAB.both hA hB) ?_
                rotate_left
                · intro wx hBx
                  (try dsimp only at hBx)
                  go_simp
                  try with_reducible rfl
                try simp only [Act.put, List.setIfInBounds_toArray, List.set_cons_zero, List.set_cons_succ]
                refine wpL_one (i := 14) (by kernel_rfl) (StepL.mk rfl (fun K hK => ?_))
                refine step_store_blk rfl _ _ _ rfl (w4.heap.size + 1) 0 48 _ [.int .i64 0, .int .i64 ((arriveS st.k q).want - 1), .int .i64 0] rfl rfl (hs8.blk (hk6.blk ((Blk.snd w4 _ _ _).drewN 1) (by simp; try omega)) (by omega)) (by simp) (by kernel_rfl) rfl ?_
                intro w9 hb9 hs9
                rw [splice_all [.int .i64 0, .int .i64 ((arriveS st.k q).want - 1), .int .i64 0] #[.int .i64 0, .int .i64 0, .int .i64 0] rfl] at hb9
                have hfin := FIN.out _ w6 w9 (w4.heap.size) (w4.heap.size + 1) cs6 A6 n6 c6 (Same.drew (Keep.alloc (Keep.new w4 _) _)) hr6 hd6 hk6 (by omega) (by omega) (by simp <;> omega) (by simp <;> omega) (Same.trans (Same.trans (Same.refl _ _) hs8 (fun i hi => by omega)) hs9 (fun i hi => by omega)) (hs9.blk hb8 (by omega)) hb9
                refine hK.out _ _ (SAB.both trivial (Keep.write hB hs9 (by omega))) (fun hSS => ?_)
                clear hK K hA hB
                have hB := hSS.2
                have hA := hSS.1 (by kernel_rfl)
                (try dsimp only at hB); (try dsimp only at hA); clear hSS
                try simp only [Act.put, List.setIfInBounds_toArray, List.set_cons_zero, List.set_cons_succ]
                refine wpL_done (by kernel_rfl) ?_
                have HFIN := Lib.hid hfin
                clear hfin
                clear hb8 hs8 hb9 hs9 hr6 hd6 hk6 hA hB hB8
                go_wp2_with fail
                go_meet
                exact HFIN.out
            · go_simp
              refine hK.out _ _ (SAB.both trivial (Same.drew (Keep.new w4 _))) (fun hSS => ?_)
              clear hK K hA hB
              have hB := hSS.2
              have hA := hSS.1 (by kernel_rfl)
              (try dsimp only at hB); (try dsimp only at hA); clear hSS
              try simp only [Act.put, List.setIfInBounds_toArray, List.set_cons_zero, List.set_cons_succ]
              refine wpL_two (i := 5) (j := 10) (by kernel_rfl) (StepL.mk rfl (fun K hK => ?_)) (StepL.mk rfl (fun K hK => ?_))
              · go_simp
                refine (KEY.out _ hB).mono ?_
                rintro e w6 ⟨cs6, A6, n6, c6, rfl, hr6, hd6, hk6⟩
                have hz6 := hk6.size
                simp at hz6
                refine hK.out _ _ (SAB.both trivial (Keep.trans hB hk6)) (fun hSS => ?_)
                clear hK K hA hB
                have hB := hSS.2
                have hA := hSS.1 (by kernel_rfl)
                (try dsimp only at hB); (try dsimp only at hA); clear hSS
                try simp only [Act.put, List.setIfInBounds_toArray, List.set_cons_zero, List.set_cons_succ]
                refine wpL_takeB (i := 6) (v := ?_) rfl (by kernel_rfl) (by kernel_rfl) (by kernel_rfl) (by decide) (fun _ _ _ h => h) (Or.inl ⟨by rfl, ?_⟩) (SAB.both hA hB) ?_
                rotate_left
                · intro wx hBx
                  (try dsimp only at hBx)
                  go_simp
                  try with_reducible rfl
                try simp only [Act.put, List.setIfInBounds_toArray, List.set_cons_zero, List.set_cons_succ]
                refine wpL_takeB (i := 7) (v := ?_) rfl (by kernel_rfl) (by kernel_rfl) (by kernel_rfl) (by decide) (fun _ _ _ h => h) (Or.inl ⟨by rfl, ?_⟩) (SAB.both hA hB) ?_
                rotate_left
                · intro wx hBx
                  (try dsimp only at hBx)
                  go_simp
                  try with_reducible rfl
                try simp only [Act.put, List.setIfInBounds_toArray, List.set_cons_zero, List.set_cons_succ]
                refine wpL_takeB (i := 8) (v := ?_) rfl (by kernel_rfl) (by kernel_rfl) (by kernel_rfl) (by decide) (fun _ _ _ h => h) (Or.inl ⟨by rfl, ?_⟩) (SAB.both hA hB) ?_
                rotate_left
                · intro wx hBx
                  (try dsimp only at hBx)
                  go_simp
                  try with_reducible rfl
                try simp only [Act.put, List.setIfInBounds_toArray, List.set_cons_zero, List.set_cons_succ]
                refine wpL_takeB (i := 9) (v := ?_) rfl (by kernel_rfl) (by kernel_rfl) (by kernel_rfl) (by decide) (fun _ _ _ h => h) (Or.inl ⟨by rfl, ?_⟩) (SAB.both hA hB) ?_
                rotate_left
                · intro wx hBx
                  (try dsimp only at hBx)
                  go_simp
                  try with_reducible rfl
                try simp only [Act.put, List.setIfInBounds_toArray, List.set_cons_zero, List.set_cons_succ]
                refine wpL_one (i := 10) (by kernel_rfl) (StepL.mk rfl (fun K hK => ?_))
                go_simp
                refine hK.out _ _ (SAB.both trivial (Keep.alloc hB _)) (fun hSS => ?_)
                clear hK K hA hB
                have hB := hSS.2
                have hA := hSS.1 (by kernel_rfl)
                (try dsimp only at hB); (try dsimp only at hA); clear hSS
                try simp only [Act.put, List.setIfInBounds_toArray, List.set_cons_zero, List.set_cons_succ]
                refine wpL_one (i := 12) (by kernel_rfl) (StepL.mk rfl (fun K hK => ?_))
                refine step_store_blk rfl _ _ _ rfl (w6.heap.size) 0 35 _ cs6 rfl rfl (Blk.new w6 _ _) (by rw [hr6.len]; simp) (info_lk hr6.len) hr6.one ?_
                intro w8 hb8 hs8
                rw [splice_all cs6 _ (by rw [hr6.len]; rfl)] at hb8
                have hB8 := Keep.write hB hs8 (by omega)
                refine hK.out _ _ (SAB.both trivial hB8) (fun hSS => ?_)
                clear hK K hA hB
                have hB := hSS.2
                have hA := hSS.1 (by kernel_rfl)
                (try dsimp only at hB); (try dsimp only at hA); clear hSS
                try simp only [Act.put, List.setIfInBounds_toArray, List.set_cons_zero, List.set_cons_succ]
                refine wpL_takeB (i := 13) (v := ?_) rfl (by kernel_rfl) (by kernel_rfl) (by kernel_rfl) (by decide) (fun _ _ _ h => h) (Or.inl ⟨by rfl, ?_⟩) (SAB.both hA hB) ?_
                rotate_left
                · intro wx hBx
                  (try dsimp only at hBx)
                  go_simp
                  try with_reducible rfl
                try simp only [Act.put, List.setIfInBounds_toArray, List.set_cons_zero, List.set_cons_succ]
                refine wpL_one (i := 14) (by kernel_rfl) (StepL.mk rfl (fun K hK => ?_))
                refine step_store_blk rfl _ _ _ rfl (w4.heap.size) 0 48 _ [.int .i64 0, .int .i64 ((arriveS st.k q).want - 1), .int .i64 0] rfl rfl (hs8.blk ((hk6.blk ((Blk.new w4 _ _).drewN 1) (by simp; try omega)).alloc _) (by omega)) (by simp) (by kernel_rfl) rfl ?_
                intro w9 hb9 hs9
                rw [splice_all [.int .i64 0, .int .i64 ((arriveS st.k q).want - 1), .int .i64 0] #[.int .i64 0, .int .i64 0, .int .i64 0] rfl] at hb9
                have hfin := FIN.out _ w6 w9 (w6.heap.size) (w4.heap.size) cs6 A6 n6 c6 (Same.drew (Keep.new w4 _)) hr6 hd6 hk6 (by omega) (by omega) (by simp <;> omega) (by simp <;> omega) (Same.trans (Same.trans (Same.mono (Keep.new w6 _) (fun i hi => hi.1)) hs8 (fun i hi => by omega)) hs9 (fun i hi => by omega)) (hs9.blk hb8 (by omega)) hb9
                refine hK.out _ _ (SAB.both trivial (Keep.write hB hs9 (by omega))) (fun hSS => ?_)
                clear hK K hA hB
                have hB := hSS.2
                have hA := hSS.1 (by kernel_rfl)
                (try dsimp only at hB); (try dsimp only at hA); clear hSS
                try simp only [Act.put, List.setIfInBounds_toArray, List.set_cons_zero, List.set_cons_succ]
                refine wpL_done (by kernel_rfl) ?_
                have HFIN := Lib.hid hfin
                clear hfin
                clear hb8 hs8 hb9 hs9 hr6 hd6 hk6 hA hB hB8
                go_wp2_with fail
                go_meet
                exact HFIN.out
              · go_simp
                refine hK.out _ _ (SAB.both trivial (Same.drew (Keep.alloc (Keep.new w4 _) _))) (fun hSS => ?_)
                clear hK K hA hB
                have hB := hSS.2
                have hA := hSS.1 (by kernel_rfl)
                (try dsimp only at hB); (try dsimp only at hA); clear hSS
                try simp only [Act.put, List.setIfInBounds_toArray, List.set_cons_zero, List.set_cons_succ]
                refine wpL_one (i := 5) (by kernel_rfl) (StepL.mk rfl (fun K hK => ?_))
                go_simp
                refine (KEY.out _ hB).mono ?_
                rintro e w6 ⟨cs6, A6, n6, c6, rfl, hr6, hd6, hk6⟩
                have hz6 := hk6.size
                simp at hz6
                refine hK.out _ _ (SAB.both trivial (Keep.trans hB hk6)) (fun hSS => ?_)
                clear hK K hA hB
                have hB := hSS.2
                have hA := hSS.1 (by kernel_rfl)
                (try dsimp only at hB); (try dsimp only at hA); clear hSS
                try simp only [Act.put, List.setIfInBounds_toArray, List.set_cons_zero, List.set_cons_succ]
                refine wpL_takeB (i := 6) (v := ?_) rfl (by kernel_rfl) (by kernel_rfl) (by kernel_rfl) (by decide) (fun _ _ _ h => h) (Or.inl ⟨by rfl, ?_⟩) (SAB.both hA hB) ?_
                rotate_left
                · intro wx hBx
                  (try dsimp only at hBx)
                  go_simp
                  try with_reducible rfl
                try simp only [Act.put, List.setIfInBounds_toArray, List.set_cons_zero, List.set_cons_succ]
                refine wpL_takeB (i := 7) (v := ?_) rfl (by kernel_rfl) (by kernel_rfl) (by kernel_rfl) (by decide) (fun _ _ _ h => h) (Or.inl ⟨by rfl, ?_⟩) (SAB.both hA hB) ?_
                rotate_left
                · intro wx hBx
                  (try dsimp only at hBx)
                  go_simp
                  try with_reducible rfl
                try simp only [Act.put, List.setIfInBounds_toArray, List.set_cons_zero, List.set_cons_succ]
                refine wpL_takeB (i := 8) (v := ?_) rfl (by kernel_rfl) (by kernel_rfl) (by kernel_rfl) (by decide) (fun _ _ _ h => h) (Or.inl ⟨by rfl, ?_⟩) (SAB.both hA hB) ?_
                rotate_left
                · intro wx hBx
                  (try dsimp only at hBx)
                  go_simp
                  try with_reducible rfl
                try simp only [Act.put, List.setIfInBounds_toArray, List.set_cons_zero, List.set_cons_succ]
                refine wpL_takeB (i := 9) (v := ?_) rfl (by kernel_rfl) (by kernel_rfl) (by kernel_rfl) (by decide) (fun _ _ _ h => h) (Or.inl ⟨by rfl, ?_⟩) (SAB.both hA hB) ?_
                rotate_left
                · intro wx hBx
                  (try dsimp only at hBx)
                  go_simp
                  try with_reducible rfl
                try simp only [Act.put, List.setIfInBounds_toArray, List.set_cons_zero, List.set_cons_succ]
                refine wpL_one (i := 12) (by kernel_rfl) (StepL.mk rfl (fun K hK => ?_))
                refine step_store_blk rfl _ _ _ rfl (w4.heap.size + 1) 0 35 _ cs6 rfl rfl (hk6.blk ((Blk.snd w4 _ _ _).drewN 1) (by simp; try omega)) (by rw [hr6.len]; simp) (info_lk hr6.len) hr6.one ?_
                intro w8 hb8 hs8
                rw [splice_all cs6 _ (by rw [hr6.len]; rfl)] at hb8
                have hB8 := Keep.write hB hs8 (by omega)
                refine hK.out _ _ (SAB.both trivial hB8) (fun hSS => ?_)
                clear hK K hA hB
                have hB := hSS.2
                have hA := hSS.1 (by kernel_rfl)
                (try dsimp only at hB); (try dsimp only at hA); clear hSS
                try simp only [Act.put, List.setIfInBounds_toArray, List.set_cons_zero, List.set_cons_succ]
                refine wpL_takeB (i := 13) (v := ?_) rfl (by kernel_rfl) (by kernel_rfl) (by kernel_rfl) (by decide) (fun _ _ _ h => h) (Or.inl ⟨by rfl, ?_⟩) (SAB.both hA hB) ?_
                rotate_left
                · intro wx hBx
                  (try dsimp only at hBx)
                  go_simp
                  try with_reducible rfl
                try simp only [Act.put, List.setIfInBounds_toArray, List.set_cons_zero, List.set_cons_succ]
                refine wpL_one (i := 14) (by kernel_rfl) (StepL.mk rfl (fun K hK => ?_))
                refine step_store_blk rfl _ _ _ rfl (w4.heap.size) 0 48 _ [.int .i64 0, .int .i64 ((arriveS st.k q).want - 1), .int .i64 0] rfl rfl (hs8.blk (hk6.blk (((Blk.new w4 _ _).alloc _).drewN 1) (by simp; try omega)) (by omega)) (by simp) (by kernel_rfl) rfl ?_
                intro w9 hb9 hs9
                rw [splice_all [.int .i64 0, .int .i64 ((arriveS st.k q).want - 1), .int .i64 0] #[.int .i64 0, .int .i64 0, .int .i64 0] rfl] at hb9
                have hfin := FIN.out _ w6 w9 (w4.heap.size + 1) (w4.heap.size) cs6 A6 n6 c6 (Same.drew (Keep.alloc (Keep.new w4 _) _)) hr6 hd6 hk6 (by omega) (by omega) (by simp <;> omega) (by simp <;> omega) (Same.trans (Same.trans (Same.refl _ _) hs8 (fun i hi => by omega)) hs9 (fun i hi => by omega)) (hs9.blk hb8 (by omega)) hb9
                refine hK.out _ _ (SAB.both trivial (Keep.write hB hs9 (by omega))) (fun hSS => ?_)
                clear hK K hA hB
                have hB := hSS.2
                have hA := hSS.1 (by kernel_rfl)
                (try dsimp only at hB); (try dsimp only at hA); clear hSS
                try simp only [Act.put, List.setIfInBounds_toArray, List.set_cons_zero, List.set_cons_succ]
                refine wpL_done (by kernel_rfl) ?_
                have HFIN := Lib.hid hfin
                clear hfin
                clear hb8 hs8 hb9 hs9 hr6 hd6 hk6 hA hB hB8
                go_wp2_with fail
                go_meet
                exact HFIN.out
          case rest =>
            obtain ⟨b16, b18, cs16, A17, n17, c17, rfl, rfl, rfl, h16, h18, hB16, hB18, hR16, hD17, hK10⟩ := hcut
            obtain ⟨w10, rfl⟩ : ∃ w10 : World, w10 = wc := ⟨_, rfl⟩
            have hz10 := hK10.size
            have l16 : b16 < w10.heap.size := hB16.lt
            have l18 : b18 < w10.heap.size := hB18.lt
            have hn17 : n17 ≤ 1000 := by rw [hD17.1]; omega
            have lt16 : ∀ i, (Lab w L 0 i ∨ (w4.heap.size ≤ i ∧ i < w10.heap.size ∧ i ≠ b16 ∧ i ≠ b18)) → i < w10.heap.size ∧ i ≠ b16 ∧ i ≠ b18 := fun i hi => hi.elim (fun h => by have := h.1; omega) (fun h => h.2)
            have hbg : Blk w10 g 41 (C.all st.k).toArray := hK10.blk HP4.out.blk (by omega)
            have hb13x : Blk w10 w5.heap.size 48 #[.int .i64 0, .int .i64 aw, .int .i64 0] := hK10.blk (HK4.out.blk HB13.out h13) (by omega)
            have hox : Ap w10 (Lab w L 4) 3 1 C.A4 C.n4 C.c4 (st.out.flatMap encI) := HP4.out.out.keep (hK10.mono (fun i hi => by have := hi.1; omega))
            have hg4 : ¬ Lab w L 4 g := fun hh => by have := hh.2; have := HLG.out; omega
            have h134 : ¬ Lab w L 4 w5.heap.size := fun hh => by have := hh.2; have := HL13.out.2; omega
            have onei : ∀ u ∈ (arriveD st.k q).flatMap encI, u.oneCell' = true := fun u hu => by
              obtain ⟨q, _, hm⟩ := List.mem_flatMap.1 hu
              exact encI_one q u hm
            obtain ⟨iI, ji0, jz0, jz1, jz2⟩ := info_of info_int'
            have hA : w10.cell? ⟨g, 8, none⟩ = some (.slice C.A4 C.n4 C.c4) := by rw [hbg.cell]; rfl
            have HB16 := Lib.hid hB16
            have HB18 := Lib.hid hB18
            have HR16 := Lib.hid hR16
            have HD17 := Lib.hid hD17
            have HK10 := Lib.hid hK10
            have LT16 := Lib.hid lt16
            have HBG := Lib.hid hbg
            have HB13X := Lib.hid hb13x
            have HOX := Lib.hid hox
            have HG4 := Lib.hid hg4
            have H134 := Lib.hid h134
            have ONEI := Lib.hid onei
            have JI0 := Lib.hid ji0
            have JZ0 := Lib.hid jz0
            have JZ1 := Lib.hid jz1
            have JZ2 := Lib.hid jz2
            clear hB16 hB18 hR16 hD17 hK10 lt16 hbg hb13x hox hg4 h134 onei ji0 jz0 jz1 jz2
            go_upto_region 16 with fail
            refine wp_region_L 12 (fun wx => wx.cell? ⟨g, 8, none⟩ = some (.slice C.A4 C.n4 C.c4)) (fun wx => Same (fun i => i < w10.heap.size ∧ i ≠ g ∧ i ≠ w5.heap.size ∧ ¬ Lab w L 4 i) w10 wx) (by kernel_rfl) hA (Same.drew (Same.refl _ _)) (fun hA hB => ?_)
            refine wpL_takeB (i := 0) (v := ?_) rfl (by kernel_rfl) (by kernel_rfl) (by kernel_rfl) (by decide) (fun _ _ _ h => h) (Or.inl ⟨by rfl, ?_⟩) (SAB.both hA hB) ?_
            rotate_left
            · intro wx hBx
              (try dsimp only at hBx)
              go_simp
              try with_reducible rfl
            try simp only [Act.put, List.setIfInBounds_toArray, List.set_cons_zero, List.set_cons_succ]
            refine wpL_takeB (i := 1) (v := ?_) rfl (by kernel_rfl) (by kernel_rfl) (by kernel_rfl) (by decide) (fun _ _ _ h => h) (Or.inl ⟨by rfl, ?_⟩) (SAB.both hA hB) ?_
            rotate_left
            · intro wx hBx
              (try dsimp only at hBx)
              go_simp
              try with_reducible rfl
            try simp only [Act.put, List.setIfInBounds_toArray, List.set_cons_zero, List.set_cons_succ]
            refine wpL_takeB (i := 2) rfl (by kernel_rfl) (by kernel_rfl) (by kernel_rfl) (by decide) (fun _ _ _ h => h) (yieldsIf_blk (by rfl) _ _ rfl b16 0 35 _ cs16 _ rfl (fun wx hx => hx.blk HB16.out ⟨by omega, by omega, by omega, fun hh => by have := hh.1; omega⟩) (fun j v hv => by simpa using hv) Try.underlying35 rfl (info_lk HR16.out.len)) (SAB.both hA hB) ?_
            try simp only [Act.put, List.setIfInBounds_toArray, List.set_cons_zero, List.set_cons_succ]
            refine wpL_takeB (i := 3) (v := ?_) rfl (by kernel_rfl) (by kernel_rfl) (by kernel_rfl) (by decide) (fun _ _ _ h => h) (Or.inl ⟨by rfl, ?_⟩) (SAB.both hA hB) ?_
            rotate_left
            · intro wx hBx
              (try dsimp only at hBx)
              go_simp
              try with_reducible rfl
            try simp only [Act.put, List.setIfInBounds_toArray, List.set_cons_zero, List.set_cons_succ]
            refine wpL_takeB (i := 4) (v := ?_) rfl (by kernel_rfl) (by kernel_rfl) (by kernel_rfl) (by decide) (fun _ _ _ h => h) (Or.inl ⟨by rfl, ?_⟩) (SAB.both hA hB) ?_
            rotate_left
            · intro wx hBx
              (try dsimp only at hBx)
              go_simp
              try with_reducible rfl
            try simp only [Act.put, List.setIfInBounds_toArray, List.set_cons_zero, List.set_cons_succ]
            refine wpL_takeB (i := 5) (v := ?_) rfl (by kernel_rfl) (by kernel_rfl) (by kernel_rfl) (by decide) (fun _ _ _ h => h) (Or.inl ⟨by rfl, ?_⟩) (SAB.both hA hB) ?_
            rotate_left
            · intro wx hBx
              (try dsimp only at hBx)
              go_simp
              try with_reducible rfl
            try simp only [Act.put, List.setIfInBounds_toArray, List.set_cons_zero, List.set_cons_succ]
            refine wpL_takeA (i := 6) (v := ?_) rfl (by kernel_rfl) (by kernel_rfl) (by kernel_rfl) (by kernel_rfl) (by decide) (fun _ _ _ h => h) (Or.inl ⟨by rfl, ?_⟩) hA hB ?_
            rotate_left
            · rintro wx ⟨hAx, hBx⟩
              (try dsimp only at hBx); (try dsimp only at hAx)
              go_simp
              try with_reducible rfl
            try simp only [Act.put, List.setIfInBounds_toArray, List.set_cons_zero, List.set_cons_succ]
            refine wpL_takeB (i := 7) (v := ?_) rfl (by kernel_rfl) (by kernel_rfl) (by kernel_rfl) (by decide) (fun _ _ _ h => h) (Or.inl ⟨by rfl, ?_⟩) (SAB.both hA hB) ?_
            rotate_left
            · intro wx hBx
              (try dsimp only at hBx)
              go_simp
              try with_reducible rfl
            try simp only [Act.put, List.setIfInBounds_toArray, List.set_cons_zero, List.set_cons_succ]
            refine wpL_takeB (i := 9) rfl (by kernel_rfl) (by kernel_rfl) (by kernel_rfl) (by decide) (fun _ _ _ h => h) (yieldsIf_blk (by rfl) _ _ rfl b18 0 48 _ [.int .i64 0, .int .i64 ((arriveS st.k q).want - 1), .int .i64 0] _ rfl (fun wx hx => hx.blk HB18.out ⟨by omega, by omega, by omega, fun hh => by have := hh.1; omega⟩) (by simp) Try.underlying48 rfl (by kernel_rfl)) (SAB.both hA hB) ?_
            try simp only [Act.put, List.setIfInBounds_toArray, List.set_cons_zero, List.set_cons_succ]
            refine wpL_one (i := 8) (by kernel_rfl) (StepL.mk rfl (fun K hK => ?_))
            refine step_append_ap _ (by rfl) (.tmp 98) (.tmp 99) _ (by rfl) 3 iI _ 1 8 Try.underlying23 JI0.out JZ0.out JZ1.out JZ2.out rfl (by omega) (Lab w L 4) C.A4 C.n4 C.c4 (st.out.flatMap encI) (by rfl) (HOX.out.keep (Same.drew (Same.refl _ _))) _ A17 n17 c17 ((arriveD st.k q).flatMap encI) (by rfl) (HD17.out.keep (Same.drew (Same.refl _ _))).2.2.2 ONEI.out (by simp [maxLen]; omega) (by omega) ?_
            intro A4 c4 w15 hap15 hs15
            have hz15 := hs15.size
            simp at hz15
            have hB15' : Same (fun i => i < w10.heap.size ∧ i ≠ g ∧ i ≠ w5.heap.size ∧ ¬ Lab w L 4 i) w10 w15 := Same.trans hB hs15 (fun i hi => ⟨hi.1, hi.2.2.2⟩)
            have hg15 := hs15.blk (HBG.out.drewN 1) ⟨show g < w10.heap.size by omega, HG4.out⟩
            have h1315 := hs15.blk (HB13X.out.drewN 1) ⟨show w5.heap.size < w10.heap.size by omega, H134.out⟩
            refine hK.out _ _ (SAB.both (by rw [hg15.cell]; rfl) hB15') (fun hSS => ?_)
            clear hK K hA hB
            have hB := hSS.2
            have hA := hSS.1 (by kernel_rfl)
            (try dsimp only at hB); (try dsimp only at hA); clear hSS
            try simp only [Act.put, List.setIfInBounds_toArray, List.set_cons_zero, List.set_cons_succ]
            refine wpL_takeB (i := 10) (v := ?_) rfl (by kernel_rfl) (by kernel_rfl) (by kernel_rfl) (by decide) (fun _ _ _ h => h) (Or.inl ⟨by rfl, ?_⟩) (SAB.both hA hB) ?_
            rotate_left
            · intro wx hBx
              (try dsimp only at hBx)
              go_simp
              try with_reducible rfl
            try simp only [Act.put, List.setIfInBounds_toArray, List.set_cons_zero, List.set_cons_succ]
            refine wpL_takeB (i := 11) (v := ?_) rfl (by kernel_rfl) (by kernel_rfl) (by kernel_rfl) (by decide) (fun _ _ _ h => h) (Or.inl ⟨by rfl, ?_⟩) (SAB.both hA hB) ?_
            rotate_left
            · intro wx hBx
              (try dsimp only at hBx)
              go_simp
              try with_reducible rfl
            try simp only [Act.put, List.setIfInBounds_toArray, List.set_cons_zero, List.set_cons_succ]
            refine wpL_one (i := 12) (by kernel_rfl) (StepL.mk rfl (fun K hK => ?_))
            refine step_store_blk rfl _ _ _ rfl g 0 41 _ cs16 rfl rfl hg15 (by rw [HR16.out.len]; simp [Cls.all]) (info_lk HR16.out.len) HR16.out.one ?_
            intro w19 hb19 hs19
            have hB19 := Same.trans hB15' hs19 (fun i hi => hi.2.1)
            refine hK.out _ _ (SAB.past (by kernel_rfl) hB19) (fun hSS => ?_)
            clear hK K hA hB
            have hB := hSS.2
            have hA : True := trivial
            (try dsimp only at hB); (try dsimp only at hA); clear hSS
            try simp only [Act.put, List.setIfInBounds_toArray, List.set_cons_zero, List.set_cons_succ]
            refine wpL_takeB (i := 13) (v := ?_) rfl (by kernel_rfl) (by kernel_rfl) (by kernel_rfl) (by decide) (fun _ _ _ h => h) (Or.inl ⟨by rfl, ?_⟩) (SAB.past (by kernel_rfl) hB) ?_
            rotate_left
            · intro wx hBx
              (try dsimp only at hBx)
              go_simp
              try with_reducible rfl
            try simp only [Act.put, List.setIfInBounds_toArray, List.set_cons_zero, List.set_cons_succ]
            refine wpL_takeB (i := 14) (v := ?_) rfl (by kernel_rfl) (by kernel_rfl) (by kernel_rfl) (by decide) (fun _ _ _ h => h) (Or.inl ⟨by rfl, ?_⟩) (SAB.past (by kernel_rfl) hB) ?_
            rotate_left
            · intro wx hBx
              (try dsimp only at hBx)
              go_simp
              try with_reducible rfl
            try simp only [Act.put, List.setIfInBounds_toArray, List.set_cons_zero, List.set_cons_succ]
            refine wpL_one (i := 15) (by kernel_rfl) (StepL.mk rfl (fun K hK => ?_))
            refine step_store_one rfl _ _ _ rfl g 8 41 _ (.slice A4 (C.n4 + n17) c4) rfl rfl hb19 (by rw [splice_size]; simp [Cls.all]) (by kernel_rfl) rfl rfl ?_
            intro w22 hb22 hs22
            have hB22 := Same.trans hB19 hs22 (fun i hi => hi.2.1)
            refine hK.out _ _ (SAB.past (by kernel_rfl) hB22) (fun hSS => ?_)
            clear hK K hA hB
            have hB := hSS.2
            have hA : True := trivial
            (try dsimp only at hB); (try dsimp only at hA); clear hSS
            try simp only [Act.put, List.setIfInBounds_toArray, List.set_cons_zero, List.set_cons_succ]
            refine wpL_one (i := 16) (by kernel_rfl) (StepL.mk rfl (fun K hK => ?_))
            refine step_store_blk rfl _ _ _ rfl w5.heap.size 0 48 _ [.int .i64 0, .int .i64 ((arriveS st.k q).want - 1), .int .i64 0] rfl rfl (hs22.blk (hs19.blk h1315 hn13) hn13) (by simp) (by kernel_rfl) rfl ?_
            intro w25 hb25 hs25
            have hB25 := Same.trans hB22 hs25 (fun i hi => hi.2.2.1)
            refine hK.out _ _ (SAB.past (by kernel_rfl) hB25) (fun hSS => ?_)
            clear hK K hA hB
            have hB := hSS.2
            have hA : True := trivial
            (try dsimp only at hB); (try dsimp only at hA); clear hSS
            try simp only [Act.put, List.setIfInBounds_toArray, List.set_cons_zero, List.set_cons_succ]
            refine wpL_done (by kernel_rfl) ?_
            rw [splice_all [.int .i64 0, .int .i64 ((arriveS st.k q).want - 1), .int .i64 0] #[.int .i64 0, .int .i64 aw, .int .i64 0] rfl] at hb25
            have hz19 := hs19.size
            have hz22 := hs22.size
            have hz25 := hs25.size
            have hap25 := ((hap15.keep (hs19.mono (fun i hi => ?_))).keep (hs22.mono (fun i hi => ?_))).keep (hs25.mono (fun i hi => ?_))
            rotate_left
            · intro e; subst e; rcases hi with hi | hi
              · exact HG4.out hi
              · simp at hi; omega
            · intro e; subst e; rcases hi with hi | hi
              · exact HG4.out hi
              · simp at hi; omega
            · intro e; subst e; rcases hi with hi | hi
              · exact H134.out hi
              · simp at hi; omega
            have hgf := hs25.blk hb22 (fun e => hn13 e.symm)
            obtain ⟨X1, X2, p1, e1, p2, e2, hcs16, _, _⟩ := HR16.out
            have hfin : CutQ w10 g w5.heap.size (Lab w L 4) cs16 C (st.out ++ arriveD st.k q) n17 ((arriveS st.k q).want - 1) w25 := by
              refine ⟨A4, c4, w10.heap.size, w15.heap.size, Nat.le_refl _, by omega, by omega, ?_, ?_, hb25, hB25⟩
              · rw [hcs16] at hgf ⊢
                simpa [splice, Cls.all] using hgf
              · rw [List.flatMap_append]
                exact hap25.more (fun i hi hl => hi.elim .inl (fun h => .inr (by simp at h; omega)))
            have HFIN := Lib.hid hfin
            clear hfin
            clear hcs16 hgf hap25 hb25 hs25 hb22 hs22 hb19 hs19 hB25 hB22 hB19 h1315 hg15 hB15' hap15 hs15 hA hB
            have hwge := arriveS_want_ge st.k q (by have := HQS.out.1; have := HWANT.out; omega)
            have HWGE := Lib.hid hwge
            clear hwge
            go_wp2_with fail
            go_roundw
            case rel =>
              obtain ⟨A4, c4, lo, hi, z1, z2, z3, hbZ, hapO, hb13Z, hsZ⟩ := HFIN.out
              have hzZ := hsZ.size
              obtain ⟨X1, X2, p1, e1, p2, e2, hcs16, k1, k2⟩ := HR16.out
              have far : ∀ a, a ≠ 5 → a ≠ 8 → a ≠ 4 → ∀ i, Lab w L a i → i < w10.heap.size ∧ i ≠ g ∧ i ≠ w5.heap.size ∧ ¬ Lab w L 4 i := fun a h5 h8 h4 i hi => ⟨by have := hi.1; omega, fun e => h5 (by rw [← hi.2, e, HLG.out]), fun e => h8 (by rw [← hi.2, e, HL13.out.2]), fun hh => h4 (by rw [← hi.2, hh.2])⟩
              have h0 : ∀ i, (Lab w L 0 i ∨ (w4.heap.size ≤ i ∧ i < w10.heap.size ∧ i ≠ b16 ∧ i ≠ b18)) → i < w10.heap.size ∧ i ≠ g ∧ i ≠ w5.heap.size ∧ ¬ Lab w L 4 i := fun i hi => hi.elim (far 0 (by decide) (by decide) (by decide) i) (fun h => ⟨by omega, by omega, by omega, fun hh => by have := hh.1; omega⟩)
              have kw : Keep w w10 := Keep.trans HK4.out HK10.out
              have sZ : ∀ a, a ≠ 5 → a ≠ 8 → a ≠ 4 → Same (Lab w L a) w _ := fun a h5 h8 h4 => Same.trans (kw.mono (fun i hi => hi.1)) hsZ (far a h5 h8 h4)
              have old : ∀ a i, Lab w L a i → ext L w.heap.size (fun i => if lo ≤ i ∧ i < hi then 4 else 0) i = a := fun a i hi => by rw [ext_old hi.1]; exact hi.2
              have n0 : ∀ i, (Lab w L 0 i ∨ (w4.heap.size ≤ i ∧ i < w10.heap.size ∧ i ≠ b16 ∧ i ≠ b18)) → ext L w.heap.size (fun i => if lo ≤ i ∧ i < hi then 4 else 0) i = 0 := fun i hi => hi.elim (old 0 i) (fun h => by rw [ext_new (by omega), if_neg (by omega)])
              refine ⟨j + 1, ext L w.heap.size (fun i => if lo ≤ i ∧ i < hi then 4 else 0), { st with k := arriveS st.k q, out := st.out ++ arriveD st.k q }, { C with B1 := X1, m1 := p1, d1 := e1, B2 := X2, m2 := p2, d2 := e2, A4 := A4, n4 := C.n4 + n17, c4 := c4 }, (arriveS st.k q).want - 1, by go_num, by omega, old 5 g ⟨hg, HLG.out⟩, ⟨by omega, old 8 _ HL13.out⟩, ?_, hb13Z, ?_, ?_, ⟨(arriveS_base st.k q).1.trans HKB.out, (arriveS_base st.k q).2.trans HKK.out, HKI.out⟩, ?_, fun _ => rfl, fun i hi => by rw [ext_old (by omega)]; exact HL6.out i hi, ?_⟩
              · exact ⟨by rw [hcs16] at hbZ; exact hbZ, ((k1.keep (hsZ.mono h0)).more (fun i hi => ⟨by have := (h0 i hi).1; omega, n0 i hi⟩)), ((k2.keep (hsZ.mono h0)).more (fun i hi => ⟨by have := (h0 i hi).1; omega, n0 i hi⟩)), (HP.out.data.keep (sZ 1 (by decide) (by decide) (by decide))).more (fun i hi hl => ⟨hl, old 1 i hi⟩), (HP.out.ack.keep (sZ 2 (by decide) (by decide) (by decide))).more (fun i hi hl => ⟨hl, old 2 i hi⟩), (HP.out.inn.keep (sZ 3 (by decide) (by decide) (by decide))).more (fun i hi hl => ⟨hl, old 3 i hi⟩), hapO.more (fun i hi hl => ⟨hl, hi.elim (old 4 i) (fun h => by rw [ext_new (by omega), if_pos h])⟩), HP.out.ldata, HP.out.lack, HP.out.linn, by have := HP.out.lout; have := HD17.out.1; simp only [List.length_append]; omega⟩
              · exact (HPK.out.keep (sZ 7 (by decide) (by decide) (by decide))).more (fun i hi => ⟨by have := hi.1; omega, old 7 i hi⟩)
              · exact HINV.out.arr' HQOK.out (by omega)
              · have := HWGE.out; have := HQS.out.1; simp only; omega
              · exact Same.trans (Keep.trans HKW.out kw) hsZ (fun i hi => ⟨by omega, fun e => by have := HL6.out i hi; rw [e, HLG.out] at this; omega, fun e => by have := HL6.out i hi; rw [e, HL13.out.2] at this; omega, fun hh => by have := HL6.out i hi; have := hh.2; omega⟩)
            case measure => simp [intOf]; omega
        · obtain rfl : j = nb := by omega
          have hok := hinv.ok
          have hnb' : j = st5.k.kept.length := by rw [hpk.1, packetsS, packetsTo_len]
          have hsum : st.k.base + st.k.kept.length = st.inn.length + 1 := hinv.sum
          have hwt : st.k.want = st.out.length + 1 := hinv.want
          have hol : st.out.length ≤ st.inn.length := hinv.outl
          have hop : st.out = st.inn.take st.out.length := hinv.outp
          have hlin : st.inn.length + (99 - j) ≤ 240 := hinv.linn
          have hkl : st.k.kept.length = j := by rw [hkk, hnb']
          have heq : st.out.length = st.inn.length := by omega
          have hoi : st.out = st.inn := by rw [heq, List.take_length] at hop; exact hop
          have hdj : decide (j < j) = false := by simp
          have hg : g < w.heap.size := hp.blk.lt
          have h13 : w5.heap.size < w.heap.size := hL13.1
          have hn13 : w5.heap.size ≠ g := fun e => by have := hL13.2; rw [e] at this; omega
          have hln3 : C.n3 ≤ 1000 := by rw [hp.linn]; omega
          have hconf : 0 < j → confirmS st.k ⟨0, aw, 0⟩ = { st.k with kept := [], base := aw + 1 } := fun hj0 => by
            have haw' := haw hj0
            have : confirmS st.k ⟨0, aw, 0⟩ = { st.k with kept := st.k.kept.drop (aw - st.k.base + 1).toNat, base := aw + 1 } := if_pos ⟨rfl, by simp only; omega, by simp only; omega⟩
            rw [this, List.drop_of_length_le (by omega)]
          have hawb : 0 < j → I64 aw := fun hj0 => by have := haw hj0; exact ⟨by omega, by omega⟩
          have hsi := hp.inn.sl hp.linn
          have hso := hp.out.sl hp.lout
          rw [hoi] at hso
          have hbb : 0 ≤ st.k.base ∧ st.k.base ≤ 100000 := ⟨hok.base0, hok.base1⟩
          obtain ⟨hbb0, hbb1⟩ := hbb
          have hj8 : j ≤ 8 := hnb
          clear hnb' hsum hwt hol hop hlin heq hoi hwant
          have HKL := Lib.hid hkl
          clear hkl
          have HLG := Lib.hid hLg
          have HL13 := Lib.hid hL13
          have HP := Lib.hid hp
          have HB13 := Lib.hid hb13
          have HPK := Lib.hid hpk
          have HINV := Lib.hid hinv
          have HKB := Lib.hid hkb
          have HKK := Lib.hid hkk
          have HKI := Lib.hid hki
          have HAW := Lib.hid haw
          have HL6 := Lib.hid hL6
          have HKW := Lib.hid hkw
          have HOK := Lib.hid hok
          have HCONF := Lib.hid hconf
          have HAWB := Lib.hid hawb
          have HSI := Lib.hid hsi
          have HSO := Lib.hid hso
          clear hLg hL13 hp hb13 hpk hinv hkb hkk hki haw hL6 hkw hok hconf hawb hsi hso
          go_wp2_with (refine wpList_load_blk rfl _ (.tmp 109) rfl g 0 41 _ (C.k st.k) _ rfl HP.out.blk (C.sub st.k) Try.underlying35 rfl (by kernel_rfl) ?_)
          refine (idle_any w (Lab w L 0) (C.k st.k) st.k HP.out.lk).mono ?_
          obtain ⟨bq, hbq⟩ : ∃ bq, bq = decide (st.k.kept.length = 0) := ⟨_, rfl⟩
          rw [← hbq]
          rintro e w11 ⟨rfl, hk11⟩
          have hz11 := hk11.size
          have hbq2 : bq = true ↔ j = 0 := by rw [hbq, HKL.out]; simp
          have HK11 := Lib.hid hk11
          have HBQ2 := Lib.hid hbq2
          clear hk11 hbq2
          clear hbq
          go_upto_if 112 with fail
          go_cut [] from 112 to 121 (fun wx => CutI w00 g wx)
          case first =>
            cases bq with
            | true =>
              have HJ0 : Hid (j = 0) := Lib.hid (HBQ2.out.1 rfl)
              have hz : st.k.kept.length = 0 := by rw [HKL.out]; exact HJ0.out
              have HZK := Lib.hid hz
              clear hz
              go_wp2_with fail
              go_meet
              exact ⟨C, st.k, fun i => i < w.heap.size, st.inn, HK11.out.blk HP.out.blk hg, (HP.out.lk.more (fun i hi => hi.1)).keep HK11.out, HZK.out, (HSI.out.more (fun i hi => hi.1)).keep HK11.out, (HSO.out.more (fun i hi => hi.1)).keep HK11.out, fun i hi => by omega, hln3, Keep.trans HKW.out HK11.out⟩
            | false =>
              have hj0 : ¬ j = 0 := fun e => by have := HBQ2.out.2 e; cases this
              have hcf := HCONF.out (by omega)
              have hia := HAWB.out (by omega)
              have HCF := Lib.hid hcf
              have HIA := Lib.hid hia
              clear hcf hia
              go_upto_region 19 with fail
              have hA : Blk w11 g 41 (C.all st.k).toArray := HK11.out.blk HP.out.blk hg
              have hb13' := HK11.out.blk HB13.out h13
              have HB13' := Lib.hid hb13'
              clear hb13'
              refine wp_region_L 9 (fun wx => Blk wx g 41 (C.all st.k).toArray) (fun wx => Same (fun i => i < w11.heap.size ∧ i ≠ g) w11 wx) (by kernel_rfl) (hA.drewN 1) (Same.drew (Same.refl _ _)) (fun hA hB => ?_)
              refine wpL_takeB (i := 0) (v := ?_) rfl (by kernel_rfl) (by kernel_rfl) (by kernel_rfl) (by decide) (fun _ _ _ h => h) (Or.inl ⟨by rfl, ?_⟩) (SAB.both hA hB) ?_
              rotate_left
              · intro wx hBx
                (try dsimp only at hBx)
                go_simp
                try with_reducible rfl
              try simp only [Act.put, List.setIfInBounds_toArray, List.set_cons_zero, List.set_cons_succ]
              refine wpL_takeB (i := 1) (v := ?_) rfl (by kernel_rfl) (by kernel_rfl) (by kernel_rfl) (by decide) (fun _ _ _ h => h) (Or.inl ⟨by rfl, ?_⟩) (SAB.both hA hB) ?_
              rotate_left
              · intro wx hBx
                (try dsimp only at hBx)
                go_simp
                try with_reducible rfl
              try simp only [Act.put, List.setIfInBounds_toArray, List.set_cons_zero, List.set_cons_succ]
              refine wpL_takeB (i := 2) (v := ?_) rfl (by kernel_rfl) (by kernel_rfl) (by kernel_rfl) (by decide) (fun _ _ _ h => h) (Or.inl ⟨by rfl, ?_⟩) (SAB.both hA hB) ?_
              rotate_left
              · intro wx hBx
                (try dsimp only at hBx)
                go_simp
                try with_reducible rfl
              try simp only [Act.put, List.setIfInBounds_toArray, List.set_cons_zero, List.set_cons_succ]
              refine wpL_takeB (i := 3) (v := ?_) rfl (by kernel_rfl) (by kernel_rfl) (by kernel_rfl) (by decide) (fun _ _ _ h => h) (Or.inl ⟨by rfl, ?_⟩) (SAB.both hA hB) ?_
              rotate_left
              · intro wx hBx
                (try dsimp only at hBx)
                go_simp
                try with_reducible rfl
              try simp only [Act.put, List.setIfInBounds_toArray, List.set_cons_zero, List.set_cons_succ]
              refine wpL_takeA (i := 4) rfl (by kernel_rfl) (by kernel_rfl) (by kernel_rfl) (by kernel_rfl) (by decide) (fun _ _ _ h => h) (yieldsIf_blk (by rfl) _ _ rfl g 0 41 _ (C.k st.k) _ rfl (fun wx hx => hx.1) (C.sub st.k) Try.underlying35 rfl (by kernel_rfl)) hA hB ?_
              try simp only [Act.put, List.setIfInBounds_toArray, List.set_cons_zero, List.set_cons_succ]
              refine wpL_takeB (i := 5) rfl (by kernel_rfl) (by kernel_rfl) (by kernel_rfl) (by decide) (fun _ _ _ h => h) (yieldsIf_blk (by rfl) _ _ rfl w5.heap.size 0 48 _ [.int .i64 0, .int .i64 aw, .int .i64 0] _ rfl (fun wx hx => hx.blk HB13'.out ⟨by omega, hn13⟩) (by simp) Try.underlying48 rfl (by kernel_rfl)) (SAB.both hA hB) ?_
              try simp only [Act.put, List.setIfInBounds_toArray, List.set_cons_zero, List.set_cons_succ]
              refine wpL_one (i := 6) (by kernel_rfl) (StepL.mk rfl (fun K hK => ?_))
              go_simp
              refine (confirm_any w11.drew (Lab w L 0) (C.k st.k) st.k ⟨0, aw, 0⟩ (fun i hi => by have := hi.1; show i < w11.heap.size; omega) ((HP.out.lk.keep (HK11.out.mono (fun i hi => hi.1))).keep (Same.drew (Same.refl _ _))) (by rw [HKL.out]; omega) hbb0 (by omega) HIA.out).mono ?_
              rw [HCF.out]
              rintro e w12 ⟨cs12, rfl, hr12, hk12⟩
              have hk112 : Keep w11 w12 := Keep.trans (Same.drew (Same.refl _ _)) hk12
              have hz12 := hk112.size
              have hg12 := hk112.blk hA (show g < w11.heap.size by omega)
              refine hK.out _ _ (SAB.both hg12 (hk112.mono (fun i hi => hi.1))) (fun hSS => ?_)
              clear hK K hA hB
              have hB := hSS.2
              have hA := hSS.1 (by kernel_rfl)
              (try dsimp only at hB); (try dsimp only at hA); clear hSS
              try simp only [Act.put, List.setIfInBounds_toArray, List.set_cons_zero, List.set_cons_succ]
              refine wpL_takeB (i := 7) (v := ?_) rfl (by kernel_rfl) (by kernel_rfl) (by kernel_rfl) (by decide) (fun _ _ _ h => h) (Or.inl ⟨by rfl, ?_⟩) (SAB.both hA hB) ?_
              rotate_left
              · intro wx hBx
                (try dsimp only at hBx)
                go_simp
                try with_reducible rfl
              try simp only [Act.put, List.setIfInBounds_toArray, List.set_cons_zero, List.set_cons_succ]
              refine wpL_takeB (i := 8) (v := ?_) rfl (by kernel_rfl) (by kernel_rfl) (by kernel_rfl) (by decide) (fun _ _ _ h => h) (Or.inl ⟨by rfl, ?_⟩) (SAB.both hA hB) ?_
              rotate_left
              · intro wx hBx
                (try dsimp only at hBx)
                go_simp
                try with_reducible rfl
              try simp only [Act.put, List.setIfInBounds_toArray, List.set_cons_zero, List.set_cons_succ]
              refine wpL_one (i := 9) (by kernel_rfl) (StepL.mk rfl (fun K hK => ?_))
              refine step_store_blk rfl _ _ _ rfl g 0 41 _ cs12 rfl rfl hA (by rw [hr12.len]; simp [Cls.all]) (info_lk hr12.len) hr12.one ?_
              intro w13 hb13z hs13
              have hz13 := hs13.size
              have hsame : Same (fun i => i < w11.heap.size ∧ i ≠ g) w11 w13 := Same.trans hB hs13 (fun i hi => hi.2)
              refine hK.out _ _ (SAB.past (by kernel_rfl) hsame) (fun hSS => ?_)
              clear hK K hA hB
              have hB := hSS.2
              have hA : True := trivial
              (try dsimp only at hB); (try dsimp only at hA); clear hSS
              try simp only [Act.put, List.setIfInBounds_toArray, List.set_cons_zero, List.set_cons_succ]
              refine wpL_done (by kernel_rfl) ?_
              obtain ⟨X1, X2, p1, e1, p2, e2, hcs12, k1, k2⟩ := hr12
              have hgl : ∀ a, a ≠ 5 → ∀ i, Lab w L a i → i < w11.heap.size ∧ i ≠ g := fun a ha i hi => ⟨by have := hi.1; omega, fun e => ha (by rw [← hi.2, e, HLG.out])⟩
              have hnew : ∀ i, (Lab w L 0 i ∨ (w11.drew.heap.size ≤ i ∧ i < w12.heap.size)) → i ≠ g := fun i hi => hi.elim (fun h => (hgl 0 (by decide) i h).2) (fun h => by have h1 : w11.heap.size ≤ i := h.1; omega)
              have hfin : CutI w00 g w13 := by
                refine ⟨{ C with B1 := X1, m1 := p1, d1 := e1, B2 := X2, m2 := p2, d2 := e2 }, { st.k with kept := [], base := aw + 1 }, fun i => i < w13.heap.size ∧ i ≠ g, st.inn, ?_, ⟨X1, X2, p1, e1, p2, e2, rfl, ?_, ?_⟩, rfl, ?_, ?_, fun i hi => hi.1, hln3, ?_⟩
                · rw [hcs12] at hb13z
                  simpa [splice, Cls.all] using hb13z
                · exact (k1.keep (hs13.mono hnew)).more (fun i hi => ⟨hi.elim (fun h => by have := h.1; omega) (fun h => by omega), hnew i hi⟩)
                · exact (k2.keep (hs13.mono hnew)).more (fun i hi => ⟨hi.elim (fun h => by have := h.1; omega) (fun h => by omega), hnew i hi⟩)
                · exact ((HSI.out.keep (HK11.out.mono (fun i hi => hi.1))).keep (hsame.mono (hgl 3 (by decide)))).more (fun i hi => by have := hgl 3 (by decide) i hi; omega)
                · exact ((HSO.out.keep (HK11.out.mono (fun i hi => hi.1))).keep (hsame.mono (hgl 4 (by decide)))).more (fun i hi => by have := hgl 4 (by decide) i hi; omega)
                · exact Same.trans (Keep.trans HKW.out HK11.out) hsame (fun i hi => ⟨by have := HKW.out.size; omega, fun e => by have := HL6.out i hi; rw [e, HLG.out] at this; omega⟩)
              have HFIN := Lib.hid hfin
              clear hfin
              clear hgl hnew hb13z hs13 hk112 hg12 hk12 hsame hA hB k1 k2 hcs12
              go_wp2_with fail
              go_meet
              exact HFIN.out
          case rest =>
            obtain ⟨C', k', S', inn', hb', hlk', hk0', hsi', hso', hS', hn3', hkw'⟩ := hcut
            obtain ⟨w14, rfl⟩ : ∃ w14 : World, w14 = wc := ⟨_, rfl⟩
            have hlt := hb'.lt
            have c7 : ∀ wx, Keep w14 wx → wx.cell? ⟨g, 7, none⟩ = some (.slice C'.A3 C'.n3 C'.c3) := fun wx hx => (hx.cell (p := ⟨g, 7, none⟩) hlt).trans (by rw [hb'.cell]; rfl)
            have c8 : ∀ wx, Keep w14 wx → wx.cell? ⟨g, 8, none⟩ = some (.slice C'.A4 C'.n4 C'.c4) := fun wx hx => (hx.cell (p := ⟨g, 8, none⟩) hlt).trans (by rw [hb'.cell]; rfl)
            have hdk : decide (k'.kept.length = 0) = true := by simpa using hk0'
            have HKZ := Lib.hid hk0'
            clear hk0'
            have HB' := Lib.hid hb'
            have HLK' := Lib.hid hlk'
            have HSI' := Lib.hid hsi'
            have HSO' := Lib.hid hso'
            have HS' := Lib.hid hS'
            have HKW' := Lib.hid hkw'
            clear hb' hlk' hsi' hso' hS' hkw'
            go_wp2_with fail
            have hA : True := trivial
            refine wp_region_L 99 (fun _ => True) (fun wx => Keep w14 wx) (by kernel_rfl) trivial (Same.drew (Same.refl _ _)) (fun _ hB => ?_)
            refine wpL_takeB (i := 0) (v := ?_) rfl (by kernel_rfl) (by kernel_rfl) (by kernel_rfl) (by decide) (fun _ _ _ h => h) (Or.inl ⟨by rfl, ?_⟩) (SAB.both hA hB) ?_
            rotate_left
            · intro wx hBx
              (try dsimp only at hBx)
              go_simp
              try with_reducible rfl
            try simp only [Act.put, List.setIfInBounds_toArray, List.set_cons_zero, List.set_cons_succ]
            refine wpL_takeB (i := 1) (v := ?_) rfl (by kernel_rfl) (by kernel_rfl) (by kernel_rfl) (by decide) (fun _ _ _ h => h) (Or.inl ⟨by rfl, ?_⟩) (SAB.both hA hB) ?_
            rotate_left
            · intro wx hBx
              (try dsimp only at hBx)
              go_simp
              try with_reducible rfl
            try simp only [Act.put, List.setIfInBounds_toArray, List.set_cons_zero, List.set_cons_succ]
            refine wpL_takeB (i := 2) (v := ?_) rfl (by kernel_rfl) (by kernel_rfl) (by kernel_rfl) (by decide) (fun _ _ _ h => h) (Or.inl ⟨by rfl, ?_⟩) (SAB.both hA hB) ?_
            rotate_left
            · intro wx hBx
              (try dsimp only at hBx)
              go_simp
              try with_reducible rfl
            try simp only [Act.put, List.setIfInBounds_toArray, List.set_cons_zero, List.set_cons_succ]
            refine wpL_takeB (i := 3) rfl (by kernel_rfl) (by kernel_rfl) (by kernel_rfl) (by decide) (fun _ _ _ h => h) (yieldsIf_blk (by rfl) _ _ rfl g 0 41 _ (C'.k k') _ rfl (fun wx hx => hx.blk HB'.out hlt) (C'.sub k') Try.underlying35 rfl (by kernel_rfl)) (SAB.both hA hB) ?_
            try simp only [Act.put, List.setIfInBounds_toArray, List.set_cons_zero, List.set_cons_succ]
            refine wpL_one (i := 4) (by kernel_rfl) (StepL.mk rfl (fun K hK => ?_))
            go_simp
            refine (idle_any w14.drew S' (C'.k k') k' (HLK'.out.keep (Same.drew (Same.refl _ _)))).mono ?_
            rw [hdk]
            rintro e w15 ⟨rfl, hk15⟩
            have hk1415 : Keep w14 w15 := Keep.trans hB hk15
            refine hK.out _ _ (SAB.both trivial hk1415) (fun hSS => ?_)
            clear hK K hA hB
            have hB := hSS.2
            have hA := hSS.1 (by kernel_rfl)
            (try dsimp only at hB); (try dsimp only at hA); clear hSS
            try simp only [Act.put, List.setIfInBounds_toArray, List.set_cons_zero, List.set_cons_succ]
            refine wpL_takeB (i := 5) (v := ?_) rfl (by kernel_rfl) (by kernel_rfl) (by kernel_rfl) (by decide) (fun _ _ _ h => h) (Or.inl ⟨by rfl, ?_⟩) (SAB.both hA hB) ?_
            rotate_left
            · intro wx hBx
              (try dsimp only at hBx)
              go_simp
              try with_reducible rfl
            try simp only [Act.put, List.setIfInBounds_toArray, List.set_cons_zero, List.set_cons_succ]
            refine wpL_takeB (i := 6) (v := ?_) rfl (by kernel_rfl) (by kernel_rfl) (by kernel_rfl) (by decide) (fun _ _ _ h => h) (Or.inl ⟨by rfl, ?_⟩) (SAB.both hA hB) ?_
            rotate_left
            · intro wx hBx
              (try dsimp only at hBx)
              go_simp
              try with_reducible rfl
            try simp only [Act.put, List.setIfInBounds_toArray, List.set_cons_zero, List.set_cons_succ]
            refine wpL_takeB (i := 7) (v := ?_) rfl (by kernel_rfl) (by kernel_rfl) (by kernel_rfl) (by decide) (fun _ _ _ h => h) (Or.inl ⟨by rfl, ?_⟩) (SAB.both hA hB) ?_
            rotate_left
            · intro wx hBx
              (try dsimp only at hBx)
              go_simp
              try with_reducible rfl
            try simp only [Act.put, List.setIfInBounds_toArray, List.set_cons_zero, List.set_cons_succ]
            refine wpL_takeB (i := 8) (v := ?_) rfl (by kernel_rfl) (by kernel_rfl) (by kernel_rfl) (by decide) (fun _ _ _ h => h) (Or.inl ⟨by rfl, ?_⟩) (SAB.both hA hB) ?_
            rotate_left
            · intro wx hBx
              (try dsimp only at hBx)
              go_simp
              try with_reducible rfl
            try simp only [Act.put, List.setIfInBounds_toArray, List.set_cons_zero, List.set_cons_succ]
            refine wpL_takeB (i := 9) (v := ?_) rfl (by kernel_rfl) (by kernel_rfl) (by kernel_rfl) (by decide) (fun _ _ _ h => h) (Or.inl ⟨by rfl, ?_⟩) (SAB.both hA hB) ?_
            rotate_left
            · intro wx hBx
              (try dsimp only at hBx)
              go_simp
              try with_reducible rfl
            try simp only [Act.put, List.setIfInBounds_toArray, List.set_cons_zero, List.set_cons_succ]
            refine wpL_takeB (i := 10) (v := ?_) rfl (by kernel_rfl) (by kernel_rfl) (by kernel_rfl) (by decide) (fun _ _ _ h => h) (Or.inl ⟨by rfl, ?_⟩) (SAB.both hA hB) ?_
            rotate_left
            · intro wx hBx
              (try dsimp only at hBx)
              go_simp
              try with_reducible rfl
            try simp only [Act.put, List.setIfInBounds_toArray, List.set_cons_zero, List.set_cons_succ]
            refine wpL_takeB (i := 11) (v := ?_) rfl (by kernel_rfl) (by kernel_rfl) (by kernel_rfl) (by decide) (fun _ _ _ h => h) (Or.inl ⟨by rfl, ?_⟩) (SAB.both hA hB) ?_
            rotate_left
            · intro wx hBx
              (try dsimp only at hBx)
              go_simp
              try with_reducible rfl
            try simp only [Act.put, List.setIfInBounds_toArray, List.set_cons_zero, List.set_cons_succ]
            refine wpL_takeB (i := 12) (v := ?_) rfl (by kernel_rfl) (by kernel_rfl) (by kernel_rfl) (by decide) (fun _ _ _ h => h) (Or.inl ⟨by rfl, ?_⟩) (SAB.both hA hB) ?_
            rotate_left
            · intro wx hBx
              (try dsimp only at hBx)
              go_simp
              try with_reducible rfl
            try simp only [Act.put, List.setIfInBounds_toArray, List.set_cons_zero, List.set_cons_succ]
            refine wpL_takeB (i := 13) (v := ?_) rfl (by kernel_rfl) (by kernel_rfl) (by kernel_rfl) (by decide) (fun _ _ _ h => h) (Or.inl ⟨by rfl, ?_⟩) (SAB.both hA hB) ?_
            rotate_left
            · intro wx hBx
              (try dsimp only at hBx)
              go_simp
              try with_reducible rfl
            try simp only [Act.put, List.setIfInBounds_toArray, List.set_cons_zero, List.set_cons_succ]
            refine wpL_one (i := 14) (by kernel_rfl) (StepL.mk rfl (fun K hK => ?_))
            go_simp
            refine (sameInts_any w15 S' S' C'.A3 C'.A4 C'.n3 C'.n4 C'.c3 C'.c4 inn' (HSI'.out.keep (hk1415.mono HS'.out)) (HSO'.out.keep (hk1415.mono HS'.out)) (by omega)).mono ?_
            rintro e w16 ⟨rfl, m16, rfl⟩
            have hk1416 : Keep w14 (w15.drewN m16) := Same.drewN hk1415 m16
            refine hK.out _ _ (SAB.both trivial hk1416) (fun hSS => ?_)
            clear hK K hA hB
            have hB := hSS.2
            have hA := hSS.1 (by kernel_rfl)
            (try dsimp only at hB); (try dsimp only at hA); clear hSS
            try simp only [Act.put, List.setIfInBounds_toArray, List.set_cons_zero, List.set_cons_succ]
            refine wpL_takeB (i := 15) (v := ?_) rfl (by kernel_rfl) (by kernel_rfl) (by kernel_rfl) (by decide) (fun _ _ _ h => h) (Or.inl ⟨by rfl, ?_⟩) (SAB.both hA hB) ?_
            rotate_left
            · intro wx hBx
              (try dsimp only at hBx)
              go_simp
              try with_reducible rfl
            try simp only [Act.put, List.setIfInBounds_toArray, List.set_cons_zero, List.set_cons_succ]
            refine wpL_takeB (i := 16) (v := ?_) rfl (by kernel_rfl) (by kernel_rfl) (by kernel_rfl) (by decide) (fun _ _ _ h => h) (Or.inl ⟨by rfl, ?_⟩) (SAB.both hA hB) ?_
            rotate_left
            · intro wx hBx
              (try dsimp only at hBx)
              go_simp
              try with_reducible rfl
            try simp only [Act.put, List.setIfInBounds_toArray, List.set_cons_zero, List.set_cons_succ]
            refine wpL_done (by kernel_rfl) ?_
            have hfin := Keep.trans HKW'.out hk1416
            have HFIN := Lib.hid hfin
            clear hfin
            clear hk15 hk1415 hk1416 hA hB
            go_wp2_with fail
            go_ret
            exact ⟨rfl, HFIN.out⟩
end Go.Proofs.Ytafgacfbplilpaa
