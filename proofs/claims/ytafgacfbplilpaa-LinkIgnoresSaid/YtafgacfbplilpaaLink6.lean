/- Contracts: the reference's comparisons, Idle, Offer, Packets, Confirm. -/
import Derived.Test.YtafgacfbplilpaaLink4
import Derived.Test.YtafgacfbplilpaaReg
import Derived.Deep.DeepCutAuto
import Derived.Deep.CutBlock
import Derived.Deep.Cut
import Derived.IntWalk
set_option linter.unusedVariables false
set_option linter.unusedSimpArgs false
namespace Go.Proofs.Ytafgacfbplilpaa
open Go.RowKit Go.Proofs

def DTrue (w : World) (e : Ending) (w' : World) : Prop := e = .returned (.bool true) ∧ ∃ m, w' = w.drewN m
def CntRel (n : Nat) (w : World) (i : Value) (wr : World) : Prop := ∃ k m : Nat, k ≤ n ∧ i = .int .i64 k ∧ wr = w.drewN m
/-- Ascending numbers. -/
def Asc (l : List Pk) : Prop := ∀ (i j : Nat) (a b : Pk), i < j → l[i]? = some a → l[j]? = some b → a.seq < b.seq

set_option maxHeartbeats 2000000 in
theorem sameInts_any (w : World) (S T : Nat → Prop) (A A2 : Option Addr) (n n2 c c2 : Nat) (l : List Int) (hl : Sl encI 1 w S A n c l) (hl2 : Sl encI 1 w T A2 n2 c2 l) (hn : n ≤ 1000000) :
    Calls Try.prog 21 #[.slice A n c, .slice A2 n2 c2] w (DTrue w) := by
  obtain rfl : n2 = n := hl2.1.trans hl.1.symm
  have HL := Lib.hid hl
  have HL2 := Lib.hid hl2
  have hnl := Lib.hid hl.1
  clear hl hl2
  go_enter Try.func21, Try.ntmps21
  go_wp2_with fail
  go_loopw [5] (fun i wr => CntRel n2 w i wr) (fun i _ => n2 - (intOf i).toNat)
  case atStart => exact ⟨0, 0, Nat.zero_le _, rfl, rfl⟩
  case round =>
    obtain ⟨k, m, hkn, rfl, rfl⟩ := hrel
    by_cases hk : k < n2
    · obtain ⟨b, off, d, rfl, _, hd, hcell⟩ := HL.out.at_ encI_len hk
      obtain ⟨b2, off2, d2, rfl, _, hd2, hcell2⟩ := HL2.out.at_ encI_len hk
      obtain rfl : d2 = d := Option.some.inj (hd2.symm.trans hd)
      have hki : (0 : Int) ≤ (k : Int) := by omega
      have hki2 : (k : Int) < (n2 : Int) := by omega
      have p0 := hcell 0 _ rfl
      have q0 := hcell2 0 _ rfl
      clear hcell hcell2 hd hd2
      simp only [Nat.add_zero, Nat.mul_one] at p0 q0
      go_wp2_with fail
      go_quiet (fail)
      go_wp2_with fail
      go_roundw
      case rel => exact ⟨k + 1, _, by omega, by go_num, rfl⟩
      case measure => simp [intOf]; omega
    · go_wp2_with fail
      go_ret
      exact ⟨rfl, m, rfl⟩

set_option maxHeartbeats 2000000 in
theorem samePks_any (w : World) (S T : Nat → Prop) (A A2 : Option Addr) (n n2 c c2 : Nat) (l : List Pk) (hl : Sl encPk 3 w S A n c l) (hl2 : Sl encPk 3 w T A2 n2 c2 l) (hn : n ≤ 1000000) :
    Calls Try.prog 36 #[.slice A n c, .slice A2 n2 c2] w (DTrue w) := by
  obtain rfl : n2 = n := hl2.1.trans hl.1.symm
  have HL := Lib.hid hl
  have HL2 := Lib.hid hl2
  have hnl := Lib.hid hl.1
  clear hl hl2
  go_enter Try.func36, Try.ntmps36
  go_wp2_with fail
  go_loopw [5] (fun i wr => CntRel n2 w i wr) (fun i _ => n2 - (intOf i).toNat)
  case atStart => exact ⟨0, 0, Nat.zero_le _, rfl, rfl⟩
  case round =>
    obtain ⟨k, m, hkn, rfl, rfl⟩ := hrel
    by_cases hk : k < n2
    · obtain ⟨b, off, d, rfl, _, hd, hcell⟩ := HL.out.at_ encPk_len hk
      obtain ⟨b2, off2, d2, rfl, _, hd2, hcell2⟩ := HL2.out.at_ encPk_len hk
      obtain rfl : d2 = d := Option.some.inj (hd2.symm.trans hd)
      have hki : (0 : Int) ≤ (k : Int) := by omega
      have hki2 : (k : Int) < (n2 : Int) := by omega
      have p0 := hcell 0 _ rfl
      have q0 := hcell2 0 _ rfl
      have p1 := hcell 1 _ rfl
      have q1 := hcell2 1 _ rfl
      have p2 := hcell 2 _ rfl
      have q2 := hcell2 2 _ rfl
      clear hcell hcell2 hd hd2
      simp only [Nat.add_zero] at p0 q0
      go_wp2_with fail
      go_quiet (fail)
      go_wp2_with fail
      go_roundw
      case rel => exact ⟨k + 1, _, by omega, by go_num, rfl⟩
      case measure => simp [intOf]; omega
    · go_wp2_with fail
      go_ret
      exact ⟨rfl, m, rfl⟩

def KTrue (w : World) (e : Ending) (w' : World) : Prop := e = .returned (.bool true) ∧ Keep w w'
set_option maxHeartbeats 2000000 in
theorem sameLk_any (w : World) (S T : Nat → Prop) (cs cs2 : List Value) (k : Lk) (hS : ∀ i, S i → i < w.heap.size) (hT : ∀ i, T i → i < w.heap.size) (h : LkR w S cs k) (h2 : LkR w T cs2 k) (hn : k.kept.length ≤ 1000000) (hn2 : k.early.length ≤ 1000000) :
    Calls Try.prog 26 #[.agg cs.toArray, .agg cs2.toArray] w (KTrue w) := by
  obtain ⟨A1, A2, n1, c1, n2, c2, rfl, h1, h2'⟩ := h
  obtain ⟨B1, B2, m1, d1, m2, d2, rfl, g1, g2⟩ := h2
  have hl1 : n1 ≤ 1000000 := by rw [h1.1]; exact hn
  have hl2 : n2 ≤ 1000000 := by rw [h2'.1]; exact hn2
  have H1 := Lib.hid h1
  have H2 := Lib.hid h2'
  have G1 := Lib.hid g1
  have G2 := Lib.hid g2
  have HS := Lib.hid hS
  have HT := Lib.hid hT
  clear h1 h2' g1 g2 hS hT hn hn2
  go_enter Try.func26, Try.ntmps26
  go_wp2_with fail
  generalize hW : (w.alloc _).alloc _ = W
  have hk : Keep w W := hW ▸ Keep.alloc (Keep.new _ _) _
  have HK := Lib.hid hk
  have a2 : W.cell? ⟨w.heap.size, 4, none⟩ = some (.slice A2 n2 c2) := by rw [← hW, ((Blk.new w _ _).alloc _).cell]; rfl
  have b2 : W.cell? ⟨w.heap.size + 1, 4, none⟩ = some (.slice B2 m2 d2) := by
    rw [← hW]
    simp
  clear hW hk
  refine (sameInts_any W S T A1 B1 n1 m1 c1 d1 k.kept (H1.out.keep (Same.mono HK.out HS.out)) (G1.out.keep (Same.mono HK.out HT.out)) hl1).mono ?_
  rintro e w2 ⟨rfl, m, rfl⟩
  go_wp2_with fail
  refine (samePks_any _ S T A2 B2 n2 m2 c2 d2 k.early (H2.out.keep (Same.mono (Same.drewN HK.out m) HS.out)) (G2.out.keep (Same.mono (Same.drewN HK.out m) HT.out)) hl2).mono ?_
  rintro e w3 ⟨rfl, m', rfl⟩
  go_wp2_with fail
  go_ret
  exact ⟨rfl, Same.drewN HK.out _⟩

theorem idle_any (w : World) (S : Nat → Prop) (cs : List Value) (k : Lk) (h : LkR w S cs k) : Calls Try.prog 30 #[.agg cs.toArray] w fun e w' => e = .returned (.bool (decide (k.kept.length = 0))) ∧ Keep w w' := by
  obtain ⟨A1, A2, n1, c1, n2, c2, rfl, h1, h2⟩ := h
  have hl := Lib.hid h1.1
  clear h1 h2
  go_enter Try.func30, Try.ntmps30
  go_wp2_with fail
  go_ret
  exact ⟨by rw [← hl.out]; simp [Bool.beq_eq_decide_eq], Keep.new _ _⟩
theorem ridle_any (w : World) (S : Nat → Prop) (cs : List Value) (k : Lk) (h : LkR w S cs k) : Calls Try.prog 31 #[.agg cs.toArray] w fun e w' => e = .returned (.bool (decide (k.kept.length = 0))) ∧ Keep w w' := by
  obtain ⟨A1, A2, n1, c1, n2, c2, rfl, h1, h2⟩ := h
  have hl := Lib.hid h1.1
  clear h1 h2
  go_enter Try.func31, Try.ntmps31
  go_wp2_with fail
  go_ret
  exact ⟨by rw [← hl.out]; simp [Bool.beq_eq_decide_eq], Keep.new _ _⟩

set_option maxHeartbeats 2000000 in
theorem roffer_any (w : World) (S : Nat → Prop) (cs : List Value) (k : Lk) (v : Int) (hS : ∀ i, S i → i < w.heap.size) (h : LkR w S cs k) (hn : k.kept.length ≤ 1000) :
    Calls Try.prog 35 #[.agg cs.toArray, .int .i64 v] w (LkErr (offerS k v) (offerErr k) S w) := by
  obtain ⟨i0, hi0, hz0, hz1, hz2⟩ := info_of info_int'
  obtain ⟨A1, A2, n1, c1, n2, c2, rfl, h1, h2⟩ := h
  have hnl := Lib.hid h1.1
  have hnn : n1 ≤ 1000 := by rw [h1.1]; exact hn
  have one : ∀ u ∈ k.kept.flatMap encI, u.oneCell' = true := fun u hu => by
    obtain ⟨x, _, hx⟩ := List.mem_flatMap.1 hu
    exact encI_one x u hx
  have HI0 := Lib.hid hi0
  have HZ0 := Lib.hid hz0
  have HZ1 := Lib.hid hz1
  have HZ2 := Lib.hid hz2
  have H1 := Lib.hid h1
  have H2 := Lib.hid h2
  have HS := Lib.hid hS
  have HN := Lib.hid hn
  have ONE := Lib.hid one
  clear hi0 hz0 hz1 hz2 h1 h2 hS hn one
  by_cases hc : k.win ≤ n1
  · have e1 : offerS k v = zeroLk := if_pos (by rw [← hnl.out]; exact hc)
    have e2 : offerErr k = 15 := if_pos (by rw [← hnl.out]; exact hc)
    rw [e1, e2]
    clear e1 e2
    have hd : decide (k.win ≤ n1) = true := by simpa using hc
    go_enter Try.func35, Try.ntmps35
    go_wp2_with (refine wpList_store_blk rfl _ (.tmp 4) (.tmp 12) rfl (w.heap.size + 1) 0 35 _ [.int .i64 0, .int .i64 0, .slice none 0 0, .int .i64 0, .slice none 0 0] rfl rfl (by have := Blk.new (w.alloc (.cells #[.int .i64 k.win, .int .i64 k.base, .slice A1 n1 c1, .int .i64 k.want, .slice A2 n2 c2] 35)) 35 #[.int .i64 0, .int .i64 0, .slice none 0 0, .int .i64 0, .slice none 0 0]; simpa using this) (by simp) (by kernel_rfl) rfl ?_; intro w4 hb4 hs4; have HB4 := Lib.hid hb4; have HS4 := Lib.hid hs4; clear hb4 hs4)
    exact bodyPost_ret (results_cell_tmp' Try.results35 _ _ _ ⟨w.heap.size + 1, 0, none⟩ _ _ rfl rfl (load_lk [.int .i64 0, .int .i64 0, .slice none 0 0, .int .i64 0, .slice none 0 0] HB4.out (by simp [splice]) rfl)) rfl ⟨_, rfl, ⟨none, none, 0, 0, 0, 0, rfl, Sl.nil_, Sl.nil_⟩, Keep.write (Keep.alloc (Keep.new _ _) _) HS4.out (by omega)⟩
  · have e1 : offerS k v = { k with kept := k.kept ++ [v] } := if_neg (by rw [← hnl.out]; exact hc)
    have e2 : offerErr k = 0 := if_neg (by rw [← hnl.out]; exact hc)
    rw [e1, e2]
    clear e1 e2
    have hd : decide (k.win ≤ n1) = false := by simpa using hc
    go_enter Try.func35, Try.ntmps35
    go_upto_region 3 with fail
    generalize hW : (w.alloc (.cells #[.int .i64 k.win, .int .i64 k.base, .slice A1 n1 c1, .int .i64 k.want, .slice A2 n2 c2] 35)).alloc (.cells #[.int .i64 0, .int .i64 0, .slice none 0 0, .int .i64 0, .slice none 0 0] 35) = W
    have hkW : Keep w W := hW ▸ Keep.alloc (Keep.new _ _) _
    have hzW : W.heap.size = w.heap.size + 2 := by rw [← hW]; simp
    have bK : Blk W w.heap.size 35 #[.int .i64 k.win, .int .i64 k.base, .slice A1 n1 c1, .int .i64 k.want, .slice A2 n2 c2] := hW ▸ (Blk.new _ _ _).alloc _
    have bR : Blk W (w.heap.size + 1) 35 #[.int .i64 0, .int .i64 0, .slice none 0 0, .int .i64 0, .slice none 0 0] := by
      rw [← hW]
      have := Blk.new (w.alloc (.cells #[.int .i64 k.win, .int .i64 k.base, .slice A1 n1 c1, .int .i64 k.want, .slice A2 n2 c2] 35)) 35 #[.int .i64 0, .int .i64 0, .slice none 0 0, .int .i64 0, .slice none 0 0]
      simpa using this
    have k2 : W.cell? ⟨w.heap.size, 2, none⟩ = some (.slice A1 n1 c1) := by rw [bK.cell]; rfl
    have HKW := Lib.hid hkW
    have BK := Lib.hid bK
    have BR := Lib.hid bR
    have HZW := Lib.hid hzW
    clear hkW bK bR hzW
    clear hW
    go_wp2_with (first
      | (at_builtin; refine wpList_append_any _ rfl (.const (.slice none 0 0)) (.tmp 14) _ rfl W.heap.size 3 i0 _ 1 8 Try.underlying23 HI0.out HZ0.out HZ1.out HZ2.out rfl (by omega) (.slice none 0 0) 0 [] rfl (World.ownsRow_nil _ _ _ _) S A1 n1 c1 (k.kept.flatMap encI) rfl (H1.out.keep (Same.mono HKW.out HS.out)).2.2.2 ONE.out (by simp [maxLen]; omega) (by omega) (by simp) ?_; intro v4 w4 hown4 hg4 hat4; have HO4 := Lib.hid hown4; have HK4 : Hid (Keep W w4) := Lib.hid ((Same.refl _ W).append (World.ownsRow_nil _ W.heap.size 3 1) hg4 (fun i hi => hi) (Nat.le_refl _)); clear hown4 hg4 hat4)
      | (at_builtin; refine wpList_append_any _ rfl (.tmp 15) (.tmp 17) _ rfl W.heap.size 3 i0 _ 1 8 Try.underlying23 HI0.out HZ0.out HZ1.out HZ2.out rfl (by omega) v4 (0 + n1) _ rfl (HO4.out.alloc _) _ (some ⟨w4.heap.size, 0, none⟩) 1 1 (encI v) rfl (Reads.new rfl) (encI_one _) (by simp [maxLen]; omega) (by omega) (by have := HK4.out.size; simp; omega) ?_; intro v5 w5 hown5 hg5 hat5; have HK5 := Lib.hid (Same.append (Keep.alloc HK4.out (.cells #[.int .i64 v] 3)) (HO4.out.alloc _) hg5 (fun i hi => hi) (by have := HK4.out.size; simp; omega)); have hown6 : w5.ownsRow W.heap.size 3 1 v5 (n1 + 1) ((k.kept ++ [v]).flatMap encI) := (by simpa using hown5); obtain ⟨A5, c5, hv5, hsl5⟩ := Sl.of_own' hown6 (by have := hnl.out; simp; omega); rw [hv5]; have HSL5 := Lib.hid hsl5; clear hown5 hown6 hg5 hat5 hsl5 hv5)
      | (refine wpList_store_one rfl _ (.tmp 19) (.tmp 18) rfl w.heap.size 2 35 _ (.slice A5 (n1 + 1) c5) rfl rfl (HK5.out.blk BK.out BK.out.lt) (by simp) (by kernel_rfl) rfl rfl ?_; intro w6 hb6 hs6; have HB6 := Lib.hid hb6; have HS6 := Lib.hid hs6; clear hb6 hs6)
      | (refine wpList_load_blk rfl _ (.tmp 2) rfl w.heap.size 0 35 _ [.int .i64 k.win, .int .i64 k.base, .slice A5 (n1 + 1) c5, .int .i64 k.want, .slice A2 n2 c2] _ rfl HB6.out (by simp) Try.underlying35 rfl (by kernel_rfl) ?_)
      | (refine wpList_store_blk rfl _ (.tmp 4) (.tmp 20) rfl (w.heap.size + 1) 0 35 _ [.int .i64 k.win, .int .i64 k.base, .slice A5 (n1 + 1) c5, .int .i64 k.want, .slice A2 n2 c2] rfl rfl (HS6.out.blk (HK5.out.blk BR.out BR.out.lt) (by omega)) (by simp) (by kernel_rfl) rfl ?_; intro w7 hb7 hs7; have HB7 := Lib.hid hb7; have HS7 := Lib.hid hs7; clear hb7 hs7))
    have hz := HZW.out
    have hz5 := HK5.out.size
    have hz6 := HS6.out.size
    have hz7 := HS7.out.size
    refine bodyPost_ret (results_cell_tmp' Try.results35 _ _ _ ⟨w.heap.size + 1, 0, none⟩ _ _ rfl rfl (load_lk [.int .i64 k.win, .int .i64 k.base, .slice A5 (n1 + 1) c5, .int .i64 k.want, .slice A2 n2 c2] HB7.out (by simp [splice]) rfl)) rfl ⟨_, rfl, ⟨A5, A2, _, c5, n2, c2, rfl, ?_, ?_⟩, Keep.write (Keep.write (Keep.trans HKW.out HK5.out) HS6.out (by omega)) HS7.out (by omega)⟩
    · refine ((HSL5.out.keep (Same.mono HS6.out (fun i hi => ?_))).keep (Same.mono HS7.out (fun i hi => ?_))).more (fun i hi => ?_)
      · have := hi.1; omega
      · have := hi.1; omega
      · have := hi.1; have := hi.2; exact .inr ⟨by omega, by omega⟩
    · have hs : Same S w w7 := Same.trans (Same.trans (Same.mono (Keep.trans HKW.out HK5.out) HS.out) HS6.out (fun i hi => by have := HS.out i hi; omega)) HS7.out (fun i hi => by have := HS.out i hi; omega)
      exact (H2.out.keep hs).more (fun i hi => .inl hi)

set_option maxHeartbeats 4000000 in
theorem rpackets_any (w : World) (S : Nat → Prop) (cs : List Value) (k : Lk) (hS : ∀ i, S i → i < w.heap.size) (h : LkR w S cs k) (hn : k.kept.length ≤ 1000) (hb0 : 0 ≤ k.base) (hb1 : k.base ≤ 1000000) :
    Calls Try.prog 37 #[.agg cs.toArray] w (PksPost (packetsS k) w) := by
  obtain ⟨i0, hi0, hz0, hz1, hz2⟩ := info_of info_Pk
  obtain ⟨A1, A2, n1, c1, n2, c2, rfl, h1, h2⟩ := h
  have hnl := Lib.hid h1.1
  have hnn : n1 ≤ 1000 := by rw [h1.1]; exact hn
  have H1 := Lib.hid h1
  have HS := Lib.hid hS
  have HI0 := Lib.hid hi0
  have HZ0 := Lib.hid hz0
  have HZ1 := Lib.hid hz1
  have HZ2 := Lib.hid hz2
  have HN := Lib.hid hn
  clear h1 hS hi0 hz0 hz1 hz2 hn
  clear h2
  go_enter Try.func37, Try.ntmps37
  go_wp2_with fail
  generalize hW : w.alloc (.cells #[.int .i64 k.win, .int .i64 k.base, .slice A1 n1 c1, .int .i64 k.want, .slice A2 n2 c2] 35) = W
  have hkW : Keep w W := hW ▸ Keep.new _ _
  have hzW : w.heap.size < W.heap.size := by rw [← hW]; simp
  have bK : Blk W w.heap.size 35 #[.int .i64 k.win, .int .i64 k.base, .slice A1 n1 c1, .int .i64 k.want, .slice A2 n2 c2] := hW ▸ Blk.new _ _ _
  have HKW := Lib.hid hkW
  have BK := Lib.hid bK
  clear hkW bK
  clear hW
  go_loopw [3, 4] (fun v i wr => PksRel k W w v i wr) (fun _ i _ => n1 - (intOf i).toNat)
  case atStart => exact ⟨0, by omega, rfl, World.ownsRow_nil _ _ _ _, Same.refl _ _⟩
  case round =>
    obtain ⟨j, hjl, rfl, hown, hkp⟩ := hrel
    have hjn : j ≤ n1 := by have := hnl.out; omega
    have hsz := hkp.size
    have HOWN := Lib.hid hown
    have HKP := Lib.hid hkp
    clear hown hkp
    clear hjl
    have b2 : wr.cell? ⟨w.heap.size, 2, none⟩ = some (.slice A1 n1 c1) := by rw [(HKP.out.blk BK.out BK.out.lt).cell]; rfl
    by_cases hj : j < n1
    · obtain ⟨b, off, x, rfl, hSb, hx, hc⟩ := (H1.out.keep (Same.mono (Keep.trans HKW.out HKP.out) HS.out)).at_ encI_len hj
      have hc0 : wr.cell? ⟨b, off + j, none⟩ = some (.int .i64 x) := by have := hc 0 _ rfl; simpa using this
      have hbl := HS.out b hSb
      have r1 : ∀ wx, Same (· < W.heap.size) wr wx → wx.cell? ⟨w.heap.size, 1, none⟩ = some (.int .i64 k.base) := fun wx hx => (hx.cell (p := ⟨w.heap.size, 1, none⟩) (by simpa using hzW)).trans (by rw [(HKP.out.blk BK.out BK.out.lt).cell]; rfl)
      have r2 : ∀ wx, Same (· < W.heap.size) wr wx → wx.cell? ⟨w.heap.size, 2, none⟩ = some (.slice (some ⟨b, off, none⟩) n1 c1) := fun wx hx => (hx.cell (p := ⟨w.heap.size, 2, none⟩) (by simpa using hzW)).trans (by rw [(HKP.out.blk BK.out BK.out.lt).cell]; rfl)
      have r3 : ∀ wx, Same (· < W.heap.size) wr wx → wx.cell? ⟨b, off + j, none⟩ = some (.int .i64 x) := fun wx hx => (hx.cell (p := ⟨b, off + j, none⟩) (by simp; omega)).trans hc0
      have HX := Lib.hid hx
      clear hx
      have j0 : (0 : Int) ≤ j := by omega
      have j1 : (j : Int) < n1 := by omega
      have hwr : IntKind.i64.wrap (k.base + j) = k.base + j := IntWalk.i64_in _ (by omega)
      clear hc hc0
      go_wp2_with fail
      have hA : True := trivial
      refine wp_region_L 99 (fun _ => True) (fun wx => Same (· < W.heap.size) wr wx) (by kernel_rfl) trivial (Same.drew (Same.refl _ _)) (fun _ hB => ?_)
      refine wpL_takeB (i := 0) (v := ?_) rfl (by kernel_rfl) (by kernel_rfl) (by kernel_rfl) (by decide) (fun _ _ _ h => h) (Or.inl ⟨by rfl, ?_⟩) (SAB.both hA hB) ?_
      rotate_left
      · intro wx hBx
        (try dsimp only at hBx)
        go_simp
        try with_reducible rfl
      try simp only [Act.put, List.setIfInBounds_toArray, List.set_cons_zero, List.set_cons_succ]
      refine wpL_takeB (i := 1) (v := ?_) rfl (by kernel_rfl) (by kernel_rfl) (by kernel_rfl) (by decide) (fun _ _ _ h => h) (Or.inl ⟨by rfl, ?_⟩) (SAB.both hA hB) ?_
      rotate_left
      · intro wx hBx
        (try dsimp only at hBx)
        go_simp
        try with_reducible rfl
      try simp only [Act.put, List.setIfInBounds_toArray, List.set_cons_zero, List.set_cons_succ]
      refine wpL_takeB (i := 2) (v := ?_) rfl (by kernel_rfl) (by kernel_rfl) (by kernel_rfl) (by decide) (fun _ _ _ h => h) (Or.inl ⟨by rfl, ?_⟩) (SAB.both hA hB) ?_
      rotate_left
      · intro wx hBx
        (try dsimp only at hBx)
        go_simp
        try with_reducible rfl
      try simp only [Act.put, List.setIfInBounds_toArray, List.set_cons_zero, List.set_cons_succ]
      refine wpL_takeB (i := 3) (v := ?_) rfl (by kernel_rfl) (by kernel_rfl) (by kernel_rfl) (by decide) (fun _ _ _ h => h) (Or.inl ⟨by rfl, ?_⟩) (SAB.both hA hB) ?_
      rotate_left
      · intro wx hBx
        (try dsimp only at hBx)
        go_simp
        try with_reducible rfl
      try simp only [Act.put, List.setIfInBounds_toArray, List.set_cons_zero, List.set_cons_succ]
      refine wpL_takeB (i := 4) (v := ?_) rfl (by kernel_rfl) (by kernel_rfl) (by kernel_rfl) (by decide) (fun _ _ _ h => h) (Or.inl ⟨by rfl, ?_⟩) (SAB.both hA hB) ?_
      rotate_left
      · intro wx hBx
        (try dsimp only at hBx)
        go_simp
        try with_reducible rfl
      try simp only [Act.put, List.setIfInBounds_toArray, List.set_cons_zero, List.set_cons_succ]
      refine wpL_takeB (i := 5) (v := ?_) rfl (by kernel_rfl) (by kernel_rfl) (by kernel_rfl) (by decide) (fun _ _ _ h => h) (Or.inl ⟨by rfl, ?_⟩) (SAB.both hA hB) ?_
      rotate_left
      · intro wx hBx
        (try dsimp only at hBx)
        go_simp
        try with_reducible rfl
      try simp only [Act.put, List.setIfInBounds_toArray, List.set_cons_zero, List.set_cons_succ]
      refine wpL_takeB (i := 6) (v := ?_) rfl (by kernel_rfl) (by kernel_rfl) (by kernel_rfl) (by decide) (fun _ _ _ h => h) (Or.inl ⟨by rfl, ?_⟩) (SAB.both hA hB) ?_
      rotate_left
      · intro wx hBx
        (try dsimp only at hBx)
        go_simp
        try with_reducible rfl
      try simp only [Act.put, List.setIfInBounds_toArray, List.set_cons_zero, List.set_cons_succ]
      refine wpL_takeB (i := 7) (v := ?_) rfl (by kernel_rfl) (by kernel_rfl) (by kernel_rfl) (by decide) (fun _ _ _ h => h) (Or.inl ⟨by rfl, ?_⟩) (SAB.both hA hB) ?_
      rotate_left
      · intro wx hBx
        (try dsimp only at hBx)
        go_simp
        try with_reducible rfl
      try simp only [Act.put, List.setIfInBounds_toArray, List.set_cons_zero, List.set_cons_succ]
      refine wpL_takeB (i := 8) (v := ?_) rfl (by kernel_rfl) (by kernel_rfl) (by kernel_rfl) (by decide) (fun _ _ _ h => h) (Or.inl ⟨by rfl, ?_⟩) (SAB.both hA hB) ?_
      rotate_left
      · intro wx hBx
        (try dsimp only at hBx)
        go_simp
        try with_reducible rfl
      try simp only [Act.put, List.setIfInBounds_toArray, List.set_cons_zero, List.set_cons_succ]
      refine wpL_takeB (i := 9) (v := ?_) rfl (by kernel_rfl) (by kernel_rfl) (by kernel_rfl) (by decide) (fun _ _ _ h => h) (Or.inl ⟨by rfl, ?_⟩) (SAB.both hA hB) ?_
      rotate_left
      · intro wx hBx
        (try dsimp only at hBx)
        go_simp
        try with_reducible rfl
      try simp only [Act.put, List.setIfInBounds_toArray, List.set_cons_zero, List.set_cons_succ]
      refine wpL_takeB (i := 10) (v := ?_) rfl (by kernel_rfl) (by kernel_rfl) (by kernel_rfl) (by decide) (fun _ _ _ h => h) (Or.inl ⟨by rfl, ?_⟩) (SAB.both hA hB) ?_
      rotate_left
      · intro wx hBx
        (try dsimp only at hBx)
        go_simp
        try with_reducible rfl
      try simp only [Act.put, List.setIfInBounds_toArray, List.set_cons_zero, List.set_cons_succ]
      refine wpL_one (i := 11) (by kernel_rfl) (StepL.mk rfl (fun K hK => ?_))
      go_simp
      refine hK.out _ _ (SAB.both trivial (Same.alloc (Same.drew (Same.refl _ _)) (fun i hi => by simp; omega) _)) (fun hSS => ?_)
      clear hK K hA hB
      have hB := hSS.2
      have hA := hSS.1 (by kernel_rfl)
      (try dsimp only at hB); (try dsimp only at hA); clear hSS
      try simp only [Act.put, List.setIfInBounds_toArray, List.set_cons_zero, List.set_cons_succ]
      refine wpL_one (i := 12) (by kernel_rfl) (StepL.mk rfl (fun K hK => ?_))
      refine step_append_any _ (by rfl) (.tmp 12) (.tmp 23) _ (by rfl) W.heap.size 48 i0 _ 3 24 Try.underlying33 HI0.out HZ0.out HZ1.out HZ2.out rfl (by omega) u3 j ((packetsTo k.base k.kept j).flatMap encPk) (by rfl) (HOWN.out.alloc _) _ (some ⟨wr.heap.size, 0, none⟩) 1 1 (encPk ⟨k.base + j, 0, x⟩) (by rfl) (Reads.new rfl) (encPk_one _) (by simp [maxLen]; omega) (by omega) (by simp; omega) ?_
      intro v5 w5 hown5 hg5 hat5
      have hk5 := Same.append hB (HOWN.out.alloc _) hg5 (fun i hi => hi) (by simp; omega)
      have hk6 : Keep W w5 := Same.append (Keep.alloc HKP.out.drew _) (HOWN.out.alloc _) hg5 (fun i hi => hi) (by simp; omega)
      refine hK.out _ _ (SAB.both trivial hk5) (fun hSS => ?_)
      clear hK K hA hB
      have hB := hSS.2
      have hA := hSS.1 (by kernel_rfl)
      (try dsimp only at hB); (try dsimp only at hA); clear hSS
      try simp only [Act.put, List.setIfInBounds_toArray, List.set_cons_zero, List.set_cons_succ]
      refine wpL_takeB (i := 13) (v := ?_) rfl (by kernel_rfl) (by kernel_rfl) (by kernel_rfl) (by decide) (fun _ _ _ h => h) (Or.inl ⟨by rfl, ?_⟩) (SAB.both hA hB) ?_
      rotate_left
      · intro wx hBx
        (try dsimp only at hBx)
        go_simp
        try with_reducible rfl
      try simp only [Act.put, List.setIfInBounds_toArray, List.set_cons_zero, List.set_cons_succ]
      refine wpL_done (by kernel_rfl) ?_
      clear hwr hg5 hat5 hk5 hA hB
      have HOWN5 := Lib.hid hown5
      have HK6 := Lib.hid hk6
      clear hown5 hk6
      go_wp2_with fail
      go_roundw
      case rel =>
        refine ⟨j + 1, by have := hnl.out; omega, by go_num, ?_, HK6.out⟩
        rw [packetsTo_succ _ _ _ x HX.out]
        simpa using HOWN5.out
      case measure => simp [intOf]; omega
    · obtain rfl : j = n1 := by omega
      have ho := HOWN.out
      obtain ⟨A', c', rfl, hsl⟩ := Sl.of_own' ho (packetsTo_len _ _ _).symm
      have HSL := Lib.hid hsl
      clear ho hsl
      have hd : decide ((j : Int) < (j : Int)) = false := by simp
      go_wp2_with fail
      go_ret
      refine ⟨A', j, c', rfl, ?_, Keep.trans HKW.out HKP.out⟩
      unfold packetsS
      rw [← hnl.out]
      exact HSL.out.more (fun i hi => ⟨by have := hi.1; omega, hi.2⟩)
end Go.Proofs.Ytafgacfbplilpaa
