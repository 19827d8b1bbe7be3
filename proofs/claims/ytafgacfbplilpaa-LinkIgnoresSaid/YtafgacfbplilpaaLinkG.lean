/- The law LinkIgnores (written by gen_ign.py). -/
import Derived.Test.YtafgacfbplilpaaLinkO
import Derived.Test.YtafgacfbplilpaaRowIn
set_option linter.unusedVariables false
set_option linter.unusedSimpArgs false
namespace Go.Proofs.Ytafgacfbplilpaa
open Go.RowKit Go.Proofs

/-- Where the steps end. -/
def CutG (w00 : World) (g : Nat) (s : Int) (wx : World) : Prop :=
  ∃ (L : Nat → Nat) (st : Ws) (C : Cls) (gk : Nat), L g = 5 ∧ g < wx.heap.size ∧ Pcs (Lab wx L 0) (Lab wx L 1) (Lab wx L 2) (Lab wx L 3) (Lab wx L 4) g C st wx ∧ Inv st gk ∧ st.k.win = s ∧ (∀ i, i < w00.heap.size → L i = 6) ∧ Keep w00 wx
theorem CutG.draws {w00 : World} {g : Nat} {s : Int} {wx : World} (h : CutG w00 g s wx) (m : Nat) : CutG w00 g s (wx.drewN m) := by
  obtain ⟨L, st, C, gk, h1, h2, hp, h3, h4, h5, h6⟩ := h
  have hd : Same (fun _ => True) wx (wx.drewN m) := (Same.refl _ _).drewN m
  exact ⟨L, st, C, gk, h1, h2, hp.same hd trivial (fun _ _ => trivial) (fun _ _ => trivial) (fun _ _ => trivial) (fun _ _ => trivial) (fun _ _ => trivial), h3, h4, h5, h6.drewN m⟩
/-- A test that only reads. -/
def CutB (w : World) (b : Bool) (v : Value) (wx : World) : Prop := v = .bool b ∧ ∃ m, wx = w.drewN m
theorem ign_arrive {k : Lk} {q : Pk} {s : Int} (hs : k.win = s) (h : q.seq < k.want ∨ s ≤ q.seq - k.want) (hs1 : 1 ≤ s) : arriveS k q = k ∧ arriveD k q = [] := by
  unfold arriveS arriveD
  rw [if_neg (by omega), if_neg (by omega), if_neg (by omega)]
  exact ⟨rfl, rfl⟩
theorem ign_confirm {k : Lk} {q : Pk} (h : q.seq ≠ 0 ∨ q.ack < k.base ∨ (k.kept.length : Int) ≤ q.ack - k.base) : confirmS k q = k := by
  unfold confirmS
  exact if_neg (by omega)
set_option maxHeartbeats 8000000 in
set_option maxRecDepth 100000 in
theorem linkIgnores_walk (w000 : World) (x : Int) (A : Option Addr) (n c : Nat) (zs : List Int) (q : Pk) (hx0 : 0 ≤ x) (hx1 : x < 256) (hz : Sl encB 1 w000 (· < w000.heap.size) A n c zs) (hz8 : ∀ y ∈ zs, 0 ≤ y ∧ y < 256) (hiq : I64 q.seq) (hia : I64 q.ack) :
    Calls Try.prog 6 #[.int .u8 x, .slice A n c, .agg #[.int .i64 q.seq, .int .i64 q.ack, .int .i64 q.val]] w000 (KTrue w000) := by
  have hz0 : Sl encB 1 (w000.alloc (.cells #[.int .i64 q.seq, .int .i64 q.ack, .int .i64 q.val] 48)) (· < w000.heap.size) A n c zs := hz.keep (Keep.new _ _)
  have HIQ := Lib.hid hiq
  have HIA := Lib.hid hia
  have HZ8 := Lib.hid hz8
  clear hiq hia hz8
  clear hz
  go_enter Try.func6, Try.ntmps6
  go_wp2_with fail
  generalize hW0 : w000.alloc (.cells #[.int .i64 q.seq, .int .i64 q.ack, .int .i64 q.val] 48) = w00 at *
  have hbP : Blk w00 w000.heap.size 48 (encPk q).toArray := hW0 ▸ Blk.new _ _ _
  have hk000 : Keep w000 w00 := hW0 ▸ Keep.new _ _
  have hbp := hbP.lt
  have hz := hz0.more (T := fun i => i < w00.heap.size) (fun i hi => by omega)
  clear hW0 hz0
  generalize w000.heap.size = bp at *
  have HBP := Lib.hid hbP
  have HK000 := Lib.hid hk000
  have HZ := Lib.hid hz
  clear hbP hk000 hz
  refine (awake15_any w00).mono ?_
  rintro e w0 ⟨rfl, hk0⟩
  have HK0 := Lib.hid hk0
  clear hk0
  go_wp2_with fail
  have hs1 : 1 ≤ 1 + x % 8 := by omega
  have hs2 : 1 + x % 8 ≤ 8 := by omega
  generalize 1 + x % 8 = s at *
  have e0 : newS s = ⟨s, 1, [], 1, []⟩ := if_neg (by omega)
  refine (new15_any s w0 (fun _ => False)).mono ?_
  rw [e0]
  clear e0
  rintro e w1 ⟨cs1, rfl, ⟨B1, B2, m1, d1, m2, d2, rfl, k1, k2⟩, hk1⟩
  obtain rfl : m1 = 0 := k1.1
  obtain rfl : m2 = 0 := k2.1
  have K1 := Lib.hid k1
  have K2 := Lib.hid k2
  have HK1 := Lib.hid hk1
  clear k1 k2 hk1
  have hz0 := HK0.out.size
  have hz1 := HK1.out.size
  go_upto_region 6 with (first
    | (refine wpList_store_all rfl _ (.tmp 8) (.tmp 24) rfl w1.heap.size 35 _ [.int .i64 s, .int .i64 1, .slice B1 0 d1, .int .i64 1, .slice B2 0 d2] rfl rfl (Blk.new _ _ _) rfl (by kernel_rfl) rfl ?_; intro w2 hb2 hs2; have HB2 := Lib.hid hb2; have HK2 : Hid (Keep w1 w2) := Lib.hid (Keep.write (Keep.new w1 _) hs2 (Nat.le_refl _)); clear hb2 hs2)
    | (refine wpList_load_all rfl _ (.tmp 8) rfl w1.heap.size 35 [.int .i64 s, .int .i64 1, .slice B1 0 d1, .int .i64 1, .slice B2 0 d2] _ rfl HB2.out Try.underlying35 rfl (by kernel_rfl) ?_))
  generalize hW : w2.alloc (.cells #[.int .i64 s, .int .i64 1, .slice B1 0 d1, .int .i64 1, .slice B2 0 d2, .slice none 0 0, .slice none 0 0, .slice none 0 0, .slice none 0 0] 41) = W
  have hbW : Blk W w2.heap.size 41 _ := hW ▸ Blk.new _ _ _
  have hkW : Keep w00 W := hW ▸ Keep.alloc (Keep.trans HK0.out (Keep.trans HK1.out HK2.out)) _
  have hz2 := HK2.out.size
  have hzW : w2.heap.size < W.heap.size := hbW.lt
  have HBW := Lib.hid hbW
  have HKW := Lib.hid hkW
  clear hbW hkW
  clear hW
  go_wp2_with fail
  refine (new_any W A n c 240 zs (fun i => i < w00.heap.size) (fun i hi => by have := HKW.out.size; omega) (HZ.out.keep HKW.out) HZ8.out (by omega)).mono ?_
  rintro e w4 ⟨r, hr, rfl, hc4, hk4⟩
  have hlaw : LawRel w00 w2.heap.size W.heap.size s r w4 := LawRel.start hs1 hs2 hr (by omega) hzW HKW.out K1.out K2.out HBW.out hc4 hk4
  have HLAW := Lib.hid hlaw
  clear hlaw
  clear hc4 hk4
  generalize W.heap.size = gc at *
  generalize w2.heap.size = g at *
  clear HBW HKW
  go_upto_block 0 with fail
  go_cut [] from 31 to 43 (fun wx => CutG w00 g s wx)
  case first =>
    go_wp2_with fail
    go_loopg [] r (fun gk wr => LawRel w00 g gc s gk wr)
    case atStart => exact HLAW.out
    case round =>
      obtain ⟨L, st, hws, hinv, hwin, hL, hkr⟩ := hrel
      have hws' := hws
      obtain ⟨hLg, ⟨C, hp⟩, hcod⟩ := hws'
      have HWS := Lib.hid hws
      have HINV := Lib.hid hinv
      have HWIN := Lib.hid hwin
      have HL := Lib.hid hL
      have HKR := Lib.hid hkr
      have HLG := Lib.hid hLg
      have HP := Lib.hid hp
      clear hws hinv hwin hL hkr hLg hp
      go_wp2_with fail
      refine (left_any wr (Lab wr L 6) gc gk hcod).mono ?_
      rintro e w5 ⟨rfl, m5, rfl⟩
      clear hcod
      by_cases h0 : 0 < gk
      · have hd0 : decide (0 < gk) = true := by simpa using h0
        have g7 : wr.cell? ⟨g, 7, none⟩ = some (.slice C.A3 C.n3 C.c3) := by rw [HP.out.blk.cell]; rfl
        by_cases h60 : C.n3 < 60
        · have hd60 : decide ((C.n3 : Int) < 60) = true := by simp; omega
          go_wp2_with fail
          refine (step_any (wr.drewN m5) L g gc st gk false (HWS.out.draws m5) HINV.out.ok).mono ?_
          intro e w6 hpost
          obtain ⟨r6, hr6, rfl, hlaw6⟩ := LawRel.next HINV.out HWIN.out HL.out (Same.drewN HKR.out m5) h0 hpost
          have HLAW6 := Lib.hid hlaw6
          clear hlaw6
          clear hpost
          go_wp2_with fail
          go_roundg r6
          case measure => exact hr6
          case rel => exact HLAW6.out
        · have hd60 : decide ((C.n3 : Int) < 60) = false := by simp; omega
          go_wp2_with fail
          go_meet
          exact CutG.draws ⟨L, st, C, gk, HLG.out, HP.out.blk.lt, HP.out, HINV.out, HWIN.out, fun i hi => (HL.out i hi).1, HKR.out⟩ _
      · have hd0 : decide (0 < gk) = false := by simpa using h0
        go_wp2_with fail
        go_meet
        exact CutG.draws ⟨L, st, C, gk, HLG.out, HP.out.blk.lt, HP.out, HINV.out, HWIN.out, fun i hi => (HL.out i hi).1, HKR.out⟩ _
  case rest =>
    obtain ⟨L, st, C, gk, hLg, hg, hp, hinv, hwin, hL6, hkw⟩ := hcut
    obtain ⟨w, rfl⟩ : ∃ w : World, w = wc := ⟨_, rfl⟩
    have hzw := hkw.size
    have hok := hinv.ok
    have hbq : Blk w bp 48 (encPk q).toArray := hkw.blk HBP.out hbp
    have hw0 : 0 ≤ st.k.want := hok.want0
    have hw1 : st.k.want ≤ 100000 := hok.want1
    have he0 : st.k.early.length ≤ 100 := hok.early
    have hkl : st.k.kept.length ≤ 8 := hok.kept
    have hb0 : 1 ≤ st.k.base := hinv.base1
    have hb1 : st.k.base ≤ 100000 := hok.base1
    have hbw : bp < w.heap.size := by omega
    have h1m : C.m1 = st.k.kept.length := hp.kept.1
    have HLG := Lib.hid hLg
    have HP := Lib.hid hp
    have HINV := Lib.hid hinv
    have HWIN := Lib.hid hwin
    have HL6 := Lib.hid hL6
    have HKW := Lib.hid hkw
    have HOK := Lib.hid hok
    have HBQ := Lib.hid hbq
    have H1M := Lib.hid h1m
    clear hLg hp hinv hwin hL6 hkw hok hbq h1m
    go_upto_region 9 with fail
    go_cut [12, 13, 14] from 44 to 53 (fun sa sb sc wx => CutR w (Lab w L 0) (arriveS st.k q) (arriveD st.k q) sa sb sc wx)
    case first =>
      have hA : True := trivial
      refine wp_region_L 99 (fun _ => True) (fun wx => Keep w wx) (by kernel_rfl) trivial (Same.drew (Same.refl _ _)) (fun _ hB => ?_)
      refine wpL_takeB (i := 0) (v := ?_) rfl (by kernel_rfl) (by kernel_rfl) (by kernel_rfl) (by decide) (fun _ _ _ h => h) (Or.inl ⟨by rfl, ?_⟩) (SAB.both hA hB) ?_
      rotate_left
      · intro wx hBx
        (try dsimp only at hBx)
        go_simp
        try with_reducible rfl
      try simp only [Act.put, List.setIfInBounds_toArray, List.set_cons_zero, List.set_cons_succ]
      refine wpL_takeB (i := 1) (v := ?_) rfl (by kernel_rfl) (by kernel_rfl) (by kernel_rfl) (by decide) (fun _ _ _ h => h) (Or.inl ⟨by rfl, ?_⟩) (SAB.both hA hB) ?_
      rotate_left
      · intro wx hBx
        (try dsimp only at hBx)
        go_simp
        try with_reducible rfl
      try simp only [Act.put, List.setIfInBounds_toArray, List.set_cons_zero, List.set_cons_succ]
      refine wpL_takeB (i := 2) (v := ?_) rfl (by kernel_rfl) (by kernel_rfl) (by kernel_rfl) (by decide) (fun _ _ _ h => h) (Or.inl ⟨by rfl, ?_⟩) (SAB.both hA hB) ?_
      rotate_left
      · intro wx hBx
        (try dsimp only at hBx)
        go_simp
        try with_reducible rfl
      try simp only [Act.put, List.setIfInBounds_toArray, List.set_cons_zero, List.set_cons_succ]
      refine wpL_takeB (i := 3) rfl (by kernel_rfl) (by kernel_rfl) (by kernel_rfl) (by decide) (fun _ _ _ h => h) (yieldsIf_blk (by rfl) _ _ rfl g 0 41 _ (C.k st.k) _ rfl (fun wx hx => hx.blk HP.out.blk (by omega)) (C.sub st.k) Try.underlying35 rfl (by kernel_rfl)) (SAB.both hA hB) ?_
      try simp only [Act.put, List.setIfInBounds_toArray, List.set_cons_zero, List.set_cons_succ]
      refine wpL_takeB (i := 4) rfl (by kernel_rfl) (by kernel_rfl) (by kernel_rfl) (by decide) (fun _ _ _ h => h) (yieldsIf_blk (by rfl) _ _ rfl bp 0 48 _ (encPk q) _ rfl (fun wx hx => hx.blk HBQ.out (by omega)) (fun j v hv => by simpa using hv) Try.underlying48 rfl (by kernel_rfl)) (SAB.both hA hB) ?_
      try simp only [Act.put, List.setIfInBounds_toArray, List.set_cons_zero, List.set_cons_succ]
      have key : ∀ (wa : World), Keep w wa → Calls Try.prog 25 #[.agg (C.k st.k).toArray, .agg (encPk q).toArray] wa (ArrPost (arriveS st.k q) (arriveD st.k q) (Lab w L 0) wa) := fun wa ha => arrive_any wa (Lab w L 0) (C.k st.k) st.k q (fun i hi => by have := hi.1; have := ha.size; omega) (LkR.keep HP.out.lk (ha.mono (fun i hi => by have := hi.1; omega))) (by omega) hw0 (by omega) HIQ.out
      have fin : ∀ (wa wb wf : World) (b15 b17 : Nat) (cs6 : List Value) (A : Option Addr) (n6 c6 : Nat), Keep w wa → LkR wb (fun i => Lab w L 0 i ∨ (wa.heap.size ≤ i ∧ i < wb.heap.size)) cs6 (arriveS st.k q) → Sl encI 1 wb (fun i => wa.heap.size ≤ i ∧ i < wb.heap.size) A n6 c6 (arriveD st.k q) → Keep wa wb → w.heap.size ≤ b15 → w.heap.size ≤ b17 → (b15 < wa.heap.size ∨ wb.heap.size ≤ b15) → (b17 < wa.heap.size ∨ wb.heap.size ≤ b17) → Same (fun i => i < wb.heap.size ∧ i ≠ b15 ∧ i ≠ b17) wb wf → Blk wf b15 35 cs6.toArray → Blk wf b17 48 #[.int .i64 0, .int .i64 ((arriveS st.k q).want - 1), .int .i64 0] → CutR w (Lab w L 0) (arriveS st.k q) (arriveD st.k q) (.pointer (some ⟨b15, 0, none⟩)) (.slice A n6 c6) (.pointer (some ⟨b17, 0, none⟩)) wf := fun wa wb wf b15 b17 cs6 A n6 c6 ha hr hsl hk h15 h17 d15 d17 hs hb15 hb17 => by
        have h1 := ha.size
        have h2 := hk.size
        have h3 := hs.size
        have hlt : ∀ i, (Lab w L 0 i ∨ (wa.heap.size ≤ i ∧ i < wb.heap.size)) → i < wb.heap.size ∧ i ≠ b15 ∧ i ≠ b17 := fun i hi => hi.elim (fun h => by have := h.1; omega) (fun h => by omega)
        refine ⟨b15, b17, cs6, A, n6, c6, rfl, rfl, rfl, h15, h17, hb15, hb17, (hr.keep (hs.mono hlt)).more (fun i hi => ?_), (hsl.keep (hs.mono (fun i hi => hlt i (.inr hi)))).more (fun i hi => ?_), Same.trans (Keep.trans ha hk) hs (fun i hi => by omega)⟩
        · have := hlt i hi
          rcases hi with hi | hi
          · exact .inl hi
          · exact .inr ⟨by omega, by omega, by omega⟩
        · have := hlt i (.inr hi)
          exact ⟨by omega, by omega, by omega⟩
      have KEY := Lib.hid key
      have FIN := Lib.hid fin
      clear key fin
      refine wpL_three (i := 5) (j := 10) (m := 11) (by kernel_rfl) (StepL.mk rfl (fun K hK => ?_)) (StepL.mk rfl (fun K hK => ?_)) (StepL.mk rfl (fun K hK => ?_))
      · go_simp
        refine (KEY.out _ hB).mono ?_
        rintro e w6 ⟨cs6, A6, n6, c6, rfl, hr6, hd6, hk6⟩
        have hz6 := hk6.size
        simp at hz6
        refine hK.out _ _ (SAB.both trivial (Keep.trans hB hk6)) (fun hSS => ?_)
        clear hK K hA hB
        have hB := hSS.2
        have hA := hSS.1 (by kernel_rfl)
        (try dsimp only at hB); (try dsimp only at hA); clear hSS
        try simp only [Act.put, List.setIfInBounds_toArray, List.set_cons_zero, List.set_cons_succ]
        refine wpL_takeB (i := 6) (v := ?_) rfl (by kernel_rfl) (by kernel_rfl) (by kernel_rfl) (by decide) (fun _ _ _ h => h) (Or.inl ⟨by rfl, ?_⟩) (SAB.both hA hB) ?_
        rotate_left
        · intro wx hBx
          (try dsimp only at hBx)
          go_simp
          try with_reducible rfl
        try simp only [Act.put, List.setIfInBounds_toArray, List.set_cons_zero, List.set_cons_succ]
        refine wpL_takeB (i := 7) (v := ?_) rfl (by kernel_rfl) (by kernel_rfl) (by kernel_rfl) (by decide) (fun _ _ _ h => h) (Or.inl ⟨by rfl, ?_⟩) (SAB.both hA hB) ?_
        rotate_left
        · intro wx hBx
          (try dsimp only at hBx)
          go_simp
          try with_reducible rfl
        try simp only [Act.put, List.setIfInBounds_toArray, List.set_cons_zero, List.set_cons_succ]
        refine wpL_takeB (i := 8) (v := ?_) rfl (by kernel_rfl) (by kernel_rfl) (by kernel_rfl) (by decide) (fun _ _ _ h => h) (Or.inl ⟨by rfl, ?_⟩) (SAB.both hA hB) ?_
        rotate_left
        · intro wx hBx
          (try dsimp only at hBx)
          go_simp
          try with_reducible rfl
        try simp only [Act.put, List.setIfInBounds_toArray, List.set_cons_zero, List.set_cons_succ]
        refine wpL_takeB (i := 9) (v := ?_) rfl (by kernel_rfl) (by kernel_rfl) (by kernel_rfl) (by decide) (fun _ _ _ h => h) (Or.inl ⟨by rfl, ?_⟩) (SAB.both hA hB) ?_
        rotate_left
        · intro wx hBx
          (try dsimp only at hBx)
          go_simp
          try with_reducible rfl
        try simp only [Act.put, List.setIfInBounds_toArray, List.set_cons_zero, List.set_cons_succ]
        refine wpL_two (i := 10) (j := 11) (by kernel_rfl) (StepL.mk rfl (fun K hK => ?_)) (StepL.mk rfl (fun K hK => ?_))
        · go_simp
          refine hK.out _ _ (SAB.both trivial (Keep.alloc hB _)) (fun hSS => ?_)
          clear hK K hA hB
          have hB := hSS.2
          have hA := hSS.1 (by kernel_rfl)
          (try dsimp only at hB); (try dsimp only at hA); clear hSS
          try simp only [Act.put, List.setIfInBounds_toArray, List.set_cons_zero, List.set_cons_succ]
          refine wpL_one (i := 11) (by kernel_rfl) (StepL.mk rfl (fun K hK => ?_))
          go_simp
          refine hK.out _ _ (SAB.both trivial (Keep.alloc hB _)) (fun hSS => ?_)
          clear hK K hA hB
          have hB := hSS.2
          have hA := hSS.1 (by kernel_rfl)
          (try dsimp only at hB); (try dsimp only at hA); clear hSS
          try simp only [Act.put, List.setIfInBounds_toArray, List.set_cons_zero, List.set_cons_succ]
          refine wpL_one (i := 12) (by kernel_rfl) (StepL.mk rfl (fun K hK => ?_))
          refine step_store_blk rfl _ _ _ rfl (w6.heap.size) 0 35 _ cs6 rfl rfl ((Blk.new w6 _ _).alloc _) (by rw [hr6.len]; simp) (info_lk hr6.len) hr6.one ?_
          intro w8 hb8 hs8
          rw [splice_all cs6 _ (by rw [hr6.len]; rfl)] at hb8
          have hB8 := Keep.write hB hs8 (by omega)
          refine hK.out _ _ (SAB.both trivial hB8) (fun hSS => ?_)
          clear hK K hA hB
          have hB := hSS.2
          have hA := hSS.1 (by kernel_rfl)
          (try dsimp only at hB); (try dsimp only at hA); clear hSS
          try simp only [Act.put, List.setIfInBounds_toArray, List.set_cons_zero, List.set_cons_succ]
          refine wpL_takeB (i := 13) (v := ?_) rfl (by kernel_rfl) (by kernel_rfl) (by kernel_rfl) (by decide) (fun _ _ _ h => h) (Or.inl ⟨by rfl, ?_⟩) (SAB.both hA hB) ?_
          rotate_left
          · intro wx hBx
            (try dsimp only at hBx)
            go_simp
            try with_reducible rfl
          try simp only [Act.put, List.setIfInBounds_toArray, List.set_cons_zero, List.set_cons_succ]
          refine wpL_one (i := 14) (by kernel_rfl) (StepL.mk rfl (fun K hK => ?_))
          refine step_store_blk rfl _ _ _ rfl (w6.heap.size + 1) 0 48 _ [.int .i64 0, .int .i64 ((arriveS st.k q).want - 1), .int .i64 0] rfl rfl (hs8.blk (Blk.snd w6 _ _ _) (by omega)) (by simp) (by kernel_rfl) rfl ?_
          intro w9 hb9 hs9
          rw [splice_all [.int .i64 0, .int .i64 ((arriveS st.k q).want - 1), .int .i64 0] #[.int .i64 0, .int .i64 0, .int .i64 0] rfl] at hb9
          have hfin := FIN.out _ w6 w9 (w6.heap.size) (w6.heap.size + 1) cs6 A6 n6 c6 (Same.drew (Same.refl _ _)) hr6 hd6 hk6 (by omega) (by omega) (by simp <;> omega) (by simp <;> omega) (Same.trans (Same.trans (Same.mono (Keep.alloc (Keep.new w6 _) _) (fun i hi => hi.1)) hs8 (fun i hi => by omega)) hs9 (fun i hi => by omega)) (hs9.blk hb8 (by omega)) hb9
          refine hK.out _ _ (SAB.both trivial (Keep.write hB hs9 (by omega))) (fun hSS => ?_)
          clear hK K hA hB
          have hB := hSS.2
          have hA := hSS.1 (by kernel_rfl)
          (try dsimp only at hB); (try dsimp only at hA); clear hSS
          try simp only [Act.put, List.setIfInBounds_toArray, List.set_cons_zero, List.set_cons_succ]
          refine wpL_done (by kernel_rfl) ?_
          have HFIN := Lib.hid hfin
          clear hfin
          clear hb8 hs8 hb9 hs9 hr6 hd6 hk6 hA hB hB8
          go_wp2_with fail
          go_meet
          exact HFIN.out
        · go_simp
          refine hK.out _ _ (SAB.both trivial (Keep.alloc hB _)) (fun hSS => ?_)
          clear hK K hA hB
          have hB := hSS.2
          have hA := hSS.1 (by kernel_rfl)
          (try dsimp only at hB); (try dsimp only at hA); clear hSS
          try simp only [Act.put, List.setIfInBounds_toArray, List.set_cons_zero, List.set_cons_succ]
          refine wpL_one (i := 10) (by kernel_rfl) (StepL.mk rfl (fun K hK => ?_))
          go_simp
          refine hK.out _ _ (SAB.both trivial (Keep.alloc hB _)) (fun hSS => ?_)
          clear hK K hA hB
          have hB := hSS.2
          have hA := hSS.1 (by kernel_rfl)
          (try dsimp only at hB); (try dsimp only at hA); clear hSS
          try simp only [Act.put, List.setIfInBounds_toArray, List.set_cons_zero, List.set_cons_succ]
          refine wpL_one (i := 12) (by kernel_rfl) (StepL.mk rfl (fun K hK => ?_))
          refine step_store_blk rfl _ _ _ rfl (w6.heap.size + 1) 0 35 _ cs6 rfl rfl (Blk.snd w6 _ _ _) (by rw [hr6.len]; simp) (info_lk hr6.len) hr6.one ?_
          intro w8 hb8 hs8
          rw [splice_all cs6 _ (by rw [hr6.len]; rfl)] at hb8
          have hB8 := Keep.write hB hs8 (by omega)
          refine hK.out _ _ (SAB.both trivial hB8) (fun hSS => ?_)
          clear hK K hA hB
          have hB := hSS.2
          have hA := hSS.1 (by kernel_rfl)
          (try dsimp only at hB); (try dsimp only at hA); clear hSS
          try simp only [Act.put, List.setIfInBounds_toArray, List.set_cons_zero, List.set_cons_succ]
          refine wpL_takeB (i := 13) (v := ?_) rfl (by kernel_rfl) (by kernel_rfl) (by kernel_rfl) (by decide) (fun _ _ _ h => h) (Or.inl ⟨by rfl, ?_⟩) (SAB.both hA hB) ?_
          rotate_left
          · intro wx hBx
            (try dsimp only at hBx)
            go_simp
            try with_reducible rfl
          try simp only [Act.put, List.setIfInBounds_toArray, List.set_cons_zero, List.set_cons_succ]
          refine wpL_one (i := 14) (by kernel_rfl) (StepL.mk rfl (fun K hK => ?_))
          refine step_store_blk rfl _ _ _ rfl (w6.heap.size) 0 48 _ [.int .i64 0, .int .i64 ((arriveS st.k q).want - 1), .int .i64 0] rfl rfl (hs8.blk ((Blk.new w6 _ _).alloc _) (by omega)) (by simp) (by kernel_rfl) rfl ?_
          intro w9 hb9 hs9
          rw [splice_all [.int .i64 0, .int .i64 ((arriveS st.k q).want - 1), .int .i64 0] #[.int .i64 0, .int .i64 0, .int .i64 0] rfl] at hb9
          have hfin := FIN.out _ w6 w9 (w6.heap.size + 1) (w6.heap.size) cs6 A6 n6 c6 (Same.drew (Same.refl _ _)) hr6 hd6 hk6 (by omega) (by omega) (by simp <;> omega) (by simp <;> omega) (Same.trans (Same.trans (Same.mono (Keep.alloc (Keep.new w6 _) _) (fun i hi => hi.1)) hs8 (fun i hi => by omega)) hs9 (fun i hi => by omega)) (hs9.blk hb8 (by omega)) hb9
          refine hK.out _ _ (SAB.both trivial (Keep.write hB hs9 (by omega))) (fun hSS => ?_)
          clear hK K hA hB
          have hB := hSS.2
          have hA := hSS.1 (by kernel_rfl)
          (try dsimp only at hB); (try dsimp only at hA); clear hSS
          try simp only [Act.put, List.setIfInBounds_toArray, List.set_cons_zero, List.set_cons_succ]
          refine wpL_done (by kernel_rfl) ?_
          have HFIN := Lib.hid hfin
          clear hfin
          clear hb8 hs8 hb9 hs9 hr6 hd6 hk6 hA hB hB8
          go_wp2_with fail
          go_meet
          exact HFIN.out
      · go_simp
        refine hK.out _ _ (SAB.both trivial (Same.drew (Keep.new w _))) (fun hSS => ?_)
        clear hK K hA hB
        have hB := hSS.2
        have hA := hSS.1 (by kernel_rfl)
        (try dsimp only at hB); (try dsimp only at hA); clear hSS
        try simp only [Act.put, List.setIfInBounds_toArray, List.set_cons_zero, List.set_cons_succ]
        refine wpL_two (i := 5) (j := 11) (by kernel_rfl) (StepL.mk rfl (fun K hK => ?_)) (StepL.mk rfl (fun K hK => ?_))
        · go_simp
          refine (KEY.out _ hB).mono ?_
          rintro e w6 ⟨cs6, A6, n6, c6, rfl, hr6, hd6, hk6⟩
          have hz6 := hk6.size
          simp at hz6
          refine hK.out _ _ (SAB.both trivial (Keep.trans hB hk6)) (fun hSS => ?_)
          clear hK K hA hB
          have hB := hSS.2
          have hA := hSS.1 (by kernel_rfl)
          (try dsimp only at hB); (try dsimp only at hA); clear hSS
          try simp only [Act.put, List.setIfInBounds_toArray, List.set_cons_zero, List.set_cons_succ]
          refine wpL_takeB (i := 6) (v := ?_) rfl (by kernel_rfl) (by kernel_rfl) (by kernel_rfl) (by decide) (fun _ _ _ h => h) (Or.inl ⟨by rfl, ?_⟩) (SAB.both hA hB) ?_
          rotate_left
          · intro wx hBx
            (try dsimp only at hBx)
            go_simp
            try with_reducible rfl
          try simp only [Act.put, List.setIfInBounds_toArray, List.set_cons_zero, List.set_cons_succ]
          refine wpL_takeB (i := 7) (v := ?_) rfl (by kernel_rfl) (by kernel_rfl) (by kernel_rfl) (by decide) (fun _ _ _ h => h) (Or.inl ⟨by rfl, ?_⟩) (SAB.both hA hB) ?_
          rotate_left
          · intro wx hBx
            (try dsimp only at hBx)
            go_simp
            try with_reducible rfl
          try simp only [Act.put, List.setIfInBounds_toArray, List.set_cons_zero, List.set_cons_succ]
          refine wpL_takeB (i := 8) (v := ?_) rfl (by kernel_rfl) (by kernel_rfl) (by kernel_rfl) (by decide) (fun _ _ _ h => h) (Or.inl ⟨by rfl, ?_⟩) (SAB.both hA hB) ?_
          rotate_left
          · intro wx hBx
            (try dsimp only at hBx)
            go_simp
            try with_reducible rfl
          try simp only [Act.put, List.setIfInBounds_toArray, List.set_cons_zero, List.set_cons_succ]
          refine wpL_takeB (i := 9) (v := ?_) rfl (by kernel_rfl) (by kernel_rfl) (by kernel_rfl) (by decide) (fun _ _ _ h => h) (Or.inl ⟨by rfl, ?_⟩) (SAB.both hA hB) ?_
          rotate_left
          · intro wx hBx
            (try dsimp only at hBx)
            go_simp
            try with_reducible rfl
          try simp only [Act.put, List.setIfInBounds_toArray, List.set_cons_zero, List.set_cons_succ]
          refine wpL_one (i := 11) (by kernel_rfl) (StepL.mk rfl (fun K hK => ?_))
          go_simp
          refine hK.out _ _ (SAB.both trivial (Keep.alloc hB _)) (fun hSS => ?_)
          clear hK K hA hB
          have hB := hSS.2
          have hA := hSS.1 (by kernel_rfl)
          (try dsimp only at hB); (try dsimp only at hA); clear hSS
          try simp only [Act.put, List.setIfInBounds_toArray, List.set_cons_zero, List.set_cons_succ]
          refine wpL_one (i := 12) (by kernel_rfl) (StepL.mk rfl (fun K hK => ?_))
          refine step_store_blk rfl _ _ _ rfl (w.heap.size) 0 35 _ cs6 rfl rfl ((hk6.blk ((Blk.new w _ _).drewN 1) (by simp; try omega)).alloc _) (by rw [hr6.len]; simp) (info_lk hr6.len) hr6.one ?_
          intro w8 hb8 hs8
          rw [splice_all cs6 _ (by rw [hr6.len]; rfl)] at hb8
          have hB8 := Keep.write hB hs8 (by omega)
          refine hK.out _ _ (SAB.both trivial hB8) (fun hSS => ?_)
          clear hK K hA hB
          have hB := hSS.2
          have hA := hSS.1 (by kernel_rfl)
          (try dsimp only at hB); (try dsimp only at hA); clear hSS
          try simp only [Act.put, List.setIfInBounds_toArray, List.set_cons_zero, List.set_cons_succ]
          refine wpL_takeB (i := 13) (v := ?_) rfl (by kernel_rfl) (by kernel_rfl) (by kernel_rfl) (by decide) (fun _ _ _ h => h) (Or.inl ⟨by rfl, ?_⟩) (SAB.both hA hB) ?_
          rotate_left
          · intro wx hBx
            (try dsimp only at hBx)
            go_simp
            try with_reducible rfl
          try simp only [Act.put, List.setIfInBounds_toArray, List.set_cons_zero, List.set_cons_succ]
          refine wpL_one (i := 14) (by kernel_rfl) (StepL.mk rfl (fun K hK => ?_))
          refine step_store_blk rfl _ _ _ rfl (w6.heap.size) 0 48 _ [.int .i64 0, .int .i64 ((arriveS st.k q).want - 1), .int .i64 0] rfl rfl (hs8.blk (Blk.new w6 _ _) (by omega)) (by simp) (by kernel_rfl) rfl ?_
          intro w9 hb9 hs9
          rw [splice_all [.int .i64 0, .int .i64 ((arriveS st.k q).want - 1), .int .i64 0] #[.int .i64 0, .int .i64 0, .int .i64 0] rfl] at hb9
          have hfin := FIN.out _ w6 w9 (w.heap.size) (w6.heap.size) cs6 A6 n6 c6 (Same.drew (Keep.new w _)) hr6 hd6 hk6 (by omega) (by omega) (by simp <;> omega) (by simp <;> omega) (Same.trans (Same.trans (Same.mono (Keep.new w6 _) (fun i hi => hi.1)) hs8 (fun i hi => by omega)) hs9 (fun i hi => by omega)) (hs9.blk hb8 (by omega)) hb9
          refine hK.out _ _ (SAB.both trivial (Keep.write hB hs9 (by omega))) (fun hSS => ?_)
          clear hK K hA hB
          have hB := hSS.2
          have hA := hSS.1 (by kernel_rfl)
          (try dsimp only at hB); (try dsimp only at hA); clear hSS
          try simp only [Act.put, List.setIfInBounds_toArray, List.set_cons_zero, List.set_cons_succ]
          refine wpL_done (by kernel_rfl) ?_
          have HFIN := Lib.hid hfin
          clear hfin
          clear hb8 hs8 hb9 hs9 hr6 hd6 hk6 hA hB hB8
          go_wp2_with fail
          go_meet
          exact HFIN.out
        · go_simp
          refine hK.out _ _ (SAB.both trivial (Same.drew (Keep.alloc (Keep.new w _) _))) (fun hSS => ?_)
          clear hK K hA hB
          have hB := hSS.2
          have hA := hSS.1 (by kernel_rfl)
          (try dsimp only at hB); (try dsimp only at hA); clear hSS
          try simp only [Act.put, List.setIfInBounds_toArray, List.set_cons_zero, List.set_cons_succ]
          refine wpL_one (i := 5) (by kernel_rfl) (StepL.mk rfl (fun K hK => ?_))
          go_simp
          refine (KEY.out _ hB).mono ?_
          rintro e w6 ⟨cs6, A6, n6, c6, rfl, hr6, hd6, hk6⟩
          have hz6 := hk6.size
          simp at hz6
          refine hK.out _ _ (SAB.both trivial (Keep.trans hB hk6)) (fun hSS => ?_)
          clear hK K hA hB
          have hB := hSS.2
          have hA := hSS.1 (by kernel_rfl)
          (try dsimp only at hB); (try dsimp only at hA); clear hSS
          try simp only [Act.put, List.setIfInBounds_toArray, List.set_cons_zero, List.set_cons_succ]
          refine wpL_takeB (i := 6) (v := ?_) rfl (by kernel_rfl) (by kernel_rfl) (by kernel_rfl) (by decide) (fun _ _ _ h => h) (Or.inl ⟨by rfl, ?_⟩) (SAB.both hA hB) ?_
          rotate_left
          · intro wx hBx
            (try dsimp only at hBx)
            go_simp
            try with_reducible rfl
          try simp only [Act.put, List.setIfInBounds_toArray, List.set_cons_zero, List.set_cons_succ]
          refine wpL_takeB (i := 7) (v := ?_) rfl (by kernel_rfl) (by kernel_rfl) (by kernel_rfl) (by decide) (fun _ _ _ h => h) (Or.inl ⟨by rfl, ?_⟩) (SAB.both hA hB) ?_
          rotate_left
          · intro wx hBx
            (try dsimp only at hBx)
            go_simp
            try with_reducible rfl
          try simp only [Act.put, List.setIfInBounds_toArray, List.set_cons_zero, List.set_cons_succ]
          refine wpL_takeB (i := 8) (v := ?_) rfl (by kernel_rfl) (by kernel_rfl) (by kernel_rfl) (by decide) (fun _ _ _ h => h) (Or.inl ⟨by rfl, ?_⟩) (SAB.both hA hB) ?_
          rotate_left
          · intro wx hBx
            (try dsimp only at hBx)
            go_simp
            try with_reducible rfl
          try simp only [Act.put, List.setIfInBounds_toArray, List.set_cons_zero, List.set_cons_succ]
          refine wpL_takeB (i := 9) (v := ?_) rfl (by kernel_rfl) (by kernel_rfl) (by kernel_rfl) (by decide) (fun _ _ _ h => h) (Or.inl ⟨by rfl, ?_⟩) (SAB.both hA hB) ?_
          rotate_left
          · intro wx hBx
            (try dsimp only at hBx)
            go_simp
            try with_reducible rfl
          try simp only [Act.put, List.setIfInBounds_toArray, List.set_cons_zero, List.set_cons_succ]
          refine wpL_one (i := 12) (by kernel_rfl) (StepL.mk rfl (fun K hK => ?_))
          refine step_store_blk rfl _ _ _ rfl (w.heap.size) 0 35 _ cs6 rfl rfl (hk6.blk (((Blk.new w _ _).alloc _).drewN 1) (by simp; try omega)) (by rw [hr6.len]; simp) (info_lk hr6.len) hr6.one ?_
          intro w8 hb8 hs8
          rw [splice_all cs6 _ (by rw [hr6.len]; rfl)] at hb8
          have hB8 := Keep.write hB hs8 (by omega)
          refine hK.out _ _ (SAB.both trivial hB8) (fun hSS => ?_)
          clear hK K hA hB
          have hB := hSS.2
          have hA := hSS.1 (by kernel_rfl)
          (try dsimp only at hB); (try dsimp only at hA); clear hSS
          try simp only [Act.put, List.setIfInBounds_toArray, List.set_cons_zero, List.set_cons_succ]
          refine wpL_takeB (i := 13) (v := ?_) rfl (by kernel_rfl) (by kernel_rfl) (by kernel_rfl) (by decide) (fun _ _ _ h => h) (Or.inl ⟨by rfl, ?_⟩) (SAB.both hA hB) ?_
          rotate_left
          · intro wx hBx
            (try dsimp only at hBx)
            go_simp
            try with_reducible rfl
          try simp only [Act.put, List.setIfInBounds_toArray, List.set_cons_zero, List.set_cons_succ]
          refine wpL_one (i := 14) (by kernel_rfl) (StepL.mk rfl (fun K hK => ?_))
          refine step_store_blk rfl _ _ _ rfl (w.heap.size + 1) 0 48 _ [.int .i64 0, .int .i64 ((arriveS st.k q).want - 1), .int .i64 0] rfl rfl (hs8.blk (hk6.blk ((Blk.snd w _ _ _).drewN 1) (by simp; try omega)) (by omega)) (by simp) (by kernel_rfl) rfl ?_
          intro w9 hb9 hs9
          rw [splice_all [.int .i64 0, .int .i64 ((arriveS st.k q).want - 1), .int .i64 0] #[.int .i64 0, .int .i64 0, .int .i64 0] rfl] at hb9
          have hfin := FIN.out _ w6 w9 (w.heap.size) (w.heap.size + 1) cs6 A6 n6 c6 (Same.drew (Keep.alloc (Keep.new w _) _)) hr6 hd6 hk6 (by omega) (by omega) (by simp <;> omega) (by simp <;> omega) (Same.trans (Same.trans (Same.refl _ _) hs8 (fun i hi => by omega)) hs9 (fun i hi => by omega)) (hs9.blk hb8 (by omega)) hb9
          refine hK.out _ _ (SAB.both trivial (Keep.write hB hs9 (by omega))) (fun hSS => ?_)
          clear hK K hA hB
          have hB := hSS.2
          have hA := hSS.1 (by kernel_rfl)
          (try dsimp only at hB); (try dsimp only at hA); clear hSS
          try simp only [Act.put, List.setIfInBounds_toArray, List.set_cons_zero, List.set_cons_succ]
          refine wpL_done (by kernel_rfl) ?_
          have HFIN := Lib.hid hfin
          clear hfin
          clear hb8 hs8 hb9 hs9 hr6 hd6 hk6 hA hB hB8
          go_wp2_with fail
          go_meet
          exact HFIN.out
      · go_simp
        refine hK.out _ _ (SAB.both trivial (Same.drew (Keep.new w _))) (fun hSS => ?_)
        clear hK K hA hB
        have hB := hSS.2
        have hA := hSS.1 (by kernel_rfl)
        (try dsimp only at hB); (try dsimp only at hA); clear hSS
        try simp only [Act.put, List.setIfInBounds_toArray, List.set_cons_zero, List.set_cons_succ]
        refine wpL_two (i := 5) (j := 10) (by kernel_rfl) (StepL.mk rfl (fun K hK => ?_)) (StepL.mk rfl (fun K hK => ?_))
        · go_simp
          refine (KEY.out _ hB).mono ?_
          rintro e w6 ⟨cs6, A6, n6, c6, rfl, hr6, hd6, hk6⟩
          have hz6 := hk6.size
          simp at hz6
          refine hK.out _ _ (SAB.both trivial (Keep.trans hB hk6)) (fun hSS => ?_)
          clear hK K hA hB
          have hB := hSS.2
          have hA := hSS.1 (by kernel_rfl)
          (try dsimp only at hB); (try dsimp only at hA); clear hSS
          try simp only [Act.put, List.setIfInBounds_toArray, List.set_cons_zero, List.set_cons_succ]
          refine wpL_takeB (i := 6) (v := ?_) rfl (by kernel_rfl) (by kernel_rfl) (by kernel_rfl) (by decide) (fun _ _ _ h => h) (Or.inl ⟨by rfl, ?_⟩) (SAB.both hA hB) ?_
          rotate_left
          · intro wx hBx
            (try dsimp only at hBx)
            go_simp
            try with_reducible rfl
          try simp only [Act.put, List.setIfInBounds_toArray, List.set_cons_zero, List.set_cons_succ]
          refine wpL_takeB (i := 7) (v := ?_) rfl (by kernel_rfl) (by kernel_rfl) (by kernel_rfl) (by decide) (fun _ _ _ h => h) (Or.inl ⟨by rfl, ?_⟩) (SAB.both hA hB) ?_
          rotate_left
          · intro wx hBx
            (try dsimp only at hBx)
            go_simp
            try with_reducible rfl
          try simp only [Act.put, List.setIfInBounds_toArray, List.set_cons_zero, List.set_cons_succ]
          refine wpL_takeB (i := 8) (v := ?_) rfl (by kernel_rfl) (by kernel_rfl) (by kernel_rfl) (by decide) (fun _ _ _ h => h) (Or.inl ⟨by rfl, ?_⟩) (SAB.both hA hB) ?_
          rotate_left
          · intro wx hBx
            (try dsimp only at hBx)
            go_simp
            try with_reducible rfl
          try simp only [Act.put, List.setIfInBounds_toArray, List.set_cons_zero, List.set_cons_succ]
          refine wpL_takeB (i := 9) (v := ?_) rfl (by kernel_rfl) (by kernel_rfl) (by kernel_rfl) (by decide) (fun _ _ _ h => h) (Or.inl ⟨by rfl, ?_⟩) (SAB.both hA hB) ?_
          rotate_left
          · intro wx hBx
            (try dsimp only at hBx)
            go_simp
            try with_reducible rfl
          try simp only [Act.put, List.setIfInBounds_toArray, List.set_cons_zero, List.set_cons_succ]
          refine wpL_one (i := 10) (by kernel_rfl) (StepL.mk rfl (fun K hK => ?_))
          go_simp
          refine hK.out _ _ (SAB.both trivial (Keep.alloc hB _)) (fun hSS => ?_)
          clear hK K hA hB
          have hB := hSS.2
          have hA := hSS.1 (by kernel_rfl)
          (try dsimp only at hB); (try dsimp only at hA); clear hSS
          try simp only [Act.put, List.setIfInBounds_toArray, List.set_cons_zero, List.set_cons_succ]
          refine wpL_one (i := 12) (by kernel_rfl) (StepL.mk rfl (fun K hK => ?_))
          refine step_store_blk rfl _ _ _ rfl (w6.heap.size) 0 35 _ cs6 rfl rfl (Blk.new w6 _ _) (by rw [hr6.len]; simp) (info_lk hr6.len) hr6.one ?_
          intro w8 hb8 hs8
          rw [splice_all cs6 _ (by rw [hr6.len]; rfl)] at hb8
          have hB8 := Keep.write hB hs8 (by omega)
          refine hK.out _ _ (SAB.both trivial hB8) (fun hSS => ?_)
          clear hK K hA hB
          have hB := hSS.2
          have hA := hSS.1 (by kernel_rfl)
          (try dsimp only at hB); (try dsimp only at hA); clear hSS
          try simp only [Act.put, List.setIfInBounds_toArray, List.set_cons_zero, List.set_cons_succ]
          refine wpL_takeB (i := 13) (v := ?_) rfl (by kernel_rfl) (by kernel_rfl) (by kernel_rfl) (by decide) (fun _ _ _ h => h) (Or.inl ⟨by rfl, ?_⟩) (SAB.both hA hB) ?_
          rotate_left
          · intro wx hBx
            (try dsimp only at hBx)
            go_simp
            try with_reducible rfl
          try simp only [Act.put, List.setIfInBounds_toArray, List.set_cons_zero, List.set_cons_succ]
          refine wpL_one (i := 14) (by kernel_rfl) (StepL.mk rfl (fun K hK => ?_))
          refine step_store_blk rfl _ _ _ rfl (w.heap.size) 0 48 _ [.int .i64 0, .int .i64 ((arriveS st.k q).want - 1), .int .i64 0] rfl rfl (hs8.blk ((hk6.blk ((Blk.new w _ _).drewN 1) (by simp; try omega)).alloc _) (by omega)) (by simp) (by kernel_rfl) rfl ?_
          intro w9 hb9 hs9
          rw [splice_all [.int .i64 0, .int .i64 ((arriveS st.k q).want - 1), .int .i64 0] #[.int .i64 0, .int .i64 0, .int .i64 0] rfl] at hb9
          have hfin := FIN.out _ w6 w9 (w6.heap.size) (w.heap.size) cs6 A6 n6 c6 (Same.drew (Keep.new w _)) hr6 hd6 hk6 (by omega) (by omega) (by simp <;> omega) (by simp <;> omega) (Same.trans (Same.trans (Same.mono (Keep.new w6 _) (fun i hi => hi.1)) hs8 (fun i hi => by omega)) hs9 (fun i hi => by omega)) (hs9.blk hb8 (by omega)) hb9
          refine hK.out _ _ (SAB.both trivial (Keep.write hB hs9 (by omega))) (fun hSS => ?_)
          clear hK K hA hB
          have hB := hSS.2
          have hA := hSS.1 (by kernel_rfl)
          (try dsimp only at hB); (try dsimp only at hA); clear hSS
          try simp only [Act.put, List.setIfInBounds_toArray, List.set_cons_zero, List.set_cons_succ]
          refine wpL_done (by kernel_rfl) ?_
          have HFIN := Lib.hid hfin
          clear hfin
          clear hb8 hs8 hb9 hs9 hr6 hd6 hk6 hA hB hB8
          go_wp2_with fail
          go_meet
          exact HFIN.out
        · go_simp
          refine hK.out _ _ (SAB.both trivial (Same.drew (Keep.alloc (Keep.new w _) _))) (fun hSS => ?_)
          clear hK K hA hB
          have hB := hSS.2
          have hA := hSS.1 (by kernel_rfl)
          (try dsimp only at hB); (try dsimp only at hA); clear hSS
          try simp only [Act.put, List.setIfInBounds_toArray, List.set_cons_zero, List.set_cons_succ]
          refine wpL_one (i := 5) (by kernel_rfl) (StepL.mk rfl (fun K hK => ?_))
          go_simp
          refine (KEY.out _ hB).mono ?_
          rintro e w6 ⟨cs6, A6, n6, c6, rfl, hr6, hd6, hk6⟩
          have hz6 := hk6.size
          simp at hz6
          refine hK.out _ _ (SAB.both trivial (Keep.trans hB hk6)) (fun hSS => ?_)
          clear hK K hA hB
          have hB := hSS.2
          have hA := hSS.1 (by kernel_rfl)
          (try dsimp only at hB); (try dsimp only at hA); clear hSS
          try simp only [Act.put, List.setIfInBounds_toArray, List.set_cons_zero, List.set_cons_succ]
          refine wpL_takeB (i := 6) (v := ?_) rfl (by kernel_rfl) (by kernel_rfl) (by kernel_rfl) (by decide) (fun _ _ _ h => h) (Or.inl ⟨by rfl, ?_⟩) (SAB.both hA hB) ?_
          rotate_left
          · intro wx hBx
            (try dsimp only at hBx)
            go_simp
            try with_reducible rfl
          try simp only [Act.put, List.setIfInBounds_toArray, List.set_cons_zero, List.set_cons_succ]
          refine wpL_takeB (i := 7) (v := ?_) rfl (by kernel_rfl) (by kernel_rfl) (by kernel_rfl) (by decide) (fun _ _ _ h => h) (Or.inl ⟨by rfl, ?_⟩) (SAB.both hA hB) ?_
          rotate_left
          · intro wx hBx
            (try dsimp only at hBx)
            go_simp
            try with_reducible rfl
          try simp only [Act.put, List.setIfInBounds_toArray, List.set_cons_zero, List.set_cons_succ]
          refine wpL_takeB (i := 8) (v := ?_) rfl (by kernel_rfl) (by kernel_rfl) (by kernel_rfl) (by decide) (fun _ _ _ h => h) (Or.inl ⟨by rfl, ?_⟩) (SAB.both hA hB) ?_
          rotate_left
          · intro wx hBx
            (try dsimp only at hBx)
            go_simp
            try with_reducible rfl
          try simp only [Act.put, List.setIfInBounds_toArray, List.set_cons_zero, List.set_cons_succ]
          refine wpL_takeB (i := 9) (v := ?_) rfl (by kernel_rfl) (by kernel_rfl) (by kernel_rfl) (by decide) (fun _ _ _ h => h) (Or.inl ⟨by rfl, ?_⟩) (SAB.both hA hB) ?_
          rotate_left
          · intro wx hBx
            (try dsimp only at hBx)
            go_simp
            try with_reducible rfl
          try simp only [Act.put, List.setIfInBounds_toArray, List.set_cons_zero, List.set_cons_succ]
          refine wpL_one (i := 12) (by kernel_rfl) (StepL.mk rfl (fun K hK => ?_))
          refine step_store_blk rfl _ _ _ rfl (w.heap.size + 1) 0 35 _ cs6 rfl rfl (hk6.blk ((Blk.snd w _ _ _).drewN 1) (by simp; try omega)) (by rw [hr6.len]; simp) (info_lk hr6.len) hr6.one ?_
          intro w8 hb8 hs8
          rw [splice_all cs6 _ (by rw [hr6.len]; rfl)] at hb8
          have hB8 := Keep.write hB hs8 (by omega)
          refine hK.out _ _ (SAB.both trivial hB8) (fun hSS => ?_)
          clear hK K hA hB
          have hB := hSS.2
          have hA := hSS.1 (by kernel_rfl)
          (try dsimp only at hB); (try dsimp only at hA); clear hSS
          try simp only [Act.put, List.setIfInBounds_toArray, List.set_cons_zero, List.set_cons_succ]
          refine wpL_takeB (i := 13) (v := ?_) rfl (by kernel_rfl) (by kernel_rfl) (by kernel_rfl) (by decide) (fun _ _ _ h => h) (Or.inl ⟨by rfl, ?_⟩) (SAB.both hA hB) ?_
          rotate_left
          · intro wx hBx
            (try dsimp only at hBx)
            go_simp
            try with_reducible rfl
          try simp only [Act.put, List.setIfInBounds_toArray, List.set_cons_zero, List.set_cons_succ]
          refine wpL_one (i := 14) (by kernel_rfl) (StepL.mk rfl (fun K hK => ?_))
          refine step_store_blk rfl _ _ _ rfl (w.heap.size) 0 48 _ [.int .i64 0, .int .i64 ((arriveS st.k q).want - 1), .int .i64 0] rfl rfl (hs8.blk (hk6.blk (((Blk.new w _ _).alloc _).drewN 1) (by simp; try omega)) (by omega)) (by simp) (by kernel_rfl) rfl ?_
          intro w9 hb9 hs9
          rw [splice_all [.int .i64 0, .int .i64 ((arriveS st.k q).want - 1), .int .i64 0] #[.int .i64 0, .int .i64 0, .int .i64 0] rfl] at hb9
          have hfin := FIN.out _ w6 w9 (w.heap.size + 1) (w.heap.size) cs6 A6 n6 c6 (Same.drew (Keep.alloc (Keep.new w _) _)) hr6 hd6 hk6 (by omega) (by omega) (by simp <;> omega) (by simp <;> omega) (Same.trans (Same.trans (Same.refl _ _) hs8 (fun i hi => by omega)) hs9 (fun i hi => by omega)) (hs9.blk hb8 (by omega)) hb9
          refine hK.out _ _ (SAB.both trivial (Keep.write hB hs9 (by omega))) (fun hSS => ?_)
          clear hK K hA hB
          have hB := hSS.2
          have hA := hSS.1 (by kernel_rfl)
          (try dsimp only at hB); (try dsimp only at hA); clear hSS
          try simp only [Act.put, List.setIfInBounds_toArray, List.set_cons_zero, List.set_cons_succ]
          refine wpL_done (by kernel_rfl) ?_
          have HFIN := Lib.hid hfin
          clear hfin
          clear hb8 hs8 hb9 hs9 hr6 hd6 hk6 hA hB hB8
          go_wp2_with fail
          go_meet
          exact HFIN.out
    case rest =>
      obtain ⟨b12, b14, cs12, A13, n13, c13, rfl, rfl, rfl, h12, h14, hB12, hB14, hR12, hD13, hK10⟩ := hcut
      obtain ⟨w10, rfl⟩ : ∃ w10 : World, w10 = wc := ⟨_, rfl⟩
      have hz10 := hK10.size
      have l12 : b12 < w10.heap.size := hB12.lt
      have l14 : b14 < w10.heap.size := hB14.lt
      have lt12 : ∀ i, (Lab w L 0 i ∨ (w.heap.size ≤ i ∧ i < w10.heap.size ∧ i ≠ b12 ∧ i ≠ b14)) → i < w10.heap.size := fun i hi => hi.elim (fun h => by have := h.1; omega) (fun h => h.2.1)
      have hbg : Blk w10 g 41 (C.all st.k).toArray := hK10.blk HP.out.blk hg
      have hbq' : Blk w10 bp 48 (encPk q).toArray := hK10.blk HBQ.out hbw
      have q0 : w10.cell? ⟨bp, 0, none⟩ = some (.int .i64 q.seq) := by rw [hbq'.cell]; rfl
      have q1 : w10.cell? ⟨bp, 1, none⟩ = some (.int .i64 q.ack) := by rw [hbq'.cell]; rfl
      have g1 : w10.cell? ⟨g, 1, none⟩ = some (.int .i64 st.k.base) := by rw [hbg.cell]; rfl
      have g2 : w10.cell? ⟨g, 2, none⟩ = some (.slice C.B1 C.m1 C.d1) := by rw [hbg.cell]; rfl
      have g3 : w10.cell? ⟨g, 3, none⟩ = some (.int .i64 st.k.want) := by rw [hbg.cell]; rfl
      have hlk10 : LkR w10 (Lab w L 0) (C.k st.k) st.k := HP.out.lk.keep (hK10.mono (fun i hi => hi.1))
      have HB12 := Lib.hid hB12
      have HB14 := Lib.hid hB14
      have HR12 := Lib.hid hR12
      have HD13 := Lib.hid hD13
      have HK10 := Lib.hid hK10
      have LT12 := Lib.hid lt12
      have HBG := Lib.hid hbg
      have HBQ' := Lib.hid hbq'
      have HLK10 := Lib.hid hlk10
      clear hB12 hB14 hR12 hD13 hK10 lt12 hbg hbq' hlk10
      go_upto_region 10 with fail
      go_cut [73] from 54 to 72 (fun s73 wx => CutB w10 (decide (q.seq < st.k.want) || decide (s ≤ q.seq - st.k.want)) s73 wx)
      case first =>
        by_cases h1 : q.seq < st.k.want
        · have d1 : decide (q.seq < st.k.want) = true := by simpa using h1
          go_quiet (fail)
          go_wp2_with fail
          go_meet
          exact ⟨by rw [d1]; rfl, _, rfl⟩
        · have d1 : decide (q.seq < st.k.want) = false := by simpa using h1
          have y1 : IntKind.i64.wrap (q.seq - st.k.want) = q.seq - st.k.want := IntWalk.i64_in _ (by have := HIQ.out; unfold I64 at this; omega)
          go_quiet (fail)
          go_wp2_with fail
          go_meet
          exact ⟨by rw [d1]; rfl, _, rfl⟩
      case rest =>
        obtain ⟨rfl, m10, rfl⟩ := hcut
        go_upto_if 73 with fail
        go_cut [] from 73 to 96 (fun wx => Keep w10 wx)
        case first =>
          by_cases hig : q.seq < st.k.want ∨ s ≤ q.seq - st.k.want
          · have d1 : (decide (q.seq < st.k.want) || decide (s ≤ q.seq - st.k.want)) = true := by simpa using hig
            have hA : arriveS st.k q = st.k ∧ arriveD st.k q = [] := ign_arrive HWIN.out hig hs1
            have hr12 := HR12.out
            have hb14 := HB14.out
            have hd13 := HD13.out
            rw [hA.1] at hr12 hb14
            rw [hA.2] at hd13
            obtain rfl : n13 = 0 := hd13.1
            clear hd13 hA
            have hA : True := trivial
            have neq : ((st.k.want - 1 : Int) != st.k.want - 1) = false := by simp
            have y1 : IntKind.i64.wrap (st.k.want - 1) = st.k.want - 1 := IntWalk.i64_in _ (by omega)
            have z0 : decide ((0 : Int) < ((0 : Nat) : Int)) = false := rfl
            have c3 : ∀ wx, Keep w10 wx → wx.cell? ⟨g, 3, none⟩ = some (.int .i64 st.k.want) := fun wx hx => (hx.cell (p := ⟨g, 3, none⟩) (show g < w10.heap.size by omega)).trans g3
            have HR12 := Lib.hid hr12
            have HB14 := Lib.hid hb14
            clear hr12 hb14
            go_upto_region 11 with fail
            refine wp_region_L 99 (fun _ => True) (fun wx => Keep w10 wx) (by kernel_rfl) trivial (Same.drew (Same.drewN (Same.refl _ _) _)) (fun _ hB => ?_)
            refine wpL_takeB (i := 0) (v := ?_) rfl (by kernel_rfl) (by kernel_rfl) (by kernel_rfl) (by decide) (fun _ _ _ h => h) (Or.inl ⟨by rfl, ?_⟩) (SAB.both hA hB) ?_
            rotate_left
            · intro wx hBx
              (try dsimp only at hBx)
              go_simp
              try with_reducible rfl
            try simp only [Act.put, List.setIfInBounds_toArray, List.set_cons_zero, List.set_cons_succ]
            refine wpL_takeB (i := 1) (v := ?_) rfl (by kernel_rfl) (by kernel_rfl) (by kernel_rfl) (by decide) (fun _ _ _ h => h) (Or.inl ⟨by rfl, ?_⟩) (SAB.both hA hB) ?_
            rotate_left
            · intro wx hBx
              (try dsimp only at hBx)
              go_simp
              try with_reducible rfl
            try simp only [Act.put, List.setIfInBounds_toArray, List.set_cons_zero, List.set_cons_succ]
            refine wpL_takeB (i := 2) (v := ?_) rfl (by kernel_rfl) (by kernel_rfl) (by kernel_rfl) (by decide) (fun _ _ _ h => h) (Or.inl ⟨by rfl, ?_⟩) (SAB.both hA hB) ?_
            rotate_left
            · intro wx hBx
              (try dsimp only at hBx)
              go_simp
              try with_reducible rfl
            try simp only [Act.put, List.setIfInBounds_toArray, List.set_cons_zero, List.set_cons_succ]
            refine wpL_takeB (i := 3) (v := ?_) rfl (by kernel_rfl) (by kernel_rfl) (by kernel_rfl) (by decide) (fun _ _ _ h => h) (Or.inl ⟨by rfl, ?_⟩) (SAB.both hA hB) ?_
            rotate_left
            · intro wx hBx
              (try dsimp only at hBx)
              go_simp
              try with_reducible rfl
            try simp only [Act.put, List.setIfInBounds_toArray, List.set_cons_zero, List.set_cons_succ]
            refine wpL_takeB (i := 4) rfl (by kernel_rfl) (by kernel_rfl) (by kernel_rfl) (by decide) (fun _ _ _ h => h) (yieldsIf_blk (by rfl) _ _ rfl b14 0 48 _ [.int .i64 0, .int .i64 (st.k.want - 1), .int .i64 0] _ rfl (fun wx hx => hx.blk HB14.out l14) (by simp) Try.underlying48 rfl (by kernel_rfl)) (SAB.both hA hB) ?_
            try simp only [Act.put, List.setIfInBounds_toArray, List.set_cons_zero, List.set_cons_succ]
            refine wpL_takeB (i := 5) (v := ?_) rfl (by kernel_rfl) (by kernel_rfl) (by kernel_rfl) (by decide) (fun _ _ _ h => h) (Or.inl ⟨by rfl, ?_⟩) (SAB.both hA hB) ?_
            rotate_left
            · intro wx hBx
              (try dsimp only at hBx)
              go_simp
              try with_reducible rfl
            try simp only [Act.put, List.setIfInBounds_toArray, List.set_cons_zero, List.set_cons_succ]
            refine wpL_takeB (i := 6) (v := ?_) rfl (by kernel_rfl) (by kernel_rfl) (by kernel_rfl) (by decide) (fun _ _ _ h => h) (Or.inl ⟨by rfl, ?_⟩) (SAB.both hA hB) ?_
            rotate_left
            · intro wx hBx
              (try dsimp only at hBx)
              go_simp
              try with_reducible rfl
            try simp only [Act.put, List.setIfInBounds_toArray, List.set_cons_zero, List.set_cons_succ]
            refine wpL_takeB (i := 7) (v := ?_) rfl (by kernel_rfl) (by kernel_rfl) (by kernel_rfl) (by decide) (fun _ _ _ h => h) (Or.inl ⟨by rfl, ?_⟩) (SAB.both hA hB) ?_
            rotate_left
            · intro wx hBx
              (try dsimp only at hBx)
              go_simp
              try with_reducible rfl
            try simp only [Act.put, List.setIfInBounds_toArray, List.set_cons_zero, List.set_cons_succ]
            refine wpL_takeB (i := 8) (v := ?_) rfl (by kernel_rfl) (by kernel_rfl) (by kernel_rfl) (by decide) (fun _ _ _ h => h) (Or.inl ⟨by rfl, ?_⟩) (SAB.both hA hB) ?_
            rotate_left
            · intro wx hBx
              (try dsimp only at hBx)
              go_simp
              try with_reducible rfl
            try simp only [Act.put, List.setIfInBounds_toArray, List.set_cons_zero, List.set_cons_succ]
            refine wpL_takeB (i := 9) (v := ?_) rfl (by kernel_rfl) (by kernel_rfl) (by kernel_rfl) (by decide) (fun _ _ _ h => h) (Or.inl ⟨by rfl, ?_⟩) (SAB.both hA hB) ?_
            rotate_left
            · intro wx hBx
              (try dsimp only at hBx)
              go_simp
              try with_reducible rfl
            try simp only [Act.put, List.setIfInBounds_toArray, List.set_cons_zero, List.set_cons_succ]
            refine wpL_takeB (i := 10) (v := ?_) rfl (by kernel_rfl) (by kernel_rfl) (by kernel_rfl) (by decide) (fun _ _ _ h => h) (Or.inl ⟨by rfl, ?_⟩) (SAB.both hA hB) ?_
            rotate_left
            · intro wx hBx
              (try dsimp only at hBx)
              go_simp
              try with_reducible rfl
            try simp only [Act.put, List.setIfInBounds_toArray, List.set_cons_zero, List.set_cons_succ]
            refine wpL_takeB (i := 11) (v := ?_) rfl (by kernel_rfl) (by kernel_rfl) (by kernel_rfl) (by decide) (fun _ _ _ h => h) (Or.inl ⟨by rfl, ?_⟩) (SAB.both hA hB) ?_
            rotate_left
            · intro wx hBx
              (try dsimp only at hBx)
              go_simp
              try with_reducible rfl
            try simp only [Act.put, List.setIfInBounds_toArray, List.set_cons_zero, List.set_cons_succ]
            refine wpL_takeB (i := 12) (v := ?_) rfl (by kernel_rfl) (by kernel_rfl) (by kernel_rfl) (by decide) (fun _ _ _ h => h) (Or.inl ⟨by rfl, ?_⟩) (SAB.both hA hB) ?_
            rotate_left
            · intro wx hBx
              (try dsimp only at hBx)
              go_simp
              try with_reducible rfl
            try simp only [Act.put, List.setIfInBounds_toArray, List.set_cons_zero, List.set_cons_succ]
            refine wpL_takeB (i := 13) (v := ?_) rfl (by kernel_rfl) (by kernel_rfl) (by kernel_rfl) (by decide) (fun _ _ _ h => h) (Or.inl ⟨by rfl, ?_⟩) (SAB.both hA hB) ?_
            rotate_left
            · intro wx hBx
              (try dsimp only at hBx)
              go_simp
              try with_reducible rfl
            try simp only [Act.put, List.setIfInBounds_toArray, List.set_cons_zero, List.set_cons_succ]
            refine wpL_takeB (i := 14) (v := ?_) rfl (by kernel_rfl) (by kernel_rfl) (by kernel_rfl) (by decide) (fun _ _ _ h => h) (Or.inl ⟨by rfl, ?_⟩) (SAB.both hA hB) ?_
            rotate_left
            · intro wx hBx
              (try dsimp only at hBx)
              go_simp
              try with_reducible rfl
            try simp only [Act.put, List.setIfInBounds_toArray, List.set_cons_zero, List.set_cons_succ]
            refine wpL_takeB (i := 15) rfl (by kernel_rfl) (by kernel_rfl) (by kernel_rfl) (by decide) (fun _ _ _ h => h) (yieldsIf_blk (by rfl) _ _ rfl b12 0 35 _ cs12 _ rfl (fun wx hx => hx.blk HB12.out l12) (fun j v hv => by simpa using hv) Try.underlying35 rfl (info_lk HR12.out.len)) (SAB.both hA hB) ?_
            try simp only [Act.put, List.setIfInBounds_toArray, List.set_cons_zero, List.set_cons_succ]
            refine wpL_takeB (i := 16) (v := ?_) rfl (by kernel_rfl) (by kernel_rfl) (by kernel_rfl) (by decide) (fun _ _ _ h => h) (Or.inl ⟨by rfl, ?_⟩) (SAB.both hA hB) ?_
            rotate_left
            · intro wx hBx
              (try dsimp only at hBx)
              go_simp
              try with_reducible rfl
            try simp only [Act.put, List.setIfInBounds_toArray, List.set_cons_zero, List.set_cons_succ]
            refine wpL_takeB (i := 17) (v := ?_) rfl (by kernel_rfl) (by kernel_rfl) (by kernel_rfl) (by decide) (fun _ _ _ h => h) (Or.inl ⟨by rfl, ?_⟩) (SAB.both hA hB) ?_
            rotate_left
            · intro wx hBx
              (try dsimp only at hBx)
              go_simp
              try with_reducible rfl
            try simp only [Act.put, List.setIfInBounds_toArray, List.set_cons_zero, List.set_cons_succ]
            refine wpL_takeB (i := 18) (v := ?_) rfl (by kernel_rfl) (by kernel_rfl) (by kernel_rfl) (by decide) (fun _ _ _ h => h) (Or.inl ⟨by rfl, ?_⟩) (SAB.both hA hB) ?_
            rotate_left
            · intro wx hBx
              (try dsimp only at hBx)
              go_simp
              try with_reducible rfl
            try simp only [Act.put, List.setIfInBounds_toArray, List.set_cons_zero, List.set_cons_succ]
            refine wpL_takeB (i := 19) rfl (by kernel_rfl) (by kernel_rfl) (by kernel_rfl) (by decide) (fun _ _ _ h => h) (yieldsIf_blk (by rfl) _ _ rfl g 0 41 _ (C.k st.k) _ rfl (fun wx hx => hx.blk HBG.out (by omega)) (C.sub st.k) Try.underlying35 rfl (by kernel_rfl)) (SAB.both hA hB) ?_
            try simp only [Act.put, List.setIfInBounds_toArray, List.set_cons_zero, List.set_cons_succ]
            refine wpL_one (i := 20) (by kernel_rfl) (StepL.mk rfl (fun K hK => ?_))
            go_simp
            refine (sameLk_any _ _ (Lab w L 0) cs12 (C.k st.k) st.k (fun i hi => by have := LT12.out i hi; simpa using this) (fun i hi => by have := hi.1; simp; omega) (HR12.out.keep (Same.drew (Same.drewN (Same.refl _ _) _))) (HLK10.out.keep (Same.drew (Same.drewN (Same.refl _ _) _))) (by omega) (by omega)).mono ?_
            rintro e w11 ⟨rfl, hk11⟩
            have hk1011 : Keep w10 w11 := Keep.trans hB hk11
            refine hK.out _ _ (SAB.both trivial hk1011) (fun hSS => ?_)
            clear hK K hA hB
            have hB := hSS.2
            have hA := hSS.1 (by kernel_rfl)
            (try dsimp only at hB); (try dsimp only at hA); clear hSS
            try simp only [Act.put, List.setIfInBounds_toArray, List.set_cons_zero, List.set_cons_succ]
            refine wpL_takeB (i := 21) (v := ?_) rfl (by kernel_rfl) (by kernel_rfl) (by kernel_rfl) (by decide) (fun _ _ _ h => h) (Or.inl ⟨by rfl, ?_⟩) (SAB.both hA hB) ?_
            rotate_left
            · intro wx hBx
              (try dsimp only at hBx)
              go_simp
              try with_reducible rfl
            try simp only [Act.put, List.setIfInBounds_toArray, List.set_cons_zero, List.set_cons_succ]
            refine wpL_takeB (i := 22) (v := ?_) rfl (by kernel_rfl) (by kernel_rfl) (by kernel_rfl) (by decide) (fun _ _ _ h => h) (Or.inl ⟨by rfl, ?_⟩) (SAB.both hA hB) ?_
            rotate_left
            · intro wx hBx
              (try dsimp only at hBx)
              go_simp
              try with_reducible rfl
            try simp only [Act.put, List.setIfInBounds_toArray, List.set_cons_zero, List.set_cons_succ]
            refine wpL_done (by kernel_rfl) ?_
            have HK1011 := Lib.hid hk1011
            clear hk1011
            clear hk11 hA hB
            go_wp2_with fail
            go_meet
            exact HK1011.out
          · have d1 : (decide (q.seq < st.k.want) || decide (s ≤ q.seq - st.k.want)) = false := by
              cases h1 : (decide (q.seq < st.k.want) || decide (s ≤ q.seq - st.k.want)) with
              | false => rfl
              | true => exact absurd (by simpa using h1) hig
            go_wp2_with fail
            go_meet
            exact (Same.refl _ _).drewN _
        case rest =>
          obtain ⟨w12, rfl⟩ : ∃ w12 : World, w12 = wc := ⟨_, rfl⟩
          have hk12 : Keep w10 w12 := hcut
          have hz12 := hk12.size
          have hbg2 : Blk w12 g 41 (C.all st.k).toArray := hk12.blk HBG.out (by omega)
          have hbq2 : Blk w12 bp 48 (encPk q).toArray := hk12.blk HBQ'.out (by omega)
          have hlk12 := HLK10.out.keep (hk12.mono (fun i hi => by have := hi.1; omega))
          have hfk : Keep w000 w12 := Keep.trans HK000.out (Keep.trans HKW.out (Keep.trans HK10.out hk12))
          clear q0 q1 g1 g2 g3 HBG HBQ' HLK10 HR12 HB12 HB14 HD13 LT12 hcut
          have q0 : w12.cell? ⟨bp, 0, none⟩ = some (.int .i64 q.seq) := by rw [hbq2.cell]; rfl
          have q1 : w12.cell? ⟨bp, 1, none⟩ = some (.int .i64 q.ack) := by rw [hbq2.cell]; rfl
          have g1 : w12.cell? ⟨g, 1, none⟩ = some (.int .i64 st.k.base) := by rw [hbg2.cell]; rfl
          have g2 : w12.cell? ⟨g, 2, none⟩ = some (.slice C.B1 C.m1 C.d1) := by rw [hbg2.cell]; rfl
          have hm8 : C.m1 ≤ 8 := by rw [H1M.out]; exact hkl
          have HBG2 := Lib.hid hbg2
          have HBQ2 := Lib.hid hbq2
          have HLK12 := Lib.hid hlk12
          have HFK := Lib.hid hfk
          have HK12 := Lib.hid hk12
          clear hbg2 hbq2 hlk12 hfk hk12
          go_upto_region 13 with fail
          go_cut [126] from 97 to 125 (fun s126 wx => CutB w12 ((q.seq != 0) || (decide (q.ack < st.k.base) || decide ((C.m1 : Int) ≤ q.ack - st.k.base))) s126 wx)
          case first =>
            by_cases h1 : q.seq = 0
            · have d1 : (q.seq != 0) = false := by simpa using h1
              clear h1
              by_cases h2 : q.ack < st.k.base
              · have d2 : decide (q.ack < st.k.base) = true := by simpa using h2
                go_quiet (fail)
                go_wp2_with fail
                go_meet
                exact ⟨by rw [d1, d2]; rfl, _, rfl⟩
              · have d2 : decide (q.ack < st.k.base) = false := by simpa using h2
                have y1 : IntKind.i64.wrap (q.ack - st.k.base) = q.ack - st.k.base := IntWalk.i64_in _ (by have := HIA.out; unfold I64 at this; omega)
                go_quiet (fail)
                go_wp2_with fail
                go_meet
                exact ⟨by rw [d1, d2]; rfl, _, rfl⟩
            · have d1 : (q.seq != 0) = true := by simpa using h1
              go_quiet (fail)
              go_wp2_with fail
              go_meet
              exact ⟨by rw [d1]; rfl, _, rfl⟩
          case rest =>
            obtain ⟨rfl, m12, rfl⟩ := hcut
            generalize hbb : ((q.seq != 0) || (decide (q.ack < st.k.base) || decide ((C.m1 : Int) ≤ q.ack - st.k.base))) = bb
            have HBB := Lib.hid hbb
            clear hbb
            cases bb with
            | true =>
              have hig : q.seq ≠ 0 ∨ q.ack < st.k.base ∨ (C.m1 : Int) ≤ q.ack - st.k.base := by have := HBB.out; simpa using this
              have hcf : confirmS st.k q = st.k := ign_confirm (by rw [← H1M.out]; exact hig)
              clear hig
              have hA : True := trivial
              have HCF := Lib.hid hcf
              clear hcf
              go_upto_region 14 with fail
              refine wp_region_L 99 (fun _ => True) (fun wx => Keep w12 wx) (by kernel_rfl) trivial (Same.drew (Same.drewN (Same.refl _ _) _)) (fun _ hB => ?_)
              refine wpL_takeB (i := 0) (v := ?_) rfl (by kernel_rfl) (by kernel_rfl) (by kernel_rfl) (by decide) (fun _ _ _ h => h) (Or.inl ⟨by rfl, ?_⟩) (SAB.both hA hB) ?_
              rotate_left
              · intro wx hBx
                (try dsimp only at hBx)
                go_simp
                try with_reducible rfl
              try simp only [Act.put, List.setIfInBounds_toArray, List.set_cons_zero, List.set_cons_succ]
              refine wpL_takeB (i := 1) (v := ?_) rfl (by kernel_rfl) (by kernel_rfl) (by kernel_rfl) (by decide) (fun _ _ _ h => h) (Or.inl ⟨by rfl, ?_⟩) (SAB.both hA hB) ?_
              rotate_left
              · intro wx hBx
                (try dsimp only at hBx)
                go_simp
                try with_reducible rfl
              try simp only [Act.put, List.setIfInBounds_toArray, List.set_cons_zero, List.set_cons_succ]
              refine wpL_takeB (i := 2) (v := ?_) rfl (by kernel_rfl) (by kernel_rfl) (by kernel_rfl) (by decide) (fun _ _ _ h => h) (Or.inl ⟨by rfl, ?_⟩) (SAB.both hA hB) ?_
              rotate_left
              · intro wx hBx
                (try dsimp only at hBx)
                go_simp
                try with_reducible rfl
              try simp only [Act.put, List.setIfInBounds_toArray, List.set_cons_zero, List.set_cons_succ]
              refine wpL_takeB (i := 3) rfl (by kernel_rfl) (by kernel_rfl) (by kernel_rfl) (by decide) (fun _ _ _ h => h) (yieldsIf_blk (by rfl) _ _ rfl g 0 41 _ (C.k st.k) _ rfl (fun wx hx => hx.blk HBG2.out (by omega)) (C.sub st.k) Try.underlying35 rfl (by kernel_rfl)) (SAB.both hA hB) ?_
              try simp only [Act.put, List.setIfInBounds_toArray, List.set_cons_zero, List.set_cons_succ]
              refine wpL_takeB (i := 4) rfl (by kernel_rfl) (by kernel_rfl) (by kernel_rfl) (by decide) (fun _ _ _ h => h) (yieldsIf_blk (by rfl) _ _ rfl bp 0 48 _ (encPk q) _ rfl (fun wx hx => hx.blk HBQ2.out (by omega)) (fun j v hv => by simpa using hv) Try.underlying48 rfl (by kernel_rfl)) (SAB.both hA hB) ?_
              try simp only [Act.put, List.setIfInBounds_toArray, List.set_cons_zero, List.set_cons_succ]
              refine wpL_takeB (i := 6) (v := ?_) rfl (by kernel_rfl) (by kernel_rfl) (by kernel_rfl) (by decide) (fun _ _ _ h => h) (Or.inl ⟨by rfl, ?_⟩) (SAB.both hA hB) ?_
              rotate_left
              · intro wx hBx
                (try dsimp only at hBx)
                go_simp
                try with_reducible rfl
              try simp only [Act.put, List.setIfInBounds_toArray, List.set_cons_zero, List.set_cons_succ]
              refine wpL_takeB (i := 7) (v := ?_) rfl (by kernel_rfl) (by kernel_rfl) (by kernel_rfl) (by decide) (fun _ _ _ h => h) (Or.inl ⟨by rfl, ?_⟩) (SAB.both hA hB) ?_
              rotate_left
              · intro wx hBx
                (try dsimp only at hBx)
                go_simp
                try with_reducible rfl
              try simp only [Act.put, List.setIfInBounds_toArray, List.set_cons_zero, List.set_cons_succ]
              refine wpL_takeB (i := 8) (v := ?_) rfl (by kernel_rfl) (by kernel_rfl) (by kernel_rfl) (by decide) (fun _ _ _ h => h) (Or.inl ⟨by rfl, ?_⟩) (SAB.both hA hB) ?_
              rotate_left
              · intro wx hBx
                (try dsimp only at hBx)
                go_simp
                try with_reducible rfl
              try simp only [Act.put, List.setIfInBounds_toArray, List.set_cons_zero, List.set_cons_succ]
              refine wpL_takeB (i := 9) rfl (by kernel_rfl) (by kernel_rfl) (by kernel_rfl) (by decide) (fun _ _ _ h => h) (yieldsIf_blk (by rfl) _ _ rfl g 0 41 _ (C.k st.k) _ rfl (fun wx hx => hx.blk HBG2.out (by omega)) (C.sub st.k) Try.underlying35 rfl (by kernel_rfl)) (SAB.both hA hB) ?_
              try simp only [Act.put, List.setIfInBounds_toArray, List.set_cons_zero, List.set_cons_succ]
              refine wpL_one (i := 5) (by kernel_rfl) (StepL.mk rfl (fun K hK => ?_))
              go_simp
              refine (confirm_any _ (Lab w L 0) (C.k st.k) st.k q (fun i hi => by have := hi.1; simp; omega) (HLK12.out.keep (Same.drew (Same.drewN (Same.refl _ _) _))) (by omega) (by omega) (by omega) HIA.out).mono ?_
              rw [HCF.out]
              rintro e w13 ⟨cs13, rfl, hr13, hk13⟩
              have hk1213 : Keep w12 w13 := Keep.trans hB hk13
              have hz13 := hk1213.size
              have hlt13 : ∀ i, (Lab w L 0 i ∨ ((w12.drewN m12).drew.heap.size ≤ i ∧ i < w13.heap.size)) → i < w13.heap.size := fun i hi => hi.elim (fun h => by have := h.1; omega) (fun h => h.2)
              refine hK.out _ _ (SAB.both trivial hk1213) (fun hSS => ?_)
              clear hK K hA hB
              have hB := hSS.2
              have hA := hSS.1 (by kernel_rfl)
              (try dsimp only at hB); (try dsimp only at hA); clear hSS
              try simp only [Act.put, List.setIfInBounds_toArray, List.set_cons_zero, List.set_cons_succ]
              refine wpL_one (i := 10) (by kernel_rfl) (StepL.mk rfl (fun K hK => ?_))
              go_simp
              refine (sameLk_any w13 _ (Lab w L 0) cs13 (C.k st.k) st.k hlt13 (fun i hi => by have := hi.1; omega) hr13 (HLK12.out.keep (hk1213.mono (fun i hi => by have := hi.1; omega))) (by omega) (by omega)).mono ?_
              rintro e w14 ⟨rfl, hk14⟩
              have hk1214 : Keep w12 w14 := Keep.trans hk1213 hk14
              refine hK.out _ _ (SAB.both trivial hk1214) (fun hSS => ?_)
              clear hK K hA hB
              have hB := hSS.2
              have hA := hSS.1 (by kernel_rfl)
              (try dsimp only at hB); (try dsimp only at hA); clear hSS
              try simp only [Act.put, List.setIfInBounds_toArray, List.set_cons_zero, List.set_cons_succ]
              refine wpL_takeB (i := 11) (v := ?_) rfl (by kernel_rfl) (by kernel_rfl) (by kernel_rfl) (by decide) (fun _ _ _ h => h) (Or.inl ⟨by rfl, ?_⟩) (SAB.both hA hB) ?_
              rotate_left
              · intro wx hBx
                (try dsimp only at hBx)
                go_simp
                try with_reducible rfl
              try simp only [Act.put, List.setIfInBounds_toArray, List.set_cons_zero, List.set_cons_succ]
              refine wpL_done (by kernel_rfl) ?_
              have hfin := Keep.trans HFK.out hk1214
              have HFIN := Lib.hid hfin
              clear hfin
              clear hk13 hk14 hk1213 hk1214 hA hB hr13 hlt13
              go_wp2_with fail
              go_ret
              exact ⟨rfl, HFIN.out⟩
            | false =>
              go_wp2_with fail
              go_ret
              exact ⟨rfl, Same.drewN HFK.out _⟩
end Go.Proofs.Ytafgacfbplilpaa
