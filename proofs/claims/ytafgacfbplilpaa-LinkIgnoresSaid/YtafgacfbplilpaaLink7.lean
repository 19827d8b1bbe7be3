/- Contracts: the reference's New and Arrive (written by gen_link.py). -/
import Derived.Test.YtafgacfbplilpaaLink5
import Derived.Test.YtafgacfbplilpaaLink8
set_option linter.unusedVariables false
set_option linter.unusedSimpArgs false
namespace Go.Proofs.Ytafgacfbplilpaa
open Go.RowKit Go.Proofs

theorem rnew_any (win : Int) (w : World) (S : Nat → Prop) : Calls Try.prog 28 #[.int .i64 win] w (LkErr (newS win) (newErr win) S w) := by
  have hR : ∀ (w' : World) (T : Nat → Prop) (a b c : Int), LkR w' T [.int .i64 a, .int .i64 b, .slice none 0 0, .int .i64 c, .slice none 0 0] ⟨a, b, [], c, []⟩ := fun w' T a b c => ⟨none, none, 0, 0, 0, 0, rfl, Sl.nil_, Sl.nil_⟩
  have HR := Lib.hid hR
  clear hR
  by_cases h : win < 1 ∨ 8 < win
  · have e1 : newS win = zeroLk := if_pos h
    have e2 : newErr win = 3 := if_pos h
    rw [e1, e2]
    clear e1 e2
    rcases h with h | h
    · have hd : decide (win < 1) = true := by simpa using h
      go_enter Try.func28, Try.ntmps28
      go_wp2_with (refine wpList_store_blk rfl _ (.tmp 2) (.tmp 10) rfl w.heap.size 0 35 _ [.int .i64 0, .int .i64 0, .slice none 0 0, .int .i64 0, .slice none 0 0] rfl rfl (Blk.new _ _ _) (by simp) (by kernel_rfl) rfl ?_; intro w4 hb4 hs4; have HB4 := Lib.hid hb4; have HS4 := Lib.hid hs4; clear hb4 hs4)
      exact bodyPost_ret (results_cell_tmp' Try.results28 _ _ _ ⟨w.heap.size, 0, none⟩ _ _ rfl rfl (load_lk _ HB4.out (by simp [splice]) rfl)) rfl ⟨_, rfl, HR.out _ _ 0 0 0, Keep.write (Keep.new _ _) HS4.out (Nat.le_refl _)⟩
    · have hd : decide (8 < win) = true := by simpa using h
      have hd1 : decide (win < 1) = false := by simp; omega
      go_enter Try.func28, Try.ntmps28
      go_wp2_with (refine wpList_store_blk rfl _ (.tmp 2) (.tmp 10) rfl w.heap.size 0 35 _ [.int .i64 0, .int .i64 0, .slice none 0 0, .int .i64 0, .slice none 0 0] rfl rfl (Blk.new _ _ _) (by simp) (by kernel_rfl) rfl ?_; intro w4 hb4 hs4; have HB4 := Lib.hid hb4; have HS4 := Lib.hid hs4; clear hb4 hs4)
      exact bodyPost_ret (results_cell_tmp' Try.results28 _ _ _ ⟨w.heap.size, 0, none⟩ _ _ rfl rfl (load_lk _ HB4.out (by simp [splice]) rfl)) rfl ⟨_, rfl, HR.out _ _ 0 0 0, Keep.write (Keep.new _ _) HS4.out (Nat.le_refl _)⟩
  · have e1 : newS win = ⟨win, 1, [], 1, []⟩ := if_neg h
    have e2 : newErr win = 0 := if_neg h
    rw [e1, e2]
    have hd : decide (8 < win) = false := by simp; omega
    have hd1 : decide (win < 1) = false := by simp; omega
    clear e1 e2 h
    go_enter Try.func28, Try.ntmps28
    go_wp2_with (refine wpList_store_blk rfl _ (.tmp 2) (.tmp 12) rfl w.heap.size 0 35 _ [.int .i64 win, .int .i64 1, .slice none 0 0, .int .i64 1, .slice none 0 0] rfl rfl (Blk.new _ _ _) (by simp) (by kernel_rfl) rfl ?_; intro w4 hb4 hs4; have HB4 := Lib.hid hb4; have HS4 := Lib.hid hs4; clear hb4 hs4)
    exact bodyPost_ret (results_cell_tmp' Try.results28 _ _ _ ⟨w.heap.size, 0, none⟩ _ _ rfl rfl (load_lk _ HB4.out (by simp [splice]) rfl)) rfl ⟨_, rfl, HR.out _ _ win 1 1, Keep.write (Keep.new _ _) HS4.out (Nat.le_refl _)⟩

set_option maxHeartbeats 4000000 in
set_option maxRecDepth 100000 in
theorem rarrive_any (w : World) (S : Nat → Prop) (cs : List Value) (k : Lk) (p : Pk) (hS : ∀ i, S i → i < w.heap.size) (h : LkR w S cs k) (he : k.early.length ≤ 500) (hw0 : 0 ≤ k.want) (hw1 : k.want ≤ 1000000) (hp : I64 p.seq) (hq0 : 0 ≤ k.win) (hq1 : k.win ≤ 1000) (hasc : Asc k.early) :
    Calls Try.prog 38 #[.agg cs.toArray, .agg #[.int .i64 p.seq, .int .i64 p.ack, .int .i64 p.val]] w (ArrPost (arriveS k p) (arriveD k p) S w) := by
  obtain ⟨i0, hi0, hz0, hz1, hz2⟩ := info_of info_int'
  obtain ⟨A1, A2, n1, c1, n2, c2, rfl, h1, h2⟩ := h
  have HI := Lib.hid hi0
  have HZ0 := Lib.hid hz0
  have HZ1 := Lib.hid hz1
  have HZ2 := Lib.hid hz2
  have H1 := Lib.hid h1
  have H2 := Lib.hid h2
  have HS := Lib.hid hS
  have hnl := Lib.hid h2.1
  have hnn : n2 ≤ 500 := by rw [h2.1]; exact he
  obtain ⟨hp1, hp2⟩ := hp
  have HASC := Lib.hid hasc
  clear h1 h2 hS he hi0 hz0 hz1 hz2 hasc
  go_enter Try.func38, Try.ntmps38
  go_upto_block 0 with fail
  go_cut [7] (fun v7 wx => ArrCut (arriveS k p) (arriveD k p) S w v7 wx)
  case first =>
    generalize hW : (((w.alloc (.cells #[.int .i64 k.win, .int .i64 k.base, .slice A1 n1 c1, .int .i64 k.want, .slice A2 n2 c2] 35)).alloc (.cells #[.int .i64 p.seq, .int .i64 p.ack, .int .i64 p.val] 48)).alloc (.cells #[.int .i64 0, .int .i64 0, .slice none 0 0, .int .i64 0, .slice none 0 0] 35)).alloc (.cells #[.int .i64 0, .int .i64 0, .int .i64 0] 48) = W
    have hkW : Keep w W := hW ▸ Keep.alloc (Keep.alloc (Keep.alloc (Keep.new _ _) _) _) _
    have hzW : W.heap.size = w.heap.size + 4 := by rw [← hW]; simp
    have bK : Blk W w.heap.size 35 #[.int .i64 k.win, .int .i64 k.base, .slice A1 n1 c1, .int .i64 k.want, .slice A2 n2 c2] := hW ▸ (((Blk.new _ _ _).alloc _).alloc _).alloc _
    have bP : Blk W (w.heap.size + 1) 48 #[.int .i64 p.seq, .int .i64 p.ack, .int .i64 p.val] := by
      rw [← hW]
      have := Blk.new (w.alloc (.cells #[.int .i64 k.win, .int .i64 k.base, .slice A1 n1 c1, .int .i64 k.want, .slice A2 n2 c2] 35)) 48 #[.int .i64 p.seq, .int .i64 p.ack, .int .i64 p.val]
      exact ((by simpa using this : Blk _ _ _ _).alloc _).alloc _
    have bR : Blk W (w.heap.size + 1 + 1) 35 #[.int .i64 0, .int .i64 0, .slice none 0 0, .int .i64 0, .slice none 0 0] := by
      rw [← hW]
      exact (Blk.new11 _ _ _ _ _).alloc _
    have bQ : Blk W (w.heap.size + 1 + 1 + 1) 48 #[.int .i64 0, .int .i64 0, .int .i64 0] := by
      rw [← hW]
      have := Blk.new11 (w.alloc (.cells #[.int .i64 k.win, .int .i64 k.base, .slice A1 n1 c1, .int .i64 k.want, .slice A2 n2 c2] 35)) (.cells #[.int .i64 p.seq, .int .i64 p.ack, .int .i64 p.val] 48) (.cells #[.int .i64 0, .int .i64 0, .slice none 0 0, .int .i64 0, .slice none 0 0] 35) 48 #[.int .i64 0, .int .i64 0, .int .i64 0]
      simpa using this
    have HKW := Lib.hid hkW
    have HZW := Lib.hid hzW
    have BK := Lib.hid bK
    have BR := Lib.hid bR
    have BQ := Lib.hid bQ
    have k0 := bK.cell 0
    have k3 := bK.cell 3
    have k4 := bK.cell 4
    have p0 := bP.cell 0
    have p2 := bP.cell 2
    simp at k0 k3 k4 p0 p2
    clear hkW hzW bK bR bQ bP hW
    by_cases hs : p.seq = k.want
    · have hsd : (p.seq == k.want) = true := by simpa using hs
      have HSQ := Lib.hid hs
      have e1 : arriveS k p = { k with want := k.want + 1 + drainN k.early (k.want + 1), early := k.early.drop (drainN k.early (k.want + 1)) } := if_pos hs
      have e2 : arriveD k p = p.val :: (k.early.take (drainN k.early (k.want + 1))).map (·.val) := if_pos hs
      have E1 := Lib.hid e1
      have E2 := Lib.hid e2
      clear e1 e2 hs
      go_wp2_with (first
        | (at_builtin; (refine wpList_append_any _ rfl (.tmp 14) (.tmp 17) _ rfl W.heap.size 3 i0 _ 1 8 Try.underlying23 HI.out HZ0.out HZ1.out HZ2.out rfl (by omega) _ 0 [] rfl (World.ownsRow_nil _ _ _ _) _ (some ⟨W.heap.size, 0, none⟩) 1 1 (encI p.val) rfl (Reads.new rfl) (encI_one _) (by simp [maxLen]) (by omega) (by simp) ?_; intro v5 w5 hown5 hg5 hat5; have HO5 := Lib.hid hown5; have HK5 : Hid (Keep W w5) := Lib.hid ((Keep.new W (.cells #[.int .i64 p.val] 3)).append (World.ownsRow_nil _ W.heap.size 3 1) hg5 (fun i hi => hi) (by simp)); have k35 := (HK5.out.blk BK.out BK.out.lt).cell 3; simp at k35; clear hown5 hg5 hat5))
        | (refine wpList_store_one rfl _ (.tmp 22) (.tmp 21) rfl w.heap.size 3 35 _ (.int .i64 (k.want + 1)) rfl rfl (HK5.out.blk BK.out BK.out.lt) (by simp) (by kernel_rfl) rfl rfl ?_; intro w6 hb6 hs6; have HB6 := Lib.hid hb6; have HS6 := Lib.hid hs6; clear hb6 hs6))
      have hz6 : W.heap.size ≤ w6.heap.size := Nat.le_trans HK5.out.size HS6.out.size
      have hzw : w.heap.size < W.heap.size := by have := HZW.out; omega
      go_frame
      go_loopg [7] k.early.length (fun gk v wr => ArrRel k p S w W A1 n1 c1 gk v wr)
      case atStart =>
        have e0 := hnl.out
        refine ⟨0, A2, c2, rfl, fun i hi => absurd hi (by omega), ?_, ?_, ?_, Only.trans (HK5.out.only _) (Same.mono HS6.out (fun i hi => hi.2))⟩
        · exact ownsRow_same HO5.out HS6.out (fun i hi => by omega)
        · have := HB6.out
          simp at this
          rw [← e0]
          simpa using this
        · rw [← e0]
          simpa using (H2.out.keep (Same.mono (Keep.trans HKW.out HK5.out) HS.out)).keep (Same.mono HS6.out (fun i hi => by have := HS.out i hi; omega))
      case round =>
        obtain ⟨j, A2', c2', hj, hall, hown, bK, hsl, hon⟩ := hrel
        have hjn : gk + j ≤ 500 := by have := hnl.out; omega
        have r3 := bK.cell 3
        have r4 := bK.cell 4
        simp at r3 r4
        have hszr := hon.size
        have stop : (∀ q, k.early[j]? = some q → q.seq ≠ k.want + 1 + j) → ArrCut (arriveS k p) (arriveD k p) S w u7 wr := fun hq => by
          have hd : drainN k.early (k.want + 1) = j := (drainN_step k.early (k.want + 1) j hall hq).trans (if_pos (by omega))
          have hz := HZW.out
          have hlt : (k.early.take j).length = j := by rw [List.length_take]; omega
          obtain ⟨A, c, rfl, hslo⟩ := Sl.of_own' hown (by rw [List.length_cons, List.length_map, hlt])
          refine ⟨A, A1, A2', _, c, n1, c1, gk, c2', rfl, ?_, ?_, ?_, ?_, ?_, ?_, Same.trans HKW.out hon (fun i hi => ⟨by omega, by omega⟩)⟩
          · rw [E2.out, hd]
            exact hslo.more (fun i hi => ⟨by omega, hi.2⟩)
          · rw [E1.out, hd]
            exact bK
          · rw [E1.out]
            exact (H1.out.keep (Same.trans (Same.mono HKW.out HS.out) hon (fun i hi => by have := HS.out i hi; exact ⟨by omega, by omega⟩))).more (fun i hi => .inl hi)
          · rw [E1.out, hd]
            exact hsl.more (fun i hi => .inl hi)
          · exact hon.blk BR.out ⟨by omega, by omega⟩
          · exact hon.blk BQ.out ⟨by omega, by omega⟩
        have HST := Lib.hid stop
        have HALL := Lib.hid hall
        have HOWN := Lib.hid hown
        have HBK := Lib.hid bK
        have HSL := Lib.hid hsl
        have HON := Lib.hid hon
        have HJ := Lib.hid hj
        clear stop hall hown bK hsl hon hj
        by_cases hg : gk = 0
        · have hgd : decide (0 < gk) = false := by simp [hg]
          have HG := Lib.hid hg
          clear hg
          go_wp2_with fail
          go_quiet (fail)
          go_wp2_with fail
          go_meet
          refine ArrCut.drewN (HST.out (fun q hq => ?_)) _
          exact (by have := HJ.out; have := HG.out; rw [List.getElem?_eq_none (by omega)] at hq; cases hq)
        · have hgd : decide (0 < gk) = true := by simp; omega
          obtain ⟨b, off, q, rfl, hSb, hq, q0, q1, q2⟩ := HSL.out.cell0 (by omega)
          have hq' : k.early[j]? = some q := by simpa using hq
          have HQ := Lib.hid hq'
          clear hq hq'
          by_cases he : q.seq = k.want + 1 + j
          · have hed : (q.seq == k.want + 1 + j) = true := by simpa using he
            have HE := Lib.hid he
            clear he
            go_wp2_with fail
            go_quiet (fail)
            have hz0 : gk ≤ c2' := HSL.out.2.1
            have hcm : c2' ≤ 9223372036854775807 := HSL.out.2.2.1
            generalize hX : wr.drewN _ = X
            have hkX : Keep wr X := hX ▸ Same.drewN (Same.refl _ _) _
            have xs : X.heap.size = wr.heap.size := by rw [← hX]; rfl
            have x3 : X.cell? ⟨w.heap.size, 3, none⟩ = some (.int .i64 (k.want + 1 + j)) := hX ▸ r3
            have x4 : X.cell? ⟨w.heap.size, 4, none⟩ = some (.slice (some ⟨b, off, none⟩) gk c2') := hX ▸ r4
            have y2 : X.cell? ⟨b, off + 2, none⟩ = some (.int .i64 q.val) := hX ▸ q2
            have ownX : X.ownsRow W.heap.size 3 1 u7 (j + 1) ((p.val :: (k.early.take j).map (·.val)).flatMap encI) := hX ▸ HOWN.out
            have bX : Blk X w.heap.size 35 _ := hX ▸ HBK.out.drewN _
            have slX : Sl encPk 3 X S _ gk c2' (k.early.drop j) := hX ▸ HSL.out.keep (Same.drewN (Same.refl _ _) _)
            have onX : Only w.heap.size W X := hX ▸ Same.drewN HON.out _
            have HKX := Lib.hid hkX
            have XS := Lib.hid xs
            have OWNX := Lib.hid ownX
            have BX := Lib.hid bX
            have SLX := Lib.hid slX
            have ONX := Lib.hid onX
            clear hkX xs ownX bX slX onX
            clear hX r3 r4 q0 q1 q2 HSL HON HBK HOWN
            have hXs : W.heap.size ≤ X.heap.size := ONX.out.size
            have hXw : w.heap.size < X.heap.size := by omega
            have hgk : 1 ≤ gk := by omega
            by_cases hcap : c2' = 1
            · subst hcap
              obtain rfl : gk = 1 := by omega
              go_wp2_with (first
                | (at_builtin; (refine wpList_append_any _ rfl (.tmp 37) (.tmp 43) _ rfl W.heap.size 3 i0 _ 1 8 Try.underlying23 HI.out HZ0.out HZ1.out HZ2.out rfl (by omega) u7 (j + 1) _ rfl (OWNX.out.alloc _) _ (some ⟨X.heap.size, 0, none⟩) 1 1 (encI q.val) rfl (Reads.new rfl) (encI_one _) (by simp [maxLen]; omega) (by omega) (by simp; omega) ?_; intro v8 w8 hown8 hg8 hat8; have HO8 := Lib.hid hown8; have HK8 : Hid (Same (fun i => i < W.heap.size) X w8) := Lib.hid ((Same.mono (Keep.new X (.cells #[.int .i64 q.val] 3)) (fun i hi => by omega)).append (OWNX.out.alloc _) hg8 (fun i hi => hi) (by simp; omega)); have hb8 := HK8.out.blk BX.out (by omega); have c38 := hb8.cell 3; have c48 := hb8.cell 4; simp at c38 c48; have HB8 := Lib.hid hb8; clear hown8 hg8 hat8 hb8))
                | (refine wpList_store_one rfl _ (.tmp 48) (.tmp 47) rfl w.heap.size 4 35 _ (.slice (some ⟨b, off, none⟩) 0 0) rfl rfl HB8.out (by simp) (by kernel_rfl) rfl rfl ?_; intro w9 hb9 hs9; have c39 := hb9.cell 3; simp at c39; have HB9 := Lib.hid hb9; have HS9 := Lib.hid hs9; clear hb9 hs9)
                | (refine wpList_store_one rfl _ (.tmp 52) (.tmp 51) rfl w.heap.size 3 35 _ (.int .i64 (k.want + 1 + j + 1)) rfl rfl HB9.out (by simp) (by kernel_rfl) rfl rfl ?_; intro w10 hb10 hs10; have HB10 := Lib.hid hb10; have HS10 := Lib.hid hs10; clear hb10 hs10))
              go_frame
              go_roundg (1 - 1)
              case measure => omega
              case rel =>
                have hS1 : Same (· ≠ w.heap.size) w8 w10 := Same.trans HS9.out HS10.out (fun i hi => hi)
                refine ⟨j + 1, (some ⟨b, off, none⟩), 0, by have := HJ.out; omega, fun i hi => ?_, ?_, ?_, ?_, ?_⟩
                · by_cases e : i = j
                  · subst e; exact ⟨q, HQ.out, HE.out⟩
                  · exact HALL.out i (by omega)
                · have := ownsRow_same HO8.out hS1 (fun i hi => by omega)
                  rw [arr_more k p q j HQ.out] at this
                  exact this
                · have := HB10.out
                  simp at this
                  rw [show (k.want + 1 + ((j + 1 : Nat) : Int)) = k.want + 1 + j + 1 by omega]
                  exact this
                · have h8 : Sl encPk 3 w10 S (some ⟨b, off, none⟩) 1 1 (k.early.drop j) := (SLX.out.keep (Same.mono HK8.out (fun i hi => by have := HS.out i hi; omega))).keep (Same.mono hS1 (fun i hi => by have := HS.out i hi; omega))
                  exact Sl.end_ _ _ (by have := HJ.out; rw [List.length_drop]; omega)
                · exact Same.trans (Same.trans ONX.out HK8.out (fun i hi => hi.1)) hS1 (fun i hi => hi.2)
            · have hcap' : ¬ 1 = c2' := fun e => hcap e.symm
              go_wp2_with (first
                | (at_builtin; (refine wpList_append_any _ rfl (.tmp 37) (.tmp 43) _ rfl W.heap.size 3 i0 _ 1 8 Try.underlying23 HI.out HZ0.out HZ1.out HZ2.out rfl (by omega) u7 (j + 1) _ rfl (OWNX.out.alloc _) _ (some ⟨X.heap.size, 0, none⟩) 1 1 (encI q.val) rfl (Reads.new rfl) (encI_one _) (by simp [maxLen]; omega) (by omega) (by simp; omega) ?_; intro v8 w8 hown8 hg8 hat8; have HO8 := Lib.hid hown8; have HK8 : Hid (Same (fun i => i < W.heap.size) X w8) := Lib.hid ((Same.mono (Keep.new X (.cells #[.int .i64 q.val] 3)) (fun i hi => by omega)).append (OWNX.out.alloc _) hg8 (fun i hi => hi) (by simp; omega)); have hb8 := HK8.out.blk BX.out (by omega); have c38 := hb8.cell 3; have c48 := hb8.cell 4; simp at c38 c48; have HB8 := Lib.hid hb8; clear hown8 hg8 hat8 hb8))
                | (refine wpList_store_one rfl _ (.tmp 48) (.tmp 47) rfl w.heap.size 4 35 _ (.slice (some ⟨b, off + 3, none⟩) (gk - 1) (c2' - 1)) rfl rfl HB8.out (by simp) (by kernel_rfl) rfl rfl ?_; intro w9 hb9 hs9; have c39 := hb9.cell 3; simp at c39; have HB9 := Lib.hid hb9; have HS9 := Lib.hid hs9; clear hb9 hs9)
                | (refine wpList_store_one rfl _ (.tmp 52) (.tmp 51) rfl w.heap.size 3 35 _ (.int .i64 (k.want + 1 + j + 1)) rfl rfl HB9.out (by simp) (by kernel_rfl) rfl rfl ?_; intro w10 hb10 hs10; have HB10 := Lib.hid hb10; have HS10 := Lib.hid hs10; clear hb10 hs10))
              go_frame
              go_roundg (gk - 1)
              case measure => omega
              case rel =>
                have hS1 : Same (· ≠ w.heap.size) w8 w10 := Same.trans HS9.out HS10.out (fun i hi => hi)
                refine ⟨j + 1, (some ⟨b, off + 3, none⟩), (c2' - 1), by have := HJ.out; omega, fun i hi => ?_, ?_, ?_, ?_, ?_⟩
                · by_cases e : i = j
                  · subst e; exact ⟨q, HQ.out, HE.out⟩
                  · exact HALL.out i (by omega)
                · have := ownsRow_same HO8.out hS1 (fun i hi => by omega)
                  rw [arr_more k p q j HQ.out] at this
                  exact this
                · have := HB10.out
                  simp at this
                  rw [show (k.want + 1 + ((j + 1 : Nat) : Int)) = k.want + 1 + j + 1 by omega]
                  exact this
                · have h8 : Sl encPk 3 w10 S (some ⟨b, off, none⟩) gk c2' (k.early.drop j) := (SLX.out.keep (Same.mono HK8.out (fun i hi => by have := HS.out i hi; omega))).keep (Same.mono hS1 (fun i hi => by have := HS.out i hi; omega))
                  have h9 := h8.from_some encPk_len (k := 1) (by omega)
                  rw [List.drop_drop] at h9
                  exact h9
                · exact Same.trans (Same.trans ONX.out HK8.out (fun i hi => hi.1)) hS1 (fun i hi => hi.2)
          · have hed : (q.seq == k.want + 1 + j) = false := by simpa using he
            have HE := Lib.hid he
            clear he
            go_wp2_with fail
            go_quiet (fail)
            go_wp2_with fail
            go_meet
            exact ArrCut.drewN (HST.out (fun q' hq => by rw [HQ.out] at hq; injection hq with hq; subst hq; exact HE.out)) _
    · have hsd : (p.seq == k.want) = false := by simpa using hs
      have HNS := Lib.hid hs
      have e2 : arriveD k p = [] := if_neg hs
      have E2 := Lib.hid e2
      clear e2 hs
      have hz := HZW.out
      have same : ∀ m, arriveS k p = k → ArrCut (arriveS k p) (arriveD k p) S w (.slice none 0 0) (W.drewN m) := fun m e => by
        rw [e, E2.out]
        refine ArrCut.drewN ⟨none, A1, A2, 0, 0, n1, c1, n2, c2, rfl, Sl.nil_, BK.out, ?_, ?_, BR.out, BQ.out, HKW.out⟩ m
        · exact (H1.out.keep (Same.mono HKW.out HS.out)).more (fun i hi => .inl hi)
        · exact (H2.out.keep (Same.mono HKW.out HS.out)).more (fun i hi => .inl hi)
      have SAME := Lib.hid same
      clear same hz
      by_cases h1 : k.want < p.seq
      · have h1d : decide (k.want < p.seq) = true := by simpa using h1
        by_cases h2 : p.seq - k.want < k.win
        · have h2d : decide (p.seq < k.want + k.win) = true := by simp; omega
          have e1 : arriveS k p = { k with early := insertS k.early ⟨p.seq, 0, p.val⟩ } := (if_neg HNS.out).trans (if_pos ⟨h1, h2⟩)
          have E1 := Lib.hid e1
          clear e1 h2
          go_wp2_with fail
          refine (rinsert_any W S A2 n2 c2 k.early ⟨p.seq, 0, p.val⟩ (fun i hi => by have := HS.out i hi; have := HZW.out; omega) (H2.out.keep (Same.mono HKW.out HS.out)) (by omega) HASC.out).mono ?_
          rintro e w5 ⟨A3, n3, c3, rfl, hsl, hk5⟩
          have HSL := Lib.hid hsl
          have HK5 := Lib.hid hk5
          clear hsl hk5
          go_wp2_with (refine wpList_store_one rfl _ (.tmp 77) (.tmp 76) rfl w.heap.size 4 35 _ (.slice A3 n3 c3) rfl rfl (HK5.out.blk BK.out BK.out.lt) (by simp) (by kernel_rfl) rfl rfl ?_; intro w6 hb6 hs6; have HB6 := Lib.hid hb6; have HS6 := Lib.hid hs6; clear hb6 hs6)
          go_meet
          have hz := HZW.out
          have hz5 := HK5.out.size
          have hz6 := HS6.out.size
          rw [E1.out, E2.out]
          refine ⟨none, A1, A3, 0, 0, n1, c1, n3, c3, rfl, Sl.nil_, by simpa using HB6.out, ?_, ?_, ?_, ?_, Keep.write (Keep.trans HKW.out HK5.out) HS6.out (Nat.le_refl _)⟩
          · exact ((H1.out.keep (Same.mono (Keep.trans HKW.out HK5.out) HS.out)).keep (Same.mono HS6.out (fun i hi => by have := HS.out i hi; omega))).more (fun i hi => .inl hi)
          · refine (HSL.out.keep (Same.mono HS6.out (fun i hi => ?_))).more (fun i hi => ?_)
            · rcases hi with hi | hi
              · have := HS.out i hi; omega
              · omega
            · rcases hi with hi | hi
              · exact .inl hi
              · exact .inr ⟨by omega, by omega⟩
          · exact HS6.out.blk (HK5.out.blk BR.out BR.out.lt) (by omega)
          · exact HS6.out.blk (HK5.out.blk BQ.out BQ.out.lt) (by omega)
        · have h2d : decide (p.seq < k.want + k.win) = false := by simp; omega
          have e1 : arriveS k p = k := (if_neg HNS.out).trans (if_neg (fun h => h2 h.2))
          have E1 := Lib.hid e1
          clear e1 h2
          go_wp2_with fail
          go_meet
          exact SAME.out 0 E1.out
      · have h1d : decide (k.want < p.seq) = false := by simpa using h1
        have e1 : arriveS k p = k := (if_neg HNS.out).trans (if_neg (fun h => h1 h.1))
        have E1 := Lib.hid e1
        clear e1 h1
        go_wp2_with fail
        go_meet
        exact SAME.out 0 E1.out
  case rest =>
    obtain ⟨A, A1', A2', n, c, n1', c1', n2', c2', rfl, hd, bK, s1, s2, bR, bQ, hkx⟩ := hcut
    have HD := Lib.hid hd
    have S1 := Lib.hid s1
    have S2 := Lib.hid s2
    have HKX := Lib.hid hkx
    have BK := Lib.hid bK
    have BR := Lib.hid bR
    have BQ := Lib.hid bQ
    have hk1 : (arriveS k p).want - 1 = (arriveS k p).want - 1 := rfl
    have hKl := bK.lt
    have qs : ∀ i wx, Same (· < w.heap.size + 2) wc wx → wx.cell? ⟨w.heap.size, i, none⟩ = _ := fun i wx hx => (hx.cell (p := ⟨w.heap.size, i, none⟩) (by simp)).trans (bK.cell i)
    have q0 := qs 0
    have q1 := qs 1
    have q2 := qs 2
    have q3 := qs 3
    have q4 := qs 4
    simp at q0 q1 q2 q3 q4
    clear qs
    have hzx := bQ.lt
    have hw' : 0 ≤ (arriveS k p).want ∧ (arriveS k p).want ≤ 2000000 := by
      unfold arriveS
      split
      · have := drainN_le k.early (k.want + 1); have := hnl.out; exact ⟨by simp; omega, by simp; omega⟩
      · split
        · exact ⟨by simpa using hw0, by simp; omega⟩
        · exact ⟨hw0, by omega⟩
    obtain ⟨hw'0, hw'1⟩ := hw'
    clear hd s1 s2 hkx bK bR bQ hk1
    generalize arriveS k p = kk at *
    generalize arriveD k p = dd at *
    go_wp2_with fail
    have hwr : IntKind.i64.wrap (kk.want - 1) = kk.want - 1 := IntWalk.i64_in _ (by omega)
    have hA : True := trivial
    refine wp_region_L 99 (fun _ => True) (fun wx => Same (· < w.heap.size + 2) wc wx) (by kernel_rfl) trivial (Same.drew (Same.refl _ _)) (fun _ hB => ?_)
    refine wpL_takeB (i := 0) rfl (by kernel_rfl) (by kernel_rfl) (by kernel_rfl) (by decide) (fun _ _ _ h => h) (yieldsIf_blk (by rfl) _ _ rfl w.heap.size 0 35 _ [.int .i64 kk.win, .int .i64 kk.base, .slice A1' n1' c1', .int .i64 kk.want, .slice A2' n2' c2'] _ rfl (fun wx hx => hx.blk BK.out (by omega)) (by simp) Try.underlying35 rfl (by kernel_rfl)) (SAB.both hA hB) ?_
    try simp only [Act.put, List.setIfInBounds_toArray, List.set_cons_zero, List.set_cons_succ]
    refine wpL_takeB (i := 1) (v := ?_) rfl (by kernel_rfl) (by kernel_rfl) (by kernel_rfl) (by decide) (fun _ _ _ h => h) (Or.inl ⟨by rfl, ?_⟩) (SAB.both hA hB) ?_
    rotate_left
    · intro wx hBx
      (try dsimp only at hBx)
      go_simp
      try with_reducible rfl
    try simp only [Act.put, List.setIfInBounds_toArray, List.set_cons_zero, List.set_cons_succ]
    refine wpL_takeB (i := 2) (v := ?_) rfl (by kernel_rfl) (by kernel_rfl) (by kernel_rfl) (by decide) (fun _ _ _ h => h) (Or.inl ⟨by rfl, ?_⟩) (SAB.both hA hB) ?_
    rotate_left
    · intro wx hBx
      (try dsimp only at hBx)
      go_simp
      try with_reducible rfl
    try simp only [Act.put, List.setIfInBounds_toArray, List.set_cons_zero, List.set_cons_succ]
    refine wpL_takeB (i := 3) (v := ?_) rfl (by kernel_rfl) (by kernel_rfl) (by kernel_rfl) (by decide) (fun _ _ _ h => h) (Or.inl ⟨by rfl, ?_⟩) (SAB.both hA hB) ?_
    rotate_left
    · intro wx hBx
      (try dsimp only at hBx)
      go_simp
      try with_reducible rfl
    try simp only [Act.put, List.setIfInBounds_toArray, List.set_cons_zero, List.set_cons_succ]
    refine wpL_takeB (i := 4) (v := ?_) rfl (by kernel_rfl) (by kernel_rfl) (by kernel_rfl) (by decide) (fun _ _ _ h => h) (Or.inl ⟨by rfl, ?_⟩) (SAB.both hA hB) ?_
    rotate_left
    · intro wx hBx
      (try dsimp only at hBx)
      go_simp
      try with_reducible rfl
    try simp only [Act.put, List.setIfInBounds_toArray, List.set_cons_zero, List.set_cons_succ]
    refine wpL_takeB (i := 5) (v := ?_) rfl (by kernel_rfl) (by kernel_rfl) (by kernel_rfl) (by decide) (fun _ _ _ h => h) (Or.inl ⟨by rfl, ?_⟩) (SAB.both hA hB) ?_
    rotate_left
    · intro wx hBx
      (try dsimp only at hBx)
      go_simp
      try with_reducible rfl
    try simp only [Act.put, List.setIfInBounds_toArray, List.set_cons_zero, List.set_cons_succ]
    refine wpL_one (i := 6) (by kernel_rfl) (StepL.mk rfl (fun K hK => ?_))
    refine step_store_blk rfl _ _ _ rfl (w.heap.size + 1 + 1) 0 35 _ [.int .i64 kk.win, .int .i64 kk.base, .slice A1' n1' c1', .int .i64 kk.want, .slice A2' n2' c2'] rfl rfl (BR.out.drewN 1) (by simp) (by kernel_rfl) rfl ?_
    intro w6 hb6 hs6
    refine hK.out _ _ (SAB.both trivial (Same.trans (Same.drew (Same.refl _ _)) hs6 (fun i hi => by omega))) (fun hSS => ?_)
    clear hK K hA hB
    have hB := hSS.2
    have hA := hSS.1 (by kernel_rfl)
    (try dsimp only at hB); (try dsimp only at hA); clear hSS
    try simp only [Act.put, List.setIfInBounds_toArray, List.set_cons_zero, List.set_cons_succ]
    refine wpL_takeB (i := 7) (v := ?_) rfl (by kernel_rfl) (by kernel_rfl) (by kernel_rfl) (by decide) (fun _ _ _ h => h) (Or.inl ⟨by rfl, ?_⟩) (SAB.both hA hB) ?_
    rotate_left
    · intro wx hBx
      (try dsimp only at hBx)
      go_simp
      try with_reducible rfl
    try simp only [Act.put, List.setIfInBounds_toArray, List.set_cons_zero, List.set_cons_succ]
    clear hwr
    refine wpL_one (i := 8) (by kernel_rfl) (StepL.mk rfl (fun K hK => ?_))
    refine step_store_blk rfl _ _ _ rfl (w.heap.size + 1 + 1 + 1) 0 48 _ [.int .i64 0, .int .i64 (kk.want - 1), .int .i64 0] rfl rfl (hs6.blk (BQ.out.drewN 1) (by omega)) (by simp) (by kernel_rfl) rfl ?_
    intro w8 hb8 hs8
    refine hK.out _ _ (SAB.both trivial (Same.trans hB hs8 (fun i hi => by omega))) (fun hSS => ?_)
    clear hK K hA hB
    have hB := hSS.2
    have hA := hSS.1 (by kernel_rfl)
    (try dsimp only at hB); (try dsimp only at hA); clear hSS
    try simp only [Act.put, List.setIfInBounds_toArray, List.set_cons_zero, List.set_cons_succ]
    refine wpL_done (by kernel_rfl) ?_
    have hz6 := hs6.size
    have hz8 := hs8.size
    simp at hz6
    have HB6 := Lib.hid (hs8.blk hb6 (by omega))
    have HB8 := Lib.hid hb8
    have HS6 := Lib.hid hs6
    have HS8 := Lib.hid hs8
    clear hb6 hb8 hs6 hs8 hA hB
    go_wp2_with fail
    have hfar : ∀ T : Nat → Prop, (∀ i, T i → i ≠ w.heap.size + 2 ∧ i ≠ w.heap.size + 3) → Same T wc w8 := fun T hT => Same.trans (Same.trans (Same.drew (Same.refl _ _)) HS6.out (fun i hi => (hT i hi).1)) HS8.out (fun i hi => (hT i hi).2)
    refine bodyPost_ret (results_cell_tmp_cell Try.results38 _ _ _ ⟨w.heap.size + 1 + 1, 0, none⟩ ⟨w.heap.size + 1 + 1 + 1, 0, none⟩ _ _ _ rfl rfl rfl (load_lk [.int .i64 kk.win, .int .i64 kk.base, .slice A1' n1' c1', .int .i64 kk.want, .slice A2' n2' c2'] HB6.out (by simp [splice]) rfl) (loadVar_blk [.int .i64 0, .int .i64 (kk.want - 1), .int .i64 0] _ HB8.out (by simp [splice]) Try.underlying48 rfl (by kernel_rfl))) rfl ⟨_, A, n, c, rfl, ⟨A1', A2', n1', c1', n2', c2', rfl, ?_, ?_⟩, ?_, ?_⟩
    · refine (S1.out.keep (hfar _ (fun i hi => ?_))).more (fun i hi => ?_)
      · rcases hi with hi | hi
        · have := HS.out i hi; omega
        · omega
      · rcases hi with hi | hi
        · exact .inl hi
        · exact .inr ⟨by omega, by omega⟩
    · refine (S2.out.keep (hfar _ (fun i hi => ?_))).more (fun i hi => ?_)
      · rcases hi with hi | hi
        · have := HS.out i hi; omega
        · omega
      · rcases hi with hi | hi
        · exact .inl hi
        · exact .inr ⟨by omega, by omega⟩
    · refine (HD.out.keep (hfar _ (fun i hi => ?_))).more (fun i hi => ?_)
      · omega
      · exact ⟨by omega, by omega⟩
    · exact Same.trans HKX.out (hfar (· < w.heap.size) (fun i hi => by omega)) (fun i hi => hi)
end Go.Proofs.Ytafgacfbplilpaa
