/- Contracts: the reference's Confirm and insert. -/
import Derived.Test.YtafgacfbplilpaaLink6
set_option linter.unusedVariables false
set_option linter.unusedSimpArgs false
namespace Go.Proofs.Ytafgacfbplilpaa
open Go.RowKit Go.Proofs

set_option maxHeartbeats 4000000 in
theorem rconfirm_any (w : World) (S : Nat → Prop) (cs : List Value) (k : Lk) (p : Pk) (hS : ∀ i, S i → i < w.heap.size) (h : LkR w S cs k) (hn : k.kept.length ≤ 1000) (hb0 : 0 ≤ k.base) (hb1 : k.base ≤ 1000000) (hp : I64 p.ack) :
    Calls Try.prog 39 #[.agg cs.toArray, .agg #[.int .i64 p.seq, .int .i64 p.ack, .int .i64 p.val]] w (LkOne (confirmS k p) S w) := by
  obtain ⟨A1, A2, n1, c1, n2, c2, rfl, h1, h2⟩ := h
  have H1 := Lib.hid h1
  have H2 := Lib.hid h2
  have HS := Lib.hid hS
  have hnl := Lib.hid h1.1
  have hnn : n1 ≤ 1000 := by rw [h1.1]; exact hn
  have hnc := h1.2.1
  have hcm : c1 ≤ 9223372036854775807 := h1.2.2.1
  obtain ⟨hp1, hp2⟩ := hp
  clear h1 h2 hS hn
  by_cases hc : p.seq = 0 ∧ k.base ≤ p.ack ∧ p.ack - k.base < n1
  · obtain ⟨q1, q2, q3⟩ := hc
    have e1 : confirmS k p = { k with kept := k.kept.drop (p.ack - k.base + 1).toNat, base := p.ack + 1 } := if_pos ⟨q1, q2, by rw [← hnl.out]; exact q3⟩
    rw [e1]
    clear e1
    obtain ⟨d, hd⟩ := Int.eq_ofNat_of_zero_le (show 0 ≤ p.ack - k.base by omega)
    obtain ⟨seq, ack, val⟩ := p
    simp only at *
    subst q1
    obtain rfl : ack = k.base + d := by omega
    have e5 : (k.base + (d : Int) - k.base + 1).toNat = d + 1 := by omega
    rw [e5]
    clear e5
    have t2 : decide (k.base + d < k.base) = false := by simp; omega
    have t3 : decide (k.base + (n1 : Int) - 1 < k.base + d) = false := by simp; omega
    have t4 : (k.base + (d : Int) - k.base) = d := by omega
    have dn : d < n1 := by omega
    have HD := Lib.hid hd
    clear hd q2 q3
    obtain ⟨b, off, rfl, hSb, _⟩ := H1.out.2.2.2.2 (by omega)
    by_cases hcap : c1 = d + 1
    · subst hcap
      go_enter Try.func39, Try.ntmps39
      go_wp2_with fail
      exact bodyPost_ret (results_cell1 Try.results39 _ _ _ ⟨w.heap.size + 1 + 1, 0, none⟩ _ rfl (load_lk [.int .i64 k.win, .int .i64 (k.base + d + 1), .slice (some ⟨b, off, none⟩) 0 0, .int .i64 k.want, .slice A2 n2 c2] (Blk.new11 _ _ _ _ _) rfl rfl)) rfl ⟨_, rfl, ⟨_, A2, _, _, n2, c2, rfl, (Sl.end_ _ _ (by rw [List.length_drop]; have := hnl.out; omega)), (H2.out.keep (Same.mono (Keep.alloc (Keep.alloc (Keep.new _ _) _) _) HS.out)).more (fun i hi => .inl hi)⟩, Keep.alloc (Keep.alloc (Keep.new _ _) _) _⟩
    · have hcap' : ¬ d + 1 = c1 := fun e => hcap e.symm
      have key : ∀ o1 o2 o3 : Obj, Sl encI 1 (((w.alloc o1).alloc o2).alloc o3) S (some ⟨b, off + (d + 1), none⟩) (n1 - (d + 1)) (c1 - (d + 1)) (k.kept.drop (d + 1)) := fun o1 o2 o3 => by
        have := (H1.out.keep (Same.mono (Keep.alloc (Keep.alloc (Keep.new w o1) o2) o3) HS.out)).from_some encI_len (k := d + 1) (by omega)
        simpa using this
      have KEY := Lib.hid key
      clear key
      go_enter Try.func39, Try.ntmps39
      go_wp2_with fail
      exact bodyPost_ret (results_cell1 Try.results39 _ _ _ ⟨w.heap.size + 1 + 1, 0, none⟩ _ rfl (load_lk [.int .i64 k.win, .int .i64 (k.base + d + 1), .slice (some ⟨b, off + (d + 1), none⟩) (n1 - (d + 1)) (c1 - (d + 1)), .int .i64 k.want, .slice A2 n2 c2] (Blk.new11 _ _ _ _ _) rfl rfl)) rfl ⟨_, rfl, ⟨_, A2, _, _, n2, c2, rfl, ((KEY.out _ _ _).more (fun i hi => Or.inl hi)), (H2.out.keep (Same.mono (Keep.alloc (Keep.alloc (Keep.new _ _) _) _) HS.out)).more (fun i hi => .inl hi)⟩, Keep.alloc (Keep.alloc (Keep.new _ _) _) _⟩
  · have e1 : confirmS k p = k := if_neg (by rw [← hnl.out]; exact hc)
    rw [e1]
    clear e1
    by_cases q1 : p.seq = 0
    · have q1d : (p.seq != 0) = false := by simpa using q1
      by_cases q2 : p.ack < k.base
      · have q2d : decide (p.ack < k.base) = true := by simpa using q2
        go_enter Try.func39, Try.ntmps39
        go_wp2_with fail
        exact bodyPost_ret (results_cell1 Try.results39 _ _ _ ⟨w.heap.size + 1 + 1, 0, none⟩ _ rfl (load_lk [.int .i64 k.win, .int .i64 k.base, .slice A1 n1 c1, .int .i64 k.want, .slice A2 n2 c2] (Blk.new11 _ _ _ _ _) rfl rfl)) rfl ⟨_, rfl, ⟨_, A2, _, _, n2, c2, rfl, ((H1.out.keep (Same.mono (Keep.alloc (Keep.alloc (Keep.new _ _) _) _) HS.out)).more (fun i hi => .inl hi)), (H2.out.keep (Same.mono (Keep.alloc (Keep.alloc (Keep.new _ _) _) _) HS.out)).more (fun i hi => .inl hi)⟩, Keep.alloc (Keep.alloc (Keep.new _ _) _) _⟩
      have q2d : decide (p.ack < k.base) = false := by simpa using q2
      have q3 : (n1 : Int) ≤ p.ack - k.base := by omega
      have q3d : decide (k.base + (n1 : Int) - 1 < p.ack) = true := by simp; omega
      clear q1 hc
      go_enter Try.func39, Try.ntmps39
      go_wp2_with fail
      exact bodyPost_ret (results_cell1 Try.results39 _ _ _ ⟨w.heap.size + 1 + 1, 0, none⟩ _ rfl (load_lk [.int .i64 k.win, .int .i64 k.base, .slice A1 n1 c1, .int .i64 k.want, .slice A2 n2 c2] (Blk.new11 _ _ _ _ _) rfl rfl)) rfl ⟨_, rfl, ⟨_, A2, _, _, n2, c2, rfl, ((H1.out.keep (Same.mono (Keep.alloc (Keep.alloc (Keep.new _ _) _) _) HS.out)).more (fun i hi => .inl hi)), (H2.out.keep (Same.mono (Keep.alloc (Keep.alloc (Keep.new _ _) _) _) HS.out)).more (fun i hi => .inl hi)⟩, Keep.alloc (Keep.alloc (Keep.new _ _) _) _⟩
    · have q1d : (p.seq != 0) = true := by simpa using q1
      clear hc
      go_enter Try.func39, Try.ntmps39
      go_wp2_with fail
      exact bodyPost_ret (results_cell1 Try.results39 _ _ _ ⟨w.heap.size + 1 + 1, 0, none⟩ _ rfl (load_lk [.int .i64 k.win, .int .i64 k.base, .slice A1 n1 c1, .int .i64 k.want, .slice A2 n2 c2] (Blk.new11 _ _ _ _ _) rfl rfl)) rfl ⟨_, rfl, ⟨_, A2, _, _, n2, c2, rfl, ((H1.out.keep (Same.mono (Keep.alloc (Keep.alloc (Keep.new _ _) _) _) HS.out)).more (fun i hi => .inl hi)), (H2.out.keep (Same.mono (Keep.alloc (Keep.alloc (Keep.new _ _) _) _) HS.out)).more (fun i hi => .inl hi)⟩, Keep.alloc (Keep.alloc (Keep.new _ _) _) _⟩

def RInsRel (l : List Pk) (s : Int) (W : World) (i : Value) (wr : World) : Prop :=
  ∃ k m : Nat, k ≤ l.length ∧ i = .int .i64 k ∧ (∀ j a, k ≤ j → l[j]? = some a → s < a.seq) ∧ wr = W.drewN m
/-- Where the reference stops: the place of the number, or that of the one behind it. -/
theorem posS_at {l : List Pk} (h : Asc l) {s : Int} {k : Nat} (hk : k ≤ l.length) (h1 : ∀ j a, k ≤ j → l[j]? = some a → s < a.seq) (h2 : ∀ j a, j < k → l[j]? = some a → a.seq < s) : posS l s = k :=
  takeWhile_pos _ l k hk (fun j hj => ⟨l[j], List.getElem?_eq_getElem (by omega), by simpa using h2 j _ hj (List.getElem?_eq_getElem (by omega))⟩) (fun a ha => by have := h1 k a (Nat.le_refl _) ha; simp; omega)
theorem insertS_new {l : List Pk} (h : Asc l) {p : Pk} {k : Nat} (hk : k ≤ l.length) (h1 : ∀ j a, k ≤ j → l[j]? = some a → p.seq < a.seq) (h2 : ∀ j a, j < k → l[j]? = some a → a.seq < p.seq) : insertS l p = l.take k ++ [p] ++ l.drop k := by
  have e := posS_at h hk h1 h2
  unfold insertS
  rw [e]
  cases hc : l[k]? with
  | none => rfl
  | some q =>
    have := h1 k q (Nat.le_refl _) hc
    exact if_neg (by omega)
theorem insertS_old {l : List Pk} (h : Asc l) {p q : Pk} {k : Nat} (hq : l[k]? = some q) (e : q.seq = p.seq) : insertS l p = l := by
  have hk := (List.getElem?_eq_some_iff.1 hq).1
  have e2 : posS l p.seq = k := takeWhile_pos _ l k (by omega) (fun j hj => ⟨l[j], List.getElem?_eq_getElem (by omega), by have := h j k _ _ hj (List.getElem?_eq_getElem (by omega)) hq; simp; omega⟩) (fun a ha => by rw [hq] at ha; injection ha with ha; subst ha; simp; omega)
  unfold insertS
  rw [e2, hq]
  exact if_pos e

set_option maxHeartbeats 4000000 in
theorem rinsert_any (w : World) (S : Nat → Prop) (A : Option Addr) (n c : Nat) (l : List Pk) (p : Pk) (hS : ∀ i, S i → i < w.heap.size) (h : Sl encPk 3 w S A n c l) (hn : n ≤ 1000) (hasc : Asc l) :
    Calls Try.prog 43 #[.slice A n c, .agg #[.int .i64 p.seq, .int .i64 p.ack, .int .i64 p.val]] w (InsPost (insertS l p) S w) := by
  obtain ⟨i0, hi0, hz0, hz1, hz2⟩ := info_of info_Pk
  have one : ∀ l' : List Pk, ∀ u ∈ l'.flatMap encPk, u.oneCell' = true := fun l' u hu => by
    obtain ⟨x, _, hx⟩ := List.mem_flatMap.1 hu
    exact encPk_one x u hx
  have H := Lib.hid h
  have hnl := Lib.hid h.1
  have hnc := h.2.1
  have hcm : c ≤ 9223372036854775807 := h.2.2.1
  have HS := Lib.hid hS
  have HI0 := Lib.hid hi0
  have HZ0 := Lib.hid hz0
  have HZ1 := Lib.hid hz1
  have HZ2 := Lib.hid hz2
  have HASC := Lib.hid hasc
  have ONE := Lib.hid one
  clear hS hi0 hz0 hz1 hz2 hasc one
  clear h
  go_enter Try.func43, Try.ntmps43
  go_wp2_with fail
  generalize hW : w.alloc (.cells #[.int .i64 p.seq, .int .i64 p.ack, .int .i64 p.val] 48) = W
  have hkW : Keep w W := hW ▸ Keep.new _ _
  have hzW : w.heap.size < W.heap.size := by rw [← hW]; simp
  have bP : Blk W w.heap.size 48 #[.int .i64 p.seq, .int .i64 p.ack, .int .i64 p.val] := hW ▸ Blk.new _ _ _
  have p0 := bP.cell 0
  simp at p0
  have HKW := Lib.hid hkW
  have BP := Lib.hid bP
  clear hkW bP
  clear hW
  go_loopw [5] (fun i wr => RInsRel l p.seq W i wr) (fun i _ => (intOf i).toNat)
  case atStart => exact ⟨n, 0, by have := hnl.out; omega, rfl, fun j a hj ha => (by rw [List.getElem?_eq_none (by have := hnl.out; omega)] at ha; cases ha), rfl⟩
  case round =>
    obtain ⟨k, m, hkl, rfl, hall, rfl⟩ := hrel
    have hkn : k ≤ n := by have := hnl.out; omega
    have ha1 : (k : Int) ≤ c := by omega
    have ha2 : (0 : Int) ≤ k := by omega
    have ha3 : (k : Int) ≤ n := by omega
    have HALL := Lib.hid hall
    clear hall
    by_cases hk : 0 < k
    · obtain ⟨b, off, q, rfl, hSb, hq, hc⟩ := (H.out.keep (Same.mono HKW.out HS.out)).at_ encPk_len (k := k - 1) (by omega)
      obtain ⟨k', rfl⟩ : ∃ k', k = k' + 1 := ⟨k - 1, by omega⟩
      simp only [Nat.add_sub_cancel] at hq hc
      have hc0 : W.cell? ⟨b, off + k' * 3, none⟩ = some (.int .i64 q.seq) := by have := hc 0 _ rfl; simpa using this
      have HQ := Lib.hid hq
      clear hq
      have k1d : decide (0 < k' + 1) = true := by simp
      have w1 : IntKind.i64.wrap ((k' : Int) + 1 - 1) = k' := by rw [IntWalk.i64_in _ (by omega)]; omega
      have w2 : (k' : Int) + 1 - 1 = k' := by omega
      have k0 : (0 : Int) ≤ k' := by omega
      have k1 : (k' : Int) < n := by omega
      clear hc hk
      by_cases hgt : p.seq < q.seq
      · have hgd : decide (p.seq < q.seq) = true := by simpa using hgt
        go_wp2_with fail
        go_quiet (fail)
        go_wp2_with fail
        go_roundw
        case rel =>
          refine ⟨k', _, by omega, by go_num, fun j a hj ha => ?_, rfl⟩
          by_cases e : j = k'
          · subst e; rw [HQ.out] at ha; injection ha with ha; subst ha; exact hgt
          · exact HALL.out j a (by omega) ha
        case measure => simp [intOf]
      · have hgd : decide (p.seq < q.seq) = false := by simpa using hgt
        by_cases heq : q.seq = p.seq
        · have heqd : (q.seq == p.seq) = true := by simpa using heq
          have hres : insertS l p = l := insertS_old HASC.out HQ.out heq
          have HRES := Lib.hid hres
          clear hres
          clear heq hgt
          go_wp2_with fail
          go_quiet (fail)
          go_wp2_with fail
          go_quiet (fail)
          go_wp2_with fail
          go_ret
          refine ⟨_, n, c, rfl, ?_, Same.drewN (Same.drewN (Same.drewN HKW.out _) _) _⟩
          rw [HRES.out]
          exact (H.out.keep (Same.mono (Same.drewN (Same.drewN (Same.drewN HKW.out _) _) _) HS.out)).more (fun i hi => .inl hi)
        · have heqd : (q.seq == p.seq) = false := by simpa using heq
          obtain ⟨k, hkk⟩ : ∃ k, k = k' + 1 := ⟨_, rfl⟩
          have hres : insertS l p = l.take k ++ [p] ++ l.drop k := insertS_new HASC.out (by omega) (fun j a hj ha => HALL.out j a (by omega) ha) (fun j a hj ha => by
            by_cases e : j = k'
            · subst e; rw [HQ.out] at ha; injection ha with ha; subst ha; omega
            · have := HASC.out j k' a q (by omega) ha HQ.out; omega)
          have HRES := Lib.hid hres
          clear hres
          clear heq hgt
          go_wp2_with fail
          go_quiet (fail)
          go_upto_region 4 with fail
          go_quiet (fail)
          go_upto_region 6 with fail
          clear w1 w2 k1d hc0
          rw [← hkk]
          have hkn : k ≤ n := by omega
          have ha1 : (k : Int) ≤ c := by omega
          have ha2 : (0 : Int) ≤ k := by omega
          have ha3 : (k : Int) ≤ n := by omega
          clear HALL
          have HKK := Lib.hid hkk
          clear hkk
          generalize hAA : some (Addr.mk b off none) = A at H ⊢
          clear hAA
          generalize hX : ((W.drewN m).drewN _).drewN _ = X
          have hkX : Keep w X := hX ▸ Same.drewN (Same.drewN (Same.drewN HKW.out _) _) _
          have bX : Blk X w.heap.size 48 #[.int .i64 p.seq, .int .i64 p.ack, .int .i64 p.val] := hX ▸ BP.out
          have hzX : w.heap.size < X.heap.size := bX.lt
          have HKX := Lib.hid hkX
          have BX := Lib.hid bX
          clear hkX bX
          clear hX p0
          have hS1 : Hid (∀ wx, Keep X wx → Same S w wx) := Lib.hid (fun wx hx => Same.mono (Keep.trans HKX.out hx) HS.out)
          go_wp2_with (at_builtin; refine wpList_append_any _ rfl (.const (.slice none 0 0)) (.tmp 40) _ rfl X.heap.size 48 i0 _ 3 24 Try.underlying33 HI0.out HZ0.out HZ1.out HZ2.out rfl (by omega) (.slice none 0 0) 0 [] rfl (World.ownsRow_nil _ _ _ _) S _ k c ((l.take k).flatMap encPk) rfl ((H.out.keep (hS1.out X (Same.refl _ _))).to_ encPk_len hkn).2.2.2 (ONE.out _) (by simp [maxLen]; omega) (by omega) (by simp) ?_; intro v4 w4 hown4 hg4 hat4; have HO4 := Lib.hid hown4; have HK4 : Hid (Keep X w4) := Lib.hid ((Same.refl _ X).append (World.ownsRow_nil _ X.heap.size 48 3) hg4 (fun i hi => hi) (Nat.le_refl _)); clear hown4 hg4 hat4)
          have hz4 := HK4.out.size
          have hA : True := trivial
          refine wp_region_L 99 (fun _ => True) (fun wx => Keep X wx) (by kernel_rfl) trivial (Same.drew HK4.out) (fun _ hB => ?_)
          refine wpL_takeB (i := 0) (v := ?_) rfl (by kernel_rfl) (by kernel_rfl) (by kernel_rfl) (by decide) (fun _ _ _ h => h) (Or.inl ⟨by rfl, ?_⟩) (SAB.both hA hB) ?_
          rotate_left
          · intro wx hBx
            (try dsimp only at hBx)
            go_simp
            try with_reducible rfl
          try simp only [Act.put, List.setIfInBounds_toArray, List.set_cons_zero, List.set_cons_succ]
          refine wpL_takeB (i := 1) rfl (by kernel_rfl) (by kernel_rfl) (by kernel_rfl) (by decide) (fun _ _ _ h => h) (yieldsIf_blk (by rfl) _ _ rfl w.heap.size 0 48 _ [.int .i64 p.seq, .int .i64 p.ack, .int .i64 p.val] _ rfl (fun wx hx => hx.blk BX.out hzX) (by simp) Try.underlying48 rfl (by kernel_rfl)) (SAB.both hA hB) ?_
          try simp only [Act.put, List.setIfInBounds_toArray, List.set_cons_zero, List.set_cons_succ]
          refine wpL_takeB (i := 4) (v := ?_) rfl (by kernel_rfl) (by kernel_rfl) (by kernel_rfl) (by decide) (fun _ _ _ h => h) (Or.inl ⟨by rfl, ?_⟩) (SAB.both hA hB) ?_
          rotate_left
          · intro wx hBx
            (try dsimp only at hBx)
            go_simp
            try with_reducible rfl
          try simp only [Act.put, List.setIfInBounds_toArray, List.set_cons_zero, List.set_cons_succ]
          refine wpL_takeB (i := 5) (v := ?_) rfl (by kernel_rfl) (by kernel_rfl) (by kernel_rfl) (by decide) (fun _ _ _ h => h) (Or.inl ⟨by rfl, ?_⟩) (SAB.both hA hB) ?_
          rotate_left
          · intro wx hBx
            (try dsimp only at hBx)
            go_simp
            try with_reducible rfl
          try simp only [Act.put, List.setIfInBounds_toArray, List.set_cons_zero, List.set_cons_succ]
          refine wpL_takeB (i := 6) (v := ?_) rfl (by kernel_rfl) (by kernel_rfl) (by kernel_rfl) (by decide) (fun _ _ _ h => h) (Or.inl ⟨by rfl, ?_⟩) (SAB.both hA hB) ?_
          rotate_left
          · intro wx hBx
            (try dsimp only at hBx)
            go_simp
            try with_reducible rfl
          try simp only [Act.put, List.setIfInBounds_toArray, List.set_cons_zero, List.set_cons_succ]
          refine wpL_one (i := 2) (by kernel_rfl) (StepL.mk rfl (fun K hK => ?_))
          go_simp
          refine hK.out _ _ (SAB.both trivial (Keep.alloc hB _)) (fun hSS => ?_)
          clear hK K hA hB
          have hB := hSS.2
          have hA := hSS.1 (by kernel_rfl)
          (try dsimp only at hB); (try dsimp only at hA); clear hSS
          try simp only [Act.put, List.setIfInBounds_toArray, List.set_cons_zero, List.set_cons_succ]
          refine wpL_one (i := 3) (by kernel_rfl) (StepL.mk rfl (fun K hK => ?_))
          refine step_append_any _ (by rfl) (.tmp 42) (.tmp 44) _ (by rfl) X.heap.size 48 i0 _ 3 24 Try.underlying33 HI0.out HZ0.out HZ1.out HZ2.out rfl (by omega) v4 (0 + k) _ (by rfl) (HO4.out.alloc _) _ (some ⟨w4.heap.size, 0, none⟩) 1 1 (encPk p) (by rfl) (Reads.new rfl) (encPk_one _) (by simp [maxLen]; omega) (by omega) (by simp; omega) ?_
          intro v5 w5 hown5 hg5 hat5
          have hk5 := Same.append hB (HO4.out.alloc _) hg5 (fun i hi => hi) (by simp; omega)
          refine hK.out _ _ (SAB.both trivial hk5) (fun hSS => ?_)
          clear hK K hA hB
          have hB := hSS.2
          have hA := hSS.1 (by kernel_rfl)
          (try dsimp only at hB); (try dsimp only at hA); clear hSS
          try simp only [Act.put, List.setIfInBounds_toArray, List.set_cons_zero, List.set_cons_succ]
          refine wpL_one (i := 7) (by kernel_rfl) (StepL.mk rfl (fun K hK => ?_))
          refine step_append_any _ (by rfl) (.tmp 45) (.tmp 48) _ (by rfl) X.heap.size 48 i0 _ 3 24 Try.underlying33 HI0.out HZ0.out HZ1.out HZ2.out rfl (by omega) v5 (0 + k + 1) _ (by rfl) hown5 S _ (n - k) (c - k) ((l.drop k).flatMap encPk) (by rfl) ((H.out.keep (hS1.out w5 hB)).from_ encPk_len hkn).2.2.2 (ONE.out _) (by simp [maxLen]; omega) (by omega) hB.size ?_
          intro v6 w6 hown6 hg6 hat6
          have hk6 := Same.append hB hown5 hg6 (fun i hi => hi) hB.size
          refine hK.out _ _ (SAB.both trivial hk6) (fun hSS => ?_)
          clear hK K hA hB
          have hB := hSS.2
          have hA := hSS.1 (by kernel_rfl)
          (try dsimp only at hB); (try dsimp only at hA); clear hSS
          try simp only [Act.put, List.setIfInBounds_toArray, List.set_cons_zero, List.set_cons_succ]
          refine wpL_takeB (i := 8) (v := ?_) rfl (by kernel_rfl) (by kernel_rfl) (by kernel_rfl) (by decide) (fun _ _ _ h => h) (Or.inl ⟨by rfl, ?_⟩) (SAB.both hA hB) ?_
          rotate_left
          · intro wx hBx
            (try dsimp only at hBx)
            go_simp
            try with_reducible rfl
          try simp only [Act.put, List.setIfInBounds_toArray, List.set_cons_zero, List.set_cons_succ]
          refine wpL_done (by kernel_rfl) ?_
          have HOWN6 := Lib.hid hown6
          have HB := Lib.hid hB
          clear hown6 hB
          clear hown5 hg5 hat5 hg6 hat6 hk6 hk5 hA
          go_wp2_with fail
          all_goals
            have hown7 : w6.ownsRow X.heap.size 48 3 v6 (0 + k + 1 + (n - k)) ((l.take k ++ [p] ++ l.drop k).flatMap encPk) := by simpa using HOWN6.out
            obtain ⟨A7, c7, rfl, hsl7⟩ := Sl.of_own' hown7 (by have h1 := hnl.out; simp; omega)
            go_ret
            refine ⟨A7, _, c7, rfl, ?_, Keep.trans HKX.out HB.out⟩
            rw [HRES.out]
            exact hsl7.more (fun i hi => .inr ⟨by have := hi.1; omega, hi.2⟩)
    · have k1d : decide (0 < k) = false := by simpa using hk
      have hres : insertS l p = l.take k ++ [p] ++ l.drop k := insertS_new HASC.out (by omega) (fun j a hj ha => HALL.out j a (by omega) ha) (fun j a hj ha => by omega)
      have HRES := Lib.hid hres
      clear hres
      clear hk
      go_wp2_with fail
      go_quiet (fail)
      go_upto_region 4 with fail
      go_quiet (fail)
      go_upto_region 6 with fail
      clear k1d HALL
      generalize hX : ((W.drewN m).drewN _).drewN _ = X
      have hkX : Keep w X := hX ▸ Same.drewN (Same.drewN (Same.drewN HKW.out _) _) _
      have bX : Blk X w.heap.size 48 #[.int .i64 p.seq, .int .i64 p.ack, .int .i64 p.val] := hX ▸ BP.out
      have hzX : w.heap.size < X.heap.size := bX.lt
      have HKX := Lib.hid hkX
      have BX := Lib.hid bX
      clear hkX bX
      clear hX p0
      have hS1 : Hid (∀ wx, Keep X wx → Same S w wx) := Lib.hid (fun wx hx => Same.mono (Keep.trans HKX.out hx) HS.out)
      go_wp2_with (at_builtin; refine wpList_append_any _ rfl (.const (.slice none 0 0)) (.tmp 40) _ rfl X.heap.size 48 i0 _ 3 24 Try.underlying33 HI0.out HZ0.out HZ1.out HZ2.out rfl (by omega) (.slice none 0 0) 0 [] rfl (World.ownsRow_nil _ _ _ _) S _ k c ((l.take k).flatMap encPk) rfl ((H.out.keep (hS1.out X (Same.refl _ _))).to_ encPk_len hkn).2.2.2 (ONE.out _) (by simp [maxLen]; omega) (by omega) (by simp) ?_; intro v4 w4 hown4 hg4 hat4; have HO4 := Lib.hid hown4; have HK4 : Hid (Keep X w4) := Lib.hid ((Same.refl _ X).append (World.ownsRow_nil _ X.heap.size 48 3) hg4 (fun i hi => hi) (Nat.le_refl _)); clear hown4 hg4 hat4)
      have hz4 := HK4.out.size
      have hA : True := trivial
      refine wp_region_L 99 (fun _ => True) (fun wx => Keep X wx) (by kernel_rfl) trivial (Same.drew HK4.out) (fun _ hB => ?_)
      refine wpL_takeB (i := 0) (v := ?_) rfl (by kernel_rfl) (by kernel_rfl) (by kernel_rfl) (by decide) (fun _ _ _ h => h) (Or.inl ⟨by rfl, ?_⟩) (SAB.both hA hB) ?_
      rotate_left
      · intro wx hBx
        (try dsimp only at hBx)
        go_simp
        try with_reducible rfl
      try simp only [Act.put, List.setIfInBounds_toArray, List.set_cons_zero, List.set_cons_succ]
      refine wpL_takeB (i := 1) rfl (by kernel_rfl) (by kernel_rfl) (by kernel_rfl) (by decide) (fun _ _ _ h => h) (yieldsIf_blk (by rfl) _ _ rfl w.heap.size 0 48 _ [.int .i64 p.seq, .int .i64 p.ack, .int .i64 p.val] _ rfl (fun wx hx => hx.blk BX.out hzX) (by simp) Try.underlying48 rfl (by kernel_rfl)) (SAB.both hA hB) ?_
      try simp only [Act.put, List.setIfInBounds_toArray, List.set_cons_zero, List.set_cons_succ]
      refine wpL_takeB (i := 4) (v := ?_) rfl (by kernel_rfl) (by kernel_rfl) (by kernel_rfl) (by decide) (fun _ _ _ h => h) (Or.inl ⟨by rfl, ?_⟩) (SAB.both hA hB) ?_
      rotate_left
      · intro wx hBx
        (try dsimp only at hBx)
        go_simp
        try with_reducible rfl
      try simp only [Act.put, List.setIfInBounds_toArray, List.set_cons_zero, List.set_cons_succ]
      refine wpL_takeB (i := 5) (v := ?_) rfl (by kernel_rfl) (by kernel_rfl) (by kernel_rfl) (by decide) (fun _ _ _ h => h) (Or.inl ⟨by rfl, ?_⟩) (SAB.both hA hB) ?_
      rotate_left
      · intro wx hBx
        (try dsimp only at hBx)
        go_simp
        try with_reducible rfl
      try simp only [Act.put, List.setIfInBounds_toArray, List.set_cons_zero, List.set_cons_succ]
      refine wpL_takeB (i := 6) (v := ?_) rfl (by kernel_rfl) (by kernel_rfl) (by kernel_rfl) (by decide) (fun _ _ _ h => h) (Or.inl ⟨by rfl, ?_⟩) (SAB.both hA hB) ?_
      rotate_left
      · intro wx hBx
        (try dsimp only at hBx)
        go_simp
        try with_reducible rfl
      try simp only [Act.put, List.setIfInBounds_toArray, List.set_cons_zero, List.set_cons_succ]
      refine wpL_one (i := 2) (by kernel_rfl) (StepL.mk rfl (fun K hK => ?_))
      go_simp
      refine hK.out _ _ (SAB.both trivial (Keep.alloc hB _)) (fun hSS => ?_)
      clear hK K hA hB
      have hB := hSS.2
      have hA := hSS.1 (by kernel_rfl)
      (try dsimp only at hB); (try dsimp only at hA); clear hSS
      try simp only [Act.put, List.setIfInBounds_toArray, List.set_cons_zero, List.set_cons_succ]
      refine wpL_one (i := 3) (by kernel_rfl) (StepL.mk rfl (fun K hK => ?_))
      refine step_append_any _ (by rfl) (.tmp 42) (.tmp 44) _ (by rfl) X.heap.size 48 i0 _ 3 24 Try.underlying33 HI0.out HZ0.out HZ1.out HZ2.out rfl (by omega) v4 (0 + k) _ (by rfl) (HO4.out.alloc _) _ (some ⟨w4.heap.size, 0, none⟩) 1 1 (encPk p) (by rfl) (Reads.new rfl) (encPk_one _) (by simp [maxLen]; omega) (by omega) (by simp; omega) ?_
      intro v5 w5 hown5 hg5 hat5
      have hk5 := Same.append hB (HO4.out.alloc _) hg5 (fun i hi => hi) (by simp; omega)
      refine hK.out _ _ (SAB.both trivial hk5) (fun hSS => ?_)
      clear hK K hA hB
      have hB := hSS.2
      have hA := hSS.1 (by kernel_rfl)
      (try dsimp only at hB); (try dsimp only at hA); clear hSS
      try simp only [Act.put, List.setIfInBounds_toArray, List.set_cons_zero, List.set_cons_succ]
      refine wpL_one (i := 7) (by kernel_rfl) (StepL.mk rfl (fun K hK => ?_))
      refine step_append_any _ (by rfl) (.tmp 45) (.tmp 48) _ (by rfl) X.heap.size 48 i0 _ 3 24 Try.underlying33 HI0.out HZ0.out HZ1.out HZ2.out rfl (by omega) v5 (0 + k + 1) _ (by rfl) hown5 S _ (n - k) (c - k) ((l.drop k).flatMap encPk) (by rfl) ((H.out.keep (hS1.out w5 hB)).from_ encPk_len hkn).2.2.2 (ONE.out _) (by simp [maxLen]; omega) (by omega) hB.size ?_
      intro v6 w6 hown6 hg6 hat6
      have hk6 := Same.append hB hown5 hg6 (fun i hi => hi) hB.size
      refine hK.out _ _ (SAB.both trivial hk6) (fun hSS => ?_)
      clear hK K hA hB
      have hB := hSS.2
      have hA := hSS.1 (by kernel_rfl)
      (try dsimp only at hB); (try dsimp only at hA); clear hSS
      try simp only [Act.put, List.setIfInBounds_toArray, List.set_cons_zero, List.set_cons_succ]
      refine wpL_takeB (i := 8) (v := ?_) rfl (by kernel_rfl) (by kernel_rfl) (by kernel_rfl) (by decide) (fun _ _ _ h => h) (Or.inl ⟨by rfl, ?_⟩) (SAB.both hA hB) ?_
      rotate_left
      · intro wx hBx
        (try dsimp only at hBx)
        go_simp
        try with_reducible rfl
      try simp only [Act.put, List.setIfInBounds_toArray, List.set_cons_zero, List.set_cons_succ]
      refine wpL_done (by kernel_rfl) ?_
      have HOWN6 := Lib.hid hown6
      have HB := Lib.hid hB
      clear hown6 hB
      clear hown5 hg5 hat5 hg6 hat6 hk6 hk5 hA
      go_wp2_with fail
      all_goals
        have hown7 : w6.ownsRow X.heap.size 48 3 v6 (0 + k + 1 + (n - k)) ((l.take k ++ [p] ++ l.drop k).flatMap encPk) := by simpa using HOWN6.out
        obtain ⟨A7, c7, rfl, hsl7⟩ := Sl.of_own' hown7 (by have h1 := hnl.out; simp; omega)
        go_ret
        refine ⟨A7, _, c7, rfl, ?_, Keep.trans HKX.out HB.out⟩
        rw [HRES.out]
        exact hsl7.more (fun i hi => .inr ⟨by have := hi.1; omega, hi.2⟩)
end Go.Proofs.Ytafgacfbplilpaa
