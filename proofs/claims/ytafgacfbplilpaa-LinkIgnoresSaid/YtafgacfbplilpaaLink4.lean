/- Contract: link.insert. -/
import Derived.Test.YtafgacfbplilpaaLink3
set_option linter.unusedVariables false
set_option linter.unusedSimpArgs false
namespace Go.Proofs.Ytafgacfbplilpaa
open Go.RowKit Go.Proofs

def posS (l : List Pk) (s : Int) : Nat := (l.takeWhile (fun q => decide (q.seq < s))).length
def insertS (l : List Pk) (p : Pk) : List Pk := match l[posS l p.seq]? with
  | some q => if q.seq = p.seq then l else l.take (posS l p.seq) ++ [p] ++ l.drop (posS l p.seq)
  | none => l.take (posS l p.seq) ++ [p] ++ l.drop (posS l p.seq)
theorem takeWhile_pos {α : Type} (f : α → Bool) : ∀ (l : List α) (k : Nat), k ≤ l.length → (∀ j, j < k → ∃ a, l[j]? = some a ∧ f a = true) → (∀ a, l[k]? = some a → f a = false) → (l.takeWhile f).length = k
  | [], k, hk, _, _ => by simp at hk; simp [hk]
  | a :: l, 0, _, _, h2 => by
    have := h2 a rfl
    simp [List.takeWhile_cons, this]
  | a :: l, k + 1, hk, h1, h2 => by
    obtain ⟨b, hb, hf⟩ := h1 0 (by omega)
    simp at hb
    subst hb
    have := takeWhile_pos f l k (by simpa using hk) (fun j hj => by simpa using h1 (j + 1) (by omega)) (fun c hc => h2 c (by simpa using hc))
    simp [List.takeWhile_cons, hf, this]
def InsPost (l : List Pk) (S : Nat → Prop) (w : World) (e : Ending) (w' : World) : Prop :=
  ∃ (A : Option Addr) (n c : Nat), e = .returned (.slice A n c) ∧ Sl encPk 3 w' (fun i => S i ∨ (w.heap.size ≤ i ∧ i < w'.heap.size)) A n c l ∧ Keep w w'
def InsRel (l : List Pk) (s : Int) (W : World) (i : Value) (wr : World) : Prop :=
  ∃ k m : Nat, k ≤ l.length ∧ i = .int .i64 k ∧ (∀ j, j < k → ∃ a, l[j]? = some a ∧ decide (a.seq < s) = true) ∧ wr = W.drewN m

set_option maxHeartbeats 4000000 in
theorem insert_any (w : World) (S : Nat → Prop) (A : Option Addr) (n c : Nat) (l : List Pk) (p : Pk) (hS : ∀ i, S i → i < w.heap.size) (h : Sl encPk 3 w S A n c l) (hn : n ≤ 1000) :
    Calls Try.prog 41 #[.slice A n c, .agg #[.int .i64 p.seq, .int .i64 p.ack, .int .i64 p.val]] w (InsPost (insertS l p) S w) := by
  obtain ⟨i0, hi0, hz0, hz1, hz2⟩ := info_of info_Pk
  have HI := Lib.hid hi0
  have HZ0 := Lib.hid hz0
  have HZ1 := Lib.hid hz1
  have HZ2 := Lib.hid hz2
  have H := Lib.hid h
  have HS := Lib.hid hS
  have hnl := Lib.hid h.1
  have hnc := h.2.1
  have hcm : c ≤ 9223372036854775807 := h.2.2.1
  clear h hS hi0 hz0 hz1 hz2
  go_enter Try.func41, Try.ntmps41
  go_wp2_with fail
  generalize hW : w.alloc (.cells #[.int .i64 p.seq, .int .i64 p.ack, .int .i64 p.val] 48) = W
  have hkW : Keep w W := hW ▸ Keep.new _ _
  have hzW : w.heap.size < W.heap.size := by rw [← hW]; simp
  have bP : Blk W w.heap.size 48 #[.int .i64 p.seq, .int .i64 p.ack, .int .i64 p.val] := hW ▸ Blk.new _ _ _
  have HKW := Lib.hid hkW
  have BP := Lib.hid bP
  have p0 := bP.cell 0
  have p1 := bP.cell 1
  have p2 := bP.cell 2
  simp at p0 p1 p2
  clear hW hkW bP
  go_loopw [5] (fun i wr => InsRel l p.seq W i wr) (fun i _ => n - (intOf i).toNat)
  case atStart => exact ⟨0, 0, by omega, rfl, fun j hj => by omega, rfl⟩
  case round =>
    obtain ⟨k, m, hkl, rfl, hall, rfl⟩ := hrel
    have hkn : k ≤ n := by have := hnl.out; omega
    have HALL := Lib.hid hall
    clear hall hkl
    by_cases hk : k < n
    · obtain ⟨b, off, q, rfl, hSb, hq, hc⟩ := (H.out.keep (Same.mono HKW.out HS.out)).at_ encPk_len hk
      have hc0 : W.cell? ⟨b, off + k * 3, none⟩ = some (.int .i64 q.seq) := by have := hc 0 _ rfl; simpa using this
      have HQ := Lib.hid hq
      have k0 : (0 : Int) ≤ k := by omega
      have k1 : (k : Int) < n := by omega
      have k1d : decide ((k : Int) < n) = true := by simpa using k1
      clear hq hc
      by_cases hlt : q.seq < p.seq
      · have hltd : decide (q.seq < p.seq) = true := by simpa using hlt
        go_wp2_with fail
        go_quiet (fail)
        go_wp2_with fail
        go_roundw
        case rel =>
          refine ⟨k + 1, _, by have := hnl.out; omega, by go_num, fun j hj => ?_, rfl⟩
          by_cases e : j = k
          · subst e; exact ⟨q, HQ.out, hltd⟩
          · exact HALL.out j (by omega)
        case measure => simp [intOf]; omega
      · have hltd : decide (q.seq < p.seq) = false := by simpa using hlt
        have hpos : posS l p.seq = k := takeWhile_pos _ l k (by have := hnl.out; omega) HALL.out (fun a ha => by
          rw [HQ.out] at ha; injection ha with ha; subst ha; exact hltd)
        have HPOS := Lib.hid hpos
        clear hpos
        by_cases heq : q.seq = p.seq
        · have heqd : (q.seq == p.seq) = true := by simpa using heq
          have hres : insertS l p = l := by
            unfold insertS
            rw [HPOS.out, HQ.out]
            exact if_pos heq
          have HRES := Lib.hid hres
          clear hres heq hlt
          go_wp2_with fail
          go_quiet (fail)
          go_wp2_with fail
          go_quiet (fail)
          go_wp2_with fail
          go_ret
          refine ⟨_, n, c, rfl, ?_, Same.drewN (Same.drewN (Same.drewN HKW.out _) _) _⟩
          rw [HRES.out]
          exact (H.out.keep (Same.mono (Same.drewN (Same.drewN (Same.drewN HKW.out _) _) _) HS.out)).more (fun i hi => .inl hi)
        · have heqd : (q.seq == p.seq) = false := by simpa using heq
          have hres : insertS l p = l.take k ++ [p] ++ l.drop k := by
            unfold insertS
            rw [HPOS.out, HQ.out]
            exact if_neg heq
          have HRES := Lib.hid hres
          clear hres heq hlt
          go_wp2_with fail
          go_quiet (fail)
          go_wp2_with fail
          go_quiet (fail)
          go_wp2_with fail
          have kc' : ¬ c = k := by omega
          generalize hX : ((W.drewN m).drewN _).drewN _ = X
          have hkX : Keep w X := hX ▸ Same.drewN (Same.drewN (Same.drewN HKW.out _) _) _
          have bX : Blk X w.heap.size 48 #[.int .i64 p.seq, .int .i64 p.ack, .int .i64 p.val] := hX ▸ BP.out
          have hzX : w.heap.size < X.heap.size := bX.lt
          have x0 : ∀ wx, Keep X wx → wx.cell? ⟨w.heap.size, 0, none⟩ = some (.int .i64 p.seq) := fun wx hx => (hx.cell (p := ⟨w.heap.size, 0, none⟩) hzX).trans (by rw [bX.cell]; rfl)
          have x1 : ∀ wx, Keep X wx → wx.cell? ⟨w.heap.size, 1, none⟩ = some (.int .i64 p.ack) := fun wx hx => (hx.cell (p := ⟨w.heap.size, 1, none⟩) hzX).trans (by rw [bX.cell]; rfl)
          have x2 : ∀ wx, Keep X wx → wx.cell? ⟨w.heap.size, 2, none⟩ = some (.int .i64 p.val) := fun wx hx => (hx.cell (p := ⟨w.heap.size, 2, none⟩) hzX).trans (by rw [bX.cell]; rfl)
          have HKX := Lib.hid hkX
          have hS1 : Keep X X.drew := (Same.refl _ _).drew
          have hkc : (k : Int) ≤ c := by omega
          have hk00 : (0 : Int) ≤ k := by omega
          have hknn : (k : Int) ≤ n := by omega
          have htk : (l.take k).length = k := by rw [List.length_take]; have := hnl.out; omega
          have hdk : (l.drop k).length = n - k := by rw [List.length_drop]; have := hnl.out; omega
          have h1d : ∀ u ∈ (l.drop k).flatMap encPk, u.oneCell' = true := by
            intro u hu
            obtain ⟨q', _, hm⟩ := List.mem_flatMap.1 hu
            exact encPk_one q' u hm
          have HTK := Lib.hid htk
          have HDK := Lib.hid hdk
          have H1D := Lib.hid h1d
          have src : ∀ wx, Same S w wx → Reads wx S 3 (some ⟨b, off + k * 3, none⟩) (n - k) ((l.drop k).flatMap encPk) := fun wx hx => ((H.out.keep hx).from_some encPk_len hkn).2.2.2
          have SRC := Lib.hid src
          clear src
          clear hX hkX bX htk hdk h1d p0 p1 p2
          go_region_held3 (fun wx => Keep X wx)
            (first | assumption | exact hS1 | exact Keep.alloc hS1 _ | exact (Keep.alloc (Same.refl _ _) _).drew | exact HK5.out | exact HK6.out)
            (first
              | (refine step_append_full _ (by rfl) (.tmp 40) (.tmp 42) _ (by rfl) X.heap.size 48 i0 _ 3 24 Try.underlying33 HI.out HZ0.out HZ1.out HZ2.out rfl S (some ⟨b, off, none⟩) k ((l.take k).flatMap encPk) (by rfl) (((H.out.keep (Same.mono (Keep.alloc HKX.out _) HS.out)).to_ encPk_len hkn).2.2.2) _ (some ⟨X.heap.size, 0, none⟩) 1 1 (encPk p) (by rfl) (Reads.new rfl) (by omega) (by simp [maxLen]; omega) (by omega) (by simp) ?_; intro v5 w5 hown5 hk5 hat5; have HK5 : Hid (Keep X w5) := Keep.trans ((Keep.new X (.cells (encPk p).toArray 48)).drew) hk5; have HKS5 : Hid (Same S w w5) := Same.mono (Keep.trans HKX.out HK5.out) HS.out)
              | (refine step_append_any _ (by rfl) (.tmp 43) (.tmp 46) _ (by rfl) X.heap.size 48 i0 _ 3 24 Try.underlying33 HI.out HZ0.out HZ1.out HZ2.out rfl (by omega) v5 (k + 1) ((l.take k).flatMap encPk ++ encPk p) (by rfl) hown5 S (some ⟨b, off + k * 3, none⟩) (n - k) (c - k) ((l.drop k).flatMap encPk) (by rfl) (SRC.out w5 HKS5.out) H1D.out (by simp [maxLen]; omega) (by omega) HK5.out.size ?_; intro v6 w6 hown6 hg6 hat6; have HK6 : Hid (Keep X w6) := Same.append HK5.out hown5 hg6 (fun i hi => hi) HK5.out.size))
          go_wp2_with fail
          have hown7 : w6.ownsRow X.heap.size 48 3 v6 (k + 1 + (n - k)) ((l.take k ++ [p] ++ l.drop k).flatMap encPk) := by simpa using hown6
          obtain ⟨A7, c7, rfl, hsl7⟩ := Sl.of_own' hown7 (by have h1 := HTK.out; have h2 := HDK.out; rw [List.length_append, List.length_append, h1, h2]; simp)
          go_ret
          refine ⟨A7, _, c7, rfl, ?_, Keep.trans HKX.out HK6.out⟩
          rw [HRES.out]
          exact hsl7.more (fun i hi => .inr ⟨by have := hi.1; omega, hi.2⟩)
    · obtain rfl : k = n := by omega
      have k1d : decide ((k : Int) < k) = false := by simp
      have hpos : posS l p.seq = k := takeWhile_pos _ l k (by have := hnl.out; omega) HALL.out (fun a ha => by
        rw [List.getElem?_eq_none (by have := hnl.out; omega)] at ha; cases ha)
      have hres : insertS l p = l.take k ++ [p] := by
        unfold insertS
        rw [hpos, List.getElem?_eq_none (by have := hnl.out; omega), List.drop_of_length_le (by have := hnl.out; omega)]
        simp
      have HRES := Lib.hid hres
      clear hres hpos
      by_cases hck : c = k
      · have hck2 := hck.symm
        clear hck
        subst hck2
        cases A with
        | none =>
          go_wp2_with fail
          go_quiet (fail)
          go_wp2_with fail
          go_quiet (fail)
          go_wp2_with fail
          generalize hX : ((W.drewN m).drewN _).drewN _ = X
          have hkX : Keep w X := hX ▸ Same.drewN (Same.drewN (Same.drewN HKW.out _) _) _
          have bX : Blk X w.heap.size 48 #[.int .i64 p.seq, .int .i64 p.ack, .int .i64 p.val] := hX ▸ BP.out
          have hzX : w.heap.size < X.heap.size := bX.lt
          have x0 : ∀ wx, Keep X wx → wx.cell? ⟨w.heap.size, 0, none⟩ = some (.int .i64 p.seq) := fun wx hx => (hx.cell (p := ⟨w.heap.size, 0, none⟩) hzX).trans (by rw [bX.cell]; rfl)
          have x1 : ∀ wx, Keep X wx → wx.cell? ⟨w.heap.size, 1, none⟩ = some (.int .i64 p.ack) := fun wx hx => (hx.cell (p := ⟨w.heap.size, 1, none⟩) hzX).trans (by rw [bX.cell]; rfl)
          have x2 : ∀ wx, Keep X wx → wx.cell? ⟨w.heap.size, 2, none⟩ = some (.int .i64 p.val) := fun wx hx => (hx.cell (p := ⟨w.heap.size, 2, none⟩) hzX).trans (by rw [bX.cell]; rfl)
          have HKX := Lib.hid hkX
          have hS1 : Keep X X.drew := (Same.refl _ _).drew
          have hkc : (k : Int) ≤ k := by omega
          have hk00 : (0 : Int) ≤ k := by omega
          have htk : (l.take k).length = k := by rw [List.length_take]; have := hnl.out; omega
          have HTK := Lib.hid htk
          clear hX hkX bX htk p0 p1 p2
          go_region_held3 (fun wx => Keep X wx)
            (first | assumption | exact hS1 | exact Keep.alloc hS1 _ | exact (Keep.alloc (Same.refl _ _) _).drew | exact HK5.out | exact HK6.out)
            (first
              | (refine step_append_full _ (by rfl) (.tmp 40) (.tmp 42) _ (by rfl) X.heap.size 48 i0 _ 3 24 Try.underlying33 HI.out HZ0.out HZ1.out HZ2.out rfl S _ k ((l.take k).flatMap encPk) (by rfl) (((H.out.keep (Same.mono (Keep.alloc HKX.out _) HS.out)).to_ encPk_len hkn).2.2.2) _ (some ⟨X.heap.size, 0, none⟩) 1 1 (encPk p) (by rfl) (Reads.new rfl) (by omega) (by simp [maxLen]; omega) (by omega) (by simp) ?_; intro v5 w5 hown5 hk5 hat5; have HK5 : Hid (Keep X w5) := Keep.trans ((Keep.new X (.cells (encPk p).toArray 48)).drew) hk5; have HKS5 : Hid (Same S w w5) := Same.mono (Keep.trans HKX.out HK5.out) HS.out)
              | (refine step_append_any _ (by rfl) (.tmp 43) (.tmp 46) _ (by rfl) X.heap.size 48 i0 _ 3 24 Try.underlying33 HI.out HZ0.out HZ1.out HZ2.out rfl (by omega) v5 (k + 1) ((l.take k).flatMap encPk ++ encPk p) (by rfl) hown5 S _ 0 _ [] (by rfl) Reads.none_ (by simp) (by simp [maxLen]; omega) (by omega) HK5.out.size ?_; intro v6 w6 hown6 hg6 hat6; have HK6 : Hid (Keep X w6) := Same.append HK5.out hown5 hg6 (fun i hi => hi) HK5.out.size))
          go_wp2_with fail
          have hown7 : w6.ownsRow X.heap.size 48 3 v6 (k + 1) ((l.take k ++ [p]).flatMap encPk) := by simpa using hown6
          obtain ⟨A7, c7, rfl, hsl7⟩ := Sl.of_own' hown7 (by have h1 := HTK.out; rw [List.length_append, h1]; simp)
          go_ret
          refine ⟨A7, _, c7, rfl, ?_, Keep.trans HKX.out HK6.out⟩
          rw [HRES.out]
          exact hsl7.more (fun i hi => .inr ⟨by have := hi.1; omega, hi.2⟩)
        | some a =>
          go_wp2_with fail
          go_quiet (fail)
          go_wp2_with fail
          go_quiet (fail)
          go_wp2_with fail
          generalize hX : ((W.drewN m).drewN _).drewN _ = X
          have hkX : Keep w X := hX ▸ Same.drewN (Same.drewN (Same.drewN HKW.out _) _) _
          have bX : Blk X w.heap.size 48 #[.int .i64 p.seq, .int .i64 p.ack, .int .i64 p.val] := hX ▸ BP.out
          have hzX : w.heap.size < X.heap.size := bX.lt
          have x0 : ∀ wx, Keep X wx → wx.cell? ⟨w.heap.size, 0, none⟩ = some (.int .i64 p.seq) := fun wx hx => (hx.cell (p := ⟨w.heap.size, 0, none⟩) hzX).trans (by rw [bX.cell]; rfl)
          have x1 : ∀ wx, Keep X wx → wx.cell? ⟨w.heap.size, 1, none⟩ = some (.int .i64 p.ack) := fun wx hx => (hx.cell (p := ⟨w.heap.size, 1, none⟩) hzX).trans (by rw [bX.cell]; rfl)
          have x2 : ∀ wx, Keep X wx → wx.cell? ⟨w.heap.size, 2, none⟩ = some (.int .i64 p.val) := fun wx hx => (hx.cell (p := ⟨w.heap.size, 2, none⟩) hzX).trans (by rw [bX.cell]; rfl)
          have HKX := Lib.hid hkX
          have hS1 : Keep X X.drew := (Same.refl _ _).drew
          have hkc : (k : Int) ≤ k := by omega
          have hk00 : (0 : Int) ≤ k := by omega
          have htk : (l.take k).length = k := by rw [List.length_take]; have := hnl.out; omega
          have HTK := Lib.hid htk
          clear hX hkX bX htk p0 p1 p2
          go_region_held3 (fun wx => Keep X wx)
            (first | assumption | exact hS1 | exact Keep.alloc hS1 _ | exact (Keep.alloc (Same.refl _ _) _).drew | exact HK5.out | exact HK6.out)
            (first
              | (refine step_append_full _ (by rfl) (.tmp 40) (.tmp 42) _ (by rfl) X.heap.size 48 i0 _ 3 24 Try.underlying33 HI.out HZ0.out HZ1.out HZ2.out rfl S _ k ((l.take k).flatMap encPk) (by rfl) (((H.out.keep (Same.mono (Keep.alloc HKX.out _) HS.out)).to_ encPk_len hkn).2.2.2) _ (some ⟨X.heap.size, 0, none⟩) 1 1 (encPk p) (by rfl) (Reads.new rfl) (by omega) (by simp [maxLen]; omega) (by omega) (by simp) ?_; intro v5 w5 hown5 hk5 hat5; have HK5 : Hid (Keep X w5) := Keep.trans ((Keep.new X (.cells (encPk p).toArray 48)).drew) hk5; have HKS5 : Hid (Same S w w5) := Same.mono (Keep.trans HKX.out HK5.out) HS.out)
              | (refine step_append_any _ (by rfl) (.tmp 43) (.tmp 46) _ (by rfl) X.heap.size 48 i0 _ 3 24 Try.underlying33 HI.out HZ0.out HZ1.out HZ2.out rfl (by omega) v5 (k + 1) ((l.take k).flatMap encPk ++ encPk p) (by rfl) hown5 S _ 0 _ [] (by rfl) Reads.none_ (by simp) (by simp [maxLen]; omega) (by omega) HK5.out.size ?_; intro v6 w6 hown6 hg6 hat6; have HK6 : Hid (Keep X w6) := Same.append HK5.out hown5 hg6 (fun i hi => hi) HK5.out.size))
          go_wp2_with fail
          have hown7 : w6.ownsRow X.heap.size 48 3 v6 (k + 1) ((l.take k ++ [p]).flatMap encPk) := by simpa using hown6
          obtain ⟨A7, c7, rfl, hsl7⟩ := Sl.of_own' hown7 (by have h1 := HTK.out; rw [List.length_append, h1]; simp)
          go_ret
          refine ⟨A7, _, c7, rfl, ?_, Keep.trans HKX.out HK6.out⟩
          rw [HRES.out]
          exact hsl7.more (fun i hi => .inr ⟨by have := hi.1; omega, hi.2⟩)
      · have hck' : ¬ k = c := fun e => hck e.symm
        cases A with
        | none =>
          go_wp2_with fail
          go_quiet (fail)
          go_wp2_with fail
          go_quiet (fail)
          go_wp2_with fail
          generalize hX : ((W.drewN m).drewN _).drewN _ = X
          have hkX : Keep w X := hX ▸ Same.drewN (Same.drewN (Same.drewN HKW.out _) _) _
          have bX : Blk X w.heap.size 48 #[.int .i64 p.seq, .int .i64 p.ack, .int .i64 p.val] := hX ▸ BP.out
          have hzX : w.heap.size < X.heap.size := bX.lt
          have x0 : ∀ wx, Keep X wx → wx.cell? ⟨w.heap.size, 0, none⟩ = some (.int .i64 p.seq) := fun wx hx => (hx.cell (p := ⟨w.heap.size, 0, none⟩) hzX).trans (by rw [bX.cell]; rfl)
          have x1 : ∀ wx, Keep X wx → wx.cell? ⟨w.heap.size, 1, none⟩ = some (.int .i64 p.ack) := fun wx hx => (hx.cell (p := ⟨w.heap.size, 1, none⟩) hzX).trans (by rw [bX.cell]; rfl)
          have x2 : ∀ wx, Keep X wx → wx.cell? ⟨w.heap.size, 2, none⟩ = some (.int .i64 p.val) := fun wx hx => (hx.cell (p := ⟨w.heap.size, 2, none⟩) hzX).trans (by rw [bX.cell]; rfl)
          have HKX := Lib.hid hkX
          have hS1 : Keep X X.drew := (Same.refl _ _).drew
          have hkc : (k : Int) ≤ c := by omega
          have hk00 : (0 : Int) ≤ k := by omega
          have htk : (l.take k).length = k := by rw [List.length_take]; have := hnl.out; omega
          have HTK := Lib.hid htk
          clear hX hkX bX htk p0 p1 p2
          go_region_held3 (fun wx => Keep X wx)
            (first | assumption | exact hS1 | exact Keep.alloc hS1 _ | exact (Keep.alloc (Same.refl _ _) _).drew | exact HK5.out | exact HK6.out)
            (first
              | (refine step_append_full _ (by rfl) (.tmp 40) (.tmp 42) _ (by rfl) X.heap.size 48 i0 _ 3 24 Try.underlying33 HI.out HZ0.out HZ1.out HZ2.out rfl S _ k ((l.take k).flatMap encPk) (by rfl) (((H.out.keep (Same.mono (Keep.alloc HKX.out _) HS.out)).to_ encPk_len hkn).2.2.2) _ (some ⟨X.heap.size, 0, none⟩) 1 1 (encPk p) (by rfl) (Reads.new rfl) (by omega) (by simp [maxLen]; omega) (by omega) (by simp) ?_; intro v5 w5 hown5 hk5 hat5; have HK5 : Hid (Keep X w5) := Keep.trans ((Keep.new X (.cells (encPk p).toArray 48)).drew) hk5; have HKS5 : Hid (Same S w w5) := Same.mono (Keep.trans HKX.out HK5.out) HS.out)
              | (refine step_append_any _ (by rfl) (.tmp 43) (.tmp 46) _ (by rfl) X.heap.size 48 i0 _ 3 24 Try.underlying33 HI.out HZ0.out HZ1.out HZ2.out rfl (by omega) v5 (k + 1) ((l.take k).flatMap encPk ++ encPk p) (by rfl) hown5 S _ 0 _ [] (by rfl) Reads.none_ (by simp) (by simp [maxLen]; omega) (by omega) HK5.out.size ?_; intro v6 w6 hown6 hg6 hat6; have HK6 : Hid (Keep X w6) := Same.append HK5.out hown5 hg6 (fun i hi => hi) HK5.out.size))
          go_wp2_with fail
          have hown7 : w6.ownsRow X.heap.size 48 3 v6 (k + 1) ((l.take k ++ [p]).flatMap encPk) := by simpa using hown6
          obtain ⟨A7, c7, rfl, hsl7⟩ := Sl.of_own' hown7 (by have h1 := HTK.out; rw [List.length_append, h1]; simp)
          go_ret
          refine ⟨A7, _, c7, rfl, ?_, Keep.trans HKX.out HK6.out⟩
          rw [HRES.out]
          exact hsl7.more (fun i hi => .inr ⟨by have := hi.1; omega, hi.2⟩)
        | some a =>
          go_wp2_with fail
          go_quiet (fail)
          go_wp2_with fail
          go_quiet (fail)
          go_wp2_with fail
          generalize hX : ((W.drewN m).drewN _).drewN _ = X
          have hkX : Keep w X := hX ▸ Same.drewN (Same.drewN (Same.drewN HKW.out _) _) _
          have bX : Blk X w.heap.size 48 #[.int .i64 p.seq, .int .i64 p.ack, .int .i64 p.val] := hX ▸ BP.out
          have hzX : w.heap.size < X.heap.size := bX.lt
          have x0 : ∀ wx, Keep X wx → wx.cell? ⟨w.heap.size, 0, none⟩ = some (.int .i64 p.seq) := fun wx hx => (hx.cell (p := ⟨w.heap.size, 0, none⟩) hzX).trans (by rw [bX.cell]; rfl)
          have x1 : ∀ wx, Keep X wx → wx.cell? ⟨w.heap.size, 1, none⟩ = some (.int .i64 p.ack) := fun wx hx => (hx.cell (p := ⟨w.heap.size, 1, none⟩) hzX).trans (by rw [bX.cell]; rfl)
          have x2 : ∀ wx, Keep X wx → wx.cell? ⟨w.heap.size, 2, none⟩ = some (.int .i64 p.val) := fun wx hx => (hx.cell (p := ⟨w.heap.size, 2, none⟩) hzX).trans (by rw [bX.cell]; rfl)
          have HKX := Lib.hid hkX
          have hS1 : Keep X X.drew := (Same.refl _ _).drew
          have hkc : (k : Int) ≤ c := by omega
          have hk00 : (0 : Int) ≤ k := by omega
          have htk : (l.take k).length = k := by rw [List.length_take]; have := hnl.out; omega
          have HTK := Lib.hid htk
          clear hX hkX bX htk p0 p1 p2
          go_region_held3 (fun wx => Keep X wx)
            (first | assumption | exact hS1 | exact Keep.alloc hS1 _ | exact (Keep.alloc (Same.refl _ _) _).drew | exact HK5.out | exact HK6.out)
            (first
              | (refine step_append_full _ (by rfl) (.tmp 40) (.tmp 42) _ (by rfl) X.heap.size 48 i0 _ 3 24 Try.underlying33 HI.out HZ0.out HZ1.out HZ2.out rfl S _ k ((l.take k).flatMap encPk) (by rfl) (((H.out.keep (Same.mono (Keep.alloc HKX.out _) HS.out)).to_ encPk_len hkn).2.2.2) _ (some ⟨X.heap.size, 0, none⟩) 1 1 (encPk p) (by rfl) (Reads.new rfl) (by omega) (by simp [maxLen]; omega) (by omega) (by simp) ?_; intro v5 w5 hown5 hk5 hat5; have HK5 : Hid (Keep X w5) := Keep.trans ((Keep.new X (.cells (encPk p).toArray 48)).drew) hk5; have HKS5 : Hid (Same S w w5) := Same.mono (Keep.trans HKX.out HK5.out) HS.out)
              | (refine step_append_any _ (by rfl) (.tmp 43) (.tmp 46) _ (by rfl) X.heap.size 48 i0 _ 3 24 Try.underlying33 HI.out HZ0.out HZ1.out HZ2.out rfl (by omega) v5 (k + 1) ((l.take k).flatMap encPk ++ encPk p) (by rfl) hown5 S _ 0 _ [] (by rfl) Reads.none_ (by simp) (by simp [maxLen]; omega) (by omega) HK5.out.size ?_; intro v6 w6 hown6 hg6 hat6; have HK6 : Hid (Keep X w6) := Same.append HK5.out hown5 hg6 (fun i hi => hi) HK5.out.size))
          go_wp2_with fail
          have hown7 : w6.ownsRow X.heap.size 48 3 v6 (k + 1) ((l.take k ++ [p]).flatMap encPk) := by simpa using hown6
          obtain ⟨A7, c7, rfl, hsl7⟩ := Sl.of_own' hown7 (by have h1 := HTK.out; rw [List.length_append, h1]; simp)
          go_ret
          refine ⟨A7, _, c7, rfl, ?_, Keep.trans HKX.out HK6.out⟩
          rw [HRES.out]
          exact hsl7.more (fun i hi => .inr ⟨by have := hi.1; omega, hi.2⟩)
end Go.Proofs.Ytafgacfbplilpaa
