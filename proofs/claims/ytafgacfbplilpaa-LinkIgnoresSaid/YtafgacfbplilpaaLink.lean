/- Contracts: link.New, link.Offer, link.Idle, slices.Clip, and the reference's New, Idle. -/
import Derived.Test.YtafgacfbplilpaaProg
import Derived.Test.YtafgacfbplilpaaApp
set_option linter.unusedVariables false
set_option linter.unusedSimpArgs false
namespace Go.Proofs.Ytafgacfbplilpaa
open Go.RowKit Go.Proofs

theorem info_int' : (Try.prog.info? 3).map (fun i => (i.zero, i.size, i.bytes)) = some (some (.int .i64 0), 1, 8) := by kernel_rfl
def zeroLk : Lk := ⟨0, 0, [], 0, []⟩
def newS (win : Int) : Lk := if win < 1 ∨ 8 < win then zeroLk else ⟨win, 1, [], 1, []⟩
def newErr (win : Int) : Int := if win < 1 ∨ 8 < win then 3 else 0
/-- A link and an error code; the link's slices lie in blocks of S or in new ones. -/
def LkErr (k : Lk) (err : Int) (S : Nat → Prop) (w : World) (e : Ending) (w' : World) : Prop :=
  ∃ cs, e = .returned (.tuple #[.agg cs.toArray, .int .i64 err]) ∧ LkR w' (fun i => S i ∨ (w.heap.size ≤ i ∧ i < w'.heap.size)) cs k ∧ Keep w w'
def lkCells (a b : Int) (A1 : Option Addr) (n1 c1 : Nat) (c : Int) (A2 : Option Addr) (n2 c2 : Nat) : List Value := [.int .i64 a, .int .i64 b, .slice A1 n1 c1, .int .i64 c, .slice A2 n2 c2]
theorem load_lk {w : World} {g : Nat} {cs : Array Value} (vs : List Value) (h : Blk w g 35 cs) (e : cs = vs.toArray) (hl : vs.length = 5) : (loadVar 35 ⟨g, 0, none⟩).run Try.prog w = .ok (.agg vs.toArray) w := by
  subst e
  refine loadVar_blk vs _ h (fun j v hv => by rw [Nat.zero_add]; simpa using hv) Try.underlying35 rfl ?_
  rw [hl]
  kernel_rfl

theorem new15_any (win : Int) (w : World) (S : Nat → Prop) : Calls Try.prog 18 #[.int .i64 win] w (LkErr (newS win) (newErr win) S w) := by
  have hR : ∀ (w' : World) (T : Nat → Prop) (a b c : Int), LkR w' T [.int .i64 a, .int .i64 b, .slice none 0 0, .int .i64 c, .slice none 0 0] ⟨a, b, [], c, []⟩ := fun w' T a b c => ⟨none, none, 0, 0, 0, 0, rfl, Sl.nil_, Sl.nil_⟩
  have HR := Lib.hid hR
  clear hR
  by_cases h : win < 1 ∨ 8 < win
  · have e1 : newS win = zeroLk := if_pos h
    have e2 : newErr win = 3 := if_pos h
    rw [e1, e2]
    clear e1 e2
    rcases h with h | h
    · have hd : decide (win < 1) = true := by simpa using h
      go_enter Try.func18, Try.ntmps18
      go_wp2_with (refine wpList_store_blk rfl _ (.tmp 2) (.tmp 10) rfl w.heap.size 0 35 _ [.int .i64 0, .int .i64 0, .slice none 0 0, .int .i64 0, .slice none 0 0] rfl rfl (Blk.new _ _ _) (by simp) (by kernel_rfl) rfl ?_; intro w4 hb4 hs4; have HB4 := Lib.hid hb4; have HS4 := Lib.hid hs4; clear hb4 hs4)
      exact bodyPost_ret (results_cell_tmp' Try.results18 _ _ _ ⟨w.heap.size, 0, none⟩ _ _ rfl rfl (load_lk _ HB4.out (by simp [splice]) rfl)) rfl ⟨_, rfl, HR.out _ _ 0 0 0, Keep.write (Keep.new _ _) HS4.out (Nat.le_refl _)⟩
    · have hd : decide (8 < win) = true := by simpa using h
      have hd1 : decide (win < 1) = false := by simp; omega
      go_enter Try.func18, Try.ntmps18
      go_wp2_with (refine wpList_store_blk rfl _ (.tmp 2) (.tmp 10) rfl w.heap.size 0 35 _ [.int .i64 0, .int .i64 0, .slice none 0 0, .int .i64 0, .slice none 0 0] rfl rfl (Blk.new _ _ _) (by simp) (by kernel_rfl) rfl ?_; intro w4 hb4 hs4; have HB4 := Lib.hid hb4; have HS4 := Lib.hid hs4; clear hb4 hs4)
      exact bodyPost_ret (results_cell_tmp' Try.results18 _ _ _ ⟨w.heap.size, 0, none⟩ _ _ rfl rfl (load_lk _ HB4.out (by simp [splice]) rfl)) rfl ⟨_, rfl, HR.out _ _ 0 0 0, Keep.write (Keep.new _ _) HS4.out (Nat.le_refl _)⟩
  · have e1 : newS win = ⟨win, 1, [], 1, []⟩ := if_neg h
    have e2 : newErr win = 0 := if_neg h
    rw [e1, e2]
    have hd : decide (8 < win) = false := by simp; omega
    have hd1 : decide (win < 1) = false := by simp; omega
    clear e1 e2 h
    go_enter Try.func18, Try.ntmps18
    go_wp2_with (refine wpList_store_blk rfl _ (.tmp 2) (.tmp 12) rfl w.heap.size 0 35 _ [.int .i64 win, .int .i64 1, .slice none 0 0, .int .i64 1, .slice none 0 0] rfl rfl (Blk.new _ _ _) (by simp) (by kernel_rfl) rfl ?_; intro w4 hb4 hs4; have HB4 := Lib.hid hb4; have HS4 := Lib.hid hs4; clear hb4 hs4)
    exact bodyPost_ret (results_cell_tmp' Try.results18 _ _ _ ⟨w.heap.size, 0, none⟩ _ _ rfl rfl (load_lk _ HB4.out (by simp [splice]) rfl)) rfl ⟨_, rfl, HR.out _ _ win 1 1, Keep.write (Keep.new _ _) HS4.out (Nat.le_refl _)⟩

theorem clip_any (w : World) (A : Option Addr) (n c : Nat) (h1 : n ≤ c) (h2 : c ≤ 9223372036854775807) : Calls Try.prog 40 #[.slice A n c] w fun e w' => e = .returned (.slice A n n) ∧ w = w' := by
  have a1 : (n : Int) ≤ c := by omega
  have a0 : (0 : Int) ≤ n := by omega
  go_enter Try.func40, Try.ntmps40
  go_wp2_with fail
  go_ret
  exact ⟨rfl, rfl⟩

def offerS (k : Lk) (v : Int) : Lk := if k.win ≤ k.kept.length then zeroLk else { k with kept := k.kept ++ [v] }
def offerErr (k : Lk) : Int := if k.win ≤ k.kept.length then 15 else 0
set_option maxHeartbeats 2000000 in
theorem offer_any (w : World) (S : Nat → Prop) (cs : List Value) (k : Lk) (v : Int) (hS : ∀ i, S i → i < w.heap.size) (h : LkR w S cs k) (hn : k.kept.length ≤ 1000) :
    Calls Try.prog 22 #[.agg cs.toArray, .int .i64 v] w (LkErr (offerS k v) (offerErr k) S w) := by
  obtain ⟨i0, hi0, hz0, hz1, hz2⟩ := info_of info_int'
  obtain ⟨A1, A2, n1, c1, n2, c2, rfl, h1, h2⟩ := h
  have HI := Lib.hid hi0
  have HZ0 := Lib.hid hz0
  have HZ1 := Lib.hid hz1
  have HZ2 := Lib.hid hz2
  have H1 := Lib.hid h1
  have H2 := Lib.hid h2
  have HS := Lib.hid hS
  have hnl := Lib.hid h1.1
  have hnn : n1 ≤ 1000 := by rw [h1.1]; exact hn
  have hnc := h1.2.1
  have hcm : c1 ≤ 9223372036854775807 := h1.2.2.1
  clear h1 h2 hS hi0 hz0 hz1 hz2 hn
  by_cases hw : k.win ≤ n1
  · have e1 : offerS k v = zeroLk := if_pos (by rw [← hnl.out]; exact hw)
    have e2 : offerErr k = 15 := if_pos (by rw [← hnl.out]; exact hw)
    rw [e1, e2]
    clear e1 e2
    go_enter Try.func22, Try.ntmps22
    go_wp2_with (refine wpList_store_blk rfl _ (.tmp 4) (.tmp 12) rfl (w.heap.size + 1) 0 35 _ [.int .i64 0, .int .i64 0, .slice none 0 0, .int .i64 0, .slice none 0 0] rfl rfl (by have := Blk.new (w.alloc (.cells #[.int .i64 k.win, .int .i64 k.base, .slice A1 n1 c1, .int .i64 k.want, .slice A2 n2 c2] 35)) 35 #[.int .i64 0, .int .i64 0, .slice none 0 0, .int .i64 0, .slice none 0 0]; simpa using this) (by simp) (by kernel_rfl) rfl ?_; intro w4 hb4 hs4; have HB4 := Lib.hid hb4; have HS4 := Lib.hid hs4; clear hb4 hs4)
    exact bodyPost_ret (results_cell_tmp' Try.results22 _ _ _ ⟨w.heap.size + 1, 0, none⟩ _ _ rfl rfl (load_lk [.int .i64 0, .int .i64 0, .slice none 0 0, .int .i64 0, .slice none 0 0] HB4.out (by simp [splice]) rfl)) rfl ⟨_, rfl, ⟨none, none, 0, 0, 0, 0, rfl, Sl.nil_, Sl.nil_⟩, Keep.write (Keep.alloc (Keep.new _ _) _) HS4.out (by omega)⟩
  · have e1 : offerS k v = { k with kept := k.kept ++ [v] } := if_neg (by rw [← hnl.out]; exact hw)
    have e2 : offerErr k = 0 := if_neg (by rw [← hnl.out]; exact hw)
    rw [e1, e2]
    clear e1 e2
    go_enter Try.func22, Try.ntmps22
    go_wp2_with fail
    generalize hW : (w.alloc (.cells #[.int .i64 k.win, .int .i64 k.base, .slice A1 n1 c1, .int .i64 k.want, .slice A2 n2 c2] 35)).alloc (.cells #[.int .i64 0, .int .i64 0, .slice none 0 0, .int .i64 0, .slice none 0 0] 35) = W
    have hkW : Keep w W := hW ▸ Keep.alloc (Keep.new _ _) _
    have hzW : W.heap.size = w.heap.size + 2 := by rw [← hW]; simp
    have bK : Blk W w.heap.size 35 #[.int .i64 k.win, .int .i64 k.base, .slice A1 n1 c1, .int .i64 k.want, .slice A2 n2 c2] := hW ▸ (Blk.new _ _ _).alloc _
    have bR : Blk W (w.heap.size + 1) 35 #[.int .i64 0, .int .i64 0, .slice none 0 0, .int .i64 0, .slice none 0 0] := by
      rw [← hW]
      have := Blk.new (w.alloc (.cells #[.int .i64 k.win, .int .i64 k.base, .slice A1 n1 c1, .int .i64 k.want, .slice A2 n2 c2] 35)) 35 #[.int .i64 0, .int .i64 0, .slice none 0 0, .int .i64 0, .slice none 0 0]
      simpa using this
    have HKW := Lib.hid hkW
    have BK := Lib.hid bK
    have BR := Lib.hid bR
    have HZW := Lib.hid hzW
    clear hkW hzW bK bR hW
    refine (clip_any W A1 n1 c1 hnc hcm).mono ?_
    rintro e w' ⟨rfl, rfl⟩
    go_wp2_with (first
      | (at_builtin; refine wpList_append_full _ rfl (.tmp 15) (.tmp 17) _ rfl W.heap.size 3 i0 _ 1 8 Try.underlying23 HI.out HZ0.out HZ1.out HZ2.out rfl S A1 n1 (k.kept.flatMap encI) rfl ((H1.out.keep (Same.mono (Keep.alloc HKW.out _) HS.out)).2.2.2) _ (some ⟨W.heap.size, 0, none⟩) 1 1 (encI v) rfl (Reads.new rfl) (by omega) (by simp [maxLen]; omega) (by omega) (by simp) ?_; intro v5 w5 hown5 hk5 hat5; have HK5 := Lib.hid (Keep.trans (Keep.new W (.cells #[.int .i64 v] 3)) hk5); have hown6 : w5.ownsRow W.heap.size 3 1 v5 (n1 + 1) ((k.kept ++ [v]).flatMap encI) := (by simpa using hown5); obtain ⟨A5, c5, hv5, hsl5⟩ := Sl.of_own' hown6 (by have := hnl.out; simp; omega); rw [hv5]; have HSL5 := Lib.hid hsl5; clear hown5 hown6 hk5 hat5 hsl5 hv5)
      | (refine wpList_store_one rfl _ (.tmp 19) (.tmp 18) rfl w.heap.size 2 35 _ (.slice A5 (n1 + 1) c5) rfl rfl (HK5.out.blk BK.out BK.out.lt) (by simp) (by kernel_rfl) rfl rfl ?_; intro w6 hb6 hs6; have HB6 := Lib.hid hb6; have HS6 := Lib.hid hs6; clear hb6 hs6)
      | (refine wpList_load_blk rfl _ (.tmp 2) rfl w.heap.size 0 35 _ [.int .i64 k.win, .int .i64 k.base, .slice A5 (n1 + 1) c5, .int .i64 k.want, .slice A2 n2 c2] _ rfl HB6.out (by simp) Try.underlying35 rfl (by kernel_rfl) ?_)
      | (refine wpList_store_blk rfl _ (.tmp 4) (.tmp 20) rfl (w.heap.size + 1) 0 35 _ [.int .i64 k.win, .int .i64 k.base, .slice A5 (n1 + 1) c5, .int .i64 k.want, .slice A2 n2 c2] rfl rfl (HS6.out.blk (HK5.out.blk BR.out BR.out.lt) (by omega)) (by simp) (by kernel_rfl) rfl ?_; intro w7 hb7 hs7; have HB7 := Lib.hid hb7; have HS7 := Lib.hid hs7; clear hb7 hs7))
    have hz := HZW.out
    have hz5 := HK5.out.size
    have hz6 := HS6.out.size
    have hz7 := HS7.out.size
    refine bodyPost_ret (results_cell_tmp' Try.results22 _ _ _ ⟨w.heap.size + 1, 0, none⟩ _ _ rfl rfl (load_lk [.int .i64 k.win, .int .i64 k.base, .slice A5 (n1 + 1) c5, .int .i64 k.want, .slice A2 n2 c2] HB7.out (by simp [splice]) rfl)) rfl ⟨_, rfl, ⟨A5, A2, _, c5, n2, c2, rfl, ?_, ?_⟩, Keep.write (Keep.write (Keep.trans HKW.out HK5.out) HS6.out (by omega)) HS7.out (by omega)⟩
    · refine ((HSL5.out.keep (Same.mono HS6.out (fun i hi => ?_))).keep (Same.mono HS7.out (fun i hi => ?_))).more (fun i hi => ?_)
      · have := hi.1; omega
      · have := hi.1; omega
      · have := hi.1; have := hi.2; exact .inr ⟨by omega, by omega⟩
    · have hs : Same S w w7 := Same.trans (Same.trans (Same.mono (Keep.trans HKW.out HK5.out) HS.out) HS6.out (fun i hi => by have := HS.out i hi; omega)) HS7.out (fun i hi => by have := HS.out i hi; omega)
      exact (H2.out.keep hs).more (fun i hi => .inl hi)
end Go.Proofs.Ytafgacfbplilpaa
