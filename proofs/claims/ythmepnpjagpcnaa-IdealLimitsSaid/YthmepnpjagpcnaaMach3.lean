/- The interpreter's machine: set. -/
import Derived.Test.YthmepnpjagpcnaaMach2
set_option linter.unusedVariables false
set_option linter.unusedSimpArgs false
set_option maxRecDepth 100000
namespace Go.Proofs.Ythmepnpjagpcnaa
open Go.RowKit Go.Proofs

theorem flat_int : ∀ xs : List Int, xs.flatMap encI = xs.map (fun x => Value.int .i64 x)
  | [] => rfl
  | x :: xs => by rw [List.flatMap_cons, flat_int xs]; rfl
/-- One number of a row of the call's own is changed. -/
theorem own_put {w : World} {base n : Nat} {e : TypeId} {v : Value} {xs : List Int} (h : w.ownsRow base e 1 v n (xs.flatMap encI)) {k : Nat} (hk : k < n) (x : Int) : ∃ (g cap : Nat) (cur : Array Value), v = .slice (some ⟨g, 0, none⟩) n cap ∧ base ≤ g ∧ Blk w g e cur ∧ k < cur.size ∧ n ≤ cap ∧ cap ≤ 9223372036854775807 ∧
    ∀ w', Blk w' g e (cur.setIfInBounds k (.int .i64 x)) → w'.ownsRow base e 1 v n ((xs.set k x).flatMap encI) := by
  obtain ⟨hl, h2⟩ := h
  rcases h2 with ⟨_, h0⟩ | ⟨g, cap, cur, rfl, hbg, hh, hnc, hcm, hcs, htake⟩
  · omega
  · refine ⟨g, cap, cur, rfl, hbg, hh, by omega, hnc, hcm, fun w' hb' => ⟨?_, .inr ⟨g, cap, cur.setIfInBounds k (.int .i64 x), rfl, hbg, hb', hnc, hcm, by simpa using hcs, ?_⟩⟩⟩
    · rw [flat_length encI_len] at hl ⊢
      simpa using hl
    · rw [flat_int, List.map_set, ← flat_int, ← htake]
      simp [List.take_set]
theorem ownsRow_own {w w' : World} {T : Nat → Prop} {base n size : Nat} {e : TypeId} {v : Value} {xs : List Value} (h : w.ownsRow base e size v n xs) (k : Same T w w') (hT : ∀ b, v.ownBlock = some b → T b) : w'.ownsRow base e size v n xs := by
  refine ⟨h.1, ?_⟩
  rcases h.2 with hn | ⟨g, cap, cur, rfl, hb, hgg, rest⟩
  · exact .inl hn
  · exact .inr ⟨g, cap, cur, rfl, hb, (k.block g (hT g rfl)).trans hgg, rest⟩
def UnitPost (base g : Nat) (v : EnvS) (m : Ms) (w : World) (e : Ending) (w' : World) : Prop := e = .returned (.tuple #[]) ∧ Mach w' base g v m ∧ Same (· < base) w w'
set_option maxHeartbeats 4000000 in
theorem set_any (w : World) (base g : Nat) (v : EnvS) (st : Ms) (k x : Int) (hm : Mach w base g v st) : Calls Try.prog 73 #[.pointer (some ⟨g, 0, none⟩), .int .i64 k, .int .i64 x] w (UnitPost base g v (st.set k x) w) := by
  have hm' := hm
  obtain ⟨C, E, hb, hc, hE, h1, h2, h3, h4⟩ := hm
  obtain ⟨A, c, hCe, hnc, hcm⟩ := own_form hc
  have hcm' : c ≤ 9223372036854775807 := hcm
  subst hCe
  have c0 : w.cell? ⟨g, 0, none⟩ = some (.slice A st.cells.length c) := by rw [hb.cell]; rfl
  by_cases hk : 0 ≤ k ∧ k < st.cells.length
  · obtain ⟨j, rfl⟩ := Int.eq_ofNat_of_zero_le hk.1
    have hj : j < st.cells.length := by omega
    have hs : st.set j x = { st with cells := st.cells.set j x } := by unfold Ms.set; rw [if_pos hk]; simp
    obtain ⟨gb, cap, cur, hv, hbg, hbl, hkc, _, _, hput⟩ := own_put hc hj x
    injection hv with hA _ hc'
    subst hA hc'
    have d1 : decide ((j : Int) < (st.cells.length : Int)) = true := by simpa using hj
    have d2 : (j : Int) < (st.cells.length : Int) := by omega
    have d3 : (0 : Int) ≤ j := by omega
    have hgg : gb ≠ g := fun e => h2 (by rw [e]; rfl)
    rw [hs]
    have HB := Lib.hid hb
    have HC := Lib.hid hc
    have HE := Lib.hid hE
    have HBL := Lib.hid hbl
    have HPUT := Lib.hid hput
    have H4 := Lib.hid h4
    have HM' := Lib.hid hm'
    clear hb hc hE hbl hput h4 hm'
    clear hs hk
    go_enter Try.func73, Try.ntmps73
    go_wp2_with (refine wpList_store_one rfl _ (.tmp 23) _ rfl gb j 3 cur (.int .i64 x) rfl rfl HBL.out hkc (by kernel_rfl) rfl rfl ?_; intro w1 hb1 hs1)
    refine bodyPost_end (results_none Try.results73 _ _ _) rfl ⟨rfl, ⟨_, E, hs1.blk HB.out (fun e => hgg e.symm), ?_, ownsRow_own HE.out hs1 (fun b hb e => H4.out gb rfl (by rw [← e]; exact hb)), h1, h2, h3, H4.out⟩, hs1.mono (fun i hi => by omega)⟩
    simpa using HPUT.out w1 hb1
  · have hs : st.set k x = st := if_neg hk
    rw [hs]
    have HB := Lib.hid hb
    have HC := Lib.hid hc
    have HE := Lib.hid hE
    have H4 := Lib.hid h4
    have HM' := Lib.hid hm'
    clear hb hc hE h4 hm'
    clear hs
    by_cases h0 : 0 ≤ k
    · have d1 : decide (k < (st.cells.length : Int)) = false := by simp; omega
      go_enter Try.func73, Try.ntmps73
      go_wp2_with fail
      exact bodyPost_end (results_none Try.results73 _ _ _) rfl ⟨rfl, HM'.out, Same.refl _ _⟩
    · go_enter Try.func73, Try.ntmps73
      go_wp2_with fail
      exact bodyPost_end (results_none Try.results73 _ _ _) rfl ⟨rfl, HM'.out, Same.refl _ _⟩
end Go.Proofs.Ythmepnpjagpcnaa
