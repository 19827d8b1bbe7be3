/- slices.Clone, slices.Clip. -/
import Derived.Test.YthmepnpjagpcnaaProg
import Derived.Test.YthmepnpjagpcnaaData
import Derived.Test.YthmepnpjagpcnaaBlk
import Derived.Lib.SliceRun
set_option linter.unusedVariables false
set_option linter.unusedSimpArgs false
set_option maxRecDepth 100000
namespace Go.Proofs.Ythmepnpjagpcnaa
open Go.RowKit Go.Proofs

theorem info_Int : (Try.prog.info? 3).map (fun i => (i.zero, i.size, i.bytes)) = some (some (.int .i64 0), 1, 8) := by kernel_rfl
theorem info_Event : (Try.prog.info? 50).map (fun i => (i.zero, i.size, i.bytes)) = some (some (.agg #[.int .i64 0, .int .i64 0, .int .i64 0, .int .i64 0, .int .i64 0, .int .i64 0, .int .i64 0]), 7, 56) := by kernel_rfl
def OwnPost (ty : TypeId) (size : Nat) (n : Nat) (xs : List Value) (w : World) (e : Ending) (w' : World) : Prop := ∃ v, e = .returned v ∧ w'.ownsRow w.heap.size ty size v n xs ∧ Keep w w'
theorem owns_empty (w : World) (e : TypeId) (size : Nat) : (w.alloc (.cells #[] e)).ownsRow w.heap.size e size (.slice (some ⟨w.heap.size, 0, none⟩) 0 0) 0 [] :=
  ⟨by simp, .inr ⟨w.heap.size, 0, #[], rfl, Nat.le_refl _, heap_alloc_new w _, Nat.le_refl _, by simp [maxLen], by simp, by simp⟩⟩


set_option maxHeartbeats 4000000 in
theorem cloneInts_any (w : World) (S : Nat → Prop) (A : Option Addr) (n c : Nat) (l : List Int) (hl : Sl encI 1 w S A n c l) (hS : ∀ i, S i → i < w.heap.size) (hn : n ≤ 1000000) :
    Calls Try.prog 30 #[.slice A n c] w (OwnPost 3 1 l.length (l.flatMap encI) w) := by
  obtain ⟨i0, hi0, iz0, iz1, iz2⟩ := info_of info_Int
  have hnl := hl.1
  have q22 : ∀ (w : World) (a : Option Addr) (n c n' c' : Nat), (binOp .eql 23 (.slice a n c) (.slice none n' c')).run Try.prog w = .ok (.bool a.isNone) w := fun w a n c n' c' => Lib.run_eql_slice_nil w _ _ a n c n' c' Try.underlying23
  cases A with
  | none =>
    have h0 : l = [] := by
      have : ¬ 0 < n := fun h => by obtain ⟨_, _, h, _⟩ := hl.2.2.2.2 h; cases h
      exact List.eq_nil_of_length_eq_zero (by omega)
    subst h0
    clear hl hi0 iz0 iz1 iz2
    go_enter Try.func30, Try.ntmps30
    go_wp2_with fail
    go_ret
    exact ⟨_, rfl, World.ownsRow_nil _ _ _ _, Same.refl _ _⟩
  | some ad =>
    have hk := Keep.new w (.cells #[] 3)
    have hl2 := (hl.more hS).keep hk
    have HL2 := Lib.hid hl2
    have HI0 := Lib.hid hi0
    have IZ0 := Lib.hid iz0
    have IZ1 := Lib.hid iz1
    have IZ2 := Lib.hid iz2
    have HK := Lib.hid hk
    have HNL := Lib.hid hnl
    clear hl2 hi0 iz0 iz1 iz2 hk hnl
    clear hl
    go_enter Try.func30, Try.ntmps30
    go_wp2_with (refine wpList_append_any _ rfl (.tmp 5) (.tmp 6) _ rfl w.heap.size 3 i0 _ 1 8 Try.underlying23 HI0.out IZ0.out IZ1.out IZ2.out rfl (by omega) _ 0 [] rfl (owns_empty w _ _) _ (some ad) n c (l.flatMap encI) rfl HL2.out.2.2.2 (fun u hu => by obtain ⟨x, _, hx⟩ := List.mem_flatMap.1 hu; exact encI_one x u hx) (by simp [maxLen]; omega) (by omega) (by simp) ?_; intro v5 w5 hown5 hg5 hat5)
    go_ret
    refine ⟨_, rfl, ?_, Same.append HK.out (owns_empty w _ 1) hg5 (fun i hi => hi) (by simp)⟩
    have := HNL.out
    simpa [this] using hown5


theorem clipEvents_any (w : World) (A : Option Addr) (n c : Nat) (h1 : n ≤ c) (h2 : c ≤ 9223372036854775807) : Calls Try.prog 63 #[.slice A n c] w fun e w' => e = .returned (.slice A n n) ∧ w' = w := by
  have h3 : (n : Int) ≤ c := by omega
  have h4 : (0 : Int) ≤ n := by omega
  go_enter Try.func63, Try.ntmps63
  go_wp2_with fail
  go_ret
  exact ⟨rfl, rfl⟩

theorem clipSends_any (w : World) (A : Option Addr) (n c : Nat) (h1 : n ≤ c) (h2 : c ≤ 9223372036854775807) : Calls Try.prog 64 #[.slice A n c] w fun e w' => e = .returned (.slice A n n) ∧ w' = w := by
  have h3 : (n : Int) ≤ c := by omega
  have h4 : (0 : Int) ≤ n := by omega
  go_enter Try.func64, Try.ntmps64
  go_wp2_with fail
  go_ret
  exact ⟨rfl, rfl⟩

theorem clipOuts_any (w : World) (A : Option Addr) (n c : Nat) (h1 : n ≤ c) (h2 : c ≤ 9223372036854775807) : Calls Try.prog 65 #[.slice A n c] w fun e w' => e = .returned (.slice A n n) ∧ w' = w := by
  have h3 : (n : Int) ≤ c := by omega
  have h4 : (0 : Int) ≤ n := by omega
  go_enter Try.func65, Try.ntmps65
  go_wp2_with fail
  go_ret
  exact ⟨rfl, rfl⟩
end Go.Proofs.Ythmepnpjagpcnaa
