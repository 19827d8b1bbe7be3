/- Contract of the maker's New. -/
import Derived.Test.YtafgacfbplilpaaMk
set_option linter.unusedVariables false
set_option linter.unusedSimpArgs false
namespace Go.Proofs.Ytafgacfbplilpaa
open Go.RowKit Go.Proofs

def encB (x : Int) : List Value := [.int .u8 x]
theorem encB_len (x : Int) : (encB x).length = 1 := rfl
def NewPost (most : Nat) (w : World) (e : Ending) (w' : World) : Prop :=
  ∃ r, r ≤ most ∧ e = .returned (.pointer (some ⟨w.heap.size, 0, none⟩)) ∧ Cod w' (w.heap.size + 1) w.heap.size r ∧ Keep w w'

theorem new_any (w : World) (A : Option Addr) (n c most : Nat) (zs : List Int) (hl : Sl encB 1 w (· < w.heap.size) A n c zs) (hz : ∀ x ∈ zs, 0 ≤ x ∧ x < 256) (hm : most ≤ 4096) :
    Calls Try.prog 11 #[.slice A n c, .int .i64 most] w (NewPost most w) := by
  have HL := Lib.hid hl
  have HZ := Lib.hid hz
  have hnc := hl.2.1
  have hcm : c ≤ 9223372036854775807 := hl.2.2.1
  clear hl hz
  have key : ∀ (m : Nat), m ≤ n → m ≤ 4096 → Cod (w.alloc (.cells #[.slice A m c, .int .i64 0] 76)) (w.heap.size + 1) w.heap.size m := by
    intro m hmn hm4
    refine ⟨by omega, by simp, A, m, c, 0, Blk.new _ _ _, by omega, hm4, fun j hj => ?_⟩
    obtain ⟨b, off, x, e, hb, hx, hcell⟩ := HL.out.at_ encB_len (k := j) (by omega)
    have h0 := hcell 0 _ rfl
    have hxz := HZ.out x (List.mem_of_getElem? hx)
    obtain ⟨y, rfl⟩ := Int.eq_ofNat_of_zero_le hxz.1
    refine ⟨b, off, e, by omega, by omega, y, by omega, ?_⟩
    rw [World.cell?_alloc_lt _ _ _ hb]
    simpa using h0
  have HK := Lib.hid key
  clear key
  by_cases h : most < n
  · have h1 : (most : Int) < n := by omega
    have h2 : (0 : Int) ≤ most := by omega
    have h3 : (most : Int) ≤ c := by omega
    go_enter Try.func11, Try.ntmps11
    go_wp2_with fail
    go_ret
    exact ⟨most, Nat.le_refl _, rfl, HK.out most (by omega) hm, Keep.new _ _⟩
  · have h1 : ¬ (most : Int) < n := by omega
    go_enter Try.func11, Try.ntmps11
    go_wp2_with fail
    go_ret
    exact ⟨n, by omega, rfl, HK.out n (Nat.le_refl _) (by omega), Keep.new _ _⟩
end Go.Proofs.Ytafgacfbplilpaa
