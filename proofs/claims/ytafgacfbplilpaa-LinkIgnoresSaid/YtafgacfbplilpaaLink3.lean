/- Contract: link.Packets. -/
import Derived.Test.YtafgacfbplilpaaLink2
set_option linter.unusedVariables false
set_option linter.unusedSimpArgs false
namespace Go.Proofs.Ytafgacfbplilpaa
open Go.RowKit Go.Proofs

theorem info_Pk : (Try.prog.info? 48).map (fun i => (i.zero, i.size, i.bytes)) = some (some (.agg #[.int .i64 0, .int .i64 0, .int .i64 0]), 3, 24) := by kernel_rfl
def packetsTo (base : Int) (kept : List Int) (n : Nat) : List Pk := (List.range n).map fun i : Nat => ⟨base + (i : Int), 0, kept.getD i 0⟩
def packetsS (k : Lk) : List Pk := packetsTo k.base k.kept k.kept.length
theorem packetsTo_len (base : Int) (kept : List Int) (n : Nat) : (packetsTo base kept n).length = n := by simp [packetsTo]
theorem packetsTo_succ (base : Int) (kept : List Int) (n : Nat) (x : Int) (h : kept[n]? = some x) : packetsTo base kept (n + 1) = packetsTo base kept n ++ [⟨base + n, 0, x⟩] := by
  unfold packetsTo
  rw [List.range_succ, List.map_append]
  simp [h]
def PksPost (l : List Pk) (w : World) (e : Ending) (w' : World) : Prop :=
  ∃ (A : Option Addr) (n c : Nat), e = .returned (.slice A n c) ∧ Sl encPk 3 w' (fun i => w.heap.size ≤ i ∧ i < w'.heap.size) A n c l ∧ Keep w w'
def PksRel (k : Lk) (W : World) (w : World) (v i : Value) (wr : World) : Prop :=
  ∃ j : Nat, j ≤ k.kept.length ∧ i = .int .i64 j ∧ wr.ownsRow W.heap.size 48 3 v j ((packetsTo k.base k.kept j).flatMap encPk) ∧ Keep W wr

set_option maxHeartbeats 4000000 in
theorem packets_any (w : World) (S : Nat → Prop) (cs : List Value) (k : Lk) (hS : ∀ i, S i → i < w.heap.size) (h : LkR w S cs k) (hn : k.kept.length ≤ 1000) (hb0 : 0 ≤ k.base) (hb1 : k.base ≤ 1000000) :
    Calls Try.prog 24 #[.agg cs.toArray] w (PksPost (packetsS k) w) := by
  obtain ⟨i0, hi0, hz0, hz1, hz2⟩ := info_of info_Pk
  obtain ⟨A1, A2, n1, c1, n2, c2, rfl, h1, h2⟩ := h
  have HI := Lib.hid hi0
  have HZ0 := Lib.hid hz0
  have HZ1 := Lib.hid hz1
  have HZ2 := Lib.hid hz2
  have H1 := Lib.hid h1
  have HS := Lib.hid hS
  have hnl := Lib.hid h1.1
  have hnn : n1 ≤ 1000 := by rw [h1.1]; exact hn
  clear h1 h2 hS hi0 hz0 hz1 hz2 hn
  go_enter Try.func24, Try.ntmps24
  go_wp2_with fail
  generalize hW : w.alloc (.cells #[.int .i64 k.win, .int .i64 k.base, .slice A1 n1 c1, .int .i64 k.want, .slice A2 n2 c2] 35) = W
  have hkW : Keep w W := hW ▸ Keep.new _ _
  have hzW : w.heap.size < W.heap.size := by rw [← hW]; simp
  have bK : Blk W w.heap.size 35 #[.int .i64 k.win, .int .i64 k.base, .slice A1 n1 c1, .int .i64 k.want, .slice A2 n2 c2] := hW ▸ Blk.new _ _ _
  have HKW := Lib.hid hkW
  have BK := Lib.hid bK
  clear hW hkW bK
  go_loopw [3, 9] (fun v i wr => PksRel k W w v i wr) (fun _ i _ => n1 - (intOf i).toNat)
  case atStart => exact ⟨0, by omega, rfl, World.ownsRow_nil _ _ _ _, Same.refl _ _⟩
  case round =>
    obtain ⟨j, hjl, rfl, hown, hkp⟩ := hrel
    have hjn : j ≤ n1 := by have := hnl.out; omega
    have HO := Lib.hid hown
    have HK := Lib.hid hkp
    have hsz := hkp.size
    clear hown hkp hjl
    by_cases hj : j < n1
    · obtain ⟨b, off, x, rfl, hSb, hx, hc⟩ := (H1.out.keep (Same.mono (Keep.trans HKW.out HK.out) HS.out)).at_ encI_len hj
      have hc0 : wr.cell? ⟨b, off + j, none⟩ = some (.int .i64 x) := by have := hc 0 _ rfl; simpa using this
      have hb : wr.cell? ⟨w.heap.size, 1, none⟩ = some (.int .i64 k.base) := by rw [(HK.out.blk BK.out BK.out.lt).cell]; rfl
      have HX := Lib.hid hx
      have j0 : (0 : Int) ≤ j := by omega
      have j1 : (j : Int) < n1 := by omega
      clear hx hc
      go_wp2_with (at_builtin; refine wpList_append_any _ rfl (.tmp 14) (.tmp 21) _ rfl W.heap.size 48 i0 _ 3 24 Try.underlying33 HI.out HZ0.out HZ1.out HZ2.out rfl (by omega) _ j ((packetsTo k.base k.kept j).flatMap encPk) rfl (HO.out.alloc _) _ (some ⟨wr.heap.size, 0, none⟩) 1 1 (encPk ⟨k.base + j, 0, x⟩) rfl (Reads.new rfl) (encPk_one _) (by simp [maxLen]; omega) (by omega) (by simp; omega) ?_; intro v5 w5 hown5 hg5 hat5)
      go_roundw
      case rel =>
        refine ⟨j + 1, by have := hnl.out; omega, by go_num, ?_, ?_⟩
        · rw [packetsTo_succ _ _ _ x HX.out]
          simpa using hown5
        · exact (Keep.alloc HK.out _).append (HO.out.alloc _) hg5 (fun i hi => hi) (by simp; omega)
      case measure => simp [intOf]; omega
    · obtain rfl : j = n1 := by omega
      have ho := HO.out
      obtain ⟨A', c', rfl, hsl⟩ := Sl.of_own' ho (packetsTo_len _ _ _).symm
      have HSL := Lib.hid hsl
      clear ho hsl
      have hd : decide ((j : Int) < (j : Int)) = false := by simp
      go_wp2_with fail
      go_ret
      refine ⟨A', j, c', rfl, ?_, Keep.trans HKW.out HK.out⟩
      unfold packetsS
      rw [← hnl.out]
      exact HSL.out.more (fun i hi => ⟨by have := hi.1; omega, hi.2⟩)
end Go.Proofs.Ytafgacfbplilpaa
