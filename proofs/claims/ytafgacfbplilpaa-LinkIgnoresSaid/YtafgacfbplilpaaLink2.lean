/- Contract: link.Confirm. -/
import Derived.Test.YtafgacfbplilpaaLink
set_option linter.unusedVariables false
set_option linter.unusedSimpArgs false
namespace Go.Proofs.Ytafgacfbplilpaa
open Go.RowKit Go.Proofs

theorem Blk.new11 (w : World) (o p : Obj) (t : TypeId) (cs : Array Value) : Blk (((w.alloc o).alloc p).alloc (.cells cs t)) (w.heap.size + 1 + 1) t cs := by simpa using Blk.new ((w.alloc o).alloc p) t cs
def confirmS (k : Lk) (p : Pk) : Lk := if p.seq = 0 ∧ k.base ≤ p.ack ∧ p.ack - k.base < k.kept.length then { k with kept := k.kept.drop (p.ack - k.base + 1).toNat, base := p.ack + 1 } else k
def LkOne (k : Lk) (S : Nat → Prop) (w : World) (e : Ending) (w' : World) : Prop :=
  ∃ cs, e = .returned (.agg cs.toArray) ∧ LkR w' (fun i => S i ∨ (w.heap.size ≤ i ∧ i < w'.heap.size)) cs k ∧ Keep w w'
set_option maxHeartbeats 4000000 in
theorem confirm_any (w : World) (S : Nat → Prop) (cs : List Value) (k : Lk) (p : Pk) (hS : ∀ i, S i → i < w.heap.size) (h : LkR w S cs k) (hn : k.kept.length ≤ 1000) (hb0 : 0 ≤ k.base) (hb1 : k.base ≤ 1000000) (hp : I64 p.ack) :
    Calls Try.prog 23 #[.agg cs.toArray, .agg #[.int .i64 p.seq, .int .i64 p.ack, .int .i64 p.val]] w (LkOne (confirmS k p) S w) := by
  obtain ⟨A1, A2, n1, c1, n2, c2, rfl, h1, h2⟩ := h
  have H1 := Lib.hid h1
  have H2 := Lib.hid h2
  have HS := Lib.hid hS
  have hnl := Lib.hid h1.1
  have hnn : n1 ≤ 1000 := by rw [h1.1]; exact hn
  have hnc := h1.2.1
  have hcm : c1 ≤ 9223372036854775807 := h1.2.2.1
  obtain ⟨hp1, hp2⟩ := hp
  clear h1 h2 hS hn
  by_cases hc : p.seq = 0 ∧ k.base ≤ p.ack ∧ p.ack - k.base < n1
  · obtain ⟨q1, q2, q3⟩ := hc
    have e1 : confirmS k p = { k with kept := k.kept.drop (p.ack - k.base + 1).toNat, base := p.ack + 1 } := if_pos ⟨q1, q2, by rw [← hnl.out]; exact q3⟩
    rw [e1]
    clear e1
    obtain ⟨d, hd⟩ := Int.eq_ofNat_of_zero_le (show 0 ≤ p.ack - k.base by omega)
    obtain ⟨seq, ack, val⟩ := p
    simp only at *
    subst q1
    obtain rfl : ack = k.base + d := by omega
    have e5 : (k.base + (d : Int) - k.base + 1).toNat = d + 1 := by omega
    rw [e5]
    clear e5
    have t2 : decide (k.base + d < k.base) = false := by simp; omega
    have t3 : decide ((n1 : Int) ≤ k.base + d - k.base) = false := by simp; omega
    have t4 : (k.base + (d : Int) - k.base) = d := by omega
    have dn : d < n1 := by omega
    have HD := Lib.hid hd
    clear hd q2 q3
    obtain ⟨b, off, rfl, hSb, _⟩ := H1.out.2.2.2.2 (by omega)
    by_cases hcap : c1 = d + 1
    · subst hcap
      go_enter Try.func23, Try.ntmps23
      go_wp2_with fail
      exact bodyPost_ret (results_cell1 Try.results23 _ _ _ ⟨w.heap.size + 1 + 1, 0, none⟩ _ rfl (load_lk [.int .i64 k.win, .int .i64 (k.base + d + 1), .slice (some ⟨b, off, none⟩) 0 0, .int .i64 k.want, .slice A2 n2 c2] (Blk.new11 _ _ _ _ _) rfl rfl)) rfl ⟨_, rfl, ⟨_, A2, _, _, n2, c2, rfl, (Sl.end_ _ _ (by rw [List.length_drop]; have := hnl.out; omega)), (H2.out.keep (Same.mono (Keep.alloc (Keep.alloc (Keep.new _ _) _) _) HS.out)).more (fun i hi => .inl hi)⟩, Keep.alloc (Keep.alloc (Keep.new _ _) _) _⟩
    · have hcap' : ¬ d + 1 = c1 := fun e => hcap e.symm
      have key : ∀ o1 o2 o3 : Obj, Sl encI 1 (((w.alloc o1).alloc o2).alloc o3) S (some ⟨b, off + (d + 1), none⟩) (n1 - (d + 1)) (c1 - (d + 1)) (k.kept.drop (d + 1)) := fun o1 o2 o3 => by
        have := (H1.out.keep (Same.mono (Keep.alloc (Keep.alloc (Keep.new w o1) o2) o3) HS.out)).from_some encI_len (k := d + 1) (by omega)
        simpa using this
      have KEY := Lib.hid key
      clear key
      go_enter Try.func23, Try.ntmps23
      go_wp2_with fail
      exact bodyPost_ret (results_cell1 Try.results23 _ _ _ ⟨w.heap.size + 1 + 1, 0, none⟩ _ rfl (load_lk [.int .i64 k.win, .int .i64 (k.base + d + 1), .slice (some ⟨b, off + (d + 1), none⟩) (n1 - (d + 1)) (c1 - (d + 1)), .int .i64 k.want, .slice A2 n2 c2] (Blk.new11 _ _ _ _ _) rfl rfl)) rfl ⟨_, rfl, ⟨_, A2, _, _, n2, c2, rfl, ((KEY.out _ _ _).more (fun i hi => Or.inl hi)), (H2.out.keep (Same.mono (Keep.alloc (Keep.alloc (Keep.new _ _) _) _) HS.out)).more (fun i hi => .inl hi)⟩, Keep.alloc (Keep.alloc (Keep.new _ _) _) _⟩
  · have e1 : confirmS k p = k := if_neg (by rw [← hnl.out]; exact hc)
    rw [e1]
    clear e1
    by_cases q1 : p.seq = 0
    · have q1d : (p.seq != 0) = false := by simpa using q1
      by_cases q2 : p.ack < k.base
      · have q2d : decide (p.ack < k.base) = true := by simpa using q2
        go_enter Try.func23, Try.ntmps23
        go_wp2_with fail
        exact bodyPost_ret (results_cell1 Try.results23 _ _ _ ⟨w.heap.size + 1 + 1, 0, none⟩ _ rfl (load_lk [.int .i64 k.win, .int .i64 k.base, .slice A1 n1 c1, .int .i64 k.want, .slice A2 n2 c2] (Blk.new11 _ _ _ _ _) rfl rfl)) rfl ⟨_, rfl, ⟨_, A2, _, _, n2, c2, rfl, ((H1.out.keep (Same.mono (Keep.alloc (Keep.alloc (Keep.new _ _) _) _) HS.out)).more (fun i hi => .inl hi)), (H2.out.keep (Same.mono (Keep.alloc (Keep.alloc (Keep.new _ _) _) _) HS.out)).more (fun i hi => .inl hi)⟩, Keep.alloc (Keep.alloc (Keep.new _ _) _) _⟩
      have q2d : decide (p.ack < k.base) = false := by simpa using q2
      have q3 : (n1 : Int) ≤ p.ack - k.base := by omega
      have q3d : decide ((n1 : Int) ≤ p.ack - k.base) = true := by simpa using q3
      clear q1 hc
      go_enter Try.func23, Try.ntmps23
      go_wp2_with fail
      exact bodyPost_ret (results_cell1 Try.results23 _ _ _ ⟨w.heap.size + 1 + 1, 0, none⟩ _ rfl (load_lk [.int .i64 k.win, .int .i64 k.base, .slice A1 n1 c1, .int .i64 k.want, .slice A2 n2 c2] (Blk.new11 _ _ _ _ _) rfl rfl)) rfl ⟨_, rfl, ⟨_, A2, _, _, n2, c2, rfl, ((H1.out.keep (Same.mono (Keep.alloc (Keep.alloc (Keep.new _ _) _) _) HS.out)).more (fun i hi => .inl hi)), (H2.out.keep (Same.mono (Keep.alloc (Keep.alloc (Keep.new _ _) _) _) HS.out)).more (fun i hi => .inl hi)⟩, Keep.alloc (Keep.alloc (Keep.new _ _) _) _⟩
    · have q1d : (p.seq != 0) = true := by simpa using q1
      clear hc
      go_enter Try.func23, Try.ntmps23
      go_wp2_with fail
      exact bodyPost_ret (results_cell1 Try.results23 _ _ _ ⟨w.heap.size + 1 + 1, 0, none⟩ _ rfl (load_lk [.int .i64 k.win, .int .i64 k.base, .slice A1 n1 c1, .int .i64 k.want, .slice A2 n2 c2] (Blk.new11 _ _ _ _ _) rfl rfl)) rfl ⟨_, rfl, ⟨_, A2, _, _, n2, c2, rfl, ((H1.out.keep (Same.mono (Keep.alloc (Keep.alloc (Keep.new _ _) _) _) HS.out)).more (fun i hi => .inl hi)), (H2.out.keep (Same.mono (Keep.alloc (Keep.alloc (Keep.new _ _) _) _) HS.out)).more (fun i hi => .inl hi)⟩, Keep.alloc (Keep.alloc (Keep.new _ _) _) _⟩
end Go.Proofs.Ytafgacfbplilpaa
