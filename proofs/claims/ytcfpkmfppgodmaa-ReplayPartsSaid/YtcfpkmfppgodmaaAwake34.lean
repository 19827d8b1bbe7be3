/- law34.awake. -/
import Derived.Test.YtcfpkmfppgodmaaWit
set_option linter.unusedVariables false
set_option linter.unusedSimpArgs false
set_option maxRecDepth 100000
namespace Go.Proofs.Ytcfpkmfppgodmaa
open Go.RowKit Go.Proofs

def evA : Ev := ⟨1, 0, 1, 0, 1, 0, 0⟩
def evB : Ev := ⟨2, 0, 0, 0, 0, 0, 4⟩
theorem awake_sched : SchIs [[evA], [evB]] [0, 0] [1, 1] (some [⟨1, 2, 0, 0, 0, 4⟩, ⟨0, 1, 1, 1, 0, 0⟩]) := by
  refine .inl ⟨⟨rfl, rfl, fun q hq => ?_⟩, ?_⟩
  · rcases q with _ | _ | q
    · exact ⟨by decide, by decide, by decide⟩
    · exact ⟨by decide, by decide, by decide⟩
    · simp at hq; omega
  · refine .step (q := 1) (by decide) ⟨by decide, by decide, fun i hi => ?_⟩ ?_
    · obtain rfl : i = 0 := by omega
      decide
    · show Sched _ _ [0, 1] [⟨1, 2, 0, 0, 0, 4⟩] _
      refine .step (q := 0) (by decide) ⟨by decide, by decide, fun i hi => absurd hi (by omega)⟩ ?_
      show Sched _ _ [1, 1] [⟨1, 2, 0, 0, 0, 4⟩, ⟨0, 1, 1, 1, 0, 0⟩] _
      exact .done rfl
theorem bld_lab1 : Try.prog.built 48 [(1, .int .i64 1)] = some #[.int .i64 0, .int .i64 1] := by kernel_rfl
theorem bld_evA : Try.prog.built 50 [(0, .int .i64 1), (2, .int .i64 1), (3, .agg #[.int .i64 0, .int .i64 1])] = some #[.int .i64 1, .int .i64 0, .int .i64 1, .int .i64 0, .int .i64 1, .int .i64 0, .int .i64 0] := by kernel_rfl
theorem bld_evB : Try.prog.built 50 [(0, .int .i64 2), (5, .int .i64 4)] = some #[.int .i64 2, .int .i64 0, .int .i64 0, .int .i64 0, .int .i64 0, .int .i64 0, .int .i64 4] := by kernel_rfl
theorem built_evs2 (A B : Option Addr) (n c m d : Nat) : builtS Try.prog 46 2 [(0, .slice A n c), (1, .slice B m d)] = some #[.slice A n c, .slice B m d] := by kernel_rfl
theorem bld_chA : Try.prog.built 45 [(0, .int .i64 1), (1, .int .i64 2), (5, .int .i64 4)] = some #[.int .i64 1, .int .i64 2, .int .i64 0, .int .i64 0, .int .i64 0, .int .i64 4] := by kernel_rfl
theorem bld_chB : Try.prog.built 45 [(0, .int .i64 0), (1, .int .i64 1), (2, .int .i64 1), (3, .int .i64 1)] = some #[.int .i64 0, .int .i64 1, .int .i64 1, .int .i64 1, .int .i64 0, .int .i64 0] := by kernel_rfl
def Aw34Post (w : World) (e : Ending) (w' : World) : Prop := e = .returned (.bool true) ∧ Keep w w'
theorem two_evs (w : World) (a b : Ev) (W : World) (h1 : Blk W w.heap.size 50 (encEv a).toArray) (h2 : Blk W (w.heap.size + 1) 50 (encEv b).toArray) (h3 : Blk W (w.heap.size + 2) 46 #[.slice (some ⟨w.heap.size, 0, none⟩) 1 1, .slice (some ⟨w.heap.size + 1, 0, none⟩) 1 1]) :
    SlR W (fun i => i < W.heap.size) 1 (EvsR W (fun i => i < W.heap.size)) (some ⟨w.heap.size + 2, 0, none⟩) 2 2 [[a], [b]] := by
  have hm : 1 ≤ maxLen := by simp [maxLen]
  refine ⟨rfl, Nat.le_refl _, by simp [maxLen], [[.slice (some ⟨w.heap.size, 0, none⟩) 1 1], [.slice (some ⟨w.heap.size + 1, 0, none⟩) 1 1]], rfl, by simp, ⟨rfl, fun _ => ⟨w.heap.size + 2, 0, rfl, h3.lt, fun j u hu => ?_⟩⟩, fun k cs x e1 e2 => ?_⟩
  · rw [h3.cell]
    simpa using hu
  · rcases k with _ | _ | k
    · simp at e1 e2
      subst e1 e2
      exact ⟨_, 1, 1, rfl, rfl, Nat.le_refl _, hm, rfl, fun _ => ⟨w.heap.size, 0, rfl, h1.lt, fun j u hu => by rw [h1.cell]; simpa using hu⟩⟩
    · simp at e1 e2
      subst e1 e2
      exact ⟨_, 1, 1, rfl, rfl, Nat.le_refl _, hm, rfl, fun _ => ⟨w.heap.size + 1, 0, rfl, h2.lt, fun j u hu => by rw [h2.cell]; simpa using hu⟩⟩
    · simp at e1
section
variable {P : Program} {ops : Array Oper} {rest : List Oper} {op : Oper} {a : Act} {w : World} {Q : Exit → Act → World → Prop}
theorem wpList_load_range (hw : Region.wanted op (yielded ops a.tmps) = true) (ty : TypeId) (x : Operand) (ho : op.op = .load ty x)
    (g o : Nat) (vs : List Value) (d : TypeDesc) (hx : a.eval x = .pointer (some ⟨g, o, none⟩)) (hc : w.rangeAt g o vs)
    (hu : P.underlying ty = some d) (hd : d.isRow = true) (hi : (P.info? ty).map (·.size) = some vs.length)
    (h : wpList P ops Q rest (a.put op.dst (.agg vs.toArray)) w) : wpList P ops Q (op :: rest) a w :=
  wpList_step fun K hK => by
    rw [if_pos hw]
    exact wp_load_mid ty x ho g o hx vs d hc hu hd hi (hK _ _ h)
end
set_option maxHeartbeats 8000000 in
theorem awake34_any (w : World) : Calls Try.prog 7 #[] w (Aw34Post w) := by
  go_enter Try.func7, Try.ntmps7
  go_wp2_with (first
    | (refine wpList_bld rfl 48 _ rfl _ [(1, .int .i64 1)] rfl bld_lab1 ?_)
    | (refine wpList_bld rfl 50 _ rfl _ [(0, .int .i64 1), (2, .int .i64 1), (3, .agg #[.int .i64 0, .int .i64 1])] rfl bld_evA ?_)
    | (refine wpList_bld rfl 50 _ rfl _ [(0, .int .i64 2), (5, .int .i64 4)] rfl bld_evB ?_)
    | (refine wpList_buildS rfl 46 50 1 _ rfl Try.underlying46 _ [(0, .agg #[.int .i64 1, .int .i64 0, .int .i64 1, .int .i64 0, .int .i64 1, .int .i64 0, .int .i64 0])] rfl (built_ev _ _ _ _ _ _ _) ?_)
    | (refine wpList_buildS rfl 46 50 1 _ rfl Try.underlying46 _ [(0, .agg #[.int .i64 2, .int .i64 0, .int .i64 0, .int .i64 0, .int .i64 0, .int .i64 0, .int .i64 4])] rfl (built_ev _ _ _ _ _ _ _) ?_)
    | (refine wpList_buildS rfl 22 46 2 _ rfl Try.underlying22 _ [(0, .slice (some ⟨w.heap.size, 0, none⟩) 1 1), (1, .slice (some ⟨w.heap.size + 1, 0, none⟩) 1 1)] rfl (built_evs2 _ _ _ _ _ _) ?_))
  have h1 : Blk (((w.alloc (.cells (encEv evA).toArray 50)).alloc (.cells (encEv evB).toArray 50)).alloc (.cells #[.slice (some ⟨w.heap.size, 0, none⟩) 1 1, .slice (some ⟨w.heap.size + 1, 0, none⟩) 1 1] 46)) w.heap.size 50 (encEv evA).toArray := ((Blk.new w _ _).alloc _).alloc _
  have h2 : Blk (((w.alloc (.cells (encEv evA).toArray 50)).alloc (.cells (encEv evB).toArray 50)).alloc (.cells #[.slice (some ⟨w.heap.size, 0, none⟩) 1 1, .slice (some ⟨w.heap.size + 1, 0, none⟩) 1 1] 46)) (w.heap.size + 1) 50 (encEv evB).toArray := blkM w _ _ _ _
  have h3 : Blk (((w.alloc (.cells (encEv evA).toArray 50)).alloc (.cells (encEv evB).toArray 50)).alloc (.cells #[.slice (some ⟨w.heap.size, 0, none⟩) 1 1, .slice (some ⟨w.heap.size + 1, 0, none⟩) 1 1] 46)) (w.heap.size + 2) 46 #[.slice (some ⟨w.heap.size, 0, none⟩) 1 1, .slice (some ⟨w.heap.size + 1, 0, none⟩) 1 1] := blkL w _ _ _ _
  have hk3 : Keep w (((w.alloc (.cells (encEv evA).toArray 50)).alloc (.cells (encEv evB).toArray 50)).alloc (.cells #[.slice (some ⟨w.heap.size, 0, none⟩) 1 1, .slice (some ⟨w.heap.size + 1, 0, none⟩) 1 1] 46)) := Keep.alloc (Keep.alloc (Keep.new w _) _) _
  have key := witness_any _ (fun i => i < (((w.alloc (.cells (encEv evA).toArray 50)).alloc (.cells (encEv evB).toArray 50)).alloc (.cells #[.slice (some ⟨w.heap.size, 0, none⟩) 1 1, .slice (some ⟨w.heap.size + 1, 0, none⟩) 1 1] 46)).heap.size) _ 2 2 [[evA], [evB]] (fun i hi => hi) (two_evs w evA evB _ h1 h2 h3) (by omega) (by simp)
  refine key.mono ?_
  rintro e w4 ⟨r, hr, hk4, hcs⟩
  have hre := hr.det awake_sched
  subst hre
  have hkw := Keep.trans hk3 hk4
  clear key h1 h2 h3 hk3 hk4 hr
  rcases hcs with ⟨hno, -⟩ | ⟨out, A3, n3, c3, hout, rfl, hs3⟩
  · cases hno
  · injection hout with hout
    subst hout
    obtain ⟨q1, q2, q3, q4⟩ := hs3
    simp only [List.length_cons, List.length_nil, Nat.zero_add, Nat.reduceAdd] at q1
    subst q1
    obtain ⟨b, off, rfl, -, hc⟩ := q4.2 (by omega)
    have r0 : w4.rangeAt b off [.int .i64 1, .int .i64 2, .int .i64 0, .int .i64 0, .int .i64 0, .int .i64 4] := fun i v hv => by
      refine hc i v ?_
      rcases i with _ | _ | _ | _ | _ | _ | i
      · exact hv
      · exact hv
      · exact hv
      · exact hv
      · exact hv
      · exact hv
      · simp at hv
    have r1 : w4.rangeAt b (off + 6) [.int .i64 0, .int .i64 1, .int .i64 1, .int .i64 1, .int .i64 0, .int .i64 0] := fun i v hv => by
      have := hc (6 + i) v ?_
      · rw [Nat.add_assoc]; exact this
      rcases i with _ | _ | _ | _ | _ | _ | i
      · exact hv
      · exact hv
      · exact hv
      · exact hv
      · exact hv
      · exact hv
      · simp at hv
    have hfin : Aw34Post w (.returned (.bool true)) w4 := ⟨rfl, hkw⟩
    have R0 := Lib.hid r0
    have R1 := Lib.hid r1
    have HFIN := Lib.hid hfin
    clear r0 r1 hfin
    clear hc q4 q2 q3 hkw
    go_wp2_with (first
      | (refine wpList_load_range (by rfl) _ (.tmp 21) rfl b off [.int .i64 1, .int .i64 2, .int .i64 0, .int .i64 0, .int .i64 0, .int .i64 4] _ rfl R0.out Try.underlying45 rfl (by kernel_rfl) ?_)
      | (refine wpList_load_range (by rfl) _ (.tmp 28) rfl b (off + 6) [.int .i64 0, .int .i64 1, .int .i64 1, .int .i64 1, .int .i64 0, .int .i64 0] _ rfl R1.out Try.underlying45 rfl (by kernel_rfl) ?_))
    go_ret
    exact HFIN.out
end Go.Proofs.Ytcfpkmfppgodmaa
