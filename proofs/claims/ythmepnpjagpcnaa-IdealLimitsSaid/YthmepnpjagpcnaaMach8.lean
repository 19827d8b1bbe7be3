/- interp.Run. -/
import Derived.Test.YthmepnpjagpcnaaMach7
import Derived.Test.YthmepnpjagpcnaaSlices
set_option linter.unusedVariables false
set_option linter.unusedSimpArgs false
set_option maxRecDepth 100000
namespace Go.Proofs.Ythmepnpjagpcnaa
open Go.RowKit Go.Proofs

theorem ownsRow_less {w : World} {base b n size : Nat} {e : TypeId} {v : Value} {xs : List Value} (h : w.ownsRow base e size v n xs) (hb : b ≤ base) : w.ownsRow b e size v n xs := by
  refine ⟨h.1, ?_⟩
  rcases h.2 with hn | ⟨g, cap, cur, rfl, hg, rest⟩
  · exact .inl hn
  · exact .inr ⟨g, cap, cur, rfl, Nat.le_trans hb hg, rest⟩
theorem results_tmp3' {fn : Func} {p q r : Tmp} (h : fn.results = #[.tmp p, .tmp q, .tmp r]) (tmps : Array Value) (P : Program) (w : World) : (results fn tmps).run P w = .ok (.tuple #[tmps.getD p undef, tmps.getD q undef, tmps.getD r undef]) w := by
  simp [results, h, Sem.run_bind, Result.andThen]
def RunPost (v : EnvS) (body : List Stm) (cells : List Int) (w : World) (e : Ending) (w' : World) : Prop :=
  ∃ (C E : Value) (f : Int), e = .returned (.tuple #[C, E, .int .i64 f]) ∧ w'.ownsRow w.heap.size 3 1 C (execF v body cells).cells.length ((execF v body cells).cells.flatMap encI) ∧
    w'.ownsRow w.heap.size 151 3 E (execF v body cells).effs.length ((execF v body cells).effs.flatMap encEff) ∧ (∀ b, C.ownBlock = some b → E.ownBlock ≠ some b) ∧ Keep w w'
theorem bld_mach (A : Option Addr) (n c : Nat) (a b d e : Int) : Try.prog.built 154 [(0, .slice A n c), (2, .int .i64 400), (3, .agg #[.int .i64 a, .int .i64 b, .int .i64 d, .int .i64 e])] =
    some #[.slice A n c, .slice none 0 0, .int .i64 400, .int .i64 a, .int .i64 b, .int .i64 d, .int .i64 e] := by kernel_rfl
set_option maxHeartbeats 8000000 in
theorem irun_any (n : Nat) (w : World) (S : Nat → Prop) (A A2 : Option Addr) (m c m2 c2 : Nat) (body : List Stm) (cells : List Int) (v : EnvS) (hS : ∀ i, S i → i < w.heap.size) (hsl : SlR w S 18 (StmR w S n) A m c body) (hcl : Sl encI 1 w S A2 m2 c2 cells) (hm2 : m2 ≤ 1000000) :
    Calls Try.prog 67 #[.slice A m c, .slice A2 m2 c2, .agg #[.int .i64 v.self, .int .i64 v.procs, .int .i64 v.frm, .int .i64 v.val]] w (RunPost v body cells w) := by
  generalize hW : w.alloc (.cells #[.int .i64 v.self, .int .i64 v.procs, .int .i64 v.frm, .int .i64 v.val] 146) = W
  have hkW : Keep w W := hW ▸ Keep.new w _
  have hb : Blk W w.heap.size 146 #[.int .i64 v.self, .int .i64 v.procs, .int .i64 v.frm, .int .i64 v.val] := hW ▸ Blk.new w _ _
  have hzW : W.heap.size = w.heap.size + 1 := by rw [← hW]; simp
  have hA : True := trivial
  have hSW : ∀ i, S i → i < W.heap.size := fun i hi => by have := hS i hi; omega
  have hslW := hsl.keep (Same.mono hkW hS) (StmR.keep (Same.mono hkW hS) _)
  have hclW := hcl.keep (Same.mono hkW hS)
  have HS := Lib.hid hS
  have HKW := Lib.hid hkW
  have HB := Lib.hid hb
  have HSW := Lib.hid hSW
  have HSLW := Lib.hid hslW
  have HCLW := Lib.hid hclW
  clear hS hkW hb hSW hslW hclW
  clear hsl hcl
  go_enter Try.func67, Try.ntmps67
  go_upto_region 1 with fail
  clear hW
  refine wp_region_L 99 (fun _ => True) (fun wx => Keep W wx) (by kernel_rfl) trivial (Same.drew (Same.refl _ _)) (fun _ hB => ?_)
  refine wpL_takeB (i := 0) (v := ?_) rfl (by kernel_rfl) (by kernel_rfl) (by kernel_rfl) (by decide) (fun _ _ _ h => h) (Or.inl ⟨by rfl, ?_⟩) (SAB.both hA hB) ?_
  rotate_left
  · intro wx hBx
    (try dsimp only at hBx)
    go_simp
    try with_reducible rfl
  try simp only [Act.put, List.setIfInBounds_toArray, List.set_cons_zero, List.set_cons_succ]
  refine wpL_takeB (i := 2) rfl (by kernel_rfl) (by kernel_rfl) (by kernel_rfl) (by decide) (fun _ _ _ h => h) (yieldsIf_blk (by rfl) _ _ rfl w.heap.size 0 146 _ [.int .i64 v.self, .int .i64 v.procs, .int .i64 v.frm, .int .i64 v.val] _ rfl (fun wx hx => hx.blk HB.out (by omega)) (fun j u hu => by match j, hu with | 0, hu | 1, hu | 2, hu | 3, hu => exact hu) Try.underlying146 rfl (by kernel_rfl)) (SAB.both hA hB) ?_
  try simp only [Act.put, List.setIfInBounds_toArray, List.set_cons_zero, List.set_cons_succ]
  refine wpL_one (i := 1) (by kernel_rfl) (StepL.mk rfl (fun K hK => ?_))
  go_simp
  refine (cloneInts_any W.drew S A2 m2 c2 cells (HCLW.out.keep (Same.drew (Same.refl _ _))) HSW.out hm2).mono ?_
  rintro e w1 ⟨C, rfl, hown1, hk1⟩
  obtain ⟨A3, c3, hC, hnc, hcm⟩ := own_form hown1
  subst hC
  have hk1' : Keep W w1 := Keep.trans hB hk1
  have hown1' : w1.ownsRow W.heap.size 3 1 (.slice A3 cells.length c3) cells.length (cells.flatMap encI) := hown1
  refine hK.out _ _ (SAB.both trivial hk1') (fun hSS => ?_)
  clear hK K hA hB
  have hB := hSS.2
  have hA := hSS.1 (by kernel_rfl)
  (try dsimp only at hB); (try dsimp only at hA); clear hSS
  try simp only [Act.put, List.setIfInBounds_toArray, List.set_cons_zero, List.set_cons_succ]
  refine wpL_takeB (i := 3) rfl (by kernel_rfl) (by kernel_rfl) (by kernel_rfl) (by decide) (fun _ _ _ h => h) (yieldsIf_bld (by rfl) _ _ rfl _ _ rfl (bld_mach A3 cells.length c3 v.self v.procs v.frm v.val)) (SAB.both hA hB) ?_
  try simp only [Act.put, List.setIfInBounds_toArray, List.set_cons_zero, List.set_cons_succ]
  refine wpL_one (i := 4) (by kernel_rfl) (StepL.mk rfl (fun K hK => ?_))
  go_simp
  have hk2 : Keep W (w1.alloc (.cells #[.slice A3 cells.length c3, .slice none 0 0, .int .i64 400, .int .i64 v.self, .int .i64 v.procs, .int .i64 v.frm, .int .i64 v.val] 154)) := Keep.alloc hk1' _
  refine hK.out _ _ (SAB.both trivial hk2) (fun hSS => ?_)
  clear hK K hA hB
  have hB := hSS.2
  have hA := hSS.1 (by kernel_rfl)
  (try dsimp only at hB); (try dsimp only at hA); clear hSS
  try simp only [Act.put, List.setIfInBounds_toArray, List.set_cons_zero, List.set_cons_succ]
  refine wpL_takeB (i := 5) (v := ?_) rfl (by kernel_rfl) (by kernel_rfl) (by kernel_rfl) (by decide) (fun _ _ _ h => h) (Or.inl ⟨by rfl, ?_⟩) (SAB.both hA hB) ?_
  rotate_left
  · intro wx hBx
    (try dsimp only at hBx)
    go_simp
    try with_reducible rfl
  try simp only [Act.put, List.setIfInBounds_toArray, List.set_cons_zero, List.set_cons_succ]
  refine wpL_done (by kernel_rfl) ?_
  have hz1 := hk1'.size
  have hm3 : Mach (w1.alloc (.cells #[.slice A3 cells.length c3, .slice none 0 0, .int .i64 400, .int .i64 v.self, .int .i64 v.procs, .int .i64 v.frm, .int .i64 v.val] 154)) W.heap.size w1.heap.size v ⟨cells, [], 400⟩ := by
    refine ⟨.slice A3 cells.length c3, .slice none 0 0, Blk.new _ _ _, ownsRow_same hown1' (Keep.new w1 _) (fun i hi => hi.2), World.ownsRow_nil _ _ _ _, by omega, fun hh => ?_, (fun hh => by cases hh), (fun b _ hh => by cases hh)⟩
    have := (hown1'.lt _ hh).2
    omega
  have hsl3 := HSLW.out.keep (Same.mono hk2 HSW.out) (StmR.keep (Same.mono hk2 HSW.out) _)
  generalize hw3 : w1.alloc (.cells #[.slice A3 cells.length c3, .slice none 0 0, .int .i64 400, .int .i64 v.self, .int .i64 v.procs, .int .i64 v.frm, .int .i64 v.val] 154) = w3 at *
  have HM3 := Lib.hid hm3
  have HK2 := Lib.hid hk2
  have HSL3 := Lib.hid hsl3
  clear hm3 hk2 hsl3
  clear hown1 hown1' hk1 hk1' hB hA hw3
  go_wp2_with fail
  refine (handler_any n w3 W.heap.size w1.heap.size v ⟨cells, [], 400⟩ S A m c body HSW.out HK2.out.size HSL3.out HM3.out (Nat.le_refl _) (by simp)).mono ?_
  rintro e w4 ⟨r, hx, rfl, hm4, hs4⟩
  rw [← execF_of hx] at hm4
  obtain ⟨C, E, hb4, hc4, hE4, g1, g2, g3, g4⟩ := hm4
  obtain ⟨A5, c5, hC, hnc5, hcm5⟩ := own_form hc4
  subst hC
  obtain ⟨A6, c6, hC, hnc6, hcm6⟩ := own_form hE4
  subst hC
  have e0 : w4.cell? ⟨w1.heap.size, 0, none⟩ = some (.slice A5 (execF v body cells).cells.length c5) := by rw [hb4.cell]; rfl
  have e1 : w4.cell? ⟨w1.heap.size, 1, none⟩ = some (.slice A6 (execF v body cells).effs.length c6) := by rw [hb4.cell]; rfl
  have e2 : w4.cell? ⟨w1.heap.size, 2, none⟩ = some (.int .i64 (execF v body cells).fuel) := by rw [hb4.cell]; rfl
  have hkfin : Keep w w4 := Same.trans HKW.out (Same.trans HK2.out hs4 (fun i hi => hi)) (fun i hi => by omega)
  have HC4 := Lib.hid hc4
  have HE4 := Lib.hid hE4
  have G4 := Lib.hid g4
  have HKFIN := Lib.hid hkfin
  clear hc4 hE4 g4 hkfin
  clear hb4 hx hs4 g1 g2 g3
  go_wp2_with fail
  go_quiet (fail)
  go_wp2_with fail
  refine bodyPost_ret (results_tmp3' Try.results67 _ _ _) rfl ?_
  refine ⟨_, _, _, rfl, ownsRow_less HC4.out (by omega), ownsRow_less HE4.out (by omega), G4.out, Same.drewN HKFIN.out _⟩
end Go.Proofs.Ythmepnpjagpcnaa
