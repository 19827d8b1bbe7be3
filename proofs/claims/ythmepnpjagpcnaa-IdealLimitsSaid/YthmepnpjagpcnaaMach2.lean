/- The interpreter's machine: value. -/
import Derived.Test.YthmepnpjagpcnaaMach1
set_option linter.unusedVariables false
set_option linter.unusedSimpArgs false
set_option maxRecDepth 100000
namespace Go.Proofs.Ythmepnpjagpcnaa
open Go.RowKit Go.Proofs

/-- The machine at block g: its cells and its effects in rows of its own, all from block base on. -/
def Mach (w : World) (base g : Nat) (v : EnvS) (m : Ms) : Prop :=
  ∃ C E : Value, Blk w g 154 (machCells C E m.fuel v) ∧ w.ownsRow base 3 1 C m.cells.length (m.cells.flatMap encI) ∧ w.ownsRow base 151 3 E m.effs.length (m.effs.flatMap encEff) ∧ base ≤ g ∧ C.ownBlock ≠ some g ∧ E.ownBlock ≠ some g ∧ ∀ b, C.ownBlock = some b → E.ownBlock ≠ some b
theorem Mach.keep {w w' : World} {base g : Nat} {v : EnvS} {m : Ms} (h : Mach w base g v m) (hk : Keep w w') : Mach w' base g v m := by
  obtain ⟨C, E, hb, hc, he, h1, h2, h3, h4⟩ := h
  exact ⟨C, E, hk.blk hb hb.lt, ownsRow_same hc hk (fun i hi => hi.2), ownsRow_same he hk (fun i hi => hi.2), h1, h2, h3, h4⟩
set_option maxHeartbeats 4000000 in
theorem mvalue_any (w : World) (base g : Nat) (v : EnvS) (st : Ms) (S : Nat → Prop) (b off : Nat) (e : Ex) (hS : ∀ i, S i → i < w.heap.size) (hm : Mach w base g v st) (he : ExAt w S 5 b off e) :
    Calls Try.prog 74 #[.pointer (some ⟨g, 0, none⟩), .pointer (some ⟨b, off, none⟩)] w (ApplyPost (valS st.cells v 5 e) w) := by
  obtain ⟨C, E, hb, hc, hE, h1, h2, h3, h4⟩ := hm
  obtain ⟨A, c, rfl, hsl⟩ := Sl.of_own hc
  obtain ⟨hSb, cs, hx, hcell⟩ := he
  have hlen := hx.len
  have hgl := hb.lt
  have c0 : ∀ wx, Keep w wx → wx.cell? ⟨g, 0, none⟩ = some (.slice A st.cells.length c) := fun wx hx => (hx.cell (p := ⟨g, 0, none⟩) hgl).trans (by rw [hb.cell]; rfl)
  generalize hv : valS st.cells v 5 e = r
  have hA : True := trivial
  have HS := Lib.hid hS
  have HSL := Lib.hid hsl
  have HCELL := Lib.hid hcell
  have HX := Lib.hid hx
  have HLEN := Lib.hid hlen
  have HB := Lib.hid hb
  have HV := Lib.hid hv
  clear hS hsl hcell hx hlen hb hv
  clear hc hE h1 h2 h3 h4
  go_enter Try.func74, Try.ntmps74
  go_upto_region 1 with fail
  refine wp_region_L 99 (fun _ => True) (fun wx => Keep w wx) (by kernel_rfl) trivial (Same.drew (Same.refl _ _)) (fun _ hB => ?_)
  refine wpL_takeB (i := 0) (v := ?_) rfl (by kernel_rfl) (by kernel_rfl) (by kernel_rfl) (by decide) (fun _ _ _ h => h) (Or.inl ⟨by rfl, ?_⟩) (SAB.both hA hB) ?_
  rotate_left
  · intro wx hBx
    (try dsimp only at hBx)
    go_simp
    try with_reducible rfl
  try simp only [Act.put, List.setIfInBounds_toArray, List.set_cons_zero, List.set_cons_succ]
  refine wpL_takeB (i := 1) (v := ?_) rfl (by kernel_rfl) (by kernel_rfl) (by kernel_rfl) (by decide) (fun _ _ _ h => h) (Or.inl ⟨by rfl, ?_⟩) (SAB.both hA hB) ?_
  rotate_left
  · intro wx hBx
    (try dsimp only at hBx)
    go_simp
    try with_reducible rfl
  try simp only [Act.put, List.setIfInBounds_toArray, List.set_cons_zero, List.set_cons_succ]
  refine wpL_takeB (i := 2) rfl (by kernel_rfl) (by kernel_rfl) (by kernel_rfl) (by decide) (fun _ _ _ h => h) (yieldsIf_load_mid (by rfl) _ _ rfl b off rfl cs _ (fun wx hx j u hu => (hx.cell (p := ⟨b, off + j, none⟩) (HS.out b hSb)).trans (HCELL.out j u hu)) Try.underlying97 rfl (info_ex HLEN.out)) (SAB.both hA hB) ?_
  try simp only [Act.put, List.setIfInBounds_toArray, List.set_cons_zero, List.set_cons_succ]
  refine wpL_takeB (i := 3) (v := ?_) rfl (by kernel_rfl) (by kernel_rfl) (by kernel_rfl) (by decide) (fun _ _ _ h => h) (Or.inl ⟨by rfl, ?_⟩) (SAB.both hA hB) ?_
  rotate_left
  · intro wx hBx
    (try dsimp only at hBx)
    go_simp
    try with_reducible rfl
  try simp only [Act.put, List.setIfInBounds_toArray, List.set_cons_zero, List.set_cons_succ]
  refine wpL_takeB (i := 4) (v := ?_) rfl (by kernel_rfl) (by kernel_rfl) (by kernel_rfl) (by decide) (fun _ _ _ h => h) (Or.inl ⟨by rfl, ?_⟩) (SAB.both hA hB) ?_
  rotate_left
  · intro wx hBx
    (try dsimp only at hBx)
    go_simp
    try with_reducible rfl
  try simp only [Act.put, List.setIfInBounds_toArray, List.set_cons_zero, List.set_cons_succ]
  refine wpL_takeB (i := 5) (v := ?_) rfl (by kernel_rfl) (by kernel_rfl) (by kernel_rfl) (by decide) (fun _ _ _ h => h) (Or.inl ⟨by rfl, ?_⟩) (SAB.both hA hB) ?_
  rotate_left
  · intro wx hBx
    (try dsimp only at hBx)
    go_simp
    try with_reducible rfl
  try simp only [Act.put, List.setIfInBounds_toArray, List.set_cons_zero, List.set_cons_succ]
  refine wpL_takeB (i := 6) (v := ?_) rfl (by kernel_rfl) (by kernel_rfl) (by kernel_rfl) (by decide) (fun _ _ _ h => h) (Or.inl ⟨by rfl, ?_⟩) (SAB.both hA hB) ?_
  rotate_left
  · intro wx hBx
    (try dsimp only at hBx)
    go_simp
    try with_reducible rfl
  try simp only [Act.put, List.setIfInBounds_toArray, List.set_cons_zero, List.set_cons_succ]
  refine wpL_takeB (i := 7) (v := ?_) rfl (by kernel_rfl) (by kernel_rfl) (by kernel_rfl) (by decide) (fun _ _ _ h => h) (Or.inl ⟨by rfl, ?_⟩) (SAB.both hA hB) ?_
  rotate_left
  · intro wx hBx
    (try dsimp only at hBx)
    go_simp
    try with_reducible rfl
  try simp only [Act.put, List.setIfInBounds_toArray, List.set_cons_zero, List.set_cons_succ]
  refine wpL_takeB (i := 8) (v := ?_) rfl (by kernel_rfl) (by kernel_rfl) (by kernel_rfl) (by decide) (fun _ _ _ h => h) (Or.inl ⟨by rfl, ?_⟩) (SAB.both hA hB) ?_
  rotate_left
  · intro wx hBx
    (try dsimp only at hBx)
    go_simp
    try with_reducible rfl
  try simp only [Act.put, List.setIfInBounds_toArray, List.set_cons_zero, List.set_cons_succ]
  refine wpL_takeB (i := 9) (v := ?_) rfl (by kernel_rfl) (by kernel_rfl) (by kernel_rfl) (by decide) (fun _ _ _ h => h) (Or.inl ⟨by rfl, ?_⟩) (SAB.both hA hB) ?_
  rotate_left
  · intro wx hBx
    (try dsimp only at hBx)
    go_simp
    try with_reducible rfl
  try simp only [Act.put, List.setIfInBounds_toArray, List.set_cons_zero, List.set_cons_succ]
  refine wpL_takeB (i := 10) rfl (by kernel_rfl) (by kernel_rfl) (by kernel_rfl) (by decide) (fun _ _ _ h => h) (yieldsIf_blk (by rfl) _ _ rfl g 3 154 _ [.int .i64 v.self, .int .i64 v.procs, .int .i64 v.frm, .int .i64 v.val] _ rfl (fun wx hx => hx.blk HB.out hgl) (fun j u hu => by match j, hu with | 0, hu | 1, hu | 2, hu | 3, hu => exact hu) Try.underlying146 rfl (by kernel_rfl)) (SAB.both hA hB) ?_
  try simp only [Act.put, List.setIfInBounds_toArray, List.set_cons_zero, List.set_cons_succ]
  clear c0
  refine wpL_one (i := 11) (by kernel_rfl) (StepL.mk rfl (fun K hK => ?_))
  go_simp
  refine (Value_any 5 st.cells v e cs w.drew (fun i => i < w.heap.size) A st.cells.length c (fun i hi => hi) (ExR.more (fun i hi => HS.out i hi) _ _ _ (ExR.keep (Same.drew (Same.refl _ _)) _ _ _ HX.out)) ((HSL.out.more (fun i hi => hi.2)).keep (Same.drew (Same.refl _ _))) (Nat.le_trans HSL.out.2.1 HSL.out.2.2.1)).mono ?_
  rw [HV.out]
  rintro e w1 ⟨rfl, hk1⟩
  have hk1' : Keep w w1 := Keep.trans hB hk1
  refine hK.out _ _ (SAB.both trivial hk1') (fun hSS => ?_)
  clear hK K hA hB
  have hB := hSS.2
  have hA := hSS.1 (by kernel_rfl)
  (try dsimp only at hB); (try dsimp only at hA); clear hSS
  try simp only [Act.put, List.setIfInBounds_toArray, List.set_cons_zero, List.set_cons_succ]
  refine wpL_takeB (i := 12) (v := ?_) rfl (by kernel_rfl) (by kernel_rfl) (by kernel_rfl) (by decide) (fun _ _ _ h => h) (Or.inl ⟨by rfl, ?_⟩) (SAB.both hA hB) ?_
  rotate_left
  · intro wx hBx
    (try dsimp only at hBx)
    go_simp
    try with_reducible rfl
  try simp only [Act.put, List.setIfInBounds_toArray, List.set_cons_zero, List.set_cons_succ]
  refine wpL_done (by kernel_rfl) ?_
  have HK1' := Lib.hid hk1'
  clear hk1'
  clear hk1 hA hB
  go_wp2_with fail
  go_ret
  exact ⟨rfl, HK1'.out⟩
end Go.Proofs.Ythmepnpjagpcnaa
