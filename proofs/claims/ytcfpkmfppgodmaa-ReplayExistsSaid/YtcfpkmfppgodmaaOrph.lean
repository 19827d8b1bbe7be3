/- orphan.Before, slices.Clone of labels, orphan.Merge, orphan.all, orphan.Consistent of all events. -/
import Derived.Test.YtcfpkmfppgodmaaOfit
import Derived.Test.YtcfpkmfppgodmaaRs2
import Derived.Test.YtcfpkmfppgodmaaAwake34
import Derived.Laws.CopyRow
set_option linter.unusedVariables false
set_option linter.unusedSimpArgs false
set_option maxRecDepth 100000
namespace Go.Proofs.Ytcfpkmfppgodmaa
open Go.RowKit Go.Proofs

def encLb (x : Int × Int) : List Value := [.int .i64 x.1, .int .i64 x.2]
theorem encLb_len (x : Int × Int) : (encLb x).length = 2 := rfl
theorem encLb_one (l : List (Int × Int)) : ∀ u ∈ l.flatMap encLb, u.oneCell' = true := fun u hu => by
  obtain ⟨x, -, hx⟩ := List.mem_flatMap.1 hu
  simp [encLb] at hx
  rcases hx with h | h <;> subst h <;> rfl
theorem info_Label : (Try.prog.info? 48).map (fun i => (i.zero, i.size, i.bytes)) = some (some (.agg #[.int .i64 0, .int .i64 0]), 2, 16) := by kernel_rfl
section
variable {P : Program} {ops : Array Oper} {rest : List Oper} {o : Oper} {a : Act} {w : World} {Q : Exit → Act → World → Prop}
theorem setRow_same (g : Nat) (w : World) (cs : Array Value) : Same (· ≠ g) w (w.setRow g cs) := ⟨rfl, rfl, rfl, by simp [World.setRow], fun k hk => setRow_other w g k cs hk⟩
/-- A whole slice copied over a block of the same size. -/
theorem wpList_copy_all (hgd : o.guard = none) (d s : Operand) (dT sT : TypeId) (ho : o.op = .call { callee := .builtin .copy, args := #[d, s], argTypes := #[dT, sT] }) (elem : TypeId) (sz : Nat) (hu : P.underlying dT = some (.slice elem)) (hsz : (P.info? elem).map (·.size) = some sz)
    (g n dCap sCap b off : Nat) (hd : a.eval d = .slice (some ⟨g, 0, none⟩) n dCap) (hs : a.eval s = .slice (some ⟨b, off, none⟩) n sCap) (cur : Array Value) (t : TypeId) (hb : Blk w g t cur) (xs : List Value) (hxl : xs.length = n * sz) (hcl : cur.size = n * sz)
    (hsrc : ∀ j v, xs[j]? = some v → w.cell? ⟨b, off + j, none⟩ = some v) (h1 : ∀ v ∈ xs, v.oneCell' = true)
    (h : ∀ w', Blk w' g t xs.toArray → Same (· ≠ g) w w' → wpList P ops Q rest (a.put o.dst (goInt n)) w') : wpList P ops Q (o :: rest) a w := by
  refine wpList_plain hgd fun K hK => ?_
  have hl := run_loadCells_list (P := P) w ⟨b, off, none⟩ xs (fun j v hv => by rw [add_lit']; exact hsrc j v hv)
  have hst := run_storeCells_at P g 0 t xs 0 cur w hb (by omega) h1
  have he : cur.toList.take (0 + 0) ++ xs ++ cur.toList.drop (0 + 0 + xs.length) = xs := by
    rw [List.drop_eq_nil_of_le (by simp; omega)]
    simp
  rw [he] at hst
  rw [hxl] at hl
  cases hq : P.info? elem with
  | none => simp [hq] at hsz
  | some i =>
    have hi : i.size = sz := by simpa [hq] using hsz
    have hrun : (Builtin.copy_ #[dT, sT] o.type #[.slice (some ⟨g, 0, none⟩) n dCap, .slice (some ⟨b, off, none⟩) n sCap]).run P w = .ok (goInt n) (w.setRow g xs.toArray) := by
      simp [Builtin.copy_, run_underlying hu, Builtin.lenOf, Builtin.firstCells, sizeOf, typeInfo, hq, hi, hl, hst]
    unfold Oper.wp
    simp [execOp, ho, resolve, invoke, builtin, hd, hs, hrun, Result.andThen]
    exact hK _ _ (h _ (setRow_heap w g _ _ t _ hb) (setRow_same g w _))
end
def BfPost (w : World) (e : Ending) (w' : World) : Prop := ∃ q : Bool, e = .returned (.bool q) ∧ Keep w w'
set_option maxHeartbeats 4000000 in
theorem before_any (w : World) (a b c d : Int) : Calls Try.prog 47 #[.agg #[.int .i64 a, .int .i64 b], .agg #[.int .i64 c, .int .i64 d]] w (BfPost w) := by
  generalize hW : (w.alloc (.cells #[.int .i64 a, .int .i64 b] 48)).alloc (.cells #[.int .i64 c, .int .i64 d] 48) = W
  have hkW : Keep w W := hW ▸ Keep.alloc (Keep.new w _) _
  have hb2 : Blk W w.heap.size 48 #[.int .i64 a, .int .i64 b] := hW ▸ (Blk.new w _ _).alloc _
  have hb3 : Blk W (w.heap.size + 1) 48 #[.int .i64 c, .int .i64 d] := hW ▸ (by simpa using Blk.new (w.alloc _) _ _)
  have x0 : W.cell? ⟨w.heap.size, 0, none⟩ = some (.int .i64 a) := by rw [hb2.cell]; rfl
  have x1 : W.cell? ⟨w.heap.size, 1, none⟩ = some (.int .i64 b) := by rw [hb2.cell]; rfl
  have x2 : W.cell? ⟨w.heap.size + 1, 0, none⟩ = some (.int .i64 c) := by rw [hb3.cell]; rfl
  have x3 : W.cell? ⟨w.heap.size + 1, 1, none⟩ = some (.int .i64 d) := by rw [hb3.cell]; rfl
  have HKW := Lib.hid hkW
  clear hkW
  clear hb2 hb3
  go_enter Try.func47, Try.ntmps47
  go_upto_region 1 with fail
  clear hW
  by_cases h1 : a < c
  · have t1 : decide (a < c) = true := by simpa using h1
    go_wp2_with fail
    go_ret
    exact ⟨_, rfl, HKW.out⟩
  · have t1 : decide (a < c) = false := by simpa using h1
    by_cases h2 : a = c
    · have t2 : (a == c) = true := by simpa using h2
      clear h2
      by_cases h3 : b < d
      · have t3 : decide (b < d) = true := by simpa using h3
        go_wp2_with fail
        go_ret
        exact ⟨_, rfl, HKW.out⟩
      · have t3 : decide (b < d) = false := by simpa using h3
        go_wp2_with fail
        go_ret
        exact ⟨_, rfl, HKW.out⟩
    · have t2 : (a == c) = false := by simpa using h2
      go_wp2_with fail
      go_ret
      exact ⟨_, rfl, HKW.out⟩
set_option maxHeartbeats 4000000 in
theorem cloneLab_any (w : World) (S : Nat → Prop) (A : Option Addr) (n c : Nat) (l : List (Int × Int)) (hl : Sl encLb 2 w S A n c l) (hS : ∀ i, S i → i < w.heap.size) (hn : n ≤ 1000000) :
    Calls Try.prog 43 #[.slice A n c] w (OwnPost 48 2 l.length (l.flatMap encLb) w) := by
  obtain ⟨i0, hi0, iz0, iz1, iz2⟩ := info_of info_Label
  have hnl := hl.1
  have q22 : ∀ (w : World) (a : Option Addr) (n c n' c' : Nat), (binOp .eql 77 (.slice a n c) (.slice none n' c')).run Try.prog w = .ok (.bool a.isNone) w := fun w a n c n' c' => Lib.run_eql_slice_nil w _ _ a n c n' c' Try.underlying77
  cases A with
  | none =>
    have h0 : l = [] := by
      have : ¬ 0 < n := fun h => by obtain ⟨_, _, h, _⟩ := hl.2.2.2.2 h; cases h
      exact List.eq_nil_of_length_eq_zero (by omega)
    subst h0
    clear hl hi0 iz0 iz1 iz2
    go_enter Try.func43, Try.ntmps43
    go_wp2_with fail
    go_ret
    exact ⟨_, rfl, World.ownsRow_nil _ _ _ _, Same.refl _ _⟩
  | some ad =>
    have hk := Keep.new w (.cells #[] 48)
    have hl2 := (hl.more hS).keep hk
    have HL2 := Lib.hid hl2
    have HI0 := Lib.hid hi0
    have IZ0 := Lib.hid iz0
    have IZ1 := Lib.hid iz1
    have IZ2 := Lib.hid iz2
    have HK := Lib.hid hk
    have HNL := Lib.hid hnl
    clear hl2 hi0 iz0 iz1 iz2 hk hnl
    clear hl
    go_enter Try.func43, Try.ntmps43
    go_wp2_with (refine wpList_append_any _ rfl (.tmp 5) (.tmp 6) _ rfl w.heap.size 48 i0 _ 2 16 Try.underlying77 HI0.out IZ0.out IZ1.out IZ2.out rfl (by omega) _ 0 [] rfl (owns_empty w _ _) _ (some ad) n c (l.flatMap encLb) rfl HL2.out.2.2.2 (encLb_one l) (by simp [maxLen]; omega) (by omega) (by simp) ?_; intro v5 w5 hown5 hg5 hat5)
    go_ret
    refine ⟨_, rfl, ?_, Same.append HK.out (owns_empty w _ 2) hg5 (fun i hi => hi) (by simp)⟩
    have := HNL.out
    simpa [this] using hown5
theorem made_lbs (m : Nat) : madeCells (Value.cells (.agg #[.int .i64 0, .int .i64 0])) (m * 2) = ((List.replicate m ((0 : Int), (0 : Int))).flatMap encLb).toArray := by
  apply Array.ext'
  apply List.ext_getElem?
  intro j
  have hfl : ((List.replicate m ((0 : Int), (0 : Int))).flatMap encLb) = List.replicate (m * 2) (.int .i64 0) := by
    induction m with
    | zero => rfl
    | succ m ih =>
      rw [List.replicate_succ, List.flatMap_cons, ih, show (m + 1) * 2 = 2 + m * 2 by omega, ← List.replicate_append_replicate]
      rfl
  rw [hfl]
  by_cases hj : j < m * 2
  · simp only [madeCells, Array.getElem?_toList, Array.getElem?_ofFn, List.getElem?_replicate, hj, dite_true, if_true]
    generalize hq : j % 2 = r
    have : r = 0 ∨ r = 1 := by omega
    have hc : Value.cells (.agg #[.int .i64 0, .int .i64 0]) = #[.int .i64 0, .int .i64 0] := rfl
    rw [hc]
    rcases this with rfl | rfl <;> simp <;> exact ⟨j, by simp [hj], by simp [hq]⟩
  · simp [madeCells, hj]
def MgR (g n : Nat) (W : World) (i : Value) (wr : World) : Prop := ∃ (k : Nat) (ms : List (Int × Int)), i = .int .i64 k ∧ k ≤ n ∧ ms.length = n ∧ Blk wr g 48 (ms.flatMap encLb).toArray ∧ Keep W wr
def MgPost (n : Nat) (w : World) (e : Ending) (w' : World) : Prop := ∃ (g : Nat) (ms : List (Int × Int)), e = .returned (.slice (some ⟨g, 0, none⟩) n n) ∧ ms.length = n ∧ Blk w' g 48 (ms.flatMap encLb).toArray ∧ w.heap.size ≤ g ∧ Keep w w'
theorem lb_at {ms : List (Int × Int)} {n k : Nat} (hl : ms.length = n) (hk : k < n) : ∃ x : Int × Int, ms[k]? = some x ∧ (ms.flatMap encLb)[k * 2]? = some (.int .i64 x.1) ∧ (ms.flatMap encLb)[k * 2 + 1]? = some (.int .i64 x.2) := by
  have hk' : k < ms.length := by omega
  refine ⟨ms[k], List.getElem?_eq_getElem hk', ?_, ?_⟩
  · have := flat_get encLb_len ms k 0 hk' (by omega)
    rw [Nat.add_zero] at this
    rw [this]; rfl
  · have := flat_get encLb_len ms k 1 hk' (by omega)
    rw [this]; rfl
theorem lb_put {ms : List (Int × Int)} {n k : Nat} (hl : ms.length = n) (hk : k < n) (x : Int × Int) : splice (ms.flatMap encLb).toArray (k * 2) (encLb x) = ((ms.set k x).flatMap encLb).toArray := by
  have hsz : (ms.flatMap encLb).toArray.size = n * 2 := by simp [flat_length encLb_len, hl]
  have hfit : k * 2 + (encLb x).length ≤ (ms.flatMap encLb).toArray.size := by rw [hsz, encLb_len]; omega
  have hrow : Row encLb (splice (ms.flatMap encLb).toArray (k * 2) (encLb x)) (ms.set k x) := Row.set_ (cur := (ms.flatMap encLb).toArray) encLb_len (by omega) (fun j u hu => by simpa using hu) (fun j hj => by rw [splice_at _ _ _ hfit, encLb_len, if_neg (by omega)]) (fun r u hu => by
    have hr : r < 2 := by rw [← encLb_len x]; exact (List.getElem?_eq_some_iff.1 hu).1
    rw [splice_at _ _ _ hfit, encLb_len, if_pos (by omega)]
    have : k * 2 + r - k * 2 = r := by omega
    rw [this]; exact hu)
  apply Array.ext_getElem?
  intro j
  by_cases hj : j < n * 2
  · have h1 : j < ((ms.set k x).flatMap encLb).length := by rw [flat_length encLb_len, List.length_set, hl]; exact hj
    rw [hrow j _ (List.getElem?_eq_getElem h1), List.getElem?_toArray, List.getElem?_eq_getElem h1]
  · rw [Array.getElem?_eq_none (by rw [splice_size, hsz]; omega), Array.getElem?_eq_none (by simp [flat_length encLb_len, hl]; omega)]
set_option maxHeartbeats 8000000 in
theorem merge_any (w : World) (S : Nat → Prop) (A A2 : Option Addr) (n c1 c2 : Nat) (ls ls2 : List (Int × Int)) (hS : ∀ i, S i → i < w.heap.size) (h1 : Sl encLb 2 w S A n c1 ls) (h2 : Sl encLb 2 w S A2 n c2 ls2) (hn1 : 1 ≤ n) (hn : n ≤ 1000) :
    Calls Try.prog 44 #[.slice A n c1, .slice A2 n c2] w (MgPost n w) := by
  obtain ⟨iL, hi0, iz0, is0, ib0⟩ := info_of info_Label
  have hmk := fun W => run_make_row (P := Try.prog) 77 48 iL _ Try.underlying77 hi0 iz0 .i64 .i64 n n (Nat.le_refl _) (by rw [ib0]; omega) (by omega) W
  simp only [is0, made_lbs] at hmk
  obtain ⟨b1, o1, hb1, hSb1, hc1⟩ := h1.2.2.2.2 (by omega)
  subst hb1
  obtain ⟨b2, o2, hb2, hSb2, hc2⟩ := h2.2.2.2.2 (by omega)
  subst hb2
  have hl1 := h1.1
  have hl2 := h2.1
  have hlt1 := hS _ hSb1
  have hlt2 := hS _ hSb2
  have hkn : Keep w (w.alloc (.cells ((List.replicate n ((0 : Int), (0 : Int))).flatMap encLb).toArray 48)) := Keep.new _ _
  have hbn : Blk (w.alloc (.cells ((List.replicate n ((0 : Int), (0 : Int))).flatMap encLb).toArray 48)) w.heap.size 48 ((List.replicate n ((0 : Int), (0 : Int))).flatMap encLb).toArray := Blk.new _ _ _
  have hsrc : ∀ (j : Nat) (v : Value), (ls.flatMap encLb)[j]? = some v → (w.alloc (.cells ((List.replicate n ((0 : Int), (0 : Int))).flatMap encLb).toArray 48)).cell? ⟨b1, o1 + j, none⟩ = some v := fun j v hv => (hkn.cell (p := ⟨b1, o1 + j, none⟩) hlt1).trans (hc1 j v hv)
  have z2 : ∀ wx, Keep w wx → ∀ (j : Nat) (v : Value), (ls2.flatMap encLb)[j]? = some v → wx.cell? ⟨b2, o2 + j, none⟩ = some v := fun wx hx j v hv => (hx.cell (p := ⟨b2, o2 + j, none⟩) hlt2).trans (hc2 j v hv)
  have hx1 : (ls.flatMap encLb).length = n * 2 := by rw [flat_length encLb_len]; omega
  have HKN := Lib.hid hkn
  have HBN := Lib.hid hbn
  have HSRC := Lib.hid hsrc
  have Z2 := Lib.hid z2
  have HX1 := Lib.hid hx1
  have HL1 := Lib.hid hl1
  have HL2 := Lib.hid hl2
  clear hkn hbn hsrc z2 hx1 hl1 hl2
  clear h1 h2 hc1 hc2 hi0 iz0 is0 ib0
  have m0 : max n n = n := Nat.max_self n
  have m1 : max (n : Int) (n : Int) = (n : Int) := by omega
  go_enter Try.func44, Try.ntmps44
  go_wp2_with (refine wpList_copy_all rfl (.tmp 14) (.tmp 15) 77 77 rfl 48 2 Try.underlying77 (by kernel_rfl) w.heap.size n n c1 b1 o1 rfl rfl _ 48 HBN.out (ls.flatMap encLb) HX1.out (by simp [flat_length encLb_len]) HSRC.out (encLb_one ls) ?_; intro w2 hb2 hs2; refine Hid.out ?_)
  refine Lib.hid ?_
  have hz2 := hs2.size
  have hzn := HKN.out.size
  have hrel0 : MgR w.heap.size n w (.int .i64 0) w2 := ⟨0, ls, rfl, Nat.zero_le _, HL1.out.symm, hb2, Keep.write HKN.out hs2 (Nat.le_refl _)⟩
  have HREL0 := Lib.hid hrel0
  clear hrel0
  clear hb2 hs2 HKN HBN HSRC HX1
  go_wp2_with fail
  go_loopw [19] (fun i wr => MgR w.heap.size n w i wr) (fun i _ => n - (intOf i).toNat)
  case atStart => exact HREL0.out
  case round =>
    clear HREL0
    obtain ⟨k, ms, rfl, hkn', hml, hb, hkr⟩ := hrel
    have hzr := hkr.size
    have hbl := hb.lt
    by_cases hkn : k < n
    · obtain ⟨⟨xa, xb⟩, hx, hx1, hx2⟩ := lb_at hml hkn
      obtain ⟨⟨ya, yb⟩, hy, hy1, hy2⟩ := lb_at HL2.out.symm hkn
      simp only at hx1 hx2 hy1 hy2
      have t0 : decide (k < n) = true := by simpa using hkn
      have t0' : decide ((k : Int) < (n : Int)) = true := by simp; omega
      have i0 : (0 : Int) ≤ k := by omega
      have i1 : (k : Int) < n := by omega
      have hra : ∀ wx, Keep w wx → wx.rangeAt b2 (o2 + k * 2) [.int .i64 ya, .int .i64 yb] := fun wx hx j u hu => by
        rw [Nat.add_assoc]
        refine Z2.out wx hx (k * 2 + j) u ?_
        match j with
        | 0 => simp at hu; subst hu; exact hy1
        | 1 => simp at hu; subst hu; exact hy2
        | j + 2 => simp at hu
      have hcx : ∀ j v, [Value.int .i64 xa, .int .i64 xb][j]? = some v → (ms.flatMap encLb).toArray[k * 2 + j]? = some v := fun j v hv => by
        rw [List.getElem?_toArray]
        match j with
        | 0 => simp at hv; subst hv; exact hx1
        | 1 => simp at hv; subst hv; exact hx2
        | j + 2 => simp at hv
      have hfit : k * 2 + 2 ≤ (ms.flatMap encLb).toArray.size := by simp [flat_length encLb_len, hml]; omega
      have hra1 := hra _ (Keep.alloc hkr (.cells #[.int .i64 0, .int .i64 0] 48))
      have HB := Lib.hid hb
      have HKR := Lib.hid hkr
      have HRA1 := Lib.hid hra1
      have HCX := Lib.hid hcx
      clear hb hkr hra1 hcx
      clear hra
      clear hx hy hx1 hx2 hy1 hy2
      go_upto_region 9 with (first
        | (refine wpList_load_range rfl _ (.tmp 28) rfl b2 (o2 + k * 2) [.int .i64 ya, .int .i64 yb] _ rfl HRA1.out Try.underlying48 rfl (by kernel_rfl) ?_)
        | (refine wpList_store_all rfl _ (.tmp 7) (.tmp 29) rfl wr.heap.size 48 _ [.int .i64 ya, .int .i64 yb] rfl rfl (Blk.new _ _ _) rfl (by kernel_rfl) rfl ?_; intro w5 hb5 hs5))
      have hz5 : wr.heap.size < w5.heap.size := hb5.lt
      have hk5 : Keep wr w5 := Keep.write (Keep.new _ _) hs5 (Nat.le_refl _)
      have hbg := hk5.blk HB.out hbl
      obtain ⟨g7, hg7⟩ : ∃ g, g = wr.heap.size := ⟨_, rfl⟩
      rw [← hg7] at hb5
      rw [← hg7]
      have hg7w : wr.heap.size ≤ g7 := by omega
      have hkw5 := Keep.trans HKR.out hk5
      have hb5l := hb5.lt
      have hbgl := hbg.lt
      have HB5 := Lib.hid hb5
      have HBG := Lib.hid hbg
      have HKW5 := Lib.hid hkw5
      clear hb5 hbg hkw5
      clear hs5 hk5 HRA1 HKR HB hg7
      try simp only [Act.put]
      refine wp_region_L 99 (fun _ => True) (fun wx => Keep w5 wx) (by kernel_rfl) trivial (Same.drew (Same.refl _ _)) (fun hA hB => ?_)
      generalize hu0 : w5.drew = u0 at hB ⊢
      clear hu0
      refine wpL_takeB (i := 0) (v := ?_) rfl (by kernel_rfl) (by kernel_rfl) (by kernel_rfl) (by decide) (fun _ _ _ h => h) (Or.inl ⟨by rfl, ?_⟩) (SAB.both hA hB) ?_
      rotate_left
      · intro wx hBx
        (try dsimp only at hBx)
        go_simp
        try with_reducible rfl
      try simp only [Act.put, List.setIfInBounds_toArray, List.set_cons_zero, List.set_cons_succ]
      refine wpL_takeB (i := 1) (v := ?_) rfl (by kernel_rfl) (by kernel_rfl) (by kernel_rfl) (by decide) (fun _ _ _ h => h) (Or.inl ⟨by rfl, ?_⟩) (SAB.both hA hB) ?_
      rotate_left
      · intro wx hBx
        (try dsimp only at hBx)
        go_simp
        try with_reducible rfl
      try simp only [Act.put, List.setIfInBounds_toArray, List.set_cons_zero, List.set_cons_succ]
      refine wpL_takeB (i := 2) (v := ?_) rfl (by kernel_rfl) (by kernel_rfl) (by kernel_rfl) (by decide) (fun _ _ _ h => h) (Or.inl ⟨by rfl, ?_⟩) (SAB.both hA hB) ?_
      rotate_left
      · intro wx hBx
        (try dsimp only at hBx)
        go_simp
        try with_reducible rfl
      try simp only [Act.put, List.setIfInBounds_toArray, List.set_cons_zero, List.set_cons_succ]
      refine wpL_takeB (i := 3) rfl (by kernel_rfl) (by kernel_rfl) (by kernel_rfl) (by decide) (fun _ _ _ h => h) (yieldsIf_blk (by rfl) _ _ rfl w.heap.size (k * 2) 48 (ms.flatMap encLb).toArray [.int .i64 xa, .int .i64 xb] _ rfl (fun wx hx => hx.blk HBG.out hbgl) HCX.out Try.underlying48 rfl (by kernel_rfl)) (SAB.both hA hB) ?_
      try simp only [Act.put, List.setIfInBounds_toArray, List.set_cons_zero, List.set_cons_succ]
      refine wpL_takeB (i := 4) rfl (by kernel_rfl) (by kernel_rfl) (by kernel_rfl) (by decide) (fun _ _ _ h => h) (yieldsIf_blk (by rfl) _ _ rfl g7 0 48 _ [.int .i64 ya, .int .i64 yb] _ rfl (fun wx hx => hx.blk HB5.out hb5l) (fun j u hu => by simpa using hu) Try.underlying48 rfl (by kernel_rfl)) (SAB.both hA hB) ?_
      try simp only [Act.put, List.setIfInBounds_toArray, List.set_cons_zero, List.set_cons_succ]
      refine wpL_one (i := 5) (by kernel_rfl) (StepL.mk rfl (fun K hK => ?_))
      go_simp
      refine (before_any u0 xa xb ya yb).mono ?_
      rintro e u1 ⟨bq, rfl, hk6⟩
      have hB6 := Keep.trans hB hk6
      refine hK.out _ _ (SAB.both trivial hB6) (fun hSS => ?_)
      clear hK K hA hB
      have hB := hSS.2
      have hA : True := trivial
      (try dsimp only at hB); (try dsimp only at hA); clear hSS
      try simp only [Act.put, List.setIfInBounds_toArray, List.set_cons_zero, List.set_cons_succ]
      refine wpL_done (by kernel_rfl) ?_
      have HB6 := Lib.hid hB6
      clear hB6
      clear hA hB hk6
      cases bq with
      | true =>
        have hbg6 := HB6.out.blk HBG.out hbgl
        have hb56 := HB6.out.blk HB5.out hb5l
        have HBG6 := Lib.hid hbg6
        have HB56 := Lib.hid hb56
        clear hbg6 hb56
        go_wp2_with (first
          | (refine wpList_load_all rfl _ (.tmp 7) rfl g7 48 [.int .i64 ya, .int .i64 yb] _ rfl HB56.out Try.underlying48 rfl (by kernel_rfl) ?_)
          | (refine wpList_store_blk rfl _ (.tmp 39) (.tmp 38) rfl w.heap.size (k * 2) 48 _ [.int .i64 ya, .int .i64 yb] rfl rfl HBG6.out hfit (by kernel_rfl) rfl ?_; intro w9 hb9 hs9))
        go_roundw
        case rel => exact ⟨k + 1, ms.set k (ya, yb), by go_num, by omega, by simp [hml], by rw [← lb_put hml hkn]; exact hb9, Keep.write (Keep.trans HKW5.out HB6.out) hs9 (Nat.le_refl _)⟩
        case measure => simp [intOf]; omega
      | false =>
        go_wp2_with fail
        go_roundw
        case rel => exact ⟨k + 1, ms, by go_num, by omega, hml, HB6.out.blk HBG.out hbgl, Keep.trans HKW5.out HB6.out⟩
        case measure => simp [intOf]; omega
    · have t0 : decide (k < n) = false := by simpa using hkn
      have t0' : decide ((k : Int) < (n : Int)) = false := by simp; omega
      have hfin : MgPost n w (.returned (.slice (some ⟨w.heap.size, 0, none⟩) n n)) wr := ⟨_, ms, rfl, hml, hb, Nat.le_refl _, hkr⟩
      have HFIN := Lib.hid hfin
      clear hfin
      clear hb hkr hml
      go_wp2_with fail
      go_ret
      exact HFIN.out
end Go.Proofs.Ytcfpkmfppgodmaa
