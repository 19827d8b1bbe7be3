/- A link in a variable; the sanity check of the link's laws. -/
import Derived.Test.YtafgacfbplilpaaLink5
import Derived.Test.YtafgacfbplilpaaLink6
import Derived.Deep.Cut
set_option linter.unusedVariables false
set_option linter.unusedSimpArgs false
namespace Go.Proofs.Ytafgacfbplilpaa
open Go.RowKit Go.Proofs

/-! ### a block loaded and stored whole -/
theorem splice_at : ∀ (vs : List Value) (o : Nat) (cs : Array Value), o + vs.length ≤ cs.size → ∀ j, (splice cs o vs)[j]? = if o ≤ j ∧ j < o + vs.length then vs[j - o]? else cs[j]?
  | [], o, cs, _, j => by simp [splice]; intro h1 h2; omega
  | v :: vs, o, cs, h, j => by
    simp at h
    rw [splice, splice_at vs (o + 1) _ (by simp; omega) j]
    by_cases h1 : o + 1 ≤ j ∧ j < o + 1 + vs.length
    · rw [if_pos h1, if_pos (by simp; omega)]
      have : j - o = (j - (o + 1)) + 1 := by omega
      rw [this, List.getElem?_cons_succ]
    · rw [if_neg h1]
      by_cases h2 : j = o
      · subst h2
        rw [if_pos (by simp), Nat.sub_self]
        simp [Array.getElem?_setIfInBounds, show j < cs.size by omega]
      · rw [if_neg (by simp; omega), Array.getElem?_setIfInBounds_ne (by omega)]
theorem splice_size : ∀ (vs : List Value) (o : Nat) (cs : Array Value), (splice cs o vs).size = cs.size
  | [], _, _ => rfl
  | v :: vs, o, cs => by rw [splice, splice_size vs]; simp
theorem splice_all (vs : List Value) (cs : Array Value) (h : cs.size = vs.length) : splice cs 0 vs = vs.toArray := by
  apply Array.ext_getElem?
  intro j
  rw [splice_at vs 0 cs (by omega) j]
  by_cases hj : j < vs.length
  · rw [if_pos (by omega)]; simp
  · rw [if_neg (by omega), Array.getElem?_eq_none (by omega), Array.getElem?_eq_none (by simp; omega)]
section
variable {P : Program} {ops : Array Oper} {rest : List Oper} {op : Oper} {a : Act} {w : World} {Q : Exit → Act → World → Prop}
theorem wpList_load_all (hgd : op.guard = none) (ty : TypeId) (x : Operand) (ho : op.op = .load ty x)
    (g : Nat) (t : TypeId) (vs : List Value) (d : TypeDesc) (hx : a.eval x = .pointer (some ⟨g, 0, none⟩)) (hb : Blk w g t vs.toArray)
    (hu : P.underlying ty = some d) (hd : d.isRow = true) (hi : (P.info? ty).map (·.size) = some vs.length)
    (h : wpList P ops Q rest (a.put op.dst (.agg vs.toArray)) w) : wpList P ops Q (op :: rest) a w :=
  wpList_load_blk hgd ty x ho g 0 t _ vs d hx hb (fun j v hv => by simpa using hv) hu hd hi h
theorem wpList_load_allg (hw : Region.wanted op (yielded ops a.tmps) = true) (ty : TypeId) (x : Operand) (ho : op.op = .load ty x)
    (g : Nat) (t : TypeId) (vs : List Value) (d : TypeDesc) (hx : a.eval x = .pointer (some ⟨g, 0, none⟩)) (hb : Blk w g t vs.toArray)
    (hu : P.underlying ty = some d) (hd : d.isRow = true) (hi : (P.info? ty).map (·.size) = some vs.length)
    (h : wpList P ops Q rest (a.put op.dst (.agg vs.toArray)) w) : wpList P ops Q (op :: rest) a w :=
  wpList_step fun K hK => by
    rw [if_pos hw]
    exact wp_load_mid ty x ho g 0 hx vs d (fun j v hv => by rw [hb.cell]; simpa using hv) hu hd hi (hK _ _ h)
theorem wpList_load_blkg (hw : Region.wanted op (yielded ops a.tmps) = true) (ty : TypeId) (x : Operand) (ho : op.op = .load ty x)
    (g o : Nat) (t : TypeId) (cs : Array Value) (vs : List Value) (d : TypeDesc) (hx : a.eval x = .pointer (some ⟨g, o, none⟩)) (hb : Blk w g t cs) (hvs : ∀ j v, vs[j]? = some v → cs[o + j]? = some v)
    (hu : P.underlying ty = some d) (hd : d.isRow = true) (hi : (P.info? ty).map (·.size) = some vs.length)
    (h : wpList P ops Q rest (a.put op.dst (.agg vs.toArray)) w) : wpList P ops Q (op :: rest) a w :=
  wpList_step fun K hK => by
    rw [if_pos hw]
    exact wp_load_mid ty x ho g o hx vs d (fun j v hv => by rw [hb.cell]; exact hvs j v hv) hu hd hi (hK _ _ h)
theorem wpList_store_all (hgd : op.guard = none) (ty : TypeId) (x y : Operand) (ho : op.op = .store ty x y)
    (g : Nat) (t : TypeId) (cs : Array Value) (vs : List Value) (hx : a.eval x = .pointer (some ⟨g, 0, none⟩)) (hy : a.eval y = .agg vs.toArray) (hb : Blk w g t cs) (hl : cs.size = vs.length)
    (hi : (P.info? ty).map (·.size) = some vs.length) (h1 : vs.all (·.oneCell') = true)
    (h : ∀ w', Blk w' g t vs.toArray → Same (· ≠ g) w w' → wpList P ops Q rest (a.put op.dst undef) w') : wpList P ops Q (op :: rest) a w :=
  wpList_store_blk hgd ty x y ho g 0 t cs vs hx hy hb (by omega) hi h1 (fun w' hb' hs' => h w' (by rw [splice_all vs cs hl] at hb'; exact hb') hs')
end

theorem LkR.len {w : World} {S : Nat → Prop} {cs : List Value} {k : Lk} (h : LkR w S cs k) : cs.length = 5 := by
  obtain ⟨A1, A2, n1, c1, n2, c2, rfl, _⟩ := h; rfl
theorem LkR.one {w : World} {S : Nat → Prop} {cs : List Value} {k : Lk} (h : LkR w S cs k) : cs.all (·.oneCell') = true := by
  obtain ⟨A1, A2, n1, c1, n2, c2, rfl, _⟩ := h; rfl
theorem info_lk {cs : List Value} (h : cs.length = 5) : (Try.prog.info? 35).map (·.size) = some cs.length := by rw [h]; kernel_rfl
/-- The link k lies in block G. -/
def BoxLk (w : World) (G : Nat) (k : Lk) (cs : List Value) : Prop := Blk w G 35 cs.toArray ∧ LkR w (fun i => i < w.heap.size ∧ i ≠ G) cs k
theorem BoxLk.keep {w w' : World} {G : Nat} {k : Lk} {cs : List Value} (h : BoxLk w G k cs) (hk : Keep w w') : BoxLk w' G k cs :=
  ⟨hk.blk h.1 h.1.lt, (h.2.keep (Same.mono hk (fun i hi => hi.1))).more (fun i hi => ⟨Nat.lt_of_lt_of_le hi.1 hk.size, hi.2⟩)⟩
theorem BoxLk.next {w w' w'' : World} {G : Nat} {k' : Lk} {cs' : List Value} (hG : G < w.heap.size) (h : LkR w' (fun i => (i < w.heap.size ∧ i ≠ G) ∨ (w.heap.size ≤ i ∧ i < w'.heap.size)) cs' k') (hk : Keep w w')
    (hb : Blk w'' G 35 cs'.toArray) (ho : Only G w' w'') : BoxLk w'' G k' cs' := by
  have := hk.size
  have := ho.size
  have hlt : ∀ i, ((i < w.heap.size ∧ i ≠ G) ∨ (w.heap.size ≤ i ∧ i < w'.heap.size)) → i < w'.heap.size ∧ i ≠ G := fun i hi => by omega
  exact ⟨hb, (h.keep (Same.mono ho hlt)).more (fun i hi => by have := hlt i hi; omega)⟩
theorem only_of_ne {w w' : World} {G : Nat} (h : Same (· ≠ G) w w') : Only G w w' := h.mono fun _ hi => hi.2

set_option maxHeartbeats 4000000 in
theorem awake15_any (w : World) : Calls Try.prog 17 #[] w (KTrue w) := by
  have e0 : newS 2 = ⟨2, 1, [], 1, []⟩ := by simp [newS]
  have e0' : newErr 2 = 0 := by simp [newErr]
  have e1 : offerS ⟨2, 1, [], 1, []⟩ 5 = ⟨2, 1, [5], 1, []⟩ := by simp [offerS]
  have e1' : offerErr ⟨2, 1, [], 1, []⟩ = 0 := by simp [offerErr]
  have e2 : offerS ⟨2, 1, [5], 1, []⟩ 6 = ⟨2, 1, [5, 6], 1, []⟩ := by simp [offerS]
  have e2' : offerErr ⟨2, 1, [5], 1, []⟩ = 0 := by simp [offerErr]
  have e3 : arriveS ⟨2, 1, [5, 6], 1, []⟩ ⟨2, 0, 6⟩ = ⟨2, 1, [5, 6], 1, [⟨2, 0, 6⟩]⟩ := by simp [arriveS, insertS, posS]
  have e3' : arriveD ⟨2, 1, [5, 6], 1, []⟩ ⟨2, 0, 6⟩ = [] := by simp [arriveD]
  have e4 : arriveS ⟨2, 1, [5, 6], 1, [⟨2, 0, 6⟩]⟩ ⟨1, 0, 5⟩ = ⟨2, 1, [5, 6], 3, []⟩ := by simp [arriveS, drainN]
  have e4' : arriveD ⟨2, 1, [5, 6], 1, [⟨2, 0, 6⟩]⟩ ⟨1, 0, 5⟩ = [5, 6] := by simp [arriveD, drainN]
  have E0 := Lib.hid e0
  have E0' := Lib.hid e0'
  have E1 := Lib.hid e1
  have E1' := Lib.hid e1'
  have E2 := Lib.hid e2
  have E2' := Lib.hid e2'
  have E3 := Lib.hid e3
  have E3' := Lib.hid e3'
  have E4 := Lib.hid e4
  have E4' := Lib.hid e4'
  clear e0 e0' e1 e1' e2 e2' e3 e3' e4 e4'
  go_enter Try.func17, Try.ntmps17
  go_wp2_with fail
  refine (new15_any 2 w (fun _ => False)).mono ?_
  rw [E0.out, E0'.out]
  rintro e w1 ⟨cs1, rfl, hr1, hk1⟩
  have HR1 := Lib.hid hr1
  have HK1 := Lib.hid hk1
  clear hr1 hk1
  have hb1 : ∀ w2, Blk w2 w1.heap.size 35 cs1.toArray → Same (· ≠ w1.heap.size) (w1.alloc (.cells #[.int .i64 0, .int .i64 0, .slice none 0 0, .int .i64 0, .slice none 0 0] 35)) w2 → BoxLk w2 w1.heap.size ⟨2, 1, [], 1, []⟩ cs1 ∧ Keep w w2 := fun w2 hb2 hs2 => by
    have hz := hs2.size
    simp at hz
    exact ⟨⟨hb2, ((HR1.out.keep (Same.mono (Keep.new w1 _) (fun i hi => (hi.resolve_left id).2))).keep (Same.mono hs2 (fun i hi => by have := hi.resolve_left id; omega))).more (fun i hi => by have := hi.resolve_left id; omega)⟩, Keep.write (Keep.alloc HK1.out _) hs2 HK1.out.size⟩
  have HB1 := Lib.hid hb1
  clear hb1
  go_wp2_with (first
    | (refine wpList_store_all rfl _ (.tmp 1) (.tmp 11) rfl w1.heap.size 35 _ cs1 rfl rfl (Blk.new _ _ _) (by rw [HR1.out.len]; rfl) (info_lk HR1.out.len) HR1.out.one ?_; intro w2 hb2 hs2; have HX2 := Lib.hid (HB1.out w2 hb2 hs2).1; have HW2 := Lib.hid (HB1.out w2 hb2 hs2).2; clear hb2 hs2)
    | (refine wpList_load_all rfl _ (.tmp 1) rfl w1.heap.size 35 cs1 _ rfl HX2.out.1 Try.underlying35 rfl (info_lk HX2.out.2.len) ?_))
  have z0 := HK1.out.size
  refine (offer_any w2 (fun i => i < w2.heap.size ∧ i ≠ w1.heap.size) cs1 ⟨2, 1, [], 1, []⟩ 5 (fun i hi => hi.1) HX2.out.2 (by simp)).mono ?_
  rw [E1.out, E1'.out]
  rintro e w3 ⟨cs3, rfl, hr3, hk3⟩
  have HR3 := Lib.hid hr3
  have HK3 := Lib.hid hk3
  clear hr3 hk3
  have hG3 := HX2.out.1.lt
  go_wp2_with (first
    | (refine wpList_store_all rfl _ (.tmp 1) (.tmp 16) rfl w1.heap.size 35 _ cs3 rfl rfl (HK3.out.blk HX2.out.1 hG3) (by have := HX2.out.2.len; have := HR3.out.len; simp; omega) (info_lk HR3.out.len) HR3.out.one ?_; intro w4 hb4 hs4; have HX4 := Lib.hid (BoxLk.next hG3 HR3.out HK3.out hb4 (only_of_ne hs4)); have HW4 := Lib.hid (Keep.write (Keep.trans HW2.out HK3.out) hs4 z0); clear hb4 hs4)
    | (refine wpList_load_all rfl _ (.tmp 1) rfl w1.heap.size 35 cs3 _ rfl HX4.out.1 Try.underlying35 rfl (info_lk HX4.out.2.len) ?_))
  refine (offer_any w4 (fun i => i < w4.heap.size ∧ i ≠ w1.heap.size) cs3 ⟨2, 1, [5], 1, []⟩ 6 (fun i hi => hi.1) HX4.out.2 (by simp)).mono ?_
  rw [E2.out, E2'.out]
  rintro e w5 ⟨cs5, rfl, hr5, hk5⟩
  have HR5 := Lib.hid hr5
  have HK5 := Lib.hid hk5
  clear hr5 hk5
  have hG5 := HX4.out.1.lt
  go_wp2_with (first
    | (refine wpList_store_all rfl _ (.tmp 1) (.tmp 21) rfl w1.heap.size 35 _ cs5 rfl rfl (HK5.out.blk HX4.out.1 hG5) (by have := HX4.out.2.len; have := HR5.out.len; simp; omega) (info_lk HR5.out.len) HR5.out.one ?_; intro w6 hb6 hs6; have HX6 := Lib.hid (BoxLk.next hG5 HR5.out HK5.out hb6 (only_of_ne hs6)); have HW6 := Lib.hid (Keep.write (Keep.trans HW4.out HK5.out) hs6 z0); clear hb6 hs6)
    | (refine wpList_load_all rfl _ (.tmp 1) rfl w1.heap.size 35 cs5 _ rfl HX6.out.1 Try.underlying35 rfl (info_lk HX6.out.2.len) ?_))
  refine (arrive_any w6 (fun i => i < w6.heap.size ∧ i ≠ w1.heap.size) cs5 ⟨2, 1, [5, 6], 1, []⟩ ⟨2, 0, 6⟩ (fun i hi => hi.1) HX6.out.2 (by simp) (by simp) (by simp) ⟨by simp, by simp⟩).mono ?_
  rw [E3.out, E3'.out]
  rintro e w7 ⟨cs7, A7, n7, c7, rfl, hr7, hd7, hk7⟩
  obtain rfl : n7 = 0 := hd7.1
  have HR7 := Lib.hid hr7
  have HK7 := Lib.hid hk7
  have HD7 := Lib.hid hd7
  clear hr7 hk7 hd7
  have hG7 := HX6.out.1.lt
  have hz7 := HK7.out.size
  go_wp2_with (first
    | (refine wpList_store_all rfl _ (.tmp 1) (.tmp 27) rfl w1.heap.size 35 _ cs7 rfl rfl ((HK7.out.blk HX6.out.1 hG7).alloc _) (by have := HX6.out.2.len; have := HR7.out.len; simp; omega) (info_lk HR7.out.len) HR7.out.one ?_; intro w8 hb8 hs8; have HP8 := Lib.hid (hs8.blk (Blk.new w7 _ _) (by omega)); have HS8 := Lib.hid hs8; have HB8 := Lib.hid hb8; clear hb8 hs8)
    | (refine wpList_store_all rfl _ (.tmp 6) (.tmp 29) rfl w7.heap.size 48 _ [.int .i64 0, .int .i64 _, .int .i64 0] rfl rfl HP8.out rfl (by kernel_rfl) rfl ?_; intro w9 hb9 hs9; have HQ9 := Lib.hid hb9; have HY9 : Hid (Only w1.heap.size w7 w9) := Lib.hid (Same.trans (Same.trans (Keep.only (Keep.new w7 _) _) HS8.out (fun i hi => hi.2)) hs9 (fun i hi => by omega)); have HX9 := Lib.hid (BoxLk.next hG7 HR7.out HK7.out (hs9.blk HB8.out (by omega)) HY9.out); have HW9 : Hid (Keep w w9) := Lib.hid (Same.trans (Keep.trans HW6.out HK7.out) HY9.out (fun i hi => ⟨by have := HW6.out.size; omega, by omega⟩)); clear hb9 hs9)
    | (refine wpList_load_all rfl _ (.tmp 1) rfl w1.heap.size 35 cs7 _ rfl HX9.out.1 Try.underlying35 rfl (info_lk HX9.out.2.len) ?_))
  refine (arrive_any w9 (fun i => i < w9.heap.size ∧ i ≠ w1.heap.size) cs7 ⟨2, 1, [5, 6], 1, [⟨2, 0, 6⟩]⟩ ⟨1, 0, 5⟩ (fun i hi => hi.1) HX9.out.2 (by simp) (by simp) (by simp) ⟨by simp, by simp⟩).mono ?_
  rw [E4.out, E4'.out]
  rintro e w10 ⟨cs10, A10, n10, c10, rfl, hr10, hd10, hk10⟩
  obtain rfl : n10 = 2 := hd10.1
  have HR10 := Lib.hid hr10
  have HK10 := Lib.hid hk10
  have HD10 := Lib.hid hd10
  clear hr10 hk10 hd10
  have hG10 := HX9.out.1.lt
  have hz10 := HK10.out.size
  go_upto_region 6 with (first
    | (refine wpList_store_all rfl _ (.tmp 1) (.tmp 34) rfl w1.heap.size 35 _ cs10 rfl rfl ((HK10.out.blk HX9.out.1 hG10).alloc _) (by have := HX9.out.2.len; have := HR10.out.len; simp; omega) (info_lk HR10.out.len) HR10.out.one ?_; intro w11 hb11 hs11; have HP11 := Lib.hid (hs11.blk (Blk.new w10 _ _) (by omega)); have HS11 := Lib.hid hs11; have HB11 := Lib.hid hb11; clear hb11 hs11)
    | (refine wpList_store_all rfl _ (.tmp 8) (.tmp 36) rfl w10.heap.size 48 _ [.int .i64 0, .int .i64 2, .int .i64 0] rfl rfl HP11.out rfl (by kernel_rfl) rfl ?_; intro w12 hb12 hs12; have HQ12 := Lib.hid hb12; have HY12 : Hid (Only w1.heap.size w10 w12) := Lib.hid (Same.trans (Same.trans (Keep.only (Keep.new w10 _) _) HS11.out (fun i hi => hi.2)) hs12 (fun i hi => by omega)); have HX12 := Lib.hid (BoxLk.next hG10 HR10.out HK10.out (hs12.blk HB11.out (by omega)) HY12.out); have HW12 : Hid (Keep w w12) := Lib.hid (Same.trans (Keep.trans HW9.out HK10.out) HY12.out (fun i hi => ⟨by have := HW9.out.size; omega, by omega⟩)); clear hb12 hs12)
    | fail)
  obtain ⟨B1, B2, m1, d1, m2, d2, hcs, g1, g2⟩ := HX12.out.2
  obtain rfl : m1 = 2 := g1.1
  have t2 := HX12.out.1.cell 2
  have t8 := HQ12.out.cell 1
  obtain ⟨g, o, y, rfl, hg, hy, hyc⟩ := HD10.out.at_ encI_len (k := 1) (by omega)
  have t7 : w12.cell? ⟨g, o + 1, none⟩ = some (.int .i64 6) := (by rw [HY12.out.cell (p := ⟨g, o + 1, none⟩) ⟨hg.2, by have := hg.1; show g ≠ w1.heap.size; omega⟩]; simp at hy; subst hy; simpa using hyc 0 _ rfl)
  rw [hcs] at t2
  simp at t2 t8
  clear hcs g1 g2 hy hyc
  go_wp2_with fail
  go_ret
  exact ⟨rfl, HW12.out⟩
end Go.Proofs.Ytafgacfbplilpaa
