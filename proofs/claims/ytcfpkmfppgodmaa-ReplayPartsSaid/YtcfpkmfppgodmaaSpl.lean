/- make.Codes.SpoilLineages. -/
import Derived.Test.YtcfpkmfppgodmaaLinM
import Derived.Test.YtcfpkmfppgodmaaMkEv
import Derived.Test.YtcfpkmfppgodmaaPat4
set_option linter.unusedVariables false
set_option linter.unusedSimpArgs false
set_option maxRecDepth 100000
namespace Go.Proofs.Ytcfpkmfppgodmaa
open Go.RowKit Go.Proofs

def Ev.put (e : Ev) (o : Nat) (x : Int) : Ev :=
  match o with
  | 0 => { e with kind := x }
  | 1 => { e with inc := x }
  | 2 => { e with frm := x }
  | 3 => { e with sInc := x }
  | 4 => { e with sIdx := x }
  | 5 => { e with ord := x }
  | _ => { e with val := x }
theorem Ev.put_enc (e : Ev) (o : Nat) (x : Int) (ho : o < 7) : encEv (e.put o x) = (encEv e).set o (.int .i64 x) := by
  match o, ho with
  | 0, _ => rfl
  | 1, _ => rfl
  | 2, _ => rfl
  | 3, _ => rfl
  | 4, _ => rfl
  | 5, _ => rfl
  | 6, _ => rfl
/-- All but the maker's own block and the lists'. -/
def Spl (gc : Nat) (vs : List Value) (w w' : World) : Prop := Same (fun i => i < w.heap.size ∧ i ≠ gc ∧ ∀ v ∈ vs, v.ownBlock ≠ some i) w w'
def SpPost (B : Nat → Prop) (gc base gl n : Nat) (vs : List Value) (l : List (List Ev)) (w : World) (e : Ending) (w' : World) : Prop :=
  ∃ l', e = .returned (.slice (some ⟨gl, 0, none⟩) n n) ∧ LinM w' base gl n vs l' ∧ (∀ q, (l'.getD q []).length = (l.getD q []).length) ∧ (∃ r', Cod w' B gc r') ∧ Spl gc vs w w'
theorem len_set {l : List (List Ev)} {q k : Nat} {x : Ev} (hq : q < l.length) : ∀ p, ((l.set q ((l.getD q []).set k x)).getD p []).length = (l.getD p []).length := fun p => by
  by_cases e : q = p
  · subst e; rw [getD_setL hq, List.length_set]
  · rw [getD_setO e]
set_option maxHeartbeats 16000000 in
theorem spoilL_any (w : World) (B : Nat → Prop) (gc r base gl n : Nat) (vs : List Value) (l : List (List Ev)) (hcod : Cod w B gc r) (hB : ∀ i, B i → i < base) (hm : LinM w base gl n vs l) (hn : 1 ≤ n) (hn2 : n ≤ 1000) (hlen : ∀ q, (l.getD q []).length ≤ 100000) :
    Calls Try.prog 13 #[.pointer (some ⟨gc, 0, none⟩), .slice (some ⟨gl, 0, none⟩) n n] w (SpPost B gc base gl n vs l w) := by
  have hgb := hB _ hcod.1
  have HCOD := Lib.hid hcod
  have HM := Lib.hid hm
  have HB := Lib.hid hB
  have HLEN := Lib.hid hlen
  clear hcod hm hB hlen
  go_enter Try.func13, Try.ntmps13
  go_wp2_with fail
  refine (next_any w B gc r (n : Int) HCOD.out (by omega) (by omega)).mono ?_
  rintro e w1 ⟨q', hq0, hq1, rfl, hc1, ho1⟩
  obtain ⟨q, hq⟩ : ∃ q : Nat, q' = q := ⟨q'.toNat, by omega⟩
  subst hq
  have hqn : q < n := by omega
  have hz1 := ho1.size
  have hm1 := HM.out.same (ho1.mono (fun i hi => ⟨hi.2, by have := hi.1; omega⟩))
  obtain ⟨v, hv⟩ := hm1.get hqn
  obtain ⟨A, c, hve, hlc, hcm⟩ := own_form (hm1.row q v hv)
  subst hve
  obtain ⟨len, hlq⟩ : ∃ len, len = (l.getD q []).length := ⟨_, rfl⟩
  rw [← hlq] at hv hlc
  have hlen1 : len ≤ 100000 := by have := HLEN.out q; omega
  have x0 : w1.cell? ⟨gl, q, none⟩ = some (.slice A len c) := by rw [hm1.blk.cell, List.getElem?_toArray]; exact hv
  have i0 : (0 : Int) ≤ q := by omega
  have i1 : (q : Int) < n := by omega
  have hql : q < l.length := by rw [hm1.llen]; exact hqn
  have HC1 := Lib.hid hc1
  have HO1 := Lib.hid ho1
  have HM1 := Lib.hid hm1
  have HLQ := Lib.hid hlq
  have HV := Lib.hid hv
  clear hc1 ho1 hm1 hlq hv
  by_cases h0 : len = 0
  · have t0 : ((len : Int) == 0) = true := by simp; omega
    have t0' : (len == 0) = true := by simpa using h0
    have hfin : SpPost B gc base gl n vs l w (.returned (.slice (some ⟨gl, 0, none⟩) n n)) w1 := ⟨l, rfl, HM1.out, fun _ => rfl, ⟨_, HC1.out⟩, HO1.out.mono (fun i hi => ⟨hi.1, hi.2.1⟩)⟩
    have HFIN := Lib.hid hfin
    clear hfin
    clear h0
    go_wp2_with fail
    go_ret
    exact HFIN.out
  have t0 : ((len : Int) == 0) = false := by simp; omega
  have t0' : (len == 0) = false := by simpa using h0
  go_wp2_with fail
  refine (next_any w1 B gc _ (len : Int) HC1.out (by omega) (by omega)).mono ?_
  rintro e w2 ⟨k', hk0, hk1, rfl, hc2, ho2⟩
  obtain ⟨k, hk⟩ : ∃ k : Nat, k' = k := ⟨k'.toNat, by omega⟩
  subst hk
  have hkl : k < len := by omega
  have hz2 := ho2.size
  have hm2 := HM1.out.same (ho2.mono (fun i hi => ⟨hi.2, by have := hi.1; omega⟩))
  have ho2' : Only gc w w2 := Only.trans HO1.out ho2
  have HC2 := Lib.hid hc2
  have HM2 := Lib.hid hm2
  have HO2' := Lib.hid ho2'
  clear hc2 hm2 ho2'
  clear ho2 HC1 HM1 HO1 x0
  go_wp2_with fail
  refine (next_any w2 B gc _ 5 HC2.out (by omega) (by omega)).mono ?_
  rintro e w3 ⟨s, hs0, hs1, rfl, hc3, ho3⟩
  have hz3 := ho3.size
  have hm3 := HM2.out.same (ho3.mono (fun i hi => ⟨hi.2, by have := hi.1; omega⟩))
  have how3 : Only gc w w3 := Only.trans HO2'.out ho3
  have hlql := HLQ.out
  obtain ⟨b, c', cur, ev, hv', hbb, hbg, hblk, hcs, hnc, hcm', htk, hev, hcells⟩ := hm3.at_ hqn (k := k) (by omega)
  have hvv := HV.out
  rw [hv', ← hlql] at hvv
  have hcc : c' = c ∧ A = some ⟨b, 0, none⟩ := by
    injection hvv with hvv
    simp only [Value.slice.injEq, true_and] at hvv
    exact ⟨hvv.2, hvv.1.symm⟩
  obtain ⟨rfl, rfl⟩ := hcc
  have hz3b := hblk.lt
  have hkc : k * 7 + 7 ≤ cur.size := by omega
  have y0 : ∀ wx, Only gc w3 wx → wx.cell? ⟨gl, q, none⟩ = some (.slice (some ⟨b, 0, none⟩) len c') := fun wx hx => by
    have hb1 := Same.blk hx hm3.blk ⟨hm3.blk.lt, by have := hm3.low; omega⟩
    rw [hb1.cell, List.getElem?_toArray, hv', ← hlql]
  have ye : ∀ (j : Nat) (x : Value), (encEv ev)[j]? = some x → ∀ wx, Only gc w3 wx → wx.cell? ⟨b, k * 7 + j, none⟩ = some x := fun j x hx wx hw => by
    have hb1 := Same.blk hw hblk ⟨hz3b, by omega⟩
    rw [hb1.cell]
    exact hcells j x hx
  have fin : ∀ (u1 w9 : World) (o : Nat) (x : Int), Only gc w3 u1 → (∃ r', Cod u1 B gc r') → o < 7 → Blk w9 b 50 (cur.setIfInBounds (k * 7 + o) (.int .i64 x)) → Same (· ≠ b) u1 w9 → SpPost B gc base gl n vs l w (.returned (.slice (some ⟨gl, 0, none⟩) n n)) w9 := by
    intro u1 w9 o x hu hc ho hb9 hs9
    have hz4 := hu.size
    have hmu := hm3.same (Same.mono hu (fun i hi => ⟨hi.2, by have := hi.1; omega⟩))
    refine ⟨_, rfl, hmu.put hv' hcs hnc hcm' htk hev ho (Ev.put_enc ev o x ho) hb9 hs9, len_set hql, ?_, ?_⟩
    · obtain ⟨r', hc⟩ := hc
      exact ⟨r', hc.write hs9 (fun hh => by have := HB.out _ hh; omega)⟩
    · exact Same.trans ((Only.trans how3 hu).mono (fun i hi => ⟨hi.1, hi.2.1⟩)) hs9 (fun i hi e => hi.2.2 _ (List.mem_of_getElem? hv') (by rw [e]; rfl))
  have fin2 : ∀ (u1 w9 : World) (x : Ev), Only gc w3 u1 → (∃ r', Cod u1 B gc r') → Blk w9 b 50 (splice cur (k * 7) (encEv x)) → Same (· ≠ b) u1 w9 → SpPost B gc base gl n vs l w (.returned (.slice (some ⟨gl, 0, none⟩) n n)) w9 := by
    intro u1 w9 x hu hc hb9 hs9
    have hz4 := hu.size
    have hmu := hm3.same (Same.mono hu (fun i hi => ⟨hi.2, by have := hi.1; omega⟩))
    refine ⟨_, rfl, hmu.putAll hv' hcs hnc hcm' htk (by omega) hb9 hs9, len_set hql, ?_, ?_⟩
    · obtain ⟨r', hc⟩ := hc
      exact ⟨r', hc.write hs9 (fun hh => by have := HB.out _ hh; omega)⟩
    · exact Same.trans ((Only.trans how3 hu).mono (fun i hi => ⟨hi.1, hi.2.1⟩)) hs9 (fun i hi e => hi.2.2 _ (List.mem_of_getElem? hv') (by rw [e]; rfl))
  have j0 : (0 : Int) ≤ k := by omega
  have j1 : (k : Int) < len := by omega
  have hrefl : Only gc w3 w3 := Same.refl _ _
  have HC3 := Lib.hid hc3
  have HBLK := Lib.hid hblk
  have YE := Lib.hid ye
  have FIN := Lib.hid fin
  have FIN2 := Lib.hid fin2
  have HREFL := Lib.hid hrefl
  clear hc3 hblk ye fin fin2 hrefl
  clear hm3 how3 hv' hvv hcells hev htk hcs hnc hcm' hlql ho3 HC2 HM2 HO2' HV HLQ
  by_cases e0 : s = 0
  · subst e0
    have x0 := y0 w3 HREFL.out
    have x1 : w3.cell? ⟨b, k * 7 + 1, none⟩ = some (.int .i64 ev.inc) := YE.out 1 _ rfl w3 HREFL.out
    clear y0
    go_wp2_with (refine wpList_store_one rfl _ (.tmp 39) (.tmp 37) rfl b (k * 7 + 1) 50 cur _ rfl rfl HBLK.out (by omega) (by kernel_rfl) rfl rfl ?_; intro w9 hb9 hs9)
    go_ret
    exact FIN.out w3 w9 1 _ HREFL.out ⟨_, HC3.out⟩ (by omega) hb9 hs9
  have s0 : (s == 0) = false := by simpa using e0
  by_cases e1 : s = 1
  · subst e1
    have y1 : ∀ wx, Only gc w3 wx → wx.cell? ⟨b, k * 7 + 4, none⟩ = some (.int .i64 ev.sIdx) := YE.out 4 _ rfl
    go_upto_region 9 with fail
    refine wp_region_L 16 (fun wx => Only gc w3 wx) (fun _ => True) (by kernel_rfl) (Same.drew (Same.refl _ _)) trivial (fun hA hB => ?_)
    have hku : Keep w3 w3.drew := Same.drew (Same.refl _ _)
    generalize hu0 : w3.drew = u0 at hA hku ⊢
    clear hu0
    refine wpL_takeA (i := 0) (v := ?_) rfl (by kernel_rfl) (by kernel_rfl) (by kernel_rfl) (by kernel_rfl) (by decide) (fun _ _ _ h => h) (Or.inl ⟨by rfl, ?_⟩) hA hB ?_
    rotate_left
    · rintro wx ⟨hAx, hBx⟩
      (try dsimp only at hBx); (try dsimp only at hAx)
      go_simp
      try with_reducible rfl
    try simp only [Act.put, List.setIfInBounds_toArray, List.set_cons_zero, List.set_cons_succ]
    refine wpL_takeA (i := 1) (v := ?_) rfl (by kernel_rfl) (by kernel_rfl) (by kernel_rfl) (by kernel_rfl) (by decide) (fun _ _ _ h => h) (Or.inl ⟨by rfl, ?_⟩) hA hB ?_
    rotate_left
    · rintro wx ⟨hAx, hBx⟩
      (try dsimp only at hBx); (try dsimp only at hAx)
      go_simp
      try with_reducible rfl
    try simp only [Act.put, List.setIfInBounds_toArray, List.set_cons_zero, List.set_cons_succ]
    refine wpL_takeA (i := 2) (v := ?_) rfl (by kernel_rfl) (by kernel_rfl) (by kernel_rfl) (by kernel_rfl) (by decide) (fun _ _ _ h => h) (Or.inl ⟨by rfl, ?_⟩) hA hB ?_
    rotate_left
    · rintro wx ⟨hAx, hBx⟩
      (try dsimp only at hBx); (try dsimp only at hAx)
      go_simp
      try with_reducible rfl
    try simp only [Act.put, List.setIfInBounds_toArray, List.set_cons_zero, List.set_cons_succ]
    refine wpL_takeA (i := 3) (v := ?_) rfl (by kernel_rfl) (by kernel_rfl) (by kernel_rfl) (by kernel_rfl) (by decide) (fun _ _ _ h => h) (Or.inl ⟨by rfl, ?_⟩) hA hB ?_
    rotate_left
    · rintro wx ⟨hAx, hBx⟩
      (try dsimp only at hBx); (try dsimp only at hAx)
      go_simp
      try with_reducible rfl
    try simp only [Act.put, List.setIfInBounds_toArray, List.set_cons_zero, List.set_cons_succ]
    refine wpL_takeA (i := 4) (v := ?_) rfl (by kernel_rfl) (by kernel_rfl) (by kernel_rfl) (by kernel_rfl) (by decide) (fun _ _ _ h => h) (Or.inl ⟨by rfl, ?_⟩) hA hB ?_
    rotate_left
    · rintro wx ⟨hAx, hBx⟩
      (try dsimp only at hBx); (try dsimp only at hAx)
      go_simp
      try with_reducible rfl
    try simp only [Act.put, List.setIfInBounds_toArray, List.set_cons_zero, List.set_cons_succ]
    refine wpL_takeA (i := 5) (v := ?_) rfl (by kernel_rfl) (by kernel_rfl) (by kernel_rfl) (by kernel_rfl) (by decide) (fun _ _ _ h => h) (Or.inl ⟨by rfl, ?_⟩) hA hB ?_
    rotate_left
    · rintro wx ⟨hAx, hBx⟩
      (try dsimp only at hBx); (try dsimp only at hAx)
      go_simp
      try with_reducible rfl
    try simp only [Act.put, List.setIfInBounds_toArray, List.set_cons_zero, List.set_cons_succ]
    refine wpL_takeA (i := 6) (v := ?_) rfl (by kernel_rfl) (by kernel_rfl) (by kernel_rfl) (by kernel_rfl) (by decide) (fun _ _ _ h => h) (Or.inl ⟨by rfl, ?_⟩) hA hB ?_
    rotate_left
    · rintro wx ⟨hAx, hBx⟩
      (try dsimp only at hBx); (try dsimp only at hAx)
      go_simp
      try with_reducible rfl
    try simp only [Act.put, List.setIfInBounds_toArray, List.set_cons_zero, List.set_cons_succ]
    refine wpL_takeA (i := 7) (v := ?_) rfl (by kernel_rfl) (by kernel_rfl) (by kernel_rfl) (by kernel_rfl) (by decide) (fun _ _ _ h => h) (Or.inl ⟨by rfl, ?_⟩) hA hB ?_
    rotate_left
    · rintro wx ⟨hAx, hBx⟩
      (try dsimp only at hBx); (try dsimp only at hAx)
      go_simp
      try with_reducible rfl
    try simp only [Act.put, List.setIfInBounds_toArray, List.set_cons_zero, List.set_cons_succ]
    refine wpL_takeA (i := 8) (v := ?_) rfl (by kernel_rfl) (by kernel_rfl) (by kernel_rfl) (by kernel_rfl) (by decide) (fun _ _ _ h => h) (Or.inl ⟨by rfl, ?_⟩) hA hB ?_
    rotate_left
    · rintro wx ⟨hAx, hBx⟩
      (try dsimp only at hBx); (try dsimp only at hAx)
      go_simp
      try with_reducible rfl
    try simp only [Act.put, List.setIfInBounds_toArray, List.set_cons_zero, List.set_cons_succ]
    refine wpL_takeA (i := 9) (v := ?_) rfl (by kernel_rfl) (by kernel_rfl) (by kernel_rfl) (by kernel_rfl) (by decide) (fun _ _ _ h => h) (Or.inl ⟨by rfl, ?_⟩) hA hB ?_
    rotate_left
    · rintro wx ⟨hAx, hBx⟩
      (try dsimp only at hBx); (try dsimp only at hAx)
      go_simp
      try with_reducible rfl
    try simp only [Act.put, List.setIfInBounds_toArray, List.set_cons_zero, List.set_cons_succ]
    clear y0 y1
    refine wpL_one (i := 10) (by kernel_rfl) (StepL.mk rfl (fun K hK => ?_))
    go_simp
    refine (next_any u0 B gc _ 3 (HC3.out.keep hku) (by omega) (by omega)).mono ?_
    rintro e u1 ⟨v2, hw0, hw1, rfl, hc8, ho8⟩
    have hA8 : Only gc w3 u1 := Only.trans (hku.only gc) ho8
    refine hK.out _ _ (SAB.both hA8 trivial) (fun hSS => ?_)
    clear hK K hA hB
    have hB := hSS.2
    have hA := hSS.1 (by kernel_rfl)
    (try dsimp only at hB); (try dsimp only at hA); clear hSS
    try simp only [Act.put, List.setIfInBounds_toArray, List.set_cons_zero, List.set_cons_succ]
    refine wpL_takeB (i := 11) (v := ?_) rfl (by kernel_rfl) (by kernel_rfl) (by kernel_rfl) (by decide) (fun _ _ _ h => h) (Or.inl ⟨by rfl, ?_⟩) (SAB.both hA hB) ?_
    rotate_left
    · intro wx hBx
      (try dsimp only at hBx)
      go_simp
      try with_reducible rfl
    try simp only [Act.put, List.setIfInBounds_toArray, List.set_cons_zero, List.set_cons_succ]
    refine wpL_takeB (i := 12) (v := ?_) rfl (by kernel_rfl) (by kernel_rfl) (by kernel_rfl) (by decide) (fun _ _ _ h => h) (Or.inl ⟨by rfl, ?_⟩) (SAB.both hA hB) ?_
    rotate_left
    · intro wx hBx
      (try dsimp only at hBx)
      go_simp
      try with_reducible rfl
    try simp only [Act.put, List.setIfInBounds_toArray, List.set_cons_zero, List.set_cons_succ]
    refine wpL_takeB (i := 13) (v := ?_) rfl (by kernel_rfl) (by kernel_rfl) (by kernel_rfl) (by decide) (fun _ _ _ h => h) (Or.inl ⟨by rfl, ?_⟩) (SAB.both hA hB) ?_
    rotate_left
    · intro wx hBx
      (try dsimp only at hBx)
      go_simp
      try with_reducible rfl
    try simp only [Act.put, List.setIfInBounds_toArray, List.set_cons_zero, List.set_cons_succ]
    refine wpL_takeB (i := 14) (v := ?_) rfl (by kernel_rfl) (by kernel_rfl) (by kernel_rfl) (by decide) (fun _ _ _ h => h) (Or.inl ⟨by rfl, ?_⟩) (SAB.both hA hB) ?_
    rotate_left
    · intro wx hBx
      (try dsimp only at hBx)
      go_simp
      try with_reducible rfl
    try simp only [Act.put, List.setIfInBounds_toArray, List.set_cons_zero, List.set_cons_succ]
    refine wpL_takeB (i := 15) (v := ?_) rfl (by kernel_rfl) (by kernel_rfl) (by kernel_rfl) (by decide) (fun _ _ _ h => h) (Or.inl ⟨by rfl, ?_⟩) (SAB.both hA hB) ?_
    rotate_left
    · intro wx hBx
      (try dsimp only at hBx)
      go_simp
      try with_reducible rfl
    try simp only [Act.put, List.setIfInBounds_toArray, List.set_cons_zero, List.set_cons_succ]
    refine wpL_one (i := 16) (by kernel_rfl) (StepL.mk rfl (fun K hK => ?_))
    have hb8 := Same.blk hA8 HBLK.out ⟨hz3b, by omega⟩
    refine step_store_one rfl _ _ _ rfl b (k * 7 + 4) 50 cur _ rfl rfl hb8 (by omega) (by kernel_rfl) rfl rfl ?_
    intro w9 hb9 hs9
    have hfin := FIN.out u1 w9 4 _ hA8 ⟨_, hc8⟩ (by omega) hb9 hs9
    refine hK.out _ _ (SAB.past (by kernel_rfl) trivial) (fun hSS => ?_)
    clear hK K hA hB
    have hB := hSS.2
    have hA : True := trivial
    (try dsimp only at hB); (try dsimp only at hA); clear hSS
    try simp only [Act.put, List.setIfInBounds_toArray, List.set_cons_zero, List.set_cons_succ]
    refine wpL_done (by kernel_rfl) ?_
    have HFIN := Lib.hid hfin
    clear hfin
    clear hb8 hb9 hs9 hA8 hc8 ho8 hku hA hB
    go_wp2_with fail
    go_ret
    exact HFIN.out
  have s1 : (s == 1) = false := by simpa using e1
  by_cases e2 : s = 2
  · subst e2
    go_upto_region 11 with fail
    refine wp_region_L 10 (fun wx => Only gc w3 wx) (fun _ => True) (by kernel_rfl) (Same.drew (Same.refl _ _)) trivial (fun hA hB => ?_)
    have hku : Keep w3 w3.drew := Same.drew (Same.refl _ _)
    generalize hu0 : w3.drew = u0 at hA hku ⊢
    clear hu0
    refine wpL_takeA (i := 0) (v := ?_) rfl (by kernel_rfl) (by kernel_rfl) (by kernel_rfl) (by kernel_rfl) (by decide) (fun _ _ _ h => h) (Or.inl ⟨by rfl, ?_⟩) hA hB ?_
    rotate_left
    · rintro wx ⟨hAx, hBx⟩
      (try dsimp only at hBx); (try dsimp only at hAx)
      go_simp
      try with_reducible rfl
    try simp only [Act.put, List.setIfInBounds_toArray, List.set_cons_zero, List.set_cons_succ]
    refine wpL_takeA (i := 1) (v := ?_) rfl (by kernel_rfl) (by kernel_rfl) (by kernel_rfl) (by kernel_rfl) (by decide) (fun _ _ _ h => h) (Or.inl ⟨by rfl, ?_⟩) hA hB ?_
    rotate_left
    · rintro wx ⟨hAx, hBx⟩
      (try dsimp only at hBx); (try dsimp only at hAx)
      go_simp
      try with_reducible rfl
    try simp only [Act.put, List.setIfInBounds_toArray, List.set_cons_zero, List.set_cons_succ]
    refine wpL_takeA (i := 2) (v := ?_) rfl (by kernel_rfl) (by kernel_rfl) (by kernel_rfl) (by kernel_rfl) (by decide) (fun _ _ _ h => h) (Or.inl ⟨by rfl, ?_⟩) hA hB ?_
    rotate_left
    · rintro wx ⟨hAx, hBx⟩
      (try dsimp only at hBx); (try dsimp only at hAx)
      go_simp
      try with_reducible rfl
    try simp only [Act.put, List.setIfInBounds_toArray, List.set_cons_zero, List.set_cons_succ]
    refine wpL_takeA (i := 3) (v := ?_) rfl (by kernel_rfl) (by kernel_rfl) (by kernel_rfl) (by kernel_rfl) (by decide) (fun _ _ _ h => h) (Or.inl ⟨by rfl, ?_⟩) hA hB ?_
    rotate_left
    · rintro wx ⟨hAx, hBx⟩
      (try dsimp only at hBx); (try dsimp only at hAx)
      go_simp
      try with_reducible rfl
    try simp only [Act.put, List.setIfInBounds_toArray, List.set_cons_zero, List.set_cons_succ]
    refine wpL_takeA (i := 4) (v := ?_) rfl (by kernel_rfl) (by kernel_rfl) (by kernel_rfl) (by kernel_rfl) (by decide) (fun _ _ _ h => h) (Or.inl ⟨by rfl, ?_⟩) hA hB ?_
    rotate_left
    · rintro wx ⟨hAx, hBx⟩
      (try dsimp only at hBx); (try dsimp only at hAx)
      go_simp
      try with_reducible rfl
    try simp only [Act.put, List.setIfInBounds_toArray, List.set_cons_zero, List.set_cons_succ]
    refine wpL_takeA (i := 5) (v := ?_) rfl (by kernel_rfl) (by kernel_rfl) (by kernel_rfl) (by kernel_rfl) (by decide) (fun _ _ _ h => h) (Or.inl ⟨by rfl, ?_⟩) hA hB ?_
    rotate_left
    · rintro wx ⟨hAx, hBx⟩
      (try dsimp only at hBx); (try dsimp only at hAx)
      go_simp
      try with_reducible rfl
    try simp only [Act.put, List.setIfInBounds_toArray, List.set_cons_zero, List.set_cons_succ]
    clear y0
    refine wpL_one (i := 6) (by kernel_rfl) (StepL.mk rfl (fun K hK => ?_))
    go_simp
    refine (next_any u0 B gc _ 5 (HC3.out.keep hku) (by omega) (by omega)).mono ?_
    rintro e u1 ⟨v2, hw0, hw1, rfl, hc8, ho8⟩
    have hA8 : Only gc w3 u1 := Only.trans (hku.only gc) ho8
    refine hK.out _ _ (SAB.both hA8 trivial) (fun hSS => ?_)
    clear hK K hA hB
    have hB := hSS.2
    have hA := hSS.1 (by kernel_rfl)
    (try dsimp only at hB); (try dsimp only at hA); clear hSS
    try simp only [Act.put, List.setIfInBounds_toArray, List.set_cons_zero, List.set_cons_succ]
    refine wpL_takeB (i := 7) (v := ?_) rfl (by kernel_rfl) (by kernel_rfl) (by kernel_rfl) (by decide) (fun _ _ _ h => h) (Or.inl ⟨by rfl, ?_⟩) (SAB.both hA hB) ?_
    rotate_left
    · intro wx hBx
      (try dsimp only at hBx)
      go_simp
      try with_reducible rfl
    try simp only [Act.put, List.setIfInBounds_toArray, List.set_cons_zero, List.set_cons_succ]
    refine wpL_takeB (i := 8) (v := ?_) rfl (by kernel_rfl) (by kernel_rfl) (by kernel_rfl) (by decide) (fun _ _ _ h => h) (Or.inl ⟨by rfl, ?_⟩) (SAB.both hA hB) ?_
    rotate_left
    · intro wx hBx
      (try dsimp only at hBx)
      go_simp
      try with_reducible rfl
    try simp only [Act.put, List.setIfInBounds_toArray, List.set_cons_zero, List.set_cons_succ]
    refine wpL_takeB (i := 9) (v := ?_) rfl (by kernel_rfl) (by kernel_rfl) (by kernel_rfl) (by decide) (fun _ _ _ h => h) (Or.inl ⟨by rfl, ?_⟩) (SAB.both hA hB) ?_
    rotate_left
    · intro wx hBx
      (try dsimp only at hBx)
      go_simp
      try with_reducible rfl
    try simp only [Act.put, List.setIfInBounds_toArray, List.set_cons_zero, List.set_cons_succ]
    refine wpL_one (i := 10) (by kernel_rfl) (StepL.mk rfl (fun K hK => ?_))
    have hb8 := Same.blk hA8 HBLK.out ⟨hz3b, by omega⟩
    refine step_store_one rfl _ _ _ rfl b (k * 7 + 2) 50 cur _ rfl rfl hb8 (by omega) (by kernel_rfl) rfl rfl ?_
    intro w9 hb9 hs9
    have hfin := FIN.out u1 w9 2 _ hA8 ⟨_, hc8⟩ (by omega) hb9 hs9
    refine hK.out _ _ (SAB.past (by kernel_rfl) trivial) (fun hSS => ?_)
    clear hK K hA hB
    have hB := hSS.2
    have hA : True := trivial
    (try dsimp only at hB); (try dsimp only at hA); clear hSS
    try simp only [Act.put, List.setIfInBounds_toArray, List.set_cons_zero, List.set_cons_succ]
    refine wpL_done (by kernel_rfl) ?_
    have HFIN := Lib.hid hfin
    clear hfin
    clear hb8 hb9 hs9 hA8 hc8 ho8 hku hA hB
    go_wp2_with fail
    go_ret
    exact HFIN.out
  have s2 : (s == 2) = false := by simpa using e2
  by_cases e3 : s = 3
  · subst e3
    go_upto_region 13 with fail
    refine wp_region_L 8 (fun wx => Only gc w3 wx) (fun _ => True) (by kernel_rfl) (Same.drew (Same.refl _ _)) trivial (fun hA hB => ?_)
    have hku : Keep w3 w3.drew := Same.drew (Same.refl _ _)
    generalize hu0 : w3.drew = u0 at hA hku ⊢
    clear hu0
    refine wpL_takeA (i := 0) (v := ?_) rfl (by kernel_rfl) (by kernel_rfl) (by kernel_rfl) (by kernel_rfl) (by decide) (fun _ _ _ h => h) (Or.inl ⟨by rfl, ?_⟩) hA hB ?_
    rotate_left
    · rintro wx ⟨hAx, hBx⟩
      (try dsimp only at hBx); (try dsimp only at hAx)
      go_simp
      try with_reducible rfl
    try simp only [Act.put, List.setIfInBounds_toArray, List.set_cons_zero, List.set_cons_succ]
    refine wpL_takeA (i := 1) (v := ?_) rfl (by kernel_rfl) (by kernel_rfl) (by kernel_rfl) (by kernel_rfl) (by decide) (fun _ _ _ h => h) (Or.inl ⟨by rfl, ?_⟩) hA hB ?_
    rotate_left
    · rintro wx ⟨hAx, hBx⟩
      (try dsimp only at hBx); (try dsimp only at hAx)
      go_simp
      try with_reducible rfl
    try simp only [Act.put, List.setIfInBounds_toArray, List.set_cons_zero, List.set_cons_succ]
    refine wpL_takeA (i := 2) (v := ?_) rfl (by kernel_rfl) (by kernel_rfl) (by kernel_rfl) (by kernel_rfl) (by decide) (fun _ _ _ h => h) (Or.inl ⟨by rfl, ?_⟩) hA hB ?_
    rotate_left
    · rintro wx ⟨hAx, hBx⟩
      (try dsimp only at hBx); (try dsimp only at hAx)
      go_simp
      try with_reducible rfl
    try simp only [Act.put, List.setIfInBounds_toArray, List.set_cons_zero, List.set_cons_succ]
    refine wpL_takeA (i := 3) (v := ?_) rfl (by kernel_rfl) (by kernel_rfl) (by kernel_rfl) (by kernel_rfl) (by decide) (fun _ _ _ h => h) (Or.inl ⟨by rfl, ?_⟩) hA hB ?_
    rotate_left
    · rintro wx ⟨hAx, hBx⟩
      (try dsimp only at hBx); (try dsimp only at hAx)
      go_simp
      try with_reducible rfl
    try simp only [Act.put, List.setIfInBounds_toArray, List.set_cons_zero, List.set_cons_succ]
    refine wpL_takeA (i := 4) (v := ?_) rfl (by kernel_rfl) (by kernel_rfl) (by kernel_rfl) (by kernel_rfl) (by decide) (fun _ _ _ h => h) (Or.inl ⟨by rfl, ?_⟩) hA hB ?_
    rotate_left
    · rintro wx ⟨hAx, hBx⟩
      (try dsimp only at hBx); (try dsimp only at hAx)
      go_simp
      try with_reducible rfl
    try simp only [Act.put, List.setIfInBounds_toArray, List.set_cons_zero, List.set_cons_succ]
    refine wpL_takeA (i := 5) (v := ?_) rfl (by kernel_rfl) (by kernel_rfl) (by kernel_rfl) (by kernel_rfl) (by decide) (fun _ _ _ h => h) (Or.inl ⟨by rfl, ?_⟩) hA hB ?_
    rotate_left
    · rintro wx ⟨hAx, hBx⟩
      (try dsimp only at hBx); (try dsimp only at hAx)
      go_simp
      try with_reducible rfl
    try simp only [Act.put, List.setIfInBounds_toArray, List.set_cons_zero, List.set_cons_succ]
    clear y0
    refine wpL_one (i := 6) (by kernel_rfl) (StepL.mk rfl (fun K hK => ?_))
    go_simp
    refine (event_any u0 B gc _ (HC3.out.keep hku)).mono ?_
    rintro e u1 ⟨x, rfl, ⟨r', -, hc8⟩, ho8⟩
    have hA8 : Only gc w3 u1 := Only.trans (hku.only gc) ho8
    refine hK.out _ _ (SAB.both hA8 trivial) (fun hSS => ?_)
    clear hK K hA hB
    have hB := hSS.2
    have hA := hSS.1 (by kernel_rfl)
    (try dsimp only at hB); (try dsimp only at hA); clear hSS
    try simp only [Act.put, List.setIfInBounds_toArray, List.set_cons_zero, List.set_cons_succ]
    refine wpL_takeB (i := 7) (v := ?_) rfl (by kernel_rfl) (by kernel_rfl) (by kernel_rfl) (by decide) (fun _ _ _ h => h) (Or.inl ⟨by rfl, ?_⟩) (SAB.both hA hB) ?_
    rotate_left
    · intro wx hBx
      (try dsimp only at hBx)
      go_simp
      try with_reducible rfl
    try simp only [Act.put, List.setIfInBounds_toArray, List.set_cons_zero, List.set_cons_succ]
    refine wpL_one (i := 8) (by kernel_rfl) (StepL.mk rfl (fun K hK => ?_))
    have hb8 := Same.blk hA8 HBLK.out ⟨hz3b, by omega⟩
    refine step_store_blk rfl _ _ _ rfl b (k * 7) 50 cur (encEv x) rfl rfl hb8 (by rw [encEv_len]; omega) (by kernel_rfl) rfl ?_
    intro w9 hb9 hs9
    have hfin := FIN2.out u1 w9 x hA8 ⟨_, hc8⟩ hb9 hs9
    refine hK.out _ _ (SAB.past (by kernel_rfl) trivial) (fun hSS => ?_)
    clear hK K hA hB
    have hB := hSS.2
    have hA : True := trivial
    (try dsimp only at hB); (try dsimp only at hA); clear hSS
    try simp only [Act.put, List.setIfInBounds_toArray, List.set_cons_zero, List.set_cons_succ]
    refine wpL_done (by kernel_rfl) ?_
    have HFIN := Lib.hid hfin
    clear hfin
    clear hb8 hb9 hs9 hA8 hc8 ho8 hku hA hB
    go_wp2_with fail
    go_ret
    exact HFIN.out
  have s3 : (s == 3) = false := by simpa using e3
  obtain rfl : s = 4 := by omega
  have x0 := y0 w3 HREFL.out
  have x1 : w3.cell? ⟨b, k * 7 + 3, none⟩ = some (.int .i64 ev.sInc) := YE.out 3 _ rfl w3 HREFL.out
  clear y0
  go_wp2_with (refine wpList_store_one rfl _ (.tmp 94) (.tmp 91) rfl b (k * 7 + 3) 50 cur _ rfl rfl HBLK.out (by omega) (by kernel_rfl) rfl rfl ?_; intro w9 hb9 hs9)
  go_ret
  exact FIN.out w3 w9 3 _ HREFL.out ⟨_, HC3.out⟩ (by omega) hb9 hs9
end Go.Proofs.Ytcfpkmfppgodmaa
