/- The law ProcessLabels: written by gen_law6l.py. -/
import Derived.Test.YtecckbkobkfnmaaDoorGM
import Derived.Test.YtecckbkobkfnmaaDoorGP
import Derived.Test.YtecckbkobkfnmaaDoorLab
import Derived.Test.YtecckbkobkfnmaaDoorAid6
import Derived.Test.YtecckbkobkfnmaaDoorRow
set_option linter.unusedVariables false
set_option linter.unusedSimpArgs false
set_option maxRecDepth 100000
namespace Go.Proofs.YtecckbkobkfnmaaDoor
open Go.RowKit Go.Proofs


def LL1 (B : Nat) (W : World) (v : Value) (n : Nat) (inc ord : Int) (l : List Ev) (i : Value) (wr : World) : Prop :=
  ∃ k : Nat, i = .int .i64 k ∧ k ≤ n ∧ wr.ownsRow B 51 7 v n ((relabs inc ord k l).flatMap encEv) ∧ Keep W wr
theorem relab_row {cur : Array Value} {l : List Ev} {k : Nat} {e : Ev} {inc ord : Int} (h : Row encEv cur (relabs inc ord k l)) (he : l[k]? = some e) (hk : k * 7 + 7 ≤ cur.size) :
    Row encEv ((splice (cur.setIfInBounds (k * 7 + 1) (.int .i64 inc)) (k * 7 + 3) [.int .i64 ord, .int .i64 k]).setIfInBounds (k * 7 + 5) (.int .i64 ord)) (relabs inc ord (k + 1) l) := by
  have hkl : k < l.length := (List.getElem?_eq_some_iff.1 he).1
  have h0 : ∀ r u, (encEv e)[r]? = some u → cur[k * 7 + r]? = some u := fun r u hu => by
    have hr : r < 7 := by have := (List.getElem?_eq_some_iff.1 hu).1; simpa [encEv] using this
    have hg := relabs_get (inc := inc) (ord := ord) (k := k) he
    rw [if_neg (by omega)] at hg
    have hkl' : k < (relabs inc ord k l).length := by rw [relabs_len]; exact hkl
    refine h _ u ?_
    rw [flat_get encEv_len _ k r hkl' hr]
    have : (relabs inc ord k l)[k] = e := by have := List.getElem?_eq_getElem hkl'; rw [hg] at this; injection this with this; exact this.symm
    rw [this]
    exact hu
  rw [relabs_succ he]
  refine Row.set_ encEv_len (by rw [relabs_len]; exact hkl) h (fun j hj => ?_) (fun r u hu => ?_)
  · simp only [splice, Array.getElem?_setIfInBounds]
    rw [if_neg (by omega), if_neg (by omega), if_neg (by omega), if_neg (by omega)]
  · have hr : r < 7 := by have := (List.getElem?_eq_some_iff.1 hu).1; simpa [encEv] using this
    simp only [splice, Array.getElem?_setIfInBounds, Array.size_setIfInBounds]
    rcases r with _ | _ | _ | _ | _ | _ | _ | r
    · rw [if_neg (by omega), if_neg (by omega), if_neg (by omega), if_neg (by omega)]; exact h0 0 u hu
    · rw [if_neg (by omega), if_neg (by omega), if_neg (by omega), if_pos (by omega), if_pos (by omega)]; exact hu
    · rw [if_neg (by omega), if_neg (by omega), if_neg (by omega), if_neg (by omega)]; exact h0 2 u hu
    · rw [if_neg (by omega), if_neg (by omega), if_pos (by omega), if_pos (by omega)]; exact hu
    · rw [if_neg (by omega), if_pos (by omega), if_pos (by omega)]; exact hu
    · rw [if_pos (by omega), if_pos (by omega)]; exact hu
    · rw [if_neg (by omega), if_neg (by omega), if_neg (by omega), if_neg (by omega)]; exact h0 6 u hu
    · omega
set_option maxHeartbeats 32000000 in
theorem processLabels_walk (w : World) (A : Option Addr) (n c : Nat) (zs : List Int) (self : Int) (inc ord : Int) (hs0 : 0 ≤ self) (hs1 : self < 256) (hg : Glob w) (hz : Sl encB 1 w (· < w.heap.size) A n c zs) (hz8 : ∀ y ∈ zs, 0 ≤ y ∧ y < 256) :
    Calls Tryd.prog 6 #[.slice A n c, .int .u8 self, .int .i64 inc, .int .i64 ord] w (AwPost w) := by
  have HG := Lib.hid hg
  have HZ := Lib.hid hz
  have HZ8 := Lib.hid hz8
  clear hg hz hz8
  go_enter Tryd.func6, Tryd.ntmps6
  go_wp2_with fail
  refine (awake06_any w).mono ?_
  rintro e w1 ⟨rfl, hk1⟩
  have hz1 := hk1.size
  have HK1 := Lib.hid hk1
  clear hk1
  go_wp2_with fail
  refine (new_any w1 A n c 240 zs (fun i => i < w.heap.size) (fun i hi => by omega) (HZ.out.keep HK1.out) HZ8.out (by omega)).mono ?_
  rintro e w2 ⟨r, hr, rfl, hc2, hk2⟩
  have hz2 := hk2.size
  have hk2' := Keep.trans HK1.out hk2
  have hg2 := HG.out.keep hk2'
  have hgc := hc2.lt
  generalize hgce : w1.heap.size = gc at *
  have HK2' := Lib.hid hk2'
  have HG2 := Lib.hid hg2
  have HC2 := Lib.hid hc2
  clear hk2' hg2 hc2
  clear hk2
  go_wp2_with fail
  refine (code_any w2 _ gc r HC2.out HG2.out).mono ?_
  rintro e w3 ⟨cs3, cd, r3, rfl, hcd, hc3, ho3⟩
  have hz3 := ho3.size
  obtain ⟨B0, B1, B2, B3, B4, p0, q0, p1, q1, p2, q2, p3, q3, p4, q4, rfl, hcx⟩ := cd_open hcd
  have hk3 : Keep w w3 := Same.trans HK2'.out ho3 (fun i hi => by omega)
  have hci : cd.init.length ≤ 1000000 := by obtain ⟨_, _, _, _, _, _, _, _, _, _, _, _, _, _, _, _, _, _, _, _, _, h⟩ := hcx; exact h
  have HCX := Lib.hid hcx
  have HC3 := Lib.hid hc3
  have HK3 := Lib.hid hk3
  have HCI := Lib.hid hci
  clear hcx hc3 hk3 hci
  clear hcd
  clear ho3
  go_upto_region 6 with (refine wpList_store_all rfl _ (.tmp 10) (.tmp 22) rfl w3.heap.size 38 _ [.slice B0 p0 q0, .slice B1 p1 q1, .slice B2 p2 q2, .slice B3 p3 q3, .slice B4 p4 q4] rfl rfl (Blk.new _ _ _) rfl (by kernel_rfl) rfl ?_; intro w4 hb4 hs4)
  generalize hme : self % 3 = me at *
  clear hme
  have hk4 : Keep w3 w4 := Keep.write (Keep.new _ _) hs4 (Nat.le_refl _)
  have hz4 : w3.heap.size < w4.heap.size := hb4.lt
  have hc4 := HC3.out.same (Same.mono hk4 (fun i hi => by rcases hi with h | h <;> omega))
  have HK4 := Lib.hid hk4
  have HB4 := Lib.hid hb4
  have HC4 := Lib.hid hc4
  clear hk4 hb4 hc4
  clear hs4
  go_wp2_with fail
  refine (events_any w4 _ gc r3 8 (by omega) HC4.out).mono ?_
  rintro e w5 ⟨A5, n5, c5, l, rfl, hl5, hn5, -, ho5⟩
  have hz5 := ho5.size
  have hb5 := ho5.blk HB4.out ⟨by omega, by omega⟩
  have hk5 : Keep w w5 := Same.trans (Keep.trans HK3.out HK4.out) ho5 (fun i hi => by omega)
  have hcd5 : CdR w5 (New w5 w2.heap.size) [.slice B0 p0 q0, .slice B1 p1 q1, .slice B2 p2 q2, .slice B3 p3 q3, .slice B4 p4 q4] cd := (HCX.out.keep (Same.trans (Same.mono HK4.out (fun i (hi : New w3 w2.heap.size i) => hi.2)) ho5 (fun i hi => ⟨by have := hi.2; omega, by have := hi.1; omega⟩))).more (fun i hi => ⟨hi.1, by have := hi.2; omega⟩)
  have hev5 : Sl encEv 7 w5 (New w5 w2.heap.size) A5 n5 c5 l := hl5.more (fun i hi => ⟨by have := hi.1; omega, hi.2⟩)
  have HB5 := Lib.hid hb5
  have HK5 := Lib.hid hk5
  have HCD5 := Lib.hid hcd5
  have HEV5 := Lib.hid hev5
  clear hb5 hk5 hcd5 hev5
  clear ho5 hl5
  have hln : l.length = n5 := HEV5.out.1.symm
  have hln8 : l.length ≤ 8 := by omega
  have HLN := Lib.hid hln
  clear hln
  obtain ⟨i0, hi0, hz0, hz1, hz2⟩ := info_of info_Event
  have hnil : w5.ownsRow w5.heap.size 51 7 (.slice none 0 0) 0 [] := World.ownsRow_nil _ _ _ _
  have hrd := HEV5.out.2.2.2
  have hone : ∀ u ∈ l.flatMap encEv, u.oneCell' = true := fun u hu => by obtain ⟨x, -, hx⟩ := List.mem_flatMap.1 hu; exact encEv_one x u hx
  have HI0 := Lib.hid hi0
  have HZ0 := Lib.hid hz0
  have HZ1 := Lib.hid hz1
  have HZ2 := Lib.hid hz2
  have HNIL := Lib.hid hnil
  have HRD := Lib.hid hrd
  have HONE := Lib.hid hone
  clear hi0 hz0 hz1 hz2 hnil hrd hone
  go_wp2_with (at_builtin; refine wpList_append_any w5 rfl _ _ 23 rfl w5.heap.size 51 i0 _ 7 56 Tryd.underlying23 HI0.out HZ0.out HZ1.out HZ2.out rfl (by decide) (.slice none 0 0) 0 [] rfl HNIL.out (New w5 w2.heap.size) A5 n5 c5 (l.flatMap encEv) rfl HRD.out HONE.out (by unfold maxLen; omega) (by omega) (Nat.le_refl _) ?_)
  intro v6 w6 hown6 hg6 hat6
  have hk6 : Keep w5 w6 := Same.append (Same.refl _ _) HNIL.out hg6 (fun i hi => hi) (Nat.le_refl _)
  (try simp only [Nat.zero_add, List.nil_append] at hown6)
  obtain ⟨A6, c6, hv6, hn6, hc6⟩ := own_form hown6
  subst hv6
  have hz6 := hk6.size
  have hrel0 : LL1 w5.heap.size w5 (.slice A6 n5 c6) n5 inc ord l (.int .i64 0) w6 := ⟨0, rfl, Nat.zero_le _, by rw [relabs_zero]; exact hown6, hk6⟩
  have HREL0 := Lib.hid hrel0
  clear hrel0
  clear hown6 hg6 hat6 hk6 HNIL HRD HONE HI0 HZ0 HZ1 HZ2
  go_wp2_with fail
  go_loopw [32] (fun i wr => LL1 w5.heap.size w5 (.slice A6 n5 c6) n5 inc ord l i wr) (fun i _ => n5 - (intOf i).toNat)
  case atStart => exact HREL0.out
  case round =>
    clear HREL0
    obtain ⟨k, rfl, hkl, how, hkr⟩ := hrel
    have hzr := hkr.size
    by_cases hkn : k < n5
    · obtain ⟨g, cur, rfl, hbg, hbk, hcs, hnc, hcm, htk⟩ := own_open how (by omega)
      have hd1 : decide (k < n5) = true := by simpa using hkn
      have hd2 : (0 : Int) ≤ k := by omega
      have hd3 : (k : Int) < n5 := by omega
      have hkx : k < l.length := by have := HLN.out; omega
      have hx : l[k]? = some l[k] := List.getElem?_eq_getElem hkx
      have hcz : k * 7 + 7 ≤ cur.size := by omega
      have hrow := relab_row (inc := inc) (ord := ord) (row_of_take htk) hx hcz
      clear how htk hx
      generalize hxe : l[k] = x at hrow
      clear hxe
      have HROW := Lib.hid hrow
      have HBK := Lib.hid hbk
      have HKR := Lib.hid hkr
      have HCS := Lib.hid hcs
      clear hrow hbk hkr hcs
      go_wp2_with (first
        | (refine wpList_store_one rfl _ (.tmp 47) (.tmp 41) rfl g (k * 7 + 1) 51 cur (.int .i64 inc) rfl rfl HBK.out (by omega) (by kernel_rfl) rfl rfl ?_; intro w7 hb7 hs7)
        | (refine wpList_store_blk rfl _ (.tmp 49) (.tmp 44) rfl g (k * 7 + 3) 51 _ [.int .i64 ord, .int .i64 k] rfl rfl hb7 (by simp; omega) (by kernel_rfl) rfl ?_; intro w8 hb8 hs8)
        | (refine wpList_store_one rfl _ (.tmp 51) (.tmp 45) rfl g (k * 7 + 5) 51 _ (.int .i64 ord) rfl rfl hb8 (by rw [splice_size]; simp; omega) (by kernel_rfl) rfl rfl ?_; intro w9 hb9 hs9))
      go_roundw
      case rel => exact ⟨k + 1, by go_num, by omega, own_close encEv_len hbg hb9 (by simp [splice_size]; exact HCS.out) hnc hcm HROW.out (by rw [relabs_len]; exact HLN.out), Keep.write (Keep.write (Keep.write HKR.out hs7 hbg) hs8 hbg) hs9 hbg⟩
      case measure => simp [intOf]; omega
    · have hd1 : decide (k < n5) = false := by simpa using hkn
      obtain rfl : k = n5 := by omega
      have hml : (relabs inc ord l.length l).length = l.length := relabs_len _ _ _ _
      have hlike := replayS_relabs cd me 3 inc ord l
      have hevm : Sl encEv 7 wr (New wr w2.heap.size) A6 k c6 (relabs inc ord l.length l) := by
        rw [← HLN.out] at how hn6 ⊢
        exact ⟨hml.symm, hn6, hc6, (Reads.of_own how).more (fun i hi => ⟨by have := hi.1; omega, hi.2⟩)⟩
      generalize hm : relabs inc ord l.length l = m at hml hlike hevm
      clear hm how
      have hcdr := (HCD5.out.keep (Same.mono hkr (fun i hi => hi.2))).more (T := New wr w2.heap.size) (fun i hi => ⟨hi.1, by have := hi.2; omega⟩)
      have hevr := (HEV5.out.keep (Same.mono hkr (fun i hi => hi.2))).more (T := New wr w2.heap.size) (fun i hi => ⟨hi.1, by have := hi.2; omega⟩)
      have hbr := hkr.blk HB5.out HB5.out.lt
      have hkw := Keep.trans HK5.out hkr
      have hkn8 : k ≤ 8 := by omega
      have HCDR := Lib.hid hcdr
      have HEVR := Lib.hid hevr
      have HBR := Lib.hid hbr
      have HEVM := Lib.hid hevm
      have HLIKE := Lib.hid hlike
      have HML := Lib.hid hml
      have HKW := Lib.hid hkw
      clear hcdr hevr hbr hevm hlike hml hkw
      clear hkr hkl hd1 hkn
      go_upto_region 13 with fail
      go_cut [15, 16] from 53 to 60 (fun p q wx => TwoV wr (replayS cd me 3 l) (replayS cd me 3 m) p q wx)
      case first =>
        refine wp_region_L 11 (fun wx => Keep wr wx) (fun _ => True) (by kernel_rfl) (Same.drew (Same.refl _ _)) trivial (fun hA hB => ?_)
        have z0 : wr.heap.size ≤ wr.drew.heap.size := Nat.le_refl _
        generalize hu0 : wr.drew = u0 at hA z0 ⊢
        clear hu0
        refine wpL_takeA (i := 0) rfl (by kernel_rfl) (by kernel_rfl) (by kernel_rfl) (by kernel_rfl) (by decide) (fun _ _ _ h => h) (yieldsIf_blk (by rfl) _ _ rfl w3.heap.size 0 38 _ [.slice B0 p0 q0, .slice B1 p1 q1, .slice B2 p2 q2, .slice B3 p3 q3, .slice B4 p4 q4] _ rfl (fun wx hx => hx.1.blk HBR.out HBR.out.lt) (fun j u hu => by simpa using hu) Tryd.underlying38 rfl (by kernel_rfl)) hA hB ?_
        try simp only [Act.put, List.setIfInBounds_toArray, List.set_cons_zero, List.set_cons_succ]
        refine wpL_takeA (i := 1) (v := ?_) rfl (by kernel_rfl) (by kernel_rfl) (by kernel_rfl) (by kernel_rfl) (by decide) (fun _ _ _ h => h) (Or.inl ⟨by rfl, ?_⟩) hA hB ?_
        rotate_left
        · rintro wx ⟨hAx, hBx⟩
          (try dsimp only at hBx); (try dsimp only at hAx)
          go_simp
          try with_reducible rfl
        try simp only [Act.put, List.setIfInBounds_toArray, List.set_cons_zero, List.set_cons_succ]
        refine wpL_takeA (i := 2) (v := ?_) rfl (by kernel_rfl) (by kernel_rfl) (by kernel_rfl) (by kernel_rfl) (by decide) (fun _ _ _ h => h) (Or.inl ⟨by rfl, ?_⟩) hA hB ?_
        rotate_left
        · rintro wx ⟨hAx, hBx⟩
          (try dsimp only at hBx); (try dsimp only at hAx)
          go_simp
          try with_reducible rfl
        try simp only [Act.put, List.setIfInBounds_toArray, List.set_cons_zero, List.set_cons_succ]
        refine wpL_takeA (i := 4) rfl (by kernel_rfl) (by kernel_rfl) (by kernel_rfl) (by kernel_rfl) (by decide) (fun _ _ _ h => h) (yieldsIf_blk (by rfl) _ _ rfl w3.heap.size 0 38 _ [.slice B0 p0 q0, .slice B1 p1 q1, .slice B2 p2 q2, .slice B3 p3 q3, .slice B4 p4 q4] _ rfl (fun wx hx => hx.1.blk HBR.out HBR.out.lt) (fun j u hu => by simpa using hu) Tryd.underlying38 rfl (by kernel_rfl)) hA hB ?_
        try simp only [Act.put, List.setIfInBounds_toArray, List.set_cons_zero, List.set_cons_succ]
        refine wpL_takeA (i := 5) (v := ?_) rfl (by kernel_rfl) (by kernel_rfl) (by kernel_rfl) (by kernel_rfl) (by decide) (fun _ _ _ h => h) (Or.inl ⟨by rfl, ?_⟩) hA hB ?_
        rotate_left
        · rintro wx ⟨hAx, hBx⟩
          (try dsimp only at hBx); (try dsimp only at hAx)
          go_simp
          try with_reducible rfl
        try simp only [Act.put, List.setIfInBounds_toArray, List.set_cons_zero, List.set_cons_succ]
        refine wpL_takeA (i := 6) (v := ?_) rfl (by kernel_rfl) (by kernel_rfl) (by kernel_rfl) (by kernel_rfl) (by decide) (fun _ _ _ h => h) (Or.inl ⟨by rfl, ?_⟩) hA hB ?_
        rotate_left
        · rintro wx ⟨hAx, hBx⟩
          (try dsimp only at hBx); (try dsimp only at hAx)
          go_simp
          try with_reducible rfl
        try simp only [Act.put, List.setIfInBounds_toArray, List.set_cons_zero, List.set_cons_succ]
        refine wpL_three (i := 3) (j := 8) (m := 9) (by kernel_rfl) (StepL.mk rfl (fun K hK => ?_)) (StepL.mk rfl (fun K hK => ?_)) (StepL.mk rfl (fun K hK => ?_))
        · go_simp
          refine (preplay_any u0 (New wr w2.heap.size) [.slice B0 p0 q0, .slice B1 p1 q1, .slice B2 p2 q2, .slice B3 p3 q3, .slice B4 p4 q4] cd me 3 A5 k c5 (l) (fun i hi => by have := hi.2; have := hA.size; omega) (HCDR.out.keep (Same.mono hA (fun i hi => hi.2))) (HEVR.out.keep (Same.mono hA (fun i hi => hi.2))) (by have := HLN.out; omega)).mono ?_
          rintro e u1 ⟨cs3, rfl, hr3', hk11⟩
          obtain ⟨E1, E2, E3, E4, en1, ec1, en2, ec2, en3, ec3, en4, ec4, rfl, hr3⟩ := st_open hr3'
          clear hr3'
          have z1 := hk11.size
          have ha := Keep.trans hA hk11
          refine hK.out _ _ (SAB.both ha trivial) (fun hSS => ?_)
          clear hK K hA hB
          have hB := hSS.2
          have hA := hSS.1 (by kernel_rfl)
          (try dsimp only at hB); (try dsimp only at hA); clear hSS
          try simp only [Act.put, List.setIfInBounds_toArray, List.set_cons_zero, List.set_cons_succ]
          clear ha
          refine wpL_three (i := 7) (j := 8) (m := 9) (by kernel_rfl) (StepL.mk rfl (fun K hK => ?_)) (StepL.mk rfl (fun K hK => ?_)) (StepL.mk rfl (fun K hK => ?_))
          · go_simp
            refine (preplay_any u1 (New wr w2.heap.size) [.slice B0 p0 q0, .slice B1 p1 q1, .slice B2 p2 q2, .slice B3 p3 q3, .slice B4 p4 q4] cd me 3 A6 k c6 (m) (fun i hi => by have := hi.2; have := hA.size; omega) (HCDR.out.keep (Same.mono hA (fun i hi => hi.2))) (HEVM.out.keep (Same.mono hA (fun i hi => hi.2))) (by have := HML.out; have := HLN.out; omega)).mono ?_
            rintro e u2 ⟨cs7, rfl, hr7', hk12⟩
            obtain ⟨F1, F2, F3, F4, fn1, fc1, fn2, fc2, fn3, fc3, fn4, fc4, rfl, hr7⟩ := st_open hr7'
            clear hr7'
            have z2 := hk12.size
            have ha := Keep.trans hA hk12
            refine hK.out _ _ (SAB.both ha trivial) (fun hSS => ?_)
            clear hK K hA hB
            have hB := hSS.2
            have hA := hSS.1 (by kernel_rfl)
            (try dsimp only at hB); (try dsimp only at hA); clear hSS
            try simp only [Act.put, List.setIfInBounds_toArray, List.set_cons_zero, List.set_cons_succ]
            clear ha
            refine wpL_two (i := 8) (j := 9) (by kernel_rfl) (StepL.mk rfl (fun K hK => ?_)) (StepL.mk rfl (fun K hK => ?_))
            · go_simp
              generalize hq : u2.alloc (.cells #[.slice none 0 0, .slice none 0 0, .slice none 0 0, .slice none 0 0] 27) = u3
              have hb8 : Blk u3 u2.heap.size 27 #[.slice none 0 0, .slice none 0 0, .slice none 0 0, .slice none 0 0] := hq ▸ Blk.new _ _ _
              have hk13 : Keep u2 u3 := hq ▸ Keep.new _ _
              clear hq
              have y8 := hb8.lt
              have z3 := hk13.size
              have ha := Keep.trans hA hk13
              refine hK.out _ _ (SAB.both ha trivial) (fun hSS => ?_)
              clear hK K hA hB
              have hB := hSS.2
              have hA := hSS.1 (by kernel_rfl)
              (try dsimp only at hB); (try dsimp only at hA); clear hSS
              try simp only [Act.put, List.setIfInBounds_toArray, List.set_cons_zero, List.set_cons_succ]
              clear ha
              refine wpL_one (i := 9) (by kernel_rfl) (StepL.mk rfl (fun K hK => ?_))
              go_simp
              generalize hq : u3.alloc (.cells #[.slice none 0 0, .slice none 0 0, .slice none 0 0, .slice none 0 0] 27) = u4
              have hb9 : Blk u4 u3.heap.size 27 #[.slice none 0 0, .slice none 0 0, .slice none 0 0, .slice none 0 0] := hq ▸ Blk.new _ _ _
              have hk14 : Keep u3 u4 := hq ▸ Keep.new _ _
              clear hq
              have y9 := hb9.lt
              have z4 := hk14.size
              have ha := Keep.trans hA hk14
              refine hK.out _ _ (SAB.both ha trivial) (fun hSS => ?_)
              clear hK K hA hB
              have hB := hSS.2
              have hA := hSS.1 (by kernel_rfl)
              (try dsimp only at hB); (try dsimp only at hA); clear hSS
              try simp only [Act.put, List.setIfInBounds_toArray, List.set_cons_zero, List.set_cons_succ]
              clear ha
              have kk4 : Keep u4 u4 := Same.refl _ _
              have kk3 : Keep u3 u4 := Keep.trans hk14 kk4
              have kk2 : Keep u2 u4 := Keep.trans hk13 kk3
              have kk1 : Keep u1 u4 := Keep.trans hk12 kk2
              have zA := hA.size
              have b9 := kk3.blk hb8 y8
              have b10 := kk4.blk hb9 y9
              have rr3 := hr3.keep (Same.mono kk1 (Sn.lt (fun i hi => by have := hi.2; omega) hk11.size))
              have bg3 : ∀ i, Sn (New wr w2.heap.size) u0 u1 i → Bg (u2.heap.size) (u3.heap.size) u4 i := fun i hi => hi.elim (fun h => by have h1 := h.1; have h2 := h.2; exact ⟨by omega, by omega, by omega⟩) (fun h => by have h1 := h.1; have h2 := h.2; exact ⟨by omega, by omega, by omega⟩)
              have rr7 := hr7.keep (Same.mono kk2 (Sn.lt (fun i hi => by have := hi.2; omega) hk12.size))
              have bg7 : ∀ i, Sn (New wr w2.heap.size) u1 u2 i → Bg (u2.heap.size) (u3.heap.size) u4 i := fun i hi => hi.elim (fun h => by have h1 := h.1; have h2 := h.2; exact ⟨by omega, by omega, by omega⟩) (fun h => by have h1 := h.1; have h2 := h.2; exact ⟨by omega, by omega, by omega⟩)
              refine wpL_one (i := 10) (by kernel_rfl) (StepL.mk rfl (fun K hK => ?_))
              refine step_store_blk rfl _ _ _ rfl (u2.heap.size) 0 27 _ [.slice E1 en1 ec1, .slice E2 en2 ec2, .slice E3 en3 ec3, .slice E4 en4 ec4] rfl rfl b9 (by simp) (by kernel_rfl) rfl ?_
              intro v5 hv5 hs5
              rw [splice_all [.slice E1 en1 ec1, .slice E2 en2 ec2, .slice E3 en3 ec3, .slice E4 en4 ec4] #[.slice none 0 0, .slice none 0 0, .slice none 0 0, .slice none 0 0] rfl] at hv5
              have ka5 : Keep wr v5 := Keep.write hA hs5 (by omega)
              have ku := hA
              refine hK.out _ _ (SAB.both ka5 trivial) (fun hSS => ?_)
              clear hK K hA hB
              have hB := hSS.2
              have hA := hSS.1 (by kernel_rfl)
              (try dsimp only at hB); (try dsimp only at hA); clear hSS
              try simp only [Act.put, List.setIfInBounds_toArray, List.set_cons_zero, List.set_cons_succ]
              refine wpL_one (i := 11) (by kernel_rfl) (StepL.mk rfl (fun K hK => ?_))
              refine step_store_blk rfl _ _ _ rfl (u3.heap.size) 0 27 _ [.slice F1 fn1 fc1, .slice F2 fn2 fc2, .slice F3 fn3 fc3, .slice F4 fn4 fc4] rfl rfl (hs5.blk b10 (by omega)) (by simp) (by kernel_rfl) rfl ?_
              intro v6 hv6 hs6
              rw [splice_all [.slice F1 fn1 fc1, .slice F2 fn2 fc2, .slice F3 fn3 fc3, .slice F4 fn4 fc4] #[.slice none 0 0, .slice none 0 0, .slice none 0 0, .slice none 0 0] rfl] at hv6
              have hfin : TwoV wr (replayS cd me 3 l) (replayS cd me 3 m) (.pointer (some ⟨u2.heap.size, 0, none⟩)) (.pointer (some ⟨u3.heap.size, 0, none⟩)) v6 := ⟨_, _, rfl, rfl, by omega, by omega, by omega, two_put2 (by omega) (by omega) (by omega) (by omega) (by omega) bg3 bg7 rr3 rr7 ku hv5 hs5 hv6 hs6⟩
              refine hK.out _ _ (SAB.past (by kernel_rfl) trivial) (fun hSS => ?_)
              clear hK K hA hB
              have hB := hSS.2
              have hA : True := trivial
              (try dsimp only at hB); (try dsimp only at hA); clear hSS
              try simp only [Act.put, List.setIfInBounds_toArray, List.set_cons_zero, List.set_cons_succ]
              refine wpL_done (by kernel_rfl) ?_
              have HFIN := Lib.hid hfin
              clear hfin
              clear hv5 hs5 hv6 hs6 ku ka5 rr3 rr7 bg3 bg7 b9 b10 kk1 kk2 kk3 kk4 hb8 hb9 hr3 hr7 hA hB hk11 hk12 hk13 hk14
              go_wp2_with fail
              go_meet
              exact HFIN.out
            · go_simp
              generalize hq : u2.alloc (.cells #[.slice none 0 0, .slice none 0 0, .slice none 0 0, .slice none 0 0] 27) = u3
              have hb9 : Blk u3 u2.heap.size 27 #[.slice none 0 0, .slice none 0 0, .slice none 0 0, .slice none 0 0] := hq ▸ Blk.new _ _ _
              have hk13 : Keep u2 u3 := hq ▸ Keep.new _ _
              clear hq
              have y9 := hb9.lt
              have z3 := hk13.size
              have ha := Keep.trans hA hk13
              refine hK.out _ _ (SAB.both ha trivial) (fun hSS => ?_)
              clear hK K hA hB
              have hB := hSS.2
              have hA := hSS.1 (by kernel_rfl)
              (try dsimp only at hB); (try dsimp only at hA); clear hSS
              try simp only [Act.put, List.setIfInBounds_toArray, List.set_cons_zero, List.set_cons_succ]
              clear ha
              refine wpL_one (i := 8) (by kernel_rfl) (StepL.mk rfl (fun K hK => ?_))
              go_simp
              generalize hq : u3.alloc (.cells #[.slice none 0 0, .slice none 0 0, .slice none 0 0, .slice none 0 0] 27) = u4
              have hb8 : Blk u4 u3.heap.size 27 #[.slice none 0 0, .slice none 0 0, .slice none 0 0, .slice none 0 0] := hq ▸ Blk.new _ _ _
              have hk14 : Keep u3 u4 := hq ▸ Keep.new _ _
              clear hq
              have y8 := hb8.lt
              have z4 := hk14.size
              have ha := Keep.trans hA hk14
              refine hK.out _ _ (SAB.both ha trivial) (fun hSS => ?_)
              clear hK K hA hB
              have hB := hSS.2
              have hA := hSS.1 (by kernel_rfl)
              (try dsimp only at hB); (try dsimp only at hA); clear hSS
              try simp only [Act.put, List.setIfInBounds_toArray, List.set_cons_zero, List.set_cons_succ]
              clear ha
              have kk4 : Keep u4 u4 := Same.refl _ _
              have kk3 : Keep u3 u4 := Keep.trans hk14 kk4
              have kk2 : Keep u2 u4 := Keep.trans hk13 kk3
              have kk1 : Keep u1 u4 := Keep.trans hk12 kk2
              have zA := hA.size
              have b9 := kk4.blk hb8 y8
              have b10 := kk3.blk hb9 y9
              have rr3 := hr3.keep (Same.mono kk1 (Sn.lt (fun i hi => by have := hi.2; omega) hk11.size))
              have bg3 : ∀ i, Sn (New wr w2.heap.size) u0 u1 i → Bg (u3.heap.size) (u2.heap.size) u4 i := fun i hi => hi.elim (fun h => by have h1 := h.1; have h2 := h.2; exact ⟨by omega, by omega, by omega⟩) (fun h => by have h1 := h.1; have h2 := h.2; exact ⟨by omega, by omega, by omega⟩)
              have rr7 := hr7.keep (Same.mono kk2 (Sn.lt (fun i hi => by have := hi.2; omega) hk12.size))
              have bg7 : ∀ i, Sn (New wr w2.heap.size) u1 u2 i → Bg (u3.heap.size) (u2.heap.size) u4 i := fun i hi => hi.elim (fun h => by have h1 := h.1; have h2 := h.2; exact ⟨by omega, by omega, by omega⟩) (fun h => by have h1 := h.1; have h2 := h.2; exact ⟨by omega, by omega, by omega⟩)
              refine wpL_one (i := 10) (by kernel_rfl) (StepL.mk rfl (fun K hK => ?_))
              refine step_store_blk rfl _ _ _ rfl (u3.heap.size) 0 27 _ [.slice E1 en1 ec1, .slice E2 en2 ec2, .slice E3 en3 ec3, .slice E4 en4 ec4] rfl rfl b9 (by simp) (by kernel_rfl) rfl ?_
              intro v5 hv5 hs5
              rw [splice_all [.slice E1 en1 ec1, .slice E2 en2 ec2, .slice E3 en3 ec3, .slice E4 en4 ec4] #[.slice none 0 0, .slice none 0 0, .slice none 0 0, .slice none 0 0] rfl] at hv5
              have ka5 : Keep wr v5 := Keep.write hA hs5 (by omega)
              have ku := hA
              refine hK.out _ _ (SAB.both ka5 trivial) (fun hSS => ?_)
              clear hK K hA hB
              have hB := hSS.2
              have hA := hSS.1 (by kernel_rfl)
              (try dsimp only at hB); (try dsimp only at hA); clear hSS
              try simp only [Act.put, List.setIfInBounds_toArray, List.set_cons_zero, List.set_cons_succ]
              refine wpL_one (i := 11) (by kernel_rfl) (StepL.mk rfl (fun K hK => ?_))
              refine step_store_blk rfl _ _ _ rfl (u2.heap.size) 0 27 _ [.slice F1 fn1 fc1, .slice F2 fn2 fc2, .slice F3 fn3 fc3, .slice F4 fn4 fc4] rfl rfl (hs5.blk b10 (by omega)) (by simp) (by kernel_rfl) rfl ?_
              intro v6 hv6 hs6
              rw [splice_all [.slice F1 fn1 fc1, .slice F2 fn2 fc2, .slice F3 fn3 fc3, .slice F4 fn4 fc4] #[.slice none 0 0, .slice none 0 0, .slice none 0 0, .slice none 0 0] rfl] at hv6
              have hfin : TwoV wr (replayS cd me 3 l) (replayS cd me 3 m) (.pointer (some ⟨u3.heap.size, 0, none⟩)) (.pointer (some ⟨u2.heap.size, 0, none⟩)) v6 := ⟨_, _, rfl, rfl, by omega, by omega, by omega, two_put2 (by omega) (by omega) (by omega) (by omega) (by omega) bg3 bg7 rr3 rr7 ku hv5 hs5 hv6 hs6⟩
              refine hK.out _ _ (SAB.past (by kernel_rfl) trivial) (fun hSS => ?_)
              clear hK K hA hB
              have hB := hSS.2
              have hA : True := trivial
              (try dsimp only at hB); (try dsimp only at hA); clear hSS
              try simp only [Act.put, List.setIfInBounds_toArray, List.set_cons_zero, List.set_cons_succ]
              refine wpL_done (by kernel_rfl) ?_
              have HFIN := Lib.hid hfin
              clear hfin
              clear hv5 hs5 hv6 hs6 ku ka5 rr3 rr7 bg3 bg7 b9 b10 kk1 kk2 kk3 kk4 hb8 hb9 hr3 hr7 hA hB hk11 hk12 hk13 hk14
              go_wp2_with fail
              go_meet
              exact HFIN.out
          · go_simp
            generalize hq : u1.alloc (.cells #[.slice none 0 0, .slice none 0 0, .slice none 0 0, .slice none 0 0] 27) = u2
            have hb8 : Blk u2 u1.heap.size 27 #[.slice none 0 0, .slice none 0 0, .slice none 0 0, .slice none 0 0] := hq ▸ Blk.new _ _ _
            have hk12 : Keep u1 u2 := hq ▸ Keep.new _ _
            clear hq
            have y8 := hb8.lt
            have z2 := hk12.size
            have ha := Keep.trans hA hk12
            refine hK.out _ _ (SAB.both ha trivial) (fun hSS => ?_)
            clear hK K hA hB
            have hB := hSS.2
            have hA := hSS.1 (by kernel_rfl)
            (try dsimp only at hB); (try dsimp only at hA); clear hSS
            try simp only [Act.put, List.setIfInBounds_toArray, List.set_cons_zero, List.set_cons_succ]
            clear ha
            refine wpL_two (i := 7) (j := 9) (by kernel_rfl) (StepL.mk rfl (fun K hK => ?_)) (StepL.mk rfl (fun K hK => ?_))
            · go_simp
              refine (preplay_any u2 (New wr w2.heap.size) [.slice B0 p0 q0, .slice B1 p1 q1, .slice B2 p2 q2, .slice B3 p3 q3, .slice B4 p4 q4] cd me 3 A6 k c6 (m) (fun i hi => by have := hi.2; have := hA.size; omega) (HCDR.out.keep (Same.mono hA (fun i hi => hi.2))) (HEVM.out.keep (Same.mono hA (fun i hi => hi.2))) (by have := HML.out; have := HLN.out; omega)).mono ?_
              rintro e u3 ⟨cs7, rfl, hr7', hk13⟩
              obtain ⟨F1, F2, F3, F4, fn1, fc1, fn2, fc2, fn3, fc3, fn4, fc4, rfl, hr7⟩ := st_open hr7'
              clear hr7'
              have z3 := hk13.size
              have ha := Keep.trans hA hk13
              refine hK.out _ _ (SAB.both ha trivial) (fun hSS => ?_)
              clear hK K hA hB
              have hB := hSS.2
              have hA := hSS.1 (by kernel_rfl)
              (try dsimp only at hB); (try dsimp only at hA); clear hSS
              try simp only [Act.put, List.setIfInBounds_toArray, List.set_cons_zero, List.set_cons_succ]
              clear ha
              refine wpL_one (i := 9) (by kernel_rfl) (StepL.mk rfl (fun K hK => ?_))
              go_simp
              generalize hq : u3.alloc (.cells #[.slice none 0 0, .slice none 0 0, .slice none 0 0, .slice none 0 0] 27) = u4
              have hb9 : Blk u4 u3.heap.size 27 #[.slice none 0 0, .slice none 0 0, .slice none 0 0, .slice none 0 0] := hq ▸ Blk.new _ _ _
              have hk14 : Keep u3 u4 := hq ▸ Keep.new _ _
              clear hq
              have y9 := hb9.lt
              have z4 := hk14.size
              have ha := Keep.trans hA hk14
              refine hK.out _ _ (SAB.both ha trivial) (fun hSS => ?_)
              clear hK K hA hB
              have hB := hSS.2
              have hA := hSS.1 (by kernel_rfl)
              (try dsimp only at hB); (try dsimp only at hA); clear hSS
              try simp only [Act.put, List.setIfInBounds_toArray, List.set_cons_zero, List.set_cons_succ]
              clear ha
              have kk4 : Keep u4 u4 := Same.refl _ _
              have kk3 : Keep u3 u4 := Keep.trans hk14 kk4
              have kk2 : Keep u2 u4 := Keep.trans hk13 kk3
              have kk1 : Keep u1 u4 := Keep.trans hk12 kk2
              have zA := hA.size
              have b9 := kk2.blk hb8 y8
              have b10 := kk4.blk hb9 y9
              have rr3 := hr3.keep (Same.mono kk1 (Sn.lt (fun i hi => by have := hi.2; omega) hk11.size))
              have bg3 : ∀ i, Sn (New wr w2.heap.size) u0 u1 i → Bg (u1.heap.size) (u3.heap.size) u4 i := fun i hi => hi.elim (fun h => by have h1 := h.1; have h2 := h.2; exact ⟨by omega, by omega, by omega⟩) (fun h => by have h1 := h.1; have h2 := h.2; exact ⟨by omega, by omega, by omega⟩)
              have rr7 := hr7.keep (Same.mono kk3 (Sn.lt (fun i hi => by have := hi.2; omega) hk13.size))
              have bg7 : ∀ i, Sn (New wr w2.heap.size) u2 u3 i → Bg (u1.heap.size) (u3.heap.size) u4 i := fun i hi => hi.elim (fun h => by have h1 := h.1; have h2 := h.2; exact ⟨by omega, by omega, by omega⟩) (fun h => by have h1 := h.1; have h2 := h.2; exact ⟨by omega, by omega, by omega⟩)
              refine wpL_one (i := 10) (by kernel_rfl) (StepL.mk rfl (fun K hK => ?_))
              refine step_store_blk rfl _ _ _ rfl (u1.heap.size) 0 27 _ [.slice E1 en1 ec1, .slice E2 en2 ec2, .slice E3 en3 ec3, .slice E4 en4 ec4] rfl rfl b9 (by simp) (by kernel_rfl) rfl ?_
              intro v5 hv5 hs5
              rw [splice_all [.slice E1 en1 ec1, .slice E2 en2 ec2, .slice E3 en3 ec3, .slice E4 en4 ec4] #[.slice none 0 0, .slice none 0 0, .slice none 0 0, .slice none 0 0] rfl] at hv5
              have ka5 : Keep wr v5 := Keep.write hA hs5 (by omega)
              have ku := hA
              refine hK.out _ _ (SAB.both ka5 trivial) (fun hSS => ?_)
              clear hK K hA hB
              have hB := hSS.2
              have hA := hSS.1 (by kernel_rfl)
              (try dsimp only at hB); (try dsimp only at hA); clear hSS
              try simp only [Act.put, List.setIfInBounds_toArray, List.set_cons_zero, List.set_cons_succ]
              refine wpL_one (i := 11) (by kernel_rfl) (StepL.mk rfl (fun K hK => ?_))
              refine step_store_blk rfl _ _ _ rfl (u3.heap.size) 0 27 _ [.slice F1 fn1 fc1, .slice F2 fn2 fc2, .slice F3 fn3 fc3, .slice F4 fn4 fc4] rfl rfl (hs5.blk b10 (by omega)) (by simp) (by kernel_rfl) rfl ?_
              intro v6 hv6 hs6
              rw [splice_all [.slice F1 fn1 fc1, .slice F2 fn2 fc2, .slice F3 fn3 fc3, .slice F4 fn4 fc4] #[.slice none 0 0, .slice none 0 0, .slice none 0 0, .slice none 0 0] rfl] at hv6
              have hfin : TwoV wr (replayS cd me 3 l) (replayS cd me 3 m) (.pointer (some ⟨u1.heap.size, 0, none⟩)) (.pointer (some ⟨u3.heap.size, 0, none⟩)) v6 := ⟨_, _, rfl, rfl, by omega, by omega, by omega, two_put2 (by omega) (by omega) (by omega) (by omega) (by omega) bg3 bg7 rr3 rr7 ku hv5 hs5 hv6 hs6⟩
              refine hK.out _ _ (SAB.past (by kernel_rfl) trivial) (fun hSS => ?_)
              clear hK K hA hB
              have hB := hSS.2
              have hA : True := trivial
              (try dsimp only at hB); (try dsimp only at hA); clear hSS
              try simp only [Act.put, List.setIfInBounds_toArray, List.set_cons_zero, List.set_cons_succ]
              refine wpL_done (by kernel_rfl) ?_
              have HFIN := Lib.hid hfin
              clear hfin
              clear hv5 hs5 hv6 hs6 ku ka5 rr3 rr7 bg3 bg7 b9 b10 kk1 kk2 kk3 kk4 hb8 hb9 hr3 hr7 hA hB hk11 hk12 hk13 hk14
              go_wp2_with fail
              go_meet
              exact HFIN.out
            · go_simp
              generalize hq : u2.alloc (.cells #[.slice none 0 0, .slice none 0 0, .slice none 0 0, .slice none 0 0] 27) = u3
              have hb9 : Blk u3 u2.heap.size 27 #[.slice none 0 0, .slice none 0 0, .slice none 0 0, .slice none 0 0] := hq ▸ Blk.new _ _ _
              have hk13 : Keep u2 u3 := hq ▸ Keep.new _ _
              clear hq
              have y9 := hb9.lt
              have z3 := hk13.size
              have ha := Keep.trans hA hk13
              refine hK.out _ _ (SAB.both ha trivial) (fun hSS => ?_)
              clear hK K hA hB
              have hB := hSS.2
              have hA := hSS.1 (by kernel_rfl)
              (try dsimp only at hB); (try dsimp only at hA); clear hSS
              try simp only [Act.put, List.setIfInBounds_toArray, List.set_cons_zero, List.set_cons_succ]
              clear ha
              refine wpL_one (i := 7) (by kernel_rfl) (StepL.mk rfl (fun K hK => ?_))
              go_simp
              refine (preplay_any u3 (New wr w2.heap.size) [.slice B0 p0 q0, .slice B1 p1 q1, .slice B2 p2 q2, .slice B3 p3 q3, .slice B4 p4 q4] cd me 3 A6 k c6 (m) (fun i hi => by have := hi.2; have := hA.size; omega) (HCDR.out.keep (Same.mono hA (fun i hi => hi.2))) (HEVM.out.keep (Same.mono hA (fun i hi => hi.2))) (by have := HML.out; have := HLN.out; omega)).mono ?_
              rintro e u4 ⟨cs7, rfl, hr7', hk14⟩
              obtain ⟨F1, F2, F3, F4, fn1, fc1, fn2, fc2, fn3, fc3, fn4, fc4, rfl, hr7⟩ := st_open hr7'
              clear hr7'
              have z4 := hk14.size
              have ha := Keep.trans hA hk14
              refine hK.out _ _ (SAB.both ha trivial) (fun hSS => ?_)
              clear hK K hA hB
              have hB := hSS.2
              have hA := hSS.1 (by kernel_rfl)
              (try dsimp only at hB); (try dsimp only at hA); clear hSS
              try simp only [Act.put, List.setIfInBounds_toArray, List.set_cons_zero, List.set_cons_succ]
              clear ha
              have kk4 : Keep u4 u4 := Same.refl _ _
              have kk3 : Keep u3 u4 := Keep.trans hk14 kk4
              have kk2 : Keep u2 u4 := Keep.trans hk13 kk3
              have kk1 : Keep u1 u4 := Keep.trans hk12 kk2
              have zA := hA.size
              have b9 := kk2.blk hb8 y8
              have b10 := kk3.blk hb9 y9
              have rr3 := hr3.keep (Same.mono kk1 (Sn.lt (fun i hi => by have := hi.2; omega) hk11.size))
              have bg3 : ∀ i, Sn (New wr w2.heap.size) u0 u1 i → Bg (u1.heap.size) (u2.heap.size) u4 i := fun i hi => hi.elim (fun h => by have h1 := h.1; have h2 := h.2; exact ⟨by omega, by omega, by omega⟩) (fun h => by have h1 := h.1; have h2 := h.2; exact ⟨by omega, by omega, by omega⟩)
              have rr7 := hr7.keep (Same.mono kk4 (Sn.lt (fun i hi => by have := hi.2; omega) hk14.size))
              have bg7 : ∀ i, Sn (New wr w2.heap.size) u3 u4 i → Bg (u1.heap.size) (u2.heap.size) u4 i := fun i hi => hi.elim (fun h => by have h1 := h.1; have h2 := h.2; exact ⟨by omega, by omega, by omega⟩) (fun h => by have h1 := h.1; have h2 := h.2; exact ⟨by omega, by omega, by omega⟩)
              refine wpL_one (i := 10) (by kernel_rfl) (StepL.mk rfl (fun K hK => ?_))
              refine step_store_blk rfl _ _ _ rfl (u1.heap.size) 0 27 _ [.slice E1 en1 ec1, .slice E2 en2 ec2, .slice E3 en3 ec3, .slice E4 en4 ec4] rfl rfl b9 (by simp) (by kernel_rfl) rfl ?_
              intro v5 hv5 hs5
              rw [splice_all [.slice E1 en1 ec1, .slice E2 en2 ec2, .slice E3 en3 ec3, .slice E4 en4 ec4] #[.slice none 0 0, .slice none 0 0, .slice none 0 0, .slice none 0 0] rfl] at hv5
              have ka5 : Keep wr v5 := Keep.write hA hs5 (by omega)
              have ku := hA
              refine hK.out _ _ (SAB.both ka5 trivial) (fun hSS => ?_)
              clear hK K hA hB
              have hB := hSS.2
              have hA := hSS.1 (by kernel_rfl)
              (try dsimp only at hB); (try dsimp only at hA); clear hSS
              try simp only [Act.put, List.setIfInBounds_toArray, List.set_cons_zero, List.set_cons_succ]
              refine wpL_one (i := 11) (by kernel_rfl) (StepL.mk rfl (fun K hK => ?_))
              refine step_store_blk rfl _ _ _ rfl (u2.heap.size) 0 27 _ [.slice F1 fn1 fc1, .slice F2 fn2 fc2, .slice F3 fn3 fc3, .slice F4 fn4 fc4] rfl rfl (hs5.blk b10 (by omega)) (by simp) (by kernel_rfl) rfl ?_
              intro v6 hv6 hs6
              rw [splice_all [.slice F1 fn1 fc1, .slice F2 fn2 fc2, .slice F3 fn3 fc3, .slice F4 fn4 fc4] #[.slice none 0 0, .slice none 0 0, .slice none 0 0, .slice none 0 0] rfl] at hv6
              have hfin : TwoV wr (replayS cd me 3 l) (replayS cd me 3 m) (.pointer (some ⟨u1.heap.size, 0, none⟩)) (.pointer (some ⟨u2.heap.size, 0, none⟩)) v6 := ⟨_, _, rfl, rfl, by omega, by omega, by omega, two_put2 (by omega) (by omega) (by omega) (by omega) (by omega) bg3 bg7 rr3 rr7 ku hv5 hs5 hv6 hs6⟩
              refine hK.out _ _ (SAB.past (by kernel_rfl) trivial) (fun hSS => ?_)
              clear hK K hA hB
              have hB := hSS.2
              have hA : True := trivial
              (try dsimp only at hB); (try dsimp only at hA); clear hSS
              try simp only [Act.put, List.setIfInBounds_toArray, List.set_cons_zero, List.set_cons_succ]
              refine wpL_done (by kernel_rfl) ?_
              have HFIN := Lib.hid hfin
              clear hfin
              clear hv5 hs5 hv6 hs6 ku ka5 rr3 rr7 bg3 bg7 b9 b10 kk1 kk2 kk3 kk4 hb8 hb9 hr3 hr7 hA hB hk11 hk12 hk13 hk14
              go_wp2_with fail
              go_meet
              exact HFIN.out
          · go_simp
            generalize hq : u1.alloc (.cells #[.slice none 0 0, .slice none 0 0, .slice none 0 0, .slice none 0 0] 27) = u2
            have hb9 : Blk u2 u1.heap.size 27 #[.slice none 0 0, .slice none 0 0, .slice none 0 0, .slice none 0 0] := hq ▸ Blk.new _ _ _
            have hk12 : Keep u1 u2 := hq ▸ Keep.new _ _
            clear hq
            have y9 := hb9.lt
            have z2 := hk12.size
            have ha := Keep.trans hA hk12
            refine hK.out _ _ (SAB.both ha trivial) (fun hSS => ?_)
            clear hK K hA hB
            have hB := hSS.2
            have hA := hSS.1 (by kernel_rfl)
            (try dsimp only at hB); (try dsimp only at hA); clear hSS
            try simp only [Act.put, List.setIfInBounds_toArray, List.set_cons_zero, List.set_cons_succ]
            clear ha
            refine wpL_two (i := 7) (j := 8) (by kernel_rfl) (StepL.mk rfl (fun K hK => ?_)) (StepL.mk rfl (fun K hK => ?_))
            · go_simp
              refine (preplay_any u2 (New wr w2.heap.size) [.slice B0 p0 q0, .slice B1 p1 q1, .slice B2 p2 q2, .slice B3 p3 q3, .slice B4 p4 q4] cd me 3 A6 k c6 (m) (fun i hi => by have := hi.2; have := hA.size; omega) (HCDR.out.keep (Same.mono hA (fun i hi => hi.2))) (HEVM.out.keep (Same.mono hA (fun i hi => hi.2))) (by have := HML.out; have := HLN.out; omega)).mono ?_
              rintro e u3 ⟨cs7, rfl, hr7', hk13⟩
              obtain ⟨F1, F2, F3, F4, fn1, fc1, fn2, fc2, fn3, fc3, fn4, fc4, rfl, hr7⟩ := st_open hr7'
              clear hr7'
              have z3 := hk13.size
              have ha := Keep.trans hA hk13
              refine hK.out _ _ (SAB.both ha trivial) (fun hSS => ?_)
              clear hK K hA hB
              have hB := hSS.2
              have hA := hSS.1 (by kernel_rfl)
              (try dsimp only at hB); (try dsimp only at hA); clear hSS
              try simp only [Act.put, List.setIfInBounds_toArray, List.set_cons_zero, List.set_cons_succ]
              clear ha
              refine wpL_one (i := 8) (by kernel_rfl) (StepL.mk rfl (fun K hK => ?_))
              go_simp
              generalize hq : u3.alloc (.cells #[.slice none 0 0, .slice none 0 0, .slice none 0 0, .slice none 0 0] 27) = u4
              have hb8 : Blk u4 u3.heap.size 27 #[.slice none 0 0, .slice none 0 0, .slice none 0 0, .slice none 0 0] := hq ▸ Blk.new _ _ _
              have hk14 : Keep u3 u4 := hq ▸ Keep.new _ _
              clear hq
              have y8 := hb8.lt
              have z4 := hk14.size
              have ha := Keep.trans hA hk14
              refine hK.out _ _ (SAB.both ha trivial) (fun hSS => ?_)
              clear hK K hA hB
              have hB := hSS.2
              have hA := hSS.1 (by kernel_rfl)
              (try dsimp only at hB); (try dsimp only at hA); clear hSS
              try simp only [Act.put, List.setIfInBounds_toArray, List.set_cons_zero, List.set_cons_succ]
              clear ha
              have kk4 : Keep u4 u4 := Same.refl _ _
              have kk3 : Keep u3 u4 := Keep.trans hk14 kk4
              have kk2 : Keep u2 u4 := Keep.trans hk13 kk3
              have kk1 : Keep u1 u4 := Keep.trans hk12 kk2
              have zA := hA.size
              have b9 := kk4.blk hb8 y8
              have b10 := kk2.blk hb9 y9
              have rr3 := hr3.keep (Same.mono kk1 (Sn.lt (fun i hi => by have := hi.2; omega) hk11.size))
              have bg3 : ∀ i, Sn (New wr w2.heap.size) u0 u1 i → Bg (u3.heap.size) (u1.heap.size) u4 i := fun i hi => hi.elim (fun h => by have h1 := h.1; have h2 := h.2; exact ⟨by omega, by omega, by omega⟩) (fun h => by have h1 := h.1; have h2 := h.2; exact ⟨by omega, by omega, by omega⟩)
              have rr7 := hr7.keep (Same.mono kk3 (Sn.lt (fun i hi => by have := hi.2; omega) hk13.size))
              have bg7 : ∀ i, Sn (New wr w2.heap.size) u2 u3 i → Bg (u3.heap.size) (u1.heap.size) u4 i := fun i hi => hi.elim (fun h => by have h1 := h.1; have h2 := h.2; exact ⟨by omega, by omega, by omega⟩) (fun h => by have h1 := h.1; have h2 := h.2; exact ⟨by omega, by omega, by omega⟩)
              refine wpL_one (i := 10) (by kernel_rfl) (StepL.mk rfl (fun K hK => ?_))
              refine step_store_blk rfl _ _ _ rfl (u3.heap.size) 0 27 _ [.slice E1 en1 ec1, .slice E2 en2 ec2, .slice E3 en3 ec3, .slice E4 en4 ec4] rfl rfl b9 (by simp) (by kernel_rfl) rfl ?_
              intro v5 hv5 hs5
              rw [splice_all [.slice E1 en1 ec1, .slice E2 en2 ec2, .slice E3 en3 ec3, .slice E4 en4 ec4] #[.slice none 0 0, .slice none 0 0, .slice none 0 0, .slice none 0 0] rfl] at hv5
              have ka5 : Keep wr v5 := Keep.write hA hs5 (by omega)
              have ku := hA
              refine hK.out _ _ (SAB.both ka5 trivial) (fun hSS => ?_)
              clear hK K hA hB
              have hB := hSS.2
              have hA := hSS.1 (by kernel_rfl)
              (try dsimp only at hB); (try dsimp only at hA); clear hSS
              try simp only [Act.put, List.setIfInBounds_toArray, List.set_cons_zero, List.set_cons_succ]
              refine wpL_one (i := 11) (by kernel_rfl) (StepL.mk rfl (fun K hK => ?_))
              refine step_store_blk rfl _ _ _ rfl (u1.heap.size) 0 27 _ [.slice F1 fn1 fc1, .slice F2 fn2 fc2, .slice F3 fn3 fc3, .slice F4 fn4 fc4] rfl rfl (hs5.blk b10 (by omega)) (by simp) (by kernel_rfl) rfl ?_
              intro v6 hv6 hs6
              rw [splice_all [.slice F1 fn1 fc1, .slice F2 fn2 fc2, .slice F3 fn3 fc3, .slice F4 fn4 fc4] #[.slice none 0 0, .slice none 0 0, .slice none 0 0, .slice none 0 0] rfl] at hv6
              have hfin : TwoV wr (replayS cd me 3 l) (replayS cd me 3 m) (.pointer (some ⟨u3.heap.size, 0, none⟩)) (.pointer (some ⟨u1.heap.size, 0, none⟩)) v6 := ⟨_, _, rfl, rfl, by omega, by omega, by omega, two_put2 (by omega) (by omega) (by omega) (by omega) (by omega) bg3 bg7 rr3 rr7 ku hv5 hs5 hv6 hs6⟩
              refine hK.out _ _ (SAB.past (by kernel_rfl) trivial) (fun hSS => ?_)
              clear hK K hA hB
              have hB := hSS.2
              have hA : True := trivial
              (try dsimp only at hB); (try dsimp only at hA); clear hSS
              try simp only [Act.put, List.setIfInBounds_toArray, List.set_cons_zero, List.set_cons_succ]
              refine wpL_done (by kernel_rfl) ?_
              have HFIN := Lib.hid hfin
              clear hfin
              clear hv5 hs5 hv6 hs6 ku ka5 rr3 rr7 bg3 bg7 b9 b10 kk1 kk2 kk3 kk4 hb8 hb9 hr3 hr7 hA hB hk11 hk12 hk13 hk14
              go_wp2_with fail
              go_meet
              exact HFIN.out
            · go_simp
              generalize hq : u2.alloc (.cells #[.slice none 0 0, .slice none 0 0, .slice none 0 0, .slice none 0 0] 27) = u3
              have hb8 : Blk u3 u2.heap.size 27 #[.slice none 0 0, .slice none 0 0, .slice none 0 0, .slice none 0 0] := hq ▸ Blk.new _ _ _
              have hk13 : Keep u2 u3 := hq ▸ Keep.new _ _
              clear hq
              have y8 := hb8.lt
              have z3 := hk13.size
              have ha := Keep.trans hA hk13
              refine hK.out _ _ (SAB.both ha trivial) (fun hSS => ?_)
              clear hK K hA hB
              have hB := hSS.2
              have hA := hSS.1 (by kernel_rfl)
              (try dsimp only at hB); (try dsimp only at hA); clear hSS
              try simp only [Act.put, List.setIfInBounds_toArray, List.set_cons_zero, List.set_cons_succ]
              clear ha
              refine wpL_one (i := 7) (by kernel_rfl) (StepL.mk rfl (fun K hK => ?_))
              go_simp
              refine (preplay_any u3 (New wr w2.heap.size) [.slice B0 p0 q0, .slice B1 p1 q1, .slice B2 p2 q2, .slice B3 p3 q3, .slice B4 p4 q4] cd me 3 A6 k c6 (m) (fun i hi => by have := hi.2; have := hA.size; omega) (HCDR.out.keep (Same.mono hA (fun i hi => hi.2))) (HEVM.out.keep (Same.mono hA (fun i hi => hi.2))) (by have := HML.out; have := HLN.out; omega)).mono ?_
              rintro e u4 ⟨cs7, rfl, hr7', hk14⟩
              obtain ⟨F1, F2, F3, F4, fn1, fc1, fn2, fc2, fn3, fc3, fn4, fc4, rfl, hr7⟩ := st_open hr7'
              clear hr7'
              have z4 := hk14.size
              have ha := Keep.trans hA hk14
              refine hK.out _ _ (SAB.both ha trivial) (fun hSS => ?_)
              clear hK K hA hB
              have hB := hSS.2
              have hA := hSS.1 (by kernel_rfl)
              (try dsimp only at hB); (try dsimp only at hA); clear hSS
              try simp only [Act.put, List.setIfInBounds_toArray, List.set_cons_zero, List.set_cons_succ]
              clear ha
              have kk4 : Keep u4 u4 := Same.refl _ _
              have kk3 : Keep u3 u4 := Keep.trans hk14 kk4
              have kk2 : Keep u2 u4 := Keep.trans hk13 kk3
              have kk1 : Keep u1 u4 := Keep.trans hk12 kk2
              have zA := hA.size
              have b9 := kk3.blk hb8 y8
              have b10 := kk2.blk hb9 y9
              have rr3 := hr3.keep (Same.mono kk1 (Sn.lt (fun i hi => by have := hi.2; omega) hk11.size))
              have bg3 : ∀ i, Sn (New wr w2.heap.size) u0 u1 i → Bg (u2.heap.size) (u1.heap.size) u4 i := fun i hi => hi.elim (fun h => by have h1 := h.1; have h2 := h.2; exact ⟨by omega, by omega, by omega⟩) (fun h => by have h1 := h.1; have h2 := h.2; exact ⟨by omega, by omega, by omega⟩)
              have rr7 := hr7.keep (Same.mono kk4 (Sn.lt (fun i hi => by have := hi.2; omega) hk14.size))
              have bg7 : ∀ i, Sn (New wr w2.heap.size) u3 u4 i → Bg (u2.heap.size) (u1.heap.size) u4 i := fun i hi => hi.elim (fun h => by have h1 := h.1; have h2 := h.2; exact ⟨by omega, by omega, by omega⟩) (fun h => by have h1 := h.1; have h2 := h.2; exact ⟨by omega, by omega, by omega⟩)
              refine wpL_one (i := 10) (by kernel_rfl) (StepL.mk rfl (fun K hK => ?_))
              refine step_store_blk rfl _ _ _ rfl (u2.heap.size) 0 27 _ [.slice E1 en1 ec1, .slice E2 en2 ec2, .slice E3 en3 ec3, .slice E4 en4 ec4] rfl rfl b9 (by simp) (by kernel_rfl) rfl ?_
              intro v5 hv5 hs5
              rw [splice_all [.slice E1 en1 ec1, .slice E2 en2 ec2, .slice E3 en3 ec3, .slice E4 en4 ec4] #[.slice none 0 0, .slice none 0 0, .slice none 0 0, .slice none 0 0] rfl] at hv5
              have ka5 : Keep wr v5 := Keep.write hA hs5 (by omega)
              have ku := hA
              refine hK.out _ _ (SAB.both ka5 trivial) (fun hSS => ?_)
              clear hK K hA hB
              have hB := hSS.2
              have hA := hSS.1 (by kernel_rfl)
              (try dsimp only at hB); (try dsimp only at hA); clear hSS
              try simp only [Act.put, List.setIfInBounds_toArray, List.set_cons_zero, List.set_cons_succ]
              refine wpL_one (i := 11) (by kernel_rfl) (StepL.mk rfl (fun K hK => ?_))
              refine step_store_blk rfl _ _ _ rfl (u1.heap.size) 0 27 _ [.slice F1 fn1 fc1, .slice F2 fn2 fc2, .slice F3 fn3 fc3, .slice F4 fn4 fc4] rfl rfl (hs5.blk b10 (by omega)) (by simp) (by kernel_rfl) rfl ?_
              intro v6 hv6 hs6
              rw [splice_all [.slice F1 fn1 fc1, .slice F2 fn2 fc2, .slice F3 fn3 fc3, .slice F4 fn4 fc4] #[.slice none 0 0, .slice none 0 0, .slice none 0 0, .slice none 0 0] rfl] at hv6
              have hfin : TwoV wr (replayS cd me 3 l) (replayS cd me 3 m) (.pointer (some ⟨u2.heap.size, 0, none⟩)) (.pointer (some ⟨u1.heap.size, 0, none⟩)) v6 := ⟨_, _, rfl, rfl, by omega, by omega, by omega, two_put2 (by omega) (by omega) (by omega) (by omega) (by omega) bg3 bg7 rr3 rr7 ku hv5 hs5 hv6 hs6⟩
              refine hK.out _ _ (SAB.past (by kernel_rfl) trivial) (fun hSS => ?_)
              clear hK K hA hB
              have hB := hSS.2
              have hA : True := trivial
              (try dsimp only at hB); (try dsimp only at hA); clear hSS
              try simp only [Act.put, List.setIfInBounds_toArray, List.set_cons_zero, List.set_cons_succ]
              refine wpL_done (by kernel_rfl) ?_
              have HFIN := Lib.hid hfin
              clear hfin
              clear hv5 hs5 hv6 hs6 ku ka5 rr3 rr7 bg3 bg7 b9 b10 kk1 kk2 kk3 kk4 hb8 hb9 hr3 hr7 hA hB hk11 hk12 hk13 hk14
              go_wp2_with fail
              go_meet
              exact HFIN.out
        · go_simp
          generalize hq : u0.alloc (.cells #[.slice none 0 0, .slice none 0 0, .slice none 0 0, .slice none 0 0] 27) = u1
          have hb8 : Blk u1 u0.heap.size 27 #[.slice none 0 0, .slice none 0 0, .slice none 0 0, .slice none 0 0] := hq ▸ Blk.new _ _ _
          have hk11 : Keep u0 u1 := hq ▸ Keep.new _ _
          clear hq
          have y8 := hb8.lt
          have z1 := hk11.size
          have ha := Keep.trans hA hk11
          refine hK.out _ _ (SAB.both ha trivial) (fun hSS => ?_)
          clear hK K hA hB
          have hB := hSS.2
          have hA := hSS.1 (by kernel_rfl)
          (try dsimp only at hB); (try dsimp only at hA); clear hSS
          try simp only [Act.put, List.setIfInBounds_toArray, List.set_cons_zero, List.set_cons_succ]
          clear ha
          refine wpL_two (i := 3) (j := 9) (by kernel_rfl) (StepL.mk rfl (fun K hK => ?_)) (StepL.mk rfl (fun K hK => ?_))
          · go_simp
            refine (preplay_any u1 (New wr w2.heap.size) [.slice B0 p0 q0, .slice B1 p1 q1, .slice B2 p2 q2, .slice B3 p3 q3, .slice B4 p4 q4] cd me 3 A5 k c5 (l) (fun i hi => by have := hi.2; have := hA.size; omega) (HCDR.out.keep (Same.mono hA (fun i hi => hi.2))) (HEVR.out.keep (Same.mono hA (fun i hi => hi.2))) (by have := HLN.out; omega)).mono ?_
            rintro e u2 ⟨cs3, rfl, hr3', hk12⟩
            obtain ⟨E1, E2, E3, E4, en1, ec1, en2, ec2, en3, ec3, en4, ec4, rfl, hr3⟩ := st_open hr3'
            clear hr3'
            have z2 := hk12.size
            have ha := Keep.trans hA hk12
            refine hK.out _ _ (SAB.both ha trivial) (fun hSS => ?_)
            clear hK K hA hB
            have hB := hSS.2
            have hA := hSS.1 (by kernel_rfl)
            (try dsimp only at hB); (try dsimp only at hA); clear hSS
            try simp only [Act.put, List.setIfInBounds_toArray, List.set_cons_zero, List.set_cons_succ]
            clear ha
            refine wpL_two (i := 7) (j := 9) (by kernel_rfl) (StepL.mk rfl (fun K hK => ?_)) (StepL.mk rfl (fun K hK => ?_))
            · go_simp
              refine (preplay_any u2 (New wr w2.heap.size) [.slice B0 p0 q0, .slice B1 p1 q1, .slice B2 p2 q2, .slice B3 p3 q3, .slice B4 p4 q4] cd me 3 A6 k c6 (m) (fun i hi => by have := hi.2; have := hA.size; omega) (HCDR.out.keep (Same.mono hA (fun i hi => hi.2))) (HEVM.out.keep (Same.mono hA (fun i hi => hi.2))) (by have := HML.out; have := HLN.out; omega)).mono ?_
              rintro e u3 ⟨cs7, rfl, hr7', hk13⟩
              obtain ⟨F1, F2, F3, F4, fn1, fc1, fn2, fc2, fn3, fc3, fn4, fc4, rfl, hr7⟩ := st_open hr7'
              clear hr7'
              have z3 := hk13.size
              have ha := Keep.trans hA hk13
              refine hK.out _ _ (SAB.both ha trivial) (fun hSS => ?_)
              clear hK K hA hB
              have hB := hSS.2
              have hA := hSS.1 (by kernel_rfl)
              (try dsimp only at hB); (try dsimp only at hA); clear hSS
              try simp only [Act.put, List.setIfInBounds_toArray, List.set_cons_zero, List.set_cons_succ]
              clear ha
              refine wpL_one (i := 9) (by kernel_rfl) (StepL.mk rfl (fun K hK => ?_))
              go_simp
              generalize hq : u3.alloc (.cells #[.slice none 0 0, .slice none 0 0, .slice none 0 0, .slice none 0 0] 27) = u4
              have hb9 : Blk u4 u3.heap.size 27 #[.slice none 0 0, .slice none 0 0, .slice none 0 0, .slice none 0 0] := hq ▸ Blk.new _ _ _
              have hk14 : Keep u3 u4 := hq ▸ Keep.new _ _
              clear hq
              have y9 := hb9.lt
              have z4 := hk14.size
              have ha := Keep.trans hA hk14
              refine hK.out _ _ (SAB.both ha trivial) (fun hSS => ?_)
              clear hK K hA hB
              have hB := hSS.2
              have hA := hSS.1 (by kernel_rfl)
              (try dsimp only at hB); (try dsimp only at hA); clear hSS
              try simp only [Act.put, List.setIfInBounds_toArray, List.set_cons_zero, List.set_cons_succ]
              clear ha
              have kk4 : Keep u4 u4 := Same.refl _ _
              have kk3 : Keep u3 u4 := Keep.trans hk14 kk4
              have kk2 : Keep u2 u4 := Keep.trans hk13 kk3
              have kk1 : Keep u1 u4 := Keep.trans hk12 kk2
              have zA := hA.size
              have b9 := kk1.blk hb8 y8
              have b10 := kk4.blk hb9 y9
              have rr3 := hr3.keep (Same.mono kk2 (Sn.lt (fun i hi => by have := hi.2; omega) hk12.size))
              have bg3 : ∀ i, Sn (New wr w2.heap.size) u1 u2 i → Bg (u0.heap.size) (u3.heap.size) u4 i := fun i hi => hi.elim (fun h => by have h1 := h.1; have h2 := h.2; exact ⟨by omega, by omega, by omega⟩) (fun h => by have h1 := h.1; have h2 := h.2; exact ⟨by omega, by omega, by omega⟩)
              have rr7 := hr7.keep (Same.mono kk3 (Sn.lt (fun i hi => by have := hi.2; omega) hk13.size))
              have bg7 : ∀ i, Sn (New wr w2.heap.size) u2 u3 i → Bg (u0.heap.size) (u3.heap.size) u4 i := fun i hi => hi.elim (fun h => by have h1 := h.1; have h2 := h.2; exact ⟨by omega, by omega, by omega⟩) (fun h => by have h1 := h.1; have h2 := h.2; exact ⟨by omega, by omega, by omega⟩)
              refine wpL_one (i := 10) (by kernel_rfl) (StepL.mk rfl (fun K hK => ?_))
              refine step_store_blk rfl _ _ _ rfl (u0.heap.size) 0 27 _ [.slice E1 en1 ec1, .slice E2 en2 ec2, .slice E3 en3 ec3, .slice E4 en4 ec4] rfl rfl b9 (by simp) (by kernel_rfl) rfl ?_
              intro v5 hv5 hs5
              rw [splice_all [.slice E1 en1 ec1, .slice E2 en2 ec2, .slice E3 en3 ec3, .slice E4 en4 ec4] #[.slice none 0 0, .slice none 0 0, .slice none 0 0, .slice none 0 0] rfl] at hv5
              have ka5 : Keep wr v5 := Keep.write hA hs5 (by omega)
              have ku := hA
              refine hK.out _ _ (SAB.both ka5 trivial) (fun hSS => ?_)
              clear hK K hA hB
              have hB := hSS.2
              have hA := hSS.1 (by kernel_rfl)
              (try dsimp only at hB); (try dsimp only at hA); clear hSS
              try simp only [Act.put, List.setIfInBounds_toArray, List.set_cons_zero, List.set_cons_succ]
              refine wpL_one (i := 11) (by kernel_rfl) (StepL.mk rfl (fun K hK => ?_))
              refine step_store_blk rfl _ _ _ rfl (u3.heap.size) 0 27 _ [.slice F1 fn1 fc1, .slice F2 fn2 fc2, .slice F3 fn3 fc3, .slice F4 fn4 fc4] rfl rfl (hs5.blk b10 (by omega)) (by simp) (by kernel_rfl) rfl ?_
              intro v6 hv6 hs6
              rw [splice_all [.slice F1 fn1 fc1, .slice F2 fn2 fc2, .slice F3 fn3 fc3, .slice F4 fn4 fc4] #[.slice none 0 0, .slice none 0 0, .slice none 0 0, .slice none 0 0] rfl] at hv6
              have hfin : TwoV wr (replayS cd me 3 l) (replayS cd me 3 m) (.pointer (some ⟨u0.heap.size, 0, none⟩)) (.pointer (some ⟨u3.heap.size, 0, none⟩)) v6 := ⟨_, _, rfl, rfl, by omega, by omega, by omega, two_put2 (by omega) (by omega) (by omega) (by omega) (by omega) bg3 bg7 rr3 rr7 ku hv5 hs5 hv6 hs6⟩
              refine hK.out _ _ (SAB.past (by kernel_rfl) trivial) (fun hSS => ?_)
              clear hK K hA hB
              have hB := hSS.2
              have hA : True := trivial
              (try dsimp only at hB); (try dsimp only at hA); clear hSS
              try simp only [Act.put, List.setIfInBounds_toArray, List.set_cons_zero, List.set_cons_succ]
              refine wpL_done (by kernel_rfl) ?_
              have HFIN := Lib.hid hfin
              clear hfin
              clear hv5 hs5 hv6 hs6 ku ka5 rr3 rr7 bg3 bg7 b9 b10 kk1 kk2 kk3 kk4 hb8 hb9 hr3 hr7 hA hB hk11 hk12 hk13 hk14
              go_wp2_with fail
              go_meet
              exact HFIN.out
            · go_simp
              generalize hq : u2.alloc (.cells #[.slice none 0 0, .slice none 0 0, .slice none 0 0, .slice none 0 0] 27) = u3
              have hb9 : Blk u3 u2.heap.size 27 #[.slice none 0 0, .slice none 0 0, .slice none 0 0, .slice none 0 0] := hq ▸ Blk.new _ _ _
              have hk13 : Keep u2 u3 := hq ▸ Keep.new _ _
              clear hq
              have y9 := hb9.lt
              have z3 := hk13.size
              have ha := Keep.trans hA hk13
              refine hK.out _ _ (SAB.both ha trivial) (fun hSS => ?_)
              clear hK K hA hB
              have hB := hSS.2
              have hA := hSS.1 (by kernel_rfl)
              (try dsimp only at hB); (try dsimp only at hA); clear hSS
              try simp only [Act.put, List.setIfInBounds_toArray, List.set_cons_zero, List.set_cons_succ]
              clear ha
              refine wpL_one (i := 7) (by kernel_rfl) (StepL.mk rfl (fun K hK => ?_))
              go_simp
              refine (preplay_any u3 (New wr w2.heap.size) [.slice B0 p0 q0, .slice B1 p1 q1, .slice B2 p2 q2, .slice B3 p3 q3, .slice B4 p4 q4] cd me 3 A6 k c6 (m) (fun i hi => by have := hi.2; have := hA.size; omega) (HCDR.out.keep (Same.mono hA (fun i hi => hi.2))) (HEVM.out.keep (Same.mono hA (fun i hi => hi.2))) (by have := HML.out; have := HLN.out; omega)).mono ?_
              rintro e u4 ⟨cs7, rfl, hr7', hk14⟩
              obtain ⟨F1, F2, F3, F4, fn1, fc1, fn2, fc2, fn3, fc3, fn4, fc4, rfl, hr7⟩ := st_open hr7'
              clear hr7'
              have z4 := hk14.size
              have ha := Keep.trans hA hk14
              refine hK.out _ _ (SAB.both ha trivial) (fun hSS => ?_)
              clear hK K hA hB
              have hB := hSS.2
              have hA := hSS.1 (by kernel_rfl)
              (try dsimp only at hB); (try dsimp only at hA); clear hSS
              try simp only [Act.put, List.setIfInBounds_toArray, List.set_cons_zero, List.set_cons_succ]
              clear ha
              have kk4 : Keep u4 u4 := Same.refl _ _
              have kk3 : Keep u3 u4 := Keep.trans hk14 kk4
              have kk2 : Keep u2 u4 := Keep.trans hk13 kk3
              have kk1 : Keep u1 u4 := Keep.trans hk12 kk2
              have zA := hA.size
              have b9 := kk1.blk hb8 y8
              have b10 := kk3.blk hb9 y9
              have rr3 := hr3.keep (Same.mono kk2 (Sn.lt (fun i hi => by have := hi.2; omega) hk12.size))
              have bg3 : ∀ i, Sn (New wr w2.heap.size) u1 u2 i → Bg (u0.heap.size) (u2.heap.size) u4 i := fun i hi => hi.elim (fun h => by have h1 := h.1; have h2 := h.2; exact ⟨by omega, by omega, by omega⟩) (fun h => by have h1 := h.1; have h2 := h.2; exact ⟨by omega, by omega, by omega⟩)
              have rr7 := hr7.keep (Same.mono kk4 (Sn.lt (fun i hi => by have := hi.2; omega) hk14.size))
              have bg7 : ∀ i, Sn (New wr w2.heap.size) u3 u4 i → Bg (u0.heap.size) (u2.heap.size) u4 i := fun i hi => hi.elim (fun h => by have h1 := h.1; have h2 := h.2; exact ⟨by omega, by omega, by omega⟩) (fun h => by have h1 := h.1; have h2 := h.2; exact ⟨by omega, by omega, by omega⟩)
              refine wpL_one (i := 10) (by kernel_rfl) (StepL.mk rfl (fun K hK => ?_))
              refine step_store_blk rfl _ _ _ rfl (u0.heap.size) 0 27 _ [.slice E1 en1 ec1, .slice E2 en2 ec2, .slice E3 en3 ec3, .slice E4 en4 ec4] rfl rfl b9 (by simp) (by kernel_rfl) rfl ?_
              intro v5 hv5 hs5
              rw [splice_all [.slice E1 en1 ec1, .slice E2 en2 ec2, .slice E3 en3 ec3, .slice E4 en4 ec4] #[.slice none 0 0, .slice none 0 0, .slice none 0 0, .slice none 0 0] rfl] at hv5
              have ka5 : Keep wr v5 := Keep.write hA hs5 (by omega)
              have ku := hA
              refine hK.out _ _ (SAB.both ka5 trivial) (fun hSS => ?_)
              clear hK K hA hB
              have hB := hSS.2
              have hA := hSS.1 (by kernel_rfl)
              (try dsimp only at hB); (try dsimp only at hA); clear hSS
              try simp only [Act.put, List.setIfInBounds_toArray, List.set_cons_zero, List.set_cons_succ]
              refine wpL_one (i := 11) (by kernel_rfl) (StepL.mk rfl (fun K hK => ?_))
              refine step_store_blk rfl _ _ _ rfl (u2.heap.size) 0 27 _ [.slice F1 fn1 fc1, .slice F2 fn2 fc2, .slice F3 fn3 fc3, .slice F4 fn4 fc4] rfl rfl (hs5.blk b10 (by omega)) (by simp) (by kernel_rfl) rfl ?_
              intro v6 hv6 hs6
              rw [splice_all [.slice F1 fn1 fc1, .slice F2 fn2 fc2, .slice F3 fn3 fc3, .slice F4 fn4 fc4] #[.slice none 0 0, .slice none 0 0, .slice none 0 0, .slice none 0 0] rfl] at hv6
              have hfin : TwoV wr (replayS cd me 3 l) (replayS cd me 3 m) (.pointer (some ⟨u0.heap.size, 0, none⟩)) (.pointer (some ⟨u2.heap.size, 0, none⟩)) v6 := ⟨_, _, rfl, rfl, by omega, by omega, by omega, two_put2 (by omega) (by omega) (by omega) (by omega) (by omega) bg3 bg7 rr3 rr7 ku hv5 hs5 hv6 hs6⟩
              refine hK.out _ _ (SAB.past (by kernel_rfl) trivial) (fun hSS => ?_)
              clear hK K hA hB
              have hB := hSS.2
              have hA : True := trivial
              (try dsimp only at hB); (try dsimp only at hA); clear hSS
              try simp only [Act.put, List.setIfInBounds_toArray, List.set_cons_zero, List.set_cons_succ]
              refine wpL_done (by kernel_rfl) ?_
              have HFIN := Lib.hid hfin
              clear hfin
              clear hv5 hs5 hv6 hs6 ku ka5 rr3 rr7 bg3 bg7 b9 b10 kk1 kk2 kk3 kk4 hb8 hb9 hr3 hr7 hA hB hk11 hk12 hk13 hk14
              go_wp2_with fail
              go_meet
              exact HFIN.out
          · go_simp
            generalize hq : u1.alloc (.cells #[.slice none 0 0, .slice none 0 0, .slice none 0 0, .slice none 0 0] 27) = u2
            have hb9 : Blk u2 u1.heap.size 27 #[.slice none 0 0, .slice none 0 0, .slice none 0 0, .slice none 0 0] := hq ▸ Blk.new _ _ _
            have hk12 : Keep u1 u2 := hq ▸ Keep.new _ _
            clear hq
            have y9 := hb9.lt
            have z2 := hk12.size
            have ha := Keep.trans hA hk12
            refine hK.out _ _ (SAB.both ha trivial) (fun hSS => ?_)
            clear hK K hA hB
            have hB := hSS.2
            have hA := hSS.1 (by kernel_rfl)
            (try dsimp only at hB); (try dsimp only at hA); clear hSS
            try simp only [Act.put, List.setIfInBounds_toArray, List.set_cons_zero, List.set_cons_succ]
            clear ha
            refine wpL_one (i := 3) (by kernel_rfl) (StepL.mk rfl (fun K hK => ?_))
            go_simp
            refine (preplay_any u2 (New wr w2.heap.size) [.slice B0 p0 q0, .slice B1 p1 q1, .slice B2 p2 q2, .slice B3 p3 q3, .slice B4 p4 q4] cd me 3 A5 k c5 (l) (fun i hi => by have := hi.2; have := hA.size; omega) (HCDR.out.keep (Same.mono hA (fun i hi => hi.2))) (HEVR.out.keep (Same.mono hA (fun i hi => hi.2))) (by have := HLN.out; omega)).mono ?_
            rintro e u3 ⟨cs3, rfl, hr3', hk13⟩
            obtain ⟨E1, E2, E3, E4, en1, ec1, en2, ec2, en3, ec3, en4, ec4, rfl, hr3⟩ := st_open hr3'
            clear hr3'
            have z3 := hk13.size
            have ha := Keep.trans hA hk13
            refine hK.out _ _ (SAB.both ha trivial) (fun hSS => ?_)
            clear hK K hA hB
            have hB := hSS.2
            have hA := hSS.1 (by kernel_rfl)
            (try dsimp only at hB); (try dsimp only at hA); clear hSS
            try simp only [Act.put, List.setIfInBounds_toArray, List.set_cons_zero, List.set_cons_succ]
            clear ha
            refine wpL_one (i := 7) (by kernel_rfl) (StepL.mk rfl (fun K hK => ?_))
            go_simp
            refine (preplay_any u3 (New wr w2.heap.size) [.slice B0 p0 q0, .slice B1 p1 q1, .slice B2 p2 q2, .slice B3 p3 q3, .slice B4 p4 q4] cd me 3 A6 k c6 (m) (fun i hi => by have := hi.2; have := hA.size; omega) (HCDR.out.keep (Same.mono hA (fun i hi => hi.2))) (HEVM.out.keep (Same.mono hA (fun i hi => hi.2))) (by have := HML.out; have := HLN.out; omega)).mono ?_
            rintro e u4 ⟨cs7, rfl, hr7', hk14⟩
            obtain ⟨F1, F2, F3, F4, fn1, fc1, fn2, fc2, fn3, fc3, fn4, fc4, rfl, hr7⟩ := st_open hr7'
            clear hr7'
            have z4 := hk14.size
            have ha := Keep.trans hA hk14
            refine hK.out _ _ (SAB.both ha trivial) (fun hSS => ?_)
            clear hK K hA hB
            have hB := hSS.2
            have hA := hSS.1 (by kernel_rfl)
            (try dsimp only at hB); (try dsimp only at hA); clear hSS
            try simp only [Act.put, List.setIfInBounds_toArray, List.set_cons_zero, List.set_cons_succ]
            clear ha
            have kk4 : Keep u4 u4 := Same.refl _ _
            have kk3 : Keep u3 u4 := Keep.trans hk14 kk4
            have kk2 : Keep u2 u4 := Keep.trans hk13 kk3
            have kk1 : Keep u1 u4 := Keep.trans hk12 kk2
            have zA := hA.size
            have b9 := kk1.blk hb8 y8
            have b10 := kk2.blk hb9 y9
            have rr3 := hr3.keep (Same.mono kk3 (Sn.lt (fun i hi => by have := hi.2; omega) hk13.size))
            have bg3 : ∀ i, Sn (New wr w2.heap.size) u2 u3 i → Bg (u0.heap.size) (u1.heap.size) u4 i := fun i hi => hi.elim (fun h => by have h1 := h.1; have h2 := h.2; exact ⟨by omega, by omega, by omega⟩) (fun h => by have h1 := h.1; have h2 := h.2; exact ⟨by omega, by omega, by omega⟩)
            have rr7 := hr7.keep (Same.mono kk4 (Sn.lt (fun i hi => by have := hi.2; omega) hk14.size))
            have bg7 : ∀ i, Sn (New wr w2.heap.size) u3 u4 i → Bg (u0.heap.size) (u1.heap.size) u4 i := fun i hi => hi.elim (fun h => by have h1 := h.1; have h2 := h.2; exact ⟨by omega, by omega, by omega⟩) (fun h => by have h1 := h.1; have h2 := h.2; exact ⟨by omega, by omega, by omega⟩)
            refine wpL_one (i := 10) (by kernel_rfl) (StepL.mk rfl (fun K hK => ?_))
            refine step_store_blk rfl _ _ _ rfl (u0.heap.size) 0 27 _ [.slice E1 en1 ec1, .slice E2 en2 ec2, .slice E3 en3 ec3, .slice E4 en4 ec4] rfl rfl b9 (by simp) (by kernel_rfl) rfl ?_
            intro v5 hv5 hs5
            rw [splice_all [.slice E1 en1 ec1, .slice E2 en2 ec2, .slice E3 en3 ec3, .slice E4 en4 ec4] #[.slice none 0 0, .slice none 0 0, .slice none 0 0, .slice none 0 0] rfl] at hv5
            have ka5 : Keep wr v5 := Keep.write hA hs5 (by omega)
            have ku := hA
            refine hK.out _ _ (SAB.both ka5 trivial) (fun hSS => ?_)
            clear hK K hA hB
            have hB := hSS.2
            have hA := hSS.1 (by kernel_rfl)
            (try dsimp only at hB); (try dsimp only at hA); clear hSS
            try simp only [Act.put, List.setIfInBounds_toArray, List.set_cons_zero, List.set_cons_succ]
            refine wpL_one (i := 11) (by kernel_rfl) (StepL.mk rfl (fun K hK => ?_))
            refine step_store_blk rfl _ _ _ rfl (u1.heap.size) 0 27 _ [.slice F1 fn1 fc1, .slice F2 fn2 fc2, .slice F3 fn3 fc3, .slice F4 fn4 fc4] rfl rfl (hs5.blk b10 (by omega)) (by simp) (by kernel_rfl) rfl ?_
            intro v6 hv6 hs6
            rw [splice_all [.slice F1 fn1 fc1, .slice F2 fn2 fc2, .slice F3 fn3 fc3, .slice F4 fn4 fc4] #[.slice none 0 0, .slice none 0 0, .slice none 0 0, .slice none 0 0] rfl] at hv6
            have hfin : TwoV wr (replayS cd me 3 l) (replayS cd me 3 m) (.pointer (some ⟨u0.heap.size, 0, none⟩)) (.pointer (some ⟨u1.heap.size, 0, none⟩)) v6 := ⟨_, _, rfl, rfl, by omega, by omega, by omega, two_put2 (by omega) (by omega) (by omega) (by omega) (by omega) bg3 bg7 rr3 rr7 ku hv5 hs5 hv6 hs6⟩
            refine hK.out _ _ (SAB.past (by kernel_rfl) trivial) (fun hSS => ?_)
            clear hK K hA hB
            have hB := hSS.2
            have hA : True := trivial
            (try dsimp only at hB); (try dsimp only at hA); clear hSS
            try simp only [Act.put, List.setIfInBounds_toArray, List.set_cons_zero, List.set_cons_succ]
            refine wpL_done (by kernel_rfl) ?_
            have HFIN := Lib.hid hfin
            clear hfin
            clear hv5 hs5 hv6 hs6 ku ka5 rr3 rr7 bg3 bg7 b9 b10 kk1 kk2 kk3 kk4 hb8 hb9 hr3 hr7 hA hB hk11 hk12 hk13 hk14
            go_wp2_with fail
            go_meet
            exact HFIN.out
        · go_simp
          generalize hq : u0.alloc (.cells #[.slice none 0 0, .slice none 0 0, .slice none 0 0, .slice none 0 0] 27) = u1
          have hb9 : Blk u1 u0.heap.size 27 #[.slice none 0 0, .slice none 0 0, .slice none 0 0, .slice none 0 0] := hq ▸ Blk.new _ _ _
          have hk11 : Keep u0 u1 := hq ▸ Keep.new _ _
          clear hq
          have y9 := hb9.lt
          have z1 := hk11.size
          have ha := Keep.trans hA hk11
          refine hK.out _ _ (SAB.both ha trivial) (fun hSS => ?_)
          clear hK K hA hB
          have hB := hSS.2
          have hA := hSS.1 (by kernel_rfl)
          (try dsimp only at hB); (try dsimp only at hA); clear hSS
          try simp only [Act.put, List.setIfInBounds_toArray, List.set_cons_zero, List.set_cons_succ]
          clear ha
          refine wpL_two (i := 3) (j := 8) (by kernel_rfl) (StepL.mk rfl (fun K hK => ?_)) (StepL.mk rfl (fun K hK => ?_))
          · go_simp
            refine (preplay_any u1 (New wr w2.heap.size) [.slice B0 p0 q0, .slice B1 p1 q1, .slice B2 p2 q2, .slice B3 p3 q3, .slice B4 p4 q4] cd me 3 A5 k c5 (l) (fun i hi => by have := hi.2; have := hA.size; omega) (HCDR.out.keep (Same.mono hA (fun i hi => hi.2))) (HEVR.out.keep (Same.mono hA (fun i hi => hi.2))) (by have := HLN.out; omega)).mono ?_
            rintro e u2 ⟨cs3, rfl, hr3', hk12⟩
            obtain ⟨E1, E2, E3, E4, en1, ec1, en2, ec2, en3, ec3, en4, ec4, rfl, hr3⟩ := st_open hr3'
            clear hr3'
            have z2 := hk12.size
            have ha := Keep.trans hA hk12
            refine hK.out _ _ (SAB.both ha trivial) (fun hSS => ?_)
            clear hK K hA hB
            have hB := hSS.2
            have hA := hSS.1 (by kernel_rfl)
            (try dsimp only at hB); (try dsimp only at hA); clear hSS
            try simp only [Act.put, List.setIfInBounds_toArray, List.set_cons_zero, List.set_cons_succ]
            clear ha
            refine wpL_two (i := 7) (j := 8) (by kernel_rfl) (StepL.mk rfl (fun K hK => ?_)) (StepL.mk rfl (fun K hK => ?_))
            · go_simp
              refine (preplay_any u2 (New wr w2.heap.size) [.slice B0 p0 q0, .slice B1 p1 q1, .slice B2 p2 q2, .slice B3 p3 q3, .slice B4 p4 q4] cd me 3 A6 k c6 (m) (fun i hi => by have := hi.2; have := hA.size; omega) (HCDR.out.keep (Same.mono hA (fun i hi => hi.2))) (HEVM.out.keep (Same.mono hA (fun i hi => hi.2))) (by have := HML.out; have := HLN.out; omega)).mono ?_
              rintro e u3 ⟨cs7, rfl, hr7', hk13⟩
              obtain ⟨F1, F2, F3, F4, fn1, fc1, fn2, fc2, fn3, fc3, fn4, fc4, rfl, hr7⟩ := st_open hr7'
              clear hr7'
              have z3 := hk13.size
              have ha := Keep.trans hA hk13
              refine hK.out _ _ (SAB.both ha trivial) (fun hSS => ?_)
              clear hK K hA hB
              have hB := hSS.2
              have hA := hSS.1 (by kernel_rfl)
              (try dsimp only at hB); (try dsimp only at hA); clear hSS
              try simp only [Act.put, List.setIfInBounds_toArray, List.set_cons_zero, List.set_cons_succ]
              clear ha
              refine wpL_one (i := 8) (by kernel_rfl) (StepL.mk rfl (fun K hK => ?_))
              go_simp
              generalize hq : u3.alloc (.cells #[.slice none 0 0, .slice none 0 0, .slice none 0 0, .slice none 0 0] 27) = u4
              have hb8 : Blk u4 u3.heap.size 27 #[.slice none 0 0, .slice none 0 0, .slice none 0 0, .slice none 0 0] := hq ▸ Blk.new _ _ _
              have hk14 : Keep u3 u4 := hq ▸ Keep.new _ _
              clear hq
              have y8 := hb8.lt
              have z4 := hk14.size
              have ha := Keep.trans hA hk14
              refine hK.out _ _ (SAB.both ha trivial) (fun hSS => ?_)
              clear hK K hA hB
              have hB := hSS.2
              have hA := hSS.1 (by kernel_rfl)
              (try dsimp only at hB); (try dsimp only at hA); clear hSS
              try simp only [Act.put, List.setIfInBounds_toArray, List.set_cons_zero, List.set_cons_succ]
              clear ha
              have kk4 : Keep u4 u4 := Same.refl _ _
              have kk3 : Keep u3 u4 := Keep.trans hk14 kk4
              have kk2 : Keep u2 u4 := Keep.trans hk13 kk3
              have kk1 : Keep u1 u4 := Keep.trans hk12 kk2
              have zA := hA.size
              have b9 := kk4.blk hb8 y8
              have b10 := kk1.blk hb9 y9
              have rr3 := hr3.keep (Same.mono kk2 (Sn.lt (fun i hi => by have := hi.2; omega) hk12.size))
              have bg3 : ∀ i, Sn (New wr w2.heap.size) u1 u2 i → Bg (u3.heap.size) (u0.heap.size) u4 i := fun i hi => hi.elim (fun h => by have h1 := h.1; have h2 := h.2; exact ⟨by omega, by omega, by omega⟩) (fun h => by have h1 := h.1; have h2 := h.2; exact ⟨by omega, by omega, by omega⟩)
              have rr7 := hr7.keep (Same.mono kk3 (Sn.lt (fun i hi => by have := hi.2; omega) hk13.size))
              have bg7 : ∀ i, Sn (New wr w2.heap.size) u2 u3 i → Bg (u3.heap.size) (u0.heap.size) u4 i := fun i hi => hi.elim (fun h => by have h1 := h.1; have h2 := h.2; exact ⟨by omega, by omega, by omega⟩) (fun h => by have h1 := h.1; have h2 := h.2; exact ⟨by omega, by omega, by omega⟩)
              refine wpL_one (i := 10) (by kernel_rfl) (StepL.mk rfl (fun K hK => ?_))
              refine step_store_blk rfl _ _ _ rfl (u3.heap.size) 0 27 _ [.slice E1 en1 ec1, .slice E2 en2 ec2, .slice E3 en3 ec3, .slice E4 en4 ec4] rfl rfl b9 (by simp) (by kernel_rfl) rfl ?_
              intro v5 hv5 hs5
              rw [splice_all [.slice E1 en1 ec1, .slice E2 en2 ec2, .slice E3 en3 ec3, .slice E4 en4 ec4] #[.slice none 0 0, .slice none 0 0, .slice none 0 0, .slice none 0 0] rfl] at hv5
              have ka5 : Keep wr v5 := Keep.write hA hs5 (by omega)
              have ku := hA
              refine hK.out _ _ (SAB.both ka5 trivial) (fun hSS => ?_)
              clear hK K hA hB
              have hB := hSS.2
              have hA := hSS.1 (by kernel_rfl)
              (try dsimp only at hB); (try dsimp only at hA); clear hSS
              try simp only [Act.put, List.setIfInBounds_toArray, List.set_cons_zero, List.set_cons_succ]
              refine wpL_one (i := 11) (by kernel_rfl) (StepL.mk rfl (fun K hK => ?_))
              refine step_store_blk rfl _ _ _ rfl (u0.heap.size) 0 27 _ [.slice F1 fn1 fc1, .slice F2 fn2 fc2, .slice F3 fn3 fc3, .slice F4 fn4 fc4] rfl rfl (hs5.blk b10 (by omega)) (by simp) (by kernel_rfl) rfl ?_
              intro v6 hv6 hs6
              rw [splice_all [.slice F1 fn1 fc1, .slice F2 fn2 fc2, .slice F3 fn3 fc3, .slice F4 fn4 fc4] #[.slice none 0 0, .slice none 0 0, .slice none 0 0, .slice none 0 0] rfl] at hv6
              have hfin : TwoV wr (replayS cd me 3 l) (replayS cd me 3 m) (.pointer (some ⟨u3.heap.size, 0, none⟩)) (.pointer (some ⟨u0.heap.size, 0, none⟩)) v6 := ⟨_, _, rfl, rfl, by omega, by omega, by omega, two_put2 (by omega) (by omega) (by omega) (by omega) (by omega) bg3 bg7 rr3 rr7 ku hv5 hs5 hv6 hs6⟩
              refine hK.out _ _ (SAB.past (by kernel_rfl) trivial) (fun hSS => ?_)
              clear hK K hA hB
              have hB := hSS.2
              have hA : True := trivial
              (try dsimp only at hB); (try dsimp only at hA); clear hSS
              try simp only [Act.put, List.setIfInBounds_toArray, List.set_cons_zero, List.set_cons_succ]
              refine wpL_done (by kernel_rfl) ?_
              have HFIN := Lib.hid hfin
              clear hfin
              clear hv5 hs5 hv6 hs6 ku ka5 rr3 rr7 bg3 bg7 b9 b10 kk1 kk2 kk3 kk4 hb8 hb9 hr3 hr7 hA hB hk11 hk12 hk13 hk14
              go_wp2_with fail
              go_meet
              exact HFIN.out
            · go_simp
              generalize hq : u2.alloc (.cells #[.slice none 0 0, .slice none 0 0, .slice none 0 0, .slice none 0 0] 27) = u3
              have hb8 : Blk u3 u2.heap.size 27 #[.slice none 0 0, .slice none 0 0, .slice none 0 0, .slice none 0 0] := hq ▸ Blk.new _ _ _
              have hk13 : Keep u2 u3 := hq ▸ Keep.new _ _
              clear hq
              have y8 := hb8.lt
              have z3 := hk13.size
              have ha := Keep.trans hA hk13
              refine hK.out _ _ (SAB.both ha trivial) (fun hSS => ?_)
              clear hK K hA hB
              have hB := hSS.2
              have hA := hSS.1 (by kernel_rfl)
              (try dsimp only at hB); (try dsimp only at hA); clear hSS
              try simp only [Act.put, List.setIfInBounds_toArray, List.set_cons_zero, List.set_cons_succ]
              clear ha
              refine wpL_one (i := 7) (by kernel_rfl) (StepL.mk rfl (fun K hK => ?_))
              go_simp
              refine (preplay_any u3 (New wr w2.heap.size) [.slice B0 p0 q0, .slice B1 p1 q1, .slice B2 p2 q2, .slice B3 p3 q3, .slice B4 p4 q4] cd me 3 A6 k c6 (m) (fun i hi => by have := hi.2; have := hA.size; omega) (HCDR.out.keep (Same.mono hA (fun i hi => hi.2))) (HEVM.out.keep (Same.mono hA (fun i hi => hi.2))) (by have := HML.out; have := HLN.out; omega)).mono ?_
              rintro e u4 ⟨cs7, rfl, hr7', hk14⟩
              obtain ⟨F1, F2, F3, F4, fn1, fc1, fn2, fc2, fn3, fc3, fn4, fc4, rfl, hr7⟩ := st_open hr7'
              clear hr7'
              have z4 := hk14.size
              have ha := Keep.trans hA hk14
              refine hK.out _ _ (SAB.both ha trivial) (fun hSS => ?_)
              clear hK K hA hB
              have hB := hSS.2
              have hA := hSS.1 (by kernel_rfl)
              (try dsimp only at hB); (try dsimp only at hA); clear hSS
              try simp only [Act.put, List.setIfInBounds_toArray, List.set_cons_zero, List.set_cons_succ]
              clear ha
              have kk4 : Keep u4 u4 := Same.refl _ _
              have kk3 : Keep u3 u4 := Keep.trans hk14 kk4
              have kk2 : Keep u2 u4 := Keep.trans hk13 kk3
              have kk1 : Keep u1 u4 := Keep.trans hk12 kk2
              have zA := hA.size
              have b9 := kk3.blk hb8 y8
              have b10 := kk1.blk hb9 y9
              have rr3 := hr3.keep (Same.mono kk2 (Sn.lt (fun i hi => by have := hi.2; omega) hk12.size))
              have bg3 : ∀ i, Sn (New wr w2.heap.size) u1 u2 i → Bg (u2.heap.size) (u0.heap.size) u4 i := fun i hi => hi.elim (fun h => by have h1 := h.1; have h2 := h.2; exact ⟨by omega, by omega, by omega⟩) (fun h => by have h1 := h.1; have h2 := h.2; exact ⟨by omega, by omega, by omega⟩)
              have rr7 := hr7.keep (Same.mono kk4 (Sn.lt (fun i hi => by have := hi.2; omega) hk14.size))
              have bg7 : ∀ i, Sn (New wr w2.heap.size) u3 u4 i → Bg (u2.heap.size) (u0.heap.size) u4 i := fun i hi => hi.elim (fun h => by have h1 := h.1; have h2 := h.2; exact ⟨by omega, by omega, by omega⟩) (fun h => by have h1 := h.1; have h2 := h.2; exact ⟨by omega, by omega, by omega⟩)
              refine wpL_one (i := 10) (by kernel_rfl) (StepL.mk rfl (fun K hK => ?_))
              refine step_store_blk rfl _ _ _ rfl (u2.heap.size) 0 27 _ [.slice E1 en1 ec1, .slice E2 en2 ec2, .slice E3 en3 ec3, .slice E4 en4 ec4] rfl rfl b9 (by simp) (by kernel_rfl) rfl ?_
              intro v5 hv5 hs5
              rw [splice_all [.slice E1 en1 ec1, .slice E2 en2 ec2, .slice E3 en3 ec3, .slice E4 en4 ec4] #[.slice none 0 0, .slice none 0 0, .slice none 0 0, .slice none 0 0] rfl] at hv5
              have ka5 : Keep wr v5 := Keep.write hA hs5 (by omega)
              have ku := hA
              refine hK.out _ _ (SAB.both ka5 trivial) (fun hSS => ?_)
              clear hK K hA hB
              have hB := hSS.2
              have hA := hSS.1 (by kernel_rfl)
              (try dsimp only at hB); (try dsimp only at hA); clear hSS
              try simp only [Act.put, List.setIfInBounds_toArray, List.set_cons_zero, List.set_cons_succ]
              refine wpL_one (i := 11) (by kernel_rfl) (StepL.mk rfl (fun K hK => ?_))
              refine step_store_blk rfl _ _ _ rfl (u0.heap.size) 0 27 _ [.slice F1 fn1 fc1, .slice F2 fn2 fc2, .slice F3 fn3 fc3, .slice F4 fn4 fc4] rfl rfl (hs5.blk b10 (by omega)) (by simp) (by kernel_rfl) rfl ?_
              intro v6 hv6 hs6
              rw [splice_all [.slice F1 fn1 fc1, .slice F2 fn2 fc2, .slice F3 fn3 fc3, .slice F4 fn4 fc4] #[.slice none 0 0, .slice none 0 0, .slice none 0 0, .slice none 0 0] rfl] at hv6
              have hfin : TwoV wr (replayS cd me 3 l) (replayS cd me 3 m) (.pointer (some ⟨u2.heap.size, 0, none⟩)) (.pointer (some ⟨u0.heap.size, 0, none⟩)) v6 := ⟨_, _, rfl, rfl, by omega, by omega, by omega, two_put2 (by omega) (by omega) (by omega) (by omega) (by omega) bg3 bg7 rr3 rr7 ku hv5 hs5 hv6 hs6⟩
              refine hK.out _ _ (SAB.past (by kernel_rfl) trivial) (fun hSS => ?_)
              clear hK K hA hB
              have hB := hSS.2
              have hA : True := trivial
              (try dsimp only at hB); (try dsimp only at hA); clear hSS
              try simp only [Act.put, List.setIfInBounds_toArray, List.set_cons_zero, List.set_cons_succ]
              refine wpL_done (by kernel_rfl) ?_
              have HFIN := Lib.hid hfin
              clear hfin
              clear hv5 hs5 hv6 hs6 ku ka5 rr3 rr7 bg3 bg7 b9 b10 kk1 kk2 kk3 kk4 hb8 hb9 hr3 hr7 hA hB hk11 hk12 hk13 hk14
              go_wp2_with fail
              go_meet
              exact HFIN.out
          · go_simp
            generalize hq : u1.alloc (.cells #[.slice none 0 0, .slice none 0 0, .slice none 0 0, .slice none 0 0] 27) = u2
            have hb8 : Blk u2 u1.heap.size 27 #[.slice none 0 0, .slice none 0 0, .slice none 0 0, .slice none 0 0] := hq ▸ Blk.new _ _ _
            have hk12 : Keep u1 u2 := hq ▸ Keep.new _ _
            clear hq
            have y8 := hb8.lt
            have z2 := hk12.size
            have ha := Keep.trans hA hk12
            refine hK.out _ _ (SAB.both ha trivial) (fun hSS => ?_)
            clear hK K hA hB
            have hB := hSS.2
            have hA := hSS.1 (by kernel_rfl)
            (try dsimp only at hB); (try dsimp only at hA); clear hSS
            try simp only [Act.put, List.setIfInBounds_toArray, List.set_cons_zero, List.set_cons_succ]
            clear ha
            refine wpL_one (i := 3) (by kernel_rfl) (StepL.mk rfl (fun K hK => ?_))
            go_simp
            refine (preplay_any u2 (New wr w2.heap.size) [.slice B0 p0 q0, .slice B1 p1 q1, .slice B2 p2 q2, .slice B3 p3 q3, .slice B4 p4 q4] cd me 3 A5 k c5 (l) (fun i hi => by have := hi.2; have := hA.size; omega) (HCDR.out.keep (Same.mono hA (fun i hi => hi.2))) (HEVR.out.keep (Same.mono hA (fun i hi => hi.2))) (by have := HLN.out; omega)).mono ?_
            rintro e u3 ⟨cs3, rfl, hr3', hk13⟩
            obtain ⟨E1, E2, E3, E4, en1, ec1, en2, ec2, en3, ec3, en4, ec4, rfl, hr3⟩ := st_open hr3'
            clear hr3'
            have z3 := hk13.size
            have ha := Keep.trans hA hk13
            refine hK.out _ _ (SAB.both ha trivial) (fun hSS => ?_)
            clear hK K hA hB
            have hB := hSS.2
            have hA := hSS.1 (by kernel_rfl)
            (try dsimp only at hB); (try dsimp only at hA); clear hSS
            try simp only [Act.put, List.setIfInBounds_toArray, List.set_cons_zero, List.set_cons_succ]
            clear ha
            refine wpL_one (i := 7) (by kernel_rfl) (StepL.mk rfl (fun K hK => ?_))
            go_simp
            refine (preplay_any u3 (New wr w2.heap.size) [.slice B0 p0 q0, .slice B1 p1 q1, .slice B2 p2 q2, .slice B3 p3 q3, .slice B4 p4 q4] cd me 3 A6 k c6 (m) (fun i hi => by have := hi.2; have := hA.size; omega) (HCDR.out.keep (Same.mono hA (fun i hi => hi.2))) (HEVM.out.keep (Same.mono hA (fun i hi => hi.2))) (by have := HML.out; have := HLN.out; omega)).mono ?_
            rintro e u4 ⟨cs7, rfl, hr7', hk14⟩
            obtain ⟨F1, F2, F3, F4, fn1, fc1, fn2, fc2, fn3, fc3, fn4, fc4, rfl, hr7⟩ := st_open hr7'
            clear hr7'
            have z4 := hk14.size
            have ha := Keep.trans hA hk14
            refine hK.out _ _ (SAB.both ha trivial) (fun hSS => ?_)
            clear hK K hA hB
            have hB := hSS.2
            have hA := hSS.1 (by kernel_rfl)
            (try dsimp only at hB); (try dsimp only at hA); clear hSS
            try simp only [Act.put, List.setIfInBounds_toArray, List.set_cons_zero, List.set_cons_succ]
            clear ha
            have kk4 : Keep u4 u4 := Same.refl _ _
            have kk3 : Keep u3 u4 := Keep.trans hk14 kk4
            have kk2 : Keep u2 u4 := Keep.trans hk13 kk3
            have kk1 : Keep u1 u4 := Keep.trans hk12 kk2
            have zA := hA.size
            have b9 := kk2.blk hb8 y8
            have b10 := kk1.blk hb9 y9
            have rr3 := hr3.keep (Same.mono kk3 (Sn.lt (fun i hi => by have := hi.2; omega) hk13.size))
            have bg3 : ∀ i, Sn (New wr w2.heap.size) u2 u3 i → Bg (u1.heap.size) (u0.heap.size) u4 i := fun i hi => hi.elim (fun h => by have h1 := h.1; have h2 := h.2; exact ⟨by omega, by omega, by omega⟩) (fun h => by have h1 := h.1; have h2 := h.2; exact ⟨by omega, by omega, by omega⟩)
            have rr7 := hr7.keep (Same.mono kk4 (Sn.lt (fun i hi => by have := hi.2; omega) hk14.size))
            have bg7 : ∀ i, Sn (New wr w2.heap.size) u3 u4 i → Bg (u1.heap.size) (u0.heap.size) u4 i := fun i hi => hi.elim (fun h => by have h1 := h.1; have h2 := h.2; exact ⟨by omega, by omega, by omega⟩) (fun h => by have h1 := h.1; have h2 := h.2; exact ⟨by omega, by omega, by omega⟩)
            refine wpL_one (i := 10) (by kernel_rfl) (StepL.mk rfl (fun K hK => ?_))
            refine step_store_blk rfl _ _ _ rfl (u1.heap.size) 0 27 _ [.slice E1 en1 ec1, .slice E2 en2 ec2, .slice E3 en3 ec3, .slice E4 en4 ec4] rfl rfl b9 (by simp) (by kernel_rfl) rfl ?_
            intro v5 hv5 hs5
            rw [splice_all [.slice E1 en1 ec1, .slice E2 en2 ec2, .slice E3 en3 ec3, .slice E4 en4 ec4] #[.slice none 0 0, .slice none 0 0, .slice none 0 0, .slice none 0 0] rfl] at hv5
            have ka5 : Keep wr v5 := Keep.write hA hs5 (by omega)
            have ku := hA
            refine hK.out _ _ (SAB.both ka5 trivial) (fun hSS => ?_)
            clear hK K hA hB
            have hB := hSS.2
            have hA := hSS.1 (by kernel_rfl)
            (try dsimp only at hB); (try dsimp only at hA); clear hSS
            try simp only [Act.put, List.setIfInBounds_toArray, List.set_cons_zero, List.set_cons_succ]
            refine wpL_one (i := 11) (by kernel_rfl) (StepL.mk rfl (fun K hK => ?_))
            refine step_store_blk rfl _ _ _ rfl (u0.heap.size) 0 27 _ [.slice F1 fn1 fc1, .slice F2 fn2 fc2, .slice F3 fn3 fc3, .slice F4 fn4 fc4] rfl rfl (hs5.blk b10 (by omega)) (by simp) (by kernel_rfl) rfl ?_
            intro v6 hv6 hs6
            rw [splice_all [.slice F1 fn1 fc1, .slice F2 fn2 fc2, .slice F3 fn3 fc3, .slice F4 fn4 fc4] #[.slice none 0 0, .slice none 0 0, .slice none 0 0, .slice none 0 0] rfl] at hv6
            have hfin : TwoV wr (replayS cd me 3 l) (replayS cd me 3 m) (.pointer (some ⟨u1.heap.size, 0, none⟩)) (.pointer (some ⟨u0.heap.size, 0, none⟩)) v6 := ⟨_, _, rfl, rfl, by omega, by omega, by omega, two_put2 (by omega) (by omega) (by omega) (by omega) (by omega) bg3 bg7 rr3 rr7 ku hv5 hs5 hv6 hs6⟩
            refine hK.out _ _ (SAB.past (by kernel_rfl) trivial) (fun hSS => ?_)
            clear hK K hA hB
            have hB := hSS.2
            have hA : True := trivial
            (try dsimp only at hB); (try dsimp only at hA); clear hSS
            try simp only [Act.put, List.setIfInBounds_toArray, List.set_cons_zero, List.set_cons_succ]
            refine wpL_done (by kernel_rfl) ?_
            have HFIN := Lib.hid hfin
            clear hfin
            clear hv5 hs5 hv6 hs6 ku ka5 rr3 rr7 bg3 bg7 b9 b10 kk1 kk2 kk3 kk4 hb8 hb9 hr3 hr7 hA hB hk11 hk12 hk13 hk14
            go_wp2_with fail
            go_meet
            exact HFIN.out
      case rest =>
        obtain ⟨g, h, rfl, rfl, hgh, hgW, hhW, cs, ct, bg, bh, rs', rt', sm⟩ := hcut
        obtain ⟨E1, E2, E3, E4, en1, ec1, en2, ec2, en3, ec3, en4, ec4, rfl, rs⟩ := st_open rs'
        obtain ⟨F1, F2, F3, F4, fn1, fc1, fn2, fc2, fn3, fc3, fn4, fc4, rfl, rt⟩ := st_open rt'
        clear rs' rt'
        obtain ⟨x1, x2, x3, x4⟩ := st_sl rs
        obtain ⟨y1, y2, y3, y4⟩ := st_sl rt
        have hfa := fine_replay cd me l HCI.out (by have := HLN.out; omega)
        have hfb := fine_replay cd me m HCI.out (by have := HML.out; have := HLN.out; omega)
        have hea := replayS_events cd me 3 l
        have heb := replayS_events cd me 3 m
        have hlk := HLIKE.out
        generalize hsa : replayS cd me 3 l = a at x1 x2 x3 x4 hfa hea hlk
        generalize hsb : replayS cd me 3 m = b at y1 y2 y3 y4 hfb heb hlk
        clear rs rt hsa hsb
        have hzc := sm.size
        have hlg := bg.lt
        have hlh := bh.lt
        have c1 : wc.cell? ⟨g, 1, none⟩ = some (.slice E2 en2 ec2) := by rw [bg.cell]; rfl
        have hen2 : en2 ≤ 8 := by have := x2.1; rw [hea] at this; have := HLN.out; omega
        have hfn2 : fn2 ≤ 8 := by have := y2.1; rw [heb] at this; have := HML.out; have := HLN.out; omega
        have key1 := sameEvents_is wc (Bg g h wc) (New wr w2.heap.size) E2 A5 en2 k ec2 c5 a.events l x2 (HEVR.out.keep (sm.mono (fun i hi => hi.2))) (by omega) (by omega)
        have key2 := fun (wx : World) (hx : Keep wc wx) => sameEvents_is wx (Bg g h wc) (New wr w2.heap.size) F2 A6 fn2 k fc2 c6 b.events m (y2.keep (Same.mono hx (fun i hi => hi.1))) ((HEVM.out.keep (sm.mono (fun i hi => hi.2))).keep (Same.mono hx (fun i hi => by have := hi.2; omega))) (by omega) (by omega)
        have hkc := Keep.trans HKW.out sm
        have KEY1 := Lib.hid key1
        have KEY2 := Lib.hid key2
        have BG := Lib.hid bg
        have BH := Lib.hid bh
        have X1 := Lib.hid x1
        have X3 := Lib.hid x3
        have X4 := Lib.hid x4
        have Y1 := Lib.hid y1
        have Y3 := Lib.hid y3
        have Y4 := Lib.hid y4
        have HFA := Lib.hid hfa
        have HFB := Lib.hid hfb
        have HEA := Lib.hid hea
        have HEB := Lib.hid heb
        have HLK := Lib.hid hlk
        have HKC := Lib.hid hkc
        clear key1 key2 bg bh x1 x3 x4 y1 y3 y4 hfa hfb hea heb hlk hkc
        clear sm x2 y2
        go_wp2_with fail
        refine KEY1.out.mono ?_
        rintro e w7 ⟨b7, hb7, rfl, k7, hw7⟩
        obtain rfl : b7 = true := hb7.2 HEA.out
        have hk7 : Keep wc w7 := hw7 ▸ Keep.draws wc k7
        clear hw7 hb7 c1 KEY1
        have bh7 := hk7.blk BH.out hlh
        have c1 : w7.cell? ⟨h, 1, none⟩ = some (.slice F2 fn2 fc2) := by rw [bh7.cell]; rfl
        have key2 := KEY2.out w7 hk7
        have KEY2 := Lib.hid key2
        have HK7 := Lib.hid hk7
        clear key2 hk7
        clear bh7
        go_wp2_with fail
        refine KEY2.out.mono ?_
        rintro e w8 ⟨b8, hb8, rfl, k8, hw8⟩
        obtain rfl : b8 = true := hb8.2 HEB.out
        have hk8 : Keep wc w8 := Keep.trans HK7.out (hw8 ▸ Keep.draws w7 k8)
        clear hw8 hb8 c1 KEY2
        have bg8 := hk8.blk BG.out hlg
        have bh8 := hk8.blk BH.out hlh
        have hz8 := hk8.size
        have BG8 := Lib.hid bg8
        have BH8 := Lib.hid bh8
        have HK8 := Lib.hid hk8
        clear bg8 bh8 hk8
        go_upto_region 17 with (first
          | (refine wpList_store_one rfl _ (.tmp 73) (.const (.slice none 0 0)) rfl g 1 27 _ (.slice none 0 0) rfl rfl BG8.out (by simp) (by kernel_rfl) rfl rfl ?_; intro w9 hb9 hs9)
          | (refine wpList_store_one rfl _ (.tmp 74) (.const (.slice none 0 0)) rfl h 1 27 _ (.slice none 0 0) rfl rfl (hs9.blk BH8.out (fun q => hgh q.symm)) (by simp) (by kernel_rfl) rfl rfl ?_; intro wa hba hsa))
        have bga : Blk wa g 27 #[.slice E1 en1 ec1, .slice none 0 0, .slice E3 en3 ec3, .slice E4 en4 ec4] := by simpa using hsa.blk hb9 hgh
        have bha : Blk wa h 27 #[.slice F1 fn1 fc1, .slice none 0 0, .slice F3 fn3 fc3, .slice F4 fn4 fc4] := by simpa using hba
        have sb : Same (Bg g h wc) wc wa := Same.trans (Same.mono HK8.out (fun i (hi : Bg g h wc i) => hi.1)) (Same.trans (hs9.mono (fun i (hi : Bg g h wc i) => hi.2.1)) hsa (fun i hi => hi.2.2)) (fun i hi => hi)
        have hza : w8.heap.size ≤ wa.heap.size := Nat.le_trans hs9.size hsa.size
        have hka : Keep w wa := Same.trans (Keep.trans HKC.out HK8.out) (Same.trans (hs9.mono (fun i (hi : i < w.heap.size) => by show i ≠ g; omega)) hsa (fun i hi => by show i ≠ h; omega)) (fun i hi => hi)
        have ra : StR wa (Bg g h wc) [.slice E1 en1 ec1, .slice none 0 0, .slice E3 en3 ec3, .slice E4 en4 ec4] ⟨a.cells, [], a.sent, a.outs⟩ := st_mk (X1.out.keep sb) Sl.nil_ (X3.out.keep sb) (X4.out.keep sb)
        have rb : StR wa (Bg g h wc) [.slice F1 fn1 fc1, .slice none 0 0, .slice F3 fn3 fc3, .slice F4 fn4 fc4] ⟨b.cells, [], b.sent, b.outs⟩ := st_mk (Y1.out.keep sb) Sl.nil_ (Y3.out.keep sb) (Y4.out.keep sb)
        have heq : (⟨a.cells, [], a.sent, a.outs⟩ : St) = ⟨b.cells, [], b.sent, b.outs⟩ := by obtain ⟨h1, h2, h3, _⟩ := HLK.out; rw [h1, h2, h3]
        have fa : Fine ⟨a.cells, [], a.sent, a.outs⟩ := ⟨HFA.out.1, by simp, HFA.out.2.2.1, HFA.out.2.2.2⟩
        have fb : Fine ⟨b.cells, [], b.sent, b.outs⟩ := ⟨HFB.out.1, by simp, HFB.out.2.2.1, HFB.out.2.2.2⟩
        have key1 := psame_any wa (Bg g h wc) _ _ _ _ (fun i hi => by have := hi.1; omega) ra rb fa fb
        have key2 := fun (wx : World) (hx : Keep wa wx) => rsame_any wx (Bg g h wc) _ _ _ _ (fun i hi => by have := hi.1; have := hx.size; omega) (ra.keep (Same.mono hx (fun i hi => by have := hi.1; omega))) (rb.keep (Same.mono hx (fun i hi => by have := hi.1; omega))) fa fb
        have KEY1 := Lib.hid key1
        have KEY2 := Lib.hid key2
        have BGA := Lib.hid bga
        have BHA := Lib.hid bha
        have HKA := Lib.hid hka
        have HEQ := Lib.hid heq
        clear key1 key2 bga bha hka heq
        clear sb ra rb fa fb hb9 hs9 hba hsa
        go_wp2_with (first
          | (refine wpList_load_all rfl _ (.tmp 15) rfl g 27 [.slice E1 en1 ec1, .slice none 0 0, .slice E3 en3 ec3, .slice E4 en4 ec4] _ rfl BGA.out Tryd.underlying27 rfl (by kernel_rfl) ?_)
          | (refine wpList_load_all rfl _ (.tmp 16) rfl h 27 [.slice F1 fn1 fc1, .slice none 0 0, .slice F3 fn3 fc3, .slice F4 fn4 fc4] _ rfl BHA.out Tryd.underlying27 rfl (by kernel_rfl) ?_))
        refine KEY1.out.mono ?_
        rintro e wb ⟨bb, hbb, rfl, hkb⟩
        obtain rfl : bb = true := hbb.2 HEQ.out
        have bgb := hkb.blk BGA.out BGA.out.lt
        have bhb := hkb.blk BHA.out BHA.out.lt
        have key2 := KEY2.out wb hkb
        have hkb' := Keep.trans HKA.out hkb
        have KEY2 := Lib.hid key2
        have BGB := Lib.hid bgb
        have BHB := Lib.hid bhb
        have HKB' := Lib.hid hkb'
        clear key2 bgb bhb hkb'
        clear hbb hkb KEY1 BGA BHA
        go_wp2_with (first
          | (refine wpList_load_allg (by rfl) _ (.tmp 15) rfl g 27 [.slice E1 en1 ec1, .slice none 0 0, .slice E3 en3 ec3, .slice E4 en4 ec4] _ rfl BGB.out Tryd.underlying27 rfl (by kernel_rfl) ?_)
          | (refine wpList_load_allg (by rfl) _ (.tmp 16) rfl h 27 [.slice F1 fn1 fc1, .slice none 0 0, .slice F3 fn3 fc3, .slice F4 fn4 fc4] _ rfl BHB.out Tryd.underlying27 rfl (by kernel_rfl) ?_))
        refine KEY2.out.mono ?_
        rintro e wd ⟨bd, hbd, rfl, hkd⟩
        obtain rfl : bd = true := hbd.2 HEQ.out
        have hfin : AwPost w (.returned (.bool true)) wd := ⟨rfl, Keep.trans HKB'.out hkd⟩
        have HFIN := Lib.hid hfin
        clear hfin
        clear hbd hkd KEY2
        go_wp2_with fail
        go_ret
        exact HFIN.out
end Go.Proofs.YtecckbkobkfnmaaDoor
