/- make.Codes.Pattern. -/
import Derived.Test.YtcfpkmfppgodmaaPatT
set_option linter.unusedVariables false
set_option linter.unusedSimpArgs false
set_option maxRecDepth 100000
namespace Go.Proofs.Ytcfpkmfppgodmaa
open Go.RowKit Go.Proofs

set_option maxHeartbeats 32000000 in
theorem pattern_any (w : World) (B : Nat → Prop) (gc r most : Nat) (hcod : Cod w B gc r) (hmost : most ≤ 60) : Calls Try.prog 22 #[.pointer (some ⟨gc, 0, none⟩), .int .i64 most] w (PatnPost B gc most w) := by
  obtain ⟨iI, hi0, iz0, is0, ib0⟩ := info_of info_Int
  obtain ⟨iL, hj0, jz0, js0, jb0⟩ := info_of info_Ints
  obtain ⟨iA, hk0, kz0, ks0, kb0⟩ := info_of info_Arc
  have hmk := fun (n : Nat) (hn : n ≤ 1000) W => run_make_row (P := Try.prog) 23 3 iI _ Try.underlying23 hi0 iz0 .i64 .i64 n n (Nat.le_refl _) (by rw [ib0]; omega) (by omega) W
  simp only [is0, made_zeros] at hmk
  have hBw := hcod.2.1
  have hgw := hcod.lt
  generalize hW : w.alloc (.cells #[.slice none 0 0, .slice none 0 0, .slice none 0 0] 32) = W
  have hkW : Keep w W := hW ▸ Keep.new w _
  have hbr : Blk W w.heap.size 32 #[.slice none 0 0, .slice none 0 0, .slice none 0 0] := hW ▸ Blk.new w _ _
  have hz := hbr.lt
  have hcW := hcod.keep hkW
  have HKW := Lib.hid hkW
  have HBR := Lib.hid hbr
  have HCW := Lib.hid hcW
  have HBW := Lib.hid hBw
  have HMK := Lib.hid hmk
  have HI0 := Lib.hid hi0
  have IZ0 := Lib.hid iz0
  have IS0 := Lib.hid is0
  have IB0 := Lib.hid ib0
  have HJ0 := Lib.hid hj0
  have JZ0 := Lib.hid jz0
  have JS0 := Lib.hid js0
  have JB0 := Lib.hid jb0
  have HK0 := Lib.hid hk0
  have KZ0 := Lib.hid kz0
  have KS0 := Lib.hid ks0
  have KB0 := Lib.hid kb0
  clear hkW hbr hcW hBw hmk hi0 iz0 is0 ib0 hj0 jz0 js0 jb0 hk0 kz0 ks0 kb0
  clear hcod
  go_enter Try.func22, Try.ntmps22
  go_upto_region 1 with fail
  clear hW
  go_wp2_with fail
  refine (next_any W B gc r 3 HCW.out (by omega) (by omega)).mono ?_
  rintro e w1 ⟨v1, hv10, hv11, rfl, hc1, ho1⟩
  have hz1 := ho1.size
  obtain ⟨n, hn⟩ : ∃ n : Nat, (2 : Int) + v1 = n := ⟨(2 + v1).toNat, by omega⟩
  have hn2 : 2 ≤ n := by omega
  have hn4 : n ≤ 4 := by omega
  have hbr1 := ho1.blk HBR.out ⟨hz, by omega⟩
  have how1 : Only gc w w1 := Only.trans (HKW.out.only gc) ho1
  have hmk1 := HMK.out n (by omega)
  have HC1 := Lib.hid hc1
  have HBR1 := Lib.hid hbr1
  have HOW1 := Lib.hid how1
  clear hc1 hbr1 how1
  clear ho1
  go_upto_region 3 with (first
    | (refine wpList_bld rfl 32 _ rfl _ [(0, .slice (some ⟨w1.heap.size, 0, none⟩) n n)] rfl (bld_pat1 _ _ _) ?_)
    | (refine wpList_store_all rfl _ (.tmp 6) (.tmp 18) rfl (w1.heap.size + 1) 32 _ [.slice (some ⟨w1.heap.size, 0, none⟩) n n, .slice none 0 0, .slice none 0 0] rfl rfl (by simpa using Blk.new (w1.alloc _) _ _) rfl (by kernel_rfl) rfl ?_; intro w3 hb3 hs3))
  obtain ⟨gl, hgl⟩ : ∃ gl, gl = w1.heap.size := ⟨_, rfl⟩
  generalize hW3 : (w1.alloc (.cells (zerosA n) 3)).alloc (.cells #[.slice (some ⟨w1.heap.size, 0, none⟩) n n, .slice none 0 0, .slice none 0 0] 32) = w3
  have hk3 : Keep w1 w3 := hW3 ▸ Keep.alloc (Keep.new w1 _) _
  have hbl3 : Blk w3 gl 3 (zerosA n) := hgl ▸ hW3 ▸ (Blk.new w1 _ _).alloc _
  have hb63 : Blk w3 (w1.heap.size + 1) 32 #[.slice (some ⟨w1.heap.size, 0, none⟩) n n, .slice none 0 0, .slice none 0 0] := hW3 ▸ (by simpa using Blk.new (w1.alloc _) _ _)
  have hbr3 := hk3.blk HBR1.out (by omega)
  have hc3 := HC1.out.keep hk3
  have how3 := Only.keep HOW1.out hk3
  obtain ⟨g6, hg6⟩ : ∃ g6, g6 = w1.heap.size + 1 := ⟨_, rfl⟩
  rw [← hg6, ← hgl] at hb63
  rw [← hg6, ← hgl]
  have hl6 := hb63.lt
  have hrel0 : Pn1 B gc g6 gl w3.heap.size n w (.int .i64 0) w3 := ⟨.slice none 0 0, 0, rfl, Nat.zero_le _, hb63, Grow.nil_, hbl3, hbr3, ⟨_, hc3⟩, how3, Nat.le_refl _⟩
  obtain ⟨base, hbase⟩ : ∃ base, base = w3.heap.size := ⟨_, rfl⟩
  rw [← hbase] at hrel0 hl6
  have hgl6 : gl < g6 := by omega
  have hwgl : w.heap.size < gl := by omega
  have HREL0 := Lib.hid hrel0
  clear hrel0
  clear hW3 hk3 hbl3 hb63 hbr3 hc3 how3 HC1 HBR1 HOW1 hgl hg6 hbase hmk1 hn hv10 hv11
  go_wp2_with fail
  go_loopw [7] (fun i wr => Pn1 B gc g6 gl base n w i wr) (fun i _ => n - (intOf i).toNat)
  case atStart => exact HREL0.out
  case round =>
    clear HREL0
    obtain ⟨v, k, rfl, hkn', hb6, hgr, hbl, hbrr, hcr, how, hbs⟩ := hrel
    have hzr := how.size
    by_cases hkn : k < n
    · have t0 : decide (k < n) = true := by simpa using hkn
      have t0' : decide ((k : Int) < (n : Int)) = true := by simp; omega
      have c7 : wr.cell? ⟨g6, 1, none⟩ = some v := by rw [hb6.cell]; rfl
      have hV : ∀ b, v.ownBlock = some b → base ≤ b ∧ b < wr.heap.size := by obtain ⟨css, h1, h2, h3, h4⟩ := hgr; exact h3.lt
      have HB6 := Lib.hid hb6
      have HGR := Lib.hid hgr
      have HBL := Lib.hid hbl
      have HBRR := Lib.hid hbrr
      have HCR := Lib.hid hcr
      have HOW := Lib.hid how
      have HV := Lib.hid hV
      clear hb6 hgr hbl hbrr hcr how hV
      go_wp2_with (refine wpList_buildX rfl 23 3 1 _ rfl Try.underlying23 _ [(0, .int .i64 0)] rfl (builtS_int _) ?_; intro w4 hb4 hk4 hz4; refine Hid.out ?_)
      refine Lib.hid ?_
      refine wpList_buildX rfl 29 23 1 _ rfl Try.underlying29 _ [(0, .slice (some ⟨wr.heap.size, 0, none⟩) 1 1)] rfl (builtS_sl _ _ _) ?_
      intro w5 hb5 hk5 hz5
      have hk45 := Keep.trans hk4 hk5
      have hb45 := hk5.blk hb4 hz4
      obtain ⟨css, q1, q2, q3, q4⟩ := HGR.out.same IntsV.good hk45 (fun i h1 h2 => h2)
      have hlen : (List.replicate k ([0] : List Int)).length = k := by simp
      rw [hlen] at q3
      have q3' := q3
      have hrd : Reads w5 (fun i => i = w4.heap.size) 1 (some ⟨w4.heap.size, 0, none⟩) 1 [.slice (some ⟨wr.heap.size, 0, none⟩) 1 1] := ⟨rfl, fun _ => ⟨_, 0, rfl, rfl, fun i u hu => by rw [hb5.cell]; simpa using hu⟩⟩
      have hin : IntsV w5 (Rest w5 base v) [.slice (some ⟨wr.heap.size, 0, none⟩) 1 1] [0] := ⟨_, 1, 1, rfl, rfl, Nat.le_refl _, by simp [maxLen], rfl, fun _ => ⟨_, 0, rfl, ⟨by omega, by omega, fun e => by have := (HV.out _ e).2; omega⟩, fun j u hu => by rw [hb45.cell]; simpa [encI] using hu⟩⟩
      have Q3' := Lib.hid q3'
      have HRD := Lib.hid hrd
      have HIN := Lib.hid hin
      have HK45 := Lib.hid hk45
      clear q3' hrd hin hk45
      go_wp2_with (at_builtin; refine wpList_append_any _ rfl (.tmp 25) (.tmp 27) 29 rfl base 23 iL _ 1 24 Try.underlying29 HJ0.out JZ0.out JS0.out JB0.out rfl (by omega) v k css.flatten rfl Q3'.out _ (some ⟨w4.heap.size, 0, none⟩) 1 1 [.slice (some ⟨wr.heap.size, 0, none⟩) 1 1] rfl HRD.out (by intro u hu; simp at hu; subst hu; rfl) (by simp [maxLen]; omega) (by omega) (by omega) ?_; intro vb wb hownb hgb hatb; refine Hid.out ?_)
      refine Lib.hid ?_
      have hA3 : Same (fun i => i < wr.heap.size ∧ v.ownBlock ≠ some i) wr wb := Same.grown (HK45.out.mono (fun i hi => hi.1)) hgb (fun i hi => by have := hi.1; omega) (fun k hk hh => hh.2 hk)
      have hvl : ∀ b, b < base → v.ownBlock ≠ some b := fun b hb e => by have := (HV.out _ e).1; omega
      have hl6r := HB6.out.lt
      have hb6b := hA3.blk HB6.out ⟨by omega, hvl _ (by omega)⟩
      have hblb := hA3.blk HBL.out ⟨by omega, hvl _ (by omega)⟩
      have hbrb := hA3.blk HBRR.out ⟨by omega, hvl _ (by omega)⟩
      have hpush := Grow.push IntsV.good (a := [0]) q1 q2 q4 (Same.refl _ _) (by rw [hlen]; exact hownb) hgb hatb rfl HIN.out
      have hrs : List.replicate k ([0] : List Int) ++ [[0]] = List.replicate (k + 1) [0] := by rw [List.replicate_succ']
      rw [hrs] at hpush
      obtain ⟨Ab, cb, hvb, hnb, hcb⟩ := own_form hownb
      subst hvb
      have hzb := hA3.size
      have hcb5 : ∃ r', Cod wb B gc r' := by
        obtain ⟨r', h⟩ := HCR.out
        exact ⟨r', h.same (hA3.mono (fun i hi => ⟨by have := HBW.out i hi; omega, hvl _ (by have := HBW.out i hi; omega)⟩))⟩
      have how5 : Only gc w wb := Same.trans HOW.out hA3 (fun i hi => ⟨by have := hi.1; omega, hvl _ (by have := hi.1; omega)⟩)
      have HB6B := Lib.hid hb6b
      have HPUSH := Lib.hid hpush
      have HBLB := Lib.hid hblb
      have HBRB := Lib.hid hbrb
      have HCB5 := Lib.hid hcb5
      have HOW5 := Lib.hid how5
      clear hb6b hpush hblb hbrb hcb5 how5
      clear q1 q2 q3 q4 hownb hgb hatb hA3 hlen hrs c7
      go_wp2_with (refine wpList_store_one rfl _ (.tmp 29) (.tmp 28) rfl g6 1 32 _ (.slice Ab (k + 1) cb) rfl rfl HB6B.out (by simp) (by kernel_rfl) rfl rfl ?_; intro wc hbc hsc)
      have hzc := hsc.size
      have hfin : Pn1 B gc g6 gl base n w (.int .i64 ((k : Int) + 1)) wc := ⟨.slice Ab (k + 1) cb, k + 1, by go_num, by omega, by simpa using hbc, HPUSH.out.same IntsV.good hsc (fun i h1 h2 => by show i ≠ g6; omega), hsc.blk HBLB.out (by omega), hsc.blk HBRB.out (by omega), by
        obtain ⟨r', h⟩ := HCB5.out
        exact ⟨r', h.write hsc (fun hh => by have := HBW.out _ hh; omega)⟩, Only.write HOW5.out hsc (by omega), by omega⟩
      have HFIN := Lib.hid hfin
      clear hfin
      clear hbc hsc
      go_wp2_with fail
      go_roundw
      case rel => exact HFIN.out
      case measure => simp [intOf]; omega
    · have t0 : decide (k < n) = false := by simpa using hkn
      have t0' : decide ((k : Int) < (n : Int)) = false := by simp; omega
      obtain rfl : k = n := by omega
      obtain ⟨A2, c2, hv, hsl⟩ := hgr.done IntsV.good
      subst hv
      have hlen : (List.replicate k ([0] : List Int)).length = k := by simp
      rw [hlen] at hsl
      have hb6' : Blk wr g6 32 #[.slice (some ⟨gl, 0, none⟩) k k, .slice A2 k c2, .slice none 0 0] := by rw [hlen] at hb6; exact hb6
      have hll := hbl.lt
      have hl6 := hb6.lt
      have hck : CkR wr (Ns wr (w.heap.size + 1) g6 (.slice none 0 0)) A2 k c2 1 := ⟨_, hsl.more (fun i hi => ⟨by have := hi.1; omega, hi.2, (nofun), by have := hi.1; omega⟩) (IntsR.more (fun i hi => ⟨by have := hi.1; omega, hi.2, (nofun), by have := hi.1; omega⟩)), fun x hx => by rw [List.eq_of_mem_replicate hx]; simp⟩
      have hlr : Sl encI 1 wr (Ns wr (w.heap.size + 1) g6 (.slice none 0 0)) (some ⟨gl, 0, none⟩) k k (intsN (List.replicate k 0)) := by
        rw [intsN_zeros]
        refine ⟨by simp [zerosL], Nat.le_refl _, by simp [maxLen]; omega, by rw [zeros_flat]; simp, fun _ => ⟨gl, 0, rfl, ⟨by omega, hll, (nofun), by omega⟩, fun j u hu => ?_⟩⟩
        rw [hbl.cell, Nat.zero_add]
        rw [zeros_flat] at hu
        rw [zerosA, List.getElem?_toArray]
        exact hu
      have hpt : PtM wr (w.heap.size + 1) g6 k (some ⟨gl, 0, none⟩) A2 none k c2 0 0 (List.replicate k 0) [] 1 := ⟨hb6', hlr, hck, World.ownsRow_nil _ _ _ _, (nofun), PatR.init k, rfl, by omega⟩
      have hrel2 : Pn2 B gc g6 k most w (.int .i64 0) wr := ⟨0, _, A2, none, k, c2, 0, 0, _, [], rfl, Nat.zero_le _, hpt, by simp, fun q => by simp only [List.getD, List.getElem?_replicate]; split <;> simp, Nat.le_refl _, hbrr, hcr, how⟩
      have HREL2 := Lib.hid hrel2
      clear hrel2
      clear hb6 hb6' hgr hbl hbrr hcr how hck hlr hpt hsl hlen
      go_wp2_with fail
      go_loopw [8] (fun i wr => Pn2 B gc g6 k most w i wr) (fun i _ => most - (intOf i).toNat)
      case atStart => exact HREL2.out
      case round =>
        clear HREL2
        obtain ⟨i, A1, A2, A3, c1, c2, m, c3, ls, arcs, rfl, him, hpt, hls, hle, hmi, hbrr, ⟨r2, hcr⟩, how⟩ := hrel
        have hzr := how.size
        have hgw6 := hpt.low
        by_cases hi2 : i < most
        · have t0 : decide (i < most) = true := by simpa using hi2
          have t0' : decide ((i : Int) < (most : Int)) = true := by simp; omega
          have HPT := Lib.hid hpt
          have HBRR := Lib.hid hbrr
          have HCR := Lib.hid hcr
          have HOW := Lib.hid how
          have HLS := Lib.hid hls
          have HLE := Lib.hid hle
          clear hpt hbrr hcr how hls hle
          go_wp2_with fail
          refine (left_any wr B gc r2 HCR.out).mono ?_
          rintro e w4 ⟨rfl, j4, hj4⟩
          have hk4 : Keep wr w4 := hj4 ▸ Keep.draws wr j4
          clear hj4
          have hz4 := hk4.size
          by_cases hr2 : 0 < r2
          · have t1 : decide (0 < r2) = true := by simpa using hr2
            have hc4 := HCR.out.keep hk4
            have ho4 := Only.keep HOW.out hk4
            have hpt4 := HPT.out.keep hk4
            have hbr4 := hk4.blk HBRR.out HBRR.out.lt
            have HC4 := Lib.hid hc4
            have HO4 := Lib.hid ho4
            have HPT4 := Lib.hid hpt4
            have HBR4 := Lib.hid hbr4
            clear hc4 ho4 hpt4 hbr4
            clear hk4 HCR HOW HPT HBRR
            go_wp2_with fail
            refine (next_any w4 B gc r2 (k : Int) HC4.out (by omega) (by omega)).mono ?_
            rintro e w5 ⟨q', hq0, hq1, rfl, hc5, ho5⟩
            obtain ⟨q, hq⟩ : ∃ q : Nat, q' = q := ⟨q'.toNat, by omega⟩
            subst hq
            have hqk : q < k := by omega
            have hz5 := ho5.size
            have hpt5 := HPT4.out.same (ho5.mono (fun i hi => ⟨hi.2, by have := hi.1; omega⟩))
            have hbr5 := ho5.blk HBR4.out ⟨HBR4.out.lt, by omega⟩
            have ho5' : Only gc w w5 := Only.trans HO4.out ho5
            have HC5 := Lib.hid hc5
            have HO5' := Lib.hid ho5'
            have HPT5 := Lib.hid hpt5
            have HBR5 := Lib.hid hbr5
            clear hc5 ho5' hpt5 hbr5
            clear ho5 HC4 HO4 HPT4 HBR4
            go_wp2_with fail
            refine (next_any w5 B gc _ 8 HC5.out (by omega) (by omega)).mono ?_
            rintro e w6 ⟨kk, hk0', hk1', rfl, hc6, ho6'⟩
            have hz6 := ho6'.size
            have hpt6 := HPT5.out.same (ho6'.mono (fun i hi => ⟨hi.2, by have := hi.1; omega⟩))
            have hbr6 := ho6'.blk HBR5.out ⟨HBR5.out.lt, by omega⟩
            have ho6 : Only gc w w6 := Only.trans HO5'.out ho6'
            have hql : q < ls.length := by have := HLS.out; omega
            have HC6 := Lib.hid hc6
            have HO6 := Lib.hid ho6
            have HPT6 := Lib.hid hpt6
            have HBR6 := Lib.hid hbr6
            clear hc6 ho6 hpt6 hbr6
            clear ho6' HC5 HO5' HPT5 HBR5
            by_cases e1 : kk < 2
            · have s1 : decide (kk < 2) = true := by simpa using e1
              go_wp2_with (refine wpList_load_all rfl _ (.tmp 6) rfl g6 32 [.slice A1 k c1, .slice A2 k c2, .slice A3 m c3] _ rfl HPT6.out.blk Try.underlying32 rfl (by kernel_rfl) ?_)
              refine (mark_any w6 (Ns w6 (w.heap.size + 1) g6 (.slice A3 m c3)) A1 A2 A3 k c1 c2 m c3 q (i + 1) ls (fun i hi => hi.2.1) HPT6.out.len HPT6.out.ck (by omega) (by omega) hqk).mono ?_
              rintro e u1 ⟨A2', c2', rfl, hC, hku⟩
              have hzu := hku.size
              have hb6u := hku.blk HPT6.out.blk HPT6.out.blk.lt
              have hbru := hku.blk HBR6.out HBR6.out.lt
              have hcu := HC6.out.keep hku
              have hou := Only.keep HO6.out hku
              have HC := Lib.hid hC
              have HKU := Lib.hid hku
              have HB6U := Lib.hid hb6u
              have HBRU := Lib.hid hbru
              have HCU := Lib.hid hcu
              have HOU := Lib.hid hou
              clear hC hku hb6u hbru hcu hou
              go_upto_region 9 with (refine wpList_store_all rfl _ (.tmp 6) (.tmp 77) rfl g6 32 _ [.slice A1 k c1, .slice A2' k c2', .slice A3 m c3] rfl rfl HB6U.out rfl (by kernel_rfl) rfl ?_; intro wz hbz6 hsz)
              have hptz := HPT6.out.mark HKU.out HC.out hbz6 hsz
              have hbz := hsz.blk HBRU.out (by have := HPT6.out.low; omega)
              have hcz := HCU.out.write hsz (fun hh => by have := HBW.out _ hh; have := HPT6.out.low; omega)
              have howz := Only.write HOU.out hsz (by have := HPT6.out.low; omega)
              have hfin : Pn2 B gc g6 k most w (.int .i64 ((i : Int) + 1)) wz := ⟨i + 1, A1, A2', A3, c1, c2', m, c3, ls, arcs, by go_num, by omega, hptz, HLS.out, fun p => Nat.le_trans (HLE.out p) (by omega), by omega, hbz, ⟨_, hcz⟩, howz⟩
              have HFIN := Lib.hid hfin
              clear hfin
              go_wp2_with fail
              go_roundw
              case rel => exact HFIN.out
              case measure => simp [intOf]; omega
            have s1 : decide (kk < 2) = false := by simpa using e1
            by_cases e2 : kk = 2
            · subst e2
              go_wp2_with (refine wpList_load_all rfl _ (.tmp 6) rfl g6 32 [.slice A1 k c1, .slice A2 k c2, .slice A3 m c3] _ rfl HPT6.out.blk Try.underlying32 rfl (by kernel_rfl) ?_)
              have hm6 := HPT6.out.hm
              have hrow6 := own_arcs HPT6.out.row
              refine (with_any w6 A1 A2 A3 k c1 k c2 m c3 q (-1) 0 (upN ls q) arcs (fun u hu => ?_)).mono ?_
              · have hzu := hu.size
                have h := append_tick u (fun i => i < u.heap.size) A1 A2 A3 k c1 k c2 c3 q ls arcs (fun i hi => hi) ((HPT6.out.len.keep (hu.mono (fun i hi => hi.2.1))).more (fun i hi => by have := hi.2.1; omega)) (by rw [hm6]; exact (hrow6.keep (hu.mono (fun i hi => hi.2))).more (fun i hi => by have := hi.2; omega)) (by omega) hqk (by have := HLE.out q; omega) (by omega)
                rw [hm6] at h
                exact h
              rintro e u1 ⟨V, rfl, A1', A3', c1', c3', rfl, hr1, hr3, hdj, hku⟩
              have hptw := fun wz hb hs => HPT6.out.event (wz := wz) hku hr1 hr3 hdj (HPT6.out.pat.tick' hql) hb hs
              rw [hm6] at hptw ⊢
              have hzu := hku.size
              have hb6u := hku.blk HPT6.out.blk HPT6.out.blk.lt
              have hbru := hku.blk HBR6.out HBR6.out.lt
              have hcu := HC6.out.keep hku
              have hou := Only.keep HO6.out hku
              have HPTW := Lib.hid hptw
              have HKU := Lib.hid hku
              have HB6U := Lib.hid hb6u
              have HBRU := Lib.hid hbru
              have HCU := Lib.hid hcu
              have HOU := Lib.hid hou
              have HM6 := Lib.hid hm6
              clear hptw hku hb6u hbru hcu hou hm6
              clear hr1 hr3 hdj hrow6
              go_upto_region 9 with (refine wpList_store_all rfl _ (.tmp 6) (.tmp 83) rfl g6 32 _ [.slice A1' k c1', .slice A2 k c2, .slice A3' m c3'] rfl rfl HB6U.out rfl (by kernel_rfl) rfl ?_; intro wz hbz6 hsz)
              have hptz := (HPTW.out wz hbz6 hsz).le (show i + 1 ≤ i + 1 + 1 by omega)
              have hbz := hsz.blk HBRU.out (by have := HPT6.out.low; omega)
              have hcz := HCU.out.write hsz (fun hh => by have := HBW.out _ hh; have := HPT6.out.low; omega)
              have howz := Only.write HOU.out hsz (by have := HPT6.out.low; omega)
              have hfin : Pn2 B gc g6 k most w (.int .i64 ((i : Int) + 1)) wz := ⟨i + 1, A1', A2, A3', c1', c2, m, c3', (upN ls q), arcs, by go_num, by omega, hptz, (by rw [upN_len]; exact HLS.out), upN_le HLE.out hql, by omega, hbz, ⟨_, hcz⟩, howz⟩
              have HFIN := Lib.hid hfin
              clear hfin
              go_wp2_with fail
              go_roundw
              case rel => exact HFIN.out
              case measure => simp [intOf]; omega
            have s2 : (kk == 2) = false := by simpa using e2
            by_cases e3 : kk = 3
            · subst e3
              go_wp2_with fail
              refine (next_any w6 B gc _ ((k : Int) - 1) HC6.out (by omega) (by omega)).mono ?_
              rintro e w7 ⟨v, hv0, hv1, rfl, hc7, ho7'⟩
              obtain ⟨s, hst, hsk, hsq⟩ := tmod_ne hqk hv0 hv1
              have hz7 := ho7'.size
              have hpt7 := HPT6.out.same (ho7'.mono (fun i hi => ⟨hi.2, by have := hi.1; omega⟩))
              have hbr7 := ho7'.blk HBR6.out ⟨HBR6.out.lt, by omega⟩
              have ho7 : Only gc w w7 := Only.trans HO6.out ho7'
              have hsl : s < ls.length := by have := HLS.out; omega
              have HC7 := Lib.hid hc7
              have HO7 := Lib.hid ho7
              have HPT7 := Lib.hid hpt7
              have HBR7 := Lib.hid hbr7
              clear hc7 ho7 hpt7 hbr7
              clear ho7' HC6 HO6 HPT6 HBR6
              go_upto_region 20 with fail
              clear hst
              obtain ⟨bl, ol, lv, hAl, hSl, hlv, hcl⟩ := HPT7.out.len.at_ encI_len hsk
              subst hAl
              obtain ⟨x, hx⟩ : ∃ x, x = ls.getD s 0 := ⟨_, rfl⟩
              have hlv2 : lv = (x : Int) := by rw [intsN_get hsl, ← hx] at hlv; injection hlv with h; exact h.symm
              subst hlv2
              have hx60 : x ≤ 60 := by have := HLE.out s; omega
              have hxs := hx
              have hwr : IntKind.i64.wrap ((x : Int) + 1) = (x : Int) + 1 := IntWalk.i64_in _ (by omega)
              have g6l := HPT7.out.blk.lt
              have i0 : (0 : Int) ≤ s := by omega
              have i1 : (s : Int) < k := by omega
              have hblk7 := HPT7.out.blk
              have hc7l := hcl 0 _ rfl
              have hown6 := HPT7.out.own
              have y0 : ∀ wx, TrX w7 gc (.slice A3 m c3) wx → wx.cell? ⟨g6, 0, none⟩ = some (.slice (some ⟨bl, ol, none⟩) k c1) := fun wx hx => by rw [(Same.blk hx hblk7 ⟨g6l, by omega, hown6⟩).cell]; rfl
              have y2 : ∀ wx, TrX w7 gc (.slice A3 m c3) wx → wx.cell? ⟨g6, 2, none⟩ = some (.slice A3 m c3) := fun wx hx => by rw [(Same.blk hx hblk7 ⟨g6l, by omega, hown6⟩).cell]; rfl
              have y3 : ∀ wx, TrX w7 gc (.slice A3 m c3) wx → wx.cell? ⟨bl, ol + s, none⟩ = some (.int .i64 x) := fun wx hx => (Same.cell hx (p := ⟨bl, ol + s, none⟩) ⟨hSl.2.1, by have := hSl.1; show bl ≠ gc; omega, hSl.2.2.1⟩).trans (by simpa using hc7l)
              have HX := Lib.hid hx
              have HXS := Lib.hid hxs
              have HBLK7 := Lib.hid hblk7
              have HC7L := Lib.hid hc7l
              have HOWN6 := Lib.hid hown6
              clear hx hxs hblk7 hc7l hown6
              clear hcl hlv
              refine wp_region_L 16 (fun wx => TrX w7 gc (.slice A3 m c3) wx) (fun _ => True) (by kernel_rfl) (Same.drew (Same.refl _ _)) trivial (fun hA hB => ?_)
              have hku : Keep w7 w7.drew := Same.drew (Same.refl _ _)
              generalize hu0 : w7.drew = u0 at hA hku ⊢
              clear hu0
              refine wpL_takeA (i := 0) (v := ?_) rfl (by kernel_rfl) (by kernel_rfl) (by kernel_rfl) (by kernel_rfl) (by decide) (fun _ _ _ h => h) (Or.inl ⟨by rfl, ?_⟩) hA hB ?_
              rotate_left
              · rintro wx ⟨hAx, hBx⟩
                (try dsimp only at hBx); (try dsimp only at hAx)
                go_simp
                try with_reducible rfl
              try simp only [Act.put, List.setIfInBounds_toArray, List.set_cons_zero, List.set_cons_succ]
              refine wpL_takeA (i := 1) (v := ?_) rfl (by kernel_rfl) (by kernel_rfl) (by kernel_rfl) (by kernel_rfl) (by decide) (fun _ _ _ h => h) (Or.inl ⟨by rfl, ?_⟩) hA hB ?_
              rotate_left
              · rintro wx ⟨hAx, hBx⟩
                (try dsimp only at hBx); (try dsimp only at hAx)
                go_simp
                try with_reducible rfl
              try simp only [Act.put, List.setIfInBounds_toArray, List.set_cons_zero, List.set_cons_succ]
              refine wpL_takeA (i := 2) (v := ?_) rfl (by kernel_rfl) (by kernel_rfl) (by kernel_rfl) (by kernel_rfl) (by decide) (fun _ _ _ h => h) (Or.inl ⟨by rfl, ?_⟩) hA hB ?_
              rotate_left
              · rintro wx ⟨hAx, hBx⟩
                (try dsimp only at hBx); (try dsimp only at hAx)
                go_simp
                try with_reducible rfl
              try simp only [Act.put, List.setIfInBounds_toArray, List.set_cons_zero, List.set_cons_succ]
              refine wpL_takeA (i := 3) (v := ?_) rfl (by kernel_rfl) (by kernel_rfl) (by kernel_rfl) (by kernel_rfl) (by decide) (fun _ _ _ h => h) (Or.inl ⟨by rfl, ?_⟩) hA hB ?_
              rotate_left
              · rintro wx ⟨hAx, hBx⟩
                (try dsimp only at hBx); (try dsimp only at hAx)
                go_simp
                try with_reducible rfl
              try simp only [Act.put, List.setIfInBounds_toArray, List.set_cons_zero, List.set_cons_succ]
              refine wpL_takeA (i := 4) (v := ?_) rfl (by kernel_rfl) (by kernel_rfl) (by kernel_rfl) (by kernel_rfl) (by decide) (fun _ _ _ h => h) (Or.inl ⟨by rfl, ?_⟩) hA hB ?_
              rotate_left
              · rintro wx ⟨hAx, hBx⟩
                (try dsimp only at hBx); (try dsimp only at hAx)
                go_simp
                try with_reducible rfl
              try simp only [Act.put, List.setIfInBounds_toArray, List.set_cons_zero, List.set_cons_succ]
              refine wpL_takeA (i := 5) (v := ?_) rfl (by kernel_rfl) (by kernel_rfl) (by kernel_rfl) (by kernel_rfl) (by decide) (fun _ _ _ h => h) (Or.inl ⟨by rfl, ?_⟩) hA hB ?_
              rotate_left
              · rintro wx ⟨hAx, hBx⟩
                (try dsimp only at hBx); (try dsimp only at hAx)
                go_simp
                try with_reducible rfl
              try simp only [Act.put, List.setIfInBounds_toArray, List.set_cons_zero, List.set_cons_succ]
              refine wpL_takeA (i := 6) (v := ?_) rfl (by kernel_rfl) (by kernel_rfl) (by kernel_rfl) (by kernel_rfl) (by decide) (fun _ _ _ h => h) (Or.inl ⟨by rfl, ?_⟩) hA hB ?_
              rotate_left
              · rintro wx ⟨hAx, hBx⟩
                (try dsimp only at hBx); (try dsimp only at hAx)
                go_simp
                try with_reducible rfl
              try simp only [Act.put, List.setIfInBounds_toArray, List.set_cons_zero, List.set_cons_succ]
              refine wpL_takeA (i := 7) (v := ?_) rfl (by kernel_rfl) (by kernel_rfl) (by kernel_rfl) (by kernel_rfl) (by decide) (fun _ _ _ h => h) (Or.inl ⟨by rfl, ?_⟩) hA hB ?_
              rotate_left
              · rintro wx ⟨hAx, hBx⟩
                (try dsimp only at hBx); (try dsimp only at hAx)
                go_simp
                try with_reducible rfl
              try simp only [Act.put, List.setIfInBounds_toArray, List.set_cons_zero, List.set_cons_succ]
              refine wpL_takeA (i := 8) (v := ?_) rfl (by kernel_rfl) (by kernel_rfl) (by kernel_rfl) (by kernel_rfl) (by decide) (fun _ _ _ h => h) (Or.inl ⟨by rfl, ?_⟩) hA hB ?_
              rotate_left
              · rintro wx ⟨hAx, hBx⟩
                (try dsimp only at hBx); (try dsimp only at hAx)
                go_simp
                try with_reducible rfl
              try simp only [Act.put, List.setIfInBounds_toArray, List.set_cons_zero, List.set_cons_succ]
              refine wpL_takeA (i := 9) (v := ?_) rfl (by kernel_rfl) (by kernel_rfl) (by kernel_rfl) (by kernel_rfl) (by decide) (fun _ _ _ h => h) (Or.inl ⟨by rfl, ?_⟩) hA hB ?_
              rotate_left
              · rintro wx ⟨hAx, hBx⟩
                (try dsimp only at hBx); (try dsimp only at hAx)
                go_simp
                try with_reducible rfl
              try simp only [Act.put, List.setIfInBounds_toArray, List.set_cons_zero, List.set_cons_succ]
              refine wpL_takeA (i := 11) (v := ?_) rfl (by kernel_rfl) (by kernel_rfl) (by kernel_rfl) (by kernel_rfl) (by decide) (fun _ _ _ h => h) (Or.inl ⟨by rfl, ?_⟩) hA hB ?_
              rotate_left
              · rintro wx ⟨hAx, hBx⟩
                (try dsimp only at hBx); (try dsimp only at hAx)
                go_simp
                try with_reducible rfl
              try simp only [Act.put, List.setIfInBounds_toArray, List.set_cons_zero, List.set_cons_succ]
              clear y0 y2 y3
              refine wpL_one (i := 10) (by kernel_rfl) (StepL.mk rfl (fun K hK => ?_))
              go_simp
              refine (next_any u0 B gc _ ((x : Int) + 1) (HC7.out.keep hku) (by omega) (by omega)).mono ?_
              rintro e u1 ⟨v2, hw0, hw1, rfl, hc8, ho8⟩
              obtain ⟨ix, hix⟩ : ∃ ix : Nat, v2 = ix := ⟨v2.toNat, by omega⟩
              subst hix
              have hzu := hku.size
              have hz8 := ho8.size
              have hA8 : TrX w7 gc (.slice A3 m c3) u1 := Same.trans (hku.mono (fun i hi => hi.1)) ho8 (fun i hi => ⟨by have := hi.1; omega, hi.2.1⟩)
              refine hK.out _ _ (SAB.both hA8 trivial) (fun hSS => ?_)
              clear hK K hA hB
              have hB := hSS.2
              have hA := hSS.1 (by kernel_rfl)
              (try dsimp only at hB); (try dsimp only at hA); clear hSS
              try simp only [Act.put, List.setIfInBounds_toArray, List.set_cons_zero, List.set_cons_succ]
              refine wpL_takeA (i := 12) rfl (by kernel_rfl) (by kernel_rfl) (by kernel_rfl) (by kernel_rfl) (by decide) (fun _ _ _ h => h) (yieldsIf_bld (by rfl) 62 _ rfl _ [(0, .int .i64 s), (1, .int .i64 ix), (2, .int .i64 q)] rfl (bld_arc3 _ _ _)) hA hB ?_
              try simp only [Act.put, List.setIfInBounds_toArray, List.set_cons_zero, List.set_cons_succ]
              refine wpL_one (i := 13) (by kernel_rfl) (StepL.mk rfl (fun K hK => ?_))
              refine step_buildS rfl _ _ _ _ rfl Try.underlying30 _ [(0, .agg #[.int .i64 s, .int .i64 ix, .int .i64 q, .int .i64 0])] rfl (builtS_arc _ _ _ _) ?_
              have hkb : Keep u1 (u1.alloc (.cells #[.int .i64 s, .int .i64 ix, .int .i64 q, .int .i64 0] 62)) := Keep.new _ _
              have hrd := Reads.new (w := u1) (e := 62) (cs := [.int .i64 s, .int .i64 ix, .int .i64 q, .int .i64 0]) (size := 4) (n := 1) rfl
              have hA9 : TrX w7 gc (.slice A3 m c3) (u1.alloc (.cells #[.int .i64 s, .int .i64 ix, .int .i64 q, .int .i64 0] 62)) := Same.trans hA8 hkb (fun i hi => by have := hi.1; omega)
              refine hK.out _ _ (SAB.both hA9 trivial) (fun hSS => ?_)
              clear hK K hA hB
              have hB := hSS.2
              have hA := hSS.1 (by kernel_rfl)
              (try dsimp only at hB); (try dsimp only at hA); clear hSS
              try simp only [Act.put, List.setIfInBounds_toArray, List.set_cons_zero, List.set_cons_succ]
              generalize hu2 : u1.alloc (.cells #[.int .i64 s, .int .i64 ix, .int .i64 q, .int .i64 0] 62) = u2 at *
              have hz9 := hkb.size
              have hpt9 := ((HPT7.out.keep hku).same (ho8.mono (fun i hi => ⟨hi.2, by have := hi.1; omega⟩))).keep hkb
              have hbr9 := hkb.blk (ho8.blk (hku.blk HBR7.out HBR7.out.lt) ⟨by have := HBR7.out.lt; omega, by omega⟩) (by have := HBR7.out.lt; omega)
              have hc9 := hc8.keep hkb
              have ho9 := Only.keep (Only.trans (Only.keep HO7.out hku) ho8) hkb
              refine wpL_one (i := 14) (by kernel_rfl) (StepL.mk rfl (fun K hK => ?_))
              refine step_append_any _ (by rfl) (.tmp 97) (.tmp 109) _ (by rfl) (w.heap.size + 1) 62 iA _ 4 32 Try.underlying30 HK0.out KZ0.out KS0.out KB0.out rfl (by omega) (.slice A3 m c3) m (arcs.flatMap encArc) (by rfl) hpt9.row _ (some ⟨u1.heap.size, 0, none⟩) 1 1 (encArc ⟨s, ix, q, 0⟩) (by rfl) hrd (encArc_one _) (by simp [maxLen]; omega) (by omega) (by omega) ?_
              intro vb wb hownb hgb' hatb
              obtain ⟨Ab, cb, hvb, hnb, hcb⟩ := own_form hownb
              subst hvb
              have hG : Same (fun i => i < u2.heap.size ∧ (Value.slice A3 m c3).ownBlock ≠ some i) u2 wb := Same.grown (Same.refl _ _) hgb' (fun i hi => hi.1) (fun k hk hh => hh.2 hk)
              have hAb : TrX w7 gc (.slice A3 m c3) wb := Same.trans hA9 hG (fun i hi => ⟨by have := hi.1; omega, hi.2.2⟩)
              have hgbb := hG.blk hpt9.blk ⟨hpt9.blk.lt, HOWN6.out⟩
              have hnr : ∀ b, b ≤ w.heap.size → (Value.slice A3 m c3).ownBlock ≠ some b := fun b hb e => by have := (hpt9.row.lt b e).1; omega
              have hbrb := hG.blk hbr9 ⟨hbr9.lt, hnr _ (Nat.le_refl _)⟩
              have hcb9 := hc9.same (hG.mono (fun i hi => ⟨by have := HBW.out i hi; omega, hnr i (by have := HBW.out i hi; omega)⟩))
              have hob9 : Only gc w wb := Same.trans ho9 hG (fun i hi => ⟨by have := hi.1; omega, hnr i (by have := hi.1; omega)⟩)
              have hpat := hpt9.pat.transit (q := q) (s := s) (i := ix) hql hsl (fun e => hsq e) (by have := HX.out; omega)
              refine hK.out _ _ (SAB.both hAb trivial) (fun hSS => ?_)
              clear hK K hA hB
              have hB := hSS.2
              have hA := hSS.1 (by kernel_rfl)
              (try dsimp only at hB); (try dsimp only at hA); clear hSS
              try simp only [Act.put, List.setIfInBounds_toArray, List.set_cons_zero, List.set_cons_succ]
              refine wpL_takeA (i := 15) (v := ?_) rfl (by kernel_rfl) (by kernel_rfl) (by kernel_rfl) (by kernel_rfl) (by decide) (fun _ _ _ h => h) (Or.inl ⟨by rfl, ?_⟩) hA hB ?_
              rotate_left
              · rintro wx ⟨hAx, hBx⟩
                (try dsimp only at hBx); (try dsimp only at hAx)
                go_simp
                try with_reducible rfl
              try simp only [Act.put, List.setIfInBounds_toArray, List.set_cons_zero, List.set_cons_succ]
              refine wpL_one (i := 16) (by kernel_rfl) (StepL.mk rfl (fun K hK => ?_))
              refine step_store_one rfl _ _ _ rfl g6 2 32 _ (.slice Ab (m + 1) cb) rfl rfl hgbb (by simp) (by kernel_rfl) rfl rfl ?_
              intro wz hbz6 hsz
              have hptz := (hpt9.transit (Same.refl _ _) hownb hgb' hatb hpat (by simpa using hbz6) hsz).le (show i + 1 ≤ i + 1 + 1 by omega)
              have hbz := hsz.blk hbrb (by omega)
              have hcz := hcb9.write hsz (fun hh => by have := HBW.out _ hh; omega)
              have howz := Only.write hob9 hsz (by omega)
              refine hK.out _ _ (SAB.past (by kernel_rfl) trivial) (fun hSS => ?_)
              clear hK K hA hB
              have hB := hSS.2
              have hA : True := trivial
              (try dsimp only at hB); (try dsimp only at hA); clear hSS
              try simp only [Act.put, List.setIfInBounds_toArray, List.set_cons_zero, List.set_cons_succ]
              refine wpL_done (by kernel_rfl) ?_
              have hfin : Pn2 B gc g6 k most w (.int .i64 ((i : Int) + 1)) wz := ⟨i + 1, some ⟨bl, ol, none⟩, A2, Ab, c1, c2, m + 1, cb, ls, arcs ++ [⟨s, ix, q, 0⟩], by go_num, by omega, hptz, HLS.out, fun p => Nat.le_trans (HLE.out p) (by omega), by omega, hbz, ⟨_, hcz⟩, howz⟩
              have HFIN := Lib.hid hfin
              clear hfin
              clear hptz hbz hcz howz hbz6 hsz hpat hob9 hcb9 hbrb hnr hgbb hAb hG hownb hgb' hatb ho9 hc9 hbr9 hpt9 hA9 hrd hkb hA8 hc8 ho8 hku
              go_wp2_with fail
              go_roundw
              case rel => exact HFIN.out
              case measure => simp [intOf]; omega
            have s3 : (kk == 3) = false := by simpa using e3
            go_wp2_with fail
            refine (next_any w6 B gc _ ((k : Int) - 1) HC6.out (by omega) (by omega)).mono ?_
            rintro e w7 ⟨v, hv0, hv1, rfl, hc7, ho7'⟩
            obtain ⟨s, hst, hsk, hsq⟩ := tmod_ne hqk hv0 hv1
            have hz7 := ho7'.size
            have hpt7 := HPT6.out.same (ho7'.mono (fun i hi => ⟨hi.2, by have := hi.1; omega⟩))
            have hbr7 := ho7'.blk HBR6.out ⟨HBR6.out.lt, by omega⟩
            have ho7 : Only gc w w7 := Only.trans HO6.out ho7'
            have hsl : s < ls.length := by have := HLS.out; omega
            have HC7 := Lib.hid hc7
            have HO7 := Lib.hid ho7
            have HPT7 := Lib.hid hpt7
            have HBR7 := Lib.hid hbr7
            clear hc7 ho7 hpt7 hbr7
            clear ho7' HC6 HO6 HPT6 HBR6
            go_upto_region 13 with fail
            clear hst
            obtain ⟨bl, ol, lv, hAl, hSl, hlv, hcl⟩ := HPT7.out.len.at_ encI_len hsk
            subst hAl
            obtain ⟨x, hx⟩ : ∃ x, x = ls.getD s 0 := ⟨_, rfl⟩
            have hlv2 : lv = (x : Int) := by rw [intsN_get hsl, ← hx] at hlv; injection hlv with h; exact h.symm
            subst hlv2
            have hx60 : x ≤ 60 := by have := HLE.out s; omega
            have hxs := hx
            have hwr : IntKind.i64.wrap ((x : Int) + 1) = (x : Int) + 1 := IntWalk.i64_in _ (by omega)
            have g6l := HPT7.out.blk.lt
            have i0 : (0 : Int) ≤ s := by omega
            have i1 : (s : Int) < k := by omega
            have hblk7 := HPT7.out.blk
            have hc7l := hcl 0 _ rfl
            have hm7 := HPT7.out.hm
            have hrow7 := own_arcs HPT7.out.row
            have y0 : ∀ wx, Only gc w7 wx → wx.cell? ⟨g6, 0, none⟩ = some (.slice (some ⟨bl, ol, none⟩) k c1) := fun wx hx => by rw [(Same.blk hx hblk7 ⟨g6l, by omega⟩).cell]; rfl
            have y3 : ∀ wx, Only gc w7 wx → wx.cell? ⟨bl, ol + s, none⟩ = some (.int .i64 x) := fun wx hx => (Same.cell hx (p := ⟨bl, ol + s, none⟩) ⟨hSl.2.1, by have := hSl.1; show bl ≠ gc; omega⟩).trans (by simpa using hc7l)
            have HX := Lib.hid hx
            have HXS := Lib.hid hxs
            have HBLK7 := Lib.hid hblk7
            have HC7L := Lib.hid hc7l
            have HM7 := Lib.hid hm7
            have HROW7 := Lib.hid hrow7
            clear hx hxs hblk7 hc7l hm7 hrow7
            clear hcl hlv
            refine wp_region_L 19 (fun wx => Only gc w7 wx) (fun _ => True) (by kernel_rfl) (Same.drew (Same.refl _ _)) trivial (fun hA hB => ?_)
            have hku : Keep w7 w7.drew := Same.drew (Same.refl _ _)
            generalize hu0 : w7.drew = u0 at hA hku ⊢
            clear hu0
            refine wpL_takeA (i := 0) rfl (by kernel_rfl) (by kernel_rfl) (by kernel_rfl) (by kernel_rfl) (by decide) (fun _ _ _ h => h) (yieldsIf_blk (by rfl) _ _ rfl g6 0 32 _ [.slice (some ⟨bl, ol, none⟩) k c1, .slice A2 k c2, .slice A3 m c3] _ rfl (fun wx hx => Same.blk hx.1 HBLK7.out ⟨g6l, by omega⟩) (fun j u hu => by simpa using hu) Try.underlying32 rfl (by kernel_rfl)) hA hB ?_
            try simp only [Act.put, List.setIfInBounds_toArray, List.set_cons_zero, List.set_cons_succ]
            refine wpL_takeA (i := 1) (v := ?_) rfl (by kernel_rfl) (by kernel_rfl) (by kernel_rfl) (by kernel_rfl) (by decide) (fun _ _ _ h => h) (Or.inl ⟨by rfl, ?_⟩) hA hB ?_
            rotate_left
            · rintro wx ⟨hAx, hBx⟩
              (try dsimp only at hBx); (try dsimp only at hAx)
              go_simp
              try with_reducible rfl
            try simp only [Act.put, List.setIfInBounds_toArray, List.set_cons_zero, List.set_cons_succ]
            refine wpL_takeA (i := 2) (v := ?_) rfl (by kernel_rfl) (by kernel_rfl) (by kernel_rfl) (by kernel_rfl) (by decide) (fun _ _ _ h => h) (Or.inl ⟨by rfl, ?_⟩) hA hB ?_
            rotate_left
            · rintro wx ⟨hAx, hBx⟩
              (try dsimp only at hBx); (try dsimp only at hAx)
              go_simp
              try with_reducible rfl
            try simp only [Act.put, List.setIfInBounds_toArray, List.set_cons_zero, List.set_cons_succ]
            refine wpL_takeA (i := 3) (v := ?_) rfl (by kernel_rfl) (by kernel_rfl) (by kernel_rfl) (by kernel_rfl) (by decide) (fun _ _ _ h => h) (Or.inl ⟨by rfl, ?_⟩) hA hB ?_
            rotate_left
            · rintro wx ⟨hAx, hBx⟩
              (try dsimp only at hBx); (try dsimp only at hAx)
              go_simp
              try with_reducible rfl
            try simp only [Act.put, List.setIfInBounds_toArray, List.set_cons_zero, List.set_cons_succ]
            refine wpL_takeA (i := 4) (v := ?_) rfl (by kernel_rfl) (by kernel_rfl) (by kernel_rfl) (by kernel_rfl) (by decide) (fun _ _ _ h => h) (Or.inl ⟨by rfl, ?_⟩) hA hB ?_
            rotate_left
            · rintro wx ⟨hAx, hBx⟩
              (try dsimp only at hBx); (try dsimp only at hAx)
              go_simp
              try with_reducible rfl
            try simp only [Act.put, List.setIfInBounds_toArray, List.set_cons_zero, List.set_cons_succ]
            refine wpL_takeA (i := 5) (v := ?_) rfl (by kernel_rfl) (by kernel_rfl) (by kernel_rfl) (by kernel_rfl) (by decide) (fun _ _ _ h => h) (Or.inl ⟨by rfl, ?_⟩) hA hB ?_
            rotate_left
            · rintro wx ⟨hAx, hBx⟩
              (try dsimp only at hBx); (try dsimp only at hAx)
              go_simp
              try with_reducible rfl
            try simp only [Act.put, List.setIfInBounds_toArray, List.set_cons_zero, List.set_cons_succ]
            refine wpL_takeA (i := 6) (v := ?_) rfl (by kernel_rfl) (by kernel_rfl) (by kernel_rfl) (by kernel_rfl) (by decide) (fun _ _ _ h => h) (Or.inl ⟨by rfl, ?_⟩) hA hB ?_
            rotate_left
            · rintro wx ⟨hAx, hBx⟩
              (try dsimp only at hBx); (try dsimp only at hAx)
              go_simp
              try with_reducible rfl
            try simp only [Act.put, List.setIfInBounds_toArray, List.set_cons_zero, List.set_cons_succ]
            refine wpL_takeA (i := 7) (v := ?_) rfl (by kernel_rfl) (by kernel_rfl) (by kernel_rfl) (by kernel_rfl) (by decide) (fun _ _ _ h => h) (Or.inl ⟨by rfl, ?_⟩) hA hB ?_
            rotate_left
            · rintro wx ⟨hAx, hBx⟩
              (try dsimp only at hBx); (try dsimp only at hAx)
              go_simp
              try with_reducible rfl
            try simp only [Act.put, List.setIfInBounds_toArray, List.set_cons_zero, List.set_cons_succ]
            refine wpL_takeA (i := 8) (v := ?_) rfl (by kernel_rfl) (by kernel_rfl) (by kernel_rfl) (by kernel_rfl) (by decide) (fun _ _ _ h => h) (Or.inl ⟨by rfl, ?_⟩) hA hB ?_
            rotate_left
            · rintro wx ⟨hAx, hBx⟩
              (try dsimp only at hBx); (try dsimp only at hAx)
              go_simp
              try with_reducible rfl
            try simp only [Act.put, List.setIfInBounds_toArray, List.set_cons_zero, List.set_cons_succ]
            refine wpL_takeA (i := 9) (v := ?_) rfl (by kernel_rfl) (by kernel_rfl) (by kernel_rfl) (by kernel_rfl) (by decide) (fun _ _ _ h => h) (Or.inl ⟨by rfl, ?_⟩) hA hB ?_
            rotate_left
            · rintro wx ⟨hAx, hBx⟩
              (try dsimp only at hBx); (try dsimp only at hAx)
              go_simp
              try with_reducible rfl
            try simp only [Act.put, List.setIfInBounds_toArray, List.set_cons_zero, List.set_cons_succ]
            refine wpL_takeA (i := 10) (v := ?_) rfl (by kernel_rfl) (by kernel_rfl) (by kernel_rfl) (by kernel_rfl) (by decide) (fun _ _ _ h => h) (Or.inl ⟨by rfl, ?_⟩) hA hB ?_
            rotate_left
            · rintro wx ⟨hAx, hBx⟩
              (try dsimp only at hBx); (try dsimp only at hAx)
              go_simp
              try with_reducible rfl
            try simp only [Act.put, List.setIfInBounds_toArray, List.set_cons_zero, List.set_cons_succ]
            refine wpL_takeA (i := 11) (v := ?_) rfl (by kernel_rfl) (by kernel_rfl) (by kernel_rfl) (by kernel_rfl) (by decide) (fun _ _ _ h => h) (Or.inl ⟨by rfl, ?_⟩) hA hB ?_
            rotate_left
            · rintro wx ⟨hAx, hBx⟩
              (try dsimp only at hBx); (try dsimp only at hAx)
              go_simp
              try with_reducible rfl
            try simp only [Act.put, List.setIfInBounds_toArray, List.set_cons_zero, List.set_cons_succ]
            refine wpL_takeA (i := 12) (v := ?_) rfl (by kernel_rfl) (by kernel_rfl) (by kernel_rfl) (by kernel_rfl) (by decide) (fun _ _ _ h => h) (Or.inl ⟨by rfl, ?_⟩) hA hB ?_
            rotate_left
            · rintro wx ⟨hAx, hBx⟩
              (try dsimp only at hBx); (try dsimp only at hAx)
              go_simp
              try with_reducible rfl
            try simp only [Act.put, List.setIfInBounds_toArray, List.set_cons_zero, List.set_cons_succ]
            refine wpL_takeA (i := 13) (v := ?_) rfl (by kernel_rfl) (by kernel_rfl) (by kernel_rfl) (by kernel_rfl) (by decide) (fun _ _ _ h => h) (Or.inl ⟨by rfl, ?_⟩) hA hB ?_
            rotate_left
            · rintro wx ⟨hAx, hBx⟩
              (try dsimp only at hBx); (try dsimp only at hAx)
              go_simp
              try with_reducible rfl
            try simp only [Act.put, List.setIfInBounds_toArray, List.set_cons_zero, List.set_cons_succ]
            refine wpL_takeA (i := 14) (v := ?_) rfl (by kernel_rfl) (by kernel_rfl) (by kernel_rfl) (by kernel_rfl) (by decide) (fun _ _ _ h => h) (Or.inl ⟨by rfl, ?_⟩) hA hB ?_
            rotate_left
            · rintro wx ⟨hAx, hBx⟩
              (try dsimp only at hBx); (try dsimp only at hAx)
              go_simp
              try with_reducible rfl
            try simp only [Act.put, List.setIfInBounds_toArray, List.set_cons_zero, List.set_cons_succ]
            refine wpL_takeA (i := 15) (v := ?_) rfl (by kernel_rfl) (by kernel_rfl) (by kernel_rfl) (by kernel_rfl) (by decide) (fun _ _ _ h => h) (Or.inl ⟨by rfl, ?_⟩) hA hB ?_
            rotate_left
            · rintro wx ⟨hAx, hBx⟩
              (try dsimp only at hBx); (try dsimp only at hAx)
              go_simp
              try with_reducible rfl
            try simp only [Act.put, List.setIfInBounds_toArray, List.set_cons_zero, List.set_cons_succ]
            clear y0 y3
            refine wpL_one (i := 16) (by kernel_rfl) (StepL.mk rfl (fun K hK => ?_))
            go_simp
            refine (next_any u0 B gc _ (if (x : Int) + 1 < 3 then (x : Int) + 1 else 3) (HC7.out.keep hku) (by split <;> omega) (by split <;> omega)).mono ?_
            rintro e u1 ⟨v2, hw0, hw1', rfl, hc8, ho8⟩
            have hw1 : v2 < (x : Int) + 1 := by split at hw1' <;> omega
            clear hw1'
            obtain ⟨ix, hix⟩ : ∃ ix : Nat, (x : Int) - v2 = ix := ⟨((x : Int) - v2).toNat, by omega⟩
            have hixx : ix ≤ x := by omega
            have hwr2 : IntKind.i64.wrap (ix : Int) = (ix : Int) := IntWalk.i64_in _ (by omega)
            have hzu := hku.size
            have hz8 := ho8.size
            have hA8 : Only gc w7 u1 := Only.trans (hku.only gc) ho8
            refine hK.out _ _ (SAB.both hA8 trivial) (fun hSS => ?_)
            clear hK K hA hB
            have hB := hSS.2
            have hA := hSS.1 (by kernel_rfl)
            (try dsimp only at hB); (try dsimp only at hA); clear hSS
            try simp only [Act.put, List.setIfInBounds_toArray, List.set_cons_zero, List.set_cons_succ]
            refine wpL_takeA (i := 17) (v := ?_) rfl (by kernel_rfl) (by kernel_rfl) (by kernel_rfl) (by kernel_rfl) (by decide) (fun _ _ _ h => h) (Or.inl ⟨by rfl, ?_⟩) hA hB ?_
            rotate_left
            · rintro wx ⟨hAx, hBx⟩
              (try dsimp only at hBx); (try dsimp only at hAx)
              go_simp
              try with_reducible rfl
            try simp only [Act.put, List.setIfInBounds_toArray, List.set_cons_zero, List.set_cons_succ]
            have hpt8 := (HPT7.out.keep hku).same (ho8.mono (fun i hi => ⟨hi.2, by have := hi.1; omega⟩))
            have hbr8 := ho8.blk (hku.blk HBR7.out HBR7.out.lt) ⟨by have := HBR7.out.lt; omega, by omega⟩
            have ho9 := Only.trans (Only.keep HO7.out hku) ho8
            have hm8 := hpt8.hm
            have hrow8 := own_arcs hpt8.row
            refine wpL_one (i := 18) (by kernel_rfl) (StepL.mk rfl (fun K hK => ?_))
            go_simp
            refine (with_any u1 (some ⟨bl, ol, none⟩) A2 A3 k c1 k c2 m c3 q (s : Int) (ix : Int) (upN ls q) (arcs ++ [⟨s, ix, q, ls.getD q 0 + 1⟩]) (fun u hu => ?_)).mono ?_
            · have hzu := hu.size
              have h := append_recv u (fun i => i < u.heap.size) (some ⟨bl, ol, none⟩) A2 A3 k c1 k c2 c3 q s ix ls arcs (fun i hi => hi) ((hpt8.len.keep (hu.mono (fun i hi => hi.2.1))).more (fun i hi => by have := hi.2.1; omega)) (by rw [hm8]; exact (hrow8.keep (hu.mono (fun i hi => hi.2))).more (fun i hi => by have := hi.2; omega)) (by omega) hqk (by have := HLE.out q; omega) (by omega) hsk hsq (by have := HX.out; omega)
              rw [hm8] at h
              exact h
            rintro e u2 ⟨V, rfl, A1', A3', c1', c3', rfl, hr1, hr3, hdj, hk9⟩
            have hptw := fun wz hb hs => hpt8.event (wz := wz) hk9 hr1 hr3 hdj (hpt8.pat.recv hql hsl hsq (by have := HX.out; omega)) hb hs
            have hlen9 : (arcs ++ [⟨s, ix, q, ls.getD q 0 + 1⟩] : List Arc).length = m + 1 := by rw [List.length_append, hm8]; rfl
            rw [hlen9] at hptw ⊢
            have hz9 := hk9.size
            have hb69 := hk9.blk hpt8.blk hpt8.blk.lt
            have hbr9 := hk9.blk hbr8 hbr8.lt
            have hc9 := hc8.keep hk9
            have ho9' := Only.keep ho9 hk9
            have hA9 : Only gc w7 u2 := Only.keep hA8 hk9
            refine hK.out _ _ (SAB.both hA9 trivial) (fun hSS => ?_)
            clear hK K hA hB
            have hB := hSS.2
            have hA := hSS.1 (by kernel_rfl)
            (try dsimp only at hB); (try dsimp only at hA); clear hSS
            try simp only [Act.put, List.setIfInBounds_toArray, List.set_cons_zero, List.set_cons_succ]
            refine wpL_one (i := 19) (by kernel_rfl) (StepL.mk rfl (fun K hK => ?_))
            refine step_store_blk rfl _ _ _ rfl g6 0 32 _ [.slice A1' k c1', .slice A2 k c2, .slice A3' (m + 1) c3'] rfl rfl hb69 (by simp) (by kernel_rfl) rfl ?_
            intro wz hbz6 hsz
            rw [splice_all [.slice A1' k c1', .slice A2 k c2, .slice A3' (m + 1) c3'] #[.slice (some ⟨bl, ol, none⟩) k c1, .slice A2 k c2, .slice A3 m c3] rfl] at hbz6
            have hptz := (hptw wz hbz6 hsz).le (show i + 1 ≤ i + 1 + 1 by omega)
            have hbz := hsz.blk hbr9 (by omega)
            have hcz := hc9.write hsz (fun hh => by have := HBW.out _ hh; omega)
            have howz := Only.write ho9' hsz (by omega)
            refine hK.out _ _ (SAB.past (by kernel_rfl) trivial) (fun hSS => ?_)
            clear hK K hA hB
            have hB := hSS.2
            have hA : True := trivial
            (try dsimp only at hB); (try dsimp only at hA); clear hSS
            try simp only [Act.put, List.setIfInBounds_toArray, List.set_cons_zero, List.set_cons_succ]
            refine wpL_done (by kernel_rfl) ?_
            have hfin : Pn2 B gc g6 k most w (.int .i64 ((i : Int) + 1)) wz := ⟨i + 1, A1', A2, A3', c1', c2, m + 1, c3', upN ls q, _, by go_num, by omega, hptz, (by rw [upN_len]; exact HLS.out), upN_le HLE.out hql, by omega, hbz, ⟨_, hcz⟩, howz⟩
            have HFIN := Lib.hid hfin
            clear hfin
            clear hptz hbz hcz howz hbz6 hsz hptw hr1 hr3 hdj hA9 ho9' hc9 hbr9 hb69 hk9 hrow8 hpt8 hbr8 ho9 hA8 hc8 ho8 hku hix
            go_wp2_with fail
            go_roundw
            case rel => exact HFIN.out
            case measure => simp [intOf]; omega
          · have t1 : decide (0 < r2) = false := by simpa using hr2
            have hcr := HCR.out.keep hk4
            have how := Only.keep HOW.out hk4
            have hpt := HPT.out.keep hk4
            have hbrr := hk4.blk HBRR.out HBRR.out.lt
            have hls := HLS.out
            have hle := HLE.out
            clear hk4 HCR HOW HPT HBRR HLS HLE
            have HPT := Lib.hid hpt
            have HBRR := Lib.hid hbrr
            have HOW := Lib.hid how
            have HCR := Lib.hid hcr
            have HLS := Lib.hid hls
            have HLE := Lib.hid hle
            clear hpt hbrr how hcr hls hle
            go_wp2_with (first
              | (refine wpList_load_all rfl _ (.tmp 6) rfl g6 32 [.slice A1 k c1, .slice A2 k c2, .slice A3 m c3] _ rfl HPT.out.blk Try.underlying32 rfl (by kernel_rfl) ?_)
              | (refine wpList_store_all rfl _ (.tmp 4) (.tmp 112) rfl w.heap.size 32 _ [.slice A1 k c1, .slice A2 k c2, .slice A3 m c3] rfl rfl HBRR.out rfl (by kernel_rfl) rfl ?_; intro v6 hv6 hs6))
            refine bodyPost_ret (results_cell1 Try.results22 _ _ _ ⟨w.heap.size, 0, none⟩ _ rfl (loadVar_blk [.slice A1 k c1, .slice A2 k c2, .slice A3 m c3] _ hv6 (fun j v hv => by simpa using hv) Try.underlying32 rfl (by kernel_rfl))) rfl ?_
            have hz6 := hs6.size
            have hq1 := HPT.out.len
            have hq2 := own_arcs HPT.out.row
            exact ⟨A1, A2, A3, k, c1, c2, m, c3, ls, arcs, rfl, hn2, hn4, HLS.out, fun q => Nat.le_trans (HLE.out q) (by omega), by omega, HPT.out.pat, (hq1.keep (hs6.mono (fun i hi => by have := hi.1; show i ≠ _; omega))).more (fun i hi => ⟨by have := hi.1; omega, by have := hi.2.1; omega⟩), (hq2.keep (hs6.mono (fun i hi => by have := hi.1; show i ≠ _; omega))).more (fun i hi => ⟨by have := hi.1; omega, by have := hi.2; omega⟩), ⟨_, HCR.out.write hs6 (fun hh => by have := HBW.out _ hh; omega)⟩, Only.write HOW.out hs6 (Nat.le_refl _)⟩
        · have t0 : decide (i < most) = false := by simpa using hi2
          have t0' : decide ((i : Int) < (most : Int)) = false := by simp; omega
          have HPT := Lib.hid hpt
          have HBRR := Lib.hid hbrr
          have HOW := Lib.hid how
          have HCR := Lib.hid hcr
          have HLS := Lib.hid hls
          have HLE := Lib.hid hle
          clear hpt hbrr how hcr hls hle
          go_wp2_with (first
            | (refine wpList_load_all rfl _ (.tmp 6) rfl g6 32 [.slice A1 k c1, .slice A2 k c2, .slice A3 m c3] _ rfl HPT.out.blk Try.underlying32 rfl (by kernel_rfl) ?_)
            | (refine wpList_store_all rfl _ (.tmp 4) (.tmp 112) rfl w.heap.size 32 _ [.slice A1 k c1, .slice A2 k c2, .slice A3 m c3] rfl rfl HBRR.out rfl (by kernel_rfl) rfl ?_; intro v6 hv6 hs6))
          refine bodyPost_ret (results_cell1 Try.results22 _ _ _ ⟨w.heap.size, 0, none⟩ _ rfl (loadVar_blk [.slice A1 k c1, .slice A2 k c2, .slice A3 m c3] _ hv6 (fun j v hv => by simpa using hv) Try.underlying32 rfl (by kernel_rfl))) rfl ?_
          have hz6 := hs6.size
          have hq1 := HPT.out.len
          have hq2 := own_arcs HPT.out.row
          exact ⟨A1, A2, A3, k, c1, c2, m, c3, ls, arcs, rfl, hn2, hn4, HLS.out, fun q => Nat.le_trans (HLE.out q) (by omega), by omega, HPT.out.pat, (hq1.keep (hs6.mono (fun i hi => by have := hi.1; show i ≠ _; omega))).more (fun i hi => ⟨by have := hi.1; omega, by have := hi.2.1; omega⟩), (hq2.keep (hs6.mono (fun i hi => by have := hi.1; show i ≠ _; omega))).more (fun i hi => ⟨by have := hi.1; omega, by have := hi.2; omega⟩), ⟨_, HCR.out.write hs6 (fun hh => by have := HBW.out _ hh; omega)⟩, Only.write HOW.out hs6 (Nat.le_refl _)⟩
end Go.Proofs.Ytcfpkmfppgodmaa
