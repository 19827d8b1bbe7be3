/- The law ReplayReturns: written by gen_law34r.py. -/
import Derived.Test.YtecckbkobkfnmaaDoorGR
set_option linter.unusedVariables false
set_option linter.unusedSimpArgs false
set_option maxRecDepth 100000
namespace Go.Proofs.YtecckbkobkfnmaaDoor
open Go.RowKit Go.Proofs

def OneV (W : World) (s : St) (p : Value) (wx : World) : Prop := ∃ (g : Nat) (cs : List Value), p = .pointer (some ⟨g, 0, none⟩) ∧ Blk wx g 27 cs.toArray ∧ StR wx (· < wx.heap.size) cs s ∧ Keep W wx
/-- What the last part of the law reads. -/
def Bnd (gC : Nat) (CS : List Value) (cd : Cd) (A6 : Option Addr) (n6 c6 : Nat) (l : List Ev) (A8 : Option Addr) (n8 c8 : Nat) (a : List Dt) (A9 : Option Addr) (n9 c9 : Nat) (b : List Dt) (u : World) : Prop :=
  Blk u gC 38 CS.toArray ∧ CdR u (· < u.heap.size) CS cd ∧ Sl encEv 7 u (· < u.heap.size) A6 n6 c6 l ∧ Sl encDt 9 u (· < u.heap.size) A8 n8 c8 a ∧ Sl encDt 9 u (· < u.heap.size) A9 n9 c9 b
theorem Bnd.keep {gC : Nat} {CS : List Value} {cd : Cd} {A6 : Option Addr} {n6 c6 : Nat} {l : List Ev} {A8 : Option Addr} {n8 c8 : Nat} {a : List Dt} {A9 : Option Addr} {n9 c9 : Nat} {b : List Dt} {u u' : World} (h : Bnd gC CS cd A6 n6 c6 l A8 n8 c8 a A9 n9 c9 b u) (k : Keep u u') : Bnd gC CS cd A6 n6 c6 l A8 n8 c8 a A9 n9 c9 b u' := by
  obtain ⟨h1, h2, h3, h4, h5⟩ := h
  have up : ∀ i, i < u.heap.size → i < u'.heap.size := fun i hi => Nat.lt_of_lt_of_le hi k.size
  exact ⟨k.blk h1 h1.lt, (h2.keep k).more up, (h3.keep k).more up, (h4.keep k).more up, (h5.keep k).more up⟩
def Sv (g : Nat) (cs : List Value) (s : St) (u : World) : Prop := Blk u g 27 cs.toArray ∧ StR u (· < u.heap.size) cs s
theorem Sv.keep {g : Nat} {cs : List Value} {s : St} {u u' : World} (h : Sv g cs s u) (k : Keep u u') : Sv g cs s u' :=
  ⟨k.blk h.1 h.1.lt, (h.2.keep k).more (fun i hi => Nat.lt_of_lt_of_le hi k.size)⟩
theorem cutS_le (l : List Dt) (p a : Int) : (cutS l p a).length ≤ l.length := List.length_filter_le _ _
theorem cutS_mem {l : List Dt} {p a : Int} {d : Dt} (h : d ∈ cutS l p a) : d ∈ l := (List.mem_filter.1 h).1
def TurnRel (l : List Dt) (w : World) (v i : Value) (wr : World) : Prop :=
  ∃ (k : Nat) (z : Int), i = .int .i64 z ∧ z + k + 1 = l.length ∧ -1 ≤ z ∧ wr.ownsRow w.heap.size 72 9 v k ((l.reverse.take k).flatMap encDt) ∧ Keep w wr
theorem turn_snoc {l : List Dt} {j k : Nat} {d : Dt} (h : l[j]? = some d) (hk : j + k + 1 = l.length) : l.reverse.take (k + 1) = l.reverse.take k ++ [d] := by
  have hk1 : k < l.reverse.length := by rw [List.length_reverse]; omega
  rw [List.take_succ_eq_append_getElem hk1, List.getElem_reverse]
  have e : l.length - 1 - k = j := by omega
  obtain ⟨hj, rfl⟩ := List.getElem?_eq_some_iff.1 h
  congr 2
  simp only [e]
theorem sn_lt {S : Nat → Prop} {u v : World} (hS : ∀ i, S i → i < v.heap.size) : ∀ i, Sn S u v i → i < v.heap.size := fun i hi => hi.elim (hS i) (fun h => h.2)
set_option maxHeartbeats 32000000 in
theorem replayReturns_walk (w : World) (A : Option Addr) (n c : Nat) (zs : List Int) (x1 x2 : Int) (hx1 : I64 x1) (hx2 : I64 x2) (hg : Glob w) (hz : Sl encB 1 w (· < w.heap.size) A n c zs) (hz8 : ∀ y ∈ zs, 0 ≤ y ∧ y < 256) :
    Calls Tryd.prog 11 #[.slice A n c, .int .i64 x1, .int .i64 x2] w (Aw34Post w) := by
  obtain ⟨iE, hi0, iz0, iz1, iz2⟩ := info_of info_Event
  obtain ⟨iD, hj0, jz0, jz1, jz2⟩ := info_of info_Det
  have HG := Lib.hid hg
  have HZ := Lib.hid hz
  have HZ8 := Lib.hid hz8
  have HI0 := Lib.hid hi0
  have IZ0 := Lib.hid iz0
  have IZ1 := Lib.hid iz1
  have IZ2 := Lib.hid iz2
  have HJ0 := Lib.hid hj0
  have JZ0 := Lib.hid jz0
  have JZ1 := Lib.hid jz1
  have JZ2 := Lib.hid jz2
  have HX1 := Lib.hid hx1
  have HX2 := Lib.hid hx2
  clear hg hz hz8 hi0 iz0 iz1 iz2 hj0 jz0 jz1 jz2 hx1 hx2
  go_enter Tryd.func11, Tryd.ntmps11
  go_wp2_with fail
  refine (awake34_any w).mono ?_
  rintro e w1 ⟨rfl, hk1⟩
  have hz1 := hk1.size
  have HK1 := Lib.hid hk1
  clear hk1
  go_wp2_with fail
  refine (new_any w1 A n c 250 zs (fun i => i < w.heap.size) (fun i hi => by omega) (HZ.out.keep HK1.out) HZ8.out (by omega)).mono ?_
  rintro e w2 ⟨r, hr, rfl, hc2, hk2⟩
  have hz2 := hk2.size
  have hk2' := Keep.trans HK1.out hk2
  have hg2 := HG.out.keep hk2'
  have hgc := hc2.lt
  generalize hgce : w1.heap.size = gc at *
  have HK2' := Lib.hid hk2'
  have HG2 := Lib.hid hg2
  have HC2 := Lib.hid hc2
  clear hk2' hg2 hc2
  clear hk2
  go_wp2_with fail
  refine (chatter_any w2 _ gc r HC2.out HG2.out).mono ?_
  rintro e w3 ⟨cs3, cd, r3, rfl, hcd, hc3, ho3⟩
  have hz3 := ho3.size
  obtain ⟨B0, B1, B2, B3, B4, p0, q0, p1, q1, p2, q2, p3, q3, p4, q4, rfl, hcx⟩ := cd_open hcd
  have hk3 : Keep w w3 := Same.trans HK2'.out ho3 (fun i hi => by omega)
  have hci : cd.init.length ≤ 1000000 := by obtain ⟨_, _, _, _, _, _, _, _, _, _, _, _, _, _, _, _, _, _, _, _, _, h⟩ := hcx; exact h
  have HCX := Lib.hid hcx
  have HC3 := Lib.hid hc3
  have HK3 := Lib.hid hk3
  have HCI := Lib.hid hci
  clear hcx hc3 hk3 hci
  clear hcd ho3
  go_wp2_with fail
  refine (next_any w3 _ gc r3 3 HC3.out (by omega) (by omega)).mono ?_
  rintro e w4 ⟨me, hme0, hme1, rfl, hc4, ho4⟩
  have hz4 := ho4.size
  have hk4 : Keep w w4 := Same.trans HK3.out ho4 (fun i hi => by omega)
  have hcx4 := HCX.out.keep (ho4.mono (fun i (hi : New w3 w2.heap.size i) => ⟨hi.2, by have := hi.1; omega⟩))
  have HCX4 := Lib.hid hcx4
  have HC4 := Lib.hid hc4
  have HK4 := Lib.hid hk4
  clear hcx4 hc4 hk4
  clear ho4
  go_upto_region 5 with (refine wpList_store_all rfl _ (.tmp 8) (.tmp 25) rfl w4.heap.size 38 _ [.slice B0 p0 q0, .slice B1 p1 q1, .slice B2 p2 q2, .slice B3 p3 q3, .slice B4 p4 q4] rfl rfl (Blk.new _ _ _) rfl (by kernel_rfl) rfl ?_; intro w5 hb5 hs5)
  have hk45 : Keep w4 w5 := Keep.write (Keep.new _ _) hs5 (Nat.le_refl _)
  have hz5 : w4.heap.size < w5.heap.size := hb5.lt
  have hcx5 : CdR w5 (fun i => w2.heap.size ≤ i ∧ i < w4.heap.size) [.slice B0 p0 q0, .slice B1 p1 q1, .slice B2 p2 q2, .slice B3 p3 q3, .slice B4 p4 q4] cd := (HCX4.out.keep (Same.mono hk45 (fun i (hi : New w3 w2.heap.size i) => by have := hi.2; omega))).more (fun i hi => ⟨hi.1, by have := hi.2; omega⟩)
  have hc5 := HC4.out.keep hk45
  have hk5 := Keep.trans HK4.out hk45
  have HB5 := Lib.hid hb5
  have HCX5 := Lib.hid hcx5
  have HC5 := Lib.hid hc5
  have HK5 := Lib.hid hk5
  clear hb5 hcx5 hc5 hk5
  clear hs5 hk45
  go_wp2_with fail
  refine (events_own w5 _ gc _ 10 (by omega) HC5.out).mono ?_
  rintro e w6 ⟨A6, c6, l, rfl, hown6, hlen, ⟨r6, hc6⟩, ho6⟩
  have hz6 := ho6.size
  have hb6 := ho6.blk HB5.out ⟨by omega, by omega⟩
  have hcx6 := HCX5.out.keep (ho6.mono (fun i hi => ⟨by have := hi.2; omega, by have := hi.1; omega⟩))
  have hk6 : Keep w w6 := Same.trans HK5.out ho6 (fun i hi => by omega)
  have HOWN6 := Lib.hid hown6
  have HB6 := Lib.hid hb6
  have HCX6 := Lib.hid hcx6
  have HK6 := Lib.hid hk6
  clear hown6 hb6 hcx6 hk6
  clear hc6 ho6
  go_wp2_with fail
  refine (mod_any x1 ((l.length : Int) + 1) w6 HX1.out (by omega) (by omega)).mono ?_
  rintro e w8 ⟨rfl, hq⟩
  subst hq
  obtain ⟨m0, m1⟩ := modS_lt x1 ((l.length : Int) + 1) (by omega)
  generalize modS x1 ((l.length : Int) + 1) = kz at *
  obtain ⟨k, rfl⟩ := Int.eq_ofNat_of_zero_le m0
  have hkN : k ≤ l.length := by omega
  clear m0 m1
  go_wp2_with fail
  refine (mod_any x2 ((l.length : Int) - k + 1) w6 HX2.out (by omega) (by omega)).mono ?_
  rintro e w8 ⟨rfl, hq⟩
  subst hq
  obtain ⟨m0, m1⟩ := modS_lt x2 ((l.length : Int) - k + 1) (by omega)
  generalize modS x2 ((l.length : Int) - k + 1) = jz at *
  obtain ⟨j, rfl⟩ := Int.eq_ofNat_of_zero_le m0
  have hjN : k + j ≤ l.length := by omega
  clear m0 m1
  go_upto_region 8 with fail
  obtain ⟨m, hme⟩ : ∃ m : Nat, m = k + j := ⟨_, rfl⟩
  have hmz : (k : Int) + j = (m : Int) := by omega
  rw [hmz]
  have hkm : k ≤ m := by omega
  have hmN : m ≤ l.length := by omega
  clear hmz hme hjN
  have hc6 : l.length ≤ c6 := by obtain ⟨A', c', e1, h1, h2⟩ := own_form HOWN6.out; simp only [Value.slice.injEq, true_and] at e1; omega
  have hev6 : Sl encEv 7 w6 (· < w6.heap.size) A6 l.length c6 l := by
    obtain ⟨A', c', e1, h1, h2⟩ := own_form HOWN6.out
    simp only [Value.slice.injEq, true_and] at e1
    obtain ⟨rfl, rfl⟩ := e1
    exact ⟨rfl, h1, h2, (Reads.of_own HOWN6.out).more (fun i hi => hi.2)⟩
  have HEV6 := Lib.hid hev6
  clear hev6
  go_wp2_with fail
  refine (lineage_any w6 (fun i => i < w6.heap.size) A6 l.length c6 l me (fun i hi => hi) HEV6.out (by omega)).mono ?_
  rintro e w8 ⟨A8, n8, c8, rfl, hal, hk78⟩
  have hz8 := hk78.size
  have hn8 : n8 = l.length := by have := hal.1; rw [linS_len] at this; exact this
  subst hn8
  have hb8 := hk78.blk HB6.out HB6.out.lt
  have hcx8 := HCX6.out.keep (Same.mono hk78 (fun i hi => by have := hi.2; omega))
  have hev8 := (HEV6.out.keep hk78).more (T := fun i => i < w8.heap.size) (fun i hi => Nat.lt_of_lt_of_le hi hz8)
  have hk8 := Keep.trans HK6.out hk78
  have HAL := Lib.hid hal
  have HB8 := Lib.hid hb8
  have HCX8 := Lib.hid hcx8
  have HEV8 := Lib.hid hev8
  have HK8 := Lib.hid hk8
  clear hal hb8 hcx8 hev8 hk8
  clear hk78 HB6 HCX6 HEV6 HK6 HOWN6
  go_wp2_with fail
  go_loopw [14, 15] (fun v i wr => TurnRel (linS me 1 l) w8 v i wr) (fun _ i _ => (intOf i + 1).toNat)
  case atStart => exact ⟨0, _, rfl, by have h0 := linS_len me 1 l; omega, by omega, World.ownsRow_nil _ _ _ _, Same.refl _ _⟩
  case round =>
    obtain ⟨q, z, rfl, hzq, hz1', hown, hkp⟩ := hrel
    rw [linS_len] at hzq
    have hsz := hkp.size
    by_cases hi : 0 ≤ z
    · obtain ⟨i, rfl⟩ := Int.eq_ofNat_of_zero_le hi
      obtain ⟨b, off, d, rfl, hSb, hy, hcell⟩ := (HAL.out.keep (Same.mono hkp (fun i hi => hi.2))).at_ encDt_len (k := i) (by omega)
      have hd2 : (0 : Int) ≤ i := by omega
      have hd3 : (i : Int) < l.length := by omega
      have hd4 : i < l.length := by omega
      have hsn := turn_snoc hy (k := q) (by rw [linS_len]; omega)
      have hrg : wr.rangeAt b (off + i * 9) [.int .i64 d.proc, .int .i64 d.idx, .int .i64 d.ev.kind, .int .i64 d.ev.inc, .int .i64 d.ev.frm, .int .i64 d.ev.sInc, .int .i64 d.ev.sIdx, .int .i64 d.ev.ord, .int .i64 d.ev.val] := hcell
      have HRG := Lib.hid hrg
      have HSN := Lib.hid hsn
      have HKP := Lib.hid hkp
      have HOWN := Lib.hid hown
      clear hrg hsn hkp hown
      clear hcell hy hSb
      go_wp2_with (first
        | (refine wpList_load_mid rfl _ (.tmp 57) rfl b (off + i * 9) rfl [.int .i64 d.proc, .int .i64 d.idx, .int .i64 d.ev.kind, .int .i64 d.ev.inc, .int .i64 d.ev.frm, .int .i64 d.ev.sInc, .int .i64 d.ev.sIdx, .int .i64 d.ev.ord, .int .i64 d.ev.val] _ HRG.out Tryd.underlying72 rfl (by kernel_rfl) ?_)
        | (refine wpList_buildS rfl 69 72 1 _ rfl Tryd.underlying69 _ [(0, .agg #[.int .i64 d.proc, .int .i64 d.idx, .int .i64 d.ev.kind, .int .i64 d.ev.inc, .int .i64 d.ev.frm, .int .i64 d.ev.sInc, .int .i64 d.ev.sIdx, .int .i64 d.ev.ord, .int .i64 d.ev.val])] rfl (built_det1 _ _ _ _ _ _ _ _ _) ?_)
        | (at_builtin; refine wpList_append_any _ rfl (.tmp 54) (.tmp 59) 69 rfl w8.heap.size 72 iD _ 9 72 Tryd.underlying69 HJ0.out JZ0.out JZ1.out JZ2.out rfl (by omega) _ q _ rfl (HOWN.out.alloc _) _ (some ⟨wr.heap.size, 0, none⟩) 1 1 (encDt d) rfl (Reads.new rfl) (encDt_one _) (by simp [maxLen]; omega) (by omega) (by simp; omega) ?_; intro v5 w5 hown5 hg5 hat5))
      go_roundw
      case rel =>
        refine ⟨q + 1, (i : Int) - 1, by go_num, by rw [linS_len]; omega, by omega, ?_, ?_⟩
        · rw [HSN.out, List.flatMap_append]
          simpa using hown5
        · exact (Keep.alloc HKP.out _).append (HOWN.out.alloc _) hg5 (fun i hi => hi) (by simp; omega)
      case measure => simp [intOf] <;> omega
    · have hz0 : z = -1 := by omega
      subst hz0
      have hqn : q = l.length := by omega
      subst hqn
      have htl : (linS me 1 l).reverse.take l.length = (linS me 1 l).reverse := List.take_of_length_le (by rw [List.length_reverse, linS_len]; exact Nat.le_refl _)
      rw [htl] at hown
      obtain ⟨A9, c9, rfl, hn9, hm9⟩ := own_form hown
      have hst : Sl encDt 9 wr (fun i => w8.heap.size ≤ i ∧ i < wr.heap.size) A9 l.length c9 (linS me 1 l).reverse := ⟨by rw [List.length_reverse, linS_len], hn9, hm9, Reads.of_own hown⟩
      have bnd9 : Bnd w4.heap.size [.slice B0 p0 q0, .slice B1 p1 q1, .slice B2 p2 q2, .slice B3 p3 q3, .slice B4 p4 q4] cd A6 l.length c6 l A8 l.length c8 (linS me 1 l) A9 l.length c9 (linS me 1 l).reverse wr := ⟨hkp.blk HB8.out HB8.out.lt, (HCX8.out.keep (Same.mono hkp (fun i hi => by have := hi.2; omega))).more (fun i hi => by have := hi.2; omega), (HEV8.out.keep hkp).more (fun i hi => Nat.lt_of_lt_of_le hi hsz), (HAL.out.keep (Same.mono hkp (fun i hi => hi.2))).more (fun i hi => by have := hi.2; omega), hst.more (fun i hi => hi.2)⟩
      have hk9 := Keep.trans HK8.out hkp
      have hkc : (k : Int) ≤ c6 := by omega
      have hmc : (m : Int) ≤ c6 := by omega
      have hl10 : l.length ≤ 1000 := by omega
      have hixa : ∀ d ∈ linS me 1 l, I64 d.idx := idx_small hl10
      have lk := replayS_len cd me 3 (l.take k)
      have lm := replayS_len cd me 3 (l.take m)
      have lk2 := List.length_take_le k l
      have lm2 := List.length_take_le m l
      have ffl : Fine (replayS cd me 3 l) := fine_replay _ _ _ HCI.out (by omega)
      have ffm : Fine (replayS cd me 3 (l.take m)) := fine_replay _ _ _ HCI.out (by omega)
      have c1' : (replayS cd me 3 (l.take k)).cells.length ≤ 1000000 := by rw [lk.1]; exact HCI.out
      have c2' : (replayS cd me 3 (l.take k)).sent.length ≤ 900000 := by omega
      have c3' : (replayS cd me 3 (l.take k)).outs.length ≤ 900000 := by omega
      have c4' : (replayS cd me 3 (l.take k)).events.length ≤ 900000 := by omega
      have d1' : (replayS cd me 3 (l.take m)).cells.length ≤ 1000000 := by rw [lm.1]; exact HCI.out
      have d2' : (replayS cd me 3 (l.take m)).sent.length ≤ 900000 := by omega
      have d3' : (replayS cd me 3 (l.take m)).outs.length ≤ 900000 := by omega
      have d4' : (replayS cd me 3 (l.take m)).events.length ≤ 900000 := by omega
      have BND9 := Lib.hid bnd9
      have HK9 := Lib.hid hk9
      have HIXA := Lib.hid hixa
      have FFL := Lib.hid ffl
      have FFM := Lib.hid ffm
      have C1' := Lib.hid c1'
      have C2' := Lib.hid c2'
      have C3' := Lib.hid c3'
      have C4' := Lib.hid c4'
      have D1' := Lib.hid d1'
      have D2' := Lib.hid d2'
      have D3' := Lib.hid d3'
      have D4' := Lib.hid d4'
      clear bnd9 hk9 hixa ffl ffm c1' c2' c3' c4' d1' d2' d3' d4'
      clear htl hown hkp HAL HB8 HCX8 HEV8 HK8 hst lk lm lk2 lm2 hzq
      -- the state of the whole lineage
      go_wp2_with (refine wpList_load_all rfl _ (.tmp 8) rfl w4.heap.size 38 [.slice B0 p0 q0, .slice B1 p1 q1, .slice B2 p2 q2, .slice B3 p3 q3, .slice B4 p4 q4] _ rfl BND9.out.1 Tryd.underlying38 rfl (by kernel_rfl) ?_)
      refine (preplay_any wr (fun i => i < wr.heap.size) [.slice B0 p0 q0, .slice B1 p1 q1, .slice B2 p2 q2, .slice B3 p3 q3, .slice B4 p4 q4] cd me 3 A6 l.length c6 l (fun i hi => hi) BND9.out.2.1 BND9.out.2.2.1 (by omega)).mono ?_
      rintro e w10 ⟨cs1, rfl, hr1', hk10⟩
      obtain ⟨E1, E2, E3, E4, en1, ec1, en2, ec2, en3, ec3, en4, ec4, rfl, hr1⟩ := st_open hr1'
      have hz10 := hk10.size
      have HR1 := Lib.hid hr1
      have HK10 := Lib.hid hk10
      clear hr1 hk10
      clear hr1'
      go_upto_region 15 with (refine wpList_store_all rfl _ (.tmp 16) (.tmp 64) rfl w10.heap.size 27 _ [.slice E1 en1 ec1, .slice E2 en2 ec2, .slice E3 en3 ec3, .slice E4 en4 ec4] rfl rfl (Blk.new _ _ _) rfl (by kernel_rfl) rfl ?_; intro w11 hb11 hs11)
      have hk11 : Keep w10 w11 := Keep.write (Keep.new _ _) hs11 (Nat.le_refl _)
      have hz11 : w10.heap.size < w11.heap.size := hb11.lt
      have sve : Sv w10.heap.size [.slice E1 en1 ec1, .slice E2 en2 ec2, .slice E3 en3 ec3, .slice E4 en4 ec4] (replayS cd me 3 l) w11 := ⟨hb11, (HR1.out.keep (Same.mono hk11 (Sn.lt (fun i hi => hi) hz10))).more (fun i hi => by have := Sn.lt (fun i hi => hi) hz10 i hi; omega)⟩
      have bnd11 := (BND9.out.keep HK10.out).keep hk11
      have hkw11 := Keep.trans (Keep.trans HK9.out HK10.out) hk11
      have SVE := Lib.hid sve
      have BND11 := Lib.hid bnd11
      have HKW11 := Lib.hid hkw11
      clear sve bnd11 hkw11
      clear hb11 hs11 hk11 BND9 HK9 HK10 HR1
      generalize w10.heap.size = gw at *
      -- the state that is recovered from
      simp only [Act.put]
      go_cut [17] from 65 to 70 (fun p wx => OneV w11 (replayS cd me 3 (l.take k)) p wx)
      case first =>
        refine wp_region_L 99 (fun _ => True) (fun wx => Keep w11 wx) (by kernel_rfl) trivial (Same.drew (Same.refl _ _)) (fun hA hB => ?_)
        generalize hu0 : w11.drew = u0 at hB ⊢
        clear hu0
        have y0 := hB.size
        have hB0 := hB
        refine wpL_takeB (i := 0) rfl (by kernel_rfl) (by kernel_rfl) (by kernel_rfl) (by decide) (fun _ _ _ h => h) (yieldsIf_blk (by rfl) _ _ rfl w4.heap.size 0 38 _ [.slice B0 p0 q0, .slice B1 p1 q1, .slice B2 p2 q2, .slice B3 p3 q3, .slice B4 p4 q4] _ rfl (fun wx hx => hx.blk BND11.out.1 BND11.out.1.lt) (fun j u hu => by simpa using hu) Tryd.underlying38 rfl (by kernel_rfl)) (SAB.both hA hB) ?_
        try simp only [Act.put, List.setIfInBounds_toArray, List.set_cons_zero, List.set_cons_succ]
        refine wpL_takeB (i := 1) (v := ?_) rfl (by kernel_rfl) (by kernel_rfl) (by kernel_rfl) (by decide) (fun _ _ _ h => h) (Or.inl ⟨by rfl, ?_⟩) (SAB.both hA hB) ?_
        rotate_left
        · intro wx hBx
          (try dsimp only at hBx)
          go_simp
          try with_reducible rfl
        try simp only [Act.put, List.setIfInBounds_toArray, List.set_cons_zero, List.set_cons_succ]
        refine wpL_takeB (i := 2) (v := ?_) rfl (by kernel_rfl) (by kernel_rfl) (by kernel_rfl) (by decide) (fun _ _ _ h => h) (Or.inl ⟨by rfl, ?_⟩) (SAB.both hA hB) ?_
        rotate_left
        · intro wx hBx
          (try dsimp only at hBx)
          go_simp
          try with_reducible rfl
        try simp only [Act.put, List.setIfInBounds_toArray, List.set_cons_zero, List.set_cons_succ]
        refine wpL_takeB (i := 3) (v := ?_) rfl (by kernel_rfl) (by kernel_rfl) (by kernel_rfl) (by decide) (fun _ _ _ h => h) (Or.inl ⟨by rfl, ?_⟩) (SAB.both hA hB) ?_
        rotate_left
        · intro wx hBx
          (try dsimp only at hBx)
          go_simp
          try with_reducible rfl
        try simp only [Act.put, List.setIfInBounds_toArray, List.set_cons_zero, List.set_cons_succ]
        refine wpL_takeB (i := 4) (v := ?_) rfl (by kernel_rfl) (by kernel_rfl) (by kernel_rfl) (by decide) (fun _ _ _ h => h) (Or.inl ⟨by rfl, ?_⟩) (SAB.both hA hB) ?_
        rotate_left
        · intro wx hBx
          (try dsimp only at hBx)
          go_simp
          try with_reducible rfl
        try simp only [Act.put, List.setIfInBounds_toArray, List.set_cons_zero, List.set_cons_succ]
        refine wpL_two (i := 5) (j := 6) (by kernel_rfl) (StepL.mk rfl (fun K hK => ?_)) (StepL.mk rfl (fun K hK => ?_))
        · go_simp
          refine (preplay_any u0 (fun i => i < w11.heap.size) [.slice B0 p0 q0, .slice B1 p1 q1, .slice B2 p2 q2, .slice B3 p3 q3, .slice B4 p4 q4] cd me 3 A6 k c6 (l.take k) (fun i hi => by have := hB.size; omega) (BND11.out.2.1.keep hB) ((BND11.out.2.2.1.keep hB).to_ encEv_len (by omega)) (by rw [List.length_take]; omega)).mono ?_
          rintro e u1 ⟨cs5, rfl, hr5', hk11⟩
          obtain ⟨X1, X2, X3, X4, xn1, xc1, xn2, xc2, xn3, xc3, xn4, xc4, rfl, hr5⟩ := st_open hr5'
          clear hr5'
          have hlt5 : ∀ i, Sn (fun i => i < w11.heap.size) u0 u1 i → i < u1.heap.size := fun i hi => hi.elim (fun h => by have h : i < w11.heap.size := h; have := hB.size; have := hk11.size; omega) (fun h => h.2)
          have hne5 : ∀ i, Sn (fun i => i < w11.heap.size) u0 u1 i → ∀ g, (w11.heap.size ≤ g ∧ (g < u0.heap.size ∨ u1.heap.size ≤ g)) → i ≠ g := fun i hi g hg => hi.elim (fun h => by have h : i < w11.heap.size := h; omega) (fun h => by have h1 := h.1; have h2 := h.2; omega)
          have z1 := hk11.size
          have ha := Keep.trans hB hk11
          refine hK.out _ _ (SAB.both trivial ha) (fun hSS => ?_)
          clear hK K hA hB
          have hB := hSS.2
          have hA := hSS.1 (by kernel_rfl)
          (try dsimp only at hB); (try dsimp only at hA); clear hSS
          try simp only [Act.put, List.setIfInBounds_toArray, List.set_cons_zero, List.set_cons_succ]
          clear ha
          refine wpL_one (i := 6) (by kernel_rfl) (StepL.mk rfl (fun K hK => ?_))
          go_simp
          generalize hq : u1.alloc (.cells #[.slice none 0 0, .slice none 0 0, .slice none 0 0, .slice none 0 0] 27) = u2
          have hb6 : Blk u2 u1.heap.size 27 #[.slice none 0 0, .slice none 0 0, .slice none 0 0, .slice none 0 0] := hq ▸ Blk.new _ _ _
          have hk12 : Keep u1 u2 := hq ▸ Keep.new _ _
          clear hq
          have y6a := hb6.lt
          have z2 := hk12.size
          have ha := Keep.trans hB hk12
          refine hK.out _ _ (SAB.both trivial ha) (fun hSS => ?_)
          clear hK K hA hB
          have hB := hSS.2
          have hA := hSS.1 (by kernel_rfl)
          (try dsimp only at hB); (try dsimp only at hA); clear hSS
          try simp only [Act.put, List.setIfInBounds_toArray, List.set_cons_zero, List.set_cons_succ]
          clear ha
          have kk2 : Keep u2 u2 := Same.refl _ _
          have kk1 : Keep u1 u2 := Keep.trans hk12 kk2
          have zB := hB.size
          have b9 := kk2.blk hb6 y6a
          have rr := hr5.keep (Same.mono kk1 (fun i hi => hlt5 i hi))
          have ka := hB
          refine wpL_one (i := 7) (by kernel_rfl) (StepL.mk rfl (fun K hK => ?_))
          refine step_store_blk rfl _ _ _ rfl (u1.heap.size) 0 27 _ [.slice X1 xn1 xc1, .slice X2 xn2 xc2, .slice X3 xn3 xc3, .slice X4 xn4 xc4] rfl rfl b9 (by simp) (by kernel_rfl) rfl ?_
          intro v5 hv5 hs5
          rw [splice_all [.slice X1 xn1 xc1, .slice X2 xn2 xc2, .slice X3 xn3 xc3, .slice X4 xn4 xc4] #[.slice none 0 0, .slice none 0 0, .slice none 0 0, .slice none 0 0] rfl] at hv5
          have zv := hs5.size
          have kv := Keep.write ka hs5 (by omega)
          have hfin : OneV w11 (replayS cd me 3 (l.take k)) (.pointer (some ⟨u1.heap.size, 0, none⟩)) v5 := ⟨_, _, rfl, hv5, (rr.keep (hs5.mono (fun i hi => hne5 i hi (u1.heap.size) (by omega)))).more (fun i hi => by have := hlt5 i hi; have := kk1.size; omega), kv⟩
          refine hK.out _ _ (SAB.both trivial kv) (fun hSS => ?_)
          clear hK K hA hB
          have hB := hSS.2
          have hA := hSS.1 (by kernel_rfl)
          (try dsimp only at hB); (try dsimp only at hA); clear hSS
          try simp only [Act.put, List.setIfInBounds_toArray, List.set_cons_zero, List.set_cons_succ]
          refine wpL_done (by kernel_rfl) ?_
          have HFIN := Lib.hid hfin
          clear hfin
          clear hv5 hs5 rr b9 hA hB ka kv hB0 kk1 kk2
          go_wp2_with fail
          go_meet
          exact HFIN.out
        · go_simp
          generalize hq : u0.alloc (.cells #[.slice none 0 0, .slice none 0 0, .slice none 0 0, .slice none 0 0] 27) = u1
          have hb6 : Blk u1 u0.heap.size 27 #[.slice none 0 0, .slice none 0 0, .slice none 0 0, .slice none 0 0] := hq ▸ Blk.new _ _ _
          have hk11 : Keep u0 u1 := hq ▸ Keep.new _ _
          clear hq
          have y6a := hb6.lt
          have z1 := hk11.size
          have ha := Keep.trans hB hk11
          refine hK.out _ _ (SAB.both trivial ha) (fun hSS => ?_)
          clear hK K hA hB
          have hB := hSS.2
          have hA := hSS.1 (by kernel_rfl)
          (try dsimp only at hB); (try dsimp only at hA); clear hSS
          try simp only [Act.put, List.setIfInBounds_toArray, List.set_cons_zero, List.set_cons_succ]
          clear ha
          refine wpL_one (i := 5) (by kernel_rfl) (StepL.mk rfl (fun K hK => ?_))
          go_simp
          refine (preplay_any u1 (fun i => i < w11.heap.size) [.slice B0 p0 q0, .slice B1 p1 q1, .slice B2 p2 q2, .slice B3 p3 q3, .slice B4 p4 q4] cd me 3 A6 k c6 (l.take k) (fun i hi => by have := hB.size; omega) (BND11.out.2.1.keep hB) ((BND11.out.2.2.1.keep hB).to_ encEv_len (by omega)) (by rw [List.length_take]; omega)).mono ?_
          rintro e u2 ⟨cs5, rfl, hr5', hk12⟩
          obtain ⟨X1, X2, X3, X4, xn1, xc1, xn2, xc2, xn3, xc3, xn4, xc4, rfl, hr5⟩ := st_open hr5'
          clear hr5'
          have hlt5 : ∀ i, Sn (fun i => i < w11.heap.size) u1 u2 i → i < u2.heap.size := fun i hi => hi.elim (fun h => by have h : i < w11.heap.size := h; have := hB.size; have := hk12.size; omega) (fun h => h.2)
          have hne5 : ∀ i, Sn (fun i => i < w11.heap.size) u1 u2 i → ∀ g, (w11.heap.size ≤ g ∧ (g < u1.heap.size ∨ u2.heap.size ≤ g)) → i ≠ g := fun i hi g hg => hi.elim (fun h => by have h : i < w11.heap.size := h; omega) (fun h => by have h1 := h.1; have h2 := h.2; omega)
          have z2 := hk12.size
          have ha := Keep.trans hB hk12
          refine hK.out _ _ (SAB.both trivial ha) (fun hSS => ?_)
          clear hK K hA hB
          have hB := hSS.2
          have hA := hSS.1 (by kernel_rfl)
          (try dsimp only at hB); (try dsimp only at hA); clear hSS
          try simp only [Act.put, List.setIfInBounds_toArray, List.set_cons_zero, List.set_cons_succ]
          clear ha
          have kk2 : Keep u2 u2 := Same.refl _ _
          have kk1 : Keep u1 u2 := Keep.trans hk12 kk2
          have zB := hB.size
          have b9 := kk1.blk hb6 y6a
          have rr := hr5.keep (Same.mono kk2 (fun i hi => hlt5 i hi))
          have ka := hB
          refine wpL_one (i := 7) (by kernel_rfl) (StepL.mk rfl (fun K hK => ?_))
          refine step_store_blk rfl _ _ _ rfl (u0.heap.size) 0 27 _ [.slice X1 xn1 xc1, .slice X2 xn2 xc2, .slice X3 xn3 xc3, .slice X4 xn4 xc4] rfl rfl b9 (by simp) (by kernel_rfl) rfl ?_
          intro v5 hv5 hs5
          rw [splice_all [.slice X1 xn1 xc1, .slice X2 xn2 xc2, .slice X3 xn3 xc3, .slice X4 xn4 xc4] #[.slice none 0 0, .slice none 0 0, .slice none 0 0, .slice none 0 0] rfl] at hv5
          have zv := hs5.size
          have kv := Keep.write ka hs5 (by omega)
          have hfin : OneV w11 (replayS cd me 3 (l.take k)) (.pointer (some ⟨u0.heap.size, 0, none⟩)) v5 := ⟨_, _, rfl, hv5, (rr.keep (hs5.mono (fun i hi => hne5 i hi (u0.heap.size) (by omega)))).more (fun i hi => by have := hlt5 i hi; have := kk2.size; omega), kv⟩
          refine hK.out _ _ (SAB.both trivial kv) (fun hSS => ?_)
          clear hK K hA hB
          have hB := hSS.2
          have hA := hSS.1 (by kernel_rfl)
          (try dsimp only at hB); (try dsimp only at hA); clear hSS
          try simp only [Act.put, List.setIfInBounds_toArray, List.set_cons_zero, List.set_cons_succ]
          refine wpL_done (by kernel_rfl) ?_
          have HFIN := Lib.hid hfin
          clear hfin
          clear hv5 hs5 rr b9 hA hB ka kv hB0 kk1 kk2
          go_wp2_with fail
          go_meet
          exact HFIN.out
      case rest =>
        obtain ⟨w12, rfl⟩ : ∃ w12 : World, w12 = wc := ⟨_, rfl⟩
        obtain ⟨gs, csx, rfl, hbx, hrx', hk12⟩ := hcut
        obtain ⟨X1, X2, X3, X4, xn1, xc1, xn2, xc2, xn3, xc3, xn4, xc4, rfl, hrx⟩ := st_open hrx'
        have svx : Sv gs [.slice X1 xn1 xc1, .slice X2 xn2 xc2, .slice X3 xn3 xc3, .slice X4 xn4 xc4] (replayS cd me 3 (l.take k)) w12 := ⟨hbx, hrx⟩
        have sve12 := SVE.out.keep hk12
        have bnd12 := BND11.out.keep hk12
        have hkw12 := Keep.trans HKW11.out hk12
        have hrec := rec_turned (c := cd) (p := me) (procs := 3) l k hkN
        have SVX := Lib.hid svx
        have SVE12 := Lib.hid sve12
        have BND12 := Lib.hid bnd12
        have HKW12 := Lib.hid hkw12
        have HREC := Lib.hid hrec
        clear svx sve12 bnd12 hkw12 hrec
        clear hbx hrx hrx' hk12 SVE BND11 HKW11
        -- recovered from all, in the other order
        go_wp2_with (first
          | (refine wpList_load_all rfl _ (.tmp 8) rfl w4.heap.size 38 [.slice B0 p0 q0, .slice B1 p1 q1, .slice B2 p2 q2, .slice B3 p3 q3, .slice B4 p4 q4] _ rfl BND12.out.1 Tryd.underlying38 rfl (by kernel_rfl) ?_)
          | (refine wpList_load_all rfl _ (.tmp 17) rfl gs 27 [.slice X1 xn1 xc1, .slice X2 xn2 xc2, .slice X3 xn3 xc3, .slice X4 xn4 xc4] _ rfl SVX.out.1 Tryd.underlying27 rfl (by kernel_rfl) ?_))
        refine (precover_any w12 (fun i => i < w12.heap.size) [.slice B0 p0 q0, .slice B1 p1 q1, .slice B2 p2 q2, .slice B3 p3 q3, .slice B4 p4 q4] [.slice X1 xn1 xc1, .slice X2 xn2 xc2, .slice X3 xn3 xc3, .slice X4 xn4 xc4] cd (replayS cd me 3 (l.take k)) me 3 A9 l.length c9 (linS me 1 l).reverse (fun i hi => hi) BND12.out.2.1 SVX.out.2 BND12.out.2.2.2.2 (by rw [List.length_reverse, linS_len]; omega) (fun d hd => HIXA.out d (List.mem_reverse.1 hd)) C1'.out C2'.out C3'.out C4'.out).mono ?_
        rintro e w13 ⟨cs2, t, rfl, hrt, b1, b2, b3, b4, hr2', hk13⟩
        obtain rfl : t = replayS cd me 3 l := RecS.det hrt HREC.out
        obtain ⟨F1, F2, F3, F4, fn1, fc1, fn2, fc2, fn3, fc3, fn4, fc4, rfl, hr2⟩ := st_open hr2'
        have hz13 := hk13.size
        have HR2 := Lib.hid hr2
        have HK13 := Lib.hid hk13
        clear hr2 hk13
        clear hr2' hrt b1 b2 b3 b4
        go_upto_region 17 with (refine wpList_store_all rfl _ (.tmp 18) (.tmp 75) rfl w13.heap.size 27 _ [.slice F1 fn1 fc1, .slice F2 fn2 fc2, .slice F3 fn3 fc3, .slice F4 fn4 fc4] rfl rfl (Blk.new _ _ _) rfl (by kernel_rfl) rfl ?_; intro w14 hb14 hs14)
        have hk14 : Keep w13 w14 := Keep.write (Keep.new _ _) hs14 (Nat.le_refl _)
        have hz14 : w13.heap.size < w14.heap.size := hb14.lt
        have svf : Sv w13.heap.size [.slice F1 fn1 fc1, .slice F2 fn2 fc2, .slice F3 fn3 fc3, .slice F4 fn4 fc4] (replayS cd me 3 l) w14 := ⟨hb14, (HR2.out.keep (Same.mono hk14 (Sn.lt (fun i hi => hi) hz13))).more (fun i hi => by have := Sn.lt (fun i hi => hi) hz13 i hi; omega)⟩
        have bnd14 := (BND12.out.keep HK13.out).keep hk14
        have sve14 := (SVE12.out.keep HK13.out).keep hk14
        have svx14 := (SVX.out.keep HK13.out).keep hk14
        have hkw14 := Keep.trans (Keep.trans HKW12.out HK13.out) hk14
        have hrecm := rec_cut (c := cd) (p := me) (procs := 3) l k m hkm hmN
        have SVF := Lib.hid svf
        have BND14 := Lib.hid bnd14
        have SVE14 := Lib.hid sve14
        have SVX14 := Lib.hid svx14
        have HKW14 := Lib.hid hkw14
        have HRECM := Lib.hid hrecm
        clear svf bnd14 sve14 svx14 hkw14 hrecm
        clear hb14 hs14 hk14 BND12 SVE12 SVX HK13 HKW12 HR2 HREC
        generalize w13.heap.size = gf at *
        -- recovered up to the middle
        simp only [Act.put]
        go_cut [19] from 76 to 83 (fun p wx => OneV w14 (replayS cd me 3 (l.take m)) p wx)
        case first =>
          refine wp_region_L 99 (fun _ => True) (fun wx => Keep w14 wx) (by kernel_rfl) trivial (Same.drew (Same.refl _ _)) (fun hA hB => ?_)
          generalize hu0 : w14.drew = u0 at hB ⊢
          clear hu0
          have y0 := hB.size
          have hB0 := hB
          refine wpL_takeB (i := 0) rfl (by kernel_rfl) (by kernel_rfl) (by kernel_rfl) (by decide) (fun _ _ _ h => h) (yieldsIf_blk (by rfl) _ _ rfl w4.heap.size 0 38 _ [.slice B0 p0 q0, .slice B1 p1 q1, .slice B2 p2 q2, .slice B3 p3 q3, .slice B4 p4 q4] _ rfl (fun wx hx => hx.blk BND14.out.1 BND14.out.1.lt) (fun j u hu => by simpa using hu) Tryd.underlying38 rfl (by kernel_rfl)) (SAB.both hA hB) ?_
          try simp only [Act.put, List.setIfInBounds_toArray, List.set_cons_zero, List.set_cons_succ]
          refine wpL_takeB (i := 2) rfl (by kernel_rfl) (by kernel_rfl) (by kernel_rfl) (by decide) (fun _ _ _ h => h) (yieldsIf_blk (by rfl) _ _ rfl gs 0 27 _ [.slice X1 xn1 xc1, .slice X2 xn2 xc2, .slice X3 xn3 xc3, .slice X4 xn4 xc4] _ rfl (fun wx hx => hx.blk SVX14.out.1 SVX14.out.1.lt) (fun j u hu => by simpa using hu) Tryd.underlying27 rfl (by kernel_rfl)) (SAB.both hA hB) ?_
          try simp only [Act.put, List.setIfInBounds_toArray, List.set_cons_zero, List.set_cons_succ]
          refine wpL_takeB (i := 1) (v := ?_) rfl (by kernel_rfl) (by kernel_rfl) (by kernel_rfl) (by decide) (fun _ _ _ h => h) (Or.inl ⟨by rfl, ?_⟩) (SAB.both hA hB) ?_
          rotate_left
          · intro wx hBx
            (try dsimp only at hBx)
            go_simp
            try with_reducible rfl
          try simp only [Act.put, List.setIfInBounds_toArray, List.set_cons_zero, List.set_cons_succ]
          refine wpL_takeB (i := 3) (v := ?_) rfl (by kernel_rfl) (by kernel_rfl) (by kernel_rfl) (by decide) (fun _ _ _ h => h) (Or.inl ⟨by rfl, ?_⟩) (SAB.both hA hB) ?_
          rotate_left
          · intro wx hBx
            (try dsimp only at hBx)
            go_simp
            try with_reducible rfl
          try simp only [Act.put, List.setIfInBounds_toArray, List.set_cons_zero, List.set_cons_succ]
          refine wpL_takeB (i := 4) (v := ?_) rfl (by kernel_rfl) (by kernel_rfl) (by kernel_rfl) (by decide) (fun _ _ _ h => h) (Or.inl ⟨by rfl, ?_⟩) (SAB.both hA hB) ?_
          rotate_left
          · intro wx hBx
            (try dsimp only at hBx)
            go_simp
            try with_reducible rfl
          try simp only [Act.put, List.setIfInBounds_toArray, List.set_cons_zero, List.set_cons_succ]
          refine wpL_takeB (i := 5) (v := ?_) rfl (by kernel_rfl) (by kernel_rfl) (by kernel_rfl) (by decide) (fun _ _ _ h => h) (Or.inl ⟨by rfl, ?_⟩) (SAB.both hA hB) ?_
          rotate_left
          · intro wx hBx
            (try dsimp only at hBx)
            go_simp
            try with_reducible rfl
          try simp only [Act.put, List.setIfInBounds_toArray, List.set_cons_zero, List.set_cons_succ]
          refine wpL_two (i := 6) (j := 8) (by kernel_rfl) (StepL.mk rfl (fun K hK => ?_)) (StepL.mk rfl (fun K hK => ?_))
          · go_simp
            refine (cut_any u0 (fun i => i < w14.heap.size) A8 l.length c8 (linS me 1 l) me m (fun i hi => by have := hB.size; omega) (BND14.out.2.2.2.1.keep hB) (by omega)).mono ?_
            rintro e u1 ⟨AC, nc, cc, rfl, hcl, hk11⟩
            have z1 := hk11.size
            have ha := Keep.trans hB hk11
            refine hK.out _ _ (SAB.both trivial ha) (fun hSS => ?_)
            clear hK K hA hB
            have hB := hSS.2
            have hA := hSS.1 (by kernel_rfl)
            (try dsimp only at hB); (try dsimp only at hA); clear hSS
            try simp only [Act.put, List.setIfInBounds_toArray, List.set_cons_zero, List.set_cons_succ]
            clear ha
            refine wpL_two (i := 7) (j := 8) (by kernel_rfl) (StepL.mk rfl (fun K hK => ?_)) (StepL.mk rfl (fun K hK => ?_))
            · go_simp
              have kq : Keep u1 u1 := Same.refl _ _
              have zq := kq.size
              have zb := hB.size
              have zc := hk11.size
              have hcl' := hcl.keep (Same.mono kq (fun i hi => hi.2))
              refine (precover_any u1 (fun i => i < w14.heap.size ∨ (u0.heap.size ≤ i ∧ i < u1.heap.size)) [.slice B0 p0 q0, .slice B1 p1 q1, .slice B2 p2 q2, .slice B3 p3 q3, .slice B4 p4 q4] [.slice X1 xn1 xc1, .slice X2 xn2 xc2, .slice X3 xn3 xc3, .slice X4 xn4 xc4] cd (replayS cd me 3 (l.take k)) me 3 AC nc cc (cutS (linS me 1 l) me m) (fun i hi => hi.elim (fun h => by omega) (fun h => by have := h.2; omega)) ((BND14.out.2.1.keep hB).more (fun i hi => .inl hi)) ((SVX14.out.2.keep hB).more (fun i hi => .inl hi)) (hcl'.more (fun i hi => .inr hi)) (by have := cutS_le (linS me 1 l) me m; rw [linS_len] at this; omega) (fun d hd => HIXA.out d (cutS_mem hd)) C1'.out C2'.out C3'.out C4'.out).mono ?_
              rintro e u2 ⟨cs7, t, rfl, hrt, b1, b2, b3, b4, hr7', hk12⟩
              obtain rfl : t = replayS cd me 3 (l.take m) := RecS.det hrt HRECM.out
              clear hrt b1 b2 b3 b4
              obtain ⟨Y1, Y2, Y3, Y4, yn1, yc1, yn2, yc2, yn3, yc3, yn4, yc4, rfl, hr7⟩ := st_open hr7'
              clear hr7'
              have zw := hk12.size
              have hlt7 : ∀ i, Sn (fun i => i < w14.heap.size ∨ (u0.heap.size ≤ i ∧ i < u1.heap.size)) u1 u2 i → i < u2.heap.size := fun i hi => hi.elim (fun h => h.elim (fun h => by omega) (fun h => by have := h.2; omega)) (fun h => h.2)
              have hne7 : ∀ i, Sn (fun i => i < w14.heap.size ∨ (u0.heap.size ≤ i ∧ i < u1.heap.size)) u1 u2 i → ∀ g, (w14.heap.size ≤ g ∧ (g < u1.heap.size ∨ u2.heap.size ≤ g) ∧ (g < u0.heap.size ∨ u1.heap.size ≤ g)) → i ≠ g := fun i hi g hg => hi.elim (fun h => h.elim (fun h => by omega) (fun h => by have h1 := h.1; have h2 := h.2; omega)) (fun h => by have h1 := h.1; have h2 := h.2; omega)
              clear hcl hcl' kq
              have z2 := hk12.size
              have ha := Keep.trans hB hk12
              refine hK.out _ _ (SAB.both trivial ha) (fun hSS => ?_)
              clear hK K hA hB
              have hB := hSS.2
              have hA := hSS.1 (by kernel_rfl)
              (try dsimp only at hB); (try dsimp only at hA); clear hSS
              try simp only [Act.put, List.setIfInBounds_toArray, List.set_cons_zero, List.set_cons_succ]
              clear ha
              refine wpL_one (i := 8) (by kernel_rfl) (StepL.mk rfl (fun K hK => ?_))
              go_simp
              generalize hq : u2.alloc (.cells #[.slice none 0 0, .slice none 0 0, .slice none 0 0, .slice none 0 0] 27) = u3
              have hb8 : Blk u3 u2.heap.size 27 #[.slice none 0 0, .slice none 0 0, .slice none 0 0, .slice none 0 0] := hq ▸ Blk.new _ _ _
              have hk13 : Keep u2 u3 := hq ▸ Keep.new _ _
              clear hq
              have y8a := hb8.lt
              have z3 := hk13.size
              have ha := Keep.trans hB hk13
              refine hK.out _ _ (SAB.both trivial ha) (fun hSS => ?_)
              clear hK K hA hB
              have hB := hSS.2
              have hA := hSS.1 (by kernel_rfl)
              (try dsimp only at hB); (try dsimp only at hA); clear hSS
              try simp only [Act.put, List.setIfInBounds_toArray, List.set_cons_zero, List.set_cons_succ]
              clear ha
              have kk3 : Keep u3 u3 := Same.refl _ _
              have kk2 : Keep u2 u3 := Keep.trans hk13 kk3
              have kk1 : Keep u1 u3 := Keep.trans hk12 kk2
              have zB := hB.size
              have b9 := kk3.blk hb8 y8a
              have rr := hr7.keep (Same.mono kk2 (fun i hi => hlt7 i hi))
              have ka := hB
              refine wpL_one (i := 9) (by kernel_rfl) (StepL.mk rfl (fun K hK => ?_))
              refine step_store_blk rfl _ _ _ rfl (u2.heap.size) 0 27 _ [.slice Y1 yn1 yc1, .slice Y2 yn2 yc2, .slice Y3 yn3 yc3, .slice Y4 yn4 yc4] rfl rfl b9 (by simp) (by kernel_rfl) rfl ?_
              intro v5 hv5 hs5
              rw [splice_all [.slice Y1 yn1 yc1, .slice Y2 yn2 yc2, .slice Y3 yn3 yc3, .slice Y4 yn4 yc4] #[.slice none 0 0, .slice none 0 0, .slice none 0 0, .slice none 0 0] rfl] at hv5
              have zv := hs5.size
              have kv := Keep.write ka hs5 (by omega)
              have hfin : OneV w14 (replayS cd me 3 (l.take m)) (.pointer (some ⟨u2.heap.size, 0, none⟩)) v5 := ⟨_, _, rfl, hv5, (rr.keep (hs5.mono (fun i hi => hne7 i hi (u2.heap.size) (by omega)))).more (fun i hi => by have := hlt7 i hi; have := kk2.size; omega), kv⟩
              refine hK.out _ _ (SAB.both trivial kv) (fun hSS => ?_)
              clear hK K hA hB
              have hB := hSS.2
              have hA := hSS.1 (by kernel_rfl)
              (try dsimp only at hB); (try dsimp only at hA); clear hSS
              try simp only [Act.put, List.setIfInBounds_toArray, List.set_cons_zero, List.set_cons_succ]
              refine wpL_done (by kernel_rfl) ?_
              have HFIN := Lib.hid hfin
              clear hfin
              clear hv5 hs5 rr b9 hA hB ka kv hB0 kk1 kk2 kk3
              go_wp2_with fail
              go_meet
              exact HFIN.out
            · go_simp
              generalize hq : u1.alloc (.cells #[.slice none 0 0, .slice none 0 0, .slice none 0 0, .slice none 0 0] 27) = u2
              have hb8 : Blk u2 u1.heap.size 27 #[.slice none 0 0, .slice none 0 0, .slice none 0 0, .slice none 0 0] := hq ▸ Blk.new _ _ _
              have hk12 : Keep u1 u2 := hq ▸ Keep.new _ _
              clear hq
              have y8a := hb8.lt
              have z2 := hk12.size
              have ha := Keep.trans hB hk12
              refine hK.out _ _ (SAB.both trivial ha) (fun hSS => ?_)
              clear hK K hA hB
              have hB := hSS.2
              have hA := hSS.1 (by kernel_rfl)
              (try dsimp only at hB); (try dsimp only at hA); clear hSS
              try simp only [Act.put, List.setIfInBounds_toArray, List.set_cons_zero, List.set_cons_succ]
              clear ha
              refine wpL_one (i := 7) (by kernel_rfl) (StepL.mk rfl (fun K hK => ?_))
              go_simp
              have kq : Keep u1 u2 := hk12
              have zq := kq.size
              have zb := hB.size
              have zc := hk11.size
              have hcl' := hcl.keep (Same.mono kq (fun i hi => hi.2))
              refine (precover_any u2 (fun i => i < w14.heap.size ∨ (u0.heap.size ≤ i ∧ i < u1.heap.size)) [.slice B0 p0 q0, .slice B1 p1 q1, .slice B2 p2 q2, .slice B3 p3 q3, .slice B4 p4 q4] [.slice X1 xn1 xc1, .slice X2 xn2 xc2, .slice X3 xn3 xc3, .slice X4 xn4 xc4] cd (replayS cd me 3 (l.take k)) me 3 AC nc cc (cutS (linS me 1 l) me m) (fun i hi => hi.elim (fun h => by omega) (fun h => by have := h.2; omega)) ((BND14.out.2.1.keep hB).more (fun i hi => .inl hi)) ((SVX14.out.2.keep hB).more (fun i hi => .inl hi)) (hcl'.more (fun i hi => .inr hi)) (by have := cutS_le (linS me 1 l) me m; rw [linS_len] at this; omega) (fun d hd => HIXA.out d (cutS_mem hd)) C1'.out C2'.out C3'.out C4'.out).mono ?_
              rintro e u3 ⟨cs7, t, rfl, hrt, b1, b2, b3, b4, hr7', hk13⟩
              obtain rfl : t = replayS cd me 3 (l.take m) := RecS.det hrt HRECM.out
              clear hrt b1 b2 b3 b4
              obtain ⟨Y1, Y2, Y3, Y4, yn1, yc1, yn2, yc2, yn3, yc3, yn4, yc4, rfl, hr7⟩ := st_open hr7'
              clear hr7'
              have zw := hk13.size
              have hlt7 : ∀ i, Sn (fun i => i < w14.heap.size ∨ (u0.heap.size ≤ i ∧ i < u1.heap.size)) u2 u3 i → i < u3.heap.size := fun i hi => hi.elim (fun h => h.elim (fun h => by omega) (fun h => by have := h.2; omega)) (fun h => h.2)
              have hne7 : ∀ i, Sn (fun i => i < w14.heap.size ∨ (u0.heap.size ≤ i ∧ i < u1.heap.size)) u2 u3 i → ∀ g, (w14.heap.size ≤ g ∧ (g < u2.heap.size ∨ u3.heap.size ≤ g) ∧ (g < u0.heap.size ∨ u1.heap.size ≤ g)) → i ≠ g := fun i hi g hg => hi.elim (fun h => h.elim (fun h => by omega) (fun h => by have h1 := h.1; have h2 := h.2; omega)) (fun h => by have h1 := h.1; have h2 := h.2; omega)
              clear hcl hcl' kq
              have z3 := hk13.size
              have ha := Keep.trans hB hk13
              refine hK.out _ _ (SAB.both trivial ha) (fun hSS => ?_)
              clear hK K hA hB
              have hB := hSS.2
              have hA := hSS.1 (by kernel_rfl)
              (try dsimp only at hB); (try dsimp only at hA); clear hSS
              try simp only [Act.put, List.setIfInBounds_toArray, List.set_cons_zero, List.set_cons_succ]
              clear ha
              have kk3 : Keep u3 u3 := Same.refl _ _
              have kk2 : Keep u2 u3 := Keep.trans hk13 kk3
              have kk1 : Keep u1 u3 := Keep.trans hk12 kk2
              have zB := hB.size
              have b9 := kk2.blk hb8 y8a
              have rr := hr7.keep (Same.mono kk3 (fun i hi => hlt7 i hi))
              have ka := hB
              refine wpL_one (i := 9) (by kernel_rfl) (StepL.mk rfl (fun K hK => ?_))
              refine step_store_blk rfl _ _ _ rfl (u1.heap.size) 0 27 _ [.slice Y1 yn1 yc1, .slice Y2 yn2 yc2, .slice Y3 yn3 yc3, .slice Y4 yn4 yc4] rfl rfl b9 (by simp) (by kernel_rfl) rfl ?_
              intro v5 hv5 hs5
              rw [splice_all [.slice Y1 yn1 yc1, .slice Y2 yn2 yc2, .slice Y3 yn3 yc3, .slice Y4 yn4 yc4] #[.slice none 0 0, .slice none 0 0, .slice none 0 0, .slice none 0 0] rfl] at hv5
              have zv := hs5.size
              have kv := Keep.write ka hs5 (by omega)
              have hfin : OneV w14 (replayS cd me 3 (l.take m)) (.pointer (some ⟨u1.heap.size, 0, none⟩)) v5 := ⟨_, _, rfl, hv5, (rr.keep (hs5.mono (fun i hi => hne7 i hi (u1.heap.size) (by omega)))).more (fun i hi => by have := hlt7 i hi; have := kk3.size; omega), kv⟩
              refine hK.out _ _ (SAB.both trivial kv) (fun hSS => ?_)
              clear hK K hA hB
              have hB := hSS.2
              have hA := hSS.1 (by kernel_rfl)
              (try dsimp only at hB); (try dsimp only at hA); clear hSS
              try simp only [Act.put, List.setIfInBounds_toArray, List.set_cons_zero, List.set_cons_succ]
              refine wpL_done (by kernel_rfl) ?_
              have HFIN := Lib.hid hfin
              clear hfin
              clear hv5 hs5 rr b9 hA hB ka kv hB0 kk1 kk2 kk3
              go_wp2_with fail
              go_meet
              exact HFIN.out
          · go_simp
            generalize hq : u0.alloc (.cells #[.slice none 0 0, .slice none 0 0, .slice none 0 0, .slice none 0 0] 27) = u1
            have hb8 : Blk u1 u0.heap.size 27 #[.slice none 0 0, .slice none 0 0, .slice none 0 0, .slice none 0 0] := hq ▸ Blk.new _ _ _
            have hk11 : Keep u0 u1 := hq ▸ Keep.new _ _
            clear hq
            have y8a := hb8.lt
            have z1 := hk11.size
            have ha := Keep.trans hB hk11
            refine hK.out _ _ (SAB.both trivial ha) (fun hSS => ?_)
            clear hK K hA hB
            have hB := hSS.2
            have hA := hSS.1 (by kernel_rfl)
            (try dsimp only at hB); (try dsimp only at hA); clear hSS
            try simp only [Act.put, List.setIfInBounds_toArray, List.set_cons_zero, List.set_cons_succ]
            clear ha
            refine wpL_one (i := 6) (by kernel_rfl) (StepL.mk rfl (fun K hK => ?_))
            go_simp
            refine (cut_any u1 (fun i => i < w14.heap.size) A8 l.length c8 (linS me 1 l) me m (fun i hi => by have := hB.size; omega) (BND14.out.2.2.2.1.keep hB) (by omega)).mono ?_
            rintro e u2 ⟨AC, nc, cc, rfl, hcl, hk12⟩
            have z2 := hk12.size
            have ha := Keep.trans hB hk12
            refine hK.out _ _ (SAB.both trivial ha) (fun hSS => ?_)
            clear hK K hA hB
            have hB := hSS.2
            have hA := hSS.1 (by kernel_rfl)
            (try dsimp only at hB); (try dsimp only at hA); clear hSS
            try simp only [Act.put, List.setIfInBounds_toArray, List.set_cons_zero, List.set_cons_succ]
            clear ha
            refine wpL_one (i := 7) (by kernel_rfl) (StepL.mk rfl (fun K hK => ?_))
            go_simp
            have kq : Keep u2 u2 := Same.refl _ _
            have zq := kq.size
            have zb := hB.size
            have zc := hk12.size
            have hcl' := hcl.keep (Same.mono kq (fun i hi => hi.2))
            refine (precover_any u2 (fun i => i < w14.heap.size ∨ (u1.heap.size ≤ i ∧ i < u2.heap.size)) [.slice B0 p0 q0, .slice B1 p1 q1, .slice B2 p2 q2, .slice B3 p3 q3, .slice B4 p4 q4] [.slice X1 xn1 xc1, .slice X2 xn2 xc2, .slice X3 xn3 xc3, .slice X4 xn4 xc4] cd (replayS cd me 3 (l.take k)) me 3 AC nc cc (cutS (linS me 1 l) me m) (fun i hi => hi.elim (fun h => by omega) (fun h => by have := h.2; omega)) ((BND14.out.2.1.keep hB).more (fun i hi => .inl hi)) ((SVX14.out.2.keep hB).more (fun i hi => .inl hi)) (hcl'.more (fun i hi => .inr hi)) (by have := cutS_le (linS me 1 l) me m; rw [linS_len] at this; omega) (fun d hd => HIXA.out d (cutS_mem hd)) C1'.out C2'.out C3'.out C4'.out).mono ?_
            rintro e u3 ⟨cs7, t, rfl, hrt, b1, b2, b3, b4, hr7', hk13⟩
            obtain rfl : t = replayS cd me 3 (l.take m) := RecS.det hrt HRECM.out
            clear hrt b1 b2 b3 b4
            obtain ⟨Y1, Y2, Y3, Y4, yn1, yc1, yn2, yc2, yn3, yc3, yn4, yc4, rfl, hr7⟩ := st_open hr7'
            clear hr7'
            have zw := hk13.size
            have hlt7 : ∀ i, Sn (fun i => i < w14.heap.size ∨ (u1.heap.size ≤ i ∧ i < u2.heap.size)) u2 u3 i → i < u3.heap.size := fun i hi => hi.elim (fun h => h.elim (fun h => by omega) (fun h => by have := h.2; omega)) (fun h => h.2)
            have hne7 : ∀ i, Sn (fun i => i < w14.heap.size ∨ (u1.heap.size ≤ i ∧ i < u2.heap.size)) u2 u3 i → ∀ g, (w14.heap.size ≤ g ∧ (g < u2.heap.size ∨ u3.heap.size ≤ g) ∧ (g < u1.heap.size ∨ u2.heap.size ≤ g)) → i ≠ g := fun i hi g hg => hi.elim (fun h => h.elim (fun h => by omega) (fun h => by have h1 := h.1; have h2 := h.2; omega)) (fun h => by have h1 := h.1; have h2 := h.2; omega)
            clear hcl hcl' kq
            have z3 := hk13.size
            have ha := Keep.trans hB hk13
            refine hK.out _ _ (SAB.both trivial ha) (fun hSS => ?_)
            clear hK K hA hB
            have hB := hSS.2
            have hA := hSS.1 (by kernel_rfl)
            (try dsimp only at hB); (try dsimp only at hA); clear hSS
            try simp only [Act.put, List.setIfInBounds_toArray, List.set_cons_zero, List.set_cons_succ]
            clear ha
            have kk3 : Keep u3 u3 := Same.refl _ _
            have kk2 : Keep u2 u3 := Keep.trans hk13 kk3
            have kk1 : Keep u1 u3 := Keep.trans hk12 kk2
            have zB := hB.size
            have b9 := kk1.blk hb8 y8a
            have rr := hr7.keep (Same.mono kk3 (fun i hi => hlt7 i hi))
            have ka := hB
            refine wpL_one (i := 9) (by kernel_rfl) (StepL.mk rfl (fun K hK => ?_))
            refine step_store_blk rfl _ _ _ rfl (u0.heap.size) 0 27 _ [.slice Y1 yn1 yc1, .slice Y2 yn2 yc2, .slice Y3 yn3 yc3, .slice Y4 yn4 yc4] rfl rfl b9 (by simp) (by kernel_rfl) rfl ?_
            intro v5 hv5 hs5
            rw [splice_all [.slice Y1 yn1 yc1, .slice Y2 yn2 yc2, .slice Y3 yn3 yc3, .slice Y4 yn4 yc4] #[.slice none 0 0, .slice none 0 0, .slice none 0 0, .slice none 0 0] rfl] at hv5
            have zv := hs5.size
            have kv := Keep.write ka hs5 (by omega)
            have hfin : OneV w14 (replayS cd me 3 (l.take m)) (.pointer (some ⟨u0.heap.size, 0, none⟩)) v5 := ⟨_, _, rfl, hv5, (rr.keep (hs5.mono (fun i hi => hne7 i hi (u0.heap.size) (by omega)))).more (fun i hi => by have := hlt7 i hi; have := kk3.size; omega), kv⟩
            refine hK.out _ _ (SAB.both trivial kv) (fun hSS => ?_)
            clear hK K hA hB
            have hB := hSS.2
            have hA := hSS.1 (by kernel_rfl)
            (try dsimp only at hB); (try dsimp only at hA); clear hSS
            try simp only [Act.put, List.setIfInBounds_toArray, List.set_cons_zero, List.set_cons_succ]
            refine wpL_done (by kernel_rfl) ?_
            have HFIN := Lib.hid hfin
            clear hfin
            clear hv5 hs5 rr b9 hA hB ka kv hB0 kk1 kk2 kk3
            go_wp2_with fail
            go_meet
            exact HFIN.out
        case rest =>
          obtain ⟨w15, rfl⟩ : ∃ w15 : World, w15 = wc := ⟨_, rfl⟩
          obtain ⟨gb, csy, rfl, hby, hry', hk15⟩ := hcut
          obtain ⟨Y1, Y2, Y3, Y4, yn1, yc1, yn2, yc2, yn3, yc3, yn4, yc4, rfl, hry⟩ := st_open hry'
          have svy : Sv gb [.slice Y1 yn1 yc1, .slice Y2 yn2 yc2, .slice Y3 yn3 yc3, .slice Y4 yn4 yc4] (replayS cd me 3 (l.take m)) w15 := ⟨hby, hry⟩
          have sve15 := SVE14.out.keep hk15
          have svf15 := SVF.out.keep hk15
          have bnd15 := BND14.out.keep hk15
          have hkw15 := Keep.trans HKW14.out hk15
          have hreca := rec_all (c := cd) (p := me) (procs := 3) l m hmN
          have SVY := Lib.hid svy
          have SVE15 := Lib.hid sve15
          have SVF15 := Lib.hid svf15
          have BND15 := Lib.hid bnd15
          have HKW15 := Lib.hid hkw15
          have HRECA := Lib.hid hreca
          clear svy sve15 svf15 bnd15 hkw15 hreca
          clear hby hry hry' hk15 SVE14 SVF BND14 HKW14 SVX14 HRECM
          have hm00 : (0 : Int) ≤ m := by omega
          go_upto_region 18 with fail
          refine wp_region_L 99 (fun _ => True) (fun wx => Keep w15 wx) (by kernel_rfl) trivial (Same.drew (Same.refl _ _)) (fun hA hB => ?_)
          generalize hu0 : w15.drew = u0 at hB ⊢
          clear hu0
          have y0 := hB.size
          refine wpL_takeB (i := 0) (v := ?_) rfl (by kernel_rfl) (by kernel_rfl) (by kernel_rfl) (by decide) (fun _ _ _ h => h) (Or.inl ⟨by rfl, ?_⟩) (SAB.both hA hB) ?_
          rotate_left
          · intro wx hBx
            (try dsimp only at hBx)
            go_simp
            try with_reducible rfl
          try simp only [Act.put, List.setIfInBounds_toArray, List.set_cons_zero, List.set_cons_succ]
          refine wpL_takeB (i := 1) (v := ?_) rfl (by kernel_rfl) (by kernel_rfl) (by kernel_rfl) (by decide) (fun _ _ _ h => h) (Or.inl ⟨by rfl, ?_⟩) (SAB.both hA hB) ?_
          rotate_left
          · intro wx hBx
            (try dsimp only at hBx)
            go_simp
            try with_reducible rfl
          try simp only [Act.put, List.setIfInBounds_toArray, List.set_cons_zero, List.set_cons_succ]
          refine wpL_takeB (i := 2) (v := ?_) rfl (by kernel_rfl) (by kernel_rfl) (by kernel_rfl) (by decide) (fun _ _ _ h => h) (Or.inl ⟨by rfl, ?_⟩) (SAB.both hA hB) ?_
          rotate_left
          · intro wx hBx
            (try dsimp only at hBx)
            go_simp
            try with_reducible rfl
          try simp only [Act.put, List.setIfInBounds_toArray, List.set_cons_zero, List.set_cons_succ]
          refine wpL_takeB (i := 3) (v := ?_) rfl (by kernel_rfl) (by kernel_rfl) (by kernel_rfl) (by decide) (fun _ _ _ h => h) (Or.inl ⟨by rfl, ?_⟩) (SAB.both hA hB) ?_
          rotate_left
          · intro wx hBx
            (try dsimp only at hBx)
            go_simp
            try with_reducible rfl
          try simp only [Act.put, List.setIfInBounds_toArray, List.set_cons_zero, List.set_cons_succ]
          refine wpL_takeB (i := 4) (v := ?_) rfl (by kernel_rfl) (by kernel_rfl) (by kernel_rfl) (by decide) (fun _ _ _ h => h) (Or.inl ⟨by rfl, ?_⟩) (SAB.both hA hB) ?_
          rotate_left
          · intro wx hBx
            (try dsimp only at hBx)
            go_simp
            try with_reducible rfl
          try simp only [Act.put, List.setIfInBounds_toArray, List.set_cons_zero, List.set_cons_succ]
          refine wpL_takeB (i := 5) (v := ?_) rfl (by kernel_rfl) (by kernel_rfl) (by kernel_rfl) (by decide) (fun _ _ _ h => h) (Or.inl ⟨by rfl, ?_⟩) (SAB.both hA hB) ?_
          rotate_left
          · intro wx hBx
            (try dsimp only at hBx)
            go_simp
            try with_reducible rfl
          try simp only [Act.put, List.setIfInBounds_toArray, List.set_cons_zero, List.set_cons_succ]
          refine wpL_takeB (i := 6) rfl (by kernel_rfl) (by kernel_rfl) (by kernel_rfl) (by decide) (fun _ _ _ h => h) (yieldsIf_blk (by rfl) _ _ rfl gf 0 27 _ [.slice F1 fn1 fc1, .slice F2 fn2 fc2, .slice F3 fn3 fc3, .slice F4 fn4 fc4] _ rfl (fun wx hx => hx.blk SVF15.out.1 SVF15.out.1.lt) (fun j u hu => by simpa using hu) Tryd.underlying27 rfl (by kernel_rfl)) (SAB.both hA hB) ?_
          try simp only [Act.put, List.setIfInBounds_toArray, List.set_cons_zero, List.set_cons_succ]
          refine wpL_takeB (i := 7) rfl (by kernel_rfl) (by kernel_rfl) (by kernel_rfl) (by decide) (fun _ _ _ h => h) (yieldsIf_blk (by rfl) _ _ rfl gw 0 27 _ [.slice E1 en1 ec1, .slice E2 en2 ec2, .slice E3 en3 ec3, .slice E4 en4 ec4] _ rfl (fun wx hx => hx.blk SVE15.out.1 SVE15.out.1.lt) (fun j u hu => by simpa using hu) Tryd.underlying27 rfl (by kernel_rfl)) (SAB.both hA hB) ?_
          try simp only [Act.put, List.setIfInBounds_toArray, List.set_cons_zero, List.set_cons_succ]
          refine wpL_one (i := 8) (by kernel_rfl) (StepL.mk rfl (fun K hK => ?_))
          go_simp
          refine (psame_any u0 (fun i => i < w15.heap.size) [.slice F1 fn1 fc1, .slice F2 fn2 fc2, .slice F3 fn3 fc3, .slice F4 fn4 fc4] [.slice E1 en1 ec1, .slice E2 en2 ec2, .slice E3 en3 ec3, .slice E4 en4 ec4] (replayS cd me 3 l) (replayS cd me 3 l) (fun i hi => by omega) (SVF15.out.2.keep hB) (SVE15.out.2.keep hB) FFL.out FFL.out).mono ?_
          rintro e u1 ⟨b1, hb1, rfl, hk1⟩
          obtain rfl : b1 = true := hb1.2 rfl
          have ha := Keep.trans hB hk1
          clear hb1
          refine hK.out _ _ (SAB.both trivial ha) (fun hSS => ?_)
          clear hK K hA hB
          have hB := hSS.2
          have hA := hSS.1 (by kernel_rfl)
          (try dsimp only at hB); (try dsimp only at hA); clear hSS
          try simp only [Act.put, List.setIfInBounds_toArray, List.set_cons_zero, List.set_cons_succ]
          clear ha
          have y1 := hB.size
          refine wpL_takeB (i := 9) (v := ?_) rfl (by kernel_rfl) (by kernel_rfl) (by kernel_rfl) (by decide) (fun _ _ _ h => h) (Or.inl ⟨by rfl, ?_⟩) (SAB.both hA hB) ?_
          rotate_left
          · intro wx hBx
            (try dsimp only at hBx)
            go_simp
            try with_reducible rfl
          try simp only [Act.put, List.setIfInBounds_toArray, List.set_cons_zero, List.set_cons_succ]
          refine wpL_takeB (i := 10) (v := ?_) rfl (by kernel_rfl) (by kernel_rfl) (by kernel_rfl) (by decide) (fun _ _ _ h => h) (Or.inl ⟨by rfl, ?_⟩) (SAB.both hA hB) ?_
          rotate_left
          · intro wx hBx
            (try dsimp only at hBx)
            go_simp
            try with_reducible rfl
          try simp only [Act.put, List.setIfInBounds_toArray, List.set_cons_zero, List.set_cons_succ]
          refine wpL_takeB (i := 11) rfl (by kernel_rfl) (by kernel_rfl) (by kernel_rfl) (by decide) (fun _ _ _ h => h) (yieldsIf_blk (by rfl) _ _ rfl gb 0 27 _ [.slice Y1 yn1 yc1, .slice Y2 yn2 yc2, .slice Y3 yn3 yc3, .slice Y4 yn4 yc4] _ rfl (fun wx hx => hx.blk SVY.out.1 SVY.out.1.lt) (fun j u hu => by simpa using hu) Tryd.underlying27 rfl (by kernel_rfl)) (SAB.both hA hB) ?_
          try simp only [Act.put, List.setIfInBounds_toArray, List.set_cons_zero, List.set_cons_succ]
          refine wpL_takeB (i := 12) rfl (by kernel_rfl) (by kernel_rfl) (by kernel_rfl) (by decide) (fun _ _ _ h => h) (yieldsIf_blk (by rfl) _ _ rfl w4.heap.size 0 38 _ [.slice B0 p0 q0, .slice B1 p1 q1, .slice B2 p2 q2, .slice B3 p3 q3, .slice B4 p4 q4] _ rfl (fun wx hx => hx.blk BND15.out.1 BND15.out.1.lt) (fun j u hu => by simpa using hu) Tryd.underlying38 rfl (by kernel_rfl)) (SAB.both hA hB) ?_
          try simp only [Act.put, List.setIfInBounds_toArray, List.set_cons_zero, List.set_cons_succ]
          refine wpL_takeB (i := 13) (v := ?_) rfl (by kernel_rfl) (by kernel_rfl) (by kernel_rfl) (by decide) (fun _ _ _ h => h) (Or.inl ⟨by rfl, ?_⟩) (SAB.both hA hB) ?_
          rotate_left
          · intro wx hBx
            (try dsimp only at hBx)
            go_simp
            try with_reducible rfl
          try simp only [Act.put, List.setIfInBounds_toArray, List.set_cons_zero, List.set_cons_succ]
          refine wpL_takeB (i := 14) (v := ?_) rfl (by kernel_rfl) (by kernel_rfl) (by kernel_rfl) (by decide) (fun _ _ _ h => h) (Or.inl ⟨by rfl, ?_⟩) (SAB.both hA hB) ?_
          rotate_left
          · intro wx hBx
            (try dsimp only at hBx)
            go_simp
            try with_reducible rfl
          try simp only [Act.put, List.setIfInBounds_toArray, List.set_cons_zero, List.set_cons_succ]
          refine wpL_takeB (i := 15) (v := ?_) rfl (by kernel_rfl) (by kernel_rfl) (by kernel_rfl) (by decide) (fun _ _ _ h => h) (Or.inl ⟨by rfl, ?_⟩) (SAB.both hA hB) ?_
          rotate_left
          · intro wx hBx
            (try dsimp only at hBx)
            go_simp
            try with_reducible rfl
          try simp only [Act.put, List.setIfInBounds_toArray, List.set_cons_zero, List.set_cons_succ]
          refine wpL_takeB (i := 16) (v := ?_) rfl (by kernel_rfl) (by kernel_rfl) (by kernel_rfl) (by decide) (fun _ _ _ h => h) (Or.inl ⟨by rfl, ?_⟩) (SAB.both hA hB) ?_
          rotate_left
          · intro wx hBx
            (try dsimp only at hBx)
            go_simp
            try with_reducible rfl
          try simp only [Act.put, List.setIfInBounds_toArray, List.set_cons_zero, List.set_cons_succ]
          refine wpL_one (i := 17) (by kernel_rfl) (StepL.mk rfl (fun K hK => ?_))
          go_simp
          refine (preplay_any u1 (fun i => i < w15.heap.size) [.slice B0 p0 q0, .slice B1 p1 q1, .slice B2 p2 q2, .slice B3 p3 q3, .slice B4 p4 q4] cd me 3 A6 m c6 (l.take m) (fun i hi => by omega) (BND15.out.2.1.keep hB) ((BND15.out.2.2.1.keep hB).to_ encEv_len (by omega)) (by rw [List.length_take]; omega)).mono ?_
          rintro e u2 ⟨csz, rfl, hrz', hk2⟩
          obtain ⟨Z1, Z2, Z3, Z4, zn1, zc1, zn2, zc2, zn3, zc3, zn4, zc4, rfl, hrz⟩ := st_open hrz'
          have y2 := hk2.size
          have ha := Keep.trans hB hk2
          clear hrz'
          refine hK.out _ _ (SAB.both trivial ha) (fun hSS => ?_)
          clear hK K hA hB
          have hB := hSS.2
          have hA := hSS.1 (by kernel_rfl)
          (try dsimp only at hB); (try dsimp only at hA); clear hSS
          try simp only [Act.put, List.setIfInBounds_toArray, List.set_cons_zero, List.set_cons_succ]
          clear ha
          have q2 : ∀ i, Sn (fun i => i < w15.heap.size) u1 u2 i → i < u2.heap.size := fun i hi => hi.elim (fun h => by have h : i < w15.heap.size := h; omega) (fun h => h.2)
          refine wpL_one (i := 18) (by kernel_rfl) (StepL.mk rfl (fun K hK => ?_))
          go_simp
          refine (psame_any u2 (Sn (fun i => i < w15.heap.size) u1 u2) [.slice Y1 yn1 yc1, .slice Y2 yn2 yc2, .slice Y3 yn3 yc3, .slice Y4 yn4 yc4] [.slice Z1 zn1 zc1, .slice Z2 zn2 zc2, .slice Z3 zn3 zc3, .slice Z4 zn4 zc4] (replayS cd me 3 (l.take m)) (replayS cd me 3 (l.take m)) q2 ((SVY.out.2.keep hB).more (fun i hi => .inl hi)) hrz FFM.out FFM.out).mono ?_
          rintro e u3 ⟨b3, hb3, rfl, hk3⟩
          obtain rfl : b3 = true := hb3.2 rfl
          have ha := Keep.trans hB hk3
          clear hb3 hrz q2
          refine hK.out _ _ (SAB.both trivial ha) (fun hSS => ?_)
          clear hK K hA hB
          have hB := hSS.2
          have hA := hSS.1 (by kernel_rfl)
          (try dsimp only at hB); (try dsimp only at hA); clear hSS
          try simp only [Act.put, List.setIfInBounds_toArray, List.set_cons_zero, List.set_cons_succ]
          clear ha
          have y3 := hB.size
          refine wpL_takeB (i := 19) (v := ?_) rfl (by kernel_rfl) (by kernel_rfl) (by kernel_rfl) (by decide) (fun _ _ _ h => h) (Or.inl ⟨by rfl, ?_⟩) (SAB.both hA hB) ?_
          rotate_left
          · intro wx hBx
            (try dsimp only at hBx)
            go_simp
            try with_reducible rfl
          try simp only [Act.put, List.setIfInBounds_toArray, List.set_cons_zero, List.set_cons_succ]
          refine wpL_takeB (i := 20) (v := ?_) rfl (by kernel_rfl) (by kernel_rfl) (by kernel_rfl) (by decide) (fun _ _ _ h => h) (Or.inl ⟨by rfl, ?_⟩) (SAB.both hA hB) ?_
          rotate_left
          · intro wx hBx
            (try dsimp only at hBx)
            go_simp
            try with_reducible rfl
          try simp only [Act.put, List.setIfInBounds_toArray, List.set_cons_zero, List.set_cons_succ]
          refine wpL_takeB (i := 21) rfl (by kernel_rfl) (by kernel_rfl) (by kernel_rfl) (by decide) (fun _ _ _ h => h) (yieldsIf_blk (by rfl) _ _ rfl w4.heap.size 0 38 _ [.slice B0 p0 q0, .slice B1 p1 q1, .slice B2 p2 q2, .slice B3 p3 q3, .slice B4 p4 q4] _ rfl (fun wx hx => hx.blk BND15.out.1 BND15.out.1.lt) (fun j u hu => by simpa using hu) Tryd.underlying38 rfl (by kernel_rfl)) (SAB.both hA hB) ?_
          try simp only [Act.put, List.setIfInBounds_toArray, List.set_cons_zero, List.set_cons_succ]
          refine wpL_takeB (i := 22) (v := ?_) rfl (by kernel_rfl) (by kernel_rfl) (by kernel_rfl) (by decide) (fun _ _ _ h => h) (Or.inl ⟨by rfl, ?_⟩) (SAB.both hA hB) ?_
          rotate_left
          · intro wx hBx
            (try dsimp only at hBx)
            go_simp
            try with_reducible rfl
          try simp only [Act.put, List.setIfInBounds_toArray, List.set_cons_zero, List.set_cons_succ]
          refine wpL_takeB (i := 23) rfl (by kernel_rfl) (by kernel_rfl) (by kernel_rfl) (by decide) (fun _ _ _ h => h) (yieldsIf_blk (by rfl) _ _ rfl gb 0 27 _ [.slice Y1 yn1 yc1, .slice Y2 yn2 yc2, .slice Y3 yn3 yc3, .slice Y4 yn4 yc4] _ rfl (fun wx hx => hx.blk SVY.out.1 SVY.out.1.lt) (fun j u hu => by simpa using hu) Tryd.underlying27 rfl (by kernel_rfl)) (SAB.both hA hB) ?_
          try simp only [Act.put, List.setIfInBounds_toArray, List.set_cons_zero, List.set_cons_succ]
          refine wpL_takeB (i := 24) (v := ?_) rfl (by kernel_rfl) (by kernel_rfl) (by kernel_rfl) (by decide) (fun _ _ _ h => h) (Or.inl ⟨by rfl, ?_⟩) (SAB.both hA hB) ?_
          rotate_left
          · intro wx hBx
            (try dsimp only at hBx)
            go_simp
            try with_reducible rfl
          try simp only [Act.put, List.setIfInBounds_toArray, List.set_cons_zero, List.set_cons_succ]
          refine wpL_takeB (i := 26) rfl (by kernel_rfl) (by kernel_rfl) (by kernel_rfl) (by decide) (fun _ _ _ h => h) (yieldsIf_blk (by rfl) _ _ rfl gw 0 27 _ [.slice E1 en1 ec1, .slice E2 en2 ec2, .slice E3 en3 ec3, .slice E4 en4 ec4] _ rfl (fun wx hx => hx.blk SVE15.out.1 SVE15.out.1.lt) (fun j u hu => by simpa using hu) Tryd.underlying27 rfl (by kernel_rfl)) (SAB.both hA hB) ?_
          try simp only [Act.put, List.setIfInBounds_toArray, List.set_cons_zero, List.set_cons_succ]
          refine wpL_one (i := 25) (by kernel_rfl) (StepL.mk rfl (fun K hK => ?_))
          go_simp
          refine (precover_any u3 (fun i => i < w15.heap.size) [.slice B0 p0 q0, .slice B1 p1 q1, .slice B2 p2 q2, .slice B3 p3 q3, .slice B4 p4 q4] [.slice Y1 yn1 yc1, .slice Y2 yn2 yc2, .slice Y3 yn3 yc3, .slice Y4 yn4 yc4] cd (replayS cd me 3 (l.take m)) me 3 A8 l.length c8 (linS me 1 l) (fun i hi => by omega) (BND15.out.2.1.keep hB) (SVY.out.2.keep hB) (BND15.out.2.2.2.1.keep hB) (by rw [linS_len]; omega) HIXA.out D1'.out D2'.out D3'.out D4'.out).mono ?_
          rintro e u4 ⟨csp, t, rfl, hrt, b1, b2, b3, b4, hrp', hk4⟩
          obtain rfl : t = replayS cd me 3 l := RecS.det hrt HRECA.out
          obtain ⟨P1, P2, P3, P4, pn1, pc1, pn2, pc2, pn3, pc3, pn4, pc4, rfl, hrp⟩ := st_open hrp'
          have y4 := hk4.size
          have ha := Keep.trans hB hk4
          clear hrp' hrt b1 b2 b3 b4
          refine hK.out _ _ (SAB.both trivial ha) (fun hSS => ?_)
          clear hK K hA hB
          have hB := hSS.2
          have hA := hSS.1 (by kernel_rfl)
          (try dsimp only at hB); (try dsimp only at hA); clear hSS
          try simp only [Act.put, List.setIfInBounds_toArray, List.set_cons_zero, List.set_cons_succ]
          clear ha
          have q4 : ∀ i, Sn (fun i => i < w15.heap.size) u3 u4 i → i < u4.heap.size := fun i hi => hi.elim (fun h => by have h : i < w15.heap.size := h; omega) (fun h => h.2)
          refine wpL_one (i := 27) (by kernel_rfl) (StepL.mk rfl (fun K hK => ?_))
          go_simp
          refine (psame_any u4 (Sn (fun i => i < w15.heap.size) u3 u4) [.slice P1 pn1 pc1, .slice P2 pn2 pc2, .slice P3 pn3 pc3, .slice P4 pn4 pc4] [.slice E1 en1 ec1, .slice E2 en2 ec2, .slice E3 en3 ec3, .slice E4 en4 ec4] (replayS cd me 3 l) (replayS cd me 3 l) q4 hrp ((SVE15.out.2.keep hB).more (fun i hi => .inl hi)) FFL.out FFL.out).mono ?_
          rintro e u5 ⟨b5, hb5, rfl, hk5⟩
          obtain rfl : b5 = true := hb5.2 rfl
          have ha := Keep.trans hB hk5
          clear hb5 hrp q4
          refine hK.out _ _ (SAB.both trivial ha) (fun hSS => ?_)
          clear hK K hA hB
          have hB := hSS.2
          have hA := hSS.1 (by kernel_rfl)
          (try dsimp only at hB); (try dsimp only at hA); clear hSS
          try simp only [Act.put, List.setIfInBounds_toArray, List.set_cons_zero, List.set_cons_succ]
          clear ha
          have hfin : Aw34Post w (.returned (.bool true)) u5 := ⟨rfl, Keep.trans HKW15.out hB⟩
          have HFIN := Lib.hid hfin
          clear hfin
          refine wpL_takeB (i := 28) (v := ?_) rfl (by kernel_rfl) (by kernel_rfl) (by kernel_rfl) (by decide) (fun _ _ _ h => h) (Or.inl ⟨by rfl, ?_⟩) (SAB.both hA hB) ?_
          rotate_left
          · intro wx hBx
            (try dsimp only at hBx)
            go_simp
            try with_reducible rfl
          try simp only [Act.put, List.setIfInBounds_toArray, List.set_cons_zero, List.set_cons_succ]
          refine wpL_takeB (i := 29) (v := ?_) rfl (by kernel_rfl) (by kernel_rfl) (by kernel_rfl) (by decide) (fun _ _ _ h => h) (Or.inl ⟨by rfl, ?_⟩) (SAB.both hA hB) ?_
          rotate_left
          · intro wx hBx
            (try dsimp only at hBx)
            go_simp
            try with_reducible rfl
          try simp only [Act.put, List.setIfInBounds_toArray, List.set_cons_zero, List.set_cons_succ]
          refine wpL_done (by kernel_rfl) ?_
          clear hA hB
          go_wp2_with fail
          go_ret
          exact HFIN.out
end Go.Proofs.YtecckbkobkfnmaaDoor
