/- The law LinkOrder; the beginning of the laws that make steps. -/
import Derived.Test.YtafgacfbplilpaaLinkT
import Derived.Test.YtafgacfbplilpaaLinkI
set_option linter.unusedVariables false
set_option linter.unusedSimpArgs false
namespace Go.Proofs.Ytafgacfbplilpaa
open Go.RowKit Go.Proofs

/-- Where a law stands that makes steps: gk choices are left. -/
def LawRel (w0 : World) (g gc : Nat) (win : Int) (gk : Nat) (wr : World) : Prop :=
  ∃ (L : Nat → Nat) (st : Ws), WS wr L g gc st gk ∧ Inv st gk ∧ st.k.win = win ∧ (∀ i, i < w0.heap.size → L i = 6 ∧ i ≠ gc) ∧ Keep w0 wr
theorem arriveS_win (k : Lk) (p : Pk) : (arriveS k p).win = k.win := by
  unfold arriveS
  split
  · rfl
  · split <;> rfl
theorem Sl.zero {α : Type} {enc : α → List Value} {size : Nat} {w w' : World} {S T : Nat → Prop} {A : Option Addr} {n c : Nat} (h : Sl enc size w S A n c []) : Sl enc size w' T A n c [] := by
  obtain rfl : n = 0 := h.1
  exact ⟨rfl, h.2.1, h.2.2.1, by simpa using Reads.none_⟩
theorem StepR.win {s t : Ws} (h : StepR s t) : t.k.win = s.k.win := by
  cases h with
  | same => rfl
  | offer => rfl
  | packets => rfl
  | arriveKeep n p => exact arriveS_win _ _
  | arrive n p => exact arriveS_win _ _
  | confirm n p => simp only; unfold confirmS; split <;> rfl
  | lose => rfl
theorem LawRel.next {w0 : World} {g gc : Nat} {win : Int} {r : Nat} {L : Nat → Nat} {st : Ws} {wr w' : World} {e : Ending} (hinv : Inv st r) (hw : st.k.win = win) (hL : ∀ i, i < w0.heap.size → L i = 6 ∧ i ≠ gc) (hk : Keep w0 wr) (h0 : 0 < r)
    (h : StepPost L g gc st r wr e w') : ∃ r', r' < r ∧ e = .returned (.bool true) ∧ LawRel w0 g gc win r' w' := by
  obtain ⟨L', st', r', he, hs, hr, hws, hL', hsame⟩ := h
  have hz := hk.size
  refine ⟨r', by omega, he, L', st', hws, hinv.step hs hr h0, hs.win.trans hw, fun i hi => ⟨by rw [hL' i (by omega)]; exact (hL i hi).1, (hL i hi).2⟩, Same.trans hk hsame (fun i hi => ⟨by omega, .inr (hL i hi).1, (hL i hi).2⟩)⟩
theorem WS.draws {w : World} {L : Nat → Nat} {g gc : Nat} {st : Ws} {r : Nat} (h : WS w L g gc st r) (m : Nat) : WS (w.drewN m) L g gc st r := by
  obtain ⟨h1, ⟨C, hp⟩, hc⟩ := h
  have hd : Same (fun _ => True) w (w.drewN m) := (Same.refl _ _).drewN m
  exact ⟨h1, ⟨C, hp.same hd trivial (fun _ _ => trivial) (fun _ _ => trivial) (fun _ _ => trivial) (fun _ _ => trivial) (fun _ _ => trivial)⟩, hc.same (hd.mono (fun _ _ => trivial))⟩
def lab0 (n0 g gc : Nat) (i : Nat) : Nat := if i = g then 5 else if i < n0 ∨ i = gc then 6 else 0
/-- The state before the first step. -/
theorem LawRel.start {w0 w1 w3 w4 : World} {S : Nat → Prop} {g r : Nat} {win : Int} {B1 B2 : Option Addr} {m1 d1 m2 d2 : Nat} (h0 : 1 ≤ win) (h1 : win ≤ 8) (hr : r ≤ 240) (hg : w0.heap.size ≤ g) (hgw : g < w3.heap.size) (hk3 : Keep w0 w3)
    (k1 : Sl encI 1 w1 S B1 m1 d1 []) (k2 : Sl encPk 3 w1 S B2 m2 d2 [])
    (hb : Blk w3 g 41 #[.int .i64 win, .int .i64 1, .slice B1 m1 d1, .int .i64 1, .slice B2 m2 d2, .slice none 0 0, .slice none 0 0, .slice none 0 0, .slice none 0 0])
    (hc : Cod w4 (fun i => i < w0.heap.size ∨ i = w3.heap.size) w3.heap.size r) (hk4 : Keep w3 w4) : LawRel w0 g w3.heap.size win r w4 := by
  have hz3 := hk3.size
  have hcl := hc.lt
  refine ⟨lab0 w0.heap.size g w3.heap.size, ⟨⟨win, 1, [], 1, []⟩, [], [], [], []⟩, ⟨if_pos rfl, ⟨⟨B1, m1, d1, B2, m2, d2, none, 0, 0, none, 0, 0, none, 0, 0, none, 0, 0⟩, hk4.blk hb hgw, k1.zero, k2.zero, Ap.nil_, Ap.nil_, Ap.nil_, Ap.nil_, rfl, rfl, rfl, rfl⟩, hc.more (fun i hi => ?_) (fun i hi => hi.1)⟩, Inv.start win h0 h1 r hr, rfl, fun i hi => ⟨(if_neg (by omega)).trans (if_pos (.inl hi)), by omega⟩, Keep.trans hk3 hk4⟩
  have hlt := hc.2.1 i hi
  exact ⟨hlt, (if_neg (by omega)).trans (if_pos hi)⟩

theorem sameInts_q (w : World) (k : Nat) (S T : Nat → Prop) (A A2 : Option Addr) (n n2 c c2 : Nat) (l : List Int) (hl : Sl encI 1 w S A n c l) (hl2 : Sl encI 1 w T A2 n2 c2 l) (hn : n ≤ 1000000) :
    Calls Try.prog 21 #[.slice A n c, .slice A2 n2 c2] (w.drewN k) fun e w'' => e = .returned (.bool true) ∧ ∃ m, w'' = w.drewN m :=
  Calls.quiet_of (sameInts_any (w.drewN k) S T A A2 n n2 c c2 l (hl.keep ((Same.refl _ _).drewN k)) (hl2.keep ((Same.refl _ _).drewN k)) hn)
set_option maxHeartbeats 8000000 in
set_option maxRecDepth 100000 in
theorem linkOrder_walk (w : World) (x : Int) (A : Option Addr) (n c : Nat) (zs : List Int) (hx0 : 0 ≤ x) (hx1 : x < 256) (hz : Sl encB 1 w (· < w.heap.size) A n c zs) (hz8 : ∀ y ∈ zs, 0 ≤ y ∧ y < 256) :
    Calls Try.prog 4 #[.int .u8 x, .slice A n c] w (KTrue w) := by
  have HZ := Lib.hid hz
  have HZ8 := Lib.hid hz8
  clear hz hz8
  go_enter Try.func4, Try.ntmps4
  go_wp2_with fail
  refine (awake15_any w).mono ?_
  rintro e w0 ⟨rfl, hk0⟩
  have HK0 := Lib.hid hk0
  clear hk0
  go_wp2_with fail
  have hs1 : 1 ≤ 1 + x % 8 := by omega
  have hs2 : 1 + x % 8 ≤ 8 := by omega
  generalize 1 + x % 8 = s at *
  have e0 : newS s = ⟨s, 1, [], 1, []⟩ := if_neg (by omega)
  refine (new15_any s w0 (fun _ => False)).mono ?_
  rw [e0]
  clear e0
  rintro e w1 ⟨cs1, rfl, ⟨B1, B2, m1, d1, m2, d2, rfl, k1, k2⟩, hk1⟩
  obtain rfl : m1 = 0 := k1.1
  obtain rfl : m2 = 0 := k2.1
  have K1 := Lib.hid k1
  have K2 := Lib.hid k2
  have HK1 := Lib.hid hk1
  clear k1 k2 hk1
  have hz0 := HK0.out.size
  have hz1 := HK1.out.size
  go_upto_region 5 with (first
    | (refine wpList_store_all rfl _ (.tmp 5) (.tmp 17) rfl w1.heap.size 35 _ [.int .i64 s, .int .i64 1, .slice B1 0 d1, .int .i64 1, .slice B2 0 d2] rfl rfl (Blk.new _ _ _) rfl (by kernel_rfl) rfl ?_; intro w2 hb2 hs2; have HB2 := Lib.hid hb2; have HK2 : Hid (Keep w1 w2) := Lib.hid (Keep.write (Keep.new w1 _) hs2 (Nat.le_refl _)); clear hb2 hs2)
    | (refine wpList_load_all rfl _ (.tmp 5) rfl w1.heap.size 35 [.int .i64 s, .int .i64 1, .slice B1 0 d1, .int .i64 1, .slice B2 0 d2] _ rfl HB2.out Try.underlying35 rfl (by kernel_rfl) ?_))
  generalize hW : w2.alloc (.cells #[.int .i64 s, .int .i64 1, .slice B1 0 d1, .int .i64 1, .slice B2 0 d2, .slice none 0 0, .slice none 0 0, .slice none 0 0, .slice none 0 0] 41) = W
  have hbW : Blk W w2.heap.size 41 _ := hW ▸ Blk.new _ _ _
  have hkW : Keep w W := hW ▸ Keep.alloc (Keep.trans HK0.out (Keep.trans HK1.out HK2.out)) _
  have hz2 := HK2.out.size
  have hzW : w2.heap.size < W.heap.size := hbW.lt
  have HBW := Lib.hid hbW
  have HKW := Lib.hid hkW
  clear hbW hkW
  clear hW
  go_wp2_with fail
  refine (new_any W A n c 240 zs (fun i => i < w.heap.size) (fun i hi => by have := HKW.out.size; omega) (HZ.out.keep HKW.out) HZ8.out (by omega)).mono ?_
  rintro e w4 ⟨r, hr, rfl, hc4, hk4⟩
  have hlaw : LawRel w w2.heap.size W.heap.size s r w4 := LawRel.start hs1 hs2 hr (by omega) hzW HKW.out K1.out K2.out HBW.out hc4 hk4
  have HLAW := Lib.hid hlaw
  clear hlaw
  clear hc4 hk4
  generalize W.heap.size = gc at *
  generalize w2.heap.size = g at *
  clear HBW HKW
  go_wp2_with fail
  go_loopg [] r (fun gk wr => LawRel w g gc s gk wr)
  case atStart => exact HLAW.out
  case round =>
    obtain ⟨L, st, hws, hinv, hwin, hL, hkr⟩ := hrel
    have hws' := hws
    obtain ⟨hLg, ⟨C, hp⟩, hcod⟩ := hws'
    have HWS := Lib.hid hws
    have HINV := Lib.hid hinv
    have HWIN := Lib.hid hwin
    have HL := Lib.hid hL
    have HKR := Lib.hid hkr
    have HLG := Lib.hid hLg
    have HP := Lib.hid hp
    clear hws hinv hwin hL hkr hLg hp
    go_wp2_with fail
    refine (left_any wr (Lab wr L 6) gc gk hcod).mono ?_
    rintro e w5 ⟨rfl, m5, rfl⟩
    clear hcod
    by_cases h0 : 0 < gk
    · have hd0 : decide (0 < gk) = true := by simpa using h0
      have g7 : wr.cell? ⟨g, 7, none⟩ = some (.slice C.A3 C.n3 C.c3) := by rw [HP.out.blk.cell]; rfl
      by_cases h60 : C.n3 < 60
      · have hd60 : decide ((C.n3 : Int) < 60) = true := by simp; omega
        go_wp2_with fail
        refine (step_any (wr.drewN m5) L g gc st gk false (HWS.out.draws m5) HINV.out.ok).mono ?_
        intro e w6 hpost
        obtain ⟨r6, hr6, rfl, hlaw6⟩ := LawRel.next HINV.out HWIN.out HL.out (Same.drewN HKR.out m5) h0 hpost
        have hl6 := hlaw6
        obtain ⟨L6, st6, ⟨_, ⟨C6, hp6⟩, _⟩, hinv6, _, _, _⟩ := hl6
        have c0 := hp6.blk.cell 0
        have c1 := hp6.blk.cell 1
        have c2 := hp6.blk.cell 2
        have c3 := hp6.blk.cell 3
        have c7 := hp6.blk.cell 7
        have c8 := hp6.blk.cell 8
        simp [Cls.all] at c0 c1 c2 c3 c7 c8
        have i1 := hinv6.outl
        have i2 := hinv6.want
        have i3 := hinv6.bw
        have i4 := hinv6.sum
        have n3e := hp6.linn
        have n4e := hp6.lout
        have n1e := hp6.kept.1
        have b1 := hinv6.base1
        have l1 := hinv6.linn
        have x1 : decide (C6.n3 < C6.n4) = false := by simp; omega
        have x2 : (st6.k.want != (C6.n4 : Int) + 1) = false := by simp; omega
        have x3 : decide (st6.k.want < st6.k.base) = false := by simp; omega
        have x4 : decide (st6.k.base + (C6.m1 : Int) < st6.k.want) = false := by simp; omega
        have x5 : (0 : Int) ≤ C6.n4 := by omega
        have x6 : (C6.n4 : Int) ≤ C6.c3 := by have := hp6.inn.2.1; omega
        have x7 : C6.c3 ≤ 9223372036854775807 := hp6.inn.2.2.1
        have x8 : C6.m1 ≤ 1000 := by omega
        have x9 : C6.n4 ≤ 1000 := by omega
        have x10 : st6.k.base ≤ 1000 := by omega
        have hso : Sl encI 1 w6 (Lab w6 L6 4) C6.A4 C6.n4 C6.c4 st6.out := hp6.out.sl n4e
        have hsi : Sl encI 1 w6 (Lab w6 L6 3) C6.A3 C6.n4 C6.c3 st6.out := by
          have := (hp6.inn.sl n3e).to_ encI_len (k := C6.n4) (by omega)
          rw [n4e, ← hinv6.outp] at this
          rw [n4e]
          exact this
        have y1 : IntKind.i64.wrap ((C6.n4 : Int) + 1) = (C6.n4 : Int) + 1 := IntWalk.i64_in _ (by omega)
        have y2 : IntKind.i64.wrap (st6.k.base + (C6.m1 : Int)) = st6.k.base + (C6.m1 : Int) := IntWalk.i64_in _ (by omega)
        have HLAW6 := Lib.hid hlaw6
        have HP6 := Lib.hid hp6
        have HINV6 := Lib.hid hinv6
        have HSO := Lib.hid hso
        have HSI := Lib.hid hsi
        clear hlaw6 hp6 hinv6 hso hsi
        clear i1 i2 i3 i4 n3e n4e n1e l1 hpost
        go_wp2_with fail
        go_quiet ((go_at_call 21; exact sameInts_q w6 _ _ _ C6.A4 C6.A3 C6.n4 C6.n4 C6.c4 C6.c3 st6.out HSO.out HSI.out (by omega)))
        clear y1 y2
        go_wp2_with fail
        go_roundg r6
        case measure => exact hr6
        case rel =>
          obtain ⟨L7, st7, h1, h2, h3, h4, h5⟩ := HLAW6.out
          exact ⟨L7, st7, h1.draws _, h2, h3, h4, Same.drewN h5 _⟩
      · have hd60 : decide ((C.n3 : Int) < 60) = false := by simp; omega
        go_wp2_with fail
        go_ret
        exact ⟨rfl, Same.drewN HKR.out _⟩
    · have hd0 : decide (0 < gk) = false := by simpa using h0
      go_wp2_with fail
      go_ret
      exact ⟨rfl, Same.drewN HKR.out _⟩
end Go.Proofs.Ytafgacfbplilpaa
