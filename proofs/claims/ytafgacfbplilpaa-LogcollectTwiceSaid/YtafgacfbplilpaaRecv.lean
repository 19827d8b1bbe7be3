/- Contracts: logcollect.element, logcollect.received. -/
import Derived.Test.YtafgacfbplilpaaProc
import Derived.Deep.DeepCutAuto
set_option linter.unusedVariables false
set_option linter.unusedSimpArgs false
namespace Go.Proofs.Ytafgacfbplilpaa
open Go.RowKit Go.Proofs

def elemS (cut : List Int) (q : Nat) : Int := match cut[q]? with | some x => x | none => 0
def stEv (l : List St) (k : Nat) : List Ev := match l[k]? with | some s => s.events | none => []
def receivedS (l : List St) (p : Nat) (m : Snd) (cut : List Int) : Bool :=
  if m.to < 0 ∨ (l.length : Int) ≤ m.to then false
  else decide (1 ≤ recvS (stEv l m.to.toNat) p (labelS (stEv l p) m.idx).inc (labelS (stEv l p) m.idx).idx m.ord) && decide (recvS (stEv l m.to.toNat) p (labelS (stEv l p) m.idx).inc (labelS (stEv l p) m.idx).idx m.ord ≤ elemS cut m.to.toNat)
def BoolKeep (x : Bool) (w : World) (e : Ending) (w' : World) : Prop := e = .returned (.bool x) ∧ Keep w w'

theorem element_any (w : World) (S : Nat → Prop) (A : Option Addr) (n c q : Nat) (cut : List Int) (h : Sl encI 1 w S A n c cut) (hq : q ≤ 1000000) :
    Calls Try.prog 46 #[.slice A n c, .int .i64 q] w fun e w' => e = .returned (.int .i64 (elemS cut q)) ∧ w = w' := by
  have hn := h.1
  by_cases hlt : q < n
  · obtain ⟨b, off, x, rfl, _, hx, hc⟩ := h.at_ encI_len hlt
    have hs : elemS cut q = x := by unfold elemS; rw [hx]
    have hc0 : w.cell? ⟨b, off + q, none⟩ = some (.int .i64 x) := by have := hc 0 _ rfl; simpa using this
    rw [hs]
    clear hs hx hc h hn
    go_enter Try.func46, Try.ntmps46
    go_wp2_with fail
    go_ret
    exact ⟨rfl, rfl⟩
  · have hs : elemS cut q = 0 := by unfold elemS; rw [List.getElem?_eq_none (by omega)]
    rw [hs]
    clear hs h hn
    go_enter Try.func46, Try.ntmps46
    go_wp2_with fail
    go_ret
    exact ⟨rfl, rfl⟩

def RcvCut (W0 : World) (inc idx : Int) (s9 : Value) (wx : World) : Prop := ∃ g : Nat, s9 = .pointer (some ⟨g, 0, none⟩) ∧ Blk wx g 69 #[.int .i64 inc, .int .i64 idx] ∧ Keep W0 wx

theorem SlR.st_at {w w' : World} {S : Nat → Prop} {A : Option Addr} {n c k : Nat} {l : List St} (h : SlR w S 4 (StR w S) A n c l) (hk : k < n) (hw : Same S w w') :
    ∃ (b off : Nat) (v0 v1 v2 v3 : Value) (s : St), A = some ⟨b, off, none⟩ ∧ S b ∧ l[k]? = some s ∧ StR w' S [v0, v1, v2, v3] s ∧ (w'.cell? ⟨b, off + k * 4, none⟩ = some v0 ∧ w'.cell? ⟨b, off + k * 4 + 1, none⟩ = some v1 ∧ w'.cell? ⟨b, off + k * 4 + 2, none⟩ = some v2 ∧ w'.cell? ⟨b, off + k * 4 + 3, none⟩ = some v3) := by
  obtain ⟨b, off, cs, s, e, hb, hl, hR, hlen, hc⟩ := h.at_ hk
  match cs, hlen with
  | [v0, v1, v2, v3], _ =>
    have hcc : ∀ j u, [v0, v1, v2, v3][j]? = some u → w'.cell? ⟨b, off + k * 4 + j, none⟩ = some u := fun j u hu => (hw.cell (p := ⟨b, off + k * 4 + j, none⟩) hb).trans (hc j u hu)
    exact ⟨b, off, v0, v1, v2, v3, s, e, hb, hl, hR.keep hw, hcc 0 _ rfl, hcc 1 _ rfl, hcc 2 _ rfl, hcc 3 _ rfl⟩

set_option maxHeartbeats 4000000 in
theorem lreceived_any (w : World) (S : Nat → Prop) (A A2 : Option Addr) (n c n2 c2 p : Nat) (l : List St) (cut : List Int) (m : Snd) (hS : ∀ i, S i → i < w.heap.size) (hl : SlR w S 4 (StR w S) A n c l) (hc : Sl encI 1 w S A2 n2 c2 cut) (hn : n ≤ 1000) (hp : p < n) :
    Calls Try.prog 42 #[.slice A n c, .int .i64 p, .agg #[.int .i64 m.idx, .int .i64 m.ord, .int .i64 m.to, .int .i64 m.val], .slice A2 n2 c2] w (BoolKeep (receivedS l p m cut) w) := by
  have hnl := Lib.hid hl.1
  have HL := Lib.hid hl
  have HC := Lib.hid hc
  have HS := Lib.hid hS
  clear hl hc hS
  by_cases c1 : m.to < 0
  · have hs : receivedS l p m cut = false := if_pos (.inl c1)
    rw [hs]
    clear hs
    have c1d : decide (m.to < 0) = true := by simpa using c1
    go_enter Try.func42, Try.ntmps42
    go_wp2_with fail
    go_ret
    exact ⟨rfl, Keep.new _ _⟩
  have c1d : decide (m.to < 0) = false := by simpa using c1
  by_cases c2 : (n : Int) ≤ m.to
  · have hs : receivedS l p m cut = false := if_pos (.inr (by have := hnl.out; omega))
    rw [hs]
    clear hs
    have c2d : decide ((n : Int) ≤ m.to) = true := by simpa using c2
    go_enter Try.func42, Try.ntmps42
    go_wp2_with fail
    go_ret
    exact ⟨rfl, Keep.new _ _⟩
  have c2d : decide ((n : Int) ≤ m.to) = false := by simpa using c2
  obtain ⟨t, ht⟩ : ∃ t : Nat, m.to = t := Int.eq_ofNat_of_zero_le (by omega)
  have htn : t < n := by omega
  have hid := Lib.hid ht
  generalize hres : receivedS l p m cut = res
  have HRES := Lib.hid hres
  clear hres ht
  go_enter Try.func42, Try.ntmps42
  go_upto_region 3 with fail
  generalize hW0 : w.alloc (.cells #[.int .i64 m.idx, .int .i64 m.ord, .int .i64 m.to, .int .i64 m.val] 62) = W0
  have hk0 : Keep w W0 := hW0 ▸ Keep.new _ _
  have hsz0 : w.heap.size < W0.heap.size := by rw [← hW0]; simp
  have hb0 : Blk W0 w.heap.size 62 #[.int .i64 m.idx, .int .i64 m.ord, .int .i64 m.to, .int .i64 m.val] := hW0 ▸ Blk.new _ _ _
  clear hW0
  obtain ⟨b, off, v0, v1, v2, v3, s, hA0, hSb, hls, hst, hc0, hc1, hc2, hc3⟩ := HL.out.st_at hp (Same.mono hk0 HS.out)
  obtain ⟨b', off', u0, u1, u2, u3, s', hA, hSb', hls', hst', hd0, hd1, hd2, hd3⟩ := HL.out.st_at htn (Same.mono hk0 HS.out)
  obtain ⟨rfl, rfl⟩ : b' = b ∧ off' = off := by rw [hA0] at hA; injection hA with hA; injection hA with h1 h2; exact ⟨h1.symm, h2.symm⟩
  subst hA0
  clear hA
  have hbw : b' < W0.heap.size := by have := HS.out b' hSb; have := hk0.size; omega
  have kc : ∀ (wx : World), Keep W0 wx → ∀ (g o : Nat), g < W0.heap.size → wx.cell? ⟨g, o, none⟩ = W0.cell? ⟨g, o, none⟩ := fun wx hx g o hg => hx.cell (p := ⟨g, o, none⟩) hg
  have m0 : ∀ wx, Keep W0 wx → wx.cell? ⟨w.heap.size, 0, none⟩ = some (.int .i64 m.idx) := fun wx hx => (kc wx hx _ _ hsz0).trans (by rw [hb0.cell]; rfl)
  have m1 : ∀ wx, Keep W0 wx → wx.cell? ⟨w.heap.size, 1, none⟩ = some (.int .i64 m.ord) := fun wx hx => (kc wx hx _ _ hsz0).trans (by rw [hb0.cell]; rfl)
  have m2 : ∀ wx, Keep W0 wx → wx.cell? ⟨w.heap.size, 2, none⟩ = some (.int .i64 m.to) := fun wx hx => (kc wx hx _ _ hsz0).trans (by rw [hb0.cell]; rfl)
  have x0 : ∀ wx, Keep W0 wx → wx.cell? ⟨b', off' + p * 4, none⟩ = some v0 := fun wx hx => (kc wx hx _ _ hbw).trans hc0
  have x1 : ∀ wx, Keep W0 wx → wx.cell? ⟨b', off' + p * 4 + 1, none⟩ = some v1 := fun wx hx => (kc wx hx _ _ hbw).trans hc1
  have x2 : ∀ wx, Keep W0 wx → wx.cell? ⟨b', off' + p * 4 + 2, none⟩ = some v2 := fun wx hx => (kc wx hx _ _ hbw).trans hc2
  have x3 : ∀ wx, Keep W0 wx → wx.cell? ⟨b', off' + p * 4 + 3, none⟩ = some v3 := fun wx hx => (kc wx hx _ _ hbw).trans hc3
  have y0 : ∀ wx, Keep W0 wx → wx.cell? ⟨b', off' + t * 4, none⟩ = some u0 := fun wx hx => (kc wx hx _ _ hbw).trans hd0
  have y1 : ∀ wx, Keep W0 wx → wx.cell? ⟨b', off' + t * 4 + 1, none⟩ = some u1 := fun wx hx => (kc wx hx _ _ hbw).trans hd1
  have y2 : ∀ wx, Keep W0 wx → wx.cell? ⟨b', off' + t * 4 + 2, none⟩ = some u2 := fun wx hx => (kc wx hx _ _ hbw).trans hd2
  have y3 : ∀ wx, Keep W0 wx → wx.cell? ⟨b', off' + t * 4 + 3, none⟩ = some u3 := fun wx hx => (kc wx hx _ _ hbw).trans hd3
  have lab := fun (wx : World) (hx : Keep W0 wx) => label_any wx S [v0, v1, v2, v3] s m.idx (fun i hi => by have := HS.out i hi; have := hk0.size; have := hx.size; omega) (hst.keep (Same.mono hx fun i hi => by have := HS.out i hi; have := hk0.size; omega))
  generalize hlb : labelS s.events m.idx = lb at lab
  have HLB := Lib.hid hlb
  have LAB := Lib.hid lab
  have rcv := fun (inc idx : Int) (wx : World) (hx : Keep W0 wx) => received_any wx S [u0, u1, u2, u3] s' p inc idx m.ord (fun i hi => by have := HS.out i hi; have := hk0.size; have := hx.size; omega) (hst'.keep (Same.mono hx fun i hi => by have := HS.out i hi; have := hk0.size; omega))
  have RCV := Lib.hid rcv
  have p0 : (0 : Int) ≤ p := by omega
  have p1 : (p : Int) < n := by omega
  have hS0 : Keep W0 W0.drew := (Same.refl _ _).drew
  have HK0 := Lib.hid hk0
  have HLS := Lib.hid hls
  have HLS' := Lib.hid hls'
  clear hlb lab rcv hc0 hc1 hc2 hc3 hd0 hd1 hd2 hd3 kc hst hst' hls hls' hb0 hk0
  have zb : ∀ wx, Keep ((W0.alloc (.cells #[.int .i64 0, .int .i64 0] 69)).drew) wx → Blk wx W0.heap.size 69 #[.int .i64 0, .int .i64 0] := fun wx hx => hx.blk (Blk.new W0 _ _) (by simp)
  have z0 : ∀ wx, Keep ((W0.alloc (.cells #[.int .i64 0, .int .i64 0] 69)).drew) wx → wx.cell? ⟨W0.heap.size, 0, none⟩ = some (.int .i64 0) := fun wx hx => by rw [(zb wx hx).cell]; rfl
  have z1 : ∀ wx, Keep ((W0.alloc (.cells #[.int .i64 0, .int .i64 0] 69)).drew) wx → wx.cell? ⟨W0.heap.size, 1, none⟩ = some (.int .i64 0) := fun wx hx => by rw [(zb wx hx).cell]; rfl
  have f0 : ∀ wx, Keep ((W0.alloc (.cells #[.int .i64 0, .int .i64 0] 69)).drew) wx → wx.frozen? ⟨W0.heap.size, 0, none⟩ = false := fun wx hx => (zb wx hx).frozen 0
  have f1 : ∀ wx, Keep ((W0.alloc (.cells #[.int .i64 0, .int .i64 0] 69)).drew) wx → wx.frozen? ⟨W0.heap.size, 1, none⟩ = false := fun wx hx => (zb wx hx).frozen 1
  have ZB := Lib.hid zb
  clear zb
  go_cut [9] (fun s9 wx => RcvCut W0 lb.inc lb.idx s9 wx)
  case first =>
    go_region_held3 (fun wx => Keep W0 wx)
      (first | assumption | exact hS0 | exact hkk | exact Keep.alloc hkk _ | exact Keep.alloc hS0 _ | exact Keep.alloc (by assumption) _ | exact Same.setCell (by assumption) (by simp) _ | exact Same.setCell (Same.setCell hkk (by simp) _) (by simp) _)
      (first | (go_at_call 44; refine (LAB.out _ (by assumption)).mono ?_; rintro e w1 ⟨rfl, hk1⟩; have hkk : Keep W0 w1 := Keep.trans (by assumption) hk1))
    all_goals (go_wp2_with fail; go_meet; first | exact ⟨w1.heap.size, rfl, Blk.new _ _ _, Keep.alloc hkk _⟩ | exact ⟨W0.heap.size, rfl, ((ZB.out _ hk1).set_ 0 _).set_ 1 _, Same.setCell (Same.setCell hkk (by simp) _) (by simp) _⟩)
  case rest =>
    obtain ⟨g, rfl, hbg, hkg⟩ := hcut
    have n1 : ∀ wx, Keep wc wx → wx.cell? ⟨w.heap.size, 1, none⟩ = some (.int .i64 m.ord) := fun wx hx => m1 wx (Keep.trans hkg hx)
    have n2' : ∀ wx, Keep wc wx → wx.cell? ⟨w.heap.size, 2, none⟩ = some (.int .i64 t) := fun wx hx => by rw [← hid.out]; exact m2 wx (Keep.trans hkg hx)
    have r0 : ∀ wx, Keep wc wx → wx.cell? ⟨b', off' + t * 4, none⟩ = some u0 := fun wx hx => y0 wx (Keep.trans hkg hx)
    have r1 : ∀ wx, Keep wc wx → wx.cell? ⟨b', off' + t * 4 + 1, none⟩ = some u1 := fun wx hx => y1 wx (Keep.trans hkg hx)
    have r2 : ∀ wx, Keep wc wx → wx.cell? ⟨b', off' + t * 4 + 2, none⟩ = some u2 := fun wx hx => y2 wx (Keep.trans hkg hx)
    have r3 : ∀ wx, Keep wc wx → wx.cell? ⟨b', off' + t * 4 + 3, none⟩ = some u3 := fun wx hx => y3 wx (Keep.trans hkg hx)
    have g0 : ∀ wx, Keep wc wx → wx.cell? ⟨g, 0, none⟩ = some (.int .i64 lb.inc) := fun wx hx => (hx.cell (p := ⟨g, 0, none⟩) hbg.lt).trans (by rw [hbg.cell]; rfl)
    have g1 : ∀ wx, Keep wc wx → wx.cell? ⟨g, 1, none⟩ = some (.int .i64 lb.idx) := fun wx hx => (hx.cell (p := ⟨g, 1, none⟩) hbg.lt).trans (by rw [hbg.cell]; rfl)
    have HKG := Lib.hid hkg
    have hS1 : Keep wc wc.drew := (Same.refl _ _).drew
    have t0 : (0 : Int) ≤ t := by omega
    have t1 : (t : Int) < n := by omega
    clear m0 m1 m2 x0 x1 x2 x3 y0 y1 y2 y3 z0 z1 f0 f1 hS0 hbg hkg
    go_wp2_with fail
    go_region_held3 (fun wx => Keep wc wx)
      (first | assumption | exact hS1 | exact hkk)
      (first | (go_at_call 45; refine (RCV.out _ _ _ (Keep.trans HKG.out (by assumption))).mono ?_; rintro e w3 ⟨rfl, hk3⟩; have hkk : Keep wc w3 := Keep.trans (by assumption) hk3))
    generalize hrv : recvS s'.events p lb.inc lb.idx m.ord = rv
    have hfin : res = (decide (1 ≤ rv) && decide (rv ≤ elemS cut t)) := by
      rw [← HRES.out]
      unfold receivedS
      rw [if_neg (by have := hnl.out; omega)]
      have e1 : stEv l p = s.events := by unfold stEv; rw [HLS.out]
      have e2 : stEv l m.to.toNat = s'.events := by unfold stEv; rw [hid.out, Int.toNat_natCast, HLS'.out]
      rw [e1, e2, HLB.out, hrv, hid.out, Int.toNat_natCast]
    have HFIN := Lib.hid hfin
    have HKW := Lib.hid (Keep.trans HK0.out (Keep.trans HKG.out hkk))
    have k2 := n2' _ hkk
    clear hfin hrv r0 r1 r2 r3 g0 g1 n1 n2' hk3 hkk
    by_cases e1 : 1 ≤ rv
    · go_wp2_with fail
      refine (element_any _ S A2 n2 _ t cut (HC.out.keep (Same.mono HKW.out HS.out)) (by omega)).mono ?_
      rintro e w4 ⟨rfl, rfl⟩
      have e1d : decide (1 ≤ rv) = true := by simpa using e1
      go_wp2_with fail
      go_ret
      exact ⟨by rw [HFIN.out, e1d]; simp, HKW.out⟩
    · have e1d : decide (1 ≤ rv) = false := by simpa using e1
      go_wp2_with fail
      go_ret
      exact ⟨by rw [HFIN.out, e1d]; simp, HKW.out⟩
end Go.Proofs.Ytafgacfbplilpaa
