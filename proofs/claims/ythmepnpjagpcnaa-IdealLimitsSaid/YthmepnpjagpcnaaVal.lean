/- eval.Value computes valS. -/
import Derived.Test.YthmepnpjagpcnaaExpr
set_option linter.unusedVariables false
set_option maxRecDepth 100000
set_option linter.unusedSimpArgs false
namespace Go.Proofs.Ythmepnpjagpcnaa
open Go.RowKit Go.Proofs

def ValueSaid (n : Nat) : Prop := ∀ (cells : List Int) (v : EnvS) (e : Ex) (w : World) (S : Nat → Prop) (A : Option Addr) (m c b off be : Nat), (∀ i, S i → i < w.heap.size) → ExAt w S n b off e → Sl encI 1 w S A m c cells → m ≤ 9223372036854775807 → EnvAt w S be v →
  Calls Try.prog 77 #[.pointer (some ⟨b, off, none⟩), .slice A m c, .pointer (some ⟨be, 0, none⟩)] w (ApplyPost (valS cells v n e) w)

theorem arg_any (n : Nat) (ih : ValueSaid n) (cells : List Int) (v : EnvS) (op val slot size : Int) (name : ByteArray) (args : List Ex) (w : World) (S : Nat → Prop) (A : Option Addr) (m c b off be i : Nat) (hi : i ≤ 1) (hS : ∀ i, S i → i < w.heap.size)
    (he : ExAt w S (n + 1) b off (.mk op val name slot size args)) (hc : Sl encI 1 w S A m c cells) (hm : m ≤ 9223372036854775807) (hv : EnvAt w S be v) :
    Calls Try.prog 79 #[.pointer (some ⟨b, off, none⟩), .int .i64 i, .slice A m c, .pointer (some ⟨be, 0, none⟩)] w (ApplyPost (argS cells v n args i) w) := by
  obtain ⟨hb, cs, ⟨_, _, A', m', c', rfl, hargs⟩, hcell⟩ := he
  have h5 := hcell 5 _ rfl
  have HI := Lib.hid ih
  have HC := Lib.hid hc
  have HV := Lib.hid hv
  have HA := Lib.hid hargs
  have HS := Lib.hid hS
  have hm' : m' ≤ 9223372036854775807 := Nat.le_trans hargs.2.1 hargs.2.2.1
  have hml := Lib.hid hargs.1
  clear ih hc hv hargs hS hcell
  by_cases h : m' ≤ i
  · have hs : argS cells v n args i = 0 := by
      unfold argS
      rw [List.getElem?_eq_none (by have := hml.out; omega)]
    rw [hs]
    clear hs
    have hd : (m' : Int) ≤ (i : Int) := by omega
    go_enter Try.func79, Try.ntmps79
    go_wp2_with fail
    go_ret
    exact ⟨rfl, Same.refl _ _⟩
  · obtain ⟨b', off', cs', a, rfl, hb', ha, hR, hl, hcell'⟩ := HA.out.at_ (k := i) (by omega)
    have hs : argS cells v n args i = valS cells v n a := by
      unfold argS
      rw [ha]
    rw [hs]
    clear hs
    have hd : ¬ (m' : Int) ≤ (i : Int) := by omega
    have hd2 : (i : Int) < (m' : Int) := by omega
    have hd3 : (0 : Int) ≤ (i : Int) := by omega
    have hA : ExAt w S n b' (off' + i * 6) a := ⟨hb', cs', hR, hcell'⟩
    have HE := Lib.hid hA
    clear hA hcell' hR ha
    go_enter Try.func79, Try.ntmps79
    go_wp2_with fail
    refine (HI.out cells v a w S A m c b' (off' + i * 6) be HS.out HE.out HC.out hm HV.out).mono ?_
    rintro e w1 ⟨rfl, hk⟩
    have HK := Lib.hid hk
    clear hk
    go_wp2_with fail
    go_ret
    exact ⟨rfl, HK.out⟩

theorem value_zero : ValueSaid 0 := fun _ _ e _ _ _ _ _ _ _ _ _ he => by
  obtain ⟨_, cs, h, _⟩ := he
  exact h.elim

set_option maxHeartbeats 4000000 in
theorem value_succ (n : Nat) (ih : ValueSaid n) : ValueSaid (n + 1) := by
  intro cells v e w S A m c b off be hS he hc hm hv
  obtain ⟨op, val, name, slot, size, args⟩ := e
  have HE := Lib.hid he
  have HI := Lib.hid ih
  have HC := Lib.hid hc
  have HV := Lib.hid hv
  have HS := Lib.hid hS
  obtain ⟨hb, cs, ⟨hsl, hsz, A', m', c', rfl, hargs⟩, hcell⟩ := he
  have c0 := hcell 0 _ rfl
  have c1 := hcell 1 _ rfl
  have c3 := hcell 3 _ rfl
  have c4 := hcell 4 _ rfl
  simp only [Nat.add_zero] at c0
  obtain ⟨_, e0, e1, e2, e3⟩ := hv
  clear ih hc hS hcell hargs
  by_cases h1 : op = 1
  · subst h1
    as_aux_lemma =>
    have hs : valS cells v (n + 1) (.mk 1 val name slot size args) = val := rfl
    rw [hs]
    clear hs
    go_enter Try.func77, Try.ntmps77
    go_wp2_with fail
    go_ret
    exact ⟨rfl, Same.refl _ _⟩
  by_cases h2 : op = 2
  · subst h2
    as_aux_lemma =>
    have hs : valS cells v (n + 1) (.mk 2 val name slot size args) = cellS cells slot := rfl
    rw [hs]
    clear hs
    go_enter Try.func77, Try.ntmps77
    go_wp2_with (go_at_call 78; refine (cell_any _ S A m c cells _ HC.out hm).mono ?_; rintro e w1 ⟨rfl, rfl⟩)
    go_ret
    exact ⟨rfl, Same.refl _ _⟩
  by_cases h3 : op = 3
  · subst h3
    as_aux_lemma =>
    have hs : valS cells v (n + 1) (.mk 3 val name slot size args) = idxS cells slot size (argS cells v n args 0) := rfl
    rw [hs]
    clear hs
    generalize hx : argS cells v n args 0 = x
    have HX := Lib.hid hx
    clear hx
    go_enter Try.func77, Try.ntmps77
    go_wp2_with fail
    refine (arg_any n HI.out cells v _ _ _ _ _ args w S A m c b off be 0 (by omega) HS.out HE.out HC.out hm HV.out).mono ?_
    rintro e w1 ⟨rfl, hk⟩
    rw [HX.out]
    have HK := Lib.hid hk
    have HKS := Lib.hid (Same.mono hk HS.out)
    have d3 : w1.cell? ⟨b, off + 3, none⟩ = some (.int .i64 slot) := (HKS.out.cell (p := ⟨b, off + 3, none⟩) hb).trans c3
    have d4 : w1.cell? ⟨b, off + 4, none⟩ = some (.int .i64 size) := (HKS.out.cell (p := ⟨b, off + 4, none⟩) hb).trans c4
    clear hk c0 c1 c3 c4 e0 e1 e2 e3
    by_cases g1 : x < 0
    · have hz : idxS cells slot size x = 0 := if_pos (.inl g1)
      have HZ := Lib.hid hz
      clear hz
      go_wp2_with fail
      go_ret
      exact ⟨by rw [HZ.out]; rfl, HK.out⟩
    by_cases g2 : size ≤ x
    · have hz : idxS cells slot size x = 0 := if_pos (.inr g2)
      have HZ := Lib.hid hz
      clear hz
      go_wp2_with fail
      go_ret
      exact ⟨by rw [HZ.out]; rfl, HK.out⟩
    have hz : idxS cells slot size x = cellS cells (wrap64 (slot + x)) := if_neg (by omega)
    have HZ := Lib.hid hz
    clear hz
    go_wp2_with (go_at_call 78; refine (cell_any _ S A m c cells _ (HC.out.keep HKS.out) hm).mono ?_; rintro e w2 ⟨rfl, rfl⟩)
    go_ret
    exact ⟨by rw [HZ.out]; rfl, HK.out⟩
  by_cases h4 : op = 4
  · subst h4
    as_aux_lemma =>
    have hs : valS cells v (n + 1) (.mk 4 val name slot size args) = v.self := rfl
    rw [hs]
    clear hs
    go_enter Try.func77, Try.ntmps77
    go_wp2_with fail
    go_ret
    exact ⟨rfl, Same.refl _ _⟩
  by_cases h5 : op = 5
  · subst h5
    as_aux_lemma =>
    have hs : valS cells v (n + 1) (.mk 5 val name slot size args) = v.procs := rfl
    rw [hs]
    clear hs
    go_enter Try.func77, Try.ntmps77
    go_wp2_with fail
    go_ret
    exact ⟨rfl, Same.refl _ _⟩
  by_cases h6 : op = 6
  · subst h6
    as_aux_lemma =>
    have hs : valS cells v (n + 1) (.mk 6 val name slot size args) = v.frm := rfl
    rw [hs]
    clear hs
    go_enter Try.func77, Try.ntmps77
    go_wp2_with fail
    go_ret
    exact ⟨rfl, Same.refl _ _⟩
  by_cases h7 : op = 7
  · subst h7
    as_aux_lemma =>
    have hs : valS cells v (n + 1) (.mk 7 val name slot size args) = v.val := rfl
    rw [hs]
    clear hs
    go_enter Try.func77, Try.ntmps77
    go_wp2_with fail
    go_ret
    exact ⟨rfl, Same.refl _ _⟩
  by_cases h8 : op < 8
  · as_aux_lemma =>
    have hs : valS cells v (n + 1) (.mk op val name slot size args) = 0 := by
      unfold valS
      rw [if_neg h1, if_neg h2, if_neg h3, if_neg h4, if_neg h5, if_neg h6, if_neg h7, if_pos (.inl h8)]
    rw [hs]
    clear hs
    have t1 : (op == 1) = false := by simpa using h1
    have t2 : (op == 2) = false := by simpa using h2
    have t3 : (op == 3) = false := by simpa using h3
    have t4 : (op == 4) = false := by simpa using h4
    have t5 : (op == 5) = false := by simpa using h5
    have t6 : (op == 6) = false := by simpa using h6
    have t7 : (op == 7) = false := by simpa using h7
    go_enter Try.func77, Try.ntmps77
    go_wp2_with fail
    go_ret
    exact ⟨rfl, Same.refl _ _⟩
  by_cases h9 : 22 < op
  · as_aux_lemma =>
    have hs : valS cells v (n + 1) (.mk op val name slot size args) = 0 := by
      unfold valS
      rw [if_neg h1, if_neg h2, if_neg h3, if_neg h4, if_neg h5, if_neg h6, if_neg h7, if_pos (.inr h9)]
    rw [hs]
    clear hs
    go_enter Try.func77, Try.ntmps77
    go_wp2_with fail
    go_ret
    exact ⟨rfl, Same.refl _ _⟩
  · as_aux_lemma =>
    have hs : valS cells v (n + 1) (.mk op val name slot size args) = applyS op (argS cells v n args 0) (argS cells v n args 1) := by
      rw [valS, if_neg h1, if_neg h2, if_neg h3, if_neg h4, if_neg h5, if_neg h6, if_neg h7, if_neg (by omega)]
      rfl
    rw [hs]
    clear hs h1 h2 h3 h4 h5 h6 h7
    generalize hx : argS cells v n args 0 = x
    generalize hy : argS cells v n args 1 = y
    have HX := Lib.hid hx
    have HY := Lib.hid hy
    have KX : ∀ w1 : World, Keep w w1 → Calls Try.prog 79 #[.pointer (some ⟨b, off, none⟩), .int .i64 0, .slice A m c, .pointer (some ⟨be, 0, none⟩)] w1 (ApplyPost x w1) := fun (w1 : World) (hk : Keep w w1) => hx ▸ arg_any n HI.out cells v op val slot size name args w1 S A m c b off be 0 (by omega) (fun i hi => Nat.lt_of_lt_of_le (HS.out i hi) hk.size) (HE.out.keep (Same.mono hk HS.out)) (HC.out.keep (Same.mono hk HS.out)) hm (HV.out.keep (Same.mono hk HS.out))
    have KY : ∀ w1 : World, Keep w w1 → Calls Try.prog 79 #[.pointer (some ⟨b, off, none⟩), .int .i64 1, .slice A m c, .pointer (some ⟨be, 0, none⟩)] w1 (ApplyPost y w1) := fun (w1 : World) (hk : Keep w w1) => hy ▸ arg_any n HI.out cells v op val slot size name args w1 S A m c b off be 1 (by omega) (fun i hi => Nat.lt_of_lt_of_le (HS.out i hi) hk.size) (HE.out.keep (Same.mono hk HS.out)) (HC.out.keep (Same.mono hk HS.out)) hm (HV.out.keep (Same.mono hk HS.out))
    have HKX := Lib.hid KX
    have HKY := Lib.hid KY
    have hbw := HS.out b hb
    clear hx hy KX KY c1 c3 c4 e0 e1 e2 e3
    go_enter Try.func77, Try.ntmps77
    go_wp2_with fail
    go_region_held3 (fun w' => w'.cell? ⟨b, off, none⟩ = some (.int .i64 op))
      (first | go_keep | ((refine (Same.cell (p := ⟨b, off, none⟩) (show Same (fun i => i < w.heap.size) w _ from ?_) (by exact hbw)).trans c0) <;> first | exact hk1 | exact hk2 | exact hk3))
      (first
        | (go_at_call 79; ((with_reducible refine (HKX.out _ ?_).mono ?_)); exact (Same.refl _ _).drew; rintro e w1 ⟨rfl, hk⟩; have hk1 : Keep w w1 := Keep.trans ((Same.refl _ _).drew) hk)
        | (go_at_call 79; ((with_reducible refine (HKY.out _ hk1).mono ?_)); rintro e w2 ⟨rfl, hk⟩; have hk2 : Keep w w2 := Keep.trans hk1 hk)
        | (go_at_call 80; refine (apply_any _ _ _ _).mono ?_; rintro e w3 ⟨rfl, hk⟩; have hk3 : Keep w w3 := Keep.trans hk2 hk))
    go_wp2_with fail
    go_ret
    exact ⟨rfl, hk3⟩

theorem value_all : ∀ n, ValueSaid n
  | 0 => value_zero
  | n + 1 => value_succ n (value_all n)

theorem Value_any (n : Nat) (cells : List Int) (v : EnvS) (e : Ex) (cs : List Value) (w : World) (S : Nat → Prop) (A : Option Addr) (m c : Nat) (hS : ∀ i, S i → i < w.heap.size) (he : ExR w S n cs e) (hc : Sl encI 1 w S A m c cells) (hm : m ≤ 9223372036854775807) :
    Calls Try.prog 76 #[.agg cs.toArray, .slice A m c, .agg #[.int .i64 v.self, .int .i64 v.procs, .int .i64 v.frm, .int .i64 v.val]] w (ApplyPost (valS cells v n e) w) := by
  match n, e, he with
  | n + 1, .mk op val name slot size args, he =>
    have HE := Lib.hid he
    obtain ⟨_, _, A', m', c', rfl, _⟩ := he
    have HC := Lib.hid hc
    have HS := Lib.hid hS
    clear hc hS
    generalize hx : valS cells v (n + 1) (.mk op val name slot size args) = x
    have HX := Lib.hid hx
    clear hx
    go_enter Try.func76, Try.ntmps76
    go_wp2_with fail
    have hk : Keep w ((w.alloc (.cells #[.int .i64 op, .int .i64 val, .string name, .int .i64 slot, .int .i64 size, .slice A' m' c'] 97)).alloc (.cells #[.int .i64 v.self, .int .i64 v.procs, .int .i64 v.frm, .int .i64 v.val] 146)) := Keep.alloc (Keep.new _ _) _
    have hb1 : Blk ((w.alloc (.cells #[.int .i64 op, .int .i64 val, .string name, .int .i64 slot, .int .i64 size, .slice A' m' c'] 97)).alloc (.cells #[.int .i64 v.self, .int .i64 v.procs, .int .i64 v.frm, .int .i64 v.val] 146)) w.heap.size 97 #[.int .i64 op, .int .i64 val, .string name, .int .i64 slot, .int .i64 size, .slice A' m' c'] := (Blk.new _ _ _).alloc _
    have hb2 : Blk ((w.alloc (.cells #[.int .i64 op, .int .i64 val, .string name, .int .i64 slot, .int .i64 size, .slice A' m' c'] 97)).alloc (.cells #[.int .i64 v.self, .int .i64 v.procs, .int .i64 v.frm, .int .i64 v.val] 146)) (w.heap.size + 1) 146 #[.int .i64 v.self, .int .i64 v.procs, .int .i64 v.frm, .int .i64 v.val] := by
      have := Blk.new (w.alloc (.cells #[.int .i64 op, .int .i64 val, .string name, .int .i64 slot, .int .i64 size, .slice A' m' c'] 97)) 146 #[.int .i64 v.self, .int .i64 v.procs, .int .i64 v.frm, .int .i64 v.val]
      simpa using this
    have hS2 : ∀ i, S i → S i ∨ i = w.heap.size ∨ i = w.heap.size + 1 := fun i h => .inl h
    refine (value_all (n + 1) cells v (.mk op val name slot size args) _ (fun i => S i ∨ i = w.heap.size ∨ i = w.heap.size + 1) A m c w.heap.size 0 (w.heap.size + 1) ?_ ?_ ?_ hm ?_).mono ?_
    · intro i hi
      simp
      rcases hi with hi | hi | hi
      · have := HS.out i hi; omega
      · omega
      · omega
    · refine ⟨.inr (.inl rfl), _, ExR.more hS2 _ _ _ (ExR.keep (Same.mono hk HS.out) _ _ _ HE.out), fun j u hu => ?_⟩
      rw [Nat.zero_add, hb1.cell]
      simpa using hu
    · exact (HC.out.keep (Same.mono hk HS.out)).more hS2
    · exact ⟨.inr (.inr rfl), by rw [hb2.cell]; rfl, by rw [hb2.cell]; rfl, by rw [hb2.cell]; rfl, by rw [hb2.cell]; rfl⟩
    · rintro e w1 ⟨rfl, hk1⟩
      have HK := Lib.hid (Keep.trans hk hk1)
      clear hk hk1 hb1 hb2 hS2
      go_wp2_with fail
      go_ret
      exact ⟨by rw [← HX.out]; rfl, HK.out⟩
end Go.Proofs.Ythmepnpjagpcnaa
