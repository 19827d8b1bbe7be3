/- The sanity check of chapter 37 returns true. -/
import Derived.Test.YtafgacfbplilpaaUns
set_option linter.unusedVariables false
set_option linter.unusedSimpArgs false
namespace Go.Proofs.Ytafgacfbplilpaa
open Go.RowKit Go.Proofs

def TrueKeep (w : World) (e : Ending) (w' : World) : Prop := e = .returned (.bool true) ∧ Keep w w'
def l37 : List St := [⟨[], [], [⟨0, 0, 1, 0⟩, ⟨0, 1, 1, 0⟩], []⟩, ⟨[], [⟨1, 0, 0, 0, 0, 0, 0⟩], [], []⟩]
theorem uns37a : unsettledS l37 [0, 1] = [[⟨0, 1, 1, 0⟩], []] := by
  simp [unsettledS, unsRow, l37, receivedS, stEv, labelS, recvS, hitS, elemS, List.range_succ, List.findIdx?_cons]
theorem uns37b : unsettledS l37 [0, 0] = [[⟨0, 0, 1, 0⟩, ⟨0, 1, 1, 0⟩], []] := by
  simp [unsettledS, unsRow, l37, receivedS, stEv, labelS, recvS, hitS, elemS, List.range_succ, List.findIdx?_cons]
theorem l37_reads {w : World} {b0 b1 b2 : Nat} {S : Nat → Prop} (h0 : Blk w b0 62 #[.int .i64 0, .int .i64 0, .int .i64 1, .int .i64 0, .int .i64 0, .int .i64 1, .int .i64 1, .int .i64 0])
    (h1 : Blk w b1 71 #[.int .i64 1, .int .i64 0, .int .i64 0, .int .i64 0, .int .i64 0, .int .i64 0, .int .i64 0])
    (h2 : Blk w b2 67 #[.slice none 0 0, .slice none 0 0, .slice (some ⟨b0, 0, none⟩) 2 2, .slice none 0 0, .slice none 0 0, .slice (some ⟨b1, 0, none⟩) 1 1, .slice none 0 0, .slice none 0 0])
    (s0 : S b0) (s1 : S b1) (s2 : S b2) : SlR w S 4 (StR w S) (some ⟨b2, 0, none⟩) 2 2 l37 := by
  have r0 : Sl encSnd 4 w S (some ⟨b0, 0, none⟩) 2 2 [⟨0, 0, 1, 0⟩, ⟨0, 1, 1, 0⟩] := ⟨rfl, by omega, by simp [maxLen], rfl, fun _ => ⟨b0, 0, rfl, s0, fun j u hu => by rw [Nat.zero_add, h0.cell]; simpa [encSnd] using hu⟩⟩
  have r1 : Sl encEv 7 w S (some ⟨b1, 0, none⟩) 1 1 [⟨1, 0, 0, 0, 0, 0, 0⟩] := ⟨rfl, by omega, by simp [maxLen], rfl, fun _ => ⟨b1, 0, rfl, s1, fun j u hu => by rw [Nat.zero_add, h1.cell]; simpa [encEv] using hu⟩⟩
  refine ⟨rfl, by omega, by simp [maxLen], [[.slice none 0 0, .slice none 0 0, .slice (some ⟨b0, 0, none⟩) 2 2, .slice none 0 0], [.slice none 0 0, .slice (some ⟨b1, 0, none⟩) 1 1, .slice none 0 0, .slice none 0 0]], rfl, by simp, ⟨rfl, fun _ => ⟨b2, 0, rfl, s2, fun j u hu => by rw [Nat.zero_add, h2.cell]; simpa using hu⟩⟩, fun k cs a e1 e2 => ?_⟩
  match k, e1, e2 with
  | 0, e1, e2 =>
    simp [l37] at e1 e2
    subst e1 e2
    exact ⟨_, _, _, _, _, _, _, _, _, _, _, _, rfl, Sl.nil_, Sl.nil_, r0, Sl.nil_⟩
  | 1, e1, e2 =>
    simp [l37] at e1 e2
    subst e1 e2
    exact ⟨_, _, _, _, _, _, _, _, _, _, _, _, rfl, Sl.nil_, r1, Sl.nil_, Sl.nil_⟩
  | k + 2, e1, e2 => simp at e1
theorem ints2_reads {w : World} {b : Nat} {S : Nat → Prop} (x y : Int) (h : Blk w b 3 #[.int .i64 x, .int .i64 y]) (s : S b) : Sl encI 1 w S (some ⟨b, 0, none⟩) 2 2 [x, y] :=
  ⟨rfl, by omega, by simp [maxLen], rfl, fun _ => ⟨b, 0, rfl, s, fun j u hu => by rw [Nat.zero_add, h.cell]; simpa [encI] using hu⟩⟩

theorem Blk.new1 (w : World) (o : Obj) (t : TypeId) (cs : Array Value) : Blk ((w.alloc o).alloc (.cells cs t)) (w.heap.size + 1) t cs := by simpa using Blk.new (w.alloc o) t cs
theorem Blk.new2 (w : World) (o p : Obj) (t : TypeId) (cs : Array Value) : Blk (((w.alloc o).alloc p).alloc (.cells cs t)) (w.heap.size + 2) t cs := by simpa using Blk.new ((w.alloc o).alloc p) t cs
theorem Blk.new3 (w : World) (o p q : Obj) (t : TypeId) (cs : Array Value) : Blk ((((w.alloc o).alloc p).alloc q).alloc (.cells cs t)) (w.heap.size + 3) t cs := by simpa using Blk.new (((w.alloc o).alloc p).alloc q) t cs
set_option maxHeartbeats 2000000 in
theorem awake37_any (w : World) : Calls Try.prog 10 #[] w (TrueKeep w) := by
  go_enter Try.func10, Try.ntmps10
  go_wp2_with fail
  generalize hW : (((w.alloc _).alloc _).alloc _).alloc _ = W
  have hkW : Keep w W := hW ▸ Keep.alloc (Keep.alloc (Keep.alloc (Keep.new _ _) _) _) _
  have hsW : W.heap.size = w.heap.size + 4 := by rw [← hW]; simp
  have b0 : Blk W w.heap.size 62 #[.int .i64 0, .int .i64 0, .int .i64 1, .int .i64 0, .int .i64 0, .int .i64 1, .int .i64 1, .int .i64 0] := hW ▸ (((Blk.new _ _ _).alloc _).alloc _).alloc _
  have b1 : Blk W (w.heap.size + 1) 71 #[.int .i64 1, .int .i64 0, .int .i64 0, .int .i64 0, .int .i64 0, .int .i64 0, .int .i64 0] := hW ▸ ((Blk.new1 _ _ _ _).alloc _).alloc _
  have b2 : Blk W (w.heap.size + 2) 67 #[.slice none 0 0, .slice none 0 0, .slice (some ⟨w.heap.size, 0, none⟩) 2 2, .slice none 0 0, .slice none 0 0, .slice (some ⟨w.heap.size + 1, 0, none⟩) 1 1, .slice none 0 0, .slice none 0 0] := hW ▸ (Blk.new2 _ _ _ _ _).alloc _
  have b3 : Blk W (w.heap.size + 3) 3 #[.int .i64 0, .int .i64 1] := hW ▸ Blk.new3 _ _ _ _ _ _
  have HSW := Lib.hid hsW
  have lt4 : ∀ i, i < 4 → w.heap.size + i < W.heap.size := fun i hi => by rw [hsW]; omega
  clear hW hsW
  refine (unsettled_any W (fun i => i < W.heap.size) _ _ _ _ _ _ l37 [0, 1] (fun i h => h) (l37_reads b0 b1 b2 (lt4 0 (by omega)) (lt4 1 (by omega)) (lt4 2 (by omega))) (ints2_reads 0 1 b3 (lt4 3 (by omega))) (by omega) (by simp [l37])).mono ?_
  rintro e w1 ⟨A, n, c, rfl, hr1, hk1⟩
  rw [uns37a] at hr1
  obtain rfl : n = 2 := hr1.1
  have HR1 := Lib.hid hr1
  have HK1 := Lib.hid hk1
  have HKW := Lib.hid hkW
  have B0 := Lib.hid b0
  have B1 := Lib.hid b1
  have B2 := Lib.hid b2
  have LT4 := Lib.hid lt4
  clear hr1 hk1 hkW b0 b1 b2 b3 lt4
  go_wp2_with fail
  have hka : Keep W (w1.alloc (.cells #[.int .i64 0, .int .i64 0] 3)) := Keep.alloc HK1.out _
  refine (unsettled_any _ (fun i => i < w1.heap.size + 1) _ _ _ _ _ _ l37 [0, 0] (fun i h => by simpa using h) (l37_reads (hka.blk B0.out B0.out.lt) (hka.blk B1.out B1.out.lt) (hka.blk B2.out B2.out.lt) (by have := B0.out.lt; have := HK1.out.size; omega) (by have := B1.out.lt; have := HK1.out.size; omega) (by have := B2.out.lt; have := HK1.out.size; omega)) (ints2_reads 0 0 (Blk.new _ _ _) (by omega)) (by omega) (by simp [l37])).mono ?_
  rintro e w2 ⟨A', n', c', rfl, hr2, hk2⟩
  rw [uns37b] at hr2
  obtain rfl : n' = 2 := hr2.1
  have hk12 : Keep w1 w2 := Keep.of_alloc hk2
  obtain ⟨g1, o1, cs1, row1, rfl, hg1, e1, hrow1, _, hc1⟩ := HR1.out.at_ (k := 0) (by omega)
  obtain ⟨g2, o2, cs2, row2, rfl, hg2, e2, hrow2, _, hc2⟩ := hr2.at_ (k := 0) (by omega)
  simp at e1 e2
  subst e1 e2
  obtain ⟨A1, m1, k1, rfl, hs1⟩ := hrow1
  obtain ⟨A2, m2, k2, rfl, hs2⟩ := hrow2
  obtain rfl : m1 = 1 := hs1.1
  obtain rfl : m2 = 2 := hs2.1
  obtain ⟨g3, o3, x, rfl, hg3, e3, hc3⟩ := hs1.at_ encSnd_len (k := 0) (by omega)
  simp at e3
  subst e3
  have q1 : w2.cell? ⟨g1, o1, none⟩ = some (.slice (some ⟨g3, o3, none⟩) 1 k1) := (hk12.cell (p := ⟨g1, o1, none⟩) hg1.2).trans (by have := hc1 0 _ rfl; simpa using this)
  have q2 : w2.cell? ⟨g2, o2, none⟩ = some (.slice A2 2 k2) := by have := hc2 0 _ rfl; simpa using this
  have q3 : w2.cell? ⟨g3, o3 + 1, none⟩ = some (.int .i64 1) := (hk12.cell (p := ⟨g3, o3 + 1, none⟩) hg3.2).trans (by have := hc3 1 _ rfl; simpa using this)
  have HK := Lib.hid (Keep.trans HKW.out (Keep.trans HK1.out hk12))
  clear hr2 hk2 hk12 hc1 hc2 hc3 hs1 hs2 hka
  go_wp2_with fail
  go_ret
  exact ⟨rfl, HK.out⟩
end Go.Proofs.Ytafgacfbplilpaa
