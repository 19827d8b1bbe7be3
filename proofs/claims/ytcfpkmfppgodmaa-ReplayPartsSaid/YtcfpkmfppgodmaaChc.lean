/- Choices as cells, and a made row. -/
import Derived.Test.YtcfpkmfppgodmaaGA
set_option linter.unusedVariables false
set_option linter.unusedSimpArgs false
set_option maxRecDepth 100000
namespace Go.Proofs.Ytcfpkmfppgodmaa
open Go.RowKit Go.Proofs

structure Chc where
  proc : Int
  kind : Int
  frm : Int
  idx : Int
  ord : Int
  val : Int
def encCh (x : Chc) : List Value := [.int .i64 x.proc, .int .i64 x.kind, .int .i64 x.frm, .int .i64 x.idx, .int .i64 x.ord, .int .i64 x.val]
theorem encCh_len (x : Chc) : (encCh x).length = 6 := rfl
theorem encCh_one (d : Chc) : ∀ u ∈ encCh d, u.oneCell' = true := by
  intro u hu
  simp [encCh] at hu
  rcases hu with h | h | h | h | h | h <;> subst h <;> rfl
theorem info_Choice : (Try.prog.info? 45).map (fun i => (i.zero, i.size, i.bytes)) = some (some (.agg #[.int .i64 0, .int .i64 0, .int .i64 0, .int .i64 0, .int .i64 0, .int .i64 0]), 6, 48) := by kernel_rfl
theorem run_make_row {P : Program} (t e : TypeId) (i : TypeInfo) (z : Value) (ht : P.underlying t = some (.slice e)) (hi : P.info? e = some i) (hz : i.zero = some z)
    (kl kc : IntKind) (n c : Nat) (hnc : n ≤ c) (hbytes : i.bytes * c ≤ 281474976710656) (h63 : c ≤ 9223372036854775807) (w : World) :
    (Instr.makeSlice t (.int kl (n : Int)) (.int kc (c : Int))).run P w = .ok (.slice (some ⟨w.heap.size, 0, none⟩) n c) (w.alloc (.cells (madeCells z.cells (c * i.size)) e)) := by
  have hb : (i.bytes : Int) * (c : Int) ≤ 281474976710656 := by
    have h : ((i.bytes * c : Nat) : Int) ≤ 281474976710656 := by omega
    rwa [Int.natCast_mul] at h
  have hr := run_make (P := P) w t e i z ht hi hz kl kc n c (by omega) (by omega) hb (by omega)
  simp only [Int.toNat_natCast] at hr
  exact hr
end Go.Proofs.Ytcfpkmfppgodmaa
