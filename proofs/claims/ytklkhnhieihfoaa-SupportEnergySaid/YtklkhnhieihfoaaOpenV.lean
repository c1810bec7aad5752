/- Vectors and motions that came in, opened. -/
import Derived.Test.YtklkhnhieihfoaaOpen
import Derived.Test.YtklkhnhieihfoaaProg
import Derived.KernelRfl
namespace Go.Proofs.Ytklkhnhieihfoaa
open Go
def Bd (z : Int) : Prop := -9223372036854775808 ≤ z ∧ z ≤ 9223372036854775807
theorem cells_int : Try.prog.cellsOf 3 = 1 := by kernel_rfl
theorem cells_vec : Try.prog.cellsOf 23 = 2 := by kernel_rfl
theorem row_vec {w : World} {n : Nat} {cs : List Value} (h : RowIs Try.prog w n 23 cs) : ∃ x y : Int, cs = [.int .i64 x, .int .i64 y] ∧ Bd x ∧ Bd y := by
  obtain ⟨hl, m, hf⟩ := rowIs_struct Try.underlying23 h
  rw [cells_vec] at hl
  obtain ⟨c0, c1, rfl⟩ := len2 hl
  obtain ⟨h0, h1⟩ := all2 hf
  simp only [cells_int, List.drop_zero, List.drop_succ_cons, List.take_succ_cons, List.take_zero] at h0 h1
  obtain ⟨x, hx, wx⟩ := rowIs_int Try.underlying3 h0
  obtain ⟨y, hy, wy⟩ := rowIs_int Try.underlying3 h1
  simp only [List.cons.injEq, and_true] at hx hy
  exact ⟨x, y, by rw [hx, hy], wf_bd wx, wf_bd wy⟩
theorem cells_motion : Try.prog.cellsOf 25 = 6 := by kernel_rfl
theorem row_motion {w : World} {n : Nat} {cs : List Value} (h : RowIs Try.prog w n 25 cs) :
    ∃ px py vx vy hx hy : Int, cs = [.int .i64 px, .int .i64 py, .int .i64 vx, .int .i64 vy, .int .i64 hx, .int .i64 hy] ∧ Bd px ∧ Bd py ∧ Bd vx ∧ Bd vy ∧ Bd hx ∧ Bd hy := by
  obtain ⟨hl, m, hf⟩ := rowIs_struct Try.underlying25 h
  rw [cells_motion] at hl
  obtain ⟨c0, c1, c2, c3, c4, c5, rfl⟩ := len6 hl
  obtain ⟨h0, h1, h2⟩ := all3 hf
  simp only [cells_vec, List.drop_zero, List.drop_succ_cons, List.take_succ_cons, List.take_zero] at h0 h1 h2
  obtain ⟨x0, y0, e0, b0, d0⟩ := row_vec h0
  obtain ⟨x1, y1, e1, b1, d1⟩ := row_vec h1
  obtain ⟨x2, y2, e2, b2, d2⟩ := row_vec h2
  simp only [List.cons.injEq, and_true] at e0 e1 e2
  exact ⟨x0, y0, x1, y1, x2, y2, by rw [e0.1, e0.2, e1.1, e1.2, e2.1, e2.2], b0, d0, b1, d1, b2, d2⟩
end Go.Proofs.Ytklkhnhieihfoaa
