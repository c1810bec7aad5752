/- SupportStairs at any arguments. -/
import Derived.Test.YtklkhnhieihfoaaSupLa
import Derived.Test.YtklkhnhieihfoaaSupLb
namespace Go.Proofs.Ytklkhnhieihfoaa
open Go Go.RowKit
set_option linter.unusedVariables false
theorem stairs_any (px py vx vy hx hy n1 n2 again : Int) (w : World) :
    Calls Try.prog 4 #[.agg #[.int .i64 px, .int .i64 py, .int .i64 vx, .int .i64 vy, .int .i64 hx, .int .i64 hy], .agg #[.int .i64 n1, .int .i64 n2], .int .i64 again] w fun e w' => e = .returned (.bool true) ∧ Below w.heap.size w w' := by
  by_cases h : usualB px py vx vy hx hy = true ∧ withinB n1 n2 1048576 = true ∧ ¬ (n1 = 0 ∧ n2 = 0) ∧ 1 ≤ again ∧ again ≤ 6
  · rcases (by have := h.2.2.1; omega : ¬ n1 = 0 ∨ (n1 = 0 ∧ ¬ n2 = 0)) with hz | ⟨rfl, hz⟩
    · exact stairs_goodA px py vx vy hx hy n1 n2 again w h.1 h.2.1 hz h.2.2.2.1 h.2.2.2.2
    · exact stairs_goodB px py vx vy hx hy n2 again w h.1 h.2.1 hz h.2.2.2.1 h.2.2.2.2
  · exact stairs_bad px py vx vy hx hy n1 n2 again w h
end Go.Proofs.Ytklkhnhieihfoaa
