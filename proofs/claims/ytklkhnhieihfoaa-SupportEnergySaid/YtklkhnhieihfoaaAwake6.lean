/- The contract of pinballlaw06.awake: it returns true.  -/
import Derived.Test.YtklkhnhieihfoaaLiftW
namespace Go.Proofs.Ytklkhnhieihfoaa
open Go.RowKit
set_option linter.unusedVariables false
theorem lift_a : liftR (3, -4) [(0, 1)] = (3, 0) := by decide
theorem lift_b : liftR (0, -5) [(1, 2)] = (2, -1) := by decide
theorem turn_a : turnR 257 0 0 1 = (255, 32, true) := by decide
theorem mul_a : mulDivR 1099511627776 1099511627776 (-1125899906842624) = (-1073741824, true) := by decide
theorem root_a : rootR 99 = 9 := by decide
theorem vs_one (w : World) (B g : Nat) (a b : Int) (h0 : w.cell? ⟨g, 0, none⟩ = some (.int .i64 a)) (h1 : w.cell? ⟨g, 1, none⟩ = some (.int .i64 b)) : VsAt w g 0 [(a, b)] := by
  intro k x hx
  have hk := (List.getElem?_eq_some_iff.1 hx).1
  simp at hk
  subst hk
  simp at hx
  subst hx
  exact ⟨h0, h1⟩
end Go.Proofs.Ytklkhnhieihfoaa
