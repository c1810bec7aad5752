/- The contracts of the reference's small vector functions, and of the law's own flip.  -/
import Derived.Test.YtklkhnhieihfoaaAwake6
namespace Go.Proofs.Ytklkhnhieihfoaa
open Go.RowKit
set_option linter.unusedVariables false
set_option maxHeartbeats 400000 in
theorem rsmall_any (x y : Int) (w : World) :
    Calls Try.prog 104 #[.agg #[.int .i64 x, .int .i64 y]] w fun e w' => e = .returned (.bool (smallB x y)) ∧ Below w.heap.size w w' := by
  go_enter Try.func104, Try.ntmps104
  go_wp2
  all_goals
    go_ret
    refine ⟨ret_bool ?_, by ((with_reducible (repeat (first | exact bR _ _ | refine bS ?_ ?_ _ | refine bA ?_ ?_ _ | refine bD ?_ | refine bT ?_ (by assumption) ?_ | refine bO (by assumption) ?_ ?_))) <;> (first | omega | (simp; done) | (simp <;> omega)))⟩
    simp [smallB, *]
    try omega
theorem turnR_bad {v1 v2 n1 n2 : Int} (h : (smallB v1 v2 && smallB n1 n2) = false) : turnR v1 v2 n1 n2 = (0, 0, false) := by
  have hc : crossR n1 n2 v1 v2 = 0 := by
    unfold crossR
    rw [if_neg]
    intro hh
    rw [hh.1, hh.2] at h
    cases h
  unfold turnR
  rw [hc]
  rfl
end Go.Proofs.Ytklkhnhieihfoaa
