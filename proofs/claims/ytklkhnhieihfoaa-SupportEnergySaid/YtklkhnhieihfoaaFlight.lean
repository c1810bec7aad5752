/- Contracts of flight.Box, At and the sanity check of law 10. -/
import Derived.Test.YtklkhnhieihfoaaVec
import Derived.RegionTactic
import Derived.ChangeAlike
namespace Go.Proofs.Ytklkhnhieihfoaa
open Go.RowKit
theorem ret_two {a b c d : Int} (h : a = c) (h' : b = d) : Ending.returned (.tuple #[.int .i64 a, .int .i64 b]) = .returned (.tuple #[.int .i64 c, .int .i64 d]) := by rw [h, h']
def exLo (p v g : Int) : Int := if 0 < g ∧ v < 0 ∧ -v < 2 * g then min (min p (p + v + g)) (p - (v * v + 4 * g - 1) / (4 * g)) else min p (p + v + g)
def exHi (p v g : Int) : Int := if g < 0 ∧ 0 < v ∧ v < -2 * g then max (max p (p + v + g)) (p + (v * v - 4 * g - 1) / (-4 * g)) else max p (p + v + g)
end Go.Proofs.Ytklkhnhieihfoaa
