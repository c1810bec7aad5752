/- The reference's span = the program's extent. -/
import Derived.Test.YtkoejgpnlncgaaaFlB
namespace Go.Proofs.Ytkoejgpnlncgaaa
open Go Go.RowKit
set_option linter.unusedVariables false
theorem ceil_floor (p s d : Int) (hd : 0 < d) : (d * p - s) / d = p - (s + d - 1) / d := by
  have h1 := Int.mul_ediv_add_emod (s + d - 1) d
  have h2 := Int.emod_nonneg (s + d - 1) (by omega : d ≠ 0)
  have h3 := Int.emod_lt_of_pos (s + d - 1) hd
  generalize (s + d - 1) / d = q at *
  have e : d * (p - q) = d * p - d * q := by grind
  exact ((Int.ediv_emod_unique (r := d * q - s) hd).2 ⟨by omega, by omega, by omega⟩).1
theorem span_lo (p v g : Int) (hg : 0 < g) : (4 * g * p - v * v) / (4 * g) = p - (v * v + 4 * g - 1) / (4 * g) := ceil_floor p (v * v) (4 * g) (by omega)
theorem span_hi (p v g : Int) (hg : g < 0) : -((4 * g * p - v * v) / (-4 * g)) = p + (v * v - 4 * g - 1) / (-4 * g) := by
  have h := ceil_floor (-p) (v * v) (-4 * g) (by omega)
  have e : -4 * g * -p - v * v = 4 * g * p - v * v := by grind
  have e2 : v * v + -4 * g - 1 = v * v - 4 * g - 1 := by omega
  rw [e, e2] at h
  omega
set_option maxHeartbeats 1000000 in
theorem rspan_any (p v g : Int) (w : World) (p1 : -8388608 ≤ p) (p2 : p ≤ 8388608) (v1 : -262144 ≤ v) (v2 : v ≤ 262144) (g1 : -4096 ≤ g) (g2 : g ≤ 4096) :
    Calls Try.prog 71 #[.int .i64 p, .int .i64 v, .int .i64 g] w fun e w' => e = .returned (.tuple #[.int .i64 (exLo p v g), .int .i64 (exHi p v g)]) ∧ Below w.heap.size w w' := by
  obtain ⟨m1, m2⟩ := mul_bd v v 262144 262144 v1 v2 v1 v2
  obtain ⟨m3, m4⟩ := mul_bd g p 4096 8388608 g1 g2 p1 p2
  obtain ⟨K, hK⟩ : ∃ K, K = g * p := ⟨_, rfl⟩
  have hK4 : 4 * g * p = 4 * K := by rw [hK, Int.mul_assoc]
  have hlo := span_lo p v g
  have hhi := span_hi p v g
  rw [← hK] at m3 m4
  rw [Int.mul_assoc] at hlo hhi
  have m5 : 0 ≤ v * v := by rcases Int.le_total 0 v with h | h; exact Int.mul_nonneg h h; exact Int.mul_nonneg_of_nonpos_of_nonpos h h
  have hq : g < 0 → 0 ≤ (v * v - 4 * g - 1) / (-4 * g) ∧ (v * v - 4 * g - 1) / (-4 * g) ≤ v * v - 4 * g - 1 := fun h => ⟨Int.ediv_nonneg (by omega) (by omega), Int.ediv_le_self _ (by omega)⟩
  go_enter Try.func71, Try.ntmps71; (try simp only [List.append_eq, List.cons_append, List.nil_append])
  go_wp2_with (go_at_call 91; refine (rfloor_any _ _ _ (by omega) (by omega) (by omega) (by omega)).mono ?_; rintro e w1 ⟨rfl, hb1⟩)
  all_goals go_ret2
  all_goals refine ⟨ret_two ?_ ?_, by ((with_reducible (repeat (first | exact bR _ _ | refine bS ?_ ?_ _ | refine bA ?_ ?_ _ | refine bD ?_ | refine bT ?_ (by assumption) ?_ | refine bO (by assumption) ?_ ?_))) <;> (first | omega | (simp; done) | (simp <;> omega)))⟩
  all_goals first | (simp only [exLo]; split <;> omega) | (simp only [exHi]; split <;> omega) | trace_state
end Go.Proofs.Ytkoejgpnlncgaaa
