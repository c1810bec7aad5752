/- The contracts of vector.MulDiv and vector.floors. -/
import Derived.Test.YtklkhnhieihfoaaDiv64
namespace Go.Proofs.Ytklkhnhieihfoaa
open Go.RowKit
set_option linter.unusedVariables false
set_option maxHeartbeats 400000 in
theorem div64_zero (lo y : Int) (w : World) (a2 : 0 < y) (a3 : 0 ≤ lo) (a4 : lo < 18446744073709551616) (a5 : y < 18446744073709551616) :
    Calls Try.prog 128 #[.int .u64 0, .int .u64 lo, .int .u64 y] w fun e w' => e = .returned (.tuple #[.int .u64 (lo / y), .int .u64 (lo % y)]) ∧ Below w.heap.size w w' := by
  have n0 : (y == 0) = false := by simp; omega
  have n2 : ¬ (y ≤ 0) := by omega
  have n3 : ¬ y = 0 := by omega
  obtain ⟨q, hq⟩ : ∃ q, q = lo / y := ⟨_, rfl⟩
  obtain ⟨r, hr⟩ : ∃ r, r = lo % y := ⟨_, rfl⟩
  have q0 : 0 ≤ q := by rw [hq]; exact Int.ediv_nonneg a3 (by omega)
  have q1 : q < 18446744073709551616 := by have := Int.ediv_le_self y a3; omega
  have r0 : 0 ≤ r := by rw [hr]; exact Int.emod_nonneg _ (by omega)
  have r1 : r < 18446744073709551616 := by have := Int.emod_lt_of_pos lo a2; omega
  have e1 : IntKind.u64.wrap (lo.tdiv y) = q := by rw [Int.tdiv_eq_ediv_of_nonneg a3, ← hq]; exact wrap_small q0 q1
  have e2 : lo.tmod y = r := by rw [Int.tmod_eq_emod_of_nonneg a3, ← hr]
  rw [← hq, ← hr]
  clear hq hr
  go_enter Try.func128, Try.ntmps128; (try simp only [List.append_eq, List.cons_append, List.nil_append])
  go_wp2_with fail
  refine wp_region_warm (Own w.heap.size w) (by kernel_rfl) (by kernel_rfl) (Own.refl (Nat.le_refl _)).drew ?_
  repeat (first | (refine wpWarm_step_off rfl (fun K hK => ?_); (go_simp; refine hK _ ?_; clear hK K)) | (apply wpWarm_step rfl; (focus (intro W' hS; have hcS := hS.cells.1; have hfS := hS.cells.2; go_simp; (first | done | exact rfl | exact ⟨rfl, hS⟩ | (go_simp; exact rfl)))); (intro K hK; go_simp; (try go_bits); refine hK _ ?_; clear hK K)) | (apply wpWarm_step_on rfl; (focus (intro W' hS; have hcS := hS.cells.1; have hfS := hS.cells.2; go_simp; (first | done | exact rfl | exact ⟨rfl, hS⟩ | (go_simp; exact rfl)))); (intro K hK; go_simp; (try go_bits); refine hK _ ?_; clear hK K)))
  refine wpWarm_nil ?_
  intro w4 hO
  go_wp2_with fail
  go_ret2
  exact ⟨rfl, hO.2⟩
theorem div64_all (hi lo y : Int) (w : World) (a1 : 0 ≤ hi) (a2 : hi < y) (a3 : 0 ≤ lo) (a4 : lo < 18446744073709551616) (a5 : y < 18446744073709551616) :
    Calls Try.prog 128 #[.int .u64 hi, .int .u64 lo, .int .u64 y] w fun e w' => e = .returned (.tuple #[.int .u64 ((hi * 18446744073709551616 + lo) / y), .int .u64 ((hi * 18446744073709551616 + lo) % y)]) ∧ Below w.heap.size w w' := by
  by_cases h0 : hi = 0
  · subst h0
    have := div64_zero lo y w a2 a3 a4 a5
    simpa using this
  · exact (div64_any hi lo y w (by omega) a2 a3 a4 a5).mono fun e w' h => ⟨h.1, by rw [h.2]; exact Below.refl _ _⟩
def mulDivR (a b c : Int) : Int × Bool := if c = 0 then (0, false) else if -9223372036854775808 ≤ (a * b).tdiv c ∧ (a * b).tdiv c ≤ 9223372036854775807 then ((a * b).tdiv c, true) else (0, false)
theorem tq (x y z : Nat) : ((x : Int) * (y : Int)).tdiv (z : Int) = ((x * y / z : Nat) : Int) := by
  rw [Int.tdiv_eq_ediv_of_nonneg (Int.mul_nonneg (Int.natCast_nonneg _) (Int.natCast_nonneg _))]
  simp
/-- The quotient out of its absolute value and the three signs. -/
theorem tdiv_signs (a b c : Int) (hc : c ≠ 0) {ng : Bool} (hn : ((decide (a < 0) != decide (b < 0)) != decide (c < 0)) = ng) :
    (a * b).tdiv c = if ng = true then -((a.natAbs * b.natAbs / c.natAbs : Nat) : Int) else ((a.natAbs * b.natAbs / c.natAbs : Nat) : Int) := by
  subst hn
  rcases Int.lt_or_le a 0 with ha | ha <;> rcases Int.lt_or_le b 0 with hb | hb <;> rcases Int.lt_or_le c 0 with hc' | hc'
  all_goals
    first | (have ha' : decide (a < 0) = true := decide_eq_true ha) | (have ha' : decide (a < 0) = false := decide_eq_false (by omega))
    first | (have hb' : decide (b < 0) = true := decide_eq_true hb) | (have hb' : decide (b < 0) = false := decide_eq_false (by omega))
    first | (have hd' : decide (c < 0) = true := decide_eq_true hc') | (have hd' : decide (c < 0) = false := decide_eq_false (by omega))
    rw [ha', hb', hd']
    obtain ⟨x, hx⟩ : ∃ x : Nat, x = a.natAbs := ⟨_, rfl⟩
    obtain ⟨y, hy⟩ : ∃ y : Nat, y = b.natAbs := ⟨_, rfl⟩
    obtain ⟨z, hz⟩ : ∃ z : Nat, z = c.natAbs := ⟨_, rfl⟩
    rw [← hx, ← hy, ← hz]
    first | (have e1 : a = -(x : Int) := by omega) | (have e1 : a = (x : Int) := by omega)
    first | (have e2 : b = -(y : Int) := by omega) | (have e2 : b = (y : Int) := by omega)
    first | (have e3 : c = -(z : Int) := by omega) | (have e3 : c = (z : Int) := by omega)
    clear ha' hb' hd' hx hy hz ha hb hc hc'
    rw [e1, e2, e3]
    simp [Int.neg_mul, Int.mul_neg, Int.neg_neg, Int.neg_tdiv, Int.tdiv_neg, tq]
theorem abs_b (n : Int) (w : World) (h1 : -9223372036854775808 ≤ n) (h2 : n ≤ 9223372036854775807) :
    Calls Try.prog 127 #[.int .i64 n] w fun e w' => e = .returned (.int .u64 (n.natAbs : Int)) ∧ Below w.heap.size w w' :=
  (abs_any n w h1 h2).mono fun e w' h => ⟨h.1, by rw [h.2]; exact Below.refl _ _⟩
theorem mul64_b (x y : Nat) (w : World) (hx : x < 18446744073709551616) (hy : y < 18446744073709551616) :
    Calls Try.prog 73 #[.int .u64 x, .int .u64 y] w fun e w' => e = .returned (.tuple #[.int .u64 ((x * y / 18446744073709551616 : Nat) : Int), .int .u64 ((x * y % 18446744073709551616 : Nat) : Int)]) ∧ Below w.heap.size w w' :=
  (Try.bits_Mul64 x y hx hy w).mono fun e w' h => ⟨h.1, by rw [h.2]; exact Below.refl _ _⟩
set_option maxRecDepth 100000 in
set_option maxHeartbeats 2000000 in
theorem muldiv_any (a b c : Int) (w : World) (a1 : -9223372036854775808 ≤ a) (a2 : a ≤ 9223372036854775807) (b1 : -9223372036854775808 ≤ b) (b2 : b ≤ 9223372036854775807) (c1 : -9223372036854775808 ≤ c) (c2 : c ≤ 9223372036854775807) :
    Calls Try.prog 126 #[.int .i64 a, .int .i64 b, .int .i64 c] w fun e w' => e = .returned (.tuple #[.int .i64 (mulDivR a b c).1, .bool (mulDivR a b c).2]) ∧ Below w.heap.size w w' := by
  by_cases hc : c = 0
  · subst hc
    go_enter Try.func126, Try.ntmps126; (try simp only [List.append_eq, List.cons_append, List.nil_append])
    go_wp2_with fail
    go_ret2
    exact ⟨rfl, Below.refl _ _⟩
  · have n0 : (c == 0) = false := by simp [hc]
    obtain ⟨ng, hng⟩ : ∃ ng, (!((!(decide (a < 0) == decide (b < 0))) == decide (c < 0))) = ng := ⟨_, rfl⟩
    have hq := tdiv_signs a b c hc hng
    obtain ⟨N, hN⟩ : ∃ N : Nat, N = a.natAbs * b.natAbs := ⟨_, rfl⟩
    have hN2 : N ≤ 9223372036854775808 * 9223372036854775808 := by rw [hN]; exact Nat.mul_le_mul (by omega) (by omega)
    obtain ⟨Q, hQ⟩ : ∃ Q : Int, Q = ((N / c.natAbs : Nat) : Int) := ⟨_, rfl⟩
    obtain ⟨hi, hhi⟩ : ∃ hi : Int, hi = ((N / 18446744073709551616 : Nat) : Int) := ⟨_, rfl⟩
    obtain ⟨lo, hlo⟩ : ∃ lo : Int, lo = ((N % 18446744073709551616 : Nat) : Int) := ⟨_, rfl⟩
    obtain ⟨z, hz⟩ : ∃ z : Int, z = (c.natAbs : Int) := ⟨_, rfl⟩
    have z0 : 0 < z := by omega
    have z1 : z < 18446744073709551616 := by omega
    have q0 : 0 ≤ Q := by rw [hQ]; exact Int.natCast_nonneg _
    have hNN : hi * 18446744073709551616 + lo = (N : Int) := by omega
    have hQ2 : Q = (N : Int) / z := by rw [hQ, hz]; simp
    have l0 : 0 ≤ lo := by omega
    have l1 : lo < 18446744073709551616 := by omega
    have i0 : 0 ≤ hi := by omega
    rw [← hN, ← hQ] at hq
    have hM : mulDivR a b c = if ng = true then (if Q ≤ 9223372036854775808 then (-Q, true) else (0, false)) else (if Q < 9223372036854775808 then (Q, true) else (0, false)) := by
      unfold mulDivR
      rw [if_neg hc, hq]
      cases ng
      · simp only [Bool.false_eq_true, if_false]
        by_cases h : Q < 9223372036854775808
        · rw [if_pos h, if_pos (by omega)]
        · rw [if_neg h, if_neg (by omega)]
      · simp only [if_true]
        by_cases h : Q ≤ 9223372036854775808
        · rw [if_pos h, if_pos (by omega)]
        · rw [if_neg h, if_neg (by omega)]
    rw [hM]
    have hmul := fun w => Try.bits_Mul64 a.natAbs b.natAbs (by omega) (by omega) w
    rw [← hN, ← hhi, ← hlo] at hmul
    have habs := fun w => abs_any c w c1 c2
    rw [← hz] at habs
    have HMUL := Lib.hid hmul
    have HABS := Lib.hid habs
    clear hq hM hmul habs hN hhi hlo hz hQ hN2 hc
    by_cases hbig : z ≤ hi
    · have hQb : 18446744073709551616 ≤ Q := by
        rw [hQ2]
        exact Int.le_ediv_of_mul_le z0 (by omega)
      have f1 : (if ng = true then (if Q ≤ 9223372036854775808 then (-Q, true) else (0, false)) else (if Q < 9223372036854775808 then (Q, true) else ((0, false) : Int × Bool))) = (0, false) := by
        simp [show ¬ (Q ≤ 9223372036854775808) by omega, show ¬ (Q < 9223372036854775808) by omega]
      rw [f1]
      clear hQ2 hNN f1
      go_enter Try.func126, Try.ntmps126; (try simp only [List.append_eq, List.cons_append, List.nil_append])
      go_wp2_with fail
      (go_at_call 127; refine (abs_any a _ (by omega) (by omega)).mono ?_; rintro e w1 ⟨rfl, rfl⟩)
      go_wp2_with fail
      (go_at_call 127; refine (abs_any b _ (by omega) (by omega)).mono ?_; rintro e w1 ⟨rfl, rfl⟩)
      go_wp2_with fail
      (go_at_call 73; refine (HMUL.out _).mono ?_; rintro e w1 ⟨rfl, rfl⟩)
      go_wp2_with fail
      (go_at_call 127; refine (HABS.out _).mono ?_; rintro e w1 ⟨rfl, rfl⟩)
      go_wp2_with fail
      go_ret2
      exact ⟨rfl, Below.refl _ _⟩
    · have hdiv := fun w => div64_all hi lo z w i0 (by omega) l0 l1 z1
      rw [hNN, ← hQ2] at hdiv
      obtain ⟨R, hR⟩ : ∃ R, R = (N : Int) % z := ⟨_, rfl⟩
      rw [← hR] at hdiv
      have HDIV := Lib.hid hdiv
      clear hdiv hQ2 hNN hR
      have e1 : Q ≤ 9223372036854775808 → IntKind.i64.wrap (IntKind.u64.wrap (-Q)) = -Q := by intro h; rw [IntKind.wrap_u64, IntKind.wrap_i64]; omega
      have E1 := Lib.hid e1
      clear e1
      cases ng
      · by_cases hlt : Q < 9223372036854775808
        · simp only [Bool.false_eq_true, if_false, if_pos hlt]
          go_enter Try.func126, Try.ntmps126; (try simp only [List.append_eq, List.cons_append, List.nil_append])
          go_wp2_with fail
          (go_at_call 127; refine (abs_any a _ (by omega) (by omega)).mono ?_; rintro e w1 ⟨rfl, rfl⟩)
          go_wp2_with fail
          (go_at_call 127; refine (abs_any b _ (by omega) (by omega)).mono ?_; rintro e w1 ⟨rfl, rfl⟩)
          go_wp2_with fail
          (go_at_call 73; refine (HMUL.out _).mono ?_; rintro e w1 ⟨rfl, rfl⟩)
          go_wp2_with fail
          (go_at_call 127; refine (HABS.out _).mono ?_; rintro e w1 ⟨rfl, rfl⟩)
          go_wp2_with fail
          (go_at_call 128; refine (HDIV.out _).mono ?_; rintro e w1 ⟨rfl, hb1⟩)
          go_wp2_with fail
          go_ret2
          exact ⟨rfl, hb1⟩
        · simp only [Bool.false_eq_true, if_false, if_neg hlt]
          go_enter Try.func126, Try.ntmps126; (try simp only [List.append_eq, List.cons_append, List.nil_append])
          go_wp2_with fail
          (go_at_call 127; refine (abs_any a _ (by omega) (by omega)).mono ?_; rintro e w1 ⟨rfl, rfl⟩)
          go_wp2_with fail
          (go_at_call 127; refine (abs_any b _ (by omega) (by omega)).mono ?_; rintro e w1 ⟨rfl, rfl⟩)
          go_wp2_with fail
          (go_at_call 73; refine (HMUL.out _).mono ?_; rintro e w1 ⟨rfl, rfl⟩)
          go_wp2_with fail
          (go_at_call 127; refine (HABS.out _).mono ?_; rintro e w1 ⟨rfl, rfl⟩)
          go_wp2_with fail
          (go_at_call 128; refine (HDIV.out _).mono ?_; rintro e w1 ⟨rfl, hb1⟩)
          go_wp2_with fail
          go_ret2
          exact ⟨rfl, hb1⟩
      · by_cases hlt : Q ≤ 9223372036854775808
        · simp only [if_true, if_pos hlt]
          have e1 := E1.out hlt
          go_enter Try.func126, Try.ntmps126; (try simp only [List.append_eq, List.cons_append, List.nil_append])
          go_wp2_with fail
          (go_at_call 127; refine (abs_any a _ (by omega) (by omega)).mono ?_; rintro e w1 ⟨rfl, rfl⟩)
          go_wp2_with fail
          (go_at_call 127; refine (abs_any b _ (by omega) (by omega)).mono ?_; rintro e w1 ⟨rfl, rfl⟩)
          go_wp2_with fail
          (go_at_call 73; refine (HMUL.out _).mono ?_; rintro e w1 ⟨rfl, rfl⟩)
          go_wp2_with fail
          (go_at_call 127; refine (HABS.out _).mono ?_; rintro e w1 ⟨rfl, rfl⟩)
          go_wp2_with fail
          (go_at_call 128; refine (HDIV.out _).mono ?_; rintro e w1 ⟨rfl, hb1⟩)
          go_wp2_with fail
          go_ret2
          exact ⟨rfl, hb1⟩
        · simp only [if_true, if_neg hlt]
          go_enter Try.func126, Try.ntmps126; (try simp only [List.append_eq, List.cons_append, List.nil_append])
          go_wp2_with fail
          (go_at_call 127; refine (abs_any a _ (by omega) (by omega)).mono ?_; rintro e w1 ⟨rfl, rfl⟩)
          go_wp2_with fail
          (go_at_call 127; refine (abs_any b _ (by omega) (by omega)).mono ?_; rintro e w1 ⟨rfl, rfl⟩)
          go_wp2_with fail
          (go_at_call 73; refine (HMUL.out _).mono ?_; rintro e w1 ⟨rfl, rfl⟩)
          go_wp2_with fail
          (go_at_call 127; refine (HABS.out _).mono ?_; rintro e w1 ⟨rfl, rfl⟩)
          go_wp2_with fail
          (go_at_call 128; refine (HDIV.out _).mono ?_; rintro e w1 ⟨rfl, hb1⟩)
          go_wp2_with fail
          go_ret2
          exact ⟨rfl, hb1⟩
end Go.Proofs.Ytklkhnhieihfoaa
