/- The contracts of vector.floors, square, order. -/
import Derived.Test.YtklkhnhieihfoaaMulDiv
namespace Go.Proofs.Ytklkhnhieihfoaa
open Go.RowKit
set_option linter.unusedVariables false
theorem neg_div_ex {N c : Int} (hc : 0 < c) (hr : N % c = 0) : (-N) / c = -(N / c) := by
  have h := Int.emod_add_mul_ediv N c
  rw [hr] at h
  have := (Int.ediv_emod_unique (a := -N) (b := c) (r := 0) (q := -(N / c)) hc).2 ⟨by rw [Int.mul_neg]; omega, by omega, hc⟩
  exact this.1
theorem neg_div_in {N c : Int} (hc : 0 < c) (hr : N % c ≠ 0) : (-N) / c = -(N / c) - 1 := by
  have h := Int.emod_add_mul_ediv N c
  have h0 := Int.emod_nonneg N (b := c) (by omega)
  have h1 := Int.emod_lt_of_pos N hc
  have := (Int.ediv_emod_unique (a := -N) (b := c) (r := c - N % c) (q := -(N / c) - 1) hc).2 ⟨by rw [Int.mul_sub, Int.mul_neg, Int.mul_one]; omega, by omega, by omega⟩
  exact this.1
theorem mul_sign (a b : Int) {ng : Bool} (hn : (!(decide (a < 0) == decide (b < 0))) = ng) : a * b = if ng = true then -((a.natAbs * b.natAbs : Nat) : Int) else ((a.natAbs * b.natAbs : Nat) : Int) := by
  have h := tdiv_signs a b 1 (by omega) (ng := ng) (by rw [← hn]; simp; rfl)
  simpa using h
set_option maxRecDepth 100000 in
set_option maxHeartbeats 2000000 in
theorem floors_in (a b c : Int) (w : World) (a1 : -9223372036854775808 ≤ a) (a2 : a ≤ 9223372036854775807) (b1 : -9223372036854775808 ≤ b) (b2 : b ≤ 9223372036854775807) (c1 : 0 < c) (c2 : c ≤ 9223372036854775807)
    (hs : a.natAbs * b.natAbs ≤ c.natAbs * 4611686018427387904) :
    Calls Try.prog 110 #[.int .i64 a, .int .i64 b, .int .i64 c] w fun e w' => e = .returned (.tuple #[.int .i64 (a * b / c), .int .i64 (-((-(a * b)) / c))]) ∧ Below w.heap.size w w' := by
  obtain ⟨ng, hng⟩ : ∃ ng, (!(decide (a < 0) == decide (b < 0))) = ng := ⟨_, rfl⟩
  have hp := mul_sign a b hng
  have hq := tdiv_signs a b c (by omega) (ng := ng) (by rw [show decide (c < 0) = false from decide_eq_false (by omega), ← hng]; simp; rfl)
  obtain ⟨N, hN⟩ : ∃ N : Nat, N = a.natAbs * b.natAbs := ⟨_, rfl⟩
  have hN2 : N ≤ 9223372036854775808 * 9223372036854775808 := by rw [hN]; exact Nat.mul_le_mul (by omega) (by omega)
  obtain ⟨hi, hhi⟩ : ∃ hi : Int, hi = ((N / 18446744073709551616 : Nat) : Int) := ⟨_, rfl⟩
  obtain ⟨lo, hlo⟩ : ∃ lo : Int, lo = ((N % 18446744073709551616 : Nat) : Int) := ⟨_, rfl⟩
  have hz : (c.natAbs : Int) = c := by omega
  have hNN : hi * 18446744073709551616 + lo = (N : Int) := by omega
  have l0 : 0 ≤ lo := by omega
  have l1 : lo < 18446744073709551616 := by omega
  have i0 : 0 ≤ hi := by omega
  rw [← hN] at hq hp hs
  have hNc : (N : Int) ≤ c * 4611686018427387904 := by omega
  obtain ⟨Q, hQ⟩ : ∃ Q : Int, Q = (N : Int) / c := ⟨_, rfl⟩
  obtain ⟨R, hR⟩ : ∃ R : Int, R = (N : Int) % c := ⟨_, rfl⟩
  have q0 : 0 ≤ Q := by rw [hQ]; exact Int.ediv_nonneg (by omega) (by omega)
  have q1 : Q ≤ 4611686018427387904 := by rw [hQ]; exact Int.ediv_le_of_le_mul c1 (by rw [Int.mul_comm]; exact hNc)
  have hqq : ((N / c.natAbs : Nat) : Int) = Q := by rw [hQ, Int.natCast_ediv, hz]
  rw [hqq] at hq
  have hmd : mulDivR a b c = (if ng = true then -Q else Q, true) := by
    unfold mulDivR
    rw [if_neg (by omega), hq]
    cases ng
    · simp only [Bool.false_eq_true, if_false]; rw [if_pos (by omega)]
    · simp only [if_true]; rw [if_pos (by omega)]
  have hmv := fun w => muldiv_any a b c w a1 a2 b1 b2 (by omega) c2
  rw [hmd] at hmv
  have hmul := fun w => Try.bits_Mul64 a.natAbs b.natAbs (by omega) (by omega) w
  rw [← hN, ← hhi, ← hlo] at hmul
  have habs := fun w => abs_any c w (by omega) c2
  rw [hz] at habs
  have hdiv := fun w => div64_all hi lo c w i0 (by omega) l0 l1 (by omega)
  rw [hNN, ← hQ, ← hR] at hdiv
  have HMV := Lib.hid hmv
  have HMUL := Lib.hid hmul
  have HABS := Lib.hid habs
  have HDIV := Lib.hid hdiv
  obtain ⟨F, hF⟩ : ∃ F, F = a * b / c := ⟨_, rfl⟩
  obtain ⟨C, hC⟩ : ∃ C, C = -((-(a * b)) / c) := ⟨_, rfl⟩
  have key : (R = 0 → F = (if ng = true then -Q else Q) ∧ C = (if ng = true then -Q else Q)) ∧ (R ≠ 0 → ng = true → F = -Q - 1 ∧ C = -Q) ∧ (R ≠ 0 → ng = false → F = Q ∧ C = Q + 1) := by
    refine ⟨fun h => ?_, fun h g => ?_, fun h g => ?_⟩
    · rw [hF, hC, hp]
      cases ng
      · simp only [Bool.false_eq_true, if_false]
        rw [neg_div_ex c1 (by rw [← hR]; exact h), ← hQ]; omega
      · simp only [if_true, Int.neg_neg]
        rw [neg_div_ex c1 (by rw [← hR]; exact h), ← hQ]; omega
    · subst g
      rw [hF, hC, hp]
      simp only [if_true, Int.neg_neg]
      rw [neg_div_in c1 (by rw [← hR]; exact h), ← hQ]; omega
    · subst g
      rw [hF, hC, hp]
      simp only [Bool.false_eq_true, if_false]
      rw [neg_div_in c1 (by rw [← hR]; exact h), ← hQ]; omega
  rw [← hF, ← hC]
  have r0 : 0 ≤ R := by rw [hR]; exact Int.emod_nonneg _ (by omega)
  obtain ⟨k1, k2, k3⟩ := key
  have K1 := Lib.hid k1
  have K2 := Lib.hid k2
  have K3 := Lib.hid k3
  clear hq hmd hmv hmul habs hdiv hN hhi hlo hz hNN hp hs hNc hQ hR hqq hF hC k1 k2 k3 hN2
  by_cases hr : R = 0
  · obtain ⟨g1, g2⟩ := K1.out hr
    subst hr
    cases ng
    · simp only [Bool.false_eq_true, if_false] at g1 g2 HMV
      subst g1 g2
      go_enter Try.func110, Try.ntmps110; (try simp only [List.append_eq, List.cons_append, List.nil_append])
      go_wp2_with fail
      (go_at_call 126; refine (HMV.out _).mono ?_; rintro e w1 ⟨rfl, hb1⟩)
      go_wp2_with fail
      (go_at_call 127; refine (abs_any a _ (by omega) (by omega)).mono ?_; rintro e w2 ⟨rfl, rfl⟩)
      go_wp2_with fail
      (go_at_call 127; refine (abs_any b _ (by omega) (by omega)).mono ?_; rintro e w2 ⟨rfl, rfl⟩)
      go_wp2_with fail
      (go_at_call 73; refine (HMUL.out _).mono ?_; rintro e w2 ⟨rfl, rfl⟩)
      go_wp2_with fail
      (go_at_call 127; refine (HABS.out _).mono ?_; rintro e w2 ⟨rfl, rfl⟩)
      go_wp2_with fail
      (go_at_call 128; refine (HDIV.out _).mono ?_; rintro e w3 ⟨rfl, hb3⟩)
      go_wp2_with fail
      go_ret2
      exact ⟨rfl, hb1.trans (hb3.mono hb1.size)⟩
    · simp only [if_true] at g1 g2 HMV
      subst g1 g2
      go_enter Try.func110, Try.ntmps110; (try simp only [List.append_eq, List.cons_append, List.nil_append])
      go_wp2_with fail
      (go_at_call 126; refine (HMV.out _).mono ?_; rintro e w1 ⟨rfl, hb1⟩)
      go_wp2_with fail
      (go_at_call 127; refine (abs_any a _ (by omega) (by omega)).mono ?_; rintro e w2 ⟨rfl, rfl⟩)
      go_wp2_with fail
      (go_at_call 127; refine (abs_any b _ (by omega) (by omega)).mono ?_; rintro e w2 ⟨rfl, rfl⟩)
      go_wp2_with fail
      (go_at_call 73; refine (HMUL.out _).mono ?_; rintro e w2 ⟨rfl, rfl⟩)
      go_wp2_with fail
      (go_at_call 127; refine (HABS.out _).mono ?_; rintro e w2 ⟨rfl, rfl⟩)
      go_wp2_with fail
      (go_at_call 128; refine (HDIV.out _).mono ?_; rintro e w3 ⟨rfl, hb3⟩)
      go_wp2_with fail
      go_ret2
      exact ⟨rfl, hb1.trans (hb3.mono hb1.size)⟩
  · have hr' : (R == 0) = false := by simp [hr]
    cases ng
    · obtain ⟨g1, g2⟩ := K3.out hr rfl
      simp only [Bool.false_eq_true, if_false] at HMV
      subst g1 g2
      go_enter Try.func110, Try.ntmps110; (try simp only [List.append_eq, List.cons_append, List.nil_append])
      go_wp2_with fail
      (go_at_call 126; refine (HMV.out _).mono ?_; rintro e w1 ⟨rfl, hb1⟩)
      go_wp2_with fail
      (go_at_call 127; refine (abs_any a _ (by omega) (by omega)).mono ?_; rintro e w2 ⟨rfl, rfl⟩)
      go_wp2_with fail
      (go_at_call 127; refine (abs_any b _ (by omega) (by omega)).mono ?_; rintro e w2 ⟨rfl, rfl⟩)
      go_wp2_with fail
      (go_at_call 73; refine (HMUL.out _).mono ?_; rintro e w2 ⟨rfl, rfl⟩)
      go_wp2_with fail
      (go_at_call 127; refine (HABS.out _).mono ?_; rintro e w2 ⟨rfl, rfl⟩)
      go_wp2_with fail
      (go_at_call 128; refine (HDIV.out _).mono ?_; rintro e w3 ⟨rfl, hb3⟩)
      go_wp2_with fail
      go_ret2
      exact ⟨rfl, hb1.trans (hb3.mono hb1.size)⟩
    · obtain ⟨g1, g2⟩ := K2.out hr rfl
      simp only [if_true] at HMV
      subst g1 g2
      go_enter Try.func110, Try.ntmps110; (try simp only [List.append_eq, List.cons_append, List.nil_append])
      go_wp2_with fail
      (go_at_call 126; refine (HMV.out _).mono ?_; rintro e w1 ⟨rfl, hb1⟩)
      go_wp2_with fail
      (go_at_call 127; refine (abs_any a _ (by omega) (by omega)).mono ?_; rintro e w2 ⟨rfl, rfl⟩)
      go_wp2_with fail
      (go_at_call 127; refine (abs_any b _ (by omega) (by omega)).mono ?_; rintro e w2 ⟨rfl, rfl⟩)
      go_wp2_with fail
      (go_at_call 73; refine (HMUL.out _).mono ?_; rintro e w2 ⟨rfl, rfl⟩)
      go_wp2_with fail
      (go_at_call 127; refine (HABS.out _).mono ?_; rintro e w2 ⟨rfl, rfl⟩)
      go_wp2_with fail
      (go_at_call 128; refine (HDIV.out _).mono ?_; rintro e w3 ⟨rfl, hb3⟩)
      go_wp2_with fail
      go_ret2
      exact ⟨rfl, hb1.trans (hb3.mono hb1.size)⟩
end Go.Proofs.Ytklkhnhieihfoaa
