/- The arithmetic of a long division by two digits: plain Lean, no program in sight. -/
import Derived.Lib.ItoaNum
import Derived.Lib.EndianBits
import Derived.Laws.BitsAllLaws
namespace Go.Proofs.Ytklkhnhieihfoaa
open Go
theorem wrap_small {z : Int} (h0 : 0 ≤ z) (h1 : z < 18446744073709551616) : IntKind.u64.wrap z = z := by rw [IntKind.wrap_u64]; omega
/-- One digit of the quotient: Y is the divisor in two halves, U the upper part, d the next half. -/
structure Digit (Y n1 n0 U d Q : Int) : Prop where
  hY : Y = n1 * 4294967296 + n0
  n00 : 0 ≤ n0
  n01 : n0 < 4294967296
  n10 : 2147483648 ≤ n1
  n11 : n1 < 4294967296
  u0 : 0 ≤ U
  u1 : U < Y
  d0 : 0 ≤ d
  d1 : d < 4294967296
  hQ : Q = (U * 4294967296 + d) / Y
theorem Digit.split {Y n1 n0 U d Q : Int} (D : Digit Y n1 n0 U d Q) (q : Int) : q * Y = q * n1 * 4294967296 + q * n0 := by
  rw [D.hY, Int.mul_add, Int.mul_assoc]
theorem Digit.pos {Y n1 n0 U d Q : Int} (D : Digit Y n1 n0 U d Q) : 0 < Y := by have := D.hY; have := D.n00; have := D.n10; omega
theorem Digit.q0 {Y n1 n0 U d Q : Int} (D : Digit Y n1 n0 U d Q) : 0 ≤ Q := by
  rw [D.hQ]
  exact Int.ediv_nonneg (by have := D.u0; have := D.d0; omega) (Int.le_of_lt D.pos)
theorem Digit.q1 {Y n1 n0 U d Q : Int} (D : Digit Y n1 n0 U d Q) : Q < 4294967296 := by
  rw [D.hQ]
  exact Int.ediv_lt_of_lt_mul D.pos (by have := D.u1; have := D.d1; omega)
theorem Digit.first {Y n1 n0 U d Q : Int} (D : Digit Y n1 n0 U d Q) : Q ≤ U / n1 := by
  have h1 := D.split Q
  have h2 : Q * Y ≤ U * 4294967296 + d := by rw [D.hQ]; exact Int.ediv_mul_le _ (by have := D.pos; omega)
  have h3 : 0 ≤ Q * n0 := Int.mul_nonneg D.q0 D.n00
  have := D.d1
  have := D.n10
  exact Int.le_ediv_of_mul_le (by omega) (by omega)
theorem Digit.down {Y n1 n0 U d Q q r : Int} (D : Digit Y n1 n0 U d Q) (hq : q * n1 + r = U) (ht : 4294967296 ≤ q ∨ 4294967296 * r + d < q * n0) : Q ≤ q - 1 := by
  rcases ht with h | h
  · have := D.q1; omega
  · have h1 := D.split q
    have : Q < q := by
      rw [D.hQ]
      exact Int.ediv_lt_of_lt_mul D.pos (by omega)
    omega
theorem Digit.stop {Y n1 n0 U d Q q r : Int} (D : Digit Y n1 n0 U d Q) (hq : q * n1 + r = U) (hQ : Q ≤ q) (ht : q * n0 ≤ 4294967296 * r + d) : q = Q := by
  have h1 := D.split q
  have : q ≤ Q := by
    rw [D.hQ]
    exact Int.le_ediv_of_mul_le D.pos (by omega)
  omega
theorem Digit.broke {Y n1 n0 U d Q q r : Int} (D : Digit Y n1 n0 U d Q) (hq : q * n1 + r = U) (hQ : Q ≤ q) (hr : 4294967296 ≤ r) : q = Q := by
  refine D.stop hq hQ ?_
  have h0 := D.q0
  have h1 : q * n1 < 4294967296 * n1 := by have := D.hY; have := D.u1; have := D.n01; omega
  have h2 : q < 4294967296 := Int.lt_of_mul_lt_mul_right h1 (by have := D.n10; omega)
  have h3 : q * n0 ≤ 4294967296 * n0 := Int.mul_le_mul_of_nonneg_right (by omega) D.n00
  have := D.n01
  have := D.d0
  omega
theorem Digit.rest {Y n1 n0 U d Q : Int} (D : Digit Y n1 n0 U d Q) : U * 4294967296 + d - Q * Y = (U * 4294967296 + d) % Y := by
  rw [D.hQ]
  have := Int.emod_add_mul_ediv (U * 4294967296 + d) Y
  rw [Int.mul_comm Y] at this
  omega
theorem Digit.restb {Y n1 n0 U d Q : Int} (D : Digit Y n1 n0 U d Q) : 0 ≤ U * 4294967296 + d - Q * Y ∧ U * 4294967296 + d - Q * Y < Y := by
  rw [D.rest]
  exact ⟨Int.emod_nonneg _ (by have := D.pos; omega), Int.emod_lt_of_pos _ D.pos⟩
/-- What the shifts make of the three numbers. -/
structure Shifted (hi lo y : Int) (k m : Nat) (Y n1 n0 H L U Z d1 d0 : Int) : Prop where
  k0 : (k : Int) < 64
  hY : Y = y * 2 ^ k
  hYs : Y = n1 * 4294967296 + n0
  n00 : 0 ≤ n0
  n01 : n0 < 4294967296
  n10 : 2147483648 ≤ n1
  n11 : n1 < 4294967296
  u0 : 0 ≤ U
  u1 : U < Y
  z0 : 0 ≤ Z
  hZ : Z = d1 * 4294967296 + d0
  d10 : 0 ≤ d1
  d11 : d1 < 4294967296
  d00 : 0 ≤ d0
  d01 : d0 < 4294967296
  hN : U * 18446744073709551616 + Z = (hi * 18446744073709551616 + lo) * 2 ^ k
theorem shifted {hi lo y : Int} (a1 : 0 < hi) (a2 : hi < y) (a3 : 0 ≤ lo) (a4 : lo < 18446744073709551616) (a5 : y < 18446744073709551616) :
    ∃ (k m : Nat) (Y n1 n0 H L U Z d1 d0 : Int), Shifted hi lo y k m Y n1 n0 H L U Z d1 d0 ∧
      IntKind.u64.wrap (64 - (Lib.bitLen y.toNat : Int)) = (k : Int) ∧ min k 64 = k ∧ IntKind.u64.wrap (y * 2 ^ k) = Y ∧ Y / 4294967296 = n1 ∧ bits .and .u64 Y 4294967295 = n0 ∧
      IntKind.u64.wrap (hi * 2 ^ k) = H ∧ IntKind.u64.wrap (64 - (k : Int)) = (m : Int) ∧ min m 64 = m ∧ lo / 2 ^ m = L ∧ bits .or .u64 H L = U ∧ IntKind.u64.wrap (lo * 2 ^ k) = Z ∧ Z / 4294967296 = d1 ∧ bits .and .u64 Z 4294967295 = d0 := by
  obtain ⟨b1, b2, b3⟩ := Lib.bitLenAux_bounds 64 y.toNat (by omega) (by omega)
  have b4 : Lib.bitLenAux 64 y.toNat ≤ 64 := Lib.bitLenAux_le 64 _ 64 (by omega)
  have hbl : Lib.bitLen y.toNat = Lib.bitLenAux 64 y.toNat := rfl
  obtain ⟨b, hb⟩ : ∃ b, b = Lib.bitLenAux 64 y.toNat := ⟨_, rfl⟩
  rw [← hb] at b1 b2 b3 b4 hbl
  obtain ⟨k, hk⟩ : ∃ k, k = 64 - b := ⟨_, rfl⟩
  obtain ⟨c, rfl⟩ : ∃ c, b = c + 1 := ⟨b - 1, by omega⟩
  have hy : ((y.toNat : Nat) : Int) = y := by omega
  -- the powers
  obtain ⟨P, hP⟩ : ∃ P : Int, P = 2 ^ k := ⟨_, rfl⟩
  obtain ⟨M, hM⟩ : ∃ M : Int, M = 2 ^ (64 - k) := ⟨_, rfl⟩
  have hPM : P * M = 18446744073709551616 := by
    rw [hP, hM, ← Int.pow_add, show k + (64 - k) = 64 by omega]; rfl
  have hP1 : 1 ≤ P := by have h : (0 : Int) < 2 ^ k := Int.pow_pos (by omega); omega
  have hM1 : 1 ≤ M := by have h : (0 : Int) < 2 ^ (64 - k) := Int.pow_pos (by omega); omega
  have c1 : (2 : Int) ^ c ≤ y := by rw [← hy]; simp only [Nat.add_sub_cancel] at b2; exact_mod_cast b2
  have c2 : y < 2 ^ (c + 1) := by rw [← hy]; exact_mod_cast b3
  have y0 : 9223372036854775808 ≤ y * P := by
    have h1 : (2 : Int) ^ c * P ≤ y * P := Int.mul_le_mul_of_nonneg_right c1 (by omega)
    have h2 : (2 : Int) ^ c * P = 9223372036854775808 := by rw [hP, ← Int.pow_add, show c + k = 63 by omega]; rfl
    omega
  have y1 : y * P < 18446744073709551616 := by
    have h1 : y * P < 2 ^ (c + 1) * P := Int.mul_lt_mul_of_pos_right c2 (by omega)
    have h2 : (2 : Int) ^ (c + 1) * P = 18446744073709551616 := by rw [hP, ← Int.pow_add, show c + 1 + k = 64 by omega]; rfl
    omega
  have h0 : 0 ≤ hi * P := Int.mul_nonneg (by omega) (by omega)
  have h1 : hi * P + P ≤ y * P := by
    have : (hi + 1) * P ≤ y * P := Int.mul_le_mul_of_nonneg_right (by omega) (by omega)
    rw [Int.add_mul, Int.one_mul] at this
    exact this
  obtain ⟨L, hL⟩ : ∃ L, L = lo / M := ⟨_, rfl⟩
  have L0 : 0 ≤ L := by rw [hL]; exact Int.ediv_nonneg a3 (by omega)
  have L1 : L < P := by rw [hL]; exact Int.ediv_lt_of_lt_mul (by omega) (by rw [hPM]; exact a4)
  have hmod := Int.emod_add_mul_ediv lo M
  rw [← hL] at hmod
  have m0 : 0 ≤ lo % M := Int.emod_nonneg _ (by omega)
  have m1 : lo % M < M := Int.emod_lt_of_pos _ (by omega)
  have hlo : lo * P = L * 18446744073709551616 + (lo % M) * P := by
    conv => lhs; rw [← hmod]
    rw [Int.add_mul, ← hPM, Int.mul_comm M L, Int.mul_assoc L M P, Int.mul_comm M P]
    omega
  have z0 : 0 ≤ (lo % M) * P := Int.mul_nonneg m0 (by omega)
  have z1 : (lo % M) * P < 18446744073709551616 := by
    have : (lo % M) * P < M * P := Int.mul_lt_mul_of_pos_right m1 (by omega)
    rw [Int.mul_comm M P, hPM] at this
    exact this
  have hZ : IntKind.u64.wrap (lo * P) = (lo % M) * P := by rw [IntKind.wrap_u64, hlo]; omega
  have hand : ∀ z : Int, 0 ≤ z → z < 18446744073709551616 → bits .and .u64 z 4294967295 = z % 4294967296 := fun z g0 g1 => bits_mask .u64 64 (by decide) wraps_u64 32 (by decide) z g0 (by omega)
  have hor : bits .or .u64 (hi * P) L = hi * P + L := by
    refine bits_join .u64 64 (by decide) wraps_u64 k (hi * P) L h0 ?_ (by omega) L0 (by rw [← hP]; exact L1) (by omega)
    rw [← hP]; exact Int.mul_emod_left _ _
  refine ⟨k, 64 - k, y * P, y * P / 4294967296, y * P % 4294967296, hi * P, L, hi * P + L, (lo % M) * P, (lo % M) * P / 4294967296, (lo % M) * P % 4294967296, ?_, ?_, ?_, ?_, rfl, ?_, ?_, ?_, ?_, ?_, hor, ?_, rfl, ?_⟩
  · refine { k0 := by omega, hY := by rw [hP], hYs := by omega, n00 := by omega, n01 := by omega, n10 := by omega, n11 := by omega, u0 := by omega, u1 := by omega, z0 := z0, hZ := by omega, d10 := by omega, d11 := by omega, d00 := by omega, d01 := by omega, hN := ?_ }
    have e : (hi * 18446744073709551616 + lo) * P = hi * P * 18446744073709551616 + lo * P := by rw [Int.add_mul, Int.mul_right_comm]
    rw [← hP, e]
    omega
  · rw [hbl, wrap_small (by omega) (by omega)]; omega
  · omega
  · rw [← hP]; exact wrap_small (by omega) (by omega)
  · exact hand _ (by omega) (by omega)
  · rw [← hP]; exact wrap_small (by omega) (by omega)
  · rw [wrap_small (by omega) (by omega)]; omega
  · omega
  · rw [← hM]; exact hL.symm
  · rw [← hP]; exact hZ
  · exact hand _ z0 z1
/-- Two digits and the last remainder. -/
theorem Shifted.result {hi lo y : Int} {k m : Nat} {Y n1 n0 H L U Z d1 d0 Q1 R1 Q0 : Int} (S : Shifted hi lo y k m Y n1 n0 H L U Z d1 d0) (hy : 0 < y)
    (hR : R1 = U * 4294967296 + d1 - Q1 * Y) (D0 : Digit Y n1 n0 R1 d0 Q0) :
    Q1 * 4294967296 + Q0 = (hi * 18446744073709551616 + lo) / y ∧ (R1 * 4294967296 + d0 - Q0 * Y) / 2 ^ k = (hi * 18446744073709551616 + lo) % y := by
  have hp : (0 : Int) < 2 ^ k := Int.pow_pos (by omega)
  obtain ⟨r1, r2⟩ := D0.restb
  obtain ⟨R, hRR⟩ : ∃ R, R = R1 * 4294967296 + d0 - Q0 * Y := ⟨_, rfl⟩
  rw [← hRR] at r1 r2 ⊢
  have e : (hi * 18446744073709551616 + lo) * 2 ^ k = (Q1 * 4294967296 + Q0) * Y + R := by
    rw [← S.hN, S.hZ, hRR, hR, Int.add_mul, Int.mul_right_comm]
    omega
  rw [S.hY] at e r2
  obtain ⟨q, hq⟩ : ∃ q, q = Q1 * 4294967296 + Q0 := ⟨_, rfl⟩
  rw [← hq] at e ⊢
  obtain ⟨N, hN⟩ : ∃ N, N = hi * 18446744073709551616 + lo := ⟨_, rfl⟩
  rw [← hN] at e ⊢
  obtain ⟨P, hP⟩ : ∃ P : Int, P = 2 ^ k := ⟨_, rfl⟩
  rw [← hP] at e hp r2 ⊢
  have e2 : R = (N - q * y) * P := by rw [Int.sub_mul, e, Int.mul_assoc q y P]; omega
  have t0 : 0 ≤ N - q * y := by
    rcases Int.lt_or_le (N - q * y) 0 with h | h
    · have : (N - q * y) * P < 0 := Int.mul_neg_of_neg_of_pos h hp
      omega
    · exact h
  have t1 : N - q * y < y := Int.lt_of_mul_lt_mul_right (by rw [← e2]; exact r2) (Int.le_of_lt hp)
  have hqd : N / y = q ∧ N % y = N - q * y := by
    have := Int.ediv_emod_unique (a := N) (b := y) (r := N - q * y) (q := q) hy
    exact this.2 ⟨by rw [Int.mul_comm y q]; omega, t0, t1⟩
  refine ⟨hqd.1.symm, ?_⟩
  rw [hqd.2, e2]
  exact Int.mul_ediv_cancel _ (by omega)
end Go.Proofs.Ytklkhnhieihfoaa
