/- A vector lifted off one other moves by little: plain laws. -/
import Derived.Test.YtkoejgpnlncgaaaLiftP
namespace Go.Proofs.Ytkoejgpnlncgaaa
open Go.RowKit
set_option linter.unusedVariables false
theorem fl_ge {P D : Int} (h : 0 < D) : D * (P / D) ≤ P ∧ P < D * (P / D) + D := ⟨Int.mul_ediv_self_le (by omega), by have := Int.lt_mul_ediv_self_add (x := P) h; omega⟩
theorem cl_ge {P D : Int} (h : 0 < D) : P ≤ D * (-(-P / D)) ∧ D * (-(-P / D)) < P + D := by
  have := fl_ge (P := -P) h
  rw [Int.mul_neg]
  omega
theorem sq_nn (z : Int) : 0 ≤ z * z := by
  rcases Int.le_total 0 z with g | g
  · exact Int.mul_nonneg g g
  · exact Int.mul_nonneg_of_nonpos_of_nonpos g g
theorem pos_of_mul_sq {t s : Int} (h : 0 < t * (s * s)) : 0 < t := by
  rcases Int.lt_or_le 0 t with g | g
  · exact g
  · have := Int.mul_nonpos_of_nonpos_of_nonneg g (sq_nn s)
    omega
theorem neg_of_mul_sq {t s : Int} (h : t * (s * s) < 0) : t < 0 := by
  have := @pos_of_mul_sq (-t) s (by rw [Int.neg_mul]; omega)
  omega
/-- Two neighbours on the diagonal cannot both be best. -/
theorem tie_diag {a b x1 n1 n2 D P Q : Int} (hD : 0 < D) (hP : P = x1 * (n1 + n2) * n2) (hQ : Q = -(x1 * (n1 + n2) * n1)) (e : a + b = -1) (p1 : D * a < P) (p2 : P < D * (a + 1)) (q1 : D * b < Q) (q2 : Q < D * (b + 1))
    (h1 : 0 ≤ a * n1 + b * n2) (h2 : 0 ≤ (a + 1) * n1 + (b + 1) * n2) (hx : x1 * (n1 - n2) < 0) : False := by
  have hPQ : P - Q = x1 * ((n1 + n2) * (n1 + n2)) := by rw [hP, hQ]; grind
  have hb : b = -1 - a := by omega
  subst hb
  have hs : 0 ≤ (2 * a + 1) * (n1 - n2) := by grind
  have e1 : D * (a + 1) = D * a + D := by grind
  have e2 : D * (-1 - a) = -D - D * a := by grind
  have e3 : D * (-1 - a + 1) = -(D * a) := by grind
  rw [e2] at q1
  rw [e3] at q2
  rw [e1] at p2
  rcases Int.lt_or_le a 0 with g | g
  · have h3 : D * a ≤ D * (-1) := Int.mul_le_mul_of_nonneg_left (by omega) (by omega)
    have h4 : x1 * ((n1 + n2) * (n1 + n2)) ≤ 0 := by omega
    rcases Int.lt_or_le x1 0 with g2 | g2
    · have g3 : 0 < n1 - n2 := by
        rcases Int.lt_or_le 0 (n1 - n2) with g3 | g3
        · exact g3
        · have := Int.mul_nonneg_of_nonpos_of_nonpos (show x1 ≤ 0 by omega) g3
          omega
      have := Int.mul_le_mul_of_nonneg_right (show 2 * a + 1 ≤ -1 by omega) (show 0 ≤ n1 - n2 by omega)
      omega
    · have := Int.mul_nonneg g2 (sq_nn (n1 + n2))
      omega
  · have h3 : 0 ≤ D * a := Int.mul_nonneg (by omega) g
    have h4 : 0 ≤ x1 * ((n1 + n2) * (n1 + n2)) := by omega
    rcases Int.lt_or_le 0 x1 with g2 | g2
    · have g3 : n1 - n2 < 0 := by
        rcases Int.lt_or_le (n1 - n2) 0 with g3 | g3
        · exact g3
        · have := Int.mul_nonneg (show 0 ≤ x1 by omega) g3
          omega
      have := Int.mul_le_mul_of_nonneg_right (show 1 ≤ 2 * a + 1 by omega) (show 0 ≤ -(n1 - n2) by omega)
      simp only [Int.mul_neg, Int.one_mul] at this
      omega
    · have := Int.mul_nonpos_of_nonpos_of_nonneg g2 (sq_nn (n1 + n2))
      omega
/-- The mirrored case. -/
theorem tie_diag' {a b x1 n1 n2 D P Q : Int} (hD : 0 < D) (hP : P = x1 * (n2 - n1) * n2) (hQ : Q = x1 * (n1 - n2) * n1) (e : a = b) (p1 : D * a < P) (p2 : P < D * (a + 1)) (q1 : D * b < Q) (q2 : Q < D * (b + 1))
    (h1 : 0 ≤ a * n1 + (b + 1) * n2) (h2 : 0 ≤ (a + 1) * n1 + b * n2) (hx : x1 * (n1 + n2) < 0) : False := by
  refine tie_diag (a := -a - 1) (b := b) (x1 := -x1) (n1 := -n1) (n2 := n2) (D := D) (P := -P) (Q := Q) hD ?_ ?_ (by omega) ?_ ?_ q1 q2 ?_ ?_ ?_
  · rw [hP]; grind
  · rw [hQ]; grind
  · have : D * (-a - 1) = -(D * (a + 1)) := by grind
    omega
  · have : D * (-a - 1 + 1) = -(D * a) := by grind
    omega
  · have : (-a - 1) * -n1 + b * n2 = (a + 1) * n1 + b * n2 := by grind
    omega
  · have : (-a - 1 + 1) * -n1 + (b + 1) * n2 = a * n1 + (b + 1) * n2 := by grind
    omega
  · have : -x1 * (-n1 - n2) = x1 * (n1 + n2) := by grind
    omega
theorem sq_step {a b : Int} (h : b = a + 1) : ¬ (a * a = b * b) := by
  subst h
  have : (a + 1) * (a + 1) = a * a + 2 * a + 1 := by grind
  omega
-- The four corners: two different ones are not equally near and equally long, if both are allowed.
set_option maxHeartbeats 2000000 in
theorem tie_none {x n : V2} {c d : V2} (hD : 0 < vd n n) (hx : vd x n < 0) (hc : c ∈ cornersR x n) (hd : d ∈ cornersR x n) (ac : 0 ≤ vd c n) (ad : 0 ≤ vd d n) (eA : kA x c = kA x d) (eC : kC c = kC d) : c = d := by
  obtain ⟨x1, x2⟩ := x
  obtain ⟨n1, n2⟩ := n
  obtain ⟨c1, c2⟩ := c
  obtain ⟨d1, d2⟩ := d
  unfold cornersR at hc hd
  simp only at hc hd
  obtain ⟨D, hDe⟩ : ∃ D, D = vd (n1, n2) (n1, n2) := ⟨_, rfl⟩
  rw [← hDe] at hc hd hD
  obtain ⟨P, hP⟩ : ∃ P, P = -(n1 * x2 - n2 * x1) * n2 := ⟨_, rfl⟩
  obtain ⟨Q, hQ⟩ : ∃ Q, Q = (n1 * x2 - n2 * x1) * n1 := ⟨_, rfl⟩
  rw [← hP, ← hQ] at hc hd
  have f1 := fl_ge (P := P) hD
  have f2 := cl_ge (P := P) hD
  have f3 := fl_ge (P := Q) hD
  have f4 := cl_ge (P := Q) hD
  simp only [vd, kA, kC, sqI] at hx ac ad eA eC
  have eX : x1 * (c1 - d1) + x2 * (c2 - d2) = 0 := by grind
  generalize P / D = a at *
  generalize -(-P / D) = a' at *
  generalize Q / D = b at *
  generalize -(-Q / D) = b' at *
  have key : ∀ u v P : Int, D * u ≤ P → P < D * u + D → P ≤ D * v → D * v < P + D → v = u ∨ (v = u + 1 ∧ D * u < P ∧ P < D * (u + 1)) := by
    intro u v P h1 h2 h3 h4
    have e1 : D * (u + 1) = D * u + D := by grind
    rcases Int.lt_trichotomy v (u + 1) with g | g | g
    · have h5 : D * v ≤ D * u := Int.mul_le_mul_of_nonneg_left (by omega) (by omega)
      left
      rcases Int.lt_or_le v u with g2 | g2
      · exfalso
        have h6 : D * v ≤ D * (u - 1) := Int.mul_le_mul_of_nonneg_left (by omega) (by omega)
        have e2 : D * (u - 1) = D * u - D := by grind
        omega
      · omega
    · right
      subst g
      refine ⟨rfl, ?_, by omega⟩
      omega
    · exfalso
      have h6 : D * (u + 2) ≤ D * v := Int.mul_le_mul_of_nonneg_left (by omega) (by omega)
      have e2 : D * (u + 2) = D * u + 2 * D := by grind
      omega
  have ka := key a a' P f1.1 f1.2 f2.1 f2.2
  have kb := key b b' Q f3.1 f3.2 f4.1 f4.2
  clear key f1 f2 f3 f4
  simp only [List.mem_cons, Prod.mk.injEq, List.not_mem_nil, or_false] at hc hd
  have hc' : (c1 = a ∨ c1 = a') ∧ (c2 = b ∨ c2 = b') := by omega
  have hd' : (d1 = a ∨ d1 = a') ∧ (d2 = b ∨ d2 = b') := by omega
  clear hc hd
  by_cases e1 : c1 = d1
  · subst e1
    by_cases e2 : c2 = d2
    · rw [e2]
    · exfalso
      have hn : c2 = d2 + 1 ∨ d2 = c2 + 1 := by omega
      rcases hn with g | g
      · exact sq_step g (by omega)
      · exact sq_step g (by omega)
  · exfalso
    by_cases e2 : c2 = d2
    · subst e2
      have hn : c1 = d1 + 1 ∨ d1 = c1 + 1 := by omega
      rcases hn with g | g
      · exact sq_step g (by omega)
      · exact sq_step g (by omega)
    · have ha : a' = a + 1 ∧ D * a < P ∧ P < D * (a + 1) := by omega
      have hb : b' = b + 1 ∧ D * b < Q ∧ Q < D * (b + 1) := by omega
      obtain ⟨rfl, pa, pb⟩ := ha
      obtain ⟨rfl, qa, qb⟩ := hb
      have hdiag : (c1 = a ∧ c2 = b ∧ d1 = a + 1 ∧ d2 = b + 1) ∨ (c1 = a + 1 ∧ c2 = b + 1 ∧ d1 = a ∧ d2 = b) ∨ (c1 = a ∧ c2 = b + 1 ∧ d1 = a + 1 ∧ d2 = b) ∨ (c1 = a + 1 ∧ c2 = b ∧ d1 = a ∧ d2 = b + 1) := by omega
      clear ka kb hc' hd' e1 e2
      rcases hdiag with ⟨rfl, rfl, rfl, rfl⟩ | ⟨rfl, rfl, rfl, rfl⟩ | ⟨rfl, rfl, rfl, rfl⟩ | ⟨rfl, rfl, rfl, rfl⟩
      · have hs : c1 + c2 = -1 := by grind
        have hx2 : x2 = -x1 := by grind
        subst hx2
        exact tie_diag (x1 := x1) (n1 := n1) (n2 := n2) hD (by rw [hP]; grind) (by rw [hQ]; grind) hs pa pb qa qb ac ad (by grind)
      · have hs : d1 + d2 = -1 := by grind
        have hx2 : x2 = -x1 := by grind
        subst hx2
        exact tie_diag (x1 := x1) (n1 := n1) (n2 := n2) hD (by rw [hP]; grind) (by rw [hQ]; grind) hs pa pb qa qb ad ac (by grind)
      · have hs : c1 = d2 := by grind
        have hx2 : x2 = x1 := by grind
        subst hx2
        exact tie_diag' (x1 := x2) (n1 := n1) (n2 := n2) hD (by rw [hP]; grind) (by rw [hQ]; grind) hs pa pb qa qb ac ad (by grind)
      · have hs : d1 = c2 := by grind
        have hx2 : x2 = x1 := by grind
        subst hx2
        exact tie_diag' (x1 := x2) (n1 := n1) (n2 := n2) hD (by rw [hP]; grind) (by rw [hQ]; grind) hs pa pb qa qb ad ac (by grind)
end Go.Proofs.Ytkoejgpnlncgaaa
