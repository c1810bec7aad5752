/- A vector lifted off one other moves by little: the bound. -/
import Derived.Test.YtkoejgpnlncgaaaNearP
import Derived.Test.YtkoejgpnlncgaaaVecH
namespace Go.Proofs.Ytkoejgpnlncgaaa
open Go.RowKit
set_option linter.unusedVariables false
theorem sq_zero {a : Int} (h : a * a = 0) : a = 0 := by rcases Int.mul_eq_zero.1 h with g | g <;> exact g
theorem le_of_mul_pos {a b c : Int} (hc : 0 < c) (h : c * a ≤ c * b) : a ≤ b := Int.le_of_mul_le_mul_left h hc
/-- The numbers alone. -/
theorem near_num {D k s r E F : Int} (D0 : 0 < D) (k0 : 0 ≤ k) (s0 : 0 ≤ s) (r0 : 0 < r) (hs : s * s ≤ 2 * D) (hr : r * r ≤ D) (hE : D * E ≤ 2 * D + 2 * (k * s) + k * k) (F0 : 0 ≤ F) (hF : k + 2 * r ≤ r * F) : E ≤ F * F := by
  have sr : s * r ≤ 2 * D := by
    rcases Int.lt_or_le (2 * D) (s * r) with g | g
    · exfalso
      have h1 := mul_self_mono (show 0 ≤ 2 * D by omega) (Int.le_of_lt g)
      have h2 : (s * r) * (s * r) = (s * s) * (r * r) := by grind
      have h3 := Int.mul_le_mul hs hr (sq_nn r) (show 0 ≤ 2 * D by omega)
      have h4 : 2 * D * D < 2 * D * (2 * D) := by
        have : 0 < D * D := Int.mul_pos D0 D0
        grind
      omega
    · exact g
  have a1 : (r * r) * (k * k) ≤ D * (k * k) := Int.mul_le_mul_of_nonneg_right hr (sq_nn k)
  have a2 : (2 * (k * r)) * (s * r) ≤ (2 * (k * r)) * (2 * D) := Int.mul_le_mul_of_nonneg_left sr (by have := Int.mul_nonneg k0 (Int.le_of_lt r0); omega)
  have a3 : 0 ≤ D * (r * r) := Int.mul_nonneg (by omega) (sq_nn r)
  have a4 : (r * r) * (D * E) ≤ (r * r) * (2 * D + 2 * (k * s) + k * k) := Int.mul_le_mul_of_nonneg_left hE (sq_nn r)
  have a5 := mul_self_mono (show 0 ≤ k + 2 * r by omega) hF
  have a6 : D * ((k + 2 * r) * (k + 2 * r)) ≤ D * ((r * F) * (r * F)) := Int.mul_le_mul_of_nonneg_left a5 (by omega)
  have b1 : (r * r) * (2 * D + 2 * (k * s) + k * k) = 2 * (D * (r * r)) + (2 * (k * r)) * (s * r) + (r * r) * (k * k) := by grind
  have b2 : D * ((k + 2 * r) * (k + 2 * r)) = D * (k * k) + (2 * (k * r)) * (2 * D) + 4 * (D * (r * r)) := by grind
  have b3 : D * ((r * F) * (r * F)) = (r * r * D) * (F * F) := by grind
  have b4 : (r * r) * (D * E) = (r * r * D) * E := by grind
  refine le_of_mul_pos (c := r * r * D) (Int.mul_pos (Int.mul_pos r0 r0) D0) ?_
  omega
/-- A side of the corner away from n. -/
theorem side {P D n d : Int} (D0 : 0 < D) (h : (0 ≤ n ∧ 0 ≤ d ∧ d < D) ∨ (n < 0 ∧ -D < d ∧ d ≤ 0)) : 0 ≤ d * n ∧ d * n ≤ D * n.natAbs ∧ d * d ≤ D * D := by
  rcases h with ⟨h1, h2, h3⟩ | ⟨h1, h2, h3⟩
  · refine ⟨Int.mul_nonneg h2 h1, ?_, mul_self_mono h2 (by omega)⟩
    rw [show (n.natAbs : Int) = n by omega]
    exact Int.mul_le_mul_of_nonneg_right (by omega) h1
  · refine ⟨Int.mul_nonneg_of_nonpos_of_nonpos h3 (by omega), ?_, ?_⟩
    · rw [show (n.natAbs : Int) = -n by omega]
      have := Int.mul_le_mul_of_nonneg_right (show -d ≤ D by omega) (show 0 ≤ -n by omega)
      grind
    · have := mul_self_mono (show 0 ≤ -d by omega) (show -d ≤ D by omega)
      grind
theorem vd_pos {n : V2} (h : n ≠ (0, 0)) : 0 < vd n n := by
  obtain ⟨a, b⟩ := n
  show 0 < a * a + b * b
  have h1 := sq_nn a
  have h2 := sq_nn b
  rcases Int.lt_or_le 0 (a * a + b * b) with g | g
  · exact g
  · exfalso
    apply h
    have e1 : a * a = 0 := by omega
    have e2 : b * b = 0 := by omega
    rw [sq_zero e1, sq_zero e2]
set_option maxHeartbeats 2000000 in
theorem near_corner {x n : V2} (hx1 : -16384 ≤ x.1 ∧ x.1 ≤ 16384) (hx2 : -16384 ≤ x.2 ∧ x.2 ≤ 16384) (D0 : 0 < vd n n) (hk : vd x n < 0) :
    ∃ y0, y0 ∈ cornersR x n ∧ smB y0 = true ∧ 0 ≤ vd y0 n ∧ vd n n * kA x y0 ≤ 2 * vd n n + 2 * ((-vd x n) * ((n.1.natAbs : Int) + n.2.natAbs)) + (-vd x n) * (-vd x n) := by
  obtain ⟨x1, x2⟩ := x
  obtain ⟨n1, n2⟩ := n
  simp only at hx1 hx2
  obtain ⟨D, hD⟩ : ∃ D, D = vd (n1, n2) (n1, n2) := ⟨_, rfl⟩
  obtain ⟨k, hke⟩ : ∃ k, k = -vd (x1, x2) (n1, n2) := ⟨_, rfl⟩
  have k0 : 0 < k := by omega
  rw [← hD] at D0
  obtain ⟨P, hP⟩ : ∃ P, P = -(n1 * x2 - n2 * x1) * n2 := ⟨_, rfl⟩
  obtain ⟨Q, hQ⟩ : ∃ Q, Q = (n1 * x2 - n2 * x1) * n1 := ⟨_, rfl⟩
  have eD : D = n1 * n1 + n2 * n2 := hD
  have ek : k = -(x1 * n1 + x2 * n2) := hke
  have eP : P = D * x1 + k * n1 := by rw [hP, eD, ek]; grind
  have eQ : Q = D * x2 + k * n2 := by rw [hQ, eD, ek]; grind
  have eO : P * n1 + Q * n2 = 0 := by rw [hP, hQ]; grind
  have f1 := fl_ge (P := P) D0
  have f2 := cl_ge (P := P) D0
  have f3 := fl_ge (P := Q) D0
  have f4 := cl_ge (P := Q) D0
  have hm : ∀ u v, (u = P / D ∨ u = -(-P / D)) → (v = Q / D ∨ v = -(-Q / D)) → (u, v) ∈ cornersR (x1, x2) (n1, n2) := by
    intro u v hu hv
    unfold cornersR
    simp only
    rw [← hD, ← hP, ← hQ]
    simp only [List.mem_cons, Prod.mk.injEq, List.not_mem_nil, or_false]
    rcases hu with rfl | rfl <;> rcases hv with rfl | rfl <;> simp
  obtain ⟨u, hu, hu'⟩ : ∃ u, (u = P / D ∨ u = -(-P / D)) ∧ ((0 ≤ n1 ∧ 0 ≤ D * u - P ∧ D * u - P < D) ∨ (n1 < 0 ∧ -D < D * u - P ∧ D * u - P ≤ 0)) := by
    rcases Int.lt_or_le n1 0 with g | g
    · exact ⟨_, .inl rfl, .inr ⟨g, by omega, by omega⟩⟩
    · exact ⟨_, .inr rfl, .inl ⟨g, by omega, by omega⟩⟩
  obtain ⟨v, hv, hv'⟩ : ∃ v, (v = Q / D ∨ v = -(-Q / D)) ∧ ((0 ≤ n2 ∧ 0 ≤ D * v - Q ∧ D * v - Q < D) ∨ (n2 < 0 ∧ -D < D * v - Q ∧ D * v - Q ≤ 0)) := by
    rcases Int.lt_or_le n2 0 with g | g
    · exact ⟨_, .inl rfl, .inr ⟨g, by omega, by omega⟩⟩
    · exact ⟨_, .inr rfl, .inl ⟨g, by omega, by omega⟩⟩
  have hmem := hm u v hu hv
  clear hm hu hv f1 f2 f3 f4
  obtain ⟨d1, hd1⟩ : ∃ d1, d1 = D * u - P := ⟨_, rfl⟩
  obtain ⟨d2, hd2⟩ : ∃ d2, d2 = D * v - Q := ⟨_, rfl⟩
  rw [← hd1] at hu'
  rw [← hd2] at hv'
  obtain ⟨s1, s2, s3⟩ := side (P := P) D0 hu'
  obtain ⟨s4, s5, s6⟩ := side (P := Q) D0 hv'
  obtain ⟨A1, hA1⟩ : ∃ A1 : Int, A1 = n1.natAbs := ⟨_, rfl⟩
  obtain ⟨A2, hA2⟩ : ∃ A2 : Int, A2 = n2.natAbs := ⟨_, rfl⟩
  have hsq1 : A1 * A1 = n1 * n1 := by rw [hA1, ← Int.natCast_mul]; exact Int.natAbs_mul_self
  have hsq2 : A2 * A2 = n2 * n2 := by rw [hA2, ← Int.natCast_mul]; exact Int.natAbs_mul_self
  have A10 : 0 ≤ A1 := by omega
  have A20 : 0 ≤ A2 := by omega
  rw [← hA1] at s2
  rw [← hA2] at s5
  have eu : D * u = P + d1 := by omega
  have ev : D * v = Q + d2 := by omega
  refine ⟨(u, v), hmem, ?_, ?_, ?_⟩
  · -- small
    have hA : 2 * (A1 * A2) ≤ D := by
      have := sq_nn (A1 - A2)
      grind
    have hA12 : 0 ≤ A1 * A2 := Int.mul_nonneg A10 A20
    have hk1 : k ≤ 16384 * (A1 + A2) := by
      have m1 := mul_bd x1 n1 16384 A1 hx1.1 hx1.2 (by omega) (by omega)
      have m2 := mul_bd x2 n2 16384 A2 hx2.1 hx2.2 (by omega) (by omega)
      omega
    have q1 := sq_nn n1
    have q2 := sq_nn n2
    have key : ∀ A : Int, 0 ≤ A → A * A + A1 * A2 ≤ 2 * D → (A = A1 ∨ A = A2) → k * A ≤ 32768 * D := by
      intro A hA0 hAA hor
      have h1 := Int.mul_le_mul_of_nonneg_right hk1 hA0
      have h2 : 16384 * (A1 + A2) * A = 16384 * (A * A + A1 * A2) := by rcases hor with rfl | rfl <;> grind
      omega
    have k1 := key A1 A10 (by omega) (.inl rfl)
    have k2 := key A2 A20 (by omega) (.inr rfl)
    have kb1 := mul_bd k n1 k A1 (by omega) (Int.le_refl _) (by omega) (by omega)
    have kb2 := mul_bd k n2 k A2 (by omega) (Int.le_refl _) (by omega) (by omega)
    have xb1 := mul_bd D x1 D 16384 (by omega) (Int.le_refl _) hx1.1 hx1.2
    have xb2 := mul_bd D x2 D 16384 (by omega) (Int.le_refl _) hx2.1 hx2.2
    have bu1 : D * u ≤ D * 49153 := by omega
    have bu2 : D * (-49153) ≤ D * u := by omega
    have bv1 : D * v ≤ D * 49153 := by omega
    have bv2 : D * (-49153) ≤ D * v := by omega
    have c1 := le_of_mul_pos D0 bu1
    have c2 := le_of_mul_pos D0 bu2
    have c3 := le_of_mul_pos D0 bv1
    have c4 := le_of_mul_pos D0 bv2
    exact small_of ⟨by simp only; omega, by simp only; omega, by simp only; omega, by simp only; omega⟩
  · refine le_of_mul_pos D0 ?_
    show D * 0 ≤ D * (u * n1 + v * n2)
    have e : D * (u * n1 + v * n2) = (D * u) * n1 + (D * v) * n2 := by grind
    rw [e, eu, ev]
    have e2 : (P + d1) * n1 + (Q + d2) * n2 = (P * n1 + Q * n2) + (d1 * n1 + d2 * n2) := by grind
    rw [e2]
    omega
  · rw [← hD, ← hke]
    simp only
    rw [← hA1, ← hA2]
    show D * ((u - x1) * (u - x1) + (v - x2) * (v - x2)) ≤ _
    refine le_of_mul_pos D0 ?_
    have g1 : D * (u - x1) = d1 + k * n1 := by rw [Int.mul_sub, eu, eP]; omega
    have g2 : D * (v - x2) = d2 + k * n2 := by rw [Int.mul_sub, ev, eQ]; omega
    have e : D * (D * ((u - x1) * (u - x1) + (v - x2) * (v - x2))) = (D * (u - x1)) * (D * (u - x1)) + (D * (v - x2)) * (D * (v - x2)) := by grind
    rw [e, g1, g2]
    have e2 : (d1 + k * n1) * (d1 + k * n1) + (d2 + k * n2) * (d2 + k * n2) = d1 * d1 + d2 * d2 + 2 * (k * (d1 * n1 + d2 * n2)) + k * k * D := by rw [eD]; grind
    rw [e2]
    have t1 : k * (d1 * n1 + d2 * n2) ≤ k * (D * A1 + D * A2) := Int.mul_le_mul_of_nonneg_left (by omega) (by omega)
    have t2 : D * (2 * D + 2 * (k * (A1 + A2)) + k * k) = 2 * (D * D) + 2 * (k * (D * A1 + D * A2)) + k * k * D := by grind
    omega
set_option maxHeartbeats 1000000 in
theorem near_bound {x n : V2} (hx1 : -16384 ≤ x.1 ∧ x.1 ≤ 16384) (hx2 : -16384 ≤ x.2 ∧ x.2 ≤ 16384) (hn1 : -4096 ≤ n.1 ∧ n.1 ≤ 4096) (hn2 : -4096 ≤ n.2 ∧ n.2 ≤ 4096) (h0 : n ≠ (0, 0)) (hk : vd x n < 0) :
    kA x (liftR x [n]) ≤ (-vd x n / rootR (vd n n) + 3) * (-vd x n / rootR (vd n n) + 3) := by
  have D0 := vd_pos h0
  have hsx : smB x = true := small_of ⟨by omega, by omega, by omega, by omega⟩
  have hsn : smB n = true := small_of ⟨by omega, by omega, by omega, by omega⟩
  have hl : ∀ m ∈ [n], smB m = true := fun m hm => by rw [List.mem_singleton] at hm; rw [hm]; exact hsn
  have hna : ¬ allowedR x [n] = true := fun h => by have := allowed_iff.1 h n (by simp); omega
  obtain ⟨y0, hc, hs, ha, hE⟩ := near_corner hx1 hx2 D0 hk
  have hy0 : isC x [n] y0 := .inr ⟨⟨n, by simp, hk, hc⟩, hs, allowed_iff.2 (fun m hm => by rw [List.mem_singleton] at hm; rw [hm]; exact ha)⟩
  have hmin : kA x (liftR x [n]) ≤ kA x y0 := by
    rw [lift_pick hsx hl hna]
    have B := best_least x [n]
    rcases pick_cases B with ⟨c, hcS, hcm, e, _⟩ | ⟨e, c, d, hcb, hdb, hne⟩
    · rw [e]
      have := hcm y0 hy0
      unfold leK at this
      omega
    · exfalso
      apply hne
      obtain ⟨hcS, hcm⟩ := (B.2 c).1 hcb
      obtain ⟨hdS, hdm⟩ := (B.2 d).1 hdb
      have h1 := hcm d hdS
      have h2 := hdm c hcS
      have eA : kA x c = kA x d := by unfold leK at h1 h2; omega
      have eC : kC c = kC d := by unfold leK at h1 h2; omega
      have zero : ∀ c : V2, kC c = 0 → c = (0, 0) := by
        intro c hc
        obtain ⟨a, b⟩ := c
        have hc' : a * a + b * b = 0 := hc
        have q1 := sq_nn a
        have q2 := sq_nn b
        have e1 : a * a = 0 := by omega
        have e2 : b * b = 0 := by omega
        rw [sq_zero e1, sq_zero e2]
      have kz : kC (0, 0) = 0 := by decide
      rcases hcS with rfl | ⟨⟨m, hm, _, hcc⟩, _, hca⟩
      · rw [kz] at eC
        exact (zero d eC.symm).symm
      · rcases hdS with rfl | ⟨⟨m', hm', _, hdc⟩, _, hda⟩
        · rw [kz] at eC
          exact zero c eC
        · rw [List.mem_singleton] at hm hm'
          subst hm
          subst hm'
          exact tie_none D0 hk hcc hdc (allowed_iff.1 hca m' (by simp)) (allowed_iff.1 hda m' (by simp)) eA eC
  have Dmax : vd n n ≤ 9223372036854775807 := by have := vd_bd hsn hsn; omega
  obtain ⟨r0, r1, r2⟩ := rootR_spec (Int.le_of_lt D0) Dmax
  generalize hr : rootR (vd n n) = r at r0 r1 r2 ⊢
  have rp : 0 < r := by
    rcases Int.lt_or_le 0 r with g | g
    · exact g
    · have : r = 0 := by omega
      subst this
      omega
  have q := Int.lt_mul_ediv_self_add (x := -vd x n) rp
  refine Int.le_trans hmin ?_
  refine near_num (D := vd n n) (k := -vd x n) (s := (n.1.natAbs : Int) + n.2.natAbs) (r := r) D0 (by omega) (by omega) rp ?_ r1 hE ?_ ?_
  · have hsq1 : (n.1.natAbs : Int) * n.1.natAbs = n.1 * n.1 := by rw [← Int.natCast_mul]; exact Int.natAbs_mul_self
    have hsq2 : (n.2.natAbs : Int) * n.2.natAbs = n.2 * n.2 := by rw [← Int.natCast_mul]; exact Int.natAbs_mul_self
    have := sq_nn ((n.1.natAbs : Int) - n.2.natAbs)
    unfold vd
    grind
  · have := Int.ediv_nonneg (show 0 ≤ -vd x n by omega) (Int.le_of_lt rp)
    omega
  · rw [Int.mul_add]
    omega
end Go.Proofs.Ytkoejgpnlncgaaa
