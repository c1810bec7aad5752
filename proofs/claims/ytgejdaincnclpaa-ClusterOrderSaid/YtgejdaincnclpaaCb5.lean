/- Merged texts: RsP RsE RsG ClL ClV ClS ClT ClU ClC ClQ ClR ClA (what no proof of the claim needs is left out). -/
import Derived.Test.YtgejdaincnclpaaCb4
import Derived.Test.YtgejdaincnclpaaShelfS
import Derived.Sort.Grow
import Derived.Lib.SlicesCompact
import Derived.Deep.LoopGhost
namespace Go.Proofs.Ytgejdaincnclpaa
open Go Go.RowKit
set_option linter.unusedVariables false
theorem lowG_pos (x y d : Int) (hd : 0 < d) : (0 : Int) < lowG x y d := by
  unfold lowG
  have : 0 < Nat.gcd (Nat.gcd x.natAbs y.natAbs) d.natAbs := Nat.gcd_pos_of_pos_right _ (by omega)
  omega
theorem lowG_dvd (x y d : Int) : (lowG x y d : Int) ∣ x ∧ (lowG x y d : Int) ∣ y ∧ (lowG x y d : Int) ∣ d := by
  unfold lowG
  have h1 : Nat.gcd (Nat.gcd x.natAbs y.natAbs) d.natAbs ∣ Nat.gcd x.natAbs y.natAbs := Nat.gcd_dvd_left _ _
  exact ⟨Int.ofNat_dvd_left.2 (Nat.dvd_trans h1 (Nat.gcd_dvd_left _ _)), Int.ofNat_dvd_left.2 (Nat.dvd_trans h1 (Nat.gcd_dvd_right _ _)), Int.ofNat_dvd_left.2 (Nat.gcd_dvd_right _ _)⟩
/-- The numbers of a fraction are a multiple of those of its lowest form. -/
theorem lowR_mul (x y d : Int) (hd : 0 < d) : ∃ G : Int, 0 < G ∧ x = G * (lowR x y d).1 ∧ y = G * (lowR x y d).2.1 ∧ d = G * (lowR x y d).2.2 ∧ 0 < (lowR x y d).2.2 := by
  obtain ⟨h1, h2, h3⟩ := lowG_dvd x y d
  have hp := lowG_pos x y d hd
  have e3 : d = (lowG x y d : Int) * (lowR x y d).2.2 := (Int.mul_tdiv_cancel' h3).symm
  refine ⟨lowG x y d, hp, (Int.mul_tdiv_cancel' h1).symm, (Int.mul_tdiv_cancel' h2).symm, e3, ?_⟩
  rcases Int.lt_or_le 0 (lowR x y d).2.2 with h | h
  · exact h
  · have := Int.mul_le_mul_of_nonneg_left h (Int.le_of_lt hp)
    rw [Int.mul_zero, ← e3] at this
    omega
theorem sq_nn (x : Int) : 0 ≤ x * x := by
  rcases Int.le_total 0 x with h | h
  · exact Int.mul_nonneg h h
  · exact Int.mul_nonneg_of_nonpos_of_nonpos h h
theorem sq_le {t B : Int} (hB : 0 ≤ B) (h : t * t ≤ B * B) : -B ≤ t ∧ t ≤ B := by
  constructor
  · rcases Int.lt_or_le t (-B) with g | g
    · exfalso
      have : (B + 1) * (B + 1) ≤ (-t) * (-t) := Int.mul_le_mul (by omega) (by omega) (by omega) (by omega)
      rw [Int.neg_mul_neg] at this
      have e : (B + 1) * (B + 1) = B * B + 2 * B + 1 := by grind
      omega
    · exact g
  · rcases Int.lt_or_le B t with g | g
    · exfalso
      have : (B + 1) * (B + 1) ≤ t * t := Int.mul_le_mul (by omega) (by omega) (by omega) (by omega)
      have e : (B + 1) * (B + 1) = B * B + 2 * B + 1 := by grind
      omega
    · exact g
/-- The square of the length is at most n. -/
def Leq (r : Int × Int × Int) (n : Int) : Prop := r.1 * r.1 + r.2.1 * r.2.1 ≤ r.2.2 * r.2.2 * n
theorem leq_low {x y d n : Int} (hd : 0 < d) (h : x * x + y * y ≤ d * d * n) : Leq (lowR x y d) n := by
  obtain ⟨G, hG, e1, e2, e3, hd'⟩ := lowR_mul x y d hd
  unfold Leq
  generalize (lowR x y d).1 = x' at *
  generalize (lowR x y d).2.1 = y' at *
  generalize (lowR x y d).2.2 = d' at *
  subst e1 e2 e3
  have h2 : G * G * (x' * x' + y' * y') ≤ G * G * (d' * d' * n) := by
    have a : G * G * (x' * x' + y' * y') = G * x' * (G * x') + G * y' * (G * y') := by grind
    have b : G * G * (d' * d' * n) = G * d' * (G * d') * n := by grind
    rw [a, b]; exact h
  exact Int.le_of_mul_le_mul_left h2 (Int.mul_pos hG hG)
/-- A response relative to the surface. -/
theorem rel_leq (u1 u2 n1 n2 e g : Int) (he : 0 ≤ e ∧ e ≤ 15) (hg : 0 ≤ g ∧ g ≤ 15) :
    ((16 - g) * u1 * (n1 * n1 + n2 * n2) - (16 + e - g) * n1 * (u1 * n1 + u2 * n2)) * ((16 - g) * u1 * (n1 * n1 + n2 * n2) - (16 + e - g) * n1 * (u1 * n1 + u2 * n2)) +
    ((16 - g) * u2 * (n1 * n1 + n2 * n2) - (16 + e - g) * n2 * (u1 * n1 + u2 * n2)) * ((16 - g) * u2 * (n1 * n1 + n2 * n2) - (16 + e - g) * n2 * (u1 * n1 + u2 * n2)) ≤
    (16 * (n1 * n1 + n2 * n2)) * (16 * (n1 * n1 + n2 * n2)) * (u1 * u1 + u2 * u2) := by
  have m0 : 0 ≤ n1 * n1 + n2 * n2 := by have := sq_nn n1; have := sq_nn n2; omega
  have s0 := sq_nn (u1 * n2 - u2 * n1)
  have c0 := sq_nn (u1 * n1 + u2 * n2)
  have id1 : ((16 - g) * u1 * (n1 * n1 + n2 * n2) - (16 + e - g) * n1 * (u1 * n1 + u2 * n2)) * ((16 - g) * u1 * (n1 * n1 + n2 * n2) - (16 + e - g) * n1 * (u1 * n1 + u2 * n2)) +
    ((16 - g) * u2 * (n1 * n1 + n2 * n2) - (16 + e - g) * n2 * (u1 * n1 + u2 * n2)) * ((16 - g) * u2 * (n1 * n1 + n2 * n2) - (16 + e - g) * n2 * (u1 * n1 + u2 * n2)) =
    (16 - g) * (16 - g) * ((n1 * n1 + n2 * n2) * ((u1 * n2 - u2 * n1) * (u1 * n2 - u2 * n1))) + e * e * ((n1 * n1 + n2 * n2) * ((u1 * n1 + u2 * n2) * (u1 * n1 + u2 * n2))) := by grind
  have id2 : (16 * (n1 * n1 + n2 * n2)) * (16 * (n1 * n1 + n2 * n2)) * (u1 * u1 + u2 * u2) =
    256 * ((n1 * n1 + n2 * n2) * ((u1 * n2 - u2 * n1) * (u1 * n2 - u2 * n1))) + 256 * ((n1 * n1 + n2 * n2) * ((u1 * n1 + u2 * n2) * (u1 * n1 + u2 * n2))) := by grind
  rw [id1, id2]
  have a := Int.mul_le_mul_of_nonneg_right (show (16 - g) * (16 - g) ≤ 256 from Int.mul_le_mul (a := 16 - g) (c := 16) (b := 16 - g) (d := 16) (by omega) (by omega) (by omega) (by omega)) (Int.mul_nonneg m0 s0)
  have b := Int.mul_le_mul_of_nonneg_right (show e * e ≤ 256 from Int.mul_le_mul (a := e) (c := 16) (b := e) (d := 16) (by omega) (by omega) (by omega) (by omega)) (Int.mul_nonneg m0 c0)
  omega
theorem statR_on {v1 v2 w1 w2 n1 n2 e g : Int} (ha : apprB v1 v2 w1 w2 n1 n2 = true) (he : sixB e = true) (hg : sixB g = true) :
    statR v1 v2 w1 w2 n1 n2 e g = lowR (statX v1 (v1 - w1) n1 (n1 * n1 + n2 * n2) ((v1 - w1) * n1 + (v2 - w2) * n2) e g) (statX v2 (v2 - w2) n2 (n1 * n1 + n2 * n2) ((v1 - w1) * n1 + (v2 - w2) * n2) e g) (16 * (n1 * n1 + n2 * n2)) := by
  unfold statR
  rw [if_pos ⟨(appr_bd ha).1, by rw [he, hg]; rfl⟩, if_pos ha]
theorem statR_off {v1 v2 w1 w2 n1 n2 e g : Int} (hp : permB v1 v2 w1 w2 n1 n2 = true) (ha : apprB v1 v2 w1 w2 n1 n2 = false) (he : sixB e = true) (hg : sixB g = true) :
    statR v1 v2 w1 w2 n1 n2 e g = (v1, v2, 1) := by
  unfold statR
  rw [if_pos ⟨hp, by rw [he, hg]; rfl⟩, if_neg (by rw [ha]; decide)]
theorem pairR_on {v1 v2 w1 w2 n1 n2 e : Int} (ha : apprB v1 v2 w1 w2 n1 n2 = true) (he : sixB e = true) :
    pairR v1 v2 w1 w2 n1 n2 e = (lowR (pairX v1 n1 (n1 * n1 + n2 * n2) ((v1 - w1) * n1 + (v2 - w2) * n2) e (-1)) (pairX v2 n2 (n1 * n1 + n2 * n2) ((v1 - w1) * n1 + (v2 - w2) * n2) e (-1)) (32 * (n1 * n1 + n2 * n2)),
       lowR (pairX w1 n1 (n1 * n1 + n2 * n2) ((v1 - w1) * n1 + (v2 - w2) * n2) e 1) (pairX w2 n2 (n1 * n1 + n2 * n2) ((v1 - w1) * n1 + (v2 - w2) * n2) e 1) (32 * (n1 * n1 + n2 * n2))) := by
  unfold pairR
  rw [if_pos ⟨(appr_bd ha).1, he⟩, if_pos ha]
theorem pairR_off {v1 v2 w1 w2 n1 n2 e : Int} (hp : permB v1 v2 w1 w2 n1 n2 = true) (ha : apprB v1 v2 w1 w2 n1 n2 = false) (he : sixB e = true) :
    pairR v1 v2 w1 w2 n1 n2 e = ((v1, v2, 1), (w1, w2, 1)) := by
  unfold pairR
  rw [if_pos ⟨hp, he⟩, if_neg (by rw [ha]; decide)]
/-- Lengths of the results. -/
structure Lens (r : Int × Int × Int) : Prop where
  x : (canN r.1.natAbs).length ≤ 10
  y : (canN r.2.1.natAbs).length ≤ 10
  d : (canN r.2.2.natAbs).length ≤ 10
theorem lens_vec {a b : Int} (ha : -1048576 ≤ a ∧ a ≤ 1048576) (hb : -1048576 ≤ b ∧ b ≤ 1048576) : Lens (a, b, 1) := ⟨len_wd (by simp only; omega) (by simp only; omega), len_wd (by simp only; omega) (by simp only; omega), len_wd (by simp only; omega) (by simp only; omega)⟩
theorem lens_zero : Lens (0, 0, 0) := ⟨len_wd (by decide) (by decide), len_wd (by decide) (by decide), len_wd (by decide) (by decide)⟩
theorem stat_lens (v1 v2 w1 w2 n1 n2 e g : Int) : Lens (statR v1 v2 w1 w2 n1 n2 e g) ∧ (permB v1 v2 w1 w2 n1 n2 = true → sixB e = true → sixB g = true → 0 < (statR v1 v2 w1 w2 n1 n2 e g).2.2) := by
  by_cases h : permB v1 v2 w1 w2 n1 n2 = true ∧ (sixB e && sixB g) = true
  · obtain ⟨hp, h2⟩ := h
    rw [Bool.and_eq_true] at h2
    obtain ⟨he, hg⟩ := h2
    cases ha : apprB v1 v2 w1 w2 n1 n2
    · rw [statR_off hp ha he hg]
      obtain ⟨bv, _, _⟩ := perm_bd hp
      exact ⟨lens_vec (by omega) (by omega), fun _ _ _ => Int.zero_lt_one⟩
    · rw [statR_on ha he hg]
      obtain ⟨_, _, q⟩ := appr_bd ha
      obtain ⟨_, p3, p4⟩ := perm_prod hp
      obtain ⟨a, b, c, d⟩ := lowR_bd (n := 10) (d := 16 * (n1 * n1 + n2 * n2)) (by omega) (sm1 hp he hg).len (sm2 hp he hg).len (len_wd (by omega) (by omega))
      exact ⟨⟨b, c, d⟩, fun _ _ _ => a⟩
  · have : statR v1 v2 w1 w2 n1 n2 e g = (0, 0, 0) := by unfold statR; exact if_neg h
    rw [this]
    exact ⟨lens_zero, fun a b c => absurd ⟨a, by rw [b, c]; rfl⟩ h⟩
theorem pair_lens (v1 v2 w1 w2 n1 n2 e : Int) : (Lens (pairR v1 v2 w1 w2 n1 n2 e).1 ∧ Lens (pairR v1 v2 w1 w2 n1 n2 e).2) ∧ (permB v1 v2 w1 w2 n1 n2 = true → sixB e = true → 0 < (pairR v1 v2 w1 w2 n1 n2 e).1.2.2 ∧ 0 < (pairR v1 v2 w1 w2 n1 n2 e).2.2.2) := by
  by_cases h : permB v1 v2 w1 w2 n1 n2 = true ∧ sixB e = true
  · obtain ⟨hp, he⟩ := h
    obtain ⟨bv, bw, bn⟩ := perm_bd hp
    cases ha : apprB v1 v2 w1 w2 n1 n2
    · rw [pairR_off hp ha he]
      exact ⟨⟨lens_vec (by omega) (by omega), lens_vec (by omega) (by omega)⟩, fun _ _ => ⟨Int.zero_lt_one, Int.zero_lt_one⟩⟩
    · rw [pairR_on ha he]
      obtain ⟨_, _, q⟩ := appr_bd ha
      obtain ⟨_, p3, p4⟩ := perm_prod hp
      have ld := len_wd (z := 32 * (n1 * n1 + n2 * n2)) (by omega) (by omega)
      obtain ⟨a, b, c, d⟩ := lowR_bd (n := 10) (d := 32 * (n1 * n1 + n2 * n2)) (by omega) (sp1 (x := v1) (n := n1) (sgn := -1) hp he (by omega) (by omega) (by omega)).len (sp1 (x := v2) (n := n2) (sgn := -1) hp he (by omega) (by omega) (by omega)).len ld
      obtain ⟨a', b', c', d'⟩ := lowR_bd (n := 10) (d := 32 * (n1 * n1 + n2 * n2)) (by omega) (sp1 (x := w1) (n := n1) (sgn := 1) hp he (by omega) (by omega) (by omega)).len (sp1 (x := w2) (n := n2) (sgn := 1) hp he (by omega) (by omega) (by omega)).len ld
      exact ⟨⟨⟨b, c, d⟩, ⟨b', c', d'⟩⟩, fun _ _ => ⟨a, a'⟩⟩
  · have : pairR v1 v2 w1 w2 n1 n2 e = ((0, 0, 0), (0, 0, 0)) := by unfold pairR; exact if_neg h
    rw [this]
    exact ⟨⟨lens_zero, lens_zero⟩, fun a b => absurd ⟨a, b⟩ h⟩
theorem Lens.val {r : Int × Int × Int} (h : Lens r) (hd : 0 < r.2.2) : Val r := ⟨hd, by have := h.x; omega, by have := h.y; omega, by have := h.d; omega⟩
/-- Energy relative to the surface. -/
theorem stat_rel {v1 v2 w1 w2 n1 n2 e g : Int} (hp : permB v1 v2 w1 w2 n1 n2 = true) (he : sixB e = true) (hg : sixB g = true) :
    Leq (sumR (statR v1 v2 w1 w2 n1 n2 e g) (-w1, -w2, 1)) ((v1 - w1) * (v1 - w1) + (v2 - w2) * (v2 - w2)) := by
  unfold sumR
  cases ha : apprB v1 v2 w1 w2 n1 n2
  · rw [statR_off hp ha he hg]
    refine leq_low (by simp only; omega) ?_
    simp only
    apply Int.le_of_eq
    grind
  · rw [statR_on ha he hg]
    obtain ⟨_, _, q⟩ := appr_bd ha
    simp only [sixB, decide_eq_true_eq] at he hg
    have hrel := rel_leq (v1 - w1) (v2 - w2) n1 n2 e g he hg
    obtain ⟨G, hG, e1, e2, e3, hd⟩ := lowR_mul (statX v1 (v1 - w1) n1 (n1 * n1 + n2 * n2) ((v1 - w1) * n1 + (v2 - w2) * n2) e g) (statX v2 (v2 - w2) n2 (n1 * n1 + n2 * n2) ((v1 - w1) * n1 + (v2 - w2) * n2) e g) (16 * (n1 * n1 + n2 * n2)) (by omega)
    generalize hL : lowR (statX v1 (v1 - w1) n1 (n1 * n1 + n2 * n2) ((v1 - w1) * n1 + (v2 - w2) * n2) e g) (statX v2 (v2 - w2) n2 (n1 * n1 + n2 * n2) ((v1 - w1) * n1 + (v2 - w2) * n2) e g) (16 * (n1 * n1 + n2 * n2)) = L at *
    obtain ⟨x, y, d⟩ := L
    simp only at e1 e2 e3 hd ⊢
    refine leq_low (by omega) ?_
    have h2 : G * G * ((x * 1 + -w1 * d) * (x * 1 + -w1 * d) + (y * 1 + -w2 * d) * (y * 1 + -w2 * d)) ≤ G * G * (d * 1 * (d * 1) * ((v1 - w1) * (v1 - w1) + (v2 - w2) * (v2 - w2))) := by
      have r1 : G * (x * 1 + -w1 * d) = (16 - g) * (v1 - w1) * (n1 * n1 + n2 * n2) - (16 + e - g) * n1 * ((v1 - w1) * n1 + (v2 - w2) * n2) := by
        have : G * (x * 1 + -w1 * d) = G * x - w1 * (G * d) := by grind
        rw [this, ← e1, ← e3]; unfold statX; grind
      have r2 : G * (y * 1 + -w2 * d) = (16 - g) * (v2 - w2) * (n1 * n1 + n2 * n2) - (16 + e - g) * n2 * ((v1 - w1) * n1 + (v2 - w2) * n2) := by
        have : G * (y * 1 + -w2 * d) = G * y - w2 * (G * d) := by grind
        rw [this, ← e2, ← e3]; unfold statX; grind
      have a : G * G * ((x * 1 + -w1 * d) * (x * 1 + -w1 * d) + (y * 1 + -w2 * d) * (y * 1 + -w2 * d)) = G * (x * 1 + -w1 * d) * (G * (x * 1 + -w1 * d)) + G * (y * 1 + -w2 * d) * (G * (y * 1 + -w2 * d)) := by grind
      have b : G * G * (d * 1 * (d * 1) * ((v1 - w1) * (v1 - w1) + (v2 - w2) * (v2 - w2))) = G * d * (G * d) * ((v1 - w1) * (v1 - w1) + (v2 - w2) * (v2 - w2)) := by grind
      rw [a, b, r1, r2, ← e3]
      exact hrel
    exact Int.le_of_mul_le_mul_left h2 (Int.mul_pos hG hG)
/-- The energy of a pair. -/
theorem pair_leq {v1 v2 w1 w2 n1 n2 e : Int} (hp : permB v1 v2 w1 w2 n1 n2 = true) (he : sixB e = true) :
    ((pairR v1 v2 w1 w2 n1 n2 e).1.1 * (pairR v1 v2 w1 w2 n1 n2 e).1.1 + (pairR v1 v2 w1 w2 n1 n2 e).1.2.1 * (pairR v1 v2 w1 w2 n1 n2 e).1.2.1) * ((pairR v1 v2 w1 w2 n1 n2 e).2.2.2 * (pairR v1 v2 w1 w2 n1 n2 e).2.2.2) +
    ((pairR v1 v2 w1 w2 n1 n2 e).2.1 * (pairR v1 v2 w1 w2 n1 n2 e).2.1 + (pairR v1 v2 w1 w2 n1 n2 e).2.2.1 * (pairR v1 v2 w1 w2 n1 n2 e).2.2.1) * ((pairR v1 v2 w1 w2 n1 n2 e).1.2.2 * (pairR v1 v2 w1 w2 n1 n2 e).1.2.2) ≤
    ((pairR v1 v2 w1 w2 n1 n2 e).1.2.2 * (pairR v1 v2 w1 w2 n1 n2 e).1.2.2) * ((pairR v1 v2 w1 w2 n1 n2 e).2.2.2 * (pairR v1 v2 w1 w2 n1 n2 e).2.2.2) * (v1 * v1 + v2 * v2 + (w1 * w1 + w2 * w2)) := by
  cases ha : apprB v1 v2 w1 w2 n1 n2
  · rw [pairR_off hp ha he]
    simp only
    omega
  · rw [pairR_on ha he]
    obtain ⟨_, _, q⟩ := appr_bd ha
    simp only [sixB, decide_eq_true_eq] at he
    generalize hC : (v1 - w1) * n1 + (v2 - w2) * n2 = C at *
    generalize hM : n1 * n1 + n2 * n2 = M at *
    obtain ⟨G, hG, e1, e2, e3, hd⟩ := lowR_mul (pairX v1 n1 M C e (-1)) (pairX v2 n2 M C e (-1)) (32 * M) (by omega)
    obtain ⟨H, hH, f1, f2, f3, hd'⟩ := lowR_mul (pairX w1 n1 M C e 1) (pairX w2 n2 M C e 1) (32 * M) (by omega)
    have hcore : (pairX v1 n1 M C e (-1)) * (pairX v1 n1 M C e (-1)) + (pairX v2 n2 M C e (-1)) * (pairX v2 n2 M C e (-1)) + ((pairX w1 n1 M C e 1) * (pairX w1 n1 M C e 1) + (pairX w2 n2 M C e 1) * (pairX w2 n2 M C e 1)) ≤ (32 * M) * (32 * M) * (v1 * v1 + v2 * v2 + (w1 * w1 + w2 * w2)) := by
      have id : (pairX v1 n1 M C e (-1)) * (pairX v1 n1 M C e (-1)) + (pairX v2 n2 M C e (-1)) * (pairX v2 n2 M C e (-1)) + ((pairX w1 n1 M C e 1) * (pairX w1 n1 M C e 1) + (pairX w2 n2 M C e 1) * (pairX w2 n2 M C e 1)) = (32 * M) * (32 * M) * (v1 * v1 + v2 * v2 + (w1 * w1 + w2 * w2)) - 2 * ((16 + e) * ((16 - e) * (M * (C * C)))) := by
        unfold pairX
        rw [← hC, ← hM]
        grind
      have : 0 ≤ (16 + e) * ((16 - e) * (M * (C * C))) := Int.mul_nonneg (by omega) (Int.mul_nonneg (by omega) (Int.mul_nonneg (by omega) (sq_nn C)))
      omega
    generalize (lowR (pairX v1 n1 M C e (-1)) (pairX v2 n2 M C e (-1)) (32 * M)) = p at *
    generalize (lowR (pairX w1 n1 M C e 1) (pairX w2 n2 M C e 1) (32 * M)) = r at *
    obtain ⟨x, y, d⟩ := p
    obtain ⟨x', y', d'⟩ := r
    simp only at *
    rw [e1, e2, f1, f2] at hcore
    have hD : 32 * M * (32 * M) = G * d * (G * d) := by rw [← e3]
    have hD' : H * d' * (H * d') = G * d * (G * d) := by rw [← e3, ← f3]
    have hN := hcore
    rw [hD] at hN
    generalize v1 * v1 + v2 * v2 + (w1 * w1 + w2 * w2) = N at *
    have hpos : 0 < G * G * (H * H) := Int.mul_pos (Int.mul_pos hG hG) (Int.mul_pos hH hH)
    refine Int.le_of_mul_le_mul_left ?_ hpos
    have a1 : G * G * (H * H) * ((x * x + y * y) * (d' * d') + (x' * x' + y' * y') * (d * d)) = (G * x * (G * x) + G * y * (G * y)) * (H * d' * (H * d')) + (H * x' * (H * x') + H * y' * (H * y')) * (G * d * (G * d)) := by grind
    have a2 : G * G * (H * H) * (d * d * (d' * d') * N) = (G * d * (G * d)) * ((H * d' * (H * d')) * N) := by grind
    rw [a1, a2, hD']
    have := Int.mul_le_mul_of_nonneg_left hN (sq_nn (G * d))
    have a3 : (G * x * (G * x) + G * y * (G * y)) * (G * d * (G * d)) + (H * x' * (H * x') + H * y' * (H * y')) * (G * d * (G * d)) = G * d * (G * d) * (G * x * (G * x) + G * y * (G * y) + (H * x' * (H * x') + H * y' * (H * y'))) := by grind
    rw [a3]
    exact this
end Go.Proofs.Ytgejdaincnclpaa
namespace Go.Proofs.Ytgejdaincnclpaa
open Go Go.RowKit
set_option linter.unusedVariables false
/-- Static, on both sides. -/
theorem static_any (v1 v2 w1 w2 n1 n2 rest grip : Int) (w : World) : Calls Try.prog 38 #[.agg #[.int .i64 v1, .int .i64 v2], .agg #[.int .i64 w1, .int .i64 w2], .agg #[.int .i64 n1, .int .i64 n2], .int .i64 rest, .int .i64 grip] w (TOut (statR v1 v2 w1 w2 n1 n2 rest grip) w) := by
  unfold statR
  split
  · rename_i h
    have h2 := h.2
    rw [Bool.and_eq_true] at h2
    split
    · rename_i ha; exact static_on v1 v2 w1 w2 n1 n2 rest grip w h.1 h2.1 h2.2 ha
    · rename_i ha; exact static_away v1 v2 w1 w2 n1 n2 rest grip w h.1 h.2 (by simpa using ha)
  · rename_i h; exact static_bad v1 v2 w1 w2 n1 n2 rest grip w h
end Go.Proofs.Ytgejdaincnclpaa
namespace Go.Proofs.Ytgejdaincnclpaa
open Go Go.RowKit
set_option linter.unusedVariables false
/-- Pair, on both sides. -/
theorem pair_any (v1 v2 w1 w2 n1 n2 rest : Int) (w : World) : Calls Try.prog 37 #[.agg #[.int .i64 v1, .int .i64 v2], .agg #[.int .i64 w1, .int .i64 w2], .agg #[.int .i64 n1, .int .i64 n2], .int .i64 rest] w (POut2 (pairR v1 v2 w1 w2 n1 n2 rest) w) := by
  unfold pairR
  split
  · rename_i h
    split
    · rename_i ha; exact pair_on v1 v2 w1 w2 n1 n2 rest w h.1 h.2 ha
    · rename_i ha; exact pair_away v1 v2 w1 w2 n1 n2 rest w h.1 h.2 (by simpa using ha)
  · rename_i h; exact pair_bad v1 v2 w1 w2 n1 n2 rest w h
end Go.Proofs.Ytgejdaincnclpaa
namespace Go.Proofs.Ytgejdaincnclpaa
open Go Go.RowKit
set_option linter.unusedVariables false
def kickS (r : Int × Int × Int) (k1 k2 : Int) : Int × Int × Int := (r.1 + r.2.2 * k1, r.2.1 + r.2.2 * k2, r.2.2)
/-- The velocity that a meeting alone makes of that of a ball. -/
def aloneR (m : Mt) (v : List V2) (k : Int) : Int × Int × Int :=
  if ¬ m.b = -1 ∧ k = m.a then (pairR (v.getD m.a.toNat (0, 0)).1 (v.getD m.a.toNat (0, 0)).2 (v.getD m.b.toNat (0, 0)).1 (v.getD m.b.toNat (0, 0)).2 m.n1 m.n2 m.e).1
  else if ¬ m.b = -1 ∧ k = m.b then (pairR (v.getD m.a.toNat (0, 0)).1 (v.getD m.a.toNat (0, 0)).2 (v.getD m.b.toNat (0, 0)).1 (v.getD m.b.toNat (0, 0)).2 m.n1 m.n2 m.e).2
  else if k = m.a then kickS (statR (v.getD m.a.toNat (0, 0)).1 (v.getD m.a.toNat (0, 0)).2 m.w1 m.w2 m.n1 m.n2 m.e m.g) m.k1 m.k2
  else ((v.getD k.toNat (0, 0)).1, (v.getD k.toNat (0, 0)).2, 1)
theorem vat_cell {w : World} {A : Option Addr} {v : List V2} (h : VAt w A v) {k : Int} (h0 : 0 ≤ k) (h1 : k < v.length) : ∃ g o, A = some ⟨g, o, none⟩ ∧ g < w.heap.size ∧ w.cell? ⟨g, o + k.toNat * 2, none⟩ = some (.int .i64 (v.getD k.toNat (0, 0)).1) ∧ w.cell? ⟨g, o + k.toNat * 2 + 1, none⟩ = some (.int .i64 (v.getD k.toNat (0, 0)).2) := by
  obtain ⟨x, hx⟩ : ∃ x, v[k.toNat]? = some x := ⟨v[k.toNat]'(by omega), by simp⟩
  obtain ⟨g, o, hA, hg, c0, c1⟩ := h _ _ hx
  have e : v.getD k.toNat (0, 0) = x := by simp [hx]
  rw [e]
  exact ⟨g, o, hA, hg, c0, c1⟩
set_option maxRecDepth 100000 in
set_option maxHeartbeats 20000000 in
theorem alone_a (a b n1 n2 x1 x2 y1 y2 e f p1 p2 q1 q2 : Int) (g o n c : Nat) (w : World)
    (hg : g < w.heap.size) (i1 : 0 ≤ a) (i2 : a < (n : Int)) (c0 : w.cell? ⟨g, o + a.toNat * 2, none⟩ = some (.int .i64 p1)) (c1 : w.cell? ⟨g, o + a.toNat * 2 + 1, none⟩ = some (.int .i64 p2))
    (j1 : 0 ≤ b) (j2 : b < (n : Int)) (d0 : w.cell? ⟨g, o + b.toNat * 2, none⟩ = some (.int .i64 q1)) (d1 : w.cell? ⟨g, o + b.toNat * 2 + 1, none⟩ = some (.int .i64 q2)) :
    Calls Try.prog 25 #[.agg #[.int .i64 a, .int .i64 b, .int .i64 n1, .int .i64 n2, .int .i64 x1, .int .i64 x2, .int .i64 y1, .int .i64 y2, .int .i64 e, .int .i64 f], .slice (some ⟨g, o, none⟩) n c, .int .i64 a] w (TOut (pairR p1 p2 q1 q2 n1 n2 e).1 w) := by
  have k1 := fun w => pair_any p1 p2 q1 q2 n1 n2 e w
  generalize hP : pairR p1 p2 q1 q2 n1 n2 e = P at *
  obtain ⟨⟨r1, r2, r3⟩, s1, s2, s3⟩ := P
  unfold POut2 at k1
  simp only at k1 ⊢
  have K1 := Lib.hid k1
  clear k1 hP
  have hb0 : (b != -1) = true := by rw [bne_iff_ne]; omega
  have hb1 : ¬ b = -1 := by omega
  -- names on
  go_enter Try.func25, Try.ntmps25; (try simp only [List.append_eq, List.cons_append, List.nil_append])
  go_wp2_with fail
  -- own blocks: w.heap.size:10, w.heap.size + 1:6
  (refine pin_wp (N := _) (Nat.le_refl _) (fun w101 hb_w101 hz_w101 => ?_); (try simp at hz_w101); (with_reducible apply cel10 (b := w.heap.size) hb_w101); (focus ((try simp) <;> omega)); (focus omega); (focus (go_simp; try exact rfl)); (focus (go_simp; try exact rfl)); (focus (go_simp; try exact rfl)); (focus (go_simp; try exact rfl)); (focus (go_simp; try exact rfl)); (focus (go_simp; try exact rfl)); (focus (go_simp; try exact rfl)); (focus (go_simp; try exact rfl)); (focus (go_simp; try exact rfl)); (focus (go_simp; try exact rfl)); (focus (intro o; go_simp)); intro c_w101_0_0 c_w101_0_1 c_w101_0_2 c_w101_0_3 c_w101_0_4 c_w101_0_5 c_w101_0_6 c_w101_0_7 c_w101_0_8 c_w101_0_9 fz_w101_0 hl_w101_0; (with_reducible apply cel6 (b := w.heap.size + 1) hb_w101); (focus ((try simp) <;> omega)); (focus omega); (focus (go_simp; try exact rfl)); (focus (go_simp; try exact rfl)); (focus (go_simp; try exact rfl)); (focus (go_simp; try exact rfl)); (focus (go_simp; try exact rfl)); (focus (go_simp; try exact rfl)); (focus (intro o; go_simp)); intro c_w101_1_0 c_w101_1_1 c_w101_1_2 c_w101_1_3 c_w101_1_4 c_w101_1_5 fz_w101_1 hl_w101_1); refine wp_q (fun Q_ HQ_ => ?_); refine wp_region_floatQ w101.heap.size 21 [21] (Nat.le_refl _) (fun _ => True) trivial Cl.tt (by kernel_rfl) (by kernel_rfl) ?_
  have HB101 := Lib.hid (show Below w.heap.size w w101 by ((with_reducible (repeat (first | exact bR _ _ | refine bS ?_ ?_ _ | refine bA ?_ ?_ _ | refine bD ?_ | refine bT ?_ (by assumption) ?_ | refine bO (by assumption) ?_ ?_))) <;> (first | omega | (simp; done) | (simp <;> omega))))
  have hz101 : w.heap.size + 1 + 1 ≤ w101.heap.size := by omega
  clear hb_w101
  skip
  have c0_w101 := (HB101.out.cell (p := ⟨g, o + a.toNat * 2, none⟩) hg).trans c0
  have c1_w101 := (HB101.out.cell (p := ⟨g, o + a.toNat * 2 + 1, none⟩) hg).trans c1
  have d0_w101 := (HB101.out.cell (p := ⟨g, o + b.toNat * 2, none⟩) hg).trans d0
  have d1_w101 := (HB101.out.cell (p := ⟨g, o + b.toNat * 2 + 1, none⟩) hg).trans d1
  have hg_w101 : g < w101.heap.size := by have := HB101.out.size; omega
  refine wpQI_start [0, 1, 2, 3, 4, 5, 6, 7, 8, 9, 10, 11, 12, 13] ?_; (iterate 14 (first | (refine wpQI_off (by with_reducible (refine List.getElem?_toArray.trans ?_; (repeat (first | exact List.getElem?_cons_zero | refine List.getElem?_cons_succ.trans ?_)))) (by kernel_rfl) (by exact rfl) (fun K hK => ?_); go_simp; refine hK _ ?_; clear hK K) | ((first | apply wpQI_step (by with_reducible (refine List.getElem?_toArray.trans ?_; (repeat (first | exact List.getElem?_cons_zero | refine List.getElem?_cons_succ.trans ?_)))) (by kernel_rfl) (by exact rfl) | apply wpQI_on (by with_reducible (refine List.getElem?_toArray.trans ?_; (repeat (first | exact List.getElem?_cons_zero | refine List.getElem?_cons_succ.trans ?_)))) (by kernel_rfl) (by exact rfl)); (focus (intro W' hS; have hcS := hS.cells.1; have hfS := hS.cells.2; go_simp; (first | done | exact rfl | exact ⟨rfl, Below.refl _ _⟩ | (go_simp; first | done | exact rfl | exact ⟨rfl, Below.refl _ _⟩)))); intro K hK; go_simp; (try go_bits); refine hK _ ?_; clear hK K))); refine wpQI_nil ?_
  apply wpQ_call (i := 14) (by with_reducible (refine List.getElem?_toArray.trans ?_; (repeat (first | exact List.getElem?_cons_zero | refine List.getElem?_cons_succ.trans ?_)))) (by kernel_rfl) (by exact rfl); intro W hF hS; have hcS := hS.1.cells.1; have hfS := hS.1.cells.2; go_simp; (go_at_call 37; refine (K1.out _).mono ?_; rintro e w102 ⟨hb_w102, u102, v102, rfl, hu102, hv102⟩; refine XPost.mk _ (fun W => RAt W u102 (r1) (r2) (r3) ∧ RAt W v102 (s1) (s2) (s3)) hb_w102 (⟨hu102, hv102⟩) (Cl.and (RAt.cl _ _ _ _) (RAt.cl _ _ _ _)) ?_); clear hb_w102 hcS hfS hS hF
  intro K hK; go_simp; (try go_bits); refine hK _ ?_; clear hK K
  obtain ⟨s102ux, A102ux, n102ux, c102ux, s102uy, A102uy, n102uy, c102uy, s102ud, A102ud, n102ud, c102ud, rfl⟩ := RAt.val hu102
  clear hu102
  obtain ⟨s102x, A102x, n102x, c102x, s102y, A102y, n102y, c102y, s102d, A102d, n102d, c102d, rfl⟩ := RAt.val hv102
  clear hv102
  refine wpQI_start [15, 16, 17] ?_; (iterate 3 (first | (refine wpQI_off (by with_reducible (refine List.getElem?_toArray.trans ?_; (repeat (first | exact List.getElem?_cons_zero | refine List.getElem?_cons_succ.trans ?_)))) (by kernel_rfl) (by exact rfl) (fun K hK => ?_); go_simp; refine hK _ ?_; clear hK K) | ((first | apply wpQI_step (by with_reducible (refine List.getElem?_toArray.trans ?_; (repeat (first | exact List.getElem?_cons_zero | refine List.getElem?_cons_succ.trans ?_)))) (by kernel_rfl) (by exact rfl) | apply wpQI_on (by with_reducible (refine List.getElem?_toArray.trans ?_; (repeat (first | exact List.getElem?_cons_zero | refine List.getElem?_cons_succ.trans ?_)))) (by kernel_rfl) (by exact rfl)); (focus (intro W' hS; have hcS := hS.cells.1; have hfS := hS.cells.2; go_simp; (first | done | exact rfl | exact ⟨rfl, Below.refl _ _⟩ | (go_simp; first | done | exact rfl | exact ⟨rfl, Below.refl _ _⟩)))); intro K hK; go_simp; (try go_bits); refine hK _ ?_; clear hK K))); refine wpQI_nil ?_
  apply wpQ_fresh (i := 19) LInv.std (by with_reducible (refine List.getElem?_toArray.trans ?_; (repeat (first | exact List.getElem?_cons_zero | refine List.getElem?_cons_succ.trans ?_)))) (by kernel_rfl) (fun g => Value.pointer (some ⟨g, 0, none⟩)) (by exact rfl); (focus (intro W; go_simp; first | done | exact rfl | exact ⟨rfl, rfl⟩))
  intro g_r2_19 hN_r2_19 hG_r2_19 K hK
  go_simp; refine hK _ ?_; clear hK K
  apply wpQ_fresh (i := 18) LInv.std (by with_reducible (refine List.getElem?_toArray.trans ?_; (repeat (first | exact List.getElem?_cons_zero | refine List.getElem?_cons_succ.trans ?_)))) (by kernel_rfl) (fun g => Value.pointer (some ⟨g, 0, none⟩)) (by exact rfl); (focus (intro W; go_simp; first | done | exact rfl | exact ⟨rfl, rfl⟩))
  intro g_r2_18 hN_r2_18 hG_r2_18 K hK
  go_simp; refine hK _ ?_; clear hK K
  have hne_r2_19_r2_18 : g_r2_19 ≠ g_r2_18 := hG_r2_18 _ (List.mem_cons_self ..)
  have hne_r2_18_r2_19 : g_r2_18 ≠ g_r2_19 := Ne.symm hne_r2_19_r2_18
  have hne : w.heap.size ≠ g_r2_19 := by have := hN_r2_19; omega
  have hne := Ne.symm hne
  have hne : w.heap.size ≠ g_r2_18 := by have := hN_r2_18; omega
  have hne := Ne.symm hne
  have hne : w.heap.size + 1 ≠ g_r2_19 := by have := hN_r2_19; omega
  have hne := Ne.symm hne
  have hne : w.heap.size + 1 ≠ g_r2_18 := by have := hN_r2_18; omega
  have hne := Ne.symm hne
  apply wpQ_wild (i := 20) rfl (by kernel_rfl) (by kernel_rfl); intro W hF hS; have hcS := hS.1.cells.1; have hfS := hS.1.cells.2; have hb0 := (hS.2 _ (List.mem_cons_self ..)).2; simp only at hb0; have fz : (∀ o, W.frozen? ⟨g_r2_18, o, none⟩ = false) := (fun o => frozen_of_row W g_r2_18 o _ _ hb0); have cc0 := cell_of_row W g_r2_18 0 _ _ _ hb0; simp only [List.getElem?_toArray, List.getElem?_cons_zero] at cc0; have cc1 := cell_of_row W g_r2_18 1 _ _ _ hb0; simp only [List.getElem?_toArray, List.getElem?_cons_zero, List.getElem?_cons_succ] at cc1; have cc2 := cell_of_row W g_r2_18 2 _ _ _ hb0; simp only [List.getElem?_toArray, List.getElem?_cons_zero, List.getElem?_cons_succ] at cc2; have cc3 := cell_of_row W g_r2_18 3 _ _ _ hb0; simp only [List.getElem?_toArray, List.getElem?_cons_zero, List.getElem?_cons_succ] at cc3; have cc4 := cell_of_row W g_r2_18 4 _ _ _ hb0; simp only [List.getElem?_toArray, List.getElem?_cons_zero, List.getElem?_cons_succ] at cc4; have cc5 := cell_of_row W g_r2_18 5 _ _ _ hb0; simp only [List.getElem?_toArray, List.getElem?_cons_zero, List.getElem?_cons_succ] at cc5; go_simp
  have hP := ((((((hS.put hG_r2_18 0 (.bool s102ux)).put hG_r2_18 1 (.slice A102ux n102ux c102ux)).put hG_r2_18 2 (.bool s102uy)).put hG_r2_18 3 (.slice A102uy n102uy c102uy)).put hG_r2_18 4 (.bool s102ud)).put hG_r2_18 5 (.slice A102ud n102ud c102ud))
  simp only [List.setIfInBounds_toArray, List.set_cons_zero, List.set_cons_succ] at hP
  refine WPost.mk _ (fun W => RAt W (.agg #[.bool s102ux, .slice A102ux n102ux c102ux, .bool s102uy, .slice A102uy n102uy c102uy, .bool s102ud, .slice A102ud n102ud c102ud]) (r1) (r2) (r3) ∧ RAt W (.agg #[.bool s102x, .slice A102x n102x c102x, .bool s102y, .slice A102y n102y c102y, .bool s102d, .slice A102d n102d c102d]) (s1) (s2) (s3)) _ ⟨(by ((repeat (first | (with_reducible exact hF.1) | (with_reducible apply RAt.st1))) <;> (first | (with_reducible assumption) | (intro _ e; cases e; done) | (go_simp; first | done | exact rfl)))), (by ((repeat (first | (with_reducible exact hF.2) | (with_reducible apply RAt.st1))) <;> (first | (with_reducible assumption) | (intro _ e; cases e; done) | (go_simp; first | done | exact rfl))))⟩ (Cl.and (RAt.cl _ _ _ _) (RAt.cl _ _ _ _)) hP ?_
  clear hP fz hb0 cc0 cc1 cc2 cc3 cc4 cc5 hcS hfS hS hF
  intro K hK; go_simp; refine hK _ ?_; clear hK K
  refine wpQ_done (by kernel_rfl) ?_
  intro w103 hF_w103 hSG
  have hz_w103 := hSG.1.1
  have hb_w103 := hSG.1.2
  have hB_r2_18 := (hSG.2 _ (List.mem_cons_self ..)).2; simp only at hB_r2_18; have hl_r2_18 := (hSG.size (List.mem_cons_self ..)); simp only at hl_r2_18
  have c_w103_r2_18_0 := cell_of_row w103 g_r2_18 0 _ _ _ hB_r2_18; simp only [List.getElem?_toArray, List.getElem?_cons_zero] at c_w103_r2_18_0
  have c_w103_r2_18_1 := cell_of_row w103 g_r2_18 1 _ _ _ hB_r2_18; simp only [List.getElem?_toArray, List.getElem?_cons_zero, List.getElem?_cons_succ] at c_w103_r2_18_1
  have c_w103_r2_18_2 := cell_of_row w103 g_r2_18 2 _ _ _ hB_r2_18; simp only [List.getElem?_toArray, List.getElem?_cons_zero, List.getElem?_cons_succ] at c_w103_r2_18_2
  have c_w103_r2_18_3 := cell_of_row w103 g_r2_18 3 _ _ _ hB_r2_18; simp only [List.getElem?_toArray, List.getElem?_cons_zero, List.getElem?_cons_succ] at c_w103_r2_18_3
  have c_w103_r2_18_4 := cell_of_row w103 g_r2_18 4 _ _ _ hB_r2_18; simp only [List.getElem?_toArray, List.getElem?_cons_zero, List.getElem?_cons_succ] at c_w103_r2_18_4
  have c_w103_r2_18_5 := cell_of_row w103 g_r2_18 5 _ _ _ hB_r2_18; simp only [List.getElem?_toArray, List.getElem?_cons_zero, List.getElem?_cons_succ] at c_w103_r2_18_5
  have fz_w103_r2_18 : (∀ o, w103.frozen? ⟨g_r2_18, o, none⟩ = false) := (fun o => frozen_of_row w103 g_r2_18 o _ _ hB_r2_18); have HH_r2_18 := Lib.hid hB_r2_18; clear hB_r2_18
  have hB_r2_19 := (hSG.2 _ (List.mem_cons_of_mem _ (List.mem_cons_self ..))).2; simp only at hB_r2_19; have hl_r2_19 := (hSG.size (List.mem_cons_of_mem _ (List.mem_cons_self ..))); simp only at hl_r2_19
  have c_w103_r2_19_0 := cell_of_row w103 g_r2_19 0 _ _ _ hB_r2_19; simp only [List.getElem?_toArray, List.getElem?_cons_zero] at c_w103_r2_19_0
  have c_w103_r2_19_1 := cell_of_row w103 g_r2_19 1 _ _ _ hB_r2_19; simp only [List.getElem?_toArray, List.getElem?_cons_zero, List.getElem?_cons_succ] at c_w103_r2_19_1
  have c_w103_r2_19_2 := cell_of_row w103 g_r2_19 2 _ _ _ hB_r2_19; simp only [List.getElem?_toArray, List.getElem?_cons_zero, List.getElem?_cons_succ] at c_w103_r2_19_2
  have c_w103_r2_19_3 := cell_of_row w103 g_r2_19 3 _ _ _ hB_r2_19; simp only [List.getElem?_toArray, List.getElem?_cons_zero, List.getElem?_cons_succ] at c_w103_r2_19_3
  have c_w103_r2_19_4 := cell_of_row w103 g_r2_19 4 _ _ _ hB_r2_19; simp only [List.getElem?_toArray, List.getElem?_cons_zero, List.getElem?_cons_succ] at c_w103_r2_19_4
  have c_w103_r2_19_5 := cell_of_row w103 g_r2_19 5 _ _ _ hB_r2_19; simp only [List.getElem?_toArray, List.getElem?_cons_zero, List.getElem?_cons_succ] at c_w103_r2_19_5
  have fz_w103_r2_19 : (∀ o, w103.frozen? ⟨g_r2_19, o, none⟩ = false) := (fun o => frozen_of_row w103 g_r2_19 o _ _ hB_r2_19); have HH_r2_19 := Lib.hid hB_r2_19; clear hB_r2_19
  clear hSG
  (with_reducible apply cel10 (b := w.heap.size) hb_w103); (focus ((try simp) <;> omega)); (focus omega); (focus (go_simp; try exact rfl)); (focus (go_simp; try exact rfl)); (focus (go_simp; try exact rfl)); (focus (go_simp; try exact rfl)); (focus (go_simp; try exact rfl)); (focus (go_simp; try exact rfl)); (focus (go_simp; try exact rfl)); (focus (go_simp; try exact rfl)); (focus (go_simp; try exact rfl)); (focus (go_simp; try exact rfl)); (focus (intro o; go_simp)); intro c_w103_0_0 c_w103_0_1 c_w103_0_2 c_w103_0_3 c_w103_0_4 c_w103_0_5 c_w103_0_6 c_w103_0_7 c_w103_0_8 c_w103_0_9 fz_w103_0 hl_w103_0; (with_reducible apply cel6 (b := w.heap.size + 1) hb_w103); (focus ((try simp) <;> omega)); (focus omega); (focus (go_simp; try exact rfl)); (focus (go_simp; try exact rfl)); (focus (go_simp; try exact rfl)); (focus (go_simp; try exact rfl)); (focus (go_simp; try exact rfl)); (focus (go_simp; try exact rfl)); (focus (intro o; go_simp)); intro c_w103_1_0 c_w103_1_1 c_w103_1_2 c_w103_1_3 c_w103_1_4 c_w103_1_5 fz_w103_1 hl_w103_1
  (try simp only [List.filterMap_cons, List.filterMap_nil, List.getElem?_cons_succ, List.getElem?_cons_zero])
  have H102u := Lib.hid (show RAt w103 (.agg #[.bool s102ux, .slice A102ux n102ux c102ux, .bool s102uy, .slice A102uy n102uy c102uy, .bool s102ud, .slice A102ud n102ud c102ud]) (r1) (r2) (r3) from hF_w103.1)
  have H102 := Lib.hid (show RAt w103 (.agg #[.bool s102x, .slice A102x n102x c102x, .bool s102y, .slice A102y n102y c102y, .bool s102d, .slice A102d n102d c102d]) (s1) (s2) (s3) from hF_w103.2)
  have HB103 := Lib.hid (HB101.out.trans (hb_w103.mono (by have := HB101.out.size; omega)))
  have hz103 : w.heap.size + 1 + 1 ≤ w103.heap.size := by omega
  have hn_r2_19 : w.heap.size + 1 + 1 ≤ g_r2_19 := by have := hN_r2_19; omega
  have hn_r2_18 : w.heap.size + 1 + 1 ≤ g_r2_18 := by have := hN_r2_18; omega
  clear hF_w103 hb_w103 HH_r2_19 hG_r2_19 hN_r2_19 HH_r2_18 hG_r2_18 hN_r2_18
  clear c_w101_0_0 c_w101_0_1 c_w101_0_2 c_w101_0_3 c_w101_0_4 c_w101_0_5 c_w101_0_6 c_w101_0_7 c_w101_0_8 c_w101_0_9 fz_w101_0 hl_w101_0 c_w101_1_0 c_w101_1_1 c_w101_1_2 c_w101_1_3 c_w101_1_4 c_w101_1_5 fz_w101_1 hl_w101_1
  go_wp2_with fail
  refine HQ_.out _ _ _ ?_
  clear HQ_ Q_
  go_wp2_with fail
  -- own blocks: w.heap.size + 1:6
  refine bodyPost_ret (v := .agg #[.bool s102ux, .slice A102ux n102ux c102ux, .bool s102uy, .slice A102uy n102uy c102uy, .bool s102ud, .slice A102ud n102ud c102ud]) (by simp only [results, Try.results25]; go_simp) rfl ⟨?_, ?_⟩
  · have hB := HB103.out; ((with_reducible (repeat (first | exact bR _ _ | refine bS ?_ ?_ _ | refine bA ?_ ?_ _ | refine bD ?_ | refine bT ?_ (by assumption) ?_ | refine bO (by assumption) ?_ ?_))) <;> (first | omega | (simp; done) | (simp <;> omega)))
  · exact ⟨_, rfl, (by ((repeat (first | (with_reducible exact H102u.out) | (with_reducible refine RAt.al ?_ _) | (with_reducible apply RAt.st1))) <;> (first | (with_reducible assumption) | (intro _ e; cases e; done) | (go_simp; first | done | exact rfl))))⟩
set_option maxRecDepth 100000 in
set_option maxHeartbeats 20000000 in
theorem alone_b (a b n1 n2 x1 x2 y1 y2 e f p1 p2 q1 q2 : Int) (g o n c : Nat) (w : World)
    (hg : g < w.heap.size) (i1 : 0 ≤ a) (i2 : a < (n : Int)) (c0 : w.cell? ⟨g, o + a.toNat * 2, none⟩ = some (.int .i64 p1)) (c1 : w.cell? ⟨g, o + a.toNat * 2 + 1, none⟩ = some (.int .i64 p2))
    (j1 : 0 ≤ b) (j2 : b < (n : Int)) (d0 : w.cell? ⟨g, o + b.toNat * 2, none⟩ = some (.int .i64 q1)) (d1 : w.cell? ⟨g, o + b.toNat * 2 + 1, none⟩ = some (.int .i64 q2)) (hab : ¬ b = a) :
    Calls Try.prog 25 #[.agg #[.int .i64 a, .int .i64 b, .int .i64 n1, .int .i64 n2, .int .i64 x1, .int .i64 x2, .int .i64 y1, .int .i64 y2, .int .i64 e, .int .i64 f], .slice (some ⟨g, o, none⟩) n c, .int .i64 b] w (TOut (pairR p1 p2 q1 q2 n1 n2 e).2 w) := by
  have k1 := fun w => pair_any p1 p2 q1 q2 n1 n2 e w
  generalize hP : pairR p1 p2 q1 q2 n1 n2 e = P at *
  obtain ⟨⟨r1, r2, r3⟩, s1, s2, s3⟩ := P
  unfold POut2 at k1
  simp only at k1 ⊢
  have K1 := Lib.hid k1
  clear k1 hP
  have hb0 : (b != -1) = true := by rw [bne_iff_ne]; omega
  have hb1 : ¬ b = -1 := by omega
  have hab0 : (b == a) = false := by rw [beq_eq_false_iff_ne]; exact hab
  -- names on
  go_enter Try.func25, Try.ntmps25; (try simp only [List.append_eq, List.cons_append, List.nil_append])
  go_wp2_with fail
  -- own blocks: w.heap.size:10, w.heap.size + 1:6
  (refine pin_wp (N := _) (Nat.le_refl _) (fun w101 hb_w101 hz_w101 => ?_); (try simp at hz_w101); (with_reducible apply cel10 (b := w.heap.size) hb_w101); (focus ((try simp) <;> omega)); (focus omega); (focus (go_simp; try exact rfl)); (focus (go_simp; try exact rfl)); (focus (go_simp; try exact rfl)); (focus (go_simp; try exact rfl)); (focus (go_simp; try exact rfl)); (focus (go_simp; try exact rfl)); (focus (go_simp; try exact rfl)); (focus (go_simp; try exact rfl)); (focus (go_simp; try exact rfl)); (focus (go_simp; try exact rfl)); (focus (intro o; go_simp)); intro c_w101_0_0 c_w101_0_1 c_w101_0_2 c_w101_0_3 c_w101_0_4 c_w101_0_5 c_w101_0_6 c_w101_0_7 c_w101_0_8 c_w101_0_9 fz_w101_0 hl_w101_0; (with_reducible apply cel6 (b := w.heap.size + 1) hb_w101); (focus ((try simp) <;> omega)); (focus omega); (focus (go_simp; try exact rfl)); (focus (go_simp; try exact rfl)); (focus (go_simp; try exact rfl)); (focus (go_simp; try exact rfl)); (focus (go_simp; try exact rfl)); (focus (go_simp; try exact rfl)); (focus (intro o; go_simp)); intro c_w101_1_0 c_w101_1_1 c_w101_1_2 c_w101_1_3 c_w101_1_4 c_w101_1_5 fz_w101_1 hl_w101_1); refine wp_q (fun Q_ HQ_ => ?_); refine wp_region_floatQ w101.heap.size 21 [21] (Nat.le_refl _) (fun _ => True) trivial Cl.tt (by kernel_rfl) (by kernel_rfl) ?_
  have HB101 := Lib.hid (show Below w.heap.size w w101 by ((with_reducible (repeat (first | exact bR _ _ | refine bS ?_ ?_ _ | refine bA ?_ ?_ _ | refine bD ?_ | refine bT ?_ (by assumption) ?_ | refine bO (by assumption) ?_ ?_))) <;> (first | omega | (simp; done) | (simp <;> omega))))
  have hz101 : w.heap.size + 1 + 1 ≤ w101.heap.size := by omega
  clear hb_w101
  skip
  have c0_w101 := (HB101.out.cell (p := ⟨g, o + a.toNat * 2, none⟩) hg).trans c0
  have c1_w101 := (HB101.out.cell (p := ⟨g, o + a.toNat * 2 + 1, none⟩) hg).trans c1
  have d0_w101 := (HB101.out.cell (p := ⟨g, o + b.toNat * 2, none⟩) hg).trans d0
  have d1_w101 := (HB101.out.cell (p := ⟨g, o + b.toNat * 2 + 1, none⟩) hg).trans d1
  have hg_w101 : g < w101.heap.size := by have := HB101.out.size; omega
  refine wpQI_start [0, 1, 2, 3, 4, 5, 6, 7, 8, 9, 10, 11, 12, 13] ?_; (iterate 14 (first | (refine wpQI_off (by with_reducible (refine List.getElem?_toArray.trans ?_; (repeat (first | exact List.getElem?_cons_zero | refine List.getElem?_cons_succ.trans ?_)))) (by kernel_rfl) (by exact rfl) (fun K hK => ?_); go_simp; refine hK _ ?_; clear hK K) | ((first | apply wpQI_step (by with_reducible (refine List.getElem?_toArray.trans ?_; (repeat (first | exact List.getElem?_cons_zero | refine List.getElem?_cons_succ.trans ?_)))) (by kernel_rfl) (by exact rfl) | apply wpQI_on (by with_reducible (refine List.getElem?_toArray.trans ?_; (repeat (first | exact List.getElem?_cons_zero | refine List.getElem?_cons_succ.trans ?_)))) (by kernel_rfl) (by exact rfl)); (focus (intro W' hS; have hcS := hS.cells.1; have hfS := hS.cells.2; go_simp; (first | done | exact rfl | exact ⟨rfl, Below.refl _ _⟩ | (go_simp; first | done | exact rfl | exact ⟨rfl, Below.refl _ _⟩)))); intro K hK; go_simp; (try go_bits); refine hK _ ?_; clear hK K))); refine wpQI_nil ?_
  apply wpQ_call (i := 14) (by with_reducible (refine List.getElem?_toArray.trans ?_; (repeat (first | exact List.getElem?_cons_zero | refine List.getElem?_cons_succ.trans ?_)))) (by kernel_rfl) (by exact rfl); intro W hF hS; have hcS := hS.1.cells.1; have hfS := hS.1.cells.2; go_simp; (go_at_call 37; refine (K1.out _).mono ?_; rintro e w102 ⟨hb_w102, u102, v102, rfl, hu102, hv102⟩; refine XPost.mk _ (fun W => RAt W u102 (r1) (r2) (r3) ∧ RAt W v102 (s1) (s2) (s3)) hb_w102 (⟨hu102, hv102⟩) (Cl.and (RAt.cl _ _ _ _) (RAt.cl _ _ _ _)) ?_); clear hb_w102 hcS hfS hS hF
  intro K hK; go_simp; (try go_bits); refine hK _ ?_; clear hK K
  obtain ⟨s102ux, A102ux, n102ux, c102ux, s102uy, A102uy, n102uy, c102uy, s102ud, A102ud, n102ud, c102ud, rfl⟩ := RAt.val hu102
  clear hu102
  obtain ⟨s102x, A102x, n102x, c102x, s102y, A102y, n102y, c102y, s102d, A102d, n102d, c102d, rfl⟩ := RAt.val hv102
  clear hv102
  refine wpQI_start [15, 16, 17] ?_; (iterate 3 (first | (refine wpQI_off (by with_reducible (refine List.getElem?_toArray.trans ?_; (repeat (first | exact List.getElem?_cons_zero | refine List.getElem?_cons_succ.trans ?_)))) (by kernel_rfl) (by exact rfl) (fun K hK => ?_); go_simp; refine hK _ ?_; clear hK K) | ((first | apply wpQI_step (by with_reducible (refine List.getElem?_toArray.trans ?_; (repeat (first | exact List.getElem?_cons_zero | refine List.getElem?_cons_succ.trans ?_)))) (by kernel_rfl) (by exact rfl) | apply wpQI_on (by with_reducible (refine List.getElem?_toArray.trans ?_; (repeat (first | exact List.getElem?_cons_zero | refine List.getElem?_cons_succ.trans ?_)))) (by kernel_rfl) (by exact rfl)); (focus (intro W' hS; have hcS := hS.cells.1; have hfS := hS.cells.2; go_simp; (first | done | exact rfl | exact ⟨rfl, Below.refl _ _⟩ | (go_simp; first | done | exact rfl | exact ⟨rfl, Below.refl _ _⟩)))); intro K hK; go_simp; (try go_bits); refine hK _ ?_; clear hK K))); refine wpQI_nil ?_
  apply wpQ_fresh (i := 19) LInv.std (by with_reducible (refine List.getElem?_toArray.trans ?_; (repeat (first | exact List.getElem?_cons_zero | refine List.getElem?_cons_succ.trans ?_)))) (by kernel_rfl) (fun g => Value.pointer (some ⟨g, 0, none⟩)) (by exact rfl); (focus (intro W; go_simp; first | done | exact rfl | exact ⟨rfl, rfl⟩))
  intro g_r5_19 hN_r5_19 hG_r5_19 K hK
  go_simp; refine hK _ ?_; clear hK K
  apply wpQ_fresh (i := 18) LInv.std (by with_reducible (refine List.getElem?_toArray.trans ?_; (repeat (first | exact List.getElem?_cons_zero | refine List.getElem?_cons_succ.trans ?_)))) (by kernel_rfl) (fun g => Value.pointer (some ⟨g, 0, none⟩)) (by exact rfl); (focus (intro W; go_simp; first | done | exact rfl | exact ⟨rfl, rfl⟩))
  intro g_r5_18 hN_r5_18 hG_r5_18 K hK
  go_simp; refine hK _ ?_; clear hK K
  have hne_r5_19_r5_18 : g_r5_19 ≠ g_r5_18 := hG_r5_18 _ (List.mem_cons_self ..)
  have hne_r5_18_r5_19 : g_r5_18 ≠ g_r5_19 := Ne.symm hne_r5_19_r5_18
  have hne : w.heap.size ≠ g_r5_19 := by have := hN_r5_19; omega
  have hne := Ne.symm hne
  have hne : w.heap.size ≠ g_r5_18 := by have := hN_r5_18; omega
  have hne := Ne.symm hne
  have hne : w.heap.size + 1 ≠ g_r5_19 := by have := hN_r5_19; omega
  have hne := Ne.symm hne
  have hne : w.heap.size + 1 ≠ g_r5_18 := by have := hN_r5_18; omega
  have hne := Ne.symm hne
  apply wpQ_wild (i := 20) rfl (by kernel_rfl) (by kernel_rfl); intro W hF hS; have hcS := hS.1.cells.1; have hfS := hS.1.cells.2; have hb0 := (hS.2 _ (List.mem_cons_self ..)).2; simp only at hb0; have fz : (∀ o, W.frozen? ⟨g_r5_18, o, none⟩ = false) := (fun o => frozen_of_row W g_r5_18 o _ _ hb0); have cc0 := cell_of_row W g_r5_18 0 _ _ _ hb0; simp only [List.getElem?_toArray, List.getElem?_cons_zero] at cc0; have cc1 := cell_of_row W g_r5_18 1 _ _ _ hb0; simp only [List.getElem?_toArray, List.getElem?_cons_zero, List.getElem?_cons_succ] at cc1; have cc2 := cell_of_row W g_r5_18 2 _ _ _ hb0; simp only [List.getElem?_toArray, List.getElem?_cons_zero, List.getElem?_cons_succ] at cc2; have cc3 := cell_of_row W g_r5_18 3 _ _ _ hb0; simp only [List.getElem?_toArray, List.getElem?_cons_zero, List.getElem?_cons_succ] at cc3; have cc4 := cell_of_row W g_r5_18 4 _ _ _ hb0; simp only [List.getElem?_toArray, List.getElem?_cons_zero, List.getElem?_cons_succ] at cc4; have cc5 := cell_of_row W g_r5_18 5 _ _ _ hb0; simp only [List.getElem?_toArray, List.getElem?_cons_zero, List.getElem?_cons_succ] at cc5; go_simp
  have hP := ((((((hS.put hG_r5_18 0 (.bool s102ux)).put hG_r5_18 1 (.slice A102ux n102ux c102ux)).put hG_r5_18 2 (.bool s102uy)).put hG_r5_18 3 (.slice A102uy n102uy c102uy)).put hG_r5_18 4 (.bool s102ud)).put hG_r5_18 5 (.slice A102ud n102ud c102ud))
  simp only [List.setIfInBounds_toArray, List.set_cons_zero, List.set_cons_succ] at hP
  refine WPost.mk _ (fun W => RAt W (.agg #[.bool s102ux, .slice A102ux n102ux c102ux, .bool s102uy, .slice A102uy n102uy c102uy, .bool s102ud, .slice A102ud n102ud c102ud]) (r1) (r2) (r3) ∧ RAt W (.agg #[.bool s102x, .slice A102x n102x c102x, .bool s102y, .slice A102y n102y c102y, .bool s102d, .slice A102d n102d c102d]) (s1) (s2) (s3)) _ ⟨(by ((repeat (first | (with_reducible exact hF.1) | (with_reducible apply RAt.st1))) <;> (first | (with_reducible assumption) | (intro _ e; cases e; done) | (go_simp; first | done | exact rfl)))), (by ((repeat (first | (with_reducible exact hF.2) | (with_reducible apply RAt.st1))) <;> (first | (with_reducible assumption) | (intro _ e; cases e; done) | (go_simp; first | done | exact rfl))))⟩ (Cl.and (RAt.cl _ _ _ _) (RAt.cl _ _ _ _)) hP ?_
  clear hP fz hb0 cc0 cc1 cc2 cc3 cc4 cc5 hcS hfS hS hF
  intro K hK; go_simp; refine hK _ ?_; clear hK K
  refine wpQ_done (by kernel_rfl) ?_
  intro w103 hF_w103 hSG
  have hz_w103 := hSG.1.1
  have hb_w103 := hSG.1.2
  have hB_r5_18 := (hSG.2 _ (List.mem_cons_self ..)).2; simp only at hB_r5_18; have hl_r5_18 := (hSG.size (List.mem_cons_self ..)); simp only at hl_r5_18
  have c_w103_r5_18_0 := cell_of_row w103 g_r5_18 0 _ _ _ hB_r5_18; simp only [List.getElem?_toArray, List.getElem?_cons_zero] at c_w103_r5_18_0
  have c_w103_r5_18_1 := cell_of_row w103 g_r5_18 1 _ _ _ hB_r5_18; simp only [List.getElem?_toArray, List.getElem?_cons_zero, List.getElem?_cons_succ] at c_w103_r5_18_1
  have c_w103_r5_18_2 := cell_of_row w103 g_r5_18 2 _ _ _ hB_r5_18; simp only [List.getElem?_toArray, List.getElem?_cons_zero, List.getElem?_cons_succ] at c_w103_r5_18_2
  have c_w103_r5_18_3 := cell_of_row w103 g_r5_18 3 _ _ _ hB_r5_18; simp only [List.getElem?_toArray, List.getElem?_cons_zero, List.getElem?_cons_succ] at c_w103_r5_18_3
  have c_w103_r5_18_4 := cell_of_row w103 g_r5_18 4 _ _ _ hB_r5_18; simp only [List.getElem?_toArray, List.getElem?_cons_zero, List.getElem?_cons_succ] at c_w103_r5_18_4
  have c_w103_r5_18_5 := cell_of_row w103 g_r5_18 5 _ _ _ hB_r5_18; simp only [List.getElem?_toArray, List.getElem?_cons_zero, List.getElem?_cons_succ] at c_w103_r5_18_5
  have fz_w103_r5_18 : (∀ o, w103.frozen? ⟨g_r5_18, o, none⟩ = false) := (fun o => frozen_of_row w103 g_r5_18 o _ _ hB_r5_18); have HH_r5_18 := Lib.hid hB_r5_18; clear hB_r5_18
  have hB_r5_19 := (hSG.2 _ (List.mem_cons_of_mem _ (List.mem_cons_self ..))).2; simp only at hB_r5_19; have hl_r5_19 := (hSG.size (List.mem_cons_of_mem _ (List.mem_cons_self ..))); simp only at hl_r5_19
  have c_w103_r5_19_0 := cell_of_row w103 g_r5_19 0 _ _ _ hB_r5_19; simp only [List.getElem?_toArray, List.getElem?_cons_zero] at c_w103_r5_19_0
  have c_w103_r5_19_1 := cell_of_row w103 g_r5_19 1 _ _ _ hB_r5_19; simp only [List.getElem?_toArray, List.getElem?_cons_zero, List.getElem?_cons_succ] at c_w103_r5_19_1
  have c_w103_r5_19_2 := cell_of_row w103 g_r5_19 2 _ _ _ hB_r5_19; simp only [List.getElem?_toArray, List.getElem?_cons_zero, List.getElem?_cons_succ] at c_w103_r5_19_2
  have c_w103_r5_19_3 := cell_of_row w103 g_r5_19 3 _ _ _ hB_r5_19; simp only [List.getElem?_toArray, List.getElem?_cons_zero, List.getElem?_cons_succ] at c_w103_r5_19_3
  have c_w103_r5_19_4 := cell_of_row w103 g_r5_19 4 _ _ _ hB_r5_19; simp only [List.getElem?_toArray, List.getElem?_cons_zero, List.getElem?_cons_succ] at c_w103_r5_19_4
  have c_w103_r5_19_5 := cell_of_row w103 g_r5_19 5 _ _ _ hB_r5_19; simp only [List.getElem?_toArray, List.getElem?_cons_zero, List.getElem?_cons_succ] at c_w103_r5_19_5
  have fz_w103_r5_19 : (∀ o, w103.frozen? ⟨g_r5_19, o, none⟩ = false) := (fun o => frozen_of_row w103 g_r5_19 o _ _ hB_r5_19); have HH_r5_19 := Lib.hid hB_r5_19; clear hB_r5_19
  clear hSG
  (with_reducible apply cel10 (b := w.heap.size) hb_w103); (focus ((try simp) <;> omega)); (focus omega); (focus (go_simp; try exact rfl)); (focus (go_simp; try exact rfl)); (focus (go_simp; try exact rfl)); (focus (go_simp; try exact rfl)); (focus (go_simp; try exact rfl)); (focus (go_simp; try exact rfl)); (focus (go_simp; try exact rfl)); (focus (go_simp; try exact rfl)); (focus (go_simp; try exact rfl)); (focus (go_simp; try exact rfl)); (focus (intro o; go_simp)); intro c_w103_0_0 c_w103_0_1 c_w103_0_2 c_w103_0_3 c_w103_0_4 c_w103_0_5 c_w103_0_6 c_w103_0_7 c_w103_0_8 c_w103_0_9 fz_w103_0 hl_w103_0; (with_reducible apply cel6 (b := w.heap.size + 1) hb_w103); (focus ((try simp) <;> omega)); (focus omega); (focus (go_simp; try exact rfl)); (focus (go_simp; try exact rfl)); (focus (go_simp; try exact rfl)); (focus (go_simp; try exact rfl)); (focus (go_simp; try exact rfl)); (focus (go_simp; try exact rfl)); (focus (intro o; go_simp)); intro c_w103_1_0 c_w103_1_1 c_w103_1_2 c_w103_1_3 c_w103_1_4 c_w103_1_5 fz_w103_1 hl_w103_1
  (try simp only [List.filterMap_cons, List.filterMap_nil, List.getElem?_cons_succ, List.getElem?_cons_zero])
  have H102u := Lib.hid (show RAt w103 (.agg #[.bool s102ux, .slice A102ux n102ux c102ux, .bool s102uy, .slice A102uy n102uy c102uy, .bool s102ud, .slice A102ud n102ud c102ud]) (r1) (r2) (r3) from hF_w103.1)
  have H102 := Lib.hid (show RAt w103 (.agg #[.bool s102x, .slice A102x n102x c102x, .bool s102y, .slice A102y n102y c102y, .bool s102d, .slice A102d n102d c102d]) (s1) (s2) (s3) from hF_w103.2)
  have HB103 := Lib.hid (HB101.out.trans (hb_w103.mono (by have := HB101.out.size; omega)))
  have hz103 : w.heap.size + 1 + 1 ≤ w103.heap.size := by omega
  have hn_r5_19 : w.heap.size + 1 + 1 ≤ g_r5_19 := by have := hN_r5_19; omega
  have hn_r5_18 : w.heap.size + 1 + 1 ≤ g_r5_18 := by have := hN_r5_18; omega
  clear hF_w103 hb_w103 HH_r5_19 hG_r5_19 hN_r5_19 HH_r5_18 hG_r5_18 hN_r5_18
  clear c_w101_0_0 c_w101_0_1 c_w101_0_2 c_w101_0_3 c_w101_0_4 c_w101_0_5 c_w101_0_6 c_w101_0_7 c_w101_0_8 c_w101_0_9 fz_w101_0 hl_w101_0 c_w101_1_0 c_w101_1_1 c_w101_1_2 c_w101_1_3 c_w101_1_4 c_w101_1_5 fz_w101_1 hl_w101_1
  go_wp2_with fail
  refine HQ_.out _ _ _ ?_
  clear HQ_ Q_
  go_wp2_with fail
  -- own blocks: w.heap.size + 1:6
  refine bodyPost_ret (v := .agg #[.bool s102x, .slice A102x n102x c102x, .bool s102y, .slice A102y n102y c102y, .bool s102d, .slice A102d n102d c102d]) (by simp only [results, Try.results25]; go_simp) rfl ⟨?_, ?_⟩
  · have hB := HB103.out; ((with_reducible (repeat (first | exact bR _ _ | refine bS ?_ ?_ _ | refine bA ?_ ?_ _ | refine bD ?_ | refine bT ?_ (by assumption) ?_ | refine bO (by assumption) ?_ ?_))) <;> (first | omega | (simp; done) | (simp <;> omega)))
  · exact ⟨_, rfl, (by ((repeat (first | (with_reducible exact H102.out) | (with_reducible refine RAt.al ?_ _) | (with_reducible apply RAt.st1))) <;> (first | (with_reducible assumption) | (intro _ e; cases e; done) | (go_simp; first | done | exact rfl))))⟩
set_option maxRecDepth 100000 in
set_option maxHeartbeats 20000000 in
theorem alone_s (a n1 n2 x1 x2 y1 y2 e f p1 p2 : Int) (g o n c : Nat) (w : World)
    (hg : g < w.heap.size) (i1 : 0 ≤ a) (i2 : a < (n : Int)) (c0 : w.cell? ⟨g, o + a.toNat * 2, none⟩ = some (.int .i64 p1)) (c1 : w.cell? ⟨g, o + a.toNat * 2 + 1, none⟩ = some (.int .i64 p2)) (hy1 : -1048576 ≤ y1 ∧ y1 ≤ 1048576) (hy2 : -1048576 ≤ y2 ∧ y2 ≤ 1048576) :
    Calls Try.prog 25 #[.agg #[.int .i64 a, .int .i64 (-1), .int .i64 n1, .int .i64 n2, .int .i64 x1, .int .i64 x2, .int .i64 y1, .int .i64 y2, .int .i64 e, .int .i64 f], .slice (some ⟨g, o, none⟩) n c, .int .i64 a] w (TOut (kickS (statR p1 p2 x1 x2 n1 n2 e f) y1 y2) w) := by
  have k1 := fun w => static_any p1 p2 x1 x2 n1 n2 e f w
  obtain ⟨⟨lx, ly, ld⟩, _⟩ := stat_lens p1 p2 x1 x2 n1 n2 e f
  unfold TOut at k1
  generalize hP : statR p1 p2 x1 x2 n1 n2 e f = P at *
  obtain ⟨r1, r2, r3⟩ := P
  unfold kickS
  simp only at *
  have ly1 := len_wd (z := y1) (by omega) (by omega)
  have ly2 := len_wd (z := y2) (by omega) (by omega)
  have LX := Lib.hid (len_up lx (show 10 ≤ 600 by omega))
  have LY := Lib.hid (len_up ly (show 10 ≤ 600 by omega))
  have LD := Lib.hid (len_up ld (show 10 ≤ 600 by omega))
  have LK1 := Lib.hid (len_up ly1 (show 10 ≤ 600 by omega))
  have LK2 := Lib.hid (len_up ly2 (show 10 ≤ 600 by omega))
  have LM1 := Lib.hid (len_up (len_mul ld ly1) (show 10 + 10 ≤ 600 by omega))
  have LM2 := Lib.hid (len_up (len_mul ld ly2) (show 10 + 10 ≤ 600 by omega))
  have k2 := fun w => wof_any y1 w (by omega) (by omega)
  have k3 := fun u v w h1 h2 => wmul_any 600 u v r3 y1 w h1 h2 (by omega)
  have k4 := fun u v w h1 h2 => wadd_any 600 u v r1 (r3 * y1) w h1 h2 (by omega)
  have k5 := fun w => wof_any y2 w (by omega) (by omega)
  have k6 := fun u v w h1 h2 => wmul_any 600 u v r3 y2 w h1 h2 (by omega)
  have k7 := fun u v w h1 h2 => wadd_any 600 u v r2 (r3 * y2) w h1 h2 (by omega)
  generalize r3 * y1 = M1 at *
  generalize r3 * y2 = M2 at *
  generalize r1 + M1 = S1 at *
  generalize r2 + M2 = S2 at *
  have K1 := Lib.hid k1
  have K2 := Lib.hid k2
  have K3 := Lib.hid k3
  have K4 := Lib.hid k4
  have K5 := Lib.hid k5
  have K6 := Lib.hid k6
  have K7 := Lib.hid k7
  clear k1 k2 k3 k4 k5 k6 k7 hP lx ly ld ly1 ly2 hy1 hy2
  -- names on
  go_enter Try.func25, Try.ntmps25; (try simp only [List.append_eq, List.cons_append, List.nil_append])
  go_wp2_with fail
  -- own blocks: w.heap.size:10, w.heap.size + 1:6
  (refine pin_wp (N := _) (Nat.le_refl _) (fun w101 hb_w101 hz_w101 => ?_); (try simp at hz_w101); (with_reducible apply cel10 (b := w.heap.size) hb_w101); (focus ((try simp) <;> omega)); (focus omega); (focus (go_simp; try exact rfl)); (focus (go_simp; try exact rfl)); (focus (go_simp; try exact rfl)); (focus (go_simp; try exact rfl)); (focus (go_simp; try exact rfl)); (focus (go_simp; try exact rfl)); (focus (go_simp; try exact rfl)); (focus (go_simp; try exact rfl)); (focus (go_simp; try exact rfl)); (focus (go_simp; try exact rfl)); (focus (intro o; go_simp)); intro c_w101_0_0 c_w101_0_1 c_w101_0_2 c_w101_0_3 c_w101_0_4 c_w101_0_5 c_w101_0_6 c_w101_0_7 c_w101_0_8 c_w101_0_9 fz_w101_0 hl_w101_0; (with_reducible apply cel6 (b := w.heap.size + 1) hb_w101); (focus ((try simp) <;> omega)); (focus omega); (focus (go_simp; try exact rfl)); (focus (go_simp; try exact rfl)); (focus (go_simp; try exact rfl)); (focus (go_simp; try exact rfl)); (focus (go_simp; try exact rfl)); (focus (go_simp; try exact rfl)); (focus (intro o; go_simp)); intro c_w101_1_0 c_w101_1_1 c_w101_1_2 c_w101_1_3 c_w101_1_4 c_w101_1_5 fz_w101_1 hl_w101_1); refine wp_q (fun Q_ HQ_ => ?_); refine wp_region_floatQ w101.heap.size 15 [15] (Nat.le_refl _) (fun _ => True) trivial Cl.tt (by kernel_rfl) (by kernel_rfl) ?_
  have HB101 := Lib.hid (show Below w.heap.size w w101 by ((with_reducible (repeat (first | exact bR _ _ | refine bS ?_ ?_ _ | refine bA ?_ ?_ _ | refine bD ?_ | refine bT ?_ (by assumption) ?_ | refine bO (by assumption) ?_ ?_))) <;> (first | omega | (simp; done) | (simp <;> omega))))
  have hz101 : w.heap.size + 1 + 1 ≤ w101.heap.size := by omega
  clear hb_w101
  skip
  have c0_w101 := (HB101.out.cell (p := ⟨g, o + a.toNat * 2, none⟩) hg).trans c0
  have c1_w101 := (HB101.out.cell (p := ⟨g, o + a.toNat * 2 + 1, none⟩) hg).trans c1
  have hg_w101 : g < w101.heap.size := by have := HB101.out.size; omega
  refine wpQI_start [0, 1, 2, 3, 4, 5, 6, 7, 8, 9, 10, 11, 12] ?_; (iterate 13 (first | (refine wpQI_off (by with_reducible (refine List.getElem?_toArray.trans ?_; (repeat (first | exact List.getElem?_cons_zero | refine List.getElem?_cons_succ.trans ?_)))) (by kernel_rfl) (by exact rfl) (fun K hK => ?_); go_simp; refine hK _ ?_; clear hK K) | ((first | apply wpQI_step (by with_reducible (refine List.getElem?_toArray.trans ?_; (repeat (first | exact List.getElem?_cons_zero | refine List.getElem?_cons_succ.trans ?_)))) (by kernel_rfl) (by exact rfl) | apply wpQI_on (by with_reducible (refine List.getElem?_toArray.trans ?_; (repeat (first | exact List.getElem?_cons_zero | refine List.getElem?_cons_succ.trans ?_)))) (by kernel_rfl) (by exact rfl)); (focus (intro W' hS; have hcS := hS.cells.1; have hfS := hS.cells.2; go_simp; (first | done | exact rfl | exact ⟨rfl, Below.refl _ _⟩ | (go_simp; first | done | exact rfl | exact ⟨rfl, Below.refl _ _⟩)))); intro K hK; go_simp; (try go_bits); refine hK _ ?_; clear hK K))); refine wpQI_nil ?_
  apply wpQ_call (i := 13) (by with_reducible (refine List.getElem?_toArray.trans ?_; (repeat (first | exact List.getElem?_cons_zero | refine List.getElem?_cons_succ.trans ?_)))) (by kernel_rfl) (by exact rfl); intro W hF hS; have hcS := hS.1.cells.1; have hfS := hS.1.cells.2; go_simp; (go_at_call 38; refine (K1.out _).mono ?_; rintro e w102 ⟨hb_w102, v102, rfl, hv102⟩; refine XPost.mk _ (fun W => RAt W v102 (r1) (r2) (r3)) hb_w102 (hv102) (RAt.cl _ _ _ _) ?_); clear hb_w102 hcS hfS hS hF
  intro K hK; go_simp; (try go_bits); refine hK _ ?_; clear hK K
  obtain ⟨s102x, A102x, n102x, c102x, s102y, A102y, n102y, c102y, s102d, A102d, n102d, c102d, rfl⟩ := RAt.val hv102
  clear hv102
  apply wpQ_fresh (i := 14) LInv.std (by with_reducible (refine List.getElem?_toArray.trans ?_; (repeat (first | exact List.getElem?_cons_zero | refine List.getElem?_cons_succ.trans ?_)))) (by kernel_rfl) (fun g => Value.pointer (some ⟨g, 0, none⟩)) (by exact rfl); (focus (intro W; go_simp; first | done | exact rfl | exact ⟨rfl, rfl⟩))
  intro g_r8_14 hN_r8_14 hG_r8_14 K hK
  go_simp; refine hK _ ?_; clear hK K
  have hne : w.heap.size ≠ g_r8_14 := by have := hN_r8_14; omega
  have hne := Ne.symm hne
  have hne : w.heap.size + 1 ≠ g_r8_14 := by have := hN_r8_14; omega
  have hne := Ne.symm hne
  refine wpQ_done (by kernel_rfl) ?_
  intro w103 hF_w103 hSG
  have hz_w103 := hSG.1.1
  have hb_w103 := hSG.1.2
  have hB_r8_14 := (hSG.2 _ (List.mem_cons_self ..)).2; simp only at hB_r8_14; have hl_r8_14 := (hSG.size (List.mem_cons_self ..)); simp only at hl_r8_14
  have c_w103_r8_14_0 := cell_of_row w103 g_r8_14 0 _ _ _ hB_r8_14; simp only [List.getElem?_toArray, List.getElem?_cons_zero] at c_w103_r8_14_0
  have c_w103_r8_14_1 := cell_of_row w103 g_r8_14 1 _ _ _ hB_r8_14; simp only [List.getElem?_toArray, List.getElem?_cons_zero, List.getElem?_cons_succ] at c_w103_r8_14_1
  have c_w103_r8_14_2 := cell_of_row w103 g_r8_14 2 _ _ _ hB_r8_14; simp only [List.getElem?_toArray, List.getElem?_cons_zero, List.getElem?_cons_succ] at c_w103_r8_14_2
  have c_w103_r8_14_3 := cell_of_row w103 g_r8_14 3 _ _ _ hB_r8_14; simp only [List.getElem?_toArray, List.getElem?_cons_zero, List.getElem?_cons_succ] at c_w103_r8_14_3
  have c_w103_r8_14_4 := cell_of_row w103 g_r8_14 4 _ _ _ hB_r8_14; simp only [List.getElem?_toArray, List.getElem?_cons_zero, List.getElem?_cons_succ] at c_w103_r8_14_4
  have c_w103_r8_14_5 := cell_of_row w103 g_r8_14 5 _ _ _ hB_r8_14; simp only [List.getElem?_toArray, List.getElem?_cons_zero, List.getElem?_cons_succ] at c_w103_r8_14_5
  have fz_w103_r8_14 : (∀ o, w103.frozen? ⟨g_r8_14, o, none⟩ = false) := (fun o => frozen_of_row w103 g_r8_14 o _ _ hB_r8_14); have HH_r8_14 := Lib.hid hB_r8_14; clear hB_r8_14
  clear hSG
  (with_reducible apply cel10 (b := w.heap.size) hb_w103); (focus ((try simp) <;> omega)); (focus omega); (focus (go_simp; try exact rfl)); (focus (go_simp; try exact rfl)); (focus (go_simp; try exact rfl)); (focus (go_simp; try exact rfl)); (focus (go_simp; try exact rfl)); (focus (go_simp; try exact rfl)); (focus (go_simp; try exact rfl)); (focus (go_simp; try exact rfl)); (focus (go_simp; try exact rfl)); (focus (go_simp; try exact rfl)); (focus (intro o; go_simp)); intro c_w103_0_0 c_w103_0_1 c_w103_0_2 c_w103_0_3 c_w103_0_4 c_w103_0_5 c_w103_0_6 c_w103_0_7 c_w103_0_8 c_w103_0_9 fz_w103_0 hl_w103_0; (with_reducible apply cel6 (b := w.heap.size + 1) hb_w103); (focus ((try simp) <;> omega)); (focus omega); (focus (go_simp; try exact rfl)); (focus (go_simp; try exact rfl)); (focus (go_simp; try exact rfl)); (focus (go_simp; try exact rfl)); (focus (go_simp; try exact rfl)); (focus (go_simp; try exact rfl)); (focus (intro o; go_simp)); intro c_w103_1_0 c_w103_1_1 c_w103_1_2 c_w103_1_3 c_w103_1_4 c_w103_1_5 fz_w103_1 hl_w103_1
  (try simp only [List.filterMap_cons, List.filterMap_nil, List.getElem?_cons_succ, List.getElem?_cons_zero])
  have H102 := Lib.hid (show RAt w103 (.agg #[.bool s102x, .slice A102x n102x c102x, .bool s102y, .slice A102y n102y c102y, .bool s102d, .slice A102d n102d c102d]) (r1) (r2) (r3) from hF_w103)
  have HB103 := Lib.hid (HB101.out.trans (hb_w103.mono (by have := HB101.out.size; omega)))
  have hz103 : w.heap.size + 1 + 1 ≤ w103.heap.size := by omega
  have hn_r8_14 : w.heap.size + 1 + 1 ≤ g_r8_14 := by have := hN_r8_14; omega
  clear hF_w103 hb_w103 HH_r8_14 hG_r8_14 hN_r8_14
  clear c_w101_0_0 c_w101_0_1 c_w101_0_2 c_w101_0_3 c_w101_0_4 c_w101_0_5 c_w101_0_6 c_w101_0_7 c_w101_0_8 c_w101_0_9 fz_w101_0 hl_w101_0 c_w101_1_0 c_w101_1_1 c_w101_1_2 c_w101_1_3 c_w101_1_4 c_w101_1_5 fz_w101_1 hl_w101_1
  go_wp2_with fail
  refine HQ_.out _ _ _ ?_
  clear HQ_ Q_
  go_wp2_with fail
  -- own blocks: w.heap.size:10, w.heap.size + 1:6, g_r8_14:6
  (refine pin_wp (N := _) (Nat.le_refl _) (fun w104 hb_w104 hz_w104 => ?_); (try simp at hz_w104); (with_reducible apply cel10 (b := w.heap.size) hb_w104); (focus ((try simp) <;> omega)); (focus omega); (focus (go_simp; try exact rfl)); (focus (go_simp; try exact rfl)); (focus (go_simp; try exact rfl)); (focus (go_simp; try exact rfl)); (focus (go_simp; try exact rfl)); (focus (go_simp; try exact rfl)); (focus (go_simp; try exact rfl)); (focus (go_simp; try exact rfl)); (focus (go_simp; try exact rfl)); (focus (go_simp; try exact rfl)); (focus (intro o; go_simp)); intro c_w104_0_0 c_w104_0_1 c_w104_0_2 c_w104_0_3 c_w104_0_4 c_w104_0_5 c_w104_0_6 c_w104_0_7 c_w104_0_8 c_w104_0_9 fz_w104_0 hl_w104_0; (with_reducible apply cel6 (b := w.heap.size + 1) hb_w104); (focus ((try simp) <;> omega)); (focus omega); (focus (go_simp; try exact rfl)); (focus (go_simp; try exact rfl)); (focus (go_simp; try exact rfl)); (focus (go_simp; try exact rfl)); (focus (go_simp; try exact rfl)); (focus (go_simp; try exact rfl)); (focus (intro o; go_simp)); intro c_w104_1_0 c_w104_1_1 c_w104_1_2 c_w104_1_3 c_w104_1_4 c_w104_1_5 fz_w104_1 hl_w104_1; (with_reducible apply cel6 (b := g_r8_14) hb_w104); (focus ((try simp) <;> omega)); (focus omega); (focus (go_simp; try exact rfl)); (focus (go_simp; try exact rfl)); (focus (go_simp; try exact rfl)); (focus (go_simp; try exact rfl)); (focus (go_simp; try exact rfl)); (focus (go_simp; try exact rfl)); (focus (intro o; go_simp)); intro c_w104_2_0 c_w104_2_1 c_w104_2_2 c_w104_2_3 c_w104_2_4 c_w104_2_5 fz_w104_2 hl_w104_2); refine wp_q (fun Q_ HQ_ => ?_); refine wp_region_floatQ w104.heap.size 11 [11] (Nat.le_refl _) (fun _ => True) trivial Cl.tt (by kernel_rfl) (by kernel_rfl) ?_
  replace H102 := Lib.hid (RAt.below (v := .agg #[.bool s102x, .slice A102x n102x c102x, .bool s102y, .slice A102y n102y c102y, .bool s102d, .slice A102d n102d c102d]) (x := r1) (y := r2) (d := r3) (by ((repeat (first | (with_reducible exact H102.out) | (with_reducible refine RAt.al ?_ _) | (with_reducible apply RAt.st1))) <;> (first | (with_reducible assumption) | (intro _ e; cases e; done) | (go_simp; first | done | exact rfl)))) hb_w104)
  have HB104 := Lib.hid (show Below w.heap.size w w104 by have hB := HB103.out; ((with_reducible (repeat (first | exact bR _ _ | refine bS ?_ ?_ _ | refine bA ?_ ?_ _ | refine bD ?_ | refine bT ?_ (by assumption) ?_ | refine bO (by assumption) ?_ ?_))) <;> (first | omega | (simp; done) | (simp <;> omega))))
  have hz104 : w.heap.size + 1 + 1 ≤ w104.heap.size := by omega
  clear hb_w104
  clear c_w103_r8_14_0 c_w103_r8_14_1 c_w103_r8_14_2 c_w103_r8_14_3 c_w103_r8_14_4 c_w103_r8_14_5 fz_w103_r8_14 c_w103_0_0 c_w103_0_1 c_w103_0_2 c_w103_0_3 c_w103_0_4 c_w103_0_5 c_w103_0_6 c_w103_0_7 c_w103_0_8 c_w103_0_9 fz_w103_0 hl_w103_0 c_w103_1_0 c_w103_1_1 c_w103_1_2 c_w103_1_3 c_w103_1_4 c_w103_1_5 fz_w103_1 hl_w103_1
  refine wpQI_start [0, 1, 2, 3, 4, 5, 6] ?_; (iterate 7 (first | (refine wpQI_off (by with_reducible (refine List.getElem?_toArray.trans ?_; (repeat (first | exact List.getElem?_cons_zero | refine List.getElem?_cons_succ.trans ?_)))) (by kernel_rfl) (by exact rfl) (fun K hK => ?_); go_simp; refine hK _ ?_; clear hK K) | ((first | apply wpQI_step (by with_reducible (refine List.getElem?_toArray.trans ?_; (repeat (first | exact List.getElem?_cons_zero | refine List.getElem?_cons_succ.trans ?_)))) (by kernel_rfl) (by exact rfl) | apply wpQI_on (by with_reducible (refine List.getElem?_toArray.trans ?_; (repeat (first | exact List.getElem?_cons_zero | refine List.getElem?_cons_succ.trans ?_)))) (by kernel_rfl) (by exact rfl)); (focus (intro W' hS; have hcS := hS.cells.1; have hfS := hS.cells.2; go_simp; (first | done | exact rfl | exact ⟨rfl, Below.refl _ _⟩ | (go_simp; first | done | exact rfl | exact ⟨rfl, Below.refl _ _⟩)))); intro K hK; go_simp; (try go_bits); refine hK _ ?_; clear hK K))); refine wpQI_nil ?_
  apply wpQ_call (i := 7) (by with_reducible (refine List.getElem?_toArray.trans ?_; (repeat (first | exact List.getElem?_cons_zero | refine List.getElem?_cons_succ.trans ?_)))) (by kernel_rfl) (by exact rfl); intro W hF hS; have hcS := hS.1.cells.1; have hfS := hS.1.cells.2; go_simp; (go_at_call 41; refine (K2.out _).mono ?_; rintro e w105 ⟨hb_w105, v105, rfl, hv105⟩; refine XPost.mk _ (fun W => IsC W v105 (y1)) hb_w105 (hv105) (IsC.cl _ _) ?_); clear hb_w105 hcS hfS hS hF
  intro K hK; go_simp; (try go_bits); refine hK _ ?_; clear hK K
  obtain ⟨s105, A105, n105, c105, rfl⟩ := IsC.val hv105
  clear hv105
  apply wpQ_call (i := 8) (by with_reducible (refine List.getElem?_toArray.trans ?_; (repeat (first | exact List.getElem?_cons_zero | refine List.getElem?_cons_succ.trans ?_)))) (by kernel_rfl) (by exact rfl); intro W hF hS; have hcS := hS.1.cells.1; have hfS := hS.1.cells.2; go_simp; (go_at_call 40; refine (K3.out _ _ _ ((RAt.pd (H102.out.below hS.1.2)).zl LD.out) (hF.zl LK1.out)).mono ?_; rintro e w106 ⟨hb_w106, v106, rfl, hv106⟩; refine XPost.mk _ (fun W => IsC W v106 (M1)) hb_w106 (hv106) (IsC.cl _ _) ?_); clear hb_w106 hcS hfS hS hF
  intro K hK; go_simp; (try go_bits); refine hK _ ?_; clear hK K
  obtain ⟨s106, A106, n106, c106, rfl⟩ := IsC.val hv106
  clear hv106
  apply wpQ_call (i := 9) (by with_reducible (refine List.getElem?_toArray.trans ?_; (repeat (first | exact List.getElem?_cons_zero | refine List.getElem?_cons_succ.trans ?_)))) (by kernel_rfl) (by exact rfl); intro W hF hS; have hcS := hS.1.cells.1; have hfS := hS.1.cells.2; go_simp; (go_at_call 39; refine (K4.out _ _ _ ((RAt.px (H102.out.below hS.1.2)).zl LX.out) (hF.2.zl LM1.out)).mono ?_; rintro e w107 ⟨hb_w107, v107, rfl, hv107⟩; refine XPost.mk _ (fun W => IsC W v107 (S1)) hb_w107 (hv107) (IsC.cl _ _) ?_); clear hb_w107 hcS hfS hS hF
  intro K hK; go_simp; (try go_bits); refine hK _ ?_; clear hK K
  obtain ⟨s107, A107, n107, c107, rfl⟩ := IsC.val hv107
  clear hv107
  refine wpQI_start [10] ?_; (iterate 1 (first | (refine wpQI_off (by with_reducible (refine List.getElem?_toArray.trans ?_; (repeat (first | exact List.getElem?_cons_zero | refine List.getElem?_cons_succ.trans ?_)))) (by kernel_rfl) (by exact rfl) (fun K hK => ?_); go_simp; refine hK _ ?_; clear hK K) | ((first | apply wpQI_step (by with_reducible (refine List.getElem?_toArray.trans ?_; (repeat (first | exact List.getElem?_cons_zero | refine List.getElem?_cons_succ.trans ?_)))) (by kernel_rfl) (by exact rfl) | apply wpQI_on (by with_reducible (refine List.getElem?_toArray.trans ?_; (repeat (first | exact List.getElem?_cons_zero | refine List.getElem?_cons_succ.trans ?_)))) (by kernel_rfl) (by exact rfl)); (focus (intro W' hS; have hcS := hS.cells.1; have hfS := hS.cells.2; go_simp; (first | done | exact rfl | exact ⟨rfl, Below.refl _ _⟩ | (go_simp; first | done | exact rfl | exact ⟨rfl, Below.refl _ _⟩)))); intro K hK; go_simp; (try go_bits); refine hK _ ?_; clear hK K))); refine wpQI_nil ?_
  refine wpQ_done (by kernel_rfl) ?_
  intro w108 hF_w108 hSG
  have hz_w108 := hSG.1.1
  have hb_w108 := hSG.1.2
  clear hSG
  (with_reducible apply cel10 (b := w.heap.size) hb_w108); (focus ((try simp) <;> omega)); (focus omega); (focus (go_simp; try exact rfl)); (focus (go_simp; try exact rfl)); (focus (go_simp; try exact rfl)); (focus (go_simp; try exact rfl)); (focus (go_simp; try exact rfl)); (focus (go_simp; try exact rfl)); (focus (go_simp; try exact rfl)); (focus (go_simp; try exact rfl)); (focus (go_simp; try exact rfl)); (focus (go_simp; try exact rfl)); (focus (intro o; go_simp)); intro c_w108_0_0 c_w108_0_1 c_w108_0_2 c_w108_0_3 c_w108_0_4 c_w108_0_5 c_w108_0_6 c_w108_0_7 c_w108_0_8 c_w108_0_9 fz_w108_0 hl_w108_0; (with_reducible apply cel6 (b := w.heap.size + 1) hb_w108); (focus ((try simp) <;> omega)); (focus omega); (focus (go_simp; try exact rfl)); (focus (go_simp; try exact rfl)); (focus (go_simp; try exact rfl)); (focus (go_simp; try exact rfl)); (focus (go_simp; try exact rfl)); (focus (go_simp; try exact rfl)); (focus (intro o; go_simp)); intro c_w108_1_0 c_w108_1_1 c_w108_1_2 c_w108_1_3 c_w108_1_4 c_w108_1_5 fz_w108_1 hl_w108_1; (with_reducible apply cel6 (b := g_r8_14) hb_w108); (focus ((try simp) <;> omega)); (focus omega); (focus (go_simp; try exact rfl)); (focus (go_simp; try exact rfl)); (focus (go_simp; try exact rfl)); (focus (go_simp; try exact rfl)); (focus (go_simp; try exact rfl)); (focus (go_simp; try exact rfl)); (focus (intro o; go_simp)); intro c_w108_2_0 c_w108_2_1 c_w108_2_2 c_w108_2_3 c_w108_2_4 c_w108_2_5 fz_w108_2 hl_w108_2
  (try simp only [List.filterMap_cons, List.filterMap_nil, List.getElem?_cons_succ, List.getElem?_cons_zero])
  replace H102 := Lib.hid (H102.out.below hb_w108)
  have H105 := Lib.hid (show IsC w108 (.agg #[.bool s105, .slice A105 n105 c105]) (y1) from hF_w108.1.1)
  have H106 := Lib.hid (show IsC w108 (.agg #[.bool s106, .slice A106 n106 c106]) (M1) from hF_w108.1.2)
  have H107 := Lib.hid (show IsC w108 (.agg #[.bool s107, .slice A107 n107 c107]) (S1) from hF_w108.2)
  have HB108 := Lib.hid (HB104.out.trans (hb_w108.mono (by have := HB104.out.size; omega)))
  have hz108 : w.heap.size + 1 + 1 ≤ w108.heap.size := by omega
  clear hF_w108 hb_w108
  clear c_w104_0_0 c_w104_0_1 c_w104_0_2 c_w104_0_3 c_w104_0_4 c_w104_0_5 c_w104_0_6 c_w104_0_7 c_w104_0_8 c_w104_0_9 fz_w104_0 hl_w104_0 c_w104_1_0 c_w104_1_1 c_w104_1_2 c_w104_1_3 c_w104_1_4 c_w104_1_5 fz_w104_1 hl_w104_1 c_w104_2_0 c_w104_2_1 c_w104_2_2 c_w104_2_3 c_w104_2_4 c_w104_2_5 fz_w104_2 hl_w104_2
  go_wp2_with fail
  refine HQ_.out _ _ _ ?_
  clear HQ_ Q_
  go_wp2_with fail
  -- own blocks: w.heap.size:10, w.heap.size + 1:6, g_r8_14:6
  (refine pin_wp (N := _) (Nat.le_refl _) (fun w109 hb_w109 hz_w109 => ?_); (try simp at hz_w109); (with_reducible apply cel10 (b := w.heap.size) hb_w109); (focus ((try simp) <;> omega)); (focus omega); (focus (go_simp; try exact rfl)); (focus (go_simp; try exact rfl)); (focus (go_simp; try exact rfl)); (focus (go_simp; try exact rfl)); (focus (go_simp; try exact rfl)); (focus (go_simp; try exact rfl)); (focus (go_simp; try exact rfl)); (focus (go_simp; try exact rfl)); (focus (go_simp; try exact rfl)); (focus (go_simp; try exact rfl)); (focus (intro o; go_simp)); intro c_w109_0_0 c_w109_0_1 c_w109_0_2 c_w109_0_3 c_w109_0_4 c_w109_0_5 c_w109_0_6 c_w109_0_7 c_w109_0_8 c_w109_0_9 fz_w109_0 hl_w109_0; (with_reducible apply cel6 (b := w.heap.size + 1) hb_w109); (focus ((try simp) <;> omega)); (focus omega); (focus (go_simp; try exact rfl)); (focus (go_simp; try exact rfl)); (focus (go_simp; try exact rfl)); (focus (go_simp; try exact rfl)); (focus (go_simp; try exact rfl)); (focus (go_simp; try exact rfl)); (focus (intro o; go_simp)); intro c_w109_1_0 c_w109_1_1 c_w109_1_2 c_w109_1_3 c_w109_1_4 c_w109_1_5 fz_w109_1 hl_w109_1; (with_reducible apply cel6 (b := g_r8_14) hb_w109); (focus ((try simp) <;> omega)); (focus omega); (focus (go_simp; try exact rfl)); (focus (go_simp; try exact rfl)); (focus (go_simp; try exact rfl)); (focus (go_simp; try exact rfl)); (focus (go_simp; try exact rfl)); (focus (go_simp; try exact rfl)); (focus (intro o; go_simp)); intro c_w109_2_0 c_w109_2_1 c_w109_2_2 c_w109_2_3 c_w109_2_4 c_w109_2_5 fz_w109_2 hl_w109_2); refine wp_q (fun Q_ HQ_ => ?_); refine wp_region_floatQ w109.heap.size 11 [11] (Nat.le_refl _) (fun _ => True) trivial Cl.tt (by kernel_rfl) (by kernel_rfl) ?_
  clear H105
  clear H106
  replace H102 := Lib.hid (RAt.below (v := .agg #[.bool s102x, .slice A102x n102x c102x, .bool s102y, .slice A102y n102y c102y, .bool s102d, .slice A102d n102d c102d]) (x := r1) (y := r2) (d := r3) (by ((repeat (first | (with_reducible exact H102.out) | (with_reducible refine RAt.al ?_ _) | (with_reducible apply RAt.st1))) <;> (first | (with_reducible assumption) | (intro _ e; cases e; done) | (go_simp; first | done | exact rfl)))) hb_w109)
  replace H107 := Lib.hid (IsC.below (v := .agg #[.bool s107, .slice A107 n107 c107]) (z := S1) (by ((repeat (first | (with_reducible exact H107.out) | (with_reducible refine IsC.al ?_ _) | (with_reducible apply IsC.st1))) <;> (first | (with_reducible assumption) | (intro _ e; cases e; done) | (go_simp; first | done | exact rfl)))) hb_w109)
  have HB109 := Lib.hid (show Below w.heap.size w w109 by have hB := HB108.out; ((with_reducible (repeat (first | exact bR _ _ | refine bS ?_ ?_ _ | refine bA ?_ ?_ _ | refine bD ?_ | refine bT ?_ (by assumption) ?_ | refine bO (by assumption) ?_ ?_))) <;> (first | omega | (simp; done) | (simp <;> omega))))
  have hz109 : w.heap.size + 1 + 1 ≤ w109.heap.size := by omega
  clear hb_w109
  clear c_w108_0_0 c_w108_0_1 c_w108_0_2 c_w108_0_3 c_w108_0_4 c_w108_0_5 c_w108_0_6 c_w108_0_7 c_w108_0_8 c_w108_0_9 fz_w108_0 hl_w108_0 c_w108_1_0 c_w108_1_1 c_w108_1_2 c_w108_1_3 c_w108_1_4 c_w108_1_5 fz_w108_1 hl_w108_1 c_w108_2_0 c_w108_2_1 c_w108_2_2 c_w108_2_3 c_w108_2_4 c_w108_2_5 fz_w108_2 hl_w108_2
  refine wpQI_start [0, 1, 2, 3, 4, 5, 6] ?_; (iterate 7 (first | (refine wpQI_off (by with_reducible (refine List.getElem?_toArray.trans ?_; (repeat (first | exact List.getElem?_cons_zero | refine List.getElem?_cons_succ.trans ?_)))) (by kernel_rfl) (by exact rfl) (fun K hK => ?_); go_simp; refine hK _ ?_; clear hK K) | ((first | apply wpQI_step (by with_reducible (refine List.getElem?_toArray.trans ?_; (repeat (first | exact List.getElem?_cons_zero | refine List.getElem?_cons_succ.trans ?_)))) (by kernel_rfl) (by exact rfl) | apply wpQI_on (by with_reducible (refine List.getElem?_toArray.trans ?_; (repeat (first | exact List.getElem?_cons_zero | refine List.getElem?_cons_succ.trans ?_)))) (by kernel_rfl) (by exact rfl)); (focus (intro W' hS; have hcS := hS.cells.1; have hfS := hS.cells.2; go_simp; (first | done | exact rfl | exact ⟨rfl, Below.refl _ _⟩ | (go_simp; first | done | exact rfl | exact ⟨rfl, Below.refl _ _⟩)))); intro K hK; go_simp; (try go_bits); refine hK _ ?_; clear hK K))); refine wpQI_nil ?_
  apply wpQ_call (i := 7) (by with_reducible (refine List.getElem?_toArray.trans ?_; (repeat (first | exact List.getElem?_cons_zero | refine List.getElem?_cons_succ.trans ?_)))) (by kernel_rfl) (by exact rfl); intro W hF hS; have hcS := hS.1.cells.1; have hfS := hS.1.cells.2; go_simp; (go_at_call 41; refine (K5.out _).mono ?_; rintro e w110 ⟨hb_w110, v110, rfl, hv110⟩; refine XPost.mk _ (fun W => IsC W v110 (y2)) hb_w110 (hv110) (IsC.cl _ _) ?_); clear hb_w110 hcS hfS hS hF
  intro K hK; go_simp; (try go_bits); refine hK _ ?_; clear hK K
  obtain ⟨s110, A110, n110, c110, rfl⟩ := IsC.val hv110
  clear hv110
  apply wpQ_call (i := 8) (by with_reducible (refine List.getElem?_toArray.trans ?_; (repeat (first | exact List.getElem?_cons_zero | refine List.getElem?_cons_succ.trans ?_)))) (by kernel_rfl) (by exact rfl); intro W hF hS; have hcS := hS.1.cells.1; have hfS := hS.1.cells.2; go_simp; (go_at_call 40; refine (K6.out _ _ _ ((RAt.pd (H102.out.below hS.1.2)).zl LD.out) (hF.zl LK2.out)).mono ?_; rintro e w111 ⟨hb_w111, v111, rfl, hv111⟩; refine XPost.mk _ (fun W => IsC W v111 (M2)) hb_w111 (hv111) (IsC.cl _ _) ?_); clear hb_w111 hcS hfS hS hF
  intro K hK; go_simp; (try go_bits); refine hK _ ?_; clear hK K
  obtain ⟨s111, A111, n111, c111, rfl⟩ := IsC.val hv111
  clear hv111
  apply wpQ_call (i := 9) (by with_reducible (refine List.getElem?_toArray.trans ?_; (repeat (first | exact List.getElem?_cons_zero | refine List.getElem?_cons_succ.trans ?_)))) (by kernel_rfl) (by exact rfl); intro W hF hS; have hcS := hS.1.cells.1; have hfS := hS.1.cells.2; go_simp; (go_at_call 39; refine (K7.out _ _ _ ((RAt.py (H102.out.below hS.1.2)).zl LY.out) (hF.2.zl LM2.out)).mono ?_; rintro e w112 ⟨hb_w112, v112, rfl, hv112⟩; refine XPost.mk _ (fun W => IsC W v112 (S2)) hb_w112 (hv112) (IsC.cl _ _) ?_); clear hb_w112 hcS hfS hS hF
  intro K hK; go_simp; (try go_bits); refine hK _ ?_; clear hK K
  obtain ⟨s112, A112, n112, c112, rfl⟩ := IsC.val hv112
  clear hv112
  refine wpQI_start [10] ?_; (iterate 1 (first | (refine wpQI_off (by with_reducible (refine List.getElem?_toArray.trans ?_; (repeat (first | exact List.getElem?_cons_zero | refine List.getElem?_cons_succ.trans ?_)))) (by kernel_rfl) (by exact rfl) (fun K hK => ?_); go_simp; refine hK _ ?_; clear hK K) | ((first | apply wpQI_step (by with_reducible (refine List.getElem?_toArray.trans ?_; (repeat (first | exact List.getElem?_cons_zero | refine List.getElem?_cons_succ.trans ?_)))) (by kernel_rfl) (by exact rfl) | apply wpQI_on (by with_reducible (refine List.getElem?_toArray.trans ?_; (repeat (first | exact List.getElem?_cons_zero | refine List.getElem?_cons_succ.trans ?_)))) (by kernel_rfl) (by exact rfl)); (focus (intro W' hS; have hcS := hS.cells.1; have hfS := hS.cells.2; go_simp; (first | done | exact rfl | exact ⟨rfl, Below.refl _ _⟩ | (go_simp; first | done | exact rfl | exact ⟨rfl, Below.refl _ _⟩)))); intro K hK; go_simp; (try go_bits); refine hK _ ?_; clear hK K))); refine wpQI_nil ?_
  refine wpQ_done (by kernel_rfl) ?_
  intro w113 hF_w113 hSG
  have hz_w113 := hSG.1.1
  have hb_w113 := hSG.1.2
  clear hSG
  (with_reducible apply cel10 (b := w.heap.size) hb_w113); (focus ((try simp) <;> omega)); (focus omega); (focus (go_simp; try exact rfl)); (focus (go_simp; try exact rfl)); (focus (go_simp; try exact rfl)); (focus (go_simp; try exact rfl)); (focus (go_simp; try exact rfl)); (focus (go_simp; try exact rfl)); (focus (go_simp; try exact rfl)); (focus (go_simp; try exact rfl)); (focus (go_simp; try exact rfl)); (focus (go_simp; try exact rfl)); (focus (intro o; go_simp)); intro c_w113_0_0 c_w113_0_1 c_w113_0_2 c_w113_0_3 c_w113_0_4 c_w113_0_5 c_w113_0_6 c_w113_0_7 c_w113_0_8 c_w113_0_9 fz_w113_0 hl_w113_0; (with_reducible apply cel6 (b := w.heap.size + 1) hb_w113); (focus ((try simp) <;> omega)); (focus omega); (focus (go_simp; try exact rfl)); (focus (go_simp; try exact rfl)); (focus (go_simp; try exact rfl)); (focus (go_simp; try exact rfl)); (focus (go_simp; try exact rfl)); (focus (go_simp; try exact rfl)); (focus (intro o; go_simp)); intro c_w113_1_0 c_w113_1_1 c_w113_1_2 c_w113_1_3 c_w113_1_4 c_w113_1_5 fz_w113_1 hl_w113_1; (with_reducible apply cel6 (b := g_r8_14) hb_w113); (focus ((try simp) <;> omega)); (focus omega); (focus (go_simp; try exact rfl)); (focus (go_simp; try exact rfl)); (focus (go_simp; try exact rfl)); (focus (go_simp; try exact rfl)); (focus (go_simp; try exact rfl)); (focus (go_simp; try exact rfl)); (focus (intro o; go_simp)); intro c_w113_2_0 c_w113_2_1 c_w113_2_2 c_w113_2_3 c_w113_2_4 c_w113_2_5 fz_w113_2 hl_w113_2
  (try simp only [List.filterMap_cons, List.filterMap_nil, List.getElem?_cons_succ, List.getElem?_cons_zero])
  replace H102 := Lib.hid (H102.out.below hb_w113)
  replace H107 := Lib.hid (H107.out.below hb_w113)
  have H110 := Lib.hid (show IsC w113 (.agg #[.bool s110, .slice A110 n110 c110]) (y2) from hF_w113.1.1)
  have H111 := Lib.hid (show IsC w113 (.agg #[.bool s111, .slice A111 n111 c111]) (M2) from hF_w113.1.2)
  have H112 := Lib.hid (show IsC w113 (.agg #[.bool s112, .slice A112 n112 c112]) (S2) from hF_w113.2)
  have HB113 := Lib.hid (HB109.out.trans (hb_w113.mono (by have := HB109.out.size; omega)))
  have hz113 : w.heap.size + 1 + 1 ≤ w113.heap.size := by omega
  clear hF_w113 hb_w113
  clear c_w109_0_0 c_w109_0_1 c_w109_0_2 c_w109_0_3 c_w109_0_4 c_w109_0_5 c_w109_0_6 c_w109_0_7 c_w109_0_8 c_w109_0_9 fz_w109_0 hl_w109_0 c_w109_1_0 c_w109_1_1 c_w109_1_2 c_w109_1_3 c_w109_1_4 c_w109_1_5 fz_w109_1 hl_w109_1 c_w109_2_0 c_w109_2_1 c_w109_2_2 c_w109_2_3 c_w109_2_4 c_w109_2_5 fz_w109_2 hl_w109_2
  go_wp2_with fail
  refine HQ_.out _ _ _ ?_
  clear HQ_ Q_
  go_wp2_with fail
  -- own blocks: w.heap.size + 1:6
  refine bodyPost_ret (v := .agg #[.bool s107, .slice A107 n107 c107, .bool s112, .slice A112 n112 c112, .bool s102d, .slice A102d n102d c102d]) (by simp only [results, Try.results25]; go_simp) rfl ⟨?_, ?_⟩
  · have hB := HB113.out; ((with_reducible (repeat (first | exact bR _ _ | refine bS ?_ ?_ _ | refine bA ?_ ?_ _ | refine bD ?_ | refine bT ?_ (by assumption) ?_ | refine bO (by assumption) ?_ ?_))) <;> (first | omega | (simp; done) | (simp <;> omega)))
  · exact ⟨_, rfl, ⟨_, _, _, _, _, _, _, _, _, _, _, _, rfl, (by ((repeat (first | (with_reducible exact H107.out) | (with_reducible refine IsC.al ?_ _) | (with_reducible apply IsC.st1))) <;> (first | (with_reducible assumption) | (intro _ e; cases e; done) | (go_simp; first | done | exact rfl)))), (by ((repeat (first | (with_reducible exact H112.out) | (with_reducible refine IsC.al ?_ _) | (with_reducible apply IsC.st1))) <;> (first | (with_reducible assumption) | (intro _ e; cases e; done) | (go_simp; first | done | exact rfl)))), (RAt.pd (by ((repeat (first | (with_reducible exact H102.out) | (with_reducible refine RAt.al ?_ _) | (with_reducible apply RAt.st1))) <;> (first | (with_reducible assumption) | (intro _ e; cases e; done) | (go_simp; first | done | exact rfl)))))⟩⟩
set_option maxRecDepth 100000 in
set_option maxHeartbeats 20000000 in
theorem alone_o (a b n1 n2 x1 x2 y1 y2 e f p1 p2 k : Int) (g o n c : Nat) (w : World)
    (hg : g < w.heap.size) (i1 : 0 ≤ k) (i2 : k < (n : Int)) (c0 : w.cell? ⟨g, o + k.toNat * 2, none⟩ = some (.int .i64 p1)) (c1 : w.cell? ⟨g, o + k.toNat * 2 + 1, none⟩ = some (.int .i64 p2)) (hp1 : -1048576 ≤ p1 ∧ p1 ≤ 1048576) (hp2 : -1048576 ≤ p2 ∧ p2 ≤ 1048576) (h1 : ¬ k = a) (h2 : b = -1 ∨ ¬ k = b) :
    Calls Try.prog 25 #[.agg #[.int .i64 a, .int .i64 b, .int .i64 n1, .int .i64 n2, .int .i64 x1, .int .i64 x2, .int .i64 y1, .int .i64 y2, .int .i64 e, .int .i64 f], .slice (some ⟨g, o, none⟩) n c, .int .i64 k] w (TOut (p1, p2, 1) w) := by
  obtain ⟨U, hU⟩ : ∃ U : Int, U = 1 := ⟨_, rfl⟩
  have k1 := fun w => wof_any p1 w (by omega) (by omega)
  have k2 := fun w => wof_any p2 w (by omega) (by omega)
  have k3 := fun w => ((by have := wof_any 1 w (by omega) (by omega); rw [hU]; exact this) : Calls Try.prog 41 #[.int .i64 1] w (ZOut U w))
  unfold TOut
  simp only
  rw [← hU]
  have K1 := Lib.hid k1
  have K2 := Lib.hid k2
  have K3 := Lib.hid k3
  have hka : (k == a) = false := by rw [beq_eq_false_iff_ne]; exact h1
  clear k1 k2 k3 hU hp1 hp2
  have hcase : (b = -1) ∨ (¬ b = -1 ∧ ¬ k = b) := by omega
  clear h2
  rcases hcase with rfl | ⟨hb1, hb2⟩
  case' inr =>
    have hb0 : (b != -1) = true := by rw [bne_iff_ne]; exact hb1
    have hkb : (k == b) = false := by rw [beq_eq_false_iff_ne]; exact hb2
  all_goals
    -- names on
    go_enter Try.func25, Try.ntmps25; (try simp only [List.append_eq, List.cons_append, List.nil_append])
    go_wp2_with fail
    -- own blocks: w.heap.size + 1:6
    (refine pin_wp (N := _) (Nat.le_refl _) (fun w101 hb_w101 hz_w101 => ?_); (try simp at hz_w101); (with_reducible apply cel6 (b := w.heap.size + 1) hb_w101); (focus ((try simp) <;> omega)); (focus omega); (focus (go_simp; try exact rfl)); (focus (go_simp; try exact rfl)); (focus (go_simp; try exact rfl)); (focus (go_simp; try exact rfl)); (focus (go_simp; try exact rfl)); (focus (go_simp; try exact rfl)); (focus (intro o; go_simp)); intro c_w101_0_0 c_w101_0_1 c_w101_0_2 c_w101_0_3 c_w101_0_4 c_w101_0_5 fz_w101_0 hl_w101_0); refine wp_q (fun Q_ HQ_ => ?_); refine wp_region_floatQ w101.heap.size 14 [14] (Nat.le_refl _) (fun _ => True) trivial Cl.tt (by kernel_rfl) (by kernel_rfl) ?_
    have HB101 := Lib.hid (show Below w.heap.size w w101 by ((with_reducible (repeat (first | exact bR _ _ | refine bS ?_ ?_ _ | refine bA ?_ ?_ _ | refine bD ?_ | refine bT ?_ (by assumption) ?_ | refine bO (by assumption) ?_ ?_))) <;> (first | omega | (simp; done) | (simp <;> omega))))
    have hz101 : w.heap.size + 1 + 1 ≤ w101.heap.size := by omega
    clear hb_w101
    skip
    have c0_w101 := (HB101.out.cell (p := ⟨g, o + k.toNat * 2, none⟩) hg).trans c0
    have c1_w101 := (HB101.out.cell (p := ⟨g, o + k.toNat * 2 + 1, none⟩) hg).trans c1
    have hg_w101 : g < w101.heap.size := by have := HB101.out.size; omega
    refine wpQI_start [0, 1, 2, 3, 4] ?_; (iterate 5 (first | (refine wpQI_off (by with_reducible (refine List.getElem?_toArray.trans ?_; (repeat (first | exact List.getElem?_cons_zero | refine List.getElem?_cons_succ.trans ?_)))) (by kernel_rfl) (by exact rfl) (fun K hK => ?_); go_simp; refine hK _ ?_; clear hK K) | ((first | apply wpQI_step (by with_reducible (refine List.getElem?_toArray.trans ?_; (repeat (first | exact List.getElem?_cons_zero | refine List.getElem?_cons_succ.trans ?_)))) (by kernel_rfl) (by exact rfl) | apply wpQI_on (by with_reducible (refine List.getElem?_toArray.trans ?_; (repeat (first | exact List.getElem?_cons_zero | refine List.getElem?_cons_succ.trans ?_)))) (by kernel_rfl) (by exact rfl)); (focus (intro W' hS; have hcS := hS.cells.1; have hfS := hS.cells.2; go_simp; (first | done | exact rfl | exact ⟨rfl, Below.refl _ _⟩ | (go_simp; first | done | exact rfl | exact ⟨rfl, Below.refl _ _⟩)))); intro K hK; go_simp; (try go_bits); refine hK _ ?_; clear hK K))); refine wpQI_nil ?_
    refine wpQI_start [6, 7, 8, 9, 10] ?_; (iterate 5 (first | (refine wpQI_off (by with_reducible (refine List.getElem?_toArray.trans ?_; (repeat (first | exact List.getElem?_cons_zero | refine List.getElem?_cons_succ.trans ?_)))) (by kernel_rfl) (by exact rfl) (fun K hK => ?_); go_simp; refine hK _ ?_; clear hK K) | ((first | apply wpQI_step (by with_reducible (refine List.getElem?_toArray.trans ?_; (repeat (first | exact List.getElem?_cons_zero | refine List.getElem?_cons_succ.trans ?_)))) (by kernel_rfl) (by exact rfl) | apply wpQI_on (by with_reducible (refine List.getElem?_toArray.trans ?_; (repeat (first | exact List.getElem?_cons_zero | refine List.getElem?_cons_succ.trans ?_)))) (by kernel_rfl) (by exact rfl)); (focus (intro W' hS; have hcS := hS.cells.1; have hfS := hS.cells.2; go_simp; (first | done | exact rfl | exact ⟨rfl, Below.refl _ _⟩ | (go_simp; first | done | exact rfl | exact ⟨rfl, Below.refl _ _⟩)))); intro K hK; go_simp; (try go_bits); refine hK _ ?_; clear hK K))); refine wpQI_nil ?_
    apply wpQ_call (i := 5) (by with_reducible (refine List.getElem?_toArray.trans ?_; (repeat (first | exact List.getElem?_cons_zero | refine List.getElem?_cons_succ.trans ?_)))) (by kernel_rfl) (by exact rfl); intro W hF hS; have hcS := hS.1.cells.1; have hfS := hS.1.cells.2; go_simp; (go_at_call 41; refine (K1.out _).mono ?_; rintro e w102 ⟨hb_w102, v102, rfl, hv102⟩; refine XPost.mk _ (fun W => IsC W v102 (p1)) hb_w102 (hv102) (IsC.cl _ _) ?_); clear hb_w102 hcS hfS hS hF
    intro K hK; go_simp; (try go_bits); refine hK _ ?_; clear hK K
    obtain ⟨s102, A102, n102, c102, rfl⟩ := IsC.val hv102
    clear hv102
    apply wpQ_call (i := 11) (by with_reducible (refine List.getElem?_toArray.trans ?_; (repeat (first | exact List.getElem?_cons_zero | refine List.getElem?_cons_succ.trans ?_)))) (by kernel_rfl) (by exact rfl); intro W hF hS; have hcS := hS.1.cells.1; have hfS := hS.1.cells.2; go_simp; (go_at_call 41; refine (K2.out _).mono ?_; rintro e w103 ⟨hb_w103, v103, rfl, hv103⟩; refine XPost.mk _ (fun W => IsC W v103 (p2)) hb_w103 (hv103) (IsC.cl _ _) ?_); clear hb_w103 hcS hfS hS hF
    intro K hK; go_simp; (try go_bits); refine hK _ ?_; clear hK K
    obtain ⟨s103, A103, n103, c103, rfl⟩ := IsC.val hv103
    clear hv103
    apply wpQ_call (i := 12) (by with_reducible (refine List.getElem?_toArray.trans ?_; (repeat (first | exact List.getElem?_cons_zero | refine List.getElem?_cons_succ.trans ?_)))) (by kernel_rfl) (by exact rfl); intro W hF hS; have hcS := hS.1.cells.1; have hfS := hS.1.cells.2; go_simp; (go_at_call 41; refine (K3.out _).mono ?_; rintro e w104 ⟨hb_w104, v104, rfl, hv104⟩; refine XPost.mk _ (fun W => IsC W v104 (U)) hb_w104 (hv104) (IsC.cl _ _) ?_); clear hb_w104 hcS hfS hS hF
    intro K hK; go_simp; (try go_bits); refine hK _ ?_; clear hK K
    obtain ⟨s104, A104, n104, c104, rfl⟩ := IsC.val hv104
    clear hv104
    refine wpQI_start [13] ?_; (iterate 1 (first | (refine wpQI_off (by with_reducible (refine List.getElem?_toArray.trans ?_; (repeat (first | exact List.getElem?_cons_zero | refine List.getElem?_cons_succ.trans ?_)))) (by kernel_rfl) (by exact rfl) (fun K hK => ?_); go_simp; refine hK _ ?_; clear hK K) | ((first | apply wpQI_step (by with_reducible (refine List.getElem?_toArray.trans ?_; (repeat (first | exact List.getElem?_cons_zero | refine List.getElem?_cons_succ.trans ?_)))) (by kernel_rfl) (by exact rfl) | apply wpQI_on (by with_reducible (refine List.getElem?_toArray.trans ?_; (repeat (first | exact List.getElem?_cons_zero | refine List.getElem?_cons_succ.trans ?_)))) (by kernel_rfl) (by exact rfl)); (focus (intro W' hS; have hcS := hS.cells.1; have hfS := hS.cells.2; go_simp; (first | done | exact rfl | exact ⟨rfl, Below.refl _ _⟩ | (go_simp; first | done | exact rfl | exact ⟨rfl, Below.refl _ _⟩)))); intro K hK; go_simp; (try go_bits); refine hK _ ?_; clear hK K))); refine wpQI_nil ?_
    refine wpQ_done (by kernel_rfl) ?_
    intro w105 hF_w105 hSG
    have hz_w105 := hSG.1.1
    have hb_w105 := hSG.1.2
    clear hSG
    (with_reducible apply cel6 (b := w.heap.size + 1) hb_w105); (focus ((try simp) <;> omega)); (focus omega); (focus (go_simp; try exact rfl)); (focus (go_simp; try exact rfl)); (focus (go_simp; try exact rfl)); (focus (go_simp; try exact rfl)); (focus (go_simp; try exact rfl)); (focus (go_simp; try exact rfl)); (focus (intro o; go_simp)); intro c_w105_0_0 c_w105_0_1 c_w105_0_2 c_w105_0_3 c_w105_0_4 c_w105_0_5 fz_w105_0 hl_w105_0
    (try simp only [List.filterMap_cons, List.filterMap_nil, List.getElem?_cons_succ, List.getElem?_cons_zero])
    have H102 := Lib.hid (show IsC w105 (.agg #[.bool s102, .slice A102 n102 c102]) (p1) from hF_w105.1.1)
    have H103 := Lib.hid (show IsC w105 (.agg #[.bool s103, .slice A103 n103 c103]) (p2) from hF_w105.1.2)
    have H104 := Lib.hid (show IsC w105 (.agg #[.bool s104, .slice A104 n104 c104]) (U) from hF_w105.2)
    have HB105 := Lib.hid (HB101.out.trans (hb_w105.mono (by have := HB101.out.size; omega)))
    have hz105 : w.heap.size + 1 + 1 ≤ w105.heap.size := by omega
    clear hF_w105 hb_w105
    clear c_w101_0_0 c_w101_0_1 c_w101_0_2 c_w101_0_3 c_w101_0_4 c_w101_0_5 fz_w101_0 hl_w101_0
    go_wp2_with fail
    refine HQ_.out _ _ _ ?_
    clear HQ_ Q_
    go_wp2_with fail
    -- own blocks: w.heap.size + 1:6
    refine bodyPost_ret (v := .agg #[.bool s102, .slice A102 n102 c102, .bool s103, .slice A103 n103 c103, .bool s104, .slice A104 n104 c104]) (by simp only [results, Try.results25]; go_simp) rfl ⟨?_, ?_⟩
    · have hB := HB105.out; ((with_reducible (repeat (first | exact bR _ _ | refine bS ?_ ?_ _ | refine bA ?_ ?_ _ | refine bD ?_ | refine bT ?_ (by assumption) ?_ | refine bO (by assumption) ?_ ?_))) <;> (first | omega | (simp; done) | (simp <;> omega)))
    · exact ⟨_, rfl, ⟨_, _, _, _, _, _, _, _, _, _, _, _, rfl, (by ((repeat (first | (with_reducible exact H102.out) | (with_reducible refine IsC.al ?_ _) | (with_reducible apply IsC.st1))) <;> (first | (with_reducible assumption) | (intro _ e; cases e; done) | (go_simp; first | done | exact rfl)))), (by ((repeat (first | (with_reducible exact H103.out) | (with_reducible refine IsC.al ?_ _) | (with_reducible apply IsC.st1))) <;> (first | (with_reducible assumption) | (intro _ e; cases e; done) | (go_simp; first | done | exact rfl)))), (by ((repeat (first | (with_reducible exact H104.out) | (with_reducible refine IsC.al ?_ _) | (with_reducible apply IsC.st1))) <;> (first | (with_reducible assumption) | (intro _ e; cases e; done) | (go_simp; first | done | exact rfl))))⟩⟩
end Go.Proofs.Ytgejdaincnclpaa
namespace Go.Proofs.Ytgejdaincnclpaa
open Go Go.RowKit
set_option linter.unusedVariables false
/-- Both components are at most B. -/
def Bnd (B : Int) (r : Int × Int × Int) : Prop := (-(B * r.2.2) ≤ r.1 ∧ r.1 ≤ B * r.2.2) ∧ -(B * r.2.2) ≤ r.2.1 ∧ r.2.1 ≤ B * r.2.2
theorem Bnd.up {B C : Int} {r : Int × Int × Int} (h : Bnd B r) (hd : 0 ≤ r.2.2) (hBC : B ≤ C) : Bnd C r := by
  have := Int.mul_le_mul_of_nonneg_right hBC hd
  obtain ⟨⟨a, b⟩, c, d⟩ := h
  exact ⟨⟨by omega, by omega⟩, by omega, by omega⟩
theorem leq_bd {r : Int × Int × Int} {n B : Int} (h : Leq r n) (hd : 0 ≤ r.2.2) (hB : 0 ≤ B) (hn : n ≤ B * B) : Bnd B r := by
  unfold Leq at h
  have h1 := Int.mul_le_mul_of_nonneg_left hn (sq_nn r.2.2)
  have e : r.2.2 * r.2.2 * (B * B) = B * r.2.2 * (B * r.2.2) := by grind
  rw [e] at h1
  have h0 : 0 ≤ B * r.2.2 := Int.mul_nonneg hB hd
  have a := sq_nn r.1
  have b := sq_nn r.2.1
  exact ⟨sq_le h0 (by omega), sq_le h0 (by omega)⟩
structure PermM (m : Mt) (n : Int) : Prop where
  a0 : 0 ≤ m.a
  a1 : m.a < n
  b0 : -1 ≤ m.b
  b1 : m.b < n
  ab : ¬ m.a = m.b
  z : m.b = -1 ∨ (m.w1 = 0 ∧ m.w2 = 0 ∧ m.k1 = 0 ∧ m.k2 = 0)
  nn : withinB m.n1 m.n2 2097152 = true
  w : withinB m.w1 m.w2 1048576 = true
  k : withinB m.k1 m.k2 1048576 = true
  e : sixB m.e = true
  g : sixB m.g = true
theorem permM_iff {m : Mt} {n : Int} : permM m n = true ↔ PermM m n := by
  unfold permM
  simp only [Bool.and_eq_true, Bool.or_eq_true, decide_eq_true_eq]
  constructor
  · rintro ⟨⟨⟨a, b, c, d, e⟩, f⟩, ⟨g, h, i⟩, j, k⟩
    exact ⟨a, b, c, d, e, f, g, h, i, j, k⟩
  · rintro ⟨a, b, c, d, e, f, g, h, i, j, k⟩
    exact ⟨⟨⟨a, b, c, d, e⟩, f⟩, ⟨g, h, i⟩, j, k⟩
theorem near_get {v : List V2} {B : Int} (hv : v.all (nearB B) = true) {k : Int} (h0 : 0 ≤ k) (h1 : k < v.length) : withinB (v.getD k.toNat (0, 0)).1 (v.getD k.toNat (0, 0)).2 B = true := by
  have : (v.getD k.toNat (0, 0)) = v[k.toNat]'(by omega) := by rw [List.getD_eq_getElem?_getD, List.getElem?_eq_getElem (by omega)]; rfl
  rw [this]
  exact List.all_eq_true.1 hv _ (List.getElem_mem _)
theorem permB_of {a b c d n1 n2 : Int} (h1 : withinB a b 1048576 = true) (h2 : withinB c d 1048576 = true) (h3 : withinB n1 n2 2097152 = true) : permB a b c d n1 n2 = true := by unfold permB; rw [h1, h2, h3]; rfl
theorem alone_any (m : Mt) (v : List V2) (A : Option Addr) (c : Nat) (k : Int) (w : World) (hV : VAt w A v) (hp : PermM m v.length) (hv : v.all (nearB 1048576) = true) (h0 : 0 ≤ k) (h1 : k < v.length) :
    Calls Try.prog 25 #[m.v, .slice A v.length c, .int .i64 k] w (TOut (aloneR m v k) w) := by
  obtain ⟨g, o, hA, hg, c0, c1⟩ := vat_cell hV hp.a0 hp.a1
  obtain ⟨g3, o3, hA3, _, f0, f1⟩ := vat_cell hV h0 h1
  obtain rfl := hA
  simp only [Option.some.injEq, Addr.mk.injEq, and_true] at hA3
  obtain ⟨rfl, rfl⟩ := hA3
  unfold aloneR
  by_cases hb : m.b = -1
  · rw [if_neg (fun h => h.1 hb), if_neg (fun h => h.1 hb)]
    by_cases hk : k = m.a
    · rw [if_pos hk]
      subst hk
      obtain ⟨a, b, n1, n2, x1, x2, y1, y2, e, f⟩ := m
      simp only at hb
      subst hb
      have hy := within_bd2 hp.k
      simp only at hy
      exact alone_s a n1 n2 x1 x2 y1 y2 e f _ _ g o v.length c w hg hp.a0 hp.a1 c0 c1 ⟨hy.1, hy.2.1⟩ hy.2.2
    · rw [if_neg hk]
      have hw := within_bd2 (near_get hv h0 h1)
      exact alone_o m.a m.b m.n1 m.n2 m.w1 m.w2 m.k1 m.k2 m.e m.g _ _ k g o v.length c w hg h0 h1 f0 f1 ⟨hw.1, hw.2.1⟩ hw.2.2 hk (.inl hb)
  · have hb0 : 0 ≤ m.b := by have := hp.b0; omega
    obtain ⟨g2, o2, hA2, _, d0, d1⟩ := vat_cell hV hb0 hp.b1
    simp only [Option.some.injEq, Addr.mk.injEq, and_true] at hA2
    obtain ⟨rfl, rfl⟩ := hA2
    by_cases hk : k = m.a
    · rw [if_pos ⟨hb, hk⟩]
      subst hk
      exact alone_a m.a m.b m.n1 m.n2 m.w1 m.w2 m.k1 m.k2 m.e m.g _ _ _ _ g o v.length c w hg hp.a0 hp.a1 c0 c1 hb0 hp.b1 d0 d1
    · rw [if_neg (fun h => hk h.2)]
      by_cases hk2 : k = m.b
      · rw [if_pos ⟨hb, hk2⟩]
        subst hk2
        exact alone_b m.a m.b m.n1 m.n2 m.w1 m.w2 m.k1 m.k2 m.e m.g _ _ _ _ g o v.length c w hg hp.a0 hp.a1 c0 c1 hb0 hp.b1 d0 d1 (fun h => hp.ab h.symm)
      · rw [if_neg (fun h => hk2 h.2), if_neg hk]
        have hw := within_bd2 (near_get hv h0 h1)
        exact alone_o m.a m.b m.n1 m.n2 m.w1 m.w2 m.k1 m.k2 m.e m.g _ _ k g o v.length c w hg h0 h1 f0 f1 ⟨hw.1, hw.2.1⟩ hw.2.2 hk (.inr hk2)
theorem pair_bds {v1 v2 w1 w2 n1 n2 e : Int} (hp : permB v1 v2 w1 w2 n1 n2 = true) (he : sixB e = true) : Bnd 8388608 (pairR v1 v2 w1 w2 n1 n2 e).1 ∧ Bnd 8388608 (pairR v1 v2 w1 w2 n1 n2 e).2 := by
  have h := pair_leq hp he
  obtain ⟨d1, d2⟩ := (pair_lens v1 v2 w1 w2 n1 n2 e).2 hp he
  obtain ⟨⟨v11, v12, v21, v22⟩, ⟨w11, w12, w21, w22⟩, _⟩ := perm_bd hp
  have B1 := (mulB v1 v1 1048576 1048576 ⟨v11, v12⟩ ⟨v11, v12⟩).2
  have B2 := (mulB v2 v2 1048576 1048576 ⟨v21, v22⟩ ⟨v21, v22⟩).2
  have B3 := (mulB w1 w1 1048576 1048576 ⟨w11, w12⟩ ⟨w11, w12⟩).2
  have B4 := (mulB w2 w2 1048576 1048576 ⟨w21, w22⟩ ⟨w21, w22⟩).2
  generalize pairR v1 v2 w1 w2 n1 n2 e = P at *
  obtain ⟨⟨x, y, d⟩, x', y', d'⟩ := P
  simp only at *
  generalize hN : v1 * v1 + v2 * v2 + (w1 * w1 + w2 * w2) = N at *
  have q1 := Int.mul_nonneg (Int.add_nonneg (sq_nn x) (sq_nn y)) (sq_nn d')
  have q2 := Int.mul_nonneg (Int.add_nonneg (sq_nn x') (sq_nn y')) (sq_nn d)
  have s1 : Leq (x, y, d) N := by
    unfold Leq
    simp only
    have : d' * d' * (x * x + y * y) ≤ d' * d' * (d * d * N) := by
      have e1 : d' * d' * (x * x + y * y) = (x * x + y * y) * (d' * d') := by grind
      have e2 : d' * d' * (d * d * N) = d * d * (d' * d') * N := by grind
      rw [e1, e2]; omega
    exact Int.le_of_mul_le_mul_left this (Int.mul_pos d2 d2)
  have s2 : Leq (x', y', d') N := by
    unfold Leq
    simp only
    have : d * d * (x' * x' + y' * y') ≤ d * d * (d' * d' * N) := by
      have e1 : d * d * (x' * x' + y' * y') = (x' * x' + y' * y') * (d * d) := by grind
      have e2 : d * d * (d' * d' * N) = d * d * (d' * d') * N := by grind
      rw [e1, e2]; omega
    exact Int.le_of_mul_le_mul_left this (Int.mul_pos d1 d1)
  exact ⟨leq_bd s1 (Int.le_of_lt d1) (by omega) (by omega), leq_bd s2 (Int.le_of_lt d2) (by omega) (by omega)⟩
theorem stat_bds {v1 v2 w1 w2 n1 n2 e g : Int} (hp : permB v1 v2 w1 w2 n1 n2 = true) (he : sixB e = true) (hg : sixB g = true) : Bnd 5242880 (statR v1 v2 w1 w2 n1 n2 e g) := by
  have h := stat_rel hp he hg
  have d1 := (stat_lens v1 v2 w1 w2 n1 n2 e g).2 hp he hg
  obtain ⟨⟨v11, v12, v21, v22⟩, ⟨w11, w12, w21, w22⟩, _⟩ := perm_bd hp
  have B1 := (mulB (v1 - w1) (v1 - w1) 2097152 2097152 ⟨by omega, by omega⟩ ⟨by omega, by omega⟩).2
  have B2 := (mulB (v2 - w2) (v2 - w2) 2097152 2097152 ⟨by omega, by omega⟩ ⟨by omega, by omega⟩).2
  generalize statR v1 v2 w1 w2 n1 n2 e g = P at *
  obtain ⟨x, y, d⟩ := P
  simp only at *
  unfold sumR at h
  simp only [Int.mul_one] at h
  obtain ⟨G, hG, e1, e2, e3, hd'⟩ := lowR_mul (x + -w1 * d) (y + -w2 * d) d d1
  have hb := leq_bd h (Int.le_of_lt hd') (B := 4194304) (by omega) (by omega)
  generalize lowR (x + -w1 * d) (y + -w2 * d) d = L at *
  obtain ⟨x', y', d'⟩ := L
  simp only at *
  obtain ⟨⟨b1, b2⟩, b3, b4⟩ := hb
  simp only at b1 b2 b3 b4
  have c1 := Int.mul_le_mul_of_nonneg_left b1 (Int.le_of_lt hG)
  have c2 := Int.mul_le_mul_of_nonneg_left b2 (Int.le_of_lt hG)
  have c3 := Int.mul_le_mul_of_nonneg_left b3 (Int.le_of_lt hG)
  have c4 := Int.mul_le_mul_of_nonneg_left b4 (Int.le_of_lt hG)
  have k1 : G * (4194304 * d') = 4194304 * d := by rw [e3]; grind
  rw [Int.mul_neg] at c1 c3
  rw [k1, ← e1] at c1 c2
  rw [k1, ← e2] at c3 c4
  have m1 := Int.mul_le_mul_of_nonneg_right w11 (Int.le_of_lt d1)
  have m2 := Int.mul_le_mul_of_nonneg_right w12 (Int.le_of_lt d1)
  have m3 := Int.mul_le_mul_of_nonneg_right w21 (Int.le_of_lt d1)
  have m4 := Int.mul_le_mul_of_nonneg_right w22 (Int.le_of_lt d1)
  rw [Int.neg_mul] at c1 c2 c3 c4
  unfold Bnd
  simp only
  generalize w1 * d = p at *
  generalize w2 * d = q at *
  omega
theorem alone_ok {m : Mt} {v : List V2} {k : Int} (hp : PermM m v.length) (hv : v.all (nearB 1048576) = true) (h0 : 0 ≤ k) (h1 : k < v.length) : Val (aloneR m v k) ∧ Bnd 8388608 (aloneR m v k) := by
  have na := near_get hv hp.a0 hp.a1
  have nk := near_get hv h0 h1
  unfold aloneR
  by_cases hb : m.b = -1
  · rw [if_neg (fun h => h.1 hb), if_neg (fun h => h.1 hb)]
    by_cases hk : k = m.a
    · rw [if_pos hk]
      have hpb := permB_of na hp.w hp.nn
      obtain ⟨hl, hd⟩ := stat_lens (v.getD m.a.toNat (0, 0)).1 (v.getD m.a.toNat (0, 0)).2 m.w1 m.w2 m.n1 m.n2 m.e m.g
      have hd := hd hpb hp.e hp.g
      obtain ⟨⟨b1, b2⟩, b3, b4⟩ := stat_bds hpb hp.e hp.g
      generalize statR (v.getD m.a.toNat (0, 0)).1 (v.getD m.a.toNat (0, 0)).2 m.w1 m.w2 m.n1 m.n2 m.e m.g = P at *
      obtain ⟨x, y, d⟩ := P
      obtain ⟨lx, ly, ld⟩ := hl
      obtain ⟨k11, k12, k21, k22⟩ := within_bd2 hp.k
      unfold kickS Bnd
      simp only at *
      refine ⟨⟨hd, ?_, ?_, by simp only; omega⟩, ?_⟩
      · exact len_up (len_add (len_up lx (show 10 ≤ 20 by omega)) (len_mul ld (len_wd (z := m.k1) (by omega) (by omega)))) (by omega)
      · exact len_up (len_add (len_up ly (show 10 ≤ 20 by omega)) (len_mul ld (len_wd (z := m.k2) (by omega) (by omega)))) (by omega)
      · have m1 := Int.mul_le_mul_of_nonneg_left k11 (Int.le_of_lt hd)
        have m2 := Int.mul_le_mul_of_nonneg_left k12 (Int.le_of_lt hd)
        have m3 := Int.mul_le_mul_of_nonneg_left k21 (Int.le_of_lt hd)
        have m4 := Int.mul_le_mul_of_nonneg_left k22 (Int.le_of_lt hd)
        generalize d * m.k1 = p at *
        generalize d * m.k2 = q at *
        omega
    · rw [if_neg hk]
      obtain ⟨p1, p2, p3, p4⟩ := within_bd2 nk
      exact ⟨(lens_vec ⟨p1, p2⟩ ⟨p3, p4⟩).val (by simp only; omega), by unfold Bnd; simp only; omega⟩
  · have hb0 : 0 ≤ m.b := by have := hp.b0; omega
    have nb := near_get hv hb0 hp.b1
    have hpb := permB_of na nb hp.nn
    obtain ⟨⟨l1, l2⟩, hd⟩ := pair_lens (v.getD m.a.toNat (0, 0)).1 (v.getD m.a.toNat (0, 0)).2 (v.getD m.b.toNat (0, 0)).1 (v.getD m.b.toNat (0, 0)).2 m.n1 m.n2 m.e
    obtain ⟨d1, d2⟩ := hd hpb hp.e
    obtain ⟨b1, b2⟩ := pair_bds hpb hp.e
    by_cases hk : k = m.a
    · rw [if_pos ⟨hb, hk⟩]
      exact ⟨l1.val d1, b1⟩
    · rw [if_neg (fun h => hk h.2)]
      by_cases hk2 : k = m.b
      · rw [if_pos ⟨hb, hk2⟩]
        exact ⟨l2.val d2, b2⟩
      · rw [if_neg (fun h => hk2 h.2), if_neg hk]
        obtain ⟨p1, p2, p3, p4⟩ := within_bd2 nk
        exact ⟨(lens_vec ⟨p1, p2⟩ ⟨p3, p4⟩).val (by simp only; omega), by unfold Bnd; simp only; omega⟩
theorem sumR_bnd {s r : Int × Int × Int} {K B : Int} (hs : 0 < s.2.2) (hr : 0 < r.2.2) (h : Bnd K s) (g : Bnd B r) : 0 < (sumR s r).2.2 ∧ Bnd (K + B) (sumR s r) := by
  obtain ⟨X, Y, D⟩ := s
  obtain ⟨x, y, d⟩ := r
  unfold sumR Bnd at *
  simp only at *
  obtain ⟨G, hG, e1, e2, e3, hd'⟩ := lowR_mul (X * d + x * D) (Y * d + y * D) (D * d) (Int.mul_pos hs hr)
  refine ⟨hd', ?_⟩
  generalize lowR (X * d + x * D) (Y * d + y * D) (D * d) = L at *
  obtain ⟨x', y', d'⟩ := L
  simp only at *
  obtain ⟨⟨a1, a2⟩, a3, a4⟩ := h
  obtain ⟨⟨b1, b2⟩, b3, b4⟩ := g
  have key : ∀ U u z : Int, -(K * D) ≤ U → U ≤ K * D → -(B * d) ≤ u → u ≤ B * d → U * d + u * D = G * z → -((K + B) * d') ≤ z ∧ z ≤ (K + B) * d' := fun U u z q1 q2 q3 q4 e => by
    have r1 := Int.mul_le_mul_of_nonneg_right q1 (Int.le_of_lt hr)
    have r2 := Int.mul_le_mul_of_nonneg_right q2 (Int.le_of_lt hr)
    have r3 := Int.mul_le_mul_of_nonneg_right q3 (Int.le_of_lt hs)
    have r4 := Int.mul_le_mul_of_nonneg_right q4 (Int.le_of_lt hs)
    have t : K * D * d + B * d * D = G * ((K + B) * d') := by
      have : G * ((K + B) * d') = (K + B) * (D * d) := by rw [e3]; grind
      rw [this]; grind
    rw [Int.neg_mul] at r1 r3
    constructor
    · refine Int.le_of_mul_le_mul_left (a := G) ?_ hG
      rw [Int.mul_neg, ← t, ← e]; omega
    · refine Int.le_of_mul_le_mul_left (a := G) ?_ hG
      rw [← t, ← e]; omega
  exact ⟨key X x x' a1 a2 b1 b2 e1, key Y y y' a3 a4 b3 b4 e2⟩
theorem meanS_bnd {l : List (Int × Int × Int)} {B : Int} (h : ∀ r ∈ l, 0 < r.2.2 ∧ Bnd B r) : 0 < (meanS l).2.2 ∧ Bnd (l.length * B) (meanS l) := by
  have key : ∀ (l : List (Int × Int × Int)) (s : Int × Int × Int) (K : Int), 0 < s.2.2 → Bnd K s → (∀ r ∈ l, 0 < r.2.2 ∧ Bnd B r) → 0 < (l.foldl sumR s).2.2 ∧ Bnd (K + l.length * B) (l.foldl sumR s) := by
    intro l
    induction l with
    | nil => intro s K h1 h2 _; exact ⟨h1, by simpa using h2⟩
    | cons r l ih =>
      intro s K h1 h2 h3
      obtain ⟨g1, g2⟩ := h3 r (by simp)
      obtain ⟨k1, k2⟩ := sumR_bnd h1 g1 h2 g2
      obtain ⟨j1, j2⟩ := ih (sumR s r) (K + B) k1 k2 (fun q hq => h3 q (List.mem_cons_of_mem _ hq))
      refine ⟨j1, ?_⟩
      have e : K + ((r :: l).length : Int) * B = K + B + (l.length : Int) * B := by rw [List.length_cons, Int.natCast_add, Int.add_mul]; omega
      rw [e]
      exact j2
  have := key l (0, 0, 1) 0 (by decide) (by unfold Bnd; simp) h
  simpa [meanS] using this
theorem tdiv_bds {x D B n : Int} (hD : 0 < D) (hn : 0 < n) (hB : 0 ≤ B) (h1 : -(n * B * D) ≤ x) (h2 : x ≤ n * B * D) : -B ≤ x.tdiv (D * n) ∧ x.tdiv (D * n) ≤ B := by
  have hp : 0 < D * n := Int.mul_pos hD hn
  have e : n * B * D = B * (D * n) := by grind
  rw [e] at h1 h2
  have e2 : (B * (D * n)).tdiv (D * n) = B := Int.mul_tdiv_cancel _ (by omega)
  have e3 : (-(B * (D * n))).tdiv (D * n) = -B := by rw [Int.neg_tdiv, e2]
  have m1 := Int.tdiv_le_tdiv (c := D * n) hp h1
  have m2 := Int.tdiv_le_tdiv (c := D * n) hp h2
  rw [e3] at m1
  rw [e2] at m2
  exact ⟨m1, m2⟩
theorem mean_within {l : List (Int × Int × Int)} (hl : 1 ≤ l.length) (h : ∀ r ∈ l, 0 < r.2.2 ∧ Bnd 8388608 r) : withinB (meanR l).1 (meanR l).2 8388608 = true := by
  obtain ⟨d, ⟨a1, a2⟩, a3, a4⟩ := meanS_bnd h
  unfold meanR
  simp only [withinB, decide_eq_true_eq]
  obtain ⟨p1, p2⟩ := tdiv_bds d (show (0 : Int) < (l.length : Int) by omega) (show (0 : Int) ≤ 8388608 by omega) a1 a2
  obtain ⟨p3, p4⟩ := tdiv_bds d (show (0 : Int) < (l.length : Int) by omega) (show (0 : Int) ≤ 8388608 by omega) a3 a4
  exact ⟨p1, p2, p3, p4⟩
end Go.Proofs.Ytgejdaincnclpaa
namespace Go.Proofs.Ytgejdaincnclpaa
open Go Go.RowKit
set_option linter.unusedVariables false
/-- An integer row of one's own. -/
def OwnI (w : World) (base : Nat) (A : Option Addr) (c : Nat) (l : List Int) : Prop := w.ownsRow base 3 1 (.slice A l.length c) l.length (l.map (Value.int .i64))
theorem OwnI.iat {w : World} {base : Nat} {A : Option Addr} {c : Nat} {l : List Int} (h : OwnI w base A c l) : IAt w A l := own_iat h
theorem OwnI.cl (base : Nat) (A : Option Addr) (c : Nat) (l : List Int) : Cl (fun w => OwnI w base A c l) := fun _ _ h hb => own_below h hb (Nat.le_refl _)
theorem OwnI.below {W W' : World} {base B : Nat} {A : Option Addr} {c : Nat} {l : List Int} (h : OwnI W base A c l) (hb : Below B W W') (hB : W.heap.size ≤ B) : OwnI W' base A c l := own_below h hb hB
theorem OwnI.nil (w : World) (base : Nat) : OwnI w base none 0 [] := World.ownsRow_nil _ _ _ _
theorem ownr_weaker {w : World} {base base' size n : Nat} {e : TypeId} {v : Value} {xs : List Value} (h : w.ownsRow base e size v n xs) (hb : base' ≤ base) : w.ownsRow base' e size v n xs := by
  obtain ⟨h1, h2⟩ := h
  rcases h2 with h2 | ⟨g, cap, cur, hv, hg, r⟩
  · exact ⟨h1, .inl h2⟩
  · exact ⟨h1, .inr ⟨g, cap, cur, hv, Nat.le_trans hb hg, r⟩⟩
theorem ownr_low {w : World} {base size n : Nat} {e : TypeId} {v : Value} {xs : List Value} (h : w.ownsRow base e size v n xs) {p : Addr} (hp : p.block < base) (u : Value) : (w.setCell p u).ownsRow base e size v n xs := by
  obtain ⟨h1, h2⟩ := h
  rcases h2 with h2 | ⟨g, cap, cur, hv, hg, hh, r⟩
  · exact ⟨h1, .inl h2⟩
  · refine ⟨h1, .inr ⟨g, cap, cur, hv, hg, ?_, r⟩⟩
    rw [Below.heap_setCell _ _ _ _ (by omega)]
    exact hh
theorem rowsApart {w : World} {b1 b2 z1 z2 n1 n2 : Nat} {e1 e2 : TypeId} {v1 v2 : Value} {x1 x2 : List Value} (h1 : w.ownsRow b1 e1 z1 v1 n1 x1) (h2 : w.ownsRow b2 e2 z2 v2 n2 x2) (hne : e1 ≠ e2) : v1.ownBlock = none ∨ v1.ownBlock ≠ v2.ownBlock := by
  rcases h1.2 with ⟨rfl, _⟩ | ⟨g, cap, cur, rfl, _, hh, _⟩
  · exact .inl rfl
  · right
    rcases h2.2 with ⟨rfl, _⟩ | ⟨g', cap', cur', rfl, _, hh', _⟩
    · simp [Value.ownBlock]
    · intro e
      simp only [Value.ownBlock, Option.some.injEq] at e
      subst e
      rw [hh] at hh'
      simp only [Option.some.injEq, Obj.cells.injEq] at hh'
      exact hne hh'.2.1
theorem arr_get {l : List Int} {j : Nat} (h : j < l.length) : (l.toArray)[j]! = l[j] := by
  rw [getElem!_pos l.toArray j (by simpa using h)]
  simp
theorem own_holds {w : World} {base c g : Nat} {l : List Int} (h : OwnI w base (some ⟨g, 0, none⟩) c l) : Sort.Holds (Value.int .i64) w g 0 l.toArray := by
  intro j hj
  have hj' : j < l.length := by simpa using hj
  refine ⟨?_, ?_⟩
  · rw [Nat.zero_add, World.ownsRow.cellAt h j (by omega), List.getElem?_map, List.getElem?_eq_getElem hj', arr_get hj']
    rfl
  · rw [Nat.zero_add]; exact World.ownsRow.frozenAt h j
theorem put_grown (w : World) (g q : Nat) (d : Array Int) (os : Array Obj) : w.grownBy (Sort.grow (Sort.putRow (Value.int .i64) (Sort.ahead w q) g 0 d) os) (some g) := by
  refine ⟨rfl, rfl, rfl, ?_, fun k hk hne => ?_⟩
  · rw [Sort.size_grow]
    show w.heap.size ≤ (w.heap.modify g _).size + _
    rw [Array.size_modify]
    omega
  · have hne' : g ≠ k := fun e => hne (by rw [e])
    rw [Sort.heap_grow_old _ _ (by show k < (w.heap.modify g _).size; rw [Array.size_modify]; exact hk)]
    show (w.heap.modify g _)[k]? = _
    rw [Array.getElem?_modify, if_neg hne']
theorem put_own {w : World} {base c g q : Nat} {l l' : List Int} {n : Nat} (h : OwnI w base (some ⟨g, 0, none⟩) c l) (d : List Int) (hd : d.length = l.length) (hn : n ≤ l.length) (hl : l' = d.take n) (os : Array Obj) (hnl : l'.length = n) :
    OwnI (Sort.grow (Sort.putRow (Value.int .i64) (Sort.ahead w q) g 0 d.toArray) os) base (some ⟨g, 0, none⟩) c l' := by
  have h0 := h
  rcases h.2 with ⟨h', _⟩ | ⟨g', cap, cur, h', hb, hg, hlc, hm, hs, htake⟩
  · simp at h'
  · simp only [Value.slice.injEq, Option.some.injEq, Addr.mk.injEq, and_true, true_and] at h'
    obtain ⟨rfl, rfl⟩ := h'
    have hgl : g < w.heap.size := (Array.getElem?_eq_some_iff.1 hg).1
    refine ⟨by simp, .inr ⟨g, c, Sort.putCells (Value.int .i64) 0 d.toArray cur, rfl, hb, ?_, by omega, hm, by simp [Sort.putCells, hs], ?_⟩⟩
    · rw [Sort.heap_grow_old _ _ (by show g < (w.heap.modify g _).size; rw [Array.size_modify]; exact hgl)]
      show (w.heap.modify g _)[g]? = _
      rw [Array.getElem?_modify, if_pos rfl, hg]
      rfl
    · apply List.ext_getElem?
      intro j
      rw [List.getElem?_take, List.getElem?_map]
      by_cases hj : j < l'.length
      · rw [if_pos (by omega), Array.getElem?_toList]
        have hjc : j < cur.size := by omega
        have hjd : j < d.length := by omega
        simp only [Sort.putCells, Array.getElem?_mapIdx, Array.getElem?_eq_getElem hjc, Option.map_some, List.size_toArray]
        rw [if_pos ⟨by omega, by omega⟩, Nat.sub_zero, arr_get hjd, hl, List.getElem?_take, if_pos (by omega), List.getElem?_eq_getElem hjd]
        rfl
      · rw [if_neg (by omega), List.getElem?_eq_none (by omega)]
        rfl
def sortI (l : List Int) : List Int := l.mergeSort fun x y => decide (x ≤ y)
theorem sortI_len (l : List Int) : (sortI l).length = l.length := List.length_mergeSort l
theorem sortI_mem (l : List Int) (x : Int) : x ∈ sortI l ↔ x ∈ l := List.mem_mergeSort
theorem sortI_le (l : List Int) : (sortI l).Pairwise (fun x y => x ≤ y) := by
  have := List.pairwise_mergeSort (le := fun x y : Int => decide (x ≤ y)) (fun a b c h1 h2 => by simp only [decide_eq_true_eq] at *; omega) (fun a b => by simp only [Bool.or_eq_true, decide_eq_true_eq]; omega) l
  simpa [sortI] using this
/-- The numbers of a list, ascending, each once. -/
def setI (l : List Int) : List Int := Lib.compact (sortI l)
theorem asc_unique : ∀ {l r : List Int}, l.Pairwise (fun x y => x < y) → r.Pairwise (fun x y => x < y) → (∀ x, x ∈ l ↔ x ∈ r) → l = r
  | [], [], _, _, _ => rfl
  | [], y :: r, _, _, h => absurd ((h y).2 (by simp)) (by simp)
  | x :: l, [], _, _, h => absurd ((h x).1 (by simp)) (by simp)
  | x :: l, y :: r, hl, hr, h => by
    rw [List.pairwise_cons] at hl hr
    have e : x = y := by
      rcases List.mem_cons.1 ((h x).1 (by simp)) with h1 | h1
      · exact h1
      · rcases List.mem_cons.1 ((h y).2 (by simp)) with h2 | h2
        · exact h2.symm
        · have := hr.1 x h1; have := hl.1 y h2; omega
    subst e
    congr 1
    refine asc_unique hl.2 hr.2 fun z => ?_
    constructor
    · intro hz
      rcases List.mem_cons.1 ((h z).1 (List.mem_cons_of_mem _ hz)) with h1 | h1
      · have := hl.1 z hz; omega
      · exact h1
    · intro hz
      rcases List.mem_cons.1 ((h z).2 (List.mem_cons_of_mem _ hz)) with h1 | h1
      · have := hr.1 z hz; omega
      · exact h1
theorem compact_asc {s : List Int} (hs : s.Pairwise (fun x y => x ≤ y)) : (Lib.compact s).Pairwise (fun x y => x < y) ∧ ∀ x, x ∈ Lib.compact s ↔ x ∈ s := by
  have le : ∀ i j, i ≤ j → j < s.length → s.toArray[i]! ≤ s.toArray[j]! := fun i j hij hj => by
    rw [arr_get (by omega), arr_get hj]
    rcases Nat.lt_or_eq_of_le hij with h | rfl
    · exact List.pairwise_iff_getElem.1 hs i j (by omega) hj h
    · omega
  constructor
  · unfold Lib.compact Lib.compactUpTo
    rw [List.pairwise_map]
    have h1 : ((List.range s.length).filter (Lib.keeps s.toArray)).Pairwise (fun a b => a < b) := List.pairwise_lt_range.filter _
    refine List.Pairwise.imp_of_mem ?_ h1
    intro a b ha hb hab
    rw [List.mem_filter, List.mem_range] at ha hb
    have hk := hb.2
    unfold Lib.keeps at hk
    rw [decide_eq_true_eq] at hk
    have hne : s.toArray[b]! ≠ s.toArray[b - 1]! := by
      rcases hk with h | h
      · omega
      · exact h
    have h2 := le a (b - 1) (by omega) (by omega)
    have h3 := le (b - 1) b (by omega) hb.1
    omega
  · intro x
    unfold Lib.compact Lib.compactUpTo
    rw [List.mem_map]
    constructor
    · rintro ⟨a, ha, rfl⟩
      rw [List.mem_filter, List.mem_range] at ha
      rw [arr_get ha.1]
      exact List.getElem_mem _
    · intro hx
      obtain ⟨j, hj, rfl⟩ := List.mem_iff_getElem.1 hx
      have key : ∀ m, m ≤ j → (∃ a, a ∈ (List.range s.length).filter (Lib.keeps s.toArray) ∧ s.toArray[a]! = s[j]) ∨ s.toArray[j - m]! = s[j] := by
        intro m
        induction m with
        | zero => intro _; right; rw [Nat.sub_zero, arr_get hj]
        | succ m ih =>
          intro hm
          rcases ih (by omega) with h | h
          · exact .inl h
          · by_cases hk : Lib.keeps s.toArray (j - m) = true
            · exact .inl ⟨j - m, List.mem_filter.2 ⟨List.mem_range.2 (by omega), hk⟩, h⟩
            · right
              unfold Lib.keeps at hk
              rw [decide_eq_true_eq] at hk
              have : s.toArray[j - m]! = s.toArray[j - m - 1]! := by
                by_cases e : s.toArray[j - m]! = s.toArray[j - m - 1]!
                · exact e
                · exact absurd (.inr e) hk
              rw [← h, this]
              congr 1
      rcases key j (Nat.le_refl _) with h | h
      · exact h
      · refine ⟨0, List.mem_filter.2 ⟨List.mem_range.2 (by omega), by unfold Lib.keeps; simp⟩, ?_⟩
        rw [Nat.sub_self] at h
        exact h
theorem setI_asc (l : List Int) : (setI l).Pairwise (fun x y => x < y) := (compact_asc (sortI_le l)).1
theorem setI_mem (l : List Int) (x : Int) : x ∈ setI l ↔ x ∈ l := ((compact_asc (sortI_le l)).2 x).trans (sortI_mem l x)
theorem setI_eq {l r : List Int} (hr : r.Pairwise (fun x y => x < y)) (h : ∀ x, x ∈ l ↔ x ∈ r) : setI l = r := asc_unique (setI_asc l) hr fun x => (setI_mem l x).trans (h x)
theorem compact_len (s : List Int) : (Lib.compact s).length ≤ s.length := by
  unfold Lib.compact Lib.compactUpTo
  rw [List.length_map]
  have := List.length_filter_le (Lib.keeps s.toArray) (List.range s.length)
  simpa using this
theorem setI_len (l : List Int) : (setI l).length ≤ l.length := by
  have := compact_len (sortI l)
  rw [sortI_len] at this
  exact this
/-- slices.Sort over a row of one's own. -/
theorem sort_own (l : List Int) (base : Nat) (A : Option Addr) (c : Nat) (w : World) (h : OwnI w base A c l) (hl : l.length ≤ 1000000) :
    Calls Try.prog 18 #[.slice A l.length c] w fun e w' => e = .returned (.tuple #[]) ∧ OwnI w' base A c (sortI l) ∧ w.grownBy w' (Value.ownBlock (.slice A l.length c)) := by
  rcases Nat.eq_zero_or_pos l.length with h0 | h0
  · obtain rfl := List.length_eq_zero_iff.1 h0
    refine (Try.slices_Sort_int_none A c w).mono fun e w' ⟨he, hw⟩ => ?_
    subst hw
    refine ⟨he, ?_, ⟨rfl, rfl, rfl, Nat.le_refl _, fun _ _ _ => rfl⟩⟩
    have : sortI [] = [] := List.length_eq_zero_iff.1 (by rw [sortI_len]; rfl)
    rw [this]
    exact h
  · rcases own_formS h with ⟨hn, _⟩ | ⟨_, g, c', hv, hlc, hg, hb⟩
    · omega
    · simp only [Value.slice.injEq, true_and] at hv
      obtain ⟨rfl, rfl⟩ := hv
      refine (Try.slices_Sort_int g 0 c l w (own_holds h) hg (by omega)).mono fun e w' ⟨he, n, os, hw⟩ => ?_
      subst hw
      exact ⟨he, put_own h (sortI l) (sortI_len l) (Nat.le_refl _) (by rw [← sortI_len l, List.take_length]) os (sortI_len l), put_grown _ _ _ _ _⟩
/-- slices.Compact over a row of one's own. -/
theorem compact_own (l : List Int) (base : Nat) (A : Option Addr) (c : Nat) (w : World) (h : OwnI w base A c l) (hl : l.length ≤ 1000000) :
    Calls Try.prog 29 #[.slice A l.length c] w fun e w' => e = .returned (.slice A (Lib.compact l).length c) ∧ OwnI w' base A c (Lib.compact l) ∧ w.grownBy w' (Value.ownBlock (.slice A l.length c)) := by
  rcases Nat.eq_zero_or_pos l.length with h0 | h0
  · obtain rfl := List.length_eq_zero_iff.1 h0
    refine (Try.slices_Compact_int_empty A c w).mono fun e w' ⟨he, hw⟩ => ?_
    subst hw
    have : Lib.compact ([] : List Int) = [] := List.length_eq_zero_iff.1 (by have := compact_len []; simpa using this)
    rw [this]
    exact ⟨he, h, ⟨rfl, rfl, rfl, Nat.le_refl _, fun _ _ _ => rfl⟩⟩
  · rcases own_formS h with ⟨hn, _⟩ | ⟨_, g, c', hv, hlc, hg, hb⟩
    · omega
    · simp only [Value.slice.injEq, true_and] at hv
      obtain ⟨rfl, rfl⟩ := hv
      refine (Try.slices_Compact_int g 0 c l w (own_holds h) (by omega) hlc).mono fun e w' ⟨he, n, hw⟩ => ?_
      subst hw
      refine ⟨he, ?_, ?_⟩
      · have := put_own (q := n) (n := (Lib.compact l).length) (l' := Lib.compact l) h (Lib.compact l ++ List.replicate (l.length - (Lib.compact l).length) 0) (by have := compact_len l; simp; omega) (compact_len l) (by rw [List.take_left' rfl]) #[] rfl
        rwa [Sort.grow_empty] at this
      · have := put_grown w g n (Lib.compact l ++ List.replicate (l.length - (Lib.compact l).length) 0).toArray #[]
        rwa [Sort.grow_empty] at this
end Go.Proofs.Ytgejdaincnclpaa
namespace Go.Proofs.Ytgejdaincnclpaa
open Go Go.RowKit
set_option linter.unusedVariables false
/-- 'append(v, x)', v a row of the call's own (or nil), x one element that lies in a block. -/
theorem wpList_append_one {w : World} {ops : Array Oper} {rest : List Oper} {o : Oper} {a : Act} {Q : Exit → Act → World → Prop} (hgd : o.guard = none) (s x : Operand) (t e : TypeId) (z : Value) (size bytes : Nat)
    (ho : o.op = .call { callee := .builtin .append, args := #[s, x], argTypes := #[t, t] })
    (ht : Try.prog.underlying t = some (.slice e)) (hinfo : (Try.prog.info? e).map (fun i => (i.zero, i.size, i.bytes)) = some (some z, size, bytes)) (hzs : z.cells.size = size) (hsz : 0 < size) (hby : bytes ≤ 1000)
    (base : Nat) (v : Value) (n : Nat) (xs cs : List Value) (hs : a.eval s = v) (hown : w.ownsRow base e size v n xs)
    (g c : Nat) (hx : a.eval x = .slice (some ⟨g, 0, none⟩) 1 c) (hl : cs.length = size) (hcell : ∀ j u, cs[j]? = some u → w.cell? ⟨g, j, none⟩ = some u) (h1 : ∀ u ∈ cs, u.oneCell' = true) (h63 : n ≤ 1000000) (hbase : base ≤ w.heap.size)
    (h : ∀ v' w', w'.ownsRow base e size v' (n + 1) (xs ++ cs) → w.grownBy w' v.ownBlock → (v'.ownBlock = v.ownBlock ∨ v'.ownBlock = some w.heap.size) → wpList Try.prog ops Q rest (a.put o.dst v') w') : wpList Try.prog ops Q (o :: rest) a w := by
  refine wpList_plain hgd fun K hK => ?_
  obtain ⟨i, hi, hz, hsi, hb⟩ := info_parts hinfo
  have hbytes : (n + 1) * bytes ≤ 140737488355328 := by
    have := Nat.mul_le_mul (show n + 1 ≤ 1000001 by omega) hby
    omega
  obtain ⟨v', w', hrun, h2, h3, _, h5⟩ := run_append_own_at (P := Try.prog) w base t o.type e i _ size bytes ht hi hz hsi hb hzs hsz v n xs hown ⟨g, 0, none⟩ 1 c cs (by rw [hl, Nat.one_mul]) (fun j u hu => by
      rw [show (⟨g, 0, none⟩ : Addr).add j = ⟨g, j, none⟩ by unfold Addr.add; split <;> simp_all]
      exact hcell j u hu) h1 (by unfold maxLen; omega) hbytes hbase
  unfold Oper.wp execOp
  simp only [ho, resolve, invoke, builtin, Sem.run_bind, Sem.run_pure, Result.andThen_ok, List.map_toArray, List.map_cons, List.map_nil, hs, hx, hrun]
  exact hK _ _ (h v' w' h2 h3 h5)
theorem infI : (Try.prog.info? 3).map (fun i => (i.zero, i.size, i.bytes)) = some (some (.int .i64 0), 1, 8) := by kernel_rfl
theorem cell1 {w : World} {g : Nat} {x : Value} (h : w.cell? ⟨g, 0, none⟩ = some x) : ∀ j u, [x][j]? = some u → w.cell? ⟨g, j, none⟩ = some u := fun j u hj => by
  rcases j with _ | j
  · simp only [List.getElem?_cons_zero, Option.some.injEq] at hj
    subst hj; exact h
  · simp at hj
/-- The balls of the meetings, in their order. -/
def ballsL (l : List Mt) : List Int := l.flatMap fun m => if m.b = -1 then [m.a] else [m.a, m.b]
theorem ballsL_take {l : List Mt} {k : Nat} {m : Mt} (h : l[k]? = some m) : ballsL (l.take (k + 1)) = ballsL (l.take k) ++ (if m.b = -1 then [m.a] else [m.a, m.b]) := by
  unfold ballsL
  rw [List.take_add_one, h, List.flatMap_append]
  simp
theorem ballsL_len (l : List Mt) : (ballsL l).length ≤ 2 * l.length := by
  unfold ballsL
  induction l with
  | nil => simp
  | cons m l ih =>
    rw [List.flatMap_cons, List.length_append, List.length_cons]
    split <;> simp only [List.length_cons, List.length_nil] <;> omega
theorem owni_snoc {w : World} {base : Nat} {v : Value} {l : List Int} {x : Int} (h : w.ownsRow base 3 1 v (l.length + 1) (l.map (Value.int .i64) ++ [.int .i64 x])) : ∃ A c, v = .slice A (l ++ [x]).length c ∧ OwnI w base A c (l ++ [x]) := by
  obtain ⟨A, c, rfl⟩ := own_slice h
  exact ⟨A, c, by simp, by unfold OwnI; rw [List.length_append, List.map_append]; exact h⟩
theorem OwnI.fresh {w : World} {base : Nat} {A : Option Addr} {c : Nat} {l : List Int} (h : OwnI w base A c l) : ∀ k, Value.ownBlock (.slice A l.length c) = some k → base ≤ k := fun k hk => (World.ownsRow.lt h k hk).1
theorem OwnI.alloc {w : World} {base : Nat} {A : Option Addr} {c : Nat} {l : List Int} (h : OwnI w base A c l) (o : Obj) : OwnI (w.alloc o) base A c l := World.ownsRow.alloc h o
theorem OwnI.low {W : World} {base : Nat} {A : Option Addr} {c : Nat} {l : List Int} (h : OwnI W base A c l) {p : Addr} (hp : p.block < base) (u : Value) : OwnI (W.setCell p u) base A c l := ownr_low h hp u
theorem OwnI.bel {W W' : World} {base B : Nat} {A : Option Addr} {c : Nat} {l : List Int} (h : OwnI W base A c l) (hb : Below B W W') (hB : W.heap.size ≤ B) : OwnI W' base A c l := own_below h hb hB
theorem OwnI.weaker {W : World} {base base' : Nat} {A : Option Addr} {c : Nat} {l : List Int} (h : OwnI W base A c l) (hb : base' ≤ base) : OwnI W base' A c l := ownr_weaker h hb
theorem OwnI.kept {W W' : World} {base : Nat} {A : Option Addr} {c : Nat} {l : List Int} {row : Option Nat} (h : OwnI W base A c l) (hg : W.grownBy W' row) (hne : Value.ownBlock (.slice A l.length c) = none ∨ Value.ownBlock (.slice A l.length c) ≠ row) : OwnI W' base A c l := World.ownsRow.kept h hg hne
/-- A result that is a row of integers of one's own. -/
def IOut (l : List Int) (w : World) (e : Ending) (w' : World) : Prop := Below w.heap.size w w' ∧ ∃ A c, e = .returned (.slice A l.length c) ∧ OwnI w' w.heap.size A c l
set_option maxRecDepth 100000 in
set_option maxHeartbeats 8000000 in
theorem balls_any (l : List Mt) (A : Option Addr) (c : Nat) (w : World) (hV : MAt w A l) (hl : l.length ≤ 1000) :
    Calls Try.prog 13 #[.slice A l.length c] w (IOut (setI (ballsL l)) w) := by
  have HV := Lib.hid hV
  have hlen := ballsL_len l
  clear hV
  go_enter Try.func13, Try.ntmps13; (try simp only [List.append_eq, List.cons_append, List.nil_append])
  go_wp2_with fail
  go_loopw [3, 8] (fun t3 t8 wr => ∃ (k : Nat) (B : Option Addr) (d : Nat), k ≤ l.length ∧ t8 = .int .i64 k ∧ t3 = .slice B (ballsL (l.take k)).length d ∧ OwnI wr w.heap.size B d (ballsL (l.take k)) ∧ Below w.heap.size w wr) (fun _ t8 _ => l.length - (intOf t8).toNat)
  case atStart => exact ⟨0, none, 0, by omega, rfl, rfl, OwnI.nil _ _, Below.refl _ _⟩
  case round =>
    obtain ⟨k, B, d, hk, rfl, rfl, hO, hb_wr⟩ := hrel
    have hz_wr := hb_wr.size
    have HB := Lib.hid hb_wr
    have HO := Lib.hid hO
    have i1 : (0 : Int) ≤ (k : Int) := by omega
    have hlk : (ballsL (l.take k)).length ≤ 2000 := by have := ballsL_len (l.take k); rw [List.length_take] at this; omega
    by_cases hlt : k < l.length
    · obtain ⟨m, hx⟩ : ∃ x, l[k]? = some x := ⟨l[k], by simp⟩
      obtain ⟨g, o, rfl, hg, a0, a1, a2, a3, a4, a5, a6, a7, a8, a9⟩ := (HV.out.below HB.out (Nat.le_refl _)) k _ hx
      have HT := Lib.hid (ballsL_take hx)
      generalize ballsL (l.take k) = L at *
      have HX := Lib.hid hx
      have i2 : (k : Int) < (l.length : Int) := by omega
      clear hb_wr hx hO
      obtain ⟨ma, mb, n1, n2, x1, x2, y1, y2, e, f⟩ := m
      simp only at a0 a1 a2 a3 a4 a5 a6 a7 a8 a9
      by_cases hm : mb = -1
      · subst hm
        go_wp2_with (at_builtin; go_must (refine wpList_append_one rfl _ _ 27 3 _ 1 8 rfl Try.underlying27 infI rfl (by decide) (by decide) w.heap.size _ L.length (L.map (Value.int .i64)) [.int .i64 ma] rfl (show OwnI _ w.heap.size B d L by ((repeat (first | (with_reducible exact HO.out) | (with_reducible refine OwnI.low ?_ ?_ _) | (with_reducible refine OwnI.alloc ?_ _))) <;> first | omega | (simp; done) | (simp <;> omega))) _ 1 rfl rfl (cell1 (by go_simp)) (by simp [Value.oneCell']) (by omega) (by simp; omega) ?_))
        intro v1 w1 hown1 hg1 _
        obtain ⟨B1, d1, rfl, ho1⟩ := owni_snoc hown1
        have HO1 := Lib.hid ho1
        have HB1 := Lib.hid ((show Below w.heap.size w _ from (HB.out.alloc hz_wr _).alloc (by simp; omega) _).grown hg1 (by simp; omega) (HO.out.fresh))
        have hz1 := hg1.size
        simp at hz1
        have hcb := hg1.cell (a := ⟨wr.heap.size, 1, none⟩) (v := .int .i64 (-1)) (by go_simp) (fun e => by have := (World.ownsRow.lt HO.out _ e.symm).2; simp at this)
        clear hg1 hown1 ho1
        go_wp2_with fail
        go_roundw
        case rel => exact ⟨k + 1, B1, d1, by omega, by go_num, by rw [HT.out, if_pos trivial], by rw [HT.out, if_pos trivial]; exact HO1.out, HB1.out⟩
        case measure => simp [intOf]; omega
      · have hmb : (mb == -1) = false := by rw [beq_eq_false_iff_ne]; exact hm
        go_wp2_with (at_builtin; go_must (refine wpList_append_one rfl _ _ 27 3 _ 1 8 rfl Try.underlying27 infI rfl (by decide) (by decide) w.heap.size _ L.length (L.map (Value.int .i64)) [.int .i64 ma] rfl (show OwnI _ w.heap.size B d L by ((repeat (first | (with_reducible exact HO.out) | (with_reducible refine OwnI.low ?_ ?_ _) | (with_reducible refine OwnI.alloc ?_ _))) <;> first | omega | (simp; done) | (simp <;> omega))) _ 1 rfl rfl (cell1 (by go_simp)) (by simp [Value.oneCell']) (by omega) (by simp; omega) ?_))
        intro v1 w1 hown1 hg1 _
        obtain ⟨B1, d1, rfl, ho1⟩ := owni_snoc hown1
        have HO1 := Lib.hid ho1
        have HB1 := Lib.hid ((show Below w.heap.size w _ from (HB.out.alloc hz_wr _).alloc (by simp; omega) _).grown hg1 (by simp; omega) (HO.out.fresh))
        have hz1 := hg1.size
        simp at hz1
        have hzz := HB1.out.size
        have hcb := hg1.cell (a := ⟨wr.heap.size, 1, none⟩) (v := .int .i64 mb) (by go_simp) (fun e => by have := (World.ownsRow.lt HO.out _ e.symm).2; simp at this)
        clear hg1 hown1 ho1
        go_wp2_with (at_builtin; go_must (refine wpList_append_one rfl _ _ 27 3 _ 1 8 rfl Try.underlying27 infI rfl (by decide) (by decide) w.heap.size _ (L ++ [ma]).length ((L ++ [ma]).map (Value.int .i64)) [.int .i64 mb] rfl (show OwnI _ w.heap.size B1 d1 (L ++ [ma]) by ((repeat (first | (with_reducible exact HO1.out) | (with_reducible refine OwnI.low ?_ ?_ _) | (with_reducible refine OwnI.alloc ?_ _))) <;> first | omega | (simp; done) | (simp <;> omega))) _ 1 rfl rfl (cell1 (by go_simp)) (by simp [Value.oneCell']) (by simp; omega) (by simp; omega) ?_))
        intro v2 w2 hown2 hg2 _
        obtain ⟨B2, d2, rfl, ho2⟩ := owni_snoc (l := L ++ [ma]) (show w2.ownsRow w.heap.size 3 1 v2 ((L ++ [ma]).length + 1) ((L ++ [ma]).map (Value.int .i64) ++ [.int .i64 mb]) by simpa using hown2)
        have HO2 := Lib.hid ho2
        have HB2 := Lib.hid ((show Below w.heap.size w _ from HB1.out.alloc HB1.out.size _).grown hg2 (by simp; omega) (by have := HO1.out.fresh; rwa [List.length_append] at this))
        have e2 : L ++ [ma] ++ [mb] = L ++ (if mb = -1 then [ma] else [ma, mb]) := by rw [if_neg hm, List.append_assoc]; rfl
        rw [e2] at HO2
        rw [e2]
        clear hg2 hown2 ho2
        go_wp2_with fail
        go_roundw
        case rel => exact ⟨k + 1, B2, d2, by omega, by go_num, by rw [HT.out], by rw [HT.out]; exact HO2.out, HB2.out⟩
        case measure => simp [intOf]; omega
    · obtain rfl : k = l.length := by omega
      rw [List.take_length] at *
      have ks := fun W hW => sort_own (ballsL l) w.heap.size B d W hW (by omega)
      have kc := fun W hW => compact_own (sortI (ballsL l)) w.heap.size B d W hW (by rw [sortI_len]; omega)
      rw [sortI_len] at kc
      have KS := Lib.hid ks
      have KC := Lib.hid kc
      clear ks kc hb_wr hO hlen
      go_wp2_with fail
      (go_at_call 18; refine (KS.out _ HO.out).mono ?_; rintro e w1 ⟨rfl, ho1, hg1⟩)
      have HB1 := Lib.hid (HB.out.grown hg1 (by omega) (HO.out.fresh))
      have HO1 := Lib.hid ho1
      clear hg1 ho1
      go_wp2_with fail
      (go_at_call 29; refine (KC.out _ HO1.out).mono ?_; rintro e w2 ⟨rfl, ho2, hg2⟩)
      have HB2 := Lib.hid (HB1.out.grown hg2 HB1.out.size (by have := HO.out.fresh; exact this))
      have HO2 := Lib.hid ho2
      clear hg2 ho2
      go_wp2_with fail
      go_ret
      exact ⟨HB2.out, B, d, rfl, HO2.out⟩
end Go.Proofs.Ytgejdaincnclpaa
namespace Go.Proofs.Ytgejdaincnclpaa
open Go Go.RowKit
set_option linter.unusedVariables false
/-- All limbs stay. -/
def U32Keep (w w' : World) : Prop := w.heap.size ≤ w'.heap.size ∧ ∀ p x, w.cell? p = some (.int .u32 x) → w'.cell? p = some (.int .u32 x)
theorem LAt.u32 {w w' : World} {A : Option Addr} {l : List Int} (h : LAt w A l) (hk : U32Keep w w') : LAt w' A l := fun k x hx => by
  obtain ⟨g, o, e, hg, hc⟩ := h k x hx
  exact ⟨g, o, e, Nat.lt_of_lt_of_le hg hk.1, hk.2 _ _ hc⟩
theorem IsC.u32 {w w' : World} {v : Value} {z : Int} (h : IsC w v z) (hk : U32Keep w w') : IsC w' v z := by
  obtain ⟨A, c, h1, h2, h3⟩ := h
  exact ⟨A, c, h1, h2, h3.u32 hk⟩
theorem RAt.u32 {w w' : World} {v : Value} {x y d : Int} (h : RAt w v x y d) (hk : U32Keep w w') : RAt w' v x y d := by
  obtain ⟨s1, A1, n1, c1, s2, A2, n2, c2, s3, A3, n3, c3, e, h1, h2, h3⟩ := h
  exact ⟨s1, A1, n1, c1, s2, A2, n2, c2, s3, A3, n3, c3, e, h1.u32 hk, h2.u32 hk, h3.u32 hk⟩
theorem U32Keep.block {w w' : World} {g : Nat} {cur : Array Value} {e : TypeId} (hs : w.heap.size ≤ w'.heap.size) (hg : w.heap[g]? = some (.cells cur e (0, 0))) (hu : ∀ u ∈ cur.toList, ∀ x, u ≠ .int .u32 x) (hb : ∀ k, k < w.heap.size → k ≠ g → w'.heap[k]? = w.heap[k]?) : U32Keep w w' :=
  ⟨hs, fun p x hc => by
    have hp := World.block_lt_of_cell? w p hc
    by_cases e' : p.block = g
    · exfalso
      obtain ⟨b, o, sp⟩ := p
      simp only at e' hp
      subst e'
      have hsp : sp = none := World.cell?_spot hc
      subst hsp
      rw [cell_of_row w b o cur e (0, 0) hg] at hc
      exact hu _ (by simpa using Array.mem_of_getElem? hc) x rfl
    · rw [World.cell?_of_block (hb _ hp e')]; exact hc⟩
/-- A row of one's own in whose block no limb lies. -/
def OwnU (w : World) (base : Nat) (e : TypeId) (size : Nat) (v : Value) (n : Nat) (xs : List Value) : Prop := xs.length = n * size ∧
  ((v = .slice none 0 0 ∧ n = 0) ∨ ∃ g cap cur, v = .slice (some ⟨g, 0, none⟩) n cap ∧ base ≤ g ∧ w.heap[g]? = some (.cells cur e (0, 0)) ∧ n ≤ cap ∧ cap ≤ maxLen ∧ cur.size = cap * size ∧ cur.toList.take (n * size) = xs ∧ ∀ u ∈ cur.toList, ∀ x, u ≠ .int .u32 x)
theorem OwnU.own {w : World} {base : Nat} {e : TypeId} {size : Nat} {v : Value} {n : Nat} {xs : List Value} (h : OwnU w base e size v n xs) : w.ownsRow base e size v n xs := by
  refine ⟨h.1, ?_⟩
  rcases h.2 with h | ⟨g, cap, cur, h1, h2, h3, h4, h5, h6, h7, _⟩
  · exact .inl h
  · exact .inr ⟨g, cap, cur, h1, h2, h3, h4, h5, h6, h7⟩
theorem OwnU.nil (w : World) (base : Nat) (e : TypeId) (size : Nat) : OwnU w base e size (.slice none 0 0) 0 [] := ⟨by simp, .inl ⟨rfl, rfl⟩⟩
theorem OwnU.below {w w' : World} {base B : Nat} {e : TypeId} {size : Nat} {v : Value} {n : Nat} {xs : List Value} (h : OwnU w base e size v n xs) (hb : Below B w w') (hB : w.heap.size ≤ B) : OwnU w' base e size v n xs := by
  refine ⟨h.1, ?_⟩
  rcases h.2 with h | ⟨g, cap, cur, h1, h2, h3, h4⟩
  · exact .inl h
  · have hg := (Array.getElem?_eq_some_iff.1 h3).1
    exact .inr ⟨g, cap, cur, h1, h2, by rw [hb.block g (by omega)]; exact h3, h4⟩
theorem run_append_u (w : World) (base : Nat) (t ty e : TypeId) (z : Value) (size bytes : Nat) (ht : Try.prog.underlying t = some (.slice e)) (hinfo : (Try.prog.info? e).map (fun i => (i.zero, i.size, i.bytes)) = some (some z, size, bytes)) (hzs : z.cells.size = size) (hzu : ∀ u ∈ z.cells.toList, ∀ x, u ≠ .int .u32 x) (hsz : 0 < size)
    (v : Value) (n : Nat) (xs : List Value) (hown : OwnU w base e size v n xs) (a : Addr) (c : Nat) (news : List Value) (hl : news.length = size) (hnews : ∀ j u, news[j]? = some u → w.cell? (a.add j) = some u) (h1 : ∀ u ∈ news, u.oneCell' = true) (hu : ∀ u ∈ news, ∀ x, u ≠ .int .u32 x)
    (h63 : n + 1 ≤ maxLen) (hbytes : (n + 1) * bytes ≤ 140737488355328) (hbase : base ≤ w.heap.size) :
    ∃ v' w', (Builtin.append_ #[t, t] ty #[v, .slice (some a) 1 c]).run Try.prog w = .ok v' w' ∧ OwnU w' base e size v' (n + 1) (xs ++ news) ∧ w.grownBy w' v.ownBlock ∧ U32Keep w w' := by
  obtain ⟨i, hi, hz, hsize, hby⟩ := info_parts hinfo
  subst hsize
  subst hby
  have hsmall : n + 1 ≤ 9223372036854775807 := by simp only [maxLen] at h63; omega
  have hl' : news.length = 1 * i.size := by rw [hl, Nat.one_mul]
  have hlen : (xs ++ news).length = (n + 1) * i.size := by rw [List.length_append, hown.1, hl, Nat.add_mul, Nat.one_mul]
  have hzc : ∀ m, ∀ u ∈ (Builtin.zeroCells z.cells m).toList, ∀ x, u ≠ .int .u32 x := fun m u hm x => by
    unfold Builtin.zeroCells at hm
    rw [Array.mem_toList_iff, Array.mem_map] at hm
    obtain ⟨j, _, rfl⟩ := hm
    have hpos : 0 < z.cells.size := by omega
    have hlt := Nat.mod_lt j hpos
    rw [getElem!_pos z.cells _ hlt]
    exact hzu _ (by simp) x
  have hkw : ∀ o, U32Keep w (w.drew.alloc o) := fun o => ⟨by simp, fun p x hc => by
    have hp := World.block_lt_of_cell? w p hc
    rw [World.cell?_of_block (w := w) (heap_alloc_old w.drew o hp)]
    exact hc⟩
  have grown : ∀ (old : Nat), old < n + 1 → (∀ u ∈ xs, ∀ x, u ≠ .int .u32 x) → ∀ (row : Option Nat),
      OwnU (w.drew.alloc (.cells (xs.toArray ++ news.toArray ++ Builtin.zeroCells z.cells (grownCap w (n + 1) old e - (n + 1))) e)) base e i.size
        (.slice (some ⟨w.heap.size, 0, none⟩) (n + 1) (grownCap w (n + 1) old e)) (n + 1) (xs ++ news) ∧
      w.grownBy (w.drew.alloc (.cells (xs.toArray ++ news.toArray ++ Builtin.zeroCells z.cells (grownCap w (n + 1) old e - (n + 1))) e)) row := by
    intro old ho hxu row
    have hge := grownCap_ge w (n + 1) old e
    have hcm : grownCap w (n + 1) old e ≤ maxLen := grownCap_le_maxLen w (n + 1) old e h63
    refine ⟨⟨hlen, .inr ⟨w.heap.size, _, _, rfl, hbase, heap_alloc_new w.drew _, hge, hcm, ?_, ?_, ?_⟩⟩, ⟨rfl, rfl, rfl, by simp, fun k hk _ => heap_alloc_old w.drew _ hk⟩⟩
    · simp only [Array.size_append, List.size_toArray, size_zeroCells, hzs, hown.1, hl]
      have e1 : n * i.size + i.size = (n + 1) * i.size := (Nat.succ_mul n i.size).symm
      rw [e1, ← Nat.add_mul, Nat.add_sub_cancel' hge]
    · simp only [Array.toList_append, List.append_assoc]
      rw [← List.append_assoc, ← hlen]
      exact List.take_left
    · intro u hm x
      simp only [Array.toList_append, List.mem_append] at hm
      rcases hm with (hm | hm) | hm
      · exact hxu u (by simpa using hm) x
      · exact hu u (by simpa using hm) x
      · exact hzc _ u hm x
  rcases hown.2 with ⟨rfl, rfl⟩ | ⟨g, cap, cur, rfl, hbg, hg, hnc, hcm, hcs, htake, hcu⟩
  · have hx : xs = [] := List.eq_nil_of_length_eq_zero (by simpa using hown.1)
    subst hx
    have hr := run_append_nil (P := Try.prog) w t ty e i z ht hi hz a 1 c news hl' hnews (by omega) (by omega) (by have hb := hbytes; simp only [Nat.zero_add] at hb; omega)
    have hgr := grown 0 (by omega) (by simp) (Value.ownBlock (.slice none 0 0))
    simp only [Nat.zero_add, List.nil_append, Array.empty_append] at hgr ⊢
    exact ⟨_, _, hr, hgr.1, hgr.2, hkw _⟩
  · by_cases hroom : n + 1 ≤ cap
    · have hfit : n * i.size + news.length ≤ cur.size := by
        have := Nat.mul_le_mul_right i.size hroom
        rw [Nat.add_mul, Nat.one_mul] at this
        rw [hl, hcs]; exact this
      have hr := run_append_room (P := Try.prog) w t ty e i ht hi g n cap cur hg a 1 c news hl' hnews h1 hroom hfit
      have hgb : w.grownBy (w.setRow g (cur.toList.take (n * i.size) ++ news ++ cur.toList.drop (n * i.size + news.length)).toArray) (Value.ownBlock (.slice (some ⟨g, 0, none⟩) n cap)) := ⟨rfl, rfl, rfl, by simp, fun k _ hk => setRow_other w g k _ (fun e => hk (by simp [Value.ownBlock, e]))⟩
      refine ⟨_, _, hr, ⟨hlen, .inr ⟨g, cap, _, rfl, hbg, setRow_heap w g cur _ e _ hg, hroom, hcm, ?_, ?_, ?_⟩⟩, hgb, U32Keep.block hgb.size hg hcu (fun k hk hne => hgb.block k hk (by simp [Value.ownBlock, hne]))⟩
      · simp only [List.size_toArray, List.length_append, List.length_take, List.length_drop, Array.length_toList]
        omega
      · rw [htake, ← hlen]
        exact List.take_left
      · intro u hm x
        simp only [List.mem_append] at hm
        rcases hm with (hm | hm) | hm
        · exact hcu u (List.mem_of_mem_take hm) x
        · exact hu u hm x
        · exact hcu u (List.mem_of_mem_drop hm) x
    · have holds : ∀ j u, xs[j]? = some u → w.cell? ((⟨g, 0, none⟩ : Addr).add j) = some u := hown.own.cells (g := g) rfl
      have hr := run_append_grow (P := Try.prog) w t ty e i z ht hi hz ⟨g, 0, none⟩ n cap xs hown.1 holds a 1 c news hl' hnews (by omega) (by omega) (growslice_fits (by omega) hbytes)
      have hgr := grown cap (by omega) (fun u hm x => hcu u (by rw [← htake] at hm; exact List.mem_of_mem_take hm) x) (Value.ownBlock (.slice (some ⟨g, 0, none⟩) n cap))
      exact ⟨_, _, hr, hgr.1, hgr.2, hkw _⟩
theorem wpList_append_u {w : World} {ops : Array Oper} {rest : List Oper} {o : Oper} {a : Act} {Q : Exit → Act → World → Prop} (hgd : o.guard = none) (s x : Operand) (t e : TypeId) (z : Value) (size bytes : Nat)
    (ho : o.op = .call { callee := .builtin .append, args := #[s, x], argTypes := #[t, t] })
    (ht : Try.prog.underlying t = some (.slice e)) (hinfo : (Try.prog.info? e).map (fun i => (i.zero, i.size, i.bytes)) = some (some z, size, bytes)) (hzs : z.cells.size = size) (hzu : ∀ u ∈ z.cells.toList, ∀ x, u ≠ .int .u32 x) (hsz : 0 < size) (hby : bytes ≤ 1000)
    (base : Nat) (v : Value) (n : Nat) (xs cs : List Value) (hs : a.eval s = v) (hown : OwnU w base e size v n xs)
    (g c : Nat) (hx : a.eval x = .slice (some ⟨g, 0, none⟩) 1 c) (hl : cs.length = size) (hcell : ∀ j u, cs[j]? = some u → w.cell? ⟨g, j, none⟩ = some u) (h1 : ∀ u ∈ cs, u.oneCell' = true) (hu : ∀ u ∈ cs, ∀ x, u ≠ .int .u32 x) (h63 : n ≤ 1000000) (hbase : base ≤ w.heap.size)
    (h : ∀ v' w', OwnU w' base e size v' (n + 1) (xs ++ cs) → w.grownBy w' v.ownBlock → U32Keep w w' → wpList Try.prog ops Q rest (a.put o.dst v') w') : wpList Try.prog ops Q (o :: rest) a w := by
  refine wpList_plain hgd fun K hK => ?_
  have hbytes : (n + 1) * bytes ≤ 140737488355328 := by
    have := Nat.mul_le_mul (show n + 1 ≤ 1000001 by omega) hby
    omega
  obtain ⟨v', w', hrun, h2, h3, h5⟩ := run_append_u w base t o.type e z size bytes ht hinfo hzs hzu hsz v n xs hown ⟨g, 0, none⟩ c cs hl (fun j u hu => by
      rw [show (⟨g, 0, none⟩ : Addr).add j = ⟨g, j, none⟩ by unfold Addr.add; split <;> simp_all]
      exact hcell j u hu) h1 hu (by unfold maxLen; omega) hbytes hbase
  unfold Oper.wp execOp
  simp only [ho, resolve, invoke, builtin, Sem.run_bind, Sem.run_pure, Result.andThen_ok, List.map_toArray, List.map_cons, List.map_nil, hs, hx, hrun]
  exact hK _ _ (h v' w' h2 h3 h5)
theorem infR : (Try.prog.info? 66).map (fun i => (i.zero, i.size, i.bytes)) = some (some (.agg #[.bool false, .slice none 0 0, .bool false, .slice none 0 0, .bool false, .slice none 0 0]), 6, 96) := by kernel_rfl
/-- A row of Ratios of one's own. -/
def RsOwn (w : World) (base : Nat) (A : Option Addr) (c : Nat) (l : List (Int × Int × Int)) (xs : List Value) : Prop := OwnU w base 66 6 (.slice A l.length c) l.length xs ∧
  ∀ k r, l[k]? = some r → ∃ s1 A1 n1 c1 s2 A2 n2 c2 s3 A3 n3 c3, xs[k * 6]? = some (Value.bool s1) ∧ xs[k * 6 + 1]? = some (Value.slice A1 n1 c1) ∧ xs[k * 6 + 2]? = some (Value.bool s2) ∧ xs[k * 6 + 3]? = some (Value.slice A2 n2 c2) ∧ xs[k * 6 + 4]? = some (Value.bool s3) ∧ xs[k * 6 + 5]? = some (Value.slice A3 n3 c3) ∧
    RAt w (.agg #[.bool s1, .slice A1 n1 c1, .bool s2, .slice A2 n2 c2, .bool s3, .slice A3 n3 c3]) r.1 r.2.1 r.2.2
theorem RsOwn.nil (w : World) (base : Nat) : RsOwn w base none 0 [] [] := ⟨OwnU.nil _ _ _ _, fun k r h => by simp at h⟩
theorem RsOwn.below {w w' : World} {base : Nat} {A : Option Addr} {c : Nat} {l : List (Int × Int × Int)} {xs : List Value} (h : RsOwn w base A c l xs) (hb : Below w.heap.size w w') : RsOwn w' base A c l xs :=
  ⟨h.1.below hb (Nat.le_refl _), fun k r hk => by
    obtain ⟨s1, A1, n1, c1, s2, A2, n2, c2, s3, A3, n3, c3, e0, e1, e2, e3, e4, e5, hR⟩ := h.2 k r hk
    exact ⟨s1, A1, n1, c1, s2, A2, n2, c2, s3, A3, n3, c3, e0, e1, e2, e3, e4, e5, hR.below hb⟩⟩
theorem RsOwn.at {w : World} {base : Nat} {A : Option Addr} {c : Nat} {l : List (Int × Int × Int)} {xs : List Value} (h : RsOwn w base A c l xs) : RsAt w A l := fun k r hk => by
  obtain ⟨s1, A1, n1, c1, s2, A2, n2, c2, s3, A3, n3, c3, e0, e1, e2, e3, e4, e5, hR⟩ := h.2 k r hk
  have hk' := (List.getElem?_eq_some_iff.1 hk).1
  have ho := h.1.own
  rcases own_formS ho with ⟨hn, _⟩ | ⟨_, g, c', hv, _, hg, _⟩
  · omega
  · simp only [Value.slice.injEq, true_and] at hv
    obtain ⟨rfl, rfl⟩ := hv
    refine ⟨g, 0, rfl, hg, s1, A1, n1, c1, s2, A2, n2, c2, s3, A3, n3, c3, ?_, ?_, ?_, ?_, ?_, ?_, hR⟩
    · rw [Nat.zero_add, World.ownsRow.cellAt ho _ (by omega)]; exact e0
    · rw [Nat.zero_add, World.ownsRow.cellAt ho _ (by omega)]; exact e1
    · rw [Nat.zero_add, World.ownsRow.cellAt ho _ (by omega)]; exact e2
    · rw [Nat.zero_add, World.ownsRow.cellAt ho _ (by omega)]; exact e3
    · rw [Nat.zero_add, World.ownsRow.cellAt ho _ (by omega)]; exact e4
    · rw [Nat.zero_add, World.ownsRow.cellAt ho _ (by omega)]; exact e5
theorem RsOwn.snoc {w w' : World} {base : Nat} {A : Option Addr} {c : Nat} {l : List (Int × Int × Int)} {xs : List Value} {v' : Value} {r : Int × Int × Int} {s1 : Bool} {A1 : Option Addr} {n1 c1 : Nat} {s2 : Bool} {A2 : Option Addr} {n2 c2 : Nat} {s3 : Bool} {A3 : Option Addr} {n3 c3 : Nat}
    (h : RsOwn w base A c l xs) (hR : RAt w (.agg #[.bool s1, .slice A1 n1 c1, .bool s2, .slice A2 n2 c2, .bool s3, .slice A3 n3 c3]) r.1 r.2.1 r.2.2)
    (hw : OwnU w' base 66 6 v' (l.length + 1) (xs ++ [.bool s1, .slice A1 n1 c1, .bool s2, .slice A2 n2 c2, .bool s3, .slice A3 n3 c3])) (hk : U32Keep w w') :
    ∃ A' c', v' = .slice A' (l ++ [r]).length c' ∧ RsOwn w' base A' c' (l ++ [r]) (xs ++ [.bool s1, .slice A1 n1 c1, .bool s2, .slice A2 n2 c2, .bool s3, .slice A3 n3 c3]) := by
  obtain ⟨A', c', rfl⟩ := own_slice hw.own
  have hxl : xs.length = l.length * 6 := h.1.1
  refine ⟨A', c', by simp, by simpa using hw, fun k q hq => ?_⟩
  rcases Nat.lt_or_ge k l.length with hlt | hge
  · rw [List.getElem?_append_left hlt] at hq
    obtain ⟨s1, A1, n1, c1, s2, A2, n2, c2, s3, A3, n3, c3, e0, e1, e2, e3, e4, e5, hR'⟩ := h.2 k q hq
    refine ⟨s1, A1, n1, c1, s2, A2, n2, c2, s3, A3, n3, c3, ?_, ?_, ?_, ?_, ?_, ?_, hR'.u32 hk⟩ <;> (rw [List.getElem?_append_left (by omega)]; assumption)
  · rw [List.getElem?_append_right hge] at hq
    have hk0 : k = l.length := by
      have := (List.getElem?_eq_some_iff.1 hq).1
      simp at this; omega
    subst hk0
    rw [Nat.sub_self] at hq
    simp only [List.getElem?_cons_zero, Option.some.injEq] at hq
    subst hq
    refine ⟨s1, A1, n1, c1, s2, A2, n2, c2, s3, A3, n3, c3, ?_, ?_, ?_, ?_, ?_, ?_, hR.u32 hk⟩
    · rw [List.getElem?_append_right (by omega), hxl, Nat.sub_self]; rfl
    · rw [List.getElem?_append_right (by omega), hxl, show l.length * 6 + 1 - l.length * 6 = 1 by omega]; rfl
    · rw [List.getElem?_append_right (by omega), hxl, show l.length * 6 + 2 - l.length * 6 = 2 by omega]; rfl
    · rw [List.getElem?_append_right (by omega), hxl, show l.length * 6 + 3 - l.length * 6 = 3 by omega]; rfl
    · rw [List.getElem?_append_right (by omega), hxl, show l.length * 6 + 4 - l.length * 6 = 4 by omega]; rfl
    · rw [List.getElem?_append_right (by omega), hxl, show l.length * 6 + 5 - l.length * 6 = 5 by omega]; rfl
end Go.Proofs.Ytgejdaincnclpaa
namespace Go.Proofs.Ytgejdaincnclpaa
open Go Go.RowKit
set_option linter.unusedVariables false
/-- What a meeting's first ball meets. -/
def surfM (m : Mt) (v : List V2) : V2 := if m.b = -1 then (m.w1, m.w2) else v.getD m.b.toNat (0, 0)
set_option maxRecDepth 100000 in
set_option maxHeartbeats 4000000 in
theorem surface_any (m : Mt) (v : List V2) (A : Option Addr) (c : Nat) (w : World) (hV : VAt w A v) (h1 : -1 ≤ m.b) (h2 : m.b < v.length) :
    Calls Try.prog 23 #[m.v, .slice A v.length c] w fun e w' => e = .returned (.agg #[.int .i64 (surfM m v).1, .int .i64 (surfM m v).2]) ∧ Below w.heap.size w w' := by
  obtain ⟨a, b, n1, n2, x1, x2, y1, y2, e, g⟩ := m
  simp only [Mt.v] at *
  by_cases h : b = -1
  · have hs : surfM ⟨a, b, n1, n2, x1, x2, y1, y2, e, g⟩ v = (x1, x2) := by unfold surfM; rw [if_pos h]
    rw [hs]
    subst h
    clear hs hV
    go_enter Try.func23, Try.ntmps23; (try simp only [List.append_eq, List.cons_append, List.nil_append])
    go_wp2_with fail
    refine bodyPost_ret (v := .agg #[.int .i64 x1, .int .i64 x2]) (by (try simp only [results, Try.results23]); (try go_simp)) rfl ⟨?_, ?_⟩
    · rfl
    · ((with_reducible (repeat (first | exact bR _ _ | refine bS ?_ ?_ _ | refine bA ?_ ?_ _ | refine bD ?_ | refine bT ?_ (by assumption) ?_ | refine bO (by assumption) ?_ ?_))) <;> (first | omega | (simp; done) | (simp <;> omega)))
  · obtain ⟨k, rfl⟩ : ∃ k : Nat, b = (k : Int) := ⟨b.toNat, by omega⟩
    obtain ⟨⟨p, q⟩, hx⟩ : ∃ x, v[k]? = some x := ⟨v[k]'(by omega), by simp⟩
    have hs : surfM ⟨a, k, n1, n2, x1, x2, y1, y2, e, g⟩ v = (p, q) := by unfold surfM; rw [if_neg h]; simp [hx]
    rw [hs]
    obtain ⟨g', o, rfl, hg, c0, c1⟩ := hV k _ hx
    simp only at c0 c1
    have hb1 : ((k : Int) == -1) = false := by rw [beq_eq_false_iff_ne]; exact h
    have i1 : (0 : Int) ≤ (k : Int) := by omega
    have i2 : (k : Int) < (v.length : Int) := h2
    clear hs hV hx h h1 h2
    go_enter Try.func23, Try.ntmps23; (try simp only [List.append_eq, List.cons_append, List.nil_append])
    go_wp2_with fail
    refine bodyPost_ret (v := .agg #[.int .i64 p, .int .i64 q]) (by (try simp only [results, Try.results23]); (try go_simp)) rfl ⟨?_, ?_⟩
    · rfl
    · ((with_reducible (repeat (first | exact bR _ _ | refine bS ?_ ?_ _ | refine bA ?_ ?_ _ | refine bD ?_ | refine bT ?_ (by assumption) ?_ | refine bO (by assumption) ?_ ?_))) <;> (first | omega | (simp; done) | (simp <;> omega)))
def clampR (x : Int) : Int := min (max x (-65536)) 65536
set_option maxHeartbeats 4000000 in
theorem limited_any (x y : Int) (w : World) :
    Calls Try.prog 27 #[.agg #[.int .i64 x, .int .i64 y]] w fun e w' => e = .returned (.agg #[.int .i64 (clampR x), .int .i64 (clampR y)]) ∧ Below w.heap.size w w' := by
  unfold clampR
  go_enter Try.func27, Try.ntmps27; (try simp only [List.append_eq, List.cons_append, List.nil_append])
  go_wp2_with fail
  refine bodyPost_ret (v := .agg #[.int .i64 (min (max x (-65536)) 65536), .int .i64 (min (max y (-65536)) 65536)]) (by (try simp only [results, Try.results27]); (try go_simp)) rfl ⟨?_, ?_⟩
  · rfl
  · ((with_reducible (repeat (first | exact bR _ _ | refine bS ?_ ?_ _ | refine bA ?_ ?_ _ | refine bD ?_ | refine bT ?_ (by assumption) ?_ | refine bO (by assumption) ?_ ?_))) <;> (first | omega | (simp; done) | (simp <;> omega)))
end Go.Proofs.Ytgejdaincnclpaa
namespace Go.Proofs.Ytgejdaincnclpaa
open Go Go.RowKit
set_option linter.unusedVariables false
def flatM (l : List Mt) : List Value := l.flatMap Mt.cells
theorem flatM_get {l : List Mt} {k j : Nat} {m : Mt} (h : l[k]? = some m) (hj : j < 10) : (flatM l)[k * 10 + j]? = m.cells[j]? := by
  unfold flatM
  induction l generalizing k with
  | nil => simp at h
  | cons x l ih =>
    rw [List.flatMap_cons]
    have hl : x.cells.length = 10 := rfl
    cases k with
    | zero =>
      simp only [List.getElem?_cons_zero, Option.some.injEq] at h
      subst h
      rw [List.getElem?_append_left (by omega)]
      congr 1
      omega
    | succ k =>
      simp only [List.getElem?_cons_succ] at h
      rw [List.getElem?_append_right (by omega), hl, show (k + 1) * 10 + j - 10 = k * 10 + j by omega]
      exact ih h
def OwnM (w : World) (base : Nat) (A : Option Addr) (c : Nat) (l : List Mt) : Prop := w.ownsRow base 34 10 (.slice A l.length c) l.length (flatM l)
theorem OwnM.nil (w : World) (base : Nat) : OwnM w base none 0 [] := World.ownsRow_nil _ _ _ _
theorem OwnM.mat {w : World} {base : Nat} {A : Option Addr} {c : Nat} {l : List Mt} (h : OwnM w base A c l) : MAt w A l := fun k m hk => by
  have hk' := (List.getElem?_eq_some_iff.1 hk).1
  rcases own_formS h with ⟨hn, _⟩ | ⟨_, g, c', hv, _, hg, _⟩
  · omega
  · simp only [Value.slice.injEq, true_and] at hv
    obtain ⟨rfl, rfl⟩ := hv
    have key : ∀ j, j < 10 → w.cell? ⟨g, 0 + k * 10 + j, none⟩ = m.cells[j]? := fun j hj => by
      rw [Nat.zero_add, World.ownsRow.cellAt h _ (by omega)]
      exact flatM_get hk hj
    exact ⟨g, 0, rfl, hg, key 0 (by omega), key 1 (by omega), key 2 (by omega), key 3 (by omega), key 4 (by omega), key 5 (by omega), key 6 (by omega), key 7 (by omega), key 8 (by omega), key 9 (by omega)⟩
theorem OwnM.fresh {w : World} {base : Nat} {A : Option Addr} {c : Nat} {l : List Mt} (h : OwnM w base A c l) : ∀ k, Value.ownBlock (.slice A l.length c) = some k → base ≤ k := fun k hk => (World.ownsRow.lt h k hk).1
theorem OwnM.low {W : World} {base : Nat} {A : Option Addr} {c : Nat} {l : List Mt} (h : OwnM W base A c l) {p : Addr} (hp : p.block < base) (u : Value) : OwnM (W.setCell p u) base A c l := ownr_low h hp u
theorem OwnM.bel {W W' : World} {base B : Nat} {A : Option Addr} {c : Nat} {l : List Mt} (h : OwnM W base A c l) (hb : Below B W W') (hB : W.heap.size ≤ B) : OwnM W' base A c l := own_below h hb hB
theorem OwnM.alloc {w : World} {base : Nat} {A : Option Addr} {c : Nat} {l : List Mt} (h : OwnM w base A c l) (o : Obj) : OwnM (w.alloc o) base A c l := World.ownsRow.alloc h o
theorem ownm_snoc {w : World} {base : Nat} {v : Value} {l : List Mt} {m : Mt} (h : w.ownsRow base 34 10 v (l.length + 1) (flatM l ++ m.cells)) : ∃ A c, v = .slice A (l ++ [m]).length c ∧ OwnM w base A c (l ++ [m]) := by
  obtain ⟨A, c, rfl⟩ := own_slice h
  refine ⟨A, c, by simp, ?_⟩
  have e : flatM (l ++ [m]) = flatM l ++ m.cells := by simp [flatM]
  unfold OwnM
  rw [e, List.length_append]
  exact h
theorem infM : (Try.prog.info? 34).map (fun i => (i.zero, i.size, i.bytes)) = some (some (.agg #[.int .i64 0, .int .i64 0, .int .i64 0, .int .i64 0, .int .i64 0, .int .i64 0, .int .i64 0, .int .i64 0, .int .i64 0, .int .i64 0]), 10, 80) := by kernel_rfl
theorem cell10 {w : World} {g : Nat} {m : Mt} (c0 : w.cell? ⟨g, 0, none⟩ = some (.int .i64 m.a)) (c1 : w.cell? ⟨g, 1, none⟩ = some (.int .i64 m.b)) (c2 : w.cell? ⟨g, 2, none⟩ = some (.int .i64 m.n1)) (c3 : w.cell? ⟨g, 3, none⟩ = some (.int .i64 m.n2)) (c4 : w.cell? ⟨g, 4, none⟩ = some (.int .i64 m.w1)) (c5 : w.cell? ⟨g, 5, none⟩ = some (.int .i64 m.w2)) (c6 : w.cell? ⟨g, 6, none⟩ = some (.int .i64 m.k1)) (c7 : w.cell? ⟨g, 7, none⟩ = some (.int .i64 m.k2)) (c8 : w.cell? ⟨g, 8, none⟩ = some (.int .i64 m.e)) (c9 : w.cell? ⟨g, 9, none⟩ = some (.int .i64 m.g)) : ∀ j u, m.cells[j]? = some u → w.cell? ⟨g, j, none⟩ = some u := fun j u hj => by
  rcases j with _ | _ | _ | _ | _ | _ | _ | _ | _ | _ | j <;> simp [Mt.cells] at hj <;> (subst hj; assumption)
theorem one10 {m : Mt} : ∀ u ∈ m.cells, u.oneCell' = true := by intro u hu; simp [Mt.cells] at hu; rcases hu with rfl | rfl | rfl | rfl | rfl | rfl | rfl | rfl | rfl | rfl <;> rfl
/-- A row of vectors of one's own. -/
def OwnW (w : World) (base : Nat) (A : Option Addr) (c : Nat) (l : List V2) : Prop := w.ownsRow base 32 2 (.slice A l.length c) l.length (flatV l)
theorem OwnW.vat {w : World} {base : Nat} {A : Option Addr} {c : Nat} {l : List V2} (h : OwnW w base A c l) : VAt w A l := own_vat h
theorem OwnW.low {W : World} {base : Nat} {A : Option Addr} {c : Nat} {l : List V2} (h : OwnW W base A c l) {p : Addr} (hp : p.block < base) (u : Value) : OwnW (W.setCell p u) base A c l := ownr_low h hp u
theorem OwnW.bel {W W' : World} {base B : Nat} {A : Option Addr} {c : Nat} {l : List V2} (h : OwnW W base A c l) (hb : Below B W W') (hB : W.heap.size ≤ B) : OwnW W' base A c l := own_below h hb hB
theorem OwnW.alloc {w : World} {base : Nat} {A : Option Addr} {c : Nat} {l : List V2} (h : OwnW w base A c l) (o : Obj) : OwnW (w.alloc o) base A c l := World.ownsRow.alloc h o
theorem flatV_set {l : List V2} {k : Nat} {x : V2} (hk : k < l.length) : flatV (l.set k x) = ((flatV l).set (k * 2) (.int .i64 x.1)).set (k * 2 + 1) (.int .i64 x.2) := by
  apply List.ext_getElem?
  intro j
  rw [List.getElem?_set, List.getElem?_set]
  have hlen : ((flatV l).set (k * 2) (Value.int .i64 x.1)).length = l.length * 2 := by rw [List.length_set, flatV_len]
  have hlen2 := flatV_len l
  by_cases hj : j < l.length * 2
  · have e : j = j / 2 * 2 + j % 2 := by omega
    have hj2 : j / 2 < l.length := by omega
    obtain ⟨y, hy⟩ : ∃ y, (l.set k x)[j / 2]? = some y := ⟨(l.set k x)[j / 2]'(by simpa using hj2), by simp⟩
    have h1 := flatV_get (j := j % 2) hy (by omega)
    rw [← e] at h1
    rw [h1]
    obtain ⟨z, hz⟩ : ∃ z, l[j / 2]? = some z := ⟨l[j / 2], by simp⟩
    have h2 := flatV_get (j := j % 2) hz (by omega)
    rw [← e] at h2
    rw [List.getElem?_set] at hy
    by_cases ek : k = j / 2
    · rw [if_pos ek, if_pos hk] at hy
      obtain rfl := Option.some.inj hy
      rcases (by omega : j % 2 = 0 ∨ j % 2 = 1) with e0 | e0
      · rw [if_neg (by omega), if_pos (by omega), if_pos (by omega), e0]; rfl
      · rw [if_pos (by omega), if_pos (by omega), e0]; rfl
    · rw [if_neg ek] at hy
      rw [hz] at hy
      obtain rfl := Option.some.inj hy
      rw [if_neg (by omega), if_neg (by omega), h2]
  · rw [List.getElem?_eq_none (by rw [flatV_len, List.length_set]; omega), if_neg (by omega), if_neg (by omega), List.getElem?_eq_none (by omega)]
theorem OwnW.stored {w : World} {base c g k : Nat} {l : List V2} (h : OwnW w base (some ⟨g, 0, none⟩) c l) (hk : k < l.length) (x y : Int) :
    OwnW ((w.setCell ⟨g, k * 2, none⟩ (.int .i64 x)).setCell ⟨g, k * 2 + 1, none⟩ (.int .i64 y)) base (some ⟨g, 0, none⟩) c (l.set k (x, y)) := by
  have h1 := World.ownsRow.stored h (k * 2) (.int .i64 x)
  have h2 := World.ownsRow.stored h1.1 (k * 2 + 1) (.int .i64 y)
  unfold OwnW
  rw [flatV_set hk, List.length_set]
  exact h2.1
-- what Resolve answers
def apprM (v : List V2) (m : Mt) : Bool := apprB (v.getD m.a.toNat (0, 0)).1 (v.getD m.a.toNat (0, 0)).2 (surfM m v).1 (surfM m v).2 m.n1 m.n2
def effL (l : List Mt) (v : List V2) : List Mt := l.filter (apprM v)
theorem effL_take {l : List Mt} {v : List V2} {k : Nat} {m : Mt} (h : l[k]? = some m) : effL (l.take (k + 1)) v = effL (l.take k) v ++ (if apprM v m = true then [m] else []) := by
  unfold effL
  rw [List.take_add_one, h, List.filter_append]
  congr 1
  simp only [Option.toList_some, List.filter_cons, List.filter_nil]
theorem effL_len (l : List Mt) (v : List V2) : (effL l v).length ≤ l.length := List.length_filter_le _ _
def newV (l : List Mt) (v : List V2) (k : Int) : V2 := (clampR (meanR (l.map fun m => aloneR m v k)).1, clampR (meanR (l.map fun m => aloneR m v k)).2)
def putV (l : List Mt) (v : List V2) (bs : List Int) (o : List V2) : List V2 := bs.foldl (fun o b => o.set b.toNat (newV l v b)) o
theorem putV_len (l : List Mt) (v : List V2) : ∀ (bs : List Int) (o : List V2), (putV l v bs o).length = o.length
  | [], o => rfl
  | b :: bs, o => by
    show (putV l v bs (o.set b.toNat (newV l v b))).length = _
    rw [putV_len l v bs, List.length_set]
theorem putV_take {l : List Mt} {v o : List V2} {bs : List Int} {k : Nat} {b : Int} (h : bs[k]? = some b) : putV l v (bs.take (k + 1)) o = (putV l v (bs.take k) o).set b.toNat (newV l v b) := by
  unfold putV
  rw [List.take_add_one, h, List.foldl_append]
  rfl
def chgV (l : List Mt) (v : List V2) (bs : List Int) : Bool := bs.any fun b => decide (¬ newV l v b = v.getD b.toNat (0, 0))
theorem chgV_take {l : List Mt} {v : List V2} {bs : List Int} {k : Nat} {b : Int} (h : bs[k]? = some b) : chgV l v (bs.take (k + 1)) = (chgV l v (bs.take k) || decide (¬ newV l v b = v.getD b.toNat (0, 0))) := by
  unfold chgV
  rw [List.take_add_one, h, List.any_append]
  simp
def ballsE (l : List Mt) (v : List V2) : List Int := setI (ballsL (effL l v))
def resR (l : List Mt) (v : List V2) : List V2 × Bool × Int :=
  if 16 < l.length ∨ 64 < v.length then ([], false, 2)
  else if v.all (nearB 1048576) = true ∧ l.all (fun m => permM m v.length) = true then (putV (effL l v) v (ballsE l v) v, chgV (effL l v) v (ballsE l v), 0)
  else ([], false, 1)
theorem balls_in {l : List Mt} {v : List V2} (hp : ∀ m ∈ l, PermM m v.length) {b : Int} (hb : b ∈ ballsE l v) : 0 ≤ b ∧ b < v.length ∧ 1 ≤ (effL l v).length := by
  unfold ballsE at hb
  rw [setI_mem] at hb
  unfold ballsL at hb
  rw [List.mem_flatMap] at hb
  obtain ⟨m, hm, hb⟩ := hb
  have hl : 1 ≤ (effL l v).length := List.length_pos_of_mem hm
  have := hp m (List.mem_filter.1 hm).1
  obtain ⟨a0, a1, b0, b1, _⟩ := this
  split at hb
  · rw [List.mem_singleton] at hb; subst hb; exact ⟨a0, a1, hl⟩
  · rename_i hne
    simp only [List.mem_cons, List.not_mem_nil, or_false] at hb
    rcases hb with rfl | rfl
    · exact ⟨a0, a1, hl⟩
    · exact ⟨by omega, b1, hl⟩
theorem alls_ok {l : List Mt} {v : List V2} (hp : ∀ m ∈ l, PermM m v.length) (hv : v.all (nearB 1048576) = true) {k : Int} (h0 : 0 ≤ k) (h1 : k < v.length) : ∀ r ∈ (effL l v).map (fun m => aloneR m v k), Val r ∧ Bnd 8388608 r := fun r hr => by
  obtain ⟨m, hm, rfl⟩ := List.mem_map.1 hr
  exact alone_ok (hp m (List.mem_filter.1 hm).1) hv h0 h1
def RsvOut (R : List V2 × Bool × Int) (w : World) (e : Ending) (w' : World) : Prop := Below w.heap.size w w' ∧ ∃ O q, e = .returned (.tuple #[.slice O R.1.length q, .bool R.2.1, .int .i64 R.2.2]) ∧ VAt w' O R.1
theorem map_take_suc {α β : Type} {l : List α} {f : α → β} {k : Nat} {x : α} (h : l[k]? = some x) : (l.take (k + 1)).map f = (l.take k).map f ++ [f x] := by
  rw [List.take_add_one, h, List.map_append]
  rfl
end Go.Proofs.Ytgejdaincnclpaa
namespace Go.Proofs.Ytgejdaincnclpaa
open Go Go.RowKit
set_option linter.unusedVariables false
theorem zuR : ∀ u ∈ (Value.agg #[.bool false, .slice none 0 0, .bool false, .slice none 0 0, .bool false, .slice none 0 0]).cells.toList, ∀ x, u ≠ .int .u32 x := by
  intro u hu x
  simp [Value.cells] at hu
  rcases hu with rfl | rfl | rfl | rfl | rfl | rfl <;> simp
theorem cell6 {w : World} {g : Nat} {v0 v1 v2 v3 v4 v5 : Value} (c0 : w.cell? ⟨g, 0, none⟩ = some v0) (c1 : w.cell? ⟨g, 1, none⟩ = some v1) (c2 : w.cell? ⟨g, 2, none⟩ = some v2) (c3 : w.cell? ⟨g, 3, none⟩ = some v3) (c4 : w.cell? ⟨g, 4, none⟩ = some v4) (c5 : w.cell? ⟨g, 5, none⟩ = some v5) : ∀ j u, [v0, v1, v2, v3, v4, v5][j]? = some u → w.cell? ⟨g, j, none⟩ = some u := fun j u hj => by
  rcases j with _ | _ | _ | _ | _ | _ | j <;> simp at hj <;> (subst hj; assumption)
theorem within_up {a b n m : Int} (h : withinB a b n = true) (hnm : n ≤ m) : withinB a b m = true := by
  simp only [withinB, decide_eq_true_eq] at *; omega
theorem near_sub {l : List V2} {k : Nat} (h : k < l.length) : ∃ y1 y2, l[k]? = some (y1, y2) := ⟨l[k].1, l[k].2, by simp [h]⟩
set_option maxRecDepth 100000 in
set_option maxHeartbeats 40000000 in
theorem resolve_any (l : List Mt) (A : Option Addr) (c : Nat) (v : List V2) (B : Option Addr) (d : Nat) (w : World) (hM : MAt w A l) (hV : VAt w B v) :
    Calls Try.prog 10 #[.slice A l.length c, .slice B v.length d] w (RsvOut (resR l v) w) := by
  have HM := Lib.hid hM
  have HV := Lib.hid hV
  by_cases hs : 16 < l.length ∨ 64 < v.length
  · have hR : resR l v = ([], false, 2) := by unfold resR; rw [if_pos hs]
    rw [hR]
    have hcase : (16 < (l.length : Int)) ∨ (¬ 16 < (l.length : Int) ∧ 64 < (v.length : Int)) := by omega
    clear hs hM hV
    rcases hcase with h | ⟨h, h2⟩
    all_goals
      go_enter Try.func10, Try.ntmps10; (try simp only [List.append_eq, List.cons_append, List.nil_append])
      go_wp2_with fail
      refine bodyPost_ret (v := .tuple #[.slice none 0 0, .bool false, .int .i64 2]) (by (try simp only [results, Try.results10]); (try go_simp)) rfl ⟨?_, ?_⟩
      · exact Below.refl _ _
      · exact ⟨none, 0, rfl, VAt.nil _ _⟩
  · have s1 : ¬ 16 < (l.length : Int) := by omega
    have s2 : ¬ 64 < (v.length : Int) := by omega
    have l1 : l.length ≤ 16 := by omega
    have l2 : v.length ≤ 64 := by omega
    have kw := fun w' (h : Below w.heap.size w w') => cwithin_any 1048576 v B d w' (by omega) (hV.below h (Nat.le_refl _)) (by omega) (by omega)
    obtain ⟨R, hR⟩ : ∃ R, R = resR l v := ⟨_, rfl⟩
    rw [← hR]
    unfold resR at hR
    rw [if_neg hs] at hR
    have HR := Lib.hid hR
    have KW := Lib.hid kw
    clear hs hM hV hR kw
    by_cases hva : v.all (nearB 1048576) = true
    case neg =>
      have hR1 : R = ([], false, 1) := by rw [HR.out, if_neg (fun h => hva h.1)]
      subst hR1
      have hvf : v.all (nearB 1048576) = false := by simpa using hva
      rw [hvf] at KW
      clear HR hva hvf
      go_enter Try.func10, Try.ntmps10; (try simp only [List.append_eq, List.cons_append, List.nil_append])
      go_wp2_with fail
      -- own blocks: 
      (go_at_call 20; refine (KW.out _ (Below.refl _ _)).mono ?_; rintro e w1 ⟨rfl, hb_w1⟩; have hz_w1 := hb_w1.size; (try simp at hz_w1); skip)
      go_wp2_with fail
      refine bodyPost_ret (v := .tuple #[.slice none 0 0, .bool false, .int .i64 1]) (by (try simp only [results, Try.results10]); (try go_simp)) rfl ⟨?_, ?_⟩
      · ((with_reducible (repeat (first | exact bR _ _ | refine bS ?_ ?_ _ | refine bA ?_ ?_ _ | refine bD ?_ | refine bT ?_ (by assumption) ?_ | refine bO (by assumption) ?_ ?_))) <;> (first | omega | (simp; done) | (simp <;> omega)))
      · exact ⟨none, 0, rfl, VAt.nil _ _⟩
    case pos =>
      have HVA := Lib.hid hva
      rw [hva] at KW
      clear hva
      have kp := fun (m : Mt) (w : World) => permitted16_any m v.length w
      have ks := fun (m : Mt) (w' : World) (h : Below w.heap.size w w') (h1 : -1 ≤ m.b) (h2 : m.b < v.length) => surface_any m v B d w' (HV.out.below h (Nat.le_refl _)) h1 h2
      have ka := fun (a b c d e f : Int) (w : World) => approaches_any a b c d e f w
      have KP := Lib.hid kp
      have KS := Lib.hid ks
      have KA := Lib.hid ka
      clear kp ks ka
      go_enter Try.func10, Try.ntmps10; (try simp only [List.append_eq, List.cons_append, List.nil_append])
      go_wp2_with fail
      -- own blocks: 
      (go_at_call 20; refine (KW.out _ (Below.refl _ _)).mono ?_; rintro e w1 ⟨rfl, hb_w1⟩; have hz_w1 := hb_w1.size; (try simp at hz_w1); skip)
      have HB1 := Lib.hid (show Below w.heap.size w w1 by ((with_reducible (repeat (first | exact bR _ _ | refine bS ?_ ?_ _ | refine bA ?_ ?_ _ | refine bD ?_ | refine bT ?_ (by assumption) ?_ | refine bO (by assumption) ?_ ?_))) <;> (first | omega | (simp; done) | (simp <;> omega))))
      clear hb_w1
      go_wp2_with fail
      go_loopw [5, 7, 30] (fun t5 t7 t30 wr => ∃ (k : Nat) (E : Option Addr) (q : Nat), k ≤ l.length ∧ t5 = .bool false ∧ t30 = .int .i64 k ∧ t7 = .slice E (effL (l.take k) v).length q ∧ Hid (OwnM wr w1.heap.size E q (effL (l.take k) v) ∧ Below w1.heap.size w1 wr ∧ ∀ m ∈ l.take k, PermM m v.length)) (fun _ _ t30 _ => l.length - (intOf t30).toNat)
      case atStart => exact ⟨0, none, 0, by omega, rfl, rfl, rfl, Lib.hid ⟨OwnM.nil _ _, Below.refl _ _, fun m hm => by simp at hm⟩⟩
      case round =>
        obtain ⟨k, E, q, hk, rfl, rfl, rfl, HI⟩ := hrel
        obtain ⟨w2, rfl⟩ : ∃ z, z = wr := ⟨_, rfl⟩
        have HB2 := Lib.hid (HB1.out.trans (HI.out.2.1.mono (by have := HB1.out.size; omega)))
        have k1 : (0 : Int) ≤ (k : Int) := by omega
        by_cases hkl : k < l.length
        · have k2 : (k : Int) < (l.length : Int) := by omega
          obtain ⟨m, hm⟩ : ∃ m, l[k]? = some m := ⟨l[k], by simp⟩
          have HMK := Lib.hid hm
          obtain ⟨gm, om, rfl, hgm, m0, m1, m2, m3, m4, m5, m6, m7, m8, m9⟩ := (HM.out.below HB2.out (Nat.le_refl _)) k m hm
          have kp := fun w => KP.out m w
          clear hm
          obtain ⟨pm, hpm⟩ : ∃ b, b = permM m v.length := ⟨_, rfl⟩
          rw [← hpm] at kp
          have KPM := Lib.hid kp
          have HPM := Lib.hid hpm
          clear kp hpm
          cases pm
          · have hR1 : R = ([], false, 1) := by
              rw [HR.out, if_neg]
              rintro ⟨_, h⟩
              have := List.all_eq_true.1 h m (List.mem_of_getElem? HMK.out)
              rw [← HPM.out] at this
              exact absurd this (by decide)
            subst hR1
            obtain ⟨ma, mb, n1, n2, x1, x2, y1, y2, e, f⟩ := m
            simp only [Mt.v] at *
            go_wp2_with fail
            -- own blocks: w2.heap.size:10
            (go_at_call 21; refine (KPM.out _).mono ?_; rintro e w3 ⟨rfl, hb_w3⟩; have hz_w3 := hb_w3.size; (try simp at hz_w3); (with_reducible apply cel10 (b := w2.heap.size) hb_w3); (focus ((try simp) <;> omega)); (focus omega); (focus (go_simp; try exact rfl)); (focus (go_simp; try exact rfl)); (focus (go_simp; try exact rfl)); (focus (go_simp; try exact rfl)); (focus (go_simp; try exact rfl)); (focus (go_simp; try exact rfl)); (focus (go_simp; try exact rfl)); (focus (go_simp; try exact rfl)); (focus (go_simp; try exact rfl)); (focus (go_simp; try exact rfl)); (focus (intro o; go_simp)); intro cc cc cc cc cc cc cc cc cc cc fz hl)
            have HB3 := Lib.hid (show Below w.heap.size w w3 by have hB := HB2.out; have hB2 := hB.size; ((with_reducible (repeat (first | exact bR _ _ | refine bS ?_ ?_ _ | refine bA ?_ ?_ _ | refine bD ?_ | refine bT ?_ (by assumption) ?_ | refine bO (by assumption) ?_ ?_))) <;> (first | omega | (simp; done) | (simp <;> omega))))
            clear hb_w3
            go_wp2_with fail
            refine bodyPost_ret (v := .tuple #[.slice none 0 0, .bool false, .int .i64 1]) (by (try simp only [results, Try.results10]); (try go_simp)) rfl ⟨?_, ?_⟩
            · exact HB3.out
            · exact ⟨none, 0, rfl, VAt.nil _ _⟩
          · have hP := permM_iff.1 HPM.out.symm
            have HP := Lib.hid hP
            obtain ⟨ga, oa, rfl, hga, a0, a1⟩ := vat_cell (HV.out.below HB2.out (Nat.le_refl _)) hP.a0 hP.a1
            have i1 := hP.a0
            have i2 := hP.a1
            have ks := fun w' h => KS.out m w' h hP.b0 hP.b1
            have ka := fun w' => KA.out (v.getD m.a.toNat (0, 0)).1 (v.getD m.a.toNat (0, 0)).2 (surfM m v).1 (surfM m v).2 m.n1 m.n2 w'
            obtain ⟨ap, hap⟩ : ∃ b, b = apprM v m := ⟨_, rfl⟩
            rw [show apprB (v.getD m.a.toNat (0, 0)).1 (v.getD m.a.toNat (0, 0)).2 (surfM m v).1 (surfM m v).2 m.n1 m.n2 = ap by rw [hap]; rfl] at ka
            have HAP := Lib.hid hap
            have HTK := Lib.hid (effL_take (v := v) HMK.out)
            rw [← hap] at HTK
            generalize (v.getD m.a.toNat (0, 0)).1 = va1 at *
            generalize (v.getD m.a.toNat (0, 0)).2 = va2 at *
            generalize (surfM m v).1 = s1' at *
            generalize (surfM m v).2 = s2' at *
            have KSM := Lib.hid ks
            have KAM := Lib.hid ka
            have HPA := Lib.hid (show ∀ x ∈ l.take (k + 1), PermM x v.length from fun x hx => by
              rw [List.take_add_one, HMK.out, List.mem_append] at hx
              rcases hx with hx | hx
              · exact HI.out.2.2 x hx
              · simp only [Option.toList_some, List.mem_singleton] at hx
                subst hx; exact HP.out)
            have hel := effL_len (l.take k) v
            rw [List.length_take] at hel
            generalize effL (l.take k) v = L at *
            clear ks ka hap hP
            obtain ⟨ma, mb, n1, n2, x1, x2, y1, y2, e, f⟩ := m
            simp only [Mt.v] at *
            go_wp2_with fail
            -- own blocks: w2.heap.size:10
            (go_at_call 21; refine (KPM.out _).mono ?_; rintro e w3 ⟨rfl, hb_w3⟩; have hz_w3 := hb_w3.size; (try simp at hz_w3); (with_reducible apply cel10 (b := w2.heap.size) hb_w3); (focus ((try simp) <;> omega)); (focus omega); (focus (go_simp; try exact rfl)); (focus (go_simp; try exact rfl)); (focus (go_simp; try exact rfl)); (focus (go_simp; try exact rfl)); (focus (go_simp; try exact rfl)); (focus (go_simp; try exact rfl)); (focus (go_simp; try exact rfl)); (focus (go_simp; try exact rfl)); (focus (go_simp; try exact rfl)); (focus (go_simp; try exact rfl)); (focus (intro o; go_simp)); intro cc cc cc cc cc cc cc cc cc cc fz hl)
            have HB3 := Lib.hid (show Below w2.heap.size w2 w3 by ((with_reducible (repeat (first | exact bR _ _ | refine bS ?_ ?_ _ | refine bA ?_ ?_ _ | refine bD ?_ | refine bT ?_ (by assumption) ?_ | refine bO (by assumption) ?_ ?_))) <;> (first | omega | (simp; done) | (simp <;> omega))))
            have a0' := (HB3.out.cell (p := ⟨ga, oa + ma.toNat * 2, none⟩) hga).trans a0
            have a1' := (HB3.out.cell (p := ⟨ga, oa + ma.toNat * 2 + 1, none⟩) hga).trans a1
            have hga3 : ga < w3.heap.size := by omega
            clear hb_w3 a0 a1
            go_wp2_with fail
            refine wp_region_warm (Own w3.heap.size w3) (by kernel_rfl) (by kernel_rfl) (Own.refl (Nat.le_refl _)).drew ?_
            repeat (first | (refine wpWarm_step_off rfl (fun K hK => ?_); (go_simp; refine hK _ ?_; clear hK K)) | (apply wpWarm_step rfl; (focus (intro W' hS; have hcS := hS.cells.1; have hfS := hS.cells.2; go_simp; (first | done | exact rfl | exact ⟨rfl, hS⟩ | (go_at_call 23; exact (KSM.out _ (HB2.out.trans ((HB3.out.trans (hS.2.mono (by have := HB3.out.size; omega))).mono (by have := HB2.out.size; omega)))).mono (fun _ _ h => ⟨h.1, hS.call h.2⟩)) | (go_at_call 22; exact (KAM.out _).mono (fun _ _ h => ⟨h.1, hS.call h.2⟩)) | (go_simp; exact rfl)))); (intro K hK; go_simp; (try go_bits); refine hK _ ?_; clear hK K)) | (apply wpWarm_step_on rfl; (focus (intro W' hS; have hcS := hS.cells.1; have hfS := hS.cells.2; go_simp; (first | done | exact rfl | exact ⟨rfl, hS⟩ | (go_at_call 23; exact (KSM.out _ (HB2.out.trans ((HB3.out.trans (hS.2.mono (by have := HB3.out.size; omega))).mono (by have := HB2.out.size; omega)))).mono (fun _ _ h => ⟨h.1, hS.call h.2⟩)) | (go_at_call 22; exact (KAM.out _).mono (fun _ _ h => ⟨h.1, hS.call h.2⟩)) | (go_simp; exact rfl)))); (intro K hK; go_simp; (try go_bits); refine hK _ ?_; clear hK K)))
            (refine wpWarm_nil ?_; intro w4 hO; have hz_w4 := hO.1; have hb_w4 := hO.2; clear hO; (with_reducible apply cel10 (b := w2.heap.size) hb_w4); (focus ((try simp) <;> omega)); (focus omega); (focus (go_simp; try exact rfl)); (focus (go_simp; try exact rfl)); (focus (go_simp; try exact rfl)); (focus (go_simp; try exact rfl)); (focus (go_simp; try exact rfl)); (focus (go_simp; try exact rfl)); (focus (go_simp; try exact rfl)); (focus (go_simp; try exact rfl)); (focus (go_simp; try exact rfl)); (focus (go_simp; try exact rfl)); (focus (intro o; go_simp)); intro cc cc cc cc cc cc cc cc cc cc fz hl)
            have HB4 := Lib.hid (HB3.out.trans (hb_w4.mono (by have := HB3.out.size; omega)))
            clear hb_w4 a0' a1'
            cases ap
            · go_wp2_with fail
              go_roundw
              case rel =>
                have e1 : effL (l.take (k + 1)) v = L := by rw [HTK.out, if_neg (by decide), List.append_nil]
                exact ⟨k + 1, E, q, by omega, rfl, by go_num, by rw [e1], Lib.hid ⟨by rw [e1]; exact HI.out.1.bel HB4.out (Nat.le_refl _), HI.out.2.1.trans (HB4.out.mono (by have := HI.out.2.1.size; omega)), HPA.out⟩⟩
              case measure => simp [intOf]; omega
            · have HO4 := Lib.hid (HI.out.1.bel HB4.out (Nat.le_refl _))
              have hz4 : w1.heap.size ≤ w4.heap.size := by have := HI.out.2.1.size; omega
              go_wp2_with (at_builtin; go_must (refine wpList_append_one rfl _ _ 29 34 _ 10 80 rfl Try.underlying29 infM rfl (by decide) (by decide) w1.heap.size _ L.length (flatM L) (Mt.cells ⟨ma, mb, n1, n2, x1, x2, y1, y2, e, f⟩) rfl (show OwnM _ w1.heap.size E q L by ((repeat (first | (with_reducible exact HO4.out) | (with_reducible refine OwnM.low ?_ ?_ _) | (with_reducible refine OwnM.alloc ?_ _))) <;> first | omega | (simp; done) | (simp <;> omega))) _ 1 rfl rfl (cell10 (m := ⟨ma, mb, n1, n2, x1, x2, y1, y2, e, f⟩) (by go_simp) (by go_simp) (by go_simp) (by go_simp) (by go_simp) (by go_simp) (by go_simp) (by go_simp) (by go_simp) (by go_simp)) one10 (by omega) (by simp; omega) ?_))
              intro v1 w5 hown5 hg5 _
              obtain ⟨E5, q5, rfl, ho5⟩ := ownm_snoc hown5
              have HO5 := Lib.hid ho5
              have HB5 := Lib.hid ((show Below w1.heap.size w1 _ from ((HI.out.2.1.trans (HB4.out.mono (by have := HI.out.2.1.size; omega))).alloc (by omega) _)).grown hg5 (by simp; omega) HO4.out.fresh)
              clear hg5 hown5 ho5
              have e1 : effL (l.take (k + 1)) v = L ++ [⟨ma, mb, n1, n2, x1, x2, y1, y2, e, f⟩] := by rw [HTK.out, if_pos (by first | rfl | trivial)]
              have HE1 := Lib.hid e1
              rw [← e1]
              rw [← e1] at HO5
              clear e1
              go_wp2_with fail
              go_roundw
              case rel => exact ⟨k + 1, E5, q5, by omega, rfl, by go_num, rfl, Lib.hid ⟨HO5.out, HB5.out, HPA.out⟩⟩
              case measure => simp [intOf]; omega
        · obtain rfl : k = l.length := by omega
          have HI' := HI.out
          rw [List.take_length] at HI'
          have HPL := Lib.hid HI'.2.2
          have hR1 : R = (putV (effL l v) v (ballsE l v) v, chgV (effL l v) v (ballsE l v), 0) := by
            rw [HR.out, if_pos ⟨HVA.out, List.all_eq_true.2 fun m hm => permM_iff.2 (HPL.out m hm)⟩]
          subst hR1
          have HBI := Lib.hid (fun b (hb : b ∈ ballsE l v) => balls_in HPL.out hb)
          have hel := effL_len l v
          have HPE := Lib.hid (show ∀ m ∈ effL l v, PermM m v.length from fun m hm => HPL.out m (List.mem_filter.1 hm).1)
          have HAO := Lib.hid (fun (b : Int) h0 h1 => alls_ok (k := b) HPL.out HVA.out h0 h1)
          have HBE := Lib.hid (show ballsE l v = setI (ballsL (effL l v)) from rfl)
          rw [List.take_length]
          generalize ballsE l v = bs at *
          generalize effL l v = F at *
          have hbl : bs.length ≤ 64 := by rw [HBE.out]; have h1 := setI_len (ballsL F); have h2 := ballsL_len F; omega
          have HE := Lib.hid HI'.1.mat
          have kc := fun w' (h : Below w2.heap.size w2 w') => clonev_any v B d w' (by omega) (HV.out.below (HB2.out.trans (h.mono (by have := HB2.out.size; omega))) (Nat.le_refl _))
          have kb := fun w' (h : Below w2.heap.size w2 w') => balls_any F E q w' (HE.out.below h (Nat.le_refl _)) (by omega)
          rw [← HBE.out] at kb
          have KC := Lib.hid kc
          have KB := Lib.hid kb
          clear kc kb HI' HI KW KP KS KA HM HR
          go_wp2_with fail
          -- own blocks: 
          (go_at_call 24; refine (KC.out _ (Below.refl _ _)).mono ?_; rintro e w3 ⟨hb_w3, O, qo, rfl, ho3⟩; have hz_w3 := hb_w3.size; (try simp at hz_w3); skip)
          have HB3 := Lib.hid hb_w3
          have HO3 := Lib.hid (show OwnW w3 w2.heap.size O qo v from ho3)
          have HOG := Lib.hid (show 0 < v.length → ∃ go, O = some ⟨go, 0, none⟩ ∧ w2.heap.size ≤ go ∧ go < w3.heap.size from fun h => by
            rcases own_formS HO3.out with ⟨hn, _⟩ | ⟨_, g, c', hv', _, hg, hb⟩
            · omega
            · simp only [Value.slice.injEq, true_and] at hv'
              exact ⟨g, hv'.1, hb, hg⟩)
          clear hb_w3 ho3
          go_wp2_with fail
          (go_at_call 13; refine (KB.out _ HB3.out).mono ?_; rintro e w4 ⟨hb_w4, G, qg, rfl, hg4⟩; have hz_w4 := hb_w4.size; (try simp at hz_w4); skip)
          have HB4 := Lib.hid (HB3.out.trans (hb_w4.mono (by have := HB3.out.size; omega)))
          have HO4 := Lib.hid (HO3.out.bel hb_w4 (Nat.le_refl _))
          have HG4 := Lib.hid hg4
          have hz3 := HB3.out.size
          clear hb_w4 hg4 KC KB
          go_wp2_with fail
          go_loopw [5, 60] (fun t5 t60 wr => ∃ (j : Nat), j ≤ bs.length ∧ t60 = .int .i64 j ∧ t5 = .bool (chgV F v (bs.take j)) ∧ Hid (OwnW wr w2.heap.size O qo (putV F v (bs.take j) v) ∧ OwnI wr w3.heap.size G qg bs ∧ Below w2.heap.size w2 wr ∧ w3.heap.size ≤ wr.heap.size)) (fun _ t60 _ => bs.length - (intOf t60).toNat)
          case atStart => exact ⟨0, by omega, rfl, rfl, Lib.hid ⟨HO4.out, HG4.out, HB4.out, hz_w4⟩⟩
          case round =>
            clear HO4 HG4 HB4 HO3 HB3
            obtain ⟨j, hj, rfl, rfl, HJ⟩ := hrel
            obtain ⟨w5, rfl⟩ : ∃ z, z = wr := ⟨_, rfl⟩
            have j1 : (0 : Int) ≤ (j : Int) := by omega
            by_cases hjl : j < bs.length
            · have j2 : (j : Int) < (bs.length : Int) := by omega
              obtain ⟨b, hb⟩ : ∃ b, bs[j]? = some b := ⟨bs[j], by simp⟩
              obtain ⟨b0, b1, hF1⟩ := HBI.out b (List.mem_of_getElem? hb)
              have HBJ := Lib.hid hb
              obtain ⟨gb, ob, rfl, hgb, cb⟩ := HJ.out.2.1.iat j b hb
              obtain ⟨gv, ov, rfl, hgv, v0, v1⟩ := vat_cell HV.out b0 b1
              have HB5 := Lib.hid (HB2.out.trans (HJ.out.2.2.1.mono (by have := HB2.out.size; omega)))
              have hvl : 0 < v.length := by omega
              obtain ⟨go, hOO, hgo, hgo2⟩ := HOG.out hvl
              subst hOO
              have HTA := Lib.hid (putV_take (l := F) (v := v) (o := v) hb)
              have HTC := Lib.hid (chgV_take (l := F) (v := v) hb)
              have kal := fun (m : Mt) (hp : PermM m v.length) (w' : World) (h : Below w5.heap.size w5 w') => alone_any m v (some ⟨gv, ov, none⟩) d b w' (HV.out.below (HB5.out.trans (h.mono (by have := HB5.out.size; omega))) (Nat.le_refl _)) hp HVA.out b0 b1
              have KAL := Lib.hid kal
              have hPl : (putV F v (bs.take j) v).length = v.length := putV_len _ _ _ _
              clear hb kal
              go_wp2_with fail
              go_loopw [12, 66] (fun t12 t66 wr => ∃ (k : Nat) (A' : Option Addr) (c' : Nat) (xs : List Value), k ≤ F.length ∧ t66 = .int .i64 k ∧ t12 = .slice A' ((F.take k).map fun m => aloneR m v b).length c' ∧ Hid (RsOwn wr w5.heap.size A' c' ((F.take k).map fun m => aloneR m v b) xs ∧ Below w5.heap.size w5 wr)) (fun _ t66 _ => F.length - (intOf t66).toNat)
              case atStart => exact ⟨0, none, 0, [], by omega, rfl, rfl, Lib.hid ⟨RsOwn.nil _ _, Below.refl _ _⟩⟩
              case round =>
                obtain ⟨k, A', c', xs, hk, rfl, rfl, HK⟩ := hrel
                obtain ⟨w6, rfl⟩ : ∃ z, z = wr := ⟨_, rfl⟩
                have k1 : (0 : Int) ≤ (k : Int) := by omega
                have HB6 := Lib.hid (HJ.out.2.2.1.trans (HK.out.2.mono (by have := HJ.out.2.2.1.size; omega)))
                by_cases hkl : k < F.length
                · have k2 : (k : Int) < (F.length : Int) := by omega
                  obtain ⟨m, hm⟩ : ∃ m, F[k]? = some m := ⟨F[k], by simp⟩
                  obtain ⟨gm, om, rfl, hgm, m0, m1, m2, m3, m4, m5, m6, m7, m8, m9⟩ := (HE.out.below HB6.out (Nat.le_refl _)) k m hm
                  have ka := fun w' h => KAL.out m (HPE.out m (List.mem_of_getElem? hm)) w' h
                  have HTK := Lib.hid (show ((F.take (k + 1)).map fun m => aloneR m v b) = ((F.take k).map fun m => aloneR m v b) ++ [aloneR m v b] from map_take_suc (f := fun m => aloneR m v b) hm)
                  have hml : ((F.take k).map fun m => aloneR m v b).length ≤ 16 := by rw [List.length_map, List.length_take]; omega
                  unfold TOut at ka
                  generalize ((F.take k).map fun m => aloneR m v b) = L at *
                  generalize aloneR m v b = r at *
                  have KA := Lib.hid ka
                  clear hm ka
                  obtain ⟨ma, mb, n1, n2, x1, x2, y1, y2, e, f⟩ := m
                  simp only [Mt.v] at *
                  go_wp2_with fail
                  -- own blocks: w6.heap.size:10
                  (go_at_call 25; refine (KA.out _ (HK.out.2.trans (show Below w5.heap.size w6 _ by have := HK.out.2.size; ((with_reducible (repeat (first | exact bR _ _ | refine bS ?_ ?_ _ | refine bA ?_ ?_ _ | refine bD ?_ | refine bT ?_ (by assumption) ?_ | refine bO (by assumption) ?_ ?_))) <;> (first | omega | (simp; done) | (simp <;> omega)))))).mono ?_; rintro e w7 ⟨hb_w7, vr, rfl, hvr⟩; have hz_w7 := hb_w7.size; (try simp at hz_w7); (with_reducible apply cel10 (b := w6.heap.size) hb_w7); (focus ((try simp) <;> omega)); (focus omega); (focus (go_simp; try exact rfl)); (focus (go_simp; try exact rfl)); (focus (go_simp; try exact rfl)); (focus (go_simp; try exact rfl)); (focus (go_simp; try exact rfl)); (focus (go_simp; try exact rfl)); (focus (go_simp; try exact rfl)); (focus (go_simp; try exact rfl)); (focus (go_simp; try exact rfl)); (focus (go_simp; try exact rfl)); (focus (intro o; go_simp)); intro cc cc cc cc cc cc cc cc cc cc fz hl)
                  obtain ⟨spx, Apx, npx, cpx, spy, Apy, npy, cpy, spd, Apd, npd, cpd, rfl⟩ := RAt.val hvr
                  have HR7 := Lib.hid (HK.out.1.below (show Below w6.heap.size w6 w7 by ((with_reducible (repeat (first | exact bR _ _ | refine bS ?_ ?_ _ | refine bA ?_ ?_ _ | refine bD ?_ | refine bT ?_ (by assumption) ?_ | refine bO (by assumption) ?_ ?_))) <;> (first | omega | (simp; done) | (simp <;> omega)))))
                  have HB7 := Lib.hid (HK.out.2.trans (show Below w5.heap.size w6 w7 by have := HK.out.2.size; ((with_reducible (repeat (first | exact bR _ _ | refine bS ?_ ?_ _ | refine bA ?_ ?_ _ | refine bD ?_ | refine bT ?_ (by assumption) ?_ | refine bO (by assumption) ?_ ?_))) <;> (first | omega | (simp; done) | (simp <;> omega)))))
                  have HV7 := Lib.hid hvr
                  have hz7 : w5.heap.size ≤ w7.heap.size := HB7.out.size
                  clear hb_w7 hvr
                  go_wp2_with (at_builtin; go_must (refine wpList_append_u rfl _ _ 64 66 _ 6 96 rfl Try.underlying64 infR rfl zuR (by decide) (by decide) w5.heap.size _ L.length xs [.bool spx, .slice Apx npx cpx, .bool spy, .slice Apy npy cpy, .bool spd, .slice Apd npd cpd] rfl (HR7.out.1.below ((Below.refl _ _).alloc (Nat.le_refl _) _) (Nat.le_refl _)) _ 1 rfl rfl (cell6 (by go_simp) (by go_simp) (by go_simp) (by go_simp) (by go_simp) (by go_simp)) (by intro u hu; simp at hu; rcases hu with rfl | rfl | rfl | rfl | rfl | rfl <;> rfl) (by intro u hu x; simp at hu; rcases hu with rfl | rfl | rfl | rfl | rfl | rfl <;> simp) (by omega) (by simp; omega) ?_))
                  intro v1' w8 hown8 hg8 hk8
                  obtain ⟨A8, c8, rfl, hrs8⟩ := RsOwn.snoc (r := r) (HR7.out.below ((Below.refl _ _).alloc (Nat.le_refl _) _)) (HV7.out.al _) hown8 hk8
                  have HRS8 := Lib.hid hrs8
                  have HB8 := Lib.hid ((HB7.out.alloc hz7 _).grown hg8 (by simp; omega) (fun b hb => (HR7.out.1.own.lt b hb).1))
                  clear hg8 hk8 hown8 hrs8
                  go_wp2_with fail
                  go_roundw
                  case rel => exact ⟨k + 1, A8, c8, _, by omega, by go_num, by rw [HTK.out], Lib.hid ⟨by rw [HTK.out]; exact HRS8.out, HB8.out⟩⟩
                  case measure => simp [intOf]; omega
                · obtain rfl : k = F.length := by omega
                  have HK' := HK.out
                  rw [List.take_length] at HK' ⊢
                  have HRA := Lib.hid HK'.1.at
                  have HB6' := Lib.hid HK'.2
                  have HNV := Lib.hid (show newV F v b = (clampR (meanR (F.map fun m => aloneR m v b)).1, clampR (meanR (F.map fun m => aloneR m v b)).2) from rfl)
                  have hall := HAO.out b b0 b1
                  have kt := fun w' (h : Below w6.heap.size w6 w') => trunc_ok (F.map fun m => aloneR m v b) A' c' w' (by rw [List.length_map]; exact hF1) (by rw [List.length_map]; omega) (HRA.out.below h) (fun r hr => (hall r hr).1) (within_up (mean_within (by rw [List.length_map]; exact hF1) (fun r hr => ⟨(hall r hr).1.d, (hall r hr).2⟩)) (by omega))
                  clear hall HK HK'
                  generalize (meanR (F.map fun m => aloneR m v b)).1 = mx at *
                  generalize (meanR (F.map fun m => aloneR m v b)).2 = my at *
                  generalize (F.map fun m => aloneR m v b) = L at *
                  have KT := Lib.hid kt
                  have kl := fun w => limited_any mx my w
                  obtain ⟨X, hX⟩ : ∃ X, X = clampR mx := ⟨_, rfl⟩
                  obtain ⟨Y, hY⟩ : ∃ Y, Y = clampR my := ⟨_, rfl⟩
                  rw [← hX, ← hY] at kl HNV
                  have KL := Lib.hid kl
                  clear kt kl hX hY
                  go_wp2_with fail
                  -- own blocks: 
                  (go_at_call 26; refine (KT.out _ (Below.refl _ _)).mono ?_; rintro e w7 ⟨rfl, hb_w7⟩; have hz_w7 := hb_w7.size; (try simp at hz_w7); skip)
                  have HB7 := Lib.hid (HB6'.out.trans (hb_w7.mono (by have := HB6'.out.size; omega)))
                  clear hb_w7
                  go_wp2_with fail
                  -- own blocks: w7.heap.size:2
                  have hz57 := HB7.out.size
                  (go_at_call 27; refine (KL.out _).mono ?_; rintro e w8 ⟨rfl, hb_w8⟩; have hz_w8 := hb_w8.size; (try simp at hz_w8); (with_reducible apply cel2 (b := w7.heap.size) hb_w8); (focus ((try simp) <;> omega)); (focus omega); (focus (go_simp; try exact rfl)); (focus (go_simp; try exact rfl)); (focus (intro o; go_simp)); intro cc cc fz hl)
                  have HB8 := Lib.hid (HB7.out.trans (show Below w5.heap.size w7 w8 by ((with_reducible (repeat (first | exact bR _ _ | refine bS ?_ ?_ _ | refine bA ?_ ?_ _ | refine bD ?_ | refine bT ?_ (by assumption) ?_ | refine bO (by assumption) ?_ ?_))) <;> (first | omega | (simp; done) | (simp <;> omega)))))
                  have hz58 := HB8.out.size
                  clear hb_w8
                  have hO8 := HJ.out.1.bel HB8.out (Nat.le_refl _)
                  obtain ⟨y1, y2, hy⟩ := near_sub (l := putV F v (bs.take j) v) (k := b.toNat) (by rw [hPl]; omega)
                  have hat := hO8.vat _ _ hy
                  obtain ⟨g', o', eg, hg', o0, o1⟩ := hat
                  obtain ⟨rfl, rfl⟩ : go = g' ∧ 0 = o' := by simpa using eg
                  have ofz : ∀ o, w8.frozen? ⟨go, o, none⟩ = false := fun o => World.ownsRow.frozenAt hO8 o
                  have HO8 := Lib.hid hO8
                  rw [Nat.zero_add] at o0 o1
                  simp only at o0 o1
                  have hgv8 : gv < w8.heap.size := by have := HB5.out.size; omega
                  have v0' : w8.cell? ⟨gv, ov + b.toNat * 2, none⟩ = _ := ((HB5.out.trans (HB8.out.mono (by have := HB5.out.size; omega))).cell (p := ⟨gv, ov + b.toNat * 2, none⟩) hgv).trans v0
                  have v1' : w8.cell? ⟨gv, ov + b.toNat * 2 + 1, none⟩ = _ := ((HB5.out.trans (HB8.out.mono (by have := HB5.out.size; omega))).cell (p := ⟨gv, ov + b.toNat * 2 + 1, none⟩) hgv).trans v1
                  have hww := HB2.out.size
                  have hne : ¬ gv = go := by omega
                  have hne2 : ¬ go = gv := by omega
                  have i1 : b < ((putV F v (bs.take j) v).length : Int) := by rw [hPl]; exact b1
                  have HST := Lib.hid (OwnW.stored hO8 (k := b.toNat) (by rw [hPl]; omega) X Y)
                  rw [← HNV.out, ← HTA.out] at HST
                  clear hO8 hy eg
                  have HVD := Lib.hid (show v.getD b.toNat (0, 0) = ((v.getD b.toNat (0, 0)).1, (v.getD b.toNat (0, 0)).2) from rfl)
                  generalize hch : chgV F v (bs.take j) = ch at *
                  generalize (v.getD b.toNat (0, 0)).1 = p at *
                  generalize (v.getD b.toNat (0, 0)).2 = q' at *
                  have HI8 := Lib.hid (HJ.out.2.1.bel HB8.out (Nat.le_refl _))
                  have HB28 := Lib.hid (HJ.out.2.2.1.trans (HB8.out.mono (by have := HJ.out.2.2.1.size; omega)))
                  have hgo8 : go < w8.heap.size := hg'
                  have h35 := HJ.out.2.2.2
                  go_wp2_with fail
                  clear hch
                  (refine pin_wp (N := _) (Nat.le_refl _) (fun w9 hb_w9 hz_w9 => ?_); (try simp at hz_w9))
                  have p0 : w9.cell? ⟨go, b.toNat * 2, none⟩ = some (.int .i64 X) := (hb_w9.cell (by simp; omega)).trans (by go_simp)
                  have p1 : w9.cell? ⟨go, b.toNat * 2 + 1, none⟩ = some (.int .i64 Y) := (hb_w9.cell (by simp; omega)).trans (by go_simp)
                  have q0 : w9.cell? ⟨gv, ov + b.toNat * 2, none⟩ = some (.int .i64 p) := (hb_w9.cell (by simp; omega)).trans (by go_simp)
                  have q1 : w9.cell? ⟨gv, ov + b.toNat * 2 + 1, none⟩ = some (.int .i64 q') := (hb_w9.cell (by simp; omega)).trans (by go_simp)
                  have HO9 := Lib.hid (HST.out.bel hb_w9 (Nat.le_refl _))
                  have HI9 := Lib.hid (((HI8.out.low (p := ⟨go, b.toNat * 2, none⟩) hgo2 (.int .i64 X)).low (p := ⟨go, b.toNat * 2 + 1, none⟩) hgo2 (.int .i64 Y)).bel hb_w9 (Nat.le_refl _))
                  have HB9 := Lib.hid (((HB28.out.setCell (p := ⟨go, b.toNat * 2, none⟩) hgo (.int .i64 X)).setCell (p := ⟨go, b.toNat * 2 + 1, none⟩) hgo (.int .i64 Y)).trans (hb_w9.mono (by have := HB28.out.size; simp; omega)))
                  have hgo9 : go < w9.heap.size := by omega
                  have hgv9 : gv < w9.heap.size := by omega
                  clear o0 o1 v0' v1' v0 v1 hb_w9 ofz cb hgo8 hgv8 hg'
                  have hcase : ch = true ∨ (ch = false ∧ ¬ X = p) ∨ (ch = false ∧ X = p ∧ ¬ Y = q') ∨ (ch = false ∧ X = p ∧ Y = q') := by
                    cases ch
                    · by_cases h1 : X = p
                      · by_cases h2 : Y = q'
                        · exact .inr (.inr (.inr ⟨rfl, h1, h2⟩))
                        · exact .inr (.inr (.inl ⟨rfl, h1, h2⟩))
                      · exact .inr (.inl ⟨rfl, h1⟩)
                    · exact .inl rfl
                  have HCC := Lib.hid HTC.out
                  rw [HNV.out, HVD.out] at HCC
                  clear HTC HNV HVD HTA HST
                  rcases hcase with rfl | ⟨rfl, hx1⟩ | ⟨rfl, rfl, hx1⟩ | ⟨rfl, rfl, rfl⟩
                  all_goals
                    refine wp_region_warm (Own w9.heap.size w9) (by kernel_rfl) (by kernel_rfl) (Own.refl (Nat.le_refl _)).drew ?_
                    repeat (first | (refine wpWarm_step_off rfl (fun K hK => ?_); (go_simp; refine hK _ ?_; clear hK K)) | (apply wpWarm_step rfl; (focus (intro W' hS; have hcS := hS.cells.1; have hfS := hS.cells.2; go_simp; (first | done | exact rfl | exact ⟨rfl, hS⟩ | (go_simp; exact rfl)))); (intro K hK; go_simp; (try go_bits); refine hK _ ?_; clear hK K)) | (apply wpWarm_step_on rfl; (focus (intro W' hS; have hcS := hS.cells.1; have hfS := hS.cells.2; go_simp; (first | done | exact rfl | exact ⟨rfl, hS⟩ | (go_simp; exact rfl)))); (intro K hK; go_simp; (try go_bits); refine hK _ ?_; clear hK K)))
                    -- own blocks: 
                    (refine wpWarm_nil ?_; intro w10 hO; have hz_w10 := hO.1; have hb_w10 := hO.2; clear hO; skip)
                    have HB10 := Lib.hid (HB9.out.trans (hb_w10.mono (by have := HB9.out.size; omega)))
                    have HO10 := Lib.hid (HO9.out.bel hb_w10 (Nat.le_refl _))
                    have HI10 := Lib.hid (HI9.out.bel hb_w10 (Nat.le_refl _))
                    have hz310 : w3.heap.size ≤ w10.heap.size := by omega
                    clear hb_w10 p0 p1 q0 q1
                    go_wp2_with fail
                    go_roundw
                    case rel => exact ⟨j + 1, by omega, by go_num, by rw [HCC.out]; simp_all, Lib.hid ⟨HO10.out, HI10.out, HB10.out, hz310⟩⟩
                    case measure => simp [intOf]; omega
            · obtain rfl : j = bs.length := by omega
              have HJ' := HJ.out
              rw [List.take_length] at HJ' ⊢
              have hPl : (putV F v bs v).length = v.length := putV_len _ _ _ _
              have HO9 := Lib.hid HJ'.1
              have HB9 := Lib.hid (HB2.out.trans (HJ'.2.2.1.mono (by have := HB2.out.size; omega)))
              clear HJ HJ' HBI HAO HPE
              go_wp2_with fail
              refine bodyPost_ret (v := .tuple #[.slice O v.length qo, .bool (chgV F v bs), .int .i64 0]) (by (try simp only [results, Try.results10]); (try go_simp)) rfl ⟨?_, ?_⟩
              · exact HB9.out
              · exact ⟨O, qo, by rw [hPl], HO9.out.vat⟩
end Go.Proofs.Ytgejdaincnclpaa
namespace Go.Proofs.Ytgejdaincnclpaa
open Go Go.RowKit
set_option linter.unusedVariables false
def hasB (x : Ct) (n : Int) : Bool := x.b == n || (x.k == 5 && x.i == n)
def shareB (x y : Ct) : Bool := hasB x y.b || (y.k == 5 && hasB x y.i)
theorem shareB_symm (x y : Ct) : shareB x y = shareB y x := by
  rw [Bool.eq_iff_iff]
  unfold shareB hasB
  simp only [Bool.or_eq_true, Bool.and_eq_true, beq_iff_eq]
  constructor <;> (intro h; omega)
set_option maxHeartbeats 1000000 in
theorem share1_any (x : Ct) (n : Int) (w : World) :
    Calls Try.prog 31 #[x.v, .int .i64 n] w fun e w' => e = .returned (.bool (hasB x n)) ∧ Below w.heap.size w w' := by
  obtain ⟨b, k, i, r0, r1, r2, r3, r4, r5, r6⟩ := x
  unfold hasB Ct.v
  simp only
  go_enter Try.func31, Try.ntmps31; (try simp only [List.append_eq, List.cons_append, List.nil_append])
  cases h1 : (b == n) <;> cases h2 : (k == 5) <;> cases h3 : (i == n)
  all_goals
    go_wp2
    go_ret
    exact ⟨rfl, by ((with_reducible (repeat (first | exact bR _ _ | refine bS ?_ ?_ _ | refine bA ?_ ?_ _ | refine bD ?_ | refine bT ?_ (by assumption) ?_ | refine bO (by assumption) ?_ ?_))) <;> (first | omega | (simp; done) | (simp <;> omega)))⟩
set_option maxHeartbeats 2000000 in
theorem share_any (x y : Ct) (w : World) :
    Calls Try.prog 17 #[x.v, y.v] w fun e w' => e = .returned (.bool (shareB x y)) ∧ Below w.heap.size w w' := by
  have k1 := fun w => share1_any x y.b w
  have k2 := fun w => share1_any x y.i w
  unfold shareB
  generalize hasB x y.b = c1 at *
  generalize hasB x y.i = c2 at *
  obtain ⟨b, k, i, r0, r1, r2, r3, r4, r5, r6⟩ := x
  obtain ⟨b', k', i', q0, q1, q2, q3, q4, q5, q6⟩ := y
  simp only [Ct.v] at *
  have K1 := Lib.hid k1
  have K2 := Lib.hid k2
  clear k1 k2
  cases c1
  · cases h5 : (k' == 5)
    · go_enter Try.func17, Try.ntmps17; (try simp only [List.append_eq, List.cons_append, List.nil_append])
      go_wp2_with fail
      -- own blocks: w.heap.size:10, w.heap.size + 1:10
      (go_at_call 31; refine (K1.out _).mono ?_; rintro e w1 ⟨rfl, hb_w1⟩; have hz_w1 := hb_w1.size; (try simp at hz_w1); (with_reducible apply cel10 (b := w.heap.size) hb_w1); (focus ((try simp) <;> omega)); (focus omega); (focus (go_simp; try exact rfl)); (focus (go_simp; try exact rfl)); (focus (go_simp; try exact rfl)); (focus (go_simp; try exact rfl)); (focus (go_simp; try exact rfl)); (focus (go_simp; try exact rfl)); (focus (go_simp; try exact rfl)); (focus (go_simp; try exact rfl)); (focus (go_simp; try exact rfl)); (focus (go_simp; try exact rfl)); (focus (intro o; go_simp)); intro cc cc cc cc cc cc cc cc cc cc fz hl; (with_reducible apply cel10 (b := w.heap.size + 1) hb_w1); (focus ((try simp) <;> omega)); (focus omega); (focus (go_simp; try exact rfl)); (focus (go_simp; try exact rfl)); (focus (go_simp; try exact rfl)); (focus (go_simp; try exact rfl)); (focus (go_simp; try exact rfl)); (focus (go_simp; try exact rfl)); (focus (go_simp; try exact rfl)); (focus (go_simp; try exact rfl)); (focus (go_simp; try exact rfl)); (focus (go_simp; try exact rfl)); (focus (intro o; go_simp)); intro cc cc cc cc cc cc cc cc cc cc fz hl)
      go_wp2_with fail
      go_ret
      exact ⟨rfl, by ((with_reducible (repeat (first | exact bR _ _ | refine bS ?_ ?_ _ | refine bA ?_ ?_ _ | refine bD ?_ | refine bT ?_ (by assumption) ?_ | refine bO (by assumption) ?_ ?_))) <;> (first | omega | (simp; done) | (simp <;> omega)))⟩
    · go_enter Try.func17, Try.ntmps17; (try simp only [List.append_eq, List.cons_append, List.nil_append])
      go_wp2_with fail
      -- own blocks: w.heap.size:10, w.heap.size + 1:10
      (go_at_call 31; refine (K1.out _).mono ?_; rintro e w1 ⟨rfl, hb_w1⟩; have hz_w1 := hb_w1.size; (try simp at hz_w1); (with_reducible apply cel10 (b := w.heap.size) hb_w1); (focus ((try simp) <;> omega)); (focus omega); (focus (go_simp; try exact rfl)); (focus (go_simp; try exact rfl)); (focus (go_simp; try exact rfl)); (focus (go_simp; try exact rfl)); (focus (go_simp; try exact rfl)); (focus (go_simp; try exact rfl)); (focus (go_simp; try exact rfl)); (focus (go_simp; try exact rfl)); (focus (go_simp; try exact rfl)); (focus (go_simp; try exact rfl)); (focus (intro o; go_simp)); intro cc cc cc cc cc cc cc cc cc cc fz hl; (with_reducible apply cel10 (b := w.heap.size + 1) hb_w1); (focus ((try simp) <;> omega)); (focus omega); (focus (go_simp; try exact rfl)); (focus (go_simp; try exact rfl)); (focus (go_simp; try exact rfl)); (focus (go_simp; try exact rfl)); (focus (go_simp; try exact rfl)); (focus (go_simp; try exact rfl)); (focus (go_simp; try exact rfl)); (focus (go_simp; try exact rfl)); (focus (go_simp; try exact rfl)); (focus (go_simp; try exact rfl)); (focus (intro o; go_simp)); intro cc cc cc cc cc cc cc cc cc cc fz hl)
      go_wp2_with fail
      (go_at_call 31; refine (K2.out _).mono ?_; rintro e w2 ⟨rfl, hb_w2⟩; have hz_w2 := hb_w2.size; (try simp at hz_w2); (with_reducible apply cel10 (b := w.heap.size) hb_w2); (focus ((try simp) <;> omega)); (focus omega); (focus (go_simp; try exact rfl)); (focus (go_simp; try exact rfl)); (focus (go_simp; try exact rfl)); (focus (go_simp; try exact rfl)); (focus (go_simp; try exact rfl)); (focus (go_simp; try exact rfl)); (focus (go_simp; try exact rfl)); (focus (go_simp; try exact rfl)); (focus (go_simp; try exact rfl)); (focus (go_simp; try exact rfl)); (focus (intro o; go_simp)); intro cc cc cc cc cc cc cc cc cc cc fz hl; (with_reducible apply cel10 (b := w.heap.size + 1) hb_w2); (focus ((try simp) <;> omega)); (focus omega); (focus (go_simp; try exact rfl)); (focus (go_simp; try exact rfl)); (focus (go_simp; try exact rfl)); (focus (go_simp; try exact rfl)); (focus (go_simp; try exact rfl)); (focus (go_simp; try exact rfl)); (focus (go_simp; try exact rfl)); (focus (go_simp; try exact rfl)); (focus (go_simp; try exact rfl)); (focus (go_simp; try exact rfl)); (focus (intro o; go_simp)); intro cc cc cc cc cc cc cc cc cc cc fz hl)
      cases c2
      all_goals
        go_wp2_with fail
        go_ret
        exact ⟨rfl, by ((with_reducible (repeat (first | exact bR _ _ | refine bS ?_ ?_ _ | refine bA ?_ ?_ _ | refine bD ?_ | refine bT ?_ (by assumption) ?_ | refine bO (by assumption) ?_ ?_))) <;> (first | omega | (simp; done) | (simp <;> omega)))⟩
  · go_enter Try.func17, Try.ntmps17; (try simp only [List.append_eq, List.cons_append, List.nil_append])
    go_wp2_with fail
    -- own blocks: w.heap.size:10, w.heap.size + 1:10
    (go_at_call 31; refine (K1.out _).mono ?_; rintro e w1 ⟨rfl, hb_w1⟩; have hz_w1 := hb_w1.size; (try simp at hz_w1); (with_reducible apply cel10 (b := w.heap.size) hb_w1); (focus ((try simp) <;> omega)); (focus omega); (focus (go_simp; try exact rfl)); (focus (go_simp; try exact rfl)); (focus (go_simp; try exact rfl)); (focus (go_simp; try exact rfl)); (focus (go_simp; try exact rfl)); (focus (go_simp; try exact rfl)); (focus (go_simp; try exact rfl)); (focus (go_simp; try exact rfl)); (focus (go_simp; try exact rfl)); (focus (go_simp; try exact rfl)); (focus (intro o; go_simp)); intro cc cc cc cc cc cc cc cc cc cc fz hl; (with_reducible apply cel10 (b := w.heap.size + 1) hb_w1); (focus ((try simp) <;> omega)); (focus omega); (focus (go_simp; try exact rfl)); (focus (go_simp; try exact rfl)); (focus (go_simp; try exact rfl)); (focus (go_simp; try exact rfl)); (focus (go_simp; try exact rfl)); (focus (go_simp; try exact rfl)); (focus (go_simp; try exact rfl)); (focus (go_simp; try exact rfl)); (focus (go_simp; try exact rfl)); (focus (go_simp; try exact rfl)); (focus (intro o; go_simp)); intro cc cc cc cc cc cc cc cc cc cc fz hl)
    go_wp2_with fail
    go_ret
    exact ⟨rfl, by ((with_reducible (repeat (first | exact bR _ _ | refine bS ?_ ?_ _ | refine bA ?_ ?_ _ | refine bD ?_ | refine bT ?_ (by assumption) ?_ | refine bO (by assumption) ?_ ?_))) <;> (first | omega | (simp; done) | (simp <;> omega)))⟩
end Go.Proofs.Ytgejdaincnclpaa
