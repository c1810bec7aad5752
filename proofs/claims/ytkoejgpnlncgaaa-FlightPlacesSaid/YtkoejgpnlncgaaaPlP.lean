/- The places of a flight stay in the box: plain. And the value of a polynomial at j / 16: plain. -/
import Derived.Test.YtkoejgpnlncgaaaFlight
import Derived.Test.YtkoejgpnlncgaaaPol
namespace Go.Proofs.Ytkoejgpnlncgaaa
open Go Go.RowKit
set_option linter.unusedVariables false
def place (p v g j : Int) : Int := 256 * p + 16 * j * v + j * j * g
theorem place_lo {p v g j : Int} (j1 : 0 ≤ j) (j2 : j ≤ 16) : 256 * exLo p v g ≤ place p v g j := by
  have hjj : 0 ≤ j * (16 - j) := Int.mul_nonneg j1 (by omega)
  have hj2 : 0 ≤ j * j := Int.mul_nonneg j1 j1
  have lin : g ≤ 0 → 256 * min p (p + v + g) ≤ place p v g j := fun hg => by
    have h1 : 0 ≤ j * (16 - j) * (-g) := Int.mul_nonneg hjj (by omega)
    have h2 : 0 ≤ (16 - j) * (p - min p (p + v + g)) := Int.mul_nonneg (by omega) (by omega)
    have h3 : 0 ≤ j * (p + v + g - min p (p + v + g)) := Int.mul_nonneg j1 (by omega)
    unfold place
    generalize min p (p + v + g) = m at *
    grind
  have up : 0 ≤ v → 0 ≤ g → 256 * min p (p + v + g) ≤ place p v g j := fun hv hg => by
    have h1 : 0 ≤ j * v := Int.mul_nonneg j1 hv
    have h2 : 0 ≤ j * j * g := Int.mul_nonneg hj2 hg
    have h3 : min p (p + v + g) ≤ p := by omega
    unfold place
    rw [Int.mul_assoc 16]
    omega
  have down : 0 ≤ g → v ≤ -(2 * g) → 256 * min p (p + v + g) ≤ place p v g j := fun hg hv => by
    have h0 : j * g ≤ 16 * g := Int.mul_le_mul_of_nonneg_right j2 hg
    have h1 : 0 ≤ (16 - j) * (-(16 * v + 16 * g + j * g)) := Int.mul_nonneg (by omega) (by omega)
    have h3 : min p (p + v + g) ≤ p + v + g := by omega
    have e : 256 * (p + v + g) + (16 - j) * (-(16 * v + 16 * g + j * g)) = place p v g j := by unfold place; grind
    omega
  unfold exLo
  split
  · rename_i h
    obtain ⟨hg, hv, hvg⟩ := h
    have hm : min (min p (p + v + g)) (p - (v * v + 4 * g - 1) / (4 * g)) ≤ p - (v * v + 4 * g - 1) / (4 * g) := by omega
    have hq1 := Int.mul_ediv_add_emod (v * v + 4 * g - 1) (4 * g)
    have hq2 := Int.emod_lt_of_pos (v * v + 4 * g - 1) (show 0 < 4 * g by omega)
    generalize (v * v + 4 * g - 1) / (4 * g) = q at *
    have hq : v * v ≤ 4 * g * q := by omega
    have hs : 0 ≤ (2 * (g * j) + 16 * v) * (2 * (g * j) + 16 * v) := by
      rcases Int.le_total 0 (2 * (g * j) + 16 * v) with h | h
      · exact Int.mul_nonneg h h
      · exact Int.mul_nonneg_of_nonpos_of_nonpos h h
    have e : 4 * g * (place p v g j - 256 * (p - q)) = (2 * (g * j) + 16 * v) * (2 * (g * j) + 16 * v) + 256 * (4 * g * q - v * v) := by unfold place; grind
    have h0 : 0 ≤ 4 * g * (place p v g j - 256 * (p - q)) := by omega
    have h1 : 0 ≤ place p v g j - 256 * (p - q) := by
      rcases Int.lt_or_le (place p v g j - 256 * (p - q)) 0 with h | h
      · have := Int.mul_neg_of_pos_of_neg (show 0 < 4 * g by omega) h
        omega
      · exact h
    omega
  · rename_i h
    rcases Int.lt_or_le 0 g with hg | hg
    · rcases Int.lt_or_le v 0 with hv | hv
      · exact down (by omega) (by omega)
      · exact up hv (by omega)
    · exact lin hg
theorem hi_lo (p v g : Int) : exHi p v g = -exLo (-p) (-v) (-g) := by
  unfold exHi exLo
  have e1 : -v * -v = v * v := by grind
  have e2 : v * v + 4 * -g - 1 = v * v - 4 * g - 1 := by omega
  have e3 : 4 * -g = -4 * g := by omega
  rw [e1, e2, e3]
  generalize (v * v - 4 * g - 1) / (-4 * g) = q
  split <;> split <;> omega
theorem place_hi {p v g j : Int} (j1 : 0 ≤ j) (j2 : j ≤ 16) : place p v g j ≤ 256 * exHi p v g := by
  have h := @place_lo (-p) (-v) (-g) j j1 j2
  have e : place (-p) (-v) (-g) j = -place p v g j := by unfold place; grind
  rw [hi_lo]
  rw [e] at h
  omega
theorem ex_bd {p v g : Int} (p1 : -8388608 ≤ p) (p2 : p ≤ 8388608) (v1 : -262144 ≤ v) (v2 : v ≤ 262144) (g1 : -4096 ≤ g) (g2 : g ≤ 4096) : (-100000000 ≤ exLo p v g ∧ exLo p v g ≤ 100000000) ∧ (-100000000 ≤ exHi p v g ∧ exHi p v g ≤ 100000000) := by
  have lo : ∀ {p v g : Int}, -8388608 ≤ p → p ≤ 8388608 → -262144 ≤ v → v ≤ 262144 → -4096 ≤ g → g ≤ 4096 → -100000000 ≤ exLo p v g ∧ exLo p v g ≤ 100000000 := by
    intro p v g p1 p2 v1 v2 g1 g2
    unfold exLo
    split
    · rename_i h
      obtain ⟨hg, hv, hvg⟩ := h
      have m := (mul_bd v v 8192 8192 (by omega) (by omega) (by omega) (by omega)).2
      have m0 : 0 ≤ v * v := Int.mul_nonneg_of_nonpos_of_nonpos (by omega) (by omega)
      have hq1 : (v * v + 4 * g - 1) / (4 * g) ≤ v * v + 4 * g - 1 := Int.ediv_le_self _ (by omega)
      have hq0 : 0 ≤ (v * v + 4 * g - 1) / (4 * g) := Int.ediv_nonneg (by omega) (by omega)
      generalize (v * v + 4 * g - 1) / (4 * g) = q at *
      omega
    · omega
  refine ⟨lo p1 p2 v1 v2 g1 g2, ?_⟩
  rw [hi_lo]
  have := lo (p := -p) (v := -v) (g := -g) (by omega) (by omega) (by omega) (by omega) (by omega) (by omega)
  omega
theorem place_zero (p v g : Int) : place p v g 0 = 256 * p := by unfold place; simp
theorem place_end (p v g : Int) : place p v g 16 = 256 * (p + v + g) := by unfold place; omega
/-- Horner's rule at n / 16, scaled. -/
def hv (zs : List Int) (n : Int) : Nat → Int
  | 0 => 0
  | j + 1 => hv zs n j * n + zs.getD (zs.length - 1 - j) 0 * 2 ^ (4 * j)
theorem hv_bd {zs : List Int} {n : Int} (hz : ∀ z ∈ zs, -16777216 ≤ z ∧ z ≤ 16777216) (n0 : 0 ≤ n) (n1 : n ≤ 16) : ∀ j, j ≤ 3 → -(16777216 * 32 ^ j) ≤ hv zs n j ∧ hv zs n j ≤ 16777216 * 32 ^ j
  | 0, _ => by simp [hv]
  | j + 1, hj => by
    have ih := hv_bd hz n0 n1 j (by omega)
    have hg : -16777216 ≤ zs.getD (zs.length - 1 - j) 0 ∧ zs.getD (zs.length - 1 - j) 0 ≤ 16777216 := by
      rw [List.getD_eq_getElem?_getD]
      cases h : zs[zs.length - 1 - j]? with
      | none => simp
      | some z => exact hz z (List.mem_of_getElem? h)
    unfold hv
    generalize zs.getD (zs.length - 1 - j) 0 = z at *
    have m := mul_bd (hv zs n j) n (16777216 * 32 ^ j) 16 ih.1 ih.2 (by omega) n1
    generalize hv zs n j * n = x at *
    have : j = 0 ∨ j = 1 ∨ j = 2 := by omega
    rcases this with rfl | rfl | rfl <;> simp at * <;> omega
theorem hv_place {a b c n : Int} : (trimP [a, b, c]).length ≤ 3 ∧ hv (trimP [a, b, c]) n (trimP [a, b, c]).length * 2 ^ (4 * (2 - ((trimP [a, b, c]).length - 1))) = place a b c n := by
  unfold trimP place
  by_cases hc : c = 0
  · subst hc
    by_cases hb : b = 0
    · subst hb
      by_cases ha : a = 0
      · subst ha; simp [tz, hv]
      · have : tz [a, 0, 0] = 1 := by simp [tz, ha]
        rw [this]
        simp [hv]; omega
    · have : tz [a, b, 0] = 2 := by simp [tz, hb]
      rw [this]
      simp [hv]; grind
  · have : tz [a, b, c] = 3 := by simp [tz, hc]
    rw [this]
    simp [hv]; grind
theorem trimP_trimP (l : List Int) : trimP (trimP l) = trimP l := by
  unfold trimP
  have h : tz (l.take (tz l)) = tz l := by
    induction l with
    | nil => rfl
    | cons z l ih =>
      by_cases h0 : tz l = 0
      · by_cases hz : z = 0
        · simp [tz, h0, hz]
        · simp [tz, h0, hz]
      · simp [tz, h0, ih]
  rw [h, List.take_take, Nat.min_self]
end Go.Proofs.Ytkoejgpnlncgaaa
