/- Long division: a round's end, the last round: plain laws. -/
import Derived.Test.YtkoejgpnlncgaaaBigK
namespace Go.Proofs.Ytkoejgpnlncgaaa
open Go Go.RowKit
set_option linter.unusedVariables false
/-- No add back: the top limb becomes 0. -/
theorem top_zero {L : List Int} {j n : Nat} {R g cc bo z V lo U : Int} (h : mv L = R - g * (PB j * V) + PB (j + n) * (cc + bo)) (hz : L[j + n]? = some z) (hR : R = lo + PB j * U) (lo1 : lo < PB j) (d2 : U - g * V < V) (e : z - cc - bo = 0) :
    mv (L.set (j + n) 0) = R - g * (PB j * V) ∧ mv (L.set (j + n) 0) < PB j * V := by
  have h1 := mv_set hz 0
  have e1 : mv (L.set (j + n) 0) = R - g * (PB j * V) := by
    rw [h1, h, show cc + bo = z by omega]
    grind
  refine ⟨e1, ?_⟩
  rw [e1, hR]
  have q := PB_pos j
  have h2 : PB j * (U - g * V) ≤ PB j * (V - 1) := Int.mul_le_mul_of_nonneg_left (by omega) (by omega)
  have h3 : PB j * (U - g * V) = PB j * U - g * (PB j * V) := by grind
  have h4 : PB j * (V - 1) = PB j * V - PB j := by grind
  omega
/-- Add back: what stands after the top limb has been written. -/
theorem top_neg {L : List Int} {j n : Nat} {R g cc bo z V : Int} (h : mv L = R - g * (PB j * V) + PB (j + n) * (cc + bo)) (hz : L[j + n]? = some z) (e : z - cc - bo = -1) :
    mv (L.set (j + n) 4294967295) + PB j * V = (R - (g - 1) * (PB j * V)) + PB (j + n + 1) := by
  rw [mv_set hz, h, PB_succ, show z = cc + bo - 1 by omega]
  grind
theorem back_lim {R g V lo U : Int} {j : Nat} (hR : R = lo + PB j * U) (lo0 : 0 ≤ lo) (lo1 : lo < PB j) (d1 : -V ≤ U - g * V) (d2 : U - g * V < 0) : 0 ≤ R - (g - 1) * (PB j * V) ∧ R - (g - 1) * (PB j * V) < PB j * V := by
  have q := PB_pos j
  have h2 : PB j * (U - g * V) ≤ PB j * (-1) := Int.mul_le_mul_of_nonneg_left (by omega) (by omega)
  have h3 : PB j * (-V) ≤ PB j * (U - g * V) := Int.mul_le_mul_of_nonneg_left (by omega) (by omega)
  have h4 : PB j * (U - g * V) = PB j * U - g * (PB j * V) := by grind
  have h5 : (g - 1) * (PB j * V) = g * (PB j * V) - PB j * V := by grind
  have h6 : PB j * (-V) = -(PB j * V) := by grind
  omega
/-- The quotient's digit. -/
theorem quot_step {ul L ql : List Int} {j : Nat} {X g V : Int} (h : X = mv ul + mv ql * V) (hq : ql[j]? = some 0) (hL : mv L = mv ul - g * (PB j * V)) : X = mv L + mv (ql.set j g) * V := by
  rw [h, hL, mv_set hq]
  grind
/-- The last round: the quotient, and the shifted remainder. -/
theorem quot_end {ul ql : List Int} {x y X V S : Nat} (hu : Lim ul) (hql : Lim ql) (hX : (X : Int) = mv ul + mv ql * (V : Int)) (hlt : mv ul < PB 0 * (V : Int)) (eX : (X : Int) = (x : Int) * 2 ^ S) (eV : (V : Int) = (y : Int) * 2 ^ S) (y0 : 0 < y) :
    (mv ql).toNat = x / y ∧ mv ul / 2 ^ S = ((x % y : Nat) : Int) := by
  have P0 : (0 : Int) < 2 ^ S := Int.pow_pos (by decide)
  obtain ⟨P, hP⟩ : ∃ P : Int, P = 2 ^ S := ⟨_, rfl⟩
  rw [← hP] at P0 eX eV ⊢
  have u0 := mv_nonneg hu
  have q0 := mv_nonneg hql
  rw [PB_zero, Int.one_mul] at hlt
  obtain ⟨q, hq⟩ := Int.eq_ofNat_of_zero_le q0
  have V0 : (0 : Int) < V := by omega
  rw [hq] at hX
  have hd := Nat.div_add_mod x y
  have e1 : (x : Int) = (y : Int) * ((x / y : Nat) : Int) + ((x % y : Nat) : Int) := by
    rw [← Int.natCast_mul, ← Int.natCast_add, hd]
  have hm : x % y < y := Nat.mod_lt _ y0
  generalize x / y = k at e1 ⊢
  generalize x % y = r at e1 hm ⊢
  have e2 : mv ul + (q : Int) * V = (k : Int) * V + (r : Int) * P := by rw [← hX, eX, e1, eV]; grind
  have r1 : (r : Int) * P < V := by rw [eV]; exact Int.mul_lt_mul_of_pos_right (by omega) P0
  have r0 : 0 ≤ (r : Int) * P := Int.mul_nonneg (by omega) (by omega)
  have hqk : (q : Int) = k := by
    rcases Int.lt_trichotomy (q : Int) (k : Int) with g | g | g
    · have := Int.mul_le_mul_of_nonneg_right (show (q : Int) + 1 ≤ k by omega) (Int.le_of_lt V0)
      rw [Int.add_mul, Int.one_mul] at this
      omega
    · exact g
    · have := Int.mul_le_mul_of_nonneg_right (show (k : Int) + 1 ≤ q by omega) (Int.le_of_lt V0)
      rw [Int.add_mul, Int.one_mul] at this
      omega
  refine ⟨by rw [hq]; omega, ?_⟩
  rw [hqk] at e2
  rw [show mv ul = (r : Int) * P by omega]
  exact Int.mul_ediv_cancel _ (by omega)
theorem drop_set_same {L M : List Int} {k : Nat} (v : Int) (h : L.drop k = M.drop k) : (L.set k v).drop (k + 1) = M.drop (k + 1) := by
  rw [List.drop_set_of_lt (by omega), ← List.drop_drop, h, List.drop_drop]
theorem get_of_drop {L M : List Int} {k : Nat} (h : L.drop k = M.drop k) : L[k]? = M[k]? := by
  have h1 : (L.drop k)[0]? = (M.drop k)[0]? := by rw [h]
  rw [List.getElem?_drop, List.getElem?_drop] at h1
  exact h1
theorem mv_drop_of {L M : List Int} {k i : Nat} (h : L.drop k = M.drop k) (hi : k ≤ i) : mv (L.drop i) = mv (M.drop i) := by
  have e : i = k + (i - k) := by omega
  rw [e, ← List.drop_drop, ← List.drop_drop, h]
end Go.Proofs.Ytkoejgpnlncgaaa
