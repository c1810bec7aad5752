/- Integers behind stores and new blocks; lengths. No program in sight. -/
import Derived.Test.YtkoejgpnlncgaaaBigU
import Derived.Test.YtkoejgpnlncgaaaBigC
import Derived.Test.YtkoejgpnlncgaaaBigX
import Derived.Test.YtkoejgpnlncgaaaDrawR
namespace Go.Proofs.Ytkoejgpnlncgaaa
open Go Go.RowKit
set_option linter.unusedVariables false
theorem IsC.al {w : World} {v : Value} {z : Int} (h : IsC w v z) (o : Obj) : IsC (w.alloc o) v z := h.below ((Below.refl _ _).alloc (Nat.le_refl _) _)
theorem IsC.st1 {w : World} {v : Value} {z : Int} (h : IsC w v z) {p : Addr} {u : Value} (hp : w.cell? p = some u) (hu : ∀ x, u ≠ .int .u32 x) (x : Value) : IsC (w.setCell p x) v z := by
  obtain ⟨A, c, hv, hc, hA⟩ := h
  exact ⟨A, c, hv, hc, hA.setCell hp hu x⟩
theorem IsC.val {w : World} {v : Value} {z : Int} (h : IsC w v z) : ∃ s A n c, v = .agg #[.bool s, .slice A n c] := by
  obtain ⟨A, c, hv, _, _⟩ := h
  exact ⟨_, _, _, _, hv⟩
theorem canN_bd {z : Int} {k : Nat} {B : Int} (h1 : -B ≤ z) (h2 : z ≤ B) (hB : B < PB k) : (canN z.natAbs).length ≤ k := canN_len.2 (by omega)
theorem len_wd {z : Int} (h1 : -9223372036854775808 ≤ z) (h2 : z ≤ 9223372036854775807) : (canN z.natAbs).length ≤ 10 := canN_bd (B := 9223372036854775808) (by omega) (by omega) (by decide)
theorem len_mul {x y : Int} {a b : Nat} (hx : (canN x.natAbs).length ≤ a) (hy : (canN y.natAbs).length ≤ b) : (canN (x * y).natAbs).length ≤ a + b := by
  rw [canN_len] at *
  rw [Int.natAbs_mul, Int.natCast_mul, PB_add]
  exact Int.lt_of_le_of_lt (Int.mul_le_mul_of_nonneg_left (Int.le_of_lt hy) (Int.natCast_nonneg _)) (Int.mul_lt_mul_of_pos_right hx (PB_pos b))
theorem len_up {z : Int} {a b : Nat} (h : (canN z.natAbs).length ≤ a) (hab : a ≤ b) : (canN z.natAbs).length ≤ b := Nat.le_trans h hab
theorem len_add {x y : Int} {a : Nat} (hx : (canN x.natAbs).length ≤ a) (hy : (canN y.natAbs).length ≤ a) : (canN (x + y).natAbs).length ≤ a + 1 := by
  rw [canN_len] at *
  have h1 := PB_add a 1
  have h2 : PB 1 = 4294967296 := by decide
  have h3 := PB_pos a
  rw [h1, h2]
  have := Int.natAbs_add_le x y
  omega
theorem len_neg {x : Int} {a : Nat} (hx : (canN x.natAbs).length ≤ a) : (canN (-x).natAbs).length ≤ a := by rwa [Int.natAbs_neg]
theorem len_sub {x y : Int} {a : Nat} (hx : (canN x.natAbs).length ≤ a) (hy : (canN y.natAbs).length ≤ a) : (canN (x - y).natAbs).length ≤ a + 1 := by
  rw [Int.sub_eq_add_neg]; exact len_add hx (len_neg hy)
end Go.Proofs.Ytkoejgpnlncgaaa
