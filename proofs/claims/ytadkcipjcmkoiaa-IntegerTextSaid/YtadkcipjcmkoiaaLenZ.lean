/- Lengths of integers and the results of sums, products and quotients that are not large. No program in sight. -/
import Derived.Test.YtadkcipjcmkoiaaOpenZ
namespace Go.Proofs.Ytadkcipjcmkoiaa
open Go Go.RowKit
set_option linter.unusedVariables false
theorem lenZ_pow (k n : Nat) (h : k < 32 * n) : (canN ((2 : Int) ^ k).natAbs).length ≤ n := by
  refine canN_len.2 ?_
  rw [PB_pow]
  have h1 := pow2_lt h
  have h0 : (0 : Int) ≤ 2 ^ k := Int.le_of_lt (Int.pow_pos (by decide))
  rw [Int.natAbs_of_nonneg h0]
  exact h1
theorem lgZ_of {z : Int} {n : Nat} (h : (canN z.natAbs).length ≤ n) (hn : n ≤ 256) : lgB z = false := by
  unfold lgB
  rw [decide_eq_false_iff_not]
  omega
theorem sizedZ {z : Int} (h : (canN z.natAbs).length ≤ 100) : sizedR z = (z, 0) := by
  unfold sizedR
  rw [lgZ_of h (by decide)]
  rfl
theorem addZ {a b z : Int} (ha : (canN a.natAbs).length ≤ 100) (hb : (canN b.natAbs).length ≤ 100) (hz : z = a + b) (hl : (canN z.natAbs).length ≤ 100) : addR a b = (z, 0) := by
  unfold addR
  rw [lgZ_of ha (by decide), lgZ_of hb (by decide), ← hz, sizedZ hl]
  rfl
theorem subZ {a b z : Int} (ha : (canN a.natAbs).length ≤ 100) (hb : (canN b.natAbs).length ≤ 100) (hz : z = a - b) (hl : (canN z.natAbs).length ≤ 100) : subR a b = (z, 0) := by
  unfold subR
  rw [lgZ_of ha (by decide), lgZ_of hb (by decide), ← hz, sizedZ hl]
  rfl
theorem mulZ {a b z : Int} (ha : (canN a.natAbs).length ≤ 100) (hb : (canN b.natAbs).length ≤ 100) (hz : z = a * b) (hl : (canN z.natAbs).length ≤ 100) : mulR a b = (z, 0) := by
  unfold mulR
  rw [lgZ_of ha (by decide), lgZ_of hb (by decide), ← hz, sizedZ hl]
  rfl
theorem quoZ {a b q r : Int} (ha : (canN a.natAbs).length ≤ 100) (hb : (canN b.natAbs).length ≤ 100) (h0 : b ≠ 0) (hq : q = a.tdiv b) (hr : r = a.tmod b) : quoR a b = (q, r, 0) := by
  unfold quoR
  rw [lgZ_of ha (by decide), lgZ_of hb (by decide), if_neg (by decide), if_neg h0, hq, hr]
theorem quoZ0 {a : Int} (ha : (canN a.natAbs).length ≤ 100) : quoR a 0 = (0, 0, 3) := by
  unfold quoR
  rw [lgZ_of ha (by decide), lgZ_of (z := 0) (n := 0) (by rw [show (0 : Int).natAbs = 0 from rfl, canN_zero]; exact Nat.le_refl _) (by decide), if_neg (by decide), if_pos rfl]
theorem gcdZ {a b d : Int} (ha : (canN a.natAbs).length ≤ 100) (hb : (canN b.natAbs).length ≤ 100) (hd : d = (Nat.gcd a.natAbs b.natAbs : Nat)) : gcdR a b = (d, 0) := by
  unfold gcdR
  rw [lgZ_of ha (by decide), lgZ_of hb (by decide), if_neg (by decide), hd]
theorem cmpZ {a b : Int} (h : a = b) : cmpI a b = 0 := by unfold cmpI; rw [if_neg (by omega), if_neg (by omega)]
theorem IsZ.upto {w : World} {v : Value} {n m : Nat} {z : Int} (h : IsZ w v n z) (hn : n ≤ m) : IsZ w v m z := by
  obtain ⟨neg, A, c, l, h1, h2, h3, h4, h5, h6⟩ := h
  exact ⟨neg, A, c, l, h1, h2, h3, by omega, h5, h6⟩
theorem plain_ok (v : Value) (p : Bool) (A : Option Addr) (n c : Nat) (w : World) (e : v = .agg #[.bool p, .slice A n c]) :
    Calls Try.prog 29 #[v, .int .i64 0, .bool true] w fun e w' => e = .returned (.tuple #[v, .bool true]) ∧ Below w.heap.size w w' := by
  subst e
  exact plain_any p A n c 0 true w
theorem icmp_eq (n : Nat) (u v : Value) (a b : Int) (w : World) (ha : IsZ w u n a) (hb : IsZ w v n b) (hn : n ≤ 400000) (e : a = b) :
    Calls Try.prog 17 #[u, v] w fun e w' => e = .returned (.int .i64 0) ∧ Below w.heap.size w w' := by
  have h := icmp_any n u v a b w ha hb hn
  rwa [cmpZ e] at h
theorem lenZ_word {z : Int} (h0 : -9223372036854775808 ≤ z) (h1 : z ≤ 9223372036854775807) : (canN z.natAbs).length ≤ 100 := Nat.le_trans (len_word (by omega)) (by decide)
end Go.Proofs.Ytadkcipjcmkoiaa
