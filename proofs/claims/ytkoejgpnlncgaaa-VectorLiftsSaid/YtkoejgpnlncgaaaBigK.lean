/- Long division: the shift, the pieces: plain laws. -/
import Derived.Test.YtkoejgpnlncgaaaBigDv
import Derived.Test.YtkoejgpnlncgaaaKnuth
namespace Go.Proofs.Ytkoejgpnlncgaaa
open Go Go.RowKit
set_option linter.unusedVariables false
theorem norm_shift {t : Int} (t0 : 0 < t) (t1 : t < 4294967296) : ∃ S : Nat, S ≤ 31 ∧ 2147483648 ≤ t * 2 ^ S ∧ t * 2 ^ S < 4294967296 ∧ ∀ s, s < S → t * 2 ^ s < 2147483648 := by
  have key : ∀ (f : Nat) (t : Int), 0 < t → t < 4294967296 → 2147483648 ≤ t * 2 ^ f → ∃ S : Nat, S ≤ f ∧ 2147483648 ≤ t * 2 ^ S ∧ t * 2 ^ S < 4294967296 ∧ ∀ s, s < S → t * 2 ^ s < 2147483648 := by
    intro f
    induction f with
    | zero => intro t h0 h1 h2; exact ⟨0, Nat.le_refl _, h2, by simpa using h1, fun s hs => by omega⟩
    | succ f ih =>
      intro t h0 h1 h2
      rcases Int.lt_or_le t 2147483648 with h | h
      · obtain ⟨S, a, b, c, d⟩ := ih (2 * t) (by omega) (by omega) (by rw [Int.pow_succ] at h2; grind)
        refine ⟨S + 1, by omega, by rw [Int.pow_succ]; grind, by rw [Int.pow_succ]; grind, fun s hs => ?_⟩
        cases s with
        | zero => simpa using h
        | succ s => have := d s (by omega); rw [Int.pow_succ]; grind
      · exact ⟨0, by omega, by simpa using h, by simpa using h1, fun s hs => by omega⟩
  have e31 : (2 : Int) ^ 31 = 2147483648 := by decide
  obtain ⟨S, a, b, c, d⟩ := key 31 t t0 t1 (by rw [e31]; omega)
  exact ⟨S, a, b, c, d⟩
theorem top_bit {z : Int} (z0 : 0 ≤ z) (z1 : z < 4294967296) : bits .and .u32 z 2147483648 = if z < 2147483648 then 0 else 2147483648 := by
  obtain ⟨a, rfl⟩ := Int.eq_ofNat_of_zero_le z0
  have h := (bits_nat .u32 32 (by decide) (fun n h₀ h₁ => by rw [IntKind.wrap_u32]; omega) a 2147483648 (by omega) (by decide)).1
  have e : ((2147483648 : Nat) : Int) = 2147483648 := rfl
  rw [e] at h
  rw [h]
  have h2 : a &&& 2147483648 = if a < 2147483648 then 0 else 2147483648 := by
    have e : (2147483648 : Nat) = 2 ^ 31 := by decide
    split
    · apply Nat.eq_of_testBit_eq
      intro i
      rw [e, Nat.testBit_and, Nat.testBit_two_pow, Nat.zero_testBit]
      by_cases hi : 31 = i
      · subst hi
        rw [Nat.testBit_lt_two_pow (by omega)]; rfl
      · simp [hi]
    · apply Nat.eq_of_testBit_eq
      intro i
      rw [e, Nat.testBit_and, Nat.testBit_two_pow]
      by_cases hi : 31 = i
      · subst hi
        rw [Nat.testBit_eq_decide_div_mod_eq]
        have : a / 2 ^ 31 = 1 := by omega
        simp [this]
      · simp [hi]
  rw [h2]
  split <;> split <;> omega
theorem top_lt {L p t P : Int} (b0 : 0 ≤ L) (b1 : L < p) (hP : 0 < P) (h : (t + 1) * P ≤ 4294967296) : L * P + p * (t * P) < 4294967296 * p := by
  have d1 : L * P ≤ (p - 1) * P := Int.mul_le_mul_of_nonneg_right (by omega) (by omega)
  have d3 : p * ((t + 1) * P) ≤ p * 4294967296 := Int.mul_le_mul_of_nonneg_left h (by omega)
  have d4 : p * ((t + 1) * P) = p * (t * P) + p * P := by grind
  have d5 : (p - 1) * P = p * P - P := by grind
  omega
/-- The normalised divisor: as many limbs, the highest bit set. -/
theorem div_v {y n : Nat} {S : Nat} {t : Int} (hn : (canN y).length = n + 2) (ht : (canN y)[n + 1]? = some t) (hS1 : 2147483648 ≤ t * 2 ^ S) (hS2 : t * 2 ^ S < 4294967296) :
    ∃ V : Nat, ((V : Int) = (y : Int) * 2 ^ S) ∧ (canN V).length = n + 2 ∧ (∀ top, (canN V)[n + 1]? = some top → 2147483648 ≤ top) ∧ 2147483648 * PB (n + 1) ≤ V := by
  have hP : 0 < (2 : Int) ^ S := Int.pow_pos (by decide)
  obtain ⟨P, hPe⟩ : ∃ P : Int, P = 2 ^ S := ⟨_, rfl⟩
  rw [← hPe] at hP hS1 hS2
  have a1 := mv_split (canN y) (n + 1) (by omega)
  have a2 := mv_drop_succ ht
  rw [List.drop_of_length_le (show (canN y).length ≤ n + 1 + 1 by omega), show mv ([] : List Int) = 0 from rfl, Int.mul_zero, Int.add_zero] at a2
  have a4 := mv_canN y
  have b0 := mv_nonneg ((canN_lim y).take (n + 1))
  have b1 := mv_lt ((canN_lim y).take (n + 1))
  rw [List.length_take, Nat.min_eq_left (by omega)] at b1
  have q := PB_pos (n + 1)
  have e1 : (y : Int) = mv ((canN y).take (n + 1)) + PB (n + 1) * t := by rw [← a4, a1, a2]
  obtain ⟨L, hL⟩ : ∃ L, L = mv ((canN y).take (n + 1)) := ⟨_, rfl⟩
  rw [← hL] at e1 b0 b1
  have c1 : (y : Int) * P = L * P + PB (n + 1) * (t * P) := by rw [e1]; grind
  have c2 : 0 ≤ L * P := Int.mul_nonneg b0 (by omega)
  have c3 : PB (n + 1) * 2147483648 ≤ PB (n + 1) * (t * P) := Int.mul_le_mul_of_nonneg_left hS1 (by omega)
  have c4 : (y : Int) * P < PB (n + 2) := by
    have d2 : (t + 1) * P ≤ 4294967296 := by
      have : (t * P) % P = 0 := Int.mul_emod_left _ _
      obtain ⟨Q, hQ, hB⟩ : ∃ Q : Int, 1 ≤ Q ∧ 4294967296 = P * Q := by
        have hs : S ≤ 31 := by
          rcases Nat.lt_or_ge 31 S with h | h
          · exfalso
            have h1 : (2 : Int) ^ 32 ≤ 2 ^ S := by
              have : (2 : Nat) ^ 32 ≤ 2 ^ S := Nat.pow_le_pow_right (by omega) (by omega)
              have e : ((2 ^ S : Nat) : Int) = (2 : Int) ^ S := by rw [Int.natCast_pow]; rfl
              have e' : ((2 ^ 32 : Nat) : Int) = (2 : Int) ^ 32 := by rw [Int.natCast_pow]; rfl
              omega
            rw [← hPe] at h1
            have ht1 : 1 ≤ t := by
              rcases Int.lt_or_le t 1 with g | g
              · have : t * P ≤ 0 := Int.mul_nonpos_of_nonpos_of_nonneg (by omega) (by omega)
                omega
              · exact g
            have := Int.mul_le_mul_of_nonneg_right ht1 (show 0 ≤ P by omega)
            have e2 : (2 : Int) ^ 32 = 4294967296 := by decide
            omega
          · exact h
        rw [hPe]; exact pow2_split hs
      have h3 : t < Q := by
        rcases Int.lt_or_le t Q with g | g
        · exact g
        · have := Int.mul_le_mul_of_nonneg_right g (show 0 ≤ P by omega)
          rw [Int.mul_comm Q P, ← hB] at this
          omega
      have := Int.mul_le_mul_of_nonneg_right (show t + 1 ≤ Q by omega) (show 0 ≤ P by omega)
      rw [Int.mul_comm Q P, ← hB] at this
      exact this
    rw [c1, show PB (n + 2) = 4294967296 * PB (n + 1) from PB_succ (n + 1)]
    exact top_lt b0 b1 hP d2
  obtain ⟨V, hV⟩ := Int.eq_ofNat_of_zero_le (show 0 ≤ (y : Int) * P by omega)
  refine ⟨V, by rw [← hPe]; omega, ?_, ?_, by omega⟩
  · have h1 : (canN V).length ≤ n + 2 := canN_len.2 (by omega)
    have h2 : ¬ (canN V).length ≤ n + 1 := fun h => by have := canN_len.1 h; omega
    omega
  · intro top htop
    have h1 : (canN V).length ≤ n + 2 := canN_len.2 (by omega)
    have hlt := (List.getElem?_eq_some_iff.1 htop).1
    have a1 := mv_split (canN V) (n + 1) (by omega)
    have a2 := mv_drop_succ htop
    rw [List.drop_of_length_le (show (canN V).length ≤ n + 1 + 1 by omega), show mv ([] : List Int) = 0 from rfl, Int.mul_zero, Int.add_zero] at a2
    have b1 := mv_lt ((canN_lim V).take (n + 1))
    rw [List.length_take, Nat.min_eq_left (by omega)] at b1
    have a4 := mv_canN V
    rcases Int.lt_or_le top 2147483648 with g | g
    · exfalso
      rw [a2] at a1
      have := Int.mul_le_mul_of_nonneg_left (show top ≤ 2147483647 by omega) (Int.le_of_lt q)
      omega
    · exact g
/-- The shifted dividend, with a limb more. -/
theorem div_u {x y la : Nat} {S n : Nat} {V : Int} (hla : (canN x).length = la) (hS : S ≤ 31) (hn : n + 2 ≤ la) (hV : 2147483648 * PB (n + 1) ≤ V) :
    ∃ X : Nat, ((X : Int) = (x : Int) * 2 ^ S) ∧ ((canN X ++ [0, 0]).take (la + 1)).length = la + 1 ∧ mv ((canN X ++ [0, 0]).take (la + 1)) = X ∧ (X : Int) < PB (la + 1 - (n + 2)) * V ∧ la ≤ (canN X).length ∧ (canN X).length ≤ la + 1 := by
  obtain ⟨p0, p1⟩ := pow2_bd hS
  obtain ⟨P, hPe⟩ : ∃ P : Int, P = 2 ^ S := ⟨_, rfl⟩
  rw [← hPe] at p0 p1 ⊢
  have hx := (@canN_len x la).1 (by omega)
  obtain ⟨X, hX⟩ := Int.eq_ofNat_of_zero_le (show 0 ≤ (x : Int) * P from Int.mul_nonneg (by omega) (by omega))
  have q := PB_pos la
  have h1 : (x : Int) * P ≤ (PB la - 1) * P := Int.mul_le_mul_of_nonneg_right (by omega) (by omega)
  have h2 : (PB la - 1) * P = PB la * P - P := by grind
  have h3 : PB la * P ≤ PB la * 2147483648 := Int.mul_le_mul_of_nonneg_left p1 (by omega)
  have h4 := PB_succ la
  have hl1 : (canN X).length ≤ la + 1 := canN_len.2 (by omega)
  have hl2 : la ≤ (canN X).length := by
    have hxX : x ≤ X := by
      have := Int.mul_le_mul_of_nonneg_left p0 (show (0 : Int) ≤ (x : Int) by omega)
      omega
    have := canN_mono hxX
    omega
  have hm : mv (canN X ++ [0, 0]) = X := by rw [mv_append, mv_canN, mv_two]; omega
  refine ⟨X, hX.symm, by rw [List.length_take, List.length_append]; simp; omega, ?_, ?_, hl2, hl1⟩
  · rw [mv_take_of_zero, hm]
    intro k z hz hk
    rw [List.getElem?_append_right (by omega)] at hz
    have hk2 := (List.getElem?_eq_some_iff.1 hz).1
    simp at hk2
    have : k - (canN X).length = 0 ∨ k - (canN X).length = 1 := by omega
    rcases this with e | e
    · rw [e] at hz; simpa using hz.symm
    · rw [e] at hz; simpa using hz.symm
  · have e : PB la = PB (la + 1 - (n + 2)) * PB (n + 1) := by rw [← PB_add]; congr 1; omega
    have := Int.mul_le_mul_of_nonneg_left hV (Int.le_of_lt (PB_pos (la + 1 - (n + 2))))
    have e2 : PB (la + 1 - (n + 2)) * (2147483648 * PB (n + 1)) = PB la * 2147483648 := by rw [e]; grind
    omega
/-- Three digits of a piece. -/
theorem window3 {L : List Int} {j m : Nat} {u0 u1 u2 : Int} (h0 : L[j + m]? = some u0) (h1 : L[j + m + 1]? = some u1) (h2 : L[j + m + 2]? = some u2) (hup : mv (L.drop (j + m + 3)) = 0) :
    mv (L.drop j) = mv ((L.drop j).take m) + PB m * (u0 + 4294967296 * (u1 + 4294967296 * u2)) := by
  have hlt := (List.getElem?_eq_some_iff.1 h2).1
  have a1 := mv_split (L.drop j) m (by rw [List.length_drop]; omega)
  rw [List.drop_drop] at a1
  have a2 := mv_drop_succ h0
  have a3 := mv_drop_succ h1
  have a4 := mv_drop_succ h2
  rw [hup, Int.mul_zero, Int.add_zero] at a4
  rw [a1, a2, a3, a4]
theorem window2 {V : List Int} {m : Nat} {next top : Int} (hl : V.length = m + 2) (h0 : V[m]? = some next) (h1 : V[m + 1]? = some top) :
    mv V = mv (V.take m) + PB m * (next + 4294967296 * top) := by
  have a1 := mv_split V m (by omega)
  have a2 := mv_drop_succ h0
  have a3 := mv_drop_succ h1
  rw [List.drop_of_length_le (show V.length ≤ m + 1 + 1 by omega), show mv ([] : List Int) = 0 from rfl, Int.mul_zero, Int.add_zero] at a3
  rw [a1, a2, a3]
/-- What holds at the head of a round of the long division. -/
theorem round_facts {ul vl : List Int} {j m : Nat} {V : Int} (hul : Lim ul) (hv : Lim vl) (hvl : vl.length = m + 2) (hV : mv vl = V) (htop : ∀ top, vl[m + 1]? = some top → 2147483648 ≤ top) (hlen : j + m + 2 < ul.length) (hR : mv ul < PB (j + 1) * V) :
    ∃ u0 u1 u2 top next p lo wl wu, ul[j + m]? = some u0 ∧ ul[j + m + 1]? = some u1 ∧ ul[j + m + 2]? = some u2 ∧ vl[m]? = some next ∧ vl[m + 1]? = some top ∧
      0 ≤ u0 ∧ u0 < 4294967296 ∧ 0 ≤ u1 ∧ u1 < 4294967296 ∧ 0 ≤ u2 ∧ u2 < 4294967296 ∧ 0 ≤ next ∧ next < 4294967296 ∧ 2147483648 ≤ top ∧ top < 4294967296 ∧ 0 < p ∧ 0 ≤ wl ∧ wl < p ∧ 0 ≤ wu ∧ wu < p ∧
      V = wl + p * (next + 4294967296 * top) ∧ mv (ul.drop j) = wu + p * (u0 + 4294967296 * (u1 + 4294967296 * u2)) ∧
      wu + p * (u0 + 4294967296 * (u1 + 4294967296 * u2)) < 4294967296 * (wl + p * (next + 4294967296 * top)) ∧
      mv ul = lo + PB j * mv (ul.drop j) ∧ 0 ≤ lo ∧ lo < PB j ∧ mv (ul.drop (j + m + 3)) = 0 := by
  have h0 : ul[j + m]? = some (ul[j + m]'(by omega)) := List.getElem?_eq_getElem (by omega)
  have h1 : ul[j + m + 1]? = some (ul[j + m + 1]'(by omega)) := List.getElem?_eq_getElem (by omega)
  have h2 : ul[j + m + 2]? = some (ul[j + m + 2]'(by omega)) := List.getElem?_eq_getElem (by omega)
  have h3 : vl[m]? = some (vl[m]'(by omega)) := List.getElem?_eq_getElem (by omega)
  have h4 : vl[m + 1]? = some (vl[m + 1]'(by omega)) := List.getElem?_eq_getElem (by omega)
  have pj := PB_pos j
  have hVlt := mv_lt hv
  rw [hvl, hV] at hVlt
  have hup : mv (ul.drop (j + m + 3)) = 0 := by
    refine piece_top (z := ul[j + m + 2]'(by omega)) (W := 0) hul h2 ?_
    have e : PB (j + m + 2 + 1) = PB (j + 1) * PB (m + 2) := by rw [← PB_add]; congr 1; omega
    rw [e]
    have := Int.mul_le_mul_of_nonneg_left (show V ≤ PB (m + 2) by omega) (Int.le_of_lt (PB_pos (j + 1)))
    omega
  have a1 := mv_split ul j (by omega)
  have b1 := mv_lt (hul.take j)
  rw [List.length_take, Nat.min_eq_left (by omega)] at b1
  have b0 := mv_nonneg (hul.take j)
  have w3 := window3 h0 h1 h2 hup
  have w2 := window2 hvl h3 h4
  have c1 := mv_lt ((hul.drop j).take m)
  rw [List.length_take, List.length_drop, Nat.min_eq_left (by omega)] at c1
  have c2 := mv_lt (hv.take m)
  rw [List.length_take, Nat.min_eq_left (by omega)] at c2
  obtain ⟨U, hU⟩ : ∃ U, U = mv (ul.drop j) := ⟨_, rfl⟩
  have hUB : U < 4294967296 * V := by
    rcases Int.lt_or_le U (4294967296 * V) with g | g
    · exact g
    · exfalso
      have := Int.mul_le_mul_of_nonneg_left g (Int.le_of_lt pj)
      rw [← hU] at a1
      rw [PB_succ] at hR
      have e : PB j * (4294967296 * V) = 4294967296 * PB j * V := by grind
      omega
  rw [hV] at w2
  refine ⟨_, _, _, _, _, PB m, mv (ul.take j), mv (vl.take m), mv ((ul.drop j).take m), h0, h1, h2, h3, h4, (hul.get h0).1, (hul.get h0).2, (hul.get h1).1, (hul.get h1).2, (hul.get h2).1, (hul.get h2).2, (hv.get h3).1, (hv.get h3).2, htop _ h4, (hv.get h4).2, PB_pos m, mv_nonneg (hv.take m), c2, mv_nonneg ((hul.drop j).take m), c1, w2, w3, ?_, a1, b0, b1, hup⟩
  rw [← w3, ← w2, ← hU]
  exact hUB
end Go.Proofs.Ytkoejgpnlncgaaa
