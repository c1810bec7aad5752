/- Long division, digit by digit: plain laws, no program in sight. -/
import Derived.Test.YtkoejgpnlncgaaaBig
namespace Go.Proofs.Ytkoejgpnlncgaaa
set_option linter.unusedVariables false
/-- The guess of a digit of the quotient: what its loop keeps. V = vl + p (next + B top), U = ul + p (u0 + B u1 + B^2 u2), p a power of B. -/
structure Guess (p vl ul top next u0 u1 u2 g r : Int) : Prop where
  num : g * top + r = u2 * 4294967296 + u1
  r0 : 0 ≤ r
  g0 : 0 ≤ g
  up : ul + p * (u0 + 4294967296 * (u1 + 4294967296 * u2)) < (g + 1) * (vl + p * (next + 4294967296 * top))
theorem guess_start {p vl ul top next u0 u1 u2 : Int} (hp : 0 < p) (v0 : 0 ≤ vl) (n0 : 0 ≤ next) (ul1 : ul < p) (a1 : u0 < 4294967296) (t0 : 0 < top) (b0 : 0 ≤ u1) (c0 : 0 ≤ u2) :
    Guess p vl ul top next u0 u1 u2 ((u2 * 4294967296 + u1) / top) ((u2 * 4294967296 + u1) % top) := by
  have hn : 0 ≤ u2 * 4294967296 + u1 := by omega
  refine ⟨by rw [Int.mul_comm]; exact Int.mul_ediv_add_emod _ _, Int.emod_nonneg _ (by omega), Int.ediv_nonneg hn (by omega), ?_⟩
  obtain ⟨g, hg⟩ : ∃ g, g = (u2 * 4294967296 + u1) / top := ⟨_, rfl⟩
  obtain ⟨r, hr⟩ : ∃ r, r = (u2 * 4294967296 + u1) % top := ⟨_, rfl⟩
  have e : g * top + r = u2 * 4294967296 + u1 := by rw [hg, hr, Int.mul_comm]; exact Int.mul_ediv_add_emod _ _
  have r1 : r < top := by rw [hr]; exact Int.emod_lt_of_pos _ t0
  have g0 : 0 ≤ g := by rw [hg]; exact Int.ediv_nonneg hn (by omega)
  rw [← hg]
  have h1 : (g + 1) * top = g * top + top := by grind
  have h2 : p * (u0 + 4294967296 * (u1 + 4294967296 * u2)) + p ≤ p * (4294967296 * ((g + 1) * top)) := by
    have q : p * (u0 + 4294967296 * (u1 + 4294967296 * u2) + 1) ≤ p * (4294967296 * ((g + 1) * top)) := Int.mul_le_mul_of_nonneg_left (by omega) (by omega)
    rw [Int.mul_add, Int.mul_one] at q
    exact q
  have h3 : (g + 1) * (vl + p * (next + 4294967296 * top)) = (g + 1) * vl + p * ((g + 1) * next) + p * (4294967296 * ((g + 1) * top)) := by grind
  have h4 : 0 ≤ (g + 1) * vl := Int.mul_nonneg (by omega) v0
  have h5 : 0 ≤ p * ((g + 1) * next) := Int.mul_nonneg (by omega) (Int.mul_nonneg (by omega) n0)
  omega
/-- The guess is too large: one less. -/
theorem guess_less {p vl ul top next u0 u1 u2 g r : Int} (h : Guess p vl ul top next u0 u1 u2 g r) (hp : 0 < p) (v0 : 0 ≤ vl) (t0 : 0 < top) (g1 : 1 ≤ g)
    (hU : ul + p * (u0 + 4294967296 * (u1 + 4294967296 * u2)) < g * (vl + p * (next + 4294967296 * top))) : Guess p vl ul top next u0 u1 u2 (g - 1) (r + top) := by
  have e : (g - 1) * top = g * top - top := by grind
  refine ⟨by have := h.num; omega, by have := h.r0; omega, by omega, ?_⟩
  rw [Int.sub_add_cancel]
  exact hU
/-- Why it is too large: at least B. -/
theorem guess_big {p vl ul top next u0 u1 u2 g : Int} (hp : 0 < p) (v0 : 0 ≤ vl) (n0 : 0 ≤ next) (t0 : 0 < top) (hg : 4294967296 ≤ g)
    (hB : ul + p * (u0 + 4294967296 * (u1 + 4294967296 * u2)) < 4294967296 * (vl + p * (next + 4294967296 * top))) :
    ul + p * (u0 + 4294967296 * (u1 + 4294967296 * u2)) < g * (vl + p * (next + 4294967296 * top)) := by
  have hV : 0 ≤ vl + p * (next + 4294967296 * top) := by
    have := Int.mul_nonneg (Int.le_of_lt hp) (show 0 ≤ next + 4294967296 * top by omega)
    omega
  have := Int.mul_le_mul_of_nonneg_right hg hV
  omega
/-- Why it is too large: the second digit says so. -/
theorem guess_next {p vl ul top next u0 u1 u2 g r : Int} (h : Guess p vl ul top next u0 u1 u2 g r) (hp : 0 < p) (v0 : 0 ≤ vl) (ul1 : ul < p) (hg : r * 4294967296 + u0 < g * next) :
    ul + p * (u0 + 4294967296 * (u1 + 4294967296 * u2)) < g * (vl + p * (next + 4294967296 * top)) := by
  have h1 := h.num
  have h2 : p * (u0 + 4294967296 * (u1 + 4294967296 * u2)) + p ≤ p * (g * next + 4294967296 * (g * top)) := by
    have q : p * (u0 + 4294967296 * (u1 + 4294967296 * u2) + 1) ≤ p * (g * next + 4294967296 * (g * top)) := Int.mul_le_mul_of_nonneg_left (by omega) (by omega)
    rw [Int.mul_add, Int.mul_one] at q
    exact q
  have h3 : g * (vl + p * (next + 4294967296 * top)) = g * vl + p * (g * next + 4294967296 * (g * top)) := by grind
  have h4 : 0 ≤ g * vl := Int.mul_nonneg h.g0 v0
  omega
/-- The guess is done: it is the digit, or one more. -/
theorem guess_done {p vl ul top next u0 u1 u2 g r : Int} (h : Guess p vl ul top next u0 u1 u2 g r) (hp : 0 < p) (v0 : 0 ≤ vl) (vl1 : vl < p) (u00 : 0 ≤ ul) (n0 : 0 ≤ next) (t1 : 1 ≤ top) (g1 : g < 4294967296) (hg : g * next ≤ r * 4294967296 + u0) :
    -(vl + p * (next + 4294967296 * top)) ≤ ul + p * (u0 + 4294967296 * (u1 + 4294967296 * u2)) - g * (vl + p * (next + 4294967296 * top)) ∧
    ul + p * (u0 + 4294967296 * (u1 + 4294967296 * u2)) - g * (vl + p * (next + 4294967296 * top)) < vl + p * (next + 4294967296 * top) := by
  have h1 := h.num
  have h2 : p * (g * next + 4294967296 * (g * top)) ≤ p * (u0 + 4294967296 * (u1 + 4294967296 * u2)) := Int.mul_le_mul_of_nonneg_left (by omega) (by omega)
  have h3 : g * (vl + p * (next + 4294967296 * top)) = g * vl + p * (g * next + 4294967296 * (g * top)) := by grind
  have h4 : g * vl ≤ 4294967296 * p := by
    have a1 := Int.mul_le_mul_of_nonneg_right (show g ≤ 4294967296 by omega) v0
    have a2 := Int.mul_le_mul_of_nonneg_left (show vl ≤ p by omega) (show (0 : Int) ≤ 4294967296 by omega)
    omega
  have h5 : 4294967296 * p ≤ p * (next + 4294967296 * top) := by
    rw [Int.mul_comm]
    exact Int.mul_le_mul_of_nonneg_left (by omega) (by omega)
  have h6 := h.up
  have h7 : (g + 1) * (vl + p * (next + 4294967296 * top)) = g * (vl + p * (next + 4294967296 * top)) + (vl + p * (next + 4294967296 * top)) := by grind
  omega
/-- Behind a decrement that makes the rest great the guess is done. -/
theorem guess_rest {p vl ul top next u0 u1 u2 g r : Int} (h : Guess p vl ul top next u0 u1 u2 g r) (n1 : next < 4294967296) (n0 : 0 ≤ next) (u00 : 0 ≤ u0) (b1 : u1 < 4294967296) (t0 : 0 < top) (ht : u2 ≤ top) (hr : 4294967296 ≤ r) :
    g < 4294967296 ∧ g * next ≤ r * 4294967296 + u0 := by
  have h1 := h.num
  have h2 : g < 4294967296 := by
    rcases Int.lt_or_le g 4294967296 with h3 | h3
    · exact h3
    · have := Int.mul_le_mul_of_nonneg_right h3 (Int.le_of_lt t0)
      omega
  refine ⟨h2, ?_⟩
  have h3 : g * next ≤ 4294967296 * 4294967296 := Int.mul_le_mul (by omega) (by omega) n0 (by omega)
  omega
/-- The leading digit of the dividend's piece is at most the divisor's. -/
theorem lead_le {p vl ul top next u0 u1 u2 : Int} (hp : 0 < p) (vl1 : vl < p) (n1 : next < 4294967296) (u00 : 0 ≤ ul) (a0 : 0 ≤ u0) (b0 : 0 ≤ u1)
    (hB : ul + p * (u0 + 4294967296 * (u1 + 4294967296 * u2)) < 4294967296 * (vl + p * (next + 4294967296 * top))) : u2 ≤ top := by
  rcases Int.lt_or_le top u2 with h | h
  · exfalso
    have h1 : p * (4294967296 * 4294967296 * (top + 1)) ≤ p * (u0 + 4294967296 * (u1 + 4294967296 * u2)) := Int.mul_le_mul_of_nonneg_left (by omega) (by omega)
    have h2 : p * (next + 4294967296 * top) + p ≤ p * (4294967296 * (top + 1)) := by
      have q : p * (next + 4294967296 * top + 1) ≤ p * (4294967296 * (top + 1)) := Int.mul_le_mul_of_nonneg_left (by omega) (by omega)
      rw [Int.mul_add, Int.mul_one] at q
      exact q
    have h3 : p * (4294967296 * 4294967296 * (top + 1)) = 4294967296 * (p * (4294967296 * (top + 1))) := by grind
    omega
  · exact h
/-- One step of the multiplication and subtraction. -/
theorem msub_step {L v : List Int} {j i : Nat} {R g cc bo z x s d : Int} (h : mv L = R - g * (PB j * mv (v.take i)) + PB (j + i) * (cc + bo)) (hz : L[j + i]? = some z) (hx : v[i]? = some x) (hs : s = cc + g * x)
    (hd : d % 4294967296 - 4294967296 * (d / 9223372036854775808) = z - s % 4294967296 - bo) :
    mv (L.set (j + i) (d % 4294967296)) = R - g * (PB j * mv (v.take (i + 1))) + PB (j + (i + 1)) * (s / 4294967296 + d / 9223372036854775808) := by
  rw [mv_set hz, mv_take_succ hx, ← Nat.add_assoc, PB_succ, h, PB_add]
  have e : s = s % 4294967296 + 4294967296 * (s / 4294967296) := by omega
  obtain ⟨S, hS⟩ : ∃ S, S = s % 4294967296 := ⟨_, rfl⟩
  obtain ⟨T, hT⟩ : ∃ T, T = s / 4294967296 := ⟨_, rfl⟩
  obtain ⟨D, hD⟩ : ∃ D, D = d % 4294967296 := ⟨_, rfl⟩
  obtain ⟨E, hE⟩ : ∃ E, E = d / 9223372036854775808 := ⟨_, rfl⟩
  rw [← hS, ← hT] at e
  rw [← hD, ← hE, ← hS] at hd
  rw [← hT, ← hD, ← hE]
  have e1 : D = z - S - bo + 4294967296 * E := by omega
  have e2 : cc = S + 4294967296 * T - g * x := by omega
  rw [e1, e2]
  grind
/-- The last step: the top digit. -/
theorem msub_top {L v : List Int} {j n : Nat} {R g cc bo z d V lo U : Int} (hL : Lim L) (hv : Lim v) (hn : v.length = n) (hV : V = mv v) (h : mv L = R - g * (PB j * V) + PB (j + n) * (cc + bo)) (hz : L[j + n]? = some z) (hup : mv (L.drop (j + n + 1)) = 0)
    (hR : R = lo + PB j * U) (lo0 : 0 ≤ lo) (lo1 : lo < PB j) (d1 : -V ≤ U - g * V) (d2 : U - g * V < V) :
    (z - cc - bo = 0 ∧ 0 ≤ U - g * V) ∨ (z - cc - bo = -1 ∧ U - g * V < 0) := by
  have hlt : j + n < L.length := (List.getElem?_eq_some_iff.1 hz).1
  have a1 := mv_split L (j + n) (by omega)
  have a2 := mv_drop_succ hz
  rw [hup] at a2
  have b1 := mv_lt (hL.take (j + n))
  have b2 := mv_nonneg (hL.take (j + n))
  rw [List.length_take, Nat.min_eq_left (by omega)] at b1
  have c1 := mv_lt hv
  rw [hn, ← hV] at c1
  have pj := PB_pos j
  have pn := PB_pos n
  obtain ⟨X, hX⟩ : ∃ X, X = U - g * V := ⟨_, rfl⟩
  obtain ⟨D, hD⟩ : ∃ D, D = z - cc - bo := ⟨_, rfl⟩
  obtain ⟨M, hM⟩ : ∃ M, M = mv (L.take (j + n)) := ⟨_, rfl⟩
  rw [← hX] at d1 d2
  rw [← hM] at a1 b1 b2
  rw [← hD, ← hX]
  have key : M = lo + PB j * X - PB (j + n) * D := by
    have e1 : mv (L.drop (j + n)) = z := by omega
    rw [e1] at a1
    have e2 : PB j * X = PB j * U - g * (PB j * V) := by rw [hX]; grind
    have e3 : PB (j + n) * D = PB (j + n) * z - PB (j + n) * (cc + bo) := by rw [hD]; grind
    omega
  rw [PB_add] at key b1
  have f1 : PB j * X ≤ PB j * (V - 1) := Int.mul_le_mul_of_nonneg_left (by omega) (by omega)
  have f2 : PB j * V ≤ PB j * PB n := Int.mul_le_mul_of_nonneg_left (by omega) (by omega)
  have f3 : PB j * (V - 1) = PB j * V - PB j := by grind
  have f4 : PB j * (-V) ≤ PB j * X := Int.mul_le_mul_of_nonneg_left (by omega) (by omega)
  have f5 : PB j * (-V) = -(PB j * V) := by grind
  have q := PB_pos (j + n)
  rw [PB_add] at q
  have g1 : D ≤ 0 := by
    rcases Int.lt_or_le 0 D with hh | hh
    · have := Int.mul_le_mul_of_nonneg_left (show 1 ≤ D by omega) (Int.le_of_lt q)
      omega
    · exact hh
  have g2 : -1 ≤ D := by
    rcases Int.lt_or_le D (-1) with hh | hh
    · have := Int.mul_le_mul_of_nonneg_left (show D ≤ -2 by omega) (Int.le_of_lt q)
      omega
    · exact hh
  have hD' : D = 0 ∨ D = -1 := by omega
  rcases hD' with hh | hh
  · left
    refine ⟨hh, ?_⟩
    rw [hh] at key
    rcases Int.lt_or_le X 0 with h0 | h0
    · have := Int.mul_le_mul_of_nonneg_left (show X ≤ -1 by omega) (Int.le_of_lt pj)
      omega
    · exact h0
  · right
    refine ⟨hh, ?_⟩
    rw [hh] at key
    rcases Int.lt_or_le X 0 with h0 | h0
    · exact h0
    · have := Int.mul_nonneg (Int.le_of_lt pj) h0
      omega
/-- One step of the adding back. -/
theorem addb_step {L v : List Int} {j i : Nat} {R c z x s : Int} (h : mv L + PB (j + i) * c = R + PB j * mv (v.take i)) (hz : L[j + i]? = some z) (hx : v[i]? = some x) (hs : s = c + (z + x)) :
    mv (L.set (j + i) (s % 4294967296)) + PB (j + (i + 1)) * (s / 4294967296) = R + PB j * mv (v.take (i + 1)) := by
  rw [mv_set hz, mv_take_succ hx, ← Nat.add_assoc, PB_succ]
  have e : s = s % 4294967296 + 4294967296 * (s / 4294967296) := by omega
  obtain ⟨S, hS⟩ : ∃ S, S = s % 4294967296 := ⟨_, rfl⟩
  obtain ⟨T, hT⟩ : ∃ T, T = s / 4294967296 := ⟨_, rfl⟩
  rw [← hS, ← hT] at e
  rw [← hS, ← hT]
  have e1 : S = c + z + x - 4294967296 * T := by omega
  have e2 : PB (j + i) = PB j * PB i := PB_add _ _
  rw [e2] at h ⊢
  rw [e1]
  grind
/-- The adding back is done: the carry is one, the number is what it must be. -/
theorem addb_done {L v : List Int} {j n : Nat} {R c V X : Int} (hL : Lim L) (hv : Lim v) (hn : v.length = n) (hV : V = mv v) (hz : L[j + n]? = some 4294967295) (hup : mv (L.drop (j + n + 1)) = 0)
    (h : mv L + PB (j + n) * c = X + PB (j + n + 1)) (c0 : 0 ≤ c) (c1 : c ≤ 1) (x0 : 0 ≤ X) :
    c = 1 ∧ mv (L.set (j + n) 0) = X := by
  have hlt : j + n < L.length := (List.getElem?_eq_some_iff.1 hz).1
  have a1 := mv_split L (j + n) (by omega)
  have a2 := mv_drop_succ hz
  rw [hup] at a2
  have b1 := mv_lt (hL.take (j + n))
  rw [List.length_take, Nat.min_eq_left (by omega)] at b1
  rw [PB_succ] at h
  have e1 : mv (L.drop (j + n)) = 4294967295 := by omega
  rw [e1] at a1
  have hc : c = 0 ∨ c = 1 := by omega
  rcases hc with rfl | rfl
  · exfalso; omega
  · refine ⟨rfl, ?_⟩
    rw [mv_set hz]
    omega
/-- A dividend's pieces. -/
theorem piece_top {L : List Int} {k : Nat} {z W : Int} (hL : Lim L) (hz : L[k]? = some z) (h : mv L < PB (k + 1)) : mv (L.drop (k + 1)) = 0 := by
  have hlt : k < L.length := (List.getElem?_eq_some_iff.1 hz).1
  have a1 := mv_split L (k + 1) (by omega)
  have b2 := mv_nonneg (hL.take (k + 1))
  have b3 := mv_nonneg (hL.drop (k + 1))
  have q := PB_pos (k + 1)
  rcases Int.lt_or_le 0 (mv (L.drop (k + 1))) with hh | hh
  · have := Int.mul_le_mul_of_nonneg_left (show 1 ≤ mv (L.drop (k + 1)) by omega) (Int.le_of_lt q)
    omega
  · omega
end Go.Proofs.Ytkoejgpnlncgaaa
