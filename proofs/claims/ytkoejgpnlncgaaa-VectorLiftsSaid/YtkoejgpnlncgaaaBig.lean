/- Numbers by their limbs: plain laws, no program in sight. -/
namespace Go.Proofs.Ytkoejgpnlncgaaa
set_option linter.unusedVariables false
/-- Every limb is below 2^32. -/
def Lim (l : List Int) : Prop := ∀ x ∈ l, 0 ≤ x ∧ x < 4294967296
/-- The powers of 2^32. -/
def PB (k : Nat) : Int := 4294967296 ^ k
theorem PB_zero : PB 0 = 1 := rfl
theorem PB_succ (k : Nat) : PB (k + 1) = 4294967296 * PB k := by unfold PB; rw [Int.pow_succ, Int.mul_comm]
theorem PB_pos (k : Nat) : 0 < PB k := Int.pow_pos (by decide)
theorem PB_add (a b : Nat) : PB (a + b) = PB a * PB b := Int.pow_add ..
theorem PB_mono {a b : Nat} (h : a ≤ b) : PB a ≤ PB b := by
  obtain ⟨c, rfl⟩ := Nat.le.dest h
  induction c with
  | zero => exact Int.le_refl _
  | succ c ih =>
    have h1 := ih (by omega)
    have h2 := PB_pos (a + c)
    rw [← Nat.add_assoc, PB_succ]
    omega
theorem PB_lt {a b : Nat} (h : a < b) : PB a < PB b := by
  have h1 := PB_mono (show a + 1 ≤ b by omega)
  have h2 := PB_pos a
  rw [PB_succ] at h1
  omega
/-- What limbs are worth, the lowest first. -/
def mv : List Int → Int
  | [] => 0
  | x :: l => x + 4294967296 * mv l
theorem mv_cons (x : Int) (l : List Int) : mv (x :: l) = x + 4294967296 * mv l := rfl
theorem Lim.nil : Lim [] := fun _ h => by cases h
theorem Lim.cons {x : Int} {l : List Int} (h0 : 0 ≤ x) (h1 : x < 4294967296) (h : Lim l) : Lim (x :: l) := by
  intro y hy
  rcases List.mem_cons.1 hy with rfl | hy
  · exact ⟨h0, h1⟩
  · exact h y hy
theorem Lim.tail {x : Int} {l : List Int} (h : Lim (x :: l)) : Lim l := fun y hy => h y (by simp [hy])
theorem Lim.take {l : List Int} (h : Lim l) (k : Nat) : Lim (l.take k) := fun y hy => h y (List.mem_of_mem_take hy)
theorem Lim.drop {l : List Int} (h : Lim l) (k : Nat) : Lim (l.drop k) := fun y hy => h y (List.mem_of_mem_drop hy)
theorem Lim.append {a b : List Int} (h : Lim a) (h' : Lim b) : Lim (a ++ b) := fun y hy => by
  rcases List.mem_append.1 hy with g | g
  · exact h y g
  · exact h' y g
theorem Lim.snoc {x : Int} {l : List Int} (h : Lim l) (h0 : 0 ≤ x) (h1 : x < 4294967296) : Lim (l ++ [x]) := h.append (Lim.cons h0 h1 Lim.nil)
theorem Lim.set {x : Int} {l : List Int} (h : Lim l) (k : Nat) (h0 : 0 ≤ x) (h1 : x < 4294967296) : Lim (l.set k x) := fun y hy => by
  rcases List.mem_or_eq_of_mem_set hy with g | rfl
  · exact h y g
  · exact ⟨h0, h1⟩
theorem Lim.get {l : List Int} (h : Lim l) {k : Nat} {x : Int} (hx : l[k]? = some x) : 0 ≤ x ∧ x < 4294967296 := h x (List.mem_of_getElem? hx)
theorem Lim.replicate (n : Nat) : Lim (List.replicate n 0) := fun y hy => by
  rw [(List.mem_replicate.1 hy).2]; omega
theorem mv_nonneg {l : List Int} (h : Lim l) : 0 ≤ mv l := by
  induction l with
  | nil => exact Int.le_refl _
  | cons x l ih =>
    have h1 := h x (by simp)
    have h2 := ih h.tail
    unfold mv
    omega
theorem mv_lt {l : List Int} (h : Lim l) : mv l < PB l.length := by
  induction l with
  | nil => exact Int.one_pos
  | cons x l ih =>
    have h1 := h x (by simp)
    have h2 := ih h.tail
    rw [List.length_cons, PB_succ]
    unfold mv
    omega
theorem mv_append (a b : List Int) : mv (a ++ b) = mv a + PB a.length * mv b := by
  induction a with
  | nil => simp [mv, PB_zero]
  | cons x a ih =>
    rw [List.cons_append, List.length_cons, PB_succ]
    rw [mv_cons, mv_cons, ih]
    grind
theorem mv_one (x : Int) : mv [x] = x := by unfold mv mv; omega
theorem mv_two (x y : Int) : mv [x, y] = x + 4294967296 * y := by unfold mv mv mv; omega
theorem mv_snoc (l : List Int) (x : Int) : mv (l ++ [x]) = mv l + PB l.length * x := by rw [mv_append, mv_one]
theorem mv_replicate (n : Nat) : mv (List.replicate n 0) = 0 := by
  induction n with
  | zero => rfl
  | succ n ih => rw [List.replicate_succ]; unfold mv; omega
theorem take_snocI {l : List Int} {k : Nat} {x : Int} (hx : l[k]? = some x) : l.take (k + 1) = l.take k ++ [x] := by rw [List.take_add_one, hx]; rfl
theorem mv_take_succ {l : List Int} {k : Nat} {x : Int} (hx : l[k]? = some x) : mv (l.take (k + 1)) = mv (l.take k) + PB k * x := by
  have hk := (List.getElem?_eq_some_iff.1 hx).1
  rw [take_snocI hx, mv_snoc, List.length_take, Nat.min_eq_left (by omega)]
theorem drop_consI {l : List Int} {k : Nat} {x : Int} (hx : l[k]? = some x) : l.drop k = x :: l.drop (k + 1) := by
  obtain ⟨hk, e⟩ := List.getElem?_eq_some_iff.1 hx
  rw [List.drop_eq_getElem_cons hk, e]
theorem mv_drop_succ {l : List Int} {k : Nat} {x : Int} (hx : l[k]? = some x) : mv (l.drop k) = x + 4294967296 * mv (l.drop (k + 1)) := by
  rw [drop_consI hx]; rfl
theorem mv_split (l : List Int) (k : Nat) (h : k ≤ l.length) : mv l = mv (l.take k) + PB k * mv (l.drop k) := by
  have e := mv_append (l.take k) (l.drop k)
  rw [List.take_append_drop, List.length_take, Nat.min_eq_left h] at e
  exact e
theorem mv_set {l : List Int} {k : Nat} {y : Int} (hy : l[k]? = some y) (x : Int) : mv (l.set k x) = mv l + PB k * (x - y) := by
  have hk := (List.getElem?_eq_some_iff.1 hy).1
  induction l generalizing k with
  | nil => simp at hk
  | cons z l ih =>
    cases k with
    | zero =>
      simp only [List.getElem?_cons_zero, Option.some.injEq] at hy
      subst hy
      rw [List.set_cons_zero, PB_zero]
      unfold mv
      omega
    | succ k =>
      simp only [List.getElem?_cons_succ] at hy
      have := ih hy (by simpa using hk)
      rw [List.set_cons_succ, PB_succ, mv_cons, mv_cons, this]
      grind
/-- The limbs of a number, without a zero at the end. -/
def canN (n : Nat) : List Int := if h : n = 0 then [] else ((n % 4294967296 : Nat) : Int) :: canN (n / 4294967296)
termination_by n
decreasing_by omega
theorem canN_zero : canN 0 = [] := by unfold canN; rfl
theorem canN_pos {n : Nat} (h : n ≠ 0) : canN n = ((n % 4294967296 : Nat) : Int) :: canN (n / 4294967296) := by
  rw [canN, dif_neg h]
theorem canN_lim (n : Nat) : Lim (canN n) := by
  induction n using Nat.strongRecOn with
  | ind n ih =>
    by_cases h : n = 0
    · subst h; rw [canN_zero]; exact Lim.nil
    · rw [canN_pos h]; exact Lim.cons (by omega) (by omega) (ih _ (by omega))
theorem mv_canN (n : Nat) : mv (canN n) = n := by
  induction n using Nat.strongRecOn with
  | ind n ih =>
    by_cases h : n = 0
    · subst h; rw [canN_zero]; rfl
    · rw [canN_pos h]; unfold mv; rw [ih _ (by omega)]; omega
theorem canN_last (n : Nat) : ∀ x, (canN n).getLast? = some x → x ≠ 0 := by
  induction n using Nat.strongRecOn with
  | ind n ih =>
    by_cases h : n = 0
    · subst h; rw [canN_zero]; intro x hx; cases hx
    · rw [canN_pos h]
      intro x hx
      by_cases h2 : n / 4294967296 = 0
      · rw [h2, canN_zero] at hx
        simp only [List.getLast?_singleton, Option.some.injEq] at hx
        omega
      · have h3 := canN_pos h2
        rw [h3, List.getLast?_cons_cons, ← h3] at hx
        exact ih _ (by omega) x hx
/-- Limbs without a zero at the end are those of their number. -/
theorem canN_of {l : List Int} (h : Lim l) (hl : ∀ x, l.getLast? = some x → x ≠ 0) : l = canN (mv l).toNat := by
  induction l with
  | nil => exact canN_zero.symm
  | cons x l ih =>
    have hx := h x (by simp)
    have h0 := mv_nonneg h.tail
    have ih' := ih h.tail (fun y hy => by
      cases l with
      | nil => cases hy
      | cons z l => exact hl y (by rw [List.getLast?_cons_cons]; exact hy))
    have hne : (mv (x :: l)).toNat ≠ 0 := by
      intro hz
      have hv : mv (x :: l) = x + 4294967296 * mv l := rfl
      have h1 : mv l = 0 := by omega
      rw [h1] at ih'
      have : canN (0 : Int).toNat = [] := canN_zero
      rw [this] at ih'
      subst ih'
      have := hl x rfl
      rw [h1] at hv
      omega
    have hv : mv (x :: l) = x + 4294967296 * mv l := rfl
    rw [canN_pos hne]
    have e1 : (((mv (x :: l)).toNat % 4294967296 : Nat) : Int) = x := by omega
    have e2 : (mv (x :: l)).toNat / 4294967296 = (mv l).toNat := by omega
    rw [e1, e2, ← ih']
theorem canN_len {n k : Nat} : (canN n).length ≤ k ↔ (n : Int) < PB k := by
  constructor
  · intro h
    have h1 := mv_lt (canN_lim n)
    rw [mv_canN] at h1
    have := PB_mono h
    omega
  · intro h
    induction k generalizing n with
    | zero =>
      have : n = 0 := by rw [PB_zero] at h; omega
      subst this; rw [canN_zero]; simp
    | succ k ih =>
      by_cases h0 : n = 0
      · subst h0; rw [canN_zero]; simp
      · rw [canN_pos h0, List.length_cons]
        have := @ih (n / 4294967296) (by rw [PB_succ] at h; omega)
        omega
theorem canN_len0 {n : Nat} : (canN n).length = 0 ↔ n = 0 := by
  constructor
  · intro h
    have := mv_canN n
    rw [List.length_eq_zero_iff.1 h] at this
    unfold mv at this
    omega
  · rintro rfl; rw [canN_zero]; rfl
/-- Limbs that end in nothing but zeros from a place on. -/
theorem mv_take_of_zero {l : List Int} {n : Nat} (h : ∀ k x, l[k]? = some x → n ≤ k → x = 0) : mv (l.take n) = mv l := by
  have hz : ∀ l : List Int, (∀ x ∈ l, x = 0) → mv l = 0 := by
    intro l
    induction l with
    | nil => intro _; rfl
    | cons y l ih =>
      intro hl
      have h1 := hl y (by simp)
      have h2 := ih (fun x hx => hl x (by simp [hx]))
      unfold mv
      omega
  rcases Nat.le_total l.length n with hl | hl
  · rw [List.take_of_length_le hl]
  · have h1 := mv_split l n hl
    have h2 := hz (l.drop n) (fun x hx => by
      obtain ⟨i, hi⟩ := List.getElem?_of_mem hx
      rw [List.getElem?_drop] at hi
      exact h _ x hi (by omega))
    rw [h2] at h1
    omega
/-- What is left when the zeros at the end are struck. -/
theorem canN_take {l : List Int} {n : Nat} (hl : Lim l) (hn : n ≤ l.length) (h : ∀ k x, l[k]? = some x → n ≤ k → x = 0) (h1 : ∀ x, 0 < n → l[n - 1]? = some x → x ≠ 0) :
    l.take n = canN (mv l).toNat := by
  have e := canN_of (hl.take n) (fun x hx => by
    rw [List.getLast?_eq_getElem?, List.length_take, Nat.min_eq_left hn] at hx
    by_cases h0 : n = 0
    · subst h0; simp at hx
    · rw [List.getElem?_take, if_pos (by omega)] at hx
      exact h1 x (by omega) hx)
  rw [mv_take_of_zero h] at e
  exact e
theorem mv_inj_len {a b : List Int} (ha : Lim a) (hb : Lim b) (hl : a.length = b.length) (h : mv a = mv b) : a = b := by
  induction a generalizing b with
  | nil => cases b with
    | nil => rfl
    | cons y b => simp at hl
  | cons x a ih =>
    cases b with
    | nil => simp at hl
    | cons y b =>
      have h1 := ha x (by simp)
      have h2 := hb y (by simp)
      unfold mv at h
      have e1 : x = y := by omega
      subst e1
      rw [ih ha.tail hb.tail (by simpa using hl) (by omega)]
/-- The sign and the limbs of a number. -/
def sv (neg : Bool) (m : Int) : Int := if neg = true then -m else m
end Go.Proofs.Ytkoejgpnlncgaaa
