/- Contracts of the small functions of vector and flight. -/
import Derived.Test.YtklkhnhieihfoaaWarm
import Derived.Test.YtklkhnhieihfoaaProg
import Derived.WalkKit
import Derived.WalkSpells
import Derived.WalkLawsBesides
import Derived.Outline
namespace Go.Proofs.Ytklkhnhieihfoaa
open Go.RowKit
theorem ret_bool {a b : Bool} (h : a = b) : Ending.returned (.bool a) = .returned (.bool b) := by rw [h]
theorem ret_vec {a b c d : Int} (h : a = c) (h' : b = d) : Ending.returned (.agg #[.int .i64 a, .int .i64 b]) = .returned (.agg #[.int .i64 c, .int .i64 d]) := by rw [h, h']
theorem bool_iff {a b : Bool} (h : a = true ↔ b = true) : a = b := by cases a <;> cases b <;> simp_all
theorem mul_bd (a b A B : Int) (h1 : -A ≤ a) (h2 : a ≤ A) (h3 : -B ≤ b) (h4 : b ≤ B) : -(A * B) ≤ a * b ∧ a * b ≤ A * B := by
  have e1 : 0 ≤ (A - a) * (B + b) := Int.mul_nonneg (by omega) (by omega)
  have e2 : 0 ≤ (A + a) * (B - b) := Int.mul_nonneg (by omega) (by omega)
  have e3 : 0 ≤ (A - a) * (B - b) := Int.mul_nonneg (by omega) (by omega)
  have e4 : 0 ≤ (A + a) * (B + b) := Int.mul_nonneg (by omega) (by omega)
  have f1 : (A - a) * (B + b) = A * B + A * b - a * B - a * b := by rw [Int.sub_mul, Int.mul_add, Int.mul_add]; omega
  have f2 : (A + a) * (B - b) = A * B - A * b + a * B - a * b := by rw [Int.add_mul, Int.mul_sub, Int.mul_sub]; omega
  have f3 : (A - a) * (B - b) = A * B - A * b - a * B + a * b := by rw [Int.sub_mul, Int.mul_sub, Int.mul_sub]; omega
  have f4 : (A + a) * (B + b) = A * B + A * b + a * B + a * b := by rw [Int.add_mul, Int.mul_add, Int.mul_add]; omega
  omega
def smallB (x y : Int) : Bool := decide (-1073741824 ≤ x ∧ x ≤ 1073741824 ∧ -1073741824 ≤ y ∧ y ≤ 1073741824)
set_option maxHeartbeats 400000 in
theorem small_any (x y : Int) (w : World) :
    Calls Try.prog 67 #[.agg #[.int .i64 x, .int .i64 y]] w fun e w' => e = .returned (.bool (smallB x y)) ∧ Below w.heap.size w w' := by
  go_enter Try.func67, Try.ntmps67
  go_wp2
  all_goals
    go_ret
    refine ⟨ret_bool (bool_iff ?_), (Below.refl _ _).alloc (Nat.le_refl _) _⟩
    simp only [smallB, decide_eq_true_eq, Bool.false_eq_true, false_iff]; omega
def keptI (x y z : Int) : Int := if smallB x y = true then z else 0
set_option maxHeartbeats 400000 in
theorem kept_any (x y : Int) (w : World) :
    Calls Try.prog 68 #[.agg #[.int .i64 x, .int .i64 y]] w fun e w' => e = .returned (.agg #[.int .i64 (keptI x y x), .int .i64 (keptI x y y)]) ∧ Below w.heap.size w w' := by
  go_enter Try.func68, Try.ntmps68
  go_wp2_with (first | (go_at_call 67; refine (small_any _ _ _).mono ?_; rintro e w1 ⟨rfl, hb1⟩; have hz1 : w.heap.size + 2 ≤ w1.heap.size := (by have h := hb1.size; (try simp at h); omega); have hbb := Below.mono hb1 (B' := w.heap.size + 2) (by (try simp) <;> omega); clear hb1; (with_reducible apply cel2 (b := w.heap.size) hbb); (focus ((try simp) <;> omega)); (focus omega); (focus (go_simp; try exact rfl)); (focus (go_simp; try exact rfl)); (focus (intro o; go_simp)); intro cc cc fz hl; (with_reducible apply cel2 (b := w.heap.size + 1) hbb); (focus ((try simp) <;> omega)); (focus omega); (focus (go_simp; try exact rfl)); (focus (go_simp; try exact rfl)); (focus (intro o; go_simp)); intro cc cc fz hl))
  · rename_i hs
    refine bodyPost_ret (v := .agg #[.int .i64 0, .int .i64 0]) (by simp only [results, Try.results68]; go_simp) rfl ⟨?_, ?_⟩
    refine ret_vec ?_ ?_
    · simp [keptI] at hs ⊢; simp [hs]
    · simp [keptI] at hs ⊢; simp [hs]
    · ((with_reducible (repeat (first | exact bR _ _ | refine bS ?_ ?_ _ | refine bA ?_ ?_ _ | refine bD ?_ | refine bT ?_ (by assumption) ?_ | refine bO (by assumption) ?_ ?_))) <;> (first | omega | (simp; done) | (simp <;> omega)))
  · rename_i hs
    refine bodyPost_ret (v := .agg #[.int .i64 x, .int .i64 y]) (by simp only [results, Try.results68]; go_simp) rfl ⟨?_, ?_⟩
    refine ret_vec ?_ ?_
    · simp [keptI] at hs ⊢; simp [hs]
    · simp [keptI] at hs ⊢; simp [hs]
    · ((with_reducible (repeat (first | exact bR _ _ | refine bS ?_ ?_ _ | refine bA ?_ ?_ _ | refine bD ?_ | refine bT ?_ (by assumption) ?_ | refine bO (by assumption) ?_ ?_))) <;> (first | omega | (simp; done) | (simp <;> omega)))
set_option maxHeartbeats 400000 in
theorem add_in (a b c d : Int) (w : World) (h1 : smallB a b = true) (h2 : smallB c d = true) :
    Calls Try.prog 113 #[.agg #[.int .i64 a, .int .i64 b], .agg #[.int .i64 c, .int .i64 d]] w fun e w' => e = .returned (.agg #[.int .i64 (keptI (a + c) (b + d) (a + c)), .int .i64 (keptI (a + c) (b + d) (b + d))]) ∧ Below w.heap.size w w' := by
  have hr1 : -1073741824 ≤ a ∧ a ≤ 1073741824 ∧ -1073741824 ≤ b ∧ b ≤ 1073741824 := by simpa [smallB] using h1
  have hr2 : -1073741824 ≤ c ∧ c ≤ 1073741824 ∧ -1073741824 ≤ d ∧ d ≤ 1073741824 := by simpa [smallB] using h2
  obtain ⟨q1, q2, q3, q4⟩ := hr1
  obtain ⟨q5, q6, q7, q8⟩ := hr2
  go_enter Try.func113, Try.ntmps113
  go_wp2_with (first | (go_at_call 67; refine (small_any _ _ _).mono ?_; rintro e w1 ⟨rfl, hb1⟩; have hz1 : w.heap.size + 3 ≤ w1.heap.size := (by have h := hb1.size; (try simp at h); omega); have hbb := Below.mono hb1 (B' := w.heap.size + 3) (by (try simp) <;> omega); clear hb1; (with_reducible apply cel2 (b := w.heap.size) hbb); (focus ((try simp) <;> omega)); (focus omega); (focus (go_simp; try exact rfl)); (focus (go_simp; try exact rfl)); (focus (intro o; go_simp)); intro cc cc fz hl; (with_reducible apply cel2 (b := w.heap.size + 1) hbb); (focus ((try simp) <;> omega)); (focus omega); (focus (go_simp; try exact rfl)); (focus (go_simp; try exact rfl)); (focus (intro o; go_simp)); intro cc cc fz hl; (with_reducible apply cel2 (b := w.heap.size + 1 + 1) hbb); (focus ((try simp) <;> omega)); (focus omega); (focus (go_simp; try exact rfl)); (focus (go_simp; try exact rfl)); (focus (intro o; go_simp)); intro cc cc fz hl) | (go_at_call 68; refine (kept_any _ _ _).mono ?_; rintro e w1 ⟨rfl, hb1⟩; have hz1 : w.heap.size + 3 ≤ w1.heap.size := (by have h := hb1.size; (try simp at h); omega); have hbb := Below.mono hb1 (B' := w.heap.size + 3) (by (try simp) <;> omega); clear hb1; (with_reducible apply cel2 (b := w.heap.size) hbb); (focus ((try simp) <;> omega)); (focus omega); (focus (go_simp; try exact rfl)); (focus (go_simp; try exact rfl)); (focus (intro o; go_simp)); intro cc cc fz hl; (with_reducible apply cel2 (b := w.heap.size + 1) hbb); (focus ((try simp) <;> omega)); (focus omega); (focus (go_simp; try exact rfl)); (focus (go_simp; try exact rfl)); (focus (intro o; go_simp)); intro cc cc fz hl; (with_reducible apply cel2 (b := w.heap.size + 1 + 1) hbb); (focus ((try simp) <;> omega)); (focus omega); (focus (go_simp; try exact rfl)); (focus (go_simp; try exact rfl)); (focus (intro o; go_simp)); intro cc cc fz hl))
  refine bodyPost_ret (v := .agg #[.int .i64 (keptI (a + c) (b + d) (a + c)), .int .i64 (keptI (a + c) (b + d) (b + d))]) (by simp only [results, Try.results113]; go_simp) rfl ⟨?_, ?_⟩
  · rfl
  · ((with_reducible (repeat (first | exact bR _ _ | refine bS ?_ ?_ _ | refine bA ?_ ?_ _ | refine bD ?_ | refine bT ?_ (by assumption) ?_ | refine bO (by assumption) ?_ ?_))) <;> (first | omega | (simp; done) | (simp <;> omega)))
set_option maxHeartbeats 400000 in
theorem scale_in (a b n : Int) (w : World) (h1 : smallB a b = true) (h2 : -1073741824 ≤ n) (h3 : n ≤ 1073741824) :
    Calls Try.prog 52 #[.agg #[.int .i64 a, .int .i64 b], .int .i64 n] w fun e w' => e = .returned (.agg #[.int .i64 (keptI (a * n) (b * n) (a * n)), .int .i64 (keptI (a * n) (b * n) (b * n))]) ∧ Below w.heap.size w w' := by
  have hr1 : -1073741824 ≤ a ∧ a ≤ 1073741824 ∧ -1073741824 ≤ b ∧ b ≤ 1073741824 := by simpa [smallB] using h1
  obtain ⟨q1, q2, q3, q4⟩ := hr1
  have m1 := mul_bd a n 1073741824 1073741824 q1 q2 h2 h3
  have m2 := mul_bd b n 1073741824 1073741824 q3 q4 h2 h3
  obtain ⟨m1a, m1b⟩ := m1
  obtain ⟨m2a, m2b⟩ := m2
  by_cases hab : a = 0 ∧ b = 0
  · obtain ⟨rfl, rfl⟩ := hab
    go_enter Try.func52, Try.ntmps52; (try simp only [List.append_eq, List.cons_append, List.nil_append])
    go_wp2_with (first | (go_at_call 67; refine (small_any _ _ _).mono ?_; rintro e w1 ⟨rfl, hb1⟩; have hz1 : w.heap.size + 2 ≤ w1.heap.size := (by have h := hb1.size; (try simp at h); omega); have hbb := Below.mono hb1 (B' := w.heap.size + 2) (by (try simp) <;> omega); clear hb1; (with_reducible apply cel2 (b := w.heap.size) hbb); (focus ((try simp) <;> omega)); (focus omega); (focus (go_simp; try exact rfl)); (focus (go_simp; try exact rfl)); (focus (intro o; go_simp)); intro cc cc fz hl; (with_reducible apply cel2 (b := w.heap.size + 1) hbb); (focus ((try simp) <;> omega)); (focus omega); (focus (go_simp; try exact rfl)); (focus (go_simp; try exact rfl)); (focus (intro o; go_simp)); intro cc cc fz hl) | (go_at_call 68; refine (kept_any _ _ _).mono ?_; rintro e w1 ⟨rfl, hb1⟩; have hz1 : w.heap.size + 2 ≤ w1.heap.size := (by have h := hb1.size; (try simp at h); omega); have hbb := Below.mono hb1 (B' := w.heap.size + 2) (by (try simp) <;> omega); clear hb1; (with_reducible apply cel2 (b := w.heap.size) hbb); (focus ((try simp) <;> omega)); (focus omega); (focus (go_simp; try exact rfl)); (focus (go_simp; try exact rfl)); (focus (intro o; go_simp)); intro cc cc fz hl; (with_reducible apply cel2 (b := w.heap.size + 1) hbb); (focus ((try simp) <;> omega)); (focus omega); (focus (go_simp; try exact rfl)); (focus (go_simp; try exact rfl)); (focus (intro o; go_simp)); intro cc cc fz hl))
    refine bodyPost_ret (v := .agg #[.int .i64 0, .int .i64 0]) (by simp only [results, Try.results52]; go_simp) rfl ⟨?_, ?_⟩
    · simp [keptI]
    · ((with_reducible (repeat (first | exact bR _ _ | refine bS ?_ ?_ _ | refine bA ?_ ?_ _ | refine bD ?_ | refine bT ?_ (by assumption) ?_ | refine bO (by assumption) ?_ ?_))) <;> (first | omega | (simp; done) | (simp <;> omega)))
  · have hne : (decide (a = 0) && decide (b = 0)) = false := by simpa using hab
    go_enter Try.func52, Try.ntmps52; (try simp only [List.append_eq, List.cons_append, List.nil_append])
    go_wp2_with (first | (go_at_call 67; refine (small_any _ _ _).mono ?_; rintro e w1 ⟨rfl, hb1⟩; have hz1 : w.heap.size + 2 ≤ w1.heap.size := (by have h := hb1.size; (try simp at h); omega); have hbb := Below.mono hb1 (B' := w.heap.size + 2) (by (try simp) <;> omega); clear hb1; (with_reducible apply cel2 (b := w.heap.size) hbb); (focus ((try simp) <;> omega)); (focus omega); (focus (go_simp; try exact rfl)); (focus (go_simp; try exact rfl)); (focus (intro o; go_simp)); intro cc cc fz hl; (with_reducible apply cel2 (b := w.heap.size + 1) hbb); (focus ((try simp) <;> omega)); (focus omega); (focus (go_simp; try exact rfl)); (focus (go_simp; try exact rfl)); (focus (intro o; go_simp)); intro cc cc fz hl) | (go_at_call 68; refine (kept_any _ _ _).mono ?_; rintro e w1 ⟨rfl, hb1⟩; have hz1 : w.heap.size + 2 ≤ w1.heap.size := (by have h := hb1.size; (try simp at h); omega); have hbb := Below.mono hb1 (B' := w.heap.size + 2) (by (try simp) <;> omega); clear hb1; (with_reducible apply cel2 (b := w.heap.size) hbb); (focus ((try simp) <;> omega)); (focus omega); (focus (go_simp; try exact rfl)); (focus (go_simp; try exact rfl)); (focus (intro o; go_simp)); intro cc cc fz hl; (with_reducible apply cel2 (b := w.heap.size + 1) hbb); (focus ((try simp) <;> omega)); (focus omega); (focus (go_simp; try exact rfl)); (focus (go_simp; try exact rfl)); (focus (intro o; go_simp)); intro cc cc fz hl))
    all_goals
      refine bodyPost_ret (v := .agg #[.int .i64 (keptI (a * n) (b * n) (a * n)), .int .i64 (keptI (a * n) (b * n) (b * n))]) (by simp only [results, Try.results52]; go_simp) rfl ⟨?_, ?_⟩
      · rfl
      · ((with_reducible (repeat (first | exact bR _ _ | refine bS ?_ ?_ _ | refine bA ?_ ?_ _ | refine bD ?_ | refine bT ?_ (by assumption) ?_ | refine bO (by assumption) ?_ ?_))) <;> (first | omega | (simp; done) | (simp <;> omega)))
def withinB (x y n : Int) : Bool := decide (-n ≤ x ∧ x ≤ n ∧ -n ≤ y ∧ y ≤ n)
set_option maxHeartbeats 400000 in
theorem within_any (x y n : Int) (w : World) (h0 : 0 ≤ n) (h1 : n ≤ 1000000000) :
    Calls Try.prog 125 #[.agg #[.int .i64 x, .int .i64 y], .int .i64 n] w fun e w' => e = .returned (.bool (withinB x y n)) ∧ Below w.heap.size w w' := by
  go_enter Try.func125, Try.ntmps125; (try simp only [List.append_eq, List.cons_append, List.nil_append])
  go_wp2
  all_goals
    go_ret
    refine ⟨ret_bool (bool_iff ?_), (Below.refl _ _).alloc (Nat.le_refl _) _⟩
    simp only [withinB, decide_eq_true_eq, Bool.false_eq_true, false_iff]; omega
def validB (px py vx vy hx hy : Int) : Bool := withinB px py 8388608 && withinB vx vy 262144 && withinB hx hy 4096
theorem valid_iff {px py vx vy hx hy : Int} (h : validB px py vx vy hx hy = true) : (-8388608 ≤ px ∧ px ≤ 8388608 ∧ -8388608 ≤ py ∧ py ≤ 8388608) ∧ (-262144 ≤ vx ∧ vx ≤ 262144 ∧ -262144 ≤ vy ∧ vy ≤ 262144) ∧ (-4096 ≤ hx ∧ hx ≤ 4096 ∧ -4096 ≤ hy ∧ hy ≤ 4096) := by
  simp only [validB, withinB, Bool.and_eq_true, decide_eq_true_eq] at h
  exact ⟨h.1.1, h.1.2, h.2⟩
theorem small_of {x y : Int} (h : -1073741824 ≤ x ∧ x ≤ 1073741824 ∧ -1073741824 ≤ y ∧ y ≤ 1073741824) : smallB x y = true := by simp only [smallB, decide_eq_true_eq]; exact h
set_option maxHeartbeats 400000 in
theorem valid_any (px py vx vy hx hy : Int) (w : World) :
    Calls Try.prog 105 #[.agg #[.int .i64 px, .int .i64 py, .int .i64 vx, .int .i64 vy, .int .i64 hx, .int .i64 hy]] w fun e w' => e = .returned (.bool (validB px py vx vy hx hy)) ∧ Below w.heap.size w w' := by
  go_enter Try.func105, Try.ntmps105; (try simp only [List.append_eq, List.cons_append, List.nil_append])
  go_wp2_with (first | (go_at_call 125; refine (within_any _ _ _ _ (by omega) (by omega)).mono ?_; rintro e w1 ⟨rfl, hb1⟩; have hz1 : w.heap.size + 1 ≤ w1.heap.size := (by have h := hb1.size; (try simp at h); omega); have hbb := Below.mono hb1 (B' := w.heap.size + 1) (by (try simp) <;> omega); clear hb1; (with_reducible apply cel6 (b := w.heap.size) hbb); (focus ((try simp) <;> omega)); (focus omega); (focus (go_simp; try exact rfl)); (focus (go_simp; try exact rfl)); (focus (go_simp; try exact rfl)); (focus (go_simp; try exact rfl)); (focus (go_simp; try exact rfl)); (focus (go_simp; try exact rfl)); (focus (intro o; go_simp)); intro cc cc cc cc cc cc fz hl))
  all_goals
    go_ret
    refine ⟨ret_bool ?_, ?_⟩
    · simp_all [validB]
    · ((with_reducible (repeat (first | exact bR _ _ | refine bS ?_ ?_ _ | refine bA ?_ ?_ _ | refine bD ?_ | refine bT ?_ (by assumption) ?_ | refine bO (by assumption) ?_ ?_))) <;> (first | omega | (simp; done) | (simp <;> omega)))
set_option maxHeartbeats 400000 in
theorem end_bad (px py vx vy hx hy : Int) (w : World) (h : validB px py vx vy hx hy = false) :
    Calls Try.prog 65 #[.agg #[.int .i64 px, .int .i64 py, .int .i64 vx, .int .i64 vy, .int .i64 hx, .int .i64 hy]] w fun e w' => e = .returned (.tuple #[.agg #[.int .i64 0, .int .i64 0], .agg #[.int .i64 0, .int .i64 0]]) ∧ Below w.heap.size w w' := by
  go_enter Try.func65, Try.ntmps65; (try simp only [List.append_eq, List.cons_append, List.nil_append])
  go_wp2_with (first | (go_at_call 105; refine (valid_any _ _ _ _ _ _ _).mono ?_; rintro e w1 ⟨rfl, hb1⟩; have hz1 : w.heap.size + 3 ≤ w1.heap.size := (by have h := hb1.size; (try simp at h); omega); have hbb := Below.mono hb1 (B' := w.heap.size + 3) (by (try simp) <;> omega); clear hb1; (with_reducible apply cel6 (b := w.heap.size) hbb); (focus ((try simp) <;> omega)); (focus omega); (focus (go_simp; try exact rfl)); (focus (go_simp; try exact rfl)); (focus (go_simp; try exact rfl)); (focus (go_simp; try exact rfl)); (focus (go_simp; try exact rfl)); (focus (go_simp; try exact rfl)); (focus (intro o; go_simp)); intro cc cc cc cc cc cc fz hl; (with_reducible apply cel2 (b := w.heap.size + 1) hbb); (focus ((try simp) <;> omega)); (focus omega); (focus (go_simp; try exact rfl)); (focus (go_simp; try exact rfl)); (focus (intro o; go_simp)); intro cc cc fz hl; (with_reducible apply cel2 (b := w.heap.size + 1 + 1) hbb); (focus ((try simp) <;> omega)); (focus omega); (focus (go_simp; try exact rfl)); (focus (go_simp; try exact rfl)); (focus (intro o; go_simp)); intro cc cc fz hl))
  refine bodyPost_ret (v := .tuple #[.agg #[.int .i64 0, .int .i64 0], .agg #[.int .i64 0, .int .i64 0]]) (by simp only [results, Try.results65]; go_simp) rfl ⟨?_, ?_⟩
  · rfl
  · ((with_reducible (repeat (first | exact bR _ _ | refine bS ?_ ?_ _ | refine bA ?_ ?_ _ | refine bD ?_ | refine bT ?_ (by assumption) ?_ | refine bO (by assumption) ?_ ?_))) <;> (first | omega | (simp; done) | (simp <;> omega)))
theorem kept_in {x y z : Int} (h : smallB x y = true) : keptI x y z = z := by simp [keptI, h]
theorem add_sm (a b c d : Int) (w : World) (h1 : smallB a b = true) (h2 : smallB c d = true) (h3 : smallB (a + c) (b + d) = true) :
    Calls Try.prog 113 #[.agg #[.int .i64 a, .int .i64 b], .agg #[.int .i64 c, .int .i64 d]] w fun e w' => e = .returned (.agg #[.int .i64 (a + c), .int .i64 (b + d)]) ∧ Below w.heap.size w w' := by
  have := add_in a b c d w h1 h2
  rw [kept_in h3, kept_in h3] at this
  exact this
theorem scale_sm (a b n : Int) (w : World) (h1 : smallB a b = true) (h2 : -1073741824 ≤ n) (h3 : n ≤ 1073741824) (h4 : smallB (a * n) (b * n) = true) :
    Calls Try.prog 52 #[.agg #[.int .i64 a, .int .i64 b], .int .i64 n] w fun e w' => e = .returned (.agg #[.int .i64 (a * n), .int .i64 (b * n)]) ∧ Below w.heap.size w w' := by
  have := scale_in a b n w h1 h2 h3
  rw [kept_in h4, kept_in h4] at this
  exact this
set_option maxHeartbeats 400000 in
theorem end_in (px py vx vy hx hy : Int) (w : World) (h : validB px py vx vy hx hy = true) :
    Calls Try.prog 65 #[.agg #[.int .i64 px, .int .i64 py, .int .i64 vx, .int .i64 vy, .int .i64 hx, .int .i64 hy]] w fun e w' => e = .returned (.tuple #[.agg #[.int .i64 (px + vx + hx), .int .i64 (py + vy + hy)], .agg #[.int .i64 (vx + hx * 2), .int .i64 (vy + hy * 2)]]) ∧ Below w.heap.size w w' := by
  obtain ⟨⟨p1, p2, p3, p4⟩, ⟨v1, v2, v3, v4⟩, h1, h2, h3, h4⟩ := valid_iff h
  go_enter Try.func65, Try.ntmps65; (try simp only [List.append_eq, List.cons_append, List.nil_append])
  go_wp2_with (first | (go_at_call 105; refine (valid_any _ _ _ _ _ _ _).mono ?_; rintro e w1 ⟨rfl, hb1⟩; have hz1 : w.heap.size + 3 ≤ w1.heap.size := (by have h := hb1.size; (try simp at h); omega); have hbb := Below.mono hb1 (B' := w.heap.size + 3) (by (try simp) <;> omega); clear hb1; (with_reducible apply cel6 (b := w.heap.size) hbb); (focus ((try simp) <;> omega)); (focus omega); (focus (go_simp; try exact rfl)); (focus (go_simp; try exact rfl)); (focus (go_simp; try exact rfl)); (focus (go_simp; try exact rfl)); (focus (go_simp; try exact rfl)); (focus (go_simp; try exact rfl)); (focus (intro o; go_simp)); intro cc cc cc cc cc cc fz hl; (with_reducible apply cel2 (b := w.heap.size + 1) hbb); (focus ((try simp) <;> omega)); (focus omega); (focus (go_simp; try exact rfl)); (focus (go_simp; try exact rfl)); (focus (intro o; go_simp)); intro cc cc fz hl; (with_reducible apply cel2 (b := w.heap.size + 1 + 1) hbb); (focus ((try simp) <;> omega)); (focus omega); (focus (go_simp; try exact rfl)); (focus (go_simp; try exact rfl)); (focus (intro o; go_simp)); intro cc cc fz hl))
  refine wp_region_warm_tail (Own (w.heap.size + 3) _) 8 (by kernel_rfl) (by kernel_rfl) (Own.refl (by (try simp) <;> omega)).drew ?_
  simp only [List.take_succ_cons, List.take_zero, List.drop_succ_cons, List.drop_zero]
  repeat (first | (refine wpWarm_step_off rfl (fun K hK => ?_); (go_simp; refine hK _ ?_; clear hK K)) | (apply wpWarm_step rfl; (focus (intro W' hS; have hcS := hS.cells.1; have hfS := hS.cells.2; go_simp; (first | done | exact rfl | exact ⟨rfl, hS⟩ | (go_at_call 113; exact (add_sm _ _ _ _ _ (small_of (by omega)) (small_of (by omega)) (small_of (by omega))).mono (fun _ _ h => ⟨h.1, hS.call h.2⟩)) | (go_simp; exact rfl)))); (intro K hK; go_simp; (try go_bits); refine hK _ ?_; clear hK K)) | (apply wpWarm_step_on rfl; (focus (intro W' hS; have hcS := hS.cells.1; have hfS := hS.cells.2; go_simp; (first | done | exact rfl | exact ⟨rfl, hS⟩ | (go_at_call 113; exact (add_sm _ _ _ _ _ (small_of (by omega)) (small_of (by omega)) (small_of (by omega))).mono (fun _ _ h => ⟨h.1, hS.call h.2⟩)) | (go_simp; exact rfl)))); (intro K hK; go_simp; (try go_bits); refine hK _ ?_; clear hK K)))
  refine wpWarm_nil ?_; intro w1 hOwn; have hz1 := hOwn.1; have hbb := hOwn.2; clear hOwn; (with_reducible apply cel6 (b := w.heap.size) hbb); (focus ((try simp) <;> omega)); (focus omega); (focus (go_simp; try exact rfl)); (focus (go_simp; try exact rfl)); (focus (go_simp; try exact rfl)); (focus (go_simp; try exact rfl)); (focus (go_simp; try exact rfl)); (focus (go_simp; try exact rfl)); (focus (intro o; go_simp)); intro cc cc cc cc cc cc fz hl; (with_reducible apply cel2 (b := w.heap.size + 1) hbb); (focus ((try simp) <;> omega)); (focus omega); (focus (go_simp; try exact rfl)); (focus (go_simp; try exact rfl)); (focus (intro o; go_simp)); intro cc cc fz hl; (with_reducible apply cel2 (b := w.heap.size + 1 + 1) hbb); (focus ((try simp) <;> omega)); (focus omega); (focus (go_simp; try exact rfl)); (focus (go_simp; try exact rfl)); (focus (intro o; go_simp)); intro cc cc fz hl
  go_wp2_with fail
  refine wp_region_warm_tail (Own (w.heap.size + 3) _) 7 (by kernel_rfl) (by kernel_rfl) (Own.refl (by (try simp) <;> omega)).drew ?_
  simp only [List.take_succ_cons, List.take_zero, List.drop_succ_cons, List.drop_zero]
  repeat (first | (refine wpWarm_step_off rfl (fun K hK => ?_); (go_simp; refine hK _ ?_; clear hK K)) | (apply wpWarm_step rfl; (focus (intro W' hS; have hcS := hS.cells.1; have hfS := hS.cells.2; go_simp; (first | done | exact rfl | exact ⟨rfl, hS⟩ | (go_at_call 113; exact (add_sm _ _ _ _ _ (small_of (by omega)) (small_of (by omega)) (small_of (by omega))).mono (fun _ _ h => ⟨h.1, hS.call h.2⟩)) | (go_at_call 52; exact (scale_sm _ _ _ _ (small_of (by omega)) (by omega) (by omega) (small_of (by omega))).mono (fun _ _ h => ⟨h.1, hS.call h.2⟩)) | (go_simp; exact rfl)))); (intro K hK; go_simp; (try go_bits); refine hK _ ?_; clear hK K)) | (apply wpWarm_step_on rfl; (focus (intro W' hS; have hcS := hS.cells.1; have hfS := hS.cells.2; go_simp; (first | done | exact rfl | exact ⟨rfl, hS⟩ | (go_at_call 113; exact (add_sm _ _ _ _ _ (small_of (by omega)) (small_of (by omega)) (small_of (by omega))).mono (fun _ _ h => ⟨h.1, hS.call h.2⟩)) | (go_at_call 52; exact (scale_sm _ _ _ _ (small_of (by omega)) (by omega) (by omega) (small_of (by omega))).mono (fun _ _ h => ⟨h.1, hS.call h.2⟩)) | (go_simp; exact rfl)))); (intro K hK; go_simp; (try go_bits); refine hK _ ?_; clear hK K)))
  refine wpWarm_nil ?_; intro w1 hOwn; have hz1 := hOwn.1; have hbb := hOwn.2; clear hOwn; (with_reducible apply cel6 (b := w.heap.size) hbb); (focus ((try simp) <;> omega)); (focus omega); (focus (go_simp; try exact rfl)); (focus (go_simp; try exact rfl)); (focus (go_simp; try exact rfl)); (focus (go_simp; try exact rfl)); (focus (go_simp; try exact rfl)); (focus (go_simp; try exact rfl)); (focus (intro o; go_simp)); intro cc cc cc cc cc cc fz hl; (with_reducible apply cel2 (b := w.heap.size + 1) hbb); (focus ((try simp) <;> omega)); (focus omega); (focus (go_simp; try exact rfl)); (focus (go_simp; try exact rfl)); (focus (intro o; go_simp)); intro cc cc fz hl; (with_reducible apply cel2 (b := w.heap.size + 1 + 1) hbb); (focus ((try simp) <;> omega)); (focus omega); (focus (go_simp; try exact rfl)); (focus (go_simp; try exact rfl)); (focus (intro o; go_simp)); intro cc cc fz hl
  go_wp2_with fail
  refine bodyPost_ret (v := .tuple #[.agg #[.int .i64 (px + vx + hx), .int .i64 (py + vy + hy)], .agg #[.int .i64 (vx + hx * 2), .int .i64 (vy + hy * 2)]]) (by simp only [results, Try.results65]; go_simp) rfl ⟨?_, ?_⟩
  · rfl
  · ((with_reducible (repeat (first | exact bR _ _ | refine bS ?_ ?_ _ | refine bA ?_ ?_ _ | refine bD ?_ | refine bT ?_ (by assumption) ?_ | refine bO (by assumption) ?_ ?_))) <;> (first | omega | (simp; done) | (simp <;> omega)))
set_option maxHeartbeats 400000 in
theorem dot_in (a b c d : Int) (w : World) (h1 : smallB a b = true) (h2 : smallB c d = true) :
    Calls Try.prog 19 #[.agg #[.int .i64 a, .int .i64 b], .agg #[.int .i64 c, .int .i64 d]] w fun e w' => e = .returned (.int .i64 (a * c + b * d)) ∧ Below w.heap.size w w' := by
  have hr1 : -1073741824 ≤ a ∧ a ≤ 1073741824 ∧ -1073741824 ≤ b ∧ b ≤ 1073741824 := by simpa [smallB] using h1
  obtain ⟨q1, q2, q3, q4⟩ := hr1
  have hr2 : -1073741824 ≤ c ∧ c ≤ 1073741824 ∧ -1073741824 ≤ d ∧ d ≤ 1073741824 := by simpa [smallB] using h2
  obtain ⟨r1, r2, r3, r4⟩ := hr2
  obtain ⟨m1, m2⟩ := mul_bd a c 1073741824 1073741824 q1 q2 r1 r2
  obtain ⟨m3, m4⟩ := mul_bd b d 1073741824 1073741824 q3 q4 r3 r4
  go_enter Try.func19, Try.ntmps19; (try simp only [List.append_eq, List.cons_append, List.nil_append])
  go_wp2_with (first | (go_at_call 67; refine (small_any _ _ _).mono ?_; rintro e w1 ⟨rfl, hb1⟩; have hz1 : w.heap.size + 2 ≤ w1.heap.size := (by have h := hb1.size; (try simp at h); omega); have hbb := Below.mono hb1 (B' := w.heap.size + 2) (by (try simp) <;> omega); clear hb1; (with_reducible apply cel2 (b := w.heap.size) hbb); (focus ((try simp) <;> omega)); (focus omega); (focus (go_simp; try exact rfl)); (focus (go_simp; try exact rfl)); (focus (intro o; go_simp)); intro cc cc fz hl; (with_reducible apply cel2 (b := w.heap.size + 1) hbb); (focus ((try simp) <;> omega)); (focus omega); (focus (go_simp; try exact rfl)); (focus (go_simp; try exact rfl)); (focus (intro o; go_simp)); intro cc cc fz hl))
  go_ret
  refine ⟨rfl, ?_⟩
  ((with_reducible (repeat (first | exact bR _ _ | refine bS ?_ ?_ _ | refine bA ?_ ?_ _ | refine bD ?_ | refine bT ?_ (by assumption) ?_ | refine bO (by assumption) ?_ ?_))) <;> (first | omega | (simp; done) | (simp <;> omega)))
set_option maxHeartbeats 400000 in
theorem dot_bad (a b c d : Int) (w : World) (h : (smallB a b && smallB c d) = false) :
    Calls Try.prog 19 #[.agg #[.int .i64 a, .int .i64 b], .agg #[.int .i64 c, .int .i64 d]] w fun e w' => e = .returned (.int .i64 0) ∧ Below w.heap.size w w' := by
  cases h1 : smallB a b
  · go_enter Try.func19, Try.ntmps19; (try simp only [List.append_eq, List.cons_append, List.nil_append])
    go_wp2_with (first | (go_at_call 67; refine (small_any _ _ _).mono ?_; rintro e w1 ⟨rfl, hb1⟩; have hz1 : w.heap.size + 2 ≤ w1.heap.size := (by have h := hb1.size; (try simp at h); omega); have hbb := Below.mono hb1 (B' := w.heap.size + 2) (by (try simp) <;> omega); clear hb1; (with_reducible apply cel2 (b := w.heap.size) hbb); (focus ((try simp) <;> omega)); (focus omega); (focus (go_simp; try exact rfl)); (focus (go_simp; try exact rfl)); (focus (intro o; go_simp)); intro cc cc fz hl; (with_reducible apply cel2 (b := w.heap.size + 1) hbb); (focus ((try simp) <;> omega)); (focus omega); (focus (go_simp; try exact rfl)); (focus (go_simp; try exact rfl)); (focus (intro o; go_simp)); intro cc cc fz hl))
    go_ret
    refine ⟨rfl, ?_⟩
    ((with_reducible (repeat (first | exact bR _ _ | refine bS ?_ ?_ _ | refine bA ?_ ?_ _ | refine bD ?_ | refine bT ?_ (by assumption) ?_ | refine bO (by assumption) ?_ ?_))) <;> (first | omega | (simp; done) | (simp <;> omega)))
  · rw [h1] at h
    simp only [Bool.true_and] at h
    go_enter Try.func19, Try.ntmps19; (try simp only [List.append_eq, List.cons_append, List.nil_append])
    go_wp2_with (first | (go_at_call 67; refine (small_any _ _ _).mono ?_; rintro e w1 ⟨rfl, hb1⟩; have hz1 : w.heap.size + 2 ≤ w1.heap.size := (by have h := hb1.size; (try simp at h); omega); have hbb := Below.mono hb1 (B' := w.heap.size + 2) (by (try simp) <;> omega); clear hb1; (with_reducible apply cel2 (b := w.heap.size) hbb); (focus ((try simp) <;> omega)); (focus omega); (focus (go_simp; try exact rfl)); (focus (go_simp; try exact rfl)); (focus (intro o; go_simp)); intro cc cc fz hl; (with_reducible apply cel2 (b := w.heap.size + 1) hbb); (focus ((try simp) <;> omega)); (focus omega); (focus (go_simp; try exact rfl)); (focus (go_simp; try exact rfl)); (focus (intro o; go_simp)); intro cc cc fz hl))
    go_ret
    refine ⟨rfl, ?_⟩
    ((with_reducible (repeat (first | exact bR _ _ | refine bS ?_ ?_ _ | refine bA ?_ ?_ _ | refine bD ?_ | refine bT ?_ (by assumption) ?_ | refine bO (by assumption) ?_ ?_))) <;> (first | omega | (simp; done) | (simp <;> omega)))
set_option maxHeartbeats 400000 in
theorem energy_in (a b : Int) (w : World) (h1 : smallB a b = true) :
    Calls Try.prog 66 #[.agg #[.int .i64 a, .int .i64 b]] w fun e w' => e = .returned (.int .i64 (a * a + b * b)) ∧ Below w.heap.size w w' := by
  go_enter Try.func66, Try.ntmps66; (try simp only [List.append_eq, List.cons_append, List.nil_append])
  go_wp2_with (first | (go_at_call 19; refine (dot_in _ _ _ _ _ h1 h1).mono ?_; rintro e w1 ⟨rfl, hb1⟩; have hz1 : w.heap.size + 1 ≤ w1.heap.size := (by have h := hb1.size; (try simp at h); omega); have hbb := Below.mono hb1 (B' := w.heap.size + 1) (by (try simp) <;> omega); clear hb1; (with_reducible apply cel2 (b := w.heap.size) hbb); (focus ((try simp) <;> omega)); (focus omega); (focus (go_simp; try exact rfl)); (focus (go_simp; try exact rfl)); (focus (intro o; go_simp)); intro cc cc fz hl))
  go_ret
  refine ⟨rfl, ?_⟩
  ((with_reducible (repeat (first | exact bR _ _ | refine bS ?_ ?_ _ | refine bA ?_ ?_ _ | refine bD ?_ | refine bT ?_ (by assumption) ?_ | refine bO (by assumption) ?_ ?_))) <;> (first | omega | (simp; done) | (simp <;> omega)))
end Go.Proofs.Ytklkhnhieihfoaa
