/- The contracts of Add, Sub, Scale, Dot, Perp, of the program and of the reference. -/
import Derived.Test.YtkoejgpnlncgaaaVecR
import Derived.Test.YtkoejgpnlncgaaaLiftA
namespace Go.Proofs.Ytkoejgpnlncgaaa
open Go.RowKit
set_option linter.unusedVariables false
theorem vsmall_any (x y : Int) (w : World) : Calls Try.prog 45 #[.agg #[.int .i64 x, .int .i64 y]] w fun e w' => e = .returned (.bool (smallB x y)) ∧ Below w.heap.size w w' := small_any x y w
def keptR (x y : Int) : V2 := if smallB x y = true then (x, y) else (0, 0)
def addR (a b c d : Int) : V2 := if smallB a b = true ∧ smallB c d = true then keptR (a + c) (b + d) else (0, 0)
def subR (a b c d : Int) : V2 := if smallB a b = true ∧ smallB c d = true then keptR (a - c) (b - d) else (0, 0)
def scaleR (a b n : Int) : V2 := if smallB a b = true ∧ (-1073741824 ≤ n ∧ n ≤ 1073741824) then keptR (a * n) (b * n) else (0, 0)
def dotR (a b c d : Int) : Int := if smallB a b = true ∧ smallB c d = true then a * c + b * d else 0
def perpR (a b : Int) : V2 := if smallB a b = true then (-b, a) else (0, 0)
theorem scale_out {a b n : Int} (h0 : ¬ (a = 0 ∧ b = 0)) (hn : n < -1073741824 ∨ 1073741824 < n) : smallB (a * n) (b * n) = false := by
  have key : ∀ a n : Int, a ≠ 0 → (n < -1073741824 ∨ 1073741824 < n) → ¬ (-1073741824 ≤ a * n ∧ a * n ≤ 1073741824) := by
    intro a n ha hn
    rcases Int.lt_or_gt_of_ne ha with g | g <;> rcases hn with h | h
    · have := Int.mul_le_mul_of_nonpos_right (show a ≤ -1 by omega) (show n ≤ 0 by omega)
      omega
    · have := Int.mul_le_mul_of_nonneg_right (show a ≤ -1 by omega) (show 0 ≤ n by omega)
      omega
    · have := Int.mul_le_mul_of_nonpos_right (show 1 ≤ a by omega) (show n ≤ 0 by omega)
      omega
    · have := Int.mul_le_mul_of_nonneg_right (show 1 ≤ a by omega) (show 0 ≤ n by omega)
      omega
  cases h : smallB (a * n) (b * n)
  · rfl
  · exfalso
    obtain ⟨q1, q2, q3, q4⟩ := small_bd h
    by_cases ha : a = 0
    · exact key b n (fun hb => h0 ⟨ha, hb⟩) hn ⟨q3, q4⟩
    · exact key a n ha hn ⟨q1, q2⟩
set_option maxHeartbeats 400000 in
theorem vkept_ok (x y : Int) (w : World) :
    Calls Try.prog 84 #[.agg #[.int .i64 x, .int .i64 y]] w fun e w' => e = .returned (.agg #[.int .i64 (keptR x y).1, .int .i64 (keptR x y).2]) ∧ Below w.heap.size w w' := by
  unfold keptR
  by_cases hs : smallB x y = true
  · rw [if_pos hs]
    go_enter Try.func84, Try.ntmps84; (try simp only [List.append_eq, List.cons_append, List.nil_append])
    go_wp2_with (first | (go_at_call 45; refine (vsmall_any _ _ _).mono ?_; rintro e w1 ⟨rfl, hb1⟩; have hz1 : w.heap.size + 2 ≤ w1.heap.size := (by have h := hb1.size; (try simp at h); omega); have hbb := Below.mono hb1 (B' := w.heap.size + 2) (by (try simp) <;> omega); clear hb1; (with_reducible apply cel2 (b := w.heap.size) hbb); (focus ((try simp) <;> omega)); (focus omega); (focus (go_simp; try exact rfl)); (focus (go_simp; try exact rfl)); (focus (intro o; go_simp)); intro cc cc fz hl; (with_reducible apply cel2 (b := w.heap.size + 1) hbb); (focus ((try simp) <;> omega)); (focus omega); (focus (go_simp; try exact rfl)); (focus (go_simp; try exact rfl)); (focus (intro o; go_simp)); intro cc cc fz hl))
    refine bodyPost_ret (v := .agg #[.int .i64 x, .int .i64 y]) (by simp only [results, Try.results84]; go_simp) rfl ⟨?_, ?_⟩
    · rfl
    · ((with_reducible (repeat (first | exact bR _ _ | refine bS ?_ ?_ _ | refine bA ?_ ?_ _ | refine bD ?_ | refine bT ?_ (by assumption) ?_ | refine bO (by assumption) ?_ ?_))) <;> (first | omega | (simp; done) | (simp <;> omega)))
  · rw [if_neg hs]
    have hs' : smallB x y = false := by simpa using hs
    go_enter Try.func84, Try.ntmps84; (try simp only [List.append_eq, List.cons_append, List.nil_append])
    go_wp2_with (first | (go_at_call 45; refine (vsmall_any _ _ _).mono ?_; rintro e w1 ⟨rfl, hb1⟩; have hz1 : w.heap.size + 2 ≤ w1.heap.size := (by have h := hb1.size; (try simp at h); omega); have hbb := Below.mono hb1 (B' := w.heap.size + 2) (by (try simp) <;> omega); clear hb1; (with_reducible apply cel2 (b := w.heap.size) hbb); (focus ((try simp) <;> omega)); (focus omega); (focus (go_simp; try exact rfl)); (focus (go_simp; try exact rfl)); (focus (intro o; go_simp)); intro cc cc fz hl; (with_reducible apply cel2 (b := w.heap.size + 1) hbb); (focus ((try simp) <;> omega)); (focus omega); (focus (go_simp; try exact rfl)); (focus (go_simp; try exact rfl)); (focus (intro o; go_simp)); intro cc cc fz hl))
    refine bodyPost_ret (v := .agg #[.int .i64 0, .int .i64 0]) (by simp only [results, Try.results84]; go_simp) rfl ⟨?_, ?_⟩
    · rfl
    · ((with_reducible (repeat (first | exact bR _ _ | refine bS ?_ ?_ _ | refine bA ?_ ?_ _ | refine bD ?_ | refine bT ?_ (by assumption) ?_ | refine bO (by assumption) ?_ ?_))) <;> (first | omega | (simp; done) | (simp <;> omega)))
set_option maxHeartbeats 400000 in
theorem rkept_ok (x y : Int) (w : World) :
    Calls Try.prog 85 #[.agg #[.int .i64 x, .int .i64 y]] w fun e w' => e = .returned (.agg #[.int .i64 (keptR x y).1, .int .i64 (keptR x y).2]) ∧ Below w.heap.size w w' := by
  unfold keptR
  by_cases hs : smallB x y = true
  · rw [if_pos hs]
    go_enter Try.func85, Try.ntmps85; (try simp only [List.append_eq, List.cons_append, List.nil_append])
    go_wp2_with (first | (go_at_call 36; refine (rsmall_any _ _ _).mono ?_; rintro e w1 ⟨rfl, hb1⟩; have hz1 : w.heap.size + 2 ≤ w1.heap.size := (by have h := hb1.size; (try simp at h); omega); have hbb := Below.mono hb1 (B' := w.heap.size + 2) (by (try simp) <;> omega); clear hb1; (with_reducible apply cel2 (b := w.heap.size) hbb); (focus ((try simp) <;> omega)); (focus omega); (focus (go_simp; try exact rfl)); (focus (go_simp; try exact rfl)); (focus (intro o; go_simp)); intro cc cc fz hl; (with_reducible apply cel2 (b := w.heap.size + 1) hbb); (focus ((try simp) <;> omega)); (focus omega); (focus (go_simp; try exact rfl)); (focus (go_simp; try exact rfl)); (focus (intro o; go_simp)); intro cc cc fz hl))
    refine bodyPost_ret (v := .agg #[.int .i64 x, .int .i64 y]) (by simp only [results, Try.results85]; go_simp) rfl ⟨?_, ?_⟩
    · rfl
    · ((with_reducible (repeat (first | exact bR _ _ | refine bS ?_ ?_ _ | refine bA ?_ ?_ _ | refine bD ?_ | refine bT ?_ (by assumption) ?_ | refine bO (by assumption) ?_ ?_))) <;> (first | omega | (simp; done) | (simp <;> omega)))
  · rw [if_neg hs]
    have hs' : smallB x y = false := by simpa using hs
    go_enter Try.func85, Try.ntmps85; (try simp only [List.append_eq, List.cons_append, List.nil_append])
    go_wp2_with (first | (go_at_call 36; refine (rsmall_any _ _ _).mono ?_; rintro e w1 ⟨rfl, hb1⟩; have hz1 : w.heap.size + 2 ≤ w1.heap.size := (by have h := hb1.size; (try simp at h); omega); have hbb := Below.mono hb1 (B' := w.heap.size + 2) (by (try simp) <;> omega); clear hb1; (with_reducible apply cel2 (b := w.heap.size) hbb); (focus ((try simp) <;> omega)); (focus omega); (focus (go_simp; try exact rfl)); (focus (go_simp; try exact rfl)); (focus (intro o; go_simp)); intro cc cc fz hl; (with_reducible apply cel2 (b := w.heap.size + 1) hbb); (focus ((try simp) <;> omega)); (focus omega); (focus (go_simp; try exact rfl)); (focus (go_simp; try exact rfl)); (focus (intro o; go_simp)); intro cc cc fz hl))
    refine bodyPost_ret (v := .agg #[.int .i64 0, .int .i64 0]) (by simp only [results, Try.results85]; go_simp) rfl ⟨?_, ?_⟩
    · rfl
    · ((with_reducible (repeat (first | exact bR _ _ | refine bS ?_ ?_ _ | refine bA ?_ ?_ _ | refine bD ?_ | refine bT ?_ (by assumption) ?_ | refine bO (by assumption) ?_ ?_))) <;> (first | omega | (simp; done) | (simp <;> omega)))
set_option maxHeartbeats 800000 in
theorem vadd_any (a b c d : Int) (w : World) :
    Calls Try.prog 46 #[.agg #[.int .i64 a, .int .i64 b], .agg #[.int .i64 c, .int .i64 d]] w fun e w' => e = .returned (.agg #[.int .i64 (addR a b c d).1, .int .i64 (addR a b c d).2]) ∧ Below w.heap.size w w' := by
  unfold addR
  cases h1 : smallB a b
  · rw [if_neg (fun h => by cases h.1)]
    go_enter Try.func46, Try.ntmps46; (try simp only [List.append_eq, List.cons_append, List.nil_append])
    go_wp2_with (first | (go_at_call 45; refine (vsmall_any _ _ _).mono ?_; rintro e w1 ⟨rfl, hb1⟩; have hz1 : w.heap.size + 3 ≤ w1.heap.size := (by have h := hb1.size; (try simp at h); omega); have hbb := Below.mono hb1 (B' := w.heap.size + 3) (by (try simp) <;> omega); clear hb1; (with_reducible apply cel2 (b := w.heap.size) hbb); (focus ((try simp) <;> omega)); (focus omega); (focus (go_simp; try exact rfl)); (focus (go_simp; try exact rfl)); (focus (intro o; go_simp)); intro cc cc fz hl; (with_reducible apply cel2 (b := w.heap.size + 1) hbb); (focus ((try simp) <;> omega)); (focus omega); (focus (go_simp; try exact rfl)); (focus (go_simp; try exact rfl)); (focus (intro o; go_simp)); intro cc cc fz hl; (with_reducible apply cel2 (b := w.heap.size + 1 + 1) hbb); (focus ((try simp) <;> omega)); (focus omega); (focus (go_simp; try exact rfl)); (focus (go_simp; try exact rfl)); (focus (intro o; go_simp)); intro cc cc fz hl))
    refine bodyPost_ret (v := .agg #[.int .i64 0, .int .i64 0]) (by simp only [results, Try.results46]; go_simp) rfl ⟨?_, ?_⟩
    · rfl
    · ((with_reducible (repeat (first | exact bR _ _ | refine bS ?_ ?_ _ | refine bA ?_ ?_ _ | refine bD ?_ | refine bT ?_ (by assumption) ?_ | refine bO (by assumption) ?_ ?_))) <;> (first | omega | (simp; done) | (simp <;> omega)))
  · cases h2 : smallB c d
    · rw [if_neg (fun h => by cases h.2)]
      go_enter Try.func46, Try.ntmps46; (try simp only [List.append_eq, List.cons_append, List.nil_append])
      go_wp2_with (first | (go_at_call 45; refine (vsmall_any _ _ _).mono ?_; rintro e w1 ⟨rfl, hb1⟩; have hz1 : w.heap.size + 3 ≤ w1.heap.size := (by have h := hb1.size; (try simp at h); omega); have hbb := Below.mono hb1 (B' := w.heap.size + 3) (by (try simp) <;> omega); clear hb1; (with_reducible apply cel2 (b := w.heap.size) hbb); (focus ((try simp) <;> omega)); (focus omega); (focus (go_simp; try exact rfl)); (focus (go_simp; try exact rfl)); (focus (intro o; go_simp)); intro cc cc fz hl; (with_reducible apply cel2 (b := w.heap.size + 1) hbb); (focus ((try simp) <;> omega)); (focus omega); (focus (go_simp; try exact rfl)); (focus (go_simp; try exact rfl)); (focus (intro o; go_simp)); intro cc cc fz hl; (with_reducible apply cel2 (b := w.heap.size + 1 + 1) hbb); (focus ((try simp) <;> omega)); (focus omega); (focus (go_simp; try exact rfl)); (focus (go_simp; try exact rfl)); (focus (intro o; go_simp)); intro cc cc fz hl))
      refine bodyPost_ret (v := .agg #[.int .i64 0, .int .i64 0]) (by simp only [results, Try.results46]; go_simp) rfl ⟨?_, ?_⟩
      · rfl
      · ((with_reducible (repeat (first | exact bR _ _ | refine bS ?_ ?_ _ | refine bA ?_ ?_ _ | refine bD ?_ | refine bT ?_ (by assumption) ?_ | refine bO (by assumption) ?_ ?_))) <;> (first | omega | (simp; done) | (simp <;> omega)))
    · rw [if_pos ⟨rfl, rfl⟩]
      obtain ⟨q1, q2, q3, q4⟩ := small_bd h1
      obtain ⟨q5, q6, q7, q8⟩ := small_bd h2
      go_enter Try.func46, Try.ntmps46; (try simp only [List.append_eq, List.cons_append, List.nil_append])
      go_wp2_with (first | (go_at_call 45; refine (vsmall_any _ _ _).mono ?_; rintro e w1 ⟨rfl, hb1⟩; have hz1 : w.heap.size + 3 ≤ w1.heap.size := (by have h := hb1.size; (try simp at h); omega); have hbb := Below.mono hb1 (B' := w.heap.size + 3) (by (try simp) <;> omega); clear hb1; (with_reducible apply cel2 (b := w.heap.size) hbb); (focus ((try simp) <;> omega)); (focus omega); (focus (go_simp; try exact rfl)); (focus (go_simp; try exact rfl)); (focus (intro o; go_simp)); intro cc cc fz hl; (with_reducible apply cel2 (b := w.heap.size + 1) hbb); (focus ((try simp) <;> omega)); (focus omega); (focus (go_simp; try exact rfl)); (focus (go_simp; try exact rfl)); (focus (intro o; go_simp)); intro cc cc fz hl; (with_reducible apply cel2 (b := w.heap.size + 1 + 1) hbb); (focus ((try simp) <;> omega)); (focus omega); (focus (go_simp; try exact rfl)); (focus (go_simp; try exact rfl)); (focus (intro o; go_simp)); intro cc cc fz hl) | (go_at_call 84; refine (vkept_ok _ _ _).mono ?_; rintro e w1 ⟨rfl, hb1⟩; have hz1 : w.heap.size + 3 ≤ w1.heap.size := (by have h := hb1.size; (try simp at h); omega); have hbb := Below.mono hb1 (B' := w.heap.size + 3) (by (try simp) <;> omega); clear hb1; (with_reducible apply cel2 (b := w.heap.size) hbb); (focus ((try simp) <;> omega)); (focus omega); (focus (go_simp; try exact rfl)); (focus (go_simp; try exact rfl)); (focus (intro o; go_simp)); intro cc cc fz hl; (with_reducible apply cel2 (b := w.heap.size + 1) hbb); (focus ((try simp) <;> omega)); (focus omega); (focus (go_simp; try exact rfl)); (focus (go_simp; try exact rfl)); (focus (intro o; go_simp)); intro cc cc fz hl; (with_reducible apply cel2 (b := w.heap.size + 1 + 1) hbb); (focus ((try simp) <;> omega)); (focus omega); (focus (go_simp; try exact rfl)); (focus (go_simp; try exact rfl)); (focus (intro o; go_simp)); intro cc cc fz hl))
      refine bodyPost_ret (v := .agg #[.int .i64 (keptR (a + c) (b + d)).1, .int .i64 (keptR (a + c) (b + d)).2]) (by simp only [results, Try.results46]; go_simp) rfl ⟨?_, ?_⟩
      · rfl
      · ((with_reducible (repeat (first | exact bR _ _ | refine bS ?_ ?_ _ | refine bA ?_ ?_ _ | refine bD ?_ | refine bT ?_ (by assumption) ?_ | refine bO (by assumption) ?_ ?_))) <;> (first | omega | (simp; done) | (simp <;> omega)))
set_option maxHeartbeats 800000 in
theorem radd_any (a b c d : Int) (w : World) :
    Calls Try.prog 47 #[.agg #[.int .i64 a, .int .i64 b], .agg #[.int .i64 c, .int .i64 d]] w fun e w' => e = .returned (.agg #[.int .i64 (addR a b c d).1, .int .i64 (addR a b c d).2]) ∧ Below w.heap.size w w' := by
  unfold addR
  cases h1 : smallB a b
  · rw [if_neg (fun h => by cases h.1)]
    go_enter Try.func47, Try.ntmps47; (try simp only [List.append_eq, List.cons_append, List.nil_append])
    go_wp2_with (first | (go_at_call 36; refine (rsmall_any _ _ _).mono ?_; rintro e w1 ⟨rfl, hb1⟩; have hz1 : w.heap.size + 3 ≤ w1.heap.size := (by have h := hb1.size; (try simp at h); omega); have hbb := Below.mono hb1 (B' := w.heap.size + 3) (by (try simp) <;> omega); clear hb1; (with_reducible apply cel2 (b := w.heap.size) hbb); (focus ((try simp) <;> omega)); (focus omega); (focus (go_simp; try exact rfl)); (focus (go_simp; try exact rfl)); (focus (intro o; go_simp)); intro cc cc fz hl; (with_reducible apply cel2 (b := w.heap.size + 1) hbb); (focus ((try simp) <;> omega)); (focus omega); (focus (go_simp; try exact rfl)); (focus (go_simp; try exact rfl)); (focus (intro o; go_simp)); intro cc cc fz hl; (with_reducible apply cel2 (b := w.heap.size + 1 + 1) hbb); (focus ((try simp) <;> omega)); (focus omega); (focus (go_simp; try exact rfl)); (focus (go_simp; try exact rfl)); (focus (intro o; go_simp)); intro cc cc fz hl))
    refine bodyPost_ret (v := .agg #[.int .i64 0, .int .i64 0]) (by simp only [results, Try.results47]; go_simp) rfl ⟨?_, ?_⟩
    · rfl
    · ((with_reducible (repeat (first | exact bR _ _ | refine bS ?_ ?_ _ | refine bA ?_ ?_ _ | refine bD ?_ | refine bT ?_ (by assumption) ?_ | refine bO (by assumption) ?_ ?_))) <;> (first | omega | (simp; done) | (simp <;> omega)))
  · cases h2 : smallB c d
    · rw [if_neg (fun h => by cases h.2)]
      go_enter Try.func47, Try.ntmps47; (try simp only [List.append_eq, List.cons_append, List.nil_append])
      go_wp2_with (first | (go_at_call 36; refine (rsmall_any _ _ _).mono ?_; rintro e w1 ⟨rfl, hb1⟩; have hz1 : w.heap.size + 3 ≤ w1.heap.size := (by have h := hb1.size; (try simp at h); omega); have hbb := Below.mono hb1 (B' := w.heap.size + 3) (by (try simp) <;> omega); clear hb1; (with_reducible apply cel2 (b := w.heap.size) hbb); (focus ((try simp) <;> omega)); (focus omega); (focus (go_simp; try exact rfl)); (focus (go_simp; try exact rfl)); (focus (intro o; go_simp)); intro cc cc fz hl; (with_reducible apply cel2 (b := w.heap.size + 1) hbb); (focus ((try simp) <;> omega)); (focus omega); (focus (go_simp; try exact rfl)); (focus (go_simp; try exact rfl)); (focus (intro o; go_simp)); intro cc cc fz hl; (with_reducible apply cel2 (b := w.heap.size + 1 + 1) hbb); (focus ((try simp) <;> omega)); (focus omega); (focus (go_simp; try exact rfl)); (focus (go_simp; try exact rfl)); (focus (intro o; go_simp)); intro cc cc fz hl))
      refine bodyPost_ret (v := .agg #[.int .i64 0, .int .i64 0]) (by simp only [results, Try.results47]; go_simp) rfl ⟨?_, ?_⟩
      · rfl
      · ((with_reducible (repeat (first | exact bR _ _ | refine bS ?_ ?_ _ | refine bA ?_ ?_ _ | refine bD ?_ | refine bT ?_ (by assumption) ?_ | refine bO (by assumption) ?_ ?_))) <;> (first | omega | (simp; done) | (simp <;> omega)))
    · rw [if_pos ⟨rfl, rfl⟩]
      obtain ⟨q1, q2, q3, q4⟩ := small_bd h1
      obtain ⟨q5, q6, q7, q8⟩ := small_bd h2
      go_enter Try.func47, Try.ntmps47; (try simp only [List.append_eq, List.cons_append, List.nil_append])
      go_wp2_with (first | (go_at_call 36; refine (rsmall_any _ _ _).mono ?_; rintro e w1 ⟨rfl, hb1⟩; have hz1 : w.heap.size + 3 ≤ w1.heap.size := (by have h := hb1.size; (try simp at h); omega); have hbb := Below.mono hb1 (B' := w.heap.size + 3) (by (try simp) <;> omega); clear hb1; (with_reducible apply cel2 (b := w.heap.size) hbb); (focus ((try simp) <;> omega)); (focus omega); (focus (go_simp; try exact rfl)); (focus (go_simp; try exact rfl)); (focus (intro o; go_simp)); intro cc cc fz hl; (with_reducible apply cel2 (b := w.heap.size + 1) hbb); (focus ((try simp) <;> omega)); (focus omega); (focus (go_simp; try exact rfl)); (focus (go_simp; try exact rfl)); (focus (intro o; go_simp)); intro cc cc fz hl; (with_reducible apply cel2 (b := w.heap.size + 1 + 1) hbb); (focus ((try simp) <;> omega)); (focus omega); (focus (go_simp; try exact rfl)); (focus (go_simp; try exact rfl)); (focus (intro o; go_simp)); intro cc cc fz hl) | (go_at_call 85; refine (rkept_ok _ _ _).mono ?_; rintro e w1 ⟨rfl, hb1⟩; have hz1 : w.heap.size + 3 ≤ w1.heap.size := (by have h := hb1.size; (try simp at h); omega); have hbb := Below.mono hb1 (B' := w.heap.size + 3) (by (try simp) <;> omega); clear hb1; (with_reducible apply cel2 (b := w.heap.size) hbb); (focus ((try simp) <;> omega)); (focus omega); (focus (go_simp; try exact rfl)); (focus (go_simp; try exact rfl)); (focus (intro o; go_simp)); intro cc cc fz hl; (with_reducible apply cel2 (b := w.heap.size + 1) hbb); (focus ((try simp) <;> omega)); (focus omega); (focus (go_simp; try exact rfl)); (focus (go_simp; try exact rfl)); (focus (intro o; go_simp)); intro cc cc fz hl; (with_reducible apply cel2 (b := w.heap.size + 1 + 1) hbb); (focus ((try simp) <;> omega)); (focus omega); (focus (go_simp; try exact rfl)); (focus (go_simp; try exact rfl)); (focus (intro o; go_simp)); intro cc cc fz hl))
      refine bodyPost_ret (v := .agg #[.int .i64 (keptR (a + c) (b + d)).1, .int .i64 (keptR (a + c) (b + d)).2]) (by simp only [results, Try.results47]; go_simp) rfl ⟨?_, ?_⟩
      · rfl
      · ((with_reducible (repeat (first | exact bR _ _ | refine bS ?_ ?_ _ | refine bA ?_ ?_ _ | refine bD ?_ | refine bT ?_ (by assumption) ?_ | refine bO (by assumption) ?_ ?_))) <;> (first | omega | (simp; done) | (simp <;> omega)))
set_option maxHeartbeats 800000 in
theorem vsub_any (a b c d : Int) (w : World) :
    Calls Try.prog 43 #[.agg #[.int .i64 a, .int .i64 b], .agg #[.int .i64 c, .int .i64 d]] w fun e w' => e = .returned (.agg #[.int .i64 (subR a b c d).1, .int .i64 (subR a b c d).2]) ∧ Below w.heap.size w w' := by
  unfold subR
  cases h1 : smallB a b
  · rw [if_neg (fun h => by cases h.1)]
    go_enter Try.func43, Try.ntmps43; (try simp only [List.append_eq, List.cons_append, List.nil_append])
    go_wp2_with (first | (go_at_call 45; refine (vsmall_any _ _ _).mono ?_; rintro e w1 ⟨rfl, hb1⟩; have hz1 : w.heap.size + 3 ≤ w1.heap.size := (by have h := hb1.size; (try simp at h); omega); have hbb := Below.mono hb1 (B' := w.heap.size + 3) (by (try simp) <;> omega); clear hb1; (with_reducible apply cel2 (b := w.heap.size) hbb); (focus ((try simp) <;> omega)); (focus omega); (focus (go_simp; try exact rfl)); (focus (go_simp; try exact rfl)); (focus (intro o; go_simp)); intro cc cc fz hl; (with_reducible apply cel2 (b := w.heap.size + 1) hbb); (focus ((try simp) <;> omega)); (focus omega); (focus (go_simp; try exact rfl)); (focus (go_simp; try exact rfl)); (focus (intro o; go_simp)); intro cc cc fz hl; (with_reducible apply cel2 (b := w.heap.size + 1 + 1) hbb); (focus ((try simp) <;> omega)); (focus omega); (focus (go_simp; try exact rfl)); (focus (go_simp; try exact rfl)); (focus (intro o; go_simp)); intro cc cc fz hl))
    refine bodyPost_ret (v := .agg #[.int .i64 0, .int .i64 0]) (by simp only [results, Try.results43]; go_simp) rfl ⟨?_, ?_⟩
    · rfl
    · ((with_reducible (repeat (first | exact bR _ _ | refine bS ?_ ?_ _ | refine bA ?_ ?_ _ | refine bD ?_ | refine bT ?_ (by assumption) ?_ | refine bO (by assumption) ?_ ?_))) <;> (first | omega | (simp; done) | (simp <;> omega)))
  · cases h2 : smallB c d
    · rw [if_neg (fun h => by cases h.2)]
      go_enter Try.func43, Try.ntmps43; (try simp only [List.append_eq, List.cons_append, List.nil_append])
      go_wp2_with (first | (go_at_call 45; refine (vsmall_any _ _ _).mono ?_; rintro e w1 ⟨rfl, hb1⟩; have hz1 : w.heap.size + 3 ≤ w1.heap.size := (by have h := hb1.size; (try simp at h); omega); have hbb := Below.mono hb1 (B' := w.heap.size + 3) (by (try simp) <;> omega); clear hb1; (with_reducible apply cel2 (b := w.heap.size) hbb); (focus ((try simp) <;> omega)); (focus omega); (focus (go_simp; try exact rfl)); (focus (go_simp; try exact rfl)); (focus (intro o; go_simp)); intro cc cc fz hl; (with_reducible apply cel2 (b := w.heap.size + 1) hbb); (focus ((try simp) <;> omega)); (focus omega); (focus (go_simp; try exact rfl)); (focus (go_simp; try exact rfl)); (focus (intro o; go_simp)); intro cc cc fz hl; (with_reducible apply cel2 (b := w.heap.size + 1 + 1) hbb); (focus ((try simp) <;> omega)); (focus omega); (focus (go_simp; try exact rfl)); (focus (go_simp; try exact rfl)); (focus (intro o; go_simp)); intro cc cc fz hl))
      refine bodyPost_ret (v := .agg #[.int .i64 0, .int .i64 0]) (by simp only [results, Try.results43]; go_simp) rfl ⟨?_, ?_⟩
      · rfl
      · ((with_reducible (repeat (first | exact bR _ _ | refine bS ?_ ?_ _ | refine bA ?_ ?_ _ | refine bD ?_ | refine bT ?_ (by assumption) ?_ | refine bO (by assumption) ?_ ?_))) <;> (first | omega | (simp; done) | (simp <;> omega)))
    · rw [if_pos ⟨rfl, rfl⟩]
      obtain ⟨q1, q2, q3, q4⟩ := small_bd h1
      obtain ⟨q5, q6, q7, q8⟩ := small_bd h2
      go_enter Try.func43, Try.ntmps43; (try simp only [List.append_eq, List.cons_append, List.nil_append])
      go_wp2_with (first | (go_at_call 45; refine (vsmall_any _ _ _).mono ?_; rintro e w1 ⟨rfl, hb1⟩; have hz1 : w.heap.size + 3 ≤ w1.heap.size := (by have h := hb1.size; (try simp at h); omega); have hbb := Below.mono hb1 (B' := w.heap.size + 3) (by (try simp) <;> omega); clear hb1; (with_reducible apply cel2 (b := w.heap.size) hbb); (focus ((try simp) <;> omega)); (focus omega); (focus (go_simp; try exact rfl)); (focus (go_simp; try exact rfl)); (focus (intro o; go_simp)); intro cc cc fz hl; (with_reducible apply cel2 (b := w.heap.size + 1) hbb); (focus ((try simp) <;> omega)); (focus omega); (focus (go_simp; try exact rfl)); (focus (go_simp; try exact rfl)); (focus (intro o; go_simp)); intro cc cc fz hl; (with_reducible apply cel2 (b := w.heap.size + 1 + 1) hbb); (focus ((try simp) <;> omega)); (focus omega); (focus (go_simp; try exact rfl)); (focus (go_simp; try exact rfl)); (focus (intro o; go_simp)); intro cc cc fz hl) | (go_at_call 84; refine (vkept_ok _ _ _).mono ?_; rintro e w1 ⟨rfl, hb1⟩; have hz1 : w.heap.size + 3 ≤ w1.heap.size := (by have h := hb1.size; (try simp at h); omega); have hbb := Below.mono hb1 (B' := w.heap.size + 3) (by (try simp) <;> omega); clear hb1; (with_reducible apply cel2 (b := w.heap.size) hbb); (focus ((try simp) <;> omega)); (focus omega); (focus (go_simp; try exact rfl)); (focus (go_simp; try exact rfl)); (focus (intro o; go_simp)); intro cc cc fz hl; (with_reducible apply cel2 (b := w.heap.size + 1) hbb); (focus ((try simp) <;> omega)); (focus omega); (focus (go_simp; try exact rfl)); (focus (go_simp; try exact rfl)); (focus (intro o; go_simp)); intro cc cc fz hl; (with_reducible apply cel2 (b := w.heap.size + 1 + 1) hbb); (focus ((try simp) <;> omega)); (focus omega); (focus (go_simp; try exact rfl)); (focus (go_simp; try exact rfl)); (focus (intro o; go_simp)); intro cc cc fz hl))
      refine bodyPost_ret (v := .agg #[.int .i64 (keptR (a - c) (b - d)).1, .int .i64 (keptR (a - c) (b - d)).2]) (by simp only [results, Try.results43]; go_simp) rfl ⟨?_, ?_⟩
      · rfl
      · ((with_reducible (repeat (first | exact bR _ _ | refine bS ?_ ?_ _ | refine bA ?_ ?_ _ | refine bD ?_ | refine bT ?_ (by assumption) ?_ | refine bO (by assumption) ?_ ?_))) <;> (first | omega | (simp; done) | (simp <;> omega)))
set_option maxHeartbeats 800000 in
theorem rsub_any (a b c d : Int) (w : World) :
    Calls Try.prog 48 #[.agg #[.int .i64 a, .int .i64 b], .agg #[.int .i64 c, .int .i64 d]] w fun e w' => e = .returned (.agg #[.int .i64 (subR a b c d).1, .int .i64 (subR a b c d).2]) ∧ Below w.heap.size w w' := by
  unfold subR
  cases h1 : smallB a b
  · rw [if_neg (fun h => by cases h.1)]
    go_enter Try.func48, Try.ntmps48; (try simp only [List.append_eq, List.cons_append, List.nil_append])
    go_wp2_with (first | (go_at_call 36; refine (rsmall_any _ _ _).mono ?_; rintro e w1 ⟨rfl, hb1⟩; have hz1 : w.heap.size + 3 ≤ w1.heap.size := (by have h := hb1.size; (try simp at h); omega); have hbb := Below.mono hb1 (B' := w.heap.size + 3) (by (try simp) <;> omega); clear hb1; (with_reducible apply cel2 (b := w.heap.size) hbb); (focus ((try simp) <;> omega)); (focus omega); (focus (go_simp; try exact rfl)); (focus (go_simp; try exact rfl)); (focus (intro o; go_simp)); intro cc cc fz hl; (with_reducible apply cel2 (b := w.heap.size + 1) hbb); (focus ((try simp) <;> omega)); (focus omega); (focus (go_simp; try exact rfl)); (focus (go_simp; try exact rfl)); (focus (intro o; go_simp)); intro cc cc fz hl; (with_reducible apply cel2 (b := w.heap.size + 1 + 1) hbb); (focus ((try simp) <;> omega)); (focus omega); (focus (go_simp; try exact rfl)); (focus (go_simp; try exact rfl)); (focus (intro o; go_simp)); intro cc cc fz hl))
    refine bodyPost_ret (v := .agg #[.int .i64 0, .int .i64 0]) (by simp only [results, Try.results48]; go_simp) rfl ⟨?_, ?_⟩
    · rfl
    · ((with_reducible (repeat (first | exact bR _ _ | refine bS ?_ ?_ _ | refine bA ?_ ?_ _ | refine bD ?_ | refine bT ?_ (by assumption) ?_ | refine bO (by assumption) ?_ ?_))) <;> (first | omega | (simp; done) | (simp <;> omega)))
  · cases h2 : smallB c d
    · rw [if_neg (fun h => by cases h.2)]
      go_enter Try.func48, Try.ntmps48; (try simp only [List.append_eq, List.cons_append, List.nil_append])
      go_wp2_with (first | (go_at_call 36; refine (rsmall_any _ _ _).mono ?_; rintro e w1 ⟨rfl, hb1⟩; have hz1 : w.heap.size + 3 ≤ w1.heap.size := (by have h := hb1.size; (try simp at h); omega); have hbb := Below.mono hb1 (B' := w.heap.size + 3) (by (try simp) <;> omega); clear hb1; (with_reducible apply cel2 (b := w.heap.size) hbb); (focus ((try simp) <;> omega)); (focus omega); (focus (go_simp; try exact rfl)); (focus (go_simp; try exact rfl)); (focus (intro o; go_simp)); intro cc cc fz hl; (with_reducible apply cel2 (b := w.heap.size + 1) hbb); (focus ((try simp) <;> omega)); (focus omega); (focus (go_simp; try exact rfl)); (focus (go_simp; try exact rfl)); (focus (intro o; go_simp)); intro cc cc fz hl; (with_reducible apply cel2 (b := w.heap.size + 1 + 1) hbb); (focus ((try simp) <;> omega)); (focus omega); (focus (go_simp; try exact rfl)); (focus (go_simp; try exact rfl)); (focus (intro o; go_simp)); intro cc cc fz hl))
      refine bodyPost_ret (v := .agg #[.int .i64 0, .int .i64 0]) (by simp only [results, Try.results48]; go_simp) rfl ⟨?_, ?_⟩
      · rfl
      · ((with_reducible (repeat (first | exact bR _ _ | refine bS ?_ ?_ _ | refine bA ?_ ?_ _ | refine bD ?_ | refine bT ?_ (by assumption) ?_ | refine bO (by assumption) ?_ ?_))) <;> (first | omega | (simp; done) | (simp <;> omega)))
    · rw [if_pos ⟨rfl, rfl⟩]
      obtain ⟨q1, q2, q3, q4⟩ := small_bd h1
      obtain ⟨q5, q6, q7, q8⟩ := small_bd h2
      go_enter Try.func48, Try.ntmps48; (try simp only [List.append_eq, List.cons_append, List.nil_append])
      go_wp2_with (first | (go_at_call 36; refine (rsmall_any _ _ _).mono ?_; rintro e w1 ⟨rfl, hb1⟩; have hz1 : w.heap.size + 3 ≤ w1.heap.size := (by have h := hb1.size; (try simp at h); omega); have hbb := Below.mono hb1 (B' := w.heap.size + 3) (by (try simp) <;> omega); clear hb1; (with_reducible apply cel2 (b := w.heap.size) hbb); (focus ((try simp) <;> omega)); (focus omega); (focus (go_simp; try exact rfl)); (focus (go_simp; try exact rfl)); (focus (intro o; go_simp)); intro cc cc fz hl; (with_reducible apply cel2 (b := w.heap.size + 1) hbb); (focus ((try simp) <;> omega)); (focus omega); (focus (go_simp; try exact rfl)); (focus (go_simp; try exact rfl)); (focus (intro o; go_simp)); intro cc cc fz hl; (with_reducible apply cel2 (b := w.heap.size + 1 + 1) hbb); (focus ((try simp) <;> omega)); (focus omega); (focus (go_simp; try exact rfl)); (focus (go_simp; try exact rfl)); (focus (intro o; go_simp)); intro cc cc fz hl) | (go_at_call 85; refine (rkept_ok _ _ _).mono ?_; rintro e w1 ⟨rfl, hb1⟩; have hz1 : w.heap.size + 3 ≤ w1.heap.size := (by have h := hb1.size; (try simp at h); omega); have hbb := Below.mono hb1 (B' := w.heap.size + 3) (by (try simp) <;> omega); clear hb1; (with_reducible apply cel2 (b := w.heap.size) hbb); (focus ((try simp) <;> omega)); (focus omega); (focus (go_simp; try exact rfl)); (focus (go_simp; try exact rfl)); (focus (intro o; go_simp)); intro cc cc fz hl; (with_reducible apply cel2 (b := w.heap.size + 1) hbb); (focus ((try simp) <;> omega)); (focus omega); (focus (go_simp; try exact rfl)); (focus (go_simp; try exact rfl)); (focus (intro o; go_simp)); intro cc cc fz hl; (with_reducible apply cel2 (b := w.heap.size + 1 + 1) hbb); (focus ((try simp) <;> omega)); (focus omega); (focus (go_simp; try exact rfl)); (focus (go_simp; try exact rfl)); (focus (intro o; go_simp)); intro cc cc fz hl))
      refine bodyPost_ret (v := .agg #[.int .i64 (keptR (a - c) (b - d)).1, .int .i64 (keptR (a - c) (b - d)).2]) (by simp only [results, Try.results48]; go_simp) rfl ⟨?_, ?_⟩
      · rfl
      · ((with_reducible (repeat (first | exact bR _ _ | refine bS ?_ ?_ _ | refine bA ?_ ?_ _ | refine bD ?_ | refine bT ?_ (by assumption) ?_ | refine bO (by assumption) ?_ ?_))) <;> (first | omega | (simp; done) | (simp <;> omega)))
set_option maxHeartbeats 1000000 in
theorem vscale_any (a b n : Int) (w : World) :
    Calls Try.prog 49 #[.agg #[.int .i64 a, .int .i64 b], .int .i64 n] w fun e w' => e = .returned (.agg #[.int .i64 (scaleR a b n).1, .int .i64 (scaleR a b n).2]) ∧ Below w.heap.size w w' := by
  unfold scaleR
  by_cases h : smallB a b = true ∧ (-1073741824 ≤ n ∧ n ≤ 1073741824)
  · rw [if_pos h]
    obtain ⟨h1, h2, h3⟩ := h
    have hh := scale_in a b n w h1 h2 h3
    have e1 : keptI (a * n) (b * n) (a * n) = (keptR (a * n) (b * n)).1 := by unfold keptI keptR; split <;> rfl
    have e2 : keptI (a * n) (b * n) (b * n) = (keptR (a * n) (b * n)).2 := by unfold keptI keptR; split <;> rfl
    rw [e1, e2] at hh
    exact hh
  · rw [if_neg h]
    cases h1 : smallB a b
    · clear h
      go_enter Try.func49, Try.ntmps49; (try simp only [List.append_eq, List.cons_append, List.nil_append])
      go_wp2_with (first | (go_at_call 45; refine (vsmall_any _ _ _).mono ?_; rintro e w1 ⟨rfl, hb1⟩; have hz1 : w.heap.size + 2 ≤ w1.heap.size := (by have h := hb1.size; (try simp at h); omega); have hbb := Below.mono hb1 (B' := w.heap.size + 2) (by (try simp) <;> omega); clear hb1; (with_reducible apply cel2 (b := w.heap.size) hbb); (focus ((try simp) <;> omega)); (focus omega); (focus (go_simp; try exact rfl)); (focus (go_simp; try exact rfl)); (focus (intro o; go_simp)); intro cc cc fz hl; (with_reducible apply cel2 (b := w.heap.size + 1) hbb); (focus ((try simp) <;> omega)); (focus omega); (focus (go_simp; try exact rfl)); (focus (go_simp; try exact rfl)); (focus (intro o; go_simp)); intro cc cc fz hl))
      refine bodyPost_ret (v := .agg #[.int .i64 0, .int .i64 0]) (by simp only [results, Try.results49]; go_simp) rfl ⟨?_, ?_⟩
      · rfl
      · ((with_reducible (repeat (first | exact bR _ _ | refine bS ?_ ?_ _ | refine bA ?_ ?_ _ | refine bD ?_ | refine bT ?_ (by assumption) ?_ | refine bO (by assumption) ?_ ?_))) <;> (first | omega | (simp; done) | (simp <;> omega)))
    · by_cases hz : a = 0 ∧ b = 0
      · obtain ⟨rfl, rfl⟩ := hz
        clear h
        go_enter Try.func49, Try.ntmps49; (try simp only [List.append_eq, List.cons_append, List.nil_append])
        go_wp2_with (first | (go_at_call 45; refine (vsmall_any _ _ _).mono ?_; rintro e w1 ⟨rfl, hb1⟩; have hz1 : w.heap.size + 2 ≤ w1.heap.size := (by have h := hb1.size; (try simp at h); omega); have hbb := Below.mono hb1 (B' := w.heap.size + 2) (by (try simp) <;> omega); clear hb1; (with_reducible apply cel2 (b := w.heap.size) hbb); (focus ((try simp) <;> omega)); (focus omega); (focus (go_simp; try exact rfl)); (focus (go_simp; try exact rfl)); (focus (intro o; go_simp)); intro cc cc fz hl; (with_reducible apply cel2 (b := w.heap.size + 1) hbb); (focus ((try simp) <;> omega)); (focus omega); (focus (go_simp; try exact rfl)); (focus (go_simp; try exact rfl)); (focus (intro o; go_simp)); intro cc cc fz hl))
        refine bodyPost_ret (v := .agg #[.int .i64 0, .int .i64 0]) (by simp only [results, Try.results49]; go_simp) rfl ⟨?_, ?_⟩
        · rfl
        · ((with_reducible (repeat (first | exact bR _ _ | refine bS ?_ ?_ _ | refine bA ?_ ?_ _ | refine bD ?_ | refine bT ?_ (by assumption) ?_ | refine bO (by assumption) ?_ ?_))) <;> (first | omega | (simp; done) | (simp <;> omega)))
      · have hz' : ¬ a = 0 ∨ (a = 0 ∧ ¬ b = 0) := by omega
        rcases Int.lt_or_le n (-1073741824) with hn | hn
        · clear h hz
          rcases hz' with g | ⟨rfl, g⟩
          all_goals
            go_enter Try.func49, Try.ntmps49; (try simp only [List.append_eq, List.cons_append, List.nil_append])
            go_wp2_with (first | (go_at_call 45; refine (vsmall_any _ _ _).mono ?_; rintro e w1 ⟨rfl, hb1⟩; have hz1 : w.heap.size + 2 ≤ w1.heap.size := (by have h := hb1.size; (try simp at h); omega); have hbb := Below.mono hb1 (B' := w.heap.size + 2) (by (try simp) <;> omega); clear hb1; (with_reducible apply cel2 (b := w.heap.size) hbb); (focus ((try simp) <;> omega)); (focus omega); (focus (go_simp; try exact rfl)); (focus (go_simp; try exact rfl)); (focus (intro o; go_simp)); intro cc cc fz hl; (with_reducible apply cel2 (b := w.heap.size + 1) hbb); (focus ((try simp) <;> omega)); (focus omega); (focus (go_simp; try exact rfl)); (focus (go_simp; try exact rfl)); (focus (intro o; go_simp)); intro cc cc fz hl))
            refine bodyPost_ret (v := .agg #[.int .i64 0, .int .i64 0]) (by simp only [results, Try.results49]; go_simp) rfl ⟨?_, ?_⟩
            · rfl
            · ((with_reducible (repeat (first | exact bR _ _ | refine bS ?_ ?_ _ | refine bA ?_ ?_ _ | refine bD ?_ | refine bT ?_ (by assumption) ?_ | refine bO (by assumption) ?_ ?_))) <;> (first | omega | (simp; done) | (simp <;> omega)))
        · have hn' : ¬ n < -1073741824 := by omega
          have hn2 : 1073741824 < n := by
            rcases Int.lt_or_le 1073741824 n with g | g
            · exact g
            · exact absurd ⟨h1, hn, g⟩ h
          clear h hz hn
          rcases hz' with g | ⟨rfl, g⟩
          all_goals
            go_enter Try.func49, Try.ntmps49; (try simp only [List.append_eq, List.cons_append, List.nil_append])
            go_wp2_with (first | (go_at_call 45; refine (vsmall_any _ _ _).mono ?_; rintro e w1 ⟨rfl, hb1⟩; have hz1 : w.heap.size + 2 ≤ w1.heap.size := (by have h := hb1.size; (try simp at h); omega); have hbb := Below.mono hb1 (B' := w.heap.size + 2) (by (try simp) <;> omega); clear hb1; (with_reducible apply cel2 (b := w.heap.size) hbb); (focus ((try simp) <;> omega)); (focus omega); (focus (go_simp; try exact rfl)); (focus (go_simp; try exact rfl)); (focus (intro o; go_simp)); intro cc cc fz hl; (with_reducible apply cel2 (b := w.heap.size + 1) hbb); (focus ((try simp) <;> omega)); (focus omega); (focus (go_simp; try exact rfl)); (focus (go_simp; try exact rfl)); (focus (intro o; go_simp)); intro cc cc fz hl))
            refine bodyPost_ret (v := .agg #[.int .i64 0, .int .i64 0]) (by simp only [results, Try.results49]; go_simp) rfl ⟨?_, ?_⟩
            · rfl
            · ((with_reducible (repeat (first | exact bR _ _ | refine bS ?_ ?_ _ | refine bA ?_ ?_ _ | refine bD ?_ | refine bT ?_ (by assumption) ?_ | refine bO (by assumption) ?_ ?_))) <;> (first | omega | (simp; done) | (simp <;> omega)))
set_option maxHeartbeats 1000000 in
theorem rscale_any (a b n : Int) (w : World) :
    Calls Try.prog 50 #[.agg #[.int .i64 a, .int .i64 b], .int .i64 n] w fun e w' => e = .returned (.agg #[.int .i64 (scaleR a b n).1, .int .i64 (scaleR a b n).2]) ∧ Below w.heap.size w w' := by
  have hfar : smallB a b = true → ¬ (a = 0 ∧ b = 0) → -2147483648 ≤ n → n ≤ 2147483648 → scaleR a b n = keptR (a * n) (b * n) := by
    intro h1 hz n1 n2
    unfold scaleR
    split
    · rfl
    · rename_i h
      have : smallB (a * n) (b * n) = false := scale_out hz (by
        rcases Int.lt_or_le n (-1073741824) with g | g
        · exact .inl g
        · rcases Int.lt_or_le 1073741824 n with g' | g'
          · exact .inr g'
          · exact absurd ⟨h1, g, g'⟩ h)
      unfold keptR
      rw [this]; rfl
  have hout : (smallB a b = false ∨ (a = 0 ∧ b = 0) ∨ n < -1073741824 ∨ 1073741824 < n) → scaleR a b n = (0, 0) := by
    intro hh
    unfold scaleR
    split
    · rename_i h
      rcases hh with g | ⟨rfl, rfl⟩ | g | g
      · rw [h.1] at g; cases g
      · simp [keptR]
      · omega
      · omega
    · rfl
  cases h1 : smallB a b
  · rw [hout (.inl h1)]
    clear hfar hout
    go_enter Try.func50, Try.ntmps50; (try simp only [List.append_eq, List.cons_append, List.nil_append])
    go_wp2_with (first | (go_at_call 36; refine (rsmall_any _ _ _).mono ?_; rintro e w1 ⟨rfl, hb1⟩; have hz1 : w.heap.size + 2 ≤ w1.heap.size := (by have h := hb1.size; (try simp at h); omega); have hbb := Below.mono hb1 (B' := w.heap.size + 2) (by (try simp) <;> omega); clear hb1; (with_reducible apply cel2 (b := w.heap.size) hbb); (focus ((try simp) <;> omega)); (focus omega); (focus (go_simp; try exact rfl)); (focus (go_simp; try exact rfl)); (focus (intro o; go_simp)); intro cc cc fz hl; (with_reducible apply cel2 (b := w.heap.size + 1) hbb); (focus ((try simp) <;> omega)); (focus omega); (focus (go_simp; try exact rfl)); (focus (go_simp; try exact rfl)); (focus (intro o; go_simp)); intro cc cc fz hl))
    refine bodyPost_ret (v := .agg #[.int .i64 0, .int .i64 0]) (by simp only [results, Try.results50]; go_simp) rfl ⟨?_, ?_⟩
    · rfl
    · ((with_reducible (repeat (first | exact bR _ _ | refine bS ?_ ?_ _ | refine bA ?_ ?_ _ | refine bD ?_ | refine bT ?_ (by assumption) ?_ | refine bO (by assumption) ?_ ?_))) <;> (first | omega | (simp; done) | (simp <;> omega)))
  · by_cases hz : a = 0 ∧ b = 0
    · rw [hout (.inr (.inl hz))]
      obtain ⟨rfl, rfl⟩ := hz
      clear hfar hout
      go_enter Try.func50, Try.ntmps50; (try simp only [List.append_eq, List.cons_append, List.nil_append])
      go_wp2_with (first | (go_at_call 36; refine (rsmall_any _ _ _).mono ?_; rintro e w1 ⟨rfl, hb1⟩; have hz1 : w.heap.size + 2 ≤ w1.heap.size := (by have h := hb1.size; (try simp at h); omega); have hbb := Below.mono hb1 (B' := w.heap.size + 2) (by (try simp) <;> omega); clear hb1; (with_reducible apply cel2 (b := w.heap.size) hbb); (focus ((try simp) <;> omega)); (focus omega); (focus (go_simp; try exact rfl)); (focus (go_simp; try exact rfl)); (focus (intro o; go_simp)); intro cc cc fz hl; (with_reducible apply cel2 (b := w.heap.size + 1) hbb); (focus ((try simp) <;> omega)); (focus omega); (focus (go_simp; try exact rfl)); (focus (go_simp; try exact rfl)); (focus (intro o; go_simp)); intro cc cc fz hl))
      refine bodyPost_ret (v := .agg #[.int .i64 0, .int .i64 0]) (by simp only [results, Try.results50]; go_simp) rfl ⟨?_, ?_⟩
      · rfl
      · ((with_reducible (repeat (first | exact bR _ _ | refine bS ?_ ?_ _ | refine bA ?_ ?_ _ | refine bD ?_ | refine bT ?_ (by assumption) ?_ | refine bO (by assumption) ?_ ?_))) <;> (first | omega | (simp; done) | (simp <;> omega)))
    · have hz' : ¬ a = 0 ∨ (a = 0 ∧ ¬ b = 0) := by omega
      obtain ⟨q1, q2, q3, q4⟩ := small_bd h1
      rcases Int.lt_or_le 2147483648 n with hn | hn
      · rw [hout (by omega)]
        clear hfar hout hz
        rcases hz' with g | ⟨rfl, g⟩
        all_goals
          go_enter Try.func50, Try.ntmps50; (try simp only [List.append_eq, List.cons_append, List.nil_append])
          go_wp2_with (first | (go_at_call 36; refine (rsmall_any _ _ _).mono ?_; rintro e w1 ⟨rfl, hb1⟩; have hz1 : w.heap.size + 2 ≤ w1.heap.size := (by have h := hb1.size; (try simp at h); omega); have hbb := Below.mono hb1 (B' := w.heap.size + 2) (by (try simp) <;> omega); clear hb1; (with_reducible apply cel2 (b := w.heap.size) hbb); (focus ((try simp) <;> omega)); (focus omega); (focus (go_simp; try exact rfl)); (focus (go_simp; try exact rfl)); (focus (intro o; go_simp)); intro cc cc fz hl; (with_reducible apply cel2 (b := w.heap.size + 1) hbb); (focus ((try simp) <;> omega)); (focus omega); (focus (go_simp; try exact rfl)); (focus (go_simp; try exact rfl)); (focus (intro o; go_simp)); intro cc cc fz hl))
          refine bodyPost_ret (v := .agg #[.int .i64 0, .int .i64 0]) (by simp only [results, Try.results50]; go_simp) rfl ⟨?_, ?_⟩
          · rfl
          · ((with_reducible (repeat (first | exact bR _ _ | refine bS ?_ ?_ _ | refine bA ?_ ?_ _ | refine bD ?_ | refine bT ?_ (by assumption) ?_ | refine bO (by assumption) ?_ ?_))) <;> (first | omega | (simp; done) | (simp <;> omega)))
      · have hn' : ¬ 2147483648 < n := by omega
        rcases Int.lt_or_le n (-2147483648) with hm | hm
        · rw [hout (by omega)]
          clear hfar hout hz hn
          rcases hz' with g | ⟨rfl, g⟩
          all_goals
            go_enter Try.func50, Try.ntmps50; (try simp only [List.append_eq, List.cons_append, List.nil_append])
            go_wp2_with (first | (go_at_call 36; refine (rsmall_any _ _ _).mono ?_; rintro e w1 ⟨rfl, hb1⟩; have hz1 : w.heap.size + 2 ≤ w1.heap.size := (by have h := hb1.size; (try simp at h); omega); have hbb := Below.mono hb1 (B' := w.heap.size + 2) (by (try simp) <;> omega); clear hb1; (with_reducible apply cel2 (b := w.heap.size) hbb); (focus ((try simp) <;> omega)); (focus omega); (focus (go_simp; try exact rfl)); (focus (go_simp; try exact rfl)); (focus (intro o; go_simp)); intro cc cc fz hl; (with_reducible apply cel2 (b := w.heap.size + 1) hbb); (focus ((try simp) <;> omega)); (focus omega); (focus (go_simp; try exact rfl)); (focus (go_simp; try exact rfl)); (focus (intro o; go_simp)); intro cc cc fz hl))
            refine bodyPost_ret (v := .agg #[.int .i64 0, .int .i64 0]) (by simp only [results, Try.results50]; go_simp) rfl ⟨?_, ?_⟩
            · rfl
            · ((with_reducible (repeat (first | exact bR _ _ | refine bS ?_ ?_ _ | refine bA ?_ ?_ _ | refine bD ?_ | refine bT ?_ (by assumption) ?_ | refine bO (by assumption) ?_ ?_))) <;> (first | omega | (simp; done) | (simp <;> omega)))
        · rw [hfar h1 hz hm hn]
          have hm' : ¬ n < -2147483648 := by omega
          obtain ⟨m1a, m1b⟩ := mul_bd a n 1073741824 2147483648 q1 q2 hm hn
          obtain ⟨m2a, m2b⟩ := mul_bd b n 1073741824 2147483648 q3 q4 hm hn
          clear hfar hout hz
          rcases hz' with g | ⟨rfl, g⟩
          · go_enter Try.func50, Try.ntmps50; (try simp only [List.append_eq, List.cons_append, List.nil_append])
            go_wp2_with (first | (go_at_call 36; refine (rsmall_any _ _ _).mono ?_; rintro e w1 ⟨rfl, hb1⟩; have hz1 : w.heap.size + 2 ≤ w1.heap.size := (by have h := hb1.size; (try simp at h); omega); have hbb := Below.mono hb1 (B' := w.heap.size + 2) (by (try simp) <;> omega); clear hb1; (with_reducible apply cel2 (b := w.heap.size) hbb); (focus ((try simp) <;> omega)); (focus omega); (focus (go_simp; try exact rfl)); (focus (go_simp; try exact rfl)); (focus (intro o; go_simp)); intro cc cc fz hl; (with_reducible apply cel2 (b := w.heap.size + 1) hbb); (focus ((try simp) <;> omega)); (focus omega); (focus (go_simp; try exact rfl)); (focus (go_simp; try exact rfl)); (focus (intro o; go_simp)); intro cc cc fz hl) | (go_at_call 85; refine (rkept_ok _ _ _).mono ?_; rintro e w1 ⟨rfl, hb1⟩; have hz1 : w.heap.size + 2 ≤ w1.heap.size := (by have h := hb1.size; (try simp at h); omega); have hbb := Below.mono hb1 (B' := w.heap.size + 2) (by (try simp) <;> omega); clear hb1; (with_reducible apply cel2 (b := w.heap.size) hbb); (focus ((try simp) <;> omega)); (focus omega); (focus (go_simp; try exact rfl)); (focus (go_simp; try exact rfl)); (focus (intro o; go_simp)); intro cc cc fz hl; (with_reducible apply cel2 (b := w.heap.size + 1) hbb); (focus ((try simp) <;> omega)); (focus omega); (focus (go_simp; try exact rfl)); (focus (go_simp; try exact rfl)); (focus (intro o; go_simp)); intro cc cc fz hl))
            refine bodyPost_ret (v := .agg #[.int .i64 (keptR (a * n) (b * n)).1, .int .i64 (keptR (a * n) (b * n)).2]) (by simp only [results, Try.results50]; go_simp) rfl ⟨?_, ?_⟩
            · rfl
            · ((with_reducible (repeat (first | exact bR _ _ | refine bS ?_ ?_ _ | refine bA ?_ ?_ _ | refine bD ?_ | refine bT ?_ (by assumption) ?_ | refine bO (by assumption) ?_ ?_))) <;> (first | omega | (simp; done) | (simp <;> omega)))
          · rw [Int.zero_mul]
            go_enter Try.func50, Try.ntmps50; (try simp only [List.append_eq, List.cons_append, List.nil_append])
            go_wp2_with (first | (go_at_call 36; refine (rsmall_any _ _ _).mono ?_; rintro e w1 ⟨rfl, hb1⟩; have hz1 : w.heap.size + 2 ≤ w1.heap.size := (by have h := hb1.size; (try simp at h); omega); have hbb := Below.mono hb1 (B' := w.heap.size + 2) (by (try simp) <;> omega); clear hb1; (with_reducible apply cel2 (b := w.heap.size) hbb); (focus ((try simp) <;> omega)); (focus omega); (focus (go_simp; try exact rfl)); (focus (go_simp; try exact rfl)); (focus (intro o; go_simp)); intro cc cc fz hl; (with_reducible apply cel2 (b := w.heap.size + 1) hbb); (focus ((try simp) <;> omega)); (focus omega); (focus (go_simp; try exact rfl)); (focus (go_simp; try exact rfl)); (focus (intro o; go_simp)); intro cc cc fz hl) | (go_at_call 85; refine (rkept_ok _ _ _).mono ?_; rintro e w1 ⟨rfl, hb1⟩; have hz1 : w.heap.size + 2 ≤ w1.heap.size := (by have h := hb1.size; (try simp at h); omega); have hbb := Below.mono hb1 (B' := w.heap.size + 2) (by (try simp) <;> omega); clear hb1; (with_reducible apply cel2 (b := w.heap.size) hbb); (focus ((try simp) <;> omega)); (focus omega); (focus (go_simp; try exact rfl)); (focus (go_simp; try exact rfl)); (focus (intro o; go_simp)); intro cc cc fz hl; (with_reducible apply cel2 (b := w.heap.size + 1) hbb); (focus ((try simp) <;> omega)); (focus omega); (focus (go_simp; try exact rfl)); (focus (go_simp; try exact rfl)); (focus (intro o; go_simp)); intro cc cc fz hl))
            refine bodyPost_ret (v := .agg #[.int .i64 (keptR 0 (b * n)).1, .int .i64 (keptR 0 (b * n)).2]) (by simp only [results, Try.results50]; go_simp) rfl ⟨?_, ?_⟩
            · rfl
            · ((with_reducible (repeat (first | exact bR _ _ | refine bS ?_ ?_ _ | refine bA ?_ ?_ _ | refine bD ?_ | refine bT ?_ (by assumption) ?_ | refine bO (by assumption) ?_ ?_))) <;> (first | omega | (simp; done) | (simp <;> omega)))
set_option maxHeartbeats 400000 in
theorem vdot_any (a b c d : Int) (w : World) :
    Calls Try.prog 37 #[.agg #[.int .i64 a, .int .i64 b], .agg #[.int .i64 c, .int .i64 d]] w fun e w' => e = .returned (.int .i64 (dotR a b c d)) ∧ Below w.heap.size w w' := by
  unfold dotR
  cases h1 : smallB a b
  · rw [if_neg (fun h => by cases h.1)]
    go_enter Try.func37, Try.ntmps37; (try simp only [List.append_eq, List.cons_append, List.nil_append])
    go_wp2_with (first | (go_at_call 45; refine (vsmall_any _ _ _).mono ?_; rintro e w1 ⟨rfl, hb1⟩; have hz1 : w.heap.size + 2 ≤ w1.heap.size := (by have h := hb1.size; (try simp at h); omega); have hbb := Below.mono hb1 (B' := w.heap.size + 2) (by (try simp) <;> omega); clear hb1; (with_reducible apply cel2 (b := w.heap.size) hbb); (focus ((try simp) <;> omega)); (focus omega); (focus (go_simp; try exact rfl)); (focus (go_simp; try exact rfl)); (focus (intro o; go_simp)); intro cc cc fz hl; (with_reducible apply cel2 (b := w.heap.size + 1) hbb); (focus ((try simp) <;> omega)); (focus omega); (focus (go_simp; try exact rfl)); (focus (go_simp; try exact rfl)); (focus (intro o; go_simp)); intro cc cc fz hl))
    go_ret
    refine ⟨rfl, ?_⟩
    ((with_reducible (repeat (first | exact bR _ _ | refine bS ?_ ?_ _ | refine bA ?_ ?_ _ | refine bD ?_ | refine bT ?_ (by assumption) ?_ | refine bO (by assumption) ?_ ?_))) <;> (first | omega | (simp; done) | (simp <;> omega)))
  · cases h2 : smallB c d
    · rw [if_neg (fun h => by cases h.2)]
      go_enter Try.func37, Try.ntmps37; (try simp only [List.append_eq, List.cons_append, List.nil_append])
      go_wp2_with (first | (go_at_call 45; refine (vsmall_any _ _ _).mono ?_; rintro e w1 ⟨rfl, hb1⟩; have hz1 : w.heap.size + 2 ≤ w1.heap.size := (by have h := hb1.size; (try simp at h); omega); have hbb := Below.mono hb1 (B' := w.heap.size + 2) (by (try simp) <;> omega); clear hb1; (with_reducible apply cel2 (b := w.heap.size) hbb); (focus ((try simp) <;> omega)); (focus omega); (focus (go_simp; try exact rfl)); (focus (go_simp; try exact rfl)); (focus (intro o; go_simp)); intro cc cc fz hl; (with_reducible apply cel2 (b := w.heap.size + 1) hbb); (focus ((try simp) <;> omega)); (focus omega); (focus (go_simp; try exact rfl)); (focus (go_simp; try exact rfl)); (focus (intro o; go_simp)); intro cc cc fz hl))
      go_ret
      refine ⟨rfl, ?_⟩
      ((with_reducible (repeat (first | exact bR _ _ | refine bS ?_ ?_ _ | refine bA ?_ ?_ _ | refine bD ?_ | refine bT ?_ (by assumption) ?_ | refine bO (by assumption) ?_ ?_))) <;> (first | omega | (simp; done) | (simp <;> omega)))
    · rw [if_pos ⟨rfl, rfl⟩]
      obtain ⟨q1, q2, q3, q4⟩ := small_bd h1
      obtain ⟨r1, r2, r3, r4⟩ := small_bd h2
      obtain ⟨m1, m2⟩ := mul_bd a c 1073741824 1073741824 q1 q2 r1 r2
      obtain ⟨m3, m4⟩ := mul_bd b d 1073741824 1073741824 q3 q4 r3 r4
      go_enter Try.func37, Try.ntmps37; (try simp only [List.append_eq, List.cons_append, List.nil_append])
      go_wp2_with (first | (go_at_call 45; refine (vsmall_any _ _ _).mono ?_; rintro e w1 ⟨rfl, hb1⟩; have hz1 : w.heap.size + 2 ≤ w1.heap.size := (by have h := hb1.size; (try simp at h); omega); have hbb := Below.mono hb1 (B' := w.heap.size + 2) (by (try simp) <;> omega); clear hb1; (with_reducible apply cel2 (b := w.heap.size) hbb); (focus ((try simp) <;> omega)); (focus omega); (focus (go_simp; try exact rfl)); (focus (go_simp; try exact rfl)); (focus (intro o; go_simp)); intro cc cc fz hl; (with_reducible apply cel2 (b := w.heap.size + 1) hbb); (focus ((try simp) <;> omega)); (focus omega); (focus (go_simp; try exact rfl)); (focus (go_simp; try exact rfl)); (focus (intro o; go_simp)); intro cc cc fz hl))
      go_ret
      refine ⟨rfl, ?_⟩
      ((with_reducible (repeat (first | exact bR _ _ | refine bS ?_ ?_ _ | refine bA ?_ ?_ _ | refine bD ?_ | refine bT ?_ (by assumption) ?_ | refine bO (by assumption) ?_ ?_))) <;> (first | omega | (simp; done) | (simp <;> omega)))
set_option maxHeartbeats 400000 in
theorem rdot_any (a b c d : Int) (w : World) :
    Calls Try.prog 51 #[.agg #[.int .i64 a, .int .i64 b], .agg #[.int .i64 c, .int .i64 d]] w fun e w' => e = .returned (.int .i64 (dotR a b c d)) ∧ Below w.heap.size w w' := by
  unfold dotR
  cases h1 : smallB a b
  · rw [if_neg (fun h => by cases h.1)]
    go_enter Try.func51, Try.ntmps51; (try simp only [List.append_eq, List.cons_append, List.nil_append])
    go_wp2_with (first | (go_at_call 36; refine (rsmall_any _ _ _).mono ?_; rintro e w1 ⟨rfl, hb1⟩; have hz1 : w.heap.size + 2 ≤ w1.heap.size := (by have h := hb1.size; (try simp at h); omega); have hbb := Below.mono hb1 (B' := w.heap.size + 2) (by (try simp) <;> omega); clear hb1; (with_reducible apply cel2 (b := w.heap.size) hbb); (focus ((try simp) <;> omega)); (focus omega); (focus (go_simp; try exact rfl)); (focus (go_simp; try exact rfl)); (focus (intro o; go_simp)); intro cc cc fz hl; (with_reducible apply cel2 (b := w.heap.size + 1) hbb); (focus ((try simp) <;> omega)); (focus omega); (focus (go_simp; try exact rfl)); (focus (go_simp; try exact rfl)); (focus (intro o; go_simp)); intro cc cc fz hl))
    go_ret
    refine ⟨rfl, ?_⟩
    ((with_reducible (repeat (first | exact bR _ _ | refine bS ?_ ?_ _ | refine bA ?_ ?_ _ | refine bD ?_ | refine bT ?_ (by assumption) ?_ | refine bO (by assumption) ?_ ?_))) <;> (first | omega | (simp; done) | (simp <;> omega)))
  · cases h2 : smallB c d
    · rw [if_neg (fun h => by cases h.2)]
      go_enter Try.func51, Try.ntmps51; (try simp only [List.append_eq, List.cons_append, List.nil_append])
      go_wp2_with (first | (go_at_call 36; refine (rsmall_any _ _ _).mono ?_; rintro e w1 ⟨rfl, hb1⟩; have hz1 : w.heap.size + 2 ≤ w1.heap.size := (by have h := hb1.size; (try simp at h); omega); have hbb := Below.mono hb1 (B' := w.heap.size + 2) (by (try simp) <;> omega); clear hb1; (with_reducible apply cel2 (b := w.heap.size) hbb); (focus ((try simp) <;> omega)); (focus omega); (focus (go_simp; try exact rfl)); (focus (go_simp; try exact rfl)); (focus (intro o; go_simp)); intro cc cc fz hl; (with_reducible apply cel2 (b := w.heap.size + 1) hbb); (focus ((try simp) <;> omega)); (focus omega); (focus (go_simp; try exact rfl)); (focus (go_simp; try exact rfl)); (focus (intro o; go_simp)); intro cc cc fz hl))
      go_ret
      refine ⟨rfl, ?_⟩
      ((with_reducible (repeat (first | exact bR _ _ | refine bS ?_ ?_ _ | refine bA ?_ ?_ _ | refine bD ?_ | refine bT ?_ (by assumption) ?_ | refine bO (by assumption) ?_ ?_))) <;> (first | omega | (simp; done) | (simp <;> omega)))
    · rw [if_pos ⟨rfl, rfl⟩]
      obtain ⟨q1, q2, q3, q4⟩ := small_bd h1
      obtain ⟨r1, r2, r3, r4⟩ := small_bd h2
      obtain ⟨m1, m2⟩ := mul_bd a c 1073741824 1073741824 q1 q2 r1 r2
      obtain ⟨m3, m4⟩ := mul_bd b d 1073741824 1073741824 q3 q4 r3 r4
      go_enter Try.func51, Try.ntmps51; (try simp only [List.append_eq, List.cons_append, List.nil_append])
      go_wp2_with (first | (go_at_call 36; refine (rsmall_any _ _ _).mono ?_; rintro e w1 ⟨rfl, hb1⟩; have hz1 : w.heap.size + 2 ≤ w1.heap.size := (by have h := hb1.size; (try simp at h); omega); have hbb := Below.mono hb1 (B' := w.heap.size + 2) (by (try simp) <;> omega); clear hb1; (with_reducible apply cel2 (b := w.heap.size) hbb); (focus ((try simp) <;> omega)); (focus omega); (focus (go_simp; try exact rfl)); (focus (go_simp; try exact rfl)); (focus (intro o; go_simp)); intro cc cc fz hl; (with_reducible apply cel2 (b := w.heap.size + 1) hbb); (focus ((try simp) <;> omega)); (focus omega); (focus (go_simp; try exact rfl)); (focus (go_simp; try exact rfl)); (focus (intro o; go_simp)); intro cc cc fz hl))
      go_ret
      refine ⟨rfl, ?_⟩
      ((with_reducible (repeat (first | exact bR _ _ | refine bS ?_ ?_ _ | refine bA ?_ ?_ _ | refine bD ?_ | refine bT ?_ (by assumption) ?_ | refine bO (by assumption) ?_ ?_))) <;> (first | omega | (simp; done) | (simp <;> omega)))
set_option maxHeartbeats 400000 in
theorem vperp_any (a b : Int) (w : World) :
    Calls Try.prog 54 #[.agg #[.int .i64 a, .int .i64 b]] w fun e w' => e = .returned (.agg #[.int .i64 (perpR a b).1, .int .i64 (perpR a b).2]) ∧ Below w.heap.size w w' := by
  unfold perpR
  cases h1 : smallB a b
  · rw [if_neg (fun h => by cases h)]
    go_enter Try.func54, Try.ntmps54; (try simp only [List.append_eq, List.cons_append, List.nil_append])
    go_wp2_with (first | (go_at_call 45; refine (vsmall_any _ _ _).mono ?_; rintro e w1 ⟨rfl, hb1⟩; have hz1 : w.heap.size + 2 ≤ w1.heap.size := (by have h := hb1.size; (try simp at h); omega); have hbb := Below.mono hb1 (B' := w.heap.size + 2) (by (try simp) <;> omega); clear hb1; (with_reducible apply cel2 (b := w.heap.size) hbb); (focus ((try simp) <;> omega)); (focus omega); (focus (go_simp; try exact rfl)); (focus (go_simp; try exact rfl)); (focus (intro o; go_simp)); intro cc cc fz hl; (with_reducible apply cel2 (b := w.heap.size + 1) hbb); (focus ((try simp) <;> omega)); (focus omega); (focus (go_simp; try exact rfl)); (focus (go_simp; try exact rfl)); (focus (intro o; go_simp)); intro cc cc fz hl))
    refine bodyPost_ret (v := .agg #[.int .i64 0, .int .i64 0]) (by simp only [results, Try.results54]; go_simp) rfl ⟨?_, ?_⟩
    · rfl
    · ((with_reducible (repeat (first | exact bR _ _ | refine bS ?_ ?_ _ | refine bA ?_ ?_ _ | refine bD ?_ | refine bT ?_ (by assumption) ?_ | refine bO (by assumption) ?_ ?_))) <;> (first | omega | (simp; done) | (simp <;> omega)))
  · rw [if_pos rfl]
    obtain ⟨q1, q2, q3, q4⟩ := small_bd h1
    go_enter Try.func54, Try.ntmps54; (try simp only [List.append_eq, List.cons_append, List.nil_append])
    go_wp2_with (first | (go_at_call 45; refine (vsmall_any _ _ _).mono ?_; rintro e w1 ⟨rfl, hb1⟩; have hz1 : w.heap.size + 2 ≤ w1.heap.size := (by have h := hb1.size; (try simp at h); omega); have hbb := Below.mono hb1 (B' := w.heap.size + 2) (by (try simp) <;> omega); clear hb1; (with_reducible apply cel2 (b := w.heap.size) hbb); (focus ((try simp) <;> omega)); (focus omega); (focus (go_simp; try exact rfl)); (focus (go_simp; try exact rfl)); (focus (intro o; go_simp)); intro cc cc fz hl; (with_reducible apply cel2 (b := w.heap.size + 1) hbb); (focus ((try simp) <;> omega)); (focus omega); (focus (go_simp; try exact rfl)); (focus (go_simp; try exact rfl)); (focus (intro o; go_simp)); intro cc cc fz hl))
    refine bodyPost_ret (v := .agg #[.int .i64 (-b), .int .i64 a]) (by simp only [results, Try.results54]; go_simp) rfl ⟨?_, ?_⟩
    · rfl
    · ((with_reducible (repeat (first | exact bR _ _ | refine bS ?_ ?_ _ | refine bA ?_ ?_ _ | refine bD ?_ | refine bT ?_ (by assumption) ?_ | refine bO (by assumption) ?_ ?_))) <;> (first | omega | (simp; done) | (simp <;> omega)))
set_option maxHeartbeats 400000 in
theorem rperp_any (a b : Int) (w : World) :
    Calls Try.prog 55 #[.agg #[.int .i64 a, .int .i64 b]] w fun e w' => e = .returned (.agg #[.int .i64 (perpR a b).1, .int .i64 (perpR a b).2]) ∧ Below w.heap.size w w' := by
  unfold perpR
  cases h1 : smallB a b
  · rw [if_neg (fun h => by cases h)]
    go_enter Try.func55, Try.ntmps55; (try simp only [List.append_eq, List.cons_append, List.nil_append])
    go_wp2_with (first | (go_at_call 36; refine (rsmall_any _ _ _).mono ?_; rintro e w1 ⟨rfl, hb1⟩; have hz1 : w.heap.size + 2 ≤ w1.heap.size := (by have h := hb1.size; (try simp at h); omega); have hbb := Below.mono hb1 (B' := w.heap.size + 2) (by (try simp) <;> omega); clear hb1; (with_reducible apply cel2 (b := w.heap.size) hbb); (focus ((try simp) <;> omega)); (focus omega); (focus (go_simp; try exact rfl)); (focus (go_simp; try exact rfl)); (focus (intro o; go_simp)); intro cc cc fz hl; (with_reducible apply cel2 (b := w.heap.size + 1) hbb); (focus ((try simp) <;> omega)); (focus omega); (focus (go_simp; try exact rfl)); (focus (go_simp; try exact rfl)); (focus (intro o; go_simp)); intro cc cc fz hl))
    refine bodyPost_ret (v := .agg #[.int .i64 0, .int .i64 0]) (by simp only [results, Try.results55]; go_simp) rfl ⟨?_, ?_⟩
    · rfl
    · ((with_reducible (repeat (first | exact bR _ _ | refine bS ?_ ?_ _ | refine bA ?_ ?_ _ | refine bD ?_ | refine bT ?_ (by assumption) ?_ | refine bO (by assumption) ?_ ?_))) <;> (first | omega | (simp; done) | (simp <;> omega)))
  · rw [if_pos rfl]
    obtain ⟨q1, q2, q3, q4⟩ := small_bd h1
    go_enter Try.func55, Try.ntmps55; (try simp only [List.append_eq, List.cons_append, List.nil_append])
    go_wp2_with (first | (go_at_call 36; refine (rsmall_any _ _ _).mono ?_; rintro e w1 ⟨rfl, hb1⟩; have hz1 : w.heap.size + 2 ≤ w1.heap.size := (by have h := hb1.size; (try simp at h); omega); have hbb := Below.mono hb1 (B' := w.heap.size + 2) (by (try simp) <;> omega); clear hb1; (with_reducible apply cel2 (b := w.heap.size) hbb); (focus ((try simp) <;> omega)); (focus omega); (focus (go_simp; try exact rfl)); (focus (go_simp; try exact rfl)); (focus (intro o; go_simp)); intro cc cc fz hl; (with_reducible apply cel2 (b := w.heap.size + 1) hbb); (focus ((try simp) <;> omega)); (focus omega); (focus (go_simp; try exact rfl)); (focus (go_simp; try exact rfl)); (focus (intro o; go_simp)); intro cc cc fz hl))
    refine bodyPost_ret (v := .agg #[.int .i64 (-b), .int .i64 a]) (by simp only [results, Try.results55]; go_simp) rfl ⟨?_, ?_⟩
    · rfl
    · ((with_reducible (repeat (first | exact bR _ _ | refine bS ?_ ?_ _ | refine bA ?_ ?_ _ | refine bD ?_ | refine bT ?_ (by assumption) ?_ | refine bO (by assumption) ?_ ?_))) <;> (first | omega | (simp; done) | (simp <;> omega)))
end Go.Proofs.Ytkoejgpnlncgaaa
