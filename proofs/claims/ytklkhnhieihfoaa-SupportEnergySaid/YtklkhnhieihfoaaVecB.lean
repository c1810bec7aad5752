/- The contracts of vector.Cross, square, order, allowed, Turn, Root. -/
import Derived.Test.YtklkhnhieihfoaaVec
import Derived.Test.YtklkhnhieihfoaaFloors
namespace Go.Proofs.Ytklkhnhieihfoaa
open Go.RowKit
set_option linter.unusedVariables false
theorem small_bd {a b : Int} (h1 : smallB a b = true) : -1073741824 ≤ a ∧ a ≤ 1073741824 ∧ -1073741824 ≤ b ∧ b ≤ 1073741824 := by simpa [smallB] using h1
set_option maxHeartbeats 400000 in
theorem cross_in (a b c d : Int) (w : World) (h1 : smallB a b = true) (h2 : smallB c d = true) :
    Calls Try.prog 109 #[.agg #[.int .i64 a, .int .i64 b], .agg #[.int .i64 c, .int .i64 d]] w fun e w' => e = .returned (.int .i64 (a * d - b * c)) ∧ Below w.heap.size w w' := by
  obtain ⟨q1, q2, q3, q4⟩ := small_bd h1
  obtain ⟨r1, r2, r3, r4⟩ := small_bd h2
  obtain ⟨m1, m2⟩ := mul_bd a d 1073741824 1073741824 q1 q2 r3 r4
  obtain ⟨m3, m4⟩ := mul_bd b c 1073741824 1073741824 q3 q4 r1 r2
  go_enter Try.func109, Try.ntmps109; (try simp only [List.append_eq, List.cons_append, List.nil_append])
  go_wp2_with (first | (go_at_call 67; refine (small_any _ _ _).mono ?_; rintro e w1 ⟨rfl, hb1⟩; have hz1 : w.heap.size + 2 ≤ w1.heap.size := (by have h := hb1.size; (try simp at h); omega); have hbb := Below.mono hb1 (B' := w.heap.size + 2) (by (try simp) <;> omega); clear hb1; (with_reducible apply cel2 (b := w.heap.size) hbb); (focus ((try simp) <;> omega)); (focus omega); (focus (go_simp; try exact rfl)); (focus (go_simp; try exact rfl)); (focus (intro o; go_simp)); intro cc cc fz hl; (with_reducible apply cel2 (b := w.heap.size + 1) hbb); (focus ((try simp) <;> omega)); (focus omega); (focus (go_simp; try exact rfl)); (focus (go_simp; try exact rfl)); (focus (intro o; go_simp)); intro cc cc fz hl))
  go_ret
  refine ⟨rfl, ?_⟩
  ((with_reducible (repeat (first | exact bR _ _ | refine bS ?_ ?_ _ | refine bA ?_ ?_ _ | refine bD ?_ | refine bT ?_ (by assumption) ?_ | refine bO (by assumption) ?_ ?_))) <;> (first | omega | (simp; done) | (simp <;> omega)))
set_option maxHeartbeats 400000 in
theorem cross_bad (a b c d : Int) (w : World) (h : (smallB a b && smallB c d) = false) :
    Calls Try.prog 109 #[.agg #[.int .i64 a, .int .i64 b], .agg #[.int .i64 c, .int .i64 d]] w fun e w' => e = .returned (.int .i64 0) ∧ Below w.heap.size w w' := by
  cases h1 : smallB a b
  · go_enter Try.func109, Try.ntmps109; (try simp only [List.append_eq, List.cons_append, List.nil_append])
    go_wp2_with (first | (go_at_call 67; refine (small_any _ _ _).mono ?_; rintro e w1 ⟨rfl, hb1⟩; have hz1 : w.heap.size + 2 ≤ w1.heap.size := (by have h := hb1.size; (try simp at h); omega); have hbb := Below.mono hb1 (B' := w.heap.size + 2) (by (try simp) <;> omega); clear hb1; (with_reducible apply cel2 (b := w.heap.size) hbb); (focus ((try simp) <;> omega)); (focus omega); (focus (go_simp; try exact rfl)); (focus (go_simp; try exact rfl)); (focus (intro o; go_simp)); intro cc cc fz hl; (with_reducible apply cel2 (b := w.heap.size + 1) hbb); (focus ((try simp) <;> omega)); (focus omega); (focus (go_simp; try exact rfl)); (focus (go_simp; try exact rfl)); (focus (intro o; go_simp)); intro cc cc fz hl))
    go_ret
    refine ⟨rfl, ?_⟩
    ((with_reducible (repeat (first | exact bR _ _ | refine bS ?_ ?_ _ | refine bA ?_ ?_ _ | refine bD ?_ | refine bT ?_ (by assumption) ?_ | refine bO (by assumption) ?_ ?_))) <;> (first | omega | (simp; done) | (simp <;> omega)))
  · rw [h1] at h
    simp only [Bool.true_and] at h
    go_enter Try.func109, Try.ntmps109; (try simp only [List.append_eq, List.cons_append, List.nil_append])
    go_wp2_with (first | (go_at_call 67; refine (small_any _ _ _).mono ?_; rintro e w1 ⟨rfl, hb1⟩; have hz1 : w.heap.size + 2 ≤ w1.heap.size := (by have h := hb1.size; (try simp at h); omega); have hbb := Below.mono hb1 (B' := w.heap.size + 2) (by (try simp) <;> omega); clear hb1; (with_reducible apply cel2 (b := w.heap.size) hbb); (focus ((try simp) <;> omega)); (focus omega); (focus (go_simp; try exact rfl)); (focus (go_simp; try exact rfl)); (focus (intro o; go_simp)); intro cc cc fz hl; (with_reducible apply cel2 (b := w.heap.size + 1) hbb); (focus ((try simp) <;> omega)); (focus omega); (focus (go_simp; try exact rfl)); (focus (go_simp; try exact rfl)); (focus (intro o; go_simp)); intro cc cc fz hl))
    go_ret
    refine ⟨rfl, ?_⟩
    ((with_reducible (repeat (first | exact bR _ _ | refine bS ?_ ?_ _ | refine bA ?_ ?_ _ | refine bD ?_ | refine bT ?_ (by assumption) ?_ | refine bO (by assumption) ?_ ?_))) <;> (first | omega | (simp; done) | (simp <;> omega)))
set_option maxHeartbeats 400000 in
theorem square_in (x y : Int) (w : World) (x1 : -2147483648 ≤ x) (x2 : x ≤ 2147483648) (y1 : -2147483648 ≤ y) (y2 : y ≤ 2147483648) :
    Calls Try.prog 129 #[.agg #[.int .i64 x, .int .i64 y]] w fun e w' => e = .returned (.int .u64 (x * x + y * y)) ∧ Below w.heap.size w w' := by
  obtain ⟨m1, m2⟩ := mul_bd x x 2147483648 2147483648 x1 x2 x1 x2
  obtain ⟨m3, m4⟩ := mul_bd y y 2147483648 2147483648 y1 y2 y1 y2
  have sx : (x.natAbs : Int) * (x.natAbs : Int) = x * x := by rw [← Int.natCast_mul]; exact Int.natAbs_mul_self
  have sy : (y.natAbs : Int) * (y.natAbs : Int) = y * y := by rw [← Int.natCast_mul]; exact Int.natAbs_mul_self
  obtain ⟨X, hX⟩ : ∃ X, X = x * x := ⟨_, rfl⟩
  obtain ⟨Y, hY⟩ : ∃ Y, Y = y * y := ⟨_, rfl⟩
  have X0 : 0 ≤ X := by rw [hX, ← sx]; exact Int.mul_nonneg (Int.natCast_nonneg _) (Int.natCast_nonneg _)
  have Y0 : 0 ≤ Y := by rw [hY, ← sy]; exact Int.mul_nonneg (Int.natCast_nonneg _) (Int.natCast_nonneg _)
  rw [← hX] at sx m1 m2
  rw [← hY] at sy m3 m4
  have e1 : IntKind.u64.wrap (x * x) = X := by rw [← hX]; exact wrap_small X0 (by omega)
  have e2 : IntKind.u64.wrap (y * y) = Y := by rw [← hY]; exact wrap_small Y0 (by omega)
  have e3 : IntKind.u64.wrap (X + Y) = X + Y := wrap_small (by omega) (by omega)
  rw [← hX, ← hY]
  clear hX hY sx sy
  go_enter Try.func129, Try.ntmps129; (try simp only [List.append_eq, List.cons_append, List.nil_append])
  go_wp2_with fail
  refine wp_region_warm (Own (w.heap.size + 1) _) (by kernel_rfl) (by kernel_rfl) (Own.refl (by (try simp) <;> omega)).drew ?_
  repeat (first | (refine wpWarm_step_off rfl (fun K hK => ?_); (go_simp; refine hK _ ?_; clear hK K)) | (apply wpWarm_step rfl; (focus (intro W' hS; have hcS := hS.cells.1; have hfS := hS.cells.2; go_simp; (first | done | exact rfl | exact ⟨rfl, hS⟩ | (go_at_call 127; exact (abs_b _ _ (by omega) (by omega)).mono (fun _ _ h => ⟨h.1, hS.call h.2⟩)) | (go_simp; exact rfl)))); (intro K hK; go_simp; (try go_bits); refine hK _ ?_; clear hK K)) | (apply wpWarm_step_on rfl; (focus (intro W' hS; have hcS := hS.cells.1; have hfS := hS.cells.2; go_simp; (first | done | exact rfl | exact ⟨rfl, hS⟩ | (go_at_call 127; exact (abs_b _ _ (by omega) (by omega)).mono (fun _ _ h => ⟨h.1, hS.call h.2⟩)) | (go_simp; exact rfl)))); (intro K hK; go_simp; (try go_bits); refine hK _ ?_; clear hK K)))
  refine wpWarm_nil ?_; intro w1 hOwn; have hz1 := hOwn.1; have hbb := hOwn.2; clear hOwn; (with_reducible apply cel2 (b := w.heap.size) hbb); (focus ((try simp) <;> omega)); (focus omega); (focus (go_simp; try exact rfl)); (focus (go_simp; try exact rfl)); (focus (intro o; go_simp)); intro cc cc fz hl
  go_wp2_with fail
  go_ret
  refine ⟨rfl, ?_⟩
  ((with_reducible (repeat (first | exact bR _ _ | refine bS ?_ ?_ _ | refine bA ?_ ?_ _ | refine bD ?_ | refine bT ?_ (by assumption) ?_ | refine bO (by assumption) ?_ ?_))) <;> (first | omega | (simp; done) | (simp <;> omega)))
def cmpV (a b : Int) : Int := if a < b then -1 else if b < a then 1 else 0
def sqI (x y : Int) : Int := x * x + y * y
def orderR (x1 x2 a1 a2 b1 b2 : Int) : Int := if sqI (a1 - x1) (a2 - x2) = sqI (b1 - x1) (b2 - x2) then cmpV (sqI a1 a2) (sqI b1 b2) else cmpV (sqI (a1 - x1) (a2 - x2)) (sqI (b1 - x1) (b2 - x2))
theorem square_sq (x y : Int) (w : World) (x1 : -2147483648 ≤ x) (x2 : x ≤ 2147483648) (y1 : -2147483648 ≤ y) (y2 : y ≤ 2147483648) :
    Calls Try.prog 129 #[.agg #[.int .i64 x, .int .i64 y]] w fun e w' => e = .returned (.int .u64 (sqI x y)) ∧ Below w.heap.size w w' := square_in x y w x1 x2 y1 y2
set_option maxRecDepth 100000 in
set_option maxHeartbeats 1000000 in
theorem order_in (x1 x2 a1 a2 b1 b2 : Int) (w : World) (h1 : smallB x1 x2 = true) (h2 : smallB a1 a2 = true) (h3 : smallB b1 b2 = true) :
    Calls Try.prog 112 #[.agg #[.int .i64 x1, .int .i64 x2], .agg #[.int .i64 a1, .int .i64 a2], .agg #[.int .i64 b1, .int .i64 b2]] w fun e w' => e = .returned (.int .i64 (orderR x1 x2 a1 a2 b1 b2)) ∧ Below w.heap.size w w' := by
  obtain ⟨p1, p2, p3, p4⟩ := small_bd h1
  obtain ⟨q1, q2, q3, q4⟩ := small_bd h2
  obtain ⟨r1, r2, r3, r4⟩ := small_bd h3
  unfold orderR
  obtain ⟨A, hA⟩ : ∃ A, A = sqI (a1 - x1) (a2 - x2) := ⟨_, rfl⟩
  obtain ⟨B, hB⟩ : ∃ B, B = sqI (b1 - x1) (b2 - x2) := ⟨_, rfl⟩
  obtain ⟨C, hC⟩ : ∃ C, C = sqI a1 a2 := ⟨_, rfl⟩
  obtain ⟨D, hD⟩ : ∃ D, D = sqI b1 b2 := ⟨_, rfl⟩
  rw [← hA, ← hB, ← hC, ← hD]
  replace hA := hA.symm
  replace hB := hB.symm
  replace hC := hC.symm
  replace hD := hD.symm
  by_cases hAB : A = B
  · subst hAB
    rw [if_pos rfl]
    rcases Int.lt_trichotomy C D with h | h | h
    · have hcm : cmpV C D = -1 := by unfold cmpV; rw [if_pos h]
      rw [hcm]
      clear hcm
      go_enter Try.func112, Try.ntmps112; (try simp only [List.append_eq, List.cons_append, List.nil_append])
      go_wp2_with fail
      refine wp_region_warm (Own (w.heap.size + 3) _) (by kernel_rfl) (by kernel_rfl) (Own.refl (by (try simp) <;> omega)).drew ?_
      repeat (first | (refine wpWarm_step_off rfl (fun K hK => ?_); (go_simp; refine hK _ ?_; clear hK K)) | (apply wpWarm_step rfl; (focus (intro W' hS; have hcS := hS.cells.1; have hfS := hS.cells.2; go_simp; (first | done | exact rfl | exact ⟨rfl, hS⟩ | (go_at_call 129; exact (square_sq _ _ _ (by omega) (by omega) (by omega) (by omega)).mono (fun _ _ h => ⟨h.1, hS.call h.2⟩)) | (go_simp; exact rfl)))); (intro K hK; go_simp; (try go_bits); refine hK _ ?_; clear hK K)) | (apply wpWarm_step_on rfl; (focus (intro W' hS; have hcS := hS.cells.1; have hfS := hS.cells.2; go_simp; (first | done | exact rfl | exact ⟨rfl, hS⟩ | (go_at_call 129; exact (square_sq _ _ _ (by omega) (by omega) (by omega) (by omega)).mono (fun _ _ h => ⟨h.1, hS.call h.2⟩)) | (go_simp; exact rfl)))); (intro K hK; go_simp; (try go_bits); refine hK _ ?_; clear hK K)))
      refine wpWarm_nil ?_; intro w1 hOwn; have hz1 := hOwn.1; have hbb := hOwn.2; clear hOwn; (with_reducible apply cel2 (b := w.heap.size) hbb); (focus ((try simp) <;> omega)); (focus omega); (focus (go_simp; try exact rfl)); (focus (go_simp; try exact rfl)); (focus (intro o; go_simp)); intro cc cc fz hl; (with_reducible apply cel2 (b := w.heap.size + 1) hbb); (focus ((try simp) <;> omega)); (focus omega); (focus (go_simp; try exact rfl)); (focus (go_simp; try exact rfl)); (focus (intro o; go_simp)); intro cc cc fz hl; (with_reducible apply cel2 (b := w.heap.size + 1 + 1) hbb); (focus ((try simp) <;> omega)); (focus omega); (focus (go_simp; try exact rfl)); (focus (go_simp; try exact rfl)); (focus (intro o; go_simp)); intro cc cc fz hl
      go_wp2_with fail
      refine wp_region_warm (Own (w.heap.size + 3) _) (by kernel_rfl) (by kernel_rfl) (Own.refl (by (try simp) <;> omega)).drew ?_
      repeat (first | (refine wpWarm_step_off rfl (fun K hK => ?_); (go_simp; refine hK _ ?_; clear hK K)) | (apply wpWarm_step rfl; (focus (intro W' hS; have hcS := hS.cells.1; have hfS := hS.cells.2; go_simp; (first | done | exact rfl | exact ⟨rfl, hS⟩ | (go_at_call 129; exact (square_sq _ _ _ (by omega) (by omega) (by omega) (by omega)).mono (fun _ _ h => ⟨h.1, hS.call h.2⟩)) | (go_simp; exact rfl)))); (intro K hK; go_simp; (try go_bits); refine hK _ ?_; clear hK K)) | (apply wpWarm_step_on rfl; (focus (intro W' hS; have hcS := hS.cells.1; have hfS := hS.cells.2; go_simp; (first | done | exact rfl | exact ⟨rfl, hS⟩ | (go_at_call 129; exact (square_sq _ _ _ (by omega) (by omega) (by omega) (by omega)).mono (fun _ _ h => ⟨h.1, hS.call h.2⟩)) | (go_simp; exact rfl)))); (intro K hK; go_simp; (try go_bits); refine hK _ ?_; clear hK K)))
      refine wpWarm_nil ?_; intro w1 hOwn; have hz1 := hOwn.1; have hbb := hOwn.2; clear hOwn; (with_reducible apply cel2 (b := w.heap.size) hbb); (focus ((try simp) <;> omega)); (focus omega); (focus (go_simp; try exact rfl)); (focus (go_simp; try exact rfl)); (focus (intro o; go_simp)); intro cc cc fz hl; (with_reducible apply cel2 (b := w.heap.size + 1) hbb); (focus ((try simp) <;> omega)); (focus omega); (focus (go_simp; try exact rfl)); (focus (go_simp; try exact rfl)); (focus (intro o; go_simp)); intro cc cc fz hl; (with_reducible apply cel2 (b := w.heap.size + 1 + 1) hbb); (focus ((try simp) <;> omega)); (focus omega); (focus (go_simp; try exact rfl)); (focus (go_simp; try exact rfl)); (focus (intro o; go_simp)); intro cc cc fz hl
      go_wp2_with fail
      go_ret
      refine ⟨rfl, ?_⟩
      ((with_reducible (repeat (first | exact bR _ _ | refine bS ?_ ?_ _ | refine bA ?_ ?_ _ | refine bD ?_ | refine bT ?_ (by assumption) ?_ | refine bO (by assumption) ?_ ?_))) <;> (first | omega | (simp; done) | (simp <;> omega)))
    · have hcm : cmpV C D = 0 := by unfold cmpV; rw [if_neg (by omega), if_neg (by omega)]
      rw [hcm]
      clear hcm
      go_enter Try.func112, Try.ntmps112; (try simp only [List.append_eq, List.cons_append, List.nil_append])
      go_wp2_with fail
      refine wp_region_warm (Own (w.heap.size + 3) _) (by kernel_rfl) (by kernel_rfl) (Own.refl (by (try simp) <;> omega)).drew ?_
      repeat (first | (refine wpWarm_step_off rfl (fun K hK => ?_); (go_simp; refine hK _ ?_; clear hK K)) | (apply wpWarm_step rfl; (focus (intro W' hS; have hcS := hS.cells.1; have hfS := hS.cells.2; go_simp; (first | done | exact rfl | exact ⟨rfl, hS⟩ | (go_at_call 129; exact (square_sq _ _ _ (by omega) (by omega) (by omega) (by omega)).mono (fun _ _ h => ⟨h.1, hS.call h.2⟩)) | (go_simp; exact rfl)))); (intro K hK; go_simp; (try go_bits); refine hK _ ?_; clear hK K)) | (apply wpWarm_step_on rfl; (focus (intro W' hS; have hcS := hS.cells.1; have hfS := hS.cells.2; go_simp; (first | done | exact rfl | exact ⟨rfl, hS⟩ | (go_at_call 129; exact (square_sq _ _ _ (by omega) (by omega) (by omega) (by omega)).mono (fun _ _ h => ⟨h.1, hS.call h.2⟩)) | (go_simp; exact rfl)))); (intro K hK; go_simp; (try go_bits); refine hK _ ?_; clear hK K)))
      refine wpWarm_nil ?_; intro w1 hOwn; have hz1 := hOwn.1; have hbb := hOwn.2; clear hOwn; (with_reducible apply cel2 (b := w.heap.size) hbb); (focus ((try simp) <;> omega)); (focus omega); (focus (go_simp; try exact rfl)); (focus (go_simp; try exact rfl)); (focus (intro o; go_simp)); intro cc cc fz hl; (with_reducible apply cel2 (b := w.heap.size + 1) hbb); (focus ((try simp) <;> omega)); (focus omega); (focus (go_simp; try exact rfl)); (focus (go_simp; try exact rfl)); (focus (intro o; go_simp)); intro cc cc fz hl; (with_reducible apply cel2 (b := w.heap.size + 1 + 1) hbb); (focus ((try simp) <;> omega)); (focus omega); (focus (go_simp; try exact rfl)); (focus (go_simp; try exact rfl)); (focus (intro o; go_simp)); intro cc cc fz hl
      go_wp2_with fail
      refine wp_region_warm (Own (w.heap.size + 3) _) (by kernel_rfl) (by kernel_rfl) (Own.refl (by (try simp) <;> omega)).drew ?_
      repeat (first | (refine wpWarm_step_off rfl (fun K hK => ?_); (go_simp; refine hK _ ?_; clear hK K)) | (apply wpWarm_step rfl; (focus (intro W' hS; have hcS := hS.cells.1; have hfS := hS.cells.2; go_simp; (first | done | exact rfl | exact ⟨rfl, hS⟩ | (go_at_call 129; exact (square_sq _ _ _ (by omega) (by omega) (by omega) (by omega)).mono (fun _ _ h => ⟨h.1, hS.call h.2⟩)) | (go_simp; exact rfl)))); (intro K hK; go_simp; (try go_bits); refine hK _ ?_; clear hK K)) | (apply wpWarm_step_on rfl; (focus (intro W' hS; have hcS := hS.cells.1; have hfS := hS.cells.2; go_simp; (first | done | exact rfl | exact ⟨rfl, hS⟩ | (go_at_call 129; exact (square_sq _ _ _ (by omega) (by omega) (by omega) (by omega)).mono (fun _ _ h => ⟨h.1, hS.call h.2⟩)) | (go_simp; exact rfl)))); (intro K hK; go_simp; (try go_bits); refine hK _ ?_; clear hK K)))
      refine wpWarm_nil ?_; intro w1 hOwn; have hz1 := hOwn.1; have hbb := hOwn.2; clear hOwn; (with_reducible apply cel2 (b := w.heap.size) hbb); (focus ((try simp) <;> omega)); (focus omega); (focus (go_simp; try exact rfl)); (focus (go_simp; try exact rfl)); (focus (intro o; go_simp)); intro cc cc fz hl; (with_reducible apply cel2 (b := w.heap.size + 1) hbb); (focus ((try simp) <;> omega)); (focus omega); (focus (go_simp; try exact rfl)); (focus (go_simp; try exact rfl)); (focus (intro o; go_simp)); intro cc cc fz hl; (with_reducible apply cel2 (b := w.heap.size + 1 + 1) hbb); (focus ((try simp) <;> omega)); (focus omega); (focus (go_simp; try exact rfl)); (focus (go_simp; try exact rfl)); (focus (intro o; go_simp)); intro cc cc fz hl
      go_wp2_with fail
      go_ret
      refine ⟨rfl, ?_⟩
      ((with_reducible (repeat (first | exact bR _ _ | refine bS ?_ ?_ _ | refine bA ?_ ?_ _ | refine bD ?_ | refine bT ?_ (by assumption) ?_ | refine bO (by assumption) ?_ ?_))) <;> (first | omega | (simp; done) | (simp <;> omega)))
    · have hcm : cmpV C D = 1 := by unfold cmpV; rw [if_neg (by omega), if_pos h]
      rw [hcm]
      clear hcm
      go_enter Try.func112, Try.ntmps112; (try simp only [List.append_eq, List.cons_append, List.nil_append])
      go_wp2_with fail
      refine wp_region_warm (Own (w.heap.size + 3) _) (by kernel_rfl) (by kernel_rfl) (Own.refl (by (try simp) <;> omega)).drew ?_
      repeat (first | (refine wpWarm_step_off rfl (fun K hK => ?_); (go_simp; refine hK _ ?_; clear hK K)) | (apply wpWarm_step rfl; (focus (intro W' hS; have hcS := hS.cells.1; have hfS := hS.cells.2; go_simp; (first | done | exact rfl | exact ⟨rfl, hS⟩ | (go_at_call 129; exact (square_sq _ _ _ (by omega) (by omega) (by omega) (by omega)).mono (fun _ _ h => ⟨h.1, hS.call h.2⟩)) | (go_simp; exact rfl)))); (intro K hK; go_simp; (try go_bits); refine hK _ ?_; clear hK K)) | (apply wpWarm_step_on rfl; (focus (intro W' hS; have hcS := hS.cells.1; have hfS := hS.cells.2; go_simp; (first | done | exact rfl | exact ⟨rfl, hS⟩ | (go_at_call 129; exact (square_sq _ _ _ (by omega) (by omega) (by omega) (by omega)).mono (fun _ _ h => ⟨h.1, hS.call h.2⟩)) | (go_simp; exact rfl)))); (intro K hK; go_simp; (try go_bits); refine hK _ ?_; clear hK K)))
      refine wpWarm_nil ?_; intro w1 hOwn; have hz1 := hOwn.1; have hbb := hOwn.2; clear hOwn; (with_reducible apply cel2 (b := w.heap.size) hbb); (focus ((try simp) <;> omega)); (focus omega); (focus (go_simp; try exact rfl)); (focus (go_simp; try exact rfl)); (focus (intro o; go_simp)); intro cc cc fz hl; (with_reducible apply cel2 (b := w.heap.size + 1) hbb); (focus ((try simp) <;> omega)); (focus omega); (focus (go_simp; try exact rfl)); (focus (go_simp; try exact rfl)); (focus (intro o; go_simp)); intro cc cc fz hl; (with_reducible apply cel2 (b := w.heap.size + 1 + 1) hbb); (focus ((try simp) <;> omega)); (focus omega); (focus (go_simp; try exact rfl)); (focus (go_simp; try exact rfl)); (focus (intro o; go_simp)); intro cc cc fz hl
      go_wp2_with fail
      refine wp_region_warm (Own (w.heap.size + 3) _) (by kernel_rfl) (by kernel_rfl) (Own.refl (by (try simp) <;> omega)).drew ?_
      repeat (first | (refine wpWarm_step_off rfl (fun K hK => ?_); (go_simp; refine hK _ ?_; clear hK K)) | (apply wpWarm_step rfl; (focus (intro W' hS; have hcS := hS.cells.1; have hfS := hS.cells.2; go_simp; (first | done | exact rfl | exact ⟨rfl, hS⟩ | (go_at_call 129; exact (square_sq _ _ _ (by omega) (by omega) (by omega) (by omega)).mono (fun _ _ h => ⟨h.1, hS.call h.2⟩)) | (go_simp; exact rfl)))); (intro K hK; go_simp; (try go_bits); refine hK _ ?_; clear hK K)) | (apply wpWarm_step_on rfl; (focus (intro W' hS; have hcS := hS.cells.1; have hfS := hS.cells.2; go_simp; (first | done | exact rfl | exact ⟨rfl, hS⟩ | (go_at_call 129; exact (square_sq _ _ _ (by omega) (by omega) (by omega) (by omega)).mono (fun _ _ h => ⟨h.1, hS.call h.2⟩)) | (go_simp; exact rfl)))); (intro K hK; go_simp; (try go_bits); refine hK _ ?_; clear hK K)))
      refine wpWarm_nil ?_; intro w1 hOwn; have hz1 := hOwn.1; have hbb := hOwn.2; clear hOwn; (with_reducible apply cel2 (b := w.heap.size) hbb); (focus ((try simp) <;> omega)); (focus omega); (focus (go_simp; try exact rfl)); (focus (go_simp; try exact rfl)); (focus (intro o; go_simp)); intro cc cc fz hl; (with_reducible apply cel2 (b := w.heap.size + 1) hbb); (focus ((try simp) <;> omega)); (focus omega); (focus (go_simp; try exact rfl)); (focus (go_simp; try exact rfl)); (focus (intro o; go_simp)); intro cc cc fz hl; (with_reducible apply cel2 (b := w.heap.size + 1 + 1) hbb); (focus ((try simp) <;> omega)); (focus omega); (focus (go_simp; try exact rfl)); (focus (go_simp; try exact rfl)); (focus (intro o; go_simp)); intro cc cc fz hl
      go_wp2_with fail
      go_ret
      refine ⟨rfl, ?_⟩
      ((with_reducible (repeat (first | exact bR _ _ | refine bS ?_ ?_ _ | refine bA ?_ ?_ _ | refine bD ?_ | refine bT ?_ (by assumption) ?_ | refine bO (by assumption) ?_ ?_))) <;> (first | omega | (simp; done) | (simp <;> omega)))
  · have hAB' : (A == B) = false := by simp [hAB]
    rw [if_neg hAB]
    rcases Int.lt_trichotomy A B with h | h | h
    · have hcm : cmpV A B = -1 := by unfold cmpV; rw [if_pos h]
      rw [hcm]
      clear hcm
      go_enter Try.func112, Try.ntmps112; (try simp only [List.append_eq, List.cons_append, List.nil_append])
      go_wp2_with fail
      refine wp_region_warm (Own (w.heap.size + 3) _) (by kernel_rfl) (by kernel_rfl) (Own.refl (by (try simp) <;> omega)).drew ?_
      repeat (first | (refine wpWarm_step_off rfl (fun K hK => ?_); (go_simp; refine hK _ ?_; clear hK K)) | (apply wpWarm_step rfl; (focus (intro W' hS; have hcS := hS.cells.1; have hfS := hS.cells.2; go_simp; (first | done | exact rfl | exact ⟨rfl, hS⟩ | (go_at_call 129; exact (square_sq _ _ _ (by omega) (by omega) (by omega) (by omega)).mono (fun _ _ h => ⟨h.1, hS.call h.2⟩)) | (go_simp; exact rfl)))); (intro K hK; go_simp; (try go_bits); refine hK _ ?_; clear hK K)) | (apply wpWarm_step_on rfl; (focus (intro W' hS; have hcS := hS.cells.1; have hfS := hS.cells.2; go_simp; (first | done | exact rfl | exact ⟨rfl, hS⟩ | (go_at_call 129; exact (square_sq _ _ _ (by omega) (by omega) (by omega) (by omega)).mono (fun _ _ h => ⟨h.1, hS.call h.2⟩)) | (go_simp; exact rfl)))); (intro K hK; go_simp; (try go_bits); refine hK _ ?_; clear hK K)))
      refine wpWarm_nil ?_; intro w1 hOwn; have hz1 := hOwn.1; have hbb := hOwn.2; clear hOwn; (with_reducible apply cel2 (b := w.heap.size) hbb); (focus ((try simp) <;> omega)); (focus omega); (focus (go_simp; try exact rfl)); (focus (go_simp; try exact rfl)); (focus (intro o; go_simp)); intro cc cc fz hl; (with_reducible apply cel2 (b := w.heap.size + 1) hbb); (focus ((try simp) <;> omega)); (focus omega); (focus (go_simp; try exact rfl)); (focus (go_simp; try exact rfl)); (focus (intro o; go_simp)); intro cc cc fz hl; (with_reducible apply cel2 (b := w.heap.size + 1 + 1) hbb); (focus ((try simp) <;> omega)); (focus omega); (focus (go_simp; try exact rfl)); (focus (go_simp; try exact rfl)); (focus (intro o; go_simp)); intro cc cc fz hl
      go_wp2_with fail
      go_ret
      refine ⟨rfl, ?_⟩
      ((with_reducible (repeat (first | exact bR _ _ | refine bS ?_ ?_ _ | refine bA ?_ ?_ _ | refine bD ?_ | refine bT ?_ (by assumption) ?_ | refine bO (by assumption) ?_ ?_))) <;> (first | omega | (simp; done) | (simp <;> omega)))
    · exact absurd h hAB
    · have hcm : cmpV A B = 1 := by unfold cmpV; rw [if_neg (by omega), if_pos h]
      rw [hcm]
      clear hcm
      go_enter Try.func112, Try.ntmps112; (try simp only [List.append_eq, List.cons_append, List.nil_append])
      go_wp2_with fail
      refine wp_region_warm (Own (w.heap.size + 3) _) (by kernel_rfl) (by kernel_rfl) (Own.refl (by (try simp) <;> omega)).drew ?_
      repeat (first | (refine wpWarm_step_off rfl (fun K hK => ?_); (go_simp; refine hK _ ?_; clear hK K)) | (apply wpWarm_step rfl; (focus (intro W' hS; have hcS := hS.cells.1; have hfS := hS.cells.2; go_simp; (first | done | exact rfl | exact ⟨rfl, hS⟩ | (go_at_call 129; exact (square_sq _ _ _ (by omega) (by omega) (by omega) (by omega)).mono (fun _ _ h => ⟨h.1, hS.call h.2⟩)) | (go_simp; exact rfl)))); (intro K hK; go_simp; (try go_bits); refine hK _ ?_; clear hK K)) | (apply wpWarm_step_on rfl; (focus (intro W' hS; have hcS := hS.cells.1; have hfS := hS.cells.2; go_simp; (first | done | exact rfl | exact ⟨rfl, hS⟩ | (go_at_call 129; exact (square_sq _ _ _ (by omega) (by omega) (by omega) (by omega)).mono (fun _ _ h => ⟨h.1, hS.call h.2⟩)) | (go_simp; exact rfl)))); (intro K hK; go_simp; (try go_bits); refine hK _ ?_; clear hK K)))
      refine wpWarm_nil ?_; intro w1 hOwn; have hz1 := hOwn.1; have hbb := hOwn.2; clear hOwn; (with_reducible apply cel2 (b := w.heap.size) hbb); (focus ((try simp) <;> omega)); (focus omega); (focus (go_simp; try exact rfl)); (focus (go_simp; try exact rfl)); (focus (intro o; go_simp)); intro cc cc fz hl; (with_reducible apply cel2 (b := w.heap.size + 1) hbb); (focus ((try simp) <;> omega)); (focus omega); (focus (go_simp; try exact rfl)); (focus (go_simp; try exact rfl)); (focus (intro o; go_simp)); intro cc cc fz hl; (with_reducible apply cel2 (b := w.heap.size + 1 + 1) hbb); (focus ((try simp) <;> omega)); (focus omega); (focus (go_simp; try exact rfl)); (focus (go_simp; try exact rfl)); (focus (intro o; go_simp)); intro cc cc fz hl
      go_wp2_with fail
      go_ret
      refine ⟨rfl, ?_⟩
      ((with_reducible (repeat (first | exact bR _ _ | refine bS ?_ ?_ _ | refine bA ?_ ?_ _ | refine bD ?_ | refine bT ?_ (by assumption) ?_ | refine bO (by assumption) ?_ ?_))) <;> (first | omega | (simp; done) | (simp <;> omega)))
end Go.Proofs.Ytklkhnhieihfoaa
