/- Merged texts: VecE RsA RsG (what no proof of the claim needs is left out). -/
import Derived.Test.YtklkhnhieihfoaaRb7
namespace Go.Proofs.Ytklkhnhieihfoaa
open Go.RowKit
set_option linter.unusedVariables false
set_option maxHeartbeats 400000 in
theorem rkept_ok (x y : Int) (w : World) :
    Calls Try.prog 114 #[.agg #[.int .i64 x, .int .i64 y]] w fun e w' => e = .returned (.agg #[.int .i64 (keptR x y).1, .int .i64 (keptR x y).2]) ∧ Below w.heap.size w w' := by
  unfold keptR
  by_cases hs : smallB x y = true
  · rw [if_pos hs]
    go_enter Try.func114, Try.ntmps114; (try simp only [List.append_eq, List.cons_append, List.nil_append])
    go_wp2_with (first | (go_at_call 104; refine (rsmall_any _ _ _).mono ?_; rintro e w1 ⟨rfl, hb1⟩; have hz1 : w.heap.size + 2 ≤ w1.heap.size := (by have h := hb1.size; (try simp at h); omega); have hbb := Below.mono hb1 (B' := w.heap.size + 2) (by (try simp) <;> omega); clear hb1; (with_reducible apply cel2 (b := w.heap.size) hbb); (focus ((try simp) <;> omega)); (focus omega); (focus (go_simp; try exact rfl)); (focus (go_simp; try exact rfl)); (focus (intro o; go_simp)); intro cc cc fz hl; (with_reducible apply cel2 (b := w.heap.size + 1) hbb); (focus ((try simp) <;> omega)); (focus omega); (focus (go_simp; try exact rfl)); (focus (go_simp; try exact rfl)); (focus (intro o; go_simp)); intro cc cc fz hl))
    refine bodyPost_ret (v := .agg #[.int .i64 x, .int .i64 y]) (by simp only [results, Try.results114]; go_simp) rfl ⟨?_, ?_⟩
    · rfl
    · ((with_reducible (repeat (first | exact bR _ _ | refine bS ?_ ?_ _ | refine bA ?_ ?_ _ | refine bD ?_ | refine bT ?_ (by assumption) ?_ | refine bO (by assumption) ?_ ?_))) <;> (first | omega | (simp; done) | (simp <;> omega)))
  · rw [if_neg hs]
    have hs' : smallB x y = false := by simpa using hs
    go_enter Try.func114, Try.ntmps114; (try simp only [List.append_eq, List.cons_append, List.nil_append])
    go_wp2_with (first | (go_at_call 104; refine (rsmall_any _ _ _).mono ?_; rintro e w1 ⟨rfl, hb1⟩; have hz1 : w.heap.size + 2 ≤ w1.heap.size := (by have h := hb1.size; (try simp at h); omega); have hbb := Below.mono hb1 (B' := w.heap.size + 2) (by (try simp) <;> omega); clear hb1; (with_reducible apply cel2 (b := w.heap.size) hbb); (focus ((try simp) <;> omega)); (focus omega); (focus (go_simp; try exact rfl)); (focus (go_simp; try exact rfl)); (focus (intro o; go_simp)); intro cc cc fz hl; (with_reducible apply cel2 (b := w.heap.size + 1) hbb); (focus ((try simp) <;> omega)); (focus omega); (focus (go_simp; try exact rfl)); (focus (go_simp; try exact rfl)); (focus (intro o; go_simp)); intro cc cc fz hl))
    refine bodyPost_ret (v := .agg #[.int .i64 0, .int .i64 0]) (by simp only [results, Try.results114]; go_simp) rfl ⟨?_, ?_⟩
    · rfl
    · ((with_reducible (repeat (first | exact bR _ _ | refine bS ?_ ?_ _ | refine bA ?_ ?_ _ | refine bD ?_ | refine bT ?_ (by assumption) ?_ | refine bO (by assumption) ?_ ?_))) <;> (first | omega | (simp; done) | (simp <;> omega)))
set_option maxHeartbeats 800000 in
theorem rsub_any (a b c d : Int) (w : World) :
    Calls Try.prog 72 #[.agg #[.int .i64 a, .int .i64 b], .agg #[.int .i64 c, .int .i64 d]] w fun e w' => e = .returned (.agg #[.int .i64 (subR a b c d).1, .int .i64 (subR a b c d).2]) ∧ Below w.heap.size w w' := by
  unfold subR
  cases h1 : smallB a b
  · rw [if_neg (fun h => by cases h.1)]
    go_enter Try.func72, Try.ntmps72; (try simp only [List.append_eq, List.cons_append, List.nil_append])
    go_wp2_with (first | (go_at_call 104; refine (rsmall_any _ _ _).mono ?_; rintro e w1 ⟨rfl, hb1⟩; have hz1 : w.heap.size + 3 ≤ w1.heap.size := (by have h := hb1.size; (try simp at h); omega); have hbb := Below.mono hb1 (B' := w.heap.size + 3) (by (try simp) <;> omega); clear hb1; (with_reducible apply cel2 (b := w.heap.size) hbb); (focus ((try simp) <;> omega)); (focus omega); (focus (go_simp; try exact rfl)); (focus (go_simp; try exact rfl)); (focus (intro o; go_simp)); intro cc cc fz hl; (with_reducible apply cel2 (b := w.heap.size + 1) hbb); (focus ((try simp) <;> omega)); (focus omega); (focus (go_simp; try exact rfl)); (focus (go_simp; try exact rfl)); (focus (intro o; go_simp)); intro cc cc fz hl; (with_reducible apply cel2 (b := w.heap.size + 1 + 1) hbb); (focus ((try simp) <;> omega)); (focus omega); (focus (go_simp; try exact rfl)); (focus (go_simp; try exact rfl)); (focus (intro o; go_simp)); intro cc cc fz hl))
    refine bodyPost_ret (v := .agg #[.int .i64 0, .int .i64 0]) (by simp only [results, Try.results72]; go_simp) rfl ⟨?_, ?_⟩
    · rfl
    · ((with_reducible (repeat (first | exact bR _ _ | refine bS ?_ ?_ _ | refine bA ?_ ?_ _ | refine bD ?_ | refine bT ?_ (by assumption) ?_ | refine bO (by assumption) ?_ ?_))) <;> (first | omega | (simp; done) | (simp <;> omega)))
  · cases h2 : smallB c d
    · rw [if_neg (fun h => by cases h.2)]
      go_enter Try.func72, Try.ntmps72; (try simp only [List.append_eq, List.cons_append, List.nil_append])
      go_wp2_with (first | (go_at_call 104; refine (rsmall_any _ _ _).mono ?_; rintro e w1 ⟨rfl, hb1⟩; have hz1 : w.heap.size + 3 ≤ w1.heap.size := (by have h := hb1.size; (try simp at h); omega); have hbb := Below.mono hb1 (B' := w.heap.size + 3) (by (try simp) <;> omega); clear hb1; (with_reducible apply cel2 (b := w.heap.size) hbb); (focus ((try simp) <;> omega)); (focus omega); (focus (go_simp; try exact rfl)); (focus (go_simp; try exact rfl)); (focus (intro o; go_simp)); intro cc cc fz hl; (with_reducible apply cel2 (b := w.heap.size + 1) hbb); (focus ((try simp) <;> omega)); (focus omega); (focus (go_simp; try exact rfl)); (focus (go_simp; try exact rfl)); (focus (intro o; go_simp)); intro cc cc fz hl; (with_reducible apply cel2 (b := w.heap.size + 1 + 1) hbb); (focus ((try simp) <;> omega)); (focus omega); (focus (go_simp; try exact rfl)); (focus (go_simp; try exact rfl)); (focus (intro o; go_simp)); intro cc cc fz hl))
      refine bodyPost_ret (v := .agg #[.int .i64 0, .int .i64 0]) (by simp only [results, Try.results72]; go_simp) rfl ⟨?_, ?_⟩
      · rfl
      · ((with_reducible (repeat (first | exact bR _ _ | refine bS ?_ ?_ _ | refine bA ?_ ?_ _ | refine bD ?_ | refine bT ?_ (by assumption) ?_ | refine bO (by assumption) ?_ ?_))) <;> (first | omega | (simp; done) | (simp <;> omega)))
    · rw [if_pos ⟨rfl, rfl⟩]
      obtain ⟨q1, q2, q3, q4⟩ := small_bd h1
      obtain ⟨q5, q6, q7, q8⟩ := small_bd h2
      go_enter Try.func72, Try.ntmps72; (try simp only [List.append_eq, List.cons_append, List.nil_append])
      go_wp2_with (first | (go_at_call 104; refine (rsmall_any _ _ _).mono ?_; rintro e w1 ⟨rfl, hb1⟩; have hz1 : w.heap.size + 3 ≤ w1.heap.size := (by have h := hb1.size; (try simp at h); omega); have hbb := Below.mono hb1 (B' := w.heap.size + 3) (by (try simp) <;> omega); clear hb1; (with_reducible apply cel2 (b := w.heap.size) hbb); (focus ((try simp) <;> omega)); (focus omega); (focus (go_simp; try exact rfl)); (focus (go_simp; try exact rfl)); (focus (intro o; go_simp)); intro cc cc fz hl; (with_reducible apply cel2 (b := w.heap.size + 1) hbb); (focus ((try simp) <;> omega)); (focus omega); (focus (go_simp; try exact rfl)); (focus (go_simp; try exact rfl)); (focus (intro o; go_simp)); intro cc cc fz hl; (with_reducible apply cel2 (b := w.heap.size + 1 + 1) hbb); (focus ((try simp) <;> omega)); (focus omega); (focus (go_simp; try exact rfl)); (focus (go_simp; try exact rfl)); (focus (intro o; go_simp)); intro cc cc fz hl) | (go_at_call 114; refine (rkept_ok _ _ _).mono ?_; rintro e w1 ⟨rfl, hb1⟩; have hz1 : w.heap.size + 3 ≤ w1.heap.size := (by have h := hb1.size; (try simp at h); omega); have hbb := Below.mono hb1 (B' := w.heap.size + 3) (by (try simp) <;> omega); clear hb1; (with_reducible apply cel2 (b := w.heap.size) hbb); (focus ((try simp) <;> omega)); (focus omega); (focus (go_simp; try exact rfl)); (focus (go_simp; try exact rfl)); (focus (intro o; go_simp)); intro cc cc fz hl; (with_reducible apply cel2 (b := w.heap.size + 1) hbb); (focus ((try simp) <;> omega)); (focus omega); (focus (go_simp; try exact rfl)); (focus (go_simp; try exact rfl)); (focus (intro o; go_simp)); intro cc cc fz hl; (with_reducible apply cel2 (b := w.heap.size + 1 + 1) hbb); (focus ((try simp) <;> omega)); (focus omega); (focus (go_simp; try exact rfl)); (focus (go_simp; try exact rfl)); (focus (intro o; go_simp)); intro cc cc fz hl))
      refine bodyPost_ret (v := .agg #[.int .i64 (keptR (a - c) (b - d)).1, .int .i64 (keptR (a - c) (b - d)).2]) (by simp only [results, Try.results72]; go_simp) rfl ⟨?_, ?_⟩
      · rfl
      · ((with_reducible (repeat (first | exact bR _ _ | refine bS ?_ ?_ _ | refine bA ?_ ?_ _ | refine bD ?_ | refine bT ?_ (by assumption) ?_ | refine bO (by assumption) ?_ ?_))) <;> (first | omega | (simp; done) | (simp <;> omega)))
end Go.Proofs.Ytklkhnhieihfoaa
namespace Go.Proofs.Ytklkhnhieihfoaa
open Go Go.RowKit
set_option linter.unusedVariables false
theorem rspeed_any (x y : Int) (w : World) :
    Calls Try.prog 34 #[.agg #[.int .i64 x, .int .i64 y]] w fun e w' => e = .returned (.bool (withinB x y 1048576)) ∧ Below w.heap.size w w' := by
  go_enter Try.func34, Try.ntmps34; (try simp only [List.append_eq, List.cons_append, List.nil_append])
  go_wp2_with fail
  -- own blocks: w.heap.size:2
  (go_at_call 86; refine (rnear_any _ _ _ _ (by omega) (by omega)).mono ?_; rintro e w1 ⟨rfl, hb_w1⟩; have hz_w1 := hb_w1.size; (try simp at hz_w1); (with_reducible apply cel2 (b := w.heap.size) hb_w1); (focus ((try simp) <;> omega)); (focus omega); (focus (go_simp; try exact rfl)); (focus (go_simp; try exact rfl)); (focus (intro o; go_simp)); intro cc cc fz hl)
  go_wp2_with fail
  go_ret
  exact ⟨rfl, by ((with_reducible (repeat (first | exact bR _ _ | refine bS ?_ ?_ _ | refine bA ?_ ?_ _ | refine bD ?_ | refine bT ?_ (by assumption) ?_ | refine bO (by assumption) ?_ ?_))) <;> (first | omega | (simp; done) | (simp <;> omega)))⟩
theorem rpart_any (x : Int) (w : World) :
    Calls Try.prog 82 #[.int .i64 x] w fun e w' => e = .returned (.bool (sixB x)) ∧ Below w.heap.size w w' := by
  go_enter Try.func82, Try.ntmps82; (try simp only [List.append_eq, List.cons_append, List.nil_append])
  go_wp2
  all_goals
    go_ret
    refine ⟨ret_bool (bool_iff ?_), Below.refl _ _⟩
    simp only [sixB, decide_eq_true_eq, Bool.false_eq_true, false_iff]; omega
set_option maxHeartbeats 4000000 in
theorem rapproaches_any (v1 v2 w1 w2 n1 n2 : Int) (w : World) :
    Calls Try.prog 27 #[.agg #[.int .i64 v1, .int .i64 v2], .agg #[.int .i64 w1, .int .i64 w2], .agg #[.int .i64 n1, .int .i64 n2]] w fun e w' => e = .returned (.bool (apprB v1 v2 w1 w2 n1 n2)) ∧ Below w.heap.size w w' := by
  have k1 := fun w => rspeed_any v1 v2 w
  have k4 := fun w => rspeed_any w1 w2 w
  have k5 := fun w => rdirection_any n1 n2 w
  have k2 := fun w => rsub_any v1 v2 w1 w2 w
  have k3 := fun w => rdot_any (subR v1 v2 w1 w2).1 (subR v1 v2 w1 w2).2 n1 n2 w
  unfold apprB permB
  generalize dotR (subR v1 v2 w1 w2).1 (subR v1 v2 w1 w2).2 n1 n2 = D at *
  generalize subR v1 v2 w1 w2 = S at *
  generalize withinB v1 v2 1048576 = c1 at *
  generalize withinB w1 w2 1048576 = c2 at *
  generalize withinB n1 n2 2097152 = c3 at *
  have K1 := Lib.hid k1
  have K2 := Lib.hid k2
  have K3 := Lib.hid k3
  have K4 := Lib.hid k4
  have K5 := Lib.hid k5
  clear k1 k2 k3 k4 k5
  go_enter Try.func27, Try.ntmps27; (try simp only [List.append_eq, List.cons_append, List.nil_append])
  go_wp2_with fail
  -- own blocks: w.heap.size:2, w.heap.size + 1:2, w.heap.size + 1 + 1:2
  (go_at_call 34; refine (K1.out _).mono ?_; rintro e w1 ⟨rfl, hb_w1⟩; have hz_w1 := hb_w1.size; (try simp at hz_w1); (with_reducible apply cel2 (b := w.heap.size) hb_w1); (focus ((try simp) <;> omega)); (focus omega); (focus (go_simp; try exact rfl)); (focus (go_simp; try exact rfl)); (focus (intro o; go_simp)); intro cc cc fz hl; (with_reducible apply cel2 (b := w.heap.size + 1) hb_w1); (focus ((try simp) <;> omega)); (focus omega); (focus (go_simp; try exact rfl)); (focus (go_simp; try exact rfl)); (focus (intro o; go_simp)); intro cc cc fz hl; (with_reducible apply cel2 (b := w.heap.size + 1 + 1) hb_w1); (focus ((try simp) <;> omega)); (focus omega); (focus (go_simp; try exact rfl)); (focus (go_simp; try exact rfl)); (focus (intro o; go_simp)); intro cc cc fz hl)
  cases c1
  · go_wp2_with fail
    go_ret
    exact ⟨rfl, by ((with_reducible (repeat (first | exact bR _ _ | refine bS ?_ ?_ _ | refine bA ?_ ?_ _ | refine bD ?_ | refine bT ?_ (by assumption) ?_ | refine bO (by assumption) ?_ ?_))) <;> (first | omega | (simp; done) | (simp <;> omega)))⟩
  · go_wp2_with fail
    (go_at_call 34; refine (K4.out _).mono ?_; rintro e w2 ⟨rfl, hb_w2⟩; have hz_w2 := hb_w2.size; (try simp at hz_w2); (with_reducible apply cel2 (b := w.heap.size) hb_w2); (focus ((try simp) <;> omega)); (focus omega); (focus (go_simp; try exact rfl)); (focus (go_simp; try exact rfl)); (focus (intro o; go_simp)); intro cc cc fz hl; (with_reducible apply cel2 (b := w.heap.size + 1) hb_w2); (focus ((try simp) <;> omega)); (focus omega); (focus (go_simp; try exact rfl)); (focus (go_simp; try exact rfl)); (focus (intro o; go_simp)); intro cc cc fz hl; (with_reducible apply cel2 (b := w.heap.size + 1 + 1) hb_w2); (focus ((try simp) <;> omega)); (focus omega); (focus (go_simp; try exact rfl)); (focus (go_simp; try exact rfl)); (focus (intro o; go_simp)); intro cc cc fz hl)
    cases c2
    · go_wp2_with fail
      go_ret
      exact ⟨rfl, by ((with_reducible (repeat (first | exact bR _ _ | refine bS ?_ ?_ _ | refine bA ?_ ?_ _ | refine bD ?_ | refine bT ?_ (by assumption) ?_ | refine bO (by assumption) ?_ ?_))) <;> (first | omega | (simp; done) | (simp <;> omega)))⟩
    · go_wp2_with fail
      (go_at_call 71; refine (K5.out _).mono ?_; rintro e w3 ⟨rfl, hb_w3⟩; have hz_w3 := hb_w3.size; (try simp at hz_w3); (with_reducible apply cel2 (b := w.heap.size) hb_w3); (focus ((try simp) <;> omega)); (focus omega); (focus (go_simp; try exact rfl)); (focus (go_simp; try exact rfl)); (focus (intro o; go_simp)); intro cc cc fz hl; (with_reducible apply cel2 (b := w.heap.size + 1) hb_w3); (focus ((try simp) <;> omega)); (focus omega); (focus (go_simp; try exact rfl)); (focus (go_simp; try exact rfl)); (focus (intro o; go_simp)); intro cc cc fz hl; (with_reducible apply cel2 (b := w.heap.size + 1 + 1) hb_w3); (focus ((try simp) <;> omega)); (focus omega); (focus (go_simp; try exact rfl)); (focus (go_simp; try exact rfl)); (focus (intro o; go_simp)); intro cc cc fz hl)
      cases c3
      · go_wp2_with fail
        go_ret
        exact ⟨rfl, by ((with_reducible (repeat (first | exact bR _ _ | refine bS ?_ ?_ _ | refine bA ?_ ?_ _ | refine bD ?_ | refine bT ?_ (by assumption) ?_ | refine bO (by assumption) ?_ ?_))) <;> (first | omega | (simp; done) | (simp <;> omega)))⟩
      · go_wp2_with fail
        (refine pin_wp (N := _) (Nat.le_refl _) (fun w4 hb_w4 hz_w4 => ?_); (try simp at hz_w4); (with_reducible apply cel2 (b := w.heap.size) hb_w4); (focus ((try simp) <;> omega)); (focus omega); (focus (go_simp; try exact rfl)); (focus (go_simp; try exact rfl)); (focus (intro o; go_simp)); intro cc cc fz hl; (with_reducible apply cel2 (b := w.heap.size + 1) hb_w4); (focus ((try simp) <;> omega)); (focus omega); (focus (go_simp; try exact rfl)); (focus (go_simp; try exact rfl)); (focus (intro o; go_simp)); intro cc cc fz hl; (with_reducible apply cel2 (b := w.heap.size + 1 + 1) hb_w4); (focus ((try simp) <;> omega)); (focus omega); (focus (go_simp; try exact rfl)); (focus (go_simp; try exact rfl)); (focus (intro o; go_simp)); intro cc cc fz hl); refine wp_region_warm (Own w4.heap.size w4) (by kernel_rfl) (by kernel_rfl) (Own.refl (Nat.le_refl _)).drew ?_
        repeat (first | (refine wpWarm_step_off rfl (fun K hK => ?_); (go_simp; refine hK _ ?_; clear hK K)) | (apply wpWarm_step rfl; (focus (intro W' hS; have hcS := hS.cells.1; have hfS := hS.cells.2; go_simp; (first | done | exact rfl | exact ⟨rfl, hS⟩ | (go_at_call 72; exact (K2.out _).mono (fun _ _ h => ⟨h.1, hS.call h.2⟩)) | (go_at_call 54; exact (K3.out _).mono (fun _ _ h => ⟨h.1, hS.call h.2⟩)) | (go_simp; exact rfl)))); (intro K hK; go_simp; (try go_bits); refine hK _ ?_; clear hK K)) | (apply wpWarm_step_on rfl; (focus (intro W' hS; have hcS := hS.cells.1; have hfS := hS.cells.2; go_simp; (first | done | exact rfl | exact ⟨rfl, hS⟩ | (go_at_call 72; exact (K2.out _).mono (fun _ _ h => ⟨h.1, hS.call h.2⟩)) | (go_at_call 54; exact (K3.out _).mono (fun _ _ h => ⟨h.1, hS.call h.2⟩)) | (go_simp; exact rfl)))); (intro K hK; go_simp; (try go_bits); refine hK _ ?_; clear hK K)))
        (refine wpWarm_nil ?_; intro w5 hO; have hz_w5 := hO.1; have hb_w5 := hO.2; clear hO; (with_reducible apply cel2 (b := w.heap.size) hb_w5); (focus ((try simp) <;> omega)); (focus omega); (focus (go_simp; try exact rfl)); (focus (go_simp; try exact rfl)); (focus (intro o; go_simp)); intro cc cc fz hl; (with_reducible apply cel2 (b := w.heap.size + 1) hb_w5); (focus ((try simp) <;> omega)); (focus omega); (focus (go_simp; try exact rfl)); (focus (go_simp; try exact rfl)); (focus (intro o; go_simp)); intro cc cc fz hl; (with_reducible apply cel2 (b := w.heap.size + 1 + 1) hb_w5); (focus ((try simp) <;> omega)); (focus omega); (focus (go_simp; try exact rfl)); (focus (go_simp; try exact rfl)); (focus (intro o; go_simp)); intro cc cc fz hl)
        go_wp2_with fail
        go_ret
        exact ⟨by first | rfl | simp, by ((with_reducible (repeat (first | exact bR _ _ | refine bS ?_ ?_ _ | refine bA ?_ ?_ _ | refine bD ?_ | refine bT ?_ (by assumption) ?_ | refine bO (by assumption) ?_ ?_))) <;> (first | omega | (simp; done) | (simp <;> omega)))⟩
end Go.Proofs.Ytklkhnhieihfoaa
namespace Go.Proofs.Ytklkhnhieihfoaa
open Go Go.RowKit
set_option linter.unusedVariables false
set_option maxRecDepth 100000 in
set_option maxHeartbeats 20000000 in
theorem rpair_bad (v1 v2 w1 w2 n1 n2 rest : Int) (w : World) (h : ¬ (permB v1 v2 w1 w2 n1 n2 = true ∧ sixB rest = true)) :
    Calls Try.prog 48 #[.agg #[.int .i64 v1, .int .i64 v2], .agg #[.int .i64 w1, .int .i64 w2], .agg #[.int .i64 n1, .int .i64 n2], .int .i64 rest] w (RROut 0 0 0 0 0 0 w) := by
  have k1 := fun w => rspeed_any v1 v2 w
  have k2 := fun w => rspeed_any w1 w2 w
  have k3 := fun w => rdirection_any n1 n2 w
  have k4 := fun w => rpart_any rest w
  unfold permB at h
  generalize withinB v1 v2 1048576 = c1 at *
  generalize withinB w1 w2 1048576 = c2 at *
  generalize withinB n1 n2 2097152 = c3 at *
  generalize sixB rest = c4 at *
  have H := Lib.hid h
  have K1 := Lib.hid k1
  have K2 := Lib.hid k2
  have K3 := Lib.hid k3
  have K4 := Lib.hid k4
  clear k1 k2 k3 k4 h
  go_enter Try.func48, Try.ntmps48; (try simp only [List.append_eq, List.cons_append, List.nil_append])
  go_wp2_with fail
  -- own blocks: w.heap.size:2, w.heap.size + 1:2, w.heap.size + 1 + 1:2, w.heap.size + 1 + 1 + 1:6, w.heap.size + 1 + 1 + 1 + 1:6
  (go_at_call 34; refine (K1.out _).mono ?_; rintro e w1 ⟨rfl, hb_w1⟩; have hz_w1 := hb_w1.size; (try simp at hz_w1); (with_reducible apply cel2 (b := w.heap.size) hb_w1); (focus ((try simp) <;> omega)); (focus omega); (focus (go_simp; try exact rfl)); (focus (go_simp; try exact rfl)); (focus (intro o; go_simp)); intro cc cc fz hl; (with_reducible apply cel2 (b := w.heap.size + 1) hb_w1); (focus ((try simp) <;> omega)); (focus omega); (focus (go_simp; try exact rfl)); (focus (go_simp; try exact rfl)); (focus (intro o; go_simp)); intro cc cc fz hl; (with_reducible apply cel2 (b := w.heap.size + 1 + 1) hb_w1); (focus ((try simp) <;> omega)); (focus omega); (focus (go_simp; try exact rfl)); (focus (go_simp; try exact rfl)); (focus (intro o; go_simp)); intro cc cc fz hl; (with_reducible apply cel6 (b := w.heap.size + 1 + 1 + 1) hb_w1); (focus ((try simp) <;> omega)); (focus omega); (focus (go_simp; try exact rfl)); (focus (go_simp; try exact rfl)); (focus (go_simp; try exact rfl)); (focus (go_simp; try exact rfl)); (focus (go_simp; try exact rfl)); (focus (go_simp; try exact rfl)); (focus (intro o; go_simp)); intro cc cc cc cc cc cc fz hl; (with_reducible apply cel6 (b := w.heap.size + 1 + 1 + 1 + 1) hb_w1); (focus ((try simp) <;> omega)); (focus omega); (focus (go_simp; try exact rfl)); (focus (go_simp; try exact rfl)); (focus (go_simp; try exact rfl)); (focus (go_simp; try exact rfl)); (focus (go_simp; try exact rfl)); (focus (go_simp; try exact rfl)); (focus (intro o; go_simp)); intro cc cc cc cc cc cc fz hl)
  cases c1
  · go_wp2_with fail
    refine bodyPost_ret (v := .tuple #[.agg #[.bool false, .slice none 0 0, .bool false, .slice none 0 0, .bool false, .slice none 0 0], .agg #[.bool false, .slice none 0 0, .bool false, .slice none 0 0, .bool false, .slice none 0 0]]) (by simp only [results, Try.results48]; go_simp) rfl ⟨?_, ?_⟩
    · ((with_reducible (repeat (first | exact bR _ _ | refine bS ?_ ?_ _ | refine bA ?_ ?_ _ | refine bD ?_ | refine bT ?_ (by assumption) ?_ | refine bO (by assumption) ?_ ?_))) <;> (first | omega | (simp; done) | (simp <;> omega)))
    · exact ⟨_, _, rfl, RAt.zero _, RAt.zero _⟩
  · go_wp2_with fail
    (go_at_call 34; refine (K2.out _).mono ?_; rintro e w2 ⟨rfl, hb_w2⟩; have hz_w2 := hb_w2.size; (try simp at hz_w2); (with_reducible apply cel2 (b := w.heap.size) hb_w2); (focus ((try simp) <;> omega)); (focus omega); (focus (go_simp; try exact rfl)); (focus (go_simp; try exact rfl)); (focus (intro o; go_simp)); intro cc cc fz hl; (with_reducible apply cel2 (b := w.heap.size + 1) hb_w2); (focus ((try simp) <;> omega)); (focus omega); (focus (go_simp; try exact rfl)); (focus (go_simp; try exact rfl)); (focus (intro o; go_simp)); intro cc cc fz hl; (with_reducible apply cel2 (b := w.heap.size + 1 + 1) hb_w2); (focus ((try simp) <;> omega)); (focus omega); (focus (go_simp; try exact rfl)); (focus (go_simp; try exact rfl)); (focus (intro o; go_simp)); intro cc cc fz hl; (with_reducible apply cel6 (b := w.heap.size + 1 + 1 + 1) hb_w2); (focus ((try simp) <;> omega)); (focus omega); (focus (go_simp; try exact rfl)); (focus (go_simp; try exact rfl)); (focus (go_simp; try exact rfl)); (focus (go_simp; try exact rfl)); (focus (go_simp; try exact rfl)); (focus (go_simp; try exact rfl)); (focus (intro o; go_simp)); intro cc cc cc cc cc cc fz hl; (with_reducible apply cel6 (b := w.heap.size + 1 + 1 + 1 + 1) hb_w2); (focus ((try simp) <;> omega)); (focus omega); (focus (go_simp; try exact rfl)); (focus (go_simp; try exact rfl)); (focus (go_simp; try exact rfl)); (focus (go_simp; try exact rfl)); (focus (go_simp; try exact rfl)); (focus (go_simp; try exact rfl)); (focus (intro o; go_simp)); intro cc cc cc cc cc cc fz hl)
    cases c2
    · go_wp2_with fail
      refine bodyPost_ret (v := .tuple #[.agg #[.bool false, .slice none 0 0, .bool false, .slice none 0 0, .bool false, .slice none 0 0], .agg #[.bool false, .slice none 0 0, .bool false, .slice none 0 0, .bool false, .slice none 0 0]]) (by simp only [results, Try.results48]; go_simp) rfl ⟨?_, ?_⟩
      · ((with_reducible (repeat (first | exact bR _ _ | refine bS ?_ ?_ _ | refine bA ?_ ?_ _ | refine bD ?_ | refine bT ?_ (by assumption) ?_ | refine bO (by assumption) ?_ ?_))) <;> (first | omega | (simp; done) | (simp <;> omega)))
      · exact ⟨_, _, rfl, RAt.zero _, RAt.zero _⟩
    · go_wp2_with fail
      (go_at_call 71; refine (K3.out _).mono ?_; rintro e w3 ⟨rfl, hb_w3⟩; have hz_w3 := hb_w3.size; (try simp at hz_w3); (with_reducible apply cel2 (b := w.heap.size) hb_w3); (focus ((try simp) <;> omega)); (focus omega); (focus (go_simp; try exact rfl)); (focus (go_simp; try exact rfl)); (focus (intro o; go_simp)); intro cc cc fz hl; (with_reducible apply cel2 (b := w.heap.size + 1) hb_w3); (focus ((try simp) <;> omega)); (focus omega); (focus (go_simp; try exact rfl)); (focus (go_simp; try exact rfl)); (focus (intro o; go_simp)); intro cc cc fz hl; (with_reducible apply cel2 (b := w.heap.size + 1 + 1) hb_w3); (focus ((try simp) <;> omega)); (focus omega); (focus (go_simp; try exact rfl)); (focus (go_simp; try exact rfl)); (focus (intro o; go_simp)); intro cc cc fz hl; (with_reducible apply cel6 (b := w.heap.size + 1 + 1 + 1) hb_w3); (focus ((try simp) <;> omega)); (focus omega); (focus (go_simp; try exact rfl)); (focus (go_simp; try exact rfl)); (focus (go_simp; try exact rfl)); (focus (go_simp; try exact rfl)); (focus (go_simp; try exact rfl)); (focus (go_simp; try exact rfl)); (focus (intro o; go_simp)); intro cc cc cc cc cc cc fz hl; (with_reducible apply cel6 (b := w.heap.size + 1 + 1 + 1 + 1) hb_w3); (focus ((try simp) <;> omega)); (focus omega); (focus (go_simp; try exact rfl)); (focus (go_simp; try exact rfl)); (focus (go_simp; try exact rfl)); (focus (go_simp; try exact rfl)); (focus (go_simp; try exact rfl)); (focus (go_simp; try exact rfl)); (focus (intro o; go_simp)); intro cc cc cc cc cc cc fz hl)
      cases c3
      · go_wp2_with fail
        refine bodyPost_ret (v := .tuple #[.agg #[.bool false, .slice none 0 0, .bool false, .slice none 0 0, .bool false, .slice none 0 0], .agg #[.bool false, .slice none 0 0, .bool false, .slice none 0 0, .bool false, .slice none 0 0]]) (by simp only [results, Try.results48]; go_simp) rfl ⟨?_, ?_⟩
        · ((with_reducible (repeat (first | exact bR _ _ | refine bS ?_ ?_ _ | refine bA ?_ ?_ _ | refine bD ?_ | refine bT ?_ (by assumption) ?_ | refine bO (by assumption) ?_ ?_))) <;> (first | omega | (simp; done) | (simp <;> omega)))
        · exact ⟨_, _, rfl, RAt.zero _, RAt.zero _⟩
      · go_wp2_with fail
        (go_at_call 82; refine (K4.out _).mono ?_; rintro e w4 ⟨rfl, hb_w4⟩; have hz_w4 := hb_w4.size; (try simp at hz_w4); (with_reducible apply cel2 (b := w.heap.size) hb_w4); (focus ((try simp) <;> omega)); (focus omega); (focus (go_simp; try exact rfl)); (focus (go_simp; try exact rfl)); (focus (intro o; go_simp)); intro cc cc fz hl; (with_reducible apply cel2 (b := w.heap.size + 1) hb_w4); (focus ((try simp) <;> omega)); (focus omega); (focus (go_simp; try exact rfl)); (focus (go_simp; try exact rfl)); (focus (intro o; go_simp)); intro cc cc fz hl; (with_reducible apply cel2 (b := w.heap.size + 1 + 1) hb_w4); (focus ((try simp) <;> omega)); (focus omega); (focus (go_simp; try exact rfl)); (focus (go_simp; try exact rfl)); (focus (intro o; go_simp)); intro cc cc fz hl; (with_reducible apply cel6 (b := w.heap.size + 1 + 1 + 1) hb_w4); (focus ((try simp) <;> omega)); (focus omega); (focus (go_simp; try exact rfl)); (focus (go_simp; try exact rfl)); (focus (go_simp; try exact rfl)); (focus (go_simp; try exact rfl)); (focus (go_simp; try exact rfl)); (focus (go_simp; try exact rfl)); (focus (intro o; go_simp)); intro cc cc cc cc cc cc fz hl; (with_reducible apply cel6 (b := w.heap.size + 1 + 1 + 1 + 1) hb_w4); (focus ((try simp) <;> omega)); (focus omega); (focus (go_simp; try exact rfl)); (focus (go_simp; try exact rfl)); (focus (go_simp; try exact rfl)); (focus (go_simp; try exact rfl)); (focus (go_simp; try exact rfl)); (focus (go_simp; try exact rfl)); (focus (intro o; go_simp)); intro cc cc cc cc cc cc fz hl)
        cases c4
        · go_wp2_with fail
          refine bodyPost_ret (v := .tuple #[.agg #[.bool false, .slice none 0 0, .bool false, .slice none 0 0, .bool false, .slice none 0 0], .agg #[.bool false, .slice none 0 0, .bool false, .slice none 0 0, .bool false, .slice none 0 0]]) (by simp only [results, Try.results48]; go_simp) rfl ⟨?_, ?_⟩
          · ((with_reducible (repeat (first | exact bR _ _ | refine bS ?_ ?_ _ | refine bA ?_ ?_ _ | refine bD ?_ | refine bT ?_ (by assumption) ?_ | refine bO (by assumption) ?_ ?_))) <;> (first | omega | (simp; done) | (simp <;> omega)))
          · exact ⟨_, _, rfl, RAt.zero _, RAt.zero _⟩
        · exact absurd (by simp) H.out
set_option maxRecDepth 100000 in
set_option maxHeartbeats 20000000 in
theorem rpair_away (v1 v2 w1 w2 n1 n2 rest : Int) (w : World) (h : permB v1 v2 w1 w2 n1 n2 = true) (hr : sixB rest = true) (ha : apprB v1 v2 w1 w2 n1 n2 = false) :
    Calls Try.prog 48 #[.agg #[.int .i64 v1, .int .i64 v2], .agg #[.int .i64 w1, .int .i64 w2], .agg #[.int .i64 n1, .int .i64 n2], .int .i64 rest] w (RROut v1 v2 1 w1 w2 1 w) := by
  obtain ⟨bv, bw, _⟩ := perm_bd h
  have k1 := fun w => rspeed_any v1 v2 w
  have k2 := fun w => rspeed_any w1 w2 w
  have k3 := fun w => rdirection_any n1 n2 w
  have k4 := fun w => rpart_any rest w
  have hp := h
  unfold permB at hp
  simp only [Bool.and_eq_true] at hp
  rw [hp.1.1] at k1
  rw [hp.1.2] at k2
  rw [hp.2] at k3
  rw [hr] at k4
  have k5 := fun w => rapproaches_any v1 v2 w1 w2 n1 n2 w
  rw [ha] at k5
  have k6 := fun w => rwhole_any v1 v2 w (by omega) (by omega)
  have k7 := fun w => rwhole_any w1 w2 w (by omega) (by omega)
  have K1 := Lib.hid k1
  have K2 := Lib.hid k2
  have K3 := Lib.hid k3
  have K4 := Lib.hid k4
  have K5 := Lib.hid k5
  have K6 := Lib.hid k6
  have K7 := Lib.hid k7
  clear k1 k2 k3 k4 k5 k6 k7 h hr ha bv bw hp
  -- names on
  go_enter Try.func48, Try.ntmps48; (try simp only [List.append_eq, List.cons_append, List.nil_append])
  go_wp2_with fail
  -- own blocks: w.heap.size:2, w.heap.size + 1:2, w.heap.size + 1 + 1:2, w.heap.size + 1 + 1 + 1:6, w.heap.size + 1 + 1 + 1 + 1:6
  (go_at_call 34; refine (K1.out _).mono ?_; rintro e w101 ⟨rfl, hb_w101⟩; have hz_w101 := hb_w101.size; (try simp at hz_w101); (with_reducible apply cel2 (b := w.heap.size) hb_w101); (focus ((try simp) <;> omega)); (focus omega); (focus (go_simp; try exact rfl)); (focus (go_simp; try exact rfl)); (focus (intro o; go_simp)); intro c_w101_0_0 c_w101_0_1 fz_w101_0 hl_w101_0; (with_reducible apply cel2 (b := w.heap.size + 1) hb_w101); (focus ((try simp) <;> omega)); (focus omega); (focus (go_simp; try exact rfl)); (focus (go_simp; try exact rfl)); (focus (intro o; go_simp)); intro c_w101_1_0 c_w101_1_1 fz_w101_1 hl_w101_1; (with_reducible apply cel2 (b := w.heap.size + 1 + 1) hb_w101); (focus ((try simp) <;> omega)); (focus omega); (focus (go_simp; try exact rfl)); (focus (go_simp; try exact rfl)); (focus (intro o; go_simp)); intro c_w101_2_0 c_w101_2_1 fz_w101_2 hl_w101_2; (with_reducible apply cel6 (b := w.heap.size + 1 + 1 + 1) hb_w101); (focus ((try simp) <;> omega)); (focus omega); (focus (go_simp; try exact rfl)); (focus (go_simp; try exact rfl)); (focus (go_simp; try exact rfl)); (focus (go_simp; try exact rfl)); (focus (go_simp; try exact rfl)); (focus (go_simp; try exact rfl)); (focus (intro o; go_simp)); intro c_w101_3_0 c_w101_3_1 c_w101_3_2 c_w101_3_3 c_w101_3_4 c_w101_3_5 fz_w101_3 hl_w101_3; (with_reducible apply cel6 (b := w.heap.size + 1 + 1 + 1 + 1) hb_w101); (focus ((try simp) <;> omega)); (focus omega); (focus (go_simp; try exact rfl)); (focus (go_simp; try exact rfl)); (focus (go_simp; try exact rfl)); (focus (go_simp; try exact rfl)); (focus (go_simp; try exact rfl)); (focus (go_simp; try exact rfl)); (focus (intro o; go_simp)); intro c_w101_4_0 c_w101_4_1 c_w101_4_2 c_w101_4_3 c_w101_4_4 c_w101_4_5 fz_w101_4 hl_w101_4)
  have HB101 := Lib.hid (show Below w.heap.size w w101 by ((with_reducible (repeat (first | exact bR _ _ | refine bS ?_ ?_ _ | refine bA ?_ ?_ _ | refine bD ?_ | refine bT ?_ (by assumption) ?_ | refine bO (by assumption) ?_ ?_))) <;> (first | omega | (simp; done) | (simp <;> omega))))
  have hz101 : w.heap.size + 1 + 1 + 1 + 1 + 1 ≤ w101.heap.size := by omega
  clear hb_w101
  skip
  go_wp2_with fail
  -- own blocks: w.heap.size:2, w.heap.size + 1:2, w.heap.size + 1 + 1:2, w.heap.size + 1 + 1 + 1:6, w.heap.size + 1 + 1 + 1 + 1:6
  (go_at_call 34; refine (K2.out _).mono ?_; rintro e w102 ⟨rfl, hb_w102⟩; have hz_w102 := hb_w102.size; (try simp at hz_w102); (with_reducible apply cel2 (b := w.heap.size) hb_w102); (focus ((try simp) <;> omega)); (focus omega); (focus (go_simp; try exact rfl)); (focus (go_simp; try exact rfl)); (focus (intro o; go_simp)); intro c_w102_0_0 c_w102_0_1 fz_w102_0 hl_w102_0; (with_reducible apply cel2 (b := w.heap.size + 1) hb_w102); (focus ((try simp) <;> omega)); (focus omega); (focus (go_simp; try exact rfl)); (focus (go_simp; try exact rfl)); (focus (intro o; go_simp)); intro c_w102_1_0 c_w102_1_1 fz_w102_1 hl_w102_1; (with_reducible apply cel2 (b := w.heap.size + 1 + 1) hb_w102); (focus ((try simp) <;> omega)); (focus omega); (focus (go_simp; try exact rfl)); (focus (go_simp; try exact rfl)); (focus (intro o; go_simp)); intro c_w102_2_0 c_w102_2_1 fz_w102_2 hl_w102_2; (with_reducible apply cel6 (b := w.heap.size + 1 + 1 + 1) hb_w102); (focus ((try simp) <;> omega)); (focus omega); (focus (go_simp; try exact rfl)); (focus (go_simp; try exact rfl)); (focus (go_simp; try exact rfl)); (focus (go_simp; try exact rfl)); (focus (go_simp; try exact rfl)); (focus (go_simp; try exact rfl)); (focus (intro o; go_simp)); intro c_w102_3_0 c_w102_3_1 c_w102_3_2 c_w102_3_3 c_w102_3_4 c_w102_3_5 fz_w102_3 hl_w102_3; (with_reducible apply cel6 (b := w.heap.size + 1 + 1 + 1 + 1) hb_w102); (focus ((try simp) <;> omega)); (focus omega); (focus (go_simp; try exact rfl)); (focus (go_simp; try exact rfl)); (focus (go_simp; try exact rfl)); (focus (go_simp; try exact rfl)); (focus (go_simp; try exact rfl)); (focus (go_simp; try exact rfl)); (focus (intro o; go_simp)); intro c_w102_4_0 c_w102_4_1 c_w102_4_2 c_w102_4_3 c_w102_4_4 c_w102_4_5 fz_w102_4 hl_w102_4)
  have HB102 := Lib.hid (show Below w.heap.size w w102 by have hB := HB101.out; ((with_reducible (repeat (first | exact bR _ _ | refine bS ?_ ?_ _ | refine bA ?_ ?_ _ | refine bD ?_ | refine bT ?_ (by assumption) ?_ | refine bO (by assumption) ?_ ?_))) <;> (first | omega | (simp; done) | (simp <;> omega))))
  have hz102 : w.heap.size + 1 + 1 + 1 + 1 + 1 ≤ w102.heap.size := by omega
  clear hb_w102
  clear c_w101_0_0 c_w101_0_1 fz_w101_0 hl_w101_0 c_w101_1_0 c_w101_1_1 fz_w101_1 hl_w101_1 c_w101_2_0 c_w101_2_1 fz_w101_2 hl_w101_2 c_w101_3_0 c_w101_3_1 c_w101_3_2 c_w101_3_3 c_w101_3_4 c_w101_3_5 fz_w101_3 hl_w101_3 c_w101_4_0 c_w101_4_1 c_w101_4_2 c_w101_4_3 c_w101_4_4 c_w101_4_5 fz_w101_4 hl_w101_4
  go_wp2_with fail
  -- own blocks: w.heap.size:2, w.heap.size + 1:2, w.heap.size + 1 + 1:2, w.heap.size + 1 + 1 + 1:6, w.heap.size + 1 + 1 + 1 + 1:6
  (go_at_call 71; refine (K3.out _).mono ?_; rintro e w103 ⟨rfl, hb_w103⟩; have hz_w103 := hb_w103.size; (try simp at hz_w103); (with_reducible apply cel2 (b := w.heap.size) hb_w103); (focus ((try simp) <;> omega)); (focus omega); (focus (go_simp; try exact rfl)); (focus (go_simp; try exact rfl)); (focus (intro o; go_simp)); intro c_w103_0_0 c_w103_0_1 fz_w103_0 hl_w103_0; (with_reducible apply cel2 (b := w.heap.size + 1) hb_w103); (focus ((try simp) <;> omega)); (focus omega); (focus (go_simp; try exact rfl)); (focus (go_simp; try exact rfl)); (focus (intro o; go_simp)); intro c_w103_1_0 c_w103_1_1 fz_w103_1 hl_w103_1; (with_reducible apply cel2 (b := w.heap.size + 1 + 1) hb_w103); (focus ((try simp) <;> omega)); (focus omega); (focus (go_simp; try exact rfl)); (focus (go_simp; try exact rfl)); (focus (intro o; go_simp)); intro c_w103_2_0 c_w103_2_1 fz_w103_2 hl_w103_2; (with_reducible apply cel6 (b := w.heap.size + 1 + 1 + 1) hb_w103); (focus ((try simp) <;> omega)); (focus omega); (focus (go_simp; try exact rfl)); (focus (go_simp; try exact rfl)); (focus (go_simp; try exact rfl)); (focus (go_simp; try exact rfl)); (focus (go_simp; try exact rfl)); (focus (go_simp; try exact rfl)); (focus (intro o; go_simp)); intro c_w103_3_0 c_w103_3_1 c_w103_3_2 c_w103_3_3 c_w103_3_4 c_w103_3_5 fz_w103_3 hl_w103_3; (with_reducible apply cel6 (b := w.heap.size + 1 + 1 + 1 + 1) hb_w103); (focus ((try simp) <;> omega)); (focus omega); (focus (go_simp; try exact rfl)); (focus (go_simp; try exact rfl)); (focus (go_simp; try exact rfl)); (focus (go_simp; try exact rfl)); (focus (go_simp; try exact rfl)); (focus (go_simp; try exact rfl)); (focus (intro o; go_simp)); intro c_w103_4_0 c_w103_4_1 c_w103_4_2 c_w103_4_3 c_w103_4_4 c_w103_4_5 fz_w103_4 hl_w103_4)
  have HB103 := Lib.hid (show Below w.heap.size w w103 by have hB := HB102.out; ((with_reducible (repeat (first | exact bR _ _ | refine bS ?_ ?_ _ | refine bA ?_ ?_ _ | refine bD ?_ | refine bT ?_ (by assumption) ?_ | refine bO (by assumption) ?_ ?_))) <;> (first | omega | (simp; done) | (simp <;> omega))))
  have hz103 : w.heap.size + 1 + 1 + 1 + 1 + 1 ≤ w103.heap.size := by omega
  clear hb_w103
  clear c_w102_0_0 c_w102_0_1 fz_w102_0 hl_w102_0 c_w102_1_0 c_w102_1_1 fz_w102_1 hl_w102_1 c_w102_2_0 c_w102_2_1 fz_w102_2 hl_w102_2 c_w102_3_0 c_w102_3_1 c_w102_3_2 c_w102_3_3 c_w102_3_4 c_w102_3_5 fz_w102_3 hl_w102_3 c_w102_4_0 c_w102_4_1 c_w102_4_2 c_w102_4_3 c_w102_4_4 c_w102_4_5 fz_w102_4 hl_w102_4
  go_wp2_with fail
  -- own blocks: w.heap.size:2, w.heap.size + 1:2, w.heap.size + 1 + 1:2, w.heap.size + 1 + 1 + 1:6, w.heap.size + 1 + 1 + 1 + 1:6
  (go_at_call 82; refine (K4.out _).mono ?_; rintro e w104 ⟨rfl, hb_w104⟩; have hz_w104 := hb_w104.size; (try simp at hz_w104); (with_reducible apply cel2 (b := w.heap.size) hb_w104); (focus ((try simp) <;> omega)); (focus omega); (focus (go_simp; try exact rfl)); (focus (go_simp; try exact rfl)); (focus (intro o; go_simp)); intro c_w104_0_0 c_w104_0_1 fz_w104_0 hl_w104_0; (with_reducible apply cel2 (b := w.heap.size + 1) hb_w104); (focus ((try simp) <;> omega)); (focus omega); (focus (go_simp; try exact rfl)); (focus (go_simp; try exact rfl)); (focus (intro o; go_simp)); intro c_w104_1_0 c_w104_1_1 fz_w104_1 hl_w104_1; (with_reducible apply cel2 (b := w.heap.size + 1 + 1) hb_w104); (focus ((try simp) <;> omega)); (focus omega); (focus (go_simp; try exact rfl)); (focus (go_simp; try exact rfl)); (focus (intro o; go_simp)); intro c_w104_2_0 c_w104_2_1 fz_w104_2 hl_w104_2; (with_reducible apply cel6 (b := w.heap.size + 1 + 1 + 1) hb_w104); (focus ((try simp) <;> omega)); (focus omega); (focus (go_simp; try exact rfl)); (focus (go_simp; try exact rfl)); (focus (go_simp; try exact rfl)); (focus (go_simp; try exact rfl)); (focus (go_simp; try exact rfl)); (focus (go_simp; try exact rfl)); (focus (intro o; go_simp)); intro c_w104_3_0 c_w104_3_1 c_w104_3_2 c_w104_3_3 c_w104_3_4 c_w104_3_5 fz_w104_3 hl_w104_3; (with_reducible apply cel6 (b := w.heap.size + 1 + 1 + 1 + 1) hb_w104); (focus ((try simp) <;> omega)); (focus omega); (focus (go_simp; try exact rfl)); (focus (go_simp; try exact rfl)); (focus (go_simp; try exact rfl)); (focus (go_simp; try exact rfl)); (focus (go_simp; try exact rfl)); (focus (go_simp; try exact rfl)); (focus (intro o; go_simp)); intro c_w104_4_0 c_w104_4_1 c_w104_4_2 c_w104_4_3 c_w104_4_4 c_w104_4_5 fz_w104_4 hl_w104_4)
  have HB104 := Lib.hid (show Below w.heap.size w w104 by have hB := HB103.out; ((with_reducible (repeat (first | exact bR _ _ | refine bS ?_ ?_ _ | refine bA ?_ ?_ _ | refine bD ?_ | refine bT ?_ (by assumption) ?_ | refine bO (by assumption) ?_ ?_))) <;> (first | omega | (simp; done) | (simp <;> omega))))
  have hz104 : w.heap.size + 1 + 1 + 1 + 1 + 1 ≤ w104.heap.size := by omega
  clear hb_w104
  clear c_w103_0_0 c_w103_0_1 fz_w103_0 hl_w103_0 c_w103_1_0 c_w103_1_1 fz_w103_1 hl_w103_1 c_w103_2_0 c_w103_2_1 fz_w103_2 hl_w103_2 c_w103_3_0 c_w103_3_1 c_w103_3_2 c_w103_3_3 c_w103_3_4 c_w103_3_5 fz_w103_3 hl_w103_3 c_w103_4_0 c_w103_4_1 c_w103_4_2 c_w103_4_3 c_w103_4_4 c_w103_4_5 fz_w103_4 hl_w103_4
  go_wp2_with fail
  -- own blocks: w.heap.size:2, w.heap.size + 1:2, w.heap.size + 1 + 1 + 1:6, w.heap.size + 1 + 1 + 1 + 1:6
  (go_at_call 27; refine (K5.out _).mono ?_; rintro e w105 ⟨rfl, hb_w105⟩; have hz_w105 := hb_w105.size; (try simp at hz_w105); (with_reducible apply cel2 (b := w.heap.size) hb_w105); (focus ((try simp) <;> omega)); (focus omega); (focus (go_simp; try exact rfl)); (focus (go_simp; try exact rfl)); (focus (intro o; go_simp)); intro c_w105_0_0 c_w105_0_1 fz_w105_0 hl_w105_0; (with_reducible apply cel2 (b := w.heap.size + 1) hb_w105); (focus ((try simp) <;> omega)); (focus omega); (focus (go_simp; try exact rfl)); (focus (go_simp; try exact rfl)); (focus (intro o; go_simp)); intro c_w105_1_0 c_w105_1_1 fz_w105_1 hl_w105_1; (with_reducible apply cel6 (b := w.heap.size + 1 + 1 + 1) hb_w105); (focus ((try simp) <;> omega)); (focus omega); (focus (go_simp; try exact rfl)); (focus (go_simp; try exact rfl)); (focus (go_simp; try exact rfl)); (focus (go_simp; try exact rfl)); (focus (go_simp; try exact rfl)); (focus (go_simp; try exact rfl)); (focus (intro o; go_simp)); intro c_w105_2_0 c_w105_2_1 c_w105_2_2 c_w105_2_3 c_w105_2_4 c_w105_2_5 fz_w105_2 hl_w105_2; (with_reducible apply cel6 (b := w.heap.size + 1 + 1 + 1 + 1) hb_w105); (focus ((try simp) <;> omega)); (focus omega); (focus (go_simp; try exact rfl)); (focus (go_simp; try exact rfl)); (focus (go_simp; try exact rfl)); (focus (go_simp; try exact rfl)); (focus (go_simp; try exact rfl)); (focus (go_simp; try exact rfl)); (focus (intro o; go_simp)); intro c_w105_3_0 c_w105_3_1 c_w105_3_2 c_w105_3_3 c_w105_3_4 c_w105_3_5 fz_w105_3 hl_w105_3)
  have HB105 := Lib.hid (show Below w.heap.size w w105 by have hB := HB104.out; ((with_reducible (repeat (first | exact bR _ _ | refine bS ?_ ?_ _ | refine bA ?_ ?_ _ | refine bD ?_ | refine bT ?_ (by assumption) ?_ | refine bO (by assumption) ?_ ?_))) <;> (first | omega | (simp; done) | (simp <;> omega))))
  have hz105 : w.heap.size + 1 + 1 + 1 + 1 + 1 ≤ w105.heap.size := by omega
  clear hb_w105
  clear c_w104_0_0 c_w104_0_1 fz_w104_0 hl_w104_0 c_w104_1_0 c_w104_1_1 fz_w104_1 hl_w104_1 c_w104_2_0 c_w104_2_1 fz_w104_2 hl_w104_2 c_w104_3_0 c_w104_3_1 c_w104_3_2 c_w104_3_3 c_w104_3_4 c_w104_3_5 fz_w104_3 hl_w104_3 c_w104_4_0 c_w104_4_1 c_w104_4_2 c_w104_4_3 c_w104_4_4 c_w104_4_5 fz_w104_4 hl_w104_4
  go_wp2_with fail
  -- own blocks: w.heap.size:2, w.heap.size + 1:2, w.heap.size + 1 + 1 + 1:6, w.heap.size + 1 + 1 + 1 + 1:6
  (refine pin_wp (N := _) (Nat.le_refl _) (fun w106 hb_w106 hz_w106 => ?_); (try simp at hz_w106); (with_reducible apply cel2 (b := w.heap.size) hb_w106); (focus ((try simp) <;> omega)); (focus omega); (focus (go_simp; try exact rfl)); (focus (go_simp; try exact rfl)); (focus (intro o; go_simp)); intro c_w106_0_0 c_w106_0_1 fz_w106_0 hl_w106_0; (with_reducible apply cel2 (b := w.heap.size + 1) hb_w106); (focus ((try simp) <;> omega)); (focus omega); (focus (go_simp; try exact rfl)); (focus (go_simp; try exact rfl)); (focus (intro o; go_simp)); intro c_w106_1_0 c_w106_1_1 fz_w106_1 hl_w106_1; (with_reducible apply cel6 (b := w.heap.size + 1 + 1 + 1) hb_w106); (focus ((try simp) <;> omega)); (focus omega); (focus (go_simp; try exact rfl)); (focus (go_simp; try exact rfl)); (focus (go_simp; try exact rfl)); (focus (go_simp; try exact rfl)); (focus (go_simp; try exact rfl)); (focus (go_simp; try exact rfl)); (focus (intro o; go_simp)); intro c_w106_2_0 c_w106_2_1 c_w106_2_2 c_w106_2_3 c_w106_2_4 c_w106_2_5 fz_w106_2 hl_w106_2; (with_reducible apply cel6 (b := w.heap.size + 1 + 1 + 1 + 1) hb_w106); (focus ((try simp) <;> omega)); (focus omega); (focus (go_simp; try exact rfl)); (focus (go_simp; try exact rfl)); (focus (go_simp; try exact rfl)); (focus (go_simp; try exact rfl)); (focus (go_simp; try exact rfl)); (focus (go_simp; try exact rfl)); (focus (intro o; go_simp)); intro c_w106_3_0 c_w106_3_1 c_w106_3_2 c_w106_3_3 c_w106_3_4 c_w106_3_5 fz_w106_3 hl_w106_3); refine wp_q (fun Q_ HQ_ => ?_); refine wp_region_floatQ w106.heap.size 4 [4, 5] (Nat.le_refl _) (fun _ => True) trivial Cl.tt (by kernel_rfl) (by kernel_rfl) ?_
  have HB106 := Lib.hid (show Below w.heap.size w w106 by have hB := HB105.out; ((with_reducible (repeat (first | exact bR _ _ | refine bS ?_ ?_ _ | refine bA ?_ ?_ _ | refine bD ?_ | refine bT ?_ (by assumption) ?_ | refine bO (by assumption) ?_ ?_))) <;> (first | omega | (simp; done) | (simp <;> omega))))
  have hz106 : w.heap.size + 1 + 1 + 1 + 1 + 1 ≤ w106.heap.size := by omega
  clear hb_w106
  clear c_w105_0_0 c_w105_0_1 fz_w105_0 hl_w105_0 c_w105_1_0 c_w105_1_1 fz_w105_1 hl_w105_1 c_w105_2_0 c_w105_2_1 c_w105_2_2 c_w105_2_3 c_w105_2_4 c_w105_2_5 fz_w105_2 hl_w105_2 c_w105_3_0 c_w105_3_1 c_w105_3_2 c_w105_3_3 c_w105_3_4 c_w105_3_5 fz_w105_3 hl_w105_3
  refine wpQI_start [0] ?_; (iterate 1 (first | (refine wpQI_off (by with_reducible (refine List.getElem?_toArray.trans ?_; (repeat (first | exact List.getElem?_cons_zero | refine List.getElem?_cons_succ.trans ?_)))) (by kernel_rfl) (by exact rfl) (fun K hK => ?_); go_simp; refine hK _ ?_; clear hK K) | ((first | apply wpQI_step (by with_reducible (refine List.getElem?_toArray.trans ?_; (repeat (first | exact List.getElem?_cons_zero | refine List.getElem?_cons_succ.trans ?_)))) (by kernel_rfl) (by exact rfl) | apply wpQI_on (by with_reducible (refine List.getElem?_toArray.trans ?_; (repeat (first | exact List.getElem?_cons_zero | refine List.getElem?_cons_succ.trans ?_)))) (by kernel_rfl) (by exact rfl)); (focus (intro W' hS; have hcS := hS.cells.1; have hfS := hS.cells.2; go_simp; (first | done | exact rfl | exact ⟨rfl, Below.refl _ _⟩ | (go_simp; first | done | exact rfl | exact ⟨rfl, Below.refl _ _⟩)))); intro K hK; go_simp; (try go_bits); refine hK _ ?_; clear hK K))); refine wpQI_nil ?_
  refine wpQI_start [2] ?_; (iterate 1 (first | (refine wpQI_off (by with_reducible (refine List.getElem?_toArray.trans ?_; (repeat (first | exact List.getElem?_cons_zero | refine List.getElem?_cons_succ.trans ?_)))) (by kernel_rfl) (by exact rfl) (fun K hK => ?_); go_simp; refine hK _ ?_; clear hK K) | ((first | apply wpQI_step (by with_reducible (refine List.getElem?_toArray.trans ?_; (repeat (first | exact List.getElem?_cons_zero | refine List.getElem?_cons_succ.trans ?_)))) (by kernel_rfl) (by exact rfl) | apply wpQI_on (by with_reducible (refine List.getElem?_toArray.trans ?_; (repeat (first | exact List.getElem?_cons_zero | refine List.getElem?_cons_succ.trans ?_)))) (by kernel_rfl) (by exact rfl)); (focus (intro W' hS; have hcS := hS.cells.1; have hfS := hS.cells.2; go_simp; (first | done | exact rfl | exact ⟨rfl, Below.refl _ _⟩ | (go_simp; first | done | exact rfl | exact ⟨rfl, Below.refl _ _⟩)))); intro K hK; go_simp; (try go_bits); refine hK _ ?_; clear hK K))); refine wpQI_nil ?_
  apply wpQ_call (i := 1) (by with_reducible (refine List.getElem?_toArray.trans ?_; (repeat (first | exact List.getElem?_cons_zero | refine List.getElem?_cons_succ.trans ?_)))) (by kernel_rfl) (by exact rfl); intro W hF hS; have hcS := hS.1.cells.1; have hfS := hS.1.cells.2; go_simp; (go_at_call 39; refine (K6.out _).mono ?_; rintro e w107 ⟨hb_w107, v107, rfl, hv107⟩; refine XPost.mk _ (fun W => RAt W v107 (v1) (v2) (1)) hb_w107 (hv107) (RAt.cl _ _ _ _) ?_); clear hb_w107 hcS hfS hS hF
  intro K hK; go_simp; (try go_bits); refine hK _ ?_; clear hK K
  obtain ⟨s107x, A107x, n107x, c107x, s107y, A107y, n107y, c107y, s107d, A107d, n107d, c107d, rfl⟩ := RAt.val hv107
  clear hv107
  apply wpQ_call (i := 3) (by with_reducible (refine List.getElem?_toArray.trans ?_; (repeat (first | exact List.getElem?_cons_zero | refine List.getElem?_cons_succ.trans ?_)))) (by kernel_rfl) (by exact rfl); intro W hF hS; have hcS := hS.1.cells.1; have hfS := hS.1.cells.2; go_simp; (go_at_call 39; refine (K7.out _).mono ?_; rintro e w108 ⟨hb_w108, v108, rfl, hv108⟩; refine XPost.mk _ (fun W => RAt W v108 (w1) (w2) (1)) hb_w108 (hv108) (RAt.cl _ _ _ _) ?_); clear hb_w108 hcS hfS hS hF
  intro K hK; go_simp; (try go_bits); refine hK _ ?_; clear hK K
  obtain ⟨s108x, A108x, n108x, c108x, s108y, A108y, n108y, c108y, s108d, A108d, n108d, c108d, rfl⟩ := RAt.val hv108
  clear hv108
  refine wpQ_done (by kernel_rfl) ?_
  intro w109 hF_w109 hSG
  have hz_w109 := hSG.1.1
  have hb_w109 := hSG.1.2
  clear hSG
  (with_reducible apply cel2 (b := w.heap.size) hb_w109); (focus ((try simp) <;> omega)); (focus omega); (focus (go_simp; try exact rfl)); (focus (go_simp; try exact rfl)); (focus (intro o; go_simp)); intro c_w109_0_0 c_w109_0_1 fz_w109_0 hl_w109_0; (with_reducible apply cel2 (b := w.heap.size + 1) hb_w109); (focus ((try simp) <;> omega)); (focus omega); (focus (go_simp; try exact rfl)); (focus (go_simp; try exact rfl)); (focus (intro o; go_simp)); intro c_w109_1_0 c_w109_1_1 fz_w109_1 hl_w109_1; (with_reducible apply cel6 (b := w.heap.size + 1 + 1 + 1) hb_w109); (focus ((try simp) <;> omega)); (focus omega); (focus (go_simp; try exact rfl)); (focus (go_simp; try exact rfl)); (focus (go_simp; try exact rfl)); (focus (go_simp; try exact rfl)); (focus (go_simp; try exact rfl)); (focus (go_simp; try exact rfl)); (focus (intro o; go_simp)); intro c_w109_2_0 c_w109_2_1 c_w109_2_2 c_w109_2_3 c_w109_2_4 c_w109_2_5 fz_w109_2 hl_w109_2; (with_reducible apply cel6 (b := w.heap.size + 1 + 1 + 1 + 1) hb_w109); (focus ((try simp) <;> omega)); (focus omega); (focus (go_simp; try exact rfl)); (focus (go_simp; try exact rfl)); (focus (go_simp; try exact rfl)); (focus (go_simp; try exact rfl)); (focus (go_simp; try exact rfl)); (focus (go_simp; try exact rfl)); (focus (intro o; go_simp)); intro c_w109_3_0 c_w109_3_1 c_w109_3_2 c_w109_3_3 c_w109_3_4 c_w109_3_5 fz_w109_3 hl_w109_3
  (try simp only [List.filterMap_cons, List.filterMap_nil, List.getElem?_cons_succ, List.getElem?_cons_zero])
  have H107 := Lib.hid (show RAt w109 (.agg #[.bool s107x, .slice A107x n107x c107x, .bool s107y, .slice A107y n107y c107y, .bool s107d, .slice A107d n107d c107d]) (v1) (v2) (1) from hF_w109.1)
  have H108 := Lib.hid (show RAt w109 (.agg #[.bool s108x, .slice A108x n108x c108x, .bool s108y, .slice A108y n108y c108y, .bool s108d, .slice A108d n108d c108d]) (w1) (w2) (1) from hF_w109.2)
  have HB109 := Lib.hid (HB106.out.trans (hb_w109.mono (by have := HB106.out.size; omega)))
  have hz109 : w.heap.size + 1 + 1 + 1 + 1 + 1 ≤ w109.heap.size := by omega
  clear hF_w109 hb_w109
  clear c_w106_0_0 c_w106_0_1 fz_w106_0 hl_w106_0 c_w106_1_0 c_w106_1_1 fz_w106_1 hl_w106_1 c_w106_2_0 c_w106_2_1 c_w106_2_2 c_w106_2_3 c_w106_2_4 c_w106_2_5 fz_w106_2 hl_w106_2 c_w106_3_0 c_w106_3_1 c_w106_3_2 c_w106_3_3 c_w106_3_4 c_w106_3_5 fz_w106_3 hl_w106_3
  go_wp2_with fail
  refine HQ_.out _ _ _ ?_
  clear HQ_ Q_
  go_wp2_with fail
  -- own blocks: w.heap.size + 1 + 1 + 1:6, w.heap.size + 1 + 1 + 1 + 1:6
  refine bodyPost_ret (v := .tuple #[.agg #[.bool s107x, .slice A107x n107x c107x, .bool s107y, .slice A107y n107y c107y, .bool s107d, .slice A107d n107d c107d], .agg #[.bool s108x, .slice A108x n108x c108x, .bool s108y, .slice A108y n108y c108y, .bool s108d, .slice A108d n108d c108d]]) (by simp only [results, Try.results48]; go_simp) rfl ⟨?_, ?_⟩
  · have hB := HB109.out; ((with_reducible (repeat (first | exact bR _ _ | refine bS ?_ ?_ _ | refine bA ?_ ?_ _ | refine bD ?_ | refine bT ?_ (by assumption) ?_ | refine bO (by assumption) ?_ ?_))) <;> (first | omega | (simp; done) | (simp <;> omega)))
  · exact ⟨_, _, rfl, (by ((repeat (first | (with_reducible exact H107.out) | (with_reducible refine RAt.al ?_ _) | (with_reducible apply RAt.st1))) <;> (first | (with_reducible assumption) | (intro _ e; cases e; done) | (go_simp; first | done | exact rfl)))), (by ((repeat (first | (with_reducible exact H108.out) | (with_reducible refine RAt.al ?_ _) | (with_reducible apply RAt.st1))) <;> (first | (with_reducible assumption) | (intro _ e; cases e; done) | (go_simp; first | done | exact rfl))))⟩
set_option maxRecDepth 100000 in
set_option maxHeartbeats 20000000 in
theorem rpair_on (v1 v2 w1 w2 n1 n2 rest : Int) (w : World) (h : permB v1 v2 w1 w2 n1 n2 = true) (hr : sixB rest = true) (ha : apprB v1 v2 w1 w2 n1 n2 = true) :
    Calls Try.prog 48 #[.agg #[.int .i64 v1, .int .i64 v2], .agg #[.int .i64 w1, .int .i64 w2], .agg #[.int .i64 n1, .int .i64 n2], .int .i64 rest] w (POut2 ((lowR (pairX v1 n1 (n1 * n1 + n2 * n2) ((v1 - w1) * n1 + (v2 - w2) * n2) rest (-1)) (pairX v2 n2 (n1 * n1 + n2 * n2) ((v1 - w1) * n1 + (v2 - w2) * n2) rest (-1)) (32 * (n1 * n1 + n2 * n2))), (lowR (pairX w1 n1 (n1 * n1 + n2 * n2) ((v1 - w1) * n1 + (v2 - w2) * n2) rest 1) (pairX w2 n2 (n1 * n1 + n2 * n2) ((v1 - w1) * n1 + (v2 - w2) * n2) rest 1) (32 * (n1 * n1 + n2 * n2)))) w) := by
  obtain ⟨bv, bw, bn⟩ := perm_bd h
  obtain ⟨e1, e2, e3⟩ := perm_vals h
  obtain ⟨⟨p1, p2⟩, p3, p4⟩ := perm_prod h
  obtain ⟨_, _, q3⟩ := appr_bd ha
  have t1 := sp1 (x := v1) (n := n1) (sgn := -1) h hr (by omega) (by omega) (by omega)
  have t2 := sp1 (x := v2) (n := n2) (sgn := -1) h hr (by omega) (by omega) (by omega)
  have t3 := sp1 (x := w1) (n := n1) (sgn := 1) h hr (by omega) (by omega) (by omega)
  have t4 := sp1 (x := w2) (n := n2) (sgn := 1) h hr (by omega) (by omega) (by omega)
  have k1 := fun w => rspeed_any v1 v2 w
  have k2 := fun w => rspeed_any w1 w2 w
  have k3 := fun w => rdirection_any n1 n2 w
  have k4 := fun w => rpart_any rest w
  have hp := h
  unfold permB at hp
  simp only [Bool.and_eq_true] at hp
  rw [hp.1.1] at k1
  rw [hp.1.2] at k2
  rw [hp.2] at k3
  rw [hr] at k4
  have k5 := fun w => rapproaches_any v1 v2 w1 w2 n1 n2 w
  rw [ha] at k5
  have k6 := fun w => rsub_any v1 v2 w1 w2 w
  have k7 := fun w => rdot_any (v1 - w1) (v2 - w2) n1 n2 w
  have k8 := fun w => rdot_any n1 n2 n1 n2 w
  rw [e1] at k6
  rw [e2] at k7
  rw [e3] at k8
  generalize (v1 - w1) * n1 + (v2 - w2) * n2 = C at *
  generalize n1 * n1 + n2 * n2 = M at *
  simp only [sixB, decide_eq_true_eq] at hr
  have k9 := fun w => rscaled_any 32 M w (by omega) (by omega)
  have k14 := fun w => rscaled_any (16 + rest) C w (by omega) (by omega)
  have b1 := mulB (16 + rest) C 31 17592186044416 (by omega) (by omega)
  have b2 := mulB ((16 + rest) * C) n1 (31 * 17592186044416) 4194304 (by omega) (by omega)
  have b3 := mulB ((16 + rest) * C) n2 (31 * 17592186044416) 4194304 (by omega) (by omega)
  have b4 := mulB v1 (32 * M) 4194304 (32 * 17592186044416) (by omega) (by omega)
  have b5 := mulB v2 (32 * M) 4194304 (32 * 17592186044416) (by omega) (by omega)
  have b6 := mulB w1 (32 * M) 4194304 (32 * 17592186044416) (by omega) (by omega)
  have b7 := mulB w2 (32 * M) 4194304 (32 * 17592186044416) (by omega) (by omega)
  have k15 := fun w => of_any n1 w (by omega) (by omega)
  have k16 := fun x y w h1 h2 => times_any 10 x y ((16 + rest) * C) n1 w h1 h2 (by omega)
  have k17 := fun w => of_any n2 w (by omega) (by omega)
  have k18 := fun x y w h1 h2 => times_any 10 x y ((16 + rest) * C) n2 w h1 h2 (by omega)
  have k19 := fun w => of_any v1 w (by omega) (by omega)
  have k20 := fun x y w h1 h2 => times_any 10 x y v1 (32 * M) w h1 h2 (by omega)
  have k21 := fun w => of_any v2 w (by omega) (by omega)
  have k22 := fun x y w h1 h2 => times_any 10 x y v2 (32 * M) w h1 h2 (by omega)
  have k23 := fun w => of_any w1 w (by omega) (by omega)
  have k24 := fun x y w h1 h2 => times_any 10 x y w1 (32 * M) w h1 h2 (by omega)
  have k25 := fun w => of_any w2 w (by omega) (by omega)
  have k26 := fun x y w h1 h2 => times_any 10 x y w2 (32 * M) w h1 h2 (by omega)
  have k27 := fun x y w h1 h2 => minus_any 10 x y (v1 * (32 * M)) ((16 + rest) * C * n1) w h1 h2 (by omega)
  have k28 := fun x y w h1 h2 => minus_any 10 x y (v2 * (32 * M)) ((16 + rest) * C * n2) w h1 h2 (by omega)
  have k29 := fun x y w h1 h2 => plus_any 10 x y (w1 * (32 * M)) ((16 + rest) * C * n1) w h1 h2 (by omega)
  have k30 := fun x y w h1 h2 => plus_any 10 x y (w2 * (32 * M)) ((16 + rest) * C * n2) w h1 h2 (by omega)
  rw [show v1 * (32 * M) - (16 + rest) * C * n1 = pairX v1 n1 M C rest (-1) by unfold pairX; grind] at k27
  rw [show v2 * (32 * M) - (16 + rest) * C * n2 = pairX v2 n2 M C rest (-1) by unfold pairX; grind] at k28
  rw [show w1 * (32 * M) + (16 + rest) * C * n1 = pairX w1 n1 M C rest 1 by unfold pairX; grind] at k29
  rw [show w2 * (32 * M) + (16 + rest) * C * n2 = pairX w2 n2 M C rest 1 by unfold pairX; grind] at k30
  have l6 := len_wd (z := (16 + rest) * C) (by omega) (by omega)
  have l7 := len_wd (z := n1) (by omega) (by omega)
  have l8 := len_wd (z := n2) (by omega) (by omega)
  have l11 := len_wd (z := v1) (by omega) (by omega)
  have l12 := len_wd (z := v2) (by omega) (by omega)
  have l13 := len_wd (z := w1) (by omega) (by omega)
  have l14 := len_wd (z := w2) (by omega) (by omega)
  have l9 : (canN ((16 + rest) * C * n1).natAbs).length ≤ 10 := canN_bd (B := 18446744073709551616 * 18446744073709551616) (by omega) (by omega) (by decide)
  have l10 : (canN ((16 + rest) * C * n2).natAbs).length ≤ 10 := canN_bd (B := 18446744073709551616 * 18446744073709551616) (by omega) (by omega) (by decide)
  have l15 : (canN (v1 * (32 * M)).natAbs).length ≤ 10 := canN_bd (B := 18446744073709551616 * 18446744073709551616) (by omega) (by omega) (by decide)
  have l16 : (canN (v2 * (32 * M)).natAbs).length ≤ 10 := canN_bd (B := 18446744073709551616 * 18446744073709551616) (by omega) (by omega) (by decide)
  have l17 : (canN (w1 * (32 * M)).natAbs).length ≤ 10 := canN_bd (B := 18446744073709551616 * 18446744073709551616) (by omega) (by omega) (by decide)
  have l18 : (canN (w2 * (32 * M)).natAbs).length ≤ 10 := canN_bd (B := 18446744073709551616 * 18446744073709551616) (by omega) (by omega) (by decide)
  have l1 := t1.len
  have l2 := t2.len
  have l3 := t3.len
  have l4 := t4.len
  have l5 := len_wd (z := 32 * M) (by omega) (by omega)
  generalize pairX v1 n1 M C rest (-1) = X1 at *
  generalize pairX v2 n2 M C rest (-1) = X2 at *
  generalize pairX w1 n1 M C rest 1 = Y1 at *
  generalize pairX w2 n2 M C rest 1 = Y2 at *
  have k10 := fun v w hv => rlowest_any X1 X2 (32 * M) v w hv (by omega) (by omega) (by omega) (by omega)
  have k13 := fun v w hv => rlowest_any Y1 Y2 (32 * M) v w hv (by omega) (by omega) (by omega) (by omega)
  unfold POut2 lowR
  generalize X1.tdiv (lowG X1 X2 (32 * M)) = P1 at *
  generalize X2.tdiv (lowG X1 X2 (32 * M)) = P2 at *
  generalize (32 * M).tdiv (lowG X1 X2 (32 * M)) = P3 at *
  generalize Y1.tdiv (lowG Y1 Y2 (32 * M)) = Q1 at *
  generalize Y2.tdiv (lowG Y1 Y2 (32 * M)) = Q2 at *
  generalize (32 * M).tdiv (lowG Y1 Y2 (32 * M)) = Q3 at *
  generalize v1 * (32 * M) = A1 at *
  generalize v2 * (32 * M) = A2 at *
  generalize w1 * (32 * M) = B1 at *
  generalize w2 * (32 * M) = B2 at *
  generalize (16 + rest) * C * n1 = J1 at *
  generalize (16 + rest) * C * n2 = J2 at *
  generalize (16 + rest) * C = RC at *
  obtain ⟨bv1, bv2, bv3, bv4⟩ := bv
  obtain ⟨bw1, bw2, bw3, bw4⟩ := bw
  have K1 := Lib.hid k1
  have K2 := Lib.hid k2
  have K3 := Lib.hid k3
  have K4 := Lib.hid k4
  have K5 := Lib.hid k5
  have K6 := Lib.hid k6
  have K7 := Lib.hid k7
  have K8 := Lib.hid k8
  have K9 := Lib.hid k9
  have K10 := Lib.hid k10
  have K13 := Lib.hid k13
  have K14 := Lib.hid k14
  have K15 := Lib.hid k15
  have K16 := Lib.hid k16
  have K17 := Lib.hid k17
  have K18 := Lib.hid k18
  have K19 := Lib.hid k19
  have K20 := Lib.hid k20
  have K21 := Lib.hid k21
  have K22 := Lib.hid k22
  have K23 := Lib.hid k23
  have K24 := Lib.hid k24
  have K25 := Lib.hid k25
  have K26 := Lib.hid k26
  have K27 := Lib.hid k27
  have K28 := Lib.hid k28
  have K29 := Lib.hid k29
  have K30 := Lib.hid k30
  have L5 := Lib.hid l5
  have L6 := Lib.hid l6
  have L7 := Lib.hid l7
  have L8 := Lib.hid l8
  have L9 := Lib.hid l9
  have L10 := Lib.hid l10
  have L11 := Lib.hid l11
  have L12 := Lib.hid l12
  have L13 := Lib.hid l13
  have L14 := Lib.hid l14
  have L15 := Lib.hid l15
  have L16 := Lib.hid l16
  have L17 := Lib.hid l17
  have L18 := Lib.hid l18
  clear k1 k2 k3 k4 k5 k6 k7 k8 k9 k10 k13 k14 k15 k16 k17 k18 k19 k20 k21 k22 k23 k24 k25 k26 k27 k28 k29 k30 h ha e1 e2 e3 t1 t2 t3 t4 l1 l2 l3 l4 l5 l6 l7 l8 l9 l10 l11 l12 l13 l14 l15 l16 l17 l18 hp b1 b2 b3 b4 b5 b6 b7
  simp only
  -- names on
  go_enter Try.func48, Try.ntmps48; (try simp only [List.append_eq, List.cons_append, List.nil_append])
  go_wp2_with fail
  -- own blocks: w.heap.size:2, w.heap.size + 1:2, w.heap.size + 1 + 1:2, w.heap.size + 1 + 1 + 1:6, w.heap.size + 1 + 1 + 1 + 1:6
  (go_at_call 34; refine (K1.out _).mono ?_; rintro e w101 ⟨rfl, hb_w101⟩; have hz_w101 := hb_w101.size; (try simp at hz_w101); (with_reducible apply cel2 (b := w.heap.size) hb_w101); (focus ((try simp) <;> omega)); (focus omega); (focus (go_simp; try exact rfl)); (focus (go_simp; try exact rfl)); (focus (intro o; go_simp)); intro c_w101_0_0 c_w101_0_1 fz_w101_0 hl_w101_0; (with_reducible apply cel2 (b := w.heap.size + 1) hb_w101); (focus ((try simp) <;> omega)); (focus omega); (focus (go_simp; try exact rfl)); (focus (go_simp; try exact rfl)); (focus (intro o; go_simp)); intro c_w101_1_0 c_w101_1_1 fz_w101_1 hl_w101_1; (with_reducible apply cel2 (b := w.heap.size + 1 + 1) hb_w101); (focus ((try simp) <;> omega)); (focus omega); (focus (go_simp; try exact rfl)); (focus (go_simp; try exact rfl)); (focus (intro o; go_simp)); intro c_w101_2_0 c_w101_2_1 fz_w101_2 hl_w101_2; (with_reducible apply cel6 (b := w.heap.size + 1 + 1 + 1) hb_w101); (focus ((try simp) <;> omega)); (focus omega); (focus (go_simp; try exact rfl)); (focus (go_simp; try exact rfl)); (focus (go_simp; try exact rfl)); (focus (go_simp; try exact rfl)); (focus (go_simp; try exact rfl)); (focus (go_simp; try exact rfl)); (focus (intro o; go_simp)); intro c_w101_3_0 c_w101_3_1 c_w101_3_2 c_w101_3_3 c_w101_3_4 c_w101_3_5 fz_w101_3 hl_w101_3; (with_reducible apply cel6 (b := w.heap.size + 1 + 1 + 1 + 1) hb_w101); (focus ((try simp) <;> omega)); (focus omega); (focus (go_simp; try exact rfl)); (focus (go_simp; try exact rfl)); (focus (go_simp; try exact rfl)); (focus (go_simp; try exact rfl)); (focus (go_simp; try exact rfl)); (focus (go_simp; try exact rfl)); (focus (intro o; go_simp)); intro c_w101_4_0 c_w101_4_1 c_w101_4_2 c_w101_4_3 c_w101_4_4 c_w101_4_5 fz_w101_4 hl_w101_4)
  have HB101 := Lib.hid (show Below w.heap.size w w101 by ((with_reducible (repeat (first | exact bR _ _ | refine bS ?_ ?_ _ | refine bA ?_ ?_ _ | refine bD ?_ | refine bT ?_ (by assumption) ?_ | refine bO (by assumption) ?_ ?_))) <;> (first | omega | (simp; done) | (simp <;> omega))))
  have hz101 : w.heap.size + 1 + 1 + 1 + 1 + 1 ≤ w101.heap.size := by omega
  clear hb_w101
  skip
  go_wp2_with fail
  -- own blocks: w.heap.size:2, w.heap.size + 1:2, w.heap.size + 1 + 1:2, w.heap.size + 1 + 1 + 1:6, w.heap.size + 1 + 1 + 1 + 1:6
  (go_at_call 34; refine (K2.out _).mono ?_; rintro e w102 ⟨rfl, hb_w102⟩; have hz_w102 := hb_w102.size; (try simp at hz_w102); (with_reducible apply cel2 (b := w.heap.size) hb_w102); (focus ((try simp) <;> omega)); (focus omega); (focus (go_simp; try exact rfl)); (focus (go_simp; try exact rfl)); (focus (intro o; go_simp)); intro c_w102_0_0 c_w102_0_1 fz_w102_0 hl_w102_0; (with_reducible apply cel2 (b := w.heap.size + 1) hb_w102); (focus ((try simp) <;> omega)); (focus omega); (focus (go_simp; try exact rfl)); (focus (go_simp; try exact rfl)); (focus (intro o; go_simp)); intro c_w102_1_0 c_w102_1_1 fz_w102_1 hl_w102_1; (with_reducible apply cel2 (b := w.heap.size + 1 + 1) hb_w102); (focus ((try simp) <;> omega)); (focus omega); (focus (go_simp; try exact rfl)); (focus (go_simp; try exact rfl)); (focus (intro o; go_simp)); intro c_w102_2_0 c_w102_2_1 fz_w102_2 hl_w102_2; (with_reducible apply cel6 (b := w.heap.size + 1 + 1 + 1) hb_w102); (focus ((try simp) <;> omega)); (focus omega); (focus (go_simp; try exact rfl)); (focus (go_simp; try exact rfl)); (focus (go_simp; try exact rfl)); (focus (go_simp; try exact rfl)); (focus (go_simp; try exact rfl)); (focus (go_simp; try exact rfl)); (focus (intro o; go_simp)); intro c_w102_3_0 c_w102_3_1 c_w102_3_2 c_w102_3_3 c_w102_3_4 c_w102_3_5 fz_w102_3 hl_w102_3; (with_reducible apply cel6 (b := w.heap.size + 1 + 1 + 1 + 1) hb_w102); (focus ((try simp) <;> omega)); (focus omega); (focus (go_simp; try exact rfl)); (focus (go_simp; try exact rfl)); (focus (go_simp; try exact rfl)); (focus (go_simp; try exact rfl)); (focus (go_simp; try exact rfl)); (focus (go_simp; try exact rfl)); (focus (intro o; go_simp)); intro c_w102_4_0 c_w102_4_1 c_w102_4_2 c_w102_4_3 c_w102_4_4 c_w102_4_5 fz_w102_4 hl_w102_4)
  have HB102 := Lib.hid (show Below w.heap.size w w102 by have hB := HB101.out; ((with_reducible (repeat (first | exact bR _ _ | refine bS ?_ ?_ _ | refine bA ?_ ?_ _ | refine bD ?_ | refine bT ?_ (by assumption) ?_ | refine bO (by assumption) ?_ ?_))) <;> (first | omega | (simp; done) | (simp <;> omega))))
  have hz102 : w.heap.size + 1 + 1 + 1 + 1 + 1 ≤ w102.heap.size := by omega
  clear hb_w102
  clear c_w101_0_0 c_w101_0_1 fz_w101_0 hl_w101_0 c_w101_1_0 c_w101_1_1 fz_w101_1 hl_w101_1 c_w101_2_0 c_w101_2_1 fz_w101_2 hl_w101_2 c_w101_3_0 c_w101_3_1 c_w101_3_2 c_w101_3_3 c_w101_3_4 c_w101_3_5 fz_w101_3 hl_w101_3 c_w101_4_0 c_w101_4_1 c_w101_4_2 c_w101_4_3 c_w101_4_4 c_w101_4_5 fz_w101_4 hl_w101_4
  go_wp2_with fail
  -- own blocks: w.heap.size:2, w.heap.size + 1:2, w.heap.size + 1 + 1:2, w.heap.size + 1 + 1 + 1:6, w.heap.size + 1 + 1 + 1 + 1:6
  (go_at_call 71; refine (K3.out _).mono ?_; rintro e w103 ⟨rfl, hb_w103⟩; have hz_w103 := hb_w103.size; (try simp at hz_w103); (with_reducible apply cel2 (b := w.heap.size) hb_w103); (focus ((try simp) <;> omega)); (focus omega); (focus (go_simp; try exact rfl)); (focus (go_simp; try exact rfl)); (focus (intro o; go_simp)); intro c_w103_0_0 c_w103_0_1 fz_w103_0 hl_w103_0; (with_reducible apply cel2 (b := w.heap.size + 1) hb_w103); (focus ((try simp) <;> omega)); (focus omega); (focus (go_simp; try exact rfl)); (focus (go_simp; try exact rfl)); (focus (intro o; go_simp)); intro c_w103_1_0 c_w103_1_1 fz_w103_1 hl_w103_1; (with_reducible apply cel2 (b := w.heap.size + 1 + 1) hb_w103); (focus ((try simp) <;> omega)); (focus omega); (focus (go_simp; try exact rfl)); (focus (go_simp; try exact rfl)); (focus (intro o; go_simp)); intro c_w103_2_0 c_w103_2_1 fz_w103_2 hl_w103_2; (with_reducible apply cel6 (b := w.heap.size + 1 + 1 + 1) hb_w103); (focus ((try simp) <;> omega)); (focus omega); (focus (go_simp; try exact rfl)); (focus (go_simp; try exact rfl)); (focus (go_simp; try exact rfl)); (focus (go_simp; try exact rfl)); (focus (go_simp; try exact rfl)); (focus (go_simp; try exact rfl)); (focus (intro o; go_simp)); intro c_w103_3_0 c_w103_3_1 c_w103_3_2 c_w103_3_3 c_w103_3_4 c_w103_3_5 fz_w103_3 hl_w103_3; (with_reducible apply cel6 (b := w.heap.size + 1 + 1 + 1 + 1) hb_w103); (focus ((try simp) <;> omega)); (focus omega); (focus (go_simp; try exact rfl)); (focus (go_simp; try exact rfl)); (focus (go_simp; try exact rfl)); (focus (go_simp; try exact rfl)); (focus (go_simp; try exact rfl)); (focus (go_simp; try exact rfl)); (focus (intro o; go_simp)); intro c_w103_4_0 c_w103_4_1 c_w103_4_2 c_w103_4_3 c_w103_4_4 c_w103_4_5 fz_w103_4 hl_w103_4)
  have HB103 := Lib.hid (show Below w.heap.size w w103 by have hB := HB102.out; ((with_reducible (repeat (first | exact bR _ _ | refine bS ?_ ?_ _ | refine bA ?_ ?_ _ | refine bD ?_ | refine bT ?_ (by assumption) ?_ | refine bO (by assumption) ?_ ?_))) <;> (first | omega | (simp; done) | (simp <;> omega))))
  have hz103 : w.heap.size + 1 + 1 + 1 + 1 + 1 ≤ w103.heap.size := by omega
  clear hb_w103
  clear c_w102_0_0 c_w102_0_1 fz_w102_0 hl_w102_0 c_w102_1_0 c_w102_1_1 fz_w102_1 hl_w102_1 c_w102_2_0 c_w102_2_1 fz_w102_2 hl_w102_2 c_w102_3_0 c_w102_3_1 c_w102_3_2 c_w102_3_3 c_w102_3_4 c_w102_3_5 fz_w102_3 hl_w102_3 c_w102_4_0 c_w102_4_1 c_w102_4_2 c_w102_4_3 c_w102_4_4 c_w102_4_5 fz_w102_4 hl_w102_4
  go_wp2_with fail
  -- own blocks: w.heap.size:2, w.heap.size + 1:2, w.heap.size + 1 + 1:2, w.heap.size + 1 + 1 + 1:6, w.heap.size + 1 + 1 + 1 + 1:6
  (go_at_call 82; refine (K4.out _).mono ?_; rintro e w104 ⟨rfl, hb_w104⟩; have hz_w104 := hb_w104.size; (try simp at hz_w104); (with_reducible apply cel2 (b := w.heap.size) hb_w104); (focus ((try simp) <;> omega)); (focus omega); (focus (go_simp; try exact rfl)); (focus (go_simp; try exact rfl)); (focus (intro o; go_simp)); intro c_w104_0_0 c_w104_0_1 fz_w104_0 hl_w104_0; (with_reducible apply cel2 (b := w.heap.size + 1) hb_w104); (focus ((try simp) <;> omega)); (focus omega); (focus (go_simp; try exact rfl)); (focus (go_simp; try exact rfl)); (focus (intro o; go_simp)); intro c_w104_1_0 c_w104_1_1 fz_w104_1 hl_w104_1; (with_reducible apply cel2 (b := w.heap.size + 1 + 1) hb_w104); (focus ((try simp) <;> omega)); (focus omega); (focus (go_simp; try exact rfl)); (focus (go_simp; try exact rfl)); (focus (intro o; go_simp)); intro c_w104_2_0 c_w104_2_1 fz_w104_2 hl_w104_2; (with_reducible apply cel6 (b := w.heap.size + 1 + 1 + 1) hb_w104); (focus ((try simp) <;> omega)); (focus omega); (focus (go_simp; try exact rfl)); (focus (go_simp; try exact rfl)); (focus (go_simp; try exact rfl)); (focus (go_simp; try exact rfl)); (focus (go_simp; try exact rfl)); (focus (go_simp; try exact rfl)); (focus (intro o; go_simp)); intro c_w104_3_0 c_w104_3_1 c_w104_3_2 c_w104_3_3 c_w104_3_4 c_w104_3_5 fz_w104_3 hl_w104_3; (with_reducible apply cel6 (b := w.heap.size + 1 + 1 + 1 + 1) hb_w104); (focus ((try simp) <;> omega)); (focus omega); (focus (go_simp; try exact rfl)); (focus (go_simp; try exact rfl)); (focus (go_simp; try exact rfl)); (focus (go_simp; try exact rfl)); (focus (go_simp; try exact rfl)); (focus (go_simp; try exact rfl)); (focus (intro o; go_simp)); intro c_w104_4_0 c_w104_4_1 c_w104_4_2 c_w104_4_3 c_w104_4_4 c_w104_4_5 fz_w104_4 hl_w104_4)
  have HB104 := Lib.hid (show Below w.heap.size w w104 by have hB := HB103.out; ((with_reducible (repeat (first | exact bR _ _ | refine bS ?_ ?_ _ | refine bA ?_ ?_ _ | refine bD ?_ | refine bT ?_ (by assumption) ?_ | refine bO (by assumption) ?_ ?_))) <;> (first | omega | (simp; done) | (simp <;> omega))))
  have hz104 : w.heap.size + 1 + 1 + 1 + 1 + 1 ≤ w104.heap.size := by omega
  clear hb_w104
  clear c_w103_0_0 c_w103_0_1 fz_w103_0 hl_w103_0 c_w103_1_0 c_w103_1_1 fz_w103_1 hl_w103_1 c_w103_2_0 c_w103_2_1 fz_w103_2 hl_w103_2 c_w103_3_0 c_w103_3_1 c_w103_3_2 c_w103_3_3 c_w103_3_4 c_w103_3_5 fz_w103_3 hl_w103_3 c_w103_4_0 c_w103_4_1 c_w103_4_2 c_w103_4_3 c_w103_4_4 c_w103_4_5 fz_w103_4 hl_w103_4
  go_wp2_with fail
  -- own blocks: w.heap.size:2, w.heap.size + 1:2, w.heap.size + 1 + 1:2, w.heap.size + 1 + 1 + 1:6, w.heap.size + 1 + 1 + 1 + 1:6
  (go_at_call 27; refine (K5.out _).mono ?_; rintro e w105 ⟨rfl, hb_w105⟩; have hz_w105 := hb_w105.size; (try simp at hz_w105); (with_reducible apply cel2 (b := w.heap.size) hb_w105); (focus ((try simp) <;> omega)); (focus omega); (focus (go_simp; try exact rfl)); (focus (go_simp; try exact rfl)); (focus (intro o; go_simp)); intro c_w105_0_0 c_w105_0_1 fz_w105_0 hl_w105_0; (with_reducible apply cel2 (b := w.heap.size + 1) hb_w105); (focus ((try simp) <;> omega)); (focus omega); (focus (go_simp; try exact rfl)); (focus (go_simp; try exact rfl)); (focus (intro o; go_simp)); intro c_w105_1_0 c_w105_1_1 fz_w105_1 hl_w105_1; (with_reducible apply cel2 (b := w.heap.size + 1 + 1) hb_w105); (focus ((try simp) <;> omega)); (focus omega); (focus (go_simp; try exact rfl)); (focus (go_simp; try exact rfl)); (focus (intro o; go_simp)); intro c_w105_2_0 c_w105_2_1 fz_w105_2 hl_w105_2; (with_reducible apply cel6 (b := w.heap.size + 1 + 1 + 1) hb_w105); (focus ((try simp) <;> omega)); (focus omega); (focus (go_simp; try exact rfl)); (focus (go_simp; try exact rfl)); (focus (go_simp; try exact rfl)); (focus (go_simp; try exact rfl)); (focus (go_simp; try exact rfl)); (focus (go_simp; try exact rfl)); (focus (intro o; go_simp)); intro c_w105_3_0 c_w105_3_1 c_w105_3_2 c_w105_3_3 c_w105_3_4 c_w105_3_5 fz_w105_3 hl_w105_3; (with_reducible apply cel6 (b := w.heap.size + 1 + 1 + 1 + 1) hb_w105); (focus ((try simp) <;> omega)); (focus omega); (focus (go_simp; try exact rfl)); (focus (go_simp; try exact rfl)); (focus (go_simp; try exact rfl)); (focus (go_simp; try exact rfl)); (focus (go_simp; try exact rfl)); (focus (go_simp; try exact rfl)); (focus (intro o; go_simp)); intro c_w105_4_0 c_w105_4_1 c_w105_4_2 c_w105_4_3 c_w105_4_4 c_w105_4_5 fz_w105_4 hl_w105_4)
  have HB105 := Lib.hid (show Below w.heap.size w w105 by have hB := HB104.out; ((with_reducible (repeat (first | exact bR _ _ | refine bS ?_ ?_ _ | refine bA ?_ ?_ _ | refine bD ?_ | refine bT ?_ (by assumption) ?_ | refine bO (by assumption) ?_ ?_))) <;> (first | omega | (simp; done) | (simp <;> omega))))
  have hz105 : w.heap.size + 1 + 1 + 1 + 1 + 1 ≤ w105.heap.size := by omega
  clear hb_w105
  clear c_w104_0_0 c_w104_0_1 fz_w104_0 hl_w104_0 c_w104_1_0 c_w104_1_1 fz_w104_1 hl_w104_1 c_w104_2_0 c_w104_2_1 fz_w104_2 hl_w104_2 c_w104_3_0 c_w104_3_1 c_w104_3_2 c_w104_3_3 c_w104_3_4 c_w104_3_5 fz_w104_3 hl_w104_3 c_w104_4_0 c_w104_4_1 c_w104_4_2 c_w104_4_3 c_w104_4_4 c_w104_4_5 fz_w104_4 hl_w104_4
  go_wp2_with fail
  -- own blocks: w.heap.size:2, w.heap.size + 1:2, w.heap.size + 1 + 1:2, w.heap.size + 1 + 1 + 1:6, w.heap.size + 1 + 1 + 1 + 1:6
  (refine pin_wp (N := _) (Nat.le_refl _) (fun w106 hb_w106 hz_w106 => ?_); (try simp at hz_w106); (with_reducible apply cel2 (b := w.heap.size) hb_w106); (focus ((try simp) <;> omega)); (focus omega); (focus (go_simp; try exact rfl)); (focus (go_simp; try exact rfl)); (focus (intro o; go_simp)); intro c_w106_0_0 c_w106_0_1 fz_w106_0 hl_w106_0; (with_reducible apply cel2 (b := w.heap.size + 1) hb_w106); (focus ((try simp) <;> omega)); (focus omega); (focus (go_simp; try exact rfl)); (focus (go_simp; try exact rfl)); (focus (intro o; go_simp)); intro c_w106_1_0 c_w106_1_1 fz_w106_1 hl_w106_1; (with_reducible apply cel2 (b := w.heap.size + 1 + 1) hb_w106); (focus ((try simp) <;> omega)); (focus omega); (focus (go_simp; try exact rfl)); (focus (go_simp; try exact rfl)); (focus (intro o; go_simp)); intro c_w106_2_0 c_w106_2_1 fz_w106_2 hl_w106_2; (with_reducible apply cel6 (b := w.heap.size + 1 + 1 + 1) hb_w106); (focus ((try simp) <;> omega)); (focus omega); (focus (go_simp; try exact rfl)); (focus (go_simp; try exact rfl)); (focus (go_simp; try exact rfl)); (focus (go_simp; try exact rfl)); (focus (go_simp; try exact rfl)); (focus (go_simp; try exact rfl)); (focus (intro o; go_simp)); intro c_w106_3_0 c_w106_3_1 c_w106_3_2 c_w106_3_3 c_w106_3_4 c_w106_3_5 fz_w106_3 hl_w106_3; (with_reducible apply cel6 (b := w.heap.size + 1 + 1 + 1 + 1) hb_w106); (focus ((try simp) <;> omega)); (focus omega); (focus (go_simp; try exact rfl)); (focus (go_simp; try exact rfl)); (focus (go_simp; try exact rfl)); (focus (go_simp; try exact rfl)); (focus (go_simp; try exact rfl)); (focus (go_simp; try exact rfl)); (focus (intro o; go_simp)); intro c_w106_4_0 c_w106_4_1 c_w106_4_2 c_w106_4_3 c_w106_4_4 c_w106_4_5 fz_w106_4 hl_w106_4); refine wp_q (fun Q_ HQ_ => ?_); refine wp_region_floatQ w106.heap.size 10 [] (Nat.le_refl _) (fun _ => True) trivial Cl.tt (by kernel_rfl) (by kernel_rfl) ?_
  have HB106 := Lib.hid (show Below w.heap.size w w106 by have hB := HB105.out; ((with_reducible (repeat (first | exact bR _ _ | refine bS ?_ ?_ _ | refine bA ?_ ?_ _ | refine bD ?_ | refine bT ?_ (by assumption) ?_ | refine bO (by assumption) ?_ ?_))) <;> (first | omega | (simp; done) | (simp <;> omega))))
  have hz106 : w.heap.size + 1 + 1 + 1 + 1 + 1 ≤ w106.heap.size := by omega
  clear hb_w106
  clear c_w105_0_0 c_w105_0_1 fz_w105_0 hl_w105_0 c_w105_1_0 c_w105_1_1 fz_w105_1 hl_w105_1 c_w105_2_0 c_w105_2_1 fz_w105_2 hl_w105_2 c_w105_3_0 c_w105_3_1 c_w105_3_2 c_w105_3_3 c_w105_3_4 c_w105_3_5 fz_w105_3 hl_w105_3 c_w105_4_0 c_w105_4_1 c_w105_4_2 c_w105_4_3 c_w105_4_4 c_w105_4_5 fz_w105_4 hl_w105_4
  refine wpQI_start [0, 1] ?_; (iterate 2 (first | (refine wpQI_off (by with_reducible (refine List.getElem?_toArray.trans ?_; (repeat (first | exact List.getElem?_cons_zero | refine List.getElem?_cons_succ.trans ?_)))) (by kernel_rfl) (by exact rfl) (fun K hK => ?_); go_simp; refine hK _ ?_; clear hK K) | ((first | apply wpQI_step (by with_reducible (refine List.getElem?_toArray.trans ?_; (repeat (first | exact List.getElem?_cons_zero | refine List.getElem?_cons_succ.trans ?_)))) (by kernel_rfl) (by exact rfl) | apply wpQI_on (by with_reducible (refine List.getElem?_toArray.trans ?_; (repeat (first | exact List.getElem?_cons_zero | refine List.getElem?_cons_succ.trans ?_)))) (by kernel_rfl) (by exact rfl)); (focus (intro W' hS; have hcS := hS.cells.1; have hfS := hS.cells.2; go_simp; (first | done | exact rfl | exact ⟨rfl, Below.refl _ _⟩ | (go_simp; first | done | exact rfl | exact ⟨rfl, Below.refl _ _⟩)))); intro K hK; go_simp; (try go_bits); refine hK _ ?_; clear hK K))); refine wpQI_nil ?_
  refine wpQI_start [3] ?_; (iterate 1 (first | (refine wpQI_off (by with_reducible (refine List.getElem?_toArray.trans ?_; (repeat (first | exact List.getElem?_cons_zero | refine List.getElem?_cons_succ.trans ?_)))) (by kernel_rfl) (by exact rfl) (fun K hK => ?_); go_simp; refine hK _ ?_; clear hK K) | ((first | apply wpQI_step (by with_reducible (refine List.getElem?_toArray.trans ?_; (repeat (first | exact List.getElem?_cons_zero | refine List.getElem?_cons_succ.trans ?_)))) (by kernel_rfl) (by exact rfl) | apply wpQI_on (by with_reducible (refine List.getElem?_toArray.trans ?_; (repeat (first | exact List.getElem?_cons_zero | refine List.getElem?_cons_succ.trans ?_)))) (by kernel_rfl) (by exact rfl)); (focus (intro W' hS; have hcS := hS.cells.1; have hfS := hS.cells.2; go_simp; (first | done | exact rfl | exact ⟨rfl, Below.refl _ _⟩ | (go_simp; first | done | exact rfl | exact ⟨rfl, Below.refl _ _⟩)))); intro K hK; go_simp; (try go_bits); refine hK _ ?_; clear hK K))); refine wpQI_nil ?_
  refine wpQI_start [5, 6] ?_; (iterate 2 (first | (refine wpQI_off (by with_reducible (refine List.getElem?_toArray.trans ?_; (repeat (first | exact List.getElem?_cons_zero | refine List.getElem?_cons_succ.trans ?_)))) (by kernel_rfl) (by exact rfl) (fun K hK => ?_); go_simp; refine hK _ ?_; clear hK K) | ((first | apply wpQI_step (by with_reducible (refine List.getElem?_toArray.trans ?_; (repeat (first | exact List.getElem?_cons_zero | refine List.getElem?_cons_succ.trans ?_)))) (by kernel_rfl) (by exact rfl) | apply wpQI_on (by with_reducible (refine List.getElem?_toArray.trans ?_; (repeat (first | exact List.getElem?_cons_zero | refine List.getElem?_cons_succ.trans ?_)))) (by kernel_rfl) (by exact rfl)); (focus (intro W' hS; have hcS := hS.cells.1; have hfS := hS.cells.2; go_simp; (first | done | exact rfl | exact ⟨rfl, Below.refl _ _⟩ | (go_simp; first | done | exact rfl | exact ⟨rfl, Below.refl _ _⟩)))); intro K hK; go_simp; (try go_bits); refine hK _ ?_; clear hK K))); refine wpQI_nil ?_
  refine wpQI_start [2] ?_; (iterate 1 (first | (refine wpQI_off (by with_reducible (refine List.getElem?_toArray.trans ?_; (repeat (first | exact List.getElem?_cons_zero | refine List.getElem?_cons_succ.trans ?_)))) (by kernel_rfl) (by exact rfl) (fun K hK => ?_); go_simp; refine hK _ ?_; clear hK K) | ((first | apply wpQI_step (by with_reducible (refine List.getElem?_toArray.trans ?_; (repeat (first | exact List.getElem?_cons_zero | refine List.getElem?_cons_succ.trans ?_)))) (by kernel_rfl) (by exact rfl) | apply wpQI_on (by with_reducible (refine List.getElem?_toArray.trans ?_; (repeat (first | exact List.getElem?_cons_zero | refine List.getElem?_cons_succ.trans ?_)))) (by kernel_rfl) (by exact rfl)); (focus (intro W' hS; have hcS := hS.cells.1; have hfS := hS.cells.2; go_simp; (first | done | exact rfl | exact ⟨rfl, Below.refl _ _⟩ | (go_at_call 72; exact (K6.out _).mono (fun _ _ h => ⟨h.1, h.2⟩)) | (go_simp; first | done | exact rfl | exact ⟨rfl, Below.refl _ _⟩)))); intro K hK; go_simp; (try go_bits); refine hK _ ?_; clear hK K))); refine wpQI_nil ?_
  refine wpQI_start [4] ?_; (iterate 1 (first | (refine wpQI_off (by with_reducible (refine List.getElem?_toArray.trans ?_; (repeat (first | exact List.getElem?_cons_zero | refine List.getElem?_cons_succ.trans ?_)))) (by kernel_rfl) (by exact rfl) (fun K hK => ?_); go_simp; refine hK _ ?_; clear hK K) | ((first | apply wpQI_step (by with_reducible (refine List.getElem?_toArray.trans ?_; (repeat (first | exact List.getElem?_cons_zero | refine List.getElem?_cons_succ.trans ?_)))) (by kernel_rfl) (by exact rfl) | apply wpQI_on (by with_reducible (refine List.getElem?_toArray.trans ?_; (repeat (first | exact List.getElem?_cons_zero | refine List.getElem?_cons_succ.trans ?_)))) (by kernel_rfl) (by exact rfl)); (focus (intro W' hS; have hcS := hS.cells.1; have hfS := hS.cells.2; go_simp; (first | done | exact rfl | exact ⟨rfl, Below.refl _ _⟩ | (go_at_call 54; exact (K7.out _).mono (fun _ _ h => ⟨h.1, h.2⟩)) | (go_simp; first | done | exact rfl | exact ⟨rfl, Below.refl _ _⟩)))); intro K hK; go_simp; (try go_bits); refine hK _ ?_; clear hK K))); refine wpQI_nil ?_
  refine wpQI_start [7] ?_; (iterate 1 (first | (refine wpQI_off (by with_reducible (refine List.getElem?_toArray.trans ?_; (repeat (first | exact List.getElem?_cons_zero | refine List.getElem?_cons_succ.trans ?_)))) (by kernel_rfl) (by exact rfl) (fun K hK => ?_); go_simp; refine hK _ ?_; clear hK K) | ((first | apply wpQI_step (by with_reducible (refine List.getElem?_toArray.trans ?_; (repeat (first | exact List.getElem?_cons_zero | refine List.getElem?_cons_succ.trans ?_)))) (by kernel_rfl) (by exact rfl) | apply wpQI_on (by with_reducible (refine List.getElem?_toArray.trans ?_; (repeat (first | exact List.getElem?_cons_zero | refine List.getElem?_cons_succ.trans ?_)))) (by kernel_rfl) (by exact rfl)); (focus (intro W' hS; have hcS := hS.cells.1; have hfS := hS.cells.2; go_simp; (first | done | exact rfl | exact ⟨rfl, Below.refl _ _⟩ | (go_at_call 54; exact (K8.out _).mono (fun _ _ h => ⟨h.1, h.2⟩)) | (go_simp; first | done | exact rfl | exact ⟨rfl, Below.refl _ _⟩)))); intro K hK; go_simp; (try go_bits); refine hK _ ?_; clear hK K))); refine wpQI_nil ?_
  refine wpQI_start [8, 9] ?_; (iterate 2 (first | (refine wpQI_off (by with_reducible (refine List.getElem?_toArray.trans ?_; (repeat (first | exact List.getElem?_cons_zero | refine List.getElem?_cons_succ.trans ?_)))) (by kernel_rfl) (by exact rfl) (fun K hK => ?_); go_simp; refine hK _ ?_; clear hK K) | ((first | apply wpQI_step (by with_reducible (refine List.getElem?_toArray.trans ?_; (repeat (first | exact List.getElem?_cons_zero | refine List.getElem?_cons_succ.trans ?_)))) (by kernel_rfl) (by exact rfl) | apply wpQI_on (by with_reducible (refine List.getElem?_toArray.trans ?_; (repeat (first | exact List.getElem?_cons_zero | refine List.getElem?_cons_succ.trans ?_)))) (by kernel_rfl) (by exact rfl)); (focus (intro W' hS; have hcS := hS.cells.1; have hfS := hS.cells.2; go_simp; (first | done | exact rfl | exact ⟨rfl, Below.refl _ _⟩ | (go_simp; first | done | exact rfl | exact ⟨rfl, Below.refl _ _⟩)))); intro K hK; go_simp; (try go_bits); refine hK _ ?_; clear hK K))); refine wpQI_nil ?_
  refine wpQ_done (by kernel_rfl) ?_
  intro w107 hF_w107 hSG
  have hz_w107 := hSG.1.1
  have hb_w107 := hSG.1.2
  clear hSG
  (with_reducible apply cel2 (b := w.heap.size) hb_w107); (focus ((try simp) <;> omega)); (focus omega); (focus (go_simp; try exact rfl)); (focus (go_simp; try exact rfl)); (focus (intro o; go_simp)); intro c_w107_0_0 c_w107_0_1 fz_w107_0 hl_w107_0; (with_reducible apply cel2 (b := w.heap.size + 1) hb_w107); (focus ((try simp) <;> omega)); (focus omega); (focus (go_simp; try exact rfl)); (focus (go_simp; try exact rfl)); (focus (intro o; go_simp)); intro c_w107_1_0 c_w107_1_1 fz_w107_1 hl_w107_1; (with_reducible apply cel2 (b := w.heap.size + 1 + 1) hb_w107); (focus ((try simp) <;> omega)); (focus omega); (focus (go_simp; try exact rfl)); (focus (go_simp; try exact rfl)); (focus (intro o; go_simp)); intro c_w107_2_0 c_w107_2_1 fz_w107_2 hl_w107_2; (with_reducible apply cel6 (b := w.heap.size + 1 + 1 + 1) hb_w107); (focus ((try simp) <;> omega)); (focus omega); (focus (go_simp; try exact rfl)); (focus (go_simp; try exact rfl)); (focus (go_simp; try exact rfl)); (focus (go_simp; try exact rfl)); (focus (go_simp; try exact rfl)); (focus (go_simp; try exact rfl)); (focus (intro o; go_simp)); intro c_w107_3_0 c_w107_3_1 c_w107_3_2 c_w107_3_3 c_w107_3_4 c_w107_3_5 fz_w107_3 hl_w107_3; (with_reducible apply cel6 (b := w.heap.size + 1 + 1 + 1 + 1) hb_w107); (focus ((try simp) <;> omega)); (focus omega); (focus (go_simp; try exact rfl)); (focus (go_simp; try exact rfl)); (focus (go_simp; try exact rfl)); (focus (go_simp; try exact rfl)); (focus (go_simp; try exact rfl)); (focus (go_simp; try exact rfl)); (focus (intro o; go_simp)); intro c_w107_4_0 c_w107_4_1 c_w107_4_2 c_w107_4_3 c_w107_4_4 c_w107_4_5 fz_w107_4 hl_w107_4
  (try simp only [List.filterMap_nil])
  have HB107 := Lib.hid (HB106.out.trans (hb_w107.mono (by have := HB106.out.size; omega)))
  have hz107 : w.heap.size + 1 + 1 + 1 + 1 + 1 ≤ w107.heap.size := by omega
  clear hF_w107 hb_w107
  clear c_w106_0_0 c_w106_0_1 fz_w106_0 hl_w106_0 c_w106_1_0 c_w106_1_1 fz_w106_1 hl_w106_1 c_w106_2_0 c_w106_2_1 fz_w106_2 hl_w106_2 c_w106_3_0 c_w106_3_1 c_w106_3_2 c_w106_3_3 c_w106_3_4 c_w106_3_5 fz_w106_3 hl_w106_3 c_w106_4_0 c_w106_4_1 c_w106_4_2 c_w106_4_3 c_w106_4_4 c_w106_4_5 fz_w106_4 hl_w106_4
  go_wp2_with fail
  refine HQ_.out _ _ _ ?_
  clear HQ_ Q_
  go_wp2_with fail
  -- own blocks: w.heap.size:2, w.heap.size + 1:2, w.heap.size + 1 + 1:2, w.heap.size + 1 + 1 + 1:6, w.heap.size + 1 + 1 + 1 + 1:6
  (go_at_call 83; refine (K9.out _).mono ?_; rintro e w108 ⟨hb_w108, v108, rfl, hv108⟩; have hz_w108 := hb_w108.size; (try simp at hz_w108); (with_reducible apply cel2 (b := w.heap.size) hb_w108); (focus ((try simp) <;> omega)); (focus omega); (focus (go_simp; try exact rfl)); (focus (go_simp; try exact rfl)); (focus (intro o; go_simp)); intro c_w108_0_0 c_w108_0_1 fz_w108_0 hl_w108_0; (with_reducible apply cel2 (b := w.heap.size + 1) hb_w108); (focus ((try simp) <;> omega)); (focus omega); (focus (go_simp; try exact rfl)); (focus (go_simp; try exact rfl)); (focus (intro o; go_simp)); intro c_w108_1_0 c_w108_1_1 fz_w108_1 hl_w108_1; (with_reducible apply cel2 (b := w.heap.size + 1 + 1) hb_w108); (focus ((try simp) <;> omega)); (focus omega); (focus (go_simp; try exact rfl)); (focus (go_simp; try exact rfl)); (focus (intro o; go_simp)); intro c_w108_2_0 c_w108_2_1 fz_w108_2 hl_w108_2; (with_reducible apply cel6 (b := w.heap.size + 1 + 1 + 1) hb_w108); (focus ((try simp) <;> omega)); (focus omega); (focus (go_simp; try exact rfl)); (focus (go_simp; try exact rfl)); (focus (go_simp; try exact rfl)); (focus (go_simp; try exact rfl)); (focus (go_simp; try exact rfl)); (focus (go_simp; try exact rfl)); (focus (intro o; go_simp)); intro c_w108_3_0 c_w108_3_1 c_w108_3_2 c_w108_3_3 c_w108_3_4 c_w108_3_5 fz_w108_3 hl_w108_3; (with_reducible apply cel6 (b := w.heap.size + 1 + 1 + 1 + 1) hb_w108); (focus ((try simp) <;> omega)); (focus omega); (focus (go_simp; try exact rfl)); (focus (go_simp; try exact rfl)); (focus (go_simp; try exact rfl)); (focus (go_simp; try exact rfl)); (focus (go_simp; try exact rfl)); (focus (go_simp; try exact rfl)); (focus (intro o; go_simp)); intro c_w108_4_0 c_w108_4_1 c_w108_4_2 c_w108_4_3 c_w108_4_4 c_w108_4_5 fz_w108_4 hl_w108_4)
  obtain ⟨s108, A108, n108, c108, rfl⟩ := IsC.val hv108
  have HB108 := Lib.hid (show Below w.heap.size w w108 by have hB := HB107.out; ((with_reducible (repeat (first | exact bR _ _ | refine bS ?_ ?_ _ | refine bA ?_ ?_ _ | refine bD ?_ | refine bT ?_ (by assumption) ?_ | refine bO (by assumption) ?_ ?_))) <;> (first | omega | (simp; done) | (simp <;> omega))))
  have hz108 : w.heap.size + 1 + 1 + 1 + 1 + 1 ≤ w108.heap.size := by omega
  clear hb_w108
  clear c_w107_0_0 c_w107_0_1 fz_w107_0 hl_w107_0 c_w107_1_0 c_w107_1_1 fz_w107_1 hl_w107_1 c_w107_2_0 c_w107_2_1 fz_w107_2 hl_w107_2 c_w107_3_0 c_w107_3_1 c_w107_3_2 c_w107_3_3 c_w107_3_4 c_w107_3_5 fz_w107_3 hl_w107_3 c_w107_4_0 c_w107_4_1 c_w107_4_2 c_w107_4_3 c_w107_4_4 c_w107_4_5 fz_w107_4 hl_w107_4
  have H108 := Lib.hid (show IsC w108 (.agg #[.bool s108, .slice A108 n108 c108]) ((32 * M)) from hv108)
  clear hv108
  go_wp2_with fail
  -- own blocks: w.heap.size:2, w.heap.size + 1:2, w.heap.size + 1 + 1:2, w.heap.size + 1 + 1 + 1:6, w.heap.size + 1 + 1 + 1 + 1:6, w108.heap.size:2
  (refine pin_wp (N := _) (Nat.le_refl _) (fun w109 hb_w109 hz_w109 => ?_); (try simp at hz_w109); (with_reducible apply cel2 (b := w.heap.size) hb_w109); (focus ((try simp) <;> omega)); (focus omega); (focus (go_simp; try exact rfl)); (focus (go_simp; try exact rfl)); (focus (intro o; go_simp)); intro c_w109_0_0 c_w109_0_1 fz_w109_0 hl_w109_0; (with_reducible apply cel2 (b := w.heap.size + 1) hb_w109); (focus ((try simp) <;> omega)); (focus omega); (focus (go_simp; try exact rfl)); (focus (go_simp; try exact rfl)); (focus (intro o; go_simp)); intro c_w109_1_0 c_w109_1_1 fz_w109_1 hl_w109_1; (with_reducible apply cel2 (b := w.heap.size + 1 + 1) hb_w109); (focus ((try simp) <;> omega)); (focus omega); (focus (go_simp; try exact rfl)); (focus (go_simp; try exact rfl)); (focus (intro o; go_simp)); intro c_w109_2_0 c_w109_2_1 fz_w109_2 hl_w109_2; (with_reducible apply cel6 (b := w.heap.size + 1 + 1 + 1) hb_w109); (focus ((try simp) <;> omega)); (focus omega); (focus (go_simp; try exact rfl)); (focus (go_simp; try exact rfl)); (focus (go_simp; try exact rfl)); (focus (go_simp; try exact rfl)); (focus (go_simp; try exact rfl)); (focus (go_simp; try exact rfl)); (focus (intro o; go_simp)); intro c_w109_3_0 c_w109_3_1 c_w109_3_2 c_w109_3_3 c_w109_3_4 c_w109_3_5 fz_w109_3 hl_w109_3; (with_reducible apply cel6 (b := w.heap.size + 1 + 1 + 1 + 1) hb_w109); (focus ((try simp) <;> omega)); (focus omega); (focus (go_simp; try exact rfl)); (focus (go_simp; try exact rfl)); (focus (go_simp; try exact rfl)); (focus (go_simp; try exact rfl)); (focus (go_simp; try exact rfl)); (focus (go_simp; try exact rfl)); (focus (intro o; go_simp)); intro c_w109_4_0 c_w109_4_1 c_w109_4_2 c_w109_4_3 c_w109_4_4 c_w109_4_5 fz_w109_4 hl_w109_4; (with_reducible apply cel2 (b := w108.heap.size) hb_w109); (focus ((try simp) <;> omega)); (focus omega); (focus (go_simp; try exact rfl)); (focus (go_simp; try exact rfl)); (focus (intro o; go_simp)); intro c_w109_5_0 c_w109_5_1 fz_w109_5 hl_w109_5); refine wp_q (fun Q_ HQ_ => ?_); refine wp_region_floatQ w109.heap.size 18 [18, 19] (Nat.le_refl _) (fun _ => True) trivial Cl.tt (by kernel_rfl) (by kernel_rfl) ?_
  replace H108 := Lib.hid (IsC.below (v := .agg #[.bool s108, .slice A108 n108 c108]) (z := (32 * M)) (by ((repeat (first | (with_reducible exact H108.out) | (with_reducible refine IsC.al ?_ _) | (with_reducible apply IsC.st1))) <;> (first | (with_reducible assumption) | (intro _ e; cases e; done) | (go_simp; first | done | exact rfl)))) hb_w109)
  have HB109 := Lib.hid (show Below w.heap.size w w109 by have hB := HB108.out; ((with_reducible (repeat (first | exact bR _ _ | refine bS ?_ ?_ _ | refine bA ?_ ?_ _ | refine bD ?_ | refine bT ?_ (by assumption) ?_ | refine bO (by assumption) ?_ ?_))) <;> (first | omega | (simp; done) | (simp <;> omega))))
  have hz109 : w.heap.size + 1 + 1 + 1 + 1 + 1 ≤ w109.heap.size := by omega
  clear hb_w109
  clear c_w108_0_0 c_w108_0_1 fz_w108_0 hl_w108_0 c_w108_1_0 c_w108_1_1 fz_w108_1 hl_w108_1 c_w108_2_0 c_w108_2_1 fz_w108_2 hl_w108_2 c_w108_3_0 c_w108_3_1 c_w108_3_2 c_w108_3_3 c_w108_3_4 c_w108_3_5 fz_w108_3 hl_w108_3 c_w108_4_0 c_w108_4_1 c_w108_4_2 c_w108_4_3 c_w108_4_4 c_w108_4_5 fz_w108_4 hl_w108_4
  refine wpQI_start [0, 1, 2] ?_; (iterate 3 (first | (refine wpQI_off (by with_reducible (refine List.getElem?_toArray.trans ?_; (repeat (first | exact List.getElem?_cons_zero | refine List.getElem?_cons_succ.trans ?_)))) (by kernel_rfl) (by exact rfl) (fun K hK => ?_); go_simp; refine hK _ ?_; clear hK K) | ((first | apply wpQI_step (by with_reducible (refine List.getElem?_toArray.trans ?_; (repeat (first | exact List.getElem?_cons_zero | refine List.getElem?_cons_succ.trans ?_)))) (by kernel_rfl) (by exact rfl) | apply wpQI_on (by with_reducible (refine List.getElem?_toArray.trans ?_; (repeat (first | exact List.getElem?_cons_zero | refine List.getElem?_cons_succ.trans ?_)))) (by kernel_rfl) (by exact rfl)); (focus (intro W' hS; have hcS := hS.cells.1; have hfS := hS.cells.2; go_simp; (first | done | exact rfl | exact ⟨rfl, Below.refl _ _⟩ | (go_simp; first | done | exact rfl | exact ⟨rfl, Below.refl _ _⟩)))); intro K hK; go_simp; (try go_bits); refine hK _ ?_; clear hK K))); refine wpQI_nil ?_
  refine wpQI_start [4, 5] ?_; (iterate 2 (first | (refine wpQI_off (by with_reducible (refine List.getElem?_toArray.trans ?_; (repeat (first | exact List.getElem?_cons_zero | refine List.getElem?_cons_succ.trans ?_)))) (by kernel_rfl) (by exact rfl) (fun K hK => ?_); go_simp; refine hK _ ?_; clear hK K) | ((first | apply wpQI_step (by with_reducible (refine List.getElem?_toArray.trans ?_; (repeat (first | exact List.getElem?_cons_zero | refine List.getElem?_cons_succ.trans ?_)))) (by kernel_rfl) (by exact rfl) | apply wpQI_on (by with_reducible (refine List.getElem?_toArray.trans ?_; (repeat (first | exact List.getElem?_cons_zero | refine List.getElem?_cons_succ.trans ?_)))) (by kernel_rfl) (by exact rfl)); (focus (intro W' hS; have hcS := hS.cells.1; have hfS := hS.cells.2; go_simp; (first | done | exact rfl | exact ⟨rfl, Below.refl _ _⟩ | (go_simp; first | done | exact rfl | exact ⟨rfl, Below.refl _ _⟩)))); intro K hK; go_simp; (try go_bits); refine hK _ ?_; clear hK K))); refine wpQI_nil ?_
  refine wpQI_start [8, 9, 10] ?_; (iterate 3 (first | (refine wpQI_off (by with_reducible (refine List.getElem?_toArray.trans ?_; (repeat (first | exact List.getElem?_cons_zero | refine List.getElem?_cons_succ.trans ?_)))) (by kernel_rfl) (by exact rfl) (fun K hK => ?_); go_simp; refine hK _ ?_; clear hK K) | ((first | apply wpQI_step (by with_reducible (refine List.getElem?_toArray.trans ?_; (repeat (first | exact List.getElem?_cons_zero | refine List.getElem?_cons_succ.trans ?_)))) (by kernel_rfl) (by exact rfl) | apply wpQI_on (by with_reducible (refine List.getElem?_toArray.trans ?_; (repeat (first | exact List.getElem?_cons_zero | refine List.getElem?_cons_succ.trans ?_)))) (by kernel_rfl) (by exact rfl)); (focus (intro W' hS; have hcS := hS.cells.1; have hfS := hS.cells.2; go_simp; (first | done | exact rfl | exact ⟨rfl, Below.refl _ _⟩ | (go_simp; first | done | exact rfl | exact ⟨rfl, Below.refl _ _⟩)))); intro K hK; go_simp; (try go_bits); refine hK _ ?_; clear hK K))); refine wpQI_nil ?_
  refine wpQI_start [12, 13] ?_; (iterate 2 (first | (refine wpQI_off (by with_reducible (refine List.getElem?_toArray.trans ?_; (repeat (first | exact List.getElem?_cons_zero | refine List.getElem?_cons_succ.trans ?_)))) (by kernel_rfl) (by exact rfl) (fun K hK => ?_); go_simp; refine hK _ ?_; clear hK K) | ((first | apply wpQI_step (by with_reducible (refine List.getElem?_toArray.trans ?_; (repeat (first | exact List.getElem?_cons_zero | refine List.getElem?_cons_succ.trans ?_)))) (by kernel_rfl) (by exact rfl) | apply wpQI_on (by with_reducible (refine List.getElem?_toArray.trans ?_; (repeat (first | exact List.getElem?_cons_zero | refine List.getElem?_cons_succ.trans ?_)))) (by kernel_rfl) (by exact rfl)); (focus (intro W' hS; have hcS := hS.cells.1; have hfS := hS.cells.2; go_simp; (first | done | exact rfl | exact ⟨rfl, Below.refl _ _⟩ | (go_simp; first | done | exact rfl | exact ⟨rfl, Below.refl _ _⟩)))); intro K hK; go_simp; (try go_bits); refine hK _ ?_; clear hK K))); refine wpQI_nil ?_
  apply wpQ_call (i := 3) (by with_reducible (refine List.getElem?_toArray.trans ?_; (repeat (first | exact List.getElem?_cons_zero | refine List.getElem?_cons_succ.trans ?_)))) (by kernel_rfl) (by exact rfl); intro W hF hS; have hcS := hS.1.cells.1; have hfS := hS.1.cells.2; go_simp; (go_at_call 83; refine (K14.out _).mono ?_; rintro e w110 ⟨hb_w110, v110, rfl, hv110⟩; refine XPost.mk _ (fun W => IsC W v110 (RC)) hb_w110 (hv110) (IsC.cl _ _) ?_); clear hb_w110 hcS hfS hS hF
  intro K hK; go_simp; (try go_bits); refine hK _ ?_; clear hK K
  obtain ⟨s110, A110, n110, c110, rfl⟩ := IsC.val hv110
  clear hv110
  apply wpQ_call (i := 6) (by with_reducible (refine List.getElem?_toArray.trans ?_; (repeat (first | exact List.getElem?_cons_zero | refine List.getElem?_cons_succ.trans ?_)))) (by kernel_rfl) (by exact rfl); intro W hF hS; have hcS := hS.1.cells.1; have hfS := hS.1.cells.2; go_simp; (go_at_call 44; refine (K15.out _).mono ?_; rintro e w111 ⟨hb_w111, v111, rfl, hv111⟩; refine XPost.mk _ (fun W => IsC W v111 (n1)) hb_w111 (hv111) (IsC.cl _ _) ?_); clear hb_w111 hcS hfS hS hF
  intro K hK; go_simp; (try go_bits); refine hK _ ?_; clear hK K
  obtain ⟨s111, A111, n111, c111, rfl⟩ := IsC.val hv111
  clear hv111
  apply wpQ_call (i := 7) (by with_reducible (refine List.getElem?_toArray.trans ?_; (repeat (first | exact List.getElem?_cons_zero | refine List.getElem?_cons_succ.trans ?_)))) (by kernel_rfl) (by exact rfl); intro W hF hS; have hcS := hS.1.cells.1; have hfS := hS.1.cells.2; go_simp; (go_at_call 43; refine (K16.out _ _ _ (hF.1.zl L6.out) (hF.2.zl L7.out)).mono ?_; rintro e w112 ⟨hb_w112, v112, rfl, hv112⟩; refine XPost.mk _ (fun W => IsC W v112 (J1)) hb_w112 (hv112) (IsC.cl _ _) ?_); clear hb_w112 hcS hfS hS hF
  intro K hK; go_simp; (try go_bits); refine hK _ ?_; clear hK K
  obtain ⟨s112, A112, n112, c112, rfl⟩ := IsC.val hv112
  clear hv112
  apply wpQ_call (i := 11) (by with_reducible (refine List.getElem?_toArray.trans ?_; (repeat (first | exact List.getElem?_cons_zero | refine List.getElem?_cons_succ.trans ?_)))) (by kernel_rfl) (by exact rfl); intro W hF hS; have hcS := hS.1.cells.1; have hfS := hS.1.cells.2; go_simp; (go_at_call 83; refine (K14.out _).mono ?_; rintro e w113 ⟨hb_w113, v113, rfl, hv113⟩; refine XPost.mk _ (fun W => IsC W v113 (RC)) hb_w113 (hv113) (IsC.cl _ _) ?_); clear hb_w113 hcS hfS hS hF
  intro K hK; go_simp; (try go_bits); refine hK _ ?_; clear hK K
  obtain ⟨s113, A113, n113, c113, rfl⟩ := IsC.val hv113
  clear hv113
  apply wpQ_call (i := 14) (by with_reducible (refine List.getElem?_toArray.trans ?_; (repeat (first | exact List.getElem?_cons_zero | refine List.getElem?_cons_succ.trans ?_)))) (by kernel_rfl) (by exact rfl); intro W hF hS; have hcS := hS.1.cells.1; have hfS := hS.1.cells.2; go_simp; (go_at_call 44; refine (K17.out _).mono ?_; rintro e w114 ⟨hb_w114, v114, rfl, hv114⟩; refine XPost.mk _ (fun W => IsC W v114 (n2)) hb_w114 (hv114) (IsC.cl _ _) ?_); clear hb_w114 hcS hfS hS hF
  intro K hK; go_simp; (try go_bits); refine hK _ ?_; clear hK K
  obtain ⟨s114, A114, n114, c114, rfl⟩ := IsC.val hv114
  clear hv114
  apply wpQ_call (i := 15) (by with_reducible (refine List.getElem?_toArray.trans ?_; (repeat (first | exact List.getElem?_cons_zero | refine List.getElem?_cons_succ.trans ?_)))) (by kernel_rfl) (by exact rfl); intro W hF hS; have hcS := hS.1.cells.1; have hfS := hS.1.cells.2; go_simp; (go_at_call 43; refine (K18.out _ _ _ (hF.1.2.zl L6.out) (hF.2.zl L8.out)).mono ?_; rintro e w115 ⟨hb_w115, v115, rfl, hv115⟩; refine XPost.mk _ (fun W => IsC W v115 (J2)) hb_w115 (hv115) (IsC.cl _ _) ?_); clear hb_w115 hcS hfS hS hF
  intro K hK; go_simp; (try go_bits); refine hK _ ?_; clear hK K
  obtain ⟨s115, A115, n115, c115, rfl⟩ := IsC.val hv115
  clear hv115
  apply wpQ_fresh (i := 16) LInv.std (by with_reducible (refine List.getElem?_toArray.trans ?_; (repeat (first | exact List.getElem?_cons_zero | refine List.getElem?_cons_succ.trans ?_)))) (by kernel_rfl) (fun g => Value.pointer (some ⟨g, 0, none⟩)) (by exact rfl); (focus (intro W; go_simp; first | done | exact rfl | exact ⟨rfl, rfl⟩))
  intro g_r7_16 hN_r7_16 hG_r7_16 K hK
  go_simp; refine hK _ ?_; clear hK K
  apply wpQ_fresh (i := 17) LInv.std (by with_reducible (refine List.getElem?_toArray.trans ?_; (repeat (first | exact List.getElem?_cons_zero | refine List.getElem?_cons_succ.trans ?_)))) (by kernel_rfl) (fun g => Value.pointer (some ⟨g, 0, none⟩)) (by exact rfl); (focus (intro W; go_simp; first | done | exact rfl | exact ⟨rfl, rfl⟩))
  intro g_r7_17 hN_r7_17 hG_r7_17 K hK
  go_simp; refine hK _ ?_; clear hK K
  have hne_r7_16_r7_17 : g_r7_16 ≠ g_r7_17 := hG_r7_17 _ (List.mem_cons_self ..)
  have hne_r7_17_r7_16 : g_r7_17 ≠ g_r7_16 := Ne.symm hne_r7_16_r7_17
  have hne : w.heap.size ≠ g_r7_16 := by have := hN_r7_16; omega
  have hne := Ne.symm hne
  have hne : w.heap.size ≠ g_r7_17 := by have := hN_r7_17; omega
  have hne := Ne.symm hne
  have hne : w.heap.size + 1 ≠ g_r7_16 := by have := hN_r7_16; omega
  have hne := Ne.symm hne
  have hne : w.heap.size + 1 ≠ g_r7_17 := by have := hN_r7_17; omega
  have hne := Ne.symm hne
  have hne : w.heap.size + 1 + 1 ≠ g_r7_16 := by have := hN_r7_16; omega
  have hne := Ne.symm hne
  have hne : w.heap.size + 1 + 1 ≠ g_r7_17 := by have := hN_r7_17; omega
  have hne := Ne.symm hne
  have hne : w.heap.size + 1 + 1 + 1 ≠ g_r7_16 := by have := hN_r7_16; omega
  have hne := Ne.symm hne
  have hne : w.heap.size + 1 + 1 + 1 ≠ g_r7_17 := by have := hN_r7_17; omega
  have hne := Ne.symm hne
  have hne : w.heap.size + 1 + 1 + 1 + 1 ≠ g_r7_16 := by have := hN_r7_16; omega
  have hne := Ne.symm hne
  have hne : w.heap.size + 1 + 1 + 1 + 1 ≠ g_r7_17 := by have := hN_r7_17; omega
  have hne := Ne.symm hne
  have hne : w108.heap.size ≠ g_r7_16 := by have := hN_r7_16; omega
  have hne := Ne.symm hne
  have hne : w108.heap.size ≠ g_r7_17 := by have := hN_r7_17; omega
  have hne := Ne.symm hne
  refine wpQ_done (by kernel_rfl) ?_
  intro w116 hF_w116 hSG
  have hz_w116 := hSG.1.1
  have hb_w116 := hSG.1.2
  have hB_r7_17 := (hSG.2 _ (List.mem_cons_self ..)).2; simp only at hB_r7_17; have hl_r7_17 := (hSG.size (List.mem_cons_self ..)); simp only at hl_r7_17
  have c_w116_r7_17_0 := cell_of_row w116 g_r7_17 0 _ _ _ hB_r7_17; simp only [List.getElem?_toArray, List.getElem?_cons_zero] at c_w116_r7_17_0
  have c_w116_r7_17_1 := cell_of_row w116 g_r7_17 1 _ _ _ hB_r7_17; simp only [List.getElem?_toArray, List.getElem?_cons_zero, List.getElem?_cons_succ] at c_w116_r7_17_1
  have fz_w116_r7_17 : (∀ o, w116.frozen? ⟨g_r7_17, o, none⟩ = false) := (fun o => frozen_of_row w116 g_r7_17 o _ _ hB_r7_17); have HH_r7_17 := Lib.hid hB_r7_17; clear hB_r7_17
  have hB_r7_16 := (hSG.2 _ (List.mem_cons_of_mem _ (List.mem_cons_self ..))).2; simp only at hB_r7_16; have hl_r7_16 := (hSG.size (List.mem_cons_of_mem _ (List.mem_cons_self ..))); simp only at hl_r7_16
  have c_w116_r7_16_0 := cell_of_row w116 g_r7_16 0 _ _ _ hB_r7_16; simp only [List.getElem?_toArray, List.getElem?_cons_zero] at c_w116_r7_16_0
  have c_w116_r7_16_1 := cell_of_row w116 g_r7_16 1 _ _ _ hB_r7_16; simp only [List.getElem?_toArray, List.getElem?_cons_zero, List.getElem?_cons_succ] at c_w116_r7_16_1
  have fz_w116_r7_16 : (∀ o, w116.frozen? ⟨g_r7_16, o, none⟩ = false) := (fun o => frozen_of_row w116 g_r7_16 o _ _ hB_r7_16); have HH_r7_16 := Lib.hid hB_r7_16; clear hB_r7_16
  clear hSG
  (with_reducible apply cel2 (b := w.heap.size) hb_w116); (focus ((try simp) <;> omega)); (focus omega); (focus (go_simp; try exact rfl)); (focus (go_simp; try exact rfl)); (focus (intro o; go_simp)); intro c_w116_0_0 c_w116_0_1 fz_w116_0 hl_w116_0; (with_reducible apply cel2 (b := w.heap.size + 1) hb_w116); (focus ((try simp) <;> omega)); (focus omega); (focus (go_simp; try exact rfl)); (focus (go_simp; try exact rfl)); (focus (intro o; go_simp)); intro c_w116_1_0 c_w116_1_1 fz_w116_1 hl_w116_1; (with_reducible apply cel2 (b := w.heap.size + 1 + 1) hb_w116); (focus ((try simp) <;> omega)); (focus omega); (focus (go_simp; try exact rfl)); (focus (go_simp; try exact rfl)); (focus (intro o; go_simp)); intro c_w116_2_0 c_w116_2_1 fz_w116_2 hl_w116_2; (with_reducible apply cel6 (b := w.heap.size + 1 + 1 + 1) hb_w116); (focus ((try simp) <;> omega)); (focus omega); (focus (go_simp; try exact rfl)); (focus (go_simp; try exact rfl)); (focus (go_simp; try exact rfl)); (focus (go_simp; try exact rfl)); (focus (go_simp; try exact rfl)); (focus (go_simp; try exact rfl)); (focus (intro o; go_simp)); intro c_w116_3_0 c_w116_3_1 c_w116_3_2 c_w116_3_3 c_w116_3_4 c_w116_3_5 fz_w116_3 hl_w116_3; (with_reducible apply cel6 (b := w.heap.size + 1 + 1 + 1 + 1) hb_w116); (focus ((try simp) <;> omega)); (focus omega); (focus (go_simp; try exact rfl)); (focus (go_simp; try exact rfl)); (focus (go_simp; try exact rfl)); (focus (go_simp; try exact rfl)); (focus (go_simp; try exact rfl)); (focus (go_simp; try exact rfl)); (focus (intro o; go_simp)); intro c_w116_4_0 c_w116_4_1 c_w116_4_2 c_w116_4_3 c_w116_4_4 c_w116_4_5 fz_w116_4 hl_w116_4; (with_reducible apply cel2 (b := w108.heap.size) hb_w116); (focus ((try simp) <;> omega)); (focus omega); (focus (go_simp; try exact rfl)); (focus (go_simp; try exact rfl)); (focus (intro o; go_simp)); intro c_w116_5_0 c_w116_5_1 fz_w116_5 hl_w116_5
  (try simp only [List.filterMap_cons, List.filterMap_nil, List.getElem?_cons_succ, List.getElem?_cons_zero])
  replace H108 := Lib.hid (H108.out.below hb_w116)
  have H110 := Lib.hid (show IsC w116 (.agg #[.bool s110, .slice A110 n110 c110]) (RC) from hF_w116.1.1.1.1.1)
  have H111 := Lib.hid (show IsC w116 (.agg #[.bool s111, .slice A111 n111 c111]) (n1) from hF_w116.1.1.1.1.2)
  have H112 := Lib.hid (show IsC w116 (.agg #[.bool s112, .slice A112 n112 c112]) (J1) from hF_w116.1.1.1.2)
  have H113 := Lib.hid (show IsC w116 (.agg #[.bool s113, .slice A113 n113 c113]) (RC) from hF_w116.1.1.2)
  have H114 := Lib.hid (show IsC w116 (.agg #[.bool s114, .slice A114 n114 c114]) (n2) from hF_w116.1.2)
  have H115 := Lib.hid (show IsC w116 (.agg #[.bool s115, .slice A115 n115 c115]) (J2) from hF_w116.2)
  have HB116 := Lib.hid (HB109.out.trans (hb_w116.mono (by have := HB109.out.size; omega)))
  have hz116 : w.heap.size + 1 + 1 + 1 + 1 + 1 ≤ w116.heap.size := by omega
  have hn_r7_16 : w.heap.size + 1 + 1 + 1 + 1 + 1 ≤ g_r7_16 := by have := hN_r7_16; omega
  have hn_r7_17 : w.heap.size + 1 + 1 + 1 + 1 + 1 ≤ g_r7_17 := by have := hN_r7_17; omega
  clear hF_w116 hb_w116 HH_r7_16 hG_r7_16 hN_r7_16 HH_r7_17 hG_r7_17 hN_r7_17
  clear c_w109_0_0 c_w109_0_1 fz_w109_0 hl_w109_0 c_w109_1_0 c_w109_1_1 fz_w109_1 hl_w109_1 c_w109_2_0 c_w109_2_1 fz_w109_2 hl_w109_2 c_w109_3_0 c_w109_3_1 c_w109_3_2 c_w109_3_3 c_w109_3_4 c_w109_3_5 fz_w109_3 hl_w109_3 c_w109_4_0 c_w109_4_1 c_w109_4_2 c_w109_4_3 c_w109_4_4 c_w109_4_5 fz_w109_4 hl_w109_4 c_w109_5_0 c_w109_5_1 fz_w109_5 hl_w109_5
  go_wp2_with fail
  refine HQ_.out _ _ _ ?_
  clear HQ_ Q_
  go_wp2_with fail
  -- own blocks: w.heap.size:2, w.heap.size + 1:2, w.heap.size + 1 + 1 + 1:6, w.heap.size + 1 + 1 + 1 + 1:6, w108.heap.size:2, g_r7_16:2, g_r7_17:2
  (refine pin_wp (N := _) (Nat.le_refl _) (fun w117 hb_w117 hz_w117 => ?_); (try simp at hz_w117); (with_reducible apply cel2 (b := w.heap.size) hb_w117); (focus ((try simp) <;> omega)); (focus omega); (focus (go_simp; try exact rfl)); (focus (go_simp; try exact rfl)); (focus (intro o; go_simp)); intro c_w117_0_0 c_w117_0_1 fz_w117_0 hl_w117_0; (with_reducible apply cel2 (b := w.heap.size + 1) hb_w117); (focus ((try simp) <;> omega)); (focus omega); (focus (go_simp; try exact rfl)); (focus (go_simp; try exact rfl)); (focus (intro o; go_simp)); intro c_w117_1_0 c_w117_1_1 fz_w117_1 hl_w117_1; (with_reducible apply cel6 (b := w.heap.size + 1 + 1 + 1) hb_w117); (focus ((try simp) <;> omega)); (focus omega); (focus (go_simp; try exact rfl)); (focus (go_simp; try exact rfl)); (focus (go_simp; try exact rfl)); (focus (go_simp; try exact rfl)); (focus (go_simp; try exact rfl)); (focus (go_simp; try exact rfl)); (focus (intro o; go_simp)); intro c_w117_2_0 c_w117_2_1 c_w117_2_2 c_w117_2_3 c_w117_2_4 c_w117_2_5 fz_w117_2 hl_w117_2; (with_reducible apply cel6 (b := w.heap.size + 1 + 1 + 1 + 1) hb_w117); (focus ((try simp) <;> omega)); (focus omega); (focus (go_simp; try exact rfl)); (focus (go_simp; try exact rfl)); (focus (go_simp; try exact rfl)); (focus (go_simp; try exact rfl)); (focus (go_simp; try exact rfl)); (focus (go_simp; try exact rfl)); (focus (intro o; go_simp)); intro c_w117_3_0 c_w117_3_1 c_w117_3_2 c_w117_3_3 c_w117_3_4 c_w117_3_5 fz_w117_3 hl_w117_3; (with_reducible apply cel2 (b := w108.heap.size) hb_w117); (focus ((try simp) <;> omega)); (focus omega); (focus (go_simp; try exact rfl)); (focus (go_simp; try exact rfl)); (focus (intro o; go_simp)); intro c_w117_4_0 c_w117_4_1 fz_w117_4 hl_w117_4; (with_reducible apply cel2 (b := g_r7_16) hb_w117); (focus ((try simp) <;> omega)); (focus omega); (focus (go_simp; try exact rfl)); (focus (go_simp; try exact rfl)); (focus (intro o; go_simp)); intro c_w117_5_0 c_w117_5_1 fz_w117_5 hl_w117_5; (with_reducible apply cel2 (b := g_r7_17) hb_w117); (focus ((try simp) <;> omega)); (focus omega); (focus (go_simp; try exact rfl)); (focus (go_simp; try exact rfl)); (focus (intro o; go_simp)); intro c_w117_6_0 c_w117_6_1 fz_w117_6 hl_w117_6); refine wp_q (fun Q_ HQ_ => ?_); refine wp_region_floatQ w117.heap.size 12 [12, 13] (Nat.le_refl _) (fun _ => True) trivial Cl.tt (by kernel_rfl) (by kernel_rfl) ?_
  clear H110
  clear H111
  clear H113
  clear H114
  replace H108 := Lib.hid (IsC.below (v := .agg #[.bool s108, .slice A108 n108 c108]) (z := (32 * M)) (by ((repeat (first | (with_reducible exact H108.out) | (with_reducible refine IsC.al ?_ _) | (with_reducible apply IsC.st1))) <;> (first | (with_reducible assumption) | (intro _ e; cases e; done) | (go_simp; first | done | exact rfl)))) hb_w117)
  replace H112 := Lib.hid (IsC.below (v := .agg #[.bool s112, .slice A112 n112 c112]) (z := J1) (by ((repeat (first | (with_reducible exact H112.out) | (with_reducible refine IsC.al ?_ _) | (with_reducible apply IsC.st1))) <;> (first | (with_reducible assumption) | (intro _ e; cases e; done) | (go_simp; first | done | exact rfl)))) hb_w117)
  replace H115 := Lib.hid (IsC.below (v := .agg #[.bool s115, .slice A115 n115 c115]) (z := J2) (by ((repeat (first | (with_reducible exact H115.out) | (with_reducible refine IsC.al ?_ _) | (with_reducible apply IsC.st1))) <;> (first | (with_reducible assumption) | (intro _ e; cases e; done) | (go_simp; first | done | exact rfl)))) hb_w117)
  have HB117 := Lib.hid (show Below w.heap.size w w117 by have hB := HB116.out; ((with_reducible (repeat (first | exact bR _ _ | refine bS ?_ ?_ _ | refine bA ?_ ?_ _ | refine bD ?_ | refine bT ?_ (by assumption) ?_ | refine bO (by assumption) ?_ ?_))) <;> (first | omega | (simp; done) | (simp <;> omega))))
  have hz117 : w.heap.size + 1 + 1 + 1 + 1 + 1 ≤ w117.heap.size := by omega
  clear hb_w117
  clear c_w116_r7_17_0 c_w116_r7_17_1 fz_w116_r7_17 c_w116_r7_16_0 c_w116_r7_16_1 fz_w116_r7_16 c_w116_0_0 c_w116_0_1 fz_w116_0 hl_w116_0 c_w116_1_0 c_w116_1_1 fz_w116_1 hl_w116_1 c_w116_2_0 c_w116_2_1 fz_w116_2 hl_w116_2 c_w116_3_0 c_w116_3_1 c_w116_3_2 c_w116_3_3 c_w116_3_4 c_w116_3_5 fz_w116_3 hl_w116_3 c_w116_4_0 c_w116_4_1 c_w116_4_2 c_w116_4_3 c_w116_4_4 c_w116_4_5 fz_w116_4 hl_w116_4 c_w116_5_0 c_w116_5_1 fz_w116_5 hl_w116_5
  refine wpQI_start [0, 1] ?_; (iterate 2 (first | (refine wpQI_off (by with_reducible (refine List.getElem?_toArray.trans ?_; (repeat (first | exact List.getElem?_cons_zero | refine List.getElem?_cons_succ.trans ?_)))) (by kernel_rfl) (by exact rfl) (fun K hK => ?_); go_simp; refine hK _ ?_; clear hK K) | ((first | apply wpQI_step (by with_reducible (refine List.getElem?_toArray.trans ?_; (repeat (first | exact List.getElem?_cons_zero | refine List.getElem?_cons_succ.trans ?_)))) (by kernel_rfl) (by exact rfl) | apply wpQI_on (by with_reducible (refine List.getElem?_toArray.trans ?_; (repeat (first | exact List.getElem?_cons_zero | refine List.getElem?_cons_succ.trans ?_)))) (by kernel_rfl) (by exact rfl)); (focus (intro W' hS; have hcS := hS.cells.1; have hfS := hS.cells.2; go_simp; (first | done | exact rfl | exact ⟨rfl, Below.refl _ _⟩ | (go_simp; first | done | exact rfl | exact ⟨rfl, Below.refl _ _⟩)))); intro K hK; go_simp; (try go_bits); refine hK _ ?_; clear hK K))); refine wpQI_nil ?_
  refine wpQI_start [3] ?_; (iterate 1 (first | (refine wpQI_off (by with_reducible (refine List.getElem?_toArray.trans ?_; (repeat (first | exact List.getElem?_cons_zero | refine List.getElem?_cons_succ.trans ?_)))) (by kernel_rfl) (by exact rfl) (fun K hK => ?_); go_simp; refine hK _ ?_; clear hK K) | ((first | apply wpQI_step (by with_reducible (refine List.getElem?_toArray.trans ?_; (repeat (first | exact List.getElem?_cons_zero | refine List.getElem?_cons_succ.trans ?_)))) (by kernel_rfl) (by exact rfl) | apply wpQI_on (by with_reducible (refine List.getElem?_toArray.trans ?_; (repeat (first | exact List.getElem?_cons_zero | refine List.getElem?_cons_succ.trans ?_)))) (by kernel_rfl) (by exact rfl)); (focus (intro W' hS; have hcS := hS.cells.1; have hfS := hS.cells.2; go_simp; (first | done | exact rfl | exact ⟨rfl, Below.refl _ _⟩ | (go_simp; first | done | exact rfl | exact ⟨rfl, Below.refl _ _⟩)))); intro K hK; go_simp; (try go_bits); refine hK _ ?_; clear hK K))); refine wpQI_nil ?_
  refine wpQI_start [5, 6] ?_; (iterate 2 (first | (refine wpQI_off (by with_reducible (refine List.getElem?_toArray.trans ?_; (repeat (first | exact List.getElem?_cons_zero | refine List.getElem?_cons_succ.trans ?_)))) (by kernel_rfl) (by exact rfl) (fun K hK => ?_); go_simp; refine hK _ ?_; clear hK K) | ((first | apply wpQI_step (by with_reducible (refine List.getElem?_toArray.trans ?_; (repeat (first | exact List.getElem?_cons_zero | refine List.getElem?_cons_succ.trans ?_)))) (by kernel_rfl) (by exact rfl) | apply wpQI_on (by with_reducible (refine List.getElem?_toArray.trans ?_; (repeat (first | exact List.getElem?_cons_zero | refine List.getElem?_cons_succ.trans ?_)))) (by kernel_rfl) (by exact rfl)); (focus (intro W' hS; have hcS := hS.cells.1; have hfS := hS.cells.2; go_simp; (first | done | exact rfl | exact ⟨rfl, Below.refl _ _⟩ | (go_simp; first | done | exact rfl | exact ⟨rfl, Below.refl _ _⟩)))); intro K hK; go_simp; (try go_bits); refine hK _ ?_; clear hK K))); refine wpQI_nil ?_
  refine wpQI_start [8] ?_; (iterate 1 (first | (refine wpQI_off (by with_reducible (refine List.getElem?_toArray.trans ?_; (repeat (first | exact List.getElem?_cons_zero | refine List.getElem?_cons_succ.trans ?_)))) (by kernel_rfl) (by exact rfl) (fun K hK => ?_); go_simp; refine hK _ ?_; clear hK K) | ((first | apply wpQI_step (by with_reducible (refine List.getElem?_toArray.trans ?_; (repeat (first | exact List.getElem?_cons_zero | refine List.getElem?_cons_succ.trans ?_)))) (by kernel_rfl) (by exact rfl) | apply wpQI_on (by with_reducible (refine List.getElem?_toArray.trans ?_; (repeat (first | exact List.getElem?_cons_zero | refine List.getElem?_cons_succ.trans ?_)))) (by kernel_rfl) (by exact rfl)); (focus (intro W' hS; have hcS := hS.cells.1; have hfS := hS.cells.2; go_simp; (first | done | exact rfl | exact ⟨rfl, Below.refl _ _⟩ | (go_simp; first | done | exact rfl | exact ⟨rfl, Below.refl _ _⟩)))); intro K hK; go_simp; (try go_bits); refine hK _ ?_; clear hK K))); refine wpQI_nil ?_
  apply wpQ_call (i := 2) (by with_reducible (refine List.getElem?_toArray.trans ?_; (repeat (first | exact List.getElem?_cons_zero | refine List.getElem?_cons_succ.trans ?_)))) (by kernel_rfl) (by exact rfl); intro W hF hS; have hcS := hS.1.cells.1; have hfS := hS.1.cells.2; go_simp; (go_at_call 44; refine (K19.out _).mono ?_; rintro e w118 ⟨hb_w118, v118, rfl, hv118⟩; refine XPost.mk _ (fun W => IsC W v118 (v1)) hb_w118 (hv118) (IsC.cl _ _) ?_); clear hb_w118 hcS hfS hS hF
  intro K hK; go_simp; (try go_bits); refine hK _ ?_; clear hK K
  obtain ⟨s118, A118, n118, c118, rfl⟩ := IsC.val hv118
  clear hv118
  apply wpQ_call (i := 4) (by with_reducible (refine List.getElem?_toArray.trans ?_; (repeat (first | exact List.getElem?_cons_zero | refine List.getElem?_cons_succ.trans ?_)))) (by kernel_rfl) (by exact rfl); intro W hF hS; have hcS := hS.1.cells.1; have hfS := hS.1.cells.2; go_simp; (go_at_call 43; refine (K20.out _ _ _ (hF.zl L11.out) ((H108.out.below hS.1.2).zl L5.out)).mono ?_; rintro e w119 ⟨hb_w119, v119, rfl, hv119⟩; refine XPost.mk _ (fun W => IsC W v119 (A1)) hb_w119 (hv119) (IsC.cl _ _) ?_); clear hb_w119 hcS hfS hS hF
  intro K hK; go_simp; (try go_bits); refine hK _ ?_; clear hK K
  obtain ⟨s119, A119, n119, c119, rfl⟩ := IsC.val hv119
  clear hv119
  apply wpQ_call (i := 7) (by with_reducible (refine List.getElem?_toArray.trans ?_; (repeat (first | exact List.getElem?_cons_zero | refine List.getElem?_cons_succ.trans ?_)))) (by kernel_rfl) (by exact rfl); intro W hF hS; have hcS := hS.1.cells.1; have hfS := hS.1.cells.2; go_simp; (go_at_call 44; refine (K21.out _).mono ?_; rintro e w120 ⟨hb_w120, v120, rfl, hv120⟩; refine XPost.mk _ (fun W => IsC W v120 (v2)) hb_w120 (hv120) (IsC.cl _ _) ?_); clear hb_w120 hcS hfS hS hF
  intro K hK; go_simp; (try go_bits); refine hK _ ?_; clear hK K
  obtain ⟨s120, A120, n120, c120, rfl⟩ := IsC.val hv120
  clear hv120
  apply wpQ_call (i := 9) (by with_reducible (refine List.getElem?_toArray.trans ?_; (repeat (first | exact List.getElem?_cons_zero | refine List.getElem?_cons_succ.trans ?_)))) (by kernel_rfl) (by exact rfl); intro W hF hS; have hcS := hS.1.cells.1; have hfS := hS.1.cells.2; go_simp; (go_at_call 43; refine (K22.out _ _ _ (hF.2.zl L12.out) ((H108.out.below hS.1.2).zl L5.out)).mono ?_; rintro e w121 ⟨hb_w121, v121, rfl, hv121⟩; refine XPost.mk _ (fun W => IsC W v121 (A2)) hb_w121 (hv121) (IsC.cl _ _) ?_); clear hb_w121 hcS hfS hS hF
  intro K hK; go_simp; (try go_bits); refine hK _ ?_; clear hK K
  obtain ⟨s121, A121, n121, c121, rfl⟩ := IsC.val hv121
  clear hv121
  apply wpQ_fresh (i := 10) LInv.std (by with_reducible (refine List.getElem?_toArray.trans ?_; (repeat (first | exact List.getElem?_cons_zero | refine List.getElem?_cons_succ.trans ?_)))) (by kernel_rfl) (fun g => Value.pointer (some ⟨g, 0, none⟩)) (by exact rfl); (focus (intro W; go_simp; first | done | exact rfl | exact ⟨rfl, rfl⟩))
  intro g_r8_10 hN_r8_10 hG_r8_10 K hK
  go_simp; refine hK _ ?_; clear hK K
  apply wpQ_fresh (i := 11) LInv.std (by with_reducible (refine List.getElem?_toArray.trans ?_; (repeat (first | exact List.getElem?_cons_zero | refine List.getElem?_cons_succ.trans ?_)))) (by kernel_rfl) (fun g => Value.pointer (some ⟨g, 0, none⟩)) (by exact rfl); (focus (intro W; go_simp; first | done | exact rfl | exact ⟨rfl, rfl⟩))
  intro g_r8_11 hN_r8_11 hG_r8_11 K hK
  go_simp; refine hK _ ?_; clear hK K
  have hne_r8_10_r8_11 : g_r8_10 ≠ g_r8_11 := hG_r8_11 _ (List.mem_cons_self ..)
  have hne_r8_11_r8_10 : g_r8_11 ≠ g_r8_10 := Ne.symm hne_r8_10_r8_11
  have hne : w.heap.size ≠ g_r8_10 := by have := hN_r8_10; omega
  have hne := Ne.symm hne
  have hne : w.heap.size ≠ g_r8_11 := by have := hN_r8_11; omega
  have hne := Ne.symm hne
  have hne : w.heap.size + 1 ≠ g_r8_10 := by have := hN_r8_10; omega
  have hne := Ne.symm hne
  have hne : w.heap.size + 1 ≠ g_r8_11 := by have := hN_r8_11; omega
  have hne := Ne.symm hne
  have hne : w.heap.size + 1 + 1 ≠ g_r8_10 := by have := hN_r8_10; omega
  have hne := Ne.symm hne
  have hne : w.heap.size + 1 + 1 ≠ g_r8_11 := by have := hN_r8_11; omega
  have hne := Ne.symm hne
  have hne : w.heap.size + 1 + 1 + 1 ≠ g_r8_10 := by have := hN_r8_10; omega
  have hne := Ne.symm hne
  have hne : w.heap.size + 1 + 1 + 1 ≠ g_r8_11 := by have := hN_r8_11; omega
  have hne := Ne.symm hne
  have hne : w.heap.size + 1 + 1 + 1 + 1 ≠ g_r8_10 := by have := hN_r8_10; omega
  have hne := Ne.symm hne
  have hne : w.heap.size + 1 + 1 + 1 + 1 ≠ g_r8_11 := by have := hN_r8_11; omega
  have hne := Ne.symm hne
  have hne : w108.heap.size ≠ g_r8_10 := by have := hN_r8_10; omega
  have hne := Ne.symm hne
  have hne : w108.heap.size ≠ g_r8_11 := by have := hN_r8_11; omega
  have hne := Ne.symm hne
  have hne : g_r7_16 ≠ g_r8_10 := by have := hN_r8_10; omega
  have hne := Ne.symm hne
  have hne : g_r7_16 ≠ g_r8_11 := by have := hN_r8_11; omega
  have hne := Ne.symm hne
  have hne : g_r7_17 ≠ g_r8_10 := by have := hN_r8_10; omega
  have hne := Ne.symm hne
  have hne : g_r7_17 ≠ g_r8_11 := by have := hN_r8_11; omega
  have hne := Ne.symm hne
  refine wpQ_done (by kernel_rfl) ?_
  intro w122 hF_w122 hSG
  have hz_w122 := hSG.1.1
  have hb_w122 := hSG.1.2
  have hB_r8_11 := (hSG.2 _ (List.mem_cons_self ..)).2; simp only at hB_r8_11; have hl_r8_11 := (hSG.size (List.mem_cons_self ..)); simp only at hl_r8_11
  have c_w122_r8_11_0 := cell_of_row w122 g_r8_11 0 _ _ _ hB_r8_11; simp only [List.getElem?_toArray, List.getElem?_cons_zero] at c_w122_r8_11_0
  have c_w122_r8_11_1 := cell_of_row w122 g_r8_11 1 _ _ _ hB_r8_11; simp only [List.getElem?_toArray, List.getElem?_cons_zero, List.getElem?_cons_succ] at c_w122_r8_11_1
  have fz_w122_r8_11 : (∀ o, w122.frozen? ⟨g_r8_11, o, none⟩ = false) := (fun o => frozen_of_row w122 g_r8_11 o _ _ hB_r8_11); have HH_r8_11 := Lib.hid hB_r8_11; clear hB_r8_11
  have hB_r8_10 := (hSG.2 _ (List.mem_cons_of_mem _ (List.mem_cons_self ..))).2; simp only at hB_r8_10; have hl_r8_10 := (hSG.size (List.mem_cons_of_mem _ (List.mem_cons_self ..))); simp only at hl_r8_10
  have c_w122_r8_10_0 := cell_of_row w122 g_r8_10 0 _ _ _ hB_r8_10; simp only [List.getElem?_toArray, List.getElem?_cons_zero] at c_w122_r8_10_0
  have c_w122_r8_10_1 := cell_of_row w122 g_r8_10 1 _ _ _ hB_r8_10; simp only [List.getElem?_toArray, List.getElem?_cons_zero, List.getElem?_cons_succ] at c_w122_r8_10_1
  have fz_w122_r8_10 : (∀ o, w122.frozen? ⟨g_r8_10, o, none⟩ = false) := (fun o => frozen_of_row w122 g_r8_10 o _ _ hB_r8_10); have HH_r8_10 := Lib.hid hB_r8_10; clear hB_r8_10
  clear hSG
  (with_reducible apply cel2 (b := w.heap.size) hb_w122); (focus ((try simp) <;> omega)); (focus omega); (focus (go_simp; try exact rfl)); (focus (go_simp; try exact rfl)); (focus (intro o; go_simp)); intro c_w122_0_0 c_w122_0_1 fz_w122_0 hl_w122_0; (with_reducible apply cel2 (b := w.heap.size + 1) hb_w122); (focus ((try simp) <;> omega)); (focus omega); (focus (go_simp; try exact rfl)); (focus (go_simp; try exact rfl)); (focus (intro o; go_simp)); intro c_w122_1_0 c_w122_1_1 fz_w122_1 hl_w122_1; (with_reducible apply cel6 (b := w.heap.size + 1 + 1 + 1) hb_w122); (focus ((try simp) <;> omega)); (focus omega); (focus (go_simp; try exact rfl)); (focus (go_simp; try exact rfl)); (focus (go_simp; try exact rfl)); (focus (go_simp; try exact rfl)); (focus (go_simp; try exact rfl)); (focus (go_simp; try exact rfl)); (focus (intro o; go_simp)); intro c_w122_2_0 c_w122_2_1 c_w122_2_2 c_w122_2_3 c_w122_2_4 c_w122_2_5 fz_w122_2 hl_w122_2; (with_reducible apply cel6 (b := w.heap.size + 1 + 1 + 1 + 1) hb_w122); (focus ((try simp) <;> omega)); (focus omega); (focus (go_simp; try exact rfl)); (focus (go_simp; try exact rfl)); (focus (go_simp; try exact rfl)); (focus (go_simp; try exact rfl)); (focus (go_simp; try exact rfl)); (focus (go_simp; try exact rfl)); (focus (intro o; go_simp)); intro c_w122_3_0 c_w122_3_1 c_w122_3_2 c_w122_3_3 c_w122_3_4 c_w122_3_5 fz_w122_3 hl_w122_3; (with_reducible apply cel2 (b := w108.heap.size) hb_w122); (focus ((try simp) <;> omega)); (focus omega); (focus (go_simp; try exact rfl)); (focus (go_simp; try exact rfl)); (focus (intro o; go_simp)); intro c_w122_4_0 c_w122_4_1 fz_w122_4 hl_w122_4; (with_reducible apply cel2 (b := g_r7_16) hb_w122); (focus ((try simp) <;> omega)); (focus omega); (focus (go_simp; try exact rfl)); (focus (go_simp; try exact rfl)); (focus (intro o; go_simp)); intro c_w122_5_0 c_w122_5_1 fz_w122_5 hl_w122_5; (with_reducible apply cel2 (b := g_r7_17) hb_w122); (focus ((try simp) <;> omega)); (focus omega); (focus (go_simp; try exact rfl)); (focus (go_simp; try exact rfl)); (focus (intro o; go_simp)); intro c_w122_6_0 c_w122_6_1 fz_w122_6 hl_w122_6
  (try simp only [List.filterMap_cons, List.filterMap_nil, List.getElem?_cons_succ, List.getElem?_cons_zero])
  replace H108 := Lib.hid (H108.out.below hb_w122)
  replace H112 := Lib.hid (H112.out.below hb_w122)
  replace H115 := Lib.hid (H115.out.below hb_w122)
  have H118 := Lib.hid (show IsC w122 (.agg #[.bool s118, .slice A118 n118 c118]) (v1) from hF_w122.1.1.1)
  have H119 := Lib.hid (show IsC w122 (.agg #[.bool s119, .slice A119 n119 c119]) (A1) from hF_w122.1.1.2)
  have H120 := Lib.hid (show IsC w122 (.agg #[.bool s120, .slice A120 n120 c120]) (v2) from hF_w122.1.2)
  have H121 := Lib.hid (show IsC w122 (.agg #[.bool s121, .slice A121 n121 c121]) (A2) from hF_w122.2)
  have HB122 := Lib.hid (HB117.out.trans (hb_w122.mono (by have := HB117.out.size; omega)))
  have hz122 : w.heap.size + 1 + 1 + 1 + 1 + 1 ≤ w122.heap.size := by omega
  have hn_r8_10 : w.heap.size + 1 + 1 + 1 + 1 + 1 ≤ g_r8_10 := by have := hN_r8_10; omega
  have hn_r8_11 : w.heap.size + 1 + 1 + 1 + 1 + 1 ≤ g_r8_11 := by have := hN_r8_11; omega
  clear hF_w122 hb_w122 HH_r8_10 hG_r8_10 hN_r8_10 HH_r8_11 hG_r8_11 hN_r8_11
  clear c_w117_0_0 c_w117_0_1 fz_w117_0 hl_w117_0 c_w117_1_0 c_w117_1_1 fz_w117_1 hl_w117_1 c_w117_2_0 c_w117_2_1 c_w117_2_2 c_w117_2_3 c_w117_2_4 c_w117_2_5 fz_w117_2 hl_w117_2 c_w117_3_0 c_w117_3_1 c_w117_3_2 c_w117_3_3 c_w117_3_4 c_w117_3_5 fz_w117_3 hl_w117_3 c_w117_4_0 c_w117_4_1 fz_w117_4 hl_w117_4 c_w117_5_0 c_w117_5_1 fz_w117_5 hl_w117_5 c_w117_6_0 c_w117_6_1 fz_w117_6 hl_w117_6
  go_wp2_with fail
  refine HQ_.out _ _ _ ?_
  clear HQ_ Q_
  go_wp2_with fail
  -- own blocks: w.heap.size + 1:2, w.heap.size + 1 + 1 + 1:6, w.heap.size + 1 + 1 + 1 + 1:6, w108.heap.size:2, g_r7_16:2, g_r7_17:2, g_r8_10:2, g_r8_11:2
  (refine pin_wp (N := _) (Nat.le_refl _) (fun w123 hb_w123 hz_w123 => ?_); (try simp at hz_w123); (with_reducible apply cel2 (b := w.heap.size + 1) hb_w123); (focus ((try simp) <;> omega)); (focus omega); (focus (go_simp; try exact rfl)); (focus (go_simp; try exact rfl)); (focus (intro o; go_simp)); intro c_w123_0_0 c_w123_0_1 fz_w123_0 hl_w123_0; (with_reducible apply cel6 (b := w.heap.size + 1 + 1 + 1) hb_w123); (focus ((try simp) <;> omega)); (focus omega); (focus (go_simp; try exact rfl)); (focus (go_simp; try exact rfl)); (focus (go_simp; try exact rfl)); (focus (go_simp; try exact rfl)); (focus (go_simp; try exact rfl)); (focus (go_simp; try exact rfl)); (focus (intro o; go_simp)); intro c_w123_1_0 c_w123_1_1 c_w123_1_2 c_w123_1_3 c_w123_1_4 c_w123_1_5 fz_w123_1 hl_w123_1; (with_reducible apply cel6 (b := w.heap.size + 1 + 1 + 1 + 1) hb_w123); (focus ((try simp) <;> omega)); (focus omega); (focus (go_simp; try exact rfl)); (focus (go_simp; try exact rfl)); (focus (go_simp; try exact rfl)); (focus (go_simp; try exact rfl)); (focus (go_simp; try exact rfl)); (focus (go_simp; try exact rfl)); (focus (intro o; go_simp)); intro c_w123_2_0 c_w123_2_1 c_w123_2_2 c_w123_2_3 c_w123_2_4 c_w123_2_5 fz_w123_2 hl_w123_2; (with_reducible apply cel2 (b := w108.heap.size) hb_w123); (focus ((try simp) <;> omega)); (focus omega); (focus (go_simp; try exact rfl)); (focus (go_simp; try exact rfl)); (focus (intro o; go_simp)); intro c_w123_3_0 c_w123_3_1 fz_w123_3 hl_w123_3; (with_reducible apply cel2 (b := g_r7_16) hb_w123); (focus ((try simp) <;> omega)); (focus omega); (focus (go_simp; try exact rfl)); (focus (go_simp; try exact rfl)); (focus (intro o; go_simp)); intro c_w123_4_0 c_w123_4_1 fz_w123_4 hl_w123_4; (with_reducible apply cel2 (b := g_r7_17) hb_w123); (focus ((try simp) <;> omega)); (focus omega); (focus (go_simp; try exact rfl)); (focus (go_simp; try exact rfl)); (focus (intro o; go_simp)); intro c_w123_5_0 c_w123_5_1 fz_w123_5 hl_w123_5; (with_reducible apply cel2 (b := g_r8_10) hb_w123); (focus ((try simp) <;> omega)); (focus omega); (focus (go_simp; try exact rfl)); (focus (go_simp; try exact rfl)); (focus (intro o; go_simp)); intro c_w123_6_0 c_w123_6_1 fz_w123_6 hl_w123_6; (with_reducible apply cel2 (b := g_r8_11) hb_w123); (focus ((try simp) <;> omega)); (focus omega); (focus (go_simp; try exact rfl)); (focus (go_simp; try exact rfl)); (focus (intro o; go_simp)); intro c_w123_7_0 c_w123_7_1 fz_w123_7 hl_w123_7); refine wp_q (fun Q_ HQ_ => ?_); refine wp_region_floatQ w123.heap.size 12 [12, 13] (Nat.le_refl _) (fun _ => True) trivial Cl.tt (by kernel_rfl) (by kernel_rfl) ?_
  clear H118
  clear H120
  replace H108 := Lib.hid (IsC.below (v := .agg #[.bool s108, .slice A108 n108 c108]) (z := (32 * M)) (by ((repeat (first | (with_reducible exact H108.out) | (with_reducible refine IsC.al ?_ _) | (with_reducible apply IsC.st1))) <;> (first | (with_reducible assumption) | (intro _ e; cases e; done) | (go_simp; first | done | exact rfl)))) hb_w123)
  replace H112 := Lib.hid (IsC.below (v := .agg #[.bool s112, .slice A112 n112 c112]) (z := J1) (by ((repeat (first | (with_reducible exact H112.out) | (with_reducible refine IsC.al ?_ _) | (with_reducible apply IsC.st1))) <;> (first | (with_reducible assumption) | (intro _ e; cases e; done) | (go_simp; first | done | exact rfl)))) hb_w123)
  replace H115 := Lib.hid (IsC.below (v := .agg #[.bool s115, .slice A115 n115 c115]) (z := J2) (by ((repeat (first | (with_reducible exact H115.out) | (with_reducible refine IsC.al ?_ _) | (with_reducible apply IsC.st1))) <;> (first | (with_reducible assumption) | (intro _ e; cases e; done) | (go_simp; first | done | exact rfl)))) hb_w123)
  replace H119 := Lib.hid (IsC.below (v := .agg #[.bool s119, .slice A119 n119 c119]) (z := A1) (by ((repeat (first | (with_reducible exact H119.out) | (with_reducible refine IsC.al ?_ _) | (with_reducible apply IsC.st1))) <;> (first | (with_reducible assumption) | (intro _ e; cases e; done) | (go_simp; first | done | exact rfl)))) hb_w123)
  replace H121 := Lib.hid (IsC.below (v := .agg #[.bool s121, .slice A121 n121 c121]) (z := A2) (by ((repeat (first | (with_reducible exact H121.out) | (with_reducible refine IsC.al ?_ _) | (with_reducible apply IsC.st1))) <;> (first | (with_reducible assumption) | (intro _ e; cases e; done) | (go_simp; first | done | exact rfl)))) hb_w123)
  have HB123 := Lib.hid (show Below w.heap.size w w123 by have hB := HB122.out; ((with_reducible (repeat (first | exact bR _ _ | refine bS ?_ ?_ _ | refine bA ?_ ?_ _ | refine bD ?_ | refine bT ?_ (by assumption) ?_ | refine bO (by assumption) ?_ ?_))) <;> (first | omega | (simp; done) | (simp <;> omega))))
  have hz123 : w.heap.size + 1 + 1 + 1 + 1 + 1 ≤ w123.heap.size := by omega
  clear hb_w123
  clear c_w122_r8_11_0 c_w122_r8_11_1 fz_w122_r8_11 c_w122_r8_10_0 c_w122_r8_10_1 fz_w122_r8_10 c_w122_0_0 c_w122_0_1 fz_w122_0 hl_w122_0 c_w122_1_0 c_w122_1_1 fz_w122_1 hl_w122_1 c_w122_2_0 c_w122_2_1 c_w122_2_2 c_w122_2_3 c_w122_2_4 c_w122_2_5 fz_w122_2 hl_w122_2 c_w122_3_0 c_w122_3_1 c_w122_3_2 c_w122_3_3 c_w122_3_4 c_w122_3_5 fz_w122_3 hl_w122_3 c_w122_4_0 c_w122_4_1 fz_w122_4 hl_w122_4 c_w122_5_0 c_w122_5_1 fz_w122_5 hl_w122_5 c_w122_6_0 c_w122_6_1 fz_w122_6 hl_w122_6
  refine wpQI_start [0, 1] ?_; (iterate 2 (first | (refine wpQI_off (by with_reducible (refine List.getElem?_toArray.trans ?_; (repeat (first | exact List.getElem?_cons_zero | refine List.getElem?_cons_succ.trans ?_)))) (by kernel_rfl) (by exact rfl) (fun K hK => ?_); go_simp; refine hK _ ?_; clear hK K) | ((first | apply wpQI_step (by with_reducible (refine List.getElem?_toArray.trans ?_; (repeat (first | exact List.getElem?_cons_zero | refine List.getElem?_cons_succ.trans ?_)))) (by kernel_rfl) (by exact rfl) | apply wpQI_on (by with_reducible (refine List.getElem?_toArray.trans ?_; (repeat (first | exact List.getElem?_cons_zero | refine List.getElem?_cons_succ.trans ?_)))) (by kernel_rfl) (by exact rfl)); (focus (intro W' hS; have hcS := hS.cells.1; have hfS := hS.cells.2; go_simp; (first | done | exact rfl | exact ⟨rfl, Below.refl _ _⟩ | (go_simp; first | done | exact rfl | exact ⟨rfl, Below.refl _ _⟩)))); intro K hK; go_simp; (try go_bits); refine hK _ ?_; clear hK K))); refine wpQI_nil ?_
  refine wpQI_start [3] ?_; (iterate 1 (first | (refine wpQI_off (by with_reducible (refine List.getElem?_toArray.trans ?_; (repeat (first | exact List.getElem?_cons_zero | refine List.getElem?_cons_succ.trans ?_)))) (by kernel_rfl) (by exact rfl) (fun K hK => ?_); go_simp; refine hK _ ?_; clear hK K) | ((first | apply wpQI_step (by with_reducible (refine List.getElem?_toArray.trans ?_; (repeat (first | exact List.getElem?_cons_zero | refine List.getElem?_cons_succ.trans ?_)))) (by kernel_rfl) (by exact rfl) | apply wpQI_on (by with_reducible (refine List.getElem?_toArray.trans ?_; (repeat (first | exact List.getElem?_cons_zero | refine List.getElem?_cons_succ.trans ?_)))) (by kernel_rfl) (by exact rfl)); (focus (intro W' hS; have hcS := hS.cells.1; have hfS := hS.cells.2; go_simp; (first | done | exact rfl | exact ⟨rfl, Below.refl _ _⟩ | (go_simp; first | done | exact rfl | exact ⟨rfl, Below.refl _ _⟩)))); intro K hK; go_simp; (try go_bits); refine hK _ ?_; clear hK K))); refine wpQI_nil ?_
  refine wpQI_start [5, 6] ?_; (iterate 2 (first | (refine wpQI_off (by with_reducible (refine List.getElem?_toArray.trans ?_; (repeat (first | exact List.getElem?_cons_zero | refine List.getElem?_cons_succ.trans ?_)))) (by kernel_rfl) (by exact rfl) (fun K hK => ?_); go_simp; refine hK _ ?_; clear hK K) | ((first | apply wpQI_step (by with_reducible (refine List.getElem?_toArray.trans ?_; (repeat (first | exact List.getElem?_cons_zero | refine List.getElem?_cons_succ.trans ?_)))) (by kernel_rfl) (by exact rfl) | apply wpQI_on (by with_reducible (refine List.getElem?_toArray.trans ?_; (repeat (first | exact List.getElem?_cons_zero | refine List.getElem?_cons_succ.trans ?_)))) (by kernel_rfl) (by exact rfl)); (focus (intro W' hS; have hcS := hS.cells.1; have hfS := hS.cells.2; go_simp; (first | done | exact rfl | exact ⟨rfl, Below.refl _ _⟩ | (go_simp; first | done | exact rfl | exact ⟨rfl, Below.refl _ _⟩)))); intro K hK; go_simp; (try go_bits); refine hK _ ?_; clear hK K))); refine wpQI_nil ?_
  refine wpQI_start [8] ?_; (iterate 1 (first | (refine wpQI_off (by with_reducible (refine List.getElem?_toArray.trans ?_; (repeat (first | exact List.getElem?_cons_zero | refine List.getElem?_cons_succ.trans ?_)))) (by kernel_rfl) (by exact rfl) (fun K hK => ?_); go_simp; refine hK _ ?_; clear hK K) | ((first | apply wpQI_step (by with_reducible (refine List.getElem?_toArray.trans ?_; (repeat (first | exact List.getElem?_cons_zero | refine List.getElem?_cons_succ.trans ?_)))) (by kernel_rfl) (by exact rfl) | apply wpQI_on (by with_reducible (refine List.getElem?_toArray.trans ?_; (repeat (first | exact List.getElem?_cons_zero | refine List.getElem?_cons_succ.trans ?_)))) (by kernel_rfl) (by exact rfl)); (focus (intro W' hS; have hcS := hS.cells.1; have hfS := hS.cells.2; go_simp; (first | done | exact rfl | exact ⟨rfl, Below.refl _ _⟩ | (go_simp; first | done | exact rfl | exact ⟨rfl, Below.refl _ _⟩)))); intro K hK; go_simp; (try go_bits); refine hK _ ?_; clear hK K))); refine wpQI_nil ?_
  apply wpQ_call (i := 2) (by with_reducible (refine List.getElem?_toArray.trans ?_; (repeat (first | exact List.getElem?_cons_zero | refine List.getElem?_cons_succ.trans ?_)))) (by kernel_rfl) (by exact rfl); intro W hF hS; have hcS := hS.1.cells.1; have hfS := hS.1.cells.2; go_simp; (go_at_call 44; refine (K23.out _).mono ?_; rintro e w124 ⟨hb_w124, v124, rfl, hv124⟩; refine XPost.mk _ (fun W => IsC W v124 (w1)) hb_w124 (hv124) (IsC.cl _ _) ?_); clear hb_w124 hcS hfS hS hF
  intro K hK; go_simp; (try go_bits); refine hK _ ?_; clear hK K
  obtain ⟨s124, A124, n124, c124, rfl⟩ := IsC.val hv124
  clear hv124
  apply wpQ_call (i := 4) (by with_reducible (refine List.getElem?_toArray.trans ?_; (repeat (first | exact List.getElem?_cons_zero | refine List.getElem?_cons_succ.trans ?_)))) (by kernel_rfl) (by exact rfl); intro W hF hS; have hcS := hS.1.cells.1; have hfS := hS.1.cells.2; go_simp; (go_at_call 43; refine (K24.out _ _ _ (hF.zl L13.out) ((H108.out.below hS.1.2).zl L5.out)).mono ?_; rintro e w125 ⟨hb_w125, v125, rfl, hv125⟩; refine XPost.mk _ (fun W => IsC W v125 (B1)) hb_w125 (hv125) (IsC.cl _ _) ?_); clear hb_w125 hcS hfS hS hF
  intro K hK; go_simp; (try go_bits); refine hK _ ?_; clear hK K
  obtain ⟨s125, A125, n125, c125, rfl⟩ := IsC.val hv125
  clear hv125
  apply wpQ_call (i := 7) (by with_reducible (refine List.getElem?_toArray.trans ?_; (repeat (first | exact List.getElem?_cons_zero | refine List.getElem?_cons_succ.trans ?_)))) (by kernel_rfl) (by exact rfl); intro W hF hS; have hcS := hS.1.cells.1; have hfS := hS.1.cells.2; go_simp; (go_at_call 44; refine (K25.out _).mono ?_; rintro e w126 ⟨hb_w126, v126, rfl, hv126⟩; refine XPost.mk _ (fun W => IsC W v126 (w2)) hb_w126 (hv126) (IsC.cl _ _) ?_); clear hb_w126 hcS hfS hS hF
  intro K hK; go_simp; (try go_bits); refine hK _ ?_; clear hK K
  obtain ⟨s126, A126, n126, c126, rfl⟩ := IsC.val hv126
  clear hv126
  apply wpQ_call (i := 9) (by with_reducible (refine List.getElem?_toArray.trans ?_; (repeat (first | exact List.getElem?_cons_zero | refine List.getElem?_cons_succ.trans ?_)))) (by kernel_rfl) (by exact rfl); intro W hF hS; have hcS := hS.1.cells.1; have hfS := hS.1.cells.2; go_simp; (go_at_call 43; refine (K26.out _ _ _ (hF.2.zl L14.out) ((H108.out.below hS.1.2).zl L5.out)).mono ?_; rintro e w127 ⟨hb_w127, v127, rfl, hv127⟩; refine XPost.mk _ (fun W => IsC W v127 (B2)) hb_w127 (hv127) (IsC.cl _ _) ?_); clear hb_w127 hcS hfS hS hF
  intro K hK; go_simp; (try go_bits); refine hK _ ?_; clear hK K
  obtain ⟨s127, A127, n127, c127, rfl⟩ := IsC.val hv127
  clear hv127
  apply wpQ_fresh (i := 10) LInv.std (by with_reducible (refine List.getElem?_toArray.trans ?_; (repeat (first | exact List.getElem?_cons_zero | refine List.getElem?_cons_succ.trans ?_)))) (by kernel_rfl) (fun g => Value.pointer (some ⟨g, 0, none⟩)) (by exact rfl); (focus (intro W; go_simp; first | done | exact rfl | exact ⟨rfl, rfl⟩))
  intro g_r9_10 hN_r9_10 hG_r9_10 K hK
  go_simp; refine hK _ ?_; clear hK K
  apply wpQ_fresh (i := 11) LInv.std (by with_reducible (refine List.getElem?_toArray.trans ?_; (repeat (first | exact List.getElem?_cons_zero | refine List.getElem?_cons_succ.trans ?_)))) (by kernel_rfl) (fun g => Value.pointer (some ⟨g, 0, none⟩)) (by exact rfl); (focus (intro W; go_simp; first | done | exact rfl | exact ⟨rfl, rfl⟩))
  intro g_r9_11 hN_r9_11 hG_r9_11 K hK
  go_simp; refine hK _ ?_; clear hK K
  have hne_r9_10_r9_11 : g_r9_10 ≠ g_r9_11 := hG_r9_11 _ (List.mem_cons_self ..)
  have hne_r9_11_r9_10 : g_r9_11 ≠ g_r9_10 := Ne.symm hne_r9_10_r9_11
  have hne : w.heap.size ≠ g_r9_10 := by have := hN_r9_10; omega
  have hne := Ne.symm hne
  have hne : w.heap.size ≠ g_r9_11 := by have := hN_r9_11; omega
  have hne := Ne.symm hne
  have hne : w.heap.size + 1 ≠ g_r9_10 := by have := hN_r9_10; omega
  have hne := Ne.symm hne
  have hne : w.heap.size + 1 ≠ g_r9_11 := by have := hN_r9_11; omega
  have hne := Ne.symm hne
  have hne : w.heap.size + 1 + 1 ≠ g_r9_10 := by have := hN_r9_10; omega
  have hne := Ne.symm hne
  have hne : w.heap.size + 1 + 1 ≠ g_r9_11 := by have := hN_r9_11; omega
  have hne := Ne.symm hne
  have hne : w.heap.size + 1 + 1 + 1 ≠ g_r9_10 := by have := hN_r9_10; omega
  have hne := Ne.symm hne
  have hne : w.heap.size + 1 + 1 + 1 ≠ g_r9_11 := by have := hN_r9_11; omega
  have hne := Ne.symm hne
  have hne : w.heap.size + 1 + 1 + 1 + 1 ≠ g_r9_10 := by have := hN_r9_10; omega
  have hne := Ne.symm hne
  have hne : w.heap.size + 1 + 1 + 1 + 1 ≠ g_r9_11 := by have := hN_r9_11; omega
  have hne := Ne.symm hne
  have hne : w108.heap.size ≠ g_r9_10 := by have := hN_r9_10; omega
  have hne := Ne.symm hne
  have hne : w108.heap.size ≠ g_r9_11 := by have := hN_r9_11; omega
  have hne := Ne.symm hne
  have hne : g_r7_16 ≠ g_r9_10 := by have := hN_r9_10; omega
  have hne := Ne.symm hne
  have hne : g_r7_16 ≠ g_r9_11 := by have := hN_r9_11; omega
  have hne := Ne.symm hne
  have hne : g_r7_17 ≠ g_r9_10 := by have := hN_r9_10; omega
  have hne := Ne.symm hne
  have hne : g_r7_17 ≠ g_r9_11 := by have := hN_r9_11; omega
  have hne := Ne.symm hne
  have hne : g_r8_10 ≠ g_r9_10 := by have := hN_r9_10; omega
  have hne := Ne.symm hne
  have hne : g_r8_10 ≠ g_r9_11 := by have := hN_r9_11; omega
  have hne := Ne.symm hne
  have hne : g_r8_11 ≠ g_r9_10 := by have := hN_r9_10; omega
  have hne := Ne.symm hne
  have hne : g_r8_11 ≠ g_r9_11 := by have := hN_r9_11; omega
  have hne := Ne.symm hne
  refine wpQ_done (by kernel_rfl) ?_
  intro w128 hF_w128 hSG
  have hz_w128 := hSG.1.1
  have hb_w128 := hSG.1.2
  have hB_r9_11 := (hSG.2 _ (List.mem_cons_self ..)).2; simp only at hB_r9_11; have hl_r9_11 := (hSG.size (List.mem_cons_self ..)); simp only at hl_r9_11
  have c_w128_r9_11_0 := cell_of_row w128 g_r9_11 0 _ _ _ hB_r9_11; simp only [List.getElem?_toArray, List.getElem?_cons_zero] at c_w128_r9_11_0
  have c_w128_r9_11_1 := cell_of_row w128 g_r9_11 1 _ _ _ hB_r9_11; simp only [List.getElem?_toArray, List.getElem?_cons_zero, List.getElem?_cons_succ] at c_w128_r9_11_1
  have fz_w128_r9_11 : (∀ o, w128.frozen? ⟨g_r9_11, o, none⟩ = false) := (fun o => frozen_of_row w128 g_r9_11 o _ _ hB_r9_11); have HH_r9_11 := Lib.hid hB_r9_11; clear hB_r9_11
  have hB_r9_10 := (hSG.2 _ (List.mem_cons_of_mem _ (List.mem_cons_self ..))).2; simp only at hB_r9_10; have hl_r9_10 := (hSG.size (List.mem_cons_of_mem _ (List.mem_cons_self ..))); simp only at hl_r9_10
  have c_w128_r9_10_0 := cell_of_row w128 g_r9_10 0 _ _ _ hB_r9_10; simp only [List.getElem?_toArray, List.getElem?_cons_zero] at c_w128_r9_10_0
  have c_w128_r9_10_1 := cell_of_row w128 g_r9_10 1 _ _ _ hB_r9_10; simp only [List.getElem?_toArray, List.getElem?_cons_zero, List.getElem?_cons_succ] at c_w128_r9_10_1
  have fz_w128_r9_10 : (∀ o, w128.frozen? ⟨g_r9_10, o, none⟩ = false) := (fun o => frozen_of_row w128 g_r9_10 o _ _ hB_r9_10); have HH_r9_10 := Lib.hid hB_r9_10; clear hB_r9_10
  clear hSG
  (with_reducible apply cel2 (b := w.heap.size + 1) hb_w128); (focus ((try simp) <;> omega)); (focus omega); (focus (go_simp; try exact rfl)); (focus (go_simp; try exact rfl)); (focus (intro o; go_simp)); intro c_w128_0_0 c_w128_0_1 fz_w128_0 hl_w128_0; (with_reducible apply cel6 (b := w.heap.size + 1 + 1 + 1) hb_w128); (focus ((try simp) <;> omega)); (focus omega); (focus (go_simp; try exact rfl)); (focus (go_simp; try exact rfl)); (focus (go_simp; try exact rfl)); (focus (go_simp; try exact rfl)); (focus (go_simp; try exact rfl)); (focus (go_simp; try exact rfl)); (focus (intro o; go_simp)); intro c_w128_1_0 c_w128_1_1 c_w128_1_2 c_w128_1_3 c_w128_1_4 c_w128_1_5 fz_w128_1 hl_w128_1; (with_reducible apply cel6 (b := w.heap.size + 1 + 1 + 1 + 1) hb_w128); (focus ((try simp) <;> omega)); (focus omega); (focus (go_simp; try exact rfl)); (focus (go_simp; try exact rfl)); (focus (go_simp; try exact rfl)); (focus (go_simp; try exact rfl)); (focus (go_simp; try exact rfl)); (focus (go_simp; try exact rfl)); (focus (intro o; go_simp)); intro c_w128_2_0 c_w128_2_1 c_w128_2_2 c_w128_2_3 c_w128_2_4 c_w128_2_5 fz_w128_2 hl_w128_2; (with_reducible apply cel2 (b := w108.heap.size) hb_w128); (focus ((try simp) <;> omega)); (focus omega); (focus (go_simp; try exact rfl)); (focus (go_simp; try exact rfl)); (focus (intro o; go_simp)); intro c_w128_3_0 c_w128_3_1 fz_w128_3 hl_w128_3; (with_reducible apply cel2 (b := g_r7_16) hb_w128); (focus ((try simp) <;> omega)); (focus omega); (focus (go_simp; try exact rfl)); (focus (go_simp; try exact rfl)); (focus (intro o; go_simp)); intro c_w128_4_0 c_w128_4_1 fz_w128_4 hl_w128_4; (with_reducible apply cel2 (b := g_r7_17) hb_w128); (focus ((try simp) <;> omega)); (focus omega); (focus (go_simp; try exact rfl)); (focus (go_simp; try exact rfl)); (focus (intro o; go_simp)); intro c_w128_5_0 c_w128_5_1 fz_w128_5 hl_w128_5; (with_reducible apply cel2 (b := g_r8_10) hb_w128); (focus ((try simp) <;> omega)); (focus omega); (focus (go_simp; try exact rfl)); (focus (go_simp; try exact rfl)); (focus (intro o; go_simp)); intro c_w128_6_0 c_w128_6_1 fz_w128_6 hl_w128_6; (with_reducible apply cel2 (b := g_r8_11) hb_w128); (focus ((try simp) <;> omega)); (focus omega); (focus (go_simp; try exact rfl)); (focus (go_simp; try exact rfl)); (focus (intro o; go_simp)); intro c_w128_7_0 c_w128_7_1 fz_w128_7 hl_w128_7
  (try simp only [List.filterMap_cons, List.filterMap_nil, List.getElem?_cons_succ, List.getElem?_cons_zero])
  replace H108 := Lib.hid (H108.out.below hb_w128)
  replace H112 := Lib.hid (H112.out.below hb_w128)
  replace H115 := Lib.hid (H115.out.below hb_w128)
  replace H119 := Lib.hid (H119.out.below hb_w128)
  replace H121 := Lib.hid (H121.out.below hb_w128)
  have H124 := Lib.hid (show IsC w128 (.agg #[.bool s124, .slice A124 n124 c124]) (w1) from hF_w128.1.1.1)
  have H125 := Lib.hid (show IsC w128 (.agg #[.bool s125, .slice A125 n125 c125]) (B1) from hF_w128.1.1.2)
  have H126 := Lib.hid (show IsC w128 (.agg #[.bool s126, .slice A126 n126 c126]) (w2) from hF_w128.1.2)
  have H127 := Lib.hid (show IsC w128 (.agg #[.bool s127, .slice A127 n127 c127]) (B2) from hF_w128.2)
  have HB128 := Lib.hid (HB123.out.trans (hb_w128.mono (by have := HB123.out.size; omega)))
  have hz128 : w.heap.size + 1 + 1 + 1 + 1 + 1 ≤ w128.heap.size := by omega
  have hn_r9_10 : w.heap.size + 1 + 1 + 1 + 1 + 1 ≤ g_r9_10 := by have := hN_r9_10; omega
  have hn_r9_11 : w.heap.size + 1 + 1 + 1 + 1 + 1 ≤ g_r9_11 := by have := hN_r9_11; omega
  clear hF_w128 hb_w128 HH_r9_10 hG_r9_10 hN_r9_10 HH_r9_11 hG_r9_11 hN_r9_11
  clear c_w123_0_0 c_w123_0_1 fz_w123_0 hl_w123_0 c_w123_1_0 c_w123_1_1 c_w123_1_2 c_w123_1_3 c_w123_1_4 c_w123_1_5 fz_w123_1 hl_w123_1 c_w123_2_0 c_w123_2_1 c_w123_2_2 c_w123_2_3 c_w123_2_4 c_w123_2_5 fz_w123_2 hl_w123_2 c_w123_3_0 c_w123_3_1 fz_w123_3 hl_w123_3 c_w123_4_0 c_w123_4_1 fz_w123_4 hl_w123_4 c_w123_5_0 c_w123_5_1 fz_w123_5 hl_w123_5 c_w123_6_0 c_w123_6_1 fz_w123_6 hl_w123_6 c_w123_7_0 c_w123_7_1 fz_w123_7 hl_w123_7
  go_wp2_with fail
  refine HQ_.out _ _ _ ?_
  clear HQ_ Q_
  go_wp2_with fail
  -- own blocks: w.heap.size + 1 + 1 + 1:6, w.heap.size + 1 + 1 + 1 + 1:6, w108.heap.size:2, g_r7_16:2, g_r7_17:2, g_r8_10:2, g_r8_11:2, g_r9_10:2, g_r9_11:2
  (refine pin_wp (N := _) (Nat.le_refl _) (fun w129 hb_w129 hz_w129 => ?_); (try simp at hz_w129); (with_reducible apply cel6 (b := w.heap.size + 1 + 1 + 1) hb_w129); (focus ((try simp) <;> omega)); (focus omega); (focus (go_simp; try exact rfl)); (focus (go_simp; try exact rfl)); (focus (go_simp; try exact rfl)); (focus (go_simp; try exact rfl)); (focus (go_simp; try exact rfl)); (focus (go_simp; try exact rfl)); (focus (intro o; go_simp)); intro c_w129_0_0 c_w129_0_1 c_w129_0_2 c_w129_0_3 c_w129_0_4 c_w129_0_5 fz_w129_0 hl_w129_0; (with_reducible apply cel6 (b := w.heap.size + 1 + 1 + 1 + 1) hb_w129); (focus ((try simp) <;> omega)); (focus omega); (focus (go_simp; try exact rfl)); (focus (go_simp; try exact rfl)); (focus (go_simp; try exact rfl)); (focus (go_simp; try exact rfl)); (focus (go_simp; try exact rfl)); (focus (go_simp; try exact rfl)); (focus (intro o; go_simp)); intro c_w129_1_0 c_w129_1_1 c_w129_1_2 c_w129_1_3 c_w129_1_4 c_w129_1_5 fz_w129_1 hl_w129_1; (with_reducible apply cel2 (b := w108.heap.size) hb_w129); (focus ((try simp) <;> omega)); (focus omega); (focus (go_simp; try exact rfl)); (focus (go_simp; try exact rfl)); (focus (intro o; go_simp)); intro c_w129_2_0 c_w129_2_1 fz_w129_2 hl_w129_2; (with_reducible apply cel2 (b := g_r7_16) hb_w129); (focus ((try simp) <;> omega)); (focus omega); (focus (go_simp; try exact rfl)); (focus (go_simp; try exact rfl)); (focus (intro o; go_simp)); intro c_w129_3_0 c_w129_3_1 fz_w129_3 hl_w129_3; (with_reducible apply cel2 (b := g_r7_17) hb_w129); (focus ((try simp) <;> omega)); (focus omega); (focus (go_simp; try exact rfl)); (focus (go_simp; try exact rfl)); (focus (intro o; go_simp)); intro c_w129_4_0 c_w129_4_1 fz_w129_4 hl_w129_4; (with_reducible apply cel2 (b := g_r8_10) hb_w129); (focus ((try simp) <;> omega)); (focus omega); (focus (go_simp; try exact rfl)); (focus (go_simp; try exact rfl)); (focus (intro o; go_simp)); intro c_w129_5_0 c_w129_5_1 fz_w129_5 hl_w129_5; (with_reducible apply cel2 (b := g_r8_11) hb_w129); (focus ((try simp) <;> omega)); (focus omega); (focus (go_simp; try exact rfl)); (focus (go_simp; try exact rfl)); (focus (intro o; go_simp)); intro c_w129_6_0 c_w129_6_1 fz_w129_6 hl_w129_6; (with_reducible apply cel2 (b := g_r9_10) hb_w129); (focus ((try simp) <;> omega)); (focus omega); (focus (go_simp; try exact rfl)); (focus (go_simp; try exact rfl)); (focus (intro o; go_simp)); intro c_w129_7_0 c_w129_7_1 fz_w129_7 hl_w129_7; (with_reducible apply cel2 (b := g_r9_11) hb_w129); (focus ((try simp) <;> omega)); (focus omega); (focus (go_simp; try exact rfl)); (focus (go_simp; try exact rfl)); (focus (intro o; go_simp)); intro c_w129_8_0 c_w129_8_1 fz_w129_8 hl_w129_8); refine wp_q (fun Q_ HQ_ => ?_); refine wp_region_floatQ w129.heap.size 9 [9] (Nat.le_refl _) (fun _ => True) trivial Cl.tt (by kernel_rfl) (by kernel_rfl) ?_
  clear H124
  clear H126
  replace H108 := Lib.hid (IsC.below (v := .agg #[.bool s108, .slice A108 n108 c108]) (z := (32 * M)) (by ((repeat (first | (with_reducible exact H108.out) | (with_reducible refine IsC.al ?_ _) | (with_reducible apply IsC.st1))) <;> (first | (with_reducible assumption) | (intro _ e; cases e; done) | (go_simp; first | done | exact rfl)))) hb_w129)
  replace H112 := Lib.hid (IsC.below (v := .agg #[.bool s112, .slice A112 n112 c112]) (z := J1) (by ((repeat (first | (with_reducible exact H112.out) | (with_reducible refine IsC.al ?_ _) | (with_reducible apply IsC.st1))) <;> (first | (with_reducible assumption) | (intro _ e; cases e; done) | (go_simp; first | done | exact rfl)))) hb_w129)
  replace H115 := Lib.hid (IsC.below (v := .agg #[.bool s115, .slice A115 n115 c115]) (z := J2) (by ((repeat (first | (with_reducible exact H115.out) | (with_reducible refine IsC.al ?_ _) | (with_reducible apply IsC.st1))) <;> (first | (with_reducible assumption) | (intro _ e; cases e; done) | (go_simp; first | done | exact rfl)))) hb_w129)
  replace H119 := Lib.hid (IsC.below (v := .agg #[.bool s119, .slice A119 n119 c119]) (z := A1) (by ((repeat (first | (with_reducible exact H119.out) | (with_reducible refine IsC.al ?_ _) | (with_reducible apply IsC.st1))) <;> (first | (with_reducible assumption) | (intro _ e; cases e; done) | (go_simp; first | done | exact rfl)))) hb_w129)
  replace H121 := Lib.hid (IsC.below (v := .agg #[.bool s121, .slice A121 n121 c121]) (z := A2) (by ((repeat (first | (with_reducible exact H121.out) | (with_reducible refine IsC.al ?_ _) | (with_reducible apply IsC.st1))) <;> (first | (with_reducible assumption) | (intro _ e; cases e; done) | (go_simp; first | done | exact rfl)))) hb_w129)
  replace H125 := Lib.hid (IsC.below (v := .agg #[.bool s125, .slice A125 n125 c125]) (z := B1) (by ((repeat (first | (with_reducible exact H125.out) | (with_reducible refine IsC.al ?_ _) | (with_reducible apply IsC.st1))) <;> (first | (with_reducible assumption) | (intro _ e; cases e; done) | (go_simp; first | done | exact rfl)))) hb_w129)
  replace H127 := Lib.hid (IsC.below (v := .agg #[.bool s127, .slice A127 n127 c127]) (z := B2) (by ((repeat (first | (with_reducible exact H127.out) | (with_reducible refine IsC.al ?_ _) | (with_reducible apply IsC.st1))) <;> (first | (with_reducible assumption) | (intro _ e; cases e; done) | (go_simp; first | done | exact rfl)))) hb_w129)
  have HB129 := Lib.hid (show Below w.heap.size w w129 by have hB := HB128.out; ((with_reducible (repeat (first | exact bR _ _ | refine bS ?_ ?_ _ | refine bA ?_ ?_ _ | refine bD ?_ | refine bT ?_ (by assumption) ?_ | refine bO (by assumption) ?_ ?_))) <;> (first | omega | (simp; done) | (simp <;> omega))))
  have hz129 : w.heap.size + 1 + 1 + 1 + 1 + 1 ≤ w129.heap.size := by omega
  clear hb_w129
  clear c_w128_r9_11_0 c_w128_r9_11_1 fz_w128_r9_11 c_w128_r9_10_0 c_w128_r9_10_1 fz_w128_r9_10 c_w128_0_0 c_w128_0_1 fz_w128_0 hl_w128_0 c_w128_1_0 c_w128_1_1 c_w128_1_2 c_w128_1_3 c_w128_1_4 c_w128_1_5 fz_w128_1 hl_w128_1 c_w128_2_0 c_w128_2_1 c_w128_2_2 c_w128_2_3 c_w128_2_4 c_w128_2_5 fz_w128_2 hl_w128_2 c_w128_3_0 c_w128_3_1 fz_w128_3 hl_w128_3 c_w128_4_0 c_w128_4_1 fz_w128_4 hl_w128_4 c_w128_5_0 c_w128_5_1 fz_w128_5 hl_w128_5 c_w128_6_0 c_w128_6_1 fz_w128_6 hl_w128_6 c_w128_7_0 c_w128_7_1 fz_w128_7 hl_w128_7
  refine wpQI_start [0, 1] ?_; (iterate 2 (first | (refine wpQI_off (by with_reducible (refine List.getElem?_toArray.trans ?_; (repeat (first | exact List.getElem?_cons_zero | refine List.getElem?_cons_succ.trans ?_)))) (by kernel_rfl) (by exact rfl) (fun K hK => ?_); go_simp; refine hK _ ?_; clear hK K) | ((first | apply wpQI_step (by with_reducible (refine List.getElem?_toArray.trans ?_; (repeat (first | exact List.getElem?_cons_zero | refine List.getElem?_cons_succ.trans ?_)))) (by kernel_rfl) (by exact rfl) | apply wpQI_on (by with_reducible (refine List.getElem?_toArray.trans ?_; (repeat (first | exact List.getElem?_cons_zero | refine List.getElem?_cons_succ.trans ?_)))) (by kernel_rfl) (by exact rfl)); (focus (intro W' hS; have hcS := hS.cells.1; have hfS := hS.cells.2; go_simp; (first | done | exact rfl | exact ⟨rfl, Below.refl _ _⟩ | (go_simp; first | done | exact rfl | exact ⟨rfl, Below.refl _ _⟩)))); intro K hK; go_simp; (try go_bits); refine hK _ ?_; clear hK K))); refine wpQI_nil ?_
  refine wpQI_start [3, 4] ?_; (iterate 2 (first | (refine wpQI_off (by with_reducible (refine List.getElem?_toArray.trans ?_; (repeat (first | exact List.getElem?_cons_zero | refine List.getElem?_cons_succ.trans ?_)))) (by kernel_rfl) (by exact rfl) (fun K hK => ?_); go_simp; refine hK _ ?_; clear hK K) | ((first | apply wpQI_step (by with_reducible (refine List.getElem?_toArray.trans ?_; (repeat (first | exact List.getElem?_cons_zero | refine List.getElem?_cons_succ.trans ?_)))) (by kernel_rfl) (by exact rfl) | apply wpQI_on (by with_reducible (refine List.getElem?_toArray.trans ?_; (repeat (first | exact List.getElem?_cons_zero | refine List.getElem?_cons_succ.trans ?_)))) (by kernel_rfl) (by exact rfl)); (focus (intro W' hS; have hcS := hS.cells.1; have hfS := hS.cells.2; go_simp; (first | done | exact rfl | exact ⟨rfl, Below.refl _ _⟩ | (go_simp; first | done | exact rfl | exact ⟨rfl, Below.refl _ _⟩)))); intro K hK; go_simp; (try go_bits); refine hK _ ?_; clear hK K))); refine wpQI_nil ?_
  refine wpQI_start [6] ?_; (iterate 1 (first | (refine wpQI_off (by with_reducible (refine List.getElem?_toArray.trans ?_; (repeat (first | exact List.getElem?_cons_zero | refine List.getElem?_cons_succ.trans ?_)))) (by kernel_rfl) (by exact rfl) (fun K hK => ?_); go_simp; refine hK _ ?_; clear hK K) | ((first | apply wpQI_step (by with_reducible (refine List.getElem?_toArray.trans ?_; (repeat (first | exact List.getElem?_cons_zero | refine List.getElem?_cons_succ.trans ?_)))) (by kernel_rfl) (by exact rfl) | apply wpQI_on (by with_reducible (refine List.getElem?_toArray.trans ?_; (repeat (first | exact List.getElem?_cons_zero | refine List.getElem?_cons_succ.trans ?_)))) (by kernel_rfl) (by exact rfl)); (focus (intro W' hS; have hcS := hS.cells.1; have hfS := hS.cells.2; go_simp; (first | done | exact rfl | exact ⟨rfl, Below.refl _ _⟩ | (go_simp; first | done | exact rfl | exact ⟨rfl, Below.refl _ _⟩)))); intro K hK; go_simp; (try go_bits); refine hK _ ?_; clear hK K))); refine wpQI_nil ?_
  apply wpQ_call (i := 2) (by with_reducible (refine List.getElem?_toArray.trans ?_; (repeat (first | exact List.getElem?_cons_zero | refine List.getElem?_cons_succ.trans ?_)))) (by kernel_rfl) (by exact rfl); intro W hF hS; have hcS := hS.1.cells.1; have hfS := hS.1.cells.2; go_simp; (go_at_call 101; refine (K27.out _ _ _ ((H119.out.below hS.1.2).zl L15.out) ((H112.out.below hS.1.2).zl L9.out)).mono ?_; rintro e w130 ⟨hb_w130, v130, rfl, hv130⟩; refine XPost.mk _ (fun W => IsC W v130 (X1)) hb_w130 (hv130) (IsC.cl _ _) ?_); clear hb_w130 hcS hfS hS hF
  intro K hK; go_simp; (try go_bits); refine hK _ ?_; clear hK K
  obtain ⟨s130, A130, n130, c130, rfl⟩ := IsC.val hv130
  clear hv130
  apply wpQ_call (i := 5) (by with_reducible (refine List.getElem?_toArray.trans ?_; (repeat (first | exact List.getElem?_cons_zero | refine List.getElem?_cons_succ.trans ?_)))) (by kernel_rfl) (by exact rfl); intro W hF hS; have hcS := hS.1.cells.1; have hfS := hS.1.cells.2; go_simp; (go_at_call 101; refine (K28.out _ _ _ ((H121.out.below hS.1.2).zl L16.out) ((H115.out.below hS.1.2).zl L10.out)).mono ?_; rintro e w131 ⟨hb_w131, v131, rfl, hv131⟩; refine XPost.mk _ (fun W => IsC W v131 (X2)) hb_w131 (hv131) (IsC.cl _ _) ?_); clear hb_w131 hcS hfS hS hF
  intro K hK; go_simp; (try go_bits); refine hK _ ?_; clear hK K
  obtain ⟨s131, A131, n131, c131, rfl⟩ := IsC.val hv131
  clear hv131
  refine wpQI_start [7] ?_; (iterate 1 (first | (refine wpQI_off (by with_reducible (refine List.getElem?_toArray.trans ?_; (repeat (first | exact List.getElem?_cons_zero | refine List.getElem?_cons_succ.trans ?_)))) (by kernel_rfl) (by exact rfl) (fun K hK => ?_); go_simp; refine hK _ ?_; clear hK K) | ((first | apply wpQI_step (by with_reducible (refine List.getElem?_toArray.trans ?_; (repeat (first | exact List.getElem?_cons_zero | refine List.getElem?_cons_succ.trans ?_)))) (by kernel_rfl) (by exact rfl) | apply wpQI_on (by with_reducible (refine List.getElem?_toArray.trans ?_; (repeat (first | exact List.getElem?_cons_zero | refine List.getElem?_cons_succ.trans ?_)))) (by kernel_rfl) (by exact rfl)); (focus (intro W' hS; have hcS := hS.cells.1; have hfS := hS.cells.2; go_simp; (first | done | exact rfl | exact ⟨rfl, Below.refl _ _⟩ | (go_simp; first | done | exact rfl | exact ⟨rfl, Below.refl _ _⟩)))); intro K hK; go_simp; (try go_bits); refine hK _ ?_; clear hK K))); refine wpQI_nil ?_
  apply wpQ_fresh (i := 8) LInv.std (by with_reducible (refine List.getElem?_toArray.trans ?_; (repeat (first | exact List.getElem?_cons_zero | refine List.getElem?_cons_succ.trans ?_)))) (by kernel_rfl) (fun g => Value.pointer (some ⟨g, 0, none⟩)) (by exact rfl); (focus (intro W; go_simp; first | done | exact rfl | exact ⟨rfl, rfl⟩))
  intro g_r10_8 hN_r10_8 hG_r10_8 K hK
  go_simp; refine hK _ ?_; clear hK K
  have hne : w.heap.size ≠ g_r10_8 := by have := hN_r10_8; omega
  have hne := Ne.symm hne
  have hne : w.heap.size + 1 ≠ g_r10_8 := by have := hN_r10_8; omega
  have hne := Ne.symm hne
  have hne : w.heap.size + 1 + 1 ≠ g_r10_8 := by have := hN_r10_8; omega
  have hne := Ne.symm hne
  have hne : w.heap.size + 1 + 1 + 1 ≠ g_r10_8 := by have := hN_r10_8; omega
  have hne := Ne.symm hne
  have hne : w.heap.size + 1 + 1 + 1 + 1 ≠ g_r10_8 := by have := hN_r10_8; omega
  have hne := Ne.symm hne
  have hne : w108.heap.size ≠ g_r10_8 := by have := hN_r10_8; omega
  have hne := Ne.symm hne
  have hne : g_r7_16 ≠ g_r10_8 := by have := hN_r10_8; omega
  have hne := Ne.symm hne
  have hne : g_r7_17 ≠ g_r10_8 := by have := hN_r10_8; omega
  have hne := Ne.symm hne
  have hne : g_r8_10 ≠ g_r10_8 := by have := hN_r10_8; omega
  have hne := Ne.symm hne
  have hne : g_r8_11 ≠ g_r10_8 := by have := hN_r10_8; omega
  have hne := Ne.symm hne
  have hne : g_r9_10 ≠ g_r10_8 := by have := hN_r10_8; omega
  have hne := Ne.symm hne
  have hne : g_r9_11 ≠ g_r10_8 := by have := hN_r10_8; omega
  have hne := Ne.symm hne
  refine wpQ_done (by kernel_rfl) ?_
  intro w132 hF_w132 hSG
  have hz_w132 := hSG.1.1
  have hb_w132 := hSG.1.2
  have hB_r10_8 := (hSG.2 _ (List.mem_cons_self ..)).2; simp only at hB_r10_8; have hl_r10_8 := (hSG.size (List.mem_cons_self ..)); simp only at hl_r10_8
  have c_w132_r10_8_0 := cell_of_row w132 g_r10_8 0 _ _ _ hB_r10_8; simp only [List.getElem?_toArray, List.getElem?_cons_zero] at c_w132_r10_8_0
  have c_w132_r10_8_1 := cell_of_row w132 g_r10_8 1 _ _ _ hB_r10_8; simp only [List.getElem?_toArray, List.getElem?_cons_zero, List.getElem?_cons_succ] at c_w132_r10_8_1
  have c_w132_r10_8_2 := cell_of_row w132 g_r10_8 2 _ _ _ hB_r10_8; simp only [List.getElem?_toArray, List.getElem?_cons_zero, List.getElem?_cons_succ] at c_w132_r10_8_2
  have c_w132_r10_8_3 := cell_of_row w132 g_r10_8 3 _ _ _ hB_r10_8; simp only [List.getElem?_toArray, List.getElem?_cons_zero, List.getElem?_cons_succ] at c_w132_r10_8_3
  have c_w132_r10_8_4 := cell_of_row w132 g_r10_8 4 _ _ _ hB_r10_8; simp only [List.getElem?_toArray, List.getElem?_cons_zero, List.getElem?_cons_succ] at c_w132_r10_8_4
  have c_w132_r10_8_5 := cell_of_row w132 g_r10_8 5 _ _ _ hB_r10_8; simp only [List.getElem?_toArray, List.getElem?_cons_zero, List.getElem?_cons_succ] at c_w132_r10_8_5
  have fz_w132_r10_8 : (∀ o, w132.frozen? ⟨g_r10_8, o, none⟩ = false) := (fun o => frozen_of_row w132 g_r10_8 o _ _ hB_r10_8); have HH_r10_8 := Lib.hid hB_r10_8; clear hB_r10_8
  clear hSG
  (with_reducible apply cel6 (b := w.heap.size + 1 + 1 + 1) hb_w132); (focus ((try simp) <;> omega)); (focus omega); (focus (go_simp; try exact rfl)); (focus (go_simp; try exact rfl)); (focus (go_simp; try exact rfl)); (focus (go_simp; try exact rfl)); (focus (go_simp; try exact rfl)); (focus (go_simp; try exact rfl)); (focus (intro o; go_simp)); intro c_w132_0_0 c_w132_0_1 c_w132_0_2 c_w132_0_3 c_w132_0_4 c_w132_0_5 fz_w132_0 hl_w132_0; (with_reducible apply cel6 (b := w.heap.size + 1 + 1 + 1 + 1) hb_w132); (focus ((try simp) <;> omega)); (focus omega); (focus (go_simp; try exact rfl)); (focus (go_simp; try exact rfl)); (focus (go_simp; try exact rfl)); (focus (go_simp; try exact rfl)); (focus (go_simp; try exact rfl)); (focus (go_simp; try exact rfl)); (focus (intro o; go_simp)); intro c_w132_1_0 c_w132_1_1 c_w132_1_2 c_w132_1_3 c_w132_1_4 c_w132_1_5 fz_w132_1 hl_w132_1; (with_reducible apply cel2 (b := w108.heap.size) hb_w132); (focus ((try simp) <;> omega)); (focus omega); (focus (go_simp; try exact rfl)); (focus (go_simp; try exact rfl)); (focus (intro o; go_simp)); intro c_w132_2_0 c_w132_2_1 fz_w132_2 hl_w132_2; (with_reducible apply cel2 (b := g_r7_16) hb_w132); (focus ((try simp) <;> omega)); (focus omega); (focus (go_simp; try exact rfl)); (focus (go_simp; try exact rfl)); (focus (intro o; go_simp)); intro c_w132_3_0 c_w132_3_1 fz_w132_3 hl_w132_3; (with_reducible apply cel2 (b := g_r7_17) hb_w132); (focus ((try simp) <;> omega)); (focus omega); (focus (go_simp; try exact rfl)); (focus (go_simp; try exact rfl)); (focus (intro o; go_simp)); intro c_w132_4_0 c_w132_4_1 fz_w132_4 hl_w132_4; (with_reducible apply cel2 (b := g_r8_10) hb_w132); (focus ((try simp) <;> omega)); (focus omega); (focus (go_simp; try exact rfl)); (focus (go_simp; try exact rfl)); (focus (intro o; go_simp)); intro c_w132_5_0 c_w132_5_1 fz_w132_5 hl_w132_5; (with_reducible apply cel2 (b := g_r8_11) hb_w132); (focus ((try simp) <;> omega)); (focus omega); (focus (go_simp; try exact rfl)); (focus (go_simp; try exact rfl)); (focus (intro o; go_simp)); intro c_w132_6_0 c_w132_6_1 fz_w132_6 hl_w132_6; (with_reducible apply cel2 (b := g_r9_10) hb_w132); (focus ((try simp) <;> omega)); (focus omega); (focus (go_simp; try exact rfl)); (focus (go_simp; try exact rfl)); (focus (intro o; go_simp)); intro c_w132_7_0 c_w132_7_1 fz_w132_7 hl_w132_7; (with_reducible apply cel2 (b := g_r9_11) hb_w132); (focus ((try simp) <;> omega)); (focus omega); (focus (go_simp; try exact rfl)); (focus (go_simp; try exact rfl)); (focus (intro o; go_simp)); intro c_w132_8_0 c_w132_8_1 fz_w132_8 hl_w132_8
  (try simp only [List.filterMap_cons, List.filterMap_nil, List.getElem?_cons_succ, List.getElem?_cons_zero])
  clear H119
  clear H121
  replace H108 := Lib.hid (H108.out.below hb_w132)
  replace H112 := Lib.hid (H112.out.below hb_w132)
  replace H115 := Lib.hid (H115.out.below hb_w132)
  replace H125 := Lib.hid (H125.out.below hb_w132)
  replace H127 := Lib.hid (H127.out.below hb_w132)
  have H130 := Lib.hid (show IsC w132 (.agg #[.bool s130, .slice A130 n130 c130]) (X1) from hF_w132.1)
  have H131 := Lib.hid (show IsC w132 (.agg #[.bool s131, .slice A131 n131 c131]) (X2) from hF_w132.2)
  have HB132 := Lib.hid (HB129.out.trans (hb_w132.mono (by have := HB129.out.size; omega)))
  have hz132 : w.heap.size + 1 + 1 + 1 + 1 + 1 ≤ w132.heap.size := by omega
  have hn_r10_8 : w.heap.size + 1 + 1 + 1 + 1 + 1 ≤ g_r10_8 := by have := hN_r10_8; omega
  clear hF_w132 hb_w132 HH_r10_8 hG_r10_8 hN_r10_8
  clear c_w129_0_0 c_w129_0_1 c_w129_0_2 c_w129_0_3 c_w129_0_4 c_w129_0_5 fz_w129_0 hl_w129_0 c_w129_1_0 c_w129_1_1 c_w129_1_2 c_w129_1_3 c_w129_1_4 c_w129_1_5 fz_w129_1 hl_w129_1 c_w129_2_0 c_w129_2_1 fz_w129_2 hl_w129_2 c_w129_3_0 c_w129_3_1 fz_w129_3 hl_w129_3 c_w129_4_0 c_w129_4_1 fz_w129_4 hl_w129_4 c_w129_5_0 c_w129_5_1 fz_w129_5 hl_w129_5 c_w129_6_0 c_w129_6_1 fz_w129_6 hl_w129_6 c_w129_7_0 c_w129_7_1 fz_w129_7 hl_w129_7 c_w129_8_0 c_w129_8_1 fz_w129_8 hl_w129_8
  go_wp2_with fail
  refine HQ_.out _ _ _ ?_
  clear HQ_ Q_
  go_wp2_with fail
  -- own blocks: w.heap.size + 1 + 1 + 1:6, w.heap.size + 1 + 1 + 1 + 1:6, w108.heap.size:2, g_r7_16:2, g_r7_17:2, g_r9_10:2, g_r9_11:2, g_r10_8:6
  (refine pin_wp (N := _) (Nat.le_refl _) (fun w133 hb_w133 hz_w133 => ?_); (try simp at hz_w133); (with_reducible apply cel6 (b := w.heap.size + 1 + 1 + 1) hb_w133); (focus ((try simp) <;> omega)); (focus omega); (focus (go_simp; try exact rfl)); (focus (go_simp; try exact rfl)); (focus (go_simp; try exact rfl)); (focus (go_simp; try exact rfl)); (focus (go_simp; try exact rfl)); (focus (go_simp; try exact rfl)); (focus (intro o; go_simp)); intro c_w133_0_0 c_w133_0_1 c_w133_0_2 c_w133_0_3 c_w133_0_4 c_w133_0_5 fz_w133_0 hl_w133_0; (with_reducible apply cel6 (b := w.heap.size + 1 + 1 + 1 + 1) hb_w133); (focus ((try simp) <;> omega)); (focus omega); (focus (go_simp; try exact rfl)); (focus (go_simp; try exact rfl)); (focus (go_simp; try exact rfl)); (focus (go_simp; try exact rfl)); (focus (go_simp; try exact rfl)); (focus (go_simp; try exact rfl)); (focus (intro o; go_simp)); intro c_w133_1_0 c_w133_1_1 c_w133_1_2 c_w133_1_3 c_w133_1_4 c_w133_1_5 fz_w133_1 hl_w133_1; (with_reducible apply cel2 (b := w108.heap.size) hb_w133); (focus ((try simp) <;> omega)); (focus omega); (focus (go_simp; try exact rfl)); (focus (go_simp; try exact rfl)); (focus (intro o; go_simp)); intro c_w133_2_0 c_w133_2_1 fz_w133_2 hl_w133_2; (with_reducible apply cel2 (b := g_r7_16) hb_w133); (focus ((try simp) <;> omega)); (focus omega); (focus (go_simp; try exact rfl)); (focus (go_simp; try exact rfl)); (focus (intro o; go_simp)); intro c_w133_3_0 c_w133_3_1 fz_w133_3 hl_w133_3; (with_reducible apply cel2 (b := g_r7_17) hb_w133); (focus ((try simp) <;> omega)); (focus omega); (focus (go_simp; try exact rfl)); (focus (go_simp; try exact rfl)); (focus (intro o; go_simp)); intro c_w133_4_0 c_w133_4_1 fz_w133_4 hl_w133_4; (with_reducible apply cel2 (b := g_r9_10) hb_w133); (focus ((try simp) <;> omega)); (focus omega); (focus (go_simp; try exact rfl)); (focus (go_simp; try exact rfl)); (focus (intro o; go_simp)); intro c_w133_5_0 c_w133_5_1 fz_w133_5 hl_w133_5; (with_reducible apply cel2 (b := g_r9_11) hb_w133); (focus ((try simp) <;> omega)); (focus omega); (focus (go_simp; try exact rfl)); (focus (go_simp; try exact rfl)); (focus (intro o; go_simp)); intro c_w133_6_0 c_w133_6_1 fz_w133_6 hl_w133_6; (with_reducible apply cel6 (b := g_r10_8) hb_w133); (focus ((try simp) <;> omega)); (focus omega); (focus (go_simp; try exact rfl)); (focus (go_simp; try exact rfl)); (focus (go_simp; try exact rfl)); (focus (go_simp; try exact rfl)); (focus (go_simp; try exact rfl)); (focus (go_simp; try exact rfl)); (focus (intro o; go_simp)); intro c_w133_7_0 c_w133_7_1 c_w133_7_2 c_w133_7_3 c_w133_7_4 c_w133_7_5 fz_w133_7 hl_w133_7); refine wp_q (fun Q_ HQ_ => ?_); refine wp_region_floatQ w133.heap.size 9 [9] (Nat.le_refl _) (fun _ => True) trivial Cl.tt (by kernel_rfl) (by kernel_rfl) ?_
  replace H108 := Lib.hid (IsC.below (v := .agg #[.bool s108, .slice A108 n108 c108]) (z := (32 * M)) (by ((repeat (first | (with_reducible exact H108.out) | (with_reducible refine IsC.al ?_ _) | (with_reducible apply IsC.st1))) <;> (first | (with_reducible assumption) | (intro _ e; cases e; done) | (go_simp; first | done | exact rfl)))) hb_w133)
  replace H112 := Lib.hid (IsC.below (v := .agg #[.bool s112, .slice A112 n112 c112]) (z := J1) (by ((repeat (first | (with_reducible exact H112.out) | (with_reducible refine IsC.al ?_ _) | (with_reducible apply IsC.st1))) <;> (first | (with_reducible assumption) | (intro _ e; cases e; done) | (go_simp; first | done | exact rfl)))) hb_w133)
  replace H115 := Lib.hid (IsC.below (v := .agg #[.bool s115, .slice A115 n115 c115]) (z := J2) (by ((repeat (first | (with_reducible exact H115.out) | (with_reducible refine IsC.al ?_ _) | (with_reducible apply IsC.st1))) <;> (first | (with_reducible assumption) | (intro _ e; cases e; done) | (go_simp; first | done | exact rfl)))) hb_w133)
  replace H125 := Lib.hid (IsC.below (v := .agg #[.bool s125, .slice A125 n125 c125]) (z := B1) (by ((repeat (first | (with_reducible exact H125.out) | (with_reducible refine IsC.al ?_ _) | (with_reducible apply IsC.st1))) <;> (first | (with_reducible assumption) | (intro _ e; cases e; done) | (go_simp; first | done | exact rfl)))) hb_w133)
  replace H127 := Lib.hid (IsC.below (v := .agg #[.bool s127, .slice A127 n127 c127]) (z := B2) (by ((repeat (first | (with_reducible exact H127.out) | (with_reducible refine IsC.al ?_ _) | (with_reducible apply IsC.st1))) <;> (first | (with_reducible assumption) | (intro _ e; cases e; done) | (go_simp; first | done | exact rfl)))) hb_w133)
  replace H130 := Lib.hid (IsC.below (v := .agg #[.bool s130, .slice A130 n130 c130]) (z := X1) (by ((repeat (first | (with_reducible exact H130.out) | (with_reducible refine IsC.al ?_ _) | (with_reducible apply IsC.st1))) <;> (first | (with_reducible assumption) | (intro _ e; cases e; done) | (go_simp; first | done | exact rfl)))) hb_w133)
  replace H131 := Lib.hid (IsC.below (v := .agg #[.bool s131, .slice A131 n131 c131]) (z := X2) (by ((repeat (first | (with_reducible exact H131.out) | (with_reducible refine IsC.al ?_ _) | (with_reducible apply IsC.st1))) <;> (first | (with_reducible assumption) | (intro _ e; cases e; done) | (go_simp; first | done | exact rfl)))) hb_w133)
  have HB133 := Lib.hid (show Below w.heap.size w w133 by have hB := HB132.out; ((with_reducible (repeat (first | exact bR _ _ | refine bS ?_ ?_ _ | refine bA ?_ ?_ _ | refine bD ?_ | refine bT ?_ (by assumption) ?_ | refine bO (by assumption) ?_ ?_))) <;> (first | omega | (simp; done) | (simp <;> omega))))
  have hz133 : w.heap.size + 1 + 1 + 1 + 1 + 1 ≤ w133.heap.size := by omega
  clear hb_w133
  clear c_w132_r10_8_0 c_w132_r10_8_1 c_w132_r10_8_2 c_w132_r10_8_3 c_w132_r10_8_4 c_w132_r10_8_5 fz_w132_r10_8 c_w132_0_0 c_w132_0_1 c_w132_0_2 c_w132_0_3 c_w132_0_4 c_w132_0_5 fz_w132_0 hl_w132_0 c_w132_1_0 c_w132_1_1 c_w132_1_2 c_w132_1_3 c_w132_1_4 c_w132_1_5 fz_w132_1 hl_w132_1 c_w132_2_0 c_w132_2_1 fz_w132_2 hl_w132_2 c_w132_3_0 c_w132_3_1 fz_w132_3 hl_w132_3 c_w132_4_0 c_w132_4_1 fz_w132_4 hl_w132_4 c_w132_5_0 c_w132_5_1 fz_w132_5 hl_w132_5 c_w132_6_0 c_w132_6_1 fz_w132_6 hl_w132_6 c_w132_7_0 c_w132_7_1 fz_w132_7 hl_w132_7 c_w132_8_0 c_w132_8_1 fz_w132_8 hl_w132_8
  refine wpQI_start [0, 1] ?_; (iterate 2 (first | (refine wpQI_off (by with_reducible (refine List.getElem?_toArray.trans ?_; (repeat (first | exact List.getElem?_cons_zero | refine List.getElem?_cons_succ.trans ?_)))) (by kernel_rfl) (by exact rfl) (fun K hK => ?_); go_simp; refine hK _ ?_; clear hK K) | ((first | apply wpQI_step (by with_reducible (refine List.getElem?_toArray.trans ?_; (repeat (first | exact List.getElem?_cons_zero | refine List.getElem?_cons_succ.trans ?_)))) (by kernel_rfl) (by exact rfl) | apply wpQI_on (by with_reducible (refine List.getElem?_toArray.trans ?_; (repeat (first | exact List.getElem?_cons_zero | refine List.getElem?_cons_succ.trans ?_)))) (by kernel_rfl) (by exact rfl)); (focus (intro W' hS; have hcS := hS.cells.1; have hfS := hS.cells.2; go_simp; (first | done | exact rfl | exact ⟨rfl, Below.refl _ _⟩ | (go_simp; first | done | exact rfl | exact ⟨rfl, Below.refl _ _⟩)))); intro K hK; go_simp; (try go_bits); refine hK _ ?_; clear hK K))); refine wpQI_nil ?_
  refine wpQI_start [3, 4] ?_; (iterate 2 (first | (refine wpQI_off (by with_reducible (refine List.getElem?_toArray.trans ?_; (repeat (first | exact List.getElem?_cons_zero | refine List.getElem?_cons_succ.trans ?_)))) (by kernel_rfl) (by exact rfl) (fun K hK => ?_); go_simp; refine hK _ ?_; clear hK K) | ((first | apply wpQI_step (by with_reducible (refine List.getElem?_toArray.trans ?_; (repeat (first | exact List.getElem?_cons_zero | refine List.getElem?_cons_succ.trans ?_)))) (by kernel_rfl) (by exact rfl) | apply wpQI_on (by with_reducible (refine List.getElem?_toArray.trans ?_; (repeat (first | exact List.getElem?_cons_zero | refine List.getElem?_cons_succ.trans ?_)))) (by kernel_rfl) (by exact rfl)); (focus (intro W' hS; have hcS := hS.cells.1; have hfS := hS.cells.2; go_simp; (first | done | exact rfl | exact ⟨rfl, Below.refl _ _⟩ | (go_simp; first | done | exact rfl | exact ⟨rfl, Below.refl _ _⟩)))); intro K hK; go_simp; (try go_bits); refine hK _ ?_; clear hK K))); refine wpQI_nil ?_
  refine wpQI_start [6] ?_; (iterate 1 (first | (refine wpQI_off (by with_reducible (refine List.getElem?_toArray.trans ?_; (repeat (first | exact List.getElem?_cons_zero | refine List.getElem?_cons_succ.trans ?_)))) (by kernel_rfl) (by exact rfl) (fun K hK => ?_); go_simp; refine hK _ ?_; clear hK K) | ((first | apply wpQI_step (by with_reducible (refine List.getElem?_toArray.trans ?_; (repeat (first | exact List.getElem?_cons_zero | refine List.getElem?_cons_succ.trans ?_)))) (by kernel_rfl) (by exact rfl) | apply wpQI_on (by with_reducible (refine List.getElem?_toArray.trans ?_; (repeat (first | exact List.getElem?_cons_zero | refine List.getElem?_cons_succ.trans ?_)))) (by kernel_rfl) (by exact rfl)); (focus (intro W' hS; have hcS := hS.cells.1; have hfS := hS.cells.2; go_simp; (first | done | exact rfl | exact ⟨rfl, Below.refl _ _⟩ | (go_simp; first | done | exact rfl | exact ⟨rfl, Below.refl _ _⟩)))); intro K hK; go_simp; (try go_bits); refine hK _ ?_; clear hK K))); refine wpQI_nil ?_
  apply wpQ_call (i := 2) (by with_reducible (refine List.getElem?_toArray.trans ?_; (repeat (first | exact List.getElem?_cons_zero | refine List.getElem?_cons_succ.trans ?_)))) (by kernel_rfl) (by exact rfl); intro W hF hS; have hcS := hS.1.cells.1; have hfS := hS.1.cells.2; go_simp; (go_at_call 42; refine (K29.out _ _ _ ((H125.out.below hS.1.2).zl L17.out) ((H112.out.below hS.1.2).zl L9.out)).mono ?_; rintro e w134 ⟨hb_w134, v134, rfl, hv134⟩; refine XPost.mk _ (fun W => IsC W v134 (Y1)) hb_w134 (hv134) (IsC.cl _ _) ?_); clear hb_w134 hcS hfS hS hF
  intro K hK; go_simp; (try go_bits); refine hK _ ?_; clear hK K
  obtain ⟨s134, A134, n134, c134, rfl⟩ := IsC.val hv134
  clear hv134
  apply wpQ_call (i := 5) (by with_reducible (refine List.getElem?_toArray.trans ?_; (repeat (first | exact List.getElem?_cons_zero | refine List.getElem?_cons_succ.trans ?_)))) (by kernel_rfl) (by exact rfl); intro W hF hS; have hcS := hS.1.cells.1; have hfS := hS.1.cells.2; go_simp; (go_at_call 42; refine (K30.out _ _ _ ((H127.out.below hS.1.2).zl L18.out) ((H115.out.below hS.1.2).zl L10.out)).mono ?_; rintro e w135 ⟨hb_w135, v135, rfl, hv135⟩; refine XPost.mk _ (fun W => IsC W v135 (Y2)) hb_w135 (hv135) (IsC.cl _ _) ?_); clear hb_w135 hcS hfS hS hF
  intro K hK; go_simp; (try go_bits); refine hK _ ?_; clear hK K
  obtain ⟨s135, A135, n135, c135, rfl⟩ := IsC.val hv135
  clear hv135
  refine wpQI_start [7] ?_; (iterate 1 (first | (refine wpQI_off (by with_reducible (refine List.getElem?_toArray.trans ?_; (repeat (first | exact List.getElem?_cons_zero | refine List.getElem?_cons_succ.trans ?_)))) (by kernel_rfl) (by exact rfl) (fun K hK => ?_); go_simp; refine hK _ ?_; clear hK K) | ((first | apply wpQI_step (by with_reducible (refine List.getElem?_toArray.trans ?_; (repeat (first | exact List.getElem?_cons_zero | refine List.getElem?_cons_succ.trans ?_)))) (by kernel_rfl) (by exact rfl) | apply wpQI_on (by with_reducible (refine List.getElem?_toArray.trans ?_; (repeat (first | exact List.getElem?_cons_zero | refine List.getElem?_cons_succ.trans ?_)))) (by kernel_rfl) (by exact rfl)); (focus (intro W' hS; have hcS := hS.cells.1; have hfS := hS.cells.2; go_simp; (first | done | exact rfl | exact ⟨rfl, Below.refl _ _⟩ | (go_simp; first | done | exact rfl | exact ⟨rfl, Below.refl _ _⟩)))); intro K hK; go_simp; (try go_bits); refine hK _ ?_; clear hK K))); refine wpQI_nil ?_
  apply wpQ_fresh (i := 8) LInv.std (by with_reducible (refine List.getElem?_toArray.trans ?_; (repeat (first | exact List.getElem?_cons_zero | refine List.getElem?_cons_succ.trans ?_)))) (by kernel_rfl) (fun g => Value.pointer (some ⟨g, 0, none⟩)) (by exact rfl); (focus (intro W; go_simp; first | done | exact rfl | exact ⟨rfl, rfl⟩))
  intro g_r11_8 hN_r11_8 hG_r11_8 K hK
  go_simp; refine hK _ ?_; clear hK K
  have hne : w.heap.size ≠ g_r11_8 := by have := hN_r11_8; omega
  have hne := Ne.symm hne
  have hne : w.heap.size + 1 ≠ g_r11_8 := by have := hN_r11_8; omega
  have hne := Ne.symm hne
  have hne : w.heap.size + 1 + 1 ≠ g_r11_8 := by have := hN_r11_8; omega
  have hne := Ne.symm hne
  have hne : w.heap.size + 1 + 1 + 1 ≠ g_r11_8 := by have := hN_r11_8; omega
  have hne := Ne.symm hne
  have hne : w.heap.size + 1 + 1 + 1 + 1 ≠ g_r11_8 := by have := hN_r11_8; omega
  have hne := Ne.symm hne
  have hne : w108.heap.size ≠ g_r11_8 := by have := hN_r11_8; omega
  have hne := Ne.symm hne
  have hne : g_r7_16 ≠ g_r11_8 := by have := hN_r11_8; omega
  have hne := Ne.symm hne
  have hne : g_r7_17 ≠ g_r11_8 := by have := hN_r11_8; omega
  have hne := Ne.symm hne
  have hne : g_r8_10 ≠ g_r11_8 := by have := hN_r11_8; omega
  have hne := Ne.symm hne
  have hne : g_r8_11 ≠ g_r11_8 := by have := hN_r11_8; omega
  have hne := Ne.symm hne
  have hne : g_r9_10 ≠ g_r11_8 := by have := hN_r11_8; omega
  have hne := Ne.symm hne
  have hne : g_r9_11 ≠ g_r11_8 := by have := hN_r11_8; omega
  have hne := Ne.symm hne
  have hne : g_r10_8 ≠ g_r11_8 := by have := hN_r11_8; omega
  have hne := Ne.symm hne
  refine wpQ_done (by kernel_rfl) ?_
  intro w136 hF_w136 hSG
  have hz_w136 := hSG.1.1
  have hb_w136 := hSG.1.2
  have hB_r11_8 := (hSG.2 _ (List.mem_cons_self ..)).2; simp only at hB_r11_8; have hl_r11_8 := (hSG.size (List.mem_cons_self ..)); simp only at hl_r11_8
  have c_w136_r11_8_0 := cell_of_row w136 g_r11_8 0 _ _ _ hB_r11_8; simp only [List.getElem?_toArray, List.getElem?_cons_zero] at c_w136_r11_8_0
  have c_w136_r11_8_1 := cell_of_row w136 g_r11_8 1 _ _ _ hB_r11_8; simp only [List.getElem?_toArray, List.getElem?_cons_zero, List.getElem?_cons_succ] at c_w136_r11_8_1
  have c_w136_r11_8_2 := cell_of_row w136 g_r11_8 2 _ _ _ hB_r11_8; simp only [List.getElem?_toArray, List.getElem?_cons_zero, List.getElem?_cons_succ] at c_w136_r11_8_2
  have c_w136_r11_8_3 := cell_of_row w136 g_r11_8 3 _ _ _ hB_r11_8; simp only [List.getElem?_toArray, List.getElem?_cons_zero, List.getElem?_cons_succ] at c_w136_r11_8_3
  have c_w136_r11_8_4 := cell_of_row w136 g_r11_8 4 _ _ _ hB_r11_8; simp only [List.getElem?_toArray, List.getElem?_cons_zero, List.getElem?_cons_succ] at c_w136_r11_8_4
  have c_w136_r11_8_5 := cell_of_row w136 g_r11_8 5 _ _ _ hB_r11_8; simp only [List.getElem?_toArray, List.getElem?_cons_zero, List.getElem?_cons_succ] at c_w136_r11_8_5
  have fz_w136_r11_8 : (∀ o, w136.frozen? ⟨g_r11_8, o, none⟩ = false) := (fun o => frozen_of_row w136 g_r11_8 o _ _ hB_r11_8); have HH_r11_8 := Lib.hid hB_r11_8; clear hB_r11_8
  clear hSG
  (with_reducible apply cel6 (b := w.heap.size + 1 + 1 + 1) hb_w136); (focus ((try simp) <;> omega)); (focus omega); (focus (go_simp; try exact rfl)); (focus (go_simp; try exact rfl)); (focus (go_simp; try exact rfl)); (focus (go_simp; try exact rfl)); (focus (go_simp; try exact rfl)); (focus (go_simp; try exact rfl)); (focus (intro o; go_simp)); intro c_w136_0_0 c_w136_0_1 c_w136_0_2 c_w136_0_3 c_w136_0_4 c_w136_0_5 fz_w136_0 hl_w136_0; (with_reducible apply cel6 (b := w.heap.size + 1 + 1 + 1 + 1) hb_w136); (focus ((try simp) <;> omega)); (focus omega); (focus (go_simp; try exact rfl)); (focus (go_simp; try exact rfl)); (focus (go_simp; try exact rfl)); (focus (go_simp; try exact rfl)); (focus (go_simp; try exact rfl)); (focus (go_simp; try exact rfl)); (focus (intro o; go_simp)); intro c_w136_1_0 c_w136_1_1 c_w136_1_2 c_w136_1_3 c_w136_1_4 c_w136_1_5 fz_w136_1 hl_w136_1; (with_reducible apply cel2 (b := w108.heap.size) hb_w136); (focus ((try simp) <;> omega)); (focus omega); (focus (go_simp; try exact rfl)); (focus (go_simp; try exact rfl)); (focus (intro o; go_simp)); intro c_w136_2_0 c_w136_2_1 fz_w136_2 hl_w136_2; (with_reducible apply cel2 (b := g_r7_16) hb_w136); (focus ((try simp) <;> omega)); (focus omega); (focus (go_simp; try exact rfl)); (focus (go_simp; try exact rfl)); (focus (intro o; go_simp)); intro c_w136_3_0 c_w136_3_1 fz_w136_3 hl_w136_3; (with_reducible apply cel2 (b := g_r7_17) hb_w136); (focus ((try simp) <;> omega)); (focus omega); (focus (go_simp; try exact rfl)); (focus (go_simp; try exact rfl)); (focus (intro o; go_simp)); intro c_w136_4_0 c_w136_4_1 fz_w136_4 hl_w136_4; (with_reducible apply cel2 (b := g_r9_10) hb_w136); (focus ((try simp) <;> omega)); (focus omega); (focus (go_simp; try exact rfl)); (focus (go_simp; try exact rfl)); (focus (intro o; go_simp)); intro c_w136_5_0 c_w136_5_1 fz_w136_5 hl_w136_5; (with_reducible apply cel2 (b := g_r9_11) hb_w136); (focus ((try simp) <;> omega)); (focus omega); (focus (go_simp; try exact rfl)); (focus (go_simp; try exact rfl)); (focus (intro o; go_simp)); intro c_w136_6_0 c_w136_6_1 fz_w136_6 hl_w136_6; (with_reducible apply cel6 (b := g_r10_8) hb_w136); (focus ((try simp) <;> omega)); (focus omega); (focus (go_simp; try exact rfl)); (focus (go_simp; try exact rfl)); (focus (go_simp; try exact rfl)); (focus (go_simp; try exact rfl)); (focus (go_simp; try exact rfl)); (focus (go_simp; try exact rfl)); (focus (intro o; go_simp)); intro c_w136_7_0 c_w136_7_1 c_w136_7_2 c_w136_7_3 c_w136_7_4 c_w136_7_5 fz_w136_7 hl_w136_7
  (try simp only [List.filterMap_cons, List.filterMap_nil, List.getElem?_cons_succ, List.getElem?_cons_zero])
  clear H112
  clear H115
  clear H125
  clear H127
  replace H108 := Lib.hid (H108.out.below hb_w136)
  replace H130 := Lib.hid (H130.out.below hb_w136)
  replace H131 := Lib.hid (H131.out.below hb_w136)
  have H134 := Lib.hid (show IsC w136 (.agg #[.bool s134, .slice A134 n134 c134]) (Y1) from hF_w136.1)
  have H135 := Lib.hid (show IsC w136 (.agg #[.bool s135, .slice A135 n135 c135]) (Y2) from hF_w136.2)
  have HB136 := Lib.hid (HB133.out.trans (hb_w136.mono (by have := HB133.out.size; omega)))
  have hz136 : w.heap.size + 1 + 1 + 1 + 1 + 1 ≤ w136.heap.size := by omega
  have hn_r11_8 : w.heap.size + 1 + 1 + 1 + 1 + 1 ≤ g_r11_8 := by have := hN_r11_8; omega
  clear hF_w136 hb_w136 HH_r11_8 hG_r11_8 hN_r11_8
  clear c_w133_0_0 c_w133_0_1 c_w133_0_2 c_w133_0_3 c_w133_0_4 c_w133_0_5 fz_w133_0 hl_w133_0 c_w133_1_0 c_w133_1_1 c_w133_1_2 c_w133_1_3 c_w133_1_4 c_w133_1_5 fz_w133_1 hl_w133_1 c_w133_2_0 c_w133_2_1 fz_w133_2 hl_w133_2 c_w133_3_0 c_w133_3_1 fz_w133_3 hl_w133_3 c_w133_4_0 c_w133_4_1 fz_w133_4 hl_w133_4 c_w133_5_0 c_w133_5_1 fz_w133_5 hl_w133_5 c_w133_6_0 c_w133_6_1 fz_w133_6 hl_w133_6 c_w133_7_0 c_w133_7_1 c_w133_7_2 c_w133_7_3 c_w133_7_4 c_w133_7_5 fz_w133_7 hl_w133_7
  go_wp2_with fail
  refine HQ_.out _ _ _ ?_
  clear HQ_ Q_
  go_wp2_with fail
  -- own blocks: w.heap.size + 1 + 1 + 1:6, w.heap.size + 1 + 1 + 1 + 1:6, g_r10_8:6, g_r11_8:6
  (refine pin_wp (N := _) (Nat.le_refl _) (fun w137 hb_w137 hz_w137 => ?_); (try simp at hz_w137); (with_reducible apply cel6 (b := w.heap.size + 1 + 1 + 1) hb_w137); (focus ((try simp) <;> omega)); (focus omega); (focus (go_simp; try exact rfl)); (focus (go_simp; try exact rfl)); (focus (go_simp; try exact rfl)); (focus (go_simp; try exact rfl)); (focus (go_simp; try exact rfl)); (focus (go_simp; try exact rfl)); (focus (intro o; go_simp)); intro c_w137_0_0 c_w137_0_1 c_w137_0_2 c_w137_0_3 c_w137_0_4 c_w137_0_5 fz_w137_0 hl_w137_0; (with_reducible apply cel6 (b := w.heap.size + 1 + 1 + 1 + 1) hb_w137); (focus ((try simp) <;> omega)); (focus omega); (focus (go_simp; try exact rfl)); (focus (go_simp; try exact rfl)); (focus (go_simp; try exact rfl)); (focus (go_simp; try exact rfl)); (focus (go_simp; try exact rfl)); (focus (go_simp; try exact rfl)); (focus (intro o; go_simp)); intro c_w137_1_0 c_w137_1_1 c_w137_1_2 c_w137_1_3 c_w137_1_4 c_w137_1_5 fz_w137_1 hl_w137_1; (with_reducible apply cel6 (b := g_r10_8) hb_w137); (focus ((try simp) <;> omega)); (focus omega); (focus (go_simp; try exact rfl)); (focus (go_simp; try exact rfl)); (focus (go_simp; try exact rfl)); (focus (go_simp; try exact rfl)); (focus (go_simp; try exact rfl)); (focus (go_simp; try exact rfl)); (focus (intro o; go_simp)); intro c_w137_2_0 c_w137_2_1 c_w137_2_2 c_w137_2_3 c_w137_2_4 c_w137_2_5 fz_w137_2 hl_w137_2; (with_reducible apply cel6 (b := g_r11_8) hb_w137); (focus ((try simp) <;> omega)); (focus omega); (focus (go_simp; try exact rfl)); (focus (go_simp; try exact rfl)); (focus (go_simp; try exact rfl)); (focus (go_simp; try exact rfl)); (focus (go_simp; try exact rfl)); (focus (go_simp; try exact rfl)); (focus (intro o; go_simp)); intro c_w137_3_0 c_w137_3_1 c_w137_3_2 c_w137_3_3 c_w137_3_4 c_w137_3_5 fz_w137_3 hl_w137_3); refine wp_q (fun Q_ HQ_ => ?_); refine wp_region_floatQ w137.heap.size 4 [4, 5] (Nat.le_refl _) (fun _ => True) trivial Cl.tt (by kernel_rfl) (by kernel_rfl) ?_
  replace H108 := Lib.hid (IsC.below (v := .agg #[.bool s108, .slice A108 n108 c108]) (z := (32 * M)) (by ((repeat (first | (with_reducible exact H108.out) | (with_reducible refine IsC.al ?_ _) | (with_reducible apply IsC.st1))) <;> (first | (with_reducible assumption) | (intro _ e; cases e; done) | (go_simp; first | done | exact rfl)))) hb_w137)
  replace H130 := Lib.hid (IsC.below (v := .agg #[.bool s130, .slice A130 n130 c130]) (z := X1) (by ((repeat (first | (with_reducible exact H130.out) | (with_reducible refine IsC.al ?_ _) | (with_reducible apply IsC.st1))) <;> (first | (with_reducible assumption) | (intro _ e; cases e; done) | (go_simp; first | done | exact rfl)))) hb_w137)
  replace H131 := Lib.hid (IsC.below (v := .agg #[.bool s131, .slice A131 n131 c131]) (z := X2) (by ((repeat (first | (with_reducible exact H131.out) | (with_reducible refine IsC.al ?_ _) | (with_reducible apply IsC.st1))) <;> (first | (with_reducible assumption) | (intro _ e; cases e; done) | (go_simp; first | done | exact rfl)))) hb_w137)
  replace H134 := Lib.hid (IsC.below (v := .agg #[.bool s134, .slice A134 n134 c134]) (z := Y1) (by ((repeat (first | (with_reducible exact H134.out) | (with_reducible refine IsC.al ?_ _) | (with_reducible apply IsC.st1))) <;> (first | (with_reducible assumption) | (intro _ e; cases e; done) | (go_simp; first | done | exact rfl)))) hb_w137)
  replace H135 := Lib.hid (IsC.below (v := .agg #[.bool s135, .slice A135 n135 c135]) (z := Y2) (by ((repeat (first | (with_reducible exact H135.out) | (with_reducible refine IsC.al ?_ _) | (with_reducible apply IsC.st1))) <;> (first | (with_reducible assumption) | (intro _ e; cases e; done) | (go_simp; first | done | exact rfl)))) hb_w137)
  have HB137 := Lib.hid (show Below w.heap.size w w137 by have hB := HB136.out; ((with_reducible (repeat (first | exact bR _ _ | refine bS ?_ ?_ _ | refine bA ?_ ?_ _ | refine bD ?_ | refine bT ?_ (by assumption) ?_ | refine bO (by assumption) ?_ ?_))) <;> (first | omega | (simp; done) | (simp <;> omega))))
  have hz137 : w.heap.size + 1 + 1 + 1 + 1 + 1 ≤ w137.heap.size := by omega
  clear hb_w137
  clear c_w136_r11_8_0 c_w136_r11_8_1 c_w136_r11_8_2 c_w136_r11_8_3 c_w136_r11_8_4 c_w136_r11_8_5 fz_w136_r11_8 c_w136_0_0 c_w136_0_1 c_w136_0_2 c_w136_0_3 c_w136_0_4 c_w136_0_5 fz_w136_0 hl_w136_0 c_w136_1_0 c_w136_1_1 c_w136_1_2 c_w136_1_3 c_w136_1_4 c_w136_1_5 fz_w136_1 hl_w136_1 c_w136_2_0 c_w136_2_1 fz_w136_2 hl_w136_2 c_w136_3_0 c_w136_3_1 fz_w136_3 hl_w136_3 c_w136_4_0 c_w136_4_1 fz_w136_4 hl_w136_4 c_w136_5_0 c_w136_5_1 fz_w136_5 hl_w136_5 c_w136_6_0 c_w136_6_1 fz_w136_6 hl_w136_6 c_w136_7_0 c_w136_7_1 c_w136_7_2 c_w136_7_3 c_w136_7_4 c_w136_7_5 fz_w136_7 hl_w136_7
  refine wpQI_start [0] ?_; (iterate 1 (first | (refine wpQI_off (by with_reducible (refine List.getElem?_toArray.trans ?_; (repeat (first | exact List.getElem?_cons_zero | refine List.getElem?_cons_succ.trans ?_)))) (by kernel_rfl) (by exact rfl) (fun K hK => ?_); go_simp; refine hK _ ?_; clear hK K) | ((first | apply wpQI_step (by with_reducible (refine List.getElem?_toArray.trans ?_; (repeat (first | exact List.getElem?_cons_zero | refine List.getElem?_cons_succ.trans ?_)))) (by kernel_rfl) (by exact rfl) | apply wpQI_on (by with_reducible (refine List.getElem?_toArray.trans ?_; (repeat (first | exact List.getElem?_cons_zero | refine List.getElem?_cons_succ.trans ?_)))) (by kernel_rfl) (by exact rfl)); (focus (intro W' hS; have hcS := hS.cells.1; have hfS := hS.cells.2; go_simp; (first | done | exact rfl | exact ⟨rfl, Below.refl _ _⟩ | (go_simp; first | done | exact rfl | exact ⟨rfl, Below.refl _ _⟩)))); intro K hK; go_simp; (try go_bits); refine hK _ ?_; clear hK K))); refine wpQI_nil ?_
  refine wpQI_start [2] ?_; (iterate 1 (first | (refine wpQI_off (by with_reducible (refine List.getElem?_toArray.trans ?_; (repeat (first | exact List.getElem?_cons_zero | refine List.getElem?_cons_succ.trans ?_)))) (by kernel_rfl) (by exact rfl) (fun K hK => ?_); go_simp; refine hK _ ?_; clear hK K) | ((first | apply wpQI_step (by with_reducible (refine List.getElem?_toArray.trans ?_; (repeat (first | exact List.getElem?_cons_zero | refine List.getElem?_cons_succ.trans ?_)))) (by kernel_rfl) (by exact rfl) | apply wpQI_on (by with_reducible (refine List.getElem?_toArray.trans ?_; (repeat (first | exact List.getElem?_cons_zero | refine List.getElem?_cons_succ.trans ?_)))) (by kernel_rfl) (by exact rfl)); (focus (intro W' hS; have hcS := hS.cells.1; have hfS := hS.cells.2; go_simp; (first | done | exact rfl | exact ⟨rfl, Below.refl _ _⟩ | (go_simp; first | done | exact rfl | exact ⟨rfl, Below.refl _ _⟩)))); intro K hK; go_simp; (try go_bits); refine hK _ ?_; clear hK K))); refine wpQI_nil ?_
  apply wpQ_call (i := 1) (by with_reducible (refine List.getElem?_toArray.trans ?_; (repeat (first | exact List.getElem?_cons_zero | refine List.getElem?_cons_succ.trans ?_)))) (by kernel_rfl) (by exact rfl); intro W hF hS; have hcS := hS.1.cells.1; have hfS := hS.1.cells.2; go_simp; (go_at_call 85; refine (K10.out _ _ (⟨_, _, _, _, _, _, _, _, _, _, _, _, rfl, (H130.out.below hS.1.2), (H131.out.below hS.1.2), (H108.out.below hS.1.2)⟩)).mono ?_; rintro e w138 ⟨hb_w138, v138, rfl, hv138⟩; refine XPost.mk _ (fun W => RAt W v138 (P1) (P2) (P3)) hb_w138 (hv138) (RAt.cl _ _ _ _) ?_); clear hb_w138 hcS hfS hS hF
  intro K hK; go_simp; (try go_bits); refine hK _ ?_; clear hK K
  obtain ⟨s138x, A138x, n138x, c138x, s138y, A138y, n138y, c138y, s138d, A138d, n138d, c138d, rfl⟩ := RAt.val hv138
  clear hv138
  apply wpQ_call (i := 3) (by with_reducible (refine List.getElem?_toArray.trans ?_; (repeat (first | exact List.getElem?_cons_zero | refine List.getElem?_cons_succ.trans ?_)))) (by kernel_rfl) (by exact rfl); intro W hF hS; have hcS := hS.1.cells.1; have hfS := hS.1.cells.2; go_simp; (go_at_call 85; refine (K13.out _ _ (⟨_, _, _, _, _, _, _, _, _, _, _, _, rfl, (H134.out.below hS.1.2), (H135.out.below hS.1.2), (H108.out.below hS.1.2)⟩)).mono ?_; rintro e w139 ⟨hb_w139, v139, rfl, hv139⟩; refine XPost.mk _ (fun W => RAt W v139 (Q1) (Q2) (Q3)) hb_w139 (hv139) (RAt.cl _ _ _ _) ?_); clear hb_w139 hcS hfS hS hF
  intro K hK; go_simp; (try go_bits); refine hK _ ?_; clear hK K
  obtain ⟨s139x, A139x, n139x, c139x, s139y, A139y, n139y, c139y, s139d, A139d, n139d, c139d, rfl⟩ := RAt.val hv139
  clear hv139
  refine wpQ_done (by kernel_rfl) ?_
  intro w140 hF_w140 hSG
  have hz_w140 := hSG.1.1
  have hb_w140 := hSG.1.2
  clear hSG
  (with_reducible apply cel6 (b := w.heap.size + 1 + 1 + 1) hb_w140); (focus ((try simp) <;> omega)); (focus omega); (focus (go_simp; try exact rfl)); (focus (go_simp; try exact rfl)); (focus (go_simp; try exact rfl)); (focus (go_simp; try exact rfl)); (focus (go_simp; try exact rfl)); (focus (go_simp; try exact rfl)); (focus (intro o; go_simp)); intro c_w140_0_0 c_w140_0_1 c_w140_0_2 c_w140_0_3 c_w140_0_4 c_w140_0_5 fz_w140_0 hl_w140_0; (with_reducible apply cel6 (b := w.heap.size + 1 + 1 + 1 + 1) hb_w140); (focus ((try simp) <;> omega)); (focus omega); (focus (go_simp; try exact rfl)); (focus (go_simp; try exact rfl)); (focus (go_simp; try exact rfl)); (focus (go_simp; try exact rfl)); (focus (go_simp; try exact rfl)); (focus (go_simp; try exact rfl)); (focus (intro o; go_simp)); intro c_w140_1_0 c_w140_1_1 c_w140_1_2 c_w140_1_3 c_w140_1_4 c_w140_1_5 fz_w140_1 hl_w140_1; (with_reducible apply cel6 (b := g_r10_8) hb_w140); (focus ((try simp) <;> omega)); (focus omega); (focus (go_simp; try exact rfl)); (focus (go_simp; try exact rfl)); (focus (go_simp; try exact rfl)); (focus (go_simp; try exact rfl)); (focus (go_simp; try exact rfl)); (focus (go_simp; try exact rfl)); (focus (intro o; go_simp)); intro c_w140_2_0 c_w140_2_1 c_w140_2_2 c_w140_2_3 c_w140_2_4 c_w140_2_5 fz_w140_2 hl_w140_2; (with_reducible apply cel6 (b := g_r11_8) hb_w140); (focus ((try simp) <;> omega)); (focus omega); (focus (go_simp; try exact rfl)); (focus (go_simp; try exact rfl)); (focus (go_simp; try exact rfl)); (focus (go_simp; try exact rfl)); (focus (go_simp; try exact rfl)); (focus (go_simp; try exact rfl)); (focus (intro o; go_simp)); intro c_w140_3_0 c_w140_3_1 c_w140_3_2 c_w140_3_3 c_w140_3_4 c_w140_3_5 fz_w140_3 hl_w140_3
  (try simp only [List.filterMap_cons, List.filterMap_nil, List.getElem?_cons_succ, List.getElem?_cons_zero])
  clear H108
  clear H130
  clear H131
  clear H134
  clear H135
  have H138 := Lib.hid (show RAt w140 (.agg #[.bool s138x, .slice A138x n138x c138x, .bool s138y, .slice A138y n138y c138y, .bool s138d, .slice A138d n138d c138d]) (P1) (P2) (P3) from hF_w140.1)
  have H139 := Lib.hid (show RAt w140 (.agg #[.bool s139x, .slice A139x n139x c139x, .bool s139y, .slice A139y n139y c139y, .bool s139d, .slice A139d n139d c139d]) (Q1) (Q2) (Q3) from hF_w140.2)
  have HB140 := Lib.hid (HB137.out.trans (hb_w140.mono (by have := HB137.out.size; omega)))
  have hz140 : w.heap.size + 1 + 1 + 1 + 1 + 1 ≤ w140.heap.size := by omega
  clear hF_w140 hb_w140
  clear c_w137_0_0 c_w137_0_1 c_w137_0_2 c_w137_0_3 c_w137_0_4 c_w137_0_5 fz_w137_0 hl_w137_0 c_w137_1_0 c_w137_1_1 c_w137_1_2 c_w137_1_3 c_w137_1_4 c_w137_1_5 fz_w137_1 hl_w137_1 c_w137_2_0 c_w137_2_1 c_w137_2_2 c_w137_2_3 c_w137_2_4 c_w137_2_5 fz_w137_2 hl_w137_2 c_w137_3_0 c_w137_3_1 c_w137_3_2 c_w137_3_3 c_w137_3_4 c_w137_3_5 fz_w137_3 hl_w137_3
  go_wp2_with fail
  refine HQ_.out _ _ _ ?_
  clear HQ_ Q_
  go_wp2_with fail
  -- own blocks: w.heap.size + 1 + 1 + 1:6, w.heap.size + 1 + 1 + 1 + 1:6
  refine bodyPost_ret (v := .tuple #[.agg #[.bool s138x, .slice A138x n138x c138x, .bool s138y, .slice A138y n138y c138y, .bool s138d, .slice A138d n138d c138d], .agg #[.bool s139x, .slice A139x n139x c139x, .bool s139y, .slice A139y n139y c139y, .bool s139d, .slice A139d n139d c139d]]) (by simp only [results, Try.results48]; go_simp) rfl ⟨?_, ?_⟩
  · have hB := HB140.out; ((with_reducible (repeat (first | exact bR _ _ | refine bS ?_ ?_ _ | refine bA ?_ ?_ _ | refine bD ?_ | refine bT ?_ (by assumption) ?_ | refine bO (by assumption) ?_ ?_))) <;> (first | omega | (simp; done) | (simp <;> omega)))
  · exact ⟨_, _, rfl, (by ((repeat (first | (with_reducible exact H138.out) | (with_reducible refine RAt.al ?_ _) | (with_reducible apply RAt.st1))) <;> (first | (with_reducible assumption) | (intro _ e; cases e; done) | (go_simp; first | done | exact rfl)))), (by ((repeat (first | (with_reducible exact H139.out) | (with_reducible refine RAt.al ?_ _) | (with_reducible apply RAt.st1))) <;> (first | (with_reducible assumption) | (intro _ e; cases e; done) | (go_simp; first | done | exact rfl))))⟩
theorem rpair_any (v1 v2 w1 w2 n1 n2 rest : Int) (w : World) : Calls Try.prog 48 #[.agg #[.int .i64 v1, .int .i64 v2], .agg #[.int .i64 w1, .int .i64 w2], .agg #[.int .i64 n1, .int .i64 n2], .int .i64 rest] w (POut2 (pairR v1 v2 w1 w2 n1 n2 rest) w) := by
  unfold pairR
  split
  · rename_i h
    split
    · rename_i ha; exact rpair_on v1 v2 w1 w2 n1 n2 rest w h.1 h.2 ha
    · rename_i ha; exact rpair_away v1 v2 w1 w2 n1 n2 rest w h.1 h.2 (by simpa using ha)
  · rename_i h; exact rpair_bad v1 v2 w1 w2 n1 n2 rest w h
end Go.Proofs.Ytklkhnhieihfoaa
