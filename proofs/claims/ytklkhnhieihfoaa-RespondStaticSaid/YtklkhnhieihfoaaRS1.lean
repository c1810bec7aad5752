/- Law RespondStatic returns true for every Meet and any two integers; each argument reads afterwards as it read before. No conditions. Merged texts: VecE RsA RsE RsH RsQ Open LawRS (what no proof of the claim needs is left out). -/
import Derived.Test.YtklkhnhieihfoaaRb7
import Derived.Deep.LoopGhost
import Derived.ProofKit
import Derived.OpenShut
import Derived.ChangeOld
import Derived.Below
import Derived.Carry
import Derived.Test.YtklkhnhieihfoaaRows
namespace Go.Proofs.Ytklkhnhieihfoaa
open Go.RowKit
set_option linter.unusedVariables false
set_option maxHeartbeats 400000 in
theorem rkept_ok (x y : Int) (w : World) :
    Calls Try.prog 114 #[.agg #[.int .i64 x, .int .i64 y]] w fun e w' => e = .returned (.agg #[.int .i64 (keptR x y).1, .int .i64 (keptR x y).2]) ∧ Below w.heap.size w w' := by
  unfold keptR
  by_cases hs : smallB x y = true
  · rw [if_pos hs]
    go_enter Try.func114, Try.ntmps114; (try simp only [List.append_eq, List.cons_append, List.nil_append])
    go_wp2_with (first | (go_at_call 104; refine (rsmall_any _ _ _).mono ?_; rintro e w1 ⟨rfl, hb1⟩; have hz1 : w.heap.size + 2 ≤ w1.heap.size := (by have h := hb1.size; (try simp at h); omega); have hbb := Below.mono hb1 (B' := w.heap.size + 2) (by (try simp) <;> omega); clear hb1; (with_reducible apply cel2 (b := w.heap.size) hbb); (focus ((try simp) <;> omega)); (focus omega); (focus (go_simp; try exact rfl)); (focus (go_simp; try exact rfl)); (focus (intro o; go_simp)); intro cc cc fz hl; (with_reducible apply cel2 (b := w.heap.size + 1) hbb); (focus ((try simp) <;> omega)); (focus omega); (focus (go_simp; try exact rfl)); (focus (go_simp; try exact rfl)); (focus (intro o; go_simp)); intro cc cc fz hl))
    refine bodyPost_ret (v := .agg #[.int .i64 x, .int .i64 y]) (by simp only [results, Try.results114]; go_simp) rfl ⟨?_, ?_⟩
    · rfl
    · ((with_reducible (repeat (first | exact bR _ _ | refine bS ?_ ?_ _ | refine bA ?_ ?_ _ | refine bD ?_ | refine bT ?_ (by assumption) ?_ | refine bO (by assumption) ?_ ?_))) <;> (first | omega | (simp; done) | (simp <;> omega)))
  · rw [if_neg hs]
    have hs' : smallB x y = false := by simpa using hs
    go_enter Try.func114, Try.ntmps114; (try simp only [List.append_eq, List.cons_append, List.nil_append])
    go_wp2_with (first | (go_at_call 104; refine (rsmall_any _ _ _).mono ?_; rintro e w1 ⟨rfl, hb1⟩; have hz1 : w.heap.size + 2 ≤ w1.heap.size := (by have h := hb1.size; (try simp at h); omega); have hbb := Below.mono hb1 (B' := w.heap.size + 2) (by (try simp) <;> omega); clear hb1; (with_reducible apply cel2 (b := w.heap.size) hbb); (focus ((try simp) <;> omega)); (focus omega); (focus (go_simp; try exact rfl)); (focus (go_simp; try exact rfl)); (focus (intro o; go_simp)); intro cc cc fz hl; (with_reducible apply cel2 (b := w.heap.size + 1) hbb); (focus ((try simp) <;> omega)); (focus omega); (focus (go_simp; try exact rfl)); (focus (go_simp; try exact rfl)); (focus (intro o; go_simp)); intro cc cc fz hl))
    refine bodyPost_ret (v := .agg #[.int .i64 0, .int .i64 0]) (by simp only [results, Try.results114]; go_simp) rfl ⟨?_, ?_⟩
    · rfl
    · ((with_reducible (repeat (first | exact bR _ _ | refine bS ?_ ?_ _ | refine bA ?_ ?_ _ | refine bD ?_ | refine bT ?_ (by assumption) ?_ | refine bO (by assumption) ?_ ?_))) <;> (first | omega | (simp; done) | (simp <;> omega)))
set_option maxHeartbeats 800000 in
theorem rsub_any (a b c d : Int) (w : World) :
    Calls Try.prog 72 #[.agg #[.int .i64 a, .int .i64 b], .agg #[.int .i64 c, .int .i64 d]] w fun e w' => e = .returned (.agg #[.int .i64 (subR a b c d).1, .int .i64 (subR a b c d).2]) ∧ Below w.heap.size w w' := by
  unfold subR
  cases h1 : smallB a b
  · rw [if_neg (fun h => by cases h.1)]
    go_enter Try.func72, Try.ntmps72; (try simp only [List.append_eq, List.cons_append, List.nil_append])
    go_wp2_with (first | (go_at_call 104; refine (rsmall_any _ _ _).mono ?_; rintro e w1 ⟨rfl, hb1⟩; have hz1 : w.heap.size + 3 ≤ w1.heap.size := (by have h := hb1.size; (try simp at h); omega); have hbb := Below.mono hb1 (B' := w.heap.size + 3) (by (try simp) <;> omega); clear hb1; (with_reducible apply cel2 (b := w.heap.size) hbb); (focus ((try simp) <;> omega)); (focus omega); (focus (go_simp; try exact rfl)); (focus (go_simp; try exact rfl)); (focus (intro o; go_simp)); intro cc cc fz hl; (with_reducible apply cel2 (b := w.heap.size + 1) hbb); (focus ((try simp) <;> omega)); (focus omega); (focus (go_simp; try exact rfl)); (focus (go_simp; try exact rfl)); (focus (intro o; go_simp)); intro cc cc fz hl; (with_reducible apply cel2 (b := w.heap.size + 1 + 1) hbb); (focus ((try simp) <;> omega)); (focus omega); (focus (go_simp; try exact rfl)); (focus (go_simp; try exact rfl)); (focus (intro o; go_simp)); intro cc cc fz hl))
    refine bodyPost_ret (v := .agg #[.int .i64 0, .int .i64 0]) (by simp only [results, Try.results72]; go_simp) rfl ⟨?_, ?_⟩
    · rfl
    · ((with_reducible (repeat (first | exact bR _ _ | refine bS ?_ ?_ _ | refine bA ?_ ?_ _ | refine bD ?_ | refine bT ?_ (by assumption) ?_ | refine bO (by assumption) ?_ ?_))) <;> (first | omega | (simp; done) | (simp <;> omega)))
  · cases h2 : smallB c d
    · rw [if_neg (fun h => by cases h.2)]
      go_enter Try.func72, Try.ntmps72; (try simp only [List.append_eq, List.cons_append, List.nil_append])
      go_wp2_with (first | (go_at_call 104; refine (rsmall_any _ _ _).mono ?_; rintro e w1 ⟨rfl, hb1⟩; have hz1 : w.heap.size + 3 ≤ w1.heap.size := (by have h := hb1.size; (try simp at h); omega); have hbb := Below.mono hb1 (B' := w.heap.size + 3) (by (try simp) <;> omega); clear hb1; (with_reducible apply cel2 (b := w.heap.size) hbb); (focus ((try simp) <;> omega)); (focus omega); (focus (go_simp; try exact rfl)); (focus (go_simp; try exact rfl)); (focus (intro o; go_simp)); intro cc cc fz hl; (with_reducible apply cel2 (b := w.heap.size + 1) hbb); (focus ((try simp) <;> omega)); (focus omega); (focus (go_simp; try exact rfl)); (focus (go_simp; try exact rfl)); (focus (intro o; go_simp)); intro cc cc fz hl; (with_reducible apply cel2 (b := w.heap.size + 1 + 1) hbb); (focus ((try simp) <;> omega)); (focus omega); (focus (go_simp; try exact rfl)); (focus (go_simp; try exact rfl)); (focus (intro o; go_simp)); intro cc cc fz hl))
      refine bodyPost_ret (v := .agg #[.int .i64 0, .int .i64 0]) (by simp only [results, Try.results72]; go_simp) rfl ⟨?_, ?_⟩
      · rfl
      · ((with_reducible (repeat (first | exact bR _ _ | refine bS ?_ ?_ _ | refine bA ?_ ?_ _ | refine bD ?_ | refine bT ?_ (by assumption) ?_ | refine bO (by assumption) ?_ ?_))) <;> (first | omega | (simp; done) | (simp <;> omega)))
    · rw [if_pos ⟨rfl, rfl⟩]
      obtain ⟨q1, q2, q3, q4⟩ := small_bd h1
      obtain ⟨q5, q6, q7, q8⟩ := small_bd h2
      go_enter Try.func72, Try.ntmps72; (try simp only [List.append_eq, List.cons_append, List.nil_append])
      go_wp2_with (first | (go_at_call 104; refine (rsmall_any _ _ _).mono ?_; rintro e w1 ⟨rfl, hb1⟩; have hz1 : w.heap.size + 3 ≤ w1.heap.size := (by have h := hb1.size; (try simp at h); omega); have hbb := Below.mono hb1 (B' := w.heap.size + 3) (by (try simp) <;> omega); clear hb1; (with_reducible apply cel2 (b := w.heap.size) hbb); (focus ((try simp) <;> omega)); (focus omega); (focus (go_simp; try exact rfl)); (focus (go_simp; try exact rfl)); (focus (intro o; go_simp)); intro cc cc fz hl; (with_reducible apply cel2 (b := w.heap.size + 1) hbb); (focus ((try simp) <;> omega)); (focus omega); (focus (go_simp; try exact rfl)); (focus (go_simp; try exact rfl)); (focus (intro o; go_simp)); intro cc cc fz hl; (with_reducible apply cel2 (b := w.heap.size + 1 + 1) hbb); (focus ((try simp) <;> omega)); (focus omega); (focus (go_simp; try exact rfl)); (focus (go_simp; try exact rfl)); (focus (intro o; go_simp)); intro cc cc fz hl) | (go_at_call 114; refine (rkept_ok _ _ _).mono ?_; rintro e w1 ⟨rfl, hb1⟩; have hz1 : w.heap.size + 3 ≤ w1.heap.size := (by have h := hb1.size; (try simp at h); omega); have hbb := Below.mono hb1 (B' := w.heap.size + 3) (by (try simp) <;> omega); clear hb1; (with_reducible apply cel2 (b := w.heap.size) hbb); (focus ((try simp) <;> omega)); (focus omega); (focus (go_simp; try exact rfl)); (focus (go_simp; try exact rfl)); (focus (intro o; go_simp)); intro cc cc fz hl; (with_reducible apply cel2 (b := w.heap.size + 1) hbb); (focus ((try simp) <;> omega)); (focus omega); (focus (go_simp; try exact rfl)); (focus (go_simp; try exact rfl)); (focus (intro o; go_simp)); intro cc cc fz hl; (with_reducible apply cel2 (b := w.heap.size + 1 + 1) hbb); (focus ((try simp) <;> omega)); (focus omega); (focus (go_simp; try exact rfl)); (focus (go_simp; try exact rfl)); (focus (intro o; go_simp)); intro cc cc fz hl))
      refine bodyPost_ret (v := .agg #[.int .i64 (keptR (a - c) (b - d)).1, .int .i64 (keptR (a - c) (b - d)).2]) (by simp only [results, Try.results72]; go_simp) rfl ⟨?_, ?_⟩
      · rfl
      · ((with_reducible (repeat (first | exact bR _ _ | refine bS ?_ ?_ _ | refine bA ?_ ?_ _ | refine bD ?_ | refine bT ?_ (by assumption) ?_ | refine bO (by assumption) ?_ ?_))) <;> (first | omega | (simp; done) | (simp <;> omega)))
end Go.Proofs.Ytklkhnhieihfoaa
namespace Go.Proofs.Ytklkhnhieihfoaa
open Go Go.RowKit
set_option linter.unusedVariables false
theorem rspeed_any (x y : Int) (w : World) :
    Calls Try.prog 34 #[.agg #[.int .i64 x, .int .i64 y]] w fun e w' => e = .returned (.bool (withinB x y 1048576)) ∧ Below w.heap.size w w' := by
  go_enter Try.func34, Try.ntmps34; (try simp only [List.append_eq, List.cons_append, List.nil_append])
  go_wp2_with fail
  -- own blocks: w.heap.size:2
  (go_at_call 86; refine (rnear_any _ _ _ _ (by omega) (by omega)).mono ?_; rintro e w1 ⟨rfl, hb_w1⟩; have hz_w1 := hb_w1.size; (try simp at hz_w1); (with_reducible apply cel2 (b := w.heap.size) hb_w1); (focus ((try simp) <;> omega)); (focus omega); (focus (go_simp; try exact rfl)); (focus (go_simp; try exact rfl)); (focus (intro o; go_simp)); intro cc cc fz hl)
  go_wp2_with fail
  go_ret
  exact ⟨rfl, by ((with_reducible (repeat (first | exact bR _ _ | refine bS ?_ ?_ _ | refine bA ?_ ?_ _ | refine bD ?_ | refine bT ?_ (by assumption) ?_ | refine bO (by assumption) ?_ ?_))) <;> (first | omega | (simp; done) | (simp <;> omega)))⟩
theorem rpart_any (x : Int) (w : World) :
    Calls Try.prog 82 #[.int .i64 x] w fun e w' => e = .returned (.bool (sixB x)) ∧ Below w.heap.size w w' := by
  go_enter Try.func82, Try.ntmps82; (try simp only [List.append_eq, List.cons_append, List.nil_append])
  go_wp2
  all_goals
    go_ret
    refine ⟨ret_bool (bool_iff ?_), Below.refl _ _⟩
    simp only [sixB, decide_eq_true_eq, Bool.false_eq_true, false_iff]; omega
set_option maxHeartbeats 4000000 in
theorem rapproaches_any (v1 v2 w1 w2 n1 n2 : Int) (w : World) :
    Calls Try.prog 27 #[.agg #[.int .i64 v1, .int .i64 v2], .agg #[.int .i64 w1, .int .i64 w2], .agg #[.int .i64 n1, .int .i64 n2]] w fun e w' => e = .returned (.bool (apprB v1 v2 w1 w2 n1 n2)) ∧ Below w.heap.size w w' := by
  have k1 := fun w => rspeed_any v1 v2 w
  have k4 := fun w => rspeed_any w1 w2 w
  have k5 := fun w => rdirection_any n1 n2 w
  have k2 := fun w => rsub_any v1 v2 w1 w2 w
  have k3 := fun w => rdot_any (subR v1 v2 w1 w2).1 (subR v1 v2 w1 w2).2 n1 n2 w
  unfold apprB permB
  generalize dotR (subR v1 v2 w1 w2).1 (subR v1 v2 w1 w2).2 n1 n2 = D at *
  generalize subR v1 v2 w1 w2 = S at *
  generalize withinB v1 v2 1048576 = c1 at *
  generalize withinB w1 w2 1048576 = c2 at *
  generalize withinB n1 n2 2097152 = c3 at *
  have K1 := Lib.hid k1
  have K2 := Lib.hid k2
  have K3 := Lib.hid k3
  have K4 := Lib.hid k4
  have K5 := Lib.hid k5
  clear k1 k2 k3 k4 k5
  go_enter Try.func27, Try.ntmps27; (try simp only [List.append_eq, List.cons_append, List.nil_append])
  go_wp2_with fail
  -- own blocks: w.heap.size:2, w.heap.size + 1:2, w.heap.size + 1 + 1:2
  (go_at_call 34; refine (K1.out _).mono ?_; rintro e w1 ⟨rfl, hb_w1⟩; have hz_w1 := hb_w1.size; (try simp at hz_w1); (with_reducible apply cel2 (b := w.heap.size) hb_w1); (focus ((try simp) <;> omega)); (focus omega); (focus (go_simp; try exact rfl)); (focus (go_simp; try exact rfl)); (focus (intro o; go_simp)); intro cc cc fz hl; (with_reducible apply cel2 (b := w.heap.size + 1) hb_w1); (focus ((try simp) <;> omega)); (focus omega); (focus (go_simp; try exact rfl)); (focus (go_simp; try exact rfl)); (focus (intro o; go_simp)); intro cc cc fz hl; (with_reducible apply cel2 (b := w.heap.size + 1 + 1) hb_w1); (focus ((try simp) <;> omega)); (focus omega); (focus (go_simp; try exact rfl)); (focus (go_simp; try exact rfl)); (focus (intro o; go_simp)); intro cc cc fz hl)
  cases c1
  · go_wp2_with fail
    go_ret
    exact ⟨rfl, by ((with_reducible (repeat (first | exact bR _ _ | refine bS ?_ ?_ _ | refine bA ?_ ?_ _ | refine bD ?_ | refine bT ?_ (by assumption) ?_ | refine bO (by assumption) ?_ ?_))) <;> (first | omega | (simp; done) | (simp <;> omega)))⟩
  · go_wp2_with fail
    (go_at_call 34; refine (K4.out _).mono ?_; rintro e w2 ⟨rfl, hb_w2⟩; have hz_w2 := hb_w2.size; (try simp at hz_w2); (with_reducible apply cel2 (b := w.heap.size) hb_w2); (focus ((try simp) <;> omega)); (focus omega); (focus (go_simp; try exact rfl)); (focus (go_simp; try exact rfl)); (focus (intro o; go_simp)); intro cc cc fz hl; (with_reducible apply cel2 (b := w.heap.size + 1) hb_w2); (focus ((try simp) <;> omega)); (focus omega); (focus (go_simp; try exact rfl)); (focus (go_simp; try exact rfl)); (focus (intro o; go_simp)); intro cc cc fz hl; (with_reducible apply cel2 (b := w.heap.size + 1 + 1) hb_w2); (focus ((try simp) <;> omega)); (focus omega); (focus (go_simp; try exact rfl)); (focus (go_simp; try exact rfl)); (focus (intro o; go_simp)); intro cc cc fz hl)
    cases c2
    · go_wp2_with fail
      go_ret
      exact ⟨rfl, by ((with_reducible (repeat (first | exact bR _ _ | refine bS ?_ ?_ _ | refine bA ?_ ?_ _ | refine bD ?_ | refine bT ?_ (by assumption) ?_ | refine bO (by assumption) ?_ ?_))) <;> (first | omega | (simp; done) | (simp <;> omega)))⟩
    · go_wp2_with fail
      (go_at_call 71; refine (K5.out _).mono ?_; rintro e w3 ⟨rfl, hb_w3⟩; have hz_w3 := hb_w3.size; (try simp at hz_w3); (with_reducible apply cel2 (b := w.heap.size) hb_w3); (focus ((try simp) <;> omega)); (focus omega); (focus (go_simp; try exact rfl)); (focus (go_simp; try exact rfl)); (focus (intro o; go_simp)); intro cc cc fz hl; (with_reducible apply cel2 (b := w.heap.size + 1) hb_w3); (focus ((try simp) <;> omega)); (focus omega); (focus (go_simp; try exact rfl)); (focus (go_simp; try exact rfl)); (focus (intro o; go_simp)); intro cc cc fz hl; (with_reducible apply cel2 (b := w.heap.size + 1 + 1) hb_w3); (focus ((try simp) <;> omega)); (focus omega); (focus (go_simp; try exact rfl)); (focus (go_simp; try exact rfl)); (focus (intro o; go_simp)); intro cc cc fz hl)
      cases c3
      · go_wp2_with fail
        go_ret
        exact ⟨rfl, by ((with_reducible (repeat (first | exact bR _ _ | refine bS ?_ ?_ _ | refine bA ?_ ?_ _ | refine bD ?_ | refine bT ?_ (by assumption) ?_ | refine bO (by assumption) ?_ ?_))) <;> (first | omega | (simp; done) | (simp <;> omega)))⟩
      · go_wp2_with fail
        (refine pin_wp (N := _) (Nat.le_refl _) (fun w4 hb_w4 hz_w4 => ?_); (try simp at hz_w4); (with_reducible apply cel2 (b := w.heap.size) hb_w4); (focus ((try simp) <;> omega)); (focus omega); (focus (go_simp; try exact rfl)); (focus (go_simp; try exact rfl)); (focus (intro o; go_simp)); intro cc cc fz hl; (with_reducible apply cel2 (b := w.heap.size + 1) hb_w4); (focus ((try simp) <;> omega)); (focus omega); (focus (go_simp; try exact rfl)); (focus (go_simp; try exact rfl)); (focus (intro o; go_simp)); intro cc cc fz hl; (with_reducible apply cel2 (b := w.heap.size + 1 + 1) hb_w4); (focus ((try simp) <;> omega)); (focus omega); (focus (go_simp; try exact rfl)); (focus (go_simp; try exact rfl)); (focus (intro o; go_simp)); intro cc cc fz hl); refine wp_region_warm (Own w4.heap.size w4) (by kernel_rfl) (by kernel_rfl) (Own.refl (Nat.le_refl _)).drew ?_
        repeat (first | (refine wpWarm_step_off rfl (fun K hK => ?_); (go_simp; refine hK _ ?_; clear hK K)) | (apply wpWarm_step rfl; (focus (intro W' hS; have hcS := hS.cells.1; have hfS := hS.cells.2; go_simp; (first | done | exact rfl | exact ⟨rfl, hS⟩ | (go_at_call 72; exact (K2.out _).mono (fun _ _ h => ⟨h.1, hS.call h.2⟩)) | (go_at_call 54; exact (K3.out _).mono (fun _ _ h => ⟨h.1, hS.call h.2⟩)) | (go_simp; exact rfl)))); (intro K hK; go_simp; (try go_bits); refine hK _ ?_; clear hK K)) | (apply wpWarm_step_on rfl; (focus (intro W' hS; have hcS := hS.cells.1; have hfS := hS.cells.2; go_simp; (first | done | exact rfl | exact ⟨rfl, hS⟩ | (go_at_call 72; exact (K2.out _).mono (fun _ _ h => ⟨h.1, hS.call h.2⟩)) | (go_at_call 54; exact (K3.out _).mono (fun _ _ h => ⟨h.1, hS.call h.2⟩)) | (go_simp; exact rfl)))); (intro K hK; go_simp; (try go_bits); refine hK _ ?_; clear hK K)))
        (refine wpWarm_nil ?_; intro w5 hO; have hz_w5 := hO.1; have hb_w5 := hO.2; clear hO; (with_reducible apply cel2 (b := w.heap.size) hb_w5); (focus ((try simp) <;> omega)); (focus omega); (focus (go_simp; try exact rfl)); (focus (go_simp; try exact rfl)); (focus (intro o; go_simp)); intro cc cc fz hl; (with_reducible apply cel2 (b := w.heap.size + 1) hb_w5); (focus ((try simp) <;> omega)); (focus omega); (focus (go_simp; try exact rfl)); (focus (go_simp; try exact rfl)); (focus (intro o; go_simp)); intro cc cc fz hl; (with_reducible apply cel2 (b := w.heap.size + 1 + 1) hb_w5); (focus ((try simp) <;> omega)); (focus omega); (focus (go_simp; try exact rfl)); (focus (go_simp; try exact rfl)); (focus (intro o; go_simp)); intro cc cc fz hl)
        go_wp2_with fail
        go_ret
        exact ⟨by first | rfl | simp, by ((with_reducible (repeat (first | exact bR _ _ | refine bS ?_ ?_ _ | refine bA ?_ ?_ _ | refine bD ?_ | refine bT ?_ (by assumption) ?_ | refine bO (by assumption) ?_ ?_))) <;> (first | omega | (simp; done) | (simp <;> omega)))⟩
end Go.Proofs.Ytklkhnhieihfoaa
namespace Go.Proofs.Ytklkhnhieihfoaa
open Go Go.RowKit
set_option linter.unusedVariables false
set_option maxRecDepth 100000 in
set_option maxHeartbeats 8000000 in
theorem rone_any (v u n k d rest grip : Int) (den : Value) (w : World) (hs : SmX v u n d k rest grip) (hden : IsC w den (16 * d)) :
    Calls Try.prog 84 #[.int .i64 v, .int .i64 u, .int .i64 n, .int .i64 k, den, .int .i64 d, .int .i64 rest, .int .i64 grip] w (ZOut (statX v u n d k rest grip) w) := by
  obtain ⟨⟨p1, p2⟩, ⟨p3, p4⟩, p5, p6⟩ := hs.parts
  have hlen := hs.len
  obtain ⟨⟨v1, v2⟩, ⟨u1, u2⟩, ⟨n1, n2⟩, ⟨m1, m2⟩, ⟨c1, c2⟩, ⟨r1, r2⟩, ⟨e1, e2⟩⟩ := hs
  have k1 := fun w => of_any v w (by omega) (by omega)
  have k2 := fun x y w h1 h2 => times_any 10 x y v (16 * d) w h1 h2 (by omega)
  have k3 := fun w => rscaled_any (16 + rest - grip) k w (by omega) (by omega)
  have k4 := fun w => of_any n w (by omega) (by omega)
  have k5 := fun x y w h1 h2 => times_any 10 x y ((16 + rest - grip) * k) n w h1 h2 (by omega)
  have k6 := fun w => rscaled_any grip u w (by omega) (by omega)
  have k7 := fun w => of_any d w (by omega) (by omega)
  have k8 := fun x y w h1 h2 => times_any 10 x y (grip * u) d w h1 h2 (by omega)
  have k9 := fun x y w h1 h2 => minus_any 10 x y (v * (16 * d)) ((16 + rest - grip) * k * n) w h1 h2 (by omega)
  have k10 := fun x y w h1 h2 => minus_any 10 x y (v * (16 * d) - (16 + rest - grip) * k * n) (grip * u * d) w h1 h2 (by omega)
  have b1 := mulB v (16 * d) 4194304 (16 * 17592186044416) (by omega) (by omega)
  have b2 := mulB (16 + rest - grip) k 31 17592186044416 (by omega) (by omega)
  have b3 := mulB ((16 + rest - grip) * k) n (31 * 17592186044416) 4194304 (by omega) (by omega)
  have b4 := mulB (grip * u) d 62914560 17592186044416 (by omega) (by omega)
  have es : v * (16 * d) - (16 + rest - grip) * k * n - grip * u * d = statX v u n d k rest grip := by unfold statX; grind
  have l1 := len_wd (z := v) (by omega) (by omega)
  have l2 := len_wd (z := 16 * d) (by omega) (by omega)
  have l3 : (canN (v * (16 * d)).natAbs).length ≤ 10 := canN_bd (B := 18446744073709551616 * 18446744073709551616) (by omega) (by omega) (by decide)
  have l4 : (canN ((16 + rest - grip) * k).natAbs).length ≤ 10 := canN_bd (B := 18446744073709551616 * 18446744073709551616) (by omega) (by omega) (by decide)
  have l5 := len_wd (z := n) (by omega) (by omega)
  have l6 : (canN ((16 + rest - grip) * k * n).natAbs).length ≤ 10 := canN_bd (B := 18446744073709551616 * 18446744073709551616) (by omega) (by omega) (by decide)
  have l7 := len_wd (z := grip * u) (by omega) (by omega)
  have l8 := len_wd (z := d) (by omega) (by omega)
  have l9 : (canN (grip * u * d).natAbs).length ≤ 10 := canN_bd (B := 18446744073709551616 * 18446744073709551616) (by omega) (by omega) (by decide)
  have l10 : (canN (v * (16 * d) - (16 + rest - grip) * k * n).natAbs).length ≤ 10 := canN_bd (B := 18446744073709551616 * 18446744073709551616) (by omega) (by omega) (by decide)
  rw [es] at k10
  generalize statX v u n d k rest grip = Z at *
  generalize v * (16 * d) - (16 + rest - grip) * k * n = Z4 at *
  generalize v * (16 * d) = Z1 at *
  generalize (16 + rest - grip) * k * n = Z2 at *
  generalize grip * u * d = Z3 at *
  generalize (16 + rest - grip) * k = Z5 at *
  generalize grip * u = Z6 at *
  have K1 := Lib.hid k1
  have K2 := Lib.hid k2
  have K3 := Lib.hid k3
  have K4 := Lib.hid k4
  have K5 := Lib.hid k5
  have K6 := Lib.hid k6
  have K7 := Lib.hid k7
  have K8 := Lib.hid k8
  have K9 := Lib.hid k9
  have K10 := Lib.hid k10
  have L1 := Lib.hid l1
  have L2 := Lib.hid l2
  have L3 := Lib.hid l3
  have L4 := Lib.hid l4
  have L5 := Lib.hid l5
  have L6 := Lib.hid l6
  have L7 := Lib.hid l7
  have L8 := Lib.hid l8
  have L9 := Lib.hid l9
  have L10 := Lib.hid l10
  obtain ⟨s0, A0, n0, c0, rfl⟩ := hden.val
  have H0 := Lib.hid hden
  clear k1 k2 k3 k4 k5 k6 k7 k8 k9 k10 l1 l2 l3 l4 l5 l6 l7 l8 l9 l10 hlen p1 p2 p3 p4 p5 p6 b1 b2 b3 b4 es hden
  -- names on
  go_enter Try.func84, Try.ntmps84; (try simp only [List.append_eq, List.cons_append, List.nil_append])
  go_wp2_with fail
  -- own blocks: w.heap.size:2, w.heap.size + 1:2
  (refine pin_wp (N := _) (Nat.le_refl _) (fun w2 hb_w2 hz_w2 => ?_); (try simp at hz_w2); (with_reducible apply cel2 (b := w.heap.size) hb_w2); (focus ((try simp) <;> omega)); (focus omega); (focus (go_simp; try exact rfl)); (focus (go_simp; try exact rfl)); (focus (intro o; go_simp)); intro c_w2_0_0 c_w2_0_1 fz_w2_0 hl_w2_0; (with_reducible apply cel2 (b := w.heap.size + 1) hb_w2); (focus ((try simp) <;> omega)); (focus omega); (focus (go_simp; try exact rfl)); (focus (go_simp; try exact rfl)); (focus (intro o; go_simp)); intro c_w2_1_0 c_w2_1_1 fz_w2_1 hl_w2_1); refine wp_q (fun Q_ HQ_ => ?_); refine wp_region_floatQ w2.heap.size 5 [5] (Nat.le_refl _) (fun _ => True) trivial Cl.tt (by kernel_rfl) (by kernel_rfl) ?_
  replace H0 := Lib.hid (IsC.below (v := .agg #[.bool s0, .slice A0 n0 c0]) (z := (16 * d)) (by ((repeat (first | (with_reducible exact H0.out) | (with_reducible refine IsC.al ?_ _) | (with_reducible apply IsC.st1))) <;> (first | (with_reducible assumption) | (intro _ e; cases e; done) | (go_simp; first | done | exact rfl)))) hb_w2)
  have HB2 := Lib.hid (show Below w.heap.size w w2 by ((with_reducible (repeat (first | exact bR _ _ | refine bS ?_ ?_ _ | refine bA ?_ ?_ _ | refine bD ?_ | refine bT ?_ (by assumption) ?_ | refine bO (by assumption) ?_ ?_))) <;> (first | omega | (simp; done) | (simp <;> omega))))
  have hz2 : w.heap.size + 1 + 1 ≤ w2.heap.size := by omega
  clear hb_w2
  skip
  refine wpQI_start [0] ?_; (iterate 1 (first | (refine wpQI_off (by with_reducible (refine List.getElem?_toArray.trans ?_; (repeat (first | exact List.getElem?_cons_zero | refine List.getElem?_cons_succ.trans ?_)))) (by kernel_rfl) (by exact rfl) (fun K hK => ?_); go_simp; refine hK _ ?_; clear hK K) | ((first | apply wpQI_step (by with_reducible (refine List.getElem?_toArray.trans ?_; (repeat (first | exact List.getElem?_cons_zero | refine List.getElem?_cons_succ.trans ?_)))) (by kernel_rfl) (by exact rfl) | apply wpQI_on (by with_reducible (refine List.getElem?_toArray.trans ?_; (repeat (first | exact List.getElem?_cons_zero | refine List.getElem?_cons_succ.trans ?_)))) (by kernel_rfl) (by exact rfl)); (focus (intro W' hS; have hcS := hS.cells.1; have hfS := hS.cells.2; go_simp; (first | done | exact rfl | exact ⟨rfl, Below.refl _ _⟩ | (go_simp; first | done | exact rfl | exact ⟨rfl, Below.refl _ _⟩)))); intro K hK; go_simp; (try go_bits); refine hK _ ?_; clear hK K))); refine wpQI_nil ?_
  refine wpQI_start [2] ?_; (iterate 1 (first | (refine wpQI_off (by with_reducible (refine List.getElem?_toArray.trans ?_; (repeat (first | exact List.getElem?_cons_zero | refine List.getElem?_cons_succ.trans ?_)))) (by kernel_rfl) (by exact rfl) (fun K hK => ?_); go_simp; refine hK _ ?_; clear hK K) | ((first | apply wpQI_step (by with_reducible (refine List.getElem?_toArray.trans ?_; (repeat (first | exact List.getElem?_cons_zero | refine List.getElem?_cons_succ.trans ?_)))) (by kernel_rfl) (by exact rfl) | apply wpQI_on (by with_reducible (refine List.getElem?_toArray.trans ?_; (repeat (first | exact List.getElem?_cons_zero | refine List.getElem?_cons_succ.trans ?_)))) (by kernel_rfl) (by exact rfl)); (focus (intro W' hS; have hcS := hS.cells.1; have hfS := hS.cells.2; go_simp; (first | done | exact rfl | exact ⟨rfl, Below.refl _ _⟩ | (go_simp; first | done | exact rfl | exact ⟨rfl, Below.refl _ _⟩)))); intro K hK; go_simp; (try go_bits); refine hK _ ?_; clear hK K))); refine wpQI_nil ?_
  apply wpQ_call (i := 1) (by with_reducible (refine List.getElem?_toArray.trans ?_; (repeat (first | exact List.getElem?_cons_zero | refine List.getElem?_cons_succ.trans ?_)))) (by kernel_rfl) (by exact rfl); intro W hF hS; have hcS := hS.1.cells.1; have hfS := hS.1.cells.2; go_simp; (go_at_call 44; refine (K1.out _).mono ?_; rintro e w3 ⟨hb_w3, v3, rfl, hv3⟩; refine XPost.mk _ (fun W => IsC W v3 (v)) hb_w3 (hv3) (IsC.cl _ _) ?_); clear hb_w3 hcS hfS hS hF
  intro K hK; go_simp; (try go_bits); refine hK _ ?_; clear hK K
  obtain ⟨s3, A3, n3, c3, rfl⟩ := IsC.val hv3
  clear hv3
  apply wpQ_call (i := 3) (by with_reducible (refine List.getElem?_toArray.trans ?_; (repeat (first | exact List.getElem?_cons_zero | refine List.getElem?_cons_succ.trans ?_)))) (by kernel_rfl) (by exact rfl); intro W hF hS; have hcS := hS.1.cells.1; have hfS := hS.1.cells.2; go_simp; (go_at_call 43; refine (K2.out _ _ _ (hF.zl L1.out) ((H0.out.below hS.1.2).zl L2.out)).mono ?_; rintro e w4 ⟨hb_w4, v4, rfl, hv4⟩; refine XPost.mk _ (fun W => IsC W v4 (Z1)) hb_w4 (hv4) (IsC.cl _ _) ?_); clear hb_w4 hcS hfS hS hF
  intro K hK; go_simp; (try go_bits); refine hK _ ?_; clear hK K
  obtain ⟨s4, A4, n4, c4, rfl⟩ := IsC.val hv4
  clear hv4
  apply wpQ_fresh (i := 4) LInv.std (by with_reducible (refine List.getElem?_toArray.trans ?_; (repeat (first | exact List.getElem?_cons_zero | refine List.getElem?_cons_succ.trans ?_)))) (by kernel_rfl) (fun g => Value.pointer (some ⟨g, 0, none⟩)) (by exact rfl); (focus (intro W; go_simp; first | done | exact rfl | exact ⟨rfl, rfl⟩))
  intro g_r1_4 hN_r1_4 hG_r1_4 K hK
  go_simp; refine hK _ ?_; clear hK K
  have hne : w.heap.size ≠ g_r1_4 := by have := hN_r1_4; omega
  have hne := Ne.symm hne
  have hne : w.heap.size + 1 ≠ g_r1_4 := by have := hN_r1_4; omega
  have hne := Ne.symm hne
  refine wpQ_done (by kernel_rfl) ?_
  intro w5 hF_w5 hSG
  have hz_w5 := hSG.1.1
  have hb_w5 := hSG.1.2
  have hB_r1_4 := (hSG.2 _ (List.mem_cons_self ..)).2; simp only at hB_r1_4; have hl_r1_4 := (hSG.size (List.mem_cons_self ..)); simp only at hl_r1_4
  have c_w5_r1_4_0 := cell_of_row w5 g_r1_4 0 _ _ _ hB_r1_4; simp only [List.getElem?_toArray, List.getElem?_cons_zero] at c_w5_r1_4_0
  have c_w5_r1_4_1 := cell_of_row w5 g_r1_4 1 _ _ _ hB_r1_4; simp only [List.getElem?_toArray, List.getElem?_cons_zero, List.getElem?_cons_succ] at c_w5_r1_4_1
  have fz_w5_r1_4 : (∀ o, w5.frozen? ⟨g_r1_4, o, none⟩ = false) := (fun o => frozen_of_row w5 g_r1_4 o _ _ hB_r1_4); have HH_r1_4 := Lib.hid hB_r1_4; clear hB_r1_4
  clear hSG
  (with_reducible apply cel2 (b := w.heap.size) hb_w5); (focus ((try simp) <;> omega)); (focus omega); (focus (go_simp; try exact rfl)); (focus (go_simp; try exact rfl)); (focus (intro o; go_simp)); intro c_w5_0_0 c_w5_0_1 fz_w5_0 hl_w5_0; (with_reducible apply cel2 (b := w.heap.size + 1) hb_w5); (focus ((try simp) <;> omega)); (focus omega); (focus (go_simp; try exact rfl)); (focus (go_simp; try exact rfl)); (focus (intro o; go_simp)); intro c_w5_1_0 c_w5_1_1 fz_w5_1 hl_w5_1
  (try simp only [List.filterMap_cons, List.filterMap_nil, List.getElem?_cons_succ, List.getElem?_cons_zero])
  clear H0
  have H3 := Lib.hid (show IsC w5 (.agg #[.bool s3, .slice A3 n3 c3]) (v) from hF_w5.1)
  have H4 := Lib.hid (show IsC w5 (.agg #[.bool s4, .slice A4 n4 c4]) (Z1) from hF_w5.2)
  have HB5 := Lib.hid (HB2.out.trans (hb_w5.mono (by have := HB2.out.size; omega)))
  have hz5 : w.heap.size + 1 + 1 ≤ w5.heap.size := by omega
  have hn_r1_4 : w.heap.size + 1 + 1 ≤ g_r1_4 := by have := hN_r1_4; omega
  clear hF_w5 hb_w5 HH_r1_4 hG_r1_4 hN_r1_4
  clear c_w2_0_0 c_w2_0_1 fz_w2_0 hl_w2_0 c_w2_1_0 c_w2_1_1 fz_w2_1 hl_w2_1
  go_wp2_with fail
  refine HQ_.out _ _ _ ?_
  clear HQ_ Q_
  go_wp2_with fail
  -- own blocks: w.heap.size + 1:2, g_r1_4:2
  (go_at_call 83; refine (K3.out _).mono ?_; rintro e w6 ⟨hb_w6, v6, rfl, hv6⟩; have hz_w6 := hb_w6.size; (try simp at hz_w6); (with_reducible apply cel2 (b := w.heap.size + 1) hb_w6); (focus ((try simp) <;> omega)); (focus omega); (focus (go_simp; try exact rfl)); (focus (go_simp; try exact rfl)); (focus (intro o; go_simp)); intro c_w6_0_0 c_w6_0_1 fz_w6_0 hl_w6_0; (with_reducible apply cel2 (b := g_r1_4) hb_w6); (focus ((try simp) <;> omega)); (focus omega); (focus (go_simp; try exact rfl)); (focus (go_simp; try exact rfl)); (focus (intro o; go_simp)); intro c_w6_1_0 c_w6_1_1 fz_w6_1 hl_w6_1)
  obtain ⟨s6, A6, n6, c6, rfl⟩ := IsC.val hv6
  clear H3
  replace H4 := Lib.hid (IsC.below (v := .agg #[.bool s4, .slice A4 n4 c4]) (z := Z1) (by ((repeat (first | (with_reducible exact H4.out) | (with_reducible refine IsC.al ?_ _) | (with_reducible apply IsC.st1))) <;> (first | (with_reducible assumption) | (intro _ e; cases e; done) | (go_simp; first | done | exact rfl)))) hb_w6)
  have HB6 := Lib.hid (show Below w.heap.size w w6 by have hB := HB5.out; ((with_reducible (repeat (first | exact bR _ _ | refine bS ?_ ?_ _ | refine bA ?_ ?_ _ | refine bD ?_ | refine bT ?_ (by assumption) ?_ | refine bO (by assumption) ?_ ?_))) <;> (first | omega | (simp; done) | (simp <;> omega))))
  have hz6 : w.heap.size + 1 + 1 ≤ w6.heap.size := by omega
  clear hb_w6
  clear c_w5_r1_4_0 c_w5_r1_4_1 fz_w5_r1_4 c_w5_0_0 c_w5_0_1 fz_w5_0 hl_w5_0 c_w5_1_0 c_w5_1_1 fz_w5_1 hl_w5_1
  have H6 := Lib.hid (show IsC w6 (.agg #[.bool s6, .slice A6 n6 c6]) (Z5) from hv6)
  clear hv6
  go_wp2_with fail
  -- own blocks: w.heap.size + 1:2, g_r1_4:2
  (go_at_call 44; refine (K4.out _).mono ?_; rintro e w7 ⟨hb_w7, v7, rfl, hv7⟩; have hz_w7 := hb_w7.size; (try simp at hz_w7); (with_reducible apply cel2 (b := w.heap.size + 1) hb_w7); (focus ((try simp) <;> omega)); (focus omega); (focus (go_simp; try exact rfl)); (focus (go_simp; try exact rfl)); (focus (intro o; go_simp)); intro c_w7_0_0 c_w7_0_1 fz_w7_0 hl_w7_0; (with_reducible apply cel2 (b := g_r1_4) hb_w7); (focus ((try simp) <;> omega)); (focus omega); (focus (go_simp; try exact rfl)); (focus (go_simp; try exact rfl)); (focus (intro o; go_simp)); intro c_w7_1_0 c_w7_1_1 fz_w7_1 hl_w7_1)
  obtain ⟨s7, A7, n7, c7, rfl⟩ := IsC.val hv7
  replace H4 := Lib.hid (IsC.below (v := .agg #[.bool s4, .slice A4 n4 c4]) (z := Z1) (by ((repeat (first | (with_reducible exact H4.out) | (with_reducible refine IsC.al ?_ _) | (with_reducible apply IsC.st1))) <;> (first | (with_reducible assumption) | (intro _ e; cases e; done) | (go_simp; first | done | exact rfl)))) hb_w7)
  replace H6 := Lib.hid (IsC.below (v := .agg #[.bool s6, .slice A6 n6 c6]) (z := Z5) (by ((repeat (first | (with_reducible exact H6.out) | (with_reducible refine IsC.al ?_ _) | (with_reducible apply IsC.st1))) <;> (first | (with_reducible assumption) | (intro _ e; cases e; done) | (go_simp; first | done | exact rfl)))) hb_w7)
  have HB7 := Lib.hid (show Below w.heap.size w w7 by have hB := HB6.out; ((with_reducible (repeat (first | exact bR _ _ | refine bS ?_ ?_ _ | refine bA ?_ ?_ _ | refine bD ?_ | refine bT ?_ (by assumption) ?_ | refine bO (by assumption) ?_ ?_))) <;> (first | omega | (simp; done) | (simp <;> omega))))
  have hz7 : w.heap.size + 1 + 1 ≤ w7.heap.size := by omega
  clear hb_w7
  clear c_w6_0_0 c_w6_0_1 fz_w6_0 hl_w6_0 c_w6_1_0 c_w6_1_1 fz_w6_1 hl_w6_1
  have H7 := Lib.hid (show IsC w7 (.agg #[.bool s7, .slice A7 n7 c7]) (n) from hv7)
  clear hv7
  go_wp2_with fail
  -- own blocks: w.heap.size + 1:2, g_r1_4:2
  (go_at_call 43; refine (K5.out _ _ _ ((show IsC _ (.agg #[.bool s6, .slice A6 n6 c6]) (Z5) by ((repeat (first | (with_reducible exact H6.out) | (with_reducible refine IsC.al ?_ _) | (with_reducible apply IsC.st1))) <;> (first | (with_reducible assumption) | (intro _ e; cases e; done) | (go_simp; first | done | exact rfl)))).zl L4.out) ((show IsC _ (.agg #[.bool s7, .slice A7 n7 c7]) (n) by ((repeat (first | (with_reducible exact H7.out) | (with_reducible refine IsC.al ?_ _) | (with_reducible apply IsC.st1))) <;> (first | (with_reducible assumption) | (intro _ e; cases e; done) | (go_simp; first | done | exact rfl)))).zl L5.out)).mono ?_; rintro e w8 ⟨hb_w8, v8, rfl, hv8⟩; have hz_w8 := hb_w8.size; (try simp at hz_w8); (with_reducible apply cel2 (b := w.heap.size + 1) hb_w8); (focus ((try simp) <;> omega)); (focus omega); (focus (go_simp; try exact rfl)); (focus (go_simp; try exact rfl)); (focus (intro o; go_simp)); intro c_w8_0_0 c_w8_0_1 fz_w8_0 hl_w8_0; (with_reducible apply cel2 (b := g_r1_4) hb_w8); (focus ((try simp) <;> omega)); (focus omega); (focus (go_simp; try exact rfl)); (focus (go_simp; try exact rfl)); (focus (intro o; go_simp)); intro c_w8_1_0 c_w8_1_1 fz_w8_1 hl_w8_1)
  obtain ⟨s8, A8, n8, c8, rfl⟩ := IsC.val hv8
  clear H6
  clear H7
  replace H4 := Lib.hid (IsC.below (v := .agg #[.bool s4, .slice A4 n4 c4]) (z := Z1) (by ((repeat (first | (with_reducible exact H4.out) | (with_reducible refine IsC.al ?_ _) | (with_reducible apply IsC.st1))) <;> (first | (with_reducible assumption) | (intro _ e; cases e; done) | (go_simp; first | done | exact rfl)))) hb_w8)
  have HB8 := Lib.hid (show Below w.heap.size w w8 by have hB := HB7.out; ((with_reducible (repeat (first | exact bR _ _ | refine bS ?_ ?_ _ | refine bA ?_ ?_ _ | refine bD ?_ | refine bT ?_ (by assumption) ?_ | refine bO (by assumption) ?_ ?_))) <;> (first | omega | (simp; done) | (simp <;> omega))))
  have hz8 : w.heap.size + 1 + 1 ≤ w8.heap.size := by omega
  clear hb_w8
  clear c_w7_0_0 c_w7_0_1 fz_w7_0 hl_w7_0 c_w7_1_0 c_w7_1_1 fz_w7_1 hl_w7_1
  have H8 := Lib.hid (show IsC w8 (.agg #[.bool s8, .slice A8 n8 c8]) (Z2) from hv8)
  clear hv8
  go_wp2_with fail
  -- own blocks: w.heap.size + 1:2, g_r1_4:2, w8.heap.size:2
  (go_at_call 83; refine (K6.out _).mono ?_; rintro e w9 ⟨hb_w9, v9, rfl, hv9⟩; have hz_w9 := hb_w9.size; (try simp at hz_w9); (with_reducible apply cel2 (b := w.heap.size + 1) hb_w9); (focus ((try simp) <;> omega)); (focus omega); (focus (go_simp; try exact rfl)); (focus (go_simp; try exact rfl)); (focus (intro o; go_simp)); intro c_w9_0_0 c_w9_0_1 fz_w9_0 hl_w9_0; (with_reducible apply cel2 (b := g_r1_4) hb_w9); (focus ((try simp) <;> omega)); (focus omega); (focus (go_simp; try exact rfl)); (focus (go_simp; try exact rfl)); (focus (intro o; go_simp)); intro c_w9_1_0 c_w9_1_1 fz_w9_1 hl_w9_1; (with_reducible apply cel2 (b := w8.heap.size) hb_w9); (focus ((try simp) <;> omega)); (focus omega); (focus (go_simp; try exact rfl)); (focus (go_simp; try exact rfl)); (focus (intro o; go_simp)); intro c_w9_2_0 c_w9_2_1 fz_w9_2 hl_w9_2)
  obtain ⟨s9, A9, n9, c9, rfl⟩ := IsC.val hv9
  replace H4 := Lib.hid (IsC.below (v := .agg #[.bool s4, .slice A4 n4 c4]) (z := Z1) (by ((repeat (first | (with_reducible exact H4.out) | (with_reducible refine IsC.al ?_ _) | (with_reducible apply IsC.st1))) <;> (first | (with_reducible assumption) | (intro _ e; cases e; done) | (go_simp; first | done | exact rfl)))) hb_w9)
  replace H8 := Lib.hid (IsC.below (v := .agg #[.bool s8, .slice A8 n8 c8]) (z := Z2) (by ((repeat (first | (with_reducible exact H8.out) | (with_reducible refine IsC.al ?_ _) | (with_reducible apply IsC.st1))) <;> (first | (with_reducible assumption) | (intro _ e; cases e; done) | (go_simp; first | done | exact rfl)))) hb_w9)
  have HB9 := Lib.hid (show Below w.heap.size w w9 by have hB := HB8.out; ((with_reducible (repeat (first | exact bR _ _ | refine bS ?_ ?_ _ | refine bA ?_ ?_ _ | refine bD ?_ | refine bT ?_ (by assumption) ?_ | refine bO (by assumption) ?_ ?_))) <;> (first | omega | (simp; done) | (simp <;> omega))))
  have hz9 : w.heap.size + 1 + 1 ≤ w9.heap.size := by omega
  clear hb_w9
  clear c_w8_0_0 c_w8_0_1 fz_w8_0 hl_w8_0 c_w8_1_0 c_w8_1_1 fz_w8_1 hl_w8_1
  have H9 := Lib.hid (show IsC w9 (.agg #[.bool s9, .slice A9 n9 c9]) (Z6) from hv9)
  clear hv9
  go_wp2_with fail
  -- own blocks: w.heap.size + 1:2, g_r1_4:2, w8.heap.size:2
  (go_at_call 44; refine (K7.out _).mono ?_; rintro e w10 ⟨hb_w10, v10, rfl, hv10⟩; have hz_w10 := hb_w10.size; (try simp at hz_w10); (with_reducible apply cel2 (b := w.heap.size + 1) hb_w10); (focus ((try simp) <;> omega)); (focus omega); (focus (go_simp; try exact rfl)); (focus (go_simp; try exact rfl)); (focus (intro o; go_simp)); intro c_w10_0_0 c_w10_0_1 fz_w10_0 hl_w10_0; (with_reducible apply cel2 (b := g_r1_4) hb_w10); (focus ((try simp) <;> omega)); (focus omega); (focus (go_simp; try exact rfl)); (focus (go_simp; try exact rfl)); (focus (intro o; go_simp)); intro c_w10_1_0 c_w10_1_1 fz_w10_1 hl_w10_1; (with_reducible apply cel2 (b := w8.heap.size) hb_w10); (focus ((try simp) <;> omega)); (focus omega); (focus (go_simp; try exact rfl)); (focus (go_simp; try exact rfl)); (focus (intro o; go_simp)); intro c_w10_2_0 c_w10_2_1 fz_w10_2 hl_w10_2)
  obtain ⟨s10, A10, n10, c10, rfl⟩ := IsC.val hv10
  replace H4 := Lib.hid (IsC.below (v := .agg #[.bool s4, .slice A4 n4 c4]) (z := Z1) (by ((repeat (first | (with_reducible exact H4.out) | (with_reducible refine IsC.al ?_ _) | (with_reducible apply IsC.st1))) <;> (first | (with_reducible assumption) | (intro _ e; cases e; done) | (go_simp; first | done | exact rfl)))) hb_w10)
  replace H8 := Lib.hid (IsC.below (v := .agg #[.bool s8, .slice A8 n8 c8]) (z := Z2) (by ((repeat (first | (with_reducible exact H8.out) | (with_reducible refine IsC.al ?_ _) | (with_reducible apply IsC.st1))) <;> (first | (with_reducible assumption) | (intro _ e; cases e; done) | (go_simp; first | done | exact rfl)))) hb_w10)
  replace H9 := Lib.hid (IsC.below (v := .agg #[.bool s9, .slice A9 n9 c9]) (z := Z6) (by ((repeat (first | (with_reducible exact H9.out) | (with_reducible refine IsC.al ?_ _) | (with_reducible apply IsC.st1))) <;> (first | (with_reducible assumption) | (intro _ e; cases e; done) | (go_simp; first | done | exact rfl)))) hb_w10)
  have HB10 := Lib.hid (show Below w.heap.size w w10 by have hB := HB9.out; ((with_reducible (repeat (first | exact bR _ _ | refine bS ?_ ?_ _ | refine bA ?_ ?_ _ | refine bD ?_ | refine bT ?_ (by assumption) ?_ | refine bO (by assumption) ?_ ?_))) <;> (first | omega | (simp; done) | (simp <;> omega))))
  have hz10 : w.heap.size + 1 + 1 ≤ w10.heap.size := by omega
  clear hb_w10
  clear c_w9_0_0 c_w9_0_1 fz_w9_0 hl_w9_0 c_w9_1_0 c_w9_1_1 fz_w9_1 hl_w9_1 c_w9_2_0 c_w9_2_1 fz_w9_2 hl_w9_2
  have H10 := Lib.hid (show IsC w10 (.agg #[.bool s10, .slice A10 n10 c10]) (d) from hv10)
  clear hv10
  go_wp2_with fail
  -- own blocks: w.heap.size + 1:2, g_r1_4:2, w8.heap.size:2
  (go_at_call 43; refine (K8.out _ _ _ ((show IsC _ (.agg #[.bool s9, .slice A9 n9 c9]) (Z6) by ((repeat (first | (with_reducible exact H9.out) | (with_reducible refine IsC.al ?_ _) | (with_reducible apply IsC.st1))) <;> (first | (with_reducible assumption) | (intro _ e; cases e; done) | (go_simp; first | done | exact rfl)))).zl L7.out) ((show IsC _ (.agg #[.bool s10, .slice A10 n10 c10]) (d) by ((repeat (first | (with_reducible exact H10.out) | (with_reducible refine IsC.al ?_ _) | (with_reducible apply IsC.st1))) <;> (first | (with_reducible assumption) | (intro _ e; cases e; done) | (go_simp; first | done | exact rfl)))).zl L8.out)).mono ?_; rintro e w11 ⟨hb_w11, v11, rfl, hv11⟩; have hz_w11 := hb_w11.size; (try simp at hz_w11); (with_reducible apply cel2 (b := w.heap.size + 1) hb_w11); (focus ((try simp) <;> omega)); (focus omega); (focus (go_simp; try exact rfl)); (focus (go_simp; try exact rfl)); (focus (intro o; go_simp)); intro c_w11_0_0 c_w11_0_1 fz_w11_0 hl_w11_0; (with_reducible apply cel2 (b := g_r1_4) hb_w11); (focus ((try simp) <;> omega)); (focus omega); (focus (go_simp; try exact rfl)); (focus (go_simp; try exact rfl)); (focus (intro o; go_simp)); intro c_w11_1_0 c_w11_1_1 fz_w11_1 hl_w11_1; (with_reducible apply cel2 (b := w8.heap.size) hb_w11); (focus ((try simp) <;> omega)); (focus omega); (focus (go_simp; try exact rfl)); (focus (go_simp; try exact rfl)); (focus (intro o; go_simp)); intro c_w11_2_0 c_w11_2_1 fz_w11_2 hl_w11_2)
  obtain ⟨s11, A11, n11, c11, rfl⟩ := IsC.val hv11
  clear H9
  clear H10
  replace H4 := Lib.hid (IsC.below (v := .agg #[.bool s4, .slice A4 n4 c4]) (z := Z1) (by ((repeat (first | (with_reducible exact H4.out) | (with_reducible refine IsC.al ?_ _) | (with_reducible apply IsC.st1))) <;> (first | (with_reducible assumption) | (intro _ e; cases e; done) | (go_simp; first | done | exact rfl)))) hb_w11)
  replace H8 := Lib.hid (IsC.below (v := .agg #[.bool s8, .slice A8 n8 c8]) (z := Z2) (by ((repeat (first | (with_reducible exact H8.out) | (with_reducible refine IsC.al ?_ _) | (with_reducible apply IsC.st1))) <;> (first | (with_reducible assumption) | (intro _ e; cases e; done) | (go_simp; first | done | exact rfl)))) hb_w11)
  have HB11 := Lib.hid (show Below w.heap.size w w11 by have hB := HB10.out; ((with_reducible (repeat (first | exact bR _ _ | refine bS ?_ ?_ _ | refine bA ?_ ?_ _ | refine bD ?_ | refine bT ?_ (by assumption) ?_ | refine bO (by assumption) ?_ ?_))) <;> (first | omega | (simp; done) | (simp <;> omega))))
  have hz11 : w.heap.size + 1 + 1 ≤ w11.heap.size := by omega
  clear hb_w11
  clear c_w10_0_0 c_w10_0_1 fz_w10_0 hl_w10_0 c_w10_1_0 c_w10_1_1 fz_w10_1 hl_w10_1 c_w10_2_0 c_w10_2_1 fz_w10_2 hl_w10_2
  have H11 := Lib.hid (show IsC w11 (.agg #[.bool s11, .slice A11 n11 c11]) (Z3) from hv11)
  clear hv11
  go_wp2_with fail
  -- own blocks: w.heap.size + 1:2, g_r1_4:2, w8.heap.size:2, w11.heap.size:2
  (refine pin_wp (N := _) (Nat.le_refl _) (fun w12 hb_w12 hz_w12 => ?_); (try simp at hz_w12); (with_reducible apply cel2 (b := w.heap.size + 1) hb_w12); (focus ((try simp) <;> omega)); (focus omega); (focus (go_simp; try exact rfl)); (focus (go_simp; try exact rfl)); (focus (intro o; go_simp)); intro c_w12_0_0 c_w12_0_1 fz_w12_0 hl_w12_0; (with_reducible apply cel2 (b := g_r1_4) hb_w12); (focus ((try simp) <;> omega)); (focus omega); (focus (go_simp; try exact rfl)); (focus (go_simp; try exact rfl)); (focus (intro o; go_simp)); intro c_w12_1_0 c_w12_1_1 fz_w12_1 hl_w12_1; (with_reducible apply cel2 (b := w8.heap.size) hb_w12); (focus ((try simp) <;> omega)); (focus omega); (focus (go_simp; try exact rfl)); (focus (go_simp; try exact rfl)); (focus (intro o; go_simp)); intro c_w12_2_0 c_w12_2_1 fz_w12_2 hl_w12_2; (with_reducible apply cel2 (b := w11.heap.size) hb_w12); (focus ((try simp) <;> omega)); (focus omega); (focus (go_simp; try exact rfl)); (focus (go_simp; try exact rfl)); (focus (intro o; go_simp)); intro c_w12_3_0 c_w12_3_1 fz_w12_3 hl_w12_3); refine wp_q (fun Q_ HQ_ => ?_); refine wp_region_floatQ w12.heap.size 5 [5] (Nat.le_refl _) (fun _ => True) trivial Cl.tt (by kernel_rfl) (by kernel_rfl) ?_
  replace H4 := Lib.hid (IsC.below (v := .agg #[.bool s4, .slice A4 n4 c4]) (z := Z1) (by ((repeat (first | (with_reducible exact H4.out) | (with_reducible refine IsC.al ?_ _) | (with_reducible apply IsC.st1))) <;> (first | (with_reducible assumption) | (intro _ e; cases e; done) | (go_simp; first | done | exact rfl)))) hb_w12)
  replace H8 := Lib.hid (IsC.below (v := .agg #[.bool s8, .slice A8 n8 c8]) (z := Z2) (by ((repeat (first | (with_reducible exact H8.out) | (with_reducible refine IsC.al ?_ _) | (with_reducible apply IsC.st1))) <;> (first | (with_reducible assumption) | (intro _ e; cases e; done) | (go_simp; first | done | exact rfl)))) hb_w12)
  replace H11 := Lib.hid (IsC.below (v := .agg #[.bool s11, .slice A11 n11 c11]) (z := Z3) (by ((repeat (first | (with_reducible exact H11.out) | (with_reducible refine IsC.al ?_ _) | (with_reducible apply IsC.st1))) <;> (first | (with_reducible assumption) | (intro _ e; cases e; done) | (go_simp; first | done | exact rfl)))) hb_w12)
  have HB12 := Lib.hid (show Below w.heap.size w w12 by have hB := HB11.out; ((with_reducible (repeat (first | exact bR _ _ | refine bS ?_ ?_ _ | refine bA ?_ ?_ _ | refine bD ?_ | refine bT ?_ (by assumption) ?_ | refine bO (by assumption) ?_ ?_))) <;> (first | omega | (simp; done) | (simp <;> omega))))
  have hz12 : w.heap.size + 1 + 1 ≤ w12.heap.size := by omega
  clear hb_w12
  clear c_w11_0_0 c_w11_0_1 fz_w11_0 hl_w11_0 c_w11_1_0 c_w11_1_1 fz_w11_1 hl_w11_1 c_w11_2_0 c_w11_2_1 fz_w11_2 hl_w11_2
  refine wpQI_start [0, 1] ?_; (iterate 2 (first | (refine wpQI_off (by with_reducible (refine List.getElem?_toArray.trans ?_; (repeat (first | exact List.getElem?_cons_zero | refine List.getElem?_cons_succ.trans ?_)))) (by kernel_rfl) (by exact rfl) (fun K hK => ?_); go_simp; refine hK _ ?_; clear hK K) | ((first | apply wpQI_step (by with_reducible (refine List.getElem?_toArray.trans ?_; (repeat (first | exact List.getElem?_cons_zero | refine List.getElem?_cons_succ.trans ?_)))) (by kernel_rfl) (by exact rfl) | apply wpQI_on (by with_reducible (refine List.getElem?_toArray.trans ?_; (repeat (first | exact List.getElem?_cons_zero | refine List.getElem?_cons_succ.trans ?_)))) (by kernel_rfl) (by exact rfl)); (focus (intro W' hS; have hcS := hS.cells.1; have hfS := hS.cells.2; go_simp; (first | done | exact rfl | exact ⟨rfl, Below.refl _ _⟩ | (go_simp; first | done | exact rfl | exact ⟨rfl, Below.refl _ _⟩)))); intro K hK; go_simp; (try go_bits); refine hK _ ?_; clear hK K))); refine wpQI_nil ?_
  refine wpQI_start [3] ?_; (iterate 1 (first | (refine wpQI_off (by with_reducible (refine List.getElem?_toArray.trans ?_; (repeat (first | exact List.getElem?_cons_zero | refine List.getElem?_cons_succ.trans ?_)))) (by kernel_rfl) (by exact rfl) (fun K hK => ?_); go_simp; refine hK _ ?_; clear hK K) | ((first | apply wpQI_step (by with_reducible (refine List.getElem?_toArray.trans ?_; (repeat (first | exact List.getElem?_cons_zero | refine List.getElem?_cons_succ.trans ?_)))) (by kernel_rfl) (by exact rfl) | apply wpQI_on (by with_reducible (refine List.getElem?_toArray.trans ?_; (repeat (first | exact List.getElem?_cons_zero | refine List.getElem?_cons_succ.trans ?_)))) (by kernel_rfl) (by exact rfl)); (focus (intro W' hS; have hcS := hS.cells.1; have hfS := hS.cells.2; go_simp; (first | done | exact rfl | exact ⟨rfl, Below.refl _ _⟩ | (go_simp; first | done | exact rfl | exact ⟨rfl, Below.refl _ _⟩)))); intro K hK; go_simp; (try go_bits); refine hK _ ?_; clear hK K))); refine wpQI_nil ?_
  apply wpQ_call (i := 2) (by with_reducible (refine List.getElem?_toArray.trans ?_; (repeat (first | exact List.getElem?_cons_zero | refine List.getElem?_cons_succ.trans ?_)))) (by kernel_rfl) (by exact rfl); intro W hF hS; have hcS := hS.1.cells.1; have hfS := hS.1.cells.2; go_simp; (go_at_call 101; refine (K9.out _ _ _ ((H4.out.below hS.1.2).zl L3.out) ((H8.out.below hS.1.2).zl L6.out)).mono ?_; rintro e w13 ⟨hb_w13, v13, rfl, hv13⟩; refine XPost.mk _ (fun W => IsC W v13 (Z4)) hb_w13 (hv13) (IsC.cl _ _) ?_); clear hb_w13 hcS hfS hS hF
  intro K hK; go_simp; (try go_bits); refine hK _ ?_; clear hK K
  obtain ⟨s13, A13, n13, c13, rfl⟩ := IsC.val hv13
  clear hv13
  apply wpQ_call (i := 4) (by with_reducible (refine List.getElem?_toArray.trans ?_; (repeat (first | exact List.getElem?_cons_zero | refine List.getElem?_cons_succ.trans ?_)))) (by kernel_rfl) (by exact rfl); intro W hF hS; have hcS := hS.1.cells.1; have hfS := hS.1.cells.2; go_simp; (go_at_call 101; refine (K10.out _ _ _ (hF.zl L10.out) ((H11.out.below hS.1.2).zl L9.out)).mono ?_; rintro e w14 ⟨hb_w14, v14, rfl, hv14⟩; refine XPost.mk _ (fun W => IsC W v14 (Z)) hb_w14 (hv14) (IsC.cl _ _) ?_); clear hb_w14 hcS hfS hS hF
  intro K hK; go_simp; (try go_bits); refine hK _ ?_; clear hK K
  obtain ⟨s14, A14, n14, c14, rfl⟩ := IsC.val hv14
  clear hv14
  refine wpQ_done (by kernel_rfl) ?_
  intro w15 hF_w15 hSG
  have hz_w15 := hSG.1.1
  have hb_w15 := hSG.1.2
  clear hSG
  (with_reducible apply cel2 (b := w.heap.size + 1) hb_w15); (focus ((try simp) <;> omega)); (focus omega); (focus (go_simp; try exact rfl)); (focus (go_simp; try exact rfl)); (focus (intro o; go_simp)); intro c_w15_0_0 c_w15_0_1 fz_w15_0 hl_w15_0; (with_reducible apply cel2 (b := g_r1_4) hb_w15); (focus ((try simp) <;> omega)); (focus omega); (focus (go_simp; try exact rfl)); (focus (go_simp; try exact rfl)); (focus (intro o; go_simp)); intro c_w15_1_0 c_w15_1_1 fz_w15_1 hl_w15_1; (with_reducible apply cel2 (b := w8.heap.size) hb_w15); (focus ((try simp) <;> omega)); (focus omega); (focus (go_simp; try exact rfl)); (focus (go_simp; try exact rfl)); (focus (intro o; go_simp)); intro c_w15_2_0 c_w15_2_1 fz_w15_2 hl_w15_2; (with_reducible apply cel2 (b := w11.heap.size) hb_w15); (focus ((try simp) <;> omega)); (focus omega); (focus (go_simp; try exact rfl)); (focus (go_simp; try exact rfl)); (focus (intro o; go_simp)); intro c_w15_3_0 c_w15_3_1 fz_w15_3 hl_w15_3
  (try simp only [List.filterMap_cons, List.filterMap_nil, List.getElem?_cons_succ, List.getElem?_cons_zero])
  clear H4
  clear H8
  clear H11
  have H13 := Lib.hid (show IsC w15 (.agg #[.bool s13, .slice A13 n13 c13]) (Z4) from hF_w15.1)
  have H14 := Lib.hid (show IsC w15 (.agg #[.bool s14, .slice A14 n14 c14]) (Z) from hF_w15.2)
  have HB15 := Lib.hid (HB12.out.trans (hb_w15.mono (by have := HB12.out.size; omega)))
  have hz15 : w.heap.size + 1 + 1 ≤ w15.heap.size := by omega
  clear hF_w15 hb_w15
  clear c_w12_0_0 c_w12_0_1 fz_w12_0 hl_w12_0 c_w12_1_0 c_w12_1_1 fz_w12_1 hl_w12_1 c_w12_2_0 c_w12_2_1 fz_w12_2 hl_w12_2 c_w12_3_0 c_w12_3_1 fz_w12_3 hl_w12_3
  go_wp2_with fail
  refine HQ_.out _ _ _ ?_
  clear HQ_ Q_
  go_wp2_with fail
  -- own blocks: w.heap.size + 1:2
  refine bodyPost_ret (v := .agg #[.bool s14, .slice A14 n14 c14]) (by simp only [results, Try.results84]; go_simp) rfl ⟨?_, ?_⟩
  · have hB := HB15.out; ((with_reducible (repeat (first | exact bR _ _ | refine bS ?_ ?_ _ | refine bA ?_ ?_ _ | refine bD ?_ | refine bT ?_ (by assumption) ?_ | refine bO (by assumption) ?_ ?_))) <;> (first | omega | (simp; done) | (simp <;> omega)))
  · exact ⟨_, rfl, (by ((repeat (first | (with_reducible exact H14.out) | (with_reducible refine IsC.al ?_ _) | (with_reducible apply IsC.st1))) <;> (first | (with_reducible assumption) | (intro _ e; cases e; done) | (go_simp; first | done | exact rfl))))⟩
set_option maxRecDepth 100000 in
set_option maxHeartbeats 20000000 in
theorem rstatic_bad (v1 v2 w1 w2 n1 n2 rest grip : Int) (w : World) (h : ¬ (permB v1 v2 w1 w2 n1 n2 = true ∧ (sixB rest && sixB grip) = true)) :
    Calls Try.prog 32 #[.agg #[.int .i64 v1, .int .i64 v2], .agg #[.int .i64 w1, .int .i64 w2], .agg #[.int .i64 n1, .int .i64 n2], .int .i64 rest, .int .i64 grip] w (ROut 0 0 0 w) := by
  have k1 := fun w => rspeed_any v1 v2 w
  have k2 := fun w => rspeed_any w1 w2 w
  have k3 := fun w => rdirection_any n1 n2 w
  have k4 := fun w => rpart_any rest w
  have k5 := fun w => rpart_any grip w
  unfold permB at h
  generalize withinB v1 v2 1048576 = c1 at *
  generalize withinB w1 w2 1048576 = c2 at *
  generalize withinB n1 n2 2097152 = c3 at *
  generalize sixB rest = c4 at *
  generalize sixB grip = c5 at *
  have H := Lib.hid h
  have K1 := Lib.hid k1
  have K2 := Lib.hid k2
  have K3 := Lib.hid k3
  have K4 := Lib.hid k4
  have K5 := Lib.hid k5
  clear k1 k2 k3 k4 k5 h
  go_enter Try.func32, Try.ntmps32; (try simp only [List.append_eq, List.cons_append, List.nil_append])
  go_wp2_with fail
  -- own blocks: w.heap.size:2, w.heap.size + 1:2, w.heap.size + 1 + 1:2, w.heap.size + 1 + 1 + 1:6
  (go_at_call 34; refine (K1.out _).mono ?_; rintro e w1 ⟨rfl, hb_w1⟩; have hz_w1 := hb_w1.size; (try simp at hz_w1); (with_reducible apply cel2 (b := w.heap.size) hb_w1); (focus ((try simp) <;> omega)); (focus omega); (focus (go_simp; try exact rfl)); (focus (go_simp; try exact rfl)); (focus (intro o; go_simp)); intro c_w1_0_0 c_w1_0_1 fz_w1_0 hl_w1_0; (with_reducible apply cel2 (b := w.heap.size + 1) hb_w1); (focus ((try simp) <;> omega)); (focus omega); (focus (go_simp; try exact rfl)); (focus (go_simp; try exact rfl)); (focus (intro o; go_simp)); intro c_w1_1_0 c_w1_1_1 fz_w1_1 hl_w1_1; (with_reducible apply cel2 (b := w.heap.size + 1 + 1) hb_w1); (focus ((try simp) <;> omega)); (focus omega); (focus (go_simp; try exact rfl)); (focus (go_simp; try exact rfl)); (focus (intro o; go_simp)); intro c_w1_2_0 c_w1_2_1 fz_w1_2 hl_w1_2; (with_reducible apply cel6 (b := w.heap.size + 1 + 1 + 1) hb_w1); (focus ((try simp) <;> omega)); (focus omega); (focus (go_simp; try exact rfl)); (focus (go_simp; try exact rfl)); (focus (go_simp; try exact rfl)); (focus (go_simp; try exact rfl)); (focus (go_simp; try exact rfl)); (focus (go_simp; try exact rfl)); (focus (intro o; go_simp)); intro c_w1_3_0 c_w1_3_1 c_w1_3_2 c_w1_3_3 c_w1_3_4 c_w1_3_5 fz_w1_3 hl_w1_3)
  cases c1
  · go_wp2_with fail
    refine bodyPost_ret (v := .agg #[.bool false, .slice none 0 0, .bool false, .slice none 0 0, .bool false, .slice none 0 0]) (by simp only [results, Try.results32]; go_simp) rfl ⟨?_, ?_⟩
    · ((with_reducible (repeat (first | exact bR _ _ | refine bS ?_ ?_ _ | refine bA ?_ ?_ _ | refine bD ?_ | refine bT ?_ (by assumption) ?_ | refine bO (by assumption) ?_ ?_))) <;> (first | omega | (simp; done) | (simp <;> omega)))
    · exact ⟨_, rfl, RAt.zero _⟩
  · go_wp2_with fail
    (go_at_call 34; refine (K2.out _).mono ?_; rintro e w2 ⟨rfl, hb_w2⟩; have hz_w2 := hb_w2.size; (try simp at hz_w2); (with_reducible apply cel2 (b := w.heap.size) hb_w2); (focus ((try simp) <;> omega)); (focus omega); (focus (go_simp; try exact rfl)); (focus (go_simp; try exact rfl)); (focus (intro o; go_simp)); intro c_w2_0_0 c_w2_0_1 fz_w2_0 hl_w2_0; (with_reducible apply cel2 (b := w.heap.size + 1) hb_w2); (focus ((try simp) <;> omega)); (focus omega); (focus (go_simp; try exact rfl)); (focus (go_simp; try exact rfl)); (focus (intro o; go_simp)); intro c_w2_1_0 c_w2_1_1 fz_w2_1 hl_w2_1; (with_reducible apply cel2 (b := w.heap.size + 1 + 1) hb_w2); (focus ((try simp) <;> omega)); (focus omega); (focus (go_simp; try exact rfl)); (focus (go_simp; try exact rfl)); (focus (intro o; go_simp)); intro c_w2_2_0 c_w2_2_1 fz_w2_2 hl_w2_2; (with_reducible apply cel6 (b := w.heap.size + 1 + 1 + 1) hb_w2); (focus ((try simp) <;> omega)); (focus omega); (focus (go_simp; try exact rfl)); (focus (go_simp; try exact rfl)); (focus (go_simp; try exact rfl)); (focus (go_simp; try exact rfl)); (focus (go_simp; try exact rfl)); (focus (go_simp; try exact rfl)); (focus (intro o; go_simp)); intro c_w2_3_0 c_w2_3_1 c_w2_3_2 c_w2_3_3 c_w2_3_4 c_w2_3_5 fz_w2_3 hl_w2_3)
    cases c2
    · go_wp2_with fail
      refine bodyPost_ret (v := .agg #[.bool false, .slice none 0 0, .bool false, .slice none 0 0, .bool false, .slice none 0 0]) (by simp only [results, Try.results32]; go_simp) rfl ⟨?_, ?_⟩
      · ((with_reducible (repeat (first | exact bR _ _ | refine bS ?_ ?_ _ | refine bA ?_ ?_ _ | refine bD ?_ | refine bT ?_ (by assumption) ?_ | refine bO (by assumption) ?_ ?_))) <;> (first | omega | (simp; done) | (simp <;> omega)))
      · exact ⟨_, rfl, RAt.zero _⟩
    · go_wp2_with fail
      (go_at_call 71; refine (K3.out _).mono ?_; rintro e w3 ⟨rfl, hb_w3⟩; have hz_w3 := hb_w3.size; (try simp at hz_w3); (with_reducible apply cel2 (b := w.heap.size) hb_w3); (focus ((try simp) <;> omega)); (focus omega); (focus (go_simp; try exact rfl)); (focus (go_simp; try exact rfl)); (focus (intro o; go_simp)); intro c_w3_0_0 c_w3_0_1 fz_w3_0 hl_w3_0; (with_reducible apply cel2 (b := w.heap.size + 1) hb_w3); (focus ((try simp) <;> omega)); (focus omega); (focus (go_simp; try exact rfl)); (focus (go_simp; try exact rfl)); (focus (intro o; go_simp)); intro c_w3_1_0 c_w3_1_1 fz_w3_1 hl_w3_1; (with_reducible apply cel2 (b := w.heap.size + 1 + 1) hb_w3); (focus ((try simp) <;> omega)); (focus omega); (focus (go_simp; try exact rfl)); (focus (go_simp; try exact rfl)); (focus (intro o; go_simp)); intro c_w3_2_0 c_w3_2_1 fz_w3_2 hl_w3_2; (with_reducible apply cel6 (b := w.heap.size + 1 + 1 + 1) hb_w3); (focus ((try simp) <;> omega)); (focus omega); (focus (go_simp; try exact rfl)); (focus (go_simp; try exact rfl)); (focus (go_simp; try exact rfl)); (focus (go_simp; try exact rfl)); (focus (go_simp; try exact rfl)); (focus (go_simp; try exact rfl)); (focus (intro o; go_simp)); intro c_w3_3_0 c_w3_3_1 c_w3_3_2 c_w3_3_3 c_w3_3_4 c_w3_3_5 fz_w3_3 hl_w3_3)
      cases c3
      · go_wp2_with fail
        refine bodyPost_ret (v := .agg #[.bool false, .slice none 0 0, .bool false, .slice none 0 0, .bool false, .slice none 0 0]) (by simp only [results, Try.results32]; go_simp) rfl ⟨?_, ?_⟩
        · ((with_reducible (repeat (first | exact bR _ _ | refine bS ?_ ?_ _ | refine bA ?_ ?_ _ | refine bD ?_ | refine bT ?_ (by assumption) ?_ | refine bO (by assumption) ?_ ?_))) <;> (first | omega | (simp; done) | (simp <;> omega)))
        · exact ⟨_, rfl, RAt.zero _⟩
      · go_wp2_with fail
        (go_at_call 82; refine (K4.out _).mono ?_; rintro e w4 ⟨rfl, hb_w4⟩; have hz_w4 := hb_w4.size; (try simp at hz_w4); (with_reducible apply cel2 (b := w.heap.size) hb_w4); (focus ((try simp) <;> omega)); (focus omega); (focus (go_simp; try exact rfl)); (focus (go_simp; try exact rfl)); (focus (intro o; go_simp)); intro c_w4_0_0 c_w4_0_1 fz_w4_0 hl_w4_0; (with_reducible apply cel2 (b := w.heap.size + 1) hb_w4); (focus ((try simp) <;> omega)); (focus omega); (focus (go_simp; try exact rfl)); (focus (go_simp; try exact rfl)); (focus (intro o; go_simp)); intro c_w4_1_0 c_w4_1_1 fz_w4_1 hl_w4_1; (with_reducible apply cel2 (b := w.heap.size + 1 + 1) hb_w4); (focus ((try simp) <;> omega)); (focus omega); (focus (go_simp; try exact rfl)); (focus (go_simp; try exact rfl)); (focus (intro o; go_simp)); intro c_w4_2_0 c_w4_2_1 fz_w4_2 hl_w4_2; (with_reducible apply cel6 (b := w.heap.size + 1 + 1 + 1) hb_w4); (focus ((try simp) <;> omega)); (focus omega); (focus (go_simp; try exact rfl)); (focus (go_simp; try exact rfl)); (focus (go_simp; try exact rfl)); (focus (go_simp; try exact rfl)); (focus (go_simp; try exact rfl)); (focus (go_simp; try exact rfl)); (focus (intro o; go_simp)); intro c_w4_3_0 c_w4_3_1 c_w4_3_2 c_w4_3_3 c_w4_3_4 c_w4_3_5 fz_w4_3 hl_w4_3)
        cases c4
        · go_wp2_with fail
          refine bodyPost_ret (v := .agg #[.bool false, .slice none 0 0, .bool false, .slice none 0 0, .bool false, .slice none 0 0]) (by simp only [results, Try.results32]; go_simp) rfl ⟨?_, ?_⟩
          · ((with_reducible (repeat (first | exact bR _ _ | refine bS ?_ ?_ _ | refine bA ?_ ?_ _ | refine bD ?_ | refine bT ?_ (by assumption) ?_ | refine bO (by assumption) ?_ ?_))) <;> (first | omega | (simp; done) | (simp <;> omega)))
          · exact ⟨_, rfl, RAt.zero _⟩
        · go_wp2_with fail
          (go_at_call 82; refine (K5.out _).mono ?_; rintro e w5 ⟨rfl, hb_w5⟩; have hz_w5 := hb_w5.size; (try simp at hz_w5); (with_reducible apply cel2 (b := w.heap.size) hb_w5); (focus ((try simp) <;> omega)); (focus omega); (focus (go_simp; try exact rfl)); (focus (go_simp; try exact rfl)); (focus (intro o; go_simp)); intro c_w5_0_0 c_w5_0_1 fz_w5_0 hl_w5_0; (with_reducible apply cel2 (b := w.heap.size + 1) hb_w5); (focus ((try simp) <;> omega)); (focus omega); (focus (go_simp; try exact rfl)); (focus (go_simp; try exact rfl)); (focus (intro o; go_simp)); intro c_w5_1_0 c_w5_1_1 fz_w5_1 hl_w5_1; (with_reducible apply cel2 (b := w.heap.size + 1 + 1) hb_w5); (focus ((try simp) <;> omega)); (focus omega); (focus (go_simp; try exact rfl)); (focus (go_simp; try exact rfl)); (focus (intro o; go_simp)); intro c_w5_2_0 c_w5_2_1 fz_w5_2 hl_w5_2; (with_reducible apply cel6 (b := w.heap.size + 1 + 1 + 1) hb_w5); (focus ((try simp) <;> omega)); (focus omega); (focus (go_simp; try exact rfl)); (focus (go_simp; try exact rfl)); (focus (go_simp; try exact rfl)); (focus (go_simp; try exact rfl)); (focus (go_simp; try exact rfl)); (focus (go_simp; try exact rfl)); (focus (intro o; go_simp)); intro c_w5_3_0 c_w5_3_1 c_w5_3_2 c_w5_3_3 c_w5_3_4 c_w5_3_5 fz_w5_3 hl_w5_3)
          cases c5
          · go_wp2_with fail
            refine bodyPost_ret (v := .agg #[.bool false, .slice none 0 0, .bool false, .slice none 0 0, .bool false, .slice none 0 0]) (by simp only [results, Try.results32]; go_simp) rfl ⟨?_, ?_⟩
            · ((with_reducible (repeat (first | exact bR _ _ | refine bS ?_ ?_ _ | refine bA ?_ ?_ _ | refine bD ?_ | refine bT ?_ (by assumption) ?_ | refine bO (by assumption) ?_ ?_))) <;> (first | omega | (simp; done) | (simp <;> omega)))
            · exact ⟨_, rfl, RAt.zero _⟩
          · exact absurd (by simp) H.out
set_option maxRecDepth 100000 in
set_option maxHeartbeats 20000000 in
theorem rstatic_away (v1 v2 w1 w2 n1 n2 rest grip : Int) (w : World) (h : permB v1 v2 w1 w2 n1 n2 = true) (hr : sixB rest = true) (hg : sixB grip = true) (ha : apprB v1 v2 w1 w2 n1 n2 = false) :
    Calls Try.prog 32 #[.agg #[.int .i64 v1, .int .i64 v2], .agg #[.int .i64 w1, .int .i64 w2], .agg #[.int .i64 n1, .int .i64 n2], .int .i64 rest, .int .i64 grip] w (ROut v1 v2 1 w) := by
  obtain ⟨bv, _, _⟩ := perm_bd h
  have k1 := fun w => rspeed_any v1 v2 w
  have k2 := fun w => rspeed_any w1 w2 w
  have k3 := fun w => rdirection_any n1 n2 w
  have k4 := fun w => rpart_any rest w
  have k5 := fun w => rpart_any grip w
  have hp := h
  unfold permB at hp
  simp only [Bool.and_eq_true] at hp
  rw [hp.1.1] at k1
  rw [hp.1.2] at k2
  rw [hp.2] at k3
  rw [hr] at k4
  rw [hg] at k5
  have k6 := fun w => rapproaches_any v1 v2 w1 w2 n1 n2 w
  have k7 := fun w => rwhole_any v1 v2 w (by omega) (by omega)
  rw [ha] at k6
  have K1 := Lib.hid k1
  have K2 := Lib.hid k2
  have K3 := Lib.hid k3
  have K4 := Lib.hid k4
  have K5 := Lib.hid k5
  have K6 := Lib.hid k6
  have K7 := Lib.hid k7
  clear k1 k2 k3 k4 k5 k6 k7 h hr hg ha bv hp
  -- names on
  go_enter Try.func32, Try.ntmps32; (try simp only [List.append_eq, List.cons_append, List.nil_append])
  go_wp2_with fail
  -- own blocks: w.heap.size:2, w.heap.size + 1:2, w.heap.size + 1 + 1:2, w.heap.size + 1 + 1 + 1:6
  (go_at_call 34; refine (K1.out _).mono ?_; rintro e w2 ⟨rfl, hb_w2⟩; have hz_w2 := hb_w2.size; (try simp at hz_w2); (with_reducible apply cel2 (b := w.heap.size) hb_w2); (focus ((try simp) <;> omega)); (focus omega); (focus (go_simp; try exact rfl)); (focus (go_simp; try exact rfl)); (focus (intro o; go_simp)); intro c_w2_0_0 c_w2_0_1 fz_w2_0 hl_w2_0; (with_reducible apply cel2 (b := w.heap.size + 1) hb_w2); (focus ((try simp) <;> omega)); (focus omega); (focus (go_simp; try exact rfl)); (focus (go_simp; try exact rfl)); (focus (intro o; go_simp)); intro c_w2_1_0 c_w2_1_1 fz_w2_1 hl_w2_1; (with_reducible apply cel2 (b := w.heap.size + 1 + 1) hb_w2); (focus ((try simp) <;> omega)); (focus omega); (focus (go_simp; try exact rfl)); (focus (go_simp; try exact rfl)); (focus (intro o; go_simp)); intro c_w2_2_0 c_w2_2_1 fz_w2_2 hl_w2_2; (with_reducible apply cel6 (b := w.heap.size + 1 + 1 + 1) hb_w2); (focus ((try simp) <;> omega)); (focus omega); (focus (go_simp; try exact rfl)); (focus (go_simp; try exact rfl)); (focus (go_simp; try exact rfl)); (focus (go_simp; try exact rfl)); (focus (go_simp; try exact rfl)); (focus (go_simp; try exact rfl)); (focus (intro o; go_simp)); intro c_w2_3_0 c_w2_3_1 c_w2_3_2 c_w2_3_3 c_w2_3_4 c_w2_3_5 fz_w2_3 hl_w2_3)
  have HB2 := Lib.hid (show Below w.heap.size w w2 by ((with_reducible (repeat (first | exact bR _ _ | refine bS ?_ ?_ _ | refine bA ?_ ?_ _ | refine bD ?_ | refine bT ?_ (by assumption) ?_ | refine bO (by assumption) ?_ ?_))) <;> (first | omega | (simp; done) | (simp <;> omega))))
  have hz2 : w.heap.size + 1 + 1 + 1 + 1 ≤ w2.heap.size := by omega
  clear hb_w2
  skip
  go_wp2_with fail
  -- own blocks: w.heap.size:2, w.heap.size + 1:2, w.heap.size + 1 + 1:2, w.heap.size + 1 + 1 + 1:6
  (go_at_call 34; refine (K2.out _).mono ?_; rintro e w3 ⟨rfl, hb_w3⟩; have hz_w3 := hb_w3.size; (try simp at hz_w3); (with_reducible apply cel2 (b := w.heap.size) hb_w3); (focus ((try simp) <;> omega)); (focus omega); (focus (go_simp; try exact rfl)); (focus (go_simp; try exact rfl)); (focus (intro o; go_simp)); intro c_w3_0_0 c_w3_0_1 fz_w3_0 hl_w3_0; (with_reducible apply cel2 (b := w.heap.size + 1) hb_w3); (focus ((try simp) <;> omega)); (focus omega); (focus (go_simp; try exact rfl)); (focus (go_simp; try exact rfl)); (focus (intro o; go_simp)); intro c_w3_1_0 c_w3_1_1 fz_w3_1 hl_w3_1; (with_reducible apply cel2 (b := w.heap.size + 1 + 1) hb_w3); (focus ((try simp) <;> omega)); (focus omega); (focus (go_simp; try exact rfl)); (focus (go_simp; try exact rfl)); (focus (intro o; go_simp)); intro c_w3_2_0 c_w3_2_1 fz_w3_2 hl_w3_2; (with_reducible apply cel6 (b := w.heap.size + 1 + 1 + 1) hb_w3); (focus ((try simp) <;> omega)); (focus omega); (focus (go_simp; try exact rfl)); (focus (go_simp; try exact rfl)); (focus (go_simp; try exact rfl)); (focus (go_simp; try exact rfl)); (focus (go_simp; try exact rfl)); (focus (go_simp; try exact rfl)); (focus (intro o; go_simp)); intro c_w3_3_0 c_w3_3_1 c_w3_3_2 c_w3_3_3 c_w3_3_4 c_w3_3_5 fz_w3_3 hl_w3_3)
  have HB3 := Lib.hid (show Below w.heap.size w w3 by have hB := HB2.out; ((with_reducible (repeat (first | exact bR _ _ | refine bS ?_ ?_ _ | refine bA ?_ ?_ _ | refine bD ?_ | refine bT ?_ (by assumption) ?_ | refine bO (by assumption) ?_ ?_))) <;> (first | omega | (simp; done) | (simp <;> omega))))
  have hz3 : w.heap.size + 1 + 1 + 1 + 1 ≤ w3.heap.size := by omega
  clear hb_w3
  clear c_w2_0_0 c_w2_0_1 fz_w2_0 hl_w2_0 c_w2_1_0 c_w2_1_1 fz_w2_1 hl_w2_1 c_w2_2_0 c_w2_2_1 fz_w2_2 hl_w2_2 c_w2_3_0 c_w2_3_1 c_w2_3_2 c_w2_3_3 c_w2_3_4 c_w2_3_5 fz_w2_3 hl_w2_3
  go_wp2_with fail
  -- own blocks: w.heap.size:2, w.heap.size + 1:2, w.heap.size + 1 + 1:2, w.heap.size + 1 + 1 + 1:6
  (go_at_call 71; refine (K3.out _).mono ?_; rintro e w4 ⟨rfl, hb_w4⟩; have hz_w4 := hb_w4.size; (try simp at hz_w4); (with_reducible apply cel2 (b := w.heap.size) hb_w4); (focus ((try simp) <;> omega)); (focus omega); (focus (go_simp; try exact rfl)); (focus (go_simp; try exact rfl)); (focus (intro o; go_simp)); intro c_w4_0_0 c_w4_0_1 fz_w4_0 hl_w4_0; (with_reducible apply cel2 (b := w.heap.size + 1) hb_w4); (focus ((try simp) <;> omega)); (focus omega); (focus (go_simp; try exact rfl)); (focus (go_simp; try exact rfl)); (focus (intro o; go_simp)); intro c_w4_1_0 c_w4_1_1 fz_w4_1 hl_w4_1; (with_reducible apply cel2 (b := w.heap.size + 1 + 1) hb_w4); (focus ((try simp) <;> omega)); (focus omega); (focus (go_simp; try exact rfl)); (focus (go_simp; try exact rfl)); (focus (intro o; go_simp)); intro c_w4_2_0 c_w4_2_1 fz_w4_2 hl_w4_2; (with_reducible apply cel6 (b := w.heap.size + 1 + 1 + 1) hb_w4); (focus ((try simp) <;> omega)); (focus omega); (focus (go_simp; try exact rfl)); (focus (go_simp; try exact rfl)); (focus (go_simp; try exact rfl)); (focus (go_simp; try exact rfl)); (focus (go_simp; try exact rfl)); (focus (go_simp; try exact rfl)); (focus (intro o; go_simp)); intro c_w4_3_0 c_w4_3_1 c_w4_3_2 c_w4_3_3 c_w4_3_4 c_w4_3_5 fz_w4_3 hl_w4_3)
  have HB4 := Lib.hid (show Below w.heap.size w w4 by have hB := HB3.out; ((with_reducible (repeat (first | exact bR _ _ | refine bS ?_ ?_ _ | refine bA ?_ ?_ _ | refine bD ?_ | refine bT ?_ (by assumption) ?_ | refine bO (by assumption) ?_ ?_))) <;> (first | omega | (simp; done) | (simp <;> omega))))
  have hz4 : w.heap.size + 1 + 1 + 1 + 1 ≤ w4.heap.size := by omega
  clear hb_w4
  clear c_w3_0_0 c_w3_0_1 fz_w3_0 hl_w3_0 c_w3_1_0 c_w3_1_1 fz_w3_1 hl_w3_1 c_w3_2_0 c_w3_2_1 fz_w3_2 hl_w3_2 c_w3_3_0 c_w3_3_1 c_w3_3_2 c_w3_3_3 c_w3_3_4 c_w3_3_5 fz_w3_3 hl_w3_3
  go_wp2_with fail
  -- own blocks: w.heap.size:2, w.heap.size + 1:2, w.heap.size + 1 + 1:2, w.heap.size + 1 + 1 + 1:6
  (go_at_call 82; refine (K4.out _).mono ?_; rintro e w5 ⟨rfl, hb_w5⟩; have hz_w5 := hb_w5.size; (try simp at hz_w5); (with_reducible apply cel2 (b := w.heap.size) hb_w5); (focus ((try simp) <;> omega)); (focus omega); (focus (go_simp; try exact rfl)); (focus (go_simp; try exact rfl)); (focus (intro o; go_simp)); intro c_w5_0_0 c_w5_0_1 fz_w5_0 hl_w5_0; (with_reducible apply cel2 (b := w.heap.size + 1) hb_w5); (focus ((try simp) <;> omega)); (focus omega); (focus (go_simp; try exact rfl)); (focus (go_simp; try exact rfl)); (focus (intro o; go_simp)); intro c_w5_1_0 c_w5_1_1 fz_w5_1 hl_w5_1; (with_reducible apply cel2 (b := w.heap.size + 1 + 1) hb_w5); (focus ((try simp) <;> omega)); (focus omega); (focus (go_simp; try exact rfl)); (focus (go_simp; try exact rfl)); (focus (intro o; go_simp)); intro c_w5_2_0 c_w5_2_1 fz_w5_2 hl_w5_2; (with_reducible apply cel6 (b := w.heap.size + 1 + 1 + 1) hb_w5); (focus ((try simp) <;> omega)); (focus omega); (focus (go_simp; try exact rfl)); (focus (go_simp; try exact rfl)); (focus (go_simp; try exact rfl)); (focus (go_simp; try exact rfl)); (focus (go_simp; try exact rfl)); (focus (go_simp; try exact rfl)); (focus (intro o; go_simp)); intro c_w5_3_0 c_w5_3_1 c_w5_3_2 c_w5_3_3 c_w5_3_4 c_w5_3_5 fz_w5_3 hl_w5_3)
  have HB5 := Lib.hid (show Below w.heap.size w w5 by have hB := HB4.out; ((with_reducible (repeat (first | exact bR _ _ | refine bS ?_ ?_ _ | refine bA ?_ ?_ _ | refine bD ?_ | refine bT ?_ (by assumption) ?_ | refine bO (by assumption) ?_ ?_))) <;> (first | omega | (simp; done) | (simp <;> omega))))
  have hz5 : w.heap.size + 1 + 1 + 1 + 1 ≤ w5.heap.size := by omega
  clear hb_w5
  clear c_w4_0_0 c_w4_0_1 fz_w4_0 hl_w4_0 c_w4_1_0 c_w4_1_1 fz_w4_1 hl_w4_1 c_w4_2_0 c_w4_2_1 fz_w4_2 hl_w4_2 c_w4_3_0 c_w4_3_1 c_w4_3_2 c_w4_3_3 c_w4_3_4 c_w4_3_5 fz_w4_3 hl_w4_3
  go_wp2_with fail
  -- own blocks: w.heap.size:2, w.heap.size + 1:2, w.heap.size + 1 + 1:2, w.heap.size + 1 + 1 + 1:6
  (go_at_call 82; refine (K5.out _).mono ?_; rintro e w6 ⟨rfl, hb_w6⟩; have hz_w6 := hb_w6.size; (try simp at hz_w6); (with_reducible apply cel2 (b := w.heap.size) hb_w6); (focus ((try simp) <;> omega)); (focus omega); (focus (go_simp; try exact rfl)); (focus (go_simp; try exact rfl)); (focus (intro o; go_simp)); intro c_w6_0_0 c_w6_0_1 fz_w6_0 hl_w6_0; (with_reducible apply cel2 (b := w.heap.size + 1) hb_w6); (focus ((try simp) <;> omega)); (focus omega); (focus (go_simp; try exact rfl)); (focus (go_simp; try exact rfl)); (focus (intro o; go_simp)); intro c_w6_1_0 c_w6_1_1 fz_w6_1 hl_w6_1; (with_reducible apply cel2 (b := w.heap.size + 1 + 1) hb_w6); (focus ((try simp) <;> omega)); (focus omega); (focus (go_simp; try exact rfl)); (focus (go_simp; try exact rfl)); (focus (intro o; go_simp)); intro c_w6_2_0 c_w6_2_1 fz_w6_2 hl_w6_2; (with_reducible apply cel6 (b := w.heap.size + 1 + 1 + 1) hb_w6); (focus ((try simp) <;> omega)); (focus omega); (focus (go_simp; try exact rfl)); (focus (go_simp; try exact rfl)); (focus (go_simp; try exact rfl)); (focus (go_simp; try exact rfl)); (focus (go_simp; try exact rfl)); (focus (go_simp; try exact rfl)); (focus (intro o; go_simp)); intro c_w6_3_0 c_w6_3_1 c_w6_3_2 c_w6_3_3 c_w6_3_4 c_w6_3_5 fz_w6_3 hl_w6_3)
  have HB6 := Lib.hid (show Below w.heap.size w w6 by have hB := HB5.out; ((with_reducible (repeat (first | exact bR _ _ | refine bS ?_ ?_ _ | refine bA ?_ ?_ _ | refine bD ?_ | refine bT ?_ (by assumption) ?_ | refine bO (by assumption) ?_ ?_))) <;> (first | omega | (simp; done) | (simp <;> omega))))
  have hz6 : w.heap.size + 1 + 1 + 1 + 1 ≤ w6.heap.size := by omega
  clear hb_w6
  clear c_w5_0_0 c_w5_0_1 fz_w5_0 hl_w5_0 c_w5_1_0 c_w5_1_1 fz_w5_1 hl_w5_1 c_w5_2_0 c_w5_2_1 fz_w5_2 hl_w5_2 c_w5_3_0 c_w5_3_1 c_w5_3_2 c_w5_3_3 c_w5_3_4 c_w5_3_5 fz_w5_3 hl_w5_3
  go_wp2_with fail
  -- own blocks: w.heap.size:2, w.heap.size + 1 + 1 + 1:6
  (go_at_call 27; refine (K6.out _).mono ?_; rintro e w7 ⟨rfl, hb_w7⟩; have hz_w7 := hb_w7.size; (try simp at hz_w7); (with_reducible apply cel2 (b := w.heap.size) hb_w7); (focus ((try simp) <;> omega)); (focus omega); (focus (go_simp; try exact rfl)); (focus (go_simp; try exact rfl)); (focus (intro o; go_simp)); intro c_w7_0_0 c_w7_0_1 fz_w7_0 hl_w7_0; (with_reducible apply cel6 (b := w.heap.size + 1 + 1 + 1) hb_w7); (focus ((try simp) <;> omega)); (focus omega); (focus (go_simp; try exact rfl)); (focus (go_simp; try exact rfl)); (focus (go_simp; try exact rfl)); (focus (go_simp; try exact rfl)); (focus (go_simp; try exact rfl)); (focus (go_simp; try exact rfl)); (focus (intro o; go_simp)); intro c_w7_1_0 c_w7_1_1 c_w7_1_2 c_w7_1_3 c_w7_1_4 c_w7_1_5 fz_w7_1 hl_w7_1)
  have HB7 := Lib.hid (show Below w.heap.size w w7 by have hB := HB6.out; ((with_reducible (repeat (first | exact bR _ _ | refine bS ?_ ?_ _ | refine bA ?_ ?_ _ | refine bD ?_ | refine bT ?_ (by assumption) ?_ | refine bO (by assumption) ?_ ?_))) <;> (first | omega | (simp; done) | (simp <;> omega))))
  have hz7 : w.heap.size + 1 + 1 + 1 + 1 ≤ w7.heap.size := by omega
  clear hb_w7
  clear c_w6_0_0 c_w6_0_1 fz_w6_0 hl_w6_0 c_w6_1_0 c_w6_1_1 fz_w6_1 hl_w6_1 c_w6_2_0 c_w6_2_1 fz_w6_2 hl_w6_2 c_w6_3_0 c_w6_3_1 c_w6_3_2 c_w6_3_3 c_w6_3_4 c_w6_3_5 fz_w6_3 hl_w6_3
  go_wp2_with fail
  -- own blocks: w.heap.size + 1 + 1 + 1:6
  (go_at_call 39; refine (K7.out _).mono ?_; rintro e w8 ⟨hb_w8, v8, rfl, hv8⟩; have hz_w8 := hb_w8.size; (try simp at hz_w8); (with_reducible apply cel6 (b := w.heap.size + 1 + 1 + 1) hb_w8); (focus ((try simp) <;> omega)); (focus omega); (focus (go_simp; try exact rfl)); (focus (go_simp; try exact rfl)); (focus (go_simp; try exact rfl)); (focus (go_simp; try exact rfl)); (focus (go_simp; try exact rfl)); (focus (go_simp; try exact rfl)); (focus (intro o; go_simp)); intro c_w8_0_0 c_w8_0_1 c_w8_0_2 c_w8_0_3 c_w8_0_4 c_w8_0_5 fz_w8_0 hl_w8_0)
  obtain ⟨s8x, A8x, n8x, c8x, s8y, A8y, n8y, c8y, s8d, A8d, n8d, c8d, rfl⟩ := RAt.val hv8
  have HB8 := Lib.hid (show Below w.heap.size w w8 by have hB := HB7.out; ((with_reducible (repeat (first | exact bR _ _ | refine bS ?_ ?_ _ | refine bA ?_ ?_ _ | refine bD ?_ | refine bT ?_ (by assumption) ?_ | refine bO (by assumption) ?_ ?_))) <;> (first | omega | (simp; done) | (simp <;> omega))))
  have hz8 : w.heap.size + 1 + 1 + 1 + 1 ≤ w8.heap.size := by omega
  clear hb_w8
  clear c_w7_0_0 c_w7_0_1 fz_w7_0 hl_w7_0 c_w7_1_0 c_w7_1_1 c_w7_1_2 c_w7_1_3 c_w7_1_4 c_w7_1_5 fz_w7_1 hl_w7_1
  have H8 := Lib.hid (show RAt w8 (.agg #[.bool s8x, .slice A8x n8x c8x, .bool s8y, .slice A8y n8y c8y, .bool s8d, .slice A8d n8d c8d]) (v1) (v2) (1) from hv8)
  clear hv8
  go_wp2_with fail
  -- own blocks: w.heap.size + 1 + 1 + 1:6
  refine bodyPost_ret (v := .agg #[.bool s8x, .slice A8x n8x c8x, .bool s8y, .slice A8y n8y c8y, .bool s8d, .slice A8d n8d c8d]) (by simp only [results, Try.results32]; go_simp) rfl ⟨?_, ?_⟩
  · have hB := HB8.out; ((with_reducible (repeat (first | exact bR _ _ | refine bS ?_ ?_ _ | refine bA ?_ ?_ _ | refine bD ?_ | refine bT ?_ (by assumption) ?_ | refine bO (by assumption) ?_ ?_))) <;> (first | omega | (simp; done) | (simp <;> omega)))
  · exact ⟨_, rfl, (by ((repeat (first | (with_reducible exact H8.out) | (with_reducible refine RAt.al ?_ _) | (with_reducible apply RAt.st1))) <;> (first | (with_reducible assumption) | (intro _ e; cases e; done) | (go_simp; first | done | exact rfl))))⟩
set_option maxRecDepth 100000 in
set_option maxHeartbeats 20000000 in
theorem rstatic_on (v1 v2 w1 w2 n1 n2 rest grip : Int) (w : World) (h : permB v1 v2 w1 w2 n1 n2 = true) (hr : sixB rest = true) (hg : sixB grip = true) (ha : apprB v1 v2 w1 w2 n1 n2 = true) :
    Calls Try.prog 32 #[.agg #[.int .i64 v1, .int .i64 v2], .agg #[.int .i64 w1, .int .i64 w2], .agg #[.int .i64 n1, .int .i64 n2], .int .i64 rest, .int .i64 grip] w (TOut (lowR (statX v1 (v1 - w1) n1 (n1 * n1 + n2 * n2) ((v1 - w1) * n1 + (v2 - w2) * n2) rest grip) (statX v2 (v2 - w2) n2 (n1 * n1 + n2 * n2) ((v1 - w1) * n1 + (v2 - w2) * n2) rest grip) (16 * (n1 * n1 + n2 * n2))) w) := by
  obtain ⟨bv, bw, bn⟩ := perm_bd h
  obtain ⟨e1, e2, e3⟩ := perm_vals h
  obtain ⟨⟨p1, p2⟩, p3, p4⟩ := perm_prod h
  obtain ⟨_, _, q3⟩ := appr_bd ha
  have t1 := sm1 h hr hg
  have t2 := sm2 h hr hg
  have k1 := fun w => rspeed_any v1 v2 w
  have k2 := fun w => rspeed_any w1 w2 w
  have k3 := fun w => rdirection_any n1 n2 w
  have k4 := fun w => rpart_any rest w
  have k5 := fun w => rpart_any grip w
  have hp := h
  unfold permB at hp
  simp only [Bool.and_eq_true] at hp
  rw [hp.1.1] at k1
  rw [hp.1.2] at k2
  rw [hp.2] at k3
  rw [hr] at k4
  rw [hg] at k5
  have k6 := fun w => rapproaches_any v1 v2 w1 w2 n1 n2 w
  have k7 := fun w => rsub_any v1 v2 w1 w2 w
  have k8 := fun w => rdot_any (v1 - w1) (v2 - w2) n1 n2 w
  have k9 := fun w => rdot_any n1 n2 n1 n2 w
  rw [ha] at k6
  rw [e1] at k7
  rw [e2] at k8
  rw [e3] at k9
  generalize (v1 - w1) * n1 + (v2 - w2) * n2 = C at *
  generalize n1 * n1 + n2 * n2 = M at *
  have k10 := fun w => rscaled_any 16 M w (by omega) (by omega)
  have k11 := fun dv w hd => rone_any v1 (v1 - w1) n1 C M rest grip dv w t1 hd
  have k12 := fun dv w hd => rone_any v2 (v2 - w2) n2 C M rest grip dv w t2 hd
  have l1 := t1.len
  have l2 := t2.len
  have l3 := len_wd (z := 16 * M) (by omega) (by omega)
  generalize statX v1 (v1 - w1) n1 M C rest grip = X at *
  generalize statX v2 (v2 - w2) n2 M C rest grip = Y at *
  have k13 := fun v w hv => rlowest_any X Y (16 * M) v w hv (by omega) (by omega) (by omega) (by omega)
  unfold TOut lowR
  generalize X.tdiv (lowG X Y (16 * M)) = RX at *
  generalize Y.tdiv (lowG X Y (16 * M)) = RY at *
  generalize (16 * M).tdiv (lowG X Y (16 * M)) = RD at *
  obtain ⟨bv1, bv2, bv3, bv4⟩ := bv
  have K1 := Lib.hid k1
  have K2 := Lib.hid k2
  have K3 := Lib.hid k3
  have K4 := Lib.hid k4
  have K5 := Lib.hid k5
  have K6 := Lib.hid k6
  have K7 := Lib.hid k7
  have K8 := Lib.hid k8
  have K9 := Lib.hid k9
  have K10 := Lib.hid k10
  have K11 := Lib.hid k11
  have K12 := Lib.hid k12
  have K13 := Lib.hid k13
  clear k1 k2 k3 k4 k5 k6 k7 k8 k9 k10 k11 k12 k13 h hr hg ha e1 e2 e3 t1 t2 l1 l2 l3 hp
  simp only
  -- names on
  go_enter Try.func32, Try.ntmps32; (try simp only [List.append_eq, List.cons_append, List.nil_append])
  go_wp2_with fail
  -- own blocks: w.heap.size:2, w.heap.size + 1:2, w.heap.size + 1 + 1:2, w.heap.size + 1 + 1 + 1:6
  (go_at_call 34; refine (K1.out _).mono ?_; rintro e w2 ⟨rfl, hb_w2⟩; have hz_w2 := hb_w2.size; (try simp at hz_w2); (with_reducible apply cel2 (b := w.heap.size) hb_w2); (focus ((try simp) <;> omega)); (focus omega); (focus (go_simp; try exact rfl)); (focus (go_simp; try exact rfl)); (focus (intro o; go_simp)); intro c_w2_0_0 c_w2_0_1 fz_w2_0 hl_w2_0; (with_reducible apply cel2 (b := w.heap.size + 1) hb_w2); (focus ((try simp) <;> omega)); (focus omega); (focus (go_simp; try exact rfl)); (focus (go_simp; try exact rfl)); (focus (intro o; go_simp)); intro c_w2_1_0 c_w2_1_1 fz_w2_1 hl_w2_1; (with_reducible apply cel2 (b := w.heap.size + 1 + 1) hb_w2); (focus ((try simp) <;> omega)); (focus omega); (focus (go_simp; try exact rfl)); (focus (go_simp; try exact rfl)); (focus (intro o; go_simp)); intro c_w2_2_0 c_w2_2_1 fz_w2_2 hl_w2_2; (with_reducible apply cel6 (b := w.heap.size + 1 + 1 + 1) hb_w2); (focus ((try simp) <;> omega)); (focus omega); (focus (go_simp; try exact rfl)); (focus (go_simp; try exact rfl)); (focus (go_simp; try exact rfl)); (focus (go_simp; try exact rfl)); (focus (go_simp; try exact rfl)); (focus (go_simp; try exact rfl)); (focus (intro o; go_simp)); intro c_w2_3_0 c_w2_3_1 c_w2_3_2 c_w2_3_3 c_w2_3_4 c_w2_3_5 fz_w2_3 hl_w2_3)
  have HB2 := Lib.hid (show Below w.heap.size w w2 by ((with_reducible (repeat (first | exact bR _ _ | refine bS ?_ ?_ _ | refine bA ?_ ?_ _ | refine bD ?_ | refine bT ?_ (by assumption) ?_ | refine bO (by assumption) ?_ ?_))) <;> (first | omega | (simp; done) | (simp <;> omega))))
  have hz2 : w.heap.size + 1 + 1 + 1 + 1 ≤ w2.heap.size := by omega
  clear hb_w2
  skip
  go_wp2_with fail
  -- own blocks: w.heap.size:2, w.heap.size + 1:2, w.heap.size + 1 + 1:2, w.heap.size + 1 + 1 + 1:6
  (go_at_call 34; refine (K2.out _).mono ?_; rintro e w3 ⟨rfl, hb_w3⟩; have hz_w3 := hb_w3.size; (try simp at hz_w3); (with_reducible apply cel2 (b := w.heap.size) hb_w3); (focus ((try simp) <;> omega)); (focus omega); (focus (go_simp; try exact rfl)); (focus (go_simp; try exact rfl)); (focus (intro o; go_simp)); intro c_w3_0_0 c_w3_0_1 fz_w3_0 hl_w3_0; (with_reducible apply cel2 (b := w.heap.size + 1) hb_w3); (focus ((try simp) <;> omega)); (focus omega); (focus (go_simp; try exact rfl)); (focus (go_simp; try exact rfl)); (focus (intro o; go_simp)); intro c_w3_1_0 c_w3_1_1 fz_w3_1 hl_w3_1; (with_reducible apply cel2 (b := w.heap.size + 1 + 1) hb_w3); (focus ((try simp) <;> omega)); (focus omega); (focus (go_simp; try exact rfl)); (focus (go_simp; try exact rfl)); (focus (intro o; go_simp)); intro c_w3_2_0 c_w3_2_1 fz_w3_2 hl_w3_2; (with_reducible apply cel6 (b := w.heap.size + 1 + 1 + 1) hb_w3); (focus ((try simp) <;> omega)); (focus omega); (focus (go_simp; try exact rfl)); (focus (go_simp; try exact rfl)); (focus (go_simp; try exact rfl)); (focus (go_simp; try exact rfl)); (focus (go_simp; try exact rfl)); (focus (go_simp; try exact rfl)); (focus (intro o; go_simp)); intro c_w3_3_0 c_w3_3_1 c_w3_3_2 c_w3_3_3 c_w3_3_4 c_w3_3_5 fz_w3_3 hl_w3_3)
  have HB3 := Lib.hid (show Below w.heap.size w w3 by have hB := HB2.out; ((with_reducible (repeat (first | exact bR _ _ | refine bS ?_ ?_ _ | refine bA ?_ ?_ _ | refine bD ?_ | refine bT ?_ (by assumption) ?_ | refine bO (by assumption) ?_ ?_))) <;> (first | omega | (simp; done) | (simp <;> omega))))
  have hz3 : w.heap.size + 1 + 1 + 1 + 1 ≤ w3.heap.size := by omega
  clear hb_w3
  clear c_w2_0_0 c_w2_0_1 fz_w2_0 hl_w2_0 c_w2_1_0 c_w2_1_1 fz_w2_1 hl_w2_1 c_w2_2_0 c_w2_2_1 fz_w2_2 hl_w2_2 c_w2_3_0 c_w2_3_1 c_w2_3_2 c_w2_3_3 c_w2_3_4 c_w2_3_5 fz_w2_3 hl_w2_3
  go_wp2_with fail
  -- own blocks: w.heap.size:2, w.heap.size + 1:2, w.heap.size + 1 + 1:2, w.heap.size + 1 + 1 + 1:6
  (go_at_call 71; refine (K3.out _).mono ?_; rintro e w4 ⟨rfl, hb_w4⟩; have hz_w4 := hb_w4.size; (try simp at hz_w4); (with_reducible apply cel2 (b := w.heap.size) hb_w4); (focus ((try simp) <;> omega)); (focus omega); (focus (go_simp; try exact rfl)); (focus (go_simp; try exact rfl)); (focus (intro o; go_simp)); intro c_w4_0_0 c_w4_0_1 fz_w4_0 hl_w4_0; (with_reducible apply cel2 (b := w.heap.size + 1) hb_w4); (focus ((try simp) <;> omega)); (focus omega); (focus (go_simp; try exact rfl)); (focus (go_simp; try exact rfl)); (focus (intro o; go_simp)); intro c_w4_1_0 c_w4_1_1 fz_w4_1 hl_w4_1; (with_reducible apply cel2 (b := w.heap.size + 1 + 1) hb_w4); (focus ((try simp) <;> omega)); (focus omega); (focus (go_simp; try exact rfl)); (focus (go_simp; try exact rfl)); (focus (intro o; go_simp)); intro c_w4_2_0 c_w4_2_1 fz_w4_2 hl_w4_2; (with_reducible apply cel6 (b := w.heap.size + 1 + 1 + 1) hb_w4); (focus ((try simp) <;> omega)); (focus omega); (focus (go_simp; try exact rfl)); (focus (go_simp; try exact rfl)); (focus (go_simp; try exact rfl)); (focus (go_simp; try exact rfl)); (focus (go_simp; try exact rfl)); (focus (go_simp; try exact rfl)); (focus (intro o; go_simp)); intro c_w4_3_0 c_w4_3_1 c_w4_3_2 c_w4_3_3 c_w4_3_4 c_w4_3_5 fz_w4_3 hl_w4_3)
  have HB4 := Lib.hid (show Below w.heap.size w w4 by have hB := HB3.out; ((with_reducible (repeat (first | exact bR _ _ | refine bS ?_ ?_ _ | refine bA ?_ ?_ _ | refine bD ?_ | refine bT ?_ (by assumption) ?_ | refine bO (by assumption) ?_ ?_))) <;> (first | omega | (simp; done) | (simp <;> omega))))
  have hz4 : w.heap.size + 1 + 1 + 1 + 1 ≤ w4.heap.size := by omega
  clear hb_w4
  clear c_w3_0_0 c_w3_0_1 fz_w3_0 hl_w3_0 c_w3_1_0 c_w3_1_1 fz_w3_1 hl_w3_1 c_w3_2_0 c_w3_2_1 fz_w3_2 hl_w3_2 c_w3_3_0 c_w3_3_1 c_w3_3_2 c_w3_3_3 c_w3_3_4 c_w3_3_5 fz_w3_3 hl_w3_3
  go_wp2_with fail
  -- own blocks: w.heap.size:2, w.heap.size + 1:2, w.heap.size + 1 + 1:2, w.heap.size + 1 + 1 + 1:6
  (go_at_call 82; refine (K4.out _).mono ?_; rintro e w5 ⟨rfl, hb_w5⟩; have hz_w5 := hb_w5.size; (try simp at hz_w5); (with_reducible apply cel2 (b := w.heap.size) hb_w5); (focus ((try simp) <;> omega)); (focus omega); (focus (go_simp; try exact rfl)); (focus (go_simp; try exact rfl)); (focus (intro o; go_simp)); intro c_w5_0_0 c_w5_0_1 fz_w5_0 hl_w5_0; (with_reducible apply cel2 (b := w.heap.size + 1) hb_w5); (focus ((try simp) <;> omega)); (focus omega); (focus (go_simp; try exact rfl)); (focus (go_simp; try exact rfl)); (focus (intro o; go_simp)); intro c_w5_1_0 c_w5_1_1 fz_w5_1 hl_w5_1; (with_reducible apply cel2 (b := w.heap.size + 1 + 1) hb_w5); (focus ((try simp) <;> omega)); (focus omega); (focus (go_simp; try exact rfl)); (focus (go_simp; try exact rfl)); (focus (intro o; go_simp)); intro c_w5_2_0 c_w5_2_1 fz_w5_2 hl_w5_2; (with_reducible apply cel6 (b := w.heap.size + 1 + 1 + 1) hb_w5); (focus ((try simp) <;> omega)); (focus omega); (focus (go_simp; try exact rfl)); (focus (go_simp; try exact rfl)); (focus (go_simp; try exact rfl)); (focus (go_simp; try exact rfl)); (focus (go_simp; try exact rfl)); (focus (go_simp; try exact rfl)); (focus (intro o; go_simp)); intro c_w5_3_0 c_w5_3_1 c_w5_3_2 c_w5_3_3 c_w5_3_4 c_w5_3_5 fz_w5_3 hl_w5_3)
  have HB5 := Lib.hid (show Below w.heap.size w w5 by have hB := HB4.out; ((with_reducible (repeat (first | exact bR _ _ | refine bS ?_ ?_ _ | refine bA ?_ ?_ _ | refine bD ?_ | refine bT ?_ (by assumption) ?_ | refine bO (by assumption) ?_ ?_))) <;> (first | omega | (simp; done) | (simp <;> omega))))
  have hz5 : w.heap.size + 1 + 1 + 1 + 1 ≤ w5.heap.size := by omega
  clear hb_w5
  clear c_w4_0_0 c_w4_0_1 fz_w4_0 hl_w4_0 c_w4_1_0 c_w4_1_1 fz_w4_1 hl_w4_1 c_w4_2_0 c_w4_2_1 fz_w4_2 hl_w4_2 c_w4_3_0 c_w4_3_1 c_w4_3_2 c_w4_3_3 c_w4_3_4 c_w4_3_5 fz_w4_3 hl_w4_3
  go_wp2_with fail
  -- own blocks: w.heap.size:2, w.heap.size + 1:2, w.heap.size + 1 + 1:2, w.heap.size + 1 + 1 + 1:6
  (go_at_call 82; refine (K5.out _).mono ?_; rintro e w6 ⟨rfl, hb_w6⟩; have hz_w6 := hb_w6.size; (try simp at hz_w6); (with_reducible apply cel2 (b := w.heap.size) hb_w6); (focus ((try simp) <;> omega)); (focus omega); (focus (go_simp; try exact rfl)); (focus (go_simp; try exact rfl)); (focus (intro o; go_simp)); intro c_w6_0_0 c_w6_0_1 fz_w6_0 hl_w6_0; (with_reducible apply cel2 (b := w.heap.size + 1) hb_w6); (focus ((try simp) <;> omega)); (focus omega); (focus (go_simp; try exact rfl)); (focus (go_simp; try exact rfl)); (focus (intro o; go_simp)); intro c_w6_1_0 c_w6_1_1 fz_w6_1 hl_w6_1; (with_reducible apply cel2 (b := w.heap.size + 1 + 1) hb_w6); (focus ((try simp) <;> omega)); (focus omega); (focus (go_simp; try exact rfl)); (focus (go_simp; try exact rfl)); (focus (intro o; go_simp)); intro c_w6_2_0 c_w6_2_1 fz_w6_2 hl_w6_2; (with_reducible apply cel6 (b := w.heap.size + 1 + 1 + 1) hb_w6); (focus ((try simp) <;> omega)); (focus omega); (focus (go_simp; try exact rfl)); (focus (go_simp; try exact rfl)); (focus (go_simp; try exact rfl)); (focus (go_simp; try exact rfl)); (focus (go_simp; try exact rfl)); (focus (go_simp; try exact rfl)); (focus (intro o; go_simp)); intro c_w6_3_0 c_w6_3_1 c_w6_3_2 c_w6_3_3 c_w6_3_4 c_w6_3_5 fz_w6_3 hl_w6_3)
  have HB6 := Lib.hid (show Below w.heap.size w w6 by have hB := HB5.out; ((with_reducible (repeat (first | exact bR _ _ | refine bS ?_ ?_ _ | refine bA ?_ ?_ _ | refine bD ?_ | refine bT ?_ (by assumption) ?_ | refine bO (by assumption) ?_ ?_))) <;> (first | omega | (simp; done) | (simp <;> omega))))
  have hz6 : w.heap.size + 1 + 1 + 1 + 1 ≤ w6.heap.size := by omega
  clear hb_w6
  clear c_w5_0_0 c_w5_0_1 fz_w5_0 hl_w5_0 c_w5_1_0 c_w5_1_1 fz_w5_1 hl_w5_1 c_w5_2_0 c_w5_2_1 fz_w5_2 hl_w5_2 c_w5_3_0 c_w5_3_1 c_w5_3_2 c_w5_3_3 c_w5_3_4 c_w5_3_5 fz_w5_3 hl_w5_3
  go_wp2_with fail
  -- own blocks: w.heap.size:2, w.heap.size + 1:2, w.heap.size + 1 + 1:2, w.heap.size + 1 + 1 + 1:6
  (go_at_call 27; refine (K6.out _).mono ?_; rintro e w7 ⟨rfl, hb_w7⟩; have hz_w7 := hb_w7.size; (try simp at hz_w7); (with_reducible apply cel2 (b := w.heap.size) hb_w7); (focus ((try simp) <;> omega)); (focus omega); (focus (go_simp; try exact rfl)); (focus (go_simp; try exact rfl)); (focus (intro o; go_simp)); intro c_w7_0_0 c_w7_0_1 fz_w7_0 hl_w7_0; (with_reducible apply cel2 (b := w.heap.size + 1) hb_w7); (focus ((try simp) <;> omega)); (focus omega); (focus (go_simp; try exact rfl)); (focus (go_simp; try exact rfl)); (focus (intro o; go_simp)); intro c_w7_1_0 c_w7_1_1 fz_w7_1 hl_w7_1; (with_reducible apply cel2 (b := w.heap.size + 1 + 1) hb_w7); (focus ((try simp) <;> omega)); (focus omega); (focus (go_simp; try exact rfl)); (focus (go_simp; try exact rfl)); (focus (intro o; go_simp)); intro c_w7_2_0 c_w7_2_1 fz_w7_2 hl_w7_2; (with_reducible apply cel6 (b := w.heap.size + 1 + 1 + 1) hb_w7); (focus ((try simp) <;> omega)); (focus omega); (focus (go_simp; try exact rfl)); (focus (go_simp; try exact rfl)); (focus (go_simp; try exact rfl)); (focus (go_simp; try exact rfl)); (focus (go_simp; try exact rfl)); (focus (go_simp; try exact rfl)); (focus (intro o; go_simp)); intro c_w7_3_0 c_w7_3_1 c_w7_3_2 c_w7_3_3 c_w7_3_4 c_w7_3_5 fz_w7_3 hl_w7_3)
  have HB7 := Lib.hid (show Below w.heap.size w w7 by have hB := HB6.out; ((with_reducible (repeat (first | exact bR _ _ | refine bS ?_ ?_ _ | refine bA ?_ ?_ _ | refine bD ?_ | refine bT ?_ (by assumption) ?_ | refine bO (by assumption) ?_ ?_))) <;> (first | omega | (simp; done) | (simp <;> omega))))
  have hz7 : w.heap.size + 1 + 1 + 1 + 1 ≤ w7.heap.size := by omega
  clear hb_w7
  clear c_w6_0_0 c_w6_0_1 fz_w6_0 hl_w6_0 c_w6_1_0 c_w6_1_1 fz_w6_1 hl_w6_1 c_w6_2_0 c_w6_2_1 fz_w6_2 hl_w6_2 c_w6_3_0 c_w6_3_1 c_w6_3_2 c_w6_3_3 c_w6_3_4 c_w6_3_5 fz_w6_3 hl_w6_3
  go_wp2_with fail
  -- own blocks: w.heap.size:2, w.heap.size + 1 + 1:2, w.heap.size + 1 + 1 + 1:6
  (go_at_call 72; refine (K7.out _).mono ?_; rintro e w8 ⟨rfl, hb_w8⟩; have hz_w8 := hb_w8.size; (try simp at hz_w8); (with_reducible apply cel2 (b := w.heap.size) hb_w8); (focus ((try simp) <;> omega)); (focus omega); (focus (go_simp; try exact rfl)); (focus (go_simp; try exact rfl)); (focus (intro o; go_simp)); intro c_w8_0_0 c_w8_0_1 fz_w8_0 hl_w8_0; (with_reducible apply cel2 (b := w.heap.size + 1 + 1) hb_w8); (focus ((try simp) <;> omega)); (focus omega); (focus (go_simp; try exact rfl)); (focus (go_simp; try exact rfl)); (focus (intro o; go_simp)); intro c_w8_1_0 c_w8_1_1 fz_w8_1 hl_w8_1; (with_reducible apply cel6 (b := w.heap.size + 1 + 1 + 1) hb_w8); (focus ((try simp) <;> omega)); (focus omega); (focus (go_simp; try exact rfl)); (focus (go_simp; try exact rfl)); (focus (go_simp; try exact rfl)); (focus (go_simp; try exact rfl)); (focus (go_simp; try exact rfl)); (focus (go_simp; try exact rfl)); (focus (intro o; go_simp)); intro c_w8_2_0 c_w8_2_1 c_w8_2_2 c_w8_2_3 c_w8_2_4 c_w8_2_5 fz_w8_2 hl_w8_2)
  have HB8 := Lib.hid (show Below w.heap.size w w8 by have hB := HB7.out; ((with_reducible (repeat (first | exact bR _ _ | refine bS ?_ ?_ _ | refine bA ?_ ?_ _ | refine bD ?_ | refine bT ?_ (by assumption) ?_ | refine bO (by assumption) ?_ ?_))) <;> (first | omega | (simp; done) | (simp <;> omega))))
  have hz8 : w.heap.size + 1 + 1 + 1 + 1 ≤ w8.heap.size := by omega
  clear hb_w8
  clear c_w7_0_0 c_w7_0_1 fz_w7_0 hl_w7_0 c_w7_1_0 c_w7_1_1 fz_w7_1 hl_w7_1 c_w7_2_0 c_w7_2_1 fz_w7_2 hl_w7_2 c_w7_3_0 c_w7_3_1 c_w7_3_2 c_w7_3_3 c_w7_3_4 c_w7_3_5 fz_w7_3 hl_w7_3
  go_wp2_with fail
  -- own blocks: w.heap.size:2, w.heap.size + 1 + 1:2, w.heap.size + 1 + 1 + 1:6, w8.heap.size:2
  (refine pin_wp (N := _) (Nat.le_refl _) (fun w9 hb_w9 hz_w9 => ?_); (try simp at hz_w9); (with_reducible apply cel2 (b := w.heap.size) hb_w9); (focus ((try simp) <;> omega)); (focus omega); (focus (go_simp; try exact rfl)); (focus (go_simp; try exact rfl)); (focus (intro o; go_simp)); intro c_w9_0_0 c_w9_0_1 fz_w9_0 hl_w9_0; (with_reducible apply cel2 (b := w.heap.size + 1 + 1) hb_w9); (focus ((try simp) <;> omega)); (focus omega); (focus (go_simp; try exact rfl)); (focus (go_simp; try exact rfl)); (focus (intro o; go_simp)); intro c_w9_1_0 c_w9_1_1 fz_w9_1 hl_w9_1; (with_reducible apply cel6 (b := w.heap.size + 1 + 1 + 1) hb_w9); (focus ((try simp) <;> omega)); (focus omega); (focus (go_simp; try exact rfl)); (focus (go_simp; try exact rfl)); (focus (go_simp; try exact rfl)); (focus (go_simp; try exact rfl)); (focus (go_simp; try exact rfl)); (focus (go_simp; try exact rfl)); (focus (intro o; go_simp)); intro c_w9_2_0 c_w9_2_1 c_w9_2_2 c_w9_2_3 c_w9_2_4 c_w9_2_5 fz_w9_2 hl_w9_2; (with_reducible apply cel2 (b := w8.heap.size) hb_w9); (focus ((try simp) <;> omega)); (focus omega); (focus (go_simp; try exact rfl)); (focus (go_simp; try exact rfl)); (focus (intro o; go_simp)); intro c_w9_3_0 c_w9_3_1 fz_w9_3 hl_w9_3); refine wp_q (fun Q_ HQ_ => ?_); refine wp_region_floatQ w9.heap.size 8 [] (Nat.le_refl _) (fun _ => True) trivial Cl.tt (by kernel_rfl) (by kernel_rfl) ?_
  have HB9 := Lib.hid (show Below w.heap.size w w9 by have hB := HB8.out; ((with_reducible (repeat (first | exact bR _ _ | refine bS ?_ ?_ _ | refine bA ?_ ?_ _ | refine bD ?_ | refine bT ?_ (by assumption) ?_ | refine bO (by assumption) ?_ ?_))) <;> (first | omega | (simp; done) | (simp <;> omega))))
  have hz9 : w.heap.size + 1 + 1 + 1 + 1 ≤ w9.heap.size := by omega
  clear hb_w9
  clear c_w8_0_0 c_w8_0_1 fz_w8_0 hl_w8_0 c_w8_1_0 c_w8_1_1 fz_w8_1 hl_w8_1 c_w8_2_0 c_w8_2_1 c_w8_2_2 c_w8_2_3 c_w8_2_4 c_w8_2_5 fz_w8_2 hl_w8_2
  refine wpQI_start [0, 1] ?_; (iterate 2 (first | (refine wpQI_off (by with_reducible (refine List.getElem?_toArray.trans ?_; (repeat (first | exact List.getElem?_cons_zero | refine List.getElem?_cons_succ.trans ?_)))) (by kernel_rfl) (by exact rfl) (fun K hK => ?_); go_simp; refine hK _ ?_; clear hK K) | ((first | apply wpQI_step (by with_reducible (refine List.getElem?_toArray.trans ?_; (repeat (first | exact List.getElem?_cons_zero | refine List.getElem?_cons_succ.trans ?_)))) (by kernel_rfl) (by exact rfl) | apply wpQI_on (by with_reducible (refine List.getElem?_toArray.trans ?_; (repeat (first | exact List.getElem?_cons_zero | refine List.getElem?_cons_succ.trans ?_)))) (by kernel_rfl) (by exact rfl)); (focus (intro W' hS; have hcS := hS.cells.1; have hfS := hS.cells.2; go_simp; (first | done | exact rfl | exact ⟨rfl, Below.refl _ _⟩ | (go_simp; first | done | exact rfl | exact ⟨rfl, Below.refl _ _⟩)))); intro K hK; go_simp; (try go_bits); refine hK _ ?_; clear hK K))); refine wpQI_nil ?_
  refine wpQI_start [3, 4] ?_; (iterate 2 (first | (refine wpQI_off (by with_reducible (refine List.getElem?_toArray.trans ?_; (repeat (first | exact List.getElem?_cons_zero | refine List.getElem?_cons_succ.trans ?_)))) (by kernel_rfl) (by exact rfl) (fun K hK => ?_); go_simp; refine hK _ ?_; clear hK K) | ((first | apply wpQI_step (by with_reducible (refine List.getElem?_toArray.trans ?_; (repeat (first | exact List.getElem?_cons_zero | refine List.getElem?_cons_succ.trans ?_)))) (by kernel_rfl) (by exact rfl) | apply wpQI_on (by with_reducible (refine List.getElem?_toArray.trans ?_; (repeat (first | exact List.getElem?_cons_zero | refine List.getElem?_cons_succ.trans ?_)))) (by kernel_rfl) (by exact rfl)); (focus (intro W' hS; have hcS := hS.cells.1; have hfS := hS.cells.2; go_simp; (first | done | exact rfl | exact ⟨rfl, Below.refl _ _⟩ | (go_simp; first | done | exact rfl | exact ⟨rfl, Below.refl _ _⟩)))); intro K hK; go_simp; (try go_bits); refine hK _ ?_; clear hK K))); refine wpQI_nil ?_
  refine wpQI_start [2] ?_; (iterate 1 (first | (refine wpQI_off (by with_reducible (refine List.getElem?_toArray.trans ?_; (repeat (first | exact List.getElem?_cons_zero | refine List.getElem?_cons_succ.trans ?_)))) (by kernel_rfl) (by exact rfl) (fun K hK => ?_); go_simp; refine hK _ ?_; clear hK K) | ((first | apply wpQI_step (by with_reducible (refine List.getElem?_toArray.trans ?_; (repeat (first | exact List.getElem?_cons_zero | refine List.getElem?_cons_succ.trans ?_)))) (by kernel_rfl) (by exact rfl) | apply wpQI_on (by with_reducible (refine List.getElem?_toArray.trans ?_; (repeat (first | exact List.getElem?_cons_zero | refine List.getElem?_cons_succ.trans ?_)))) (by kernel_rfl) (by exact rfl)); (focus (intro W' hS; have hcS := hS.cells.1; have hfS := hS.cells.2; go_simp; (first | done | exact rfl | exact ⟨rfl, Below.refl _ _⟩ | (go_at_call 54; exact (K8.out _).mono (fun _ _ h => ⟨h.1, h.2⟩)) | (go_simp; first | done | exact rfl | exact ⟨rfl, Below.refl _ _⟩)))); intro K hK; go_simp; (try go_bits); refine hK _ ?_; clear hK K))); refine wpQI_nil ?_
  refine wpQI_start [5] ?_; (iterate 1 (first | (refine wpQI_off (by with_reducible (refine List.getElem?_toArray.trans ?_; (repeat (first | exact List.getElem?_cons_zero | refine List.getElem?_cons_succ.trans ?_)))) (by kernel_rfl) (by exact rfl) (fun K hK => ?_); go_simp; refine hK _ ?_; clear hK K) | ((first | apply wpQI_step (by with_reducible (refine List.getElem?_toArray.trans ?_; (repeat (first | exact List.getElem?_cons_zero | refine List.getElem?_cons_succ.trans ?_)))) (by kernel_rfl) (by exact rfl) | apply wpQI_on (by with_reducible (refine List.getElem?_toArray.trans ?_; (repeat (first | exact List.getElem?_cons_zero | refine List.getElem?_cons_succ.trans ?_)))) (by kernel_rfl) (by exact rfl)); (focus (intro W' hS; have hcS := hS.cells.1; have hfS := hS.cells.2; go_simp; (first | done | exact rfl | exact ⟨rfl, Below.refl _ _⟩ | (go_at_call 54; exact (K9.out _).mono (fun _ _ h => ⟨h.1, h.2⟩)) | (go_simp; first | done | exact rfl | exact ⟨rfl, Below.refl _ _⟩)))); intro K hK; go_simp; (try go_bits); refine hK _ ?_; clear hK K))); refine wpQI_nil ?_
  refine wpQI_start [6, 7] ?_; (iterate 2 (first | (refine wpQI_off (by with_reducible (refine List.getElem?_toArray.trans ?_; (repeat (first | exact List.getElem?_cons_zero | refine List.getElem?_cons_succ.trans ?_)))) (by kernel_rfl) (by exact rfl) (fun K hK => ?_); go_simp; refine hK _ ?_; clear hK K) | ((first | apply wpQI_step (by with_reducible (refine List.getElem?_toArray.trans ?_; (repeat (first | exact List.getElem?_cons_zero | refine List.getElem?_cons_succ.trans ?_)))) (by kernel_rfl) (by exact rfl) | apply wpQI_on (by with_reducible (refine List.getElem?_toArray.trans ?_; (repeat (first | exact List.getElem?_cons_zero | refine List.getElem?_cons_succ.trans ?_)))) (by kernel_rfl) (by exact rfl)); (focus (intro W' hS; have hcS := hS.cells.1; have hfS := hS.cells.2; go_simp; (first | done | exact rfl | exact ⟨rfl, Below.refl _ _⟩ | (go_simp; first | done | exact rfl | exact ⟨rfl, Below.refl _ _⟩)))); intro K hK; go_simp; (try go_bits); refine hK _ ?_; clear hK K))); refine wpQI_nil ?_
  refine wpQ_done (by kernel_rfl) ?_
  intro w10 hF_w10 hSG
  have hz_w10 := hSG.1.1
  have hb_w10 := hSG.1.2
  clear hSG
  (with_reducible apply cel2 (b := w.heap.size) hb_w10); (focus ((try simp) <;> omega)); (focus omega); (focus (go_simp; try exact rfl)); (focus (go_simp; try exact rfl)); (focus (intro o; go_simp)); intro c_w10_0_0 c_w10_0_1 fz_w10_0 hl_w10_0; (with_reducible apply cel2 (b := w.heap.size + 1 + 1) hb_w10); (focus ((try simp) <;> omega)); (focus omega); (focus (go_simp; try exact rfl)); (focus (go_simp; try exact rfl)); (focus (intro o; go_simp)); intro c_w10_1_0 c_w10_1_1 fz_w10_1 hl_w10_1; (with_reducible apply cel6 (b := w.heap.size + 1 + 1 + 1) hb_w10); (focus ((try simp) <;> omega)); (focus omega); (focus (go_simp; try exact rfl)); (focus (go_simp; try exact rfl)); (focus (go_simp; try exact rfl)); (focus (go_simp; try exact rfl)); (focus (go_simp; try exact rfl)); (focus (go_simp; try exact rfl)); (focus (intro o; go_simp)); intro c_w10_2_0 c_w10_2_1 c_w10_2_2 c_w10_2_3 c_w10_2_4 c_w10_2_5 fz_w10_2 hl_w10_2; (with_reducible apply cel2 (b := w8.heap.size) hb_w10); (focus ((try simp) <;> omega)); (focus omega); (focus (go_simp; try exact rfl)); (focus (go_simp; try exact rfl)); (focus (intro o; go_simp)); intro c_w10_3_0 c_w10_3_1 fz_w10_3 hl_w10_3
  (try simp only [List.filterMap_nil])
  have HB10 := Lib.hid (HB9.out.trans (hb_w10.mono (by have := HB9.out.size; omega)))
  have hz10 : w.heap.size + 1 + 1 + 1 + 1 ≤ w10.heap.size := by omega
  clear hF_w10 hb_w10
  clear c_w9_0_0 c_w9_0_1 fz_w9_0 hl_w9_0 c_w9_1_0 c_w9_1_1 fz_w9_1 hl_w9_1 c_w9_2_0 c_w9_2_1 c_w9_2_2 c_w9_2_3 c_w9_2_4 c_w9_2_5 fz_w9_2 hl_w9_2 c_w9_3_0 c_w9_3_1 fz_w9_3 hl_w9_3
  go_wp2_with fail
  refine HQ_.out _ _ _ ?_
  clear HQ_ Q_
  go_wp2_with fail
  -- own blocks: w.heap.size:2, w.heap.size + 1 + 1:2, w.heap.size + 1 + 1 + 1:6, w8.heap.size:2
  (go_at_call 83; refine (K10.out _).mono ?_; rintro e w11 ⟨hb_w11, v11, rfl, hv11⟩; have hz_w11 := hb_w11.size; (try simp at hz_w11); (with_reducible apply cel2 (b := w.heap.size) hb_w11); (focus ((try simp) <;> omega)); (focus omega); (focus (go_simp; try exact rfl)); (focus (go_simp; try exact rfl)); (focus (intro o; go_simp)); intro c_w11_0_0 c_w11_0_1 fz_w11_0 hl_w11_0; (with_reducible apply cel2 (b := w.heap.size + 1 + 1) hb_w11); (focus ((try simp) <;> omega)); (focus omega); (focus (go_simp; try exact rfl)); (focus (go_simp; try exact rfl)); (focus (intro o; go_simp)); intro c_w11_1_0 c_w11_1_1 fz_w11_1 hl_w11_1; (with_reducible apply cel6 (b := w.heap.size + 1 + 1 + 1) hb_w11); (focus ((try simp) <;> omega)); (focus omega); (focus (go_simp; try exact rfl)); (focus (go_simp; try exact rfl)); (focus (go_simp; try exact rfl)); (focus (go_simp; try exact rfl)); (focus (go_simp; try exact rfl)); (focus (go_simp; try exact rfl)); (focus (intro o; go_simp)); intro c_w11_2_0 c_w11_2_1 c_w11_2_2 c_w11_2_3 c_w11_2_4 c_w11_2_5 fz_w11_2 hl_w11_2; (with_reducible apply cel2 (b := w8.heap.size) hb_w11); (focus ((try simp) <;> omega)); (focus omega); (focus (go_simp; try exact rfl)); (focus (go_simp; try exact rfl)); (focus (intro o; go_simp)); intro c_w11_3_0 c_w11_3_1 fz_w11_3 hl_w11_3)
  obtain ⟨s11, A11, n11, c11, rfl⟩ := IsC.val hv11
  have HB11 := Lib.hid (show Below w.heap.size w w11 by have hB := HB10.out; ((with_reducible (repeat (first | exact bR _ _ | refine bS ?_ ?_ _ | refine bA ?_ ?_ _ | refine bD ?_ | refine bT ?_ (by assumption) ?_ | refine bO (by assumption) ?_ ?_))) <;> (first | omega | (simp; done) | (simp <;> omega))))
  have hz11 : w.heap.size + 1 + 1 + 1 + 1 ≤ w11.heap.size := by omega
  clear hb_w11
  clear c_w10_0_0 c_w10_0_1 fz_w10_0 hl_w10_0 c_w10_1_0 c_w10_1_1 fz_w10_1 hl_w10_1 c_w10_2_0 c_w10_2_1 c_w10_2_2 c_w10_2_3 c_w10_2_4 c_w10_2_5 fz_w10_2 hl_w10_2 c_w10_3_0 c_w10_3_1 fz_w10_3 hl_w10_3
  have H11 := Lib.hid (show IsC w11 (.agg #[.bool s11, .slice A11 n11 c11]) ((16 * M)) from hv11)
  clear hv11
  go_wp2_with fail
  -- own blocks: w.heap.size:2, w.heap.size + 1 + 1:2, w.heap.size + 1 + 1 + 1:6, w8.heap.size:2, w11.heap.size:2
  (go_at_call 84; refine (K11.out _ _ ((show IsC _ (.agg #[.bool s11, .slice A11 n11 c11]) ((16 * M)) by ((repeat (first | (with_reducible exact H11.out) | (with_reducible refine IsC.al ?_ _) | (with_reducible apply IsC.st1))) <;> (first | (with_reducible assumption) | (intro _ e; cases e; done) | (go_simp; first | done | exact rfl)))))).mono ?_; rintro e w12 ⟨hb_w12, v12, rfl, hv12⟩; have hz_w12 := hb_w12.size; (try simp at hz_w12); (with_reducible apply cel2 (b := w.heap.size) hb_w12); (focus ((try simp) <;> omega)); (focus omega); (focus (go_simp; try exact rfl)); (focus (go_simp; try exact rfl)); (focus (intro o; go_simp)); intro c_w12_0_0 c_w12_0_1 fz_w12_0 hl_w12_0; (with_reducible apply cel2 (b := w.heap.size + 1 + 1) hb_w12); (focus ((try simp) <;> omega)); (focus omega); (focus (go_simp; try exact rfl)); (focus (go_simp; try exact rfl)); (focus (intro o; go_simp)); intro c_w12_1_0 c_w12_1_1 fz_w12_1 hl_w12_1; (with_reducible apply cel6 (b := w.heap.size + 1 + 1 + 1) hb_w12); (focus ((try simp) <;> omega)); (focus omega); (focus (go_simp; try exact rfl)); (focus (go_simp; try exact rfl)); (focus (go_simp; try exact rfl)); (focus (go_simp; try exact rfl)); (focus (go_simp; try exact rfl)); (focus (go_simp; try exact rfl)); (focus (intro o; go_simp)); intro c_w12_2_0 c_w12_2_1 c_w12_2_2 c_w12_2_3 c_w12_2_4 c_w12_2_5 fz_w12_2 hl_w12_2; (with_reducible apply cel2 (b := w8.heap.size) hb_w12); (focus ((try simp) <;> omega)); (focus omega); (focus (go_simp; try exact rfl)); (focus (go_simp; try exact rfl)); (focus (intro o; go_simp)); intro c_w12_3_0 c_w12_3_1 fz_w12_3 hl_w12_3; (with_reducible apply cel2 (b := w11.heap.size) hb_w12); (focus ((try simp) <;> omega)); (focus omega); (focus (go_simp; try exact rfl)); (focus (go_simp; try exact rfl)); (focus (intro o; go_simp)); intro c_w12_4_0 c_w12_4_1 fz_w12_4 hl_w12_4)
  obtain ⟨s12, A12, n12, c12, rfl⟩ := IsC.val hv12
  replace H11 := Lib.hid (IsC.below (v := .agg #[.bool s11, .slice A11 n11 c11]) (z := (16 * M)) (by ((repeat (first | (with_reducible exact H11.out) | (with_reducible refine IsC.al ?_ _) | (with_reducible apply IsC.st1))) <;> (first | (with_reducible assumption) | (intro _ e; cases e; done) | (go_simp; first | done | exact rfl)))) hb_w12)
  have HB12 := Lib.hid (show Below w.heap.size w w12 by have hB := HB11.out; ((with_reducible (repeat (first | exact bR _ _ | refine bS ?_ ?_ _ | refine bA ?_ ?_ _ | refine bD ?_ | refine bT ?_ (by assumption) ?_ | refine bO (by assumption) ?_ ?_))) <;> (first | omega | (simp; done) | (simp <;> omega))))
  have hz12 : w.heap.size + 1 + 1 + 1 + 1 ≤ w12.heap.size := by omega
  clear hb_w12
  clear c_w11_0_0 c_w11_0_1 fz_w11_0 hl_w11_0 c_w11_1_0 c_w11_1_1 fz_w11_1 hl_w11_1 c_w11_2_0 c_w11_2_1 c_w11_2_2 c_w11_2_3 c_w11_2_4 c_w11_2_5 fz_w11_2 hl_w11_2 c_w11_3_0 c_w11_3_1 fz_w11_3 hl_w11_3
  have H12 := Lib.hid (show IsC w12 (.agg #[.bool s12, .slice A12 n12 c12]) (X) from hv12)
  clear hv12
  go_wp2_with fail
  -- own blocks: w.heap.size + 1 + 1 + 1:6, w11.heap.size:2, w12.heap.size:2
  (go_at_call 84; refine (K12.out _ _ ((show IsC _ (.agg #[.bool s11, .slice A11 n11 c11]) ((16 * M)) by ((repeat (first | (with_reducible exact H11.out) | (with_reducible refine IsC.al ?_ _) | (with_reducible apply IsC.st1))) <;> (first | (with_reducible assumption) | (intro _ e; cases e; done) | (go_simp; first | done | exact rfl)))))).mono ?_; rintro e w13 ⟨hb_w13, v13, rfl, hv13⟩; have hz_w13 := hb_w13.size; (try simp at hz_w13); (with_reducible apply cel6 (b := w.heap.size + 1 + 1 + 1) hb_w13); (focus ((try simp) <;> omega)); (focus omega); (focus (go_simp; try exact rfl)); (focus (go_simp; try exact rfl)); (focus (go_simp; try exact rfl)); (focus (go_simp; try exact rfl)); (focus (go_simp; try exact rfl)); (focus (go_simp; try exact rfl)); (focus (intro o; go_simp)); intro c_w13_0_0 c_w13_0_1 c_w13_0_2 c_w13_0_3 c_w13_0_4 c_w13_0_5 fz_w13_0 hl_w13_0; (with_reducible apply cel2 (b := w11.heap.size) hb_w13); (focus ((try simp) <;> omega)); (focus omega); (focus (go_simp; try exact rfl)); (focus (go_simp; try exact rfl)); (focus (intro o; go_simp)); intro c_w13_1_0 c_w13_1_1 fz_w13_1 hl_w13_1; (with_reducible apply cel2 (b := w12.heap.size) hb_w13); (focus ((try simp) <;> omega)); (focus omega); (focus (go_simp; try exact rfl)); (focus (go_simp; try exact rfl)); (focus (intro o; go_simp)); intro c_w13_2_0 c_w13_2_1 fz_w13_2 hl_w13_2)
  obtain ⟨s13, A13, n13, c13, rfl⟩ := IsC.val hv13
  replace H11 := Lib.hid (IsC.below (v := .agg #[.bool s11, .slice A11 n11 c11]) (z := (16 * M)) (by ((repeat (first | (with_reducible exact H11.out) | (with_reducible refine IsC.al ?_ _) | (with_reducible apply IsC.st1))) <;> (first | (with_reducible assumption) | (intro _ e; cases e; done) | (go_simp; first | done | exact rfl)))) hb_w13)
  replace H12 := Lib.hid (IsC.below (v := .agg #[.bool s12, .slice A12 n12 c12]) (z := X) (by ((repeat (first | (with_reducible exact H12.out) | (with_reducible refine IsC.al ?_ _) | (with_reducible apply IsC.st1))) <;> (first | (with_reducible assumption) | (intro _ e; cases e; done) | (go_simp; first | done | exact rfl)))) hb_w13)
  have HB13 := Lib.hid (show Below w.heap.size w w13 by have hB := HB12.out; ((with_reducible (repeat (first | exact bR _ _ | refine bS ?_ ?_ _ | refine bA ?_ ?_ _ | refine bD ?_ | refine bT ?_ (by assumption) ?_ | refine bO (by assumption) ?_ ?_))) <;> (first | omega | (simp; done) | (simp <;> omega))))
  have hz13 : w.heap.size + 1 + 1 + 1 + 1 ≤ w13.heap.size := by omega
  clear hb_w13
  clear c_w12_0_0 c_w12_0_1 fz_w12_0 hl_w12_0 c_w12_1_0 c_w12_1_1 fz_w12_1 hl_w12_1 c_w12_2_0 c_w12_2_1 c_w12_2_2 c_w12_2_3 c_w12_2_4 c_w12_2_5 fz_w12_2 hl_w12_2 c_w12_3_0 c_w12_3_1 fz_w12_3 hl_w12_3 c_w12_4_0 c_w12_4_1 fz_w12_4 hl_w12_4
  have H13 := Lib.hid (show IsC w13 (.agg #[.bool s13, .slice A13 n13 c13]) (Y) from hv13)
  clear hv13
  go_wp2_with fail
  -- own blocks: w.heap.size + 1 + 1 + 1:6
  (go_at_call 85; refine (K13.out _ _ (⟨_, _, _, _, _, _, _, _, _, _, _, _, rfl, (show IsC _ (.agg #[.bool s12, .slice A12 n12 c12]) (X) by ((repeat (first | (with_reducible exact H12.out) | (with_reducible refine IsC.al ?_ _) | (with_reducible apply IsC.st1))) <;> (first | (with_reducible assumption) | (intro _ e; cases e; done) | (go_simp; first | done | exact rfl)))), (show IsC _ (.agg #[.bool s13, .slice A13 n13 c13]) (Y) by ((repeat (first | (with_reducible exact H13.out) | (with_reducible refine IsC.al ?_ _) | (with_reducible apply IsC.st1))) <;> (first | (with_reducible assumption) | (intro _ e; cases e; done) | (go_simp; first | done | exact rfl)))), (show IsC _ (.agg #[.bool s11, .slice A11 n11 c11]) ((16 * M)) by ((repeat (first | (with_reducible exact H11.out) | (with_reducible refine IsC.al ?_ _) | (with_reducible apply IsC.st1))) <;> (first | (with_reducible assumption) | (intro _ e; cases e; done) | (go_simp; first | done | exact rfl))))⟩)).mono ?_; rintro e w14 ⟨hb_w14, v14, rfl, hv14⟩; have hz_w14 := hb_w14.size; (try simp at hz_w14); (with_reducible apply cel6 (b := w.heap.size + 1 + 1 + 1) hb_w14); (focus ((try simp) <;> omega)); (focus omega); (focus (go_simp; try exact rfl)); (focus (go_simp; try exact rfl)); (focus (go_simp; try exact rfl)); (focus (go_simp; try exact rfl)); (focus (go_simp; try exact rfl)); (focus (go_simp; try exact rfl)); (focus (intro o; go_simp)); intro c_w14_0_0 c_w14_0_1 c_w14_0_2 c_w14_0_3 c_w14_0_4 c_w14_0_5 fz_w14_0 hl_w14_0)
  obtain ⟨s14x, A14x, n14x, c14x, s14y, A14y, n14y, c14y, s14d, A14d, n14d, c14d, rfl⟩ := RAt.val hv14
  clear H11
  clear H12
  clear H13
  have HB14 := Lib.hid (show Below w.heap.size w w14 by have hB := HB13.out; ((with_reducible (repeat (first | exact bR _ _ | refine bS ?_ ?_ _ | refine bA ?_ ?_ _ | refine bD ?_ | refine bT ?_ (by assumption) ?_ | refine bO (by assumption) ?_ ?_))) <;> (first | omega | (simp; done) | (simp <;> omega))))
  have hz14 : w.heap.size + 1 + 1 + 1 + 1 ≤ w14.heap.size := by omega
  clear hb_w14
  clear c_w13_0_0 c_w13_0_1 c_w13_0_2 c_w13_0_3 c_w13_0_4 c_w13_0_5 fz_w13_0 hl_w13_0 c_w13_1_0 c_w13_1_1 fz_w13_1 hl_w13_1 c_w13_2_0 c_w13_2_1 fz_w13_2 hl_w13_2
  have H14 := Lib.hid (show RAt w14 (.agg #[.bool s14x, .slice A14x n14x c14x, .bool s14y, .slice A14y n14y c14y, .bool s14d, .slice A14d n14d c14d]) (RX) (RY) (RD) from hv14)
  clear hv14
  go_wp2_with fail
  -- own blocks: w.heap.size + 1 + 1 + 1:6
  refine bodyPost_ret (v := .agg #[.bool s14x, .slice A14x n14x c14x, .bool s14y, .slice A14y n14y c14y, .bool s14d, .slice A14d n14d c14d]) (by simp only [results, Try.results32]; go_simp) rfl ⟨?_, ?_⟩
  · have hB := HB14.out; ((with_reducible (repeat (first | exact bR _ _ | refine bS ?_ ?_ _ | refine bA ?_ ?_ _ | refine bD ?_ | refine bT ?_ (by assumption) ?_ | refine bO (by assumption) ?_ ?_))) <;> (first | omega | (simp; done) | (simp <;> omega)))
  · exact ⟨_, rfl, (by ((repeat (first | (with_reducible exact H14.out) | (with_reducible refine RAt.al ?_ _) | (with_reducible apply RAt.st1))) <;> (first | (with_reducible assumption) | (intro _ e; cases e; done) | (go_simp; first | done | exact rfl))))⟩
theorem rstatic_any (v1 v2 w1 w2 n1 n2 rest grip : Int) (w : World) : Calls Try.prog 32 #[.agg #[.int .i64 v1, .int .i64 v2], .agg #[.int .i64 w1, .int .i64 w2], .agg #[.int .i64 n1, .int .i64 n2], .int .i64 rest, .int .i64 grip] w (TOut (statR v1 v2 w1 w2 n1 n2 rest grip) w) := by
  unfold statR
  split
  · rename_i h
    have h2 := h.2
    rw [Bool.and_eq_true] at h2
    split
    · rename_i ha; exact rstatic_on v1 v2 w1 w2 n1 n2 rest grip w h.1 h2.1 h2.2 ha
    · rename_i ha; exact rstatic_away v1 v2 w1 w2 n1 n2 rest grip w h.1 h2.1 h2.2 (by simpa using ha)
  · rename_i h; exact rstatic_bad v1 v2 w1 w2 n1 n2 rest grip w h
end Go.Proofs.Ytklkhnhieihfoaa
namespace Go.Proofs.Ytklkhnhieihfoaa
open Go Go.RowKit
set_option linter.unusedVariables false
theorem strV_iff {q m x : Int} (h0 : 0 ≤ q) (hm : 0 < m) (h : q < 70368744177664 * m) (hx : 0 ≤ x) : x ≤ strV q m ↔ x * x * m ≤ q := by
  obtain ⟨a, b, c⟩ := strV_spec h0 h
  constructor
  · intro hle
    have := sq_mul_mono hx hle (by omega : 0 ≤ m)
    omega
  · intro hle
    rcases Int.lt_or_le (strV q m) x with g | g
    · exfalso
      have := sq_mul_mono (m := m) (show 0 ≤ strV q m + 1 by omega) (show strV q m + 1 ≤ x by omega) (by omega)
      omega
    · exact g
theorem cmpI_le {x y : Int} : cmpI x y ≤ 0 ↔ x ≤ y := by unfold cmpI; split <;> (try split) <;> omega
set_option maxRecDepth 100000 in
set_option maxHeartbeats 20000000 in
theorem rstrength_away (v1 v2 w1 w2 n1 n2 : Int) (w : World) (ha : apprB v1 v2 w1 w2 n1 n2 = false) :
    Calls Try.prog 29 #[.agg #[.int .i64 v1, .int .i64 v2], .agg #[.int .i64 w1, .int .i64 w2], .agg #[.int .i64 n1, .int .i64 n2]] w fun e w' => e = .returned (.int .i64 0) ∧ Below w.heap.size w w' := by
  have k1 := fun w => rapproaches_any v1 v2 w1 w2 n1 n2 w
  rw [ha] at k1
  have K1 := Lib.hid k1
  clear k1 ha
  go_enter Try.func29, Try.ntmps29; (try simp only [List.append_eq, List.cons_append, List.nil_append])
  go_wp2_with fail
  -- own blocks: w.heap.size:2, w.heap.size + 1:2, w.heap.size + 1 + 1:2
  (go_at_call 27; refine (K1.out _).mono ?_; rintro e w1 ⟨rfl, hb_w1⟩; have hz_w1 := hb_w1.size; (try simp at hz_w1); (with_reducible apply cel2 (b := w.heap.size) hb_w1); (focus ((try simp) <;> omega)); (focus omega); (focus (go_simp; try exact rfl)); (focus (go_simp; try exact rfl)); (focus (intro o; go_simp)); intro cc cc fz hl; (with_reducible apply cel2 (b := w.heap.size + 1) hb_w1); (focus ((try simp) <;> omega)); (focus omega); (focus (go_simp; try exact rfl)); (focus (go_simp; try exact rfl)); (focus (intro o; go_simp)); intro cc cc fz hl; (with_reducible apply cel2 (b := w.heap.size + 1 + 1) hb_w1); (focus ((try simp) <;> omega)); (focus omega); (focus (go_simp; try exact rfl)); (focus (go_simp; try exact rfl)); (focus (intro o; go_simp)); intro cc cc fz hl)
  go_wp2_with fail
  go_ret
  exact ⟨rfl, by ((with_reducible (repeat (first | exact bR _ _ | refine bS ?_ ?_ _ | refine bA ?_ ?_ _ | refine bD ?_ | refine bT ?_ (by assumption) ?_ | refine bO (by assumption) ?_ ?_))) <;> (first | omega | (simp; done) | (simp <;> omega)))⟩
set_option maxRecDepth 100000 in
set_option maxHeartbeats 20000000 in
theorem rstrength_on (v1 v2 w1 w2 n1 n2 : Int) (w : World) (ha : apprB v1 v2 w1 w2 n1 n2 = true) :
    Calls Try.prog 29 #[.agg #[.int .i64 v1, .int .i64 v2], .agg #[.int .i64 w1, .int .i64 w2], .agg #[.int .i64 n1, .int .i64 n2]] w fun e w' => e = .returned (.int .i64 (strV (((v1 - w1) * n1 + (v2 - w2) * n2) * ((v1 - w1) * n1 + (v2 - w2) * n2)) (n1 * n1 + n2 * n2))) ∧ Below w.heap.size w w' := by
  obtain ⟨hp, q3, q4⟩ := appr_bd ha
  obtain ⟨bv, bw, bn⟩ := perm_bd hp
  obtain ⟨e1, e2, e3⟩ := perm_vals hp
  obtain ⟨⟨p1, p2⟩, p3, p4⟩ := perm_prod hp
  have hq := appr_q (u1 := v1 - w1) (u2 := v2 - w2) (by omega) (by omega) q4
  have k1 := fun w => rapproaches_any v1 v2 w1 w2 n1 n2 w
  have k2 := fun w => rsub_any v1 v2 w1 w2 w
  have k3 := fun w => rdot_any (v1 - w1) (v2 - w2) n1 n2 w
  have k7 := fun w => rdot_any n1 n2 n1 n2 w
  rw [ha] at k1
  rw [e1] at k2
  rw [e2] at k3
  rw [e3] at k7
  generalize (v1 - w1) * n1 + (v2 - w2) * n2 = C at *
  generalize n1 * n1 + n2 * n2 = M at *
  have k4 := fun w => of_any C w (by omega) (by omega)
  have k8 := fun w => of_any M w (by omega) (by omega)
  have k10 := fun x y w h1 h2 => times_any 10 x y C C w h1 h2 (by omega)
  have q5 : 0 ≤ C * C := by
    rcases Int.le_total 0 C with h | h
    · exact Int.mul_nonneg h h
    · exact Int.mul_nonneg_of_nonpos_of_nonpos h h
  have hcc := mulB C C 8796093022208 8796093022208 (by omega) (by omega)
  have l1 := len_wd (z := C) (by omega) (by omega)
  have l3 := len_wd (z := M) (by omega) (by omega)
  have l5 : (canN (C * C).natAbs).length ≤ 10 := canN_bd (B := 18446744073709551616 * 18446744073709551616) (by omega) (by omega) (by decide)
  generalize C * C = Q at *
  have hbd := strV_bd q5 q4 hq
  have hif := fun x hx => @strV_iff Q M x q5 q4 hq hx
  obtain ⟨S, hS⟩ : ∃ S, S = strV Q M := ⟨_, rfl⟩
  rw [← hS] at hbd ⊢
  have hif2 : ∀ x : Int, 0 ≤ x → (x ≤ S ↔ x * x * M ≤ Q) := fun x hx => by rw [hS]; exact hif x hx
  have HIF := Lib.hid hif2
  have K1 := Lib.hid k1
  have K2 := Lib.hid k2
  have K3 := Lib.hid k3
  have K4 := Lib.hid k4
  have K7 := Lib.hid k7
  have K8 := Lib.hid k8
  have K10 := Lib.hid k10
  have L1 := Lib.hid l1
  have L3 := Lib.hid l3
  have L5 := Lib.hid l5
  clear k1 k2 k3 k4 k7 k8 k10 l1 l3 l5 hif hif2 hS hp ha e1 e2 e3 bv bw bn hq hcc
  -- names on
  go_enter Try.func29, Try.ntmps29; (try simp only [List.append_eq, List.cons_append, List.nil_append])
  go_wp2_with fail
  -- own blocks: w.heap.size:2, w.heap.size + 1:2, w.heap.size + 1 + 1:2
  (go_at_call 27; refine (K1.out _).mono ?_; rintro e w101 ⟨rfl, hb_w101⟩; have hz_w101 := hb_w101.size; (try simp at hz_w101); (with_reducible apply cel2 (b := w.heap.size) hb_w101); (focus ((try simp) <;> omega)); (focus omega); (focus (go_simp; try exact rfl)); (focus (go_simp; try exact rfl)); (focus (intro o; go_simp)); intro c_w101_0_0 c_w101_0_1 fz_w101_0 hl_w101_0; (with_reducible apply cel2 (b := w.heap.size + 1) hb_w101); (focus ((try simp) <;> omega)); (focus omega); (focus (go_simp; try exact rfl)); (focus (go_simp; try exact rfl)); (focus (intro o; go_simp)); intro c_w101_1_0 c_w101_1_1 fz_w101_1 hl_w101_1; (with_reducible apply cel2 (b := w.heap.size + 1 + 1) hb_w101); (focus ((try simp) <;> omega)); (focus omega); (focus (go_simp; try exact rfl)); (focus (go_simp; try exact rfl)); (focus (intro o; go_simp)); intro c_w101_2_0 c_w101_2_1 fz_w101_2 hl_w101_2)
  have HB101 := Lib.hid (show Below w.heap.size w w101 by ((with_reducible (repeat (first | exact bR _ _ | refine bS ?_ ?_ _ | refine bA ?_ ?_ _ | refine bD ?_ | refine bT ?_ (by assumption) ?_ | refine bO (by assumption) ?_ ?_))) <;> (first | omega | (simp; done) | (simp <;> omega))))
  have hz101 : w.heap.size + 1 + 1 + 1 ≤ w101.heap.size := by omega
  clear hb_w101
  skip
  go_wp2_with fail
  -- own blocks: w.heap.size:2, w.heap.size + 1:2, w.heap.size + 1 + 1:2
  (refine pin_wp (N := _) (Nat.le_refl _) (fun w102 hb_w102 hz_w102 => ?_); (try simp at hz_w102); (with_reducible apply cel2 (b := w.heap.size) hb_w102); (focus ((try simp) <;> omega)); (focus omega); (focus (go_simp; try exact rfl)); (focus (go_simp; try exact rfl)); (focus (intro o; go_simp)); intro c_w102_0_0 c_w102_0_1 fz_w102_0 hl_w102_0; (with_reducible apply cel2 (b := w.heap.size + 1) hb_w102); (focus ((try simp) <;> omega)); (focus omega); (focus (go_simp; try exact rfl)); (focus (go_simp; try exact rfl)); (focus (intro o; go_simp)); intro c_w102_1_0 c_w102_1_1 fz_w102_1 hl_w102_1; (with_reducible apply cel2 (b := w.heap.size + 1 + 1) hb_w102); (focus ((try simp) <;> omega)); (focus omega); (focus (go_simp; try exact rfl)); (focus (go_simp; try exact rfl)); (focus (intro o; go_simp)); intro c_w102_2_0 c_w102_2_1 fz_w102_2 hl_w102_2); refine wp_q (fun Q_ HQ_ => ?_); refine wp_region_floatQ w102.heap.size 7 [7] (Nat.le_refl _) (fun _ => True) trivial Cl.tt (by kernel_rfl) (by kernel_rfl) ?_
  have HB102 := Lib.hid (show Below w.heap.size w w102 by have hB := HB101.out; ((with_reducible (repeat (first | exact bR _ _ | refine bS ?_ ?_ _ | refine bA ?_ ?_ _ | refine bD ?_ | refine bT ?_ (by assumption) ?_ | refine bO (by assumption) ?_ ?_))) <;> (first | omega | (simp; done) | (simp <;> omega))))
  have hz102 : w.heap.size + 1 + 1 + 1 ≤ w102.heap.size := by omega
  clear hb_w102
  clear c_w101_0_0 c_w101_0_1 fz_w101_0 hl_w101_0 c_w101_1_0 c_w101_1_1 fz_w101_1 hl_w101_1 c_w101_2_0 c_w101_2_1 fz_w101_2 hl_w101_2
  refine wpQI_start [0, 1] ?_; (iterate 2 (first | (refine wpQI_off (by with_reducible (refine List.getElem?_toArray.trans ?_; (repeat (first | exact List.getElem?_cons_zero | refine List.getElem?_cons_succ.trans ?_)))) (by kernel_rfl) (by exact rfl) (fun K hK => ?_); go_simp; refine hK _ ?_; clear hK K) | ((first | apply wpQI_step (by with_reducible (refine List.getElem?_toArray.trans ?_; (repeat (first | exact List.getElem?_cons_zero | refine List.getElem?_cons_succ.trans ?_)))) (by kernel_rfl) (by exact rfl) | apply wpQI_on (by with_reducible (refine List.getElem?_toArray.trans ?_; (repeat (first | exact List.getElem?_cons_zero | refine List.getElem?_cons_succ.trans ?_)))) (by kernel_rfl) (by exact rfl)); (focus (intro W' hS; have hcS := hS.cells.1; have hfS := hS.cells.2; go_simp; (first | done | exact rfl | exact ⟨rfl, Below.refl _ _⟩ | (go_simp; first | done | exact rfl | exact ⟨rfl, Below.refl _ _⟩)))); intro K hK; go_simp; (try go_bits); refine hK _ ?_; clear hK K))); refine wpQI_nil ?_
  refine wpQI_start [3] ?_; (iterate 1 (first | (refine wpQI_off (by with_reducible (refine List.getElem?_toArray.trans ?_; (repeat (first | exact List.getElem?_cons_zero | refine List.getElem?_cons_succ.trans ?_)))) (by kernel_rfl) (by exact rfl) (fun K hK => ?_); go_simp; refine hK _ ?_; clear hK K) | ((first | apply wpQI_step (by with_reducible (refine List.getElem?_toArray.trans ?_; (repeat (first | exact List.getElem?_cons_zero | refine List.getElem?_cons_succ.trans ?_)))) (by kernel_rfl) (by exact rfl) | apply wpQI_on (by with_reducible (refine List.getElem?_toArray.trans ?_; (repeat (first | exact List.getElem?_cons_zero | refine List.getElem?_cons_succ.trans ?_)))) (by kernel_rfl) (by exact rfl)); (focus (intro W' hS; have hcS := hS.cells.1; have hfS := hS.cells.2; go_simp; (first | done | exact rfl | exact ⟨rfl, Below.refl _ _⟩ | (go_simp; first | done | exact rfl | exact ⟨rfl, Below.refl _ _⟩)))); intro K hK; go_simp; (try go_bits); refine hK _ ?_; clear hK K))); refine wpQI_nil ?_
  refine wpQI_start [2] ?_; (iterate 1 (first | (refine wpQI_off (by with_reducible (refine List.getElem?_toArray.trans ?_; (repeat (first | exact List.getElem?_cons_zero | refine List.getElem?_cons_succ.trans ?_)))) (by kernel_rfl) (by exact rfl) (fun K hK => ?_); go_simp; refine hK _ ?_; clear hK K) | ((first | apply wpQI_step (by with_reducible (refine List.getElem?_toArray.trans ?_; (repeat (first | exact List.getElem?_cons_zero | refine List.getElem?_cons_succ.trans ?_)))) (by kernel_rfl) (by exact rfl) | apply wpQI_on (by with_reducible (refine List.getElem?_toArray.trans ?_; (repeat (first | exact List.getElem?_cons_zero | refine List.getElem?_cons_succ.trans ?_)))) (by kernel_rfl) (by exact rfl)); (focus (intro W' hS; have hcS := hS.cells.1; have hfS := hS.cells.2; go_simp; (first | done | exact rfl | exact ⟨rfl, Below.refl _ _⟩ | (go_at_call 72; exact (K2.out _).mono (fun _ _ h => ⟨h.1, h.2⟩)) | (go_simp; first | done | exact rfl | exact ⟨rfl, Below.refl _ _⟩)))); intro K hK; go_simp; (try go_bits); refine hK _ ?_; clear hK K))); refine wpQI_nil ?_
  refine wpQI_start [4] ?_; (iterate 1 (first | (refine wpQI_off (by with_reducible (refine List.getElem?_toArray.trans ?_; (repeat (first | exact List.getElem?_cons_zero | refine List.getElem?_cons_succ.trans ?_)))) (by kernel_rfl) (by exact rfl) (fun K hK => ?_); go_simp; refine hK _ ?_; clear hK K) | ((first | apply wpQI_step (by with_reducible (refine List.getElem?_toArray.trans ?_; (repeat (first | exact List.getElem?_cons_zero | refine List.getElem?_cons_succ.trans ?_)))) (by kernel_rfl) (by exact rfl) | apply wpQI_on (by with_reducible (refine List.getElem?_toArray.trans ?_; (repeat (first | exact List.getElem?_cons_zero | refine List.getElem?_cons_succ.trans ?_)))) (by kernel_rfl) (by exact rfl)); (focus (intro W' hS; have hcS := hS.cells.1; have hfS := hS.cells.2; go_simp; (first | done | exact rfl | exact ⟨rfl, Below.refl _ _⟩ | (go_at_call 54; exact (K3.out _).mono (fun _ _ h => ⟨h.1, h.2⟩)) | (go_simp; first | done | exact rfl | exact ⟨rfl, Below.refl _ _⟩)))); intro K hK; go_simp; (try go_bits); refine hK _ ?_; clear hK K))); refine wpQI_nil ?_
  apply wpQ_call (i := 5) (by with_reducible (refine List.getElem?_toArray.trans ?_; (repeat (first | exact List.getElem?_cons_zero | refine List.getElem?_cons_succ.trans ?_)))) (by kernel_rfl) (by exact rfl); intro W hF hS; have hcS := hS.1.cells.1; have hfS := hS.1.cells.2; go_simp; (go_at_call 44; refine (K4.out _).mono ?_; rintro e w103 ⟨hb_w103, v103, rfl, hv103⟩; refine XPost.mk _ (fun W => IsC W v103 (C)) hb_w103 (hv103) (IsC.cl _ _) ?_); clear hb_w103 hcS hfS hS hF
  intro K hK; go_simp; (try go_bits); refine hK _ ?_; clear hK K
  obtain ⟨s103, A103, n103, c103, rfl⟩ := IsC.val hv103
  clear hv103
  apply wpQ_fresh (i := 6) LInv.std (by with_reducible (refine List.getElem?_toArray.trans ?_; (repeat (first | exact List.getElem?_cons_zero | refine List.getElem?_cons_succ.trans ?_)))) (by kernel_rfl) (fun g => Value.pointer (some ⟨g, 0, none⟩)) (by exact rfl); (focus (intro W; go_simp; first | done | exact rfl | exact ⟨rfl, rfl⟩))
  intro g_r3_6 hN_r3_6 hG_r3_6 K hK
  go_simp; refine hK _ ?_; clear hK K
  have hne : w.heap.size ≠ g_r3_6 := by have := hN_r3_6; omega
  have hne := Ne.symm hne
  have hne : w.heap.size + 1 ≠ g_r3_6 := by have := hN_r3_6; omega
  have hne := Ne.symm hne
  have hne : w.heap.size + 1 + 1 ≠ g_r3_6 := by have := hN_r3_6; omega
  have hne := Ne.symm hne
  refine wpQ_done (by kernel_rfl) ?_
  intro w104 hF_w104 hSG
  have hz_w104 := hSG.1.1
  have hb_w104 := hSG.1.2
  have hB_r3_6 := (hSG.2 _ (List.mem_cons_self ..)).2; simp only at hB_r3_6; have hl_r3_6 := (hSG.size (List.mem_cons_self ..)); simp only at hl_r3_6
  have c_w104_r3_6_0 := cell_of_row w104 g_r3_6 0 _ _ _ hB_r3_6; simp only [List.getElem?_toArray, List.getElem?_cons_zero] at c_w104_r3_6_0
  have c_w104_r3_6_1 := cell_of_row w104 g_r3_6 1 _ _ _ hB_r3_6; simp only [List.getElem?_toArray, List.getElem?_cons_zero, List.getElem?_cons_succ] at c_w104_r3_6_1
  have fz_w104_r3_6 : (∀ o, w104.frozen? ⟨g_r3_6, o, none⟩ = false) := (fun o => frozen_of_row w104 g_r3_6 o _ _ hB_r3_6); have HH_r3_6 := Lib.hid hB_r3_6; clear hB_r3_6
  clear hSG
  (with_reducible apply cel2 (b := w.heap.size) hb_w104); (focus ((try simp) <;> omega)); (focus omega); (focus (go_simp; try exact rfl)); (focus (go_simp; try exact rfl)); (focus (intro o; go_simp)); intro c_w104_0_0 c_w104_0_1 fz_w104_0 hl_w104_0; (with_reducible apply cel2 (b := w.heap.size + 1) hb_w104); (focus ((try simp) <;> omega)); (focus omega); (focus (go_simp; try exact rfl)); (focus (go_simp; try exact rfl)); (focus (intro o; go_simp)); intro c_w104_1_0 c_w104_1_1 fz_w104_1 hl_w104_1; (with_reducible apply cel2 (b := w.heap.size + 1 + 1) hb_w104); (focus ((try simp) <;> omega)); (focus omega); (focus (go_simp; try exact rfl)); (focus (go_simp; try exact rfl)); (focus (intro o; go_simp)); intro c_w104_2_0 c_w104_2_1 fz_w104_2 hl_w104_2
  (try simp only [List.filterMap_cons, List.filterMap_nil, List.getElem?_cons_succ, List.getElem?_cons_zero])
  have H103 := Lib.hid (show IsC w104 (.agg #[.bool s103, .slice A103 n103 c103]) (C) from hF_w104)
  have HB104 := Lib.hid (HB102.out.trans (hb_w104.mono (by have := HB102.out.size; omega)))
  have hz104 : w.heap.size + 1 + 1 + 1 ≤ w104.heap.size := by omega
  have hn_r3_6 : w.heap.size + 1 + 1 + 1 ≤ g_r3_6 := by have := hN_r3_6; omega
  clear hF_w104 hb_w104 HH_r3_6 hG_r3_6 hN_r3_6
  clear c_w102_0_0 c_w102_0_1 fz_w102_0 hl_w102_0 c_w102_1_0 c_w102_1_1 fz_w102_1 hl_w102_1 c_w102_2_0 c_w102_2_1 fz_w102_2 hl_w102_2
  go_wp2_with fail
  refine HQ_.out _ _ _ ?_
  clear HQ_ Q_
  go_wp2_with fail
  -- own blocks: w.heap.size + 1 + 1:2, g_r3_6:2
  (refine pin_wp (N := _) (Nat.le_refl _) (fun w150 hb_w150 hz_w150 => ?_); (try simp at hz_w150); (with_reducible apply cel2 (b := w.heap.size + 1 + 1) hb_w150); (focus ((try simp) <;> omega)); (focus omega); (focus (go_simp; try exact rfl)); (focus (go_simp; try exact rfl)); (focus (intro o; go_simp)); intro c_w150_0_0 c_w150_0_1 fz_w150_0 hl_w150_0; (with_reducible apply cel2 (b := g_r3_6) hb_w150); (focus ((try simp) <;> omega)); (focus omega); (focus (go_simp; try exact rfl)); (focus (go_simp; try exact rfl)); (focus (intro o; go_simp)); intro c_w150_1_0 c_w150_1_1 fz_w150_1 hl_w150_1)
  replace H103 := Lib.hid (IsC.below (v := .agg #[.bool s103, .slice A103 n103 c103]) (z := C) (by ((repeat (first | (with_reducible exact H103.out) | (with_reducible refine IsC.al ?_ _) | (with_reducible apply IsC.st1))) <;> (first | (with_reducible assumption) | (intro _ e; cases e; done) | (go_simp; first | done | exact rfl)))) hb_w150)
  have HB150 := Lib.hid (show Below w.heap.size w w150 by have hB := HB104.out; ((with_reducible (repeat (first | exact bR _ _ | refine bS ?_ ?_ _ | refine bA ?_ ?_ _ | refine bD ?_ | refine bT ?_ (by assumption) ?_ | refine bO (by assumption) ?_ ?_))) <;> (first | omega | (simp; done) | (simp <;> omega))))
  have hz150 : w.heap.size + 1 + 1 + 1 ≤ w150.heap.size := by omega
  clear hb_w150
  go_loopw [8, 9, 10] (fun vl vh _ wr => ∃ l h : Int, vl = .int .i64 l ∧ vh = .int .i64 h ∧ 0 ≤ l ∧ l ≤ S ∧ S ≤ h ∧ h ≤ 8388608 ∧ Below w150.heap.size w150 wr) (fun vl vh _ _ => (intOf vh - intOf vl).toNat)
  case atStart => exact ⟨0, 8388608, rfl, rfl, by omega, hbd.1, by omega, by omega, Below.refl _ _⟩
  case round =>
    obtain ⟨l, h, rfl, rfl, l0, l1, h0, h1, hb_wr⟩ := hrel
    have hz_wr := hb_wr.size
    have HBR := Lib.hid hb_wr
    have hzR : w.heap.size + 1 + 1 + 1 ≤ wr.heap.size := by omega
    (with_reducible apply cel2 (b := w.heap.size + 1 + 1) hb_wr); (focus ((try simp) <;> omega)); (focus omega); (focus (go_simp; try exact rfl)); (focus (go_simp; try exact rfl)); (focus (intro o; go_simp)); intro c_wr_0_0 c_wr_0_1 fz_wr_0 hl_wr_0; (with_reducible apply cel2 (b := g_r3_6) hb_wr); (focus ((try simp) <;> omega)); (focus omega); (focus (go_simp; try exact rfl)); (focus (go_simp; try exact rfl)); (focus (intro o; go_simp)); intro c_wr_1_0 c_wr_1_1 fz_wr_1 hl_wr_1
    replace H103 := Lib.hid (H103.out.below hb_wr)
    clear hb_wr
    by_cases hlt : l < h
    · obtain ⟨m, hm⟩ : ∃ m, m = (l + h + 1) / 2 := ⟨_, rfl⟩
      have hq : (l + h + 1).tdiv 2 = m := by rw [hm]; exact Int.tdiv_eq_ediv_of_nonneg (by omega)
      have m0 : l + 1 ≤ m := by omega
      have m1 : m ≤ h := by omega
      have m2 : 0 ≤ m := by omega
      have hmm := mulB m m 8388608 8388608 (by omega) (by omega)
      have hmn := Int.mul_nonneg m2 m2
      have hiff := HIF.out m (by omega)
      have hm' := hm.symm
      obtain ⟨P, hP⟩ : ∃ P, P = m * m := ⟨_, rfl⟩
      rw [← hP] at hmm hmn hiff
      have hP' := hP.symm
      have k6 := fun w => of_any P w (by omega) (by omega)
      have k9 := fun x y w h1 h2 => times_any 10 x y P M w h1 h2 (by omega)
      have l2 := len_wd (z := P) (by omega) (by omega)
      have hpm := mulB P M 70368744177664 8796093022208 (by omega) (by omega)
      have l4 : (canN (P * M).natAbs).length ≤ 10 := canN_bd (B := 18446744073709551616 * 18446744073709551616) (by omega) (by omega) (by decide)
      generalize P * M = PM at *
      have k11 := fun x y w h1 h2 => cmp_any 10 x y PM Q w h1 h2 (by omega)
      have hcm := cmpI_le (x := PM) (y := Q)
      have HIFF := Lib.hid hiff
      generalize cmpI PM Q = cm at *
      have HCM := Lib.hid hcm
      clear hcm
      have K6 := Lib.hid k6
      have K9 := Lib.hid k9
      have K11 := Lib.hid k11
      have L2 := Lib.hid l2
      have L4 := Lib.hid l4
      clear k6 k9 k11 l2 l4 hm hP hpm hiff
      -- names on
      go_wp2_with fail
      -- own blocks: w.heap.size + 1 + 1:2, g_r3_6:2
      (go_at_call 44; refine (K6.out _).mono ?_; rintro e w201 ⟨hb_w201, v201, rfl, hv201⟩; have hz_w201 := hb_w201.size; (try simp at hz_w201); (with_reducible apply cel2 (b := w.heap.size + 1 + 1) hb_w201); (focus ((try simp) <;> omega)); (focus omega); (focus (go_simp; try exact rfl)); (focus (go_simp; try exact rfl)); (focus (intro o; go_simp)); intro c_w201_0_0 c_w201_0_1 fz_w201_0 hl_w201_0; (with_reducible apply cel2 (b := g_r3_6) hb_w201); (focus ((try simp) <;> omega)); (focus omega); (focus (go_simp; try exact rfl)); (focus (go_simp; try exact rfl)); (focus (intro o; go_simp)); intro c_w201_1_0 c_w201_1_1 fz_w201_1 hl_w201_1)
      obtain ⟨s201, A201, n201, c201, rfl⟩ := IsC.val hv201
      replace H103 := Lib.hid (IsC.below (v := .agg #[.bool s103, .slice A103 n103 c103]) (z := C) (by ((repeat (first | (with_reducible exact H103.out) | (with_reducible refine IsC.al ?_ _) | (with_reducible apply IsC.st1))) <;> (first | (with_reducible assumption) | (intro _ e; cases e; done) | (go_simp; first | done | exact rfl)))) hb_w201)
      have HB201 := Lib.hid (show Below w150.heap.size w150 w201 by have hB := HBR.out; ((with_reducible (repeat (first | exact bR _ _ | refine bS ?_ ?_ _ | refine bA ?_ ?_ _ | refine bD ?_ | refine bT ?_ (by assumption) ?_ | refine bO (by assumption) ?_ ?_))) <;> (first | omega | (simp; done) | (simp <;> omega))))
      have hz201 : w.heap.size + 1 + 1 + 1 ≤ w201.heap.size := by omega
      clear hb_w201
      skip
      have H201 := Lib.hid (show IsC w201 (.agg #[.bool s201, .slice A201 n201 c201]) (P) from hv201)
      clear hv201
      go_wp2_with fail
      -- own blocks: w.heap.size + 1 + 1:2, g_r3_6:2, w201.heap.size:2
      (refine pin_wp (N := _) (Nat.le_refl _) (fun w202 hb_w202 hz_w202 => ?_); (try simp at hz_w202); (with_reducible apply cel2 (b := w.heap.size + 1 + 1) hb_w202); (focus ((try simp) <;> omega)); (focus omega); (focus (go_simp; try exact rfl)); (focus (go_simp; try exact rfl)); (focus (intro o; go_simp)); intro c_w202_0_0 c_w202_0_1 fz_w202_0 hl_w202_0; (with_reducible apply cel2 (b := g_r3_6) hb_w202); (focus ((try simp) <;> omega)); (focus omega); (focus (go_simp; try exact rfl)); (focus (go_simp; try exact rfl)); (focus (intro o; go_simp)); intro c_w202_1_0 c_w202_1_1 fz_w202_1 hl_w202_1; (with_reducible apply cel2 (b := w201.heap.size) hb_w202); (focus ((try simp) <;> omega)); (focus omega); (focus (go_simp; try exact rfl)); (focus (go_simp; try exact rfl)); (focus (intro o; go_simp)); intro c_w202_2_0 c_w202_2_1 fz_w202_2 hl_w202_2); refine wp_q (fun Q_ HQ_ => ?_); refine wp_region_floatQ w202.heap.size 11 [] (Nat.le_refl _) (fun _ => True) trivial Cl.tt (by kernel_rfl) (by kernel_rfl) ?_
      replace H103 := Lib.hid (IsC.below (v := .agg #[.bool s103, .slice A103 n103 c103]) (z := C) (by ((repeat (first | (with_reducible exact H103.out) | (with_reducible refine IsC.al ?_ _) | (with_reducible apply IsC.st1))) <;> (first | (with_reducible assumption) | (intro _ e; cases e; done) | (go_simp; first | done | exact rfl)))) hb_w202)
      replace H201 := Lib.hid (IsC.below (v := .agg #[.bool s201, .slice A201 n201 c201]) (z := P) (by ((repeat (first | (with_reducible exact H201.out) | (with_reducible refine IsC.al ?_ _) | (with_reducible apply IsC.st1))) <;> (first | (with_reducible assumption) | (intro _ e; cases e; done) | (go_simp; first | done | exact rfl)))) hb_w202)
      have HB202 := Lib.hid (show Below w150.heap.size w150 w202 by have hB := HB201.out; ((with_reducible (repeat (first | exact bR _ _ | refine bS ?_ ?_ _ | refine bA ?_ ?_ _ | refine bD ?_ | refine bT ?_ (by assumption) ?_ | refine bO (by assumption) ?_ ?_))) <;> (first | omega | (simp; done) | (simp <;> omega))))
      have hz202 : w.heap.size + 1 + 1 + 1 ≤ w202.heap.size := by omega
      clear hb_w202
      clear c_w201_0_0 c_w201_0_1 fz_w201_0 hl_w201_0 c_w201_1_0 c_w201_1_1 fz_w201_1 hl_w201_1
      refine wpQI_start [0, 1, 2] ?_; (iterate 3 (first | (refine wpQI_off (by with_reducible (refine List.getElem?_toArray.trans ?_; (repeat (first | exact List.getElem?_cons_zero | refine List.getElem?_cons_succ.trans ?_)))) (by kernel_rfl) (by exact rfl) (fun K hK => ?_); go_simp; refine hK _ ?_; clear hK K) | ((first | apply wpQI_step (by with_reducible (refine List.getElem?_toArray.trans ?_; (repeat (first | exact List.getElem?_cons_zero | refine List.getElem?_cons_succ.trans ?_)))) (by kernel_rfl) (by exact rfl) | apply wpQI_on (by with_reducible (refine List.getElem?_toArray.trans ?_; (repeat (first | exact List.getElem?_cons_zero | refine List.getElem?_cons_succ.trans ?_)))) (by kernel_rfl) (by exact rfl)); (focus (intro W' hS; have hcS := hS.cells.1; have hfS := hS.cells.2; go_simp; (first | done | exact rfl | exact ⟨rfl, Below.refl _ _⟩ | (go_simp; first | done | exact rfl | exact ⟨rfl, Below.refl _ _⟩)))); intro K hK; go_simp; (try go_bits); refine hK _ ?_; clear hK K))); refine wpQI_nil ?_
      refine wpQI_start [6, 7] ?_; (iterate 2 (first | (refine wpQI_off (by with_reducible (refine List.getElem?_toArray.trans ?_; (repeat (first | exact List.getElem?_cons_zero | refine List.getElem?_cons_succ.trans ?_)))) (by kernel_rfl) (by exact rfl) (fun K hK => ?_); go_simp; refine hK _ ?_; clear hK K) | ((first | apply wpQI_step (by with_reducible (refine List.getElem?_toArray.trans ?_; (repeat (first | exact List.getElem?_cons_zero | refine List.getElem?_cons_succ.trans ?_)))) (by kernel_rfl) (by exact rfl) | apply wpQI_on (by with_reducible (refine List.getElem?_toArray.trans ?_; (repeat (first | exact List.getElem?_cons_zero | refine List.getElem?_cons_succ.trans ?_)))) (by kernel_rfl) (by exact rfl)); (focus (intro W' hS; have hcS := hS.cells.1; have hfS := hS.cells.2; go_simp; (first | done | exact rfl | exact ⟨rfl, Below.refl _ _⟩ | (go_simp; first | done | exact rfl | exact ⟨rfl, Below.refl _ _⟩)))); intro K hK; go_simp; (try go_bits); refine hK _ ?_; clear hK K))); refine wpQI_nil ?_
      refine wpQI_start [3] ?_; (iterate 1 (first | (refine wpQI_off (by with_reducible (refine List.getElem?_toArray.trans ?_; (repeat (first | exact List.getElem?_cons_zero | refine List.getElem?_cons_succ.trans ?_)))) (by kernel_rfl) (by exact rfl) (fun K hK => ?_); go_simp; refine hK _ ?_; clear hK K) | ((first | apply wpQI_step (by with_reducible (refine List.getElem?_toArray.trans ?_; (repeat (first | exact List.getElem?_cons_zero | refine List.getElem?_cons_succ.trans ?_)))) (by kernel_rfl) (by exact rfl) | apply wpQI_on (by with_reducible (refine List.getElem?_toArray.trans ?_; (repeat (first | exact List.getElem?_cons_zero | refine List.getElem?_cons_succ.trans ?_)))) (by kernel_rfl) (by exact rfl)); (focus (intro W' hS; have hcS := hS.cells.1; have hfS := hS.cells.2; go_simp; (first | done | exact rfl | exact ⟨rfl, Below.refl _ _⟩ | (go_at_call 54; exact (K7.out _).mono (fun _ _ h => ⟨h.1, h.2⟩)) | (go_simp; first | done | exact rfl | exact ⟨rfl, Below.refl _ _⟩)))); intro K hK; go_simp; (try go_bits); refine hK _ ?_; clear hK K))); refine wpQI_nil ?_
      apply wpQ_call (i := 4) (by with_reducible (refine List.getElem?_toArray.trans ?_; (repeat (first | exact List.getElem?_cons_zero | refine List.getElem?_cons_succ.trans ?_)))) (by kernel_rfl) (by exact rfl); intro W hF hS; have hcS := hS.1.cells.1; have hfS := hS.1.cells.2; go_simp; (go_at_call 44; refine (K8.out _).mono ?_; rintro e w203 ⟨hb_w203, v203, rfl, hv203⟩; refine XPost.mk _ (fun W => IsC W v203 (M)) hb_w203 (hv203) (IsC.cl _ _) ?_); clear hb_w203 hcS hfS hS hF
      intro K hK; go_simp; (try go_bits); refine hK _ ?_; clear hK K
      obtain ⟨s203, A203, n203, c203, rfl⟩ := IsC.val hv203
      clear hv203
      apply wpQ_call (i := 5) (by with_reducible (refine List.getElem?_toArray.trans ?_; (repeat (first | exact List.getElem?_cons_zero | refine List.getElem?_cons_succ.trans ?_)))) (by kernel_rfl) (by exact rfl); intro W hF hS; have hcS := hS.1.cells.1; have hfS := hS.1.cells.2; go_simp; (go_at_call 43; refine (K9.out _ _ _ ((H201.out.below hS.1.2).zl L2.out) (hF.zl L3.out)).mono ?_; rintro e w204 ⟨hb_w204, v204, rfl, hv204⟩; refine XPost.mk _ (fun W => IsC W v204 (PM)) hb_w204 (hv204) (IsC.cl _ _) ?_); clear hb_w204 hcS hfS hS hF
      intro K hK; go_simp; (try go_bits); refine hK _ ?_; clear hK K
      obtain ⟨s204, A204, n204, c204, rfl⟩ := IsC.val hv204
      clear hv204
      apply wpQ_call (i := 8) (by with_reducible (refine List.getElem?_toArray.trans ?_; (repeat (first | exact List.getElem?_cons_zero | refine List.getElem?_cons_succ.trans ?_)))) (by kernel_rfl) (by exact rfl); intro W hF hS; have hcS := hS.1.cells.1; have hfS := hS.1.cells.2; go_simp; (go_at_call 43; refine (K10.out _ _ _ ((H103.out.below hS.1.2).zl L1.out) ((H103.out.below hS.1.2).zl L1.out)).mono ?_; rintro e w205 ⟨hb_w205, v205, rfl, hv205⟩; refine XPost.mk _ (fun W => IsC W v205 (Q)) hb_w205 (hv205) (IsC.cl _ _) ?_); clear hb_w205 hcS hfS hS hF
      intro K hK; go_simp; (try go_bits); refine hK _ ?_; clear hK K
      obtain ⟨s205, A205, n205, c205, rfl⟩ := IsC.val hv205
      clear hv205
      apply wpQ_call (i := 9) (by with_reducible (refine List.getElem?_toArray.trans ?_; (repeat (first | exact List.getElem?_cons_zero | refine List.getElem?_cons_succ.trans ?_)))) (by kernel_rfl) (by exact rfl); intro W hF hS; have hcS := hS.1.cells.1; have hfS := hS.1.cells.2; go_simp; (go_at_call 45; refine (K11.out _ _ _ (hF.1.2.zl L4.out) (hF.2.zl L5.out)).mono ?_; rintro e w206 ⟨rfl, hb_w206⟩; refine XPost.mk _ (fun _ => True) hb_w206 (trivial) (Cl.tt) ?_); clear hb_w206 hcS hfS hS hF
      intro K hK; go_simp; (try go_bits); refine hK _ ?_; clear hK K
      refine wpQI_start [10] ?_; (iterate 1 (first | (refine wpQI_off (by with_reducible (refine List.getElem?_toArray.trans ?_; (repeat (first | exact List.getElem?_cons_zero | refine List.getElem?_cons_succ.trans ?_)))) (by kernel_rfl) (by exact rfl) (fun K hK => ?_); go_simp; refine hK _ ?_; clear hK K) | ((first | apply wpQI_step (by with_reducible (refine List.getElem?_toArray.trans ?_; (repeat (first | exact List.getElem?_cons_zero | refine List.getElem?_cons_succ.trans ?_)))) (by kernel_rfl) (by exact rfl) | apply wpQI_on (by with_reducible (refine List.getElem?_toArray.trans ?_; (repeat (first | exact List.getElem?_cons_zero | refine List.getElem?_cons_succ.trans ?_)))) (by kernel_rfl) (by exact rfl)); (focus (intro W' hS; have hcS := hS.cells.1; have hfS := hS.cells.2; go_simp; (first | done | exact rfl | exact ⟨rfl, Below.refl _ _⟩ | (go_simp; first | done | exact rfl | exact ⟨rfl, Below.refl _ _⟩)))); intro K hK; go_simp; (try go_bits); refine hK _ ?_; clear hK K))); refine wpQI_nil ?_
      refine wpQ_done (by kernel_rfl) ?_
      intro w207 hF_w207 hSG
      have hz_w207 := hSG.1.1
      have hb_w207 := hSG.1.2
      clear hSG
      (with_reducible apply cel2 (b := w.heap.size + 1 + 1) hb_w207); (focus ((try simp) <;> omega)); (focus omega); (focus (go_simp; try exact rfl)); (focus (go_simp; try exact rfl)); (focus (intro o; go_simp)); intro c_w207_0_0 c_w207_0_1 fz_w207_0 hl_w207_0; (with_reducible apply cel2 (b := g_r3_6) hb_w207); (focus ((try simp) <;> omega)); (focus omega); (focus (go_simp; try exact rfl)); (focus (go_simp; try exact rfl)); (focus (intro o; go_simp)); intro c_w207_1_0 c_w207_1_1 fz_w207_1 hl_w207_1; (with_reducible apply cel2 (b := w201.heap.size) hb_w207); (focus ((try simp) <;> omega)); (focus omega); (focus (go_simp; try exact rfl)); (focus (go_simp; try exact rfl)); (focus (intro o; go_simp)); intro c_w207_2_0 c_w207_2_1 fz_w207_2 hl_w207_2
      (try simp only [List.filterMap_nil])
      clear H201
      replace H103 := Lib.hid (H103.out.below hb_w207)
      have H203 := Lib.hid (show IsC w207 (.agg #[.bool s203, .slice A203 n203 c203]) (M) from hF_w207.1.1.1)
      have H204 := Lib.hid (show IsC w207 (.agg #[.bool s204, .slice A204 n204 c204]) (PM) from hF_w207.1.1.2)
      have H205 := Lib.hid (show IsC w207 (.agg #[.bool s205, .slice A205 n205 c205]) (Q) from hF_w207.1.2)
      have HB207 := Lib.hid (HB202.out.trans (hb_w207.mono (by have := HB202.out.size; omega)))
      have hz207 : w.heap.size + 1 + 1 + 1 ≤ w207.heap.size := by omega
      clear hF_w207 hb_w207
      clear c_w202_0_0 c_w202_0_1 fz_w202_0 hl_w202_0 c_w202_1_0 c_w202_1_1 fz_w202_1 hl_w202_1 c_w202_2_0 c_w202_2_1 fz_w202_2 hl_w202_2
      go_wp2_with fail
      refine HQ_.out _ _ _ ?_
      clear HQ_ Q_
      by_cases hc : cm ≤ 0
      · have hS := HIFF.out.2 (HCM.out.1 hc)
        go_wp2_with fail
        go_roundw
        case rel => exact ⟨m, h, rfl, rfl, m2, hS, h0, h1, HB207.out⟩
        case measure => simp [intOf]; omega
      · have hS : ¬ m ≤ S := fun g => hc (HCM.out.2 (HIFF.out.1 g))
        go_wp2_with fail
        go_roundw
        case rel => exact ⟨l, m - 1, rfl, rfl, l0, l1, by omega, by omega, HB207.out⟩
        case measure => simp [intOf]; omega
    · obtain rfl : l = S := by omega
      go_wp2_with fail
      go_ret
      exact ⟨rfl, HB150.out.trans (HBR.out.mono (by omega))⟩
theorem rstrength_any (v1 v2 w1 w2 n1 n2 : Int) (w : World) : Calls Try.prog 29 #[.agg #[.int .i64 v1, .int .i64 v2], .agg #[.int .i64 w1, .int .i64 w2], .agg #[.int .i64 n1, .int .i64 n2]] w fun e w' => e = .returned (.int .i64 (strR v1 v2 w1 w2 n1 n2)) ∧ Below w.heap.size w w' := by
  unfold strR
  split
  · rename_i ha; exact rstrength_on v1 v2 w1 w2 n1 n2 w ha
  · rename_i ha; exact rstrength_away v1 v2 w1 w2 n1 n2 w (by simpa using ha)
end Go.Proofs.Ytklkhnhieihfoaa
namespace Go.Proofs.Ytklkhnhieihfoaa
open Go Go.RowKit
set_option linter.unusedVariables false
set_option maxRecDepth 100000 in
set_option maxHeartbeats 20000000 in
theorem rstatic_law (v1 v2 w1 w2 n1 n2 rest grip : Int) (w : World) :
    Calls Try.prog 6 #[.agg #[.int .i64 v1, .int .i64 v2, .int .i64 w1, .int .i64 w2, .int .i64 n1, .int .i64 n2], .int .i64 rest, .int .i64 grip] w fun e w' => e = .returned (.bool true) ∧ Below w.heap.size w w' := by
  have k1 := fun w => awake15_any w
  have k2 := fun w => approaches_any v1 v2 w1 w2 n1 n2 w
  have k3 := fun w => rapproaches_any v1 v2 w1 w2 n1 n2 w
  have k4 := fun w => strength_any v1 v2 w1 w2 n1 n2 w
  have k5 := fun w => rstrength_any v1 v2 w1 w2 n1 n2 w
  have k6 := fun w => static_any v1 v2 w1 w2 n1 n2 rest grip w
  have k7 := fun w => rstatic_any v1 v2 w1 w2 n1 n2 rest grip w
  obtain ⟨⟨lx, ly, ld⟩, _⟩ := stat_lens v1 v2 w1 w2 n1 n2 rest grip
  have k8 := fun u v w h1 h2 => rsame_yes (statR v1 v2 w1 w2 n1 n2 rest grip).1 (statR v1 v2 w1 w2 n1 n2 rest grip).2.1 (statR v1 v2 w1 w2 n1 n2 rest grip).2.2 u v w h1 h2 (by omega) (by omega) (by omega)
  unfold TOut at k6 k7
  generalize apprB v1 v2 w1 w2 n1 n2 = b at *
  generalize strR v1 v2 w1 w2 n1 n2 = S at *
  generalize (statR v1 v2 w1 w2 n1 n2 rest grip).1 = p1 at *
  generalize (statR v1 v2 w1 w2 n1 n2 rest grip).2.1 = p2 at *
  generalize (statR v1 v2 w1 w2 n1 n2 rest grip).2.2 = p3 at *
  have hbb : (b == b) = true := by simp
  have K1 := Lib.hid k1
  have K2 := Lib.hid k2
  have K3 := Lib.hid k3
  have K4 := Lib.hid k4
  have K5 := Lib.hid k5
  have K6 := Lib.hid k6
  have K7 := Lib.hid k7
  have K8 := Lib.hid k8
  clear k1 k2 k3 k4 k5 k6 k7 k8 lx ly ld
  -- names on
  go_enter Try.func6, Try.ntmps6; (try simp only [List.append_eq, List.cons_append, List.nil_append])
  go_wp2_with fail
  -- own blocks: w.heap.size:6
  (go_at_call 25; refine (K1.out _).mono ?_; rintro e w101 ⟨rfl, hb_w101⟩; have hz_w101 := hb_w101.size; (try simp at hz_w101); (with_reducible apply cel6 (b := w.heap.size) hb_w101); (focus ((try simp) <;> omega)); (focus omega); (focus (go_simp; try exact rfl)); (focus (go_simp; try exact rfl)); (focus (go_simp; try exact rfl)); (focus (go_simp; try exact rfl)); (focus (go_simp; try exact rfl)); (focus (go_simp; try exact rfl)); (focus (intro o; go_simp)); intro c_w101_0_0 c_w101_0_1 c_w101_0_2 c_w101_0_3 c_w101_0_4 c_w101_0_5 fz_w101_0 hl_w101_0)
  have HB101 := Lib.hid (show Below w.heap.size w w101 by ((with_reducible (repeat (first | exact bR _ _ | refine bS ?_ ?_ _ | refine bA ?_ ?_ _ | refine bD ?_ | refine bT ?_ (by assumption) ?_ | refine bO (by assumption) ?_ ?_))) <;> (first | omega | (simp; done) | (simp <;> omega))))
  have hz101 : w.heap.size + 1 ≤ w101.heap.size := by omega
  clear hb_w101
  skip
  go_wp2_with fail
  -- own blocks: w.heap.size:6
  (refine pin_wp (N := _) (Nat.le_refl _) (fun w102 hb_w102 hz_w102 => ?_); (try simp at hz_w102); (with_reducible apply cel6 (b := w.heap.size) hb_w102); (focus ((try simp) <;> omega)); (focus omega); (focus (go_simp; try exact rfl)); (focus (go_simp; try exact rfl)); (focus (go_simp; try exact rfl)); (focus (go_simp; try exact rfl)); (focus (go_simp; try exact rfl)); (focus (go_simp; try exact rfl)); (focus (intro o; go_simp)); intro c_w102_0_0 c_w102_0_1 c_w102_0_2 c_w102_0_3 c_w102_0_4 c_w102_0_5 fz_w102_0 hl_w102_0); refine wp_q (fun Q_ HQ_ => ?_); refine wp_region_floatQ w102.heap.size 33 [] (Nat.le_refl _) (fun _ => True) trivial Cl.tt (by kernel_rfl) (by kernel_rfl) ?_
  have HB102 := Lib.hid (show Below w.heap.size w w102 by have hB := HB101.out; ((with_reducible (repeat (first | exact bR _ _ | refine bS ?_ ?_ _ | refine bA ?_ ?_ _ | refine bD ?_ | refine bT ?_ (by assumption) ?_ | refine bO (by assumption) ?_ ?_))) <;> (first | omega | (simp; done) | (simp <;> omega))))
  have hz102 : w.heap.size + 1 ≤ w102.heap.size := by omega
  clear hb_w102
  clear c_w101_0_0 c_w101_0_1 c_w101_0_2 c_w101_0_3 c_w101_0_4 c_w101_0_5 fz_w101_0 hl_w101_0
  refine wpQI_start [0, 1, 2, 3, 4, 5] ?_; (iterate 6 (first | (refine wpQI_off (by with_reducible (refine List.getElem?_toArray.trans ?_; (repeat (first | exact List.getElem?_cons_zero | refine List.getElem?_cons_succ.trans ?_)))) (by kernel_rfl) (by exact rfl) (fun K hK => ?_); go_simp; refine hK _ ?_; clear hK K) | ((first | apply wpQI_step (by with_reducible (refine List.getElem?_toArray.trans ?_; (repeat (first | exact List.getElem?_cons_zero | refine List.getElem?_cons_succ.trans ?_)))) (by kernel_rfl) (by exact rfl) | apply wpQI_on (by with_reducible (refine List.getElem?_toArray.trans ?_; (repeat (first | exact List.getElem?_cons_zero | refine List.getElem?_cons_succ.trans ?_)))) (by kernel_rfl) (by exact rfl)); (focus (intro W' hS; have hcS := hS.cells.1; have hfS := hS.cells.2; go_simp; (first | done | exact rfl | exact ⟨rfl, Below.refl _ _⟩ | (go_simp; first | done | exact rfl | exact ⟨rfl, Below.refl _ _⟩)))); intro K hK; go_simp; (try go_bits); refine hK _ ?_; clear hK K))); refine wpQI_nil ?_
  refine wpQI_start [7, 8, 9, 10, 11, 12] ?_; (iterate 6 (first | (refine wpQI_off (by with_reducible (refine List.getElem?_toArray.trans ?_; (repeat (first | exact List.getElem?_cons_zero | refine List.getElem?_cons_succ.trans ?_)))) (by kernel_rfl) (by exact rfl) (fun K hK => ?_); go_simp; refine hK _ ?_; clear hK K) | ((first | apply wpQI_step (by with_reducible (refine List.getElem?_toArray.trans ?_; (repeat (first | exact List.getElem?_cons_zero | refine List.getElem?_cons_succ.trans ?_)))) (by kernel_rfl) (by exact rfl) | apply wpQI_on (by with_reducible (refine List.getElem?_toArray.trans ?_; (repeat (first | exact List.getElem?_cons_zero | refine List.getElem?_cons_succ.trans ?_)))) (by kernel_rfl) (by exact rfl)); (focus (intro W' hS; have hcS := hS.cells.1; have hfS := hS.cells.2; go_simp; (first | done | exact rfl | exact ⟨rfl, Below.refl _ _⟩ | (go_simp; first | done | exact rfl | exact ⟨rfl, Below.refl _ _⟩)))); intro K hK; go_simp; (try go_bits); refine hK _ ?_; clear hK K))); refine wpQI_nil ?_
  refine wpQI_start [6] ?_; (iterate 1 (first | (refine wpQI_off (by with_reducible (refine List.getElem?_toArray.trans ?_; (repeat (first | exact List.getElem?_cons_zero | refine List.getElem?_cons_succ.trans ?_)))) (by kernel_rfl) (by exact rfl) (fun K hK => ?_); go_simp; refine hK _ ?_; clear hK K) | ((first | apply wpQI_step (by with_reducible (refine List.getElem?_toArray.trans ?_; (repeat (first | exact List.getElem?_cons_zero | refine List.getElem?_cons_succ.trans ?_)))) (by kernel_rfl) (by exact rfl) | apply wpQI_on (by with_reducible (refine List.getElem?_toArray.trans ?_; (repeat (first | exact List.getElem?_cons_zero | refine List.getElem?_cons_succ.trans ?_)))) (by kernel_rfl) (by exact rfl)); (focus (intro W' hS; have hcS := hS.cells.1; have hfS := hS.cells.2; go_simp; (first | done | exact rfl | exact ⟨rfl, Below.refl _ _⟩ | (go_at_call 26; exact (K2.out _).mono (fun _ _ h => ⟨h.1, h.2⟩)) | (go_simp; first | done | exact rfl | exact ⟨rfl, Below.refl _ _⟩)))); intro K hK; go_simp; (try go_bits); refine hK _ ?_; clear hK K))); refine wpQI_nil ?_
  refine wpQI_start [13] ?_; (iterate 1 (first | (refine wpQI_off (by with_reducible (refine List.getElem?_toArray.trans ?_; (repeat (first | exact List.getElem?_cons_zero | refine List.getElem?_cons_succ.trans ?_)))) (by kernel_rfl) (by exact rfl) (fun K hK => ?_); go_simp; refine hK _ ?_; clear hK K) | ((first | apply wpQI_step (by with_reducible (refine List.getElem?_toArray.trans ?_; (repeat (first | exact List.getElem?_cons_zero | refine List.getElem?_cons_succ.trans ?_)))) (by kernel_rfl) (by exact rfl) | apply wpQI_on (by with_reducible (refine List.getElem?_toArray.trans ?_; (repeat (first | exact List.getElem?_cons_zero | refine List.getElem?_cons_succ.trans ?_)))) (by kernel_rfl) (by exact rfl)); (focus (intro W' hS; have hcS := hS.cells.1; have hfS := hS.cells.2; go_simp; (first | done | exact rfl | exact ⟨rfl, Below.refl _ _⟩ | (go_at_call 27; exact (K3.out _).mono (fun _ _ h => ⟨h.1, h.2⟩)) | (go_simp; first | done | exact rfl | exact ⟨rfl, Below.refl _ _⟩)))); intro K hK; go_simp; (try go_bits); refine hK _ ?_; clear hK K))); refine wpQI_nil ?_
  refine wpQI_start [14, 15, 16, 17, 18, 19, 20, 21] ?_; (iterate 8 (first | (refine wpQI_off (by with_reducible (refine List.getElem?_toArray.trans ?_; (repeat (first | exact List.getElem?_cons_zero | refine List.getElem?_cons_succ.trans ?_)))) (by kernel_rfl) (by exact rfl) (fun K hK => ?_); go_simp; refine hK _ ?_; clear hK K) | ((first | apply wpQI_step (by with_reducible (refine List.getElem?_toArray.trans ?_; (repeat (first | exact List.getElem?_cons_zero | refine List.getElem?_cons_succ.trans ?_)))) (by kernel_rfl) (by exact rfl) | apply wpQI_on (by with_reducible (refine List.getElem?_toArray.trans ?_; (repeat (first | exact List.getElem?_cons_zero | refine List.getElem?_cons_succ.trans ?_)))) (by kernel_rfl) (by exact rfl)); (focus (intro W' hS; have hcS := hS.cells.1; have hfS := hS.cells.2; go_simp; (first | done | exact rfl | exact ⟨rfl, Below.refl _ _⟩ | (go_simp; first | done | exact rfl | exact ⟨rfl, Below.refl _ _⟩)))); intro K hK; go_simp; (try go_bits); refine hK _ ?_; clear hK K))); refine wpQI_nil ?_
  refine wpQI_start [23, 24, 25, 26, 27, 28] ?_; (iterate 6 (first | (refine wpQI_off (by with_reducible (refine List.getElem?_toArray.trans ?_; (repeat (first | exact List.getElem?_cons_zero | refine List.getElem?_cons_succ.trans ?_)))) (by kernel_rfl) (by exact rfl) (fun K hK => ?_); go_simp; refine hK _ ?_; clear hK K) | ((first | apply wpQI_step (by with_reducible (refine List.getElem?_toArray.trans ?_; (repeat (first | exact List.getElem?_cons_zero | refine List.getElem?_cons_succ.trans ?_)))) (by kernel_rfl) (by exact rfl) | apply wpQI_on (by with_reducible (refine List.getElem?_toArray.trans ?_; (repeat (first | exact List.getElem?_cons_zero | refine List.getElem?_cons_succ.trans ?_)))) (by kernel_rfl) (by exact rfl)); (focus (intro W' hS; have hcS := hS.cells.1; have hfS := hS.cells.2; go_simp; (first | done | exact rfl | exact ⟨rfl, Below.refl _ _⟩ | (go_simp; first | done | exact rfl | exact ⟨rfl, Below.refl _ _⟩)))); intro K hK; go_simp; (try go_bits); refine hK _ ?_; clear hK K))); refine wpQI_nil ?_
  refine wpQI_start [22] ?_; (iterate 1 (first | (refine wpQI_off (by with_reducible (refine List.getElem?_toArray.trans ?_; (repeat (first | exact List.getElem?_cons_zero | refine List.getElem?_cons_succ.trans ?_)))) (by kernel_rfl) (by exact rfl) (fun K hK => ?_); go_simp; refine hK _ ?_; clear hK K) | ((first | apply wpQI_step (by with_reducible (refine List.getElem?_toArray.trans ?_; (repeat (first | exact List.getElem?_cons_zero | refine List.getElem?_cons_succ.trans ?_)))) (by kernel_rfl) (by exact rfl) | apply wpQI_on (by with_reducible (refine List.getElem?_toArray.trans ?_; (repeat (first | exact List.getElem?_cons_zero | refine List.getElem?_cons_succ.trans ?_)))) (by kernel_rfl) (by exact rfl)); (focus (intro W' hS; have hcS := hS.cells.1; have hfS := hS.cells.2; go_simp; (first | done | exact rfl | exact ⟨rfl, Below.refl _ _⟩ | (go_at_call 28; exact (K4.out _).mono (fun _ _ h => ⟨h.1, h.2⟩)) | (go_simp; first | done | exact rfl | exact ⟨rfl, Below.refl _ _⟩)))); intro K hK; go_simp; (try go_bits); refine hK _ ?_; clear hK K))); refine wpQI_nil ?_
  refine wpQI_start [29] ?_; (iterate 1 (first | (refine wpQI_off (by with_reducible (refine List.getElem?_toArray.trans ?_; (repeat (first | exact List.getElem?_cons_zero | refine List.getElem?_cons_succ.trans ?_)))) (by kernel_rfl) (by exact rfl) (fun K hK => ?_); go_simp; refine hK _ ?_; clear hK K) | ((first | apply wpQI_step (by with_reducible (refine List.getElem?_toArray.trans ?_; (repeat (first | exact List.getElem?_cons_zero | refine List.getElem?_cons_succ.trans ?_)))) (by kernel_rfl) (by exact rfl) | apply wpQI_on (by with_reducible (refine List.getElem?_toArray.trans ?_; (repeat (first | exact List.getElem?_cons_zero | refine List.getElem?_cons_succ.trans ?_)))) (by kernel_rfl) (by exact rfl)); (focus (intro W' hS; have hcS := hS.cells.1; have hfS := hS.cells.2; go_simp; (first | done | exact rfl | exact ⟨rfl, Below.refl _ _⟩ | (go_at_call 29; exact (K5.out _).mono (fun _ _ h => ⟨h.1, h.2⟩)) | (go_simp; first | done | exact rfl | exact ⟨rfl, Below.refl _ _⟩)))); intro K hK; go_simp; (try go_bits); refine hK _ ?_; clear hK K))); refine wpQI_nil ?_
  refine wpQI_start [30, 31, 32] ?_; (iterate 3 (first | (refine wpQI_off (by with_reducible (refine List.getElem?_toArray.trans ?_; (repeat (first | exact List.getElem?_cons_zero | refine List.getElem?_cons_succ.trans ?_)))) (by kernel_rfl) (by exact rfl) (fun K hK => ?_); go_simp; refine hK _ ?_; clear hK K) | ((first | apply wpQI_step (by with_reducible (refine List.getElem?_toArray.trans ?_; (repeat (first | exact List.getElem?_cons_zero | refine List.getElem?_cons_succ.trans ?_)))) (by kernel_rfl) (by exact rfl) | apply wpQI_on (by with_reducible (refine List.getElem?_toArray.trans ?_; (repeat (first | exact List.getElem?_cons_zero | refine List.getElem?_cons_succ.trans ?_)))) (by kernel_rfl) (by exact rfl)); (focus (intro W' hS; have hcS := hS.cells.1; have hfS := hS.cells.2; go_simp; (first | done | exact rfl | exact ⟨rfl, Below.refl _ _⟩ | (go_simp; first | done | exact rfl | exact ⟨rfl, Below.refl _ _⟩)))); intro K hK; go_simp; (try go_bits); refine hK _ ?_; clear hK K))); refine wpQI_nil ?_
  refine wpQ_done (by kernel_rfl) ?_
  intro w103 hF_w103 hSG
  have hz_w103 := hSG.1.1
  have hb_w103 := hSG.1.2
  clear hSG
  (with_reducible apply cel6 (b := w.heap.size) hb_w103); (focus ((try simp) <;> omega)); (focus omega); (focus (go_simp; try exact rfl)); (focus (go_simp; try exact rfl)); (focus (go_simp; try exact rfl)); (focus (go_simp; try exact rfl)); (focus (go_simp; try exact rfl)); (focus (go_simp; try exact rfl)); (focus (intro o; go_simp)); intro c_w103_0_0 c_w103_0_1 c_w103_0_2 c_w103_0_3 c_w103_0_4 c_w103_0_5 fz_w103_0 hl_w103_0
  (try simp only [List.filterMap_nil])
  have HB103 := Lib.hid (HB102.out.trans (hb_w103.mono (by have := HB102.out.size; omega)))
  have hz103 : w.heap.size + 1 ≤ w103.heap.size := by omega
  clear hF_w103 hb_w103
  clear c_w102_0_0 c_w102_0_1 c_w102_0_2 c_w102_0_3 c_w102_0_4 c_w102_0_5 fz_w102_0 hl_w102_0
  go_wp2_with fail
  refine HQ_.out _ _ _ ?_
  clear HQ_ Q_
  go_wp2_with fail
  -- own blocks: w.heap.size:6
  (refine pin_wp (N := _) (Nat.le_refl _) (fun w104 hb_w104 hz_w104 => ?_); (try simp at hz_w104); (with_reducible apply cel6 (b := w.heap.size) hb_w104); (focus ((try simp) <;> omega)); (focus omega); (focus (go_simp; try exact rfl)); (focus (go_simp; try exact rfl)); (focus (go_simp; try exact rfl)); (focus (go_simp; try exact rfl)); (focus (go_simp; try exact rfl)); (focus (go_simp; try exact rfl)); (focus (intro o; go_simp)); intro c_w104_0_0 c_w104_0_1 c_w104_0_2 c_w104_0_3 c_w104_0_4 c_w104_0_5 fz_w104_0 hl_w104_0); refine wp_q (fun Q_ HQ_ => ?_); refine wp_region_floatQ w104.heap.size 23 [] (Nat.le_refl _) (fun _ => True) trivial Cl.tt (by kernel_rfl) (by kernel_rfl) ?_
  have HB104 := Lib.hid (show Below w.heap.size w w104 by have hB := HB103.out; ((with_reducible (repeat (first | exact bR _ _ | refine bS ?_ ?_ _ | refine bA ?_ ?_ _ | refine bD ?_ | refine bT ?_ (by assumption) ?_ | refine bO (by assumption) ?_ ?_))) <;> (first | omega | (simp; done) | (simp <;> omega))))
  have hz104 : w.heap.size + 1 ≤ w104.heap.size := by omega
  clear hb_w104
  clear c_w103_0_0 c_w103_0_1 c_w103_0_2 c_w103_0_3 c_w103_0_4 c_w103_0_5 fz_w103_0 hl_w103_0
  refine wpQI_start [0, 1, 2, 3, 4, 5, 6, 7, 8, 9] ?_; (iterate 10 (first | (refine wpQI_off (by with_reducible (refine List.getElem?_toArray.trans ?_; (repeat (first | exact List.getElem?_cons_zero | refine List.getElem?_cons_succ.trans ?_)))) (by kernel_rfl) (by exact rfl) (fun K hK => ?_); go_simp; refine hK _ ?_; clear hK K) | ((first | apply wpQI_step (by with_reducible (refine List.getElem?_toArray.trans ?_; (repeat (first | exact List.getElem?_cons_zero | refine List.getElem?_cons_succ.trans ?_)))) (by kernel_rfl) (by exact rfl) | apply wpQI_on (by with_reducible (refine List.getElem?_toArray.trans ?_; (repeat (first | exact List.getElem?_cons_zero | refine List.getElem?_cons_succ.trans ?_)))) (by kernel_rfl) (by exact rfl)); (focus (intro W' hS; have hcS := hS.cells.1; have hfS := hS.cells.2; go_simp; (first | done | exact rfl | exact ⟨rfl, Below.refl _ _⟩ | (go_simp; first | done | exact rfl | exact ⟨rfl, Below.refl _ _⟩)))); intro K hK; go_simp; (try go_bits); refine hK _ ?_; clear hK K))); refine wpQI_nil ?_
  refine wpQI_start [11, 12, 13, 14, 15, 16, 17, 18] ?_; (iterate 8 (first | (refine wpQI_off (by with_reducible (refine List.getElem?_toArray.trans ?_; (repeat (first | exact List.getElem?_cons_zero | refine List.getElem?_cons_succ.trans ?_)))) (by kernel_rfl) (by exact rfl) (fun K hK => ?_); go_simp; refine hK _ ?_; clear hK K) | ((first | apply wpQI_step (by with_reducible (refine List.getElem?_toArray.trans ?_; (repeat (first | exact List.getElem?_cons_zero | refine List.getElem?_cons_succ.trans ?_)))) (by kernel_rfl) (by exact rfl) | apply wpQI_on (by with_reducible (refine List.getElem?_toArray.trans ?_; (repeat (first | exact List.getElem?_cons_zero | refine List.getElem?_cons_succ.trans ?_)))) (by kernel_rfl) (by exact rfl)); (focus (intro W' hS; have hcS := hS.cells.1; have hfS := hS.cells.2; go_simp; (first | done | exact rfl | exact ⟨rfl, Below.refl _ _⟩ | (go_simp; first | done | exact rfl | exact ⟨rfl, Below.refl _ _⟩)))); intro K hK; go_simp; (try go_bits); refine hK _ ?_; clear hK K))); refine wpQI_nil ?_
  apply wpQ_call (i := 10) (by with_reducible (refine List.getElem?_toArray.trans ?_; (repeat (first | exact List.getElem?_cons_zero | refine List.getElem?_cons_succ.trans ?_)))) (by kernel_rfl) (by exact rfl); intro W hF hS; have hcS := hS.1.cells.1; have hfS := hS.1.cells.2; go_simp; (go_at_call 31; refine (K6.out _).mono ?_; rintro e w105 ⟨hb_w105, v105, rfl, hv105⟩; refine XPost.mk _ (fun W => RAt W v105 (p1) (p2) (p3)) hb_w105 (hv105) (RAt.cl _ _ _ _) ?_); clear hb_w105 hcS hfS hS hF
  intro K hK; go_simp; (try go_bits); refine hK _ ?_; clear hK K
  obtain ⟨s105x, A105x, n105x, c105x, s105y, A105y, n105y, c105y, s105d, A105d, n105d, c105d, rfl⟩ := RAt.val hv105
  clear hv105
  apply wpQ_call (i := 19) (by with_reducible (refine List.getElem?_toArray.trans ?_; (repeat (first | exact List.getElem?_cons_zero | refine List.getElem?_cons_succ.trans ?_)))) (by kernel_rfl) (by exact rfl); intro W hF hS; have hcS := hS.1.cells.1; have hfS := hS.1.cells.2; go_simp; (go_at_call 32; refine (K7.out _).mono ?_; rintro e w106 ⟨hb_w106, v106, rfl, hv106⟩; refine XPost.mk _ (fun W => RAt W v106 (p1) (p2) (p3)) hb_w106 (hv106) (RAt.cl _ _ _ _) ?_); clear hb_w106 hcS hfS hS hF
  intro K hK; go_simp; (try go_bits); refine hK _ ?_; clear hK K
  obtain ⟨s106x, A106x, n106x, c106x, s106y, A106y, n106y, c106y, s106d, A106d, n106d, c106d, rfl⟩ := RAt.val hv106
  clear hv106
  apply wpQ_call (i := 20) (by with_reducible (refine List.getElem?_toArray.trans ?_; (repeat (first | exact List.getElem?_cons_zero | refine List.getElem?_cons_succ.trans ?_)))) (by kernel_rfl) (by exact rfl); intro W hF hS; have hcS := hS.1.cells.1; have hfS := hS.1.cells.2; go_simp; (go_at_call 30; refine (K8.out _ _ _ (hF.1) (hF.2)).mono ?_; rintro e w107 ⟨rfl, hb_w107⟩; refine XPost.mk _ (fun _ => True) hb_w107 (trivial) (Cl.tt) ?_); clear hb_w107 hcS hfS hS hF
  intro K hK; go_simp; (try go_bits); refine hK _ ?_; clear hK K
  refine wpQI_start [21, 22] ?_; (iterate 2 (first | (refine wpQI_off (by with_reducible (refine List.getElem?_toArray.trans ?_; (repeat (first | exact List.getElem?_cons_zero | refine List.getElem?_cons_succ.trans ?_)))) (by kernel_rfl) (by exact rfl) (fun K hK => ?_); go_simp; refine hK _ ?_; clear hK K) | ((first | apply wpQI_step (by with_reducible (refine List.getElem?_toArray.trans ?_; (repeat (first | exact List.getElem?_cons_zero | refine List.getElem?_cons_succ.trans ?_)))) (by kernel_rfl) (by exact rfl) | apply wpQI_on (by with_reducible (refine List.getElem?_toArray.trans ?_; (repeat (first | exact List.getElem?_cons_zero | refine List.getElem?_cons_succ.trans ?_)))) (by kernel_rfl) (by exact rfl)); (focus (intro W' hS; have hcS := hS.cells.1; have hfS := hS.cells.2; go_simp; (first | done | exact rfl | exact ⟨rfl, Below.refl _ _⟩ | (go_simp; first | done | exact rfl | exact ⟨rfl, Below.refl _ _⟩)))); intro K hK; go_simp; (try go_bits); refine hK _ ?_; clear hK K))); refine wpQI_nil ?_
  refine wpQ_done (by kernel_rfl) ?_
  intro w108 hF_w108 hSG
  have hz_w108 := hSG.1.1
  have hb_w108 := hSG.1.2
  clear hSG
  (with_reducible apply cel6 (b := w.heap.size) hb_w108); (focus ((try simp) <;> omega)); (focus omega); (focus (go_simp; try exact rfl)); (focus (go_simp; try exact rfl)); (focus (go_simp; try exact rfl)); (focus (go_simp; try exact rfl)); (focus (go_simp; try exact rfl)); (focus (go_simp; try exact rfl)); (focus (intro o; go_simp)); intro c_w108_0_0 c_w108_0_1 c_w108_0_2 c_w108_0_3 c_w108_0_4 c_w108_0_5 fz_w108_0 hl_w108_0
  (try simp only [List.filterMap_nil])
  have H105 := Lib.hid (show RAt w108 (.agg #[.bool s105x, .slice A105x n105x c105x, .bool s105y, .slice A105y n105y c105y, .bool s105d, .slice A105d n105d c105d]) (p1) (p2) (p3) from hF_w108.1.1)
  have H106 := Lib.hid (show RAt w108 (.agg #[.bool s106x, .slice A106x n106x c106x, .bool s106y, .slice A106y n106y c106y, .bool s106d, .slice A106d n106d c106d]) (p1) (p2) (p3) from hF_w108.1.2)
  have HB108 := Lib.hid (HB104.out.trans (hb_w108.mono (by have := HB104.out.size; omega)))
  have hz108 : w.heap.size + 1 ≤ w108.heap.size := by omega
  clear hF_w108 hb_w108
  clear c_w104_0_0 c_w104_0_1 c_w104_0_2 c_w104_0_3 c_w104_0_4 c_w104_0_5 fz_w104_0 hl_w104_0
  go_wp2_with fail
  refine HQ_.out _ _ _ ?_
  clear HQ_ Q_
  go_wp2_with fail
  -- own blocks: 
  refine bodyPost_ret (v := .bool true) (by simp only [results, Try.results6]; go_simp) rfl ⟨?_, ?_⟩
  · rfl
  · have hB := HB108.out; ((with_reducible (repeat (first | exact bR _ _ | refine bS ?_ ?_ _ | refine bA ?_ ?_ _ | refine bD ?_ | refine bT ?_ (by assumption) ?_ | refine bO (by assumption) ?_ ?_))) <;> (first | omega | (simp; done) | (simp <;> omega)))
end Go.Proofs.Ytklkhnhieihfoaa
namespace Go.Proofs.Ytklkhnhieihfoaa
open Go Go.ChangeShapes Go.WideShapes Go.ChangeAt Go.RowKit
section
variable {H : Type} {enc : TypeId × Value → H} {P : Program} {w : World}
theorem cells_at {base : Nat} {a : Addr} {n : Nat} {row : List Value} (h : w.cells? base a n = some row) : row.length = n ∧ ∀ j v, row[j]? = some v → w.cell? (a.add j) = some v := by
  unfold World.cells? at h
  split at h
  · have hl := mapM_some_length h
    simp at hl
    refine ⟨hl, fun j v hj => ?_⟩
    have hlt : j < n := by rw [← hl]; exact (List.getElem?_eq_some_iff.1 hj).1
    have := mapM_some_get h j j (by simp [hlt])
    rw [this, hj]
  · cases h
theorem add_add' (a : Addr) (i j : Nat) : (a.add i).add j = a.add (i + j) := by
  unfold Addr.add
  by_cases hi : i = 0 <;> by_cases hj : j = 0 <;> simp [hi, hj, Nat.add_assoc]
theorem rowIs_of_trod {base : Nat} {spare : Nat → Bool} {held : Bool} : ∀ (fuel : Nat) (t : TypeId) (cs : List Value) (x : DataW H × List MemPlace), DataW.trod enc P w base spare held fuel t cs = some x → RowIs P w fuel t cs := by
  intro fuel
  induction fuel with
  | zero => intro t cs x h; simp [DataW.trod] at h
  | succ n ih =>
    intro t cs x h
    cases hu : P.underlying t with
    | none => simp only [RowIs, hu]
    | some d =>
      cases d with
      | bool => obtain ⟨b, hb, _⟩ := DataW.trod_bool hu h; simp only [RowIs, hu]; exact ⟨b, hb⟩
      | int k => obtain ⟨z, hz, _, hw⟩ := DataW.trod_int hu h; simp only [RowIs, hu]; exact ⟨z, hz, hw⟩
      | string => obtain ⟨s, hs, _, hw⟩ := DataW.trod_string hu h; simp only [RowIs, hu]; exact ⟨s, hs, hw⟩
      | struct fs =>
        obtain ⟨xs, m, hm, _, hl, hxl, hf⟩ := DataW.trod_struct hu h
        obtain rfl : m = n := by omega
        simp only [RowIs, hu]
        refine ⟨hl, fun f hfm => ?_⟩
        obtain ⟨i, hi⟩ := List.getElem?_of_mem hfm
        have h1 := hf i f (by simpa using hi)
        have hlt : i < xs.length := by rw [hxl]; have := (List.getElem?_eq_some_iff.1 hi).1; simpa using this
        rw [List.getElem?_eq_getElem hlt] at h1
        exact ih _ _ _ h1
      | slice e =>
        simp only [RowIs, hu]
        rcases DataW.trod_slice hu h with ⟨h0, _⟩ | ⟨a, len, cap, elems, rest, m, hm, hcs, _, _, hlc, hcap, hel, hat, _⟩
        · exact .inl h0
        · obtain rfl : m = n := by omega
          refine .inr ⟨a, len, cap, hcs, hlc, hcap, fun i hi => ?_⟩
          have h1 := hat i hi
          have hlt : i < elems.length := by omega
          rw [List.getElem?_eq_getElem hlt] at h1
          obtain ⟨row, hr, ht⟩ := Option.bind_eq_some_iff.1 h1
          obtain ⟨hl, hc⟩ := cells_at hr
          exact ⟨row, hl, fun j v hj => by rw [← add_add']; exact hc j v hj, ih _ _ _ ht⟩
      | _ => simp only [RowIs, hu]
end
end Go.Proofs.Ytklkhnhieihfoaa
namespace Go.Proofs.Ytklkhnhieihfoaa.lawRS
open Go.ChangeShapes Go.WideShapes Go.ChangeAt Go.RowKit
set_option linter.unusedVariables false
theorem walk (w : World) (a0 : Array Value) (n0 : Nat) (w0 : RowIs Try.prog w n0 52 a0.toList) (a1 : Int) (w1 : (Lit.int .i64 a1).wf = true) (a2 : Int) (w2 : (Lit.int .i64 a2).wf = true) :
    Calls Try.prog 6 #[.agg a0, .int .i64 a1, .int .i64 a2] w fun e w' => e = .returned (.bool true) ∧ Below w.heap.size w w' := by
  obtain ⟨px, py, vx, vy, hx, hy, e, _⟩ := row_meet w0
  obtain ⟨l⟩ := a0
  simp only at e
  subst e
  exact rstatic_law px py vx vy hx hy a1 a2 w
theorem own : ownKnob Try.prog.godebug = none := by kernel_rfl
theorem laidOut : laidOutB Try.prog = true := by kernel_rfl
set_option maxRecDepth 100000 in
theorem lifted (os : Os) (started : os.Started) (H : Type) (enc : TypeId × Value → H) :
    ReturnsInHanded {} Try.checked os 6 .any (Rows.respondStaticSpec.pre6 enc Try.prog Try.f6 Rows.respondStaticRow.domain false) (Rows.respondStaticSpec.post enc Try.prog Try.f6 false true false false) := by
  refine returnsInHanded_of_change (C := Try.checked) own started (by kernel_rfl) Try.func6
    (ChangeSpec.witness6 (enc := enc) (C := Try.checked) false ⟨#[], #[.agg #[.int .i64 0, .int .i64 0, .int .i64 0, .int .i64 0, .int .i64 0, .int .i64 0], .int .i64 0, .int .i64 0], []⟩ 8 (by kernel_rfl) (by kernel_rfl) (by kernel_rfl) (by kernel_rfl)) ?_
  intro W base args ds gs before hval0 hW hcnd _
  have hval : ∀ (j : Nat) t v, Try.f6.params[j]? = some t → args[j]? = some v → Value.okWide Try.prog W .any base t v := hval0
  have hW' := hW
  obtain ⟨p, q, hA0, hV, rfl, hfz, hnd⟩ := hW
  have hA : DataW.TrodAll enc Try.prog W 0 (fun _ => true) true Try.f6.params.toList args.toList ds p := hA0
  rw [Try.params6] at hA hval
  obtain ⟨v0, vs0, d0, ds0, p0, q0, hargs, rfl, rfl, h0, r0⟩ := trodAll_cons hA
  obtain ⟨v1, vs1, d1, ds1, p1, q1, rfl, rfl, rfl, h1, r1⟩ := trodAll_cons r0
  obtain ⟨v2, vs2, d2, ds2, p2, q2, rfl, rfl, rfl, h2, r2⟩ := trodAll_cons r1
  obtain ⟨rfl, rfl, rfl⟩ := trodAll_nil r2
  obtain rfl : args = #[v0, v1, v2] := by cases args; simp_all
  obtain ⟨rfl, rfl⟩ := trodVars_none hV
  obtain ⟨a0, rfl, hs0⟩ := okWide_struct Try.underlying52 (hval 0 52 v0 rfl rfl)
  have k0 := h0
  have lt0 : ∀ x ∈ p0, x.block < W.heap.size := by obtain ⟨m, hm⟩ := k0; exact DataW.trod_lt m _ _ _ hm
  obtain ⟨n0, w0⟩ : ∃ n, RowIs Try.prog W n 52 a0.toList := by obtain ⟨fuel, hf⟩ := h0; exact ⟨fuel, rowIs_of_trod fuel _ _ _ hf⟩
  obtain ⟨a1, rfl, rfl, rfl, w1⟩ := open_int Try.underlying3 (hval 1 3 v1 rfl rfl) h1
  obtain ⟨a2, rfl, rfl, rfl, w2⟩ := open_int Try.underlying3 (hval 2 3 v2 rfl rfl) h2
  clear hA0 hval0
  refine (walk W a0 n0 w0 a1 w1 a2 w2).mono fun e W' ⟨he, bel⟩ => ?_
  subst he
  exact ⟨_, rfl, _, _, _, [], _, [], hW', trodAll_mk1 (shut_bool Try.underlying4 _), (trodAll_cons_mk (Below.trod laidOut (by kernel_rfl) (of_decide_eq_true (by kernel_rfl)) k0 bel lt0) (trodAll_cons_mk (shut_int Try.underlying3 w1) (trodAll_cons_mk (shut_int Try.underlying3 w2) trodAll_mk0))), rfl, bel.frame _, fun h => by cases h⟩
theorem over : Rows.respondStaticRow.holds Try.pinned (OpenSpec.ofChange Rows.respondStaticSpec) :=
  OpenClaim.holds_of_wide 6 Try.f6 rfl rfl rfl rfl rfl rfl rfl ⟨rfl, rfl, rfl, rfl, rfl⟩ rfl rfl rfl rfl rfl (by kernel_rfl) Try.func6 (by kernel_rfl)
    (of_decide_eq_true (by kernel_rfl)) (by unfold Func.isWrapper; first | (rw [if_pos (by decide +kernel)]; kernel_rfl) | (rw [if_neg (by decide +kernel)]; exact ⟨rfl, rfl⟩))
    (fun os started H enc _ => lifted os started H enc)
theorem proved : Rows.RespondStaticSaid := over
#print axioms proved
end Go.Proofs.Ytklkhnhieihfoaa.lawRS
