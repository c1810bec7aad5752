/- Contracts of flight.Box, At and the sanity check of law 10. -/
import Derived.Test.YtkoejgpnlncgaaaVec
import Derived.RegionTactic
import Derived.ChangeAlike
namespace Go.Proofs.Ytkoejgpnlncgaaa
open Go.RowKit
theorem ret_two {a b c d : Int} (h : a = c) (h' : b = d) : Ending.returned (.tuple #[.int .i64 a, .int .i64 b]) = .returned (.tuple #[.int .i64 c, .int .i64 d]) := by rw [h, h']
def exLo (p v g : Int) : Int := if 0 < g ∧ v < 0 ∧ -v < 2 * g then min (min p (p + v + g)) (p - (v * v + 4 * g - 1) / (4 * g)) else min p (p + v + g)
def exHi (p v g : Int) : Int := if g < 0 ∧ 0 < v ∧ v < -2 * g then max (max p (p + v + g)) (p + (v * v - 4 * g - 1) / (-4 * g)) else max p (p + v + g)
set_option maxHeartbeats 400000 in
theorem extent_any (p v g : Int) (w : World) (p1 : -8388608 ≤ p) (p2 : p ≤ 8388608) (v1 : -262144 ≤ v) (v2 : v ≤ 262144) (g1 : -4096 ≤ g) (g2 : g ≤ 4096) :
    Calls Try.prog 63 #[.int .i64 p, .int .i64 v, .int .i64 g] w fun e w' => e = .returned (.tuple #[.int .i64 (exLo p v g), .int .i64 (exHi p v g)]) ∧ w = w' := by
  obtain ⟨m1, m2⟩ := mul_bd v v 262144 262144 v1 v2 v1 v2
  have m3 : 0 ≤ v * v := by rcases Int.le_total 0 v with h | h; exact Int.mul_nonneg h h; exact Int.mul_nonneg_of_nonpos_of_nonpos h h
  have dv : ∀ a b : Int, 0 ≤ a → 0 < b → 0 ≤ a / b ∧ a / b ≤ a := fun a b h0 h1 => ⟨Int.ediv_nonneg h0 (by omega), Int.ediv_le_self b h0⟩
  rcases Int.lt_trichotomy g 0 with hg | hg | hg
  · obtain ⟨d1, d2⟩ := dv (v * v - 4 * g - 1) (-4 * g) (by omega) (by omega)
    clear dv
    go_enter Try.func63, Try.ntmps63; (try simp only [List.append_eq, List.cons_append, List.nil_append])
    go_wp2
    all_goals
      go_ret2
      refine ⟨ret_two ?_ ?_, rfl⟩
      · simp only [exLo]; split <;> omega
      · simp only [exHi]; split <;> omega
  · subst hg
    clear dv
    go_enter Try.func63, Try.ntmps63; (try simp only [List.append_eq, List.cons_append, List.nil_append])
    go_wp2
    all_goals
      go_ret2
      refine ⟨ret_two ?_ ?_, rfl⟩
      · simp only [exLo]; split <;> omega
      · simp only [exHi]; split <;> omega
  · obtain ⟨d1, d2⟩ := dv (v * v + 4 * g - 1) (4 * g) (by omega) (by omega)
    clear dv
    go_enter Try.func63, Try.ntmps63; (try simp only [List.append_eq, List.cons_append, List.nil_append])
    go_wp2
    all_goals
      go_ret2
      refine ⟨ret_two ?_ ?_, rfl⟩
      · simp only [exLo]; split <;> omega
      · simp only [exHi]; split <;> omega
set_option maxHeartbeats 400000 in
theorem box_in (px py vx vy hx hy : Int) (w : World) (h : validB px py vx vy hx hy = true) :
    Calls Try.prog 20 #[.agg #[.int .i64 px, .int .i64 py, .int .i64 vx, .int .i64 vy, .int .i64 hx, .int .i64 hy]] w fun e w' => e = .returned (.tuple #[.agg #[.int .i64 (exLo px vx hx), .int .i64 (exLo py vy hy)], .agg #[.int .i64 (exHi px vx hx), .int .i64 (exHi py vy hy)]]) ∧ Below w.heap.size w w' := by
  obtain ⟨⟨p1, p2, p3, p4⟩, ⟨v1, v2, v3, v4⟩, h1, h2, h3, h4⟩ := valid_iff h
  go_enter Try.func20, Try.ntmps20; (try simp only [List.append_eq, List.cons_append, List.nil_append])
  go_wp2_with (first | (go_at_call 17; refine (valid_any _ _ _ _ _ _ _).mono ?_; rintro e w1 ⟨rfl, hb1⟩; have hz1 : w.heap.size + 3 ≤ w1.heap.size := (by have h := hb1.size; (try simp at h); omega); have hbb := Below.mono hb1 (B' := w.heap.size + 3) (by (try simp) <;> omega); clear hb1; (with_reducible apply cel6 (b := w.heap.size) hbb); (focus ((try simp) <;> omega)); (focus omega); (focus (go_simp; try exact rfl)); (focus (go_simp; try exact rfl)); (focus (go_simp; try exact rfl)); (focus (go_simp; try exact rfl)); (focus (go_simp; try exact rfl)); (focus (go_simp; try exact rfl)); (focus (intro o; go_simp)); intro cc cc cc cc cc cc fz hl; (with_reducible apply cel2 (b := w.heap.size + 1) hbb); (focus ((try simp) <;> omega)); (focus omega); (focus (go_simp; try exact rfl)); (focus (go_simp; try exact rfl)); (focus (intro o; go_simp)); intro cc cc fz hl; (with_reducible apply cel2 (b := w.heap.size + 1 + 1) hbb); (focus ((try simp) <;> omega)); (focus omega); (focus (go_simp; try exact rfl)); (focus (go_simp; try exact rfl)); (focus (intro o; go_simp)); intro cc cc fz hl) | (go_at_call 63; refine (extent_any _ _ _ _ (by omega) (by omega) (by omega) (by omega) (by omega) (by omega)).mono ?_; rintro e w2 ⟨rfl, rfl⟩))
  refine pin_wp (N := w.heap.size + 3) (by (try simp) <;> omega) (fun w1 hbb hz1 => ?_); (with_reducible apply cel6 (b := w.heap.size) hbb); (focus ((try simp) <;> omega)); (focus omega); (focus (go_simp; try exact rfl)); (focus (go_simp; try exact rfl)); (focus (go_simp; try exact rfl)); (focus (go_simp; try exact rfl)); (focus (go_simp; try exact rfl)); (focus (go_simp; try exact rfl)); (focus (intro o; go_simp)); intro cc cc cc cc cc cc fz hl; (with_reducible apply cel2 (b := w.heap.size + 1) hbb); (focus ((try simp) <;> omega)); (focus omega); (focus (go_simp; try exact rfl)); (focus (go_simp; try exact rfl)); (focus (intro o; go_simp)); intro cc cc fz hl; (with_reducible apply cel2 (b := w.heap.size + 1 + 1) hbb); (focus ((try simp) <;> omega)); (focus omega); (focus (go_simp; try exact rfl)); (focus (go_simp; try exact rfl)); (focus (intro o; go_simp)); intro cc cc fz hl
  go_region
  all_goals go_wp2_with fail
  all_goals refine bodyPost_ret (v := .tuple #[.agg #[.int .i64 (exLo px vx hx), .int .i64 (exLo py vy hy)], .agg #[.int .i64 (exHi px vx hx), .int .i64 (exHi py vy hy)]]) (by simp only [results, Try.results20]; go_simp) rfl ⟨?_, ?_⟩
  all_goals first | rfl | ((with_reducible (repeat (first | exact bR _ _ | refine bS ?_ ?_ _ | refine bA ?_ ?_ _ | refine bD ?_ | refine bT ?_ (by assumption) ?_ | refine bO (by assumption) ?_ ?_))) <;> (first | omega | (simp; done) | (simp <;> omega)))
set_option maxHeartbeats 400000 in
theorem atfun_in (p v g j : Int) (w : World) (A : Addr) (hc : w.cell? A = some (.int .i64 j)) (p1 : -8388608 ≤ p) (p2 : p ≤ 8388608) (v1 : -262144 ≤ v) (v2 : v ≤ 262144) (g1 : -4096 ≤ g) (g2 : g ≤ 4096) (j1 : 0 ≤ j) (j2 : j ≤ 16) :
    Calls Try.prog 65 #[.int .i64 p, .int .i64 v, .int .i64 g, .pointer (some A)] w fun e w' => e = .returned (.int .i64 (256 * p + 16 * j * v + j * j * g)) ∧ Below w.heap.size w w' := by
  obtain ⟨m1, m2⟩ := mul_bd (16 * j) v 256 262144 (by omega) (by omega) v1 v2
  obtain ⟨m3, m4⟩ := mul_bd j j 16 16 (by omega) (by omega) (by omega) (by omega)
  obtain ⟨m5, m6⟩ := mul_bd (j * j) g 256 4096 (by omega) (by omega) g1 g2
  go_enter Try.func65, Try.ntmps65; (try simp only [List.append_eq, List.cons_append, List.nil_append])
  go_wp2
  go_ret
  exact ⟨rfl, Below.refl _ _⟩
set_option maxHeartbeats 400000 in
theorem at_in (px py vx vy hx hy j : Int) (w : World) (h : validB px py vx vy hx hy = true) (j1 : 0 ≤ j) (j2 : j ≤ 16) :
    Calls Try.prog 22 #[.agg #[.int .i64 px, .int .i64 py, .int .i64 vx, .int .i64 vy, .int .i64 hx, .int .i64 hy], .int .i64 j] w fun e w' => e = .returned (.agg #[.int .i64 (256 * px + 16 * j * vx + j * j * hx), .int .i64 (256 * py + 16 * j * vy + j * j * hy)]) ∧ Below w.heap.size w w' := by
  obtain ⟨⟨p1, p2, p3, p4⟩, ⟨v1, v2, v3, v4⟩, h1, h2, h3, h4⟩ := valid_iff h
  go_enter Try.func22, Try.ntmps22; (try simp only [List.append_eq, List.cons_append, List.nil_append])
  go_wp2_with (go_at_call 17; refine (valid_any _ _ _ _ _ _ _).mono ?_; rintro e w1 ⟨rfl, hb1⟩; have hz1 : w.heap.size + 3 ≤ w1.heap.size := (by have h := hb1.size; (try simp at h); omega); have hbb := Below.mono hb1 (B' := w.heap.size + 3) (by (try simp) <;> omega); clear hb1; (with_reducible apply cel6 (b := w.heap.size) hbb); (focus ((try simp) <;> omega)); (focus omega); (focus (go_simp; try exact rfl)); (focus (go_simp; try exact rfl)); (focus (go_simp; try exact rfl)); (focus (go_simp; try exact rfl)); (focus (go_simp; try exact rfl)); (focus (go_simp; try exact rfl)); (focus (intro o; go_simp)); intro cc cc cc cc cc cc fz hl; (with_reducible apply cel1 (b := w.heap.size + 1) hbb); (focus ((try simp) <;> omega)); (focus omega); (focus (go_simp; try exact rfl)); (focus (intro o; go_simp)); intro cc fz hl; (with_reducible apply cel2 (b := w.heap.size + 1 + 1) hbb); (focus ((try simp) <;> omega)); (focus omega); (focus (go_simp; try exact rfl)); (focus (go_simp; try exact rfl)); (focus (intro o; go_simp)); intro cc cc fz hl)
  refine wp_region_warm_tail (Own (w.heap.size + 3) _) 23 (by kernel_rfl) (by kernel_rfl) (Own.refl (by (try simp) <;> omega)).drew ?_
  simp only [List.take_succ_cons, List.take_zero, List.drop_succ_cons, List.drop_zero]
  repeat (first | (refine wpWarm_step_off rfl (fun K hK => ?_); (go_simp; refine hK _ ?_; clear hK K)) | (apply wpWarm_step rfl; (focus (intro W' hS; have hcS := hS.cells.1; have hfS := hS.cells.2; go_simp; (first | done | exact rfl | exact ⟨rfl, hS⟩ | (go_at_call 65; exact (atfun_in _ _ _ _ _ _ ((hcS _ _ (by omega)).trans (by assumption)) (by omega) (by omega) (by omega) (by omega) (by omega) (by omega) (by omega) (by omega)).mono (fun _ _ h => ⟨h.1, hS.call h.2⟩)) | (go_simp; exact rfl)))); (intro K hK; go_simp; (try go_bits); refine hK _ ?_; clear hK K)) | (apply wpWarm_step_on rfl; (focus (intro W' hS; have hcS := hS.cells.1; have hfS := hS.cells.2; go_simp; (first | done | exact rfl | exact ⟨rfl, hS⟩ | (go_at_call 65; exact (atfun_in _ _ _ _ _ _ ((hcS _ _ (by omega)).trans (by assumption)) (by omega) (by omega) (by omega) (by omega) (by omega) (by omega) (by omega) (by omega)).mono (fun _ _ h => ⟨h.1, hS.call h.2⟩)) | (go_simp; exact rfl)))); (intro K hK; go_simp; (try go_bits); refine hK _ ?_; clear hK K)))
  refine wpWarm_nil ?_; intro w1 hOwn; have hz1 := hOwn.1; have hbb := hOwn.2; clear hOwn; (with_reducible apply cel6 (b := w.heap.size) hbb); (focus ((try simp) <;> omega)); (focus omega); (focus (go_simp; try exact rfl)); (focus (go_simp; try exact rfl)); (focus (go_simp; try exact rfl)); (focus (go_simp; try exact rfl)); (focus (go_simp; try exact rfl)); (focus (go_simp; try exact rfl)); (focus (intro o; go_simp)); intro cc cc cc cc cc cc fz hl; (with_reducible apply cel1 (b := w.heap.size + 1) hbb); (focus ((try simp) <;> omega)); (focus omega); (focus (go_simp; try exact rfl)); (focus (intro o; go_simp)); intro cc fz hl; (with_reducible apply cel2 (b := w.heap.size + 1 + 1) hbb); (focus ((try simp) <;> omega)); (focus omega); (focus (go_simp; try exact rfl)); (focus (go_simp; try exact rfl)); (focus (intro o; go_simp)); intro cc cc fz hl
  go_wp2_with fail
  refine bodyPost_ret (v := .agg #[.int .i64 (256 * px + 16 * j * vx + j * j * hx), .int .i64 (256 * py + 16 * j * vy + j * j * hy)]) (by simp only [results, Try.results22]; go_simp) rfl ⟨?_, ?_⟩
  · rfl
  · ((with_reducible (repeat (first | exact bR _ _ | refine bS ?_ ?_ _ | refine bA ?_ ?_ _ | refine bD ?_ | refine bT ?_ (by assumption) ?_ | refine bO (by assumption) ?_ ?_))) <;> (first | omega | (simp; done) | (simp <;> omega)))
end Go.Proofs.Ytkoejgpnlncgaaa
