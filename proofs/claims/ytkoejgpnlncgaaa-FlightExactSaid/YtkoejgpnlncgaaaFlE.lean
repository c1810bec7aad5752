/- Flight and its reference at any motion: End, At, Box, Energy, Polys. -/
import Derived.Test.YtkoejgpnlncgaaaPolys
import Derived.Test.YtkoejgpnlncgaaaPolysB
import Derived.Test.YtkoejgpnlncgaaaSpan
import Derived.Test.YtkoejgpnlncgaaaSafeW
import Derived.Test.YtkoejgpnlncgaaaVecE
import Derived.Test.YtkoejgpnlncgaaaDraw
namespace Go.Proofs.Ytkoejgpnlncgaaa
open Go Go.RowKit
set_option linter.unusedVariables false
/-- A number that stands only for a valid motion. -/
def vI (c : Bool) (z : Int) : Int := if c = true then z else 0
theorem vI_t (z : Int) : vI true z = z := rfl
theorem vI_f (z : Int) : vI false z = 0 := rfl
def D2 (W : World) (b : Nat) (u v : Value) : Prop := W.cell? ⟨b, 0, none⟩ = some u ∧ W.cell? ⟨b, 1, none⟩ = some v ∧ ∀ o, W.frozen? ⟨b, o, none⟩ = false
theorem D2.lt {W : World} {b : Nat} {u v : Value} (h : D2 W b u v) : b < W.heap.size := by simpa using World.block_lt_of_cell? W _ h.1
theorem D2.cl (b : Nat) (u v : Value) : Cl (fun W => D2 W b u v) := fun W W' h hb => by
  have hl := h.lt
  exact ⟨by rw [hb.cell (by simpa using hl)]; exact h.1, by rw [hb.cell (by simpa using hl)]; exact h.2.1, fun o => by rw [hb.frozen (by simpa using hl)]; exact h.2.2 o⟩
theorem D2.set {W : World} {b : Nat} {u v : Value} (h : D2 W b u v) (x y : Value) : D2 ((W.setCell ⟨b, 0, none⟩ x).setCell ⟨b, 1, none⟩ y) b x y := by
  have h1 : (W.setCell ⟨b, 0, none⟩ x).cell? ⟨b, 1, none⟩ = some v := by rw [World.cell?_setCell_other W _ _ _ (by simp)]; exact h.2.1
  refine ⟨?_, World.cell?_setCell_same _ _ _ h1, fun o => ?_⟩
  · rw [World.cell?_setCell_other _ _ _ _ (by simp)]
    exact World.cell?_setCell_same W _ _ h.1
  · rw [World.frozen?_setCell, World.frozen?_setCell]; exact h.2.2 o
theorem D2.far {W : World} {b b' : Nat} {u v : Value} (h : D2 W b u v) (hn : b ≠ b') (x y : Value) : D2 ((W.setCell ⟨b', 0, none⟩ x).setCell ⟨b', 1, none⟩ y) b u v := by
  refine ⟨?_, ?_, fun o => ?_⟩
  · rw [World.cell?_setCell_other _ _ _ _ (by simp <;> omega), World.cell?_setCell_other _ _ _ _ (by simp <;> omega)]; exact h.1
  · rw [World.cell?_setCell_other _ _ _ _ (by simp <;> omega), World.cell?_setCell_other _ _ _ _ (by simp <;> omega)]; exact h.2.1
  · rw [World.frozen?_setCell, World.frozen?_setCell]; exact h.2.2 o
set_option maxHeartbeats 1000000 in
theorem rend_in (px py vx vy hx hy : Int) (w : World) (h : validB px py vx vy hx hy = true) :
    Calls Try.prog 24 #[.agg #[.int .i64 px, .int .i64 py, .int .i64 vx, .int .i64 vy, .int .i64 hx, .int .i64 hy]] w fun e w' => e = .returned (.tuple #[.agg #[.int .i64 (px + vx + hx), .int .i64 (py + vy + hy)], .agg #[.int .i64 (vx + 2 * hx), .int .i64 (vy + 2 * hy)]]) ∧ Below w.heap.size w w' := by
  obtain ⟨⟨p1, p2, p3, p4⟩, ⟨v1, v2, v3, v4⟩, h1, h2, h3, h4⟩ := valid_iff h
  go_enter Try.func24, Try.ntmps24; (try simp only [List.append_eq, List.cons_append, List.nil_append])
  go_wp2_with fail
  -- own blocks: w.heap.size:6, w.heap.size + 1:2, w.heap.size + 1 + 1:2
  (go_at_call 15; refine (rvalid_any _ _ _ _ _ _ _).mono ?_; rintro e w1 ⟨rfl, hb_w1⟩; have hz_w1 := hb_w1.size; (try simp at hz_w1); (with_reducible apply cel6 (b := w.heap.size) hb_w1); (focus ((try simp) <;> omega)); (focus omega); (focus (go_simp; try exact rfl)); (focus (go_simp; try exact rfl)); (focus (go_simp; try exact rfl)); (focus (go_simp; try exact rfl)); (focus (go_simp; try exact rfl)); (focus (go_simp; try exact rfl)); (focus (intro o; go_simp)); intro cc cc cc cc cc cc fz hl; (with_reducible apply cel2 (b := w.heap.size + 1) hb_w1); (focus ((try simp) <;> omega)); (focus omega); (focus (go_simp; try exact rfl)); (focus (go_simp; try exact rfl)); (focus (intro o; go_simp)); intro cc cc fz hl; (with_reducible apply cel2 (b := w.heap.size + 1 + 1) hb_w1); (focus ((try simp) <;> omega)); (focus omega); (focus (go_simp; try exact rfl)); (focus (go_simp; try exact rfl)); (focus (intro o; go_simp)); intro cc cc fz hl)
  go_wp2_with fail
  (refine pin_wp (N := _) (Nat.le_refl _) (fun w2 hb_w2 hz_w2 => ?_); (try simp at hz_w2); (with_reducible apply cel6 (b := w.heap.size) hb_w2); (focus ((try simp) <;> omega)); (focus omega); (focus (go_simp; try exact rfl)); (focus (go_simp; try exact rfl)); (focus (go_simp; try exact rfl)); (focus (go_simp; try exact rfl)); (focus (go_simp; try exact rfl)); (focus (go_simp; try exact rfl)); (focus (intro o; go_simp)); intro cc cc cc cc cc cc fz hl; (with_reducible apply cel2 (b := w.heap.size + 1) hb_w2); (focus ((try simp) <;> omega)); (focus omega); (focus (go_simp; try exact rfl)); (focus (go_simp; try exact rfl)); (focus (intro o; go_simp)); intro cc cc fz hl; (with_reducible apply cel2 (b := w.heap.size + 1 + 1) hb_w2); (focus ((try simp) <;> omega)); (focus omega); (focus (go_simp; try exact rfl)); (focus (go_simp; try exact rfl)); (focus (intro o; go_simp)); intro cc cc fz hl)
  have HB2 := Lib.hid (show Below w.heap.size w w2 by ((with_reducible (repeat (first | exact bR _ _ | refine bS ?_ ?_ _ | refine bA ?_ ?_ _ | refine bD ?_ | refine bT ?_ (by assumption) ?_ | refine bO (by assumption) ?_ ?_))) <;> (first | omega | (simp; done) | (simp <;> omega))))
  clear hb_w2 hb_w1
  refine wp_region_float (w.heap.size + 1) 42 (by omega) (fun W => D2 W (w.heap.size + 1) (.int .i64 0) (.int .i64 0) ∧ D2 W (w.heap.size + 1 + 1) (.int .i64 0) (.int .i64 0)) (⟨⟨by assumption, by assumption, by assumption⟩, ⟨by assumption, by assumption, by assumption⟩⟩) ((D2.cl _ _ _).and (D2.cl _ _ _)) (by kernel_rfl) (by simp) ?_
  refine wpI_start [0, 1, 2, 3, 4, 5, 6, 7, 8, 9, 10, 11, 12, 13, 14, 15, 16, 17, 18, 19, 20, 21, 22, 23, 24, 25, 26, 27, 28, 29, 30, 31, 32, 33, 34, 35, 36, 37, 38, 39] ?_; (iterate 40 (first | (refine wpI_off rfl (by kernel_rfl) rfl (fun K hK => ?_); go_simp; refine hK _ ?_; clear hK K) | ((first | apply wpI_step rfl (by kernel_rfl) rfl | apply wpI_on rfl (by kernel_rfl) rfl); (focus (intro W' hS; have hcS := hS.cells.1; have hfS := hS.cells.2; go_simp; (first | done | exact rfl | exact ⟨rfl, Below.refl _ _⟩ | (go_simp; first | done | exact rfl | exact ⟨rfl, Below.refl _ _⟩)))); intro K hK; go_simp; (try go_bits); refine hK _ ?_; clear hK K))); refine wpI_nil ?_
  apply wpF_wild (i := 40) rfl (by kernel_rfl) (by kernel_rfl); intro W hF hS; have hcS := hS.1.cells.1; have hfS := hS.1.cells.2; have k0 := hF.1.1; have k1 := hF.1.2.1; have k2 := hF.1.2.2; have k3 := hF.1.lt; go_simp
  refine WPost.mk _ (fun W' => D2 W' (w.heap.size + 1) (.int .i64 (px + vx + hx)) (.int .i64 (py + vy + hy)) ∧ D2 W' (w.heap.size + 1 + 1) (.int .i64 0) (.int .i64 0)) [] ⟨hF.1.set _ _, hF.2.far (by omega) _ _⟩ ((D2.cl _ _ _).and (D2.cl _ _ _)) ⟨(hS.1.setCell (by simp) _).setCell (by simp) _, fun p hp => by cases hp⟩ ?_
  clear k0 k1 k2 k3 hcS hfS hS hF
  intro K hK; go_simp; refine hK _ ?_; clear hK K
  apply wpF_wild (i := 41) rfl (by kernel_rfl) (by kernel_rfl); intro W hF hS; have hcS := hS.1.cells.1; have hfS := hS.1.cells.2; have k0 := hF.2.1; have k1 := hF.2.2.1; have k2 := hF.2.2.2; have k3 := hF.2.lt; go_simp
  refine WPost.mk _ (fun W' => D2 W' (w.heap.size + 1) (.int .i64 (px + vx + hx)) (.int .i64 (py + vy + hy)) ∧ D2 W' (w.heap.size + 1 + 1) (.int .i64 (vx + 2 * hx)) (.int .i64 (vy + 2 * hy))) [] ⟨hF.1.far (by omega) _ _, hF.2.set _ _⟩ ((D2.cl _ _ _).and (D2.cl _ _ _)) ⟨(hS.1.setCell (by simp <;> omega) _).setCell (by simp <;> omega) _, fun p hp => by cases hp⟩ ?_
  clear k0 k1 k2 k3 hcS hfS hS hF
  intro K hK; go_simp; refine hK _ ?_; clear hK K
  refine wpF_done (by kernel_rfl) ?_
  intro w3 hF3 hSG
  have HB3 := Lib.hid (HB2.out.trans (hSG.1.2.mono (by omega)))
  have r0 := hF3.1.1
  have r1 := hF3.1.2.1
  have r2 := hF3.2.1
  have r3 := hF3.2.2.1
  have r4 := hF3.1.lt
  have r5 := hF3.2.lt
  clear hF3 hSG
  (try simp only [List.drop_succ_cons, List.drop_zero])
  go_wp2_with fail
  refine bodyPost_ret (v := .tuple #[.agg #[.int .i64 (px + vx + hx), .int .i64 (py + vy + hy)], .agg #[.int .i64 (vx + 2 * hx), .int .i64 (vy + 2 * hy)]]) (by simp only [results, Try.results24]; go_simp) rfl ⟨?_, ?_⟩
  · rfl
  · exact HB3.out
theorem end_any (px py vx vy hx hy : Int) (w : World) :
    Calls Try.prog 14 #[.agg #[.int .i64 px, .int .i64 py, .int .i64 vx, .int .i64 vy, .int .i64 hx, .int .i64 hy]] w fun e w' => e = .returned (.tuple #[.agg #[.int .i64 (vI (validB px py vx vy hx hy) (px + vx + hx)), .int .i64 (vI (validB px py vx vy hx hy) (py + vy + hy))], .agg #[.int .i64 (vI (validB px py vx vy hx hy) (vx + 2 * hx)), .int .i64 (vI (validB px py vx vy hx hy) (vy + 2 * hy))]]) ∧ Below w.heap.size w w' := by
  cases hv : validB px py vx vy hx hy
  · exact end_bad px py vx vy hx hy w hv
  · have := end_in px py vx vy hx hy w hv
    rw [Int.mul_comm hx 2, Int.mul_comm hy 2] at this
    exact this
theorem rend_any (px py vx vy hx hy : Int) (w : World) :
    Calls Try.prog 24 #[.agg #[.int .i64 px, .int .i64 py, .int .i64 vx, .int .i64 vy, .int .i64 hx, .int .i64 hy]] w fun e w' => e = .returned (.tuple #[.agg #[.int .i64 (vI (validB px py vx vy hx hy) (px + vx + hx)), .int .i64 (vI (validB px py vx vy hx hy) (py + vy + hy))], .agg #[.int .i64 (vI (validB px py vx vy hx hy) (vx + 2 * hx)), .int .i64 (vI (validB px py vx vy hx hy) (vy + 2 * hy))]]) ∧ Below w.heap.size w w' := by
  cases hv : validB px py vx vy hx hy
  · exact rend_bad px py vx vy hx hy w hv
  · exact rend_in px py vx vy hx hy w hv
def atB (c : Bool) (j : Int) : Bool := c && decide (0 ≤ j ∧ j ≤ 16)
set_option maxHeartbeats 1000000 in
theorem rat_in (px py vx vy hx hy j : Int) (w : World) (h : validB px py vx vy hx hy = true) (j1 : 0 ≤ j) (j2 : j ≤ 16) :
    Calls Try.prog 28 #[.agg #[.int .i64 px, .int .i64 py, .int .i64 vx, .int .i64 vy, .int .i64 hx, .int .i64 hy], .int .i64 j] w fun e w' => e = .returned (.agg #[.int .i64 (256 * px + 16 * j * vx + j * j * hx), .int .i64 (256 * py + 16 * j * vy + j * j * hy)]) ∧ Below w.heap.size w w' := by
  obtain ⟨⟨p1, p2, p3, p4⟩, ⟨v1, v2, v3, v4⟩, h1, h2, h3, h4⟩ := valid_iff h
  obtain ⟨m1, m2⟩ := mul_bd (16 * j) vx 256 262144 (by omega) (by omega) v1 v2
  obtain ⟨n1, n2⟩ := mul_bd (16 * j) vy 256 262144 (by omega) (by omega) v3 v4
  obtain ⟨m3, m4⟩ := mul_bd j j 16 16 (by omega) (by omega) (by omega) (by omega)
  obtain ⟨m5, m6⟩ := mul_bd (j * j) hx 256 4096 (by omega) (by omega) h1 h2
  obtain ⟨n5, n6⟩ := mul_bd (j * j) hy 256 4096 (by omega) (by omega) h3 h4
  go_enter Try.func28, Try.ntmps28; (try simp only [List.append_eq, List.cons_append, List.nil_append])
  go_wp2_with (first | (go_at_call 15; refine (rvalid_any _ _ _ _ _ _ _).mono ?_; rintro e w1 ⟨rfl, hb1⟩; have hz1 : w.heap.size + 2 ≤ w1.heap.size := (by have h := hb1.size; (try simp at h); omega); have hbb := Below.mono hb1 (B' := w.heap.size + 2) (by (try simp) <;> omega); clear hb1; (with_reducible apply cel6 (b := w.heap.size) hbb); (focus ((try simp) <;> omega)); (focus omega); (focus (go_simp; try exact rfl)); (focus (go_simp; try exact rfl)); (focus (go_simp; try exact rfl)); (focus (go_simp; try exact rfl)); (focus (go_simp; try exact rfl)); (focus (go_simp; try exact rfl)); (focus (intro o; go_simp)); intro cc cc cc cc cc cc fz hl; (with_reducible apply cel2 (b := w.heap.size + 1) hbb); (focus ((try simp) <;> omega)); (focus omega); (focus (go_simp; try exact rfl)); (focus (go_simp; try exact rfl)); (focus (intro o; go_simp)); intro cc cc fz hl))
  refine bodyPost_ret (v := .agg #[.int .i64 (256 * px + 16 * j * vx + j * j * hx), .int .i64 (256 * py + 16 * j * vy + j * j * hy)]) (by simp only [results, Try.results28]; go_simp) rfl ⟨?_, ?_⟩
  · rfl
  · ((with_reducible (repeat (first | exact bR _ _ | refine bS ?_ ?_ _ | refine bA ?_ ?_ _ | refine bD ?_ | refine bT ?_ (by assumption) ?_ | refine bO (by assumption) ?_ ?_))) <;> (first | omega | (simp; done) | (simp <;> omega)))
set_option maxHeartbeats 1000000 in
theorem at_bad (px py vx vy hx hy j : Int) (w : World) (h : atB (validB px py vx vy hx hy) j = false) :
    Calls Try.prog 22 #[.agg #[.int .i64 px, .int .i64 py, .int .i64 vx, .int .i64 vy, .int .i64 hx, .int .i64 hy], .int .i64 j] w fun e w' => e = .returned (.agg #[.int .i64 0, .int .i64 0]) ∧ Below w.heap.size w w' := by
  cases hv : validB px py vx vy hx hy
  · clear h
    go_enter Try.func22, Try.ntmps22; (try simp only [List.append_eq, List.cons_append, List.nil_append])
    go_wp2_with (first | (go_at_call 17; refine (valid_any _ _ _ _ _ _ _).mono ?_; rintro e w1 ⟨rfl, hb1⟩; have hz1 : w.heap.size + 3 ≤ w1.heap.size := (by have h := hb1.size; (try simp at h); omega); have hbb := Below.mono hb1 (B' := w.heap.size + 3) (by (try simp) <;> omega); clear hb1; (with_reducible apply cel6 (b := w.heap.size) hbb); (focus ((try simp) <;> omega)); (focus omega); (focus (go_simp; try exact rfl)); (focus (go_simp; try exact rfl)); (focus (go_simp; try exact rfl)); (focus (go_simp; try exact rfl)); (focus (go_simp; try exact rfl)); (focus (go_simp; try exact rfl)); (focus (intro o; go_simp)); intro cc cc cc cc cc cc fz hl; (with_reducible apply cel1 (b := w.heap.size + 1) hbb); (focus ((try simp) <;> omega)); (focus omega); (focus (go_simp; try exact rfl)); (focus (intro o; go_simp)); intro cc fz hl; (with_reducible apply cel2 (b := w.heap.size + 1 + 1) hbb); (focus ((try simp) <;> omega)); (focus omega); (focus (go_simp; try exact rfl)); (focus (go_simp; try exact rfl)); (focus (intro o; go_simp)); intro cc cc fz hl))
    all_goals
      refine bodyPost_ret (v := .agg #[.int .i64 0, .int .i64 0]) (by simp only [results, Try.results22]; go_simp) rfl ⟨?_, ?_⟩
      · rfl
      · ((with_reducible (repeat (first | exact bR _ _ | refine bS ?_ ?_ _ | refine bA ?_ ?_ _ | refine bD ?_ | refine bT ?_ (by assumption) ?_ | refine bO (by assumption) ?_ ?_))) <;> (first | omega | (simp; done) | (simp <;> omega)))
  · have hj : j < 0 ∨ 16 < j := by
      rw [hv] at h
      unfold atB at h
      rw [Bool.true_and, decide_eq_false_iff_not] at h
      omega
    clear h
    rcases hj with hj | hj
    · go_enter Try.func22, Try.ntmps22; (try simp only [List.append_eq, List.cons_append, List.nil_append])
      go_wp2_with (first | (go_at_call 17; refine (valid_any _ _ _ _ _ _ _).mono ?_; rintro e w1 ⟨rfl, hb1⟩; have hz1 : w.heap.size + 3 ≤ w1.heap.size := (by have h := hb1.size; (try simp at h); omega); have hbb := Below.mono hb1 (B' := w.heap.size + 3) (by (try simp) <;> omega); clear hb1; (with_reducible apply cel6 (b := w.heap.size) hbb); (focus ((try simp) <;> omega)); (focus omega); (focus (go_simp; try exact rfl)); (focus (go_simp; try exact rfl)); (focus (go_simp; try exact rfl)); (focus (go_simp; try exact rfl)); (focus (go_simp; try exact rfl)); (focus (go_simp; try exact rfl)); (focus (intro o; go_simp)); intro cc cc cc cc cc cc fz hl; (with_reducible apply cel1 (b := w.heap.size + 1) hbb); (focus ((try simp) <;> omega)); (focus omega); (focus (go_simp; try exact rfl)); (focus (intro o; go_simp)); intro cc fz hl; (with_reducible apply cel2 (b := w.heap.size + 1 + 1) hbb); (focus ((try simp) <;> omega)); (focus omega); (focus (go_simp; try exact rfl)); (focus (go_simp; try exact rfl)); (focus (intro o; go_simp)); intro cc cc fz hl))
      all_goals
        refine bodyPost_ret (v := .agg #[.int .i64 0, .int .i64 0]) (by simp only [results, Try.results22]; go_simp) rfl ⟨?_, ?_⟩
        · rfl
        · ((with_reducible (repeat (first | exact bR _ _ | refine bS ?_ ?_ _ | refine bA ?_ ?_ _ | refine bD ?_ | refine bT ?_ (by assumption) ?_ | refine bO (by assumption) ?_ ?_))) <;> (first | omega | (simp; done) | (simp <;> omega)))
    · go_enter Try.func22, Try.ntmps22; (try simp only [List.append_eq, List.cons_append, List.nil_append])
      go_wp2_with (first | (go_at_call 17; refine (valid_any _ _ _ _ _ _ _).mono ?_; rintro e w1 ⟨rfl, hb1⟩; have hz1 : w.heap.size + 3 ≤ w1.heap.size := (by have h := hb1.size; (try simp at h); omega); have hbb := Below.mono hb1 (B' := w.heap.size + 3) (by (try simp) <;> omega); clear hb1; (with_reducible apply cel6 (b := w.heap.size) hbb); (focus ((try simp) <;> omega)); (focus omega); (focus (go_simp; try exact rfl)); (focus (go_simp; try exact rfl)); (focus (go_simp; try exact rfl)); (focus (go_simp; try exact rfl)); (focus (go_simp; try exact rfl)); (focus (go_simp; try exact rfl)); (focus (intro o; go_simp)); intro cc cc cc cc cc cc fz hl; (with_reducible apply cel1 (b := w.heap.size + 1) hbb); (focus ((try simp) <;> omega)); (focus omega); (focus (go_simp; try exact rfl)); (focus (intro o; go_simp)); intro cc fz hl; (with_reducible apply cel2 (b := w.heap.size + 1 + 1) hbb); (focus ((try simp) <;> omega)); (focus omega); (focus (go_simp; try exact rfl)); (focus (go_simp; try exact rfl)); (focus (intro o; go_simp)); intro cc cc fz hl))
      all_goals
        refine bodyPost_ret (v := .agg #[.int .i64 0, .int .i64 0]) (by simp only [results, Try.results22]; go_simp) rfl ⟨?_, ?_⟩
        · rfl
        · ((with_reducible (repeat (first | exact bR _ _ | refine bS ?_ ?_ _ | refine bA ?_ ?_ _ | refine bD ?_ | refine bT ?_ (by assumption) ?_ | refine bO (by assumption) ?_ ?_))) <;> (first | omega | (simp; done) | (simp <;> omega)))
set_option maxHeartbeats 1000000 in
theorem rat_bad (px py vx vy hx hy j : Int) (w : World) (h : atB (validB px py vx vy hx hy) j = false) :
    Calls Try.prog 28 #[.agg #[.int .i64 px, .int .i64 py, .int .i64 vx, .int .i64 vy, .int .i64 hx, .int .i64 hy], .int .i64 j] w fun e w' => e = .returned (.agg #[.int .i64 0, .int .i64 0]) ∧ Below w.heap.size w w' := by
  cases hv : validB px py vx vy hx hy
  · clear h
    go_enter Try.func28, Try.ntmps28; (try simp only [List.append_eq, List.cons_append, List.nil_append])
    go_wp2_with (first | (go_at_call 15; refine (rvalid_any _ _ _ _ _ _ _).mono ?_; rintro e w1 ⟨rfl, hb1⟩; have hz1 : w.heap.size + 2 ≤ w1.heap.size := (by have h := hb1.size; (try simp at h); omega); have hbb := Below.mono hb1 (B' := w.heap.size + 2) (by (try simp) <;> omega); clear hb1; (with_reducible apply cel6 (b := w.heap.size) hbb); (focus ((try simp) <;> omega)); (focus omega); (focus (go_simp; try exact rfl)); (focus (go_simp; try exact rfl)); (focus (go_simp; try exact rfl)); (focus (go_simp; try exact rfl)); (focus (go_simp; try exact rfl)); (focus (go_simp; try exact rfl)); (focus (intro o; go_simp)); intro cc cc cc cc cc cc fz hl; (with_reducible apply cel2 (b := w.heap.size + 1) hbb); (focus ((try simp) <;> omega)); (focus omega); (focus (go_simp; try exact rfl)); (focus (go_simp; try exact rfl)); (focus (intro o; go_simp)); intro cc cc fz hl))
    all_goals
      refine bodyPost_ret (v := .agg #[.int .i64 0, .int .i64 0]) (by simp only [results, Try.results28]; go_simp) rfl ⟨?_, ?_⟩
      · rfl
      · ((with_reducible (repeat (first | exact bR _ _ | refine bS ?_ ?_ _ | refine bA ?_ ?_ _ | refine bD ?_ | refine bT ?_ (by assumption) ?_ | refine bO (by assumption) ?_ ?_))) <;> (first | omega | (simp; done) | (simp <;> omega)))
  · have hj : j < 0 ∨ 16 < j := by
      rw [hv] at h
      unfold atB at h
      rw [Bool.true_and, decide_eq_false_iff_not] at h
      omega
    clear h
    rcases hj with hj | hj
    · go_enter Try.func28, Try.ntmps28; (try simp only [List.append_eq, List.cons_append, List.nil_append])
      go_wp2_with (first | (go_at_call 15; refine (rvalid_any _ _ _ _ _ _ _).mono ?_; rintro e w1 ⟨rfl, hb1⟩; have hz1 : w.heap.size + 2 ≤ w1.heap.size := (by have h := hb1.size; (try simp at h); omega); have hbb := Below.mono hb1 (B' := w.heap.size + 2) (by (try simp) <;> omega); clear hb1; (with_reducible apply cel6 (b := w.heap.size) hbb); (focus ((try simp) <;> omega)); (focus omega); (focus (go_simp; try exact rfl)); (focus (go_simp; try exact rfl)); (focus (go_simp; try exact rfl)); (focus (go_simp; try exact rfl)); (focus (go_simp; try exact rfl)); (focus (go_simp; try exact rfl)); (focus (intro o; go_simp)); intro cc cc cc cc cc cc fz hl; (with_reducible apply cel2 (b := w.heap.size + 1) hbb); (focus ((try simp) <;> omega)); (focus omega); (focus (go_simp; try exact rfl)); (focus (go_simp; try exact rfl)); (focus (intro o; go_simp)); intro cc cc fz hl))
      all_goals
        refine bodyPost_ret (v := .agg #[.int .i64 0, .int .i64 0]) (by simp only [results, Try.results28]; go_simp) rfl ⟨?_, ?_⟩
        · rfl
        · ((with_reducible (repeat (first | exact bR _ _ | refine bS ?_ ?_ _ | refine bA ?_ ?_ _ | refine bD ?_ | refine bT ?_ (by assumption) ?_ | refine bO (by assumption) ?_ ?_))) <;> (first | omega | (simp; done) | (simp <;> omega)))
    · go_enter Try.func28, Try.ntmps28; (try simp only [List.append_eq, List.cons_append, List.nil_append])
      go_wp2_with (first | (go_at_call 15; refine (rvalid_any _ _ _ _ _ _ _).mono ?_; rintro e w1 ⟨rfl, hb1⟩; have hz1 : w.heap.size + 2 ≤ w1.heap.size := (by have h := hb1.size; (try simp at h); omega); have hbb := Below.mono hb1 (B' := w.heap.size + 2) (by (try simp) <;> omega); clear hb1; (with_reducible apply cel6 (b := w.heap.size) hbb); (focus ((try simp) <;> omega)); (focus omega); (focus (go_simp; try exact rfl)); (focus (go_simp; try exact rfl)); (focus (go_simp; try exact rfl)); (focus (go_simp; try exact rfl)); (focus (go_simp; try exact rfl)); (focus (go_simp; try exact rfl)); (focus (intro o; go_simp)); intro cc cc cc cc cc cc fz hl; (with_reducible apply cel2 (b := w.heap.size + 1) hbb); (focus ((try simp) <;> omega)); (focus omega); (focus (go_simp; try exact rfl)); (focus (go_simp; try exact rfl)); (focus (intro o; go_simp)); intro cc cc fz hl))
      all_goals
        refine bodyPost_ret (v := .agg #[.int .i64 0, .int .i64 0]) (by simp only [results, Try.results28]; go_simp) rfl ⟨?_, ?_⟩
        · rfl
        · ((with_reducible (repeat (first | exact bR _ _ | refine bS ?_ ?_ _ | refine bA ?_ ?_ _ | refine bD ?_ | refine bT ?_ (by assumption) ?_ | refine bO (by assumption) ?_ ?_))) <;> (first | omega | (simp; done) | (simp <;> omega)))
theorem atB_t {c : Bool} {j : Int} (h : atB c j = true) : c = true ∧ 0 ≤ j ∧ j ≤ 16 := by
  unfold atB at h; simpa using h
theorem at_any (px py vx vy hx hy j : Int) (w : World) :
    Calls Try.prog 22 #[.agg #[.int .i64 px, .int .i64 py, .int .i64 vx, .int .i64 vy, .int .i64 hx, .int .i64 hy], .int .i64 j] w fun e w' => e = .returned (.agg #[.int .i64 (vI (atB (validB px py vx vy hx hy) j) (256 * px + 16 * j * vx + j * j * hx)), .int .i64 (vI (atB (validB px py vx vy hx hy) j) (256 * py + 16 * j * vy + j * j * hy))]) ∧ Below w.heap.size w w' := by
  cases hv : atB (validB px py vx vy hx hy) j
  · exact at_bad px py vx vy hx hy j w hv
  · obtain ⟨h1, h2, h3⟩ := atB_t hv
    exact at_in px py vx vy hx hy j w h1 h2 h3
theorem rat_any (px py vx vy hx hy j : Int) (w : World) :
    Calls Try.prog 28 #[.agg #[.int .i64 px, .int .i64 py, .int .i64 vx, .int .i64 vy, .int .i64 hx, .int .i64 hy], .int .i64 j] w fun e w' => e = .returned (.agg #[.int .i64 (vI (atB (validB px py vx vy hx hy) j) (256 * px + 16 * j * vx + j * j * hx)), .int .i64 (vI (atB (validB px py vx vy hx hy) j) (256 * py + 16 * j * vy + j * j * hy))]) ∧ Below w.heap.size w w' := by
  cases hv : atB (validB px py vx vy hx hy) j
  · exact rat_bad px py vx vy hx hy j w hv
  · obtain ⟨h1, h2, h3⟩ := atB_t hv
    exact rat_in px py vx vy hx hy j w h1 h2 h3
set_option maxHeartbeats 1000000 in
theorem rbox_in (px py vx vy hx hy : Int) (w : World) (h : validB px py vx vy hx hy = true) :
    Calls Try.prog 26 #[.agg #[.int .i64 px, .int .i64 py, .int .i64 vx, .int .i64 vy, .int .i64 hx, .int .i64 hy]] w fun e w' => e = .returned (.tuple #[.agg #[.int .i64 (exLo px vx hx), .int .i64 (exLo py vy hy)], .agg #[.int .i64 (exHi px vx hx), .int .i64 (exHi py vy hy)]]) ∧ Below w.heap.size w w' := by
  obtain ⟨⟨p1, p2, p3, p4⟩, ⟨v1, v2, v3, v4⟩, h1, h2, h3, h4⟩ := valid_iff h
  go_enter Try.func26, Try.ntmps26; (try simp only [List.append_eq, List.cons_append, List.nil_append])
  go_wp2_with fail
  -- own blocks: w.heap.size:6, w.heap.size + 1:2, w.heap.size + 1 + 1:2
  (go_at_call 15; refine (rvalid_any _ _ _ _ _ _ _).mono ?_; rintro e w1 ⟨rfl, hb_w1⟩; have hz_w1 := hb_w1.size; (try simp at hz_w1); (with_reducible apply cel6 (b := w.heap.size) hb_w1); (focus ((try simp) <;> omega)); (focus omega); (focus (go_simp; try exact rfl)); (focus (go_simp; try exact rfl)); (focus (go_simp; try exact rfl)); (focus (go_simp; try exact rfl)); (focus (go_simp; try exact rfl)); (focus (go_simp; try exact rfl)); (focus (intro o; go_simp)); intro cc cc cc cc cc cc fz hl; (with_reducible apply cel2 (b := w.heap.size + 1) hb_w1); (focus ((try simp) <;> omega)); (focus omega); (focus (go_simp; try exact rfl)); (focus (go_simp; try exact rfl)); (focus (intro o; go_simp)); intro cc cc fz hl; (with_reducible apply cel2 (b := w.heap.size + 1 + 1) hb_w1); (focus ((try simp) <;> omega)); (focus omega); (focus (go_simp; try exact rfl)); (focus (go_simp; try exact rfl)); (focus (intro o; go_simp)); intro cc cc fz hl)
  go_wp2_with fail
  (go_at_call 71; refine (rspan_any _ _ _ _ (by omega) (by omega) (by omega) (by omega) (by omega) (by omega)).mono ?_; rintro e w2 ⟨rfl, hb_w2⟩; have hz_w2 := hb_w2.size; (try simp at hz_w2); (with_reducible apply cel6 (b := w.heap.size) hb_w2); (focus ((try simp) <;> omega)); (focus omega); (focus (go_simp; try exact rfl)); (focus (go_simp; try exact rfl)); (focus (go_simp; try exact rfl)); (focus (go_simp; try exact rfl)); (focus (go_simp; try exact rfl)); (focus (go_simp; try exact rfl)); (focus (intro o; go_simp)); intro cc cc cc cc cc cc fz hl; (with_reducible apply cel2 (b := w.heap.size + 1) hb_w2); (focus ((try simp) <;> omega)); (focus omega); (focus (go_simp; try exact rfl)); (focus (go_simp; try exact rfl)); (focus (intro o; go_simp)); intro cc cc fz hl; (with_reducible apply cel2 (b := w.heap.size + 1 + 1) hb_w2); (focus ((try simp) <;> omega)); (focus omega); (focus (go_simp; try exact rfl)); (focus (go_simp; try exact rfl)); (focus (intro o; go_simp)); intro cc cc fz hl)
  go_wp2_with fail
  (go_at_call 71; refine (rspan_any _ _ _ _ (by omega) (by omega) (by omega) (by omega) (by omega) (by omega)).mono ?_; rintro e w3 ⟨rfl, hb_w3⟩; have hz_w3 := hb_w3.size; (try simp at hz_w3); (with_reducible apply cel6 (b := w.heap.size) hb_w3); (focus ((try simp) <;> omega)); (focus omega); (focus (go_simp; try exact rfl)); (focus (go_simp; try exact rfl)); (focus (go_simp; try exact rfl)); (focus (go_simp; try exact rfl)); (focus (go_simp; try exact rfl)); (focus (go_simp; try exact rfl)); (focus (intro o; go_simp)); intro cc cc cc cc cc cc fz hl; (with_reducible apply cel2 (b := w.heap.size + 1) hb_w3); (focus ((try simp) <;> omega)); (focus omega); (focus (go_simp; try exact rfl)); (focus (go_simp; try exact rfl)); (focus (intro o; go_simp)); intro cc cc fz hl; (with_reducible apply cel2 (b := w.heap.size + 1 + 1) hb_w3); (focus ((try simp) <;> omega)); (focus omega); (focus (go_simp; try exact rfl)); (focus (go_simp; try exact rfl)); (focus (intro o; go_simp)); intro cc cc fz hl)
  go_wp2_with fail
  refine bodyPost_ret (v := .tuple #[.agg #[.int .i64 (exLo px vx hx), .int .i64 (exLo py vy hy)], .agg #[.int .i64 (exHi px vx hx), .int .i64 (exHi py vy hy)]]) (by simp only [results, Try.results26]; go_simp) rfl ⟨?_, ?_⟩
  · rfl
  · ((with_reducible (repeat (first | exact bR _ _ | refine bS ?_ ?_ _ | refine bA ?_ ?_ _ | refine bD ?_ | refine bT ?_ (by assumption) ?_ | refine bO (by assumption) ?_ ?_))) <;> (first | omega | (simp; done) | (simp <;> omega)))
theorem box_any (px py vx vy hx hy : Int) (w : World) :
    Calls Try.prog 20 #[.agg #[.int .i64 px, .int .i64 py, .int .i64 vx, .int .i64 vy, .int .i64 hx, .int .i64 hy]] w fun e w' => e = .returned (.tuple #[.agg #[.int .i64 (vI (validB px py vx vy hx hy) (exLo px vx hx)), .int .i64 (vI (validB px py vx vy hx hy) (exLo py vy hy))], .agg #[.int .i64 (vI (validB px py vx vy hx hy) (exHi px vx hx)), .int .i64 (vI (validB px py vx vy hx hy) (exHi py vy hy))]]) ∧ Below w.heap.size w w' := by
  cases hv : validB px py vx vy hx hy
  · exact box_bad px py vx vy hx hy w hv
  · exact box_in px py vx vy hx hy w hv
theorem rbox_any (px py vx vy hx hy : Int) (w : World) :
    Calls Try.prog 26 #[.agg #[.int .i64 px, .int .i64 py, .int .i64 vx, .int .i64 vy, .int .i64 hx, .int .i64 hy]] w fun e w' => e = .returned (.tuple #[.agg #[.int .i64 (vI (validB px py vx vy hx hy) (exLo px vx hx)), .int .i64 (vI (validB px py vx vy hx hy) (exLo py vy hy))], .agg #[.int .i64 (vI (validB px py vx vy hx hy) (exHi px vx hx)), .int .i64 (vI (validB px py vx vy hx hy) (exHi py vy hy))]]) ∧ Below w.heap.size w w' := by
  cases hv : validB px py vx vy hx hy
  · exact rbox_bad px py vx vy hx hy w hv
  · exact rbox_in px py vx vy hx hy w hv
theorem energy_zero (a b : Int) (w : World) (h1 : smallB a b = false) :
    Calls Try.prog 18 #[.agg #[.int .i64 a, .int .i64 b]] w fun e w' => e = .returned (.int .i64 0) ∧ Below w.heap.size w w' := by
  go_enter Try.func18, Try.ntmps18; (try simp only [List.append_eq, List.cons_append, List.nil_append])
  go_wp2_with (first | (go_at_call 37; refine (dot_bad _ _ _ _ _ (by rw [h1]; rfl)).mono ?_; rintro e w1 ⟨rfl, hb1⟩; have hz1 : w.heap.size + 1 ≤ w1.heap.size := (by have h := hb1.size; (try simp at h); omega); have hbb := Below.mono hb1 (B' := w.heap.size + 1) (by (try simp) <;> omega); clear hb1; (with_reducible apply cel2 (b := w.heap.size) hbb); (focus ((try simp) <;> omega)); (focus omega); (focus (go_simp; try exact rfl)); (focus (go_simp; try exact rfl)); (focus (intro o; go_simp)); intro cc cc fz hl))
  go_ret
  refine ⟨rfl, ?_⟩
  ((with_reducible (repeat (first | exact bR _ _ | refine bS ?_ ?_ _ | refine bA ?_ ?_ _ | refine bD ?_ | refine bT ?_ (by assumption) ?_ | refine bO (by assumption) ?_ ?_))) <;> (first | omega | (simp; done) | (simp <;> omega)))
theorem energy_any (a b : Int) (w : World) :
    Calls Try.prog 18 #[.agg #[.int .i64 a, .int .i64 b]] w fun e w' => e = .returned (.int .i64 (dotR a b a b)) ∧ Below w.heap.size w w' := by
  cases hv : smallB a b
  · have e : dotR a b a b = 0 := if_neg (by rw [hv]; simp)
    rw [e]
    exact energy_zero a b w hv
  · have e : dotR a b a b = a * a + b * b := if_pos ⟨hv, hv⟩
    rw [e]
    exact energy_in a b w hv
theorem renergy_any (a b : Int) (w : World) :
    Calls Try.prog 30 #[.agg #[.int .i64 a, .int .i64 b]] w fun e w' => e = .returned (.int .i64 (dotR a b a b)) ∧ Below w.heap.size w w' := by
  go_enter Try.func30, Try.ntmps30; (try simp only [List.append_eq, List.cons_append, List.nil_append])
  go_wp2_with (first | (go_at_call 51; refine (rdot_any _ _ _ _ _).mono ?_; rintro e w1 ⟨rfl, hb1⟩; have hz1 : w.heap.size + 1 ≤ w1.heap.size := (by have h := hb1.size; (try simp at h); omega); have hbb := Below.mono hb1 (B' := w.heap.size + 1) (by (try simp) <;> omega); clear hb1; (with_reducible apply cel2 (b := w.heap.size) hbb); (focus ((try simp) <;> omega)); (focus omega); (focus (go_simp; try exact rfl)); (focus (go_simp; try exact rfl)); (focus (intro o; go_simp)); intro cc cc fz hl))
  go_ret
  refine ⟨rfl, ?_⟩
  ((with_reducible (repeat (first | exact bR _ _ | refine bS ?_ ?_ _ | refine bA ?_ ?_ _ | refine bD ?_ | refine bT ?_ (by assumption) ?_ | refine bO (by assumption) ?_ ?_))) <;> (first | omega | (simp; done) | (simp <;> omega)))
def pol3 (c : Bool) (x y z : Int) : List Int := if c = true then trimP [x, y, z] else []
theorem polys_any (px py vx vy hx hy : Int) (w : World) :
    Calls Try.prog 21 #[.agg #[.int .i64 px, .int .i64 py, .int .i64 vx, .int .i64 vy, .int .i64 hx, .int .i64 hy]] w (PPOut (pol3 (validB px py vx vy hx hy) px vx hx) (pol3 (validB px py vx vy hx hy) py vy hy) w) := by
  cases hv : validB px py vx vy hx hy
  · exact (polys_bad px py vx vy hx hy w hv).mono (fun e w' ⟨he, hb⟩ => ⟨hb, _, _, he, isP_nil _, isP_nil _⟩)
  · exact polys_in px py vx vy hx hy w hv
theorem rpolys_any (px py vx vy hx hy : Int) (w : World) :
    Calls Try.prog 25 #[.agg #[.int .i64 px, .int .i64 py, .int .i64 vx, .int .i64 vy, .int .i64 hx, .int .i64 hy]] w (PPOut (pol3 (validB px py vx vy hx hy) px vx hx) (pol3 (validB px py vx vy hx hy) py vy hy) w) := by
  cases hv : validB px py vx vy hx hy
  · exact (rpolys_bad px py vx vy hx hy w hv).mono (fun e w' ⟨he, hb⟩ => ⟨hb, _, _, he, isP_nil _, isP_nil _⟩)
  · exact rpolys_in px py vx vy hx hy w hv
end Go.Proofs.Ytkoejgpnlncgaaa
