/- Merged texts: RsD RsF RsI RsP BigR (what no proof of the claim needs is left out). -/
import Derived.Test.YtgejdaincnclpaaGreatCh5
namespace Go.Proofs.YtgejdaincnclpaaGreat
open Go Go.RowKit
set_option linter.unusedVariables false
attribute [local go_sem] makeFunc_run
theorem sm1 {v1 v2 w1 w2 n1 n2 rest grip : Int} (h : permB v1 v2 w1 w2 n1 n2 = true) (hr : sixB rest = true) (hg : sixB grip = true) : SmX v1 (v1 - w1) n1 (n1 * n1 + n2 * n2) ((v1 - w1) * n1 + (v2 - w2) * n2) rest grip := by
 obtain ⟨a, b, c⟩ := perm_bd h
 obtain ⟨d, e, f⟩ := perm_prod h
 simp only [sixB, decide_eq_true_eq] at hr hg
 exact ⟨by omega, by omega, by omega, by omega, by omega, by omega, by omega⟩
theorem sm2 {v1 v2 w1 w2 n1 n2 rest grip : Int} (h : permB v1 v2 w1 w2 n1 n2 = true) (hr : sixB rest = true) (hg : sixB grip = true) : SmX v2 (v2 - w2) n2 (n1 * n1 + n2 * n2) ((v1 - w1) * n1 + (v2 - w2) * n2) rest grip := by
 obtain ⟨a, b, c⟩ := perm_bd h
 obtain ⟨d, e, f⟩ := perm_prod h
 simp only [sixB, decide_eq_true_eq] at hr hg
 exact ⟨by omega, by omega, by omega, by omega, by omega, by omega, by omega⟩
def TOut (R : Int × Int × Int) (w : World) (e : Ending) (w' : World) : Prop := ROut R.1 R.2.1 R.2.2 w e w'
set_option maxRecDepth 100000 in
set_option maxHeartbeats 20000000 in
theorem static_on (v1 v2 w1 w2 n1 n2 rest grip : Int) (w : World) (h : permB v1 v2 w1 w2 n1 n2 = true) (hr : sixB rest = true) (hg : sixB grip = true) (ha : apprB v1 v2 w1 w2 n1 n2 = true) :
  Calls Tryz.prog 54 #[.agg #[.int .i64 v1, .int .i64 v2], .agg #[.int .i64 w1, .int .i64 w2], .agg #[.int .i64 n1, .int .i64 n2], .int .i64 rest, .int .i64 grip] w (TOut (lowR (statX v1 (v1 - w1) n1 (n1 * n1 + n2 * n2) ((v1 - w1) * n1 + (v2 - w2) * n2) rest grip) (statX v2 (v2 - w2) n2 (n1 * n1 + n2 * n2) ((v1 - w1) * n1 + (v2 - w2) * n2) rest grip) (16 * (n1 * n1 + n2 * n2))) w) := by
 obtain ⟨bv, bw, bn⟩ := perm_bd h
 obtain ⟨e1, e2, e3⟩ := perm_vals h
 obtain ⟨⟨p1, p2⟩, p3, p4⟩ := perm_prod h
 obtain ⟨_, _, q3⟩ := appr_bd ha
 have t1 := sm1 h hr hg
 have t2 := sm2 h hr hg
 have k1 := fun w => permitted_any v1 v2 w1 w2 n1 n2 w
 have k2 := fun g w => sixteenths_two rest grip g w
 have k3 := fun w => approaches_any v1 v2 w1 w2 n1 n2 w
 have k4 := fun w => vsub_any v1 v2 w1 w2 w
 have k5 := fun w => vdot_any (v1 - w1) (v2 - w2) n1 n2 w
 have k6 := fun w => vdot_any n1 n2 n1 n2 w
 rw [h] at k1
 rw [hr, hg] at k2
 rw [ha] at k3
 rw [e1] at k4
 rw [e2] at k5
 rw [e3] at k6
 simp only [Bool.and_self] at k2
 generalize (v1 - w1) * n1 + (v2 - w2) * n2 = C at *
 generalize n1 * n1 + n2 * n2 = M at *
 have k7 := fun b1 b2 b3 b4 w g1 g2 g3 g4 => static1_any v1 (v1 - w1) n1 M C rest grip b1 b2 b3 b4 w t1 g1 g2 g3 g4
 have k8 := fun b1 b2 b3 b4 w g1 g2 g3 g4 => static1_any v2 (v2 - w2) n2 M C rest grip b1 b2 b3 b4 w t2 g1 g2 g3 g4
 have k9 := fun w => wof_any (16 * M) w (by omega) (by omega)
 have l1 := t1.len
 have l2 := t2.len
 have l3 := len_wd (z := 16 * M) (by omega) (by omega)
 generalize statX v1 (v1 - w1) n1 M C rest grip = X at *
 generalize statX v2 (v2 - w2) n2 M C rest grip = Y at *
 have k10 := fun v w hv => lowest_any X Y (16 * M) v w hv (by omega) (by omega) (by omega) (by omega)
 unfold TOut lowR
 generalize X.tdiv (lowG X Y (16 * M)) = RX at *
 generalize Y.tdiv (lowG X Y (16 * M)) = RY at *
 generalize (16 * M).tdiv (lowG X Y (16 * M)) = RD at *
 have K1 := hQ0 k1
 have K2 := hQ0 k2
 have K3 := hQ0 k3
 have K4 := hQ0 k4
 have K5 := hQ0 k5
 have K6 := hQ0 k6
 have K7 := hQ0 k7
 have K8 := hQ0 k8
 have K9 := hQ0 k9
 have K10 := hQ0 k10
 obtain ⟨bv1, bv2, bv3, bv4⟩ := bv
 clear k1 k2 k3 k4 k5 k6 k7 k8 k9 k10 h hr hg ha e1 e2 e3 t1 t2 l1 l2 l3
 simp only
 go_enter Tryz.func54, Tryz.ntmps54; (try simp only [List.append_eq, List.cons_append, List.nil_append])
 go_wp2_with fail
 (go_at_call 50; refine (K1.out _).mono ?_; rintro e w2 ⟨rfl, hb_w2⟩; have hz_w2 := hb_w2.size; (try simp at hz_w2); (with_reducible apply cal2 (b := w.heap.size) hb_w2); (focus (go_simp; try exact ⟨rfl, rfl⟩)); intro fS bL dP gB; (with_reducible apply cal2 (b := w.heap.size + 1) hb_w2); (focus (go_simp; try exact ⟨rfl, rfl⟩)); intro fC aP iY bP; (with_reducible apply cal2 (b := w.heap.size + 1 + 1) hb_w2); (focus (go_simp; try exact ⟨rfl, rfl⟩)); intro dK gV gR fU; (with_reducible apply cal1 (b := w.heap.size + 1 + 1 + 1) hb_w2); (focus (go_simp; try exact rfl)); intro iT eQ eV; (with_reducible apply cal1 (b := w.heap.size + 1 + 1 + 1 + 1) hb_w2); (focus (go_simp; try exact rfl)); intro gU eI iR; (with_reducible apply cal6 (b := w.heap.size + 1 + 1 + 1 + 1 + 1) hb_w2); (focus (go_simp; try exact ⟨rfl, rfl, rfl, rfl, rfl, rfl⟩)); intro eW fJ gF iV aW bZ bG eU)
 have HB2 := hQ0 (show Below w.heap.size w w2 by ((with_reducible (repeat (first | exact bR _ _ | apply bS | apply bA | apply bD | refine bT ?_ (by assumption) ?_ | refine bO (by assumption) ?_ ?_))) <;> (first | omega | (simp <;> omega))))
 have hz2 : w.heap.size + 1 + 1 + 1 + 1 + 1 + 1 ≤ w2.heap.size := by omega
 clear hb_w2
 skip
 go_wp2_with fail
 (go_at_call 84; refine (K2.out _ _ (by simp) (by go_simp) (by go_simp)).mono ?_; rintro e w3 ⟨rfl, hb_w3⟩; have hz_w3 := hb_w3.size; (try simp at hz_w3); (with_reducible apply cal2 (b := w.heap.size) hb_w3); (focus (go_simp; try exact ⟨rfl, rfl⟩)); intro dY fX dG fT; (with_reducible apply cal2 (b := w.heap.size + 1) hb_w3); (focus (go_simp; try exact ⟨rfl, rfl⟩)); intro aO fO iD dH; (with_reducible apply cal2 (b := w.heap.size + 1 + 1) hb_w3); (focus (go_simp; try exact ⟨rfl, rfl⟩)); intro iE bM eP jG; (with_reducible apply cal1 (b := w.heap.size + 1 + 1 + 1) hb_w3); (focus (go_simp; try exact rfl)); intro bW iA dZ; (with_reducible apply cal1 (b := w.heap.size + 1 + 1 + 1 + 1) hb_w3); (focus (go_simp; try exact rfl)); intro gT iP eY; (with_reducible apply cal6 (b := w.heap.size + 1 + 1 + 1 + 1 + 1) hb_w3); (focus (go_simp; try exact ⟨rfl, rfl, rfl, rfl, rfl, rfl⟩)); intro fK bN dX bX eR dE fD gJ)
 have HB3 := hQ0 (show Below w.heap.size w w3 by have hB := HB2.out; ((with_reducible (repeat (first | exact bR _ _ | apply bS | apply bA | apply bD | refine bT ?_ (by assumption) ?_ | refine bO (by assumption) ?_ ?_))) <;> (first | omega | (simp <;> omega))))
 have hz3 : w.heap.size + 1 + 1 + 1 + 1 + 1 + 1 ≤ w3.heap.size := by omega
 clear hb_w3
 clear fS bL dP gB fC aP iY bP dK gV gR fU iT eQ eV gU eI iR eW fJ gF iV aW bZ bG eU
 go_wp2_with fail
 (go_at_call 21; refine (K3.out _).mono ?_; rintro e w4 ⟨rfl, hb_w4⟩; have hz_w4 := hb_w4.size; (try simp at hz_w4); (with_reducible apply cal2 (b := w.heap.size) hb_w4); (focus (go_simp; try exact ⟨rfl, rfl⟩)); intro fW aI jI gK; (with_reducible apply cal2 (b := w.heap.size + 1) hb_w4); (focus (go_simp; try exact ⟨rfl, rfl⟩)); intro dT aS jE jC; (with_reducible apply cal2 (b := w.heap.size + 1 + 1) hb_w4); (focus (go_simp; try exact ⟨rfl, rfl⟩)); intro aU fL fM dC; (with_reducible apply cal1 (b := w.heap.size + 1 + 1 + 1) hb_w4); (focus (go_simp; try exact rfl)); intro fH eL gI; (with_reducible apply cal1 (b := w.heap.size + 1 + 1 + 1 + 1) hb_w4); (focus (go_simp; try exact rfl)); intro iU gS iO; (with_reducible apply cal6 (b := w.heap.size + 1 + 1 + 1 + 1 + 1) hb_w4); (focus (go_simp; try exact ⟨rfl, rfl, rfl, rfl, rfl, rfl⟩)); intro dL gC fR iQ eJ gN eD bU)
 have HB4 := hQ0 (show Below w.heap.size w w4 by have hB := HB3.out; ((with_reducible (repeat (first | exact bR _ _ | apply bS | apply bA | apply bD | refine bT ?_ (by assumption) ?_ | refine bO (by assumption) ?_ ?_))) <;> (first | omega | (simp <;> omega))))
 have hz4 : w.heap.size + 1 + 1 + 1 + 1 + 1 + 1 ≤ w4.heap.size := by omega
 clear hb_w4
 clear dY fX dG fT aO fO iD dH iE bM eP jG bW iA dZ gT iP eY fK bN dX bX eR dE fD gJ
 go_wp2_with fail
 (go_at_call 52; refine (K4.out _).mono ?_; rintro e w5 ⟨rfl, hb_w5⟩; have hz_w5 := hb_w5.size; (try simp at hz_w5); (with_reducible apply cal2 (b := w.heap.size) hb_w5); (focus (go_simp; try exact ⟨rfl, rfl⟩)); intro gO bQ fN eC; (with_reducible apply cal2 (b := w.heap.size + 1 + 1) hb_w5); (focus (go_simp; try exact ⟨rfl, rfl⟩)); intro jJ iW fZ aJ; (with_reducible apply cal1 (b := w.heap.size + 1 + 1 + 1) hb_w5); (focus (go_simp; try exact rfl)); intro gG dF gX; (with_reducible apply cal1 (b := w.heap.size + 1 + 1 + 1 + 1) hb_w5); (focus (go_simp; try exact rfl)); intro dW iM aR; (with_reducible apply cal6 (b := w.heap.size + 1 + 1 + 1 + 1 + 1) hb_w5); (focus (go_simp; try exact ⟨rfl, rfl, rfl, rfl, rfl, rfl⟩)); intro iK bY fP fB aN aZ iF eT)
 have HB5 := hQ0 (show Below w.heap.size w w5 by have hB := HB4.out; ((with_reducible (repeat (first | exact bR _ _ | apply bS | apply bA | apply bD | refine bT ?_ (by assumption) ?_ | refine bO (by assumption) ?_ ?_))) <;> (first | omega | (simp <;> omega))))
 have hz5 : w.heap.size + 1 + 1 + 1 + 1 + 1 + 1 ≤ w5.heap.size := by omega
 clear hb_w5
 clear fW aI jI gK dT aS jE jC aU fL fM dC fH eL gI iU gS iO dL gC fR iQ eJ gN eD bU
 go_wp2_with fail
 (refine pin_wp (N := _) (Nat.le_refl _) (fun w6 hb_w6 hz_w6 => ?_); (try simp at hz_w6); (with_reducible apply cal2 (b := w.heap.size) hb_w6); (focus (go_simp; try exact ⟨rfl, rfl⟩)); intro iB aF gW dI; (with_reducible apply cal2 (b := w.heap.size + 1 + 1) hb_w6); (focus (go_simp; try exact ⟨rfl, rfl⟩)); intro iI aG eE jK; (with_reducible apply cal1 (b := w.heap.size + 1 + 1 + 1) hb_w6); (focus (go_simp; try exact rfl)); intro fI eN bI; (with_reducible apply cal1 (b := w.heap.size + 1 + 1 + 1 + 1) hb_w6); (focus (go_simp; try exact rfl)); intro iJ iZ aK; (with_reducible apply cal6 (b := w.heap.size + 1 + 1 + 1 + 1 + 1) hb_w6); (focus (go_simp; try exact ⟨rfl, rfl, rfl, rfl, rfl, rfl⟩)); intro bH eB aV fE dS jH fY fF; (with_reducible apply cal2 (b := w5.heap.size) hb_w6); (focus (go_simp; try exact ⟨rfl, rfl⟩)); intro aH iL aQ gD); refine wp_q (fun Q_ HQ_ => ?_); refine wp_region_floatQ w6.heap.size 8 [8, 9] (Nat.le_refl _) (fun _ => True) trivial Cl.tt (by kernel_rfl) (by kernel_rfl) ?_
 have HB6 := hQ0 (show Below w.heap.size w w6 by have hB := HB5.out; ((with_reducible (repeat (first | exact bR _ _ | apply bS | apply bA | apply bD | refine bT ?_ (by assumption) ?_ | refine bO (by assumption) ?_ ?_))) <;> (first | omega | (simp <;> omega))))
 have hz6 : w.heap.size + 1 + 1 + 1 + 1 + 1 + 1 ≤ w6.heap.size := by omega
 clear hb_w6
 clear gO bQ fN eC jJ iW fZ aJ gG dF gX dW iM aR iK bY fP fB aN aZ iF eT
 refine wpQI_start [0, 1] ?_; (iterate 2 (first | (apply wpQI_step (zA rfl) (by kernel_rfl) (by exact rfl); (focus (intro W' hS; have hcS := hS.cells; go_simp; (iterate 2 (first | done | exact rfl | exact bB _ | go_simp)))); intro K hK; go_simp; (try go_bits); refine hK _ ?_; clear hK K))); refine wpQI_nil ?_
 refine wpQI_start [3, 4] ?_; (iterate 2 (first | (apply wpQI_step (zA rfl) (by kernel_rfl) (by exact rfl); (focus (intro W' hS; have hcS := hS.cells; go_simp; (iterate 2 (first | done | exact rfl | exact bB _ | go_simp)))); intro K hK; go_simp; (try go_bits); refine hK _ ?_; clear hK K))); refine wpQI_nil ?_
 refine wpQI_start [2] ?_; (iterate 1 (first | (apply wpQI_step (zA rfl) (by kernel_rfl) (by exact rfl); (focus (intro W' hS; have hcS := hS.cells; go_simp; (first | done | exact rfl | exact ⟨rfl, Below.refl _ _⟩ | (go_at_call 51; exact (K5.out _).mono (fun _ _ h => ⟨h.1, h.2⟩)) | (go_simp; first | done | exact rfl | exact ⟨rfl, Below.refl _ _⟩)))); intro K hK; go_simp; (try go_bits); refine hK _ ?_; clear hK K))); refine wpQI_nil ?_
 refine wpQI_start [5] ?_; (iterate 1 (first | (apply wpQI_step (zA rfl) (by kernel_rfl) (by exact rfl); (focus (intro W' hS; have hcS := hS.cells; go_simp; (first | done | exact rfl | exact ⟨rfl, Below.refl _ _⟩ | (go_at_call 51; exact (K6.out _).mono (fun _ _ h => ⟨h.1, h.2⟩)) | (go_simp; first | done | exact rfl | exact ⟨rfl, Below.refl _ _⟩)))); intro K hK; go_simp; (try go_bits); refine hK _ ?_; clear hK K))); refine wpQI_nil ?_
 apply wpQ_fresh (i := 6) LInv.std (zA rfl) (by kernel_rfl) (fun g => Value.pointer (some ⟨g, 0, none⟩)) (by exact rfl); (focus (intro W; go_simp; first | done | exact rfl | exact ⟨rfl, rfl⟩))
 intro g_r6_6 hN_r6_6 hG_r6_6 K hK
 go_simp; refine hK _ ?_; clear hK K
 apply wpQ_fresh (i := 7) LInv.std (zA rfl) (by kernel_rfl) (fun g => Value.pointer (some ⟨g, 0, none⟩)) (by exact rfl); (focus (intro W; go_simp; first | done | exact rfl | exact ⟨rfl, rfl⟩))
 intro g_r6_7 hN_r6_7 hG_r6_7 K hK
 go_simp; refine hK _ ?_; clear hK K
 have hne_r6_6_r6_7 : g_r6_6 ≠ g_r6_7 := hG_r6_7 _ (List.mem_cons_self ..)
 have hne_r6_7_r6_6 : g_r6_7 ≠ g_r6_6 := Ne.symm hne_r6_6_r6_7
 have hne : w.heap.size ≠ g_r6_6 ∧ g_r6_6 ≠ w.heap.size := by have := hN_r6_6; omega
 have hne : w.heap.size ≠ g_r6_7 ∧ g_r6_7 ≠ w.heap.size := by have := hN_r6_7; omega
 have hne : w.heap.size + 1 ≠ g_r6_6 ∧ g_r6_6 ≠ w.heap.size + 1 := by have := hN_r6_6; omega
 have hne : w.heap.size + 1 ≠ g_r6_7 ∧ g_r6_7 ≠ w.heap.size + 1 := by have := hN_r6_7; omega
 have hne : w.heap.size + 1 + 1 ≠ g_r6_6 ∧ g_r6_6 ≠ w.heap.size + 1 + 1 := by have := hN_r6_6; omega
 have hne : w.heap.size + 1 + 1 ≠ g_r6_7 ∧ g_r6_7 ≠ w.heap.size + 1 + 1 := by have := hN_r6_7; omega
 have hne : w.heap.size + 1 + 1 + 1 ≠ g_r6_6 ∧ g_r6_6 ≠ w.heap.size + 1 + 1 + 1 := by have := hN_r6_6; omega
 have hne : w.heap.size + 1 + 1 + 1 ≠ g_r6_7 ∧ g_r6_7 ≠ w.heap.size + 1 + 1 + 1 := by have := hN_r6_7; omega
 have hne : w.heap.size + 1 + 1 + 1 + 1 ≠ g_r6_6 ∧ g_r6_6 ≠ w.heap.size + 1 + 1 + 1 + 1 := by have := hN_r6_6; omega
 have hne : w.heap.size + 1 + 1 + 1 + 1 ≠ g_r6_7 ∧ g_r6_7 ≠ w.heap.size + 1 + 1 + 1 + 1 := by have := hN_r6_7; omega
 have hne : w.heap.size + 1 + 1 + 1 + 1 + 1 ≠ g_r6_6 ∧ g_r6_6 ≠ w.heap.size + 1 + 1 + 1 + 1 + 1 := by have := hN_r6_6; omega
 have hne : w.heap.size + 1 + 1 + 1 + 1 + 1 ≠ g_r6_7 ∧ g_r6_7 ≠ w.heap.size + 1 + 1 + 1 + 1 + 1 := by have := hN_r6_7; omega
 have hne : w5.heap.size ≠ g_r6_6 ∧ g_r6_6 ≠ w5.heap.size := by have := hN_r6_6; omega
 have hne : w5.heap.size ≠ g_r6_7 ∧ g_r6_7 ≠ w5.heap.size := by have := hN_r6_7; omega
 refine wpQ_done (by kernel_rfl) ?_
 intro w7 hF_w7 hSG
 have hz_w7 := hSG.1.1
 have hb_w7 := hSG.1.2
 have hB_r6_7 := (hSG.2 _ (List.mem_cons_self ..)).2; simp only at hB_r6_7; have hl_r6_7 := (hSG.size (List.mem_cons_self ..)); simp only at hl_r6_7
 have aB := cell_of_row w7 g_r6_7 0 _ _ _ hB_r6_7; simp only [List.getElem?_toArray, List.getElem?_cons_zero] at aB
 have aX : (∀ o, w7.frozen? ⟨g_r6_7, o, none⟩ = false) := (fun o => frozen_of_row w7 g_r6_7 o _ _ hB_r6_7); have HH_r6_7 := hQ0 hB_r6_7; clear hB_r6_7
 have hB_r6_6 := (hSG.2 _ (List.mem_cons_of_mem _ (List.mem_cons_self ..))).2; simp only at hB_r6_6; have hl_r6_6 := (hSG.size (List.mem_cons_of_mem _ (List.mem_cons_self ..))); simp only at hl_r6_6
 have aA := cell_of_row w7 g_r6_6 0 _ _ _ hB_r6_6; simp only [List.getElem?_toArray, List.getElem?_cons_zero] at aA
 have jD : (∀ o, w7.frozen? ⟨g_r6_6, o, none⟩ = false) := (fun o => frozen_of_row w7 g_r6_6 o _ _ hB_r6_6); have HH_r6_6 := hQ0 hB_r6_6; clear hB_r6_6
 clear hSG
 (with_reducible apply cel2 (b := w.heap.size) hb_w7); ((try simp) <;> omega); omega; (iterate 2 (focus (go_simp; try exact rfl))); (intro o; go_simp); intro eF fA aL dD; (with_reducible apply cel2 (b := w.heap.size + 1 + 1) hb_w7); ((try simp) <;> omega); omega; (iterate 2 (focus (go_simp; try exact rfl))); (intro o; go_simp); intro eS fV gY dJ; (with_reducible apply cel1 (b := w.heap.size + 1 + 1 + 1) hb_w7); ((try simp) <;> omega); omega; (focus (go_simp; try exact rfl)); (intro o; go_simp); intro bE aM bC; (with_reducible apply cel1 (b := w.heap.size + 1 + 1 + 1 + 1) hb_w7); ((try simp) <;> omega); omega; (focus (go_simp; try exact rfl)); (intro o; go_simp); intro gE dN aT; (with_reducible apply cel6 (b := w.heap.size + 1 + 1 + 1 + 1 + 1) hb_w7); ((try simp) <;> omega); omega; (iterate 6 (focus (go_simp; try exact rfl))); (intro o; go_simp); intro iG iX eK iS aC fQ eA aD; (with_reducible apply cel2 (b := w5.heap.size) hb_w7); ((try simp) <;> omega); omega; (iterate 2 (focus (go_simp; try exact rfl))); (intro o; go_simp); intro iN gZ bK eM
 (try simp only [List.filterMap_cons, List.filterMap_nil, List.getElem?_cons_succ, List.getElem?_cons_zero])
 have HB7 := hQ0 (HB6.out.trans (hb_w7.mono (by have := HB6.out.size; omega)))
 have hz7 : w.heap.size + 1 + 1 + 1 + 1 + 1 + 1 ≤ w7.heap.size := by omega
 have hn_r6_6 : w.heap.size + 1 + 1 + 1 + 1 + 1 + 1 ≤ g_r6_6 := by have := hN_r6_6; omega
 have hn_r6_7 : w.heap.size + 1 + 1 + 1 + 1 + 1 + 1 ≤ g_r6_7 := by have := hN_r6_7; omega
 clear hF_w7 hb_w7 HH_r6_6 hG_r6_6 hN_r6_6 HH_r6_7 hG_r6_7 hN_r6_7
 clear iB aF gW dI iI aG eE jK fI eN bI iJ iZ aK bH eB aV fE dS jH fY fF aH iL aQ gD
 go_wp2_with fail
 refine HQ_.out _ _ _ ?_
 clear HQ_ Q_
 go_wp2_with fail
 (refine pin_wp (N := _) (Nat.le_refl _) (fun w8 hb_w8 hz_w8 => ?_); (try simp at hz_w8); (with_reducible apply cal2 (b := w.heap.size) hb_w8); (focus (go_simp; try exact ⟨rfl, rfl⟩)); intro eX iC dR gA; (with_reducible apply cal2 (b := w.heap.size + 1 + 1) hb_w8); (focus (go_simp; try exact ⟨rfl, rfl⟩)); intro dM dU eG jL; (with_reducible apply cal1 (b := w.heap.size + 1 + 1 + 1) hb_w8); (focus (go_simp; try exact rfl)); intro jA dA dQ; (with_reducible apply cal1 (b := w.heap.size + 1 + 1 + 1 + 1) hb_w8); (focus (go_simp; try exact rfl)); intro dV gP gH; (with_reducible apply cal6 (b := w.heap.size + 1 + 1 + 1 + 1 + 1) hb_w8); (focus (go_simp; try exact ⟨rfl, rfl, rfl, rfl, rfl, rfl⟩)); intro iH eH gM eZ bJ aE gL fG; (with_reducible apply cal2 (b := w5.heap.size) hb_w8); (focus (go_simp; try exact ⟨rfl, rfl⟩)); intro eO dO gQ jB; (with_reducible apply cal1 (b := g_r6_6) hb_w8); (focus (go_simp; try exact rfl)); intro jM jF bV; (with_reducible apply cal1 (b := g_r6_7) hb_w8); (focus (go_simp; try exact rfl)); intro aY bF dB); refine wp_q (fun Q_ HQ_ => ?_); refine wp_region_floatQ w8.heap.size 21 [21] (Nat.le_refl _) (fun _ => True) trivial Cl.tt (by kernel_rfl) (by kernel_rfl) ?_
 have HB8 := hQ0 (show Below w.heap.size w w8 by have hB := HB7.out; ((with_reducible (repeat (first | exact bR _ _ | apply bS | apply bA | apply bD | refine bT ?_ (by assumption) ?_ | refine bO (by assumption) ?_ ?_))) <;> (first | omega | (simp <;> omega))))
 have hz8 : w.heap.size + 1 + 1 + 1 + 1 + 1 + 1 ≤ w8.heap.size := by omega
 clear hb_w8
 clear aB aX aA jD eF fA aL dD eS fV gY dJ bE aM bC gE dN aT iG iX eK iS aC fQ eA aD iN gZ bK eM
 refine wpQI_start [0, 1, 2, 3, 4, 5, 6] ?_; (iterate 7 (first | (apply wpQI_step (zA rfl) (by kernel_rfl) (by exact rfl); (focus (intro W' hS; have hcS := hS.cells; go_simp; (iterate 2 (first | done | exact rfl | exact bB _ | go_simp)))); intro K hK; go_simp; (try go_bits); refine hK _ ?_; clear hK K))); refine wpQI_nil ?_
 refine wpQI_start [8, 9, 10, 11, 12, 13, 14] ?_; (iterate 7 (first | (apply wpQI_step (zA rfl) (by kernel_rfl) (by exact rfl); (focus (intro W' hS; have hcS := hS.cells; go_simp; (iterate 2 (first | done | exact rfl | exact bB _ | go_simp)))); intro K hK; go_simp; (try go_bits); refine hK _ ?_; clear hK K))); refine wpQI_nil ?_
 refine wpQI_start [16, 17] ?_; (iterate 2 (first | (apply wpQI_step (zA rfl) (by kernel_rfl) (by exact rfl); (focus (intro W' hS; have hcS := hS.cells; go_simp; (iterate 2 (first | done | exact rfl | exact bB _ | go_simp)))); intro K hK; go_simp; (try go_bits); refine hK _ ?_; clear hK K))); refine wpQI_nil ?_
 apply wpQ_call (i := 7) (zA rfl) (by kernel_rfl) (by exact rfl); intro W hF hS; have hcS := hS.1.cells; go_simp; (go_at_call 87; refine (K7.out _ _ _ _ _ (by go_simp) (by go_simp) (by go_simp) (by go_simp)).mono ?_; rintro e w9 ⟨hb_w9, v9, rfl, hv9⟩; refine XPost.mk _ (fun W => IsC W v9 (X)) hb_w9 (hv9) (IsC.cl _ _) ?_); clear hb_w9 hcS hS hF
 intro K hK; go_simp; (try go_bits); refine hK _ ?_; clear hK K
 obtain ⟨s9, A9, n9, c9, rfl⟩ := IsC.val hv9
 clear hv9
 apply wpQ_call (i := 15) (zA rfl) (by kernel_rfl) (by exact rfl); intro W hF hS; have hcS := hS.1.cells; go_simp; (go_at_call 87; refine (K8.out _ _ _ _ _ (by go_simp) (by go_simp) (by go_simp) (by go_simp)).mono ?_; rintro e w10 ⟨hb_w10, v10, rfl, hv10⟩; refine XPost.mk _ (fun W => IsC W v10 (Y)) hb_w10 (hv10) (IsC.cl _ _) ?_); clear hb_w10 hcS hS hF
 intro K hK; go_simp; (try go_bits); refine hK _ ?_; clear hK K
 obtain ⟨s10, A10, n10, c10, rfl⟩ := IsC.val hv10
 clear hv10
 apply wpQ_call (i := 18) (zA rfl) (by kernel_rfl) (by exact rfl); intro W hF hS; have hcS := hS.1.cells; go_simp; (go_at_call 57; refine (K9.out _).mono ?_; rintro e w11 ⟨hb_w11, v11, rfl, hv11⟩; refine XPost.mk _ (fun W => IsC W v11 ((16 * M))) hb_w11 (hv11) (IsC.cl _ _) ?_); clear hb_w11 hcS hS hF
 intro K hK; go_simp; (try go_bits); refine hK _ ?_; clear hK K
 obtain ⟨s11, A11, n11, c11, rfl⟩ := IsC.val hv11
 clear hv11
 refine wpQI_start [19] ?_; (iterate 1 (first | (apply wpQI_step (zA rfl) (by kernel_rfl) (by exact rfl); (focus (intro W' hS; have hcS := hS.cells; go_simp; (iterate 2 (first | done | exact rfl | exact bB _ | go_simp)))); intro K hK; go_simp; (try go_bits); refine hK _ ?_; clear hK K))); refine wpQI_nil ?_
 apply wpQ_call (i := 20) (zA rfl) (by kernel_rfl) (by exact rfl); intro W hF hS; have hcS := hS.1.cells; go_simp; (go_at_call 59; refine (K10.out _ _ (⟨_, _, _, _, _, _, _, _, _, _, _, _, rfl, hF.1.1, hF.1.2, hF.2⟩)).mono ?_; rintro e w12 ⟨hb_w12, v12, rfl, hv12⟩; refine XPost.mk _ (fun W => RAt W v12 (RX) (RY) (RD)) hb_w12 (hv12) (RAt.cl _ _ _ _) ?_); clear hb_w12 hcS hS hF
 intro K hK; go_simp; (try go_bits); refine hK _ ?_; clear hK K
 obtain ⟨s12x, A12x, n12x, c12x, s12y, A12y, n12y, c12y, s12d, A12d, n12d, c12d, rfl⟩ := RAt.val hv12
 clear hv12
 refine wpQ_done (by kernel_rfl) ?_
 intro w13 hF_w13 hSG
 have hz_w13 := hSG.1.1
 have hb_w13 := hSG.1.2
 clear hSG
 (with_reducible apply cel2 (b := w.heap.size) hb_w13); ((try simp) <;> omega); omega; (iterate 2 (focus (go_simp; try exact rfl))); (intro o; go_simp); intro jS kI kB kK; (with_reducible apply cel2 (b := w.heap.size + 1 + 1) hb_w13); ((try simp) <;> omega); omega; (iterate 2 (focus (go_simp; try exact rfl))); (intro o; go_simp); intro kA kR kG jZ; (with_reducible apply cel1 (b := w.heap.size + 1 + 1 + 1) hb_w13); ((try simp) <;> omega); omega; (focus (go_simp; try exact rfl)); (intro o; go_simp); intro kO kD jQ; (with_reducible apply cel1 (b := w.heap.size + 1 + 1 + 1 + 1) hb_w13); ((try simp) <;> omega); omega; (focus (go_simp; try exact rfl)); (intro o; go_simp); intro kF kP jP; (with_reducible apply cel6 (b := w.heap.size + 1 + 1 + 1 + 1 + 1) hb_w13); ((try simp) <;> omega); omega; (iterate 6 (focus (go_simp; try exact rfl))); (intro o; go_simp); intro kC kE kN kM jU jY jX jV; (with_reducible apply cel2 (b := w5.heap.size) hb_w13); ((try simp) <;> omega); omega; (iterate 2 (focus (go_simp; try exact rfl))); (intro o; go_simp); intro jO kH kQ kL; (with_reducible apply cel1 (b := g_r6_6) hb_w13); ((try simp) <;> omega); omega; (focus (go_simp; try exact rfl)); (intro o; go_simp); intro kS jR kJ; (with_reducible apply cel1 (b := g_r6_7) hb_w13); ((try simp) <;> omega); omega; (focus (go_simp; try exact rfl)); (intro o; go_simp); intro jT jN jW
 (try simp only [List.filterMap_cons, List.filterMap_nil, List.getElem?_cons_succ, List.getElem?_cons_zero])
 have H9 := hQ0 (show IsC w13 (.agg #[.bool s9, .slice A9 n9 c9]) (X) from hF_w13.1.1.1)
 have H10 := hQ0 (show IsC w13 (.agg #[.bool s10, .slice A10 n10 c10]) (Y) from hF_w13.1.1.2)
 have H11 := hQ0 (show IsC w13 (.agg #[.bool s11, .slice A11 n11 c11]) ((16 * M)) from hF_w13.1.2)
 have H12 := hQ0 (show RAt w13 (.agg #[.bool s12x, .slice A12x n12x c12x, .bool s12y, .slice A12y n12y c12y, .bool s12d, .slice A12d n12d c12d]) (RX) (RY) (RD) from hF_w13.2)
 have HB13 := hQ0 (HB8.out.trans (hb_w13.mono (by have := HB8.out.size; omega)))
 have hz13 : w.heap.size + 1 + 1 + 1 + 1 + 1 + 1 ≤ w13.heap.size := by omega
 clear hF_w13 hb_w13
 clear eX iC dR gA dM dU eG jL jA dA dQ dV gP gH iH eH gM eZ bJ aE gL fG eO dO gQ jB jM jF bV aY bF dB
 go_wp2_with fail
 refine HQ_.out _ _ _ ?_
 clear HQ_ Q_
 go_wp2_with fail
 refine bodyPost_ret (v := .agg #[.bool s12x, .slice A12x n12x c12x, .bool s12y, .slice A12y n12y c12y, .bool s12d, .slice A12d n12d c12d]) (by simp only [results, Tryz.results54]; go_simp) rfl ⟨?_, ?_⟩
 · have hB := HB13.out; ((with_reducible (repeat (first | exact bR _ _ | apply bS | apply bA | apply bD | refine bT ?_ (by assumption) ?_ | refine bO (by assumption) ?_ ?_))) <;> (first | omega | (simp <;> omega)))
 · exact ⟨_, rfl, (by ((with_reducible (repeat (first | exact H12.out | refine RAt.al ?_ _ | apply RAt.st1))) <;> (first | (with_reducible assumption) | (intro _ e; cases e; done) | (go_simp; first | done | exact rfl))))⟩
attribute [local go_sem] makeFunc_run
def pairX (v n m c rest sgn : Int) : Int := 32 * v * m + sgn * (16 + rest) * n * c
structure SmP (v n m c rest sgn : Int) : Prop where
  v : -4194304 ≤ v ∧ v ≤ 4194304
  n : -4194304 ≤ n ∧ n ≤ 4194304
  m : -17592186044416 ≤ m ∧ m ≤ 17592186044416
  c : -17592186044416 ≤ c ∧ c ≤ 17592186044416
  rest : 0 ≤ rest ∧ rest ≤ 15
  sgn : -1 ≤ sgn ∧ sgn ≤ 1
theorem SmP.parts {v n m c rest sgn : Int} (h : SmP v n m c rest sgn) : (-31 ≤ sgn * (16 + rest) ∧ sgn * (16 + rest) ≤ 31) ∧ (-130023424 ≤ sgn * (16 + rest) * n ∧ sgn * (16 + rest) * n ≤ 130023424) ∧
  (-2361183241434822606848 ≤ 32 * v * m ∧ 32 * v * m ≤ 2361183241434822606848) ∧ (-2361183241434822606848 ≤ sgn * (16 + rest) * n * c ∧ sgn * (16 + rest) * n * c ≤ 2361183241434822606848) := by
 obtain ⟨hv, hn, hm, hc, hr, hg⟩ := h
 have m1 := mulB sgn (16 + rest) 1 31 hg (by omega)
 have m2 := mulB (sgn * (16 + rest)) n 31 4194304 (by omega) hn
 have m3 := mulB (32 * v) m 134217728 17592186044416 (by omega) hm
 have m4 := mulB (sgn * (16 + rest) * n) c 134217728 17592186044416 (by omega) hc
 omega
theorem SmP.len {v n m c rest sgn : Int} (h : SmP v n m c rest sgn) : (canN (pairX v n m c rest sgn).natAbs).length ≤ 10 := by
 obtain ⟨_, _, a, b⟩ := h.parts
 unfold pairX
 exact canN_bd (B := 18446744073709551616 * 18446744073709551616) (by omega) (by omega) (by decide)
set_option maxRecDepth 100000 in
set_option maxHeartbeats 20000000 in
theorem pair1_any (v n m c rest sgn : Int) (b1 b2 b3 : Nat) (w : World) (hs : SmP v n m c rest sgn)
  (g1 : w.cell? ⟨b1, 0, none⟩ = some (.int .i64 m)) (g2 : w.cell? ⟨b2, 0, none⟩ = some (.int .i64 rest)) (g3 : w.cell? ⟨b3, 0, none⟩ = some (.int .i64 c)) :
  Calls Tryz.prog 86 #[.int .i64 v, .int .i64 n, .int .i64 sgn, .pointer (some ⟨b1, 0, none⟩), .pointer (some ⟨b2, 0, none⟩), .pointer (some ⟨b3, 0, none⟩)] w (ZOut (pairX v n m c rest sgn) w) := by
 have z1 : b1 < w.heap.size := by simpa using World.block_lt_of_cell? w _ g1
 have z2 : b2 < w.heap.size := by simpa using World.block_lt_of_cell? w _ g2
 have z3 : b3 < w.heap.size := by simpa using World.block_lt_of_cell? w _ g3
 obtain ⟨⟨p1, p2⟩, ⟨p3, p4⟩, p5, p6⟩ := hs.parts
 have hlen := hs.len
 obtain ⟨⟨v1, v2⟩, ⟨n1, n2⟩, ⟨m1, m2⟩, ⟨c1, c2⟩, ⟨r1, r2⟩, ⟨e1, e2⟩⟩ := hs
 have k1 := fun w => wof_any (32 * v) w (by omega) (by omega)
 have k2 := fun w => wof_any m w (by omega) (by omega)
 have k4 := fun w => wof_any (sgn * (16 + rest) * n) w (by omega) (by omega)
 have k5 := fun w => wof_any c w (by omega) (by omega)
 have l1 := len_wd (z := 32 * v) (by omega) (by omega)
 have l2 := len_wd (z := m) (by omega) (by omega)
 have l4 := len_wd (z := sgn * (16 + rest) * n) (by omega) (by omega)
 have l5 := len_wd (z := c) (by omega) (by omega)
 have l3 : (canN (32 * v * m).natAbs).length ≤ 10 := canN_bd (B := 18446744073709551616 * 18446744073709551616) (by omega) (by omega) (by decide)
 have l6 : (canN (sgn * (16 + rest) * n * c).natAbs).length ≤ 10 := canN_bd (B := 18446744073709551616 * 18446744073709551616) (by omega) (by omega) (by decide)
 have K1 := hQ0 k1
 have K4 := hQ0 k4
 clear k1 k4
 obtain ⟨P, hP⟩ : ∃ P, P = 32 * v := ⟨_, rfl⟩
 obtain ⟨Q, hQ⟩ : ∃ Q, Q = sgn * (16 + rest) * n := ⟨_, rfl⟩
 unfold pairX at hlen ⊢
 rw [← hP] at l1 l3 hlen ⊢
 rw [← hQ] at l4 l6 hlen ⊢
 have kk1 := fun w => (K1.out w).mono (fun _ _ (h : ZOut (32 * v) w _ _) => (show ZOut P w _ _ by rw [hP]; exact h))
 have kk4 := fun w => (K4.out w).mono (fun _ _ (h : ZOut (sgn * (16 + rest) * n) w _ _) => (show ZOut Q w _ _ by rw [hQ]; exact h))
 replace K1 := hQ0 kk1
 replace K4 := hQ0 kk4
 clear hP hQ kk1 kk4
 have k3 := fun x y w h1 h2 => wmul_any 10 x y P m w h1 h2 (by omega)
 have k6 := fun x y w h1 h2 => wmul_any 10 x y Q c w h1 h2 (by omega)
 have k7 := fun x y w h1 h2 => wadd_any 10 x y (P * m) (Q * c) w h1 h2 (by omega)
 generalize P * m = Z3 at *
 generalize Q * c = Z6 at *
 generalize Z3 + Z6 = Z at *
 have K2 := hQ0 k2
 have K3 := hQ0 k3
 have K5 := hQ0 k5
 have K6 := hQ0 k6
 have K7 := hQ0 k7
 have L1 := hQ0 l1
 have L2 := hQ0 l2
 have L3 := hQ0 l3
 have L4 := hQ0 l4
 have L5 := hQ0 l5
 have L6 := hQ0 l6
 have G1 := hQ0 g1
 have G2 := hQ0 g2
 have G3 := hQ0 g3
 clear k2 k3 k5 k6 k7 l1 l2 l3 l4 l5 l6 p5 p6 hlen
 go_enter Tryz.func86, Tryz.ntmps86; (try simp only [List.append_eq, List.cons_append, List.nil_append])
 go_wp2_with fail
 (refine pin_wp (N := _) (Nat.le_refl _) (fun w2 hb_w2 hz_w2 => ?_); (try simp at hz_w2); (with_reducible apply cal2 (b := w.heap.size) hb_w2); (focus (go_simp; try exact ⟨rfl, rfl⟩)); intro aC aB aA aD); refine wp_q (fun Q_ HQ_ => ?_); refine wp_region_floatQ w2.heap.size 17 [17] (Nat.le_refl _) (fun _ => True) trivial Cl.tt (by kernel_rfl) (by kernel_rfl) ?_
 have HB2 := hQ0 (show Below w.heap.size w w2 by ((with_reducible (repeat (first | exact bR _ _ | apply bS | apply bA | apply bD | refine bT ?_ (by assumption) ?_ | refine bO (by assumption) ?_ ?_))) <;> (first | omega | (simp <;> omega))))
 have hz2 : w.heap.size + 1 ≤ w2.heap.size := by omega
 clear hb_w2
 skip
 have f1 : w2.cell? ⟨b1, 0, none⟩ = some (.int .i64 m) := (HB2.out.cell (p := ⟨b1, 0, none⟩) z1).trans G1.out
 have y1 : b1 < w2.heap.size := by omega
 have f2 : w2.cell? ⟨b2, 0, none⟩ = some (.int .i64 rest) := (HB2.out.cell (p := ⟨b2, 0, none⟩) z2).trans G2.out
 have y2 : b2 < w2.heap.size := by omega
 have f3 : w2.cell? ⟨b3, 0, none⟩ = some (.int .i64 c) := (HB2.out.cell (p := ⟨b3, 0, none⟩) z3).trans G3.out
 have y3 : b3 < w2.heap.size := by omega
 clear g1 g2 g3
 refine wpQI_start [0, 1] ?_; (iterate 2 (first | (apply wpQI_step (zA rfl) (by kernel_rfl) (by exact rfl); (focus (intro W' hS; have hcS := hS.cells; go_simp; (iterate 2 (first | done | exact rfl | exact bB _ | go_simp)))); intro K hK; go_simp; (try go_bits); refine hK _ ?_; clear hK K))); refine wpQI_nil ?_
 refine wpQI_start [3] ?_; (iterate 1 (first | (apply wpQI_step (zA rfl) (by kernel_rfl) (by exact rfl); (focus (intro W' hS; have hcS := hS.cells; go_simp; (iterate 2 (first | done | exact rfl | exact bB _ | go_simp)))); intro K hK; go_simp; (try go_bits); refine hK _ ?_; clear hK K))); refine wpQI_nil ?_
 refine wpQI_start [6, 7, 8, 9, 10, 11] ?_; (iterate 6 (first | (apply wpQI_step (zA rfl) (by kernel_rfl) (by exact rfl); (focus (intro W' hS; have hcS := hS.cells; go_simp; (iterate 2 (first | done | exact rfl | exact bB _ | go_simp)))); intro K hK; go_simp; (try go_bits); refine hK _ ?_; clear hK K))); refine wpQI_nil ?_
 refine wpQI_start [13] ?_; (iterate 1 (first | (apply wpQI_step (zA rfl) (by kernel_rfl) (by exact rfl); (focus (intro W' hS; have hcS := hS.cells; go_simp; (iterate 2 (first | done | exact rfl | exact bB _ | go_simp)))); intro K hK; go_simp; (try go_bits); refine hK _ ?_; clear hK K))); refine wpQI_nil ?_
 apply wpQ_call (i := 2) (zA rfl) (by kernel_rfl) (by exact rfl); intro W hF hS; have hcS := hS.1.cells; go_simp; (go_at_call 57; refine (K1.out _).mono ?_; rintro e w3 ⟨hb_w3, v3, rfl, hv3⟩; refine XPost.mk _ (fun W => IsC W v3 (P)) hb_w3 (hv3) (IsC.cl _ _) ?_); clear hb_w3 hcS hS hF
 intro K hK; go_simp; (try go_bits); refine hK _ ?_; clear hK K
 obtain ⟨s3, A3, n3, c3, rfl⟩ := IsC.val hv3
 clear hv3
 apply wpQ_call (i := 4) (zA rfl) (by kernel_rfl) (by exact rfl); intro W hF hS; have hcS := hS.1.cells; go_simp; (go_at_call 57; refine (K2.out _).mono ?_; rintro e w4 ⟨hb_w4, v4, rfl, hv4⟩; refine XPost.mk _ (fun W => IsC W v4 (m)) hb_w4 (hv4) (IsC.cl _ _) ?_); clear hb_w4 hcS hS hF
 intro K hK; go_simp; (try go_bits); refine hK _ ?_; clear hK K
 obtain ⟨s4, A4, n4, c4, rfl⟩ := IsC.val hv4
 clear hv4
 apply wpQ_call (i := 5) (zA rfl) (by kernel_rfl) (by exact rfl); intro W hF hS; have hcS := hS.1.cells; go_simp; (go_at_call 56; refine (K3.out _ _ _ (hF.1.zl L1.out) (hF.2.zl L2.out)).mono ?_; rintro e w5 ⟨hb_w5, v5, rfl, hv5⟩; refine XPost.mk _ (fun W => IsC W v5 (Z3)) hb_w5 (hv5) (IsC.cl _ _) ?_); clear hb_w5 hcS hS hF
 intro K hK; go_simp; (try go_bits); refine hK _ ?_; clear hK K
 obtain ⟨s5, A5, n5, c5, rfl⟩ := IsC.val hv5
 clear hv5
 apply wpQ_call (i := 12) (zA rfl) (by kernel_rfl) (by exact rfl); intro W hF hS; have hcS := hS.1.cells; go_simp; (go_at_call 57; refine (K4.out _).mono ?_; rintro e w6 ⟨hb_w6, v6, rfl, hv6⟩; refine XPost.mk _ (fun W => IsC W v6 (Q)) hb_w6 (hv6) (IsC.cl _ _) ?_); clear hb_w6 hcS hS hF
 intro K hK; go_simp; (try go_bits); refine hK _ ?_; clear hK K
 obtain ⟨s6, A6, n6, c6, rfl⟩ := IsC.val hv6
 clear hv6
 apply wpQ_call (i := 14) (zA rfl) (by kernel_rfl) (by exact rfl); intro W hF hS; have hcS := hS.1.cells; go_simp; (go_at_call 57; refine (K5.out _).mono ?_; rintro e w7 ⟨hb_w7, v7, rfl, hv7⟩; refine XPost.mk _ (fun W => IsC W v7 (c)) hb_w7 (hv7) (IsC.cl _ _) ?_); clear hb_w7 hcS hS hF
 intro K hK; go_simp; (try go_bits); refine hK _ ?_; clear hK K
 obtain ⟨s7, A7, n7, c7, rfl⟩ := IsC.val hv7
 clear hv7
 apply wpQ_call (i := 15) (zA rfl) (by kernel_rfl) (by exact rfl); intro W hF hS; have hcS := hS.1.cells; go_simp; (go_at_call 56; refine (K6.out _ _ _ (hF.1.2.zl L4.out) (hF.2.zl L5.out)).mono ?_; rintro e w8 ⟨hb_w8, v8, rfl, hv8⟩; refine XPost.mk _ (fun W => IsC W v8 (Z6)) hb_w8 (hv8) (IsC.cl _ _) ?_); clear hb_w8 hcS hS hF
 intro K hK; go_simp; (try go_bits); refine hK _ ?_; clear hK K
 obtain ⟨s8, A8, n8, c8, rfl⟩ := IsC.val hv8
 clear hv8
 apply wpQ_call (i := 16) (zA rfl) (by kernel_rfl) (by exact rfl); intro W hF hS; have hcS := hS.1.cells; go_simp; (go_at_call 55; refine (K7.out _ _ _ (hF.1.1.1.2.zl L3.out) (hF.2.zl L6.out)).mono ?_; rintro e w9 ⟨hb_w9, v9, rfl, hv9⟩; refine XPost.mk _ (fun W => IsC W v9 (Z)) hb_w9 (hv9) (IsC.cl _ _) ?_); clear hb_w9 hcS hS hF
 intro K hK; go_simp; (try go_bits); refine hK _ ?_; clear hK K
 obtain ⟨s9, A9, n9, c9, rfl⟩ := IsC.val hv9
 clear hv9
 refine wpQ_done (by kernel_rfl) ?_
 intro w10 hF_w10 hSG
 have hz_w10 := hSG.1.1
 have hb_w10 := hSG.1.2
 clear hSG
 (with_reducible apply cel2 (b := w.heap.size) hb_w10); ((try simp) <;> omega); omega; (iterate 2 (focus (go_simp; try exact rfl))); (intro o; go_simp); intro aG aH aF aE
 (try simp only [List.filterMap_cons, List.filterMap_nil, List.getElem?_cons_succ, List.getElem?_cons_zero])
 have H3 := hQ0 (show IsC w10 (.agg #[.bool s3, .slice A3 n3 c3]) (P) from hF_w10.1.1.1.1.1.1)
 have H4 := hQ0 (show IsC w10 (.agg #[.bool s4, .slice A4 n4 c4]) (m) from hF_w10.1.1.1.1.1.2)
 have H5 := hQ0 (show IsC w10 (.agg #[.bool s5, .slice A5 n5 c5]) (Z3) from hF_w10.1.1.1.1.2)
 have H6 := hQ0 (show IsC w10 (.agg #[.bool s6, .slice A6 n6 c6]) (Q) from hF_w10.1.1.1.2)
 have H7 := hQ0 (show IsC w10 (.agg #[.bool s7, .slice A7 n7 c7]) (c) from hF_w10.1.1.2)
 have H8 := hQ0 (show IsC w10 (.agg #[.bool s8, .slice A8 n8 c8]) (Z6) from hF_w10.1.2)
 have H9 := hQ0 (show IsC w10 (.agg #[.bool s9, .slice A9 n9 c9]) (Z) from hF_w10.2)
 have HB10 := hQ0 (HB2.out.trans (hb_w10.mono (by have := HB2.out.size; omega)))
 have hz10 : w.heap.size + 1 ≤ w10.heap.size := by omega
 clear hF_w10 hb_w10
 clear aC aB aA aD
 go_wp2_with fail
 refine HQ_.out _ _ _ ?_
 clear HQ_ Q_
 go_wp2_with fail
 refine bodyPost_ret (v := .agg #[.bool s9, .slice A9 n9 c9]) (by simp only [results, Tryz.results86]; go_simp) rfl ⟨?_, ?_⟩
 · have hB := HB10.out; ((with_reducible (repeat (first | exact bR _ _ | apply bS | apply bA | apply bD | refine bT ?_ (by assumption) ?_ | refine bO (by assumption) ?_ ?_))) <;> (first | omega | (simp <;> omega)))
 · exact ⟨_, rfl, (by ((with_reducible (repeat (first | exact H9.out | refine IsC.al ?_ _ | apply IsC.st1))) <;> (first | (with_reducible assumption) | (intro _ e; cases e; done) | (go_simp; first | done | exact rfl))))⟩
theorem sp1 {v1 v2 w1 w2 n1 n2 rest x n sgn : Int} (h : permB v1 v2 w1 w2 n1 n2 = true) (hr : sixB rest = true) (hx : -1048576 ≤ x ∧ x ≤ 1048576) (hn : -2097152 ≤ n ∧ n ≤ 2097152) (hs : -1 ≤ sgn ∧ sgn ≤ 1) : SmP x n (n1 * n1 + n2 * n2) ((v1 - w1) * n1 + (v2 - w2) * n2) rest sgn := by
 obtain ⟨a, b, c⟩ := perm_bd h
 obtain ⟨d, e, f⟩ := perm_prod h
 simp only [sixB, decide_eq_true_eq] at hr
 exact ⟨by omega, by omega, by omega, by omega, by omega, by omega⟩
def pairR (v1 v2 w1 w2 n1 n2 rest : Int) : (Int × Int × Int) × (Int × Int × Int) :=
  if permB v1 v2 w1 w2 n1 n2 = true ∧ sixB rest = true then
    if apprB v1 v2 w1 w2 n1 n2 = true then
      (lowR (pairX v1 n1 (n1 * n1 + n2 * n2) ((v1 - w1) * n1 + (v2 - w2) * n2) rest (-1)) (pairX v2 n2 (n1 * n1 + n2 * n2) ((v1 - w1) * n1 + (v2 - w2) * n2) rest (-1)) (32 * (n1 * n1 + n2 * n2)),
       lowR (pairX w1 n1 (n1 * n1 + n2 * n2) ((v1 - w1) * n1 + (v2 - w2) * n2) rest 1) (pairX w2 n2 (n1 * n1 + n2 * n2) ((v1 - w1) * n1 + (v2 - w2) * n2) rest 1) (32 * (n1 * n1 + n2 * n2)))
    else ((v1, v2, 1), (w1, w2, 1))
  else ((0, 0, 0), (0, 0, 0))
def POut2 (R : (Int × Int × Int) × (Int × Int × Int)) (w : World) (e : Ending) (w' : World) : Prop := RROut R.1.1 R.1.2.1 R.1.2.2 R.2.1 R.2.2.1 R.2.2.2 w e w'
set_option maxRecDepth 100000 in
set_option maxHeartbeats 20000000 in
theorem pair_on (v1 v2 w1 w2 n1 n2 rest : Int) (w : World) (h : permB v1 v2 w1 w2 n1 n2 = true) (hr : sixB rest = true) (ha : apprB v1 v2 w1 w2 n1 n2 = true) :
  Calls Tryz.prog 53 #[.agg #[.int .i64 v1, .int .i64 v2], .agg #[.int .i64 w1, .int .i64 w2], .agg #[.int .i64 n1, .int .i64 n2], .int .i64 rest] w (POut2 ((lowR (pairX v1 n1 (n1 * n1 + n2 * n2) ((v1 - w1) * n1 + (v2 - w2) * n2) rest (-1)) (pairX v2 n2 (n1 * n1 + n2 * n2) ((v1 - w1) * n1 + (v2 - w2) * n2) rest (-1)) (32 * (n1 * n1 + n2 * n2))), (lowR (pairX w1 n1 (n1 * n1 + n2 * n2) ((v1 - w1) * n1 + (v2 - w2) * n2) rest 1) (pairX w2 n2 (n1 * n1 + n2 * n2) ((v1 - w1) * n1 + (v2 - w2) * n2) rest 1) (32 * (n1 * n1 + n2 * n2)))) w) := by
 obtain ⟨bv, bw, bn⟩ := perm_bd h
 obtain ⟨e1, e2, e3⟩ := perm_vals h
 obtain ⟨⟨p1, p2⟩, p3, p4⟩ := perm_prod h
 obtain ⟨_, _, q3⟩ := appr_bd ha
 have t1 := sp1 (x := v1) (n := n1) (sgn := -1) h hr (by omega) (by omega) (by omega)
 have t2 := sp1 (x := v2) (n := n2) (sgn := -1) h hr (by omega) (by omega) (by omega)
 have t3 := sp1 (x := w1) (n := n1) (sgn := 1) h hr (by omega) (by omega) (by omega)
 have t4 := sp1 (x := w2) (n := n2) (sgn := 1) h hr (by omega) (by omega) (by omega)
 have k1 := fun w => permitted_any v1 v2 w1 w2 n1 n2 w
 have k2 := fun g w => sixteenths_one rest g w
 have k3 := fun w => approaches_any v1 v2 w1 w2 n1 n2 w
 rw [h] at k1
 rw [hr] at k2
 rw [ha] at k3
 have k4 := fun w => vsub_any v1 v2 w1 w2 w
 have k5 := fun w => vdot_any (v1 - w1) (v2 - w2) n1 n2 w
 have k6 := fun w => vdot_any n1 n2 n1 n2 w
 rw [e1] at k4
 rw [e2] at k5
 rw [e3] at k6
 generalize (v1 - w1) * n1 + (v2 - w2) * n2 = C at *
 generalize n1 * n1 + n2 * n2 = M at *
 have k7 := fun w => wof_any (32 * M) w (by omega) (by omega)
 have k8 := fun b1 b2 b3 w g1 g2 g3 => pair1_any v1 n1 M C rest (-1) b1 b2 b3 w t1 g1 g2 g3
 have k9 := fun b1 b2 b3 w g1 g2 g3 => pair1_any v2 n2 M C rest (-1) b1 b2 b3 w t2 g1 g2 g3
 have k11 := fun b1 b2 b3 w g1 g2 g3 => pair1_any w1 n1 M C rest 1 b1 b2 b3 w t3 g1 g2 g3
 have k12 := fun b1 b2 b3 w g1 g2 g3 => pair1_any w2 n2 M C rest 1 b1 b2 b3 w t4 g1 g2 g3
 have l1 := t1.len
 have l2 := t2.len
 have l3 := t3.len
 have l4 := t4.len
 have l5 := len_wd (z := 32 * M) (by omega) (by omega)
 generalize pairX v1 n1 M C rest (-1) = X1 at *
 generalize pairX v2 n2 M C rest (-1) = X2 at *
 generalize pairX w1 n1 M C rest 1 = Y1 at *
 generalize pairX w2 n2 M C rest 1 = Y2 at *
 have k10 := fun v w hv => lowest_any X1 X2 (32 * M) v w hv (by omega) (by omega) (by omega) (by omega)
 have k13 := fun v w hv => lowest_any Y1 Y2 (32 * M) v w hv (by omega) (by omega) (by omega) (by omega)
 unfold POut2 lowR
 generalize X1.tdiv (lowG X1 X2 (32 * M)) = P1 at *
 generalize X2.tdiv (lowG X1 X2 (32 * M)) = P2 at *
 generalize (32 * M).tdiv (lowG X1 X2 (32 * M)) = P3 at *
 generalize Y1.tdiv (lowG Y1 Y2 (32 * M)) = Q1 at *
 generalize Y2.tdiv (lowG Y1 Y2 (32 * M)) = Q2 at *
 generalize (32 * M).tdiv (lowG Y1 Y2 (32 * M)) = Q3 at *
 have K1 := hQ0 k1
 have K2 := hQ0 k2
 have K3 := hQ0 k3
 have K4 := hQ0 k4
 have K5 := hQ0 k5
 have K6 := hQ0 k6
 have K7 := hQ0 k7
 have K8 := hQ0 k8
 have K9 := hQ0 k9
 have K10 := hQ0 k10
 have K11 := hQ0 k11
 have K12 := hQ0 k12
 have K13 := hQ0 k13
 obtain ⟨bv1, bv2, bv3, bv4⟩ := bv
 obtain ⟨bw1, bw2, bw3, bw4⟩ := bw
 clear k1 k2 k3 k4 k5 k6 k7 k8 k9 k10 k11 k12 k13 h hr ha e1 e2 e3 t1 t2 t3 t4 l1 l2 l3 l4 l5
 simp only
 go_enter Tryz.func53, Tryz.ntmps53; (try simp only [List.append_eq, List.cons_append, List.nil_append])
 go_wp2_with fail
 (go_at_call 50; refine (K1.out _).mono ?_; rintro e w101 ⟨rfl, hb_w101⟩; have hz_w101 := hb_w101.size; (try simp at hz_w101); (with_reducible apply cal2 (b := w.heap.size) hb_w101); (focus (go_simp; try exact ⟨rfl, rfl⟩)); intro gN iA lI bW; (with_reducible apply cal2 (b := w.heap.size + 1) hb_w101); (focus (go_simp; try exact ⟨rfl, rfl⟩)); intro eB gA eC kX; (with_reducible apply cal2 (b := w.heap.size + 1 + 1) hb_w101); (focus (go_simp; try exact ⟨rfl, rfl⟩)); intro iD eJ aO iL; (with_reducible apply cal1 (b := w.heap.size + 1 + 1 + 1) hb_w101); (focus (go_simp; try exact rfl)); intro gF gQ eT; (with_reducible apply cal6 (b := w.heap.size + 1 + 1 + 1 + 1) hb_w101); (focus (go_simp; try exact ⟨rfl, rfl, rfl, rfl, rfl, rfl⟩)); intro iE kF aI dT gD eH aD aR; (with_reducible apply cal6 (b := w.heap.size + 1 + 1 + 1 + 1 + 1) hb_w101); (focus (go_simp; try exact ⟨rfl, rfl, rfl, rfl, rfl, rfl⟩)); intro gS eZ eI eU jY dY fR aJ)
 have HB101 := hQ0 (show Below w.heap.size w w101 by ((with_reducible (repeat (first | exact bR _ _ | apply bS | apply bA | apply bD | refine bT ?_ (by assumption) ?_ | refine bO (by assumption) ?_ ?_))) <;> (first | omega | (simp <;> omega))))
 have hz101 : w.heap.size + 1 + 1 + 1 + 1 + 1 + 1 ≤ w101.heap.size := by omega
 clear hb_w101
 skip
 go_wp2_with fail
 (go_at_call 84; refine (K2.out _ _ (by simp) (by go_simp)).mono ?_; rintro e w102 ⟨rfl, hb_w102⟩; have hz_w102 := hb_w102.size; (try simp at hz_w102); (with_reducible apply cal2 (b := w.heap.size) hb_w102); (focus (go_simp; try exact ⟨rfl, rfl⟩)); intro bE gB gI fG; (with_reducible apply cal2 (b := w.heap.size + 1) hb_w102); (focus (go_simp; try exact ⟨rfl, rfl⟩)); intro jB fW bH dQ; (with_reducible apply cal2 (b := w.heap.size + 1 + 1) hb_w102); (focus (go_simp; try exact ⟨rfl, rfl⟩)); intro dU aC lE kK; (with_reducible apply cal1 (b := w.heap.size + 1 + 1 + 1) hb_w102); (focus (go_simp; try exact rfl)); intro eD kJ gW; (with_reducible apply cal6 (b := w.heap.size + 1 + 1 + 1 + 1) hb_w102); (focus (go_simp; try exact ⟨rfl, rfl, rfl, rfl, rfl, rfl⟩)); intro dW bY kD dM dZ dN aT iY; (with_reducible apply cal6 (b := w.heap.size + 1 + 1 + 1 + 1 + 1) hb_w102); (focus (go_simp; try exact ⟨rfl, rfl, rfl, rfl, rfl, rfl⟩)); intro aK jF iO aV jA bN fN fY)
 have HB102 := hQ0 (show Below w.heap.size w w102 by have hB := HB101.out; ((with_reducible (repeat (first | exact bR _ _ | apply bS | apply bA | apply bD | refine bT ?_ (by assumption) ?_ | refine bO (by assumption) ?_ ?_))) <;> (first | omega | (simp <;> omega))))
 have hz102 : w.heap.size + 1 + 1 + 1 + 1 + 1 + 1 ≤ w102.heap.size := by omega
 clear hb_w102
 clear gN iA lI bW eB gA eC kX iD eJ aO iL gF gQ eT iE kF aI dT gD eH aD aR gS eZ eI eU jY dY fR aJ
 go_wp2_with fail
 (go_at_call 21; refine (K3.out _).mono ?_; rintro e w103 ⟨rfl, hb_w103⟩; have hz_w103 := hb_w103.size; (try simp at hz_w103); (with_reducible apply cal2 (b := w.heap.size) hb_w103); (focus (go_simp; try exact ⟨rfl, rfl⟩)); intro jT dX kP lJ; (with_reducible apply cal2 (b := w.heap.size + 1) hb_w103); (focus (go_simp; try exact ⟨rfl, rfl⟩)); intro gE iP lA lG; (with_reducible apply cal2 (b := w.heap.size + 1 + 1) hb_w103); (focus (go_simp; try exact ⟨rfl, rfl⟩)); intro kR gG fT bK; (with_reducible apply cal1 (b := w.heap.size + 1 + 1 + 1) hb_w103); (focus (go_simp; try exact rfl)); intro jX bJ kN; (with_reducible apply cal6 (b := w.heap.size + 1 + 1 + 1 + 1) hb_w103); (focus (go_simp; try exact ⟨rfl, rfl, rfl, rfl, rfl, rfl⟩)); intro eK dD kB iC jU dV fH kO; (with_reducible apply cal6 (b := w.heap.size + 1 + 1 + 1 + 1 + 1) hb_w103); (focus (go_simp; try exact ⟨rfl, rfl, rfl, rfl, rfl, rfl⟩)); intro kH fI jZ dS fE jN bQ fO)
 have HB103 := hQ0 (show Below w.heap.size w w103 by have hB := HB102.out; ((with_reducible (repeat (first | exact bR _ _ | apply bS | apply bA | apply bD | refine bT ?_ (by assumption) ?_ | refine bO (by assumption) ?_ ?_))) <;> (first | omega | (simp <;> omega))))
 have hz103 : w.heap.size + 1 + 1 + 1 + 1 + 1 + 1 ≤ w103.heap.size := by omega
 clear hb_w103
 clear bE gB gI fG jB fW bH dQ dU aC lE kK eD kJ gW dW bY kD dM dZ dN aT iY aK jF iO aV jA bN fN fY
 go_wp2_with fail
 (refine pin_wp (N := _) (Nat.le_refl _) (fun w104 hb_w104 hz_w104 => ?_); (try simp at hz_w104); (with_reducible apply cal2 (b := w.heap.size) hb_w104); (focus (go_simp; try exact ⟨rfl, rfl⟩)); intro kS gR bF jD; (with_reducible apply cal2 (b := w.heap.size + 1) hb_w104); (focus (go_simp; try exact ⟨rfl, rfl⟩)); intro jC eW iW iK; (with_reducible apply cal2 (b := w.heap.size + 1 + 1) hb_w104); (focus (go_simp; try exact ⟨rfl, rfl⟩)); intro aP jG kE bP; (with_reducible apply cal1 (b := w.heap.size + 1 + 1 + 1) hb_w104); (focus (go_simp; try exact rfl)); intro aW iT aX; (with_reducible apply cal6 (b := w.heap.size + 1 + 1 + 1 + 1) hb_w104); (focus (go_simp; try exact ⟨rfl, rfl, rfl, rfl, rfl, rfl⟩)); intro aL dJ jE eF dF iF aH dR; (with_reducible apply cal6 (b := w.heap.size + 1 + 1 + 1 + 1 + 1) hb_w104); (focus (go_simp; try exact ⟨rfl, rfl, rfl, rfl, rfl, rfl⟩)); intro kM fU aF kV gT dL fA bZ); refine wp_q (fun Q_ HQ_ => ?_); refine wp_region_floatQ w104.heap.size 10 [10, 11] (Nat.le_refl _) (fun _ => True) trivial Cl.tt (by kernel_rfl) (by kernel_rfl) ?_
 have HB104 := hQ0 (show Below w.heap.size w w104 by have hB := HB103.out; ((with_reducible (repeat (first | exact bR _ _ | apply bS | apply bA | apply bD | refine bT ?_ (by assumption) ?_ | refine bO (by assumption) ?_ ?_))) <;> (first | omega | (simp <;> omega))))
 have hz104 : w.heap.size + 1 + 1 + 1 + 1 + 1 + 1 ≤ w104.heap.size := by omega
 clear hb_w104
 clear jT dX kP lJ gE iP lA lG kR gG fT bK jX bJ kN eK dD kB iC jU dV fH kO kH fI jZ dS fE jN bQ fO
 refine wpQI_start [0, 1] ?_; (iterate 2 (first | (apply wpQI_step (zA rfl) (by kernel_rfl) (by exact rfl); (focus (intro W' hS; have hcS := hS.cells; go_simp; (iterate 2 (first | done | exact rfl | exact bB _ | go_simp)))); intro K hK; go_simp; (try go_bits); refine hK _ ?_; clear hK K))); refine wpQI_nil ?_
 refine wpQI_start [3] ?_; (iterate 1 (first | (apply wpQI_step (zA rfl) (by kernel_rfl) (by exact rfl); (focus (intro W' hS; have hcS := hS.cells; go_simp; (iterate 2 (first | done | exact rfl | exact bB _ | go_simp)))); intro K hK; go_simp; (try go_bits); refine hK _ ?_; clear hK K))); refine wpQI_nil ?_
 refine wpQI_start [5, 6] ?_; (iterate 2 (first | (apply wpQI_step (zA rfl) (by kernel_rfl) (by exact rfl); (focus (intro W' hS; have hcS := hS.cells; go_simp; (iterate 2 (first | done | exact rfl | exact bB _ | go_simp)))); intro K hK; go_simp; (try go_bits); refine hK _ ?_; clear hK K))); refine wpQI_nil ?_
 refine wpQI_start [2] ?_; (iterate 1 (first | (apply wpQI_step (zA rfl) (by kernel_rfl) (by exact rfl); (focus (intro W' hS; have hcS := hS.cells; go_simp; (first | done | exact rfl | exact ⟨rfl, Below.refl _ _⟩ | (go_at_call 52; exact (K4.out _).mono (fun _ _ h => ⟨h.1, h.2⟩)) | (go_simp; first | done | exact rfl | exact ⟨rfl, Below.refl _ _⟩)))); intro K hK; go_simp; (try go_bits); refine hK _ ?_; clear hK K))); refine wpQI_nil ?_
 refine wpQI_start [4] ?_; (iterate 1 (first | (apply wpQI_step (zA rfl) (by kernel_rfl) (by exact rfl); (focus (intro W' hS; have hcS := hS.cells; go_simp; (first | done | exact rfl | exact ⟨rfl, Below.refl _ _⟩ | (go_at_call 51; exact (K5.out _).mono (fun _ _ h => ⟨h.1, h.2⟩)) | (go_simp; first | done | exact rfl | exact ⟨rfl, Below.refl _ _⟩)))); intro K hK; go_simp; (try go_bits); refine hK _ ?_; clear hK K))); refine wpQI_nil ?_
 refine wpQI_start [7] ?_; (iterate 1 (first | (apply wpQI_step (zA rfl) (by kernel_rfl) (by exact rfl); (focus (intro W' hS; have hcS := hS.cells; go_simp; (first | done | exact rfl | exact ⟨rfl, Below.refl _ _⟩ | (go_at_call 51; exact (K6.out _).mono (fun _ _ h => ⟨h.1, h.2⟩)) | (go_simp; first | done | exact rfl | exact ⟨rfl, Below.refl _ _⟩)))); intro K hK; go_simp; (try go_bits); refine hK _ ?_; clear hK K))); refine wpQI_nil ?_
 apply wpQ_fresh (i := 8) LInv.std (zA rfl) (by kernel_rfl) (fun g => Value.pointer (some ⟨g, 0, none⟩)) (by exact rfl); (focus (intro W; go_simp; first | done | exact rfl | exact ⟨rfl, rfl⟩))
 intro g_r5_8 hN_r5_8 hG_r5_8 K hK
 go_simp; refine hK _ ?_; clear hK K
 apply wpQ_fresh (i := 9) LInv.std (zA rfl) (by kernel_rfl) (fun g => Value.pointer (some ⟨g, 0, none⟩)) (by exact rfl); (focus (intro W; go_simp; first | done | exact rfl | exact ⟨rfl, rfl⟩))
 intro g_r5_9 hN_r5_9 hG_r5_9 K hK
 go_simp; refine hK _ ?_; clear hK K
 have hne_r5_8_r5_9 : g_r5_8 ≠ g_r5_9 := hG_r5_9 _ (List.mem_cons_self ..)
 have hne_r5_9_r5_8 : g_r5_9 ≠ g_r5_8 := Ne.symm hne_r5_8_r5_9
 have hne : w.heap.size ≠ g_r5_8 ∧ g_r5_8 ≠ w.heap.size := by have := hN_r5_8; omega
 have hne : w.heap.size ≠ g_r5_9 ∧ g_r5_9 ≠ w.heap.size := by have := hN_r5_9; omega
 have hne : w.heap.size + 1 ≠ g_r5_8 ∧ g_r5_8 ≠ w.heap.size + 1 := by have := hN_r5_8; omega
 have hne : w.heap.size + 1 ≠ g_r5_9 ∧ g_r5_9 ≠ w.heap.size + 1 := by have := hN_r5_9; omega
 have hne : w.heap.size + 1 + 1 ≠ g_r5_8 ∧ g_r5_8 ≠ w.heap.size + 1 + 1 := by have := hN_r5_8; omega
 have hne : w.heap.size + 1 + 1 ≠ g_r5_9 ∧ g_r5_9 ≠ w.heap.size + 1 + 1 := by have := hN_r5_9; omega
 have hne : w.heap.size + 1 + 1 + 1 ≠ g_r5_8 ∧ g_r5_8 ≠ w.heap.size + 1 + 1 + 1 := by have := hN_r5_8; omega
 have hne : w.heap.size + 1 + 1 + 1 ≠ g_r5_9 ∧ g_r5_9 ≠ w.heap.size + 1 + 1 + 1 := by have := hN_r5_9; omega
 have hne : w.heap.size + 1 + 1 + 1 + 1 ≠ g_r5_8 ∧ g_r5_8 ≠ w.heap.size + 1 + 1 + 1 + 1 := by have := hN_r5_8; omega
 have hne : w.heap.size + 1 + 1 + 1 + 1 ≠ g_r5_9 ∧ g_r5_9 ≠ w.heap.size + 1 + 1 + 1 + 1 := by have := hN_r5_9; omega
 have hne : w.heap.size + 1 + 1 + 1 + 1 + 1 ≠ g_r5_8 ∧ g_r5_8 ≠ w.heap.size + 1 + 1 + 1 + 1 + 1 := by have := hN_r5_8; omega
 have hne : w.heap.size + 1 + 1 + 1 + 1 + 1 ≠ g_r5_9 ∧ g_r5_9 ≠ w.heap.size + 1 + 1 + 1 + 1 + 1 := by have := hN_r5_9; omega
 refine wpQ_done (by kernel_rfl) ?_
 intro w105 hF_w105 hSG
 have hz_w105 := hSG.1.1
 have hb_w105 := hSG.1.2
 have hB_r5_9 := (hSG.2 _ (List.mem_cons_self ..)).2; simp only at hB_r5_9; have hl_r5_9 := (hSG.size (List.mem_cons_self ..)); simp only at hl_r5_9
 have aB := cell_of_row w105 g_r5_9 0 _ _ _ hB_r5_9; simp only [List.getElem?_toArray, List.getElem?_cons_zero] at aB
 have iU : (∀ o, w105.frozen? ⟨g_r5_9, o, none⟩ = false) := (fun o => frozen_of_row w105 g_r5_9 o _ _ hB_r5_9); have HH_r5_9 := hQ0 hB_r5_9; clear hB_r5_9
 have hB_r5_8 := (hSG.2 _ (List.mem_cons_of_mem _ (List.mem_cons_self ..))).2; simp only at hB_r5_8; have hl_r5_8 := (hSG.size (List.mem_cons_of_mem _ (List.mem_cons_self ..))); simp only at hl_r5_8
 have aA := cell_of_row w105 g_r5_8 0 _ _ _ hB_r5_8; simp only [List.getElem?_toArray, List.getElem?_cons_zero] at aA
 have iM : (∀ o, w105.frozen? ⟨g_r5_8, o, none⟩ = false) := (fun o => frozen_of_row w105 g_r5_8 o _ _ hB_r5_8); have HH_r5_8 := hQ0 hB_r5_8; clear hB_r5_8
 clear hSG
 (with_reducible apply cel2 (b := w.heap.size) hb_w105); ((try simp) <;> omega); omega; (iterate 2 (focus (go_simp; try exact rfl))); (intro o; go_simp); intro iQ lF fS bM; (with_reducible apply cel2 (b := w.heap.size + 1) hb_w105); ((try simp) <;> omega); omega; (iterate 2 (focus (go_simp; try exact rfl))); (intro o; go_simp); intro gZ aY bC fJ; (with_reducible apply cel2 (b := w.heap.size + 1 + 1) hb_w105); ((try simp) <;> omega); omega; (iterate 2 (focus (go_simp; try exact rfl))); (intro o; go_simp); intro gJ kW fD kG; (with_reducible apply cel1 (b := w.heap.size + 1 + 1 + 1) hb_w105); ((try simp) <;> omega); omega; (focus (go_simp; try exact rfl)); (intro o; go_simp); intro kQ gX eE; (with_reducible apply cel6 (b := w.heap.size + 1 + 1 + 1 + 1) hb_w105); ((try simp) <;> omega); omega; (iterate 6 (focus (go_simp; try exact rfl))); (intro o; go_simp); intro gY jJ jW iS gL dE aE iZ; (with_reducible apply cel6 (b := w.heap.size + 1 + 1 + 1 + 1 + 1) hb_w105); ((try simp) <;> omega); omega; (iterate 6 (focus (go_simp; try exact rfl))); (intro o; go_simp); intro kY fQ fK lB gP fL eG aQ
 (try simp only [List.filterMap_cons, List.filterMap_nil, List.getElem?_cons_succ, List.getElem?_cons_zero])
 have HB105 := hQ0 (HB104.out.trans (hb_w105.mono (by have := HB104.out.size; omega)))
 have hz105 : w.heap.size + 1 + 1 + 1 + 1 + 1 + 1 ≤ w105.heap.size := by omega
 have hn_r5_8 : w.heap.size + 1 + 1 + 1 + 1 + 1 + 1 ≤ g_r5_8 := by have := hN_r5_8; omega
 have hn_r5_9 : w.heap.size + 1 + 1 + 1 + 1 + 1 + 1 ≤ g_r5_9 := by have := hN_r5_9; omega
 clear hF_w105 hb_w105 HH_r5_8 hG_r5_8 hN_r5_8 HH_r5_9 hG_r5_9 hN_r5_9
 clear kS gR bF jD jC eW iW iK aP jG kE bP aW iT aX aL dJ jE eF dF iF aH dR kM fU aF kV gT dL fA bZ
 go_wp2_with fail
 refine HQ_.out _ _ _ ?_
 clear HQ_ Q_
 go_wp2_with fail
 (go_at_call 57; refine (K7.out _).mono ?_; rintro e w106 ⟨hb_w106, v106, rfl, hv106⟩; have hz_w106 := hb_w106.size; (try simp at hz_w106); (with_reducible apply cal2 (b := w.heap.size) hb_w106); (focus (go_simp; try exact ⟨rfl, rfl⟩)); intro eO iG eX kA; (with_reducible apply cal2 (b := w.heap.size + 1) hb_w106); (focus (go_simp; try exact ⟨rfl, rfl⟩)); intro jO gH fC eL; (with_reducible apply cal2 (b := w.heap.size + 1 + 1) hb_w106); (focus (go_simp; try exact ⟨rfl, rfl⟩)); intro bU eM eY kC; (with_reducible apply cal1 (b := w.heap.size + 1 + 1 + 1) hb_w106); (focus (go_simp; try exact rfl)); intro jH jI eN; (with_reducible apply cal6 (b := w.heap.size + 1 + 1 + 1 + 1) hb_w106); (focus (go_simp; try exact ⟨rfl, rfl, rfl, rfl, rfl, rfl⟩)); intro kT jK jP fB gU bL eP bI; (with_reducible apply cal6 (b := w.heap.size + 1 + 1 + 1 + 1 + 1) hb_w106); (focus (go_simp; try exact ⟨rfl, rfl, rfl, rfl, rfl, rfl⟩)); intro aM bV fM dH iB kL bX aN; (with_reducible apply cal1 (b := g_r5_8) hb_w106); (focus (go_simp; try exact rfl)); intro dO iR fF; (with_reducible apply cal1 (b := g_r5_9) hb_w106); (focus (go_simp; try exact rfl)); intro dP dK iH)
 obtain ⟨s106, A106, n106, c106, rfl⟩ := IsC.val hv106
 have HB106 := hQ0 (show Below w.heap.size w w106 by have hB := HB105.out; ((with_reducible (repeat (first | exact bR _ _ | apply bS | apply bA | apply bD | refine bT ?_ (by assumption) ?_ | refine bO (by assumption) ?_ ?_))) <;> (first | omega | (simp <;> omega))))
 have hz106 : w.heap.size + 1 + 1 + 1 + 1 + 1 + 1 ≤ w106.heap.size := by omega
 clear hb_w106
 clear aB iU aA iM iQ lF fS bM gZ aY bC fJ gJ kW fD kG kQ gX eE gY jJ jW iS gL dE aE iZ kY fQ fK lB gP fL eG aQ
 have H106 := hQ0 (show IsC w106 (.agg #[.bool s106, .slice A106 n106 c106]) ((32 * M)) from hv106)
 clear hv106
 go_wp2_with fail
 (refine pin_wp (N := _) (Nat.le_refl _) (fun w107 hb_w107 hz_w107 => ?_); (try simp at hz_w107); (with_reducible apply cal2 (b := w.heap.size) hb_w107); (focus (go_simp; try exact ⟨rfl, rfl⟩)); intro jM lH aU iI; (with_reducible apply cal2 (b := w.heap.size + 1) hb_w107); (focus (go_simp; try exact ⟨rfl, rfl⟩)); intro bG eQ eA iN; (with_reducible apply cal2 (b := w.heap.size + 1 + 1) hb_w107); (focus (go_simp; try exact ⟨rfl, rfl⟩)); intro aZ gC lC jQ; (with_reducible apply cal1 (b := w.heap.size + 1 + 1 + 1) hb_w107); (focus (go_simp; try exact rfl)); intro iV iX gV; (with_reducible apply cal6 (b := w.heap.size + 1 + 1 + 1 + 1) hb_w107); (focus (go_simp; try exact ⟨rfl, rfl, rfl, rfl, rfl, rfl⟩)); intro dI gM kU gO lD gK fV dA; (with_reducible apply cal6 (b := w.heap.size + 1 + 1 + 1 + 1 + 1) hb_w107); (focus (go_simp; try exact ⟨rfl, rfl, rfl, rfl, rfl, rfl⟩)); intro kI fX kZ eS dB eV jR dG; (with_reducible apply cal1 (b := g_r5_8) hb_w107); (focus (go_simp; try exact rfl)); intro aG jV jS; (with_reducible apply cal1 (b := g_r5_9) hb_w107); (focus (go_simp; try exact rfl)); intro aS fP jL; (with_reducible apply cal2 (b := w106.heap.size) hb_w107); (focus (go_simp; try exact ⟨rfl, rfl⟩)); intro dC iJ eR fZ); refine wp_q (fun Q_ HQ_ => ?_); refine wp_region_floatQ w107.heap.size 30 [30, 31] (Nat.le_refl _) (fun _ => True) trivial Cl.tt (by kernel_rfl) (by kernel_rfl) ?_
 replace H106 := hQ0 (IsC.below (v := .agg #[.bool s106, .slice A106 n106 c106]) (z := (32 * M)) (by ((with_reducible (repeat (first | exact H106.out | refine IsC.al ?_ _ | apply IsC.st1))) <;> (first | (with_reducible assumption) | (intro _ e; cases e; done) | (go_simp; first | done | exact rfl)))) hb_w107)
 have HB107 := hQ0 (show Below w.heap.size w w107 by have hB := HB106.out; ((with_reducible (repeat (first | exact bR _ _ | apply bS | apply bA | apply bD | refine bT ?_ (by assumption) ?_ | refine bO (by assumption) ?_ ?_))) <;> (first | omega | (simp <;> omega))))
 have hz107 : w.heap.size + 1 + 1 + 1 + 1 + 1 + 1 ≤ w107.heap.size := by omega
 clear hb_w107
 clear eO iG eX kA jO gH fC eL bU eM eY kC jH jI eN kT jK jP fB gU bL eP bI aM bV fM dH iB kL bX aN dO iR fF dP dK iH
 refine wpQI_start [0, 1, 2, 3, 4] ?_; (iterate 5 (first | (apply wpQI_step (zA rfl) (by kernel_rfl) (by exact rfl); (focus (intro W' hS; have hcS := hS.cells; go_simp; (iterate 2 (first | done | exact rfl | exact bB _ | go_simp)))); intro K hK; go_simp; (try go_bits); refine hK _ ?_; clear hK K))); refine wpQI_nil ?_
 refine wpQI_start [6, 7, 8, 9, 10] ?_; (iterate 5 (first | (apply wpQI_step (zA rfl) (by kernel_rfl) (by exact rfl); (focus (intro W' hS; have hcS := hS.cells; go_simp; (iterate 2 (first | done | exact rfl | exact bB _ | go_simp)))); intro K hK; go_simp; (try go_bits); refine hK _ ?_; clear hK K))); refine wpQI_nil ?_
 refine wpQI_start [12] ?_; (iterate 1 (first | (apply wpQI_step (zA rfl) (by kernel_rfl) (by exact rfl); (focus (intro W' hS; have hcS := hS.cells; go_simp; (iterate 2 (first | done | exact rfl | exact bB _ | go_simp)))); intro K hK; go_simp; (try go_bits); refine hK _ ?_; clear hK K))); refine wpQI_nil ?_
 refine wpQI_start [15, 16, 17, 18, 19] ?_; (iterate 5 (first | (apply wpQI_step (zA rfl) (by kernel_rfl) (by exact rfl); (focus (intro W' hS; have hcS := hS.cells; go_simp; (iterate 2 (first | done | exact rfl | exact bB _ | go_simp)))); intro K hK; go_simp; (try go_bits); refine hK _ ?_; clear hK K))); refine wpQI_nil ?_
 refine wpQI_start [21, 22, 23, 24, 25] ?_; (iterate 5 (first | (apply wpQI_step (zA rfl) (by kernel_rfl) (by exact rfl); (focus (intro W' hS; have hcS := hS.cells; go_simp; (iterate 2 (first | done | exact rfl | exact bB _ | go_simp)))); intro K hK; go_simp; (try go_bits); refine hK _ ?_; clear hK K))); refine wpQI_nil ?_
 refine wpQI_start [27] ?_; (iterate 1 (first | (apply wpQI_step (zA rfl) (by kernel_rfl) (by exact rfl); (focus (intro W' hS; have hcS := hS.cells; go_simp; (iterate 2 (first | done | exact rfl | exact bB _ | go_simp)))); intro K hK; go_simp; (try go_bits); refine hK _ ?_; clear hK K))); refine wpQI_nil ?_
 apply wpQ_call (i := 5) (zA rfl) (by kernel_rfl) (by exact rfl); intro W hF hS; have hcS := hS.1.cells; go_simp; (go_at_call 86; refine (K8.out _ _ _ _ (by go_simp) (by go_simp) (by go_simp)).mono ?_; rintro e w108 ⟨hb_w108, v108, rfl, hv108⟩; refine XPost.mk _ (fun W => IsC W v108 (X1)) hb_w108 (hv108) (IsC.cl _ _) ?_); clear hb_w108 hcS hS hF
 intro K hK; go_simp; (try go_bits); refine hK _ ?_; clear hK K
 obtain ⟨s108, A108, n108, c108, rfl⟩ := IsC.val hv108
 clear hv108
 apply wpQ_call (i := 11) (zA rfl) (by kernel_rfl) (by exact rfl); intro W hF hS; have hcS := hS.1.cells; go_simp; (go_at_call 86; refine (K9.out _ _ _ _ (by go_simp) (by go_simp) (by go_simp)).mono ?_; rintro e w109 ⟨hb_w109, v109, rfl, hv109⟩; refine XPost.mk _ (fun W => IsC W v109 (X2)) hb_w109 (hv109) (IsC.cl _ _) ?_); clear hb_w109 hcS hS hF
 intro K hK; go_simp; (try go_bits); refine hK _ ?_; clear hK K
 obtain ⟨s109, A109, n109, c109, rfl⟩ := IsC.val hv109
 clear hv109
 refine wpQI_start [13] ?_; (iterate 1 (first | (apply wpQI_step (zA rfl) (by kernel_rfl) (by exact rfl); (focus (intro W' hS; have hcS := hS.cells; go_simp; (iterate 2 (first | done | exact rfl | exact bB _ | go_simp)))); intro K hK; go_simp; (try go_bits); refine hK _ ?_; clear hK K))); refine wpQI_nil ?_
 apply wpQ_call (i := 14) (zA rfl) (by kernel_rfl) (by exact rfl); intro W hF hS; have hcS := hS.1.cells; go_simp; (go_at_call 59; refine (K10.out _ _ (⟨_, _, _, _, _, _, _, _, _, _, _, _, rfl, hF.1, hF.2, (H106.out.below hS.1.2)⟩)).mono ?_; rintro e w110 ⟨hb_w110, v110, rfl, hv110⟩; refine XPost.mk _ (fun W => RAt W v110 (P1) (P2) (P3)) hb_w110 (hv110) (RAt.cl _ _ _ _) ?_); clear hb_w110 hcS hS hF
 intro K hK; go_simp; (try go_bits); refine hK _ ?_; clear hK K
 obtain ⟨s110x, A110x, n110x, c110x, s110y, A110y, n110y, c110y, s110d, A110d, n110d, c110d, rfl⟩ := RAt.val hv110
 clear hv110
 apply wpQ_call (i := 20) (zA rfl) (by kernel_rfl) (by exact rfl); intro W hF hS; have hcS := hS.1.cells; go_simp; (go_at_call 86; refine (K11.out _ _ _ _ (by go_simp) (by go_simp) (by go_simp)).mono ?_; rintro e w111 ⟨hb_w111, v111, rfl, hv111⟩; refine XPost.mk _ (fun W => IsC W v111 (Y1)) hb_w111 (hv111) (IsC.cl _ _) ?_); clear hb_w111 hcS hS hF
 intro K hK; go_simp; (try go_bits); refine hK _ ?_; clear hK K
 obtain ⟨s111, A111, n111, c111, rfl⟩ := IsC.val hv111
 clear hv111
 apply wpQ_call (i := 26) (zA rfl) (by kernel_rfl) (by exact rfl); intro W hF hS; have hcS := hS.1.cells; go_simp; (go_at_call 86; refine (K12.out _ _ _ _ (by go_simp) (by go_simp) (by go_simp)).mono ?_; rintro e w112 ⟨hb_w112, v112, rfl, hv112⟩; refine XPost.mk _ (fun W => IsC W v112 (Y2)) hb_w112 (hv112) (IsC.cl _ _) ?_); clear hb_w112 hcS hS hF
 intro K hK; go_simp; (try go_bits); refine hK _ ?_; clear hK K
 obtain ⟨s112, A112, n112, c112, rfl⟩ := IsC.val hv112
 clear hv112
 refine wpQI_start [28] ?_; (iterate 1 (first | (apply wpQI_step (zA rfl) (by kernel_rfl) (by exact rfl); (focus (intro W' hS; have hcS := hS.cells; go_simp; (iterate 2 (first | done | exact rfl | exact bB _ | go_simp)))); intro K hK; go_simp; (try go_bits); refine hK _ ?_; clear hK K))); refine wpQI_nil ?_
 apply wpQ_call (i := 29) (zA rfl) (by kernel_rfl) (by exact rfl); intro W hF hS; have hcS := hS.1.cells; go_simp; (go_at_call 59; refine (K13.out _ _ (⟨_, _, _, _, _, _, _, _, _, _, _, _, rfl, hF.1.2, hF.2, (H106.out.below hS.1.2)⟩)).mono ?_; rintro e w113 ⟨hb_w113, v113, rfl, hv113⟩; refine XPost.mk _ (fun W => RAt W v113 (Q1) (Q2) (Q3)) hb_w113 (hv113) (RAt.cl _ _ _ _) ?_); clear hb_w113 hcS hS hF
 intro K hK; go_simp; (try go_bits); refine hK _ ?_; clear hK K
 obtain ⟨s113x, A113x, n113x, c113x, s113y, A113y, n113y, c113y, s113d, A113d, n113d, c113d, rfl⟩ := RAt.val hv113
 clear hv113
 refine wpQ_done (by kernel_rfl) ?_
 intro w114 hF_w114 hSG
 have hz_w114 := hSG.1.1
 have hb_w114 := hSG.1.2
 clear hSG
 (with_reducible apply cel2 (b := w.heap.size) hb_w114); ((try simp) <;> omega); omega; (iterate 2 (focus (go_simp; try exact rfl))); (intro o; go_simp); intro lT mM mG lQ; (with_reducible apply cel2 (b := w.heap.size + 1) hb_w114); ((try simp) <;> omega); omega; (iterate 2 (focus (go_simp; try exact rfl))); (intro o; go_simp); intro mT mK mU mL; (with_reducible apply cel2 (b := w.heap.size + 1 + 1) hb_w114); ((try simp) <;> omega); omega; (iterate 2 (focus (go_simp; try exact rfl))); (intro o; go_simp); intro mC mE mD mH; (with_reducible apply cel1 (b := w.heap.size + 1 + 1 + 1) hb_w114); ((try simp) <;> omega); omega; (focus (go_simp; try exact rfl)); (intro o; go_simp); intro lR lO lX; (with_reducible apply cel6 (b := w.heap.size + 1 + 1 + 1 + 1) hb_w114); ((try simp) <;> omega); omega; (iterate 6 (focus (go_simp; try exact rfl))); (intro o; go_simp); intro lW mB lM lS lL mF mP lZ; (with_reducible apply cel6 (b := w.heap.size + 1 + 1 + 1 + 1 + 1) hb_w114); ((try simp) <;> omega); omega; (iterate 6 (focus (go_simp; try exact rfl))); (intro o; go_simp); intro lV mW mR lU mN lY mS mA; (with_reducible apply cel1 (b := g_r5_8) hb_w114); ((try simp) <;> omega); omega; (focus (go_simp; try exact rfl)); (intro o; go_simp); intro mO mJ mV; (with_reducible apply cel1 (b := g_r5_9) hb_w114); ((try simp) <;> omega); omega; (focus (go_simp; try exact rfl)); (intro o; go_simp); intro lN mQ mX; (with_reducible apply cel2 (b := w106.heap.size) hb_w114); ((try simp) <;> omega); omega; (iterate 2 (focus (go_simp; try exact rfl))); (intro o; go_simp); intro lP lK mY mI
 (try simp only [List.filterMap_cons, List.filterMap_nil, List.getElem?_cons_succ, List.getElem?_cons_zero])
 clear H106
 have H108 := hQ0 (show IsC w114 (.agg #[.bool s108, .slice A108 n108 c108]) (X1) from hF_w114.1.1.1.1.1)
 have H109 := hQ0 (show IsC w114 (.agg #[.bool s109, .slice A109 n109 c109]) (X2) from hF_w114.1.1.1.1.2)
 have H110 := hQ0 (show RAt w114 (.agg #[.bool s110x, .slice A110x n110x c110x, .bool s110y, .slice A110y n110y c110y, .bool s110d, .slice A110d n110d c110d]) (P1) (P2) (P3) from hF_w114.1.1.1.2)
 have H111 := hQ0 (show IsC w114 (.agg #[.bool s111, .slice A111 n111 c111]) (Y1) from hF_w114.1.1.2)
 have H112 := hQ0 (show IsC w114 (.agg #[.bool s112, .slice A112 n112 c112]) (Y2) from hF_w114.1.2)
 have H113 := hQ0 (show RAt w114 (.agg #[.bool s113x, .slice A113x n113x c113x, .bool s113y, .slice A113y n113y c113y, .bool s113d, .slice A113d n113d c113d]) (Q1) (Q2) (Q3) from hF_w114.2)
 have HB114 := hQ0 (HB107.out.trans (hb_w114.mono (by have := HB107.out.size; omega)))
 have hz114 : w.heap.size + 1 + 1 + 1 + 1 + 1 + 1 ≤ w114.heap.size := by omega
 clear hF_w114 hb_w114
 clear jM lH aU iI bG eQ eA iN aZ gC lC jQ iV iX gV dI gM kU gO lD gK fV dA kI fX kZ eS dB eV jR dG aG jV jS aS fP jL dC iJ eR fZ
 go_wp2_with fail
 refine HQ_.out _ _ _ ?_
 clear HQ_ Q_
 go_wp2_with fail
 refine bodyPost_ret (v := .tuple #[.agg #[.bool s110x, .slice A110x n110x c110x, .bool s110y, .slice A110y n110y c110y, .bool s110d, .slice A110d n110d c110d], .agg #[.bool s113x, .slice A113x n113x c113x, .bool s113y, .slice A113y n113y c113y, .bool s113d, .slice A113d n113d c113d]]) (by simp only [results, Tryz.results53]; go_simp) rfl ⟨?_, ?_⟩
 · have hB := HB114.out; ((with_reducible (repeat (first | exact bR _ _ | apply bS | apply bA | apply bD | refine bT ?_ (by assumption) ?_ | refine bO (by assumption) ?_ ?_))) <;> (first | omega | (simp <;> omega)))
 · exact ⟨_, _, rfl, (by ((with_reducible (repeat (first | exact H110.out | refine RAt.al ?_ _ | apply RAt.st1))) <;> (first | (with_reducible assumption) | (intro _ e; cases e; done) | (go_simp; first | done | exact rfl)))), (by ((with_reducible (repeat (first | exact H113.out | refine RAt.al ?_ _ | apply RAt.st1))) <;> (first | (with_reducible assumption) | (intro _ e; cases e; done) | (go_simp; first | done | exact rfl))))⟩
theorem within_bd2 {a b n : Int} (h : withinB a b n = true) : -n ≤ a ∧ a ≤ n ∧ -n ≤ b ∧ b ≤ n := by simpa [withinB] using h
theorem lowG_pos (x y d : Int) (hd : 0 < d) : (0 : Int) < lowG x y d := by
 unfold lowG
 have : 0 < Nat.gcd (Nat.gcd x.natAbs y.natAbs) d.natAbs := Nat.gcd_pos_of_pos_right _ (by omega)
 omega
theorem lowG_dvd (x y d : Int) : (lowG x y d : Int) ∣ x ∧ (lowG x y d : Int) ∣ y ∧ (lowG x y d : Int) ∣ d := by
 unfold lowG
 have h1 : Nat.gcd (Nat.gcd x.natAbs y.natAbs) d.natAbs ∣ Nat.gcd x.natAbs y.natAbs := Nat.gcd_dvd_left _ _
 exact ⟨Int.ofNat_dvd_left.2 (Nat.dvd_trans h1 (Nat.gcd_dvd_left _ _)), Int.ofNat_dvd_left.2 (Nat.dvd_trans h1 (Nat.gcd_dvd_right _ _)), Int.ofNat_dvd_left.2 (Nat.gcd_dvd_right _ _)⟩
theorem lowR_mul (x y d : Int) (hd : 0 < d) : ∃ G : Int, 0 < G ∧ x = G * (lowR x y d).1 ∧ y = G * (lowR x y d).2.1 ∧ d = G * (lowR x y d).2.2 ∧ 0 < (lowR x y d).2.2 := by
 obtain ⟨h1, h2, h3⟩ := lowG_dvd x y d
 have hp := lowG_pos x y d hd
 have e3 : d = (lowG x y d : Int) * (lowR x y d).2.2 := (Int.mul_tdiv_cancel' h3).symm
 refine ⟨lowG x y d, hp, (Int.mul_tdiv_cancel' h1).symm, (Int.mul_tdiv_cancel' h2).symm, e3, ?_⟩
 rcases Int.lt_or_le 0 (lowR x y d).2.2 with h | h
 · exact h
 · have := Int.mul_le_mul_of_nonneg_left h (Int.le_of_lt hp)
   rw [Int.mul_zero, ← e3] at this
   omega
theorem sq_nn (x : Int) : 0 ≤ x * x := by
 rcases Int.le_total 0 x with h | h
 · exact Int.mul_nonneg h h
 · exact Int.mul_nonneg_of_nonpos_of_nonpos h h
theorem sq_le {t B : Int} (hB : 0 ≤ B) (h : t * t ≤ B * B) : -B ≤ t ∧ t ≤ B := by
 constructor
 · rcases Int.lt_or_le t (-B) with g | g
   · exfalso
     have : (B + 1) * (B + 1) ≤ (-t) * (-t) := Int.mul_le_mul (by omega) (by omega) (by omega) (by omega)
     rw [Int.neg_mul_neg] at this
     have e : (B + 1) * (B + 1) = B * B + 2 * B + 1 := by grind
     omega
   · exact g
 · rcases Int.lt_or_le B t with g | g
   · exfalso
     have : (B + 1) * (B + 1) ≤ t * t := Int.mul_le_mul (by omega) (by omega) (by omega) (by omega)
     have e : (B + 1) * (B + 1) = B * B + 2 * B + 1 := by grind
     omega
   · exact g
def Leq (r : Int × Int × Int) (n : Int) : Prop := r.1 * r.1 + r.2.1 * r.2.1 ≤ r.2.2 * r.2.2 * n
theorem leq_low {x y d n : Int} (hd : 0 < d) (h : x * x + y * y ≤ d * d * n) : Leq (lowR x y d) n := by
 obtain ⟨G, hG, e1, e2, e3, hd'⟩ := lowR_mul x y d hd
 unfold Leq
 generalize (lowR x y d).1 = x' at *
 generalize (lowR x y d).2.1 = y' at *
 generalize (lowR x y d).2.2 = d' at *
 subst e1 e2 e3
 have h2 : G * G * (x' * x' + y' * y') ≤ G * G * (d' * d' * n) := by
  have a : G * G * (x' * x' + y' * y') = G * x' * (G * x') + G * y' * (G * y') := by grind
  have b : G * G * (d' * d' * n) = G * d' * (G * d') * n := by grind
  rw [a, b]; exact h
 exact Int.le_of_mul_le_mul_left h2 (Int.mul_pos hG hG)
theorem rel_leq (u1 u2 n1 n2 e g : Int) (he : 0 ≤ e ∧ e ≤ 15) (hg : 0 ≤ g ∧ g ≤ 15) :
  ((16 - g) * u1 * (n1 * n1 + n2 * n2) - (16 + e - g) * n1 * (u1 * n1 + u2 * n2)) * ((16 - g) * u1 * (n1 * n1 + n2 * n2) - (16 + e - g) * n1 * (u1 * n1 + u2 * n2)) +
  ((16 - g) * u2 * (n1 * n1 + n2 * n2) - (16 + e - g) * n2 * (u1 * n1 + u2 * n2)) * ((16 - g) * u2 * (n1 * n1 + n2 * n2) - (16 + e - g) * n2 * (u1 * n1 + u2 * n2)) ≤
  (16 * (n1 * n1 + n2 * n2)) * (16 * (n1 * n1 + n2 * n2)) * (u1 * u1 + u2 * u2) := by
 have m0 : 0 ≤ n1 * n1 + n2 * n2 := by have := sq_nn n1; have := sq_nn n2; omega
 have s0 := sq_nn (u1 * n2 - u2 * n1)
 have c0 := sq_nn (u1 * n1 + u2 * n2)
 have id1 : ((16 - g) * u1 * (n1 * n1 + n2 * n2) - (16 + e - g) * n1 * (u1 * n1 + u2 * n2)) * ((16 - g) * u1 * (n1 * n1 + n2 * n2) - (16 + e - g) * n1 * (u1 * n1 + u2 * n2)) +
  ((16 - g) * u2 * (n1 * n1 + n2 * n2) - (16 + e - g) * n2 * (u1 * n1 + u2 * n2)) * ((16 - g) * u2 * (n1 * n1 + n2 * n2) - (16 + e - g) * n2 * (u1 * n1 + u2 * n2)) =
  (16 - g) * (16 - g) * ((n1 * n1 + n2 * n2) * ((u1 * n2 - u2 * n1) * (u1 * n2 - u2 * n1))) + e * e * ((n1 * n1 + n2 * n2) * ((u1 * n1 + u2 * n2) * (u1 * n1 + u2 * n2))) := by grind
 have id2 : (16 * (n1 * n1 + n2 * n2)) * (16 * (n1 * n1 + n2 * n2)) * (u1 * u1 + u2 * u2) =
  256 * ((n1 * n1 + n2 * n2) * ((u1 * n2 - u2 * n1) * (u1 * n2 - u2 * n1))) + 256 * ((n1 * n1 + n2 * n2) * ((u1 * n1 + u2 * n2) * (u1 * n1 + u2 * n2))) := by grind
 rw [id1, id2]
 have a := Int.mul_le_mul_of_nonneg_right (show (16 - g) * (16 - g) ≤ 256 from Int.mul_le_mul (a := 16 - g) (c := 16) (b := 16 - g) (d := 16) (by omega) (by omega) (by omega) (by omega)) (Int.mul_nonneg m0 s0)
 have b := Int.mul_le_mul_of_nonneg_right (show e * e ≤ 256 from Int.mul_le_mul (a := e) (c := 16) (b := e) (d := 16) (by omega) (by omega) (by omega) (by omega)) (Int.mul_nonneg m0 c0)
 omega
theorem statR_on {v1 v2 w1 w2 n1 n2 e g : Int} (ha : apprB v1 v2 w1 w2 n1 n2 = true) (he : sixB e = true) (hg : sixB g = true) :
  statR v1 v2 w1 w2 n1 n2 e g = lowR (statX v1 (v1 - w1) n1 (n1 * n1 + n2 * n2) ((v1 - w1) * n1 + (v2 - w2) * n2) e g) (statX v2 (v2 - w2) n2 (n1 * n1 + n2 * n2) ((v1 - w1) * n1 + (v2 - w2) * n2) e g) (16 * (n1 * n1 + n2 * n2)) := by
 unfold statR
 rw [if_pos ⟨(appr_bd ha).1, by rw [he, hg]; rfl⟩, if_pos ha]
theorem statR_off {v1 v2 w1 w2 n1 n2 e g : Int} (hp : permB v1 v2 w1 w2 n1 n2 = true) (ha : apprB v1 v2 w1 w2 n1 n2 = false) (he : sixB e = true) (hg : sixB g = true) :
  statR v1 v2 w1 w2 n1 n2 e g = (v1, v2, 1) := by
 unfold statR
 rw [if_pos ⟨hp, by rw [he, hg]; rfl⟩, if_neg (by rw [ha]; decide)]
theorem pairR_on {v1 v2 w1 w2 n1 n2 e : Int} (ha : apprB v1 v2 w1 w2 n1 n2 = true) (he : sixB e = true) :
  pairR v1 v2 w1 w2 n1 n2 e = (lowR (pairX v1 n1 (n1 * n1 + n2 * n2) ((v1 - w1) * n1 + (v2 - w2) * n2) e (-1)) (pairX v2 n2 (n1 * n1 + n2 * n2) ((v1 - w1) * n1 + (v2 - w2) * n2) e (-1)) (32 * (n1 * n1 + n2 * n2)),
    lowR (pairX w1 n1 (n1 * n1 + n2 * n2) ((v1 - w1) * n1 + (v2 - w2) * n2) e 1) (pairX w2 n2 (n1 * n1 + n2 * n2) ((v1 - w1) * n1 + (v2 - w2) * n2) e 1) (32 * (n1 * n1 + n2 * n2))) := by
 unfold pairR
 rw [if_pos ⟨(appr_bd ha).1, he⟩, if_pos ha]
theorem pairR_off {v1 v2 w1 w2 n1 n2 e : Int} (hp : permB v1 v2 w1 w2 n1 n2 = true) (ha : apprB v1 v2 w1 w2 n1 n2 = false) (he : sixB e = true) :
  pairR v1 v2 w1 w2 n1 n2 e = ((v1, v2, 1), (w1, w2, 1)) := by
 unfold pairR
 rw [if_pos ⟨hp, he⟩, if_neg (by rw [ha]; decide)]
structure Lens (r : Int × Int × Int) : Prop where
  x : (canN r.1.natAbs).length ≤ 10
  y : (canN r.2.1.natAbs).length ≤ 10
  d : (canN r.2.2.natAbs).length ≤ 10
theorem lens_vec {a b : Int} (ha : -1048576 ≤ a ∧ a ≤ 1048576) (hb : -1048576 ≤ b ∧ b ≤ 1048576) : Lens (a, b, 1) := ⟨len_wd (by simp only; omega) (by simp only; omega), len_wd (by simp only; omega) (by simp only; omega), len_wd (by simp only; omega) (by simp only; omega)⟩
theorem lens_zero : Lens (0, 0, 0) := ⟨len_wd (by decide) (by decide), len_wd (by decide) (by decide), len_wd (by decide) (by decide)⟩
theorem stat_lens (v1 v2 w1 w2 n1 n2 e g : Int) : Lens (statR v1 v2 w1 w2 n1 n2 e g) ∧ (permB v1 v2 w1 w2 n1 n2 = true → sixB e = true → sixB g = true → 0 < (statR v1 v2 w1 w2 n1 n2 e g).2.2) := by
 by_cases h : permB v1 v2 w1 w2 n1 n2 = true ∧ (sixB e && sixB g) = true
 · obtain ⟨hp, h2⟩ := h
   rw [Bool.and_eq_true] at h2
   obtain ⟨he, hg⟩ := h2
   cases ha : apprB v1 v2 w1 w2 n1 n2
   · rw [statR_off hp ha he hg]
     obtain ⟨bv, _, _⟩ := perm_bd hp
     exact ⟨lens_vec (by omega) (by omega), fun _ _ _ => Int.zero_lt_one⟩
   · rw [statR_on ha he hg]
     obtain ⟨_, _, q⟩ := appr_bd ha
     obtain ⟨_, p3, p4⟩ := perm_prod hp
     obtain ⟨a, b, c, d⟩ := lowR_bd (n := 10) (d := 16 * (n1 * n1 + n2 * n2)) (by omega) (sm1 hp he hg).len (sm2 hp he hg).len (len_wd (by omega) (by omega))
     exact ⟨⟨b, c, d⟩, fun _ _ _ => a⟩
 · have : statR v1 v2 w1 w2 n1 n2 e g = (0, 0, 0) := by unfold statR; exact if_neg h
   rw [this]
   exact ⟨lens_zero, fun a b c => absurd ⟨a, by rw [b, c]; rfl⟩ h⟩
theorem pair_lens (v1 v2 w1 w2 n1 n2 e : Int) : (Lens (pairR v1 v2 w1 w2 n1 n2 e).1 ∧ Lens (pairR v1 v2 w1 w2 n1 n2 e).2) ∧ (permB v1 v2 w1 w2 n1 n2 = true → sixB e = true → 0 < (pairR v1 v2 w1 w2 n1 n2 e).1.2.2 ∧ 0 < (pairR v1 v2 w1 w2 n1 n2 e).2.2.2) := by
 by_cases h : permB v1 v2 w1 w2 n1 n2 = true ∧ sixB e = true
 · obtain ⟨hp, he⟩ := h
   obtain ⟨bv, bw, bn⟩ := perm_bd hp
   cases ha : apprB v1 v2 w1 w2 n1 n2
   · rw [pairR_off hp ha he]
     exact ⟨⟨lens_vec (by omega) (by omega), lens_vec (by omega) (by omega)⟩, fun _ _ => ⟨Int.zero_lt_one, Int.zero_lt_one⟩⟩
   · rw [pairR_on ha he]
     obtain ⟨_, _, q⟩ := appr_bd ha
     obtain ⟨_, p3, p4⟩ := perm_prod hp
     have ld := len_wd (z := 32 * (n1 * n1 + n2 * n2)) (by omega) (by omega)
     obtain ⟨a, b, c, d⟩ := lowR_bd (n := 10) (d := 32 * (n1 * n1 + n2 * n2)) (by omega) (sp1 (x := v1) (n := n1) (sgn := -1) hp he (by omega) (by omega) (by omega)).len (sp1 (x := v2) (n := n2) (sgn := -1) hp he (by omega) (by omega) (by omega)).len ld
     obtain ⟨a', b', c', d'⟩ := lowR_bd (n := 10) (d := 32 * (n1 * n1 + n2 * n2)) (by omega) (sp1 (x := w1) (n := n1) (sgn := 1) hp he (by omega) (by omega) (by omega)).len (sp1 (x := w2) (n := n2) (sgn := 1) hp he (by omega) (by omega) (by omega)).len ld
     exact ⟨⟨⟨b, c, d⟩, ⟨b', c', d'⟩⟩, fun _ _ => ⟨a, a'⟩⟩
 · have : pairR v1 v2 w1 w2 n1 n2 e = ((0, 0, 0), (0, 0, 0)) := by unfold pairR; exact if_neg h
   rw [this]
   exact ⟨⟨lens_zero, lens_zero⟩, fun a b => absurd ⟨a, b⟩ h⟩
theorem Lens.val {r : Int × Int × Int} (h : Lens r) (hd : 0 < r.2.2) : Val r := ⟨hd, by have := h.x; omega, by have := h.y; omega, by have := h.d; omega⟩
theorem stat_rel {v1 v2 w1 w2 n1 n2 e g : Int} (hp : permB v1 v2 w1 w2 n1 n2 = true) (he : sixB e = true) (hg : sixB g = true) :
  Leq (sumR (statR v1 v2 w1 w2 n1 n2 e g) (-w1, -w2, 1)) ((v1 - w1) * (v1 - w1) + (v2 - w2) * (v2 - w2)) := by
 unfold sumR
 cases ha : apprB v1 v2 w1 w2 n1 n2
 · rw [statR_off hp ha he hg]
   refine leq_low (by simp only; omega) ?_
   simp only
   apply Int.le_of_eq
   grind
 · rw [statR_on ha he hg]
   obtain ⟨_, _, q⟩ := appr_bd ha
   simp only [sixB, decide_eq_true_eq] at he hg
   have hrel := rel_leq (v1 - w1) (v2 - w2) n1 n2 e g he hg
   obtain ⟨G, hG, e1, e2, e3, hd⟩ := lowR_mul (statX v1 (v1 - w1) n1 (n1 * n1 + n2 * n2) ((v1 - w1) * n1 + (v2 - w2) * n2) e g) (statX v2 (v2 - w2) n2 (n1 * n1 + n2 * n2) ((v1 - w1) * n1 + (v2 - w2) * n2) e g) (16 * (n1 * n1 + n2 * n2)) (by omega)
   generalize hL : lowR (statX v1 (v1 - w1) n1 (n1 * n1 + n2 * n2) ((v1 - w1) * n1 + (v2 - w2) * n2) e g) (statX v2 (v2 - w2) n2 (n1 * n1 + n2 * n2) ((v1 - w1) * n1 + (v2 - w2) * n2) e g) (16 * (n1 * n1 + n2 * n2)) = L at *
   obtain ⟨x, y, d⟩ := L
   simp only at e1 e2 e3 hd ⊢
   refine leq_low (by omega) ?_
   have h2 : G * G * ((x * 1 + -w1 * d) * (x * 1 + -w1 * d) + (y * 1 + -w2 * d) * (y * 1 + -w2 * d)) ≤ G * G * (d * 1 * (d * 1) * ((v1 - w1) * (v1 - w1) + (v2 - w2) * (v2 - w2))) := by
    have r1 : G * (x * 1 + -w1 * d) = (16 - g) * (v1 - w1) * (n1 * n1 + n2 * n2) - (16 + e - g) * n1 * ((v1 - w1) * n1 + (v2 - w2) * n2) := by
     have : G * (x * 1 + -w1 * d) = G * x - w1 * (G * d) := by grind
     rw [this, ← e1, ← e3]; unfold statX; grind
    have r2 : G * (y * 1 + -w2 * d) = (16 - g) * (v2 - w2) * (n1 * n1 + n2 * n2) - (16 + e - g) * n2 * ((v1 - w1) * n1 + (v2 - w2) * n2) := by
     have : G * (y * 1 + -w2 * d) = G * y - w2 * (G * d) := by grind
     rw [this, ← e2, ← e3]; unfold statX; grind
    have a : G * G * ((x * 1 + -w1 * d) * (x * 1 + -w1 * d) + (y * 1 + -w2 * d) * (y * 1 + -w2 * d)) = G * (x * 1 + -w1 * d) * (G * (x * 1 + -w1 * d)) + G * (y * 1 + -w2 * d) * (G * (y * 1 + -w2 * d)) := by grind
    have b : G * G * (d * 1 * (d * 1) * ((v1 - w1) * (v1 - w1) + (v2 - w2) * (v2 - w2))) = G * d * (G * d) * ((v1 - w1) * (v1 - w1) + (v2 - w2) * (v2 - w2)) := by grind
    rw [a, b, r1, r2, ← e3]
    exact hrel
   exact Int.le_of_mul_le_mul_left h2 (Int.mul_pos hG hG)
theorem pair_leq {v1 v2 w1 w2 n1 n2 e : Int} (hp : permB v1 v2 w1 w2 n1 n2 = true) (he : sixB e = true) :
  ((pairR v1 v2 w1 w2 n1 n2 e).1.1 * (pairR v1 v2 w1 w2 n1 n2 e).1.1 + (pairR v1 v2 w1 w2 n1 n2 e).1.2.1 * (pairR v1 v2 w1 w2 n1 n2 e).1.2.1) * ((pairR v1 v2 w1 w2 n1 n2 e).2.2.2 * (pairR v1 v2 w1 w2 n1 n2 e).2.2.2) +
  ((pairR v1 v2 w1 w2 n1 n2 e).2.1 * (pairR v1 v2 w1 w2 n1 n2 e).2.1 + (pairR v1 v2 w1 w2 n1 n2 e).2.2.1 * (pairR v1 v2 w1 w2 n1 n2 e).2.2.1) * ((pairR v1 v2 w1 w2 n1 n2 e).1.2.2 * (pairR v1 v2 w1 w2 n1 n2 e).1.2.2) ≤
  ((pairR v1 v2 w1 w2 n1 n2 e).1.2.2 * (pairR v1 v2 w1 w2 n1 n2 e).1.2.2) * ((pairR v1 v2 w1 w2 n1 n2 e).2.2.2 * (pairR v1 v2 w1 w2 n1 n2 e).2.2.2) * (v1 * v1 + v2 * v2 + (w1 * w1 + w2 * w2)) := by
 cases ha : apprB v1 v2 w1 w2 n1 n2
 · rw [pairR_off hp ha he]
   simp only
   omega
 · rw [pairR_on ha he]
   obtain ⟨_, _, q⟩ := appr_bd ha
   simp only [sixB, decide_eq_true_eq] at he
   generalize hC : (v1 - w1) * n1 + (v2 - w2) * n2 = C at *
   generalize hM : n1 * n1 + n2 * n2 = M at *
   obtain ⟨G, hG, e1, e2, e3, hd⟩ := lowR_mul (pairX v1 n1 M C e (-1)) (pairX v2 n2 M C e (-1)) (32 * M) (by omega)
   obtain ⟨H, hH, f1, f2, f3, hd'⟩ := lowR_mul (pairX w1 n1 M C e 1) (pairX w2 n2 M C e 1) (32 * M) (by omega)
   have hcore : (pairX v1 n1 M C e (-1)) * (pairX v1 n1 M C e (-1)) + (pairX v2 n2 M C e (-1)) * (pairX v2 n2 M C e (-1)) + ((pairX w1 n1 M C e 1) * (pairX w1 n1 M C e 1) + (pairX w2 n2 M C e 1) * (pairX w2 n2 M C e 1)) ≤ (32 * M) * (32 * M) * (v1 * v1 + v2 * v2 + (w1 * w1 + w2 * w2)) := by
    have id : (pairX v1 n1 M C e (-1)) * (pairX v1 n1 M C e (-1)) + (pairX v2 n2 M C e (-1)) * (pairX v2 n2 M C e (-1)) + ((pairX w1 n1 M C e 1) * (pairX w1 n1 M C e 1) + (pairX w2 n2 M C e 1) * (pairX w2 n2 M C e 1)) = (32 * M) * (32 * M) * (v1 * v1 + v2 * v2 + (w1 * w1 + w2 * w2)) - 2 * ((16 + e) * ((16 - e) * (M * (C * C)))) := by
     unfold pairX
     rw [← hC, ← hM]
     grind
    have : 0 ≤ (16 + e) * ((16 - e) * (M * (C * C))) := Int.mul_nonneg (by omega) (Int.mul_nonneg (by omega) (Int.mul_nonneg (by omega) (sq_nn C)))
    omega
   generalize (lowR (pairX v1 n1 M C e (-1)) (pairX v2 n2 M C e (-1)) (32 * M)) = p at *
   generalize (lowR (pairX w1 n1 M C e 1) (pairX w2 n2 M C e 1) (32 * M)) = r at *
   obtain ⟨x, y, d⟩ := p
   obtain ⟨x', y', d'⟩ := r
   simp only at *
   rw [e1, e2, f1, f2] at hcore
   have hD : 32 * M * (32 * M) = G * d * (G * d) := by rw [← e3]
   have hD' : H * d' * (H * d') = G * d * (G * d) := by rw [← e3, ← f3]
   have hN := hcore
   rw [hD] at hN
   generalize v1 * v1 + v2 * v2 + (w1 * w1 + w2 * w2) = N at *
   have hpos : 0 < G * G * (H * H) := Int.mul_pos (Int.mul_pos hG hG) (Int.mul_pos hH hH)
   refine Int.le_of_mul_le_mul_left ?_ hpos
   have a1 : G * G * (H * H) * ((x * x + y * y) * (d' * d') + (x' * x' + y' * y') * (d * d)) = (G * x * (G * x) + G * y * (G * y)) * (H * d' * (H * d')) + (H * x' * (H * x') + H * y' * (H * y')) * (G * d * (G * d)) := by grind
   have a2 : G * G * (H * H) * (d * d * (d' * d') * N) = (G * d * (G * d)) * ((H * d' * (H * d')) * N) := by grind
   rw [a1, a2, hD']
   have := Int.mul_le_mul_of_nonneg_left hN (sq_nn (G * d))
   have a3 : (G * x * (G * x) + G * y * (G * y)) * (G * d * (G * d)) + (H * x' * (H * x') + H * y' * (H * y')) * (G * d * (G * d)) = G * d * (G * d) * (G * x * (G * x) + G * y * (G * y) + (H * x' * (H * x') + H * y' * (H * y'))) := by grind
   rw [a3]
   exact this
set_option maxHeartbeats 1000000 in
theorem trim_any (n : Nat) (v : Value) (z : Int) (w : World) (h : IsZ w v n z) (hn : n ≤ 1000000) :
  Calls Tryz.prog 80 #[v] w (ZOut z w) := by
 obtain ⟨neg, A, c, l, rfl, hc, hL, hl, hA, rfl⟩ := h
 have hm := fun w hA => make1_any neg A l c w hL hA hc (by omega)
 obtain ⟨Z, hZ⟩ : ∃ Z, Z = sv neg (mv l) := ⟨_, rfl⟩
 rw [← hZ] at hm ⊢
 have HM := hQ0 hm
 have HA := hQ0 hA
 clear hm hA hZ
 go_enter Tryz.func80, Tryz.ntmps80; (try simp only [List.append_eq, List.cons_append, List.nil_append])
 go_wp2_with fail
 (go_at_call 71; refine (HM.out _ ((HA.out.alloc _).alloc _)).mono ?_; rintro e w1 ⟨hb_w1, v1, rfl, hv1⟩; have hz_w1 := hb_w1.size; (try simp at hz_w1); (with_reducible apply cal2 (b := w.heap.size) hb_w1); (focus (go_simp; try exact ⟨rfl, rfl⟩)); intro cc cc fz hl; (with_reducible apply cal2 (b := w.heap.size + 1) hb_w1); (focus (go_simp; try exact ⟨rfl, rfl⟩)); intro cc cc fz hl)
 obtain ⟨A1, c1, rfl, hc1, hA1⟩ := hv1
 have HC := hQ0 hc1
 have HA1 := hQ0 hA1
 clear hc1 hA1
 go_wp2_with fail
 refine bodyPost_ret (v := .agg #[.bool (decide (Z < 0)), .slice A1 (canN Z.natAbs).length c1]) (by simp only [results, Tryz.results80]; go_simp) rfl ⟨?_, ?_⟩
 · ((with_reducible (repeat (first | exact bR _ _ | apply bS | apply bA | apply bD | refine bT ?_ (by assumption) ?_ | refine bO (by assumption) ?_ ?_))) <;> (first | omega | (simp <;> omega)))
 · exact ⟨_, rfl, A1, c1, rfl, HC.out, HA1.out.set2 (by assumption) (by assumption) _ _⟩
def numR (z : Int) : Int × Bool := if -9223372036854775808 ≤ z ∧ z ≤ 9223372036854775807 then (z, true) else (0, false)
set_option maxRecDepth 100000 in
set_option maxHeartbeats 2000000 in
theorem number_any (n : Nat) (v : Value) (z : Int) (w : World) (h : IsZ w v n z) (hn : n ≤ 1000000) :
  Calls Tryz.prog 47 #[v] w fun e w' => e = .returned (.tuple #[.int .i64 (numR z).1, .bool (numR z).2]) ∧ Below w.heap.size w w' := by
 have hlen := isZ_len h
 have hZ := hQ0 h
 obtain ⟨p, A, c, l, rfl⟩ := isZ_val h
 have htr := fun w' (hb : Below w.heap.size w w') => trim_any n _ z w' (hZ.out.below hb) hn
 have HTR := hQ0 htr
 obtain ⟨r1, r2, hr⟩ : ∃ r1 r2, numR z = (r1, r2) := ⟨_, _, rfl⟩
 rw [hr]
 have HR := hQ0 hr
 obtain ⟨m, hm⟩ : ∃ m, m = z.natAbs := ⟨_, rfl⟩
 rw [← hm] at hlen
 have HM := hQ0 hm
 obtain ⟨ln, hln⟩ : ∃ ln, ln = (canN m).length := ⟨_, rfl⟩
 rw [← hln] at hlen
 have HLN := hQ0 hln
 clear h htr hr hm hln
 go_enter Tryz.func47, Tryz.ntmps47; (try simp only [List.append_eq, List.cons_append, List.nil_append])
 go_wp2_with fail
 (go_at_call 80; refine (HTR.out _ (by ((with_reducible (repeat (first | exact bR _ _ | apply bS | apply bA | apply bD | refine bT ?_ (by assumption) ?_ | refine bO (by assumption) ?_ ?_))) <;> (first | omega | (simp <;> omega))))).mono ?_; rintro e w1 ⟨hb_w1, v1, rfl, hv1⟩; have hz_w1 := hb_w1.size; (try simp at hz_w1); (with_reducible apply cal2 (b := w.heap.size) hb_w1); (focus (go_simp; try exact ⟨rfl, rfl⟩)); intro cc cc fz hl)
 obtain ⟨A1, c1, rfl, hc1, hA1⟩ := hv1
 rw [← HM.out] at hc1 hA1 ⊢
 rw [← HLN.out] at hc1 ⊢
 have HA1 := hQ0 hA1
 have HB1 := hQ0 (show Below w.heap.size w w1 by ((with_reducible (repeat (first | exact bR _ _ | apply bS | apply bA | apply bD | refine bT ?_ (by assumption) ?_ | refine bO (by assumption) ?_ ?_))) <;> (first | omega | (simp <;> omega))))
 have hz1 : w.heap.size + 1 ≤ w1.heap.size := by omega
 clear hA1 hb_w1
 obtain ⟨ng, hng⟩ : ∃ ng, ng = decide (z < 0) := ⟨_, rfl⟩
 rw [← hng]
 have HNG := hQ0 hng
 clear hng
 go_wp2_with fail
 have hlnm : (ln : Int) ≤ 1000000 := by omega
 go_loop [5, 6] (fun vu vi => ∃ (k : Nat) (u : Int), k ≤ ln ∧ vi = .int .i64 ((k : Int) - 1) ∧ vu = .int .u64 u ∧ Hid (ln ≤ 2 → u = mv ((canN m).drop k))) (fun _ vi => (intOf vi + 1).toNat)
 case atStart => exact ⟨ln, 0, Nat.le_refl _, rfl, rfl, hQ0 (fun _ => by rw [List.drop_of_length_le (by rw [← HLN.out]; exact Nat.le_refl _)]; rfl)⟩
 case round =>
  obtain ⟨k, u, hk, rfl, rfl, HU⟩ := hrel
  rcases k with _ | j
  · by_cases h2 : ln ≤ 2
    · have hu := HU.out h2
      rw [List.drop_zero, mv_canN] at hu
      subst hu
      have hm64 : (m : Int) < 18446744073709551616 := by
       have := (@canN_len m 2).1 (by rw [← HLN.out]; exact h2)
       have e : PB 2 = 18446744073709551616 := by decide
       omega
      have m0 : (0 : Int) ≤ (m : Int) := by omega
      have h3 : ¬ (2 : Int) < (ln : Int) := by omega
      have h3' : decide (2 < ln) = false := by simpa using h2
      have h3'' : ¬ 2 < ln := by omega
      have hr := HR.out
      unfold numR at hr
      have hmz := HM.out
      obtain ⟨M, hM⟩ : ∃ M : Int, M = (m : Int) := ⟨_, rfl⟩
      rw [← hM] at hm64 m0 ⊢
      by_cases hneg : z < 0
      · obtain rfl : ng = true := by rw [HNG.out]; exact decide_eq_true hneg
        by_cases hle : M ≤ 9223372036854775808
        · have hfin : r1 = z ∧ r2 = true := by rw [if_pos (by omega)] at hr; simp only [Prod.mk.injEq] at hr; exact ⟨hr.1.symm, hr.2.symm⟩
          obtain ⟨rfl, rfl⟩ := hfin
          obtain ⟨U, hU⟩ : ∃ U, U = IntKind.u64.wrap (-M) := ⟨_, rfl⟩
          have e2 : IntKind.i64.wrap U = r1 := by rw [hU, IntKind.wrap_u64, IntKind.wrap_i64]; omega
          have e1 := hU.symm
          clear hU hr hmz hM
          go_wp2_with fail
          go_ret2
          exact ⟨rfl, HB1.out.alloc (by omega) _⟩
        · have hle' : ¬ M ≤ 9223372036854775808 := hle
          have hfin : r1 = 0 ∧ r2 = false := by rw [if_neg (by omega)] at hr; simp only [Prod.mk.injEq] at hr; exact ⟨hr.1.symm, hr.2.symm⟩
          obtain ⟨rfl, rfl⟩ := hfin
          clear hr hmz hM
          go_wp2_with fail
          go_ret2
          exact ⟨rfl, HB1.out.alloc (by omega) _⟩
      · obtain rfl : ng = false := by rw [HNG.out]; exact decide_eq_false hneg
        by_cases hle : M < 9223372036854775808
        · have hfin : r1 = z ∧ r2 = true := by rw [if_pos (by omega)] at hr; simp only [Prod.mk.injEq] at hr; exact ⟨hr.1.symm, hr.2.symm⟩
          obtain ⟨rfl, rfl⟩ := hfin
          obtain rfl : M = r1 := by omega
          clear hr hmz hM
          go_wp2_with fail
          go_ret2
          exact ⟨rfl, HB1.out.alloc (by omega) _⟩
        · have hle' : ¬ M < 9223372036854775808 := hle
          have hfin : r1 = 0 ∧ r2 = false := by rw [if_neg (by omega)] at hr; simp only [Prod.mk.injEq] at hr; exact ⟨hr.1.symm, hr.2.symm⟩
          obtain ⟨rfl, rfl⟩ := hfin
          clear hr hmz hM
          go_wp2_with fail
          go_ret2
          exact ⟨rfl, HB1.out.alloc (by omega) _⟩
    · have h3 : (2 : Int) < (ln : Int) := by omega
      have h3'' : 2 < ln := by omega
      have hbig : ¬ (m : Int) < PB 2 := fun h => h2 (by rw [HLN.out]; exact canN_len.2 h)
      have e : PB 2 = 18446744073709551616 := by decide
      have hmz := HM.out
      have hr := HR.out
      unfold numR at hr
      rw [if_neg (by omega)] at hr
      simp only [Prod.mk.injEq] at hr
      obtain ⟨rfl, rfl⟩ := hr
      clear hbig e hmz
      go_wp2_with fail
      go_ret2
      exact ⟨rfl, HB1.out.alloc (by omega) _⟩
  · obtain ⟨x, hx⟩ : ∃ x, (canN m)[j]? = some x := ⟨(canN m)[j]'(by rw [← HLN.out]; omega), by simp⟩
    obtain ⟨x0, x1⟩ := (canN_lim m).get hx
    obtain ⟨g, o, rfl, hg, hcell⟩ := HA1.out j x hx
    have HX := hQ0 hx
    have i1 : (0 : Int) ≤ (j : Int) := by omega
    have i2 : (j : Int) < (ln : Int) := by omega
    rw [show (((j + 1 : Nat) : Int) - 1) = (j : Int) by omega]
    clear hx
    by_cases h2 : ln ≤ 2
    · have hu := HU.out h2
      have hlt := mv_lt ((canN_lim m).drop (j + 1))
      have hnn := mv_nonneg ((canN_lim m).drop (j + 1))
      rw [← hu] at hlt hnn
      have hu1 : u < 4294967296 := by
       have hl : ((canN m).drop (j + 1)).length ≤ 1 := by rw [List.length_drop, ← HLN.out]; omega
       have e0 : PB 0 = 1 := by decide
       have e1 : PB 1 = 4294967296 := by decide
       have : ((canN m).drop (j + 1)).length = 0 ∨ ((canN m).drop (j + 1)).length = 1 := by omega
       rcases this with h | h
       · rw [h] at hlt; omega
       · rw [h] at hlt; omega
      have hsh : IntKind.u64.wrap (u * 4294967296) = u * 4294967296 := by rw [IntKind.wrap_u64]; omega
      obtain ⟨v, hv⟩ : ∃ v, v = u * 4294967296 + x := ⟨_, rfl⟩
      have hor : bits .or .u64 (u * 4294967296) x = v := by
       rw [hv]
       exact bits_join .u64 64 (by decide) wraps_u64' 32 (u * 4294967296) x (by omega) (Int.mul_emod_left _ _) (by omega) x0 (by omega) (by omega)
      have HV := hQ0 (show v = mv ((canN m).drop j) by rw [mv_drop_succ HX.out, ← hu, hv]; omega)
      clear hu hlt hnn hv
      go_wp2_with fail
      go_round
      case rel => exact ⟨j, v, by omega, rfl, rfl, hQ0 (fun _ => HV.out)⟩
      case measure => simp [intOf]
    · go_wp2_with fail
      go_round
      case rel => exact ⟨j, _, by omega, rfl, rfl, hQ0 (fun h => absurd h h2)⟩
      case measure => simp [intOf]
end Go.Proofs.YtgejdaincnclpaaGreat
