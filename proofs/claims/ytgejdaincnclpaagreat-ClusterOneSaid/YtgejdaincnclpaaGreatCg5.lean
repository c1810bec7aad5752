/- Merged texts: RsL RsC RsJ Wint Wj RsW (what no proof of the claim needs is left out). -/
import Derived.Test.YtgejdaincnclpaaGreatCg4
import Derived.Test.YtgejdaincnclpaaGreatShelf
import Derived.Lib.ItoaNum
namespace Go.Proofs.YtgejdaincnclpaaGreat
open Go Go.RowKit
set_option linter.unusedVariables false
set_option maxRecDepth 100000 in
set_option maxHeartbeats 8000000 in
theorem whole_any (x y : Int) (w : World) (hx : -4611686018427387904 ≤ x ∧ x ≤ 4611686018427387904) (hy : -4611686018427387904 ≤ y ∧ y ≤ 4611686018427387904) :
    Calls Tryz.prog 85 #[.agg #[.int .i64 x, .int .i64 y]] w (ROut x y 1 w) := by
  have k1 := fun w => wof_any x w (by omega) (by omega)
  have k2 := fun w => wof_any y w (by omega) (by omega)
  obtain ⟨U, hU⟩ : ∃ U : Int, U = 1 := ⟨_, rfl⟩
  have k3 := fun w => ((by have := wof_any 1 w (by omega) (by omega); rw [hU]; exact this) : Calls Tryz.prog 57 #[.int .i64 1] w (ZOut U w))
  rw [← hU]
  have K1 := Lib.hid k1
  have K2 := Lib.hid k2
  have K3 := Lib.hid k3
  clear k1 k2 k3 hU
  go_enter Tryz.func85, Tryz.ntmps85; (try simp only [List.append_eq, List.cons_append, List.nil_append])
  go_wp2_with fail
  (refine pin_wp (N := _) (Nat.le_refl _) (fun w2 hb_w2 hz_w2 => ?_); (try simp at hz_w2); (with_reducible apply cel2 (b := w.heap.size) hb_w2); (focus ((try simp) <;> omega)); (focus omega); (iterate 2 (focus (go_simp; try exact rfl))); (focus (intro o; go_simp)); intro c_w2_0_0 c_w2_0_1 fz_w2_0 hl_w2_0; (with_reducible apply cel6 (b := w.heap.size + 1) hb_w2); (focus ((try simp) <;> omega)); (focus omega); (iterate 6 (focus (go_simp; try exact rfl))); (focus (intro o; go_simp)); intro c_w2_1_0 c_w2_1_1 c_w2_1_2 c_w2_1_3 c_w2_1_4 c_w2_1_5 fz_w2_1 hl_w2_1); refine wp_q (fun Q_ HQ_ => ?_); refine wp_region_floatQ w2.heap.size 8 [8] (Nat.le_refl _) (fun _ => True) trivial Cl.tt (by kernel_rfl) (by kernel_rfl) ?_
  have HB2 := Lib.hid (show Below w.heap.size w w2 by ((with_reducible (repeat (first | exact bR _ _ | refine bS ?_ ?_ _ | refine bA ?_ ?_ _ | refine bD ?_ | refine bT ?_ (by assumption) ?_ | refine bO (by assumption) ?_ ?_))) <;> (first | omega | (simp <;> omega))))
  have hz2 : w.heap.size + 1 + 1 ≤ w2.heap.size := by omega
  clear hb_w2
  skip
  refine wpQI_start [0, 1] ?_; (iterate 2 (first | (apply wpQI_step (by with_reducible (refine zA ?_; (repeat (first | exact zB | refine zC ?_)))) (by kernel_rfl) (by exact rfl); (focus (intro W' hS; have hcS := hS.cells.1; have hfS := hS.cells.2; go_simp; (first | done | exact rfl | exact bB _ | (go_simp; first | done | exact rfl | exact bB _)))); intro K hK; go_simp; (try go_bits); refine hK _ ?_; clear hK K))); refine wpQI_nil ?_
  refine wpQI_start [3, 4] ?_; (iterate 2 (first | (apply wpQI_step (by with_reducible (refine zA ?_; (repeat (first | exact zB | refine zC ?_)))) (by kernel_rfl) (by exact rfl); (focus (intro W' hS; have hcS := hS.cells.1; have hfS := hS.cells.2; go_simp; (first | done | exact rfl | exact bB _ | (go_simp; first | done | exact rfl | exact bB _)))); intro K hK; go_simp; (try go_bits); refine hK _ ?_; clear hK K))); refine wpQI_nil ?_
  apply wpQ_call (i := 2) (by with_reducible (refine zA ?_; (repeat (first | exact zB | refine zC ?_)))) (by kernel_rfl) (by exact rfl); intro W hF hS; have hcS := hS.1.cells.1; have hfS := hS.1.cells.2; go_simp; (go_at_call 57; refine (K1.out _).mono ?_; rintro e w3 ⟨hb_w3, v3, rfl, hv3⟩; refine XPost.mk _ (fun W => IsC W v3 (x)) hb_w3 (hv3) (IsC.cl _ _) ?_); clear hb_w3 hcS hfS hS hF
  intro K hK; go_simp; (try go_bits); refine hK _ ?_; clear hK K
  obtain ⟨s3, A3, n3, c3, rfl⟩ := IsC.val hv3
  clear hv3
  apply wpQ_call (i := 5) (by with_reducible (refine zA ?_; (repeat (first | exact zB | refine zC ?_)))) (by kernel_rfl) (by exact rfl); intro W hF hS; have hcS := hS.1.cells.1; have hfS := hS.1.cells.2; go_simp; (go_at_call 57; refine (K2.out _).mono ?_; rintro e w4 ⟨hb_w4, v4, rfl, hv4⟩; refine XPost.mk _ (fun W => IsC W v4 (y)) hb_w4 (hv4) (IsC.cl _ _) ?_); clear hb_w4 hcS hfS hS hF
  intro K hK; go_simp; (try go_bits); refine hK _ ?_; clear hK K
  obtain ⟨s4, A4, n4, c4, rfl⟩ := IsC.val hv4
  clear hv4
  apply wpQ_call (i := 6) (by with_reducible (refine zA ?_; (repeat (first | exact zB | refine zC ?_)))) (by kernel_rfl) (by exact rfl); intro W hF hS; have hcS := hS.1.cells.1; have hfS := hS.1.cells.2; go_simp; (go_at_call 57; refine (K3.out _).mono ?_; rintro e w5 ⟨hb_w5, v5, rfl, hv5⟩; refine XPost.mk _ (fun W => IsC W v5 (U)) hb_w5 (hv5) (IsC.cl _ _) ?_); clear hb_w5 hcS hfS hS hF
  intro K hK; go_simp; (try go_bits); refine hK _ ?_; clear hK K
  obtain ⟨s5, A5, n5, c5, rfl⟩ := IsC.val hv5
  clear hv5
  refine wpQI_start [7] ?_; (iterate 1 (first | (apply wpQI_step (by with_reducible (refine zA ?_; (repeat (first | exact zB | refine zC ?_)))) (by kernel_rfl) (by exact rfl); (focus (intro W' hS; have hcS := hS.cells.1; have hfS := hS.cells.2; go_simp; (first | done | exact rfl | exact bB _ | (go_simp; first | done | exact rfl | exact bB _)))); intro K hK; go_simp; (try go_bits); refine hK _ ?_; clear hK K))); refine wpQI_nil ?_
  refine wpQ_done (by kernel_rfl) ?_
  intro w6 hF_w6 hSG
  have hz_w6 := hSG.1.1
  have hb_w6 := hSG.1.2
  clear hSG
  (with_reducible apply cel2 (b := w.heap.size) hb_w6); (focus ((try simp) <;> omega)); (focus omega); (iterate 2 (focus (go_simp; try exact rfl))); (focus (intro o; go_simp)); intro c_w6_0_0 c_w6_0_1 fz_w6_0 hl_w6_0; (with_reducible apply cel6 (b := w.heap.size + 1) hb_w6); (focus ((try simp) <;> omega)); (focus omega); (iterate 6 (focus (go_simp; try exact rfl))); (focus (intro o; go_simp)); intro c_w6_1_0 c_w6_1_1 c_w6_1_2 c_w6_1_3 c_w6_1_4 c_w6_1_5 fz_w6_1 hl_w6_1
  (try simp only [List.filterMap_cons, List.filterMap_nil, List.getElem?_cons_succ, List.getElem?_cons_zero])
  have H3 := Lib.hid (show IsC w6 (.agg #[.bool s3, .slice A3 n3 c3]) (x) from hF_w6.1.1)
  have H4 := Lib.hid (show IsC w6 (.agg #[.bool s4, .slice A4 n4 c4]) (y) from hF_w6.1.2)
  have H5 := Lib.hid (show IsC w6 (.agg #[.bool s5, .slice A5 n5 c5]) (U) from hF_w6.2)
  have HB6 := Lib.hid (HB2.out.trans (hb_w6.mono (by have := HB2.out.size; omega)))
  have hz6 : w.heap.size + 1 + 1 ≤ w6.heap.size := by omega
  clear hF_w6 hb_w6
  clear c_w2_0_0 c_w2_0_1 fz_w2_0 hl_w2_0 c_w2_1_0 c_w2_1_1 c_w2_1_2 c_w2_1_3 c_w2_1_4 c_w2_1_5 fz_w2_1 hl_w2_1
  go_wp2_with fail
  refine HQ_.out _ _ _ ?_
  clear HQ_ Q_
  go_wp2_with fail
  refine bodyPost_ret (v := .agg #[.bool s3, .slice A3 n3 c3, .bool s4, .slice A4 n4 c4, .bool s5, .slice A5 n5 c5]) (by simp only [results, Tryz.results85]; go_simp) rfl ⟨?_, ?_⟩
  · have hB := HB6.out; ((with_reducible (repeat (first | exact bR _ _ | refine bS ?_ ?_ _ | refine bA ?_ ?_ _ | refine bD ?_ | refine bT ?_ (by assumption) ?_ | refine bO (by assumption) ?_ ?_))) <;> (first | omega | (simp <;> omega)))
  · exact ⟨_, rfl, ⟨_, _, _, _, _, _, _, _, _, _, _, _, rfl, (by ((repeat (first | (with_reducible exact H3.out) | (with_reducible refine IsC.al ?_ _) | (with_reducible apply IsC.st1))) <;> (first | (with_reducible assumption) | (intro _ e; cases e; done) | (go_simp; first | done | exact rfl)))), (by ((repeat (first | (with_reducible exact H4.out) | (with_reducible refine IsC.al ?_ _) | (with_reducible apply IsC.st1))) <;> (first | (with_reducible assumption) | (intro _ e; cases e; done) | (go_simp; first | done | exact rfl)))), (by ((repeat (first | (with_reducible exact H5.out) | (with_reducible refine IsC.al ?_ _) | (with_reducible apply IsC.st1))) <;> (first | (with_reducible assumption) | (intro _ e; cases e; done) | (go_simp; first | done | exact rfl))))⟩⟩
set_option maxRecDepth 100000 in
set_option maxHeartbeats 8000000 in
theorem rwhole_any (x y : Int) (w : World) (hx : -4611686018427387904 ≤ x ∧ x ≤ 4611686018427387904) (hy : -4611686018427387904 ≤ y ∧ y ≤ 4611686018427387904) :
    Calls Tryz.prog 16 #[.agg #[.int .i64 x, .int .i64 y]] w (ROut x y 1 w) := by
  have k1 := fun w => of_any x w (by omega) (by omega)
  have k2 := fun w => of_any y w (by omega) (by omega)
  obtain ⟨U, hU⟩ : ∃ U : Int, U = 1 := ⟨_, rfl⟩
  have k3 := fun w => ((by have := of_any 1 w (by omega) (by omega); rw [hU]; exact this) : Calls Tryz.prog 44 #[.int .i64 1] w (ZOut U w))
  rw [← hU]
  have K1 := Lib.hid k1
  have K2 := Lib.hid k2
  have K3 := Lib.hid k3
  clear k1 k2 k3 hU
  go_enter Tryz.func16, Tryz.ntmps16; (try simp only [List.append_eq, List.cons_append, List.nil_append])
  go_wp2_with fail
  (refine pin_wp (N := _) (Nat.le_refl _) (fun w2 hb_w2 hz_w2 => ?_); (try simp at hz_w2); (with_reducible apply cel2 (b := w.heap.size) hb_w2); (focus ((try simp) <;> omega)); (focus omega); (iterate 2 (focus (go_simp; try exact rfl))); (focus (intro o; go_simp)); intro c_w2_0_0 c_w2_0_1 fz_w2_0 hl_w2_0; (with_reducible apply cel6 (b := w.heap.size + 1) hb_w2); (focus ((try simp) <;> omega)); (focus omega); (iterate 6 (focus (go_simp; try exact rfl))); (focus (intro o; go_simp)); intro c_w2_1_0 c_w2_1_1 c_w2_1_2 c_w2_1_3 c_w2_1_4 c_w2_1_5 fz_w2_1 hl_w2_1); refine wp_q (fun Q_ HQ_ => ?_); refine wp_region_floatQ w2.heap.size 8 [8] (Nat.le_refl _) (fun _ => True) trivial Cl.tt (by kernel_rfl) (by kernel_rfl) ?_
  have HB2 := Lib.hid (show Below w.heap.size w w2 by ((with_reducible (repeat (first | exact bR _ _ | refine bS ?_ ?_ _ | refine bA ?_ ?_ _ | refine bD ?_ | refine bT ?_ (by assumption) ?_ | refine bO (by assumption) ?_ ?_))) <;> (first | omega | (simp <;> omega))))
  have hz2 : w.heap.size + 1 + 1 ≤ w2.heap.size := by omega
  clear hb_w2
  skip
  refine wpQI_start [0, 1] ?_; (iterate 2 (first | (apply wpQI_step (by with_reducible (refine zA ?_; (repeat (first | exact zB | refine zC ?_)))) (by kernel_rfl) (by exact rfl); (focus (intro W' hS; have hcS := hS.cells.1; have hfS := hS.cells.2; go_simp; (first | done | exact rfl | exact bB _ | (go_simp; first | done | exact rfl | exact bB _)))); intro K hK; go_simp; (try go_bits); refine hK _ ?_; clear hK K))); refine wpQI_nil ?_
  refine wpQI_start [3, 4] ?_; (iterate 2 (first | (apply wpQI_step (by with_reducible (refine zA ?_; (repeat (first | exact zB | refine zC ?_)))) (by kernel_rfl) (by exact rfl); (focus (intro W' hS; have hcS := hS.cells.1; have hfS := hS.cells.2; go_simp; (first | done | exact rfl | exact bB _ | (go_simp; first | done | exact rfl | exact bB _)))); intro K hK; go_simp; (try go_bits); refine hK _ ?_; clear hK K))); refine wpQI_nil ?_
  apply wpQ_call (i := 2) (by with_reducible (refine zA ?_; (repeat (first | exact zB | refine zC ?_)))) (by kernel_rfl) (by exact rfl); intro W hF hS; have hcS := hS.1.cells.1; have hfS := hS.1.cells.2; go_simp; (go_at_call 44; refine (K1.out _).mono ?_; rintro e w3 ⟨hb_w3, v3, rfl, hv3⟩; refine XPost.mk _ (fun W => IsC W v3 (x)) hb_w3 (hv3) (IsC.cl _ _) ?_); clear hb_w3 hcS hfS hS hF
  intro K hK; go_simp; (try go_bits); refine hK _ ?_; clear hK K
  obtain ⟨s3, A3, n3, c3, rfl⟩ := IsC.val hv3
  clear hv3
  apply wpQ_call (i := 5) (by with_reducible (refine zA ?_; (repeat (first | exact zB | refine zC ?_)))) (by kernel_rfl) (by exact rfl); intro W hF hS; have hcS := hS.1.cells.1; have hfS := hS.1.cells.2; go_simp; (go_at_call 44; refine (K2.out _).mono ?_; rintro e w4 ⟨hb_w4, v4, rfl, hv4⟩; refine XPost.mk _ (fun W => IsC W v4 (y)) hb_w4 (hv4) (IsC.cl _ _) ?_); clear hb_w4 hcS hfS hS hF
  intro K hK; go_simp; (try go_bits); refine hK _ ?_; clear hK K
  obtain ⟨s4, A4, n4, c4, rfl⟩ := IsC.val hv4
  clear hv4
  apply wpQ_call (i := 6) (by with_reducible (refine zA ?_; (repeat (first | exact zB | refine zC ?_)))) (by kernel_rfl) (by exact rfl); intro W hF hS; have hcS := hS.1.cells.1; have hfS := hS.1.cells.2; go_simp; (go_at_call 44; refine (K3.out _).mono ?_; rintro e w5 ⟨hb_w5, v5, rfl, hv5⟩; refine XPost.mk _ (fun W => IsC W v5 (U)) hb_w5 (hv5) (IsC.cl _ _) ?_); clear hb_w5 hcS hfS hS hF
  intro K hK; go_simp; (try go_bits); refine hK _ ?_; clear hK K
  obtain ⟨s5, A5, n5, c5, rfl⟩ := IsC.val hv5
  clear hv5
  refine wpQI_start [7] ?_; (iterate 1 (first | (apply wpQI_step (by with_reducible (refine zA ?_; (repeat (first | exact zB | refine zC ?_)))) (by kernel_rfl) (by exact rfl); (focus (intro W' hS; have hcS := hS.cells.1; have hfS := hS.cells.2; go_simp; (first | done | exact rfl | exact bB _ | (go_simp; first | done | exact rfl | exact bB _)))); intro K hK; go_simp; (try go_bits); refine hK _ ?_; clear hK K))); refine wpQI_nil ?_
  refine wpQ_done (by kernel_rfl) ?_
  intro w6 hF_w6 hSG
  have hz_w6 := hSG.1.1
  have hb_w6 := hSG.1.2
  clear hSG
  (with_reducible apply cel2 (b := w.heap.size) hb_w6); (focus ((try simp) <;> omega)); (focus omega); (iterate 2 (focus (go_simp; try exact rfl))); (focus (intro o; go_simp)); intro c_w6_0_0 c_w6_0_1 fz_w6_0 hl_w6_0; (with_reducible apply cel6 (b := w.heap.size + 1) hb_w6); (focus ((try simp) <;> omega)); (focus omega); (iterate 6 (focus (go_simp; try exact rfl))); (focus (intro o; go_simp)); intro c_w6_1_0 c_w6_1_1 c_w6_1_2 c_w6_1_3 c_w6_1_4 c_w6_1_5 fz_w6_1 hl_w6_1
  (try simp only [List.filterMap_cons, List.filterMap_nil, List.getElem?_cons_succ, List.getElem?_cons_zero])
  have H3 := Lib.hid (show IsC w6 (.agg #[.bool s3, .slice A3 n3 c3]) (x) from hF_w6.1.1)
  have H4 := Lib.hid (show IsC w6 (.agg #[.bool s4, .slice A4 n4 c4]) (y) from hF_w6.1.2)
  have H5 := Lib.hid (show IsC w6 (.agg #[.bool s5, .slice A5 n5 c5]) (U) from hF_w6.2)
  have HB6 := Lib.hid (HB2.out.trans (hb_w6.mono (by have := HB2.out.size; omega)))
  have hz6 : w.heap.size + 1 + 1 ≤ w6.heap.size := by omega
  clear hF_w6 hb_w6
  clear c_w2_0_0 c_w2_0_1 fz_w2_0 hl_w2_0 c_w2_1_0 c_w2_1_1 c_w2_1_2 c_w2_1_3 c_w2_1_4 c_w2_1_5 fz_w2_1 hl_w2_1
  go_wp2_with fail
  refine HQ_.out _ _ _ ?_
  clear HQ_ Q_
  go_wp2_with fail
  refine bodyPost_ret (v := .agg #[.bool s3, .slice A3 n3 c3, .bool s4, .slice A4 n4 c4, .bool s5, .slice A5 n5 c5]) (by simp only [results, Tryz.results16]; go_simp) rfl ⟨?_, ?_⟩
  · have hB := HB6.out; ((with_reducible (repeat (first | exact bR _ _ | refine bS ?_ ?_ _ | refine bA ?_ ?_ _ | refine bD ?_ | refine bT ?_ (by assumption) ?_ | refine bO (by assumption) ?_ ?_))) <;> (first | omega | (simp <;> omega)))
  · exact ⟨_, rfl, ⟨_, _, _, _, _, _, _, _, _, _, _, _, rfl, (by ((repeat (first | (with_reducible exact H3.out) | (with_reducible refine IsC.al ?_ _) | (with_reducible apply IsC.st1))) <;> (first | (with_reducible assumption) | (intro _ e; cases e; done) | (go_simp; first | done | exact rfl)))), (by ((repeat (first | (with_reducible exact H4.out) | (with_reducible refine IsC.al ?_ _) | (with_reducible apply IsC.st1))) <;> (first | (with_reducible assumption) | (intro _ e; cases e; done) | (go_simp; first | done | exact rfl)))), (by ((repeat (first | (with_reducible exact H5.out) | (with_reducible refine IsC.al ?_ _) | (with_reducible apply IsC.st1))) <;> (first | (with_reducible assumption) | (intro _ e; cases e; done) | (go_simp; first | done | exact rfl))))⟩⟩
set_option maxRecDepth 100000 in
set_option maxHeartbeats 8000000 in
theorem rscaled_any (x y : Int) (w : World) (hx : -4611686018427387904 ≤ x ∧ x ≤ 4611686018427387904) (hy : -4611686018427387904 ≤ y ∧ y ≤ 4611686018427387904) :
    Calls Tryz.prog 42 #[.int .i64 x, .int .i64 y] w (ZOut (x * y) w) := by
  have k1 := fun w => of_any x w (by omega) (by omega)
  have k2 := fun w => of_any y w (by omega) (by omega)
  have k3 := fun u v w h1 h2 => times_any 10 u v x y w h1 h2 (by omega)
  have l1 := len_wd (z := x) (by omega) (by omega)
  have l2 := len_wd (z := y) (by omega) (by omega)
  generalize x * y = Z at *
  have K1 := Lib.hid k1
  have K2 := Lib.hid k2
  have K3 := Lib.hid k3
  have L1 := Lib.hid l1
  have L2 := Lib.hid l2
  clear k1 k2 k3 l1 l2
  go_enter Tryz.func42, Tryz.ntmps42; (try simp only [List.append_eq, List.cons_append, List.nil_append])
  go_wp2_with fail
  (go_at_call 44; refine (K1.out _).mono ?_; rintro e w2 ⟨hb_w2, v2, rfl, hv2⟩; have hz_w2 := hb_w2.size; (try simp at hz_w2); (with_reducible apply cel2 (b := w.heap.size) hb_w2); (focus ((try simp) <;> omega)); (focus omega); (iterate 2 (focus (go_simp; try exact rfl))); (focus (intro o; go_simp)); intro c_w2_0_0 c_w2_0_1 fz_w2_0 hl_w2_0)
  obtain ⟨s2, A2, n2, c2, rfl⟩ := IsC.val hv2
  have HB2 := Lib.hid (show Below w.heap.size w w2 by ((with_reducible (repeat (first | exact bR _ _ | refine bS ?_ ?_ _ | refine bA ?_ ?_ _ | refine bD ?_ | refine bT ?_ (by assumption) ?_ | refine bO (by assumption) ?_ ?_))) <;> (first | omega | (simp <;> omega))))
  have hz2 : w.heap.size + 1 ≤ w2.heap.size := by omega
  clear hb_w2
  skip
  have H2 := Lib.hid (show IsC w2 (.agg #[.bool s2, .slice A2 n2 c2]) (x) from hv2)
  clear hv2
  go_wp2_with fail
  (go_at_call 44; refine (K2.out _).mono ?_; rintro e w3 ⟨hb_w3, v3, rfl, hv3⟩; have hz_w3 := hb_w3.size; (try simp at hz_w3); (with_reducible apply cel2 (b := w.heap.size) hb_w3); (focus ((try simp) <;> omega)); (focus omega); (iterate 2 (focus (go_simp; try exact rfl))); (focus (intro o; go_simp)); intro c_w3_0_0 c_w3_0_1 fz_w3_0 hl_w3_0)
  obtain ⟨s3, A3, n3, c3, rfl⟩ := IsC.val hv3
  replace H2 := Lib.hid (IsC.below (v := .agg #[.bool s2, .slice A2 n2 c2]) (z := x) (by ((repeat (first | (with_reducible exact H2.out) | (with_reducible refine IsC.al ?_ _) | (with_reducible apply IsC.st1))) <;> (first | (with_reducible assumption) | (intro _ e; cases e; done) | (go_simp; first | done | exact rfl)))) hb_w3)
  have HB3 := Lib.hid (show Below w.heap.size w w3 by have hB := HB2.out; ((with_reducible (repeat (first | exact bR _ _ | refine bS ?_ ?_ _ | refine bA ?_ ?_ _ | refine bD ?_ | refine bT ?_ (by assumption) ?_ | refine bO (by assumption) ?_ ?_))) <;> (first | omega | (simp <;> omega))))
  have hz3 : w.heap.size + 1 ≤ w3.heap.size := by omega
  clear hb_w3
  clear c_w2_0_0 c_w2_0_1 fz_w2_0 hl_w2_0
  have H3 := Lib.hid (show IsC w3 (.agg #[.bool s3, .slice A3 n3 c3]) (y) from hv3)
  clear hv3
  go_wp2_with fail
  (go_at_call 40; refine (K3.out _ _ _ ((show IsC _ (.agg #[.bool s2, .slice A2 n2 c2]) (x) by ((repeat (first | (with_reducible exact H2.out) | (with_reducible refine IsC.al ?_ _) | (with_reducible apply IsC.st1))) <;> (first | (with_reducible assumption) | (intro _ e; cases e; done) | (go_simp; first | done | exact rfl)))).zl L1.out) ((show IsC _ (.agg #[.bool s3, .slice A3 n3 c3]) (y) by ((repeat (first | (with_reducible exact H3.out) | (with_reducible refine IsC.al ?_ _) | (with_reducible apply IsC.st1))) <;> (first | (with_reducible assumption) | (intro _ e; cases e; done) | (go_simp; first | done | exact rfl)))).zl L2.out)).mono ?_; rintro e w4 ⟨hb_w4, v4, rfl, hv4⟩; have hz_w4 := hb_w4.size; (try simp at hz_w4); (with_reducible apply cel2 (b := w.heap.size) hb_w4); (focus ((try simp) <;> omega)); (focus omega); (iterate 2 (focus (go_simp; try exact rfl))); (focus (intro o; go_simp)); intro c_w4_0_0 c_w4_0_1 fz_w4_0 hl_w4_0)
  obtain ⟨s4, A4, n4, c4, rfl⟩ := IsC.val hv4
  clear H2
  clear H3
  have HB4 := Lib.hid (show Below w.heap.size w w4 by have hB := HB3.out; ((with_reducible (repeat (first | exact bR _ _ | refine bS ?_ ?_ _ | refine bA ?_ ?_ _ | refine bD ?_ | refine bT ?_ (by assumption) ?_ | refine bO (by assumption) ?_ ?_))) <;> (first | omega | (simp <;> omega))))
  have hz4 : w.heap.size + 1 ≤ w4.heap.size := by omega
  clear hb_w4
  clear c_w3_0_0 c_w3_0_1 fz_w3_0 hl_w3_0
  have H4 := Lib.hid (show IsC w4 (.agg #[.bool s4, .slice A4 n4 c4]) (Z) from hv4)
  clear hv4
  go_wp2_with fail
  refine bodyPost_ret (v := .agg #[.bool s4, .slice A4 n4 c4]) (by simp only [results, Tryz.results42]; go_simp) rfl ⟨?_, ?_⟩
  · have hB := HB4.out; ((with_reducible (repeat (first | exact bR _ _ | refine bS ?_ ?_ _ | refine bA ?_ ?_ _ | refine bD ?_ | refine bT ?_ (by assumption) ?_ | refine bO (by assumption) ?_ ?_))) <;> (first | omega | (simp <;> omega)))
  · exact ⟨_, rfl, by ((repeat (first | (with_reducible exact H4.out) | (with_reducible refine IsC.al ?_ _) | (with_reducible apply IsC.st1))) <;> (first | (with_reducible assumption) | (intro _ e; cases e; done) | (go_simp; first | done | exact rfl)))⟩
set_option maxRecDepth 100000 in
set_option maxHeartbeats 8000000 in
theorem lowest_any (x y d : Int) (v : Value) (w : World) (h : RAt w v x y d) (hd : d ≠ 0) (lx : (canN x.natAbs).length ≤ 100000) (ly : (canN y.natAbs).length ≤ 100000) (ld : (canN d.natAbs).length ≤ 100000) :
    Calls Tryz.prog 59 #[v] w (ROut (x.tdiv (lowG x y d)) (y.tdiv (lowG x y d)) (d.tdiv (lowG x y d)) w) := by
  obtain ⟨s1, A1, n1, c1, s2, A2, n2, c2, s3, A3, n3, c3, rfl⟩ := h.val
  have h0 := h
  have lg := gcdN_len lx ly
  have lG := gcdN_len lg ld
  have hG0 : ((Nat.gcd (Nat.gcd x.natAbs y.natAbs) d.natAbs : Nat) : Int) ≠ 0 := by
    have : 0 < Nat.gcd (Nat.gcd x.natAbs y.natAbs) d.natAbs := Nat.gcd_pos_of_pos_right _ (by omega)
    omega
  have k1 := fun u v w h1 h2 => wgcd_any 100000 u v x y w h1 h2 (by omega)
  unfold lowG
  generalize Nat.gcd x.natAbs y.natAbs = g at *
  have k2 := fun u v w h1 h2 => wgcd_any 100000 u v (g : Int) d w h1 h2 (by omega)
  simp only [Int.natAbs_natCast] at k2
  generalize Nat.gcd g d.natAbs = G at *
  have k3 := fun u v w h1 h2 => wquo_any 100000 u v x (G : Int) w h1 h2 (by omega) hG0
  have k4 := fun u v w h1 h2 => wquo_any 100000 u v y (G : Int) w h1 h2 (by omega) hG0
  have k5 := fun u v w h1 h2 => wquo_any 100000 u v d (G : Int) w h1 h2 (by omega) hG0
  have lg1 : (canN (g : Int).natAbs).length ≤ 100000 := by rw [Int.natAbs_natCast]; exact lg
  replace lg : (canN (G : Int).natAbs).length ≤ 100000 := by rw [Int.natAbs_natCast]; exact lG
  generalize x.tdiv (G : Int) = X at *
  generalize y.tdiv (G : Int) = Y at *
  generalize d.tdiv (G : Int) = D at *
  generalize x.tmod (G : Int) = X2 at *
  generalize y.tmod (G : Int) = Y2 at *
  generalize d.tmod (G : Int) = D2 at *
  have K1 := Lib.hid k1
  have K2 := Lib.hid k2
  have K3 := Lib.hid k3
  have K4 := Lib.hid k4
  have K5 := Lib.hid k5
  have LX := Lib.hid lx
  have LY := Lib.hid ly
  have LD := Lib.hid ld
  have LG1 := Lib.hid lg1
  have LG := Lib.hid lg
  have H0 := Lib.hid h0
  clear k1 k2 k3 k4 k5 lx ly ld lg lG lg1 hG0 hd h h0
  go_enter Tryz.func59, Tryz.ntmps59; (try simp only [List.append_eq, List.cons_append, List.nil_append])
  go_wp2_with fail
  (refine pin_wp (N := _) (Nat.le_refl _) (fun w4 hb_w4 hz_w4 => ?_); (try simp at hz_w4); (with_reducible apply cel6 (b := w.heap.size) hb_w4); (focus ((try simp) <;> omega)); (focus omega); (iterate 6 (focus (go_simp; try exact rfl))); (focus (intro o; go_simp)); intro c_w4_0_0 c_w4_0_1 c_w4_0_2 c_w4_0_3 c_w4_0_4 c_w4_0_5 fz_w4_0 hl_w4_0; (with_reducible apply cel6 (b := w.heap.size + 1) hb_w4); (focus ((try simp) <;> omega)); (focus omega); (iterate 6 (focus (go_simp; try exact rfl))); (focus (intro o; go_simp)); intro c_w4_1_0 c_w4_1_1 c_w4_1_2 c_w4_1_3 c_w4_1_4 c_w4_1_5 fz_w4_1 hl_w4_1); refine wp_q (fun Q_ HQ_ => ?_); refine wp_region_floatQ w4.heap.size 9 [9] (Nat.le_refl _) (fun _ => True) trivial Cl.tt (by kernel_rfl) (by kernel_rfl) ?_
  replace H0 := Lib.hid (RAt.below (v := .agg #[.bool s1, .slice A1 n1 c1, .bool s2, .slice A2 n2 c2, .bool s3, .slice A3 n3 c3]) (x := x) (y := y) (d := d) (by ((repeat (first | (with_reducible exact H0.out) | (with_reducible refine RAt.al ?_ _) | (with_reducible apply RAt.st1))) <;> (first | (with_reducible assumption) | (intro _ e; cases e; done) | (go_simp; first | done | exact rfl)))) hb_w4)
  have HB4 := Lib.hid (show Below w.heap.size w w4 by ((with_reducible (repeat (first | exact bR _ _ | refine bS ?_ ?_ _ | refine bA ?_ ?_ _ | refine bD ?_ | refine bT ?_ (by assumption) ?_ | refine bO (by assumption) ?_ ?_))) <;> (first | omega | (simp <;> omega))))
  have hz4 : w.heap.size + 1 + 1 ≤ w4.heap.size := by omega
  clear hb_w4
  skip
  refine wpQI_start [0, 1, 2, 3] ?_; (iterate 4 (first | (apply wpQI_step (by with_reducible (refine zA ?_; (repeat (first | exact zB | refine zC ?_)))) (by kernel_rfl) (by exact rfl); (focus (intro W' hS; have hcS := hS.cells.1; have hfS := hS.cells.2; go_simp; (first | done | exact rfl | exact bB _ | (go_simp; first | done | exact rfl | exact bB _)))); intro K hK; go_simp; (try go_bits); refine hK _ ?_; clear hK K))); refine wpQI_nil ?_
  refine wpQI_start [5, 6] ?_; (iterate 2 (first | (apply wpQI_step (by with_reducible (refine zA ?_; (repeat (first | exact zB | refine zC ?_)))) (by kernel_rfl) (by exact rfl); (focus (intro W' hS; have hcS := hS.cells.1; have hfS := hS.cells.2; go_simp; (first | done | exact rfl | exact bB _ | (go_simp; first | done | exact rfl | exact bB _)))); intro K hK; go_simp; (try go_bits); refine hK _ ?_; clear hK K))); refine wpQI_nil ?_
  apply wpQ_call (i := 4) (by with_reducible (refine zA ?_; (repeat (first | exact zB | refine zC ?_)))) (by kernel_rfl) (by exact rfl); intro W hF hS; have hcS := hS.1.cells.1; have hfS := hS.1.cells.2; go_simp; (go_at_call 94; refine ((K1.out _ _ _ ((RAt.px (H0.out.below hS.1.2)).zl LX.out) ((RAt.py (H0.out.below hS.1.2)).zl LY.out)).mono (fun _ _ h => NOut.z h)).mono ?_; rintro e w5 ⟨hb_w5, v5, rfl, hv5⟩; refine XPost.mk _ (fun W => IsC W v5 ((g : Int))) hb_w5 (hv5) (IsC.cl _ _) ?_); clear hb_w5 hcS hfS hS hF
  intro K hK; go_simp; (try go_bits); refine hK _ ?_; clear hK K
  obtain ⟨s5, A5, n5, c5, rfl⟩ := IsC.val hv5
  clear hv5
  apply wpQ_call (i := 7) (by with_reducible (refine zA ?_; (repeat (first | exact zB | refine zC ?_)))) (by kernel_rfl) (by exact rfl); intro W hF hS; have hcS := hS.1.cells.1; have hfS := hS.1.cells.2; go_simp; (go_at_call 94; refine ((K2.out _ _ _ (hF.zl LG1.out) ((RAt.pd (H0.out.below hS.1.2)).zl LD.out)).mono (fun _ _ h => NOut.z h)).mono ?_; rintro e w6 ⟨hb_w6, v6, rfl, hv6⟩; refine XPost.mk _ (fun W => IsC W v6 ((G : Int))) hb_w6 (hv6) (IsC.cl _ _) ?_); clear hb_w6 hcS hfS hS hF
  intro K hK; go_simp; (try go_bits); refine hK _ ?_; clear hK K
  obtain ⟨s6, A6, n6, c6, rfl⟩ := IsC.val hv6
  clear hv6
  apply wpQ_fresh (i := 8) LInv.std (by with_reducible (refine zA ?_; (repeat (first | exact zB | refine zC ?_)))) (by kernel_rfl) (fun g => Value.pointer (some ⟨g, 0, none⟩)) (by exact rfl); (focus (intro W; go_simp; first | done | exact rfl | exact ⟨rfl, rfl⟩))
  intro g_r1_8 hN_r1_8 hG_r1_8 K hK
  go_simp; refine hK _ ?_; clear hK K
  have hne : w.heap.size ≠ g_r1_8 := by have := hN_r1_8; omega
  have hne := Ne.symm hne
  have hne : w.heap.size + 1 ≠ g_r1_8 := by have := hN_r1_8; omega
  have hne := Ne.symm hne
  refine wpQ_done (by kernel_rfl) ?_
  intro w7 hF_w7 hSG
  have hz_w7 := hSG.1.1
  have hb_w7 := hSG.1.2
  have hB_r1_8 := (hSG.2 _ (List.mem_cons_self ..)).2; simp only at hB_r1_8; have hl_r1_8 := (hSG.size (List.mem_cons_self ..)); simp only at hl_r1_8
  have c_w7_r1_8_0 := cell_of_row w7 g_r1_8 0 _ _ _ hB_r1_8; simp only [List.getElem?_toArray, List.getElem?_cons_zero] at c_w7_r1_8_0
  have c_w7_r1_8_1 := cell_of_row w7 g_r1_8 1 _ _ _ hB_r1_8; simp only [List.getElem?_toArray, List.getElem?_cons_zero, List.getElem?_cons_succ] at c_w7_r1_8_1
  have fz_w7_r1_8 : (∀ o, w7.frozen? ⟨g_r1_8, o, none⟩ = false) := (fun o => frozen_of_row w7 g_r1_8 o _ _ hB_r1_8); have HH_r1_8 := Lib.hid hB_r1_8; clear hB_r1_8
  clear hSG
  (with_reducible apply cel6 (b := w.heap.size) hb_w7); (focus ((try simp) <;> omega)); (focus omega); (iterate 6 (focus (go_simp; try exact rfl))); (focus (intro o; go_simp)); intro c_w7_0_0 c_w7_0_1 c_w7_0_2 c_w7_0_3 c_w7_0_4 c_w7_0_5 fz_w7_0 hl_w7_0; (with_reducible apply cel6 (b := w.heap.size + 1) hb_w7); (focus ((try simp) <;> omega)); (focus omega); (iterate 6 (focus (go_simp; try exact rfl))); (focus (intro o; go_simp)); intro c_w7_1_0 c_w7_1_1 c_w7_1_2 c_w7_1_3 c_w7_1_4 c_w7_1_5 fz_w7_1 hl_w7_1
  (try simp only [List.filterMap_cons, List.filterMap_nil, List.getElem?_cons_succ, List.getElem?_cons_zero])
  replace H0 := Lib.hid (H0.out.below hb_w7)
  have H5 := Lib.hid (show IsC w7 (.agg #[.bool s5, .slice A5 n5 c5]) ((g : Int)) from hF_w7.1)
  have H6 := Lib.hid (show IsC w7 (.agg #[.bool s6, .slice A6 n6 c6]) ((G : Int)) from hF_w7.2)
  have HB7 := Lib.hid (HB4.out.trans (hb_w7.mono (by have := HB4.out.size; omega)))
  have hz7 : w.heap.size + 1 + 1 ≤ w7.heap.size := by omega
  have hn_r1_8 : w.heap.size + 1 + 1 ≤ g_r1_8 := by have := hN_r1_8; omega
  clear hF_w7 hb_w7 HH_r1_8 hG_r1_8 hN_r1_8
  clear c_w4_0_0 c_w4_0_1 c_w4_0_2 c_w4_0_3 c_w4_0_4 c_w4_0_5 fz_w4_0 hl_w4_0 c_w4_1_0 c_w4_1_1 c_w4_1_2 c_w4_1_3 c_w4_1_4 c_w4_1_5 fz_w4_1 hl_w4_1
  go_wp2_with fail
  refine HQ_.out _ _ _ ?_
  clear HQ_ Q_
  go_wp2_with fail
  (go_at_call 60; refine (K3.out _ _ _ ((RAt.px (show RAt _ (.agg #[.bool s1, .slice A1 n1 c1, .bool s2, .slice A2 n2 c2, .bool s3, .slice A3 n3 c3]) (x) (y) (d) by ((repeat (first | (with_reducible exact H0.out) | (with_reducible refine RAt.al ?_ _) | (with_reducible apply RAt.st1))) <;> (first | (with_reducible assumption) | (intro _ e; cases e; done) | (go_simp; first | done | exact rfl))))).zl LX.out) ((show IsC _ (.agg #[.bool s6, .slice A6 n6 c6]) ((G : Int)) by ((repeat (first | (with_reducible exact H6.out) | (with_reducible refine IsC.al ?_ _) | (with_reducible apply IsC.st1))) <;> (first | (with_reducible assumption) | (intro _ e; cases e; done) | (go_simp; first | done | exact rfl)))).zl LG.out)).mono ?_; rintro e w8 ⟨hb_w8, u8, v8, rfl, hu8, hv8⟩; have hz_w8 := hb_w8.size; (try simp at hz_w8); (with_reducible apply cel6 (b := w.heap.size) hb_w8); (focus ((try simp) <;> omega)); (focus omega); (iterate 6 (focus (go_simp; try exact rfl))); (focus (intro o; go_simp)); intro c_w8_0_0 c_w8_0_1 c_w8_0_2 c_w8_0_3 c_w8_0_4 c_w8_0_5 fz_w8_0 hl_w8_0; (with_reducible apply cel6 (b := w.heap.size + 1) hb_w8); (focus ((try simp) <;> omega)); (focus omega); (iterate 6 (focus (go_simp; try exact rfl))); (focus (intro o; go_simp)); intro c_w8_1_0 c_w8_1_1 c_w8_1_2 c_w8_1_3 c_w8_1_4 c_w8_1_5 fz_w8_1 hl_w8_1; (with_reducible apply cel2 (b := g_r1_8) hb_w8); (focus ((try simp) <;> omega)); (focus omega); (iterate 2 (focus (go_simp; try exact rfl))); (focus (intro o; go_simp)); intro c_w8_2_0 c_w8_2_1 fz_w8_2 hl_w8_2)
  obtain ⟨s8u, A8u, n8u, c8u, rfl⟩ := IsC.val hu8
  obtain ⟨s8, A8, n8, c8, rfl⟩ := IsC.val hv8
  clear H5
  replace H0 := Lib.hid (RAt.below (v := .agg #[.bool s1, .slice A1 n1 c1, .bool s2, .slice A2 n2 c2, .bool s3, .slice A3 n3 c3]) (x := x) (y := y) (d := d) (by ((repeat (first | (with_reducible exact H0.out) | (with_reducible refine RAt.al ?_ _) | (with_reducible apply RAt.st1))) <;> (first | (with_reducible assumption) | (intro _ e; cases e; done) | (go_simp; first | done | exact rfl)))) hb_w8)
  replace H6 := Lib.hid (IsC.below (v := .agg #[.bool s6, .slice A6 n6 c6]) (z := (G : Int)) (by ((repeat (first | (with_reducible exact H6.out) | (with_reducible refine IsC.al ?_ _) | (with_reducible apply IsC.st1))) <;> (first | (with_reducible assumption) | (intro _ e; cases e; done) | (go_simp; first | done | exact rfl)))) hb_w8)
  have HB8 := Lib.hid (show Below w.heap.size w w8 by have hB := HB7.out; ((with_reducible (repeat (first | exact bR _ _ | refine bS ?_ ?_ _ | refine bA ?_ ?_ _ | refine bD ?_ | refine bT ?_ (by assumption) ?_ | refine bO (by assumption) ?_ ?_))) <;> (first | omega | (simp <;> omega))))
  have hz8 : w.heap.size + 1 + 1 ≤ w8.heap.size := by omega
  clear hb_w8
  clear c_w7_r1_8_0 c_w7_r1_8_1 fz_w7_r1_8 c_w7_0_0 c_w7_0_1 c_w7_0_2 c_w7_0_3 c_w7_0_4 c_w7_0_5 fz_w7_0 hl_w7_0 c_w7_1_0 c_w7_1_1 c_w7_1_2 c_w7_1_3 c_w7_1_4 c_w7_1_5 fz_w7_1 hl_w7_1
  have H8u := Lib.hid (show IsC w8 (.agg #[.bool s8u, .slice A8u n8u c8u]) (X) from hu8)
  clear hu8
  have H8 := Lib.hid (show IsC w8 (.agg #[.bool s8, .slice A8 n8 c8]) (X2) from hv8)
  clear hv8
  go_wp2_with fail
  (go_at_call 60; refine (K4.out _ _ _ ((RAt.py (show RAt _ (.agg #[.bool s1, .slice A1 n1 c1, .bool s2, .slice A2 n2 c2, .bool s3, .slice A3 n3 c3]) (x) (y) (d) by ((repeat (first | (with_reducible exact H0.out) | (with_reducible refine RAt.al ?_ _) | (with_reducible apply RAt.st1))) <;> (first | (with_reducible assumption) | (intro _ e; cases e; done) | (go_simp; first | done | exact rfl))))).zl LY.out) ((show IsC _ (.agg #[.bool s6, .slice A6 n6 c6]) ((G : Int)) by ((repeat (first | (with_reducible exact H6.out) | (with_reducible refine IsC.al ?_ _) | (with_reducible apply IsC.st1))) <;> (first | (with_reducible assumption) | (intro _ e; cases e; done) | (go_simp; first | done | exact rfl)))).zl LG.out)).mono ?_; rintro e w9 ⟨hb_w9, u9, v9, rfl, hu9, hv9⟩; have hz_w9 := hb_w9.size; (try simp at hz_w9); (with_reducible apply cel6 (b := w.heap.size) hb_w9); (focus ((try simp) <;> omega)); (focus omega); (iterate 6 (focus (go_simp; try exact rfl))); (focus (intro o; go_simp)); intro c_w9_0_0 c_w9_0_1 c_w9_0_2 c_w9_0_3 c_w9_0_4 c_w9_0_5 fz_w9_0 hl_w9_0; (with_reducible apply cel6 (b := w.heap.size + 1) hb_w9); (focus ((try simp) <;> omega)); (focus omega); (iterate 6 (focus (go_simp; try exact rfl))); (focus (intro o; go_simp)); intro c_w9_1_0 c_w9_1_1 c_w9_1_2 c_w9_1_3 c_w9_1_4 c_w9_1_5 fz_w9_1 hl_w9_1; (with_reducible apply cel2 (b := g_r1_8) hb_w9); (focus ((try simp) <;> omega)); (focus omega); (iterate 2 (focus (go_simp; try exact rfl))); (focus (intro o; go_simp)); intro c_w9_2_0 c_w9_2_1 fz_w9_2 hl_w9_2; (with_reducible apply cel2 (b := w8.heap.size) hb_w9); (focus ((try simp) <;> omega)); (focus omega); (iterate 2 (focus (go_simp; try exact rfl))); (focus (intro o; go_simp)); intro c_w9_3_0 c_w9_3_1 fz_w9_3 hl_w9_3)
  obtain ⟨s9u, A9u, n9u, c9u, rfl⟩ := IsC.val hu9
  obtain ⟨s9, A9, n9, c9, rfl⟩ := IsC.val hv9
  clear H8
  replace H0 := Lib.hid (RAt.below (v := .agg #[.bool s1, .slice A1 n1 c1, .bool s2, .slice A2 n2 c2, .bool s3, .slice A3 n3 c3]) (x := x) (y := y) (d := d) (by ((repeat (first | (with_reducible exact H0.out) | (with_reducible refine RAt.al ?_ _) | (with_reducible apply RAt.st1))) <;> (first | (with_reducible assumption) | (intro _ e; cases e; done) | (go_simp; first | done | exact rfl)))) hb_w9)
  replace H6 := Lib.hid (IsC.below (v := .agg #[.bool s6, .slice A6 n6 c6]) (z := (G : Int)) (by ((repeat (first | (with_reducible exact H6.out) | (with_reducible refine IsC.al ?_ _) | (with_reducible apply IsC.st1))) <;> (first | (with_reducible assumption) | (intro _ e; cases e; done) | (go_simp; first | done | exact rfl)))) hb_w9)
  replace H8u := Lib.hid (IsC.below (v := .agg #[.bool s8u, .slice A8u n8u c8u]) (z := X) (by ((repeat (first | (with_reducible exact H8u.out) | (with_reducible refine IsC.al ?_ _) | (with_reducible apply IsC.st1))) <;> (first | (with_reducible assumption) | (intro _ e; cases e; done) | (go_simp; first | done | exact rfl)))) hb_w9)
  have HB9 := Lib.hid (show Below w.heap.size w w9 by have hB := HB8.out; ((with_reducible (repeat (first | exact bR _ _ | refine bS ?_ ?_ _ | refine bA ?_ ?_ _ | refine bD ?_ | refine bT ?_ (by assumption) ?_ | refine bO (by assumption) ?_ ?_))) <;> (first | omega | (simp <;> omega))))
  have hz9 : w.heap.size + 1 + 1 ≤ w9.heap.size := by omega
  clear hb_w9
  clear c_w8_0_0 c_w8_0_1 c_w8_0_2 c_w8_0_3 c_w8_0_4 c_w8_0_5 fz_w8_0 hl_w8_0 c_w8_1_0 c_w8_1_1 c_w8_1_2 c_w8_1_3 c_w8_1_4 c_w8_1_5 fz_w8_1 hl_w8_1 c_w8_2_0 c_w8_2_1 fz_w8_2 hl_w8_2
  have H9u := Lib.hid (show IsC w9 (.agg #[.bool s9u, .slice A9u n9u c9u]) (Y) from hu9)
  clear hu9
  have H9 := Lib.hid (show IsC w9 (.agg #[.bool s9, .slice A9 n9 c9]) (Y2) from hv9)
  clear hv9
  go_wp2_with fail
  (go_at_call 60; refine (K5.out _ _ _ ((RAt.pd (show RAt _ (.agg #[.bool s1, .slice A1 n1 c1, .bool s2, .slice A2 n2 c2, .bool s3, .slice A3 n3 c3]) (x) (y) (d) by ((repeat (first | (with_reducible exact H0.out) | (with_reducible refine RAt.al ?_ _) | (with_reducible apply RAt.st1))) <;> (first | (with_reducible assumption) | (intro _ e; cases e; done) | (go_simp; first | done | exact rfl))))).zl LD.out) ((show IsC _ (.agg #[.bool s6, .slice A6 n6 c6]) ((G : Int)) by ((repeat (first | (with_reducible exact H6.out) | (with_reducible refine IsC.al ?_ _) | (with_reducible apply IsC.st1))) <;> (first | (with_reducible assumption) | (intro _ e; cases e; done) | (go_simp; first | done | exact rfl)))).zl LG.out)).mono ?_; rintro e w10 ⟨hb_w10, u10, v10, rfl, hu10, hv10⟩; have hz_w10 := hb_w10.size; (try simp at hz_w10); (with_reducible apply cel6 (b := w.heap.size + 1) hb_w10); (focus ((try simp) <;> omega)); (focus omega); (iterate 6 (focus (go_simp; try exact rfl))); (focus (intro o; go_simp)); intro c_w10_0_0 c_w10_0_1 c_w10_0_2 c_w10_0_3 c_w10_0_4 c_w10_0_5 fz_w10_0 hl_w10_0; (with_reducible apply cel2 (b := w8.heap.size) hb_w10); (focus ((try simp) <;> omega)); (focus omega); (iterate 2 (focus (go_simp; try exact rfl))); (focus (intro o; go_simp)); intro c_w10_1_0 c_w10_1_1 fz_w10_1 hl_w10_1; (with_reducible apply cel2 (b := w9.heap.size) hb_w10); (focus ((try simp) <;> omega)); (focus omega); (iterate 2 (focus (go_simp; try exact rfl))); (focus (intro o; go_simp)); intro c_w10_2_0 c_w10_2_1 fz_w10_2 hl_w10_2)
  obtain ⟨s10u, A10u, n10u, c10u, rfl⟩ := IsC.val hu10
  obtain ⟨s10, A10, n10, c10, rfl⟩ := IsC.val hv10
  clear H0
  clear H6
  clear H9
  replace H8u := Lib.hid (IsC.below (v := .agg #[.bool s8u, .slice A8u n8u c8u]) (z := X) (by ((repeat (first | (with_reducible exact H8u.out) | (with_reducible refine IsC.al ?_ _) | (with_reducible apply IsC.st1))) <;> (first | (with_reducible assumption) | (intro _ e; cases e; done) | (go_simp; first | done | exact rfl)))) hb_w10)
  replace H9u := Lib.hid (IsC.below (v := .agg #[.bool s9u, .slice A9u n9u c9u]) (z := Y) (by ((repeat (first | (with_reducible exact H9u.out) | (with_reducible refine IsC.al ?_ _) | (with_reducible apply IsC.st1))) <;> (first | (with_reducible assumption) | (intro _ e; cases e; done) | (go_simp; first | done | exact rfl)))) hb_w10)
  have HB10 := Lib.hid (show Below w.heap.size w w10 by have hB := HB9.out; ((with_reducible (repeat (first | exact bR _ _ | refine bS ?_ ?_ _ | refine bA ?_ ?_ _ | refine bD ?_ | refine bT ?_ (by assumption) ?_ | refine bO (by assumption) ?_ ?_))) <;> (first | omega | (simp <;> omega))))
  have hz10 : w.heap.size + 1 + 1 ≤ w10.heap.size := by omega
  clear hb_w10
  clear c_w9_0_0 c_w9_0_1 c_w9_0_2 c_w9_0_3 c_w9_0_4 c_w9_0_5 fz_w9_0 hl_w9_0 c_w9_1_0 c_w9_1_1 c_w9_1_2 c_w9_1_3 c_w9_1_4 c_w9_1_5 fz_w9_1 hl_w9_1 c_w9_2_0 c_w9_2_1 fz_w9_2 hl_w9_2 c_w9_3_0 c_w9_3_1 fz_w9_3 hl_w9_3
  have H10u := Lib.hid (show IsC w10 (.agg #[.bool s10u, .slice A10u n10u c10u]) (D) from hu10)
  clear hu10
  have H10 := Lib.hid (show IsC w10 (.agg #[.bool s10, .slice A10 n10 c10]) (D2) from hv10)
  clear hv10
  go_wp2_with fail
  refine bodyPost_ret (v := .agg #[.bool s8u, .slice A8u n8u c8u, .bool s9u, .slice A9u n9u c9u, .bool s10u, .slice A10u n10u c10u]) (by simp only [results, Tryz.results59]; go_simp) rfl ⟨?_, ?_⟩
  · have hB := HB10.out; ((with_reducible (repeat (first | exact bR _ _ | refine bS ?_ ?_ _ | refine bA ?_ ?_ _ | refine bD ?_ | refine bT ?_ (by assumption) ?_ | refine bO (by assumption) ?_ ?_))) <;> (first | omega | (simp <;> omega)))
  · exact ⟨_, rfl, ⟨_, _, _, _, _, _, _, _, _, _, _, _, rfl, (by ((repeat (first | (with_reducible exact H8u.out) | (with_reducible refine IsC.al ?_ _) | (with_reducible apply IsC.st1))) <;> (first | (with_reducible assumption) | (intro _ e; cases e; done) | (go_simp; first | done | exact rfl)))), (by ((repeat (first | (with_reducible exact H9u.out) | (with_reducible refine IsC.al ?_ _) | (with_reducible apply IsC.st1))) <;> (first | (with_reducible assumption) | (intro _ e; cases e; done) | (go_simp; first | done | exact rfl)))), (by ((repeat (first | (with_reducible exact H10u.out) | (with_reducible refine IsC.al ?_ _) | (with_reducible apply IsC.st1))) <;> (first | (with_reducible assumption) | (intro _ e; cases e; done) | (go_simp; first | done | exact rfl))))⟩⟩
set_option maxRecDepth 100000 in
set_option maxHeartbeats 8000000 in
theorem rlowest_any (x y d : Int) (v : Value) (w : World) (h : RAt w v x y d) (hd : d ≠ 0) (lx : (canN x.natAbs).length ≤ 100000) (ly : (canN y.natAbs).length ≤ 100000) (ld : (canN d.natAbs).length ≤ 100000) :
    Calls Tryz.prog 38 #[v] w (ROut (x.tdiv (lowG x y d)) (y.tdiv (lowG x y d)) (d.tdiv (lowG x y d)) w) := by
  obtain ⟨s1, A1, n1, c1, s2, A2, n2, c2, s3, A3, n3, c3, rfl⟩ := h.val
  have h0 := h
  have lg := gcdN_len lx ly
  have lG := gcdN_len lg ld
  have hG0 : ((Nat.gcd (Nat.gcd x.natAbs y.natAbs) d.natAbs : Nat) : Int) ≠ 0 := by
    have : 0 < Nat.gcd (Nat.gcd x.natAbs y.natAbs) d.natAbs := Nat.gcd_pos_of_pos_right _ (by omega)
    omega
  have k1 := fun u v w h1 h2 => rcommon_any 100000 u v x y w h1 h2 (by omega)
  unfold lowG
  generalize Nat.gcd x.natAbs y.natAbs = g at *
  have k2 := fun u v w h1 h2 => rcommon_any 100000 u v (g : Int) d w h1 h2 (by omega)
  simp only [Int.natAbs_natCast] at k2
  generalize Nat.gcd g d.natAbs = G at *
  have k3 := fun u v w h1 h2 => div_any 100000 u v x (G : Int) w h1 h2 (by omega) hG0
  have k4 := fun u v w h1 h2 => div_any 100000 u v y (G : Int) w h1 h2 (by omega) hG0
  have k5 := fun u v w h1 h2 => div_any 100000 u v d (G : Int) w h1 h2 (by omega) hG0
  have lg1 : (canN (g : Int).natAbs).length ≤ 100000 := by rw [Int.natAbs_natCast]; exact lg
  replace lg : (canN (G : Int).natAbs).length ≤ 100000 := by rw [Int.natAbs_natCast]; exact lG
  generalize x.tdiv (G : Int) = X at *
  generalize y.tdiv (G : Int) = Y at *
  generalize d.tdiv (G : Int) = D at *
  generalize x.tmod (G : Int) = X2 at *
  generalize y.tmod (G : Int) = Y2 at *
  generalize d.tmod (G : Int) = D2 at *
  have K1 := Lib.hid k1
  have K2 := Lib.hid k2
  have K3 := Lib.hid k3
  have K4 := Lib.hid k4
  have K5 := Lib.hid k5
  have LX := Lib.hid lx
  have LY := Lib.hid ly
  have LD := Lib.hid ld
  have LG1 := Lib.hid lg1
  have LG := Lib.hid lg
  have H0 := Lib.hid h0
  clear k1 k2 k3 k4 k5 lx ly ld lg lG lg1 hG0 hd h h0
  go_enter Tryz.func38, Tryz.ntmps38; (try simp only [List.append_eq, List.cons_append, List.nil_append])
  go_wp2_with fail
  (refine pin_wp (N := _) (Nat.le_refl _) (fun w4 hb_w4 hz_w4 => ?_); (try simp at hz_w4); (with_reducible apply cel6 (b := w.heap.size) hb_w4); (focus ((try simp) <;> omega)); (focus omega); (iterate 6 (focus (go_simp; try exact rfl))); (focus (intro o; go_simp)); intro c_w4_0_0 c_w4_0_1 c_w4_0_2 c_w4_0_3 c_w4_0_4 c_w4_0_5 fz_w4_0 hl_w4_0; (with_reducible apply cel6 (b := w.heap.size + 1) hb_w4); (focus ((try simp) <;> omega)); (focus omega); (iterate 6 (focus (go_simp; try exact rfl))); (focus (intro o; go_simp)); intro c_w4_1_0 c_w4_1_1 c_w4_1_2 c_w4_1_3 c_w4_1_4 c_w4_1_5 fz_w4_1 hl_w4_1); refine wp_q (fun Q_ HQ_ => ?_); refine wp_region_floatQ w4.heap.size 9 [9] (Nat.le_refl _) (fun _ => True) trivial Cl.tt (by kernel_rfl) (by kernel_rfl) ?_
  replace H0 := Lib.hid (RAt.below (v := .agg #[.bool s1, .slice A1 n1 c1, .bool s2, .slice A2 n2 c2, .bool s3, .slice A3 n3 c3]) (x := x) (y := y) (d := d) (by ((repeat (first | (with_reducible exact H0.out) | (with_reducible refine RAt.al ?_ _) | (with_reducible apply RAt.st1))) <;> (first | (with_reducible assumption) | (intro _ e; cases e; done) | (go_simp; first | done | exact rfl)))) hb_w4)
  have HB4 := Lib.hid (show Below w.heap.size w w4 by ((with_reducible (repeat (first | exact bR _ _ | refine bS ?_ ?_ _ | refine bA ?_ ?_ _ | refine bD ?_ | refine bT ?_ (by assumption) ?_ | refine bO (by assumption) ?_ ?_))) <;> (first | omega | (simp <;> omega))))
  have hz4 : w.heap.size + 1 + 1 ≤ w4.heap.size := by omega
  clear hb_w4
  skip
  refine wpQI_start [0, 1, 2, 3] ?_; (iterate 4 (first | (apply wpQI_step (by with_reducible (refine zA ?_; (repeat (first | exact zB | refine zC ?_)))) (by kernel_rfl) (by exact rfl); (focus (intro W' hS; have hcS := hS.cells.1; have hfS := hS.cells.2; go_simp; (first | done | exact rfl | exact bB _ | (go_simp; first | done | exact rfl | exact bB _)))); intro K hK; go_simp; (try go_bits); refine hK _ ?_; clear hK K))); refine wpQI_nil ?_
  refine wpQI_start [5, 6] ?_; (iterate 2 (first | (apply wpQI_step (by with_reducible (refine zA ?_; (repeat (first | exact zB | refine zC ?_)))) (by kernel_rfl) (by exact rfl); (focus (intro W' hS; have hcS := hS.cells.1; have hfS := hS.cells.2; go_simp; (first | done | exact rfl | exact bB _ | (go_simp; first | done | exact rfl | exact bB _)))); intro K hK; go_simp; (try go_bits); refine hK _ ?_; clear hK K))); refine wpQI_nil ?_
  apply wpQ_call (i := 4) (by with_reducible (refine zA ?_; (repeat (first | exact zB | refine zC ?_)))) (by kernel_rfl) (by exact rfl); intro W hF hS; have hcS := hS.1.cells.1; have hfS := hS.1.cells.2; go_simp; (go_at_call 69; refine ((K1.out _ _ _ ((RAt.px (H0.out.below hS.1.2)).zl LX.out) ((RAt.py (H0.out.below hS.1.2)).zl LY.out)).mono (fun _ _ h => NOut.z h)).mono ?_; rintro e w5 ⟨hb_w5, v5, rfl, hv5⟩; refine XPost.mk _ (fun W => IsC W v5 ((g : Int))) hb_w5 (hv5) (IsC.cl _ _) ?_); clear hb_w5 hcS hfS hS hF
  intro K hK; go_simp; (try go_bits); refine hK _ ?_; clear hK K
  obtain ⟨s5, A5, n5, c5, rfl⟩ := IsC.val hv5
  clear hv5
  apply wpQ_call (i := 7) (by with_reducible (refine zA ?_; (repeat (first | exact zB | refine zC ?_)))) (by kernel_rfl) (by exact rfl); intro W hF hS; have hcS := hS.1.cells.1; have hfS := hS.1.cells.2; go_simp; (go_at_call 69; refine ((K2.out _ _ _ (hF.zl LG1.out) ((RAt.pd (H0.out.below hS.1.2)).zl LD.out)).mono (fun _ _ h => NOut.z h)).mono ?_; rintro e w6 ⟨hb_w6, v6, rfl, hv6⟩; refine XPost.mk _ (fun W => IsC W v6 ((G : Int))) hb_w6 (hv6) (IsC.cl _ _) ?_); clear hb_w6 hcS hfS hS hF
  intro K hK; go_simp; (try go_bits); refine hK _ ?_; clear hK K
  obtain ⟨s6, A6, n6, c6, rfl⟩ := IsC.val hv6
  clear hv6
  apply wpQ_fresh (i := 8) LInv.std (by with_reducible (refine zA ?_; (repeat (first | exact zB | refine zC ?_)))) (by kernel_rfl) (fun g => Value.pointer (some ⟨g, 0, none⟩)) (by exact rfl); (focus (intro W; go_simp; first | done | exact rfl | exact ⟨rfl, rfl⟩))
  intro g_r1_8 hN_r1_8 hG_r1_8 K hK
  go_simp; refine hK _ ?_; clear hK K
  have hne : w.heap.size ≠ g_r1_8 := by have := hN_r1_8; omega
  have hne := Ne.symm hne
  have hne : w.heap.size + 1 ≠ g_r1_8 := by have := hN_r1_8; omega
  have hne := Ne.symm hne
  refine wpQ_done (by kernel_rfl) ?_
  intro w7 hF_w7 hSG
  have hz_w7 := hSG.1.1
  have hb_w7 := hSG.1.2
  have hB_r1_8 := (hSG.2 _ (List.mem_cons_self ..)).2; simp only at hB_r1_8; have hl_r1_8 := (hSG.size (List.mem_cons_self ..)); simp only at hl_r1_8
  have c_w7_r1_8_0 := cell_of_row w7 g_r1_8 0 _ _ _ hB_r1_8; simp only [List.getElem?_toArray, List.getElem?_cons_zero] at c_w7_r1_8_0
  have c_w7_r1_8_1 := cell_of_row w7 g_r1_8 1 _ _ _ hB_r1_8; simp only [List.getElem?_toArray, List.getElem?_cons_zero, List.getElem?_cons_succ] at c_w7_r1_8_1
  have fz_w7_r1_8 : (∀ o, w7.frozen? ⟨g_r1_8, o, none⟩ = false) := (fun o => frozen_of_row w7 g_r1_8 o _ _ hB_r1_8); have HH_r1_8 := Lib.hid hB_r1_8; clear hB_r1_8
  clear hSG
  (with_reducible apply cel6 (b := w.heap.size) hb_w7); (focus ((try simp) <;> omega)); (focus omega); (iterate 6 (focus (go_simp; try exact rfl))); (focus (intro o; go_simp)); intro c_w7_0_0 c_w7_0_1 c_w7_0_2 c_w7_0_3 c_w7_0_4 c_w7_0_5 fz_w7_0 hl_w7_0; (with_reducible apply cel6 (b := w.heap.size + 1) hb_w7); (focus ((try simp) <;> omega)); (focus omega); (iterate 6 (focus (go_simp; try exact rfl))); (focus (intro o; go_simp)); intro c_w7_1_0 c_w7_1_1 c_w7_1_2 c_w7_1_3 c_w7_1_4 c_w7_1_5 fz_w7_1 hl_w7_1
  (try simp only [List.filterMap_cons, List.filterMap_nil, List.getElem?_cons_succ, List.getElem?_cons_zero])
  replace H0 := Lib.hid (H0.out.below hb_w7)
  have H5 := Lib.hid (show IsC w7 (.agg #[.bool s5, .slice A5 n5 c5]) ((g : Int)) from hF_w7.1)
  have H6 := Lib.hid (show IsC w7 (.agg #[.bool s6, .slice A6 n6 c6]) ((G : Int)) from hF_w7.2)
  have HB7 := Lib.hid (HB4.out.trans (hb_w7.mono (by have := HB4.out.size; omega)))
  have hz7 : w.heap.size + 1 + 1 ≤ w7.heap.size := by omega
  have hn_r1_8 : w.heap.size + 1 + 1 ≤ g_r1_8 := by have := hN_r1_8; omega
  clear hF_w7 hb_w7 HH_r1_8 hG_r1_8 hN_r1_8
  clear c_w4_0_0 c_w4_0_1 c_w4_0_2 c_w4_0_3 c_w4_0_4 c_w4_0_5 fz_w4_0 hl_w4_0 c_w4_1_0 c_w4_1_1 c_w4_1_2 c_w4_1_3 c_w4_1_4 c_w4_1_5 fz_w4_1 hl_w4_1
  go_wp2_with fail
  refine HQ_.out _ _ _ ?_
  clear HQ_ Q_
  go_wp2_with fail
  (go_at_call 46; refine (K3.out _ _ _ ((RAt.px (show RAt _ (.agg #[.bool s1, .slice A1 n1 c1, .bool s2, .slice A2 n2 c2, .bool s3, .slice A3 n3 c3]) (x) (y) (d) by ((repeat (first | (with_reducible exact H0.out) | (with_reducible refine RAt.al ?_ _) | (with_reducible apply RAt.st1))) <;> (first | (with_reducible assumption) | (intro _ e; cases e; done) | (go_simp; first | done | exact rfl))))).zl LX.out) ((show IsC _ (.agg #[.bool s6, .slice A6 n6 c6]) ((G : Int)) by ((repeat (first | (with_reducible exact H6.out) | (with_reducible refine IsC.al ?_ _) | (with_reducible apply IsC.st1))) <;> (first | (with_reducible assumption) | (intro _ e; cases e; done) | (go_simp; first | done | exact rfl)))).zl LG.out)).mono ?_; rintro e w8 ⟨hb_w8, u8, v8, rfl, hu8, hv8⟩; have hz_w8 := hb_w8.size; (try simp at hz_w8); (with_reducible apply cel6 (b := w.heap.size) hb_w8); (focus ((try simp) <;> omega)); (focus omega); (iterate 6 (focus (go_simp; try exact rfl))); (focus (intro o; go_simp)); intro c_w8_0_0 c_w8_0_1 c_w8_0_2 c_w8_0_3 c_w8_0_4 c_w8_0_5 fz_w8_0 hl_w8_0; (with_reducible apply cel6 (b := w.heap.size + 1) hb_w8); (focus ((try simp) <;> omega)); (focus omega); (iterate 6 (focus (go_simp; try exact rfl))); (focus (intro o; go_simp)); intro c_w8_1_0 c_w8_1_1 c_w8_1_2 c_w8_1_3 c_w8_1_4 c_w8_1_5 fz_w8_1 hl_w8_1; (with_reducible apply cel2 (b := g_r1_8) hb_w8); (focus ((try simp) <;> omega)); (focus omega); (iterate 2 (focus (go_simp; try exact rfl))); (focus (intro o; go_simp)); intro c_w8_2_0 c_w8_2_1 fz_w8_2 hl_w8_2)
  obtain ⟨s8u, A8u, n8u, c8u, rfl⟩ := IsC.val hu8
  obtain ⟨s8, A8, n8, c8, rfl⟩ := IsC.val hv8
  clear H5
  replace H0 := Lib.hid (RAt.below (v := .agg #[.bool s1, .slice A1 n1 c1, .bool s2, .slice A2 n2 c2, .bool s3, .slice A3 n3 c3]) (x := x) (y := y) (d := d) (by ((repeat (first | (with_reducible exact H0.out) | (with_reducible refine RAt.al ?_ _) | (with_reducible apply RAt.st1))) <;> (first | (with_reducible assumption) | (intro _ e; cases e; done) | (go_simp; first | done | exact rfl)))) hb_w8)
  replace H6 := Lib.hid (IsC.below (v := .agg #[.bool s6, .slice A6 n6 c6]) (z := (G : Int)) (by ((repeat (first | (with_reducible exact H6.out) | (with_reducible refine IsC.al ?_ _) | (with_reducible apply IsC.st1))) <;> (first | (with_reducible assumption) | (intro _ e; cases e; done) | (go_simp; first | done | exact rfl)))) hb_w8)
  have HB8 := Lib.hid (show Below w.heap.size w w8 by have hB := HB7.out; ((with_reducible (repeat (first | exact bR _ _ | refine bS ?_ ?_ _ | refine bA ?_ ?_ _ | refine bD ?_ | refine bT ?_ (by assumption) ?_ | refine bO (by assumption) ?_ ?_))) <;> (first | omega | (simp <;> omega))))
  have hz8 : w.heap.size + 1 + 1 ≤ w8.heap.size := by omega
  clear hb_w8
  clear c_w7_r1_8_0 c_w7_r1_8_1 fz_w7_r1_8 c_w7_0_0 c_w7_0_1 c_w7_0_2 c_w7_0_3 c_w7_0_4 c_w7_0_5 fz_w7_0 hl_w7_0 c_w7_1_0 c_w7_1_1 c_w7_1_2 c_w7_1_3 c_w7_1_4 c_w7_1_5 fz_w7_1 hl_w7_1
  have H8u := Lib.hid (show IsC w8 (.agg #[.bool s8u, .slice A8u n8u c8u]) (X) from hu8)
  clear hu8
  have H8 := Lib.hid (show IsC w8 (.agg #[.bool s8, .slice A8 n8 c8]) (X2) from hv8)
  clear hv8
  go_wp2_with fail
  (go_at_call 46; refine (K4.out _ _ _ ((RAt.py (show RAt _ (.agg #[.bool s1, .slice A1 n1 c1, .bool s2, .slice A2 n2 c2, .bool s3, .slice A3 n3 c3]) (x) (y) (d) by ((repeat (first | (with_reducible exact H0.out) | (with_reducible refine RAt.al ?_ _) | (with_reducible apply RAt.st1))) <;> (first | (with_reducible assumption) | (intro _ e; cases e; done) | (go_simp; first | done | exact rfl))))).zl LY.out) ((show IsC _ (.agg #[.bool s6, .slice A6 n6 c6]) ((G : Int)) by ((repeat (first | (with_reducible exact H6.out) | (with_reducible refine IsC.al ?_ _) | (with_reducible apply IsC.st1))) <;> (first | (with_reducible assumption) | (intro _ e; cases e; done) | (go_simp; first | done | exact rfl)))).zl LG.out)).mono ?_; rintro e w9 ⟨hb_w9, u9, v9, rfl, hu9, hv9⟩; have hz_w9 := hb_w9.size; (try simp at hz_w9); (with_reducible apply cel6 (b := w.heap.size) hb_w9); (focus ((try simp) <;> omega)); (focus omega); (iterate 6 (focus (go_simp; try exact rfl))); (focus (intro o; go_simp)); intro c_w9_0_0 c_w9_0_1 c_w9_0_2 c_w9_0_3 c_w9_0_4 c_w9_0_5 fz_w9_0 hl_w9_0; (with_reducible apply cel6 (b := w.heap.size + 1) hb_w9); (focus ((try simp) <;> omega)); (focus omega); (iterate 6 (focus (go_simp; try exact rfl))); (focus (intro o; go_simp)); intro c_w9_1_0 c_w9_1_1 c_w9_1_2 c_w9_1_3 c_w9_1_4 c_w9_1_5 fz_w9_1 hl_w9_1; (with_reducible apply cel2 (b := g_r1_8) hb_w9); (focus ((try simp) <;> omega)); (focus omega); (iterate 2 (focus (go_simp; try exact rfl))); (focus (intro o; go_simp)); intro c_w9_2_0 c_w9_2_1 fz_w9_2 hl_w9_2; (with_reducible apply cel2 (b := w8.heap.size) hb_w9); (focus ((try simp) <;> omega)); (focus omega); (iterate 2 (focus (go_simp; try exact rfl))); (focus (intro o; go_simp)); intro c_w9_3_0 c_w9_3_1 fz_w9_3 hl_w9_3)
  obtain ⟨s9u, A9u, n9u, c9u, rfl⟩ := IsC.val hu9
  obtain ⟨s9, A9, n9, c9, rfl⟩ := IsC.val hv9
  clear H8
  replace H0 := Lib.hid (RAt.below (v := .agg #[.bool s1, .slice A1 n1 c1, .bool s2, .slice A2 n2 c2, .bool s3, .slice A3 n3 c3]) (x := x) (y := y) (d := d) (by ((repeat (first | (with_reducible exact H0.out) | (with_reducible refine RAt.al ?_ _) | (with_reducible apply RAt.st1))) <;> (first | (with_reducible assumption) | (intro _ e; cases e; done) | (go_simp; first | done | exact rfl)))) hb_w9)
  replace H6 := Lib.hid (IsC.below (v := .agg #[.bool s6, .slice A6 n6 c6]) (z := (G : Int)) (by ((repeat (first | (with_reducible exact H6.out) | (with_reducible refine IsC.al ?_ _) | (with_reducible apply IsC.st1))) <;> (first | (with_reducible assumption) | (intro _ e; cases e; done) | (go_simp; first | done | exact rfl)))) hb_w9)
  replace H8u := Lib.hid (IsC.below (v := .agg #[.bool s8u, .slice A8u n8u c8u]) (z := X) (by ((repeat (first | (with_reducible exact H8u.out) | (with_reducible refine IsC.al ?_ _) | (with_reducible apply IsC.st1))) <;> (first | (with_reducible assumption) | (intro _ e; cases e; done) | (go_simp; first | done | exact rfl)))) hb_w9)
  have HB9 := Lib.hid (show Below w.heap.size w w9 by have hB := HB8.out; ((with_reducible (repeat (first | exact bR _ _ | refine bS ?_ ?_ _ | refine bA ?_ ?_ _ | refine bD ?_ | refine bT ?_ (by assumption) ?_ | refine bO (by assumption) ?_ ?_))) <;> (first | omega | (simp <;> omega))))
  have hz9 : w.heap.size + 1 + 1 ≤ w9.heap.size := by omega
  clear hb_w9
  clear c_w8_0_0 c_w8_0_1 c_w8_0_2 c_w8_0_3 c_w8_0_4 c_w8_0_5 fz_w8_0 hl_w8_0 c_w8_1_0 c_w8_1_1 c_w8_1_2 c_w8_1_3 c_w8_1_4 c_w8_1_5 fz_w8_1 hl_w8_1 c_w8_2_0 c_w8_2_1 fz_w8_2 hl_w8_2
  have H9u := Lib.hid (show IsC w9 (.agg #[.bool s9u, .slice A9u n9u c9u]) (Y) from hu9)
  clear hu9
  have H9 := Lib.hid (show IsC w9 (.agg #[.bool s9, .slice A9 n9 c9]) (Y2) from hv9)
  clear hv9
  go_wp2_with fail
  (go_at_call 46; refine (K5.out _ _ _ ((RAt.pd (show RAt _ (.agg #[.bool s1, .slice A1 n1 c1, .bool s2, .slice A2 n2 c2, .bool s3, .slice A3 n3 c3]) (x) (y) (d) by ((repeat (first | (with_reducible exact H0.out) | (with_reducible refine RAt.al ?_ _) | (with_reducible apply RAt.st1))) <;> (first | (with_reducible assumption) | (intro _ e; cases e; done) | (go_simp; first | done | exact rfl))))).zl LD.out) ((show IsC _ (.agg #[.bool s6, .slice A6 n6 c6]) ((G : Int)) by ((repeat (first | (with_reducible exact H6.out) | (with_reducible refine IsC.al ?_ _) | (with_reducible apply IsC.st1))) <;> (first | (with_reducible assumption) | (intro _ e; cases e; done) | (go_simp; first | done | exact rfl)))).zl LG.out)).mono ?_; rintro e w10 ⟨hb_w10, u10, v10, rfl, hu10, hv10⟩; have hz_w10 := hb_w10.size; (try simp at hz_w10); (with_reducible apply cel6 (b := w.heap.size + 1) hb_w10); (focus ((try simp) <;> omega)); (focus omega); (iterate 6 (focus (go_simp; try exact rfl))); (focus (intro o; go_simp)); intro c_w10_0_0 c_w10_0_1 c_w10_0_2 c_w10_0_3 c_w10_0_4 c_w10_0_5 fz_w10_0 hl_w10_0; (with_reducible apply cel2 (b := w8.heap.size) hb_w10); (focus ((try simp) <;> omega)); (focus omega); (iterate 2 (focus (go_simp; try exact rfl))); (focus (intro o; go_simp)); intro c_w10_1_0 c_w10_1_1 fz_w10_1 hl_w10_1; (with_reducible apply cel2 (b := w9.heap.size) hb_w10); (focus ((try simp) <;> omega)); (focus omega); (iterate 2 (focus (go_simp; try exact rfl))); (focus (intro o; go_simp)); intro c_w10_2_0 c_w10_2_1 fz_w10_2 hl_w10_2)
  obtain ⟨s10u, A10u, n10u, c10u, rfl⟩ := IsC.val hu10
  obtain ⟨s10, A10, n10, c10, rfl⟩ := IsC.val hv10
  clear H0
  clear H6
  clear H9
  replace H8u := Lib.hid (IsC.below (v := .agg #[.bool s8u, .slice A8u n8u c8u]) (z := X) (by ((repeat (first | (with_reducible exact H8u.out) | (with_reducible refine IsC.al ?_ _) | (with_reducible apply IsC.st1))) <;> (first | (with_reducible assumption) | (intro _ e; cases e; done) | (go_simp; first | done | exact rfl)))) hb_w10)
  replace H9u := Lib.hid (IsC.below (v := .agg #[.bool s9u, .slice A9u n9u c9u]) (z := Y) (by ((repeat (first | (with_reducible exact H9u.out) | (with_reducible refine IsC.al ?_ _) | (with_reducible apply IsC.st1))) <;> (first | (with_reducible assumption) | (intro _ e; cases e; done) | (go_simp; first | done | exact rfl)))) hb_w10)
  have HB10 := Lib.hid (show Below w.heap.size w w10 by have hB := HB9.out; ((with_reducible (repeat (first | exact bR _ _ | refine bS ?_ ?_ _ | refine bA ?_ ?_ _ | refine bD ?_ | refine bT ?_ (by assumption) ?_ | refine bO (by assumption) ?_ ?_))) <;> (first | omega | (simp <;> omega))))
  have hz10 : w.heap.size + 1 + 1 ≤ w10.heap.size := by omega
  clear hb_w10
  clear c_w9_0_0 c_w9_0_1 c_w9_0_2 c_w9_0_3 c_w9_0_4 c_w9_0_5 fz_w9_0 hl_w9_0 c_w9_1_0 c_w9_1_1 c_w9_1_2 c_w9_1_3 c_w9_1_4 c_w9_1_5 fz_w9_1 hl_w9_1 c_w9_2_0 c_w9_2_1 fz_w9_2 hl_w9_2 c_w9_3_0 c_w9_3_1 fz_w9_3 hl_w9_3
  have H10u := Lib.hid (show IsC w10 (.agg #[.bool s10u, .slice A10u n10u c10u]) (D) from hu10)
  clear hu10
  have H10 := Lib.hid (show IsC w10 (.agg #[.bool s10, .slice A10 n10 c10]) (D2) from hv10)
  clear hv10
  go_wp2_with fail
  refine bodyPost_ret (v := .agg #[.bool s8u, .slice A8u n8u c8u, .bool s9u, .slice A9u n9u c9u, .bool s10u, .slice A10u n10u c10u]) (by simp only [results, Tryz.results38]; go_simp) rfl ⟨?_, ?_⟩
  · have hB := HB10.out; ((with_reducible (repeat (first | exact bR _ _ | refine bS ?_ ?_ _ | refine bA ?_ ?_ _ | refine bD ?_ | refine bT ?_ (by assumption) ?_ | refine bO (by assumption) ?_ ?_))) <;> (first | omega | (simp <;> omega)))
  · exact ⟨_, rfl, ⟨_, _, _, _, _, _, _, _, _, _, _, _, rfl, (by ((repeat (first | (with_reducible exact H8u.out) | (with_reducible refine IsC.al ?_ _) | (with_reducible apply IsC.st1))) <;> (first | (with_reducible assumption) | (intro _ e; cases e; done) | (go_simp; first | done | exact rfl)))), (by ((repeat (first | (with_reducible exact H9u.out) | (with_reducible refine IsC.al ?_ _) | (with_reducible apply IsC.st1))) <;> (first | (with_reducible assumption) | (intro _ e; cases e; done) | (go_simp; first | done | exact rfl)))), (by ((repeat (first | (with_reducible exact H10u.out) | (with_reducible refine IsC.al ?_ _) | (with_reducible apply IsC.st1))) <;> (first | (with_reducible assumption) | (intro _ e; cases e; done) | (go_simp; first | done | exact rfl))))⟩⟩
theorem makeFunc_run (fn : Fn) (first cap : Array Value) (w : World) : (Instr.makeFunc fn first cap).run Tryz.prog w = .ok (.func fn first cap) w := rfl
attribute [local go_sem] makeFunc_run
def statX (v u n m c rest grip : Int) : Int := (16 * v - grip * u) * m - ((16 + rest - grip) * n) * c
structure SmX (v u n m c rest grip : Int) : Prop where
  v : -4194304 ≤ v ∧ v ≤ 4194304
  u : -4194304 ≤ u ∧ u ≤ 4194304
  n : -4194304 ≤ n ∧ n ≤ 4194304
  m : -17592186044416 ≤ m ∧ m ≤ 17592186044416
  c : -17592186044416 ≤ c ∧ c ≤ 17592186044416
  rest : 0 ≤ rest ∧ rest ≤ 15
  grip : 0 ≤ grip ∧ grip ≤ 15
theorem SmX.parts {v u n m c rest grip : Int} (h : SmX v u n m c rest grip) : (-62914560 ≤ grip * u ∧ grip * u ≤ 62914560) ∧ (-130023424 ≤ (16 + rest - grip) * n ∧ (16 + rest - grip) * n ≤ 130023424) ∧
    (-2361183241434822606848 ≤ (16 * v - grip * u) * m ∧ (16 * v - grip * u) * m ≤ 2361183241434822606848) ∧ (-2361183241434822606848 ≤ ((16 + rest - grip) * n) * c ∧ ((16 + rest - grip) * n) * c ≤ 2361183241434822606848) := by
  obtain ⟨hv, hu, hn, hm, hc, hr, hg⟩ := h
  have m1 := mulB grip u 15 4194304 (by omega) hu
  have m2 := mulB (16 + rest - grip) n 31 4194304 (by omega) hn
  have m3 := mulB (16 * v - grip * u) m 134217728 17592186044416 (by omega) hm
  have m4 := mulB ((16 + rest - grip) * n) c 134217728 17592186044416 (by omega) hc
  omega
theorem SmX.len {v u n m c rest grip : Int} (h : SmX v u n m c rest grip) : (canN (statX v u n m c rest grip).natAbs).length ≤ 10 := by
  obtain ⟨_, _, a, b⟩ := h.parts
  unfold statX
  exact canN_bd (B := 18446744073709551616 * 18446744073709551616) (by omega) (by omega) (by decide)
set_option maxRecDepth 100000 in
set_option maxHeartbeats 8000000 in
theorem static1_any (v u n m c rest grip : Int) (b1 b2 b3 b4 : Nat) (w : World) (hs : SmX v u n m c rest grip)
    (g1 : w.cell? ⟨b1, 0, none⟩ = some (.int .i64 grip)) (g2 : w.cell? ⟨b2, 0, none⟩ = some (.int .i64 m)) (g3 : w.cell? ⟨b3, 0, none⟩ = some (.int .i64 rest)) (g4 : w.cell? ⟨b4, 0, none⟩ = some (.int .i64 c)) :
    Calls Tryz.prog 87 #[.int .i64 v, .int .i64 u, .int .i64 n, .pointer (some ⟨b1, 0, none⟩), .pointer (some ⟨b2, 0, none⟩), .pointer (some ⟨b3, 0, none⟩), .pointer (some ⟨b4, 0, none⟩)] w (ZOut (statX v u n m c rest grip) w) := by
  have z1 : b1 < w.heap.size := by simpa using World.block_lt_of_cell? w _ g1
  have z2 : b2 < w.heap.size := by simpa using World.block_lt_of_cell? w _ g2
  have z3 : b3 < w.heap.size := by simpa using World.block_lt_of_cell? w _ g3
  have z4 : b4 < w.heap.size := by simpa using World.block_lt_of_cell? w _ g4
  obtain ⟨⟨p1, p2⟩, ⟨p3, p4⟩, p5, p6⟩ := hs.parts
  have hlen := hs.len
  obtain ⟨⟨v1, v2⟩, ⟨u1, u2⟩, ⟨n1, n2⟩, ⟨m1, m2⟩, ⟨c1, c2⟩, ⟨r1, r2⟩, ⟨e1, e2⟩⟩ := hs
  have k1 := fun w => wof_any (16 * v - grip * u) w (by omega) (by omega)
  have k2 := fun w => wof_any m w (by omega) (by omega)
  have k4 := fun w => wof_any ((16 + rest - grip) * n) w (by omega) (by omega)
  have k5 := fun w => wof_any c w (by omega) (by omega)
  have l1 := len_wd (z := 16 * v - grip * u) (by omega) (by omega)
  have l2 := len_wd (z := m) (by omega) (by omega)
  have l4 := len_wd (z := (16 + rest - grip) * n) (by omega) (by omega)
  have l5 := len_wd (z := c) (by omega) (by omega)
  have l3 : (canN ((16 * v - grip * u) * m).natAbs).length ≤ 10 := canN_bd (B := 18446744073709551616 * 18446744073709551616) (by omega) (by omega) (by decide)
  have l6 : (canN ((16 + rest - grip) * n * c).natAbs).length ≤ 10 := canN_bd (B := 18446744073709551616 * 18446744073709551616) (by omega) (by omega) (by decide)
  have K1 := Lib.hid k1
  have K4 := Lib.hid k4
  clear k1 k4
  obtain ⟨P, hP⟩ : ∃ P, P = 16 * v - grip * u := ⟨_, rfl⟩
  obtain ⟨Q, hQ⟩ : ∃ Q, Q = (16 + rest - grip) * n := ⟨_, rfl⟩
  unfold statX at hlen ⊢
  rw [← hP] at l1 l3 hlen ⊢
  rw [← hQ] at l4 l6 hlen ⊢
  have kk1 := fun w => (K1.out w).mono (fun _ _ (h : ZOut (16 * v - grip * u) w _ _) => (show ZOut P w _ _ by rw [hP]; exact h))
  have kk4 := fun w => (K4.out w).mono (fun _ _ (h : ZOut ((16 + rest - grip) * n) w _ _) => (show ZOut Q w _ _ by rw [hQ]; exact h))
  replace K1 := Lib.hid kk1
  replace K4 := Lib.hid kk4
  clear hP hQ kk1 kk4
  have k3 := fun x y w h1 h2 => wmul_any 10 x y P m w h1 h2 (by omega)
  have k6 := fun x y w h1 h2 => wmul_any 10 x y Q c w h1 h2 (by omega)
  have k7 := fun x y w h1 h2 => wsub_any 10 x y (P * m) (Q * c) w h1 h2 (by omega)
  generalize P * m = Z3 at *
  generalize Q * c = Z6 at *
  generalize Z3 - Z6 = Z at *
  have K2 := Lib.hid k2
  have K3 := Lib.hid k3
  have K5 := Lib.hid k5
  have K6 := Lib.hid k6
  have K7 := Lib.hid k7
  have L1 := Lib.hid l1
  have L2 := Lib.hid l2
  have L3 := Lib.hid l3
  have L4 := Lib.hid l4
  have L5 := Lib.hid l5
  have L6 := Lib.hid l6
  have G1 := Lib.hid g1
  have G2 := Lib.hid g2
  have G3 := Lib.hid g3
  have G4 := Lib.hid g4
  clear k2 k3 k5 k6 k7 l1 l2 l3 l4 l5 l6 p5 p6 hlen
  go_enter Tryz.func87, Tryz.ntmps87; (try simp only [List.append_eq, List.cons_append, List.nil_append])
  go_wp2_with fail
  (refine pin_wp (N := _) (Nat.le_refl _) (fun w2 hb_w2 hz_w2 => ?_); (try simp at hz_w2); (with_reducible apply cel2 (b := w.heap.size) hb_w2); (focus ((try simp) <;> omega)); (focus omega); (iterate 2 (focus (go_simp; try exact rfl))); (focus (intro o; go_simp)); intro c_w2_0_0 c_w2_0_1 fz_w2_0 hl_w2_0); refine wp_q (fun Q_ HQ_ => ?_); refine wp_region_floatQ w2.heap.size 11 [11] (Nat.le_refl _) (fun _ => True) trivial Cl.tt (by kernel_rfl) (by kernel_rfl) ?_
  have HB2 := Lib.hid (show Below w.heap.size w w2 by ((with_reducible (repeat (first | exact bR _ _ | refine bS ?_ ?_ _ | refine bA ?_ ?_ _ | refine bD ?_ | refine bT ?_ (by assumption) ?_ | refine bO (by assumption) ?_ ?_))) <;> (first | omega | (simp <;> omega))))
  have hz2 : w.heap.size + 1 ≤ w2.heap.size := by omega
  clear hb_w2
  skip
  have f1 : w2.cell? ⟨b1, 0, none⟩ = some (.int .i64 grip) := (HB2.out.cell (p := ⟨b1, 0, none⟩) z1).trans G1.out
  have f2 : w2.cell? ⟨b2, 0, none⟩ = some (.int .i64 m) := (HB2.out.cell (p := ⟨b2, 0, none⟩) z2).trans G2.out
  have y1 : b1 < w2.heap.size := by omega
  have y2 : b2 < w2.heap.size := by omega
  clear g1 g2 g3 g4
  refine wpQI_start [0, 1, 2, 3, 4, 5] ?_; (iterate 6 (first | (apply wpQI_step (by with_reducible (refine zA ?_; (repeat (first | exact zB | refine zC ?_)))) (by kernel_rfl) (by exact rfl); (focus (intro W' hS; have hcS := hS.cells.1; have hfS := hS.cells.2; go_simp; (first | done | exact rfl | exact bB _ | (go_simp; first | done | exact rfl | exact bB _)))); intro K hK; go_simp; (try go_bits); refine hK _ ?_; clear hK K))); refine wpQI_nil ?_
  refine wpQI_start [7] ?_; (iterate 1 (first | (apply wpQI_step (by with_reducible (refine zA ?_; (repeat (first | exact zB | refine zC ?_)))) (by kernel_rfl) (by exact rfl); (focus (intro W' hS; have hcS := hS.cells.1; have hfS := hS.cells.2; go_simp; (first | done | exact rfl | exact bB _ | (go_simp; first | done | exact rfl | exact bB _)))); intro K hK; go_simp; (try go_bits); refine hK _ ?_; clear hK K))); refine wpQI_nil ?_
  apply wpQ_call (i := 6) (by with_reducible (refine zA ?_; (repeat (first | exact zB | refine zC ?_)))) (by kernel_rfl) (by exact rfl); intro W hF hS; have hcS := hS.1.cells.1; have hfS := hS.1.cells.2; go_simp; (go_at_call 57; refine (K1.out _).mono ?_; rintro e w3 ⟨hb_w3, v3, rfl, hv3⟩; refine XPost.mk _ (fun W => IsC W v3 (P)) hb_w3 (hv3) (IsC.cl _ _) ?_); clear hb_w3 hcS hfS hS hF
  intro K hK; go_simp; (try go_bits); refine hK _ ?_; clear hK K
  obtain ⟨s3, A3, n3, c3, rfl⟩ := IsC.val hv3
  clear hv3
  apply wpQ_call (i := 8) (by with_reducible (refine zA ?_; (repeat (first | exact zB | refine zC ?_)))) (by kernel_rfl) (by exact rfl); intro W hF hS; have hcS := hS.1.cells.1; have hfS := hS.1.cells.2; go_simp; (go_at_call 57; refine (K2.out _).mono ?_; rintro e w4 ⟨hb_w4, v4, rfl, hv4⟩; refine XPost.mk _ (fun W => IsC W v4 (m)) hb_w4 (hv4) (IsC.cl _ _) ?_); clear hb_w4 hcS hfS hS hF
  intro K hK; go_simp; (try go_bits); refine hK _ ?_; clear hK K
  obtain ⟨s4, A4, n4, c4, rfl⟩ := IsC.val hv4
  clear hv4
  apply wpQ_call (i := 9) (by with_reducible (refine zA ?_; (repeat (first | exact zB | refine zC ?_)))) (by kernel_rfl) (by exact rfl); intro W hF hS; have hcS := hS.1.cells.1; have hfS := hS.1.cells.2; go_simp; (go_at_call 56; refine (K3.out _ _ _ (hF.1.zl L1.out) (hF.2.zl L2.out)).mono ?_; rintro e w5 ⟨hb_w5, v5, rfl, hv5⟩; refine XPost.mk _ (fun W => IsC W v5 (Z3)) hb_w5 (hv5) (IsC.cl _ _) ?_); clear hb_w5 hcS hfS hS hF
  intro K hK; go_simp; (try go_bits); refine hK _ ?_; clear hK K
  obtain ⟨s5, A5, n5, c5, rfl⟩ := IsC.val hv5
  clear hv5
  apply wpQ_fresh (i := 10) LInv.std (by with_reducible (refine zA ?_; (repeat (first | exact zB | refine zC ?_)))) (by kernel_rfl) (fun g => Value.pointer (some ⟨g, 0, none⟩)) (by exact rfl); (focus (intro W; go_simp; first | done | exact rfl | exact ⟨rfl, rfl⟩))
  intro g_r1_10 hN_r1_10 hG_r1_10 K hK
  go_simp; refine hK _ ?_; clear hK K
  have hne : w.heap.size ≠ g_r1_10 := by have := hN_r1_10; omega
  have hne := Ne.symm hne
  refine wpQ_done (by kernel_rfl) ?_
  intro w6 hF_w6 hSG
  have hz_w6 := hSG.1.1
  have hb_w6 := hSG.1.2
  have hB_r1_10 := (hSG.2 _ (List.mem_cons_self ..)).2; simp only at hB_r1_10; have hl_r1_10 := (hSG.size (List.mem_cons_self ..)); simp only at hl_r1_10
  have c_w6_r1_10_0 := cell_of_row w6 g_r1_10 0 _ _ _ hB_r1_10; simp only [List.getElem?_toArray, List.getElem?_cons_zero] at c_w6_r1_10_0
  have c_w6_r1_10_1 := cell_of_row w6 g_r1_10 1 _ _ _ hB_r1_10; simp only [List.getElem?_toArray, List.getElem?_cons_zero, List.getElem?_cons_succ] at c_w6_r1_10_1
  have fz_w6_r1_10 : (∀ o, w6.frozen? ⟨g_r1_10, o, none⟩ = false) := (fun o => frozen_of_row w6 g_r1_10 o _ _ hB_r1_10); have HH_r1_10 := Lib.hid hB_r1_10; clear hB_r1_10
  clear hSG
  (with_reducible apply cel2 (b := w.heap.size) hb_w6); (focus ((try simp) <;> omega)); (focus omega); (iterate 2 (focus (go_simp; try exact rfl))); (focus (intro o; go_simp)); intro c_w6_0_0 c_w6_0_1 fz_w6_0 hl_w6_0
  (try simp only [List.filterMap_cons, List.filterMap_nil, List.getElem?_cons_succ, List.getElem?_cons_zero])
  have H3 := Lib.hid (show IsC w6 (.agg #[.bool s3, .slice A3 n3 c3]) (P) from hF_w6.1.1)
  have H4 := Lib.hid (show IsC w6 (.agg #[.bool s4, .slice A4 n4 c4]) (m) from hF_w6.1.2)
  have H5 := Lib.hid (show IsC w6 (.agg #[.bool s5, .slice A5 n5 c5]) (Z3) from hF_w6.2)
  have HB6 := Lib.hid (HB2.out.trans (hb_w6.mono (by have := HB2.out.size; omega)))
  have hz6 : w.heap.size + 1 ≤ w6.heap.size := by omega
  have hn_r1_10 : w.heap.size + 1 ≤ g_r1_10 := by have := hN_r1_10; omega
  clear hF_w6 hb_w6 HH_r1_10 hG_r1_10 hN_r1_10
  clear c_w2_0_0 c_w2_0_1 fz_w2_0 hl_w2_0
  go_wp2_with fail
  refine HQ_.out _ _ _ ?_
  clear HQ_ Q_
  go_wp2_with fail
  (refine pin_wp (N := _) (Nat.le_refl _) (fun w7 hb_w7 hz_w7 => ?_); (try simp at hz_w7); (with_reducible apply cel2 (b := w.heap.size) hb_w7); (focus ((try simp) <;> omega)); (focus omega); (iterate 2 (focus (go_simp; try exact rfl))); (focus (intro o; go_simp)); intro c_w7_0_0 c_w7_0_1 fz_w7_0 hl_w7_0; (with_reducible apply cel2 (b := g_r1_10) hb_w7); (focus ((try simp) <;> omega)); (focus omega); (iterate 2 (focus (go_simp; try exact rfl))); (focus (intro o; go_simp)); intro c_w7_1_0 c_w7_1_1 fz_w7_1 hl_w7_1); refine wp_q (fun Q_ HQ_ => ?_); refine wp_region_floatQ w7.heap.size 12 [12] (Nat.le_refl _) (fun _ => True) trivial Cl.tt (by kernel_rfl) (by kernel_rfl) ?_
  clear H3
  clear H4
  replace H5 := Lib.hid (IsC.below (v := .agg #[.bool s5, .slice A5 n5 c5]) (z := Z3) (by ((repeat (first | (with_reducible exact H5.out) | (with_reducible refine IsC.al ?_ _) | (with_reducible apply IsC.st1))) <;> (first | (with_reducible assumption) | (intro _ e; cases e; done) | (go_simp; first | done | exact rfl)))) hb_w7)
  have HB7 := Lib.hid (show Below w.heap.size w w7 by have hB := HB6.out; ((with_reducible (repeat (first | exact bR _ _ | refine bS ?_ ?_ _ | refine bA ?_ ?_ _ | refine bD ?_ | refine bT ?_ (by assumption) ?_ | refine bO (by assumption) ?_ ?_))) <;> (first | omega | (simp <;> omega))))
  have hz7 : w.heap.size + 1 ≤ w7.heap.size := by omega
  clear hb_w7
  clear c_w6_r1_10_0 c_w6_r1_10_1 fz_w6_r1_10 c_w6_0_0 c_w6_0_1 fz_w6_0 hl_w6_0
  have f1 : w7.cell? ⟨b1, 0, none⟩ = some (.int .i64 grip) := (HB7.out.cell (p := ⟨b1, 0, none⟩) z1).trans G1.out
  have f3 : w7.cell? ⟨b3, 0, none⟩ = some (.int .i64 rest) := (HB7.out.cell (p := ⟨b3, 0, none⟩) z3).trans G3.out
  have f4 : w7.cell? ⟨b4, 0, none⟩ = some (.int .i64 c) := (HB7.out.cell (p := ⟨b4, 0, none⟩) z4).trans G4.out
  have y1 : b1 < w7.heap.size := by omega
  have y3 : b3 < w7.heap.size := by omega
  have y4 : b4 < w7.heap.size := by omega
  refine wpQI_start [0, 1, 2, 3, 4, 5, 6] ?_; (iterate 7 (first | (apply wpQI_step (by with_reducible (refine zA ?_; (repeat (first | exact zB | refine zC ?_)))) (by kernel_rfl) (by exact rfl); (focus (intro W' hS; have hcS := hS.cells.1; have hfS := hS.cells.2; go_simp; (first | done | exact rfl | exact bB _ | (go_simp; first | done | exact rfl | exact bB _)))); intro K hK; go_simp; (try go_bits); refine hK _ ?_; clear hK K))); refine wpQI_nil ?_
  refine wpQI_start [8] ?_; (iterate 1 (first | (apply wpQI_step (by with_reducible (refine zA ?_; (repeat (first | exact zB | refine zC ?_)))) (by kernel_rfl) (by exact rfl); (focus (intro W' hS; have hcS := hS.cells.1; have hfS := hS.cells.2; go_simp; (first | done | exact rfl | exact bB _ | (go_simp; first | done | exact rfl | exact bB _)))); intro K hK; go_simp; (try go_bits); refine hK _ ?_; clear hK K))); refine wpQI_nil ?_
  apply wpQ_call (i := 7) (by with_reducible (refine zA ?_; (repeat (first | exact zB | refine zC ?_)))) (by kernel_rfl) (by exact rfl); intro W hF hS; have hcS := hS.1.cells.1; have hfS := hS.1.cells.2; go_simp; (go_at_call 57; refine (K4.out _).mono ?_; rintro e w8 ⟨hb_w8, v8, rfl, hv8⟩; refine XPost.mk _ (fun W => IsC W v8 (Q)) hb_w8 (hv8) (IsC.cl _ _) ?_); clear hb_w8 hcS hfS hS hF
  intro K hK; go_simp; (try go_bits); refine hK _ ?_; clear hK K
  obtain ⟨s8, A8, n8, c8, rfl⟩ := IsC.val hv8
  clear hv8
  apply wpQ_call (i := 9) (by with_reducible (refine zA ?_; (repeat (first | exact zB | refine zC ?_)))) (by kernel_rfl) (by exact rfl); intro W hF hS; have hcS := hS.1.cells.1; have hfS := hS.1.cells.2; go_simp; (go_at_call 57; refine (K5.out _).mono ?_; rintro e w9 ⟨hb_w9, v9, rfl, hv9⟩; refine XPost.mk _ (fun W => IsC W v9 (c)) hb_w9 (hv9) (IsC.cl _ _) ?_); clear hb_w9 hcS hfS hS hF
  intro K hK; go_simp; (try go_bits); refine hK _ ?_; clear hK K
  obtain ⟨s9, A9, n9, c9, rfl⟩ := IsC.val hv9
  clear hv9
  apply wpQ_call (i := 10) (by with_reducible (refine zA ?_; (repeat (first | exact zB | refine zC ?_)))) (by kernel_rfl) (by exact rfl); intro W hF hS; have hcS := hS.1.cells.1; have hfS := hS.1.cells.2; go_simp; (go_at_call 56; refine (K6.out _ _ _ (hF.1.zl L4.out) (hF.2.zl L5.out)).mono ?_; rintro e w10 ⟨hb_w10, v10, rfl, hv10⟩; refine XPost.mk _ (fun W => IsC W v10 (Z6)) hb_w10 (hv10) (IsC.cl _ _) ?_); clear hb_w10 hcS hfS hS hF
  intro K hK; go_simp; (try go_bits); refine hK _ ?_; clear hK K
  obtain ⟨s10, A10, n10, c10, rfl⟩ := IsC.val hv10
  clear hv10
  apply wpQ_call (i := 11) (by with_reducible (refine zA ?_; (repeat (first | exact zB | refine zC ?_)))) (by kernel_rfl) (by exact rfl); intro W hF hS; have hcS := hS.1.cells.1; have hfS := hS.1.cells.2; go_simp; (go_at_call 88; refine (K7.out _ _ _ ((H5.out.below hS.1.2).zl L3.out) (hF.2.zl L6.out)).mono ?_; rintro e w11 ⟨hb_w11, v11, rfl, hv11⟩; refine XPost.mk _ (fun W => IsC W v11 (Z)) hb_w11 (hv11) (IsC.cl _ _) ?_); clear hb_w11 hcS hfS hS hF
  intro K hK; go_simp; (try go_bits); refine hK _ ?_; clear hK K
  obtain ⟨s11, A11, n11, c11, rfl⟩ := IsC.val hv11
  clear hv11
  refine wpQ_done (by kernel_rfl) ?_
  intro w12 hF_w12 hSG
  have hz_w12 := hSG.1.1
  have hb_w12 := hSG.1.2
  clear hSG
  (with_reducible apply cel2 (b := w.heap.size) hb_w12); (focus ((try simp) <;> omega)); (focus omega); (iterate 2 (focus (go_simp; try exact rfl))); (focus (intro o; go_simp)); intro c_w12_0_0 c_w12_0_1 fz_w12_0 hl_w12_0; (with_reducible apply cel2 (b := g_r1_10) hb_w12); (focus ((try simp) <;> omega)); (focus omega); (iterate 2 (focus (go_simp; try exact rfl))); (focus (intro o; go_simp)); intro c_w12_1_0 c_w12_1_1 fz_w12_1 hl_w12_1
  (try simp only [List.filterMap_cons, List.filterMap_nil, List.getElem?_cons_succ, List.getElem?_cons_zero])
  clear H5
  have H8 := Lib.hid (show IsC w12 (.agg #[.bool s8, .slice A8 n8 c8]) (Q) from hF_w12.1.1.1)
  have H9 := Lib.hid (show IsC w12 (.agg #[.bool s9, .slice A9 n9 c9]) (c) from hF_w12.1.1.2)
  have H10 := Lib.hid (show IsC w12 (.agg #[.bool s10, .slice A10 n10 c10]) (Z6) from hF_w12.1.2)
  have H11 := Lib.hid (show IsC w12 (.agg #[.bool s11, .slice A11 n11 c11]) (Z) from hF_w12.2)
  have HB12 := Lib.hid (HB7.out.trans (hb_w12.mono (by have := HB7.out.size; omega)))
  have hz12 : w.heap.size + 1 ≤ w12.heap.size := by omega
  clear hF_w12 hb_w12
  clear c_w7_0_0 c_w7_0_1 fz_w7_0 hl_w7_0 c_w7_1_0 c_w7_1_1 fz_w7_1 hl_w7_1
  go_wp2_with fail
  refine HQ_.out _ _ _ ?_
  clear HQ_ Q_
  go_wp2_with fail
  refine bodyPost_ret (v := .agg #[.bool s11, .slice A11 n11 c11]) (by simp only [results, Tryz.results87]; go_simp) rfl ⟨?_, ?_⟩
  · have hB := HB12.out; ((with_reducible (repeat (first | exact bR _ _ | refine bS ?_ ?_ _ | refine bA ?_ ?_ _ | refine bD ?_ | refine bT ?_ (by assumption) ?_ | refine bO (by assumption) ?_ ?_))) <;> (first | omega | (simp <;> omega)))
  · exact ⟨_, rfl, by ((repeat (first | (with_reducible exact H11.out) | (with_reducible refine IsC.al ?_ _) | (with_reducible apply IsC.st1))) <;> (first | (with_reducible assumption) | (intro _ e; cases e; done) | (go_simp; first | done | exact rfl)))⟩
def lowR (x y d : Int) : Int × Int × Int := (x.tdiv (lowG x y d), y.tdiv (lowG x y d), d.tdiv (lowG x y d))
def statR (v1 v2 w1 w2 n1 n2 rest grip : Int) : Int × Int × Int :=
  if permB v1 v2 w1 w2 n1 n2 = true ∧ (sixB rest && sixB grip) = true then
    if apprB v1 v2 w1 w2 n1 n2 = true then lowR (statX v1 (v1 - w1) n1 (n1 * n1 + n2 * n2) ((v1 - w1) * n1 + (v2 - w2) * n2) rest grip) (statX v2 (v2 - w2) n2 (n1 * n1 + n2 * n2) ((v1 - w1) * n1 + (v2 - w2) * n2) rest grip) (16 * (n1 * n1 + n2 * n2)) else (v1, v2, 1)
  else (0, 0, 0)
theorem perm_bd {v1 v2 w1 w2 n1 n2 : Int} (h : permB v1 v2 w1 w2 n1 n2 = true) : (-1048576 ≤ v1 ∧ v1 ≤ 1048576 ∧ -1048576 ≤ v2 ∧ v2 ≤ 1048576) ∧ (-1048576 ≤ w1 ∧ w1 ≤ 1048576 ∧ -1048576 ≤ w2 ∧ w2 ≤ 1048576) ∧ (-2097152 ≤ n1 ∧ n1 ≤ 2097152 ∧ -2097152 ≤ n2 ∧ n2 ≤ 2097152) := by
  simpa [permB, withinB, and_assoc] using h
theorem perm_vals {v1 v2 w1 w2 n1 n2 : Int} (h : permB v1 v2 w1 w2 n1 n2 = true) : subR v1 v2 w1 w2 = (v1 - w1, v2 - w2) ∧ dotR (v1 - w1) (v2 - w2) n1 n2 = (v1 - w1) * n1 + (v2 - w2) * n2 ∧ dotR n1 n2 n1 n2 = n1 * n1 + n2 * n2 := by
  obtain ⟨a, b, c⟩ := perm_bd h
  have h1 : smallB v1 v2 = true := small_of (by omega)
  have h2 : smallB w1 w2 = true := small_of (by omega)
  have h3 : smallB n1 n2 = true := small_of (by omega)
  have h4 : smallB (v1 - w1) (v2 - w2) = true := small_of (by omega)
  unfold subR dotR keptR
  simp [h1, h2, h3, h4]
theorem perm_prod {v1 v2 w1 w2 n1 n2 : Int} (h : permB v1 v2 w1 w2 n1 n2 = true) : (-8796093022208 ≤ (v1 - w1) * n1 + (v2 - w2) * n2 ∧ (v1 - w1) * n1 + (v2 - w2) * n2 ≤ 8796093022208) ∧ 0 ≤ n1 * n1 + n2 * n2 ∧ n1 * n1 + n2 * n2 ≤ 8796093022208 := by
  obtain ⟨a, b, c⟩ := perm_bd h
  have m1 := mulB (v1 - w1) n1 2097152 2097152 (by omega) (by omega)
  have m2 := mulB (v2 - w2) n2 2097152 2097152 (by omega) (by omega)
  have m3 := mulB n1 n1 2097152 2097152 (by omega) (by omega)
  have m4 := mulB n2 n2 2097152 2097152 (by omega) (by omega)
  have q1 : 0 ≤ n1 * n1 := by rcases Int.le_total 0 n1 with h | h; exact Int.mul_nonneg h h; exact Int.mul_nonneg_of_nonpos_of_nonpos h h
  have q2 : 0 ≤ n2 * n2 := by rcases Int.le_total 0 n2 with h | h; exact Int.mul_nonneg h h; exact Int.mul_nonneg_of_nonpos_of_nonpos h h
  omega
theorem appr_bd {v1 v2 w1 w2 n1 n2 : Int} (h : apprB v1 v2 w1 w2 n1 n2 = true) : permB v1 v2 w1 w2 n1 n2 = true ∧ (v1 - w1) * n1 + (v2 - w2) * n2 < 0 ∧ 0 < n1 * n1 + n2 * n2 := by
  unfold apprB at h
  rw [Bool.and_eq_true, decide_eq_true_eq] at h
  obtain ⟨hp, hd⟩ := h
  obtain ⟨e1, e2, e3⟩ := perm_vals hp
  rw [e1] at hd
  simp only at hd
  rw [e2] at hd
  refine ⟨hp, hd, ?_⟩
  have q1 : 0 ≤ n1 * n1 := by rcases Int.le_total 0 n1 with h | h; exact Int.mul_nonneg h h; exact Int.mul_nonneg_of_nonpos_of_nonpos h h
  have q2 : 0 ≤ n2 * n2 := by rcases Int.le_total 0 n2 with h | h; exact Int.mul_nonneg h h; exact Int.mul_nonneg_of_nonpos_of_nonpos h h
  rcases Int.lt_or_le 0 (n1 * n1 + n2 * n2) with h | h
  · exact h
  · exfalso
    have z1 : n1 = 0 := by have := Int.mul_eq_zero.1 (show n1 * n1 = 0 by omega); omega
    have z2 : n2 = 0 := by have := Int.mul_eq_zero.1 (show n2 * n2 = 0 by omega); omega
    subst z1 z2
    simp at hd
theorem isC_zero (w : World) : IsC w (.agg #[.bool false, .slice none 0 0]) 0 := ⟨none, 0, by simp [canN_zero], by simp [canN_zero], by rw [show (0 : Int).natAbs = 0 from rfl, canN_zero]; exact LAt.nil _ _⟩
theorem RAt.zero (w : World) : RAt w (.agg #[.bool false, .slice none 0 0, .bool false, .slice none 0 0, .bool false, .slice none 0 0]) 0 0 0 := ⟨_, _, _, _, _, _, _, _, _, _, _, _, rfl, isC_zero w, isC_zero w, isC_zero w⟩
theorem len_mul {x y : Int} {a b : Nat} (hx : (canN x.natAbs).length ≤ a) (hy : (canN y.natAbs).length ≤ b) : (canN (x * y).natAbs).length ≤ a + b := by
  rw [canN_len] at *
  rw [Int.natAbs_mul, Int.natCast_mul, PB_add]
  exact Int.lt_of_le_of_lt (Int.mul_le_mul_of_nonneg_left (Int.le_of_lt hy) (Int.natCast_nonneg _)) (Int.mul_lt_mul_of_pos_right hx (PB_pos b))
theorem len_up {z : Int} {a b : Nat} (h : (canN z.natAbs).length ≤ a) (hab : a ≤ b) : (canN z.natAbs).length ≤ b := Nat.le_trans h hab
theorem len_add {x y : Int} {a : Nat} (hx : (canN x.natAbs).length ≤ a) (hy : (canN y.natAbs).length ≤ a) : (canN (x + y).natAbs).length ≤ a + 1 := by
  rw [canN_len] at *
  have h1 := PB_add a 1
  have h2 : PB 1 = 4294967296 := by decide
  have h3 := PB_pos a
  rw [h1, h2]
  have := Int.natAbs_add_le x y
  omega
def sumR (a b : Int × Int × Int) : Int × Int × Int := lowR (a.1 * b.2.2 + b.1 * a.2.2) (a.2.1 * b.2.2 + b.2.1 * a.2.2) (a.2.2 * b.2.2)
def POut (R : Int × Int × Int) (w : World) (e : Ending) (w' : World) : Prop := ROut R.1 R.2.1 R.2.2 w e w'
set_option maxRecDepth 100000 in
set_option maxHeartbeats 20000000 in
theorem rsum_any (x y d x' y' d' : Int) (u v : Value) (w : World) (hu : RAt w u x y d) (hv : RAt w v x' y' d') (hd : d * d' ≠ 0) (lx : (canN x.natAbs).length ≤ 1000) (ly : (canN y.natAbs).length ≤ 1000) (ld : (canN d.natAbs).length ≤ 1000) (lx2 : (canN x'.natAbs).length ≤ 1000) (ly2 : (canN y'.natAbs).length ≤ 1000) (ld2 : (canN d'.natAbs).length ≤ 1000) :
    Calls Tryz.prog 14 #[u, v] w (POut (sumR (x, y, d) (x', y', d')) w) := by
  have h0 := hu
  have h1 := hv
  obtain ⟨spx, Apx, npx, cpx, spy, Apy, npy, cpy, spd, Apd, npd, cpd, rfl⟩ := hu.val
  obtain ⟨sqx, Aqx, nqx, cqx, sqy, Aqy, nqy, cqy, sqd, Aqd, nqd, cqd, rfl⟩ := hv.val
  have l1 := len_mul lx ld2
  have l2 := len_mul lx2 ld
  have l3 := len_add l1 l2
  have l4 := len_mul ly ld2
  have l5 := len_mul ly2 ld
  have l6 := len_add l4 l5
  have l7 := len_mul ld ld2
  have k1 := fun u v w h1 h2 => times_any 1000 u v x d' w h1 h2 (by omega)
  have k2 := fun u v w h1 h2 => times_any 1000 u v x' d w h1 h2 (by omega)
  have k3 := fun u v w h1 h2 => plus_any (1000 + 1000) u v (x * d') (x' * d) w h1 h2 (by omega)
  have k4 := fun u v w h1 h2 => times_any 1000 u v y d' w h1 h2 (by omega)
  have k5 := fun u v w h1 h2 => times_any 1000 u v y' d w h1 h2 (by omega)
  have k6 := fun u v w h1 h2 => plus_any (1000 + 1000) u v (y * d') (y' * d) w h1 h2 (by omega)
  have k7 := fun u v w h1 h2 => times_any 1000 u v d d' w h1 h2 (by omega)
  have k8 := fun v w h => rlowest_any (x * d' + x' * d) (y * d' + y' * d) (d * d') v w h hd (by omega) (by omega) (by omega)
  unfold POut sumR lowR
  simp only
  generalize (x * d' + x' * d).tdiv (lowG (x * d' + x' * d) (y * d' + y' * d) (d * d')) = R1 at *
  generalize (y * d' + y' * d).tdiv (lowG (x * d' + x' * d) (y * d' + y' * d) (d * d')) = R2 at *
  generalize (d * d').tdiv (lowG (x * d' + x' * d) (y * d' + y' * d) (d * d')) = R3 at *
  generalize x * d' = P1 at *
  generalize x' * d = P2 at *
  generalize y * d' = Q1 at *
  generalize y' * d = Q2 at *
  generalize P1 + P2 = P at *
  generalize Q1 + Q2 = Q at *
  generalize d * d' = E at *
  have K1 := Lib.hid k1
  have K2 := Lib.hid k2
  have K3 := Lib.hid k3
  have K4 := Lib.hid k4
  have K5 := Lib.hid k5
  have K6 := Lib.hid k6
  have K7 := Lib.hid k7
  have K8 := Lib.hid k8
  have H0 := Lib.hid h0
  have H1 := Lib.hid h1
  have L1 := Lib.hid l1
  have L2 := Lib.hid l2
  have L4 := Lib.hid l4
  have L5 := Lib.hid l5
  have LX := Lib.hid lx
  have LY := Lib.hid ly
  have LD := Lib.hid ld
  have LX2 := Lib.hid lx2
  have LY2 := Lib.hid ly2
  have LD2 := Lib.hid ld2
  clear k1 k2 k3 k4 k5 k6 k7 k8 h0 h1 hu hv l1 l2 l3 l4 l5 l6 l7 lx ly ld lx2 ly2 ld2 hd
  go_enter Tryz.func14, Tryz.ntmps14; (try simp only [List.append_eq, List.cons_append, List.nil_append])
  go_wp2_with fail
  (refine pin_wp (N := _) (Nat.le_refl _) (fun w4 hb_w4 hz_w4 => ?_); (try simp at hz_w4); (with_reducible apply cel6 (b := w.heap.size) hb_w4); (focus ((try simp) <;> omega)); (focus omega); (iterate 6 (focus (go_simp; try exact rfl))); (focus (intro o; go_simp)); intro c_w4_0_0 c_w4_0_1 c_w4_0_2 c_w4_0_3 c_w4_0_4 c_w4_0_5 fz_w4_0 hl_w4_0; (with_reducible apply cel6 (b := w.heap.size + 1) hb_w4); (focus ((try simp) <;> omega)); (focus omega); (iterate 6 (focus (go_simp; try exact rfl))); (focus (intro o; go_simp)); intro c_w4_1_0 c_w4_1_1 c_w4_1_2 c_w4_1_3 c_w4_1_4 c_w4_1_5 fz_w4_1 hl_w4_1; (with_reducible apply cel6 (b := w.heap.size + 1 + 1) hb_w4); (focus ((try simp) <;> omega)); (focus omega); (iterate 6 (focus (go_simp; try exact rfl))); (focus (intro o; go_simp)); intro c_w4_2_0 c_w4_2_1 c_w4_2_2 c_w4_2_3 c_w4_2_4 c_w4_2_5 fz_w4_2 hl_w4_2); refine wp_q (fun Q_ HQ_ => ?_); refine wp_region_floatQ w4.heap.size 29 [29] (Nat.le_refl _) (fun _ => True) trivial Cl.tt (by kernel_rfl) (by kernel_rfl) ?_
  replace H0 := Lib.hid (RAt.below (v := .agg #[.bool spx, .slice Apx npx cpx, .bool spy, .slice Apy npy cpy, .bool spd, .slice Apd npd cpd]) (x := x) (y := y) (d := d) (by ((repeat (first | (with_reducible exact H0.out) | (with_reducible refine RAt.al ?_ _) | (with_reducible apply RAt.st1))) <;> (first | (with_reducible assumption) | (intro _ e; cases e; done) | (go_simp; first | done | exact rfl)))) hb_w4)
  replace H1 := Lib.hid (RAt.below (v := .agg #[.bool sqx, .slice Aqx nqx cqx, .bool sqy, .slice Aqy nqy cqy, .bool sqd, .slice Aqd nqd cqd]) (x := x') (y := y') (d := d') (by ((repeat (first | (with_reducible exact H1.out) | (with_reducible refine RAt.al ?_ _) | (with_reducible apply RAt.st1))) <;> (first | (with_reducible assumption) | (intro _ e; cases e; done) | (go_simp; first | done | exact rfl)))) hb_w4)
  have HB4 := Lib.hid (show Below w.heap.size w w4 by ((with_reducible (repeat (first | exact bR _ _ | refine bS ?_ ?_ _ | refine bA ?_ ?_ _ | refine bD ?_ | refine bT ?_ (by assumption) ?_ | refine bO (by assumption) ?_ ?_))) <;> (first | omega | (simp <;> omega))))
  have hz4 : w.heap.size + 1 + 1 + 1 ≤ w4.heap.size := by omega
  clear hb_w4
  skip
  refine wpQI_start [0, 1, 2, 3] ?_; (iterate 4 (first | (apply wpQI_step (by with_reducible (refine zA ?_; (repeat (first | exact zB | refine zC ?_)))) (by kernel_rfl) (by exact rfl); (focus (intro W' hS; have hcS := hS.cells.1; have hfS := hS.cells.2; go_simp; (first | done | exact rfl | exact bB _ | (go_simp; first | done | exact rfl | exact bB _)))); intro K hK; go_simp; (try go_bits); refine hK _ ?_; clear hK K))); refine wpQI_nil ?_
  refine wpQI_start [5, 6, 7, 8] ?_; (iterate 4 (first | (apply wpQI_step (by with_reducible (refine zA ?_; (repeat (first | exact zB | refine zC ?_)))) (by kernel_rfl) (by exact rfl); (focus (intro W' hS; have hcS := hS.cells.1; have hfS := hS.cells.2; go_simp; (first | done | exact rfl | exact bB _ | (go_simp; first | done | exact rfl | exact bB _)))); intro K hK; go_simp; (try go_bits); refine hK _ ?_; clear hK K))); refine wpQI_nil ?_
  refine wpQI_start [11, 12, 13, 14] ?_; (iterate 4 (first | (apply wpQI_step (by with_reducible (refine zA ?_; (repeat (first | exact zB | refine zC ?_)))) (by kernel_rfl) (by exact rfl); (focus (intro W' hS; have hcS := hS.cells.1; have hfS := hS.cells.2; go_simp; (first | done | exact rfl | exact bB _ | (go_simp; first | done | exact rfl | exact bB _)))); intro K hK; go_simp; (try go_bits); refine hK _ ?_; clear hK K))); refine wpQI_nil ?_
  refine wpQI_start [16, 17, 18, 19] ?_; (iterate 4 (first | (apply wpQI_step (by with_reducible (refine zA ?_; (repeat (first | exact zB | refine zC ?_)))) (by kernel_rfl) (by exact rfl); (focus (intro W' hS; have hcS := hS.cells.1; have hfS := hS.cells.2; go_simp; (first | done | exact rfl | exact bB _ | (go_simp; first | done | exact rfl | exact bB _)))); intro K hK; go_simp; (try go_bits); refine hK _ ?_; clear hK K))); refine wpQI_nil ?_
  refine wpQI_start [22, 23, 24, 25] ?_; (iterate 4 (first | (apply wpQI_step (by with_reducible (refine zA ?_; (repeat (first | exact zB | refine zC ?_)))) (by kernel_rfl) (by exact rfl); (focus (intro W' hS; have hcS := hS.cells.1; have hfS := hS.cells.2; go_simp; (first | done | exact rfl | exact bB _ | (go_simp; first | done | exact rfl | exact bB _)))); intro K hK; go_simp; (try go_bits); refine hK _ ?_; clear hK K))); refine wpQI_nil ?_
  apply wpQ_call (i := 4) (by with_reducible (refine zA ?_; (repeat (first | exact zB | refine zC ?_)))) (by kernel_rfl) (by exact rfl); intro W hF hS; have hcS := hS.1.cells.1; have hfS := hS.1.cells.2; go_simp; (go_at_call 40; refine (K1.out _ _ _ ((RAt.px (H0.out.below hS.1.2)).zl LX.out) ((RAt.pd (H1.out.below hS.1.2)).zl LD2.out)).mono ?_; rintro e w5 ⟨hb_w5, v5, rfl, hv5⟩; refine XPost.mk _ (fun W => IsC W v5 (P1)) hb_w5 (hv5) (IsC.cl _ _) ?_); clear hb_w5 hcS hfS hS hF
  intro K hK; go_simp; (try go_bits); refine hK _ ?_; clear hK K
  obtain ⟨s5, A5, n5, c5, rfl⟩ := IsC.val hv5
  clear hv5
  apply wpQ_call (i := 9) (by with_reducible (refine zA ?_; (repeat (first | exact zB | refine zC ?_)))) (by kernel_rfl) (by exact rfl); intro W hF hS; have hcS := hS.1.cells.1; have hfS := hS.1.cells.2; go_simp; (go_at_call 40; refine (K2.out _ _ _ ((RAt.px (H1.out.below hS.1.2)).zl LX2.out) ((RAt.pd (H0.out.below hS.1.2)).zl LD.out)).mono ?_; rintro e w6 ⟨hb_w6, v6, rfl, hv6⟩; refine XPost.mk _ (fun W => IsC W v6 (P2)) hb_w6 (hv6) (IsC.cl _ _) ?_); clear hb_w6 hcS hfS hS hF
  intro K hK; go_simp; (try go_bits); refine hK _ ?_; clear hK K
  obtain ⟨s6, A6, n6, c6, rfl⟩ := IsC.val hv6
  clear hv6
  apply wpQ_call (i := 10) (by with_reducible (refine zA ?_; (repeat (first | exact zB | refine zC ?_)))) (by kernel_rfl) (by exact rfl); intro W hF hS; have hcS := hS.1.cells.1; have hfS := hS.1.cells.2; go_simp; (go_at_call 39; refine (K3.out _ _ _ (hF.1.zl L1.out) (hF.2.zl L2.out)).mono ?_; rintro e w7 ⟨hb_w7, v7, rfl, hv7⟩; refine XPost.mk _ (fun W => IsC W v7 (P)) hb_w7 (hv7) (IsC.cl _ _) ?_); clear hb_w7 hcS hfS hS hF
  intro K hK; go_simp; (try go_bits); refine hK _ ?_; clear hK K
  obtain ⟨s7, A7, n7, c7, rfl⟩ := IsC.val hv7
  clear hv7
  apply wpQ_call (i := 15) (by with_reducible (refine zA ?_; (repeat (first | exact zB | refine zC ?_)))) (by kernel_rfl) (by exact rfl); intro W hF hS; have hcS := hS.1.cells.1; have hfS := hS.1.cells.2; go_simp; (go_at_call 40; refine (K4.out _ _ _ ((RAt.py (H0.out.below hS.1.2)).zl LY.out) ((RAt.pd (H1.out.below hS.1.2)).zl LD2.out)).mono ?_; rintro e w8 ⟨hb_w8, v8, rfl, hv8⟩; refine XPost.mk _ (fun W => IsC W v8 (Q1)) hb_w8 (hv8) (IsC.cl _ _) ?_); clear hb_w8 hcS hfS hS hF
  intro K hK; go_simp; (try go_bits); refine hK _ ?_; clear hK K
  obtain ⟨s8, A8, n8, c8, rfl⟩ := IsC.val hv8
  clear hv8
  apply wpQ_call (i := 20) (by with_reducible (refine zA ?_; (repeat (first | exact zB | refine zC ?_)))) (by kernel_rfl) (by exact rfl); intro W hF hS; have hcS := hS.1.cells.1; have hfS := hS.1.cells.2; go_simp; (go_at_call 40; refine (K5.out _ _ _ ((RAt.py (H1.out.below hS.1.2)).zl LY2.out) ((RAt.pd (H0.out.below hS.1.2)).zl LD.out)).mono ?_; rintro e w9 ⟨hb_w9, v9, rfl, hv9⟩; refine XPost.mk _ (fun W => IsC W v9 (Q2)) hb_w9 (hv9) (IsC.cl _ _) ?_); clear hb_w9 hcS hfS hS hF
  intro K hK; go_simp; (try go_bits); refine hK _ ?_; clear hK K
  obtain ⟨s9, A9, n9, c9, rfl⟩ := IsC.val hv9
  clear hv9
  apply wpQ_call (i := 21) (by with_reducible (refine zA ?_; (repeat (first | exact zB | refine zC ?_)))) (by kernel_rfl) (by exact rfl); intro W hF hS; have hcS := hS.1.cells.1; have hfS := hS.1.cells.2; go_simp; (go_at_call 39; refine (K6.out _ _ _ (hF.1.2.zl L4.out) (hF.2.zl L5.out)).mono ?_; rintro e w10 ⟨hb_w10, v10, rfl, hv10⟩; refine XPost.mk _ (fun W => IsC W v10 (Q)) hb_w10 (hv10) (IsC.cl _ _) ?_); clear hb_w10 hcS hfS hS hF
  intro K hK; go_simp; (try go_bits); refine hK _ ?_; clear hK K
  obtain ⟨s10, A10, n10, c10, rfl⟩ := IsC.val hv10
  clear hv10
  apply wpQ_call (i := 26) (by with_reducible (refine zA ?_; (repeat (first | exact zB | refine zC ?_)))) (by kernel_rfl) (by exact rfl); intro W hF hS; have hcS := hS.1.cells.1; have hfS := hS.1.cells.2; go_simp; (go_at_call 40; refine (K7.out _ _ _ ((RAt.pd (H0.out.below hS.1.2)).zl LD.out) ((RAt.pd (H1.out.below hS.1.2)).zl LD2.out)).mono ?_; rintro e w11 ⟨hb_w11, v11, rfl, hv11⟩; refine XPost.mk _ (fun W => IsC W v11 (E)) hb_w11 (hv11) (IsC.cl _ _) ?_); clear hb_w11 hcS hfS hS hF
  intro K hK; go_simp; (try go_bits); refine hK _ ?_; clear hK K
  obtain ⟨s11, A11, n11, c11, rfl⟩ := IsC.val hv11
  clear hv11
  refine wpQI_start [27] ?_; (iterate 1 (first | (apply wpQI_step (by with_reducible (refine zA ?_; (repeat (first | exact zB | refine zC ?_)))) (by kernel_rfl) (by exact rfl); (focus (intro W' hS; have hcS := hS.cells.1; have hfS := hS.cells.2; go_simp; (first | done | exact rfl | exact bB _ | (go_simp; first | done | exact rfl | exact bB _)))); intro K hK; go_simp; (try go_bits); refine hK _ ?_; clear hK K))); refine wpQI_nil ?_
  apply wpQ_call (i := 28) (by with_reducible (refine zA ?_; (repeat (first | exact zB | refine zC ?_)))) (by kernel_rfl) (by exact rfl); intro W hF hS; have hcS := hS.1.cells.1; have hfS := hS.1.cells.2; go_simp; (go_at_call 38; refine (K8.out _ _ (⟨_, _, _, _, _, _, _, _, _, _, _, _, rfl, hF.1.1.1.1.2, hF.1.2, hF.2⟩)).mono ?_; rintro e w12 ⟨hb_w12, v12, rfl, hv12⟩; refine XPost.mk _ (fun W => RAt W v12 (R1) (R2) (R3)) hb_w12 (hv12) (RAt.cl _ _ _ _) ?_); clear hb_w12 hcS hfS hS hF
  intro K hK; go_simp; (try go_bits); refine hK _ ?_; clear hK K
  obtain ⟨s12x, A12x, n12x, c12x, s12y, A12y, n12y, c12y, s12d, A12d, n12d, c12d, rfl⟩ := RAt.val hv12
  clear hv12
  refine wpQ_done (by kernel_rfl) ?_
  intro w13 hF_w13 hSG
  have hz_w13 := hSG.1.1
  have hb_w13 := hSG.1.2
  clear hSG
  (with_reducible apply cel6 (b := w.heap.size) hb_w13); (focus ((try simp) <;> omega)); (focus omega); (iterate 6 (focus (go_simp; try exact rfl))); (focus (intro o; go_simp)); intro c_w13_0_0 c_w13_0_1 c_w13_0_2 c_w13_0_3 c_w13_0_4 c_w13_0_5 fz_w13_0 hl_w13_0; (with_reducible apply cel6 (b := w.heap.size + 1) hb_w13); (focus ((try simp) <;> omega)); (focus omega); (iterate 6 (focus (go_simp; try exact rfl))); (focus (intro o; go_simp)); intro c_w13_1_0 c_w13_1_1 c_w13_1_2 c_w13_1_3 c_w13_1_4 c_w13_1_5 fz_w13_1 hl_w13_1; (with_reducible apply cel6 (b := w.heap.size + 1 + 1) hb_w13); (focus ((try simp) <;> omega)); (focus omega); (iterate 6 (focus (go_simp; try exact rfl))); (focus (intro o; go_simp)); intro c_w13_2_0 c_w13_2_1 c_w13_2_2 c_w13_2_3 c_w13_2_4 c_w13_2_5 fz_w13_2 hl_w13_2
  (try simp only [List.filterMap_cons, List.filterMap_nil, List.getElem?_cons_succ, List.getElem?_cons_zero])
  clear H0
  clear H1
  have H5 := Lib.hid (show IsC w13 (.agg #[.bool s5, .slice A5 n5 c5]) (P1) from hF_w13.1.1.1.1.1.1.1)
  have H6 := Lib.hid (show IsC w13 (.agg #[.bool s6, .slice A6 n6 c6]) (P2) from hF_w13.1.1.1.1.1.1.2)
  have H7 := Lib.hid (show IsC w13 (.agg #[.bool s7, .slice A7 n7 c7]) (P) from hF_w13.1.1.1.1.1.2)
  have H8 := Lib.hid (show IsC w13 (.agg #[.bool s8, .slice A8 n8 c8]) (Q1) from hF_w13.1.1.1.1.2)
  have H9 := Lib.hid (show IsC w13 (.agg #[.bool s9, .slice A9 n9 c9]) (Q2) from hF_w13.1.1.1.2)
  have H10 := Lib.hid (show IsC w13 (.agg #[.bool s10, .slice A10 n10 c10]) (Q) from hF_w13.1.1.2)
  have H11 := Lib.hid (show IsC w13 (.agg #[.bool s11, .slice A11 n11 c11]) (E) from hF_w13.1.2)
  have H12 := Lib.hid (show RAt w13 (.agg #[.bool s12x, .slice A12x n12x c12x, .bool s12y, .slice A12y n12y c12y, .bool s12d, .slice A12d n12d c12d]) (R1) (R2) (R3) from hF_w13.2)
  have HB13 := Lib.hid (HB4.out.trans (hb_w13.mono (by have := HB4.out.size; omega)))
  have hz13 : w.heap.size + 1 + 1 + 1 ≤ w13.heap.size := by omega
  clear hF_w13 hb_w13
  clear c_w4_0_0 c_w4_0_1 c_w4_0_2 c_w4_0_3 c_w4_0_4 c_w4_0_5 fz_w4_0 hl_w4_0 c_w4_1_0 c_w4_1_1 c_w4_1_2 c_w4_1_3 c_w4_1_4 c_w4_1_5 fz_w4_1 hl_w4_1 c_w4_2_0 c_w4_2_1 c_w4_2_2 c_w4_2_3 c_w4_2_4 c_w4_2_5 fz_w4_2 hl_w4_2
  go_wp2_with fail
  refine HQ_.out _ _ _ ?_
  clear HQ_ Q_
  go_wp2_with fail
  refine bodyPost_ret (v := .agg #[.bool s12x, .slice A12x n12x c12x, .bool s12y, .slice A12y n12y c12y, .bool s12d, .slice A12d n12d c12d]) (by simp only [results, Tryz.results14]; go_simp) rfl ⟨?_, ?_⟩
  · have hB := HB13.out; ((with_reducible (repeat (first | exact bR _ _ | refine bS ?_ ?_ _ | refine bA ?_ ?_ _ | refine bD ?_ | refine bT ?_ (by assumption) ?_ | refine bO (by assumption) ?_ ?_))) <;> (first | omega | (simp <;> omega)))
  · exact ⟨_, rfl, (by ((repeat (first | (with_reducible exact H12.out) | (with_reducible refine RAt.al ?_ _) | (with_reducible apply RAt.st1))) <;> (first | (with_reducible assumption) | (intro _ e; cases e; done) | (go_simp; first | done | exact rfl))))⟩
set_option maxRecDepth 100000 in
set_option maxHeartbeats 2000000 in
theorem wint_any (z : Int) (v : Value) (w : World) (h : IsC w v z) (h1 : -2147483648 < z) (h2 : z < 2147483648) :
    Calls Tryz.prog 62 #[v] w fun e w' => e = .returned (.int .i64 z) ∧ Below w.heap.size w w' := by
  have hlen : (canN z.natAbs).length ≤ 1 := canN_len.2 (by have : PB 1 = 4294967296 := by decide
                                                           omega)
  have hz := h.zl hlen
  have H := Lib.hid hz
  obtain ⟨p, A, c, l, rfl⟩ := isZ_val hz
  have hm := fun w' (h' : Below w.heap.size w w') => wlimbs_any 1 _ z w' (H.out.below h') (by omega)
  have hsv : z = if z < 0 then -(mv (canN z.natAbs)) else mv (canN z.natAbs) := by rw [mv_canN]; split <;> omega
  have hL := canN_lim z.natAbs
  have hmv := mv_canN z.natAbs
  obtain ⟨l, hl⟩ : ∃ l, l = canN z.natAbs := ⟨_, rfl⟩
  unfold LimOut at hm
  rw [← hl] at hm hsv hL hmv hlen
  have hx : ∀ x : Int, l[0]? = some x → x = (z.natAbs : Int) := fun x hx => by
    rcases l with _ | ⟨a, _ | ⟨b, l⟩⟩
    · simp at hx
    · simp only [List.getElem?_cons_zero, Option.some.injEq] at hx
      subst hx
      simp only [mv] at hmv
      omega
    · simp at hlen
  have h0 : l.length = 0 → mv l = 0 := fun h => by rw [List.length_eq_zero_iff.1 h]; rfl
  have h3 : l.length = 1 → mv l = (z.natAbs : Int) := fun _ => hmv
  have HM := Lib.hid hm
  have HSV := Lib.hid hsv
  have HX := Lib.hid hx
  have H0 := Lib.hid h0
  have H3 := Lib.hid h3
  clear h hz hm hsv hL hmv hl hx h0 h3 H
  by_cases hneg : z < 0
  all_goals
    have hb : decide (z < 0) = decide (z < 0) := rfl
    go_enter Tryz.func62, Tryz.ntmps62; (try simp only [List.append_eq, List.cons_append, List.nil_append])
    go_wp2_with fail
    (go_at_call 89; refine (HM.out _ ((Below.refl _ _).alloc (Nat.le_refl _) _)).mono ?_; rintro e w1 ⟨hb_w1, A1, c1, rfl, hc1, hA1⟩; have hz_w1 := hb_w1.size; (try simp at hz_w1); (with_reducible apply cel2 (b := w.heap.size) hb_w1); (focus ((try simp) <;> omega)); (focus omega); (iterate 2 (focus (go_simp; try exact rfl))); (focus (intro o; go_simp)); intro cc cc fz hl)
    have HA := Lib.hid hA1
    have HB1 := Lib.hid (show Below w.heap.size w w1 by ((with_reducible (repeat (first | exact bR _ _ | refine bS ?_ ?_ _ | refine bA ?_ ?_ _ | refine bD ?_ | refine bT ?_ (by assumption) ?_ | refine bO (by assumption) ?_ ?_))) <;> (first | omega | (simp <;> omega))))
    clear hc1 hA1 hb hb_w1
    go_wp2_with fail
    go_loop [5, 6, 7, 15] (fun vn _ _ vi => ∃ (k : Nat) (n : Int), k ≤ l.length ∧ vi = .int .i64 k ∧ vn = .int .i64 n ∧ Hid (n = mv (l.take k))) (fun _ _ _ vi => l.length - (intOf vi).toNat)
    case atStart => exact ⟨0, 0, by omega, rfl, rfl, Lib.hid (by simp [mv])⟩
    case round =>
      obtain ⟨k, n, hk, rfl, rfl, HN⟩ := hrel
      have i1 : (0 : Int) ≤ (k : Int) := by omega
      by_cases hkl : k < l.length
      · obtain rfl : k = 0 := by omega
        obtain ⟨x, hx⟩ : ∃ x, l[0]? = some x := ⟨l[0], by simp⟩
        obtain ⟨g, o, rfl, hg, hcell⟩ := HA.out 0 x hx
        have hxz := HX.out x hx
        have hn : n = 0 := HN.out
        subst hn
        have x0 : 0 ≤ x := by omega
        have x1 : x < 9223372036854775808 := by omega
        have HST := Lib.hid (show x = mv (l.take (0 + 1)) by rw [mv_take_succ hx]; simp [mv, PB])
        have j1 : (0 : Int) < (l.length : Int) := by omega
        have hor : bits .or .i64 0 x = x := by
          have := bits_join_low .i64 63 (by decide) wraps_i64' 0 0 x (by omega) (by simp) (by omega) x0 (by simp [Int.emod_one]) (by omega)
          rwa [Int.zero_add] at this
        simp only [Nat.add_zero] at hcell
        clear hx hxz
        go_wp2_with fail
        go_round
        case rel => exact ⟨1, x, by omega, by go_num, rfl, HST⟩
        case measure => simp [intOf]; omega
      · obtain rfl : k = l.length := by omega
        have hf : n = mv l := by rw [HN.out, List.take_length]
        have hsz := HSV.out
        have hn0 : n = if z < 0 then -z else z := by split <;> rename_i g <;> (first | rw [if_pos g] at hsz | rw [if_neg g] at hsz) <;> omega
        have j5 : ¬ (l.length : Int) < (l.length : Int) := by omega
        first
          | (rw [if_pos (show z < 0 by omega)] at hn0; subst hn0; clear hf hsz
             have e1 : - -z = z := Int.neg_neg z
             go_wp2_with fail
             go_ret
             exact ⟨rfl, HB1.out⟩)
          | (rw [if_neg (show ¬ z < 0 by omega)] at hn0; subst hn0; clear hf hsz
             go_wp2_with fail
             go_ret
             exact ⟨rfl, HB1.out⟩)
def bitN (n : Nat) : Nat := if n = 0 then 0 else Nat.log2 n + 1
theorem bitN_of {n k : Nat} (h1 : 2 ^ k ≤ n) (h2 : n < 2 ^ (k + 1)) : bitN n = k + 1 := by
  have h0 : n ≠ 0 := by have := Nat.two_pow_pos k; omega
  unfold bitN
  rw [if_neg h0]
  have a := (Nat.le_log2 h0).2 h1
  have b := (Nat.log2_lt h0).2 h2
  omega
theorem bitN_limbs {x m : Nat} {t : Int} (hl : (canN x).length = m + 1) (ht : (canN x)[m]? = some t) : bitN x = 32 * m + Lib.bitLen t.toNat := by
  obtain ⟨t0, t1⟩ := (canN_lim x).get ht
  have tne : t ≠ 0 := canN_last x t (by rw [List.getLast?_eq_getElem?, hl]; exact ht)
  obtain ⟨T, rfl⟩ := Int.eq_ofNat_of_zero_le t0
  rw [Int.toNat_natCast]
  obtain ⟨a, b, c⟩ := Lib.bitLenAux_bounds 64 T (by omega) (by omega)
  have hL : Lib.bitLen T = Lib.bitLenAux 64 T := rfl
  rw [← hL] at a b c
  obtain ⟨L, hLL⟩ : ∃ L, L = Lib.bitLen T := ⟨_, rfl⟩
  rw [← hLL] at a b c ⊢
  have h1 := mv_split (canN x) m (by omega)
  have h2 := mv_drop_succ ht
  rw [List.drop_of_length_le (show (canN x).length ≤ m + 1 by omega), show mv ([] : List Int) = 0 from rfl, Int.mul_zero, Int.add_zero] at h2
  rw [mv_canN, h2] at h1
  have h3 := mv_lt ((canN_lim x).take m)
  rw [List.length_take, Nat.min_eq_left (by omega)] at h3
  have h4 := mv_nonneg ((canN_lim x).take m)
  have e : PB m = ((2 ^ (32 * m) : Nat) : Int) := by rw [Int.natCast_pow]; unfold PB; rw [show (4294967296 : Int) = 2 ^ 32 from rfl, ← Int.pow_mul]; rfl
  rw [e] at h1 h3
  obtain ⟨P, hP⟩ : ∃ P : Nat, P = 2 ^ (32 * m) := ⟨_, rfl⟩
  rw [← hP] at h1 h3
  obtain ⟨lo, hlo⟩ := Int.eq_ofNat_of_zero_le h4
  rw [hlo] at h1 h3
  have hx : x = lo + P * T := by exact_mod_cast h1
  have hlP : lo < P := by exact_mod_cast h3
  have e2 : bitN x = (32 * m + (L - 1)) + 1 := by
    apply bitN_of
    · rw [Nat.pow_add, ← hP, hx]
      have := Nat.mul_le_mul_left P b
      omega
    · rw [show 32 * m + (L - 1) + 1 = 32 * m + L by omega, Nat.pow_add, ← hP, hx]
      have h5 := Nat.mul_le_mul_left P (show T + 1 ≤ 2 ^ L by omega)
      rw [Nat.mul_add] at h5
      omega
  omega
set_option maxHeartbeats 2000000 in
theorem wbits_any (n : Nat) (v : Value) (z : Int) (w : World) (h : IsZ w v n z) (hn : n ≤ 400000) :
    Calls Tryz.prog 61 #[v] w fun e w' => e = .returned (.int .i64 (bitN z.natAbs)) ∧ Below w.heap.size w w' := by
  have H := Lib.hid h
  have la := isZ_len h
  obtain ⟨p, A, c, l, rfl⟩ := isZ_val h
  have hm := fun w' (h' : Below w.heap.size w w') => wlimbs_any n _ z w' (H.out.below h') (by omega)
  obtain ⟨x, hx⟩ : ∃ x, x = z.natAbs := ⟨_, rfl⟩
  unfold LimOut at hm
  rw [← hx] at hm la ⊢
  by_cases h0 : x = 0
  · have hl0 : canN x = [] := by rw [h0]; exact canN_zero
    have hb : bitN x = 0 := by rw [h0]; rfl
    rw [hb]
    rw [hl0] at hm
    have HM := Lib.hid hm
    clear h hm hx h0 hl0 hb
    go_enter Tryz.func61, Tryz.ntmps61; (try simp only [List.append_eq, List.cons_append, List.nil_append])
    go_wp2_with fail
    (go_at_call 89; refine (HM.out _ ((Below.refl _ _).alloc (Nat.le_refl _) _)).mono ?_; rintro e w1 ⟨hb_w1, A1, c1, rfl, hc1, hA1⟩; have hz_w1 := hb_w1.size; (try simp at hz_w1); (with_reducible apply cel2 (b := w.heap.size) hb_w1); (focus ((try simp) <;> omega)); (focus omega); (iterate 2 (focus (go_simp; try exact rfl))); (focus (intro o; go_simp)); intro cc cc fz hl)
    clear hc1 hA1
    simp only [List.length_nil]
    go_wp2_with fail
    go_ret
    exact ⟨rfl, by ((with_reducible (repeat (first | exact bR _ _ | refine bS ?_ ?_ _ | refine bA ?_ ?_ _ | refine bD ?_ | refine bT ?_ (by assumption) ?_ | refine bO (by assumption) ?_ ?_))) <;> (first | omega | (simp <;> omega)))⟩
  · obtain ⟨m, hml⟩ : ∃ m, (canN x).length = m + 1 := ⟨(canN x).length - 1, by have : (canN x).length ≠ 0 := fun e => h0 (canN_len0.1 e); omega⟩
    obtain ⟨t, ht⟩ : ∃ t, (canN x)[m]? = some t := ⟨(canN x)[m]'(by omega), by simp⟩
    obtain ⟨t0, t1⟩ := (canN_lim x).get ht
    have hb := bitN_limbs hml ht
    obtain ⟨B, hB⟩ : ∃ B, B = Lib.bitLen t.toNat := ⟨_, rfl⟩
    have hbl := fun w => Tryz.bits_Len32 t w t0 (by omega)
    rw [← hB] at hbl hb
    rw [hb]
    rw [hml] at hm la
    have hB32 : B ≤ 64 := by rw [hB]; exact Lib.bitLen_le _ _ (Nat.le_refl _) (by omega)
    have HM := Lib.hid hm
    have HBL := Lib.hid hbl
    have HT := Lib.hid ht
    clear h hm hx h0 hml hb hB hbl ht
    have e0 : ((((m + 1 : Nat) : Int)) == 0) = false := by rw [beq_eq_false_iff_ne]; omega
    have m0 : (0 : Int) ≤ (m : Int) := by omega
    have m1 : (m : Int) ≤ 400000 := by omega
    go_enter Tryz.func61, Tryz.ntmps61; (try simp only [List.append_eq, List.cons_append, List.nil_append])
    go_wp2_with fail
    (go_at_call 89; refine (HM.out _ ((Below.refl _ _).alloc (Nat.le_refl _) _)).mono ?_; rintro e w1 ⟨hb_w1, A1, c1, rfl, hc1, hA1⟩; have hz_w1 := hb_w1.size; (try simp at hz_w1); (with_reducible apply cel2 (b := w.heap.size) hb_w1); (focus ((try simp) <;> omega)); (focus omega); (iterate 2 (focus (go_simp; try exact rfl))); (focus (intro o; go_simp)); intro cc cc fz hl)
    obtain ⟨g, o, rfl, hg, hcell⟩ := hA1 m t HT.out
    clear hc1 hA1
    go_wp2_with fail
    (go_at_call 96; refine (HBL.out _).mono ?_; rintro e w3 ⟨rfl, rfl⟩)
    go_wp2_with fail
    go_ret
    exact ⟨by first | rfl | (congr 2; omega) | (simp; done), by ((with_reducible (repeat (first | exact bR _ _ | refine bS ?_ ?_ _ | refine bA ?_ ?_ _ | refine bD ?_ | refine bT ?_ (by assumption) ?_ | refine bO (by assumption) ?_ ?_))) <;> (first | omega | (simp <;> omega)))⟩
set_option maxHeartbeats 2000000 in
theorem rwithin_wide (n : Int) (l : List V2) (A : Option Addr) (c : Nat) (w : World) (hl : l.length ≤ 1000000) (hV : VAt w A l) (n0 : 0 ≤ n) (n1 : n ≤ 2000000000) :
    Calls Tryz.prog 63 #[.int .i64 n, .slice A l.length c] w fun e w' => e = .returned (.bool (l.all (nearB n))) ∧ Below w.heap.size w w' := by
  have HV := Lib.hid hV
  obtain ⟨R, hR⟩ : ∃ R, R = l.all (nearB n) := ⟨_, rfl⟩
  rw [← hR]
  have HR := Lib.hid hR
  clear hV hR
  go_enter Tryz.func63, Tryz.ntmps63; (try simp only [List.append_eq, List.cons_append, List.nil_append])
  go_wp2_with fail
  go_loopw [9] (fun t wr => ∃ k : Nat, k ≤ l.length ∧ t = .int .i64 k ∧ Hid ((l.take k).all (nearB n) = true) ∧ Below w.heap.size w wr) (fun t _ => l.length - (intOf t).toNat)
  case atStart => exact ⟨0, by omega, rfl, Lib.hid rfl, Below.refl _ _⟩
  case round =>
    obtain ⟨k, hk, rfl, HA, hb_wr⟩ := hrel
    have hz_wr := hb_wr.size
    have HB := Lib.hid hb_wr
    have i1 : (0 : Int) ≤ (k : Int) := by omega
    by_cases hlt : k < l.length
    · obtain ⟨⟨a, b⟩, hx⟩ : ∃ x, l[k]? = some x := ⟨l[k], by simp⟩
      obtain ⟨g, o, rfl, hg, a0, a1⟩ := (HV.out.below HB.out (Nat.le_refl _)) k _ hx
      have hall := all_take_succ (p := nearB n) hx
      have HX := Lib.hid hx
      have HN := Lib.hid hall
      have i2 : (k : Int) < (l.length : Int) := by omega
      simp only at a0 a1
      clear hb_wr hx hall
      by_cases hin : -n ≤ a ∧ a ≤ n ∧ -n ≤ b ∧ b ≤ n
      · obtain ⟨j1, j2, j3, j4⟩ := hin
        have HN2 := Lib.hid (show (l.take (k + 1)).all (nearB n) = true by rw [HN.out, HA.out]; simp [nearB, withinB]; omega)
        go_wp2_with fail
        go_roundw
        case rel => exact ⟨k + 1, by omega, by go_num, HN2, HB.out.trans (show Below w.heap.size wr _ by ((with_reducible (repeat (first | exact bR _ _ | refine bS ?_ ?_ _ | refine bA ?_ ?_ _ | refine bD ?_ | refine bT ?_ (by assumption) ?_ | refine bO (by assumption) ?_ ?_))) <;> (first | omega | (simp <;> omega))))⟩
        case measure => simp [intOf]; omega
      · have hfin : R = false := by
          rw [HR.out, List.all_eq_false]
          exact ⟨(a, b), List.mem_of_getElem? HX.out, by simp only [nearB, withinB, decide_eq_true_eq]; exact hin⟩
        subst hfin
        have h4 : a < -n ∨ (-n ≤ a ∧ n < a) ∨ (-n ≤ a ∧ a ≤ n ∧ b < -n) ∨ (-n ≤ a ∧ a ≤ n ∧ -n ≤ b ∧ n < b) := by omega
        clear hin
        rcases h4 with h4 | ⟨h4, h5⟩ | ⟨h4, h5, h6⟩ | ⟨h4, h5, h6, h7⟩
        all_goals
          go_wp2_with fail
          go_ret
          exact ⟨rfl, HB.out.trans (show Below w.heap.size wr _ by ((with_reducible (repeat (first | exact bR _ _ | refine bS ?_ ?_ _ | refine bA ?_ ?_ _ | refine bD ?_ | refine bT ?_ (by assumption) ?_ | refine bO (by assumption) ?_ ?_))) <;> (first | omega | (simp <;> omega))))⟩
    · obtain rfl : k = l.length := by omega
      have hfin : R = true := by rw [HR.out]; have := HA.out; rwa [List.take_length] at this
      subst hfin
      clear hb_wr
      go_wp2_with fail
      go_ret
      exact ⟨rfl, HB.out⟩
theorem rwithin_one2 (n a b : Int) (g : Nat) (w : World) (n0 : 0 ≤ n) (n1 : n ≤ 2000000000) (hg : g < w.heap.size) (h0 : w.cell? ⟨g, 0, none⟩ = some (.int .i64 a)) (h1 : w.cell? ⟨g, 1, none⟩ = some (.int .i64 b)) :
    Calls Tryz.prog 63 #[.int .i64 n, .slice (some ⟨g, 0, none⟩) 1 1] w fun e w' => e = .returned (.bool (withinB a b n)) ∧ Below w.heap.size w w' := by
  have := rwithin_wide n [(a, b)] (some ⟨g, 0, none⟩) 1 w (by simp) (fun k x hx => by
    rcases k with _ | k
    · simp only [List.getElem?_cons_zero, Option.some.injEq] at hx
      subst hx
      exact ⟨g, 0, rfl, hg, by simpa using h0, by simpa using h1⟩
    · simp at hx) n0 n1
  simpa [nearB] using this
end Go.Proofs.YtgejdaincnclpaaGreat
