/- Merged texts: RsL RsC RsJ Wint Wj RsW RsK (what no proof of the claim needs is left out). -/
import Derived.Test.YtgejdaincnclpaaGreatCh4
import Derived.Test.YtgejdaincnclpaaGreatShelf
import Derived.Lib.ItoaNum
import Derived.Deep.LoopGhost
namespace Go.Proofs.YtgejdaincnclpaaGreat
open Go Go.RowKit
set_option linter.unusedVariables false
set_option maxRecDepth 100000 in
set_option maxHeartbeats 8000000 in
theorem rwhole_any (x y : Int) (w : World) (hx : -4611686018427387904 ≤ x ∧ x ≤ 4611686018427387904) (hy : -4611686018427387904 ≤ y ∧ y ≤ 4611686018427387904) :
  Calls Tryz.prog 16 #[.agg #[.int .i64 x, .int .i64 y]] w (ROut x y 1 w) := by
 have k1 := fun w => of_any x w (by omega) (by omega)
 have k2 := fun w => of_any y w (by omega) (by omega)
 obtain ⟨U, hU⟩ : ∃ U : Int, U = 1 := ⟨_, rfl⟩
 have k3 := fun w => ((by have := of_any 1 w (by omega) (by omega); rw [hU]; exact this) : Calls Tryz.prog 44 #[.int .i64 1] w (ZOut U w))
 rw [← hU]
 have K1 := hQ0 k1
 have K2 := hQ0 k2
 have K3 := hQ0 k3
 clear k1 k2 k3 hU
 go_enter Tryz.func16, Tryz.ntmps16; (try simp only [List.append_eq, List.cons_append, List.nil_append])
 go_wp2_with fail
 (refine pin_wp (N := _) (Nat.le_refl _) (fun w2 hb_w2 hz_w2 => ?_); (try simp at hz_w2); (with_reducible apply cal2 (b := w.heap.size) hb_w2); (focus (go_simp; try exact ⟨rfl, rfl⟩)); intro aG aK aC aI; (with_reducible apply cal6 (b := w.heap.size + 1) hb_w2); (focus (go_simp; try exact ⟨rfl, rfl, rfl, rfl, rfl, rfl⟩)); intro aA aD aF aE aB aJ aH aL); refine wp_q (fun Q_ HQ_ => ?_); refine wp_region_floatQ w2.heap.size 8 [8] (Nat.le_refl _) (fun _ => True) trivial Cl.tt (by kernel_rfl) (by kernel_rfl) ?_
 have HB2 := hQ0 (show Below w.heap.size w w2 by ((with_reducible (repeat (first | exact bR _ _ | apply bS | apply bA | apply bD | refine bT ?_ (by assumption) ?_ | refine bO (by assumption) ?_ ?_))) <;> (first | omega | (simp <;> omega))))
 have hz2 : w.heap.size + 1 + 1 ≤ w2.heap.size := by omega
 clear hb_w2
 skip
 refine wpQI_start [0, 1] ?_; (iterate 2 (first | (apply wpQI_step (zA rfl) (by kernel_rfl) (by exact rfl); (focus (intro W' hS; have hcS := hS.cells; go_simp; (iterate 2 (first | done | exact rfl | exact bB _ | go_simp)))); intro K hK; go_simp; (try go_bits); refine hK _ ?_; clear hK K))); refine wpQI_nil ?_
 refine wpQI_start [3, 4] ?_; (iterate 2 (first | (apply wpQI_step (zA rfl) (by kernel_rfl) (by exact rfl); (focus (intro W' hS; have hcS := hS.cells; go_simp; (iterate 2 (first | done | exact rfl | exact bB _ | go_simp)))); intro K hK; go_simp; (try go_bits); refine hK _ ?_; clear hK K))); refine wpQI_nil ?_
 apply wpQ_call (i := 2) (zA rfl) (by kernel_rfl) (by exact rfl); intro W hF hS; have hcS := hS.1.cells; go_simp; (go_at_call 44; refine (K1.out _).mono ?_; rintro e w3 ⟨hb_w3, v3, rfl, hv3⟩; refine XPost.mk _ (fun W => IsC W v3 (x)) hb_w3 (hv3) (IsC.cl _ _) ?_); clear hb_w3 hcS hS hF
 intro K hK; go_simp; (try go_bits); refine hK _ ?_; clear hK K
 obtain ⟨s3, A3, n3, c3, rfl⟩ := IsC.val hv3
 clear hv3
 apply wpQ_call (i := 5) (zA rfl) (by kernel_rfl) (by exact rfl); intro W hF hS; have hcS := hS.1.cells; go_simp; (go_at_call 44; refine (K2.out _).mono ?_; rintro e w4 ⟨hb_w4, v4, rfl, hv4⟩; refine XPost.mk _ (fun W => IsC W v4 (y)) hb_w4 (hv4) (IsC.cl _ _) ?_); clear hb_w4 hcS hS hF
 intro K hK; go_simp; (try go_bits); refine hK _ ?_; clear hK K
 obtain ⟨s4, A4, n4, c4, rfl⟩ := IsC.val hv4
 clear hv4
 apply wpQ_call (i := 6) (zA rfl) (by kernel_rfl) (by exact rfl); intro W hF hS; have hcS := hS.1.cells; go_simp; (go_at_call 44; refine (K3.out _).mono ?_; rintro e w5 ⟨hb_w5, v5, rfl, hv5⟩; refine XPost.mk _ (fun W => IsC W v5 (U)) hb_w5 (hv5) (IsC.cl _ _) ?_); clear hb_w5 hcS hS hF
 intro K hK; go_simp; (try go_bits); refine hK _ ?_; clear hK K
 obtain ⟨s5, A5, n5, c5, rfl⟩ := IsC.val hv5
 clear hv5
 refine wpQI_start [7] ?_; (iterate 1 (first | (apply wpQI_step (zA rfl) (by kernel_rfl) (by exact rfl); (focus (intro W' hS; have hcS := hS.cells; go_simp; (iterate 2 (first | done | exact rfl | exact bB _ | go_simp)))); intro K hK; go_simp; (try go_bits); refine hK _ ?_; clear hK K))); refine wpQI_nil ?_
 refine wpQ_done (by kernel_rfl) ?_
 intro w6 hF_w6 hSG
 have hz_w6 := hSG.1.1
 have hb_w6 := hSG.1.2
 clear hSG
 (with_reducible apply cel2 (b := w.heap.size) hb_w6); ((try simp) <;> omega); omega; (iterate 2 (focus (go_simp; try exact rfl))); (intro o; go_simp); intro aQ aM aP aN; (with_reducible apply cel6 (b := w.heap.size + 1) hb_w6); ((try simp) <;> omega); omega; (iterate 6 (focus (go_simp; try exact rfl))); (intro o; go_simp); intro aR aO aV aX aT aS aU aW
 (try simp only [List.filterMap_cons, List.filterMap_nil, List.getElem?_cons_succ, List.getElem?_cons_zero])
 have H3 := hQ0 (show IsC w6 (.agg #[.bool s3, .slice A3 n3 c3]) (x) from hF_w6.1.1)
 have H4 := hQ0 (show IsC w6 (.agg #[.bool s4, .slice A4 n4 c4]) (y) from hF_w6.1.2)
 have H5 := hQ0 (show IsC w6 (.agg #[.bool s5, .slice A5 n5 c5]) (U) from hF_w6.2)
 have HB6 := hQ0 (HB2.out.trans (hb_w6.mono (by have := HB2.out.size; omega)))
 have hz6 : w.heap.size + 1 + 1 ≤ w6.heap.size := by omega
 clear hF_w6 hb_w6
 clear aG aK aC aI aA aD aF aE aB aJ aH aL
 go_wp2_with fail
 refine HQ_.out _ _ _ ?_
 clear HQ_ Q_
 go_wp2_with fail
 refine bodyPost_ret (v := .agg #[.bool s3, .slice A3 n3 c3, .bool s4, .slice A4 n4 c4, .bool s5, .slice A5 n5 c5]) (by simp only [results, Tryz.results16]; go_simp) rfl ⟨?_, ?_⟩
 · have hB := HB6.out; ((with_reducible (repeat (first | exact bR _ _ | apply bS | apply bA | apply bD | refine bT ?_ (by assumption) ?_ | refine bO (by assumption) ?_ ?_))) <;> (first | omega | (simp <;> omega)))
 · exact ⟨_, rfl, ⟨_, _, _, _, _, _, _, _, _, _, _, _, rfl, (by ((with_reducible (repeat (first | exact H3.out | refine IsC.al ?_ _ | apply IsC.st1))) <;> (first | (with_reducible assumption) | (intro _ e; cases e; done) | (go_simp; first | done | exact rfl)))), (by ((with_reducible (repeat (first | exact H4.out | refine IsC.al ?_ _ | apply IsC.st1))) <;> (first | (with_reducible assumption) | (intro _ e; cases e; done) | (go_simp; first | done | exact rfl)))), (by ((with_reducible (repeat (first | exact H5.out | refine IsC.al ?_ _ | apply IsC.st1))) <;> (first | (with_reducible assumption) | (intro _ e; cases e; done) | (go_simp; first | done | exact rfl))))⟩⟩
set_option maxRecDepth 100000 in
set_option maxHeartbeats 8000000 in
theorem lowest_any (x y d : Int) (v : Value) (w : World) (h : RAt w v x y d) (hd : d ≠ 0) (lx : (canN x.natAbs).length ≤ 100000) (ly : (canN y.natAbs).length ≤ 100000) (ld : (canN d.natAbs).length ≤ 100000) :
  Calls Tryz.prog 59 #[v] w (ROut (x.tdiv (lowG x y d)) (y.tdiv (lowG x y d)) (d.tdiv (lowG x y d)) w) := by
 obtain ⟨s1, A1, n1, c1, s2, A2, n2, c2, s3, A3, n3, c3, rfl⟩ := h.val
 have h0 := h
 have lg := gcdN_len lx ly
 have lG := gcdN_len lg ld
 have hG0 : ((Nat.gcd (Nat.gcd x.natAbs y.natAbs) d.natAbs : Nat) : Int) ≠ 0 := by
  have : 0 < Nat.gcd (Nat.gcd x.natAbs y.natAbs) d.natAbs := Nat.gcd_pos_of_pos_right _ (by omega)
  omega
 have k1 := fun u v w h1 h2 => wgcd_any 100000 u v x y w h1 h2 (by omega)
 unfold lowG
 generalize Nat.gcd x.natAbs y.natAbs = g at *
 have k2 := fun u v w h1 h2 => wgcd_any 100000 u v (g : Int) d w h1 h2 (by omega)
 simp only [Int.natAbs_natCast] at k2
 generalize Nat.gcd g d.natAbs = G at *
 have k3 := fun u v w h1 h2 => wquo_any 100000 u v x (G : Int) w h1 h2 (by omega) hG0
 have k4 := fun u v w h1 h2 => wquo_any 100000 u v y (G : Int) w h1 h2 (by omega) hG0
 have k5 := fun u v w h1 h2 => wquo_any 100000 u v d (G : Int) w h1 h2 (by omega) hG0
 have lg1 : (canN (g : Int).natAbs).length ≤ 100000 := by rw [Int.natAbs_natCast]; exact lg
 replace lg : (canN (G : Int).natAbs).length ≤ 100000 := by rw [Int.natAbs_natCast]; exact lG
 generalize x.tdiv (G : Int) = X at *
 generalize y.tdiv (G : Int) = Y at *
 generalize d.tdiv (G : Int) = D at *
 generalize x.tmod (G : Int) = X2 at *
 generalize y.tmod (G : Int) = Y2 at *
 generalize d.tmod (G : Int) = D2 at *
 have K1 := hQ0 k1
 have K2 := hQ0 k2
 have K3 := hQ0 k3
 have K4 := hQ0 k4
 have K5 := hQ0 k5
 have LX := hQ0 lx
 have LY := hQ0 ly
 have LD := hQ0 ld
 have LG1 := hQ0 lg1
 have LG := hQ0 lg
 have H0 := hQ0 h0
 clear k1 k2 k3 k4 k5 lx ly ld lg lG lg1 hG0 hd h h0
 go_enter Tryz.func59, Tryz.ntmps59; (try simp only [List.append_eq, List.cons_append, List.nil_append])
 go_wp2_with fail
 (refine pin_wp (N := _) (Nat.le_refl _) (fun w4 hb_w4 hz_w4 => ?_); (try simp at hz_w4); (with_reducible apply cal6 (b := w.heap.size) hb_w4); (focus (go_simp; try exact ⟨rfl, rfl, rfl, rfl, rfl, rfl⟩)); intro dD aE dU dT aM eE eF dQ; (with_reducible apply cal6 (b := w.heap.size + 1) hb_w4); (focus (go_simp; try exact ⟨rfl, rfl, rfl, rfl, rfl, rfl⟩)); intro aZ aJ aU bC aL aI eD eB); refine wp_q (fun Q_ HQ_ => ?_); refine wp_region_floatQ w4.heap.size 9 [9] (Nat.le_refl _) (fun _ => True) trivial Cl.tt (by kernel_rfl) (by kernel_rfl) ?_
 replace H0 := hQ0 (RAt.below (v := .agg #[.bool s1, .slice A1 n1 c1, .bool s2, .slice A2 n2 c2, .bool s3, .slice A3 n3 c3]) (x := x) (y := y) (d := d) (by ((with_reducible (repeat (first | exact H0.out | refine RAt.al ?_ _ | apply RAt.st1))) <;> (first | (with_reducible assumption) | (intro _ e; cases e; done) | (go_simp; first | done | exact rfl)))) hb_w4)
 have HB4 := hQ0 (show Below w.heap.size w w4 by ((with_reducible (repeat (first | exact bR _ _ | apply bS | apply bA | apply bD | refine bT ?_ (by assumption) ?_ | refine bO (by assumption) ?_ ?_))) <;> (first | omega | (simp <;> omega))))
 have hz4 : w.heap.size + 1 + 1 ≤ w4.heap.size := by omega
 clear hb_w4
 skip
 refine wpQI_start [0, 1, 2, 3] ?_; (iterate 4 (first | (apply wpQI_step (zA rfl) (by kernel_rfl) (by exact rfl); (focus (intro W' hS; have hcS := hS.cells; go_simp; (iterate 2 (first | done | exact rfl | exact bB _ | go_simp)))); intro K hK; go_simp; (try go_bits); refine hK _ ?_; clear hK K))); refine wpQI_nil ?_
 refine wpQI_start [5, 6] ?_; (iterate 2 (first | (apply wpQI_step (zA rfl) (by kernel_rfl) (by exact rfl); (focus (intro W' hS; have hcS := hS.cells; go_simp; (iterate 2 (first | done | exact rfl | exact bB _ | go_simp)))); intro K hK; go_simp; (try go_bits); refine hK _ ?_; clear hK K))); refine wpQI_nil ?_
 apply wpQ_call (i := 4) (zA rfl) (by kernel_rfl) (by exact rfl); intro W hF hS; have hcS := hS.1.cells; go_simp; (go_at_call 94; refine ((K1.out _ _ _ ((RAt.px (H0.out.below hS.1.2)).zl LX.out) ((RAt.py (H0.out.below hS.1.2)).zl LY.out)).mono (fun _ _ h => NOut.z h)).mono ?_; rintro e w5 ⟨hb_w5, v5, rfl, hv5⟩; refine XPost.mk _ (fun W => IsC W v5 ((g : Int))) hb_w5 (hv5) (IsC.cl _ _) ?_); clear hb_w5 hcS hS hF
 intro K hK; go_simp; (try go_bits); refine hK _ ?_; clear hK K
 obtain ⟨s5, A5, n5, c5, rfl⟩ := IsC.val hv5
 clear hv5
 apply wpQ_call (i := 7) (zA rfl) (by kernel_rfl) (by exact rfl); intro W hF hS; have hcS := hS.1.cells; go_simp; (go_at_call 94; refine ((K2.out _ _ _ (hF.zl LG1.out) ((RAt.pd (H0.out.below hS.1.2)).zl LD.out)).mono (fun _ _ h => NOut.z h)).mono ?_; rintro e w6 ⟨hb_w6, v6, rfl, hv6⟩; refine XPost.mk _ (fun W => IsC W v6 ((G : Int))) hb_w6 (hv6) (IsC.cl _ _) ?_); clear hb_w6 hcS hS hF
 intro K hK; go_simp; (try go_bits); refine hK _ ?_; clear hK K
 obtain ⟨s6, A6, n6, c6, rfl⟩ := IsC.val hv6
 clear hv6
 apply wpQ_fresh (i := 8) LInv.std (zA rfl) (by kernel_rfl) (fun g => Value.pointer (some ⟨g, 0, none⟩)) (by exact rfl); (focus (intro W; go_simp; first | done | exact rfl | exact ⟨rfl, rfl⟩))
 intro g_r1_8 hN_r1_8 hG_r1_8 K hK
 go_simp; refine hK _ ?_; clear hK K
 have hne : w.heap.size ≠ g_r1_8 ∧ g_r1_8 ≠ w.heap.size := by have := hN_r1_8; omega
 have hne : w.heap.size + 1 ≠ g_r1_8 ∧ g_r1_8 ≠ w.heap.size + 1 := by have := hN_r1_8; omega
 refine wpQ_done (by kernel_rfl) ?_
 intro w7 hF_w7 hSG
 have hz_w7 := hSG.1.1
 have hb_w7 := hSG.1.2
 have hB_r1_8 := (hSG.2 _ (List.mem_cons_self ..)).2; simp only at hB_r1_8; have hl_r1_8 := (hSG.size (List.mem_cons_self ..)); simp only at hl_r1_8
 have aA := cell_of_row w7 g_r1_8 0 _ _ _ hB_r1_8; simp only [List.getElem?_toArray, List.getElem?_cons_zero] at aA
 have aB := cell_of_row w7 g_r1_8 1 _ _ _ hB_r1_8; simp only [List.getElem?_toArray, List.getElem?_cons_zero, List.getElem?_cons_succ] at aB
 have dL : (∀ o, w7.frozen? ⟨g_r1_8, o, none⟩ = false) := (fun o => frozen_of_row w7 g_r1_8 o _ _ hB_r1_8); have HH_r1_8 := hQ0 hB_r1_8; clear hB_r1_8
 clear hSG
 (with_reducible apply cel6 (b := w.heap.size) hb_w7); ((try simp) <;> omega); omega; (iterate 6 (focus (go_simp; try exact rfl))); (intro o; go_simp); intro bI bU aD bH aK dV aF aS; (with_reducible apply cel6 (b := w.heap.size + 1) hb_w7); ((try simp) <;> omega); omega; (iterate 6 (focus (go_simp; try exact rfl))); (intro o; go_simp); intro bM dC bZ dJ aR aC dW aT
 (try simp only [List.filterMap_cons, List.filterMap_nil, List.getElem?_cons_succ, List.getElem?_cons_zero])
 replace H0 := hQ0 (H0.out.below hb_w7)
 have H5 := hQ0 (show IsC w7 (.agg #[.bool s5, .slice A5 n5 c5]) ((g : Int)) from hF_w7.1)
 have H6 := hQ0 (show IsC w7 (.agg #[.bool s6, .slice A6 n6 c6]) ((G : Int)) from hF_w7.2)
 have HB7 := hQ0 (HB4.out.trans (hb_w7.mono (by have := HB4.out.size; omega)))
 have hz7 : w.heap.size + 1 + 1 ≤ w7.heap.size := by omega
 have hn_r1_8 : w.heap.size + 1 + 1 ≤ g_r1_8 := by have := hN_r1_8; omega
 clear hF_w7 hb_w7 HH_r1_8 hG_r1_8 hN_r1_8
 clear dD aE dU dT aM eE eF dQ aZ aJ aU bC aL aI eD eB
 go_wp2_with fail
 refine HQ_.out _ _ _ ?_
 clear HQ_ Q_
 go_wp2_with fail
 (go_at_call 60; refine (K3.out _ _ _ ((RAt.px (show RAt _ (.agg #[.bool s1, .slice A1 n1 c1, .bool s2, .slice A2 n2 c2, .bool s3, .slice A3 n3 c3]) (x) (y) (d) by ((with_reducible (repeat (first | exact H0.out | refine RAt.al ?_ _ | apply RAt.st1))) <;> (first | (with_reducible assumption) | (intro _ e; cases e; done) | (go_simp; first | done | exact rfl))))).zl LX.out) ((show IsC _ (.agg #[.bool s6, .slice A6 n6 c6]) ((G : Int)) by ((with_reducible (repeat (first | exact H6.out | refine IsC.al ?_ _ | apply IsC.st1))) <;> (first | (with_reducible assumption) | (intro _ e; cases e; done) | (go_simp; first | done | exact rfl)))).zl LG.out)).mono ?_; rintro e w8 ⟨hb_w8, u8, v8, rfl, hu8, hv8⟩; have hz_w8 := hb_w8.size; (try simp at hz_w8); (with_reducible apply cal6 (b := w.heap.size) hb_w8); (focus (go_simp; try exact ⟨rfl, rfl, rfl, rfl, rfl, rfl⟩)); intro bQ dX eC dG dK dA aY dI; (with_reducible apply cal6 (b := w.heap.size + 1) hb_w8); (focus (go_simp; try exact ⟨rfl, rfl, rfl, rfl, rfl, rfl⟩)); intro aV bE aO bX bY dM bK eG; (with_reducible apply cal2 (b := g_r1_8) hb_w8); (focus (go_simp; try exact ⟨rfl, rfl⟩)); intro eA bL aP aW)
 obtain ⟨s8u, A8u, n8u, c8u, rfl⟩ := IsC.val hu8
 obtain ⟨s8, A8, n8, c8, rfl⟩ := IsC.val hv8
 clear H5
 replace H0 := hQ0 (RAt.below (v := .agg #[.bool s1, .slice A1 n1 c1, .bool s2, .slice A2 n2 c2, .bool s3, .slice A3 n3 c3]) (x := x) (y := y) (d := d) (by ((with_reducible (repeat (first | exact H0.out | refine RAt.al ?_ _ | apply RAt.st1))) <;> (first | (with_reducible assumption) | (intro _ e; cases e; done) | (go_simp; first | done | exact rfl)))) hb_w8)
 replace H6 := hQ0 (IsC.below (v := .agg #[.bool s6, .slice A6 n6 c6]) (z := (G : Int)) (by ((with_reducible (repeat (first | exact H6.out | refine IsC.al ?_ _ | apply IsC.st1))) <;> (first | (with_reducible assumption) | (intro _ e; cases e; done) | (go_simp; first | done | exact rfl)))) hb_w8)
 have HB8 := hQ0 (show Below w.heap.size w w8 by have hB := HB7.out; ((with_reducible (repeat (first | exact bR _ _ | apply bS | apply bA | apply bD | refine bT ?_ (by assumption) ?_ | refine bO (by assumption) ?_ ?_))) <;> (first | omega | (simp <;> omega))))
 have hz8 : w.heap.size + 1 + 1 ≤ w8.heap.size := by omega
 clear hb_w8
 clear aA aB dL bI bU aD bH aK dV aF aS bM dC bZ dJ aR aC dW aT
 have H8u := hQ0 (show IsC w8 (.agg #[.bool s8u, .slice A8u n8u c8u]) (X) from hu8)
 clear hu8
 have H8 := hQ0 (show IsC w8 (.agg #[.bool s8, .slice A8 n8 c8]) (X2) from hv8)
 clear hv8
 go_wp2_with fail
 (go_at_call 60; refine (K4.out _ _ _ ((RAt.py (show RAt _ (.agg #[.bool s1, .slice A1 n1 c1, .bool s2, .slice A2 n2 c2, .bool s3, .slice A3 n3 c3]) (x) (y) (d) by ((with_reducible (repeat (first | exact H0.out | refine RAt.al ?_ _ | apply RAt.st1))) <;> (first | (with_reducible assumption) | (intro _ e; cases e; done) | (go_simp; first | done | exact rfl))))).zl LY.out) ((show IsC _ (.agg #[.bool s6, .slice A6 n6 c6]) ((G : Int)) by ((with_reducible (repeat (first | exact H6.out | refine IsC.al ?_ _ | apply IsC.st1))) <;> (first | (with_reducible assumption) | (intro _ e; cases e; done) | (go_simp; first | done | exact rfl)))).zl LG.out)).mono ?_; rintro e w9 ⟨hb_w9, u9, v9, rfl, hu9, hv9⟩; have hz_w9 := hb_w9.size; (try simp at hz_w9); (with_reducible apply cal6 (b := w.heap.size) hb_w9); (focus (go_simp; try exact ⟨rfl, rfl, rfl, rfl, rfl, rfl⟩)); intro dR aG dE dP dZ bF dS dF; (with_reducible apply cal6 (b := w.heap.size + 1) hb_w9); (focus (go_simp; try exact ⟨rfl, rfl, rfl, rfl, rfl, rfl⟩)); intro aQ dH dB dO aX aN aH dN; (with_reducible apply cal2 (b := g_r1_8) hb_w9); (focus (go_simp; try exact ⟨rfl, rfl⟩)); intro bN eH bJ dY; (with_reducible apply cal2 (b := w8.heap.size) hb_w9); (focus (go_simp; try exact ⟨rfl, rfl⟩)); intro bW bV bP bG)
 obtain ⟨s9u, A9u, n9u, c9u, rfl⟩ := IsC.val hu9
 obtain ⟨s9, A9, n9, c9, rfl⟩ := IsC.val hv9
 clear H8
 replace H0 := hQ0 (RAt.below (v := .agg #[.bool s1, .slice A1 n1 c1, .bool s2, .slice A2 n2 c2, .bool s3, .slice A3 n3 c3]) (x := x) (y := y) (d := d) (by ((with_reducible (repeat (first | exact H0.out | refine RAt.al ?_ _ | apply RAt.st1))) <;> (first | (with_reducible assumption) | (intro _ e; cases e; done) | (go_simp; first | done | exact rfl)))) hb_w9)
 replace H6 := hQ0 (IsC.below (v := .agg #[.bool s6, .slice A6 n6 c6]) (z := (G : Int)) (by ((with_reducible (repeat (first | exact H6.out | refine IsC.al ?_ _ | apply IsC.st1))) <;> (first | (with_reducible assumption) | (intro _ e; cases e; done) | (go_simp; first | done | exact rfl)))) hb_w9)
 replace H8u := hQ0 (IsC.below (v := .agg #[.bool s8u, .slice A8u n8u c8u]) (z := X) (by ((with_reducible (repeat (first | exact H8u.out | refine IsC.al ?_ _ | apply IsC.st1))) <;> (first | (with_reducible assumption) | (intro _ e; cases e; done) | (go_simp; first | done | exact rfl)))) hb_w9)
 have HB9 := hQ0 (show Below w.heap.size w w9 by have hB := HB8.out; ((with_reducible (repeat (first | exact bR _ _ | apply bS | apply bA | apply bD | refine bT ?_ (by assumption) ?_ | refine bO (by assumption) ?_ ?_))) <;> (first | omega | (simp <;> omega))))
 have hz9 : w.heap.size + 1 + 1 ≤ w9.heap.size := by omega
 clear hb_w9
 clear bQ dX eC dG dK dA aY dI aV bE aO bX bY dM bK eG eA bL aP aW
 have H9u := hQ0 (show IsC w9 (.agg #[.bool s9u, .slice A9u n9u c9u]) (Y) from hu9)
 clear hu9
 have H9 := hQ0 (show IsC w9 (.agg #[.bool s9, .slice A9 n9 c9]) (Y2) from hv9)
 clear hv9
 go_wp2_with fail
 (go_at_call 60; refine (K5.out _ _ _ ((RAt.pd (show RAt _ (.agg #[.bool s1, .slice A1 n1 c1, .bool s2, .slice A2 n2 c2, .bool s3, .slice A3 n3 c3]) (x) (y) (d) by ((with_reducible (repeat (first | exact H0.out | refine RAt.al ?_ _ | apply RAt.st1))) <;> (first | (with_reducible assumption) | (intro _ e; cases e; done) | (go_simp; first | done | exact rfl))))).zl LD.out) ((show IsC _ (.agg #[.bool s6, .slice A6 n6 c6]) ((G : Int)) by ((with_reducible (repeat (first | exact H6.out | refine IsC.al ?_ _ | apply IsC.st1))) <;> (first | (with_reducible assumption) | (intro _ e; cases e; done) | (go_simp; first | done | exact rfl)))).zl LG.out)).mono ?_; rintro e w10 ⟨hb_w10, u10, v10, rfl, hu10, hv10⟩; have hz_w10 := hb_w10.size; (try simp at hz_w10); (with_reducible apply cal6 (b := w.heap.size + 1) hb_w10); (focus (go_simp; try exact ⟨rfl, rfl, rfl, rfl, rfl, rfl⟩)); intro eP eI eQ eS eL eN eK eU; (with_reducible apply cal2 (b := w8.heap.size) hb_w10); (focus (go_simp; try exact ⟨rfl, rfl⟩)); intro eV eJ eR eT; (with_reducible apply cal2 (b := w9.heap.size) hb_w10); (focus (go_simp; try exact ⟨rfl, rfl⟩)); intro eX eW eO eM)
 obtain ⟨s10u, A10u, n10u, c10u, rfl⟩ := IsC.val hu10
 obtain ⟨s10, A10, n10, c10, rfl⟩ := IsC.val hv10
 clear H0
 clear H6
 clear H9
 replace H8u := hQ0 (IsC.below (v := .agg #[.bool s8u, .slice A8u n8u c8u]) (z := X) (by ((with_reducible (repeat (first | exact H8u.out | refine IsC.al ?_ _ | apply IsC.st1))) <;> (first | (with_reducible assumption) | (intro _ e; cases e; done) | (go_simp; first | done | exact rfl)))) hb_w10)
 replace H9u := hQ0 (IsC.below (v := .agg #[.bool s9u, .slice A9u n9u c9u]) (z := Y) (by ((with_reducible (repeat (first | exact H9u.out | refine IsC.al ?_ _ | apply IsC.st1))) <;> (first | (with_reducible assumption) | (intro _ e; cases e; done) | (go_simp; first | done | exact rfl)))) hb_w10)
 have HB10 := hQ0 (show Below w.heap.size w w10 by have hB := HB9.out; ((with_reducible (repeat (first | exact bR _ _ | apply bS | apply bA | apply bD | refine bT ?_ (by assumption) ?_ | refine bO (by assumption) ?_ ?_))) <;> (first | omega | (simp <;> omega))))
 have hz10 : w.heap.size + 1 + 1 ≤ w10.heap.size := by omega
 clear hb_w10
 clear dR aG dE dP dZ bF dS dF aQ dH dB dO aX aN aH dN bN eH bJ dY bW bV bP bG
 have H10u := hQ0 (show IsC w10 (.agg #[.bool s10u, .slice A10u n10u c10u]) (D) from hu10)
 clear hu10
 have H10 := hQ0 (show IsC w10 (.agg #[.bool s10, .slice A10 n10 c10]) (D2) from hv10)
 clear hv10
 go_wp2_with fail
 refine bodyPost_ret (v := .agg #[.bool s8u, .slice A8u n8u c8u, .bool s9u, .slice A9u n9u c9u, .bool s10u, .slice A10u n10u c10u]) (by simp only [results, Tryz.results59]; go_simp) rfl ⟨?_, ?_⟩
 · have hB := HB10.out; ((with_reducible (repeat (first | exact bR _ _ | apply bS | apply bA | apply bD | refine bT ?_ (by assumption) ?_ | refine bO (by assumption) ?_ ?_))) <;> (first | omega | (simp <;> omega)))
 · exact ⟨_, rfl, ⟨_, _, _, _, _, _, _, _, _, _, _, _, rfl, (by ((with_reducible (repeat (first | exact H8u.out | refine IsC.al ?_ _ | apply IsC.st1))) <;> (first | (with_reducible assumption) | (intro _ e; cases e; done) | (go_simp; first | done | exact rfl)))), (by ((with_reducible (repeat (first | exact H9u.out | refine IsC.al ?_ _ | apply IsC.st1))) <;> (first | (with_reducible assumption) | (intro _ e; cases e; done) | (go_simp; first | done | exact rfl)))), (by ((with_reducible (repeat (first | exact H10u.out | refine IsC.al ?_ _ | apply IsC.st1))) <;> (first | (with_reducible assumption) | (intro _ e; cases e; done) | (go_simp; first | done | exact rfl))))⟩⟩
set_option maxRecDepth 100000 in
set_option maxHeartbeats 8000000 in
theorem rlowest_any (x y d : Int) (v : Value) (w : World) (h : RAt w v x y d) (hd : d ≠ 0) (lx : (canN x.natAbs).length ≤ 100000) (ly : (canN y.natAbs).length ≤ 100000) (ld : (canN d.natAbs).length ≤ 100000) :
  Calls Tryz.prog 38 #[v] w (ROut (x.tdiv (lowG x y d)) (y.tdiv (lowG x y d)) (d.tdiv (lowG x y d)) w) := by
 obtain ⟨s1, A1, n1, c1, s2, A2, n2, c2, s3, A3, n3, c3, rfl⟩ := h.val
 have h0 := h
 have lg := gcdN_len lx ly
 have lG := gcdN_len lg ld
 have hG0 : ((Nat.gcd (Nat.gcd x.natAbs y.natAbs) d.natAbs : Nat) : Int) ≠ 0 := by
  have : 0 < Nat.gcd (Nat.gcd x.natAbs y.natAbs) d.natAbs := Nat.gcd_pos_of_pos_right _ (by omega)
  omega
 have k1 := fun u v w h1 h2 => rcommon_any 100000 u v x y w h1 h2 (by omega)
 unfold lowG
 generalize Nat.gcd x.natAbs y.natAbs = g at *
 have k2 := fun u v w h1 h2 => rcommon_any 100000 u v (g : Int) d w h1 h2 (by omega)
 simp only [Int.natAbs_natCast] at k2
 generalize Nat.gcd g d.natAbs = G at *
 have k3 := fun u v w h1 h2 => div_any 100000 u v x (G : Int) w h1 h2 (by omega) hG0
 have k4 := fun u v w h1 h2 => div_any 100000 u v y (G : Int) w h1 h2 (by omega) hG0
 have k5 := fun u v w h1 h2 => div_any 100000 u v d (G : Int) w h1 h2 (by omega) hG0
 have lg1 : (canN (g : Int).natAbs).length ≤ 100000 := by rw [Int.natAbs_natCast]; exact lg
 replace lg : (canN (G : Int).natAbs).length ≤ 100000 := by rw [Int.natAbs_natCast]; exact lG
 generalize x.tdiv (G : Int) = X at *
 generalize y.tdiv (G : Int) = Y at *
 generalize d.tdiv (G : Int) = D at *
 generalize x.tmod (G : Int) = X2 at *
 generalize y.tmod (G : Int) = Y2 at *
 generalize d.tmod (G : Int) = D2 at *
 have K1 := hQ0 k1
 have K2 := hQ0 k2
 have K3 := hQ0 k3
 have K4 := hQ0 k4
 have K5 := hQ0 k5
 have LX := hQ0 lx
 have LY := hQ0 ly
 have LD := hQ0 ld
 have LG1 := hQ0 lg1
 have LG := hQ0 lg
 have H0 := hQ0 h0
 clear k1 k2 k3 k4 k5 lx ly ld lg lG lg1 hG0 hd h h0
 go_enter Tryz.func38, Tryz.ntmps38; (try simp only [List.append_eq, List.cons_append, List.nil_append])
 go_wp2_with fail
 (refine pin_wp (N := _) (Nat.le_refl _) (fun w4 hb_w4 hz_w4 => ?_); (try simp at hz_w4); (with_reducible apply cal6 (b := w.heap.size) hb_w4); (focus (go_simp; try exact ⟨rfl, rfl, rfl, rfl, rfl, rfl⟩)); intro dD aE dU dT aM eE eF dQ; (with_reducible apply cal6 (b := w.heap.size + 1) hb_w4); (focus (go_simp; try exact ⟨rfl, rfl, rfl, rfl, rfl, rfl⟩)); intro aZ aJ aU bC aL aI eD eB); refine wp_q (fun Q_ HQ_ => ?_); refine wp_region_floatQ w4.heap.size 9 [9] (Nat.le_refl _) (fun _ => True) trivial Cl.tt (by kernel_rfl) (by kernel_rfl) ?_
 replace H0 := hQ0 (RAt.below (v := .agg #[.bool s1, .slice A1 n1 c1, .bool s2, .slice A2 n2 c2, .bool s3, .slice A3 n3 c3]) (x := x) (y := y) (d := d) (by ((with_reducible (repeat (first | exact H0.out | refine RAt.al ?_ _ | apply RAt.st1))) <;> (first | (with_reducible assumption) | (intro _ e; cases e; done) | (go_simp; first | done | exact rfl)))) hb_w4)
 have HB4 := hQ0 (show Below w.heap.size w w4 by ((with_reducible (repeat (first | exact bR _ _ | apply bS | apply bA | apply bD | refine bT ?_ (by assumption) ?_ | refine bO (by assumption) ?_ ?_))) <;> (first | omega | (simp <;> omega))))
 have hz4 : w.heap.size + 1 + 1 ≤ w4.heap.size := by omega
 clear hb_w4
 skip
 refine wpQI_start [0, 1, 2, 3] ?_; (iterate 4 (first | (apply wpQI_step (zA rfl) (by kernel_rfl) (by exact rfl); (focus (intro W' hS; have hcS := hS.cells; go_simp; (iterate 2 (first | done | exact rfl | exact bB _ | go_simp)))); intro K hK; go_simp; (try go_bits); refine hK _ ?_; clear hK K))); refine wpQI_nil ?_
 refine wpQI_start [5, 6] ?_; (iterate 2 (first | (apply wpQI_step (zA rfl) (by kernel_rfl) (by exact rfl); (focus (intro W' hS; have hcS := hS.cells; go_simp; (iterate 2 (first | done | exact rfl | exact bB _ | go_simp)))); intro K hK; go_simp; (try go_bits); refine hK _ ?_; clear hK K))); refine wpQI_nil ?_
 apply wpQ_call (i := 4) (zA rfl) (by kernel_rfl) (by exact rfl); intro W hF hS; have hcS := hS.1.cells; go_simp; (go_at_call 69; refine ((K1.out _ _ _ ((RAt.px (H0.out.below hS.1.2)).zl LX.out) ((RAt.py (H0.out.below hS.1.2)).zl LY.out)).mono (fun _ _ h => NOut.z h)).mono ?_; rintro e w5 ⟨hb_w5, v5, rfl, hv5⟩; refine XPost.mk _ (fun W => IsC W v5 ((g : Int))) hb_w5 (hv5) (IsC.cl _ _) ?_); clear hb_w5 hcS hS hF
 intro K hK; go_simp; (try go_bits); refine hK _ ?_; clear hK K
 obtain ⟨s5, A5, n5, c5, rfl⟩ := IsC.val hv5
 clear hv5
 apply wpQ_call (i := 7) (zA rfl) (by kernel_rfl) (by exact rfl); intro W hF hS; have hcS := hS.1.cells; go_simp; (go_at_call 69; refine ((K2.out _ _ _ (hF.zl LG1.out) ((RAt.pd (H0.out.below hS.1.2)).zl LD.out)).mono (fun _ _ h => NOut.z h)).mono ?_; rintro e w6 ⟨hb_w6, v6, rfl, hv6⟩; refine XPost.mk _ (fun W => IsC W v6 ((G : Int))) hb_w6 (hv6) (IsC.cl _ _) ?_); clear hb_w6 hcS hS hF
 intro K hK; go_simp; (try go_bits); refine hK _ ?_; clear hK K
 obtain ⟨s6, A6, n6, c6, rfl⟩ := IsC.val hv6
 clear hv6
 apply wpQ_fresh (i := 8) LInv.std (zA rfl) (by kernel_rfl) (fun g => Value.pointer (some ⟨g, 0, none⟩)) (by exact rfl); (focus (intro W; go_simp; first | done | exact rfl | exact ⟨rfl, rfl⟩))
 intro g_r1_8 hN_r1_8 hG_r1_8 K hK
 go_simp; refine hK _ ?_; clear hK K
 have hne : w.heap.size ≠ g_r1_8 ∧ g_r1_8 ≠ w.heap.size := by have := hN_r1_8; omega
 have hne : w.heap.size + 1 ≠ g_r1_8 ∧ g_r1_8 ≠ w.heap.size + 1 := by have := hN_r1_8; omega
 refine wpQ_done (by kernel_rfl) ?_
 intro w7 hF_w7 hSG
 have hz_w7 := hSG.1.1
 have hb_w7 := hSG.1.2
 have hB_r1_8 := (hSG.2 _ (List.mem_cons_self ..)).2; simp only at hB_r1_8; have hl_r1_8 := (hSG.size (List.mem_cons_self ..)); simp only at hl_r1_8
 have aA := cell_of_row w7 g_r1_8 0 _ _ _ hB_r1_8; simp only [List.getElem?_toArray, List.getElem?_cons_zero] at aA
 have aB := cell_of_row w7 g_r1_8 1 _ _ _ hB_r1_8; simp only [List.getElem?_toArray, List.getElem?_cons_zero, List.getElem?_cons_succ] at aB
 have dL : (∀ o, w7.frozen? ⟨g_r1_8, o, none⟩ = false) := (fun o => frozen_of_row w7 g_r1_8 o _ _ hB_r1_8); have HH_r1_8 := hQ0 hB_r1_8; clear hB_r1_8
 clear hSG
 (with_reducible apply cel6 (b := w.heap.size) hb_w7); ((try simp) <;> omega); omega; (iterate 6 (focus (go_simp; try exact rfl))); (intro o; go_simp); intro bI bU aD bH aK dV aF aS; (with_reducible apply cel6 (b := w.heap.size + 1) hb_w7); ((try simp) <;> omega); omega; (iterate 6 (focus (go_simp; try exact rfl))); (intro o; go_simp); intro bM dC bZ dJ aR aC dW aT
 (try simp only [List.filterMap_cons, List.filterMap_nil, List.getElem?_cons_succ, List.getElem?_cons_zero])
 replace H0 := hQ0 (H0.out.below hb_w7)
 have H5 := hQ0 (show IsC w7 (.agg #[.bool s5, .slice A5 n5 c5]) ((g : Int)) from hF_w7.1)
 have H6 := hQ0 (show IsC w7 (.agg #[.bool s6, .slice A6 n6 c6]) ((G : Int)) from hF_w7.2)
 have HB7 := hQ0 (HB4.out.trans (hb_w7.mono (by have := HB4.out.size; omega)))
 have hz7 : w.heap.size + 1 + 1 ≤ w7.heap.size := by omega
 have hn_r1_8 : w.heap.size + 1 + 1 ≤ g_r1_8 := by have := hN_r1_8; omega
 clear hF_w7 hb_w7 HH_r1_8 hG_r1_8 hN_r1_8
 clear dD aE dU dT aM eE eF dQ aZ aJ aU bC aL aI eD eB
 go_wp2_with fail
 refine HQ_.out _ _ _ ?_
 clear HQ_ Q_
 go_wp2_with fail
 (go_at_call 46; refine (K3.out _ _ _ ((RAt.px (show RAt _ (.agg #[.bool s1, .slice A1 n1 c1, .bool s2, .slice A2 n2 c2, .bool s3, .slice A3 n3 c3]) (x) (y) (d) by ((with_reducible (repeat (first | exact H0.out | refine RAt.al ?_ _ | apply RAt.st1))) <;> (first | (with_reducible assumption) | (intro _ e; cases e; done) | (go_simp; first | done | exact rfl))))).zl LX.out) ((show IsC _ (.agg #[.bool s6, .slice A6 n6 c6]) ((G : Int)) by ((with_reducible (repeat (first | exact H6.out | refine IsC.al ?_ _ | apply IsC.st1))) <;> (first | (with_reducible assumption) | (intro _ e; cases e; done) | (go_simp; first | done | exact rfl)))).zl LG.out)).mono ?_; rintro e w8 ⟨hb_w8, u8, v8, rfl, hu8, hv8⟩; have hz_w8 := hb_w8.size; (try simp at hz_w8); (with_reducible apply cal6 (b := w.heap.size) hb_w8); (focus (go_simp; try exact ⟨rfl, rfl, rfl, rfl, rfl, rfl⟩)); intro bQ dX eC dG dK dA aY dI; (with_reducible apply cal6 (b := w.heap.size + 1) hb_w8); (focus (go_simp; try exact ⟨rfl, rfl, rfl, rfl, rfl, rfl⟩)); intro aV bE aO bX bY dM bK eG; (with_reducible apply cal2 (b := g_r1_8) hb_w8); (focus (go_simp; try exact ⟨rfl, rfl⟩)); intro eA bL aP aW)
 obtain ⟨s8u, A8u, n8u, c8u, rfl⟩ := IsC.val hu8
 obtain ⟨s8, A8, n8, c8, rfl⟩ := IsC.val hv8
 clear H5
 replace H0 := hQ0 (RAt.below (v := .agg #[.bool s1, .slice A1 n1 c1, .bool s2, .slice A2 n2 c2, .bool s3, .slice A3 n3 c3]) (x := x) (y := y) (d := d) (by ((with_reducible (repeat (first | exact H0.out | refine RAt.al ?_ _ | apply RAt.st1))) <;> (first | (with_reducible assumption) | (intro _ e; cases e; done) | (go_simp; first | done | exact rfl)))) hb_w8)
 replace H6 := hQ0 (IsC.below (v := .agg #[.bool s6, .slice A6 n6 c6]) (z := (G : Int)) (by ((with_reducible (repeat (first | exact H6.out | refine IsC.al ?_ _ | apply IsC.st1))) <;> (first | (with_reducible assumption) | (intro _ e; cases e; done) | (go_simp; first | done | exact rfl)))) hb_w8)
 have HB8 := hQ0 (show Below w.heap.size w w8 by have hB := HB7.out; ((with_reducible (repeat (first | exact bR _ _ | apply bS | apply bA | apply bD | refine bT ?_ (by assumption) ?_ | refine bO (by assumption) ?_ ?_))) <;> (first | omega | (simp <;> omega))))
 have hz8 : w.heap.size + 1 + 1 ≤ w8.heap.size := by omega
 clear hb_w8
 clear aA aB dL bI bU aD bH aK dV aF aS bM dC bZ dJ aR aC dW aT
 have H8u := hQ0 (show IsC w8 (.agg #[.bool s8u, .slice A8u n8u c8u]) (X) from hu8)
 clear hu8
 have H8 := hQ0 (show IsC w8 (.agg #[.bool s8, .slice A8 n8 c8]) (X2) from hv8)
 clear hv8
 go_wp2_with fail
 (go_at_call 46; refine (K4.out _ _ _ ((RAt.py (show RAt _ (.agg #[.bool s1, .slice A1 n1 c1, .bool s2, .slice A2 n2 c2, .bool s3, .slice A3 n3 c3]) (x) (y) (d) by ((with_reducible (repeat (first | exact H0.out | refine RAt.al ?_ _ | apply RAt.st1))) <;> (first | (with_reducible assumption) | (intro _ e; cases e; done) | (go_simp; first | done | exact rfl))))).zl LY.out) ((show IsC _ (.agg #[.bool s6, .slice A6 n6 c6]) ((G : Int)) by ((with_reducible (repeat (first | exact H6.out | refine IsC.al ?_ _ | apply IsC.st1))) <;> (first | (with_reducible assumption) | (intro _ e; cases e; done) | (go_simp; first | done | exact rfl)))).zl LG.out)).mono ?_; rintro e w9 ⟨hb_w9, u9, v9, rfl, hu9, hv9⟩; have hz_w9 := hb_w9.size; (try simp at hz_w9); (with_reducible apply cal6 (b := w.heap.size) hb_w9); (focus (go_simp; try exact ⟨rfl, rfl, rfl, rfl, rfl, rfl⟩)); intro dR aG dE dP dZ bF dS dF; (with_reducible apply cal6 (b := w.heap.size + 1) hb_w9); (focus (go_simp; try exact ⟨rfl, rfl, rfl, rfl, rfl, rfl⟩)); intro aQ dH dB dO aX aN aH dN; (with_reducible apply cal2 (b := g_r1_8) hb_w9); (focus (go_simp; try exact ⟨rfl, rfl⟩)); intro bN eH bJ dY; (with_reducible apply cal2 (b := w8.heap.size) hb_w9); (focus (go_simp; try exact ⟨rfl, rfl⟩)); intro bW bV bP bG)
 obtain ⟨s9u, A9u, n9u, c9u, rfl⟩ := IsC.val hu9
 obtain ⟨s9, A9, n9, c9, rfl⟩ := IsC.val hv9
 clear H8
 replace H0 := hQ0 (RAt.below (v := .agg #[.bool s1, .slice A1 n1 c1, .bool s2, .slice A2 n2 c2, .bool s3, .slice A3 n3 c3]) (x := x) (y := y) (d := d) (by ((with_reducible (repeat (first | exact H0.out | refine RAt.al ?_ _ | apply RAt.st1))) <;> (first | (with_reducible assumption) | (intro _ e; cases e; done) | (go_simp; first | done | exact rfl)))) hb_w9)
 replace H6 := hQ0 (IsC.below (v := .agg #[.bool s6, .slice A6 n6 c6]) (z := (G : Int)) (by ((with_reducible (repeat (first | exact H6.out | refine IsC.al ?_ _ | apply IsC.st1))) <;> (first | (with_reducible assumption) | (intro _ e; cases e; done) | (go_simp; first | done | exact rfl)))) hb_w9)
 replace H8u := hQ0 (IsC.below (v := .agg #[.bool s8u, .slice A8u n8u c8u]) (z := X) (by ((with_reducible (repeat (first | exact H8u.out | refine IsC.al ?_ _ | apply IsC.st1))) <;> (first | (with_reducible assumption) | (intro _ e; cases e; done) | (go_simp; first | done | exact rfl)))) hb_w9)
 have HB9 := hQ0 (show Below w.heap.size w w9 by have hB := HB8.out; ((with_reducible (repeat (first | exact bR _ _ | apply bS | apply bA | apply bD | refine bT ?_ (by assumption) ?_ | refine bO (by assumption) ?_ ?_))) <;> (first | omega | (simp <;> omega))))
 have hz9 : w.heap.size + 1 + 1 ≤ w9.heap.size := by omega
 clear hb_w9
 clear bQ dX eC dG dK dA aY dI aV bE aO bX bY dM bK eG eA bL aP aW
 have H9u := hQ0 (show IsC w9 (.agg #[.bool s9u, .slice A9u n9u c9u]) (Y) from hu9)
 clear hu9
 have H9 := hQ0 (show IsC w9 (.agg #[.bool s9, .slice A9 n9 c9]) (Y2) from hv9)
 clear hv9
 go_wp2_with fail
 (go_at_call 46; refine (K5.out _ _ _ ((RAt.pd (show RAt _ (.agg #[.bool s1, .slice A1 n1 c1, .bool s2, .slice A2 n2 c2, .bool s3, .slice A3 n3 c3]) (x) (y) (d) by ((with_reducible (repeat (first | exact H0.out | refine RAt.al ?_ _ | apply RAt.st1))) <;> (first | (with_reducible assumption) | (intro _ e; cases e; done) | (go_simp; first | done | exact rfl))))).zl LD.out) ((show IsC _ (.agg #[.bool s6, .slice A6 n6 c6]) ((G : Int)) by ((with_reducible (repeat (first | exact H6.out | refine IsC.al ?_ _ | apply IsC.st1))) <;> (first | (with_reducible assumption) | (intro _ e; cases e; done) | (go_simp; first | done | exact rfl)))).zl LG.out)).mono ?_; rintro e w10 ⟨hb_w10, u10, v10, rfl, hu10, hv10⟩; have hz_w10 := hb_w10.size; (try simp at hz_w10); (with_reducible apply cal6 (b := w.heap.size + 1) hb_w10); (focus (go_simp; try exact ⟨rfl, rfl, rfl, rfl, rfl, rfl⟩)); intro eP eI eQ eS eL eN eK eU; (with_reducible apply cal2 (b := w8.heap.size) hb_w10); (focus (go_simp; try exact ⟨rfl, rfl⟩)); intro eV eJ eR eT; (with_reducible apply cal2 (b := w9.heap.size) hb_w10); (focus (go_simp; try exact ⟨rfl, rfl⟩)); intro eX eW eO eM)
 obtain ⟨s10u, A10u, n10u, c10u, rfl⟩ := IsC.val hu10
 obtain ⟨s10, A10, n10, c10, rfl⟩ := IsC.val hv10
 clear H0
 clear H6
 clear H9
 replace H8u := hQ0 (IsC.below (v := .agg #[.bool s8u, .slice A8u n8u c8u]) (z := X) (by ((with_reducible (repeat (first | exact H8u.out | refine IsC.al ?_ _ | apply IsC.st1))) <;> (first | (with_reducible assumption) | (intro _ e; cases e; done) | (go_simp; first | done | exact rfl)))) hb_w10)
 replace H9u := hQ0 (IsC.below (v := .agg #[.bool s9u, .slice A9u n9u c9u]) (z := Y) (by ((with_reducible (repeat (first | exact H9u.out | refine IsC.al ?_ _ | apply IsC.st1))) <;> (first | (with_reducible assumption) | (intro _ e; cases e; done) | (go_simp; first | done | exact rfl)))) hb_w10)
 have HB10 := hQ0 (show Below w.heap.size w w10 by have hB := HB9.out; ((with_reducible (repeat (first | exact bR _ _ | apply bS | apply bA | apply bD | refine bT ?_ (by assumption) ?_ | refine bO (by assumption) ?_ ?_))) <;> (first | omega | (simp <;> omega))))
 have hz10 : w.heap.size + 1 + 1 ≤ w10.heap.size := by omega
 clear hb_w10
 clear dR aG dE dP dZ bF dS dF aQ dH dB dO aX aN aH dN bN eH bJ dY bW bV bP bG
 have H10u := hQ0 (show IsC w10 (.agg #[.bool s10u, .slice A10u n10u c10u]) (D) from hu10)
 clear hu10
 have H10 := hQ0 (show IsC w10 (.agg #[.bool s10, .slice A10 n10 c10]) (D2) from hv10)
 clear hv10
 go_wp2_with fail
 refine bodyPost_ret (v := .agg #[.bool s8u, .slice A8u n8u c8u, .bool s9u, .slice A9u n9u c9u, .bool s10u, .slice A10u n10u c10u]) (by simp only [results, Tryz.results38]; go_simp) rfl ⟨?_, ?_⟩
 · have hB := HB10.out; ((with_reducible (repeat (first | exact bR _ _ | apply bS | apply bA | apply bD | refine bT ?_ (by assumption) ?_ | refine bO (by assumption) ?_ ?_))) <;> (first | omega | (simp <;> omega)))
 · exact ⟨_, rfl, ⟨_, _, _, _, _, _, _, _, _, _, _, _, rfl, (by ((with_reducible (repeat (first | exact H8u.out | refine IsC.al ?_ _ | apply IsC.st1))) <;> (first | (with_reducible assumption) | (intro _ e; cases e; done) | (go_simp; first | done | exact rfl)))), (by ((with_reducible (repeat (first | exact H9u.out | refine IsC.al ?_ _ | apply IsC.st1))) <;> (first | (with_reducible assumption) | (intro _ e; cases e; done) | (go_simp; first | done | exact rfl)))), (by ((with_reducible (repeat (first | exact H10u.out | refine IsC.al ?_ _ | apply IsC.st1))) <;> (first | (with_reducible assumption) | (intro _ e; cases e; done) | (go_simp; first | done | exact rfl))))⟩⟩
theorem makeFunc_run (fn : Fn) (first cap : Array Value) (w : World) : (Instr.makeFunc fn first cap).run Tryz.prog w = .ok (.func fn first cap) w := rfl
attribute [local go_sem] makeFunc_run
def statX (v u n m c rest grip : Int) : Int := (16 * v - grip * u) * m - ((16 + rest - grip) * n) * c
structure SmX (v u n m c rest grip : Int) : Prop where
  v : -4194304 ≤ v ∧ v ≤ 4194304
  u : -4194304 ≤ u ∧ u ≤ 4194304
  n : -4194304 ≤ n ∧ n ≤ 4194304
  m : -17592186044416 ≤ m ∧ m ≤ 17592186044416
  c : -17592186044416 ≤ c ∧ c ≤ 17592186044416
  rest : 0 ≤ rest ∧ rest ≤ 15
  grip : 0 ≤ grip ∧ grip ≤ 15
theorem SmX.parts {v u n m c rest grip : Int} (h : SmX v u n m c rest grip) : (-62914560 ≤ grip * u ∧ grip * u ≤ 62914560) ∧ (-130023424 ≤ (16 + rest - grip) * n ∧ (16 + rest - grip) * n ≤ 130023424) ∧
  (-2361183241434822606848 ≤ (16 * v - grip * u) * m ∧ (16 * v - grip * u) * m ≤ 2361183241434822606848) ∧ (-2361183241434822606848 ≤ ((16 + rest - grip) * n) * c ∧ ((16 + rest - grip) * n) * c ≤ 2361183241434822606848) := by
 obtain ⟨hv, hu, hn, hm, hc, hr, hg⟩ := h
 have m1 := mulB grip u 15 4194304 (by omega) hu
 have m2 := mulB (16 + rest - grip) n 31 4194304 (by omega) hn
 have m3 := mulB (16 * v - grip * u) m 134217728 17592186044416 (by omega) hm
 have m4 := mulB ((16 + rest - grip) * n) c 134217728 17592186044416 (by omega) hc
 omega
theorem SmX.len {v u n m c rest grip : Int} (h : SmX v u n m c rest grip) : (canN (statX v u n m c rest grip).natAbs).length ≤ 10 := by
 obtain ⟨_, _, a, b⟩ := h.parts
 unfold statX
 exact canN_bd (B := 18446744073709551616 * 18446744073709551616) (by omega) (by omega) (by decide)
set_option maxRecDepth 100000 in
set_option maxHeartbeats 8000000 in
theorem static1_any (v u n m c rest grip : Int) (b1 b2 b3 b4 : Nat) (w : World) (hs : SmX v u n m c rest grip)
  (g1 : w.cell? ⟨b1, 0, none⟩ = some (.int .i64 grip)) (g2 : w.cell? ⟨b2, 0, none⟩ = some (.int .i64 m)) (g3 : w.cell? ⟨b3, 0, none⟩ = some (.int .i64 rest)) (g4 : w.cell? ⟨b4, 0, none⟩ = some (.int .i64 c)) :
  Calls Tryz.prog 87 #[.int .i64 v, .int .i64 u, .int .i64 n, .pointer (some ⟨b1, 0, none⟩), .pointer (some ⟨b2, 0, none⟩), .pointer (some ⟨b3, 0, none⟩), .pointer (some ⟨b4, 0, none⟩)] w (ZOut (statX v u n m c rest grip) w) := by
 have z1 : b1 < w.heap.size := by simpa using World.block_lt_of_cell? w _ g1
 have z2 : b2 < w.heap.size := by simpa using World.block_lt_of_cell? w _ g2
 have z3 : b3 < w.heap.size := by simpa using World.block_lt_of_cell? w _ g3
 have z4 : b4 < w.heap.size := by simpa using World.block_lt_of_cell? w _ g4
 obtain ⟨⟨p1, p2⟩, ⟨p3, p4⟩, p5, p6⟩ := hs.parts
 have hlen := hs.len
 obtain ⟨⟨v1, v2⟩, ⟨u1, u2⟩, ⟨n1, n2⟩, ⟨m1, m2⟩, ⟨c1, c2⟩, ⟨r1, r2⟩, ⟨e1, e2⟩⟩ := hs
 have k1 := fun w => wof_any (16 * v - grip * u) w (by omega) (by omega)
 have k2 := fun w => wof_any m w (by omega) (by omega)
 have k4 := fun w => wof_any ((16 + rest - grip) * n) w (by omega) (by omega)
 have k5 := fun w => wof_any c w (by omega) (by omega)
 have l1 := len_wd (z := 16 * v - grip * u) (by omega) (by omega)
 have l2 := len_wd (z := m) (by omega) (by omega)
 have l4 := len_wd (z := (16 + rest - grip) * n) (by omega) (by omega)
 have l5 := len_wd (z := c) (by omega) (by omega)
 have l3 : (canN ((16 * v - grip * u) * m).natAbs).length ≤ 10 := canN_bd (B := 18446744073709551616 * 18446744073709551616) (by omega) (by omega) (by decide)
 have l6 : (canN ((16 + rest - grip) * n * c).natAbs).length ≤ 10 := canN_bd (B := 18446744073709551616 * 18446744073709551616) (by omega) (by omega) (by decide)
 have K1 := hQ0 k1
 have K4 := hQ0 k4
 clear k1 k4
 obtain ⟨P, hP⟩ : ∃ P, P = 16 * v - grip * u := ⟨_, rfl⟩
 obtain ⟨Q, hQ⟩ : ∃ Q, Q = (16 + rest - grip) * n := ⟨_, rfl⟩
 unfold statX at hlen ⊢
 rw [← hP] at l1 l3 hlen ⊢
 rw [← hQ] at l4 l6 hlen ⊢
 have kk1 := fun w => (K1.out w).mono (fun _ _ (h : ZOut (16 * v - grip * u) w _ _) => (show ZOut P w _ _ by rw [hP]; exact h))
 have kk4 := fun w => (K4.out w).mono (fun _ _ (h : ZOut ((16 + rest - grip) * n) w _ _) => (show ZOut Q w _ _ by rw [hQ]; exact h))
 replace K1 := hQ0 kk1
 replace K4 := hQ0 kk4
 clear hP hQ kk1 kk4
 have k3 := fun x y w h1 h2 => wmul_any 10 x y P m w h1 h2 (by omega)
 have k6 := fun x y w h1 h2 => wmul_any 10 x y Q c w h1 h2 (by omega)
 have k7 := fun x y w h1 h2 => wsub_any 10 x y (P * m) (Q * c) w h1 h2 (by omega)
 generalize P * m = Z3 at *
 generalize Q * c = Z6 at *
 generalize Z3 - Z6 = Z at *
 have K2 := hQ0 k2
 have K3 := hQ0 k3
 have K5 := hQ0 k5
 have K6 := hQ0 k6
 have K7 := hQ0 k7
 have L1 := hQ0 l1
 have L2 := hQ0 l2
 have L3 := hQ0 l3
 have L4 := hQ0 l4
 have L5 := hQ0 l5
 have L6 := hQ0 l6
 have G1 := hQ0 g1
 have G2 := hQ0 g2
 have G3 := hQ0 g3
 have G4 := hQ0 g4
 clear k2 k3 k5 k6 k7 l1 l2 l3 l4 l5 l6 p5 p6 hlen
 go_enter Tryz.func87, Tryz.ntmps87; (try simp only [List.append_eq, List.cons_append, List.nil_append])
 go_wp2_with fail
 (refine pin_wp (N := _) (Nat.le_refl _) (fun w2 hb_w2 hz_w2 => ?_); (try simp at hz_w2); (with_reducible apply cal2 (b := w.heap.size) hb_w2); (focus (go_simp; try exact ⟨rfl, rfl⟩)); intro aN aR aJ aQ); refine wp_q (fun Q_ HQ_ => ?_); refine wp_region_floatQ w2.heap.size 11 [11] (Nat.le_refl _) (fun _ => True) trivial Cl.tt (by kernel_rfl) (by kernel_rfl) ?_
 have HB2 := hQ0 (show Below w.heap.size w w2 by ((with_reducible (repeat (first | exact bR _ _ | apply bS | apply bA | apply bD | refine bT ?_ (by assumption) ?_ | refine bO (by assumption) ?_ ?_))) <;> (first | omega | (simp <;> omega))))
 have hz2 : w.heap.size + 1 ≤ w2.heap.size := by omega
 clear hb_w2
 skip
 have f1 : w2.cell? ⟨b1, 0, none⟩ = some (.int .i64 grip) := (HB2.out.cell (p := ⟨b1, 0, none⟩) z1).trans G1.out
 have f2 : w2.cell? ⟨b2, 0, none⟩ = some (.int .i64 m) := (HB2.out.cell (p := ⟨b2, 0, none⟩) z2).trans G2.out
 have y1 : b1 < w2.heap.size := by omega
 have y2 : b2 < w2.heap.size := by omega
 clear g1 g2 g3 g4
 refine wpQI_start [0, 1, 2, 3, 4, 5] ?_; (iterate 6 (first | (apply wpQI_step (zA rfl) (by kernel_rfl) (by exact rfl); (focus (intro W' hS; have hcS := hS.cells; go_simp; (iterate 2 (first | done | exact rfl | exact bB _ | go_simp)))); intro K hK; go_simp; (try go_bits); refine hK _ ?_; clear hK K))); refine wpQI_nil ?_
 refine wpQI_start [7] ?_; (iterate 1 (first | (apply wpQI_step (zA rfl) (by kernel_rfl) (by exact rfl); (focus (intro W' hS; have hcS := hS.cells; go_simp; (iterate 2 (first | done | exact rfl | exact bB _ | go_simp)))); intro K hK; go_simp; (try go_bits); refine hK _ ?_; clear hK K))); refine wpQI_nil ?_
 apply wpQ_call (i := 6) (zA rfl) (by kernel_rfl) (by exact rfl); intro W hF hS; have hcS := hS.1.cells; go_simp; (go_at_call 57; refine (K1.out _).mono ?_; rintro e w3 ⟨hb_w3, v3, rfl, hv3⟩; refine XPost.mk _ (fun W => IsC W v3 (P)) hb_w3 (hv3) (IsC.cl _ _) ?_); clear hb_w3 hcS hS hF
 intro K hK; go_simp; (try go_bits); refine hK _ ?_; clear hK K
 obtain ⟨s3, A3, n3, c3, rfl⟩ := IsC.val hv3
 clear hv3
 apply wpQ_call (i := 8) (zA rfl) (by kernel_rfl) (by exact rfl); intro W hF hS; have hcS := hS.1.cells; go_simp; (go_at_call 57; refine (K2.out _).mono ?_; rintro e w4 ⟨hb_w4, v4, rfl, hv4⟩; refine XPost.mk _ (fun W => IsC W v4 (m)) hb_w4 (hv4) (IsC.cl _ _) ?_); clear hb_w4 hcS hS hF
 intro K hK; go_simp; (try go_bits); refine hK _ ?_; clear hK K
 obtain ⟨s4, A4, n4, c4, rfl⟩ := IsC.val hv4
 clear hv4
 apply wpQ_call (i := 9) (zA rfl) (by kernel_rfl) (by exact rfl); intro W hF hS; have hcS := hS.1.cells; go_simp; (go_at_call 56; refine (K3.out _ _ _ (hF.1.zl L1.out) (hF.2.zl L2.out)).mono ?_; rintro e w5 ⟨hb_w5, v5, rfl, hv5⟩; refine XPost.mk _ (fun W => IsC W v5 (Z3)) hb_w5 (hv5) (IsC.cl _ _) ?_); clear hb_w5 hcS hS hF
 intro K hK; go_simp; (try go_bits); refine hK _ ?_; clear hK K
 obtain ⟨s5, A5, n5, c5, rfl⟩ := IsC.val hv5
 clear hv5
 apply wpQ_fresh (i := 10) LInv.std (zA rfl) (by kernel_rfl) (fun g => Value.pointer (some ⟨g, 0, none⟩)) (by exact rfl); (focus (intro W; go_simp; first | done | exact rfl | exact ⟨rfl, rfl⟩))
 intro g_r1_10 hN_r1_10 hG_r1_10 K hK
 go_simp; refine hK _ ?_; clear hK K
 have hne : w.heap.size ≠ g_r1_10 ∧ g_r1_10 ≠ w.heap.size := by have := hN_r1_10; omega
 refine wpQ_done (by kernel_rfl) ?_
 intro w6 hF_w6 hSG
 have hz_w6 := hSG.1.1
 have hb_w6 := hSG.1.2
 have hB_r1_10 := (hSG.2 _ (List.mem_cons_self ..)).2; simp only at hB_r1_10; have hl_r1_10 := (hSG.size (List.mem_cons_self ..)); simp only at hl_r1_10
 have aA := cell_of_row w6 g_r1_10 0 _ _ _ hB_r1_10; simp only [List.getElem?_toArray, List.getElem?_cons_zero] at aA
 have aB := cell_of_row w6 g_r1_10 1 _ _ _ hB_r1_10; simp only [List.getElem?_toArray, List.getElem?_cons_zero, List.getElem?_cons_succ] at aB
 have aM : (∀ o, w6.frozen? ⟨g_r1_10, o, none⟩ = false) := (fun o => frozen_of_row w6 g_r1_10 o _ _ hB_r1_10); have HH_r1_10 := hQ0 hB_r1_10; clear hB_r1_10
 clear hSG
 (with_reducible apply cel2 (b := w.heap.size) hb_w6); ((try simp) <;> omega); omega; (iterate 2 (focus (go_simp; try exact rfl))); (intro o; go_simp); intro aL aE aI aF
 (try simp only [List.filterMap_cons, List.filterMap_nil, List.getElem?_cons_succ, List.getElem?_cons_zero])
 have H3 := hQ0 (show IsC w6 (.agg #[.bool s3, .slice A3 n3 c3]) (P) from hF_w6.1.1)
 have H4 := hQ0 (show IsC w6 (.agg #[.bool s4, .slice A4 n4 c4]) (m) from hF_w6.1.2)
 have H5 := hQ0 (show IsC w6 (.agg #[.bool s5, .slice A5 n5 c5]) (Z3) from hF_w6.2)
 have HB6 := hQ0 (HB2.out.trans (hb_w6.mono (by have := HB2.out.size; omega)))
 have hz6 : w.heap.size + 1 ≤ w6.heap.size := by omega
 have hn_r1_10 : w.heap.size + 1 ≤ g_r1_10 := by have := hN_r1_10; omega
 clear hF_w6 hb_w6 HH_r1_10 hG_r1_10 hN_r1_10
 clear aN aR aJ aQ
 go_wp2_with fail
 refine HQ_.out _ _ _ ?_
 clear HQ_ Q_
 go_wp2_with fail
 (refine pin_wp (N := _) (Nat.le_refl _) (fun w7 hb_w7 hz_w7 => ?_); (try simp at hz_w7); (with_reducible apply cal2 (b := w.heap.size) hb_w7); (focus (go_simp; try exact ⟨rfl, rfl⟩)); intro aP aC aH aD; (with_reducible apply cal2 (b := g_r1_10) hb_w7); (focus (go_simp; try exact ⟨rfl, rfl⟩)); intro aS aO aK aG); refine wp_q (fun Q_ HQ_ => ?_); refine wp_region_floatQ w7.heap.size 12 [12] (Nat.le_refl _) (fun _ => True) trivial Cl.tt (by kernel_rfl) (by kernel_rfl) ?_
 clear H3
 clear H4
 replace H5 := hQ0 (IsC.below (v := .agg #[.bool s5, .slice A5 n5 c5]) (z := Z3) (by ((with_reducible (repeat (first | exact H5.out | refine IsC.al ?_ _ | apply IsC.st1))) <;> (first | (with_reducible assumption) | (intro _ e; cases e; done) | (go_simp; first | done | exact rfl)))) hb_w7)
 have HB7 := hQ0 (show Below w.heap.size w w7 by have hB := HB6.out; ((with_reducible (repeat (first | exact bR _ _ | apply bS | apply bA | apply bD | refine bT ?_ (by assumption) ?_ | refine bO (by assumption) ?_ ?_))) <;> (first | omega | (simp <;> omega))))
 have hz7 : w.heap.size + 1 ≤ w7.heap.size := by omega
 clear hb_w7
 clear aA aB aM aL aE aI aF
 have f1 : w7.cell? ⟨b1, 0, none⟩ = some (.int .i64 grip) := (HB7.out.cell (p := ⟨b1, 0, none⟩) z1).trans G1.out
 have f3 : w7.cell? ⟨b3, 0, none⟩ = some (.int .i64 rest) := (HB7.out.cell (p := ⟨b3, 0, none⟩) z3).trans G3.out
 have f4 : w7.cell? ⟨b4, 0, none⟩ = some (.int .i64 c) := (HB7.out.cell (p := ⟨b4, 0, none⟩) z4).trans G4.out
 have y1 : b1 < w7.heap.size := by omega
 have y3 : b3 < w7.heap.size := by omega
 have y4 : b4 < w7.heap.size := by omega
 refine wpQI_start [0, 1, 2, 3, 4, 5, 6] ?_; (iterate 7 (first | (apply wpQI_step (zA rfl) (by kernel_rfl) (by exact rfl); (focus (intro W' hS; have hcS := hS.cells; go_simp; (iterate 2 (first | done | exact rfl | exact bB _ | go_simp)))); intro K hK; go_simp; (try go_bits); refine hK _ ?_; clear hK K))); refine wpQI_nil ?_
 refine wpQI_start [8] ?_; (iterate 1 (first | (apply wpQI_step (zA rfl) (by kernel_rfl) (by exact rfl); (focus (intro W' hS; have hcS := hS.cells; go_simp; (iterate 2 (first | done | exact rfl | exact bB _ | go_simp)))); intro K hK; go_simp; (try go_bits); refine hK _ ?_; clear hK K))); refine wpQI_nil ?_
 apply wpQ_call (i := 7) (zA rfl) (by kernel_rfl) (by exact rfl); intro W hF hS; have hcS := hS.1.cells; go_simp; (go_at_call 57; refine (K4.out _).mono ?_; rintro e w8 ⟨hb_w8, v8, rfl, hv8⟩; refine XPost.mk _ (fun W => IsC W v8 (Q)) hb_w8 (hv8) (IsC.cl _ _) ?_); clear hb_w8 hcS hS hF
 intro K hK; go_simp; (try go_bits); refine hK _ ?_; clear hK K
 obtain ⟨s8, A8, n8, c8, rfl⟩ := IsC.val hv8
 clear hv8
 apply wpQ_call (i := 9) (zA rfl) (by kernel_rfl) (by exact rfl); intro W hF hS; have hcS := hS.1.cells; go_simp; (go_at_call 57; refine (K5.out _).mono ?_; rintro e w9 ⟨hb_w9, v9, rfl, hv9⟩; refine XPost.mk _ (fun W => IsC W v9 (c)) hb_w9 (hv9) (IsC.cl _ _) ?_); clear hb_w9 hcS hS hF
 intro K hK; go_simp; (try go_bits); refine hK _ ?_; clear hK K
 obtain ⟨s9, A9, n9, c9, rfl⟩ := IsC.val hv9
 clear hv9
 apply wpQ_call (i := 10) (zA rfl) (by kernel_rfl) (by exact rfl); intro W hF hS; have hcS := hS.1.cells; go_simp; (go_at_call 56; refine (K6.out _ _ _ (hF.1.zl L4.out) (hF.2.zl L5.out)).mono ?_; rintro e w10 ⟨hb_w10, v10, rfl, hv10⟩; refine XPost.mk _ (fun W => IsC W v10 (Z6)) hb_w10 (hv10) (IsC.cl _ _) ?_); clear hb_w10 hcS hS hF
 intro K hK; go_simp; (try go_bits); refine hK _ ?_; clear hK K
 obtain ⟨s10, A10, n10, c10, rfl⟩ := IsC.val hv10
 clear hv10
 apply wpQ_call (i := 11) (zA rfl) (by kernel_rfl) (by exact rfl); intro W hF hS; have hcS := hS.1.cells; go_simp; (go_at_call 88; refine (K7.out _ _ _ ((H5.out.below hS.1.2).zl L3.out) (hF.2.zl L6.out)).mono ?_; rintro e w11 ⟨hb_w11, v11, rfl, hv11⟩; refine XPost.mk _ (fun W => IsC W v11 (Z)) hb_w11 (hv11) (IsC.cl _ _) ?_); clear hb_w11 hcS hS hF
 intro K hK; go_simp; (try go_bits); refine hK _ ?_; clear hK K
 obtain ⟨s11, A11, n11, c11, rfl⟩ := IsC.val hv11
 clear hv11
 refine wpQ_done (by kernel_rfl) ?_
 intro w12 hF_w12 hSG
 have hz_w12 := hSG.1.1
 have hb_w12 := hSG.1.2
 clear hSG
 (with_reducible apply cel2 (b := w.heap.size) hb_w12); ((try simp) <;> omega); omega; (iterate 2 (focus (go_simp; try exact rfl))); (intro o; go_simp); intro aX aT aY aW; (with_reducible apply cel2 (b := g_r1_10) hb_w12); ((try simp) <;> omega); omega; (iterate 2 (focus (go_simp; try exact rfl))); (intro o; go_simp); intro aU aZ bC aV
 (try simp only [List.filterMap_cons, List.filterMap_nil, List.getElem?_cons_succ, List.getElem?_cons_zero])
 clear H5
 have H8 := hQ0 (show IsC w12 (.agg #[.bool s8, .slice A8 n8 c8]) (Q) from hF_w12.1.1.1)
 have H9 := hQ0 (show IsC w12 (.agg #[.bool s9, .slice A9 n9 c9]) (c) from hF_w12.1.1.2)
 have H10 := hQ0 (show IsC w12 (.agg #[.bool s10, .slice A10 n10 c10]) (Z6) from hF_w12.1.2)
 have H11 := hQ0 (show IsC w12 (.agg #[.bool s11, .slice A11 n11 c11]) (Z) from hF_w12.2)
 have HB12 := hQ0 (HB7.out.trans (hb_w12.mono (by have := HB7.out.size; omega)))
 have hz12 : w.heap.size + 1 ≤ w12.heap.size := by omega
 clear hF_w12 hb_w12
 clear aP aC aH aD aS aO aK aG
 go_wp2_with fail
 refine HQ_.out _ _ _ ?_
 clear HQ_ Q_
 go_wp2_with fail
 refine bodyPost_ret (v := .agg #[.bool s11, .slice A11 n11 c11]) (by simp only [results, Tryz.results87]; go_simp) rfl ⟨?_, ?_⟩
 · have hB := HB12.out; ((with_reducible (repeat (first | exact bR _ _ | apply bS | apply bA | apply bD | refine bT ?_ (by assumption) ?_ | refine bO (by assumption) ?_ ?_))) <;> (first | omega | (simp <;> omega)))
 · exact ⟨_, rfl, by ((with_reducible (repeat (first | exact H11.out | refine IsC.al ?_ _ | apply IsC.st1))) <;> (first | (with_reducible assumption) | (intro _ e; cases e; done) | (go_simp; first | done | exact rfl)))⟩
def lowR (x y d : Int) : Int × Int × Int := (x.tdiv (lowG x y d), y.tdiv (lowG x y d), d.tdiv (lowG x y d))
def statR (v1 v2 w1 w2 n1 n2 rest grip : Int) : Int × Int × Int :=
  if permB v1 v2 w1 w2 n1 n2 = true ∧ (sixB rest && sixB grip) = true then
    if apprB v1 v2 w1 w2 n1 n2 = true then lowR (statX v1 (v1 - w1) n1 (n1 * n1 + n2 * n2) ((v1 - w1) * n1 + (v2 - w2) * n2) rest grip) (statX v2 (v2 - w2) n2 (n1 * n1 + n2 * n2) ((v1 - w1) * n1 + (v2 - w2) * n2) rest grip) (16 * (n1 * n1 + n2 * n2)) else (v1, v2, 1)
  else (0, 0, 0)
theorem perm_bd {v1 v2 w1 w2 n1 n2 : Int} (h : permB v1 v2 w1 w2 n1 n2 = true) : (-1048576 ≤ v1 ∧ v1 ≤ 1048576 ∧ -1048576 ≤ v2 ∧ v2 ≤ 1048576) ∧ (-1048576 ≤ w1 ∧ w1 ≤ 1048576 ∧ -1048576 ≤ w2 ∧ w2 ≤ 1048576) ∧ (-2097152 ≤ n1 ∧ n1 ≤ 2097152 ∧ -2097152 ≤ n2 ∧ n2 ≤ 2097152) := by
 simpa [permB, withinB, and_assoc] using h
theorem perm_vals {v1 v2 w1 w2 n1 n2 : Int} (h : permB v1 v2 w1 w2 n1 n2 = true) : subR v1 v2 w1 w2 = (v1 - w1, v2 - w2) ∧ dotR (v1 - w1) (v2 - w2) n1 n2 = (v1 - w1) * n1 + (v2 - w2) * n2 ∧ dotR n1 n2 n1 n2 = n1 * n1 + n2 * n2 := by
 obtain ⟨a, b, c⟩ := perm_bd h
 have h1 : smallB v1 v2 = true := small_of (by omega)
 have h2 : smallB w1 w2 = true := small_of (by omega)
 have h3 : smallB n1 n2 = true := small_of (by omega)
 have h4 : smallB (v1 - w1) (v2 - w2) = true := small_of (by omega)
 unfold subR dotR keptR
 simp [h1, h2, h3, h4]
theorem perm_prod {v1 v2 w1 w2 n1 n2 : Int} (h : permB v1 v2 w1 w2 n1 n2 = true) : (-8796093022208 ≤ (v1 - w1) * n1 + (v2 - w2) * n2 ∧ (v1 - w1) * n1 + (v2 - w2) * n2 ≤ 8796093022208) ∧ 0 ≤ n1 * n1 + n2 * n2 ∧ n1 * n1 + n2 * n2 ≤ 8796093022208 := by
 obtain ⟨a, b, c⟩ := perm_bd h
 have m1 := mulB (v1 - w1) n1 2097152 2097152 (by omega) (by omega)
 have m2 := mulB (v2 - w2) n2 2097152 2097152 (by omega) (by omega)
 have m3 := mulB n1 n1 2097152 2097152 (by omega) (by omega)
 have m4 := mulB n2 n2 2097152 2097152 (by omega) (by omega)
 have q1 : 0 ≤ n1 * n1 := by rcases Int.le_total 0 n1 with h | h; exact Int.mul_nonneg h h; exact Int.mul_nonneg_of_nonpos_of_nonpos h h
 have q2 : 0 ≤ n2 * n2 := by rcases Int.le_total 0 n2 with h | h; exact Int.mul_nonneg h h; exact Int.mul_nonneg_of_nonpos_of_nonpos h h
 omega
theorem appr_bd {v1 v2 w1 w2 n1 n2 : Int} (h : apprB v1 v2 w1 w2 n1 n2 = true) : permB v1 v2 w1 w2 n1 n2 = true ∧ (v1 - w1) * n1 + (v2 - w2) * n2 < 0 ∧ 0 < n1 * n1 + n2 * n2 := by
 unfold apprB at h
 rw [Bool.and_eq_true, decide_eq_true_eq] at h
 obtain ⟨hp, hd⟩ := h
 obtain ⟨e1, e2, e3⟩ := perm_vals hp
 rw [e1] at hd
 simp only at hd
 rw [e2] at hd
 refine ⟨hp, hd, ?_⟩
 have q1 : 0 ≤ n1 * n1 := by rcases Int.le_total 0 n1 with h | h; exact Int.mul_nonneg h h; exact Int.mul_nonneg_of_nonpos_of_nonpos h h
 have q2 : 0 ≤ n2 * n2 := by rcases Int.le_total 0 n2 with h | h; exact Int.mul_nonneg h h; exact Int.mul_nonneg_of_nonpos_of_nonpos h h
 rcases Int.lt_or_le 0 (n1 * n1 + n2 * n2) with h | h
 · exact h
 · exfalso
   have z1 : n1 = 0 := by have := Int.mul_eq_zero.1 (show n1 * n1 = 0 by omega); omega
   have z2 : n2 = 0 := by have := Int.mul_eq_zero.1 (show n2 * n2 = 0 by omega); omega
   subst z1 z2
   simp at hd
theorem isC_zero (w : World) : IsC w (.agg #[.bool false, .slice none 0 0]) 0 := ⟨none, 0, by simp [canN_zero], by simp [canN_zero], by rw [show (0 : Int).natAbs = 0 from rfl, canN_zero]; exact LAt.nil _ _⟩
theorem RAt.zero (w : World) : RAt w (.agg #[.bool false, .slice none 0 0, .bool false, .slice none 0 0, .bool false, .slice none 0 0]) 0 0 0 := ⟨_, _, _, _, _, _, _, _, _, _, _, _, rfl, isC_zero w, isC_zero w, isC_zero w⟩
theorem len_mul {x y : Int} {a b : Nat} (hx : (canN x.natAbs).length ≤ a) (hy : (canN y.natAbs).length ≤ b) : (canN (x * y).natAbs).length ≤ a + b := by
 rw [canN_len] at *
 rw [Int.natAbs_mul, Int.natCast_mul, PB_add]
 exact Int.lt_of_le_of_lt (Int.mul_le_mul_of_nonneg_left (Int.le_of_lt hy) (Int.natCast_nonneg _)) (Int.mul_lt_mul_of_pos_right hx (PB_pos b))
theorem len_up {z : Int} {a b : Nat} (h : (canN z.natAbs).length ≤ a) (hab : a ≤ b) : (canN z.natAbs).length ≤ b := Nat.le_trans h hab
theorem len_add {x y : Int} {a : Nat} (hx : (canN x.natAbs).length ≤ a) (hy : (canN y.natAbs).length ≤ a) : (canN (x + y).natAbs).length ≤ a + 1 := by
 rw [canN_len] at *
 have h1 := PB_add a 1
 have h2 : PB 1 = 4294967296 := by decide
 have h3 := PB_pos a
 rw [h1, h2]
 have := Int.natAbs_add_le x y
 omega
def sumR (a b : Int × Int × Int) : Int × Int × Int := lowR (a.1 * b.2.2 + b.1 * a.2.2) (a.2.1 * b.2.2 + b.2.1 * a.2.2) (a.2.2 * b.2.2)
def POut (R : Int × Int × Int) (w : World) (e : Ending) (w' : World) : Prop := ROut R.1 R.2.1 R.2.2 w e w'
set_option maxRecDepth 100000 in
set_option maxHeartbeats 20000000 in
theorem rsum_any (x y d x' y' d' : Int) (u v : Value) (w : World) (hu : RAt w u x y d) (hv : RAt w v x' y' d') (hd : d * d' ≠ 0) (lx : (canN x.natAbs).length ≤ 1000) (ly : (canN y.natAbs).length ≤ 1000) (ld : (canN d.natAbs).length ≤ 1000) (lx2 : (canN x'.natAbs).length ≤ 1000) (ly2 : (canN y'.natAbs).length ≤ 1000) (ld2 : (canN d'.natAbs).length ≤ 1000) :
  Calls Tryz.prog 14 #[u, v] w (POut (sumR (x, y, d) (x', y', d')) w) := by
 have h0 := hu
 have h1 := hv
 obtain ⟨spx, Apx, npx, cpx, spy, Apy, npy, cpy, spd, Apd, npd, cpd, rfl⟩ := hu.val
 obtain ⟨sqx, Aqx, nqx, cqx, sqy, Aqy, nqy, cqy, sqd, Aqd, nqd, cqd, rfl⟩ := hv.val
 have l1 := len_mul lx ld2
 have l2 := len_mul lx2 ld
 have l3 := len_add l1 l2
 have l4 := len_mul ly ld2
 have l5 := len_mul ly2 ld
 have l6 := len_add l4 l5
 have l7 := len_mul ld ld2
 have k1 := fun u v w h1 h2 => times_any 1000 u v x d' w h1 h2 (by omega)
 have k2 := fun u v w h1 h2 => times_any 1000 u v x' d w h1 h2 (by omega)
 have k3 := fun u v w h1 h2 => plus_any (1000 + 1000) u v (x * d') (x' * d) w h1 h2 (by omega)
 have k4 := fun u v w h1 h2 => times_any 1000 u v y d' w h1 h2 (by omega)
 have k5 := fun u v w h1 h2 => times_any 1000 u v y' d w h1 h2 (by omega)
 have k6 := fun u v w h1 h2 => plus_any (1000 + 1000) u v (y * d') (y' * d) w h1 h2 (by omega)
 have k7 := fun u v w h1 h2 => times_any 1000 u v d d' w h1 h2 (by omega)
 have k8 := fun v w h => rlowest_any (x * d' + x' * d) (y * d' + y' * d) (d * d') v w h hd (by omega) (by omega) (by omega)
 unfold POut sumR lowR
 simp only
 generalize (x * d' + x' * d).tdiv (lowG (x * d' + x' * d) (y * d' + y' * d) (d * d')) = R1 at *
 generalize (y * d' + y' * d).tdiv (lowG (x * d' + x' * d) (y * d' + y' * d) (d * d')) = R2 at *
 generalize (d * d').tdiv (lowG (x * d' + x' * d) (y * d' + y' * d) (d * d')) = R3 at *
 generalize x * d' = P1 at *
 generalize x' * d = P2 at *
 generalize y * d' = Q1 at *
 generalize y' * d = Q2 at *
 generalize P1 + P2 = P at *
 generalize Q1 + Q2 = Q at *
 generalize d * d' = E at *
 have K1 := hQ0 k1
 have K2 := hQ0 k2
 have K3 := hQ0 k3
 have K4 := hQ0 k4
 have K5 := hQ0 k5
 have K6 := hQ0 k6
 have K7 := hQ0 k7
 have K8 := hQ0 k8
 have H0 := hQ0 h0
 have H1 := hQ0 h1
 have L1 := hQ0 l1
 have L2 := hQ0 l2
 have L4 := hQ0 l4
 have L5 := hQ0 l5
 have LX := hQ0 lx
 have LY := hQ0 ly
 have LD := hQ0 ld
 have LX2 := hQ0 lx2
 have LY2 := hQ0 ly2
 have LD2 := hQ0 ld2
 clear k1 k2 k3 k4 k5 k6 k7 k8 h0 h1 hu hv l1 l2 l3 l4 l5 l6 l7 lx ly ld lx2 ly2 ld2 hd
 go_enter Tryz.func14, Tryz.ntmps14; (try simp only [List.append_eq, List.cons_append, List.nil_append])
 go_wp2_with fail
 (refine pin_wp (N := _) (Nat.le_refl _) (fun w4 hb_w4 hz_w4 => ?_); (try simp at hz_w4); (with_reducible apply cal6 (b := w.heap.size) hb_w4); (focus (go_simp; try exact ⟨rfl, rfl, rfl, rfl, rfl, rfl⟩)); intro aO aF aC aB aS aV aW aX; (with_reducible apply cal6 (b := w.heap.size + 1) hb_w4); (focus (go_simp; try exact ⟨rfl, rfl, rfl, rfl, rfl, rfl⟩)); intro aJ aM aE aK aQ aL aT aR; (with_reducible apply cal6 (b := w.heap.size + 1 + 1) hb_w4); (focus (go_simp; try exact ⟨rfl, rfl, rfl, rfl, rfl, rfl⟩)); intro aN aG aP aD aH aU aI aA); refine wp_q (fun Q_ HQ_ => ?_); refine wp_region_floatQ w4.heap.size 29 [29] (Nat.le_refl _) (fun _ => True) trivial Cl.tt (by kernel_rfl) (by kernel_rfl) ?_
 replace H0 := hQ0 (RAt.below (v := .agg #[.bool spx, .slice Apx npx cpx, .bool spy, .slice Apy npy cpy, .bool spd, .slice Apd npd cpd]) (x := x) (y := y) (d := d) (by ((with_reducible (repeat (first | exact H0.out | refine RAt.al ?_ _ | apply RAt.st1))) <;> (first | (with_reducible assumption) | (intro _ e; cases e; done) | (go_simp; first | done | exact rfl)))) hb_w4)
 replace H1 := hQ0 (RAt.below (v := .agg #[.bool sqx, .slice Aqx nqx cqx, .bool sqy, .slice Aqy nqy cqy, .bool sqd, .slice Aqd nqd cqd]) (x := x') (y := y') (d := d') (by ((with_reducible (repeat (first | exact H1.out | refine RAt.al ?_ _ | apply RAt.st1))) <;> (first | (with_reducible assumption) | (intro _ e; cases e; done) | (go_simp; first | done | exact rfl)))) hb_w4)
 have HB4 := hQ0 (show Below w.heap.size w w4 by ((with_reducible (repeat (first | exact bR _ _ | apply bS | apply bA | apply bD | refine bT ?_ (by assumption) ?_ | refine bO (by assumption) ?_ ?_))) <;> (first | omega | (simp <;> omega))))
 have hz4 : w.heap.size + 1 + 1 + 1 ≤ w4.heap.size := by omega
 clear hb_w4
 skip
 refine wpQI_start [0, 1, 2, 3] ?_; (iterate 4 (first | (apply wpQI_step (zA rfl) (by kernel_rfl) (by exact rfl); (focus (intro W' hS; have hcS := hS.cells; go_simp; (iterate 2 (first | done | exact rfl | exact bB _ | go_simp)))); intro K hK; go_simp; (try go_bits); refine hK _ ?_; clear hK K))); refine wpQI_nil ?_
 refine wpQI_start [5, 6, 7, 8] ?_; (iterate 4 (first | (apply wpQI_step (zA rfl) (by kernel_rfl) (by exact rfl); (focus (intro W' hS; have hcS := hS.cells; go_simp; (iterate 2 (first | done | exact rfl | exact bB _ | go_simp)))); intro K hK; go_simp; (try go_bits); refine hK _ ?_; clear hK K))); refine wpQI_nil ?_
 refine wpQI_start [11, 12, 13, 14] ?_; (iterate 4 (first | (apply wpQI_step (zA rfl) (by kernel_rfl) (by exact rfl); (focus (intro W' hS; have hcS := hS.cells; go_simp; (iterate 2 (first | done | exact rfl | exact bB _ | go_simp)))); intro K hK; go_simp; (try go_bits); refine hK _ ?_; clear hK K))); refine wpQI_nil ?_
 refine wpQI_start [16, 17, 18, 19] ?_; (iterate 4 (first | (apply wpQI_step (zA rfl) (by kernel_rfl) (by exact rfl); (focus (intro W' hS; have hcS := hS.cells; go_simp; (iterate 2 (first | done | exact rfl | exact bB _ | go_simp)))); intro K hK; go_simp; (try go_bits); refine hK _ ?_; clear hK K))); refine wpQI_nil ?_
 refine wpQI_start [22, 23, 24, 25] ?_; (iterate 4 (first | (apply wpQI_step (zA rfl) (by kernel_rfl) (by exact rfl); (focus (intro W' hS; have hcS := hS.cells; go_simp; (iterate 2 (first | done | exact rfl | exact bB _ | go_simp)))); intro K hK; go_simp; (try go_bits); refine hK _ ?_; clear hK K))); refine wpQI_nil ?_
 apply wpQ_call (i := 4) (zA rfl) (by kernel_rfl) (by exact rfl); intro W hF hS; have hcS := hS.1.cells; go_simp; (go_at_call 40; refine (K1.out _ _ _ ((RAt.px (H0.out.below hS.1.2)).zl LX.out) ((RAt.pd (H1.out.below hS.1.2)).zl LD2.out)).mono ?_; rintro e w5 ⟨hb_w5, v5, rfl, hv5⟩; refine XPost.mk _ (fun W => IsC W v5 (P1)) hb_w5 (hv5) (IsC.cl _ _) ?_); clear hb_w5 hcS hS hF
 intro K hK; go_simp; (try go_bits); refine hK _ ?_; clear hK K
 obtain ⟨s5, A5, n5, c5, rfl⟩ := IsC.val hv5
 clear hv5
 apply wpQ_call (i := 9) (zA rfl) (by kernel_rfl) (by exact rfl); intro W hF hS; have hcS := hS.1.cells; go_simp; (go_at_call 40; refine (K2.out _ _ _ ((RAt.px (H1.out.below hS.1.2)).zl LX2.out) ((RAt.pd (H0.out.below hS.1.2)).zl LD.out)).mono ?_; rintro e w6 ⟨hb_w6, v6, rfl, hv6⟩; refine XPost.mk _ (fun W => IsC W v6 (P2)) hb_w6 (hv6) (IsC.cl _ _) ?_); clear hb_w6 hcS hS hF
 intro K hK; go_simp; (try go_bits); refine hK _ ?_; clear hK K
 obtain ⟨s6, A6, n6, c6, rfl⟩ := IsC.val hv6
 clear hv6
 apply wpQ_call (i := 10) (zA rfl) (by kernel_rfl) (by exact rfl); intro W hF hS; have hcS := hS.1.cells; go_simp; (go_at_call 39; refine (K3.out _ _ _ (hF.1.zl L1.out) (hF.2.zl L2.out)).mono ?_; rintro e w7 ⟨hb_w7, v7, rfl, hv7⟩; refine XPost.mk _ (fun W => IsC W v7 (P)) hb_w7 (hv7) (IsC.cl _ _) ?_); clear hb_w7 hcS hS hF
 intro K hK; go_simp; (try go_bits); refine hK _ ?_; clear hK K
 obtain ⟨s7, A7, n7, c7, rfl⟩ := IsC.val hv7
 clear hv7
 apply wpQ_call (i := 15) (zA rfl) (by kernel_rfl) (by exact rfl); intro W hF hS; have hcS := hS.1.cells; go_simp; (go_at_call 40; refine (K4.out _ _ _ ((RAt.py (H0.out.below hS.1.2)).zl LY.out) ((RAt.pd (H1.out.below hS.1.2)).zl LD2.out)).mono ?_; rintro e w8 ⟨hb_w8, v8, rfl, hv8⟩; refine XPost.mk _ (fun W => IsC W v8 (Q1)) hb_w8 (hv8) (IsC.cl _ _) ?_); clear hb_w8 hcS hS hF
 intro K hK; go_simp; (try go_bits); refine hK _ ?_; clear hK K
 obtain ⟨s8, A8, n8, c8, rfl⟩ := IsC.val hv8
 clear hv8
 apply wpQ_call (i := 20) (zA rfl) (by kernel_rfl) (by exact rfl); intro W hF hS; have hcS := hS.1.cells; go_simp; (go_at_call 40; refine (K5.out _ _ _ ((RAt.py (H1.out.below hS.1.2)).zl LY2.out) ((RAt.pd (H0.out.below hS.1.2)).zl LD.out)).mono ?_; rintro e w9 ⟨hb_w9, v9, rfl, hv9⟩; refine XPost.mk _ (fun W => IsC W v9 (Q2)) hb_w9 (hv9) (IsC.cl _ _) ?_); clear hb_w9 hcS hS hF
 intro K hK; go_simp; (try go_bits); refine hK _ ?_; clear hK K
 obtain ⟨s9, A9, n9, c9, rfl⟩ := IsC.val hv9
 clear hv9
 apply wpQ_call (i := 21) (zA rfl) (by kernel_rfl) (by exact rfl); intro W hF hS; have hcS := hS.1.cells; go_simp; (go_at_call 39; refine (K6.out _ _ _ (hF.1.2.zl L4.out) (hF.2.zl L5.out)).mono ?_; rintro e w10 ⟨hb_w10, v10, rfl, hv10⟩; refine XPost.mk _ (fun W => IsC W v10 (Q)) hb_w10 (hv10) (IsC.cl _ _) ?_); clear hb_w10 hcS hS hF
 intro K hK; go_simp; (try go_bits); refine hK _ ?_; clear hK K
 obtain ⟨s10, A10, n10, c10, rfl⟩ := IsC.val hv10
 clear hv10
 apply wpQ_call (i := 26) (zA rfl) (by kernel_rfl) (by exact rfl); intro W hF hS; have hcS := hS.1.cells; go_simp; (go_at_call 40; refine (K7.out _ _ _ ((RAt.pd (H0.out.below hS.1.2)).zl LD.out) ((RAt.pd (H1.out.below hS.1.2)).zl LD2.out)).mono ?_; rintro e w11 ⟨hb_w11, v11, rfl, hv11⟩; refine XPost.mk _ (fun W => IsC W v11 (E)) hb_w11 (hv11) (IsC.cl _ _) ?_); clear hb_w11 hcS hS hF
 intro K hK; go_simp; (try go_bits); refine hK _ ?_; clear hK K
 obtain ⟨s11, A11, n11, c11, rfl⟩ := IsC.val hv11
 clear hv11
 refine wpQI_start [27] ?_; (iterate 1 (first | (apply wpQI_step (zA rfl) (by kernel_rfl) (by exact rfl); (focus (intro W' hS; have hcS := hS.cells; go_simp; (iterate 2 (first | done | exact rfl | exact bB _ | go_simp)))); intro K hK; go_simp; (try go_bits); refine hK _ ?_; clear hK K))); refine wpQI_nil ?_
 apply wpQ_call (i := 28) (zA rfl) (by kernel_rfl) (by exact rfl); intro W hF hS; have hcS := hS.1.cells; go_simp; (go_at_call 38; refine (K8.out _ _ (⟨_, _, _, _, _, _, _, _, _, _, _, _, rfl, hF.1.1.1.1.2, hF.1.2, hF.2⟩)).mono ?_; rintro e w12 ⟨hb_w12, v12, rfl, hv12⟩; refine XPost.mk _ (fun W => RAt W v12 (R1) (R2) (R3)) hb_w12 (hv12) (RAt.cl _ _ _ _) ?_); clear hb_w12 hcS hS hF
 intro K hK; go_simp; (try go_bits); refine hK _ ?_; clear hK K
 obtain ⟨s12x, A12x, n12x, c12x, s12y, A12y, n12y, c12y, s12d, A12d, n12d, c12d, rfl⟩ := RAt.val hv12
 clear hv12
 refine wpQ_done (by kernel_rfl) ?_
 intro w13 hF_w13 hSG
 have hz_w13 := hSG.1.1
 have hb_w13 := hSG.1.2
 clear hSG
 (with_reducible apply cel6 (b := w.heap.size) hb_w13); ((try simp) <;> omega); omega; (iterate 6 (focus (go_simp; try exact rfl))); (intro o; go_simp); intro aY bL bH bQ bI bK bY bN; (with_reducible apply cel6 (b := w.heap.size + 1) hb_w13); ((try simp) <;> omega); omega; (iterate 6 (focus (go_simp; try exact rfl))); (intro o; go_simp); intro bW bU bZ dA bV bX bE bP; (with_reducible apply cel6 (b := w.heap.size + 1 + 1) hb_w13); ((try simp) <;> omega); omega; (iterate 6 (focus (go_simp; try exact rfl))); (intro o; go_simp); intro bG bM bJ bF bC dB aZ dC
 (try simp only [List.filterMap_cons, List.filterMap_nil, List.getElem?_cons_succ, List.getElem?_cons_zero])
 clear H0
 clear H1
 have H5 := hQ0 (show IsC w13 (.agg #[.bool s5, .slice A5 n5 c5]) (P1) from hF_w13.1.1.1.1.1.1.1)
 have H6 := hQ0 (show IsC w13 (.agg #[.bool s6, .slice A6 n6 c6]) (P2) from hF_w13.1.1.1.1.1.1.2)
 have H7 := hQ0 (show IsC w13 (.agg #[.bool s7, .slice A7 n7 c7]) (P) from hF_w13.1.1.1.1.1.2)
 have H8 := hQ0 (show IsC w13 (.agg #[.bool s8, .slice A8 n8 c8]) (Q1) from hF_w13.1.1.1.1.2)
 have H9 := hQ0 (show IsC w13 (.agg #[.bool s9, .slice A9 n9 c9]) (Q2) from hF_w13.1.1.1.2)
 have H10 := hQ0 (show IsC w13 (.agg #[.bool s10, .slice A10 n10 c10]) (Q) from hF_w13.1.1.2)
 have H11 := hQ0 (show IsC w13 (.agg #[.bool s11, .slice A11 n11 c11]) (E) from hF_w13.1.2)
 have H12 := hQ0 (show RAt w13 (.agg #[.bool s12x, .slice A12x n12x c12x, .bool s12y, .slice A12y n12y c12y, .bool s12d, .slice A12d n12d c12d]) (R1) (R2) (R3) from hF_w13.2)
 have HB13 := hQ0 (HB4.out.trans (hb_w13.mono (by have := HB4.out.size; omega)))
 have hz13 : w.heap.size + 1 + 1 + 1 ≤ w13.heap.size := by omega
 clear hF_w13 hb_w13
 clear aO aF aC aB aS aV aW aX aJ aM aE aK aQ aL aT aR aN aG aP aD aH aU aI aA
 go_wp2_with fail
 refine HQ_.out _ _ _ ?_
 clear HQ_ Q_
 go_wp2_with fail
 refine bodyPost_ret (v := .agg #[.bool s12x, .slice A12x n12x c12x, .bool s12y, .slice A12y n12y c12y, .bool s12d, .slice A12d n12d c12d]) (by simp only [results, Tryz.results14]; go_simp) rfl ⟨?_, ?_⟩
 · have hB := HB13.out; ((with_reducible (repeat (first | exact bR _ _ | apply bS | apply bA | apply bD | refine bT ?_ (by assumption) ?_ | refine bO (by assumption) ?_ ?_))) <;> (first | omega | (simp <;> omega)))
 · exact ⟨_, rfl, (by ((with_reducible (repeat (first | exact H12.out | refine RAt.al ?_ _ | apply RAt.st1))) <;> (first | (with_reducible assumption) | (intro _ e; cases e; done) | (go_simp; first | done | exact rfl))))⟩
set_option maxRecDepth 100000 in
set_option maxHeartbeats 2000000 in
theorem wint_any (z : Int) (v : Value) (w : World) (h : IsC w v z) (h1 : -2147483648 < z) (h2 : z < 2147483648) :
    Calls Tryz.prog 62 #[v] w fun e w' => e = .returned (.int .i64 z) ∧ Below w.heap.size w w' := by
  have hlen : (canN z.natAbs).length ≤ 1 := canN_len.2 (by have : PB 1 = 4294967296 := by decide
                                                           omega)
  have hz := h.zl hlen
  have H := hQ0 hz
  obtain ⟨p, A, c, l, rfl⟩ := isZ_val hz
  have hm := fun w' (h' : Below w.heap.size w w') => wlimbs_any 1 _ z w' (H.out.below h') (by omega)
  have hsv : z = if z < 0 then -(mv (canN z.natAbs)) else mv (canN z.natAbs) := by rw [mv_canN]; split <;> omega
  have hL := canN_lim z.natAbs
  have hmv := mv_canN z.natAbs
  obtain ⟨l, hl⟩ : ∃ l, l = canN z.natAbs := ⟨_, rfl⟩
  unfold LimOut at hm
  rw [← hl] at hm hsv hL hmv hlen
  have hx : ∀ x : Int, l[0]? = some x → x = (z.natAbs : Int) := fun x hx => by
    rcases l with _ | ⟨a, _ | ⟨b, l⟩⟩
    · simp at hx
    · simp only [List.getElem?_cons_zero, Option.some.injEq] at hx
      subst hx
      simp only [mv] at hmv
      omega
    · simp at hlen
  have h0 : l.length = 0 → mv l = 0 := fun h => by rw [List.length_eq_zero_iff.1 h]; rfl
  have h3 : l.length = 1 → mv l = (z.natAbs : Int) := fun _ => hmv
  have HM := hQ0 hm
  have HSV := hQ0 hsv
  have HX := hQ0 hx
  have H0 := hQ0 h0
  have H3 := hQ0 h3
  clear h hz hm hsv hL hmv hl hx h0 h3 H
  by_cases hneg : z < 0
  all_goals
    have hb : decide (z < 0) = decide (z < 0) := rfl
    go_enter Tryz.func62, Tryz.ntmps62; (try simp only [List.append_eq, List.cons_append, List.nil_append])
    go_wp2_with fail
    (go_at_call 89; refine (HM.out _ ((Below.refl _ _).alloc (Nat.le_refl _) _)).mono ?_; rintro e w1 ⟨hb_w1, A1, c1, rfl, hc1, hA1⟩; have hz_w1 := hb_w1.size; (try simp at hz_w1); (with_reducible apply cal2 (b := w.heap.size) hb_w1); (focus (go_simp; try exact ⟨rfl, rfl⟩)); intro cc cc fz hl)
    have HA := hQ0 hA1
    have HB1 := hQ0 (show Below w.heap.size w w1 by ((with_reducible (repeat (first | exact bR _ _ | apply bS | apply bA | apply bD | refine bT ?_ (by assumption) ?_ | refine bO (by assumption) ?_ ?_))) <;> (first | omega | (simp <;> omega))))
    clear hc1 hA1 hb hb_w1
    go_wp2_with fail
    go_loop [5, 6, 7, 15] (fun vn _ _ vi => ∃ (k : Nat) (n : Int), k ≤ l.length ∧ vi = .int .i64 k ∧ vn = .int .i64 n ∧ Hid (n = mv (l.take k))) (fun _ _ _ vi => l.length - (intOf vi).toNat)
    case atStart => exact ⟨0, 0, by omega, rfl, rfl, hQ0 (by simp [mv])⟩
    case round =>
      obtain ⟨k, n, hk, rfl, rfl, HN⟩ := hrel
      have i1 : (0 : Int) ≤ (k : Int) := by omega
      by_cases hkl : k < l.length
      · obtain rfl : k = 0 := by omega
        obtain ⟨x, hx⟩ : ∃ x, l[0]? = some x := ⟨l[0], by simp⟩
        obtain ⟨g, o, rfl, hg, hcell⟩ := HA.out 0 x hx
        have hxz := HX.out x hx
        have hn : n = 0 := HN.out
        subst hn
        have x0 : 0 ≤ x := by omega
        have x1 : x < 9223372036854775808 := by omega
        have HST := hQ0 (show x = mv (l.take (0 + 1)) by rw [mv_take_succ hx]; simp [mv, PB])
        have j1 : (0 : Int) < (l.length : Int) := by omega
        have hor : bits .or .i64 0 x = x := by
          have := bits_join_low .i64 63 (by decide) wraps_i64' 0 0 x (by omega) (by simp) (by omega) x0 (by simp [Int.emod_one]) (by omega)
          rwa [Int.zero_add] at this
        simp only [Nat.add_zero] at hcell
        clear hx hxz
        go_wp2_with fail
        go_round
        case rel => exact ⟨1, x, by omega, by go_num, rfl, HST⟩
        case measure => simp [intOf]; omega
      · obtain rfl : k = l.length := by omega
        have hf : n = mv l := by rw [HN.out, List.take_length]
        have hsz := HSV.out
        have hn0 : n = if z < 0 then -z else z := by split <;> rename_i g <;> (first | rw [if_pos g] at hsz | rw [if_neg g] at hsz) <;> omega
        have j5 : ¬ (l.length : Int) < (l.length : Int) := by omega
        first
          | (rw [if_pos (show z < 0 by omega)] at hn0; subst hn0; clear hf hsz
             have e1 : - -z = z := Int.neg_neg z
             go_wp2_with fail
             go_ret
             exact ⟨rfl, HB1.out⟩)
          | (rw [if_neg (show ¬ z < 0 by omega)] at hn0; subst hn0; clear hf hsz
             go_wp2_with fail
             go_ret
             exact ⟨rfl, HB1.out⟩)
def bitN (n : Nat) : Nat := if n = 0 then 0 else Nat.log2 n + 1
theorem bitN_of {n k : Nat} (h1 : 2 ^ k ≤ n) (h2 : n < 2 ^ (k + 1)) : bitN n = k + 1 := by
 have h0 : n ≠ 0 := by have := Nat.two_pow_pos k; omega
 unfold bitN
 rw [if_neg h0]
 have a := (Nat.le_log2 h0).2 h1
 have b := (Nat.log2_lt h0).2 h2
 omega
theorem bitN_limbs {x m : Nat} {t : Int} (hl : (canN x).length = m + 1) (ht : (canN x)[m]? = some t) : bitN x = 32 * m + Lib.bitLen t.toNat := by
 obtain ⟨t0, t1⟩ := (canN_lim x).get ht
 have tne : t ≠ 0 := canN_last x t (by rw [List.getLast?_eq_getElem?, hl]; exact ht)
 obtain ⟨T, rfl⟩ := Int.eq_ofNat_of_zero_le t0
 rw [Int.toNat_natCast]
 obtain ⟨a, b, c⟩ := Lib.bitLenAux_bounds 64 T (by omega) (by omega)
 have hL : Lib.bitLen T = Lib.bitLenAux 64 T := rfl
 rw [← hL] at a b c
 obtain ⟨L, hLL⟩ : ∃ L, L = Lib.bitLen T := ⟨_, rfl⟩
 rw [← hLL] at a b c ⊢
 have h1 := mv_split (canN x) m (by omega)
 have h2 := mv_drop_succ ht
 rw [List.drop_of_length_le (show (canN x).length ≤ m + 1 by omega), show mv ([] : List Int) = 0 from rfl, Int.mul_zero, Int.add_zero] at h2
 rw [mv_canN, h2] at h1
 have h3 := mv_lt ((canN_lim x).take m)
 rw [List.length_take, Nat.min_eq_left (by omega)] at h3
 have h4 := mv_nonneg ((canN_lim x).take m)
 have e : PB m = ((2 ^ (32 * m) : Nat) : Int) := by rw [Int.natCast_pow]; unfold PB; rw [show (4294967296 : Int) = 2 ^ 32 from rfl, ← Int.pow_mul]; rfl
 rw [e] at h1 h3
 obtain ⟨P, hP⟩ : ∃ P : Nat, P = 2 ^ (32 * m) := ⟨_, rfl⟩
 rw [← hP] at h1 h3
 obtain ⟨lo, hlo⟩ := Int.eq_ofNat_of_zero_le h4
 rw [hlo] at h1 h3
 have hx : x = lo + P * T := by exact_mod_cast h1
 have hlP : lo < P := by exact_mod_cast h3
 have e2 : bitN x = (32 * m + (L - 1)) + 1 := by
  apply bitN_of
  · rw [Nat.pow_add, ← hP, hx]
    have := Nat.mul_le_mul_left P b
    omega
  · rw [show 32 * m + (L - 1) + 1 = 32 * m + L by omega, Nat.pow_add, ← hP, hx]
    have h5 := Nat.mul_le_mul_left P (show T + 1 ≤ 2 ^ L by omega)
    rw [Nat.mul_add] at h5
    omega
 omega
set_option maxHeartbeats 2000000 in
theorem wbits_any (n : Nat) (v : Value) (z : Int) (w : World) (h : IsZ w v n z) (hn : n ≤ 400000) :
  Calls Tryz.prog 61 #[v] w fun e w' => e = .returned (.int .i64 (bitN z.natAbs)) ∧ Below w.heap.size w w' := by
 have H := hQ0 h
 have la := isZ_len h
 obtain ⟨p, A, c, l, rfl⟩ := isZ_val h
 have hm := fun w' (h' : Below w.heap.size w w') => wlimbs_any n _ z w' (H.out.below h') (by omega)
 obtain ⟨x, hx⟩ : ∃ x, x = z.natAbs := ⟨_, rfl⟩
 unfold LimOut at hm
 rw [← hx] at hm la ⊢
 by_cases h0 : x = 0
 · have hl0 : canN x = [] := by rw [h0]; exact canN_zero
   have hb : bitN x = 0 := by rw [h0]; rfl
   rw [hb]
   rw [hl0] at hm
   have HM := hQ0 hm
   clear h hm hx h0 hl0 hb
   go_enter Tryz.func61, Tryz.ntmps61; (try simp only [List.append_eq, List.cons_append, List.nil_append])
   go_wp2_with fail
   (go_at_call 89; refine (HM.out _ ((Below.refl _ _).alloc (Nat.le_refl _) _)).mono ?_; rintro e w1 ⟨hb_w1, A1, c1, rfl, hc1, hA1⟩; have hz_w1 := hb_w1.size; (try simp at hz_w1); (with_reducible apply cal2 (b := w.heap.size) hb_w1); (focus (go_simp; try exact ⟨rfl, rfl⟩)); intro cc cc fz hl)
   clear hc1 hA1
   simp only [List.length_nil]
   go_wp2_with fail
   go_ret
   exact ⟨rfl, by ((with_reducible (repeat (first | exact bR _ _ | apply bS | apply bA | apply bD | refine bT ?_ (by assumption) ?_ | refine bO (by assumption) ?_ ?_))) <;> (first | omega | (simp <;> omega)))⟩
 · obtain ⟨m, hml⟩ : ∃ m, (canN x).length = m + 1 := ⟨(canN x).length - 1, by have : (canN x).length ≠ 0 := fun e => h0 (canN_len0.1 e); omega⟩
   obtain ⟨t, ht⟩ : ∃ t, (canN x)[m]? = some t := ⟨(canN x)[m]'(by omega), by simp⟩
   obtain ⟨t0, t1⟩ := (canN_lim x).get ht
   have hb := bitN_limbs hml ht
   obtain ⟨B, hB⟩ : ∃ B, B = Lib.bitLen t.toNat := ⟨_, rfl⟩
   have hbl := fun w => Tryz.bits_Len32 t w t0 (by omega)
   rw [← hB] at hbl hb
   rw [hb]
   rw [hml] at hm la
   have hB32 : B ≤ 64 := by rw [hB]; exact Lib.bitLen_le _ _ (Nat.le_refl _) (by omega)
   have HM := hQ0 hm
   have HBL := hQ0 hbl
   have HT := hQ0 ht
   clear h hm hx h0 hml hb hB hbl ht
   have e0 : ((((m + 1 : Nat) : Int)) == 0) = false := by rw [beq_eq_false_iff_ne]; omega
   have m0 : (0 : Int) ≤ (m : Int) := by omega
   have m1 : (m : Int) ≤ 400000 := by omega
   go_enter Tryz.func61, Tryz.ntmps61; (try simp only [List.append_eq, List.cons_append, List.nil_append])
   go_wp2_with fail
   (go_at_call 89; refine (HM.out _ ((Below.refl _ _).alloc (Nat.le_refl _) _)).mono ?_; rintro e w1 ⟨hb_w1, A1, c1, rfl, hc1, hA1⟩; have hz_w1 := hb_w1.size; (try simp at hz_w1); (with_reducible apply cal2 (b := w.heap.size) hb_w1); (focus (go_simp; try exact ⟨rfl, rfl⟩)); intro cc cc fz hl)
   obtain ⟨g, o, rfl, hg, hcell⟩ := hA1 m t HT.out
   clear hc1 hA1
   go_wp2_with fail
   (go_at_call 96; refine (HBL.out _).mono ?_; rintro e w3 ⟨rfl, rfl⟩)
   go_wp2_with fail
   go_ret
   exact ⟨by first | rfl | (congr 2; omega) | (simp; done), by ((with_reducible (repeat (first | exact bR _ _ | apply bS | apply bA | apply bD | refine bT ?_ (by assumption) ?_ | refine bO (by assumption) ?_ ?_))) <;> (first | omega | (simp <;> omega)))⟩
set_option maxHeartbeats 2000000 in
theorem rwithin_wide (n : Int) (l : List V2) (A : Option Addr) (c : Nat) (w : World) (hl : l.length ≤ 1000000) (hV : VAt w A l) (n0 : 0 ≤ n) (n1 : n ≤ 2000000000) :
  Calls Tryz.prog 63 #[.int .i64 n, .slice A l.length c] w fun e w' => e = .returned (.bool (l.all (nearB n))) ∧ Below w.heap.size w w' := by
 have HV := hQ0 hV
 obtain ⟨R, hR⟩ : ∃ R, R = l.all (nearB n) := ⟨_, rfl⟩
 rw [← hR]
 have HR := hQ0 hR
 clear hV hR
 go_enter Tryz.func63, Tryz.ntmps63; (try simp only [List.append_eq, List.cons_append, List.nil_append])
 go_wp2_with fail
 go_loopw [9] (fun t wr => ∃ k : Nat, k ≤ l.length ∧ t = .int .i64 k ∧ Hid ((l.take k).all (nearB n) = true) ∧ Below w.heap.size w wr) (fun t _ => l.length - (intOf t).toNat)
 case atStart => exact ⟨0, by omega, rfl, hQ0 rfl, Below.refl _ _⟩
 case round =>
  obtain ⟨k, hk, rfl, HA, hb_wr⟩ := hrel
  have hz_wr := hb_wr.size
  have HB := hQ0 hb_wr
  have i1 : (0 : Int) ≤ (k : Int) := by omega
  by_cases hlt : k < l.length
  · obtain ⟨⟨a, b⟩, hx⟩ : ∃ x, l[k]? = some x := ⟨l[k], by simp⟩
    obtain ⟨g, o, rfl, hg, a0, a1⟩ := (HV.out.below HB.out (Nat.le_refl _)) k _ hx
    have hall := all_take_succ (p := nearB n) hx
    have HX := hQ0 hx
    have HN := hQ0 hall
    have i2 : (k : Int) < (l.length : Int) := by omega
    simp only at a0 a1
    clear hb_wr hx hall
    by_cases hin : -n ≤ a ∧ a ≤ n ∧ -n ≤ b ∧ b ≤ n
    · obtain ⟨j1, j2, j3, j4⟩ := hin
      have HN2 := hQ0 (show (l.take (k + 1)).all (nearB n) = true by rw [HN.out, HA.out]; simp [nearB, withinB]; omega)
      go_wp2_with fail
      go_roundw
      case rel => exact ⟨k + 1, by omega, by go_num, HN2, HB.out.trans (show Below w.heap.size wr _ by ((with_reducible (repeat (first | exact bR _ _ | apply bS | apply bA | apply bD | refine bT ?_ (by assumption) ?_ | refine bO (by assumption) ?_ ?_))) <;> (first | omega | (simp <;> omega))))⟩
      case measure => simp [intOf]; omega
    · have hfin : R = false := by
       rw [HR.out, List.all_eq_false]
       exact ⟨(a, b), List.mem_of_getElem? HX.out, by simp only [nearB, withinB, decide_eq_true_eq]; exact hin⟩
      subst hfin
      have h4 : a < -n ∨ (-n ≤ a ∧ n < a) ∨ (-n ≤ a ∧ a ≤ n ∧ b < -n) ∨ (-n ≤ a ∧ a ≤ n ∧ -n ≤ b ∧ n < b) := by omega
      clear hin
      rcases h4 with h4 | ⟨h4, h5⟩ | ⟨h4, h5, h6⟩ | ⟨h4, h5, h6, h7⟩
      all_goals
       go_wp2_with fail
       go_ret
       exact ⟨rfl, HB.out.trans (show Below w.heap.size wr _ by ((with_reducible (repeat (first | exact bR _ _ | apply bS | apply bA | apply bD | refine bT ?_ (by assumption) ?_ | refine bO (by assumption) ?_ ?_))) <;> (first | omega | (simp <;> omega))))⟩
  · obtain rfl : k = l.length := by omega
    have hfin : R = true := by rw [HR.out]; have := HA.out; rwa [List.take_length] at this
    subst hfin
    clear hb_wr
    go_wp2_with fail
    go_ret
    exact ⟨rfl, HB.out⟩
theorem rwithin_one2 (n a b : Int) (g : Nat) (w : World) (n0 : 0 ≤ n) (n1 : n ≤ 2000000000) (hg : g < w.heap.size) (h0 : w.cell? ⟨g, 0, none⟩ = some (.int .i64 a)) (h1 : w.cell? ⟨g, 1, none⟩ = some (.int .i64 b)) :
  Calls Tryz.prog 63 #[.int .i64 n, .slice (some ⟨g, 0, none⟩) 1 1] w fun e w' => e = .returned (.bool (withinB a b n)) ∧ Below w.heap.size w w' := by
 have := rwithin_wide n [(a, b)] (some ⟨g, 0, none⟩) 1 w (by simp) (fun k x hx => by
  rcases k with _ | k
  · simp only [List.getElem?_cons_zero, Option.some.injEq] at hx
    subst hx
    exact ⟨g, 0, rfl, hg, by simpa using h0, by simpa using h1⟩
  · simp at hx) n0 n1
 simpa [nearB] using this
theorem bitN_le {n k : Nat} (h : n < 2 ^ k) : bitN n ≤ k := by
 unfold bitN
 split
 · omega
 · rename_i h0
   have := (Nat.log2_lt h0).2 h
   omega
structure Val (r : Int × Int × Int) : Prop where
  d : 0 < r.2.2
  lx : (canN r.1.natAbs).length ≤ 32
  ly : (canN r.2.1.natAbs).length ≤ 32
  ld : (canN r.2.2.natAbs).length ≤ 32
def RsAt (w : World) (A : Option Addr) (l : List (Int × Int × Int)) : Prop := ∀ k r, l[k]? = some r → ∃ g o, A = some ⟨g, o, none⟩ ∧ g < w.heap.size ∧ ∃ s1 A1 n1 c1 s2 A2 n2 c2 s3 A3 n3 c3,
  w.cell? ⟨g, o + k * 6, none⟩ = some (.bool s1) ∧ w.cell? ⟨g, o + k * 6 + 1, none⟩ = some (.slice A1 n1 c1) ∧ w.cell? ⟨g, o + k * 6 + 2, none⟩ = some (.bool s2) ∧ w.cell? ⟨g, o + k * 6 + 3, none⟩ = some (.slice A2 n2 c2) ∧ w.cell? ⟨g, o + k * 6 + 4, none⟩ = some (.bool s3) ∧ w.cell? ⟨g, o + k * 6 + 5, none⟩ = some (.slice A3 n3 c3) ∧
  RAt w (.agg #[.bool s1, .slice A1 n1 c1, .bool s2, .slice A2 n2 c2, .bool s3, .slice A3 n3 c3]) r.1 r.2.1 r.2.2
theorem RsAt.below {w w1 : World} {A : Option Addr} {l : List (Int × Int × Int)} (h : RsAt w A l) (hb : Below w.heap.size w w1) : RsAt w1 A l := by
 intro k r hr
 obtain ⟨g, o, h1, h2, s1, A1, n1, c1, s2, A2, n2, c2, s3, A3, n3, c3, e0, e1, e2, e3, e4, e5, hR⟩ := h k r hr
 refine ⟨g, o, h1, Nat.lt_of_lt_of_le h2 hb.size, s1, A1, n1, c1, s2, A2, n2, c2, s3, A3, n3, c3, ?_, ?_, ?_, ?_, ?_, ?_, hR.below hb⟩ <;> (rw [hb.cell h2]; assumption)
theorem lowR_bd {x y d : Int} {n : Nat} (hd : 0 < d) (lx : (canN x.natAbs).length ≤ n) (ly : (canN y.natAbs).length ≤ n) (ld : (canN d.natAbs).length ≤ n) :
  0 < (lowR x y d).2.2 ∧ (canN (lowR x y d).1.natAbs).length ≤ n ∧ (canN (lowR x y d).2.1.natAbs).length ≤ n ∧ (canN (lowR x y d).2.2.natAbs).length ≤ n := by
 have key : ∀ z g : Int, (canN z.natAbs).length ≤ n → (canN (z.tdiv g).natAbs).length ≤ n := fun z g h => Nat.le_trans (canN_mono (Int.natAbs_tdiv_le_natAbs z g)) h
 refine ⟨?_, key _ _ lx, key _ _ ly, key _ _ ld⟩
 unfold lowR lowG
 simp only
 have h1 : (Nat.gcd (Nat.gcd x.natAbs y.natAbs) d.natAbs : Int) ∣ d := by
  have : (Nat.gcd (Nat.gcd x.natAbs y.natAbs) d.natAbs) ∣ d.natAbs := Nat.gcd_dvd_right _ _
  exact Int.ofNat_dvd_left.2 this
 have h2 : 0 < (Nat.gcd (Nat.gcd x.natAbs y.natAbs) d.natAbs : Int) := by
  have : 0 < Nat.gcd (Nat.gcd x.natAbs y.natAbs) d.natAbs := Nat.gcd_pos_of_pos_right _ (by omega)
  omega
 rw [Int.tdiv_eq_ediv_of_nonneg (by omega)]
 exact Int.ediv_pos_of_pos_of_dvd hd (by omega) h1
def meanS (l : List (Int × Int × Int)) : Int × Int × Int := l.foldl sumR (0, 0, 1)
def meanR (l : List (Int × Int × Int)) : Int × Int := ((meanS l).1.tdiv ((meanS l).2.2 * l.length), (meanS l).2.1.tdiv ((meanS l).2.2 * l.length))
theorem meanS_take {l : List (Int × Int × Int)} {k : Nat} {r : Int × Int × Int} (h : l[k]? = some r) : meanS (l.take (k + 1)) = sumR (meanS (l.take k)) r := by
 unfold meanS
 rw [List.take_add_one, h, List.foldl_append]
 rfl
structure SumOk (k : Nat) (s : Int × Int × Int) : Prop where
  d : 0 < s.2.2
  lx : (canN s.1.natAbs).length ≤ 33 * k + 1
  ly : (canN s.2.1.natAbs).length ≤ 33 * k + 1
  ld : (canN s.2.2.natAbs).length ≤ 33 * k + 1
theorem SumOk.zero : SumOk 0 (0, 0, 1) := ⟨by decide, by rw [show ((0, 0, 1) : Int × Int × Int).1.natAbs = 0 from rfl, canN_zero]; decide, by rw [show ((0, 0, 1) : Int × Int × Int).2.1.natAbs = 0 from rfl, canN_zero]; decide, canN_len.2 (by decide)⟩
theorem SumOk.step {k : Nat} {s r : Int × Int × Int} (h : SumOk k s) (hr : Val r) : SumOk (k + 1) (sumR s r) := by
 obtain ⟨d, lx, ly, ld⟩ := h
 obtain ⟨d2, lx2, ly2, ld2⟩ := hr
 have a := len_add (a := 33 * k + 1 + 32) (len_mul lx ld2) (len_up (len_mul lx2 ld) (by omega))
 have b := len_add (a := 33 * k + 1 + 32) (len_mul ly ld2) (len_up (len_mul ly2 ld) (by omega))
 have c := len_mul ld ld2
 obtain ⟨h1, h2, h3, h4⟩ := lowR_bd (n := 33 * (k + 1) + 1) (Int.mul_pos d d2) (len_up a (by omega)) (len_up b (by omega)) (len_up c (by omega))
 exact ⟨h1, h2, h3, h4⟩
set_option maxRecDepth 100000 in
set_option maxHeartbeats 20000000 in
theorem valid_yes (x y d : Int) (v : Value) (w : World) (hu : RAt w v x y d) (hv : Val (x, y, d)) :
  Calls Tryz.prog 58 #[v] w fun e w' => e = .returned (.bool true) ∧ Below w.heap.size w w' := by
 have h0 := hu
 obtain ⟨spx, Apx, npx, cpx, spy, Apy, npy, cpy, spd, Apd, npd, cpd, rfl⟩ := hu.val
 obtain ⟨hd, lx, ly, ld⟩ := hv
 simp only at hd lx ly ld
 have hs : sgn d = 1 := by unfold sgn; rw [if_neg (by omega), if_neg (by omega)]
 have k1 := fun v w h => wsign_any 32 v d w h (by omega)
 rw [hs] at k1
 obtain ⟨p, hp⟩ : ∃ p : Int, p = ((canN x.natAbs).length : Int) := ⟨_, rfl⟩
 obtain ⟨q, hq⟩ : ∃ q : Int, q = ((canN y.natAbs).length : Int) := ⟨_, rfl⟩
 obtain ⟨r, hr⟩ : ∃ r : Int, r = ((canN d.natAbs).length : Int) := ⟨_, rfl⟩
 have k2 := fun v w h => wsize_any 32 v x w h (by omega)
 have k3 := fun v w h => wsize_any 32 v y w h (by omega)
 have k4 := fun v w h => wsize_any 32 v d w h (by omega)
 rw [← hp] at k2
 rw [← hq] at k3
 rw [← hr] at k4
 have p1 : 0 ≤ p := by omega
 have p2 : p ≤ 32 := by omega
 have q1 : 0 ≤ q := by omega
 have q2 : q ≤ 32 := by omega
 have r1 : 0 ≤ r := by omega
 have r2 : r ≤ 32 := by omega
 have K1 := hQ0 k1
 have K2 := hQ0 k2
 have K3 := hQ0 k3
 have K4 := hQ0 k4
 have H0 := hQ0 h0
 have LX := hQ0 lx
 have LY := hQ0 ly
 have LD := hQ0 ld
 clear k1 k2 k3 k4 h0 hu lx ly ld hd hs hp hq hr
 have hcase : (p < q ∧ r ≤ q) ∨ (p < q ∧ ¬ r ≤ q) ∨ (¬ p < q ∧ r ≤ p) ∨ (¬ p < q ∧ ¬ r ≤ p) := by omega
 rcases hcase with ⟨g1, g2⟩ | ⟨g1, g2⟩ | ⟨g1, g2⟩ | ⟨g1, g2⟩
 all_goals
  go_enter Tryz.func58, Tryz.ntmps58; (try simp only [List.append_eq, List.cons_append, List.nil_append])
  go_wp2_with fail
  (refine pin_wp (N := _) (Nat.le_refl _) (fun w4 hb_w4 hz_w4 => ?_); (try simp at hz_w4); (with_reducible apply cal6 (b := w.heap.size) hb_w4); (focus (go_simp; try exact ⟨rfl, rfl, rfl, rfl, rfl, rfl⟩)); intro aA aF aC aB aH aD aE aG); refine wp_q (fun Q_ HQ_ => ?_); refine wp_region_floatQ w4.heap.size 18 [] (Nat.le_refl _) (fun _ => True) trivial Cl.tt (by kernel_rfl) (by kernel_rfl) ?_
  replace H0 := hQ0 (RAt.below (v := .agg #[.bool spx, .slice Apx npx cpx, .bool spy, .slice Apy npy cpy, .bool spd, .slice Apd npd cpd]) (x := x) (y := y) (d := d) (by ((with_reducible (repeat (first | exact H0.out | refine RAt.al ?_ _ | apply RAt.st1))) <;> (first | (with_reducible assumption) | (intro _ e; cases e; done) | (go_simp; first | done | exact rfl)))) hb_w4)
  have HB4 := hQ0 (show Below w.heap.size w w4 by ((with_reducible (repeat (first | exact bR _ _ | apply bS | apply bA | apply bD | refine bT ?_ (by assumption) ?_ | refine bO (by assumption) ?_ ?_))) <;> (first | omega | (simp <;> omega))))
  have hz4 : w.heap.size + 1 ≤ w4.heap.size := by omega
  clear hb_w4
  skip
  refine wpQI_start [0, 1] ?_; (iterate 2 (first | (refine wpQI_off (zA rfl) (by kernel_rfl) (by exact rfl) (fun K hK => ?_); go_simp; refine hK _ ?_; clear hK K) | ((first | apply wpQI_step (zA rfl) (by kernel_rfl) (by exact rfl) | apply wpQI_on (zA rfl) (by kernel_rfl) (by exact rfl)); (focus (intro W' hS; have hcS := hS.cells; go_simp; (iterate 2 (first | done | exact rfl | exact bB _ | go_simp)))); intro K hK; go_simp; (try go_bits); refine hK _ ?_; clear hK K))); refine wpQI_nil ?_
  apply wpQ_call (i := 2) (zA rfl) (by kernel_rfl) (by exact rfl); intro W hF hS; have hcS := hS.1.cells; go_simp; (go_at_call 92; refine (K1.out _ _ ((RAt.pd (H0.out.below hS.1.2)).zl LD.out)).mono ?_; rintro e w5 ⟨rfl, hb_w5⟩; refine XPost.mk _ (fun _ => True) hb_w5 (trivial) (Cl.tt) ?_); clear hb_w5 hcS hS hF
  intro K hK; go_simp; (try go_bits); refine hK _ ?_; clear hK K
  refine wpQI_start [3, 4, 5, 6] ?_; (iterate 4 (first | (refine wpQI_off (zA rfl) (by kernel_rfl) (by exact rfl) (fun K hK => ?_); go_simp; refine hK _ ?_; clear hK K) | ((first | apply wpQI_step (zA rfl) (by kernel_rfl) (by exact rfl) | apply wpQI_on (zA rfl) (by kernel_rfl) (by exact rfl)); (focus (intro W' hS; have hcS := hS.cells; go_simp; (iterate 2 (first | done | exact rfl | exact bB _ | go_simp)))); intro K hK; go_simp; (try go_bits); refine hK _ ?_; clear hK K))); refine wpQI_nil ?_
  refine wpQI_start [8, 9] ?_; (iterate 2 (first | (refine wpQI_off (zA rfl) (by kernel_rfl) (by exact rfl) (fun K hK => ?_); go_simp; refine hK _ ?_; clear hK K) | ((first | apply wpQI_step (zA rfl) (by kernel_rfl) (by exact rfl) | apply wpQI_on (zA rfl) (by kernel_rfl) (by exact rfl)); (focus (intro W' hS; have hcS := hS.cells; go_simp; (iterate 2 (first | done | exact rfl | exact bB _ | go_simp)))); intro K hK; go_simp; (try go_bits); refine hK _ ?_; clear hK K))); refine wpQI_nil ?_
  refine wpQI_start [11, 12] ?_; (iterate 2 (first | (refine wpQI_off (zA rfl) (by kernel_rfl) (by exact rfl) (fun K hK => ?_); go_simp; refine hK _ ?_; clear hK K) | ((first | apply wpQI_step (zA rfl) (by kernel_rfl) (by exact rfl) | apply wpQI_on (zA rfl) (by kernel_rfl) (by exact rfl)); (focus (intro W' hS; have hcS := hS.cells; go_simp; (iterate 2 (first | done | exact rfl | exact bB _ | go_simp)))); intro K hK; go_simp; (try go_bits); refine hK _ ?_; clear hK K))); refine wpQI_nil ?_
  apply wpQ_call (i := 7) (zA rfl) (by kernel_rfl) (by exact rfl); intro W hF hS; have hcS := hS.1.cells; go_simp; (go_at_call 93; refine (K2.out _ _ ((RAt.px (H0.out.below hS.1.2)).zl LX.out)).mono ?_; rintro e w6 ⟨rfl, hb_w6⟩; refine XPost.mk _ (fun _ => True) hb_w6 (trivial) (Cl.tt) ?_); clear hb_w6 hcS hS hF
  intro K hK; go_simp; (try go_bits); refine hK _ ?_; clear hK K
  apply wpQ_call (i := 10) (zA rfl) (by kernel_rfl) (by exact rfl); intro W hF hS; have hcS := hS.1.cells; go_simp; (go_at_call 93; refine (K3.out _ _ ((RAt.py (H0.out.below hS.1.2)).zl LY.out)).mono ?_; rintro e w7 ⟨rfl, hb_w7⟩; refine XPost.mk _ (fun _ => True) hb_w7 (trivial) (Cl.tt) ?_); clear hb_w7 hcS hS hF
  intro K hK; go_simp; (try go_bits); refine hK _ ?_; clear hK K
  apply wpQ_call (i := 13) (zA rfl) (by kernel_rfl) (by exact rfl); intro W hF hS; have hcS := hS.1.cells; go_simp; (go_at_call 93; refine (K4.out _ _ ((RAt.pd (H0.out.below hS.1.2)).zl LD.out)).mono ?_; rintro e w8 ⟨rfl, hb_w8⟩; refine XPost.mk _ (fun _ => True) hb_w8 (trivial) (Cl.tt) ?_); clear hb_w8 hcS hS hF
  intro K hK; go_simp; (try go_bits); refine hK _ ?_; clear hK K
  refine wpQI_start [14, 15, 16, 17] ?_; (iterate 4 (first | (refine wpQI_off (zA rfl) (by kernel_rfl) (by exact rfl) (fun K hK => ?_); go_simp; refine hK _ ?_; clear hK K) | ((first | apply wpQI_step (zA rfl) (by kernel_rfl) (by exact rfl) | apply wpQI_on (zA rfl) (by kernel_rfl) (by exact rfl)); (focus (intro W' hS; have hcS := hS.cells; go_simp; (iterate 2 (first | done | exact rfl | exact bB _ | go_simp)))); intro K hK; go_simp; (try go_bits); refine hK _ ?_; clear hK K))); refine wpQI_nil ?_
  refine wpQ_done (by kernel_rfl) ?_
  intro w9 hF_w9 hSG
  have hz_w9 := hSG.1.1
  have hb_w9 := hSG.1.2
  clear hSG
  (with_reducible apply cel6 (b := w.heap.size) hb_w9); ((try simp) <;> omega); omega; (iterate 6 (focus (go_simp; try exact rfl))); (intro o; go_simp); intro aI aJ aK aN aM aO aP aL
  (try simp only [List.filterMap_nil])
  clear H0
  have HB9 := hQ0 (HB4.out.trans (hb_w9.mono (by have := HB4.out.size; omega)))
  have hz9 : w.heap.size + 1 ≤ w9.heap.size := by omega
  clear hF_w9 hb_w9
  clear aA aF aC aB aH aD aE aG
  go_wp2_with fail
  refine HQ_.out _ _ _ ?_
  clear HQ_ Q_
  go_wp2_with fail
  refine bodyPost_ret (v := .bool true) (by simp only [results, Tryz.results58]; go_simp) rfl ⟨?_, ?_⟩
  · rfl
  · have hB := HB9.out; ((with_reducible (repeat (first | exact bR _ _ | apply bS | apply bA | apply bD | refine bT ?_ (by assumption) ?_ | refine bO (by assumption) ?_ ?_))) <;> (first | omega | (simp <;> omega)))
set_option maxRecDepth 100000 in
set_option maxHeartbeats 20000000 in
theorem trunc_ok (l : List (Int × Int × Int)) (A : Option Addr) (c : Nat) (w : World) (hl1 : 1 ≤ l.length) (hl : l.length ≤ 16) (hV : RsAt w A l) (hok : ∀ r ∈ l, Val r) (hm : withinB (meanR l).1 (meanR l).2 1073741824 = true) :
  Calls Tryz.prog 25 #[.slice A l.length c] w fun e w' => e = .returned (.tuple #[.agg #[.int .i64 (meanR l).1, .int .i64 (meanR l).2], .bool true]) ∧ Below w.heap.size w w' := by
 have HV := hQ0 hV
 have HO := hQ0 hok
 have ko := fun w => wof_any 1 w (by omega) (by omega)
 obtain ⟨U, hU⟩ : ∃ U : Int, U = 1 := ⟨_, rfl⟩
 have ko2 := fun w => ((by have := wof_any 1 w (by omega) (by omega); rw [hU]; exact this) : Calls Tryz.prog 57 #[.int .i64 1] w (ZOut U w))
 have KO := hQ0 ko2
 have HU := hQ0 hU
 obtain ⟨x, hm1⟩ : ∃ x, x = (meanR l).1 := ⟨_, rfl⟩
 obtain ⟨y, hm2⟩ : ∃ y, y = (meanR l).2 := ⟨_, rfl⟩
 rw [← hm1, ← hm2] at hm ⊢
 have HM := hQ0 hm
 have HM1 := hQ0 hm1
 have HM2 := hQ0 hm2
 have n1 : ((l.length : Int) == 0) = false := by rw [beq_eq_false_iff_ne]; omega
 have n2 : (l.length : Int) ≤ 16 := by omega
 clear hV hok ko ko2 hU hm hm1 hm2
 go_enter Tryz.func25, Tryz.ntmps25; (try simp only [List.append_eq, List.cons_append, List.nil_append])
 go_wp2_with fail
 (go_at_call 57; refine (KO.out _).mono ?_; rintro e w101 ⟨hb_w101, v1, rfl, hv1⟩; have hz_w101 := hb_w101.size; (try simp at hz_w101); (with_reducible apply cal2 (b := w.heap.size) hb_w101); (focus (go_simp; try exact ⟨rfl, rfl⟩)); intro fV gD jJ bZ)
 obtain ⟨s1, A1, n1', c1, rfl⟩ := IsC.val hv1
 have HI1 := hQ0 hv1
 have HB101 := hQ0 (show Below w.heap.size w w101 by ((with_reducible (repeat (first | exact bR _ _ | apply bS | apply bA | apply bD | refine bT ?_ (by assumption) ?_ | refine bO (by assumption) ?_ ?_))) <;> (first | omega | (simp <;> omega))))
 have hz101 : w.heap.size + 1 ≤ w101.heap.size := by omega
 clear hb_w101 hv1
 go_wp2_with fail
 go_loopw [6, 26] (fun _ vi wr => ∃ (k : Nat) (X Y D : Int) (sSx : Bool) (ASx : Option Addr) (nSx cSx : Nat) (sSy : Bool) (ASy : Option Addr) (nSy cSy : Nat) (sSd : Bool) (ASd : Option Addr) (nSd cSd : Nat),
   k ≤ l.length ∧ vi = .int .i64 k ∧ Below w101.heap.size w101 wr ∧ wr.cell? ⟨w101.heap.size, 0, none⟩ = some (.bool sSx) ∧ wr.cell? ⟨w101.heap.size, 1, none⟩ = some (.slice ASx nSx cSx) ∧ wr.cell? ⟨w101.heap.size, 2, none⟩ = some (.bool sSy) ∧ wr.cell? ⟨w101.heap.size, 3, none⟩ = some (.slice ASy nSy cSy) ∧ wr.cell? ⟨w101.heap.size, 4, none⟩ = some (.bool sSd) ∧ wr.cell? ⟨w101.heap.size, 5, none⟩ = some (.slice ASd nSd cSd) ∧ (∀ o, wr.frozen? ⟨w101.heap.size, o, none⟩ = false) ∧ w101.heap.size + 1 ≤ wr.heap.size ∧
   RAt wr (.agg #[.bool sSx, .slice ASx nSx cSx, .bool sSy, .slice ASy nSy cSy, .bool sSd, .slice ASd nSd cSd]) X Y D ∧ Hid ((X, Y, D) = meanS (l.take k) ∧ SumOk k (X, Y, D))) (fun _ vi _ => l.length - (intOf vi).toNat)
 case atStart =>
  have hu : U = 1 := HU.out
  refine ⟨0, 0, 0, 1, false, none, 0, 0, false, none, 0, 0, s1, A1, n1', c1, by omega, rfl, by ((with_reducible (repeat (first | exact bR _ _ | apply bS | apply bA | apply bD | refine bT ?_ (by assumption) ?_ | refine bO (by assumption) ?_ ?_))) <;> (first | omega | (simp <;> omega))), by go_simp, by go_simp, by go_simp, by go_simp, by go_simp, by go_simp, by intro o; go_simp, by (try simp) <;> omega, ?_, hQ0 ⟨rfl, SumOk.zero⟩⟩
  have h1 := HI1.out
  rw [hu] at h1
  exact ⟨_, _, _, _, _, _, _, _, _, _, _, _, rfl, isC_zero _, isC_zero _, h1.below (by ((with_reducible (repeat (first | exact bR _ _ | apply bS | apply bA | apply bD | refine bT ?_ (by assumption) ?_ | refine bO (by assumption) ?_ ?_))) <;> (first | omega | (simp <;> omega))))⟩
 case round =>
  obtain ⟨k, X, Y, D, sSx, ASx, nSx, cSx, sSy, ASy, nSy, cSy, sSd, ASd, nSd, cSd, hk, rfl, hb_wr, c0, c1_, c2, c3, c4, c5, fzS, hzS, hS, HN⟩ := hrel
  have HS := hQ0 hS
  have HBR := hQ0 hb_wr
  have hz_wr := hb_wr.size
  have hlS : w101.heap.size < wr.heap.size ∧ w101.heap.size < wr.heap.size + 1 ∧ w101.heap.size < wr.heap.size + 1 + 1 ∧ w101.heap.size < wr.heap.size + 1 + 1 + 1 := by omega
  have hzR : w.heap.size + 1 ≤ wr.heap.size := by omega
  (with_reducible apply cel2 (b := w.heap.size) hb_wr); ((try simp) <;> omega); omega; (iterate 2 (focus (go_simp; try exact rfl))); (intro o; go_simp); intro c_wr_0_0 c_wr_0_1 fz_wr_0 hl_wr_0
  clear hb_wr hS
  clear fV gD jJ bZ
  have i1 : (0 : Int) ≤ (k : Int) := by omega
  obtain ⟨hsd, hsx, hsy, hsl⟩ := HN.out.2
  simp only at hsd hsx hsy hsl
  have hk16 : 33 * k + 1 ≤ 600 := by omega
  have LX := hQ0 (len_up hsx hk16)
  have LY := hQ0 (len_up hsy hk16)
  have LD := hQ0 (len_up hsl hk16)
  by_cases hlt : k < l.length
  · obtain ⟨⟨x, y, d⟩, hx⟩ : ∃ x, l[k]? = some x := ⟨l[k], by simp⟩
    obtain ⟨g, o, rfl, hg, sEx, AEx, nEx, cEx, sEy, AEy, nEy, cEy, sEd, AEd, nEd, cEd, e0, e1, e2, e3, e4, e5, hE⟩ := (HV.out.below (HB101.out.trans (HBR.out.mono (by omega)))) k _ hx
    have hval := HO.out _ (List.mem_of_getElem? hx)
    have HX := hQ0 hx
    have hN2 : (sumR (X, Y, D) (x, y, d)) = meanS (l.take (k + 1)) ∧ SumOk (k + 1) (sumR (X, Y, D) (x, y, d)) := ⟨by rw [meanS_take hx, ← HN.out.1], HN.out.2.step hval⟩
    have HE := hQ0 hE
    simp only at hE
    have i2 : (k : Int) < (l.length : Int) := by omega
    have kv := fun v w h => valid_yes x y d v w h hval
    obtain ⟨hd, hlx, hly, hld⟩ := hval
    simp only at hd hlx hly hld
    have Lx := hQ0 (len_up hlx (show 32 ≤ 600 by omega))
    have Ly := hQ0 (len_up hly (show 32 ≤ 600 by omega))
    have Ld := hQ0 (len_up hld (show 32 ≤ 600 by omega))
    have l1 := len_mul LX.out Ld.out
    have l2 := len_mul Lx.out LD.out
    have l3 := len_add l1 l2
    have l4 := len_mul LY.out Ld.out
    have l5 := len_mul Ly.out LD.out
    have l6 := len_add l4 l5
    have l7 := len_mul LD.out Ld.out
    have hdd : D * d ≠ 0 := Int.ne_of_gt (Int.mul_pos hsd hd)
    have k1 := fun u v w h1 h2 => wmul_any 600 u v X d w h1 h2 (by omega)
    have k2 := fun u v w h1 h2 => wmul_any 600 u v x D w h1 h2 (by omega)
    have k3 := fun u v w h1 h2 => wadd_any (600 + 600) u v (X * d) (x * D) w h1 h2 (by omega)
    have k4 := fun u v w h1 h2 => wmul_any 600 u v Y d w h1 h2 (by omega)
    have k5 := fun u v w h1 h2 => wmul_any 600 u v y D w h1 h2 (by omega)
    have k6 := fun u v w h1 h2 => wadd_any (600 + 600) u v (Y * d) (y * D) w h1 h2 (by omega)
    have k7 := fun u v w h1 h2 => wmul_any 600 u v D d w h1 h2 (by omega)
    have k8 := fun v w h => lowest_any (X * d + x * D) (Y * d + y * D) (D * d) v w h hdd (by omega) (by omega) (by omega)
    unfold sumR lowR at hN2
    simp only at hN2
    generalize (X * d + x * D).tdiv (lowG (X * d + x * D) (Y * d + y * D) (D * d)) = R1 at *
    generalize (Y * d + y * D).tdiv (lowG (X * d + x * D) (Y * d + y * D) (D * d)) = R2 at *
    generalize (D * d).tdiv (lowG (X * d + x * D) (Y * d + y * D) (D * d)) = R3 at *
    generalize X * d = P1 at *
    generalize x * D = P2 at *
    generalize Y * d = Q1 at *
    generalize y * D = Q2 at *
    generalize P1 + P2 = P at *
    generalize Q1 + Q2 = Q at *
    generalize D * d = E1 at *
    have HN2 := hQ0 hN2
    have KV := hQ0 kv
    have K1 := hQ0 k1
    have K2 := hQ0 k2
    have K3 := hQ0 k3
    have K4 := hQ0 k4
    have K5 := hQ0 k5
    have K6 := hQ0 k6
    have K7 := hQ0 k7
    have K8 := hQ0 k8
    have L1 := hQ0 l1
    have L2 := hQ0 l2
    have L4 := hQ0 l4
    have L5 := hQ0 l5
    clear kv k1 k2 k3 k4 k5 k6 k7 k8 l1 l2 l3 l4 l5 l6 l7 hN2 hE hx hdd hsd hsx hsy hsl hd hlx hly hld HX
    go_wp2_with fail
    (go_at_call 58; refine (KV.out _ _ ((show RAt _ (.agg #[.bool sEx, .slice AEx nEx cEx, .bool sEy, .slice AEy nEy cEy, .bool sEd, .slice AEd nEd cEd]) (x) (y) (d) by ((with_reducible (repeat (first | exact HE.out | refine RAt.al ?_ _ | apply RAt.st1))) <;> (first | (with_reducible assumption) | (intro _ e; cases e; done) | (go_simp; first | done | exact rfl)))))).mono ?_; rintro e w201 ⟨rfl, hb_w201⟩; have hz_w201 := hb_w201.size; (try simp at hz_w201); (with_reducible apply cal2 (b := w.heap.size) hb_w201); (focus (go_simp; try exact ⟨rfl, rfl⟩)); intro aR gK bY gF; (with_reducible apply cal6 (b := w101.heap.size) hb_w201); (focus (go_simp; try exact ⟨rfl, rfl, rfl, rfl, rfl, rfl⟩)); intro dH iQ iG dQ eW aW bV aJ; (with_reducible apply cal6 (b := wr.heap.size) hb_w201); (focus (go_simp; try exact ⟨rfl, rfl, rfl, rfl, rfl, rfl⟩)); intro dE gM iN dO aG fD gT eA)
    replace HS := hQ0 (RAt.below (v := .agg #[.bool sSx, .slice ASx nSx cSx, .bool sSy, .slice ASy nSy cSy, .bool sSd, .slice ASd nSd cSd]) (x := X) (y := Y) (d := D) (by ((with_reducible (repeat (first | exact HS.out | refine RAt.al ?_ _ | apply RAt.st1))) <;> (first | (with_reducible assumption) | (intro _ e; cases e; done) | (go_simp; first | done | exact rfl)))) hb_w201)
    replace HE := hQ0 (RAt.below (v := .agg #[.bool sEx, .slice AEx nEx cEx, .bool sEy, .slice AEy nEy cEy, .bool sEd, .slice AEd nEd cEd]) (x := x) (y := y) (d := d) (by ((with_reducible (repeat (first | exact HE.out | refine RAt.al ?_ _ | apply RAt.st1))) <;> (first | (with_reducible assumption) | (intro _ e; cases e; done) | (go_simp; first | done | exact rfl)))) hb_w201)
    have HB201 := hQ0 (show Below w101.heap.size w101 w201 by have hB := HBR.out; ((with_reducible (repeat (first | exact bR _ _ | apply bS | apply bA | apply bD | refine bT ?_ (by assumption) ?_ | refine bO (by assumption) ?_ ?_))) <;> (first | omega | (simp <;> omega))))
    have hz201 : w.heap.size + 1 ≤ w201.heap.size := by omega
    clear hb_w201
    skip
    go_wp2_with fail
    (refine pin_wp (N := _) (Nat.le_refl _) (fun w202 hb_w202 hz_w202 => ?_); (try simp at hz_w202); (with_reducible apply cal2 (b := w.heap.size) hb_w202); (focus (go_simp; try exact ⟨rfl, rfl⟩)); intro iU eB iA dN; (with_reducible apply cal6 (b := w101.heap.size) hb_w202); (focus (go_simp; try exact ⟨rfl, rfl, rfl, rfl, rfl, rfl⟩)); intro aH bI eZ jK aO iR iW fE; (with_reducible apply cal6 (b := wr.heap.size) hb_w202); (focus (go_simp; try exact ⟨rfl, rfl, rfl, rfl, rfl, rfl⟩)); intro aN bW fO gU gS dS eI fK); refine wp_q (fun Q_ HQ_ => ?_); refine wp_region_floatQ w202.heap.size 29 [29] (Nat.le_refl _) (fun _ => True) trivial Cl.tt (by kernel_rfl) (by kernel_rfl) ?_
    replace HS := hQ0 (RAt.below (v := .agg #[.bool sSx, .slice ASx nSx cSx, .bool sSy, .slice ASy nSy cSy, .bool sSd, .slice ASd nSd cSd]) (x := X) (y := Y) (d := D) (by ((with_reducible (repeat (first | exact HS.out | refine RAt.al ?_ _ | apply RAt.st1))) <;> (first | (with_reducible assumption) | (intro _ e; cases e; done) | (go_simp; first | done | exact rfl)))) hb_w202)
    replace HE := hQ0 (RAt.below (v := .agg #[.bool sEx, .slice AEx nEx cEx, .bool sEy, .slice AEy nEy cEy, .bool sEd, .slice AEd nEd cEd]) (x := x) (y := y) (d := d) (by ((with_reducible (repeat (first | exact HE.out | refine RAt.al ?_ _ | apply RAt.st1))) <;> (first | (with_reducible assumption) | (intro _ e; cases e; done) | (go_simp; first | done | exact rfl)))) hb_w202)
    have HB202 := hQ0 (show Below w101.heap.size w101 w202 by have hB := HB201.out; ((with_reducible (repeat (first | exact bR _ _ | apply bS | apply bA | apply bD | refine bT ?_ (by assumption) ?_ | refine bO (by assumption) ?_ ?_))) <;> (first | omega | (simp <;> omega))))
    have hz202 : w.heap.size + 1 ≤ w202.heap.size := by omega
    clear hb_w202
    clear aR gK bY gF dH iQ iG dQ eW aW bV aJ dE gM iN dO aG fD gT eA
    refine wpQI_start [0, 1, 2, 3] ?_; (iterate 4 (first | (apply wpQI_step (zA rfl) (by kernel_rfl) (by exact rfl); (focus (intro W' hS; have hcS := hS.cells; go_simp; (iterate 2 (first | done | exact rfl | exact bB _ | go_simp)))); intro K hK; go_simp; (try go_bits); refine hK _ ?_; clear hK K))); refine wpQI_nil ?_
    refine wpQI_start [5, 6, 7, 8] ?_; (iterate 4 (first | (apply wpQI_step (zA rfl) (by kernel_rfl) (by exact rfl); (focus (intro W' hS; have hcS := hS.cells; go_simp; (iterate 2 (first | done | exact rfl | exact bB _ | go_simp)))); intro K hK; go_simp; (try go_bits); refine hK _ ?_; clear hK K))); refine wpQI_nil ?_
    refine wpQI_start [11, 12, 13, 14] ?_; (iterate 4 (first | (apply wpQI_step (zA rfl) (by kernel_rfl) (by exact rfl); (focus (intro W' hS; have hcS := hS.cells; go_simp; (iterate 2 (first | done | exact rfl | exact bB _ | go_simp)))); intro K hK; go_simp; (try go_bits); refine hK _ ?_; clear hK K))); refine wpQI_nil ?_
    refine wpQI_start [16, 17, 18, 19] ?_; (iterate 4 (first | (apply wpQI_step (zA rfl) (by kernel_rfl) (by exact rfl); (focus (intro W' hS; have hcS := hS.cells; go_simp; (iterate 2 (first | done | exact rfl | exact bB _ | go_simp)))); intro K hK; go_simp; (try go_bits); refine hK _ ?_; clear hK K))); refine wpQI_nil ?_
    refine wpQI_start [22, 23, 24, 25] ?_; (iterate 4 (first | (apply wpQI_step (zA rfl) (by kernel_rfl) (by exact rfl); (focus (intro W' hS; have hcS := hS.cells; go_simp; (iterate 2 (first | done | exact rfl | exact bB _ | go_simp)))); intro K hK; go_simp; (try go_bits); refine hK _ ?_; clear hK K))); refine wpQI_nil ?_
    apply wpQ_call (i := 4) (zA rfl) (by kernel_rfl) (by exact rfl); intro W hF hS; have hcS := hS.1.cells; go_simp; (go_at_call 56; refine (K1.out _ _ _ ((RAt.px (HS.out.below hS.1.2)).zl LX.out) ((RAt.pd (HE.out.below hS.1.2)).zl Ld.out)).mono ?_; rintro e w203 ⟨hb_w203, v203, rfl, hv203⟩; refine XPost.mk _ (fun W => IsC W v203 (P1)) hb_w203 (hv203) (IsC.cl _ _) ?_); clear hb_w203 hcS hS hF
    intro K hK; go_simp; (try go_bits); refine hK _ ?_; clear hK K
    obtain ⟨s203, A203, n203, c203, rfl⟩ := IsC.val hv203
    clear hv203
    apply wpQ_call (i := 9) (zA rfl) (by kernel_rfl) (by exact rfl); intro W hF hS; have hcS := hS.1.cells; go_simp; (go_at_call 56; refine (K2.out _ _ _ ((RAt.px (HE.out.below hS.1.2)).zl Lx.out) ((RAt.pd (HS.out.below hS.1.2)).zl LD.out)).mono ?_; rintro e w204 ⟨hb_w204, v204, rfl, hv204⟩; refine XPost.mk _ (fun W => IsC W v204 (P2)) hb_w204 (hv204) (IsC.cl _ _) ?_); clear hb_w204 hcS hS hF
    intro K hK; go_simp; (try go_bits); refine hK _ ?_; clear hK K
    obtain ⟨s204, A204, n204, c204, rfl⟩ := IsC.val hv204
    clear hv204
    apply wpQ_call (i := 10) (zA rfl) (by kernel_rfl) (by exact rfl); intro W hF hS; have hcS := hS.1.cells; go_simp; (go_at_call 55; refine (K3.out _ _ _ (hF.1.zl L1.out) (hF.2.zl L2.out)).mono ?_; rintro e w205 ⟨hb_w205, v205, rfl, hv205⟩; refine XPost.mk _ (fun W => IsC W v205 (P)) hb_w205 (hv205) (IsC.cl _ _) ?_); clear hb_w205 hcS hS hF
    intro K hK; go_simp; (try go_bits); refine hK _ ?_; clear hK K
    obtain ⟨s205, A205, n205, c205, rfl⟩ := IsC.val hv205
    clear hv205
    apply wpQ_call (i := 15) (zA rfl) (by kernel_rfl) (by exact rfl); intro W hF hS; have hcS := hS.1.cells; go_simp; (go_at_call 56; refine (K4.out _ _ _ ((RAt.py (HS.out.below hS.1.2)).zl LY.out) ((RAt.pd (HE.out.below hS.1.2)).zl Ld.out)).mono ?_; rintro e w206 ⟨hb_w206, v206, rfl, hv206⟩; refine XPost.mk _ (fun W => IsC W v206 (Q1)) hb_w206 (hv206) (IsC.cl _ _) ?_); clear hb_w206 hcS hS hF
    intro K hK; go_simp; (try go_bits); refine hK _ ?_; clear hK K
    obtain ⟨s206, A206, n206, c206, rfl⟩ := IsC.val hv206
    clear hv206
    apply wpQ_call (i := 20) (zA rfl) (by kernel_rfl) (by exact rfl); intro W hF hS; have hcS := hS.1.cells; go_simp; (go_at_call 56; refine (K5.out _ _ _ ((RAt.py (HE.out.below hS.1.2)).zl Ly.out) ((RAt.pd (HS.out.below hS.1.2)).zl LD.out)).mono ?_; rintro e w207 ⟨hb_w207, v207, rfl, hv207⟩; refine XPost.mk _ (fun W => IsC W v207 (Q2)) hb_w207 (hv207) (IsC.cl _ _) ?_); clear hb_w207 hcS hS hF
    intro K hK; go_simp; (try go_bits); refine hK _ ?_; clear hK K
    obtain ⟨s207, A207, n207, c207, rfl⟩ := IsC.val hv207
    clear hv207
    apply wpQ_call (i := 21) (zA rfl) (by kernel_rfl) (by exact rfl); intro W hF hS; have hcS := hS.1.cells; go_simp; (go_at_call 55; refine (K6.out _ _ _ (hF.1.2.zl L4.out) (hF.2.zl L5.out)).mono ?_; rintro e w208 ⟨hb_w208, v208, rfl, hv208⟩; refine XPost.mk _ (fun W => IsC W v208 (Q)) hb_w208 (hv208) (IsC.cl _ _) ?_); clear hb_w208 hcS hS hF
    intro K hK; go_simp; (try go_bits); refine hK _ ?_; clear hK K
    obtain ⟨s208, A208, n208, c208, rfl⟩ := IsC.val hv208
    clear hv208
    apply wpQ_call (i := 26) (zA rfl) (by kernel_rfl) (by exact rfl); intro W hF hS; have hcS := hS.1.cells; go_simp; (go_at_call 56; refine (K7.out _ _ _ ((RAt.pd (HS.out.below hS.1.2)).zl LD.out) ((RAt.pd (HE.out.below hS.1.2)).zl Ld.out)).mono ?_; rintro e w209 ⟨hb_w209, v209, rfl, hv209⟩; refine XPost.mk _ (fun W => IsC W v209 (E1)) hb_w209 (hv209) (IsC.cl _ _) ?_); clear hb_w209 hcS hS hF
    intro K hK; go_simp; (try go_bits); refine hK _ ?_; clear hK K
    obtain ⟨s209, A209, n209, c209, rfl⟩ := IsC.val hv209
    clear hv209
    refine wpQI_start [27] ?_; (iterate 1 (first | (apply wpQI_step (zA rfl) (by kernel_rfl) (by exact rfl); (focus (intro W' hS; have hcS := hS.cells; go_simp; (iterate 2 (first | done | exact rfl | exact bB _ | go_simp)))); intro K hK; go_simp; (try go_bits); refine hK _ ?_; clear hK K))); refine wpQI_nil ?_
    apply wpQ_call (i := 28) (zA rfl) (by kernel_rfl) (by exact rfl); intro W hF hS; have hcS := hS.1.cells; go_simp; (go_at_call 59; refine (K8.out _ _ (⟨_, _, _, _, _, _, _, _, _, _, _, _, rfl, hF.1.1.1.1.2, hF.1.2, hF.2⟩)).mono ?_; rintro e w210 ⟨hb_w210, v210, rfl, hv210⟩; refine XPost.mk _ (fun W => RAt W v210 (R1) (R2) (R3)) hb_w210 (hv210) (RAt.cl _ _ _ _) ?_); clear hb_w210 hcS hS hF
    intro K hK; go_simp; (try go_bits); refine hK _ ?_; clear hK K
    obtain ⟨s210x, A210x, n210x, c210x, s210y, A210y, n210y, c210y, s210d, A210d, n210d, c210d, rfl⟩ := RAt.val hv210
    clear hv210
    refine wpQ_done (by kernel_rfl) ?_
    intro w211 hF_w211 hSG
    have hz_w211 := hSG.1.1
    have hb_w211 := hSG.1.2
    clear hSG
    (with_reducible apply cel2 (b := w.heap.size) hb_w211); ((try simp) <;> omega); omega; (iterate 2 (focus (go_simp; try exact rfl))); (intro o; go_simp); intro jX kK jR jP; (with_reducible apply cel6 (b := w101.heap.size) hb_w211); ((try simp) <;> omega); omega; (iterate 6 (focus (go_simp; try exact rfl))); (intro o; go_simp); intro kL kI kA kR kJ kD kF jZ; (with_reducible apply cel6 (b := wr.heap.size) hb_w211); ((try simp) <;> omega); omega; (iterate 6 (focus (go_simp; try exact rfl))); (intro o; go_simp); intro kP jM jS kM jU jO kO jL
    (try simp only [List.filterMap_cons, List.filterMap_nil, List.getElem?_cons_succ, List.getElem?_cons_zero])
    clear HE
    replace HS := hQ0 (HS.out.below hb_w211)
    have H203 := hQ0 (show IsC w211 (.agg #[.bool s203, .slice A203 n203 c203]) (P1) from hF_w211.1.1.1.1.1.1.1)
    have H204 := hQ0 (show IsC w211 (.agg #[.bool s204, .slice A204 n204 c204]) (P2) from hF_w211.1.1.1.1.1.1.2)
    have H205 := hQ0 (show IsC w211 (.agg #[.bool s205, .slice A205 n205 c205]) (P) from hF_w211.1.1.1.1.1.2)
    have H206 := hQ0 (show IsC w211 (.agg #[.bool s206, .slice A206 n206 c206]) (Q1) from hF_w211.1.1.1.1.2)
    have H207 := hQ0 (show IsC w211 (.agg #[.bool s207, .slice A207 n207 c207]) (Q2) from hF_w211.1.1.1.2)
    have H208 := hQ0 (show IsC w211 (.agg #[.bool s208, .slice A208 n208 c208]) (Q) from hF_w211.1.1.2)
    have H209 := hQ0 (show IsC w211 (.agg #[.bool s209, .slice A209 n209 c209]) (E1) from hF_w211.1.2)
    have H210 := hQ0 (show RAt w211 (.agg #[.bool s210x, .slice A210x n210x c210x, .bool s210y, .slice A210y n210y c210y, .bool s210d, .slice A210d n210d c210d]) (R1) (R2) (R3) from hF_w211.2)
    have HB211 := hQ0 (HB202.out.trans (hb_w211.mono (by have := HB202.out.size; omega)))
    have hz211 : w.heap.size + 1 ≤ w211.heap.size := by omega
    clear hF_w211 hb_w211
    clear iU eB iA dN aH bI eZ jK aO iR iW fE aN bW fO gU gS dS eI fK
    go_wp2_with fail
    refine HQ_.out _ _ _ ?_
    clear HQ_ Q_
    go_wp2_with fail
    go_roundw
    case rel => exact ⟨k + 1, R1, R2, R3, s210x, A210x, n210x, c210x, s210y, A210y, n210y, c210y, s210d, A210d, n210d, c210d, by omega, by go_num, by have hB := HB211.out; ((with_reducible (repeat (first | exact bR _ _ | apply bS | apply bA | apply bD | refine bT ?_ (by assumption) ?_ | refine bO (by assumption) ?_ ?_))) <;> (first | omega | (simp <;> omega))), by go_simp, by go_simp, by go_simp, by go_simp, by go_simp, by go_simp, by intro o; go_simp, by (try simp) <;> omega, (by ((with_reducible (repeat (first | exact H210.out | refine RAt.al ?_ _ | apply RAt.st1))) <;> (first | (with_reducible assumption) | (intro _ e; cases e; done) | (go_simp; first | done | exact rfl)))), HN2⟩
    case measure => simp [intOf]; omega
  · obtain rfl : k = l.length := by omega
    rw [List.take_length] at HN
    obtain ⟨hXY, _⟩ := HN.out
    have e1 : x = X.tdiv (D * (l.length : Int)) := by rw [HM1.out]; unfold meanR; rw [← hXY]
    have e2 : y = Y.tdiv (D * (l.length : Int)) := by rw [HM2.out]; unfold meanR; rw [← hXY]
    obtain ⟨n, hn⟩ : ∃ n : Int, n = (l.length : Int) := ⟨_, rfl⟩
    rw [← hn] at e1 e2
    have hn' := hn.symm
    have hdn : D * n ≠ 0 := Int.ne_of_gt (Int.mul_pos hsd (by omega))
    have hw := HM.out
    simp only [withinB, decide_eq_true_eq] at hw
    have b1 : bitN x.natAbs ≤ 31 := bitN_le (by omega)
    have b2 : bitN y.natAbs ≤ 31 := bitN_le (by omega)
    have k1 := fun w => wof_any n w (by omega) (by omega)
    have ln := len_up (len_wd (z := n) (by omega) (by omega)) (show _ ≤ 600 by omega)
    have ldn := len_mul LD.out ln
    have k2 := fun u v w h1 h2 => wmul_any 600 u v D n w h1 h2 (by omega)
    have k3 := fun u v w h1 h2 => wquo_any (600 + 600) u v X (D * n) w h1 h2 (by omega) hdn
    have k4 := fun u v w h1 h2 => wquo_any (600 + 600) u v Y (D * n) w h1 h2 (by omega) hdn
    rw [← e1] at k3
    rw [← e2] at k4
    replace LX := hQ0 (len_up LX.out (show 600 ≤ 600 + 600 by omega))
    replace LY := hQ0 (len_up LY.out (show 600 ≤ 600 + 600 by omega))
    have lx := len_wd (z := x) (by omega) (by omega)
    have ly := len_wd (z := y) (by omega) (by omega)
    have k5 := fun v w h => wbits_any 10 v x w h (by omega)
    have k6 := fun v w h => wbits_any 10 v y w h (by omega)
    have k7 := fun v w h => wint_any x v w h (by omega) (by omega)
    have k8 := fun v w h => wint_any y v w h (by omega) (by omega)
    have k9 := fun g w => rwithin_one2 1073741824 x y g w (by omega) (by omega)
    rw [HM.out] at k9
    obtain ⟨B1, hB1⟩ : ∃ B1 : Int, B1 = (bitN x.natAbs : Int) := ⟨_, rfl⟩
    obtain ⟨B2, hB2⟩ : ∃ B2 : Int, B2 = (bitN y.natAbs : Int) := ⟨_, rfl⟩
    rw [← hB1] at k5
    rw [← hB2] at k6
    have b1' : ¬ 31 < B1 := by omega
    have b2' : ¬ 31 < B2 := by omega
    have nb1 : n ≤ 16 := by omega
    have nb0 : 0 ≤ n := by omega
    have d1 : ¬ (l.length : Int) < (l.length : Int) := by omega
    generalize X.tmod (D * n) = x2 at *
    generalize Y.tmod (D * n) = y2 at *
    generalize D * n = DN at *
    have Ln := hQ0 ln
    have LDN := hQ0 ldn
    have Lx := hQ0 lx
    have Ly := hQ0 ly
    have K1 := hQ0 k1
    have K2 := hQ0 k2
    have K3 := hQ0 k3
    have K4 := hQ0 k4
    have K5 := hQ0 k5
    have K6 := hQ0 k6
    have K7 := hQ0 k7
    have K8 := hQ0 k8
    have K9 := hQ0 k9
    clear k1 k2 k3 k4 k5 k6 k7 k8 k9 ln ldn lx ly hXY e1 e2 hdn hn b1 b2 hB1 hB2 hsd hsx hsy hsl
    go_wp2_with fail
    (refine pin_wp (N := _) (Nat.le_refl _) (fun w301 hb_w301 hz_w301 => ?_); (try simp at hz_w301); (with_reducible apply cal2 (b := w.heap.size) hb_w301); (focus (go_simp; try exact ⟨rfl, rfl⟩)); intro dK jC eQ gJ; (with_reducible apply cal6 (b := w101.heap.size) hb_w301); (focus (go_simp; try exact ⟨rfl, rfl, rfl, rfl, rfl, rfl⟩)); intro bF aI bM eY iZ aT aQ fJ); refine wp_q (fun Q_ HQ_ => ?_); refine wp_region_floatQ w301.heap.size 7 [7] (Nat.le_refl _) (fun _ => True) trivial Cl.tt (by kernel_rfl) (by kernel_rfl) ?_
    replace HS := hQ0 (RAt.below (v := .agg #[.bool sSx, .slice ASx nSx cSx, .bool sSy, .slice ASy nSy cSy, .bool sSd, .slice ASd nSd cSd]) (x := X) (y := Y) (d := D) (by ((with_reducible (repeat (first | exact HS.out | refine RAt.al ?_ _ | apply RAt.st1))) <;> (first | (with_reducible assumption) | (intro _ e; cases e; done) | (go_simp; first | done | exact rfl)))) hb_w301)
    have HB301 := hQ0 (show Below w101.heap.size w101 w301 by have hB := HBR.out; ((with_reducible (repeat (first | exact bR _ _ | apply bS | apply bA | apply bD | refine bT ?_ (by assumption) ?_ | refine bO (by assumption) ?_ ?_))) <;> (first | omega | (simp <;> omega))))
    have hz301 : w.heap.size + 1 ≤ w301.heap.size := by omega
    clear hb_w301
    skip
    refine wpQI_start [0, 1, 2, 3] ?_; (iterate 4 (first | (apply wpQI_step (zA rfl) (by kernel_rfl) (by exact rfl); (focus (intro W' hS; have hcS := hS.cells; go_simp; (iterate 2 (first | done | exact rfl | exact bB _ | go_simp)))); intro K hK; go_simp; (try go_bits); refine hK _ ?_; clear hK K))); refine wpQI_nil ?_
    apply wpQ_call (i := 4) (zA rfl) (by kernel_rfl) (by exact rfl); intro W hF hS; have hcS := hS.1.cells; go_simp; (go_at_call 57; refine (K1.out _).mono ?_; rintro e w302 ⟨hb_w302, v302, rfl, hv302⟩; refine XPost.mk _ (fun W => IsC W v302 (n)) hb_w302 (hv302) (IsC.cl _ _) ?_); clear hb_w302 hcS hS hF
    intro K hK; go_simp; (try go_bits); refine hK _ ?_; clear hK K
    obtain ⟨s302, A302, n302, c302, rfl⟩ := IsC.val hv302
    clear hv302
    apply wpQ_call (i := 5) (zA rfl) (by kernel_rfl) (by exact rfl); intro W hF hS; have hcS := hS.1.cells; go_simp; (go_at_call 56; refine (K2.out _ _ _ ((RAt.pd (HS.out.below hS.1.2)).zl LD.out) (hF.zl Ln.out)).mono ?_; rintro e w303 ⟨hb_w303, v303, rfl, hv303⟩; refine XPost.mk _ (fun W => IsC W v303 (DN)) hb_w303 (hv303) (IsC.cl _ _) ?_); clear hb_w303 hcS hS hF
    intro K hK; go_simp; (try go_bits); refine hK _ ?_; clear hK K
    obtain ⟨s303, A303, n303, c303, rfl⟩ := IsC.val hv303
    clear hv303
    apply wpQ_fresh (i := 6) LInv.std (zA rfl) (by kernel_rfl) (fun g => Value.pointer (some ⟨g, 0, none⟩)) (by exact rfl); (focus (intro W; go_simp; first | done | exact rfl | exact ⟨rfl, rfl⟩))
    intro g_r11_6 hN_r11_6 hG_r11_6 K hK
    go_simp; refine hK _ ?_; clear hK K
    have hne : w.heap.size ≠ g_r11_6 ∧ g_r11_6 ≠ w.heap.size := by have := hN_r11_6; omega
    have hne : w101.heap.size ≠ g_r11_6 ∧ g_r11_6 ≠ w101.heap.size := by have := hN_r11_6; omega
    refine wpQ_done (by kernel_rfl) ?_
    intro w304 hF_w304 hSG
    have hz_w304 := hSG.1.1
    have hb_w304 := hSG.1.2
    have hB_r11_6 := (hSG.2 _ (List.mem_cons_self ..)).2; simp only at hB_r11_6; have hl_r11_6 := (hSG.size (List.mem_cons_self ..)); simp only at hl_r11_6
    have aA := cell_of_row w304 g_r11_6 0 _ _ _ hB_r11_6; simp only [List.getElem?_toArray, List.getElem?_cons_zero] at aA
    have aD := cell_of_row w304 g_r11_6 1 _ _ _ hB_r11_6; simp only [List.getElem?_toArray, List.getElem?_cons_zero, List.getElem?_cons_succ] at aD
    have jD : (∀ o, w304.frozen? ⟨g_r11_6, o, none⟩ = false) := (fun o => frozen_of_row w304 g_r11_6 o _ _ hB_r11_6); have HH_r11_6 := hQ0 hB_r11_6; clear hB_r11_6
    clear hSG
    (with_reducible apply cel2 (b := w.heap.size) hb_w304); ((try simp) <;> omega); omega; (iterate 2 (focus (go_simp; try exact rfl))); (intro o; go_simp); intro dW aZ fF fC; (with_reducible apply cel6 (b := w101.heap.size) hb_w304); ((try simp) <;> omega); omega; (iterate 6 (focus (go_simp; try exact rfl))); (intro o; go_simp); intro aU dL bJ fG iC eG dC aF
    (try simp only [List.filterMap_cons, List.filterMap_nil, List.getElem?_cons_succ, List.getElem?_cons_zero])
    replace HS := hQ0 (HS.out.below hb_w304)
    have H302 := hQ0 (show IsC w304 (.agg #[.bool s302, .slice A302 n302 c302]) (n) from hF_w304.1)
    have H303 := hQ0 (show IsC w304 (.agg #[.bool s303, .slice A303 n303 c303]) (DN) from hF_w304.2)
    have HB304 := hQ0 (HB301.out.trans (hb_w304.mono (by have := HB301.out.size; omega)))
    have hz304 : w.heap.size + 1 ≤ w304.heap.size := by omega
    have hn_r11_6 : w.heap.size + 1 ≤ g_r11_6 := by have := hN_r11_6; omega
    have hnb_r11_6 : w101.heap.size ≤ g_r11_6 := by have := hN_r11_6; omega
    clear hF_w304 hb_w304 HH_r11_6 hG_r11_6 hN_r11_6
    clear dK jC eQ gJ bF aI bM eY iZ aT aQ fJ
    go_wp2_with fail
    refine HQ_.out _ _ _ ?_
    clear HQ_ Q_
    go_wp2_with fail
    (go_at_call 60; refine (K3.out _ _ _ ((RAt.px (show RAt _ (.agg #[.bool sSx, .slice ASx nSx cSx, .bool sSy, .slice ASy nSy cSy, .bool sSd, .slice ASd nSd cSd]) (X) (Y) (D) by ((with_reducible (repeat (first | exact HS.out | refine RAt.al ?_ _ | apply RAt.st1))) <;> (first | (with_reducible assumption) | (intro _ e; cases e; done) | (go_simp; first | done | exact rfl))))).zl LX.out) ((show IsC _ (.agg #[.bool s303, .slice A303 n303 c303]) (DN) by ((with_reducible (repeat (first | exact H303.out | refine IsC.al ?_ _ | apply IsC.st1))) <;> (first | (with_reducible assumption) | (intro _ e; cases e; done) | (go_simp; first | done | exact rfl)))).zl LDN.out)).mono ?_; rintro e w305 ⟨hb_w305, u305, v305, rfl, hu305, hv305⟩; have hz_w305 := hb_w305.size; (try simp at hz_w305); (with_reducible apply cal2 (b := w.heap.size) hb_w305); (focus (go_simp; try exact ⟨rfl, rfl⟩)); intro bC dD fL gO; (with_reducible apply cal6 (b := w101.heap.size) hb_w305); (focus (go_simp; try exact ⟨rfl, rfl, rfl, rfl, rfl, rfl⟩)); intro eF iP dX jA iO gH dV iI; (with_reducible apply cal2 (b := g_r11_6) hb_w305); (focus (go_simp; try exact ⟨rfl, rfl⟩)); intro iE gP fB dY)
    obtain ⟨s305u, A305u, n305u, c305u, rfl⟩ := IsC.val hu305
    obtain ⟨s305, A305, n305, c305, rfl⟩ := IsC.val hv305
    clear H302
    replace HS := hQ0 (RAt.below (v := .agg #[.bool sSx, .slice ASx nSx cSx, .bool sSy, .slice ASy nSy cSy, .bool sSd, .slice ASd nSd cSd]) (x := X) (y := Y) (d := D) (by ((with_reducible (repeat (first | exact HS.out | refine RAt.al ?_ _ | apply RAt.st1))) <;> (first | (with_reducible assumption) | (intro _ e; cases e; done) | (go_simp; first | done | exact rfl)))) hb_w305)
    replace H303 := hQ0 (IsC.below (v := .agg #[.bool s303, .slice A303 n303 c303]) (z := DN) (by ((with_reducible (repeat (first | exact H303.out | refine IsC.al ?_ _ | apply IsC.st1))) <;> (first | (with_reducible assumption) | (intro _ e; cases e; done) | (go_simp; first | done | exact rfl)))) hb_w305)
    have HB305 := hQ0 (show Below w101.heap.size w101 w305 by have hB := HB304.out; ((with_reducible (repeat (first | exact bR _ _ | apply bS | apply bA | apply bD | refine bT ?_ (by assumption) ?_ | refine bO (by assumption) ?_ ?_))) <;> (first | omega | (simp <;> omega))))
    have hz305 : w.heap.size + 1 ≤ w305.heap.size := by omega
    clear hb_w305
    clear aA aD jD dW aZ fF fC aU dL bJ fG iC eG dC aF
    have H305u := hQ0 (show IsC w305 (.agg #[.bool s305u, .slice A305u n305u c305u]) (x) from hu305)
    clear hu305
    have H305 := hQ0 (show IsC w305 (.agg #[.bool s305, .slice A305 n305 c305]) (x2) from hv305)
    clear hv305
    go_wp2_with fail
    (go_at_call 60; refine (K4.out _ _ _ ((RAt.py (show RAt _ (.agg #[.bool sSx, .slice ASx nSx cSx, .bool sSy, .slice ASy nSy cSy, .bool sSd, .slice ASd nSd cSd]) (X) (Y) (D) by ((with_reducible (repeat (first | exact HS.out | refine RAt.al ?_ _ | apply RAt.st1))) <;> (first | (with_reducible assumption) | (intro _ e; cases e; done) | (go_simp; first | done | exact rfl))))).zl LY.out) ((show IsC _ (.agg #[.bool s303, .slice A303 n303 c303]) (DN) by ((with_reducible (repeat (first | exact H303.out | refine IsC.al ?_ _ | apply IsC.st1))) <;> (first | (with_reducible assumption) | (intro _ e; cases e; done) | (go_simp; first | done | exact rfl)))).zl LDN.out)).mono ?_; rintro e w306 ⟨hb_w306, u306, v306, rfl, hu306, hv306⟩; have hz_w306 := hb_w306.size; (try simp at hz_w306); (with_reducible apply cal2 (b := w.heap.size) hb_w306); (focus (go_simp; try exact ⟨rfl, rfl⟩)); intro gX bH gY bP; (with_reducible apply cal6 (b := w101.heap.size) hb_w306); (focus (go_simp; try exact ⟨rfl, rfl, rfl, rfl, rfl, rfl⟩)); intro aL fP iY eJ eR bU eO aY; (with_reducible apply cal2 (b := w305.heap.size) hb_w306); (focus (go_simp; try exact ⟨rfl, rfl⟩)); intro bG eN iL eH)
    obtain ⟨s306u, A306u, n306u, c306u, rfl⟩ := IsC.val hu306
    obtain ⟨s306, A306, n306, c306, rfl⟩ := IsC.val hv306
    clear HS
    clear H303
    clear H305
    replace H305u := hQ0 (IsC.below (v := .agg #[.bool s305u, .slice A305u n305u c305u]) (z := x) (by ((with_reducible (repeat (first | exact H305u.out | refine IsC.al ?_ _ | apply IsC.st1))) <;> (first | (with_reducible assumption) | (intro _ e; cases e; done) | (go_simp; first | done | exact rfl)))) hb_w306)
    have HB306 := hQ0 (show Below w101.heap.size w101 w306 by have hB := HB305.out; ((with_reducible (repeat (first | exact bR _ _ | apply bS | apply bA | apply bD | refine bT ?_ (by assumption) ?_ | refine bO (by assumption) ?_ ?_))) <;> (first | omega | (simp <;> omega))))
    have hz306 : w.heap.size + 1 ≤ w306.heap.size := by omega
    clear hb_w306
    clear bC dD fL gO eF iP dX jA iO gH dV iI iE gP fB dY
    have H306u := hQ0 (show IsC w306 (.agg #[.bool s306u, .slice A306u n306u c306u]) (y) from hu306)
    clear hu306
    have H306 := hQ0 (show IsC w306 (.agg #[.bool s306, .slice A306 n306 c306]) (y2) from hv306)
    clear hv306
    go_wp2_with fail
    (go_at_call 61; refine (K5.out _ _ ((show IsC _ (.agg #[.bool s305u, .slice A305u n305u c305u]) (x) by ((with_reducible (repeat (first | exact H305u.out | refine IsC.al ?_ _ | apply IsC.st1))) <;> (first | (with_reducible assumption) | (intro _ e; cases e; done) | (go_simp; first | done | exact rfl)))).zl Lx.out)).mono ?_; rintro e w307 ⟨rfl, hb_w307⟩; have hz_w307 := hb_w307.size; (try simp at hz_w307); (with_reducible apply cal2 (b := w.heap.size) hb_w307); (focus (go_simp; try exact ⟨rfl, rfl⟩)); intro eS bN iV bK; (with_reducible apply cal6 (b := w101.heap.size) hb_w307); (focus (go_simp; try exact ⟨rfl, rfl, rfl, rfl, rfl, rfl⟩)); intro fA iH fQ dB dI iT dG dT; (with_reducible apply cal2 (b := w305.heap.size) hb_w307); (focus (go_simp; try exact ⟨rfl, rfl⟩)); intro aM iF bL dZ; (with_reducible apply cal2 (b := w306.heap.size) hb_w307); (focus (go_simp; try exact ⟨rfl, rfl⟩)); intro gW fU fW jH)
    clear H306
    replace H305u := hQ0 (IsC.below (v := .agg #[.bool s305u, .slice A305u n305u c305u]) (z := x) (by ((with_reducible (repeat (first | exact H305u.out | refine IsC.al ?_ _ | apply IsC.st1))) <;> (first | (with_reducible assumption) | (intro _ e; cases e; done) | (go_simp; first | done | exact rfl)))) hb_w307)
    replace H306u := hQ0 (IsC.below (v := .agg #[.bool s306u, .slice A306u n306u c306u]) (z := y) (by ((with_reducible (repeat (first | exact H306u.out | refine IsC.al ?_ _ | apply IsC.st1))) <;> (first | (with_reducible assumption) | (intro _ e; cases e; done) | (go_simp; first | done | exact rfl)))) hb_w307)
    have HB307 := hQ0 (show Below w101.heap.size w101 w307 by have hB := HB306.out; ((with_reducible (repeat (first | exact bR _ _ | apply bS | apply bA | apply bD | refine bT ?_ (by assumption) ?_ | refine bO (by assumption) ?_ ?_))) <;> (first | omega | (simp <;> omega))))
    have hz307 : w.heap.size + 1 ≤ w307.heap.size := by omega
    clear hb_w307
    clear gX bH gY bP aL fP iY eJ eR bU eO aY bG eN iL eH
    go_wp2_with fail
    (go_at_call 61; refine (K6.out _ _ ((show IsC _ (.agg #[.bool s306u, .slice A306u n306u c306u]) (y) by ((with_reducible (repeat (first | exact H306u.out | refine IsC.al ?_ _ | apply IsC.st1))) <;> (first | (with_reducible assumption) | (intro _ e; cases e; done) | (go_simp; first | done | exact rfl)))).zl Ly.out)).mono ?_; rintro e w308 ⟨rfl, hb_w308⟩; have hz_w308 := hb_w308.size; (try simp at hz_w308); (with_reducible apply cal2 (b := w.heap.size) hb_w308); (focus (go_simp; try exact ⟨rfl, rfl⟩)); intro jG iD jI fR; (with_reducible apply cal6 (b := w101.heap.size) hb_w308); (focus (go_simp; try exact ⟨rfl, rfl, rfl, rfl, rfl, rfl⟩)); intro gV fT gR fZ eL eC bQ gE; (with_reducible apply cal2 (b := w305.heap.size) hb_w308); (focus (go_simp; try exact ⟨rfl, rfl⟩)); intro gG jE iB dF; (with_reducible apply cal2 (b := w306.heap.size) hb_w308); (focus (go_simp; try exact ⟨rfl, rfl⟩)); intro gZ fM bE gB)
    replace H305u := hQ0 (IsC.below (v := .agg #[.bool s305u, .slice A305u n305u c305u]) (z := x) (by ((with_reducible (repeat (first | exact H305u.out | refine IsC.al ?_ _ | apply IsC.st1))) <;> (first | (with_reducible assumption) | (intro _ e; cases e; done) | (go_simp; first | done | exact rfl)))) hb_w308)
    replace H306u := hQ0 (IsC.below (v := .agg #[.bool s306u, .slice A306u n306u c306u]) (z := y) (by ((with_reducible (repeat (first | exact H306u.out | refine IsC.al ?_ _ | apply IsC.st1))) <;> (first | (with_reducible assumption) | (intro _ e; cases e; done) | (go_simp; first | done | exact rfl)))) hb_w308)
    have HB308 := hQ0 (show Below w101.heap.size w101 w308 by have hB := HB307.out; ((with_reducible (repeat (first | exact bR _ _ | apply bS | apply bA | apply bD | refine bT ?_ (by assumption) ?_ | refine bO (by assumption) ?_ ?_))) <;> (first | omega | (simp <;> omega))))
    have hz308 : w.heap.size + 1 ≤ w308.heap.size := by omega
    clear hb_w308
    clear eS bN iV bK fA iH fQ dB dI iT dG dT aM iF bL dZ gW fU fW jH
    go_wp2_with fail
    (refine pin_wp (N := _) (Nat.le_refl _) (fun w309 hb_w309 hz_w309 => ?_); (try simp at hz_w309); (with_reducible apply cal2 (b := w.heap.size) hb_w309); (focus (go_simp; try exact ⟨rfl, rfl⟩)); intro fY eD gL eM; (with_reducible apply cal6 (b := w101.heap.size) hb_w309); (focus (go_simp; try exact ⟨rfl, rfl, rfl, rfl, rfl, rfl⟩)); intro gA eV aK bX eE eP dA eT; (with_reducible apply cal2 (b := w305.heap.size) hb_w309); (focus (go_simp; try exact ⟨rfl, rfl⟩)); intro iS eU aV jF; (with_reducible apply cal2 (b := w306.heap.size) hb_w309); (focus (go_simp; try exact ⟨rfl, rfl⟩)); intro dJ fH gI fX); refine wp_q (fun Q_ HQ_ => ?_); refine wp_region_floatQ w309.heap.size 6 [6] (Nat.le_refl _) (fun _ => True) trivial Cl.tt (by kernel_rfl) (by kernel_rfl) ?_
    replace H305u := hQ0 (IsC.below (v := .agg #[.bool s305u, .slice A305u n305u c305u]) (z := x) (by ((with_reducible (repeat (first | exact H305u.out | refine IsC.al ?_ _ | apply IsC.st1))) <;> (first | (with_reducible assumption) | (intro _ e; cases e; done) | (go_simp; first | done | exact rfl)))) hb_w309)
    replace H306u := hQ0 (IsC.below (v := .agg #[.bool s306u, .slice A306u n306u c306u]) (z := y) (by ((with_reducible (repeat (first | exact H306u.out | refine IsC.al ?_ _ | apply IsC.st1))) <;> (first | (with_reducible assumption) | (intro _ e; cases e; done) | (go_simp; first | done | exact rfl)))) hb_w309)
    have HB309 := hQ0 (show Below w101.heap.size w101 w309 by have hB := HB308.out; ((with_reducible (repeat (first | exact bR _ _ | apply bS | apply bA | apply bD | refine bT ?_ (by assumption) ?_ | refine bO (by assumption) ?_ ?_))) <;> (first | omega | (simp <;> omega))))
    have hz309 : w.heap.size + 1 ≤ w309.heap.size := by omega
    clear hb_w309
    clear jG iD jI fR gV fT gR fZ eL eC bQ gE gG jE iB dF gZ fM bE gB
    refine wpQI_start [0] ?_; (iterate 1 (first | (apply wpQI_step (zA rfl) (by kernel_rfl) (by exact rfl); (focus (intro W' hS; have hcS := hS.cells; go_simp; (iterate 2 (first | done | exact rfl | exact bB _ | go_simp)))); intro K hK; go_simp; (try go_bits); refine hK _ ?_; clear hK K))); refine wpQI_nil ?_
    refine wpQI_start [2] ?_; (iterate 1 (first | (apply wpQI_step (zA rfl) (by kernel_rfl) (by exact rfl); (focus (intro W' hS; have hcS := hS.cells; go_simp; (iterate 2 (first | done | exact rfl | exact bB _ | go_simp)))); intro K hK; go_simp; (try go_bits); refine hK _ ?_; clear hK K))); refine wpQI_nil ?_
    apply wpQ_call (i := 1) (zA rfl) (by kernel_rfl) (by exact rfl); intro W hF hS; have hcS := hS.1.cells; go_simp; (go_at_call 62; refine (K7.out _ _ ((H305u.out.below hS.1.2))).mono ?_; rintro e w310 ⟨rfl, hb_w310⟩; refine XPost.mk _ (fun _ => True) hb_w310 (trivial) (Cl.tt) ?_); clear hb_w310 hcS hS hF
    intro K hK; go_simp; (try go_bits); refine hK _ ?_; clear hK K
    apply wpQ_call (i := 3) (zA rfl) (by kernel_rfl) (by exact rfl); intro W hF hS; have hcS := hS.1.cells; go_simp; (go_at_call 62; refine (K8.out _ _ ((H306u.out.below hS.1.2))).mono ?_; rintro e w311 ⟨rfl, hb_w311⟩; refine XPost.mk _ (fun _ => True) hb_w311 (trivial) (Cl.tt) ?_); clear hb_w311 hcS hS hF
    intro K hK; go_simp; (try go_bits); refine hK _ ?_; clear hK K
    refine wpQI_start [4] ?_; (iterate 1 (first | (apply wpQI_step (zA rfl) (by kernel_rfl) (by exact rfl); (focus (intro W' hS; have hcS := hS.cells; go_simp; (iterate 2 (first | done | exact rfl | exact bB _ | go_simp)))); intro K hK; go_simp; (try go_bits); refine hK _ ?_; clear hK K))); refine wpQI_nil ?_
    apply wpQ_fresh (i := 5) LInv.std (zA rfl) (by kernel_rfl) (fun g => Value.pointer (some ⟨g, 0, none⟩)) (by exact rfl); (focus (intro W; go_simp; first | done | exact rfl | exact ⟨rfl, rfl⟩))
    intro g_r16_5 hN_r16_5 hG_r16_5 K hK
    go_simp; refine hK _ ?_; clear hK K
    have hne : w.heap.size ≠ g_r16_5 ∧ g_r16_5 ≠ w.heap.size := by have := hN_r16_5; omega
    have hne : w101.heap.size ≠ g_r16_5 ∧ g_r16_5 ≠ w101.heap.size := by have := hN_r16_5; omega
    have hne : g_r11_6 ≠ g_r16_5 ∧ g_r16_5 ≠ g_r11_6 := by have := hN_r16_5; omega
    have hne : w305.heap.size ≠ g_r16_5 ∧ g_r16_5 ≠ w305.heap.size := by have := hN_r16_5; omega
    have hne : w305.heap.size + 1 ≠ g_r16_5 ∧ g_r16_5 ≠ w305.heap.size + 1 := by have := hN_r16_5; omega
    have hne : w306.heap.size ≠ g_r16_5 ∧ g_r16_5 ≠ w306.heap.size := by have := hN_r16_5; omega
    have hne : w306.heap.size + 1 ≠ g_r16_5 ∧ g_r16_5 ≠ w306.heap.size + 1 := by have := hN_r16_5; omega
    refine wpQ_done (by kernel_rfl) ?_
    intro w312 hF_w312 hSG
    have hz_w312 := hSG.1.1
    have hb_w312 := hSG.1.2
    have hB_r16_5 := (hSG.2 _ (List.mem_cons_self ..)).2; simp only at hB_r16_5; have hl_r16_5 := (hSG.size (List.mem_cons_self ..)); simp only at hl_r16_5
    have aC := cell_of_row w312 g_r16_5 0 _ _ _ hB_r16_5; simp only [List.getElem?_toArray, List.getElem?_cons_zero] at aC
    have aB := cell_of_row w312 g_r16_5 1 _ _ _ hB_r16_5; simp only [List.getElem?_toArray, List.getElem?_cons_zero, List.getElem?_cons_succ] at aB
    have dP : (∀ o, w312.frozen? ⟨g_r16_5, o, none⟩ = false) := (fun o => frozen_of_row w312 g_r16_5 o _ _ hB_r16_5); have HH_r16_5 := hQ0 hB_r16_5; clear hB_r16_5
    clear hSG
    (with_reducible apply cel2 (b := w.heap.size) hb_w312); ((try simp) <;> omega); omega; (iterate 2 (focus (go_simp; try exact rfl))); (intro o; go_simp); intro gQ iX gC iM; (with_reducible apply cel6 (b := w101.heap.size) hb_w312); ((try simp) <;> omega); omega; (iterate 6 (focus (go_simp; try exact rfl))); (intro o; go_simp); intro aE fI eK jB fN eX fS dU; (with_reducible apply cel2 (b := w305.heap.size) hb_w312); ((try simp) <;> omega); omega; (iterate 2 (focus (go_simp; try exact rfl))); (intro o; go_simp); intro dM aX aP aS; (with_reducible apply cel2 (b := w306.heap.size) hb_w312); ((try simp) <;> omega); omega; (iterate 2 (focus (go_simp; try exact rfl))); (intro o; go_simp); intro gN iK dR iJ
    (try simp only [List.filterMap_cons, List.filterMap_nil, List.getElem?_cons_succ, List.getElem?_cons_zero])
    clear H305u
    clear H306u
    have HB312 := hQ0 (HB309.out.trans (hb_w312.mono (by have := HB309.out.size; omega)))
    have hz312 : w.heap.size + 1 ≤ w312.heap.size := by omega
    have hn_r16_5 : w.heap.size + 1 ≤ g_r16_5 := by have := hN_r16_5; omega
    have hnb_r16_5 : w101.heap.size ≤ g_r16_5 := by have := hN_r16_5; omega
    clear hF_w312 hb_w312 HH_r16_5 hG_r16_5 hN_r16_5
    clear fY eD gL eM gA eV aK bX eE eP dA eT iS eU aV jF dJ fH gI fX
    go_wp2_with fail
    refine HQ_.out _ _ _ ?_
    clear HQ_ Q_
    go_wp2_with fail
    (go_at_call 63; refine (K9.out _ _ (by simp <;> omega) (by go_simp) (by go_simp)).mono ?_; rintro e w313 ⟨rfl, hb_w313⟩; have hz_w313 := hb_w313.size; (try simp at hz_w313); (with_reducible apply cal2 (b := w.heap.size) hb_w313); (focus (go_simp; try exact ⟨rfl, rfl⟩)); intro kQ kT jT jN; (with_reducible apply cal6 (b := w101.heap.size) hb_w313); (focus (go_simp; try exact ⟨rfl, rfl, rfl, rfl, rfl, rfl⟩)); intro jW kC kB kH kG kU kE kN; (with_reducible apply cal2 (b := g_r16_5) hb_w313); (focus (go_simp; try exact ⟨rfl, rfl⟩)); intro kS jV jY jQ)
    have HB313 := hQ0 (show Below w101.heap.size w101 w313 by have hB := HB312.out; ((with_reducible (repeat (first | exact bR _ _ | apply bS | apply bA | apply bD | refine bT ?_ (by assumption) ?_ | refine bO (by assumption) ?_ ?_))) <;> (first | omega | (simp <;> omega))))
    have hz313 : w.heap.size + 1 ≤ w313.heap.size := by omega
    clear hb_w313
    clear aC aB dP gQ iX gC iM aE fI eK jB fN eX fS dU dM aX aP aS gN iK dR iJ
    go_wp2_with fail
    refine bodyPost_ret (v := .tuple #[.agg #[.int .i64 x, .int .i64 y], .bool true]) (by simp only [results, Tryz.results25]; go_simp) rfl ⟨?_, ?_⟩
    · rfl
    · have hB := HB101.out; have hB2 := HB313.out; ((with_reducible (repeat (first | exact bR _ _ | apply bS | apply bA | apply bD | refine bT ?_ (by assumption) ?_ | refine bO (by assumption) ?_ ?_))) <;> (first | omega | (simp <;> omega)))
end Go.Proofs.YtgejdaincnclpaaGreat
