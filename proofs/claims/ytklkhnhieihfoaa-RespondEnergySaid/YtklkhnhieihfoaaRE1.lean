/- Law RespondEnergy returns true for every Meet and any two integers; each argument reads afterwards as it read before. No conditions. Merged texts: RsA RsJ RsM RsP RsT Open LawRE (what no proof of the claim needs is left out). -/
import Derived.Test.YtklkhnhieihfoaaRb7
import Derived.ProofKit
import Derived.OpenShut
import Derived.ChangeOld
import Derived.Below
import Derived.Carry
import Derived.Test.YtklkhnhieihfoaaRows
namespace Go.Proofs.Ytklkhnhieihfoaa
open Go Go.RowKit
set_option linter.unusedVariables false
theorem rspeed_any (x y : Int) (w : World) :
    Calls Try.prog 34 #[.agg #[.int .i64 x, .int .i64 y]] w fun e w' => e = .returned (.bool (withinB x y 1048576)) ∧ Below w.heap.size w w' := by
  go_enter Try.func34, Try.ntmps34; (try simp only [List.append_eq, List.cons_append, List.nil_append])
  go_wp2_with fail
  -- own blocks: w.heap.size:2
  (go_at_call 86; refine (rnear_any _ _ _ _ (by omega) (by omega)).mono ?_; rintro e w1 ⟨rfl, hb_w1⟩; have hz_w1 := hb_w1.size; (try simp at hz_w1); (with_reducible apply cel2 (b := w.heap.size) hb_w1); (focus ((try simp) <;> omega)); (focus omega); (focus (go_simp; try exact rfl)); (focus (go_simp; try exact rfl)); (focus (intro o; go_simp)); intro cc cc fz hl)
  go_wp2_with fail
  go_ret
  exact ⟨rfl, by ((with_reducible (repeat (first | exact bR _ _ | refine bS ?_ ?_ _ | refine bA ?_ ?_ _ | refine bD ?_ | refine bT ?_ (by assumption) ?_ | refine bO (by assumption) ?_ ?_))) <;> (first | omega | (simp; done) | (simp <;> omega)))⟩
end Go.Proofs.Ytklkhnhieihfoaa
namespace Go.Proofs.Ytklkhnhieihfoaa
open Go Go.RowKit
set_option linter.unusedVariables false
def POut (R : Int × Int × Int) (w : World) (e : Ending) (w' : World) : Prop := ROut R.1 R.2.1 R.2.2 w e w'
set_option maxRecDepth 100000 in
set_option maxHeartbeats 20000000 in
theorem rsum_any (x y d x' y' d' : Int) (u v : Value) (w : World) (hu : RAt w u x y d) (hv : RAt w v x' y' d') (hd : d * d' ≠ 0) (lx : (canN x.natAbs).length ≤ 1000) (ly : (canN y.natAbs).length ≤ 1000) (ld : (canN d.natAbs).length ≤ 1000) (lx2 : (canN x'.natAbs).length ≤ 1000) (ly2 : (canN y'.natAbs).length ≤ 1000) (ld2 : (canN d'.natAbs).length ≤ 1000) :
    Calls Try.prog 38 #[u, v] w (POut (sumR (x, y, d) (x', y', d')) w) := by
  have h0 := hu
  have h1 := hv
  obtain ⟨spx, Apx, npx, cpx, spy, Apy, npy, cpy, spd, Apd, npd, cpd, rfl⟩ := hu.val
  obtain ⟨sqx, Aqx, nqx, cqx, sqy, Aqy, nqy, cqy, sqd, Aqd, nqd, cqd, rfl⟩ := hv.val
  have l1 := len_mul lx ld2
  have l2 := len_mul lx2 ld
  have l3 := len_add l1 l2
  have l4 := len_mul ly ld2
  have l5 := len_mul ly2 ld
  have l6 := len_add l4 l5
  have l7 := len_mul ld ld2
  have k1 := fun u v w h1 h2 => times_any 1000 u v x d' w h1 h2 (by omega)
  have k2 := fun u v w h1 h2 => times_any 1000 u v x' d w h1 h2 (by omega)
  have k3 := fun u v w h1 h2 => plus_any (1000 + 1000) u v (x * d') (x' * d) w h1 h2 (by omega)
  have k4 := fun u v w h1 h2 => times_any 1000 u v y d' w h1 h2 (by omega)
  have k5 := fun u v w h1 h2 => times_any 1000 u v y' d w h1 h2 (by omega)
  have k6 := fun u v w h1 h2 => plus_any (1000 + 1000) u v (y * d') (y' * d) w h1 h2 (by omega)
  have k7 := fun u v w h1 h2 => times_any 1000 u v d d' w h1 h2 (by omega)
  have k8 := fun v w h => rlowest_any (x * d' + x' * d) (y * d' + y' * d) (d * d') v w h hd (by omega) (by omega) (by omega)
  unfold POut sumR lowR
  simp only
  generalize (x * d' + x' * d).tdiv (lowG (x * d' + x' * d) (y * d' + y' * d) (d * d')) = R1 at *
  generalize (y * d' + y' * d).tdiv (lowG (x * d' + x' * d) (y * d' + y' * d) (d * d')) = R2 at *
  generalize (d * d').tdiv (lowG (x * d' + x' * d) (y * d' + y' * d) (d * d')) = R3 at *
  generalize x * d' = P1 at *
  generalize x' * d = P2 at *
  generalize y * d' = Q1 at *
  generalize y' * d = Q2 at *
  generalize P1 + P2 = P at *
  generalize Q1 + Q2 = Q at *
  generalize d * d' = E at *
  have K1 := Lib.hid k1
  have K2 := Lib.hid k2
  have K3 := Lib.hid k3
  have K4 := Lib.hid k4
  have K5 := Lib.hid k5
  have K6 := Lib.hid k6
  have K7 := Lib.hid k7
  have K8 := Lib.hid k8
  have H0 := Lib.hid h0
  have H1 := Lib.hid h1
  have L1 := Lib.hid l1
  have L2 := Lib.hid l2
  have L4 := Lib.hid l4
  have L5 := Lib.hid l5
  have LX := Lib.hid lx
  have LY := Lib.hid ly
  have LD := Lib.hid ld
  have LX2 := Lib.hid lx2
  have LY2 := Lib.hid ly2
  have LD2 := Lib.hid ld2
  clear k1 k2 k3 k4 k5 k6 k7 k8 h0 h1 hu hv l1 l2 l3 l4 l5 l6 l7 lx ly ld lx2 ly2 ld2 hd
  -- names on
  go_enter Try.func38, Try.ntmps38; (try simp only [List.append_eq, List.cons_append, List.nil_append])
  go_wp2_with fail
  -- own blocks: w.heap.size:6, w.heap.size + 1:6, w.heap.size + 1 + 1:6
  (refine pin_wp (N := _) (Nat.le_refl _) (fun w4 hb_w4 hz_w4 => ?_); (try simp at hz_w4); (with_reducible apply cel6 (b := w.heap.size) hb_w4); (focus ((try simp) <;> omega)); (focus omega); (focus (go_simp; try exact rfl)); (focus (go_simp; try exact rfl)); (focus (go_simp; try exact rfl)); (focus (go_simp; try exact rfl)); (focus (go_simp; try exact rfl)); (focus (go_simp; try exact rfl)); (focus (intro o; go_simp)); intro c_w4_0_0 c_w4_0_1 c_w4_0_2 c_w4_0_3 c_w4_0_4 c_w4_0_5 fz_w4_0 hl_w4_0; (with_reducible apply cel6 (b := w.heap.size + 1) hb_w4); (focus ((try simp) <;> omega)); (focus omega); (focus (go_simp; try exact rfl)); (focus (go_simp; try exact rfl)); (focus (go_simp; try exact rfl)); (focus (go_simp; try exact rfl)); (focus (go_simp; try exact rfl)); (focus (go_simp; try exact rfl)); (focus (intro o; go_simp)); intro c_w4_1_0 c_w4_1_1 c_w4_1_2 c_w4_1_3 c_w4_1_4 c_w4_1_5 fz_w4_1 hl_w4_1; (with_reducible apply cel6 (b := w.heap.size + 1 + 1) hb_w4); (focus ((try simp) <;> omega)); (focus omega); (focus (go_simp; try exact rfl)); (focus (go_simp; try exact rfl)); (focus (go_simp; try exact rfl)); (focus (go_simp; try exact rfl)); (focus (go_simp; try exact rfl)); (focus (go_simp; try exact rfl)); (focus (intro o; go_simp)); intro c_w4_2_0 c_w4_2_1 c_w4_2_2 c_w4_2_3 c_w4_2_4 c_w4_2_5 fz_w4_2 hl_w4_2); refine wp_q (fun Q_ HQ_ => ?_); refine wp_region_floatQ w4.heap.size 29 [29] (Nat.le_refl _) (fun _ => True) trivial Cl.tt (by kernel_rfl) (by kernel_rfl) ?_
  replace H0 := Lib.hid (RAt.below (v := .agg #[.bool spx, .slice Apx npx cpx, .bool spy, .slice Apy npy cpy, .bool spd, .slice Apd npd cpd]) (x := x) (y := y) (d := d) (by ((repeat (first | (with_reducible exact H0.out) | (with_reducible refine RAt.al ?_ _) | (with_reducible apply RAt.st1))) <;> (first | (with_reducible assumption) | (intro _ e; cases e; done) | (go_simp; first | done | exact rfl)))) hb_w4)
  replace H1 := Lib.hid (RAt.below (v := .agg #[.bool sqx, .slice Aqx nqx cqx, .bool sqy, .slice Aqy nqy cqy, .bool sqd, .slice Aqd nqd cqd]) (x := x') (y := y') (d := d') (by ((repeat (first | (with_reducible exact H1.out) | (with_reducible refine RAt.al ?_ _) | (with_reducible apply RAt.st1))) <;> (first | (with_reducible assumption) | (intro _ e; cases e; done) | (go_simp; first | done | exact rfl)))) hb_w4)
  have HB4 := Lib.hid (show Below w.heap.size w w4 by ((with_reducible (repeat (first | exact bR _ _ | refine bS ?_ ?_ _ | refine bA ?_ ?_ _ | refine bD ?_ | refine bT ?_ (by assumption) ?_ | refine bO (by assumption) ?_ ?_))) <;> (first | omega | (simp; done) | (simp <;> omega))))
  have hz4 : w.heap.size + 1 + 1 + 1 ≤ w4.heap.size := by omega
  clear hb_w4
  skip
  refine wpQI_start [0, 1, 2, 3] ?_; (iterate 4 (first | (refine wpQI_off (by with_reducible (refine List.getElem?_toArray.trans ?_; (repeat (first | exact List.getElem?_cons_zero | refine List.getElem?_cons_succ.trans ?_)))) (by kernel_rfl) (by exact rfl) (fun K hK => ?_); go_simp; refine hK _ ?_; clear hK K) | ((first | apply wpQI_step (by with_reducible (refine List.getElem?_toArray.trans ?_; (repeat (first | exact List.getElem?_cons_zero | refine List.getElem?_cons_succ.trans ?_)))) (by kernel_rfl) (by exact rfl) | apply wpQI_on (by with_reducible (refine List.getElem?_toArray.trans ?_; (repeat (first | exact List.getElem?_cons_zero | refine List.getElem?_cons_succ.trans ?_)))) (by kernel_rfl) (by exact rfl)); (focus (intro W' hS; have hcS := hS.cells.1; have hfS := hS.cells.2; go_simp; (first | done | exact rfl | exact ⟨rfl, Below.refl _ _⟩ | (go_simp; first | done | exact rfl | exact ⟨rfl, Below.refl _ _⟩)))); intro K hK; go_simp; (try go_bits); refine hK _ ?_; clear hK K))); refine wpQI_nil ?_
  refine wpQI_start [5, 6, 7, 8] ?_; (iterate 4 (first | (refine wpQI_off (by with_reducible (refine List.getElem?_toArray.trans ?_; (repeat (first | exact List.getElem?_cons_zero | refine List.getElem?_cons_succ.trans ?_)))) (by kernel_rfl) (by exact rfl) (fun K hK => ?_); go_simp; refine hK _ ?_; clear hK K) | ((first | apply wpQI_step (by with_reducible (refine List.getElem?_toArray.trans ?_; (repeat (first | exact List.getElem?_cons_zero | refine List.getElem?_cons_succ.trans ?_)))) (by kernel_rfl) (by exact rfl) | apply wpQI_on (by with_reducible (refine List.getElem?_toArray.trans ?_; (repeat (first | exact List.getElem?_cons_zero | refine List.getElem?_cons_succ.trans ?_)))) (by kernel_rfl) (by exact rfl)); (focus (intro W' hS; have hcS := hS.cells.1; have hfS := hS.cells.2; go_simp; (first | done | exact rfl | exact ⟨rfl, Below.refl _ _⟩ | (go_simp; first | done | exact rfl | exact ⟨rfl, Below.refl _ _⟩)))); intro K hK; go_simp; (try go_bits); refine hK _ ?_; clear hK K))); refine wpQI_nil ?_
  refine wpQI_start [11, 12, 13, 14] ?_; (iterate 4 (first | (refine wpQI_off (by with_reducible (refine List.getElem?_toArray.trans ?_; (repeat (first | exact List.getElem?_cons_zero | refine List.getElem?_cons_succ.trans ?_)))) (by kernel_rfl) (by exact rfl) (fun K hK => ?_); go_simp; refine hK _ ?_; clear hK K) | ((first | apply wpQI_step (by with_reducible (refine List.getElem?_toArray.trans ?_; (repeat (first | exact List.getElem?_cons_zero | refine List.getElem?_cons_succ.trans ?_)))) (by kernel_rfl) (by exact rfl) | apply wpQI_on (by with_reducible (refine List.getElem?_toArray.trans ?_; (repeat (first | exact List.getElem?_cons_zero | refine List.getElem?_cons_succ.trans ?_)))) (by kernel_rfl) (by exact rfl)); (focus (intro W' hS; have hcS := hS.cells.1; have hfS := hS.cells.2; go_simp; (first | done | exact rfl | exact ⟨rfl, Below.refl _ _⟩ | (go_simp; first | done | exact rfl | exact ⟨rfl, Below.refl _ _⟩)))); intro K hK; go_simp; (try go_bits); refine hK _ ?_; clear hK K))); refine wpQI_nil ?_
  refine wpQI_start [16, 17, 18, 19] ?_; (iterate 4 (first | (refine wpQI_off (by with_reducible (refine List.getElem?_toArray.trans ?_; (repeat (first | exact List.getElem?_cons_zero | refine List.getElem?_cons_succ.trans ?_)))) (by kernel_rfl) (by exact rfl) (fun K hK => ?_); go_simp; refine hK _ ?_; clear hK K) | ((first | apply wpQI_step (by with_reducible (refine List.getElem?_toArray.trans ?_; (repeat (first | exact List.getElem?_cons_zero | refine List.getElem?_cons_succ.trans ?_)))) (by kernel_rfl) (by exact rfl) | apply wpQI_on (by with_reducible (refine List.getElem?_toArray.trans ?_; (repeat (first | exact List.getElem?_cons_zero | refine List.getElem?_cons_succ.trans ?_)))) (by kernel_rfl) (by exact rfl)); (focus (intro W' hS; have hcS := hS.cells.1; have hfS := hS.cells.2; go_simp; (first | done | exact rfl | exact ⟨rfl, Below.refl _ _⟩ | (go_simp; first | done | exact rfl | exact ⟨rfl, Below.refl _ _⟩)))); intro K hK; go_simp; (try go_bits); refine hK _ ?_; clear hK K))); refine wpQI_nil ?_
  refine wpQI_start [22, 23, 24, 25] ?_; (iterate 4 (first | (refine wpQI_off (by with_reducible (refine List.getElem?_toArray.trans ?_; (repeat (first | exact List.getElem?_cons_zero | refine List.getElem?_cons_succ.trans ?_)))) (by kernel_rfl) (by exact rfl) (fun K hK => ?_); go_simp; refine hK _ ?_; clear hK K) | ((first | apply wpQI_step (by with_reducible (refine List.getElem?_toArray.trans ?_; (repeat (first | exact List.getElem?_cons_zero | refine List.getElem?_cons_succ.trans ?_)))) (by kernel_rfl) (by exact rfl) | apply wpQI_on (by with_reducible (refine List.getElem?_toArray.trans ?_; (repeat (first | exact List.getElem?_cons_zero | refine List.getElem?_cons_succ.trans ?_)))) (by kernel_rfl) (by exact rfl)); (focus (intro W' hS; have hcS := hS.cells.1; have hfS := hS.cells.2; go_simp; (first | done | exact rfl | exact ⟨rfl, Below.refl _ _⟩ | (go_simp; first | done | exact rfl | exact ⟨rfl, Below.refl _ _⟩)))); intro K hK; go_simp; (try go_bits); refine hK _ ?_; clear hK K))); refine wpQI_nil ?_
  apply wpQ_call (i := 4) (by with_reducible (refine List.getElem?_toArray.trans ?_; (repeat (first | exact List.getElem?_cons_zero | refine List.getElem?_cons_succ.trans ?_)))) (by kernel_rfl) (by exact rfl); intro W hF hS; have hcS := hS.1.cells.1; have hfS := hS.1.cells.2; go_simp; (go_at_call 43; refine (K1.out _ _ _ ((RAt.px (H0.out.below hS.1.2)).zl LX.out) ((RAt.pd (H1.out.below hS.1.2)).zl LD2.out)).mono ?_; rintro e w5 ⟨hb_w5, v5, rfl, hv5⟩; refine XPost.mk _ (fun W => IsC W v5 (P1)) hb_w5 (hv5) (IsC.cl _ _) ?_); clear hb_w5 hcS hfS hS hF
  intro K hK; go_simp; (try go_bits); refine hK _ ?_; clear hK K
  obtain ⟨s5, A5, n5, c5, rfl⟩ := IsC.val hv5
  clear hv5
  apply wpQ_call (i := 9) (by with_reducible (refine List.getElem?_toArray.trans ?_; (repeat (first | exact List.getElem?_cons_zero | refine List.getElem?_cons_succ.trans ?_)))) (by kernel_rfl) (by exact rfl); intro W hF hS; have hcS := hS.1.cells.1; have hfS := hS.1.cells.2; go_simp; (go_at_call 43; refine (K2.out _ _ _ ((RAt.px (H1.out.below hS.1.2)).zl LX2.out) ((RAt.pd (H0.out.below hS.1.2)).zl LD.out)).mono ?_; rintro e w6 ⟨hb_w6, v6, rfl, hv6⟩; refine XPost.mk _ (fun W => IsC W v6 (P2)) hb_w6 (hv6) (IsC.cl _ _) ?_); clear hb_w6 hcS hfS hS hF
  intro K hK; go_simp; (try go_bits); refine hK _ ?_; clear hK K
  obtain ⟨s6, A6, n6, c6, rfl⟩ := IsC.val hv6
  clear hv6
  apply wpQ_call (i := 10) (by with_reducible (refine List.getElem?_toArray.trans ?_; (repeat (first | exact List.getElem?_cons_zero | refine List.getElem?_cons_succ.trans ?_)))) (by kernel_rfl) (by exact rfl); intro W hF hS; have hcS := hS.1.cells.1; have hfS := hS.1.cells.2; go_simp; (go_at_call 42; refine (K3.out _ _ _ (hF.1.zl L1.out) (hF.2.zl L2.out)).mono ?_; rintro e w7 ⟨hb_w7, v7, rfl, hv7⟩; refine XPost.mk _ (fun W => IsC W v7 (P)) hb_w7 (hv7) (IsC.cl _ _) ?_); clear hb_w7 hcS hfS hS hF
  intro K hK; go_simp; (try go_bits); refine hK _ ?_; clear hK K
  obtain ⟨s7, A7, n7, c7, rfl⟩ := IsC.val hv7
  clear hv7
  apply wpQ_call (i := 15) (by with_reducible (refine List.getElem?_toArray.trans ?_; (repeat (first | exact List.getElem?_cons_zero | refine List.getElem?_cons_succ.trans ?_)))) (by kernel_rfl) (by exact rfl); intro W hF hS; have hcS := hS.1.cells.1; have hfS := hS.1.cells.2; go_simp; (go_at_call 43; refine (K4.out _ _ _ ((RAt.py (H0.out.below hS.1.2)).zl LY.out) ((RAt.pd (H1.out.below hS.1.2)).zl LD2.out)).mono ?_; rintro e w8 ⟨hb_w8, v8, rfl, hv8⟩; refine XPost.mk _ (fun W => IsC W v8 (Q1)) hb_w8 (hv8) (IsC.cl _ _) ?_); clear hb_w8 hcS hfS hS hF
  intro K hK; go_simp; (try go_bits); refine hK _ ?_; clear hK K
  obtain ⟨s8, A8, n8, c8, rfl⟩ := IsC.val hv8
  clear hv8
  apply wpQ_call (i := 20) (by with_reducible (refine List.getElem?_toArray.trans ?_; (repeat (first | exact List.getElem?_cons_zero | refine List.getElem?_cons_succ.trans ?_)))) (by kernel_rfl) (by exact rfl); intro W hF hS; have hcS := hS.1.cells.1; have hfS := hS.1.cells.2; go_simp; (go_at_call 43; refine (K5.out _ _ _ ((RAt.py (H1.out.below hS.1.2)).zl LY2.out) ((RAt.pd (H0.out.below hS.1.2)).zl LD.out)).mono ?_; rintro e w9 ⟨hb_w9, v9, rfl, hv9⟩; refine XPost.mk _ (fun W => IsC W v9 (Q2)) hb_w9 (hv9) (IsC.cl _ _) ?_); clear hb_w9 hcS hfS hS hF
  intro K hK; go_simp; (try go_bits); refine hK _ ?_; clear hK K
  obtain ⟨s9, A9, n9, c9, rfl⟩ := IsC.val hv9
  clear hv9
  apply wpQ_call (i := 21) (by with_reducible (refine List.getElem?_toArray.trans ?_; (repeat (first | exact List.getElem?_cons_zero | refine List.getElem?_cons_succ.trans ?_)))) (by kernel_rfl) (by exact rfl); intro W hF hS; have hcS := hS.1.cells.1; have hfS := hS.1.cells.2; go_simp; (go_at_call 42; refine (K6.out _ _ _ (hF.1.2.zl L4.out) (hF.2.zl L5.out)).mono ?_; rintro e w10 ⟨hb_w10, v10, rfl, hv10⟩; refine XPost.mk _ (fun W => IsC W v10 (Q)) hb_w10 (hv10) (IsC.cl _ _) ?_); clear hb_w10 hcS hfS hS hF
  intro K hK; go_simp; (try go_bits); refine hK _ ?_; clear hK K
  obtain ⟨s10, A10, n10, c10, rfl⟩ := IsC.val hv10
  clear hv10
  apply wpQ_call (i := 26) (by with_reducible (refine List.getElem?_toArray.trans ?_; (repeat (first | exact List.getElem?_cons_zero | refine List.getElem?_cons_succ.trans ?_)))) (by kernel_rfl) (by exact rfl); intro W hF hS; have hcS := hS.1.cells.1; have hfS := hS.1.cells.2; go_simp; (go_at_call 43; refine (K7.out _ _ _ ((RAt.pd (H0.out.below hS.1.2)).zl LD.out) ((RAt.pd (H1.out.below hS.1.2)).zl LD2.out)).mono ?_; rintro e w11 ⟨hb_w11, v11, rfl, hv11⟩; refine XPost.mk _ (fun W => IsC W v11 (E)) hb_w11 (hv11) (IsC.cl _ _) ?_); clear hb_w11 hcS hfS hS hF
  intro K hK; go_simp; (try go_bits); refine hK _ ?_; clear hK K
  obtain ⟨s11, A11, n11, c11, rfl⟩ := IsC.val hv11
  clear hv11
  refine wpQI_start [27] ?_; (iterate 1 (first | (refine wpQI_off (by with_reducible (refine List.getElem?_toArray.trans ?_; (repeat (first | exact List.getElem?_cons_zero | refine List.getElem?_cons_succ.trans ?_)))) (by kernel_rfl) (by exact rfl) (fun K hK => ?_); go_simp; refine hK _ ?_; clear hK K) | ((first | apply wpQI_step (by with_reducible (refine List.getElem?_toArray.trans ?_; (repeat (first | exact List.getElem?_cons_zero | refine List.getElem?_cons_succ.trans ?_)))) (by kernel_rfl) (by exact rfl) | apply wpQI_on (by with_reducible (refine List.getElem?_toArray.trans ?_; (repeat (first | exact List.getElem?_cons_zero | refine List.getElem?_cons_succ.trans ?_)))) (by kernel_rfl) (by exact rfl)); (focus (intro W' hS; have hcS := hS.cells.1; have hfS := hS.cells.2; go_simp; (first | done | exact rfl | exact ⟨rfl, Below.refl _ _⟩ | (go_simp; first | done | exact rfl | exact ⟨rfl, Below.refl _ _⟩)))); intro K hK; go_simp; (try go_bits); refine hK _ ?_; clear hK K))); refine wpQI_nil ?_
  apply wpQ_call (i := 28) (by with_reducible (refine List.getElem?_toArray.trans ?_; (repeat (first | exact List.getElem?_cons_zero | refine List.getElem?_cons_succ.trans ?_)))) (by kernel_rfl) (by exact rfl); intro W hF hS; have hcS := hS.1.cells.1; have hfS := hS.1.cells.2; go_simp; (go_at_call 85; refine (K8.out _ _ (⟨_, _, _, _, _, _, _, _, _, _, _, _, rfl, hF.1.1.1.1.2, hF.1.2, hF.2⟩)).mono ?_; rintro e w12 ⟨hb_w12, v12, rfl, hv12⟩; refine XPost.mk _ (fun W => RAt W v12 (R1) (R2) (R3)) hb_w12 (hv12) (RAt.cl _ _ _ _) ?_); clear hb_w12 hcS hfS hS hF
  intro K hK; go_simp; (try go_bits); refine hK _ ?_; clear hK K
  obtain ⟨s12x, A12x, n12x, c12x, s12y, A12y, n12y, c12y, s12d, A12d, n12d, c12d, rfl⟩ := RAt.val hv12
  clear hv12
  refine wpQ_done (by kernel_rfl) ?_
  intro w13 hF_w13 hSG
  have hz_w13 := hSG.1.1
  have hb_w13 := hSG.1.2
  clear hSG
  (with_reducible apply cel6 (b := w.heap.size) hb_w13); (focus ((try simp) <;> omega)); (focus omega); (focus (go_simp; try exact rfl)); (focus (go_simp; try exact rfl)); (focus (go_simp; try exact rfl)); (focus (go_simp; try exact rfl)); (focus (go_simp; try exact rfl)); (focus (go_simp; try exact rfl)); (focus (intro o; go_simp)); intro c_w13_0_0 c_w13_0_1 c_w13_0_2 c_w13_0_3 c_w13_0_4 c_w13_0_5 fz_w13_0 hl_w13_0; (with_reducible apply cel6 (b := w.heap.size + 1) hb_w13); (focus ((try simp) <;> omega)); (focus omega); (focus (go_simp; try exact rfl)); (focus (go_simp; try exact rfl)); (focus (go_simp; try exact rfl)); (focus (go_simp; try exact rfl)); (focus (go_simp; try exact rfl)); (focus (go_simp; try exact rfl)); (focus (intro o; go_simp)); intro c_w13_1_0 c_w13_1_1 c_w13_1_2 c_w13_1_3 c_w13_1_4 c_w13_1_5 fz_w13_1 hl_w13_1; (with_reducible apply cel6 (b := w.heap.size + 1 + 1) hb_w13); (focus ((try simp) <;> omega)); (focus omega); (focus (go_simp; try exact rfl)); (focus (go_simp; try exact rfl)); (focus (go_simp; try exact rfl)); (focus (go_simp; try exact rfl)); (focus (go_simp; try exact rfl)); (focus (go_simp; try exact rfl)); (focus (intro o; go_simp)); intro c_w13_2_0 c_w13_2_1 c_w13_2_2 c_w13_2_3 c_w13_2_4 c_w13_2_5 fz_w13_2 hl_w13_2
  (try simp only [List.filterMap_cons, List.filterMap_nil, List.getElem?_cons_succ, List.getElem?_cons_zero])
  clear H0
  clear H1
  have H5 := Lib.hid (show IsC w13 (.agg #[.bool s5, .slice A5 n5 c5]) (P1) from hF_w13.1.1.1.1.1.1.1)
  have H6 := Lib.hid (show IsC w13 (.agg #[.bool s6, .slice A6 n6 c6]) (P2) from hF_w13.1.1.1.1.1.1.2)
  have H7 := Lib.hid (show IsC w13 (.agg #[.bool s7, .slice A7 n7 c7]) (P) from hF_w13.1.1.1.1.1.2)
  have H8 := Lib.hid (show IsC w13 (.agg #[.bool s8, .slice A8 n8 c8]) (Q1) from hF_w13.1.1.1.1.2)
  have H9 := Lib.hid (show IsC w13 (.agg #[.bool s9, .slice A9 n9 c9]) (Q2) from hF_w13.1.1.1.2)
  have H10 := Lib.hid (show IsC w13 (.agg #[.bool s10, .slice A10 n10 c10]) (Q) from hF_w13.1.1.2)
  have H11 := Lib.hid (show IsC w13 (.agg #[.bool s11, .slice A11 n11 c11]) (E) from hF_w13.1.2)
  have H12 := Lib.hid (show RAt w13 (.agg #[.bool s12x, .slice A12x n12x c12x, .bool s12y, .slice A12y n12y c12y, .bool s12d, .slice A12d n12d c12d]) (R1) (R2) (R3) from hF_w13.2)
  have HB13 := Lib.hid (HB4.out.trans (hb_w13.mono (by have := HB4.out.size; omega)))
  have hz13 : w.heap.size + 1 + 1 + 1 ≤ w13.heap.size := by omega
  clear hF_w13 hb_w13
  clear c_w4_0_0 c_w4_0_1 c_w4_0_2 c_w4_0_3 c_w4_0_4 c_w4_0_5 fz_w4_0 hl_w4_0 c_w4_1_0 c_w4_1_1 c_w4_1_2 c_w4_1_3 c_w4_1_4 c_w4_1_5 fz_w4_1 hl_w4_1 c_w4_2_0 c_w4_2_1 c_w4_2_2 c_w4_2_3 c_w4_2_4 c_w4_2_5 fz_w4_2 hl_w4_2
  go_wp2_with fail
  refine HQ_.out _ _ _ ?_
  clear HQ_ Q_
  go_wp2_with fail
  -- own blocks: w.heap.size + 1 + 1:6
  refine bodyPost_ret (v := .agg #[.bool s12x, .slice A12x n12x c12x, .bool s12y, .slice A12y n12y c12y, .bool s12d, .slice A12d n12d c12d]) (by simp only [results, Try.results38]; go_simp) rfl ⟨?_, ?_⟩
  · have hB := HB13.out; ((with_reducible (repeat (first | exact bR _ _ | refine bS ?_ ?_ _ | refine bA ?_ ?_ _ | refine bD ?_ | refine bT ?_ (by assumption) ?_ | refine bO (by assumption) ?_ ?_))) <;> (first | omega | (simp; done) | (simp <;> omega)))
  · exact ⟨_, rfl, (by ((repeat (first | (with_reducible exact H12.out) | (with_reducible refine RAt.al ?_ _) | (with_reducible apply RAt.st1))) <;> (first | (with_reducible assumption) | (intro _ e; cases e; done) | (go_simp; first | done | exact rfl))))⟩
set_option maxRecDepth 100000 in
set_option maxHeartbeats 20000000 in
theorem square15_any (x y d : Int) (v : Value) (w : World) (hu : RAt w v x y d) (lx : (canN x.natAbs).length ≤ 1000) (ly : (canN y.natAbs).length ≤ 1000) (ld : (canN d.natAbs).length ≤ 1000) :
    Calls Try.prog 41 #[v] w (DOut (x * x + y * y) (d * d) w) := by
  have h0 := hu
  obtain ⟨spx, Apx, npx, cpx, spy, Apy, npy, cpy, spd, Apd, npd, cpd, rfl⟩ := hu.val
  have l1 := len_mul lx lx
  have l2 := len_mul ly ly
  have k1 := fun u v w h1 h2 => times_any 1000 u v x x w h1 h2 (by omega)
  have k2 := fun u v w h1 h2 => times_any 1000 u v y y w h1 h2 (by omega)
  have k3 := fun u v w h1 h2 => plus_any (1000 + 1000) u v (x * x) (y * y) w h1 h2 (by omega)
  have k4 := fun u v w h1 h2 => times_any 1000 u v d d w h1 h2 (by omega)
  generalize x * x = P at *
  generalize y * y = Q at *
  generalize P + Q = S at *
  generalize d * d = E at *
  have K1 := Lib.hid k1
  have K2 := Lib.hid k2
  have K3 := Lib.hid k3
  have K4 := Lib.hid k4
  have H0 := Lib.hid h0
  have L1 := Lib.hid l1
  have L2 := Lib.hid l2
  have LX := Lib.hid lx
  have LY := Lib.hid ly
  have LD := Lib.hid ld
  clear k1 k2 k3 k4 h0 hu l1 l2 lx ly ld
  -- names on
  go_enter Try.func41, Try.ntmps41; (try simp only [List.append_eq, List.cons_append, List.nil_append])
  go_wp2_with fail
  -- own blocks: w.heap.size:6, w.heap.size + 1:2, w.heap.size + 1 + 1:2
  (refine pin_wp (N := _) (Nat.le_refl _) (fun w4 hb_w4 hz_w4 => ?_); (try simp at hz_w4); (with_reducible apply cel6 (b := w.heap.size) hb_w4); (focus ((try simp) <;> omega)); (focus omega); (focus (go_simp; try exact rfl)); (focus (go_simp; try exact rfl)); (focus (go_simp; try exact rfl)); (focus (go_simp; try exact rfl)); (focus (go_simp; try exact rfl)); (focus (go_simp; try exact rfl)); (focus (intro o; go_simp)); intro c_w4_0_0 c_w4_0_1 c_w4_0_2 c_w4_0_3 c_w4_0_4 c_w4_0_5 fz_w4_0 hl_w4_0; (with_reducible apply cel2 (b := w.heap.size + 1) hb_w4); (focus ((try simp) <;> omega)); (focus omega); (focus (go_simp; try exact rfl)); (focus (go_simp; try exact rfl)); (focus (intro o; go_simp)); intro c_w4_1_0 c_w4_1_1 fz_w4_1 hl_w4_1; (with_reducible apply cel2 (b := w.heap.size + 1 + 1) hb_w4); (focus ((try simp) <;> omega)); (focus omega); (focus (go_simp; try exact rfl)); (focus (go_simp; try exact rfl)); (focus (intro o; go_simp)); intro c_w4_2_0 c_w4_2_1 fz_w4_2 hl_w4_2); refine wp_q (fun Q_ HQ_ => ?_); refine wp_region_floatQ w4.heap.size 16 [16, 17] (Nat.le_refl _) (fun _ => True) trivial Cl.tt (by kernel_rfl) (by kernel_rfl) ?_
  replace H0 := Lib.hid (RAt.below (v := .agg #[.bool spx, .slice Apx npx cpx, .bool spy, .slice Apy npy cpy, .bool spd, .slice Apd npd cpd]) (x := x) (y := y) (d := d) (by ((repeat (first | (with_reducible exact H0.out) | (with_reducible refine RAt.al ?_ _) | (with_reducible apply RAt.st1))) <;> (first | (with_reducible assumption) | (intro _ e; cases e; done) | (go_simp; first | done | exact rfl)))) hb_w4)
  have HB4 := Lib.hid (show Below w.heap.size w w4 by ((with_reducible (repeat (first | exact bR _ _ | refine bS ?_ ?_ _ | refine bA ?_ ?_ _ | refine bD ?_ | refine bT ?_ (by assumption) ?_ | refine bO (by assumption) ?_ ?_))) <;> (first | omega | (simp; done) | (simp <;> omega))))
  have hz4 : w.heap.size + 1 + 1 + 1 ≤ w4.heap.size := by omega
  clear hb_w4
  skip
  refine wpQI_start [0, 1, 2, 3] ?_; (iterate 4 (first | (refine wpQI_off (by with_reducible (refine List.getElem?_toArray.trans ?_; (repeat (first | exact List.getElem?_cons_zero | refine List.getElem?_cons_succ.trans ?_)))) (by kernel_rfl) (by exact rfl) (fun K hK => ?_); go_simp; refine hK _ ?_; clear hK K) | ((first | apply wpQI_step (by with_reducible (refine List.getElem?_toArray.trans ?_; (repeat (first | exact List.getElem?_cons_zero | refine List.getElem?_cons_succ.trans ?_)))) (by kernel_rfl) (by exact rfl) | apply wpQI_on (by with_reducible (refine List.getElem?_toArray.trans ?_; (repeat (first | exact List.getElem?_cons_zero | refine List.getElem?_cons_succ.trans ?_)))) (by kernel_rfl) (by exact rfl)); (focus (intro W' hS; have hcS := hS.cells.1; have hfS := hS.cells.2; go_simp; (first | done | exact rfl | exact ⟨rfl, Below.refl _ _⟩ | (go_simp; first | done | exact rfl | exact ⟨rfl, Below.refl _ _⟩)))); intro K hK; go_simp; (try go_bits); refine hK _ ?_; clear hK K))); refine wpQI_nil ?_
  refine wpQI_start [5, 6, 7, 8] ?_; (iterate 4 (first | (refine wpQI_off (by with_reducible (refine List.getElem?_toArray.trans ?_; (repeat (first | exact List.getElem?_cons_zero | refine List.getElem?_cons_succ.trans ?_)))) (by kernel_rfl) (by exact rfl) (fun K hK => ?_); go_simp; refine hK _ ?_; clear hK K) | ((first | apply wpQI_step (by with_reducible (refine List.getElem?_toArray.trans ?_; (repeat (first | exact List.getElem?_cons_zero | refine List.getElem?_cons_succ.trans ?_)))) (by kernel_rfl) (by exact rfl) | apply wpQI_on (by with_reducible (refine List.getElem?_toArray.trans ?_; (repeat (first | exact List.getElem?_cons_zero | refine List.getElem?_cons_succ.trans ?_)))) (by kernel_rfl) (by exact rfl)); (focus (intro W' hS; have hcS := hS.cells.1; have hfS := hS.cells.2; go_simp; (first | done | exact rfl | exact ⟨rfl, Below.refl _ _⟩ | (go_simp; first | done | exact rfl | exact ⟨rfl, Below.refl _ _⟩)))); intro K hK; go_simp; (try go_bits); refine hK _ ?_; clear hK K))); refine wpQI_nil ?_
  refine wpQI_start [11, 12, 13, 14] ?_; (iterate 4 (first | (refine wpQI_off (by with_reducible (refine List.getElem?_toArray.trans ?_; (repeat (first | exact List.getElem?_cons_zero | refine List.getElem?_cons_succ.trans ?_)))) (by kernel_rfl) (by exact rfl) (fun K hK => ?_); go_simp; refine hK _ ?_; clear hK K) | ((first | apply wpQI_step (by with_reducible (refine List.getElem?_toArray.trans ?_; (repeat (first | exact List.getElem?_cons_zero | refine List.getElem?_cons_succ.trans ?_)))) (by kernel_rfl) (by exact rfl) | apply wpQI_on (by with_reducible (refine List.getElem?_toArray.trans ?_; (repeat (first | exact List.getElem?_cons_zero | refine List.getElem?_cons_succ.trans ?_)))) (by kernel_rfl) (by exact rfl)); (focus (intro W' hS; have hcS := hS.cells.1; have hfS := hS.cells.2; go_simp; (first | done | exact rfl | exact ⟨rfl, Below.refl _ _⟩ | (go_simp; first | done | exact rfl | exact ⟨rfl, Below.refl _ _⟩)))); intro K hK; go_simp; (try go_bits); refine hK _ ?_; clear hK K))); refine wpQI_nil ?_
  apply wpQ_call (i := 4) (by with_reducible (refine List.getElem?_toArray.trans ?_; (repeat (first | exact List.getElem?_cons_zero | refine List.getElem?_cons_succ.trans ?_)))) (by kernel_rfl) (by exact rfl); intro W hF hS; have hcS := hS.1.cells.1; have hfS := hS.1.cells.2; go_simp; (go_at_call 43; refine (K1.out _ _ _ ((RAt.px (H0.out.below hS.1.2)).zl LX.out) ((RAt.px (H0.out.below hS.1.2)).zl LX.out)).mono ?_; rintro e w5 ⟨hb_w5, v5, rfl, hv5⟩; refine XPost.mk _ (fun W => IsC W v5 (P)) hb_w5 (hv5) (IsC.cl _ _) ?_); clear hb_w5 hcS hfS hS hF
  intro K hK; go_simp; (try go_bits); refine hK _ ?_; clear hK K
  obtain ⟨s5, A5, n5, c5, rfl⟩ := IsC.val hv5
  clear hv5
  apply wpQ_call (i := 9) (by with_reducible (refine List.getElem?_toArray.trans ?_; (repeat (first | exact List.getElem?_cons_zero | refine List.getElem?_cons_succ.trans ?_)))) (by kernel_rfl) (by exact rfl); intro W hF hS; have hcS := hS.1.cells.1; have hfS := hS.1.cells.2; go_simp; (go_at_call 43; refine (K2.out _ _ _ ((RAt.py (H0.out.below hS.1.2)).zl LY.out) ((RAt.py (H0.out.below hS.1.2)).zl LY.out)).mono ?_; rintro e w6 ⟨hb_w6, v6, rfl, hv6⟩; refine XPost.mk _ (fun W => IsC W v6 (Q)) hb_w6 (hv6) (IsC.cl _ _) ?_); clear hb_w6 hcS hfS hS hF
  intro K hK; go_simp; (try go_bits); refine hK _ ?_; clear hK K
  obtain ⟨s6, A6, n6, c6, rfl⟩ := IsC.val hv6
  clear hv6
  apply wpQ_call (i := 10) (by with_reducible (refine List.getElem?_toArray.trans ?_; (repeat (first | exact List.getElem?_cons_zero | refine List.getElem?_cons_succ.trans ?_)))) (by kernel_rfl) (by exact rfl); intro W hF hS; have hcS := hS.1.cells.1; have hfS := hS.1.cells.2; go_simp; (go_at_call 42; refine (K3.out _ _ _ (hF.1.zl L1.out) (hF.2.zl L2.out)).mono ?_; rintro e w7 ⟨hb_w7, v7, rfl, hv7⟩; refine XPost.mk _ (fun W => IsC W v7 (S)) hb_w7 (hv7) (IsC.cl _ _) ?_); clear hb_w7 hcS hfS hS hF
  intro K hK; go_simp; (try go_bits); refine hK _ ?_; clear hK K
  obtain ⟨s7, A7, n7, c7, rfl⟩ := IsC.val hv7
  clear hv7
  apply wpQ_call (i := 15) (by with_reducible (refine List.getElem?_toArray.trans ?_; (repeat (first | exact List.getElem?_cons_zero | refine List.getElem?_cons_succ.trans ?_)))) (by kernel_rfl) (by exact rfl); intro W hF hS; have hcS := hS.1.cells.1; have hfS := hS.1.cells.2; go_simp; (go_at_call 43; refine (K4.out _ _ _ ((RAt.pd (H0.out.below hS.1.2)).zl LD.out) ((RAt.pd (H0.out.below hS.1.2)).zl LD.out)).mono ?_; rintro e w8 ⟨hb_w8, v8, rfl, hv8⟩; refine XPost.mk _ (fun W => IsC W v8 (E)) hb_w8 (hv8) (IsC.cl _ _) ?_); clear hb_w8 hcS hfS hS hF
  intro K hK; go_simp; (try go_bits); refine hK _ ?_; clear hK K
  obtain ⟨s8, A8, n8, c8, rfl⟩ := IsC.val hv8
  clear hv8
  refine wpQ_done (by kernel_rfl) ?_
  intro w9 hF_w9 hSG
  have hz_w9 := hSG.1.1
  have hb_w9 := hSG.1.2
  clear hSG
  (with_reducible apply cel6 (b := w.heap.size) hb_w9); (focus ((try simp) <;> omega)); (focus omega); (focus (go_simp; try exact rfl)); (focus (go_simp; try exact rfl)); (focus (go_simp; try exact rfl)); (focus (go_simp; try exact rfl)); (focus (go_simp; try exact rfl)); (focus (go_simp; try exact rfl)); (focus (intro o; go_simp)); intro c_w9_0_0 c_w9_0_1 c_w9_0_2 c_w9_0_3 c_w9_0_4 c_w9_0_5 fz_w9_0 hl_w9_0; (with_reducible apply cel2 (b := w.heap.size + 1) hb_w9); (focus ((try simp) <;> omega)); (focus omega); (focus (go_simp; try exact rfl)); (focus (go_simp; try exact rfl)); (focus (intro o; go_simp)); intro c_w9_1_0 c_w9_1_1 fz_w9_1 hl_w9_1; (with_reducible apply cel2 (b := w.heap.size + 1 + 1) hb_w9); (focus ((try simp) <;> omega)); (focus omega); (focus (go_simp; try exact rfl)); (focus (go_simp; try exact rfl)); (focus (intro o; go_simp)); intro c_w9_2_0 c_w9_2_1 fz_w9_2 hl_w9_2
  (try simp only [List.filterMap_cons, List.filterMap_nil, List.getElem?_cons_succ, List.getElem?_cons_zero])
  clear H0
  have H5 := Lib.hid (show IsC w9 (.agg #[.bool s5, .slice A5 n5 c5]) (P) from hF_w9.1.1.1)
  have H6 := Lib.hid (show IsC w9 (.agg #[.bool s6, .slice A6 n6 c6]) (Q) from hF_w9.1.1.2)
  have H7 := Lib.hid (show IsC w9 (.agg #[.bool s7, .slice A7 n7 c7]) (S) from hF_w9.1.2)
  have H8 := Lib.hid (show IsC w9 (.agg #[.bool s8, .slice A8 n8 c8]) (E) from hF_w9.2)
  have HB9 := Lib.hid (HB4.out.trans (hb_w9.mono (by have := HB4.out.size; omega)))
  have hz9 : w.heap.size + 1 + 1 + 1 ≤ w9.heap.size := by omega
  clear hF_w9 hb_w9
  clear c_w4_0_0 c_w4_0_1 c_w4_0_2 c_w4_0_3 c_w4_0_4 c_w4_0_5 fz_w4_0 hl_w4_0 c_w4_1_0 c_w4_1_1 fz_w4_1 hl_w4_1 c_w4_2_0 c_w4_2_1 fz_w4_2 hl_w4_2
  go_wp2_with fail
  refine HQ_.out _ _ _ ?_
  clear HQ_ Q_
  go_wp2_with fail
  -- own blocks: w.heap.size + 1:2, w.heap.size + 1 + 1:2
  refine bodyPost_ret (v := .tuple #[.agg #[.bool s7, .slice A7 n7 c7], .agg #[.bool s8, .slice A8 n8 c8]]) (by simp only [results, Try.results41]; go_simp) rfl ⟨?_, ?_⟩
  · have hB := HB9.out; ((with_reducible (repeat (first | exact bR _ _ | refine bS ?_ ?_ _ | refine bA ?_ ?_ _ | refine bD ?_ | refine bT ?_ (by assumption) ?_ | refine bO (by assumption) ?_ ?_))) <;> (first | omega | (simp; done) | (simp <;> omega)))
  · exact ⟨_, _, rfl, (by ((repeat (first | (with_reducible exact H7.out) | (with_reducible refine IsC.al ?_ _) | (with_reducible apply IsC.st1))) <;> (first | (with_reducible assumption) | (intro _ e; cases e; done) | (go_simp; first | done | exact rfl)))), (by ((repeat (first | (with_reducible exact H8.out) | (with_reducible refine IsC.al ?_ _) | (with_reducible apply IsC.st1))) <;> (first | (with_reducible assumption) | (intro _ e; cases e; done) | (go_simp; first | done | exact rfl))))⟩
set_option maxRecDepth 100000 in
set_option maxHeartbeats 20000000 in
theorem atMost_yes (x y d n : Int) (v : Value) (w : World) (hu : RAt w v x y d) (hn : -9223372036854775808 ≤ n ∧ n ≤ 9223372036854775807) (lx : (canN x.natAbs).length ≤ 1000) (ly : (canN y.natAbs).length ≤ 1000) (ld : (canN d.natAbs).length ≤ 1000) (hle : x * x + y * y ≤ d * d * n) :
    Calls Try.prog 37 #[v, .int .i64 n] w fun e w' => e = .returned (.bool true) ∧ Below w.heap.size w w' := by
  have h0 := hu
  obtain ⟨spx, Apx, npx, cpx, spy, Apy, npy, cpy, spd, Apd, npd, cpd, rfl⟩ := hu.val
  have l1 := len_up (len_add (len_mul lx lx) (len_mul ly ly)) (show _ ≤ 3000 by omega)
  have l2 := len_up (len_mul ld ld) (show _ ≤ 3000 by omega)
  have l3 := len_up (len_wd (z := n) (by omega) (by omega)) (show _ ≤ 3000 by omega)
  have l4 := len_up (len_mul l2 l3) (show _ ≤ 6000 by omega)
  replace l1 := len_up l1 (show _ ≤ 6000 by omega)
  have k1 := fun v w h => square15_any x y d v w h lx ly ld
  have k2 := fun w => of_any n w hn.1 hn.2
  have k3 := fun u v w h1 h2 => times_any 3000 u v (d * d) n w h1 h2 (by omega)
  have k4 := fun u v w h1 h2 => cmp_any 6000 u v (x * x + y * y) (d * d * n) w h1 h2 (by omega)
  generalize x * x + y * y = S at *
  generalize d * d = E at *
  generalize E * n = T at *
  have hc : cmpI S T ≤ 0 ∧ -1 ≤ cmpI S T := by unfold cmpI; split <;> (try split) <;> omega
  obtain ⟨hc1, hc2⟩ := hc
  generalize cmpI S T = cm at *
  have K1 := Lib.hid k1
  have K2 := Lib.hid k2
  have K3 := Lib.hid k3
  have K4 := Lib.hid k4
  have H0 := Lib.hid h0
  have L1 := Lib.hid l1
  have L2 := Lib.hid l2
  have L3 := Lib.hid l3
  have L4 := Lib.hid l4
  clear k1 k2 k3 k4 h0 hu l1 l2 l3 l4 lx ly ld hn hle
  -- names on
  go_enter Try.func37, Try.ntmps37; (try simp only [List.append_eq, List.cons_append, List.nil_append])
  go_wp2_with fail
  -- own blocks: 
  (go_at_call 41; refine (K1.out _ _ ((show RAt _ (.agg #[.bool spx, .slice Apx npx cpx, .bool spy, .slice Apy npy cpy, .bool spd, .slice Apd npd cpd]) (x) (y) (d) by ((repeat (first | (with_reducible exact H0.out) | (with_reducible refine RAt.al ?_ _) | (with_reducible apply RAt.st1))) <;> (first | (with_reducible assumption) | (intro _ e; cases e; done) | (go_simp; first | done | exact rfl)))))).mono ?_; rintro e w4 ⟨hb_w4, u4, v4, rfl, hu4, hv4⟩; have hz_w4 := hb_w4.size; (try simp at hz_w4); skip)
  obtain ⟨s4u, A4u, n4u, c4u, rfl⟩ := IsC.val hu4
  obtain ⟨s4, A4, n4, c4, rfl⟩ := IsC.val hv4
  clear H0
  have HB4 := Lib.hid (show Below w.heap.size w w4 by ((with_reducible (repeat (first | exact bR _ _ | refine bS ?_ ?_ _ | refine bA ?_ ?_ _ | refine bD ?_ | refine bT ?_ (by assumption) ?_ | refine bO (by assumption) ?_ ?_))) <;> (first | omega | (simp; done) | (simp <;> omega))))
  have hz4 : w.heap.size + 1 ≤ w4.heap.size := by omega
  clear hb_w4
  skip
  have H4u := Lib.hid (show IsC w4 (.agg #[.bool s4u, .slice A4u n4u c4u]) (S) from hu4)
  clear hu4
  have H4 := Lib.hid (show IsC w4 (.agg #[.bool s4, .slice A4 n4 c4]) (E) from hv4)
  clear hv4
  go_wp2_with fail
  -- own blocks: w4.heap.size:2, w4.heap.size + 1:2
  (refine pin_wp (N := _) (Nat.le_refl _) (fun w5 hb_w5 hz_w5 => ?_); (try simp at hz_w5); (with_reducible apply cel2 (b := w4.heap.size) hb_w5); (focus ((try simp) <;> omega)); (focus omega); (focus (go_simp; try exact rfl)); (focus (go_simp; try exact rfl)); (focus (intro o; go_simp)); intro c_w5_0_0 c_w5_0_1 fz_w5_0 hl_w5_0; (with_reducible apply cel2 (b := w4.heap.size + 1) hb_w5); (focus ((try simp) <;> omega)); (focus omega); (focus (go_simp; try exact rfl)); (focus (go_simp; try exact rfl)); (focus (intro o; go_simp)); intro c_w5_1_0 c_w5_1_1 fz_w5_1 hl_w5_1); refine wp_q (fun Q_ HQ_ => ?_); refine wp_region_floatQ w5.heap.size 8 [] (Nat.le_refl _) (fun _ => True) trivial Cl.tt (by kernel_rfl) (by kernel_rfl) ?_
  replace H4u := Lib.hid (IsC.below (v := .agg #[.bool s4u, .slice A4u n4u c4u]) (z := S) (by ((repeat (first | (with_reducible exact H4u.out) | (with_reducible refine IsC.al ?_ _) | (with_reducible apply IsC.st1))) <;> (first | (with_reducible assumption) | (intro _ e; cases e; done) | (go_simp; first | done | exact rfl)))) hb_w5)
  replace H4 := Lib.hid (IsC.below (v := .agg #[.bool s4, .slice A4 n4 c4]) (z := E) (by ((repeat (first | (with_reducible exact H4.out) | (with_reducible refine IsC.al ?_ _) | (with_reducible apply IsC.st1))) <;> (first | (with_reducible assumption) | (intro _ e; cases e; done) | (go_simp; first | done | exact rfl)))) hb_w5)
  have HB5 := Lib.hid (show Below w.heap.size w w5 by have hB := HB4.out; ((with_reducible (repeat (first | exact bR _ _ | refine bS ?_ ?_ _ | refine bA ?_ ?_ _ | refine bD ?_ | refine bT ?_ (by assumption) ?_ | refine bO (by assumption) ?_ ?_))) <;> (first | omega | (simp; done) | (simp <;> omega))))
  have hz5 : w.heap.size + 1 ≤ w5.heap.size := by omega
  clear hb_w5
  skip
  refine wpQI_start [0, 1, 2] ?_; (iterate 3 (first | (refine wpQI_off (by with_reducible (refine List.getElem?_toArray.trans ?_; (repeat (first | exact List.getElem?_cons_zero | refine List.getElem?_cons_succ.trans ?_)))) (by kernel_rfl) (by exact rfl) (fun K hK => ?_); go_simp; refine hK _ ?_; clear hK K) | ((first | apply wpQI_step (by with_reducible (refine List.getElem?_toArray.trans ?_; (repeat (first | exact List.getElem?_cons_zero | refine List.getElem?_cons_succ.trans ?_)))) (by kernel_rfl) (by exact rfl) | apply wpQI_on (by with_reducible (refine List.getElem?_toArray.trans ?_; (repeat (first | exact List.getElem?_cons_zero | refine List.getElem?_cons_succ.trans ?_)))) (by kernel_rfl) (by exact rfl)); (focus (intro W' hS; have hcS := hS.cells.1; have hfS := hS.cells.2; go_simp; (first | done | exact rfl | exact ⟨rfl, Below.refl _ _⟩ | (go_simp; first | done | exact rfl | exact ⟨rfl, Below.refl _ _⟩)))); intro K hK; go_simp; (try go_bits); refine hK _ ?_; clear hK K))); refine wpQI_nil ?_
  apply wpQ_call (i := 3) (by with_reducible (refine List.getElem?_toArray.trans ?_; (repeat (first | exact List.getElem?_cons_zero | refine List.getElem?_cons_succ.trans ?_)))) (by kernel_rfl) (by exact rfl); intro W hF hS; have hcS := hS.1.cells.1; have hfS := hS.1.cells.2; go_simp; (go_at_call 44; refine (K2.out _).mono ?_; rintro e w6 ⟨hb_w6, v6, rfl, hv6⟩; refine XPost.mk _ (fun W => IsC W v6 (n)) hb_w6 (hv6) (IsC.cl _ _) ?_); clear hb_w6 hcS hfS hS hF
  intro K hK; go_simp; (try go_bits); refine hK _ ?_; clear hK K
  obtain ⟨s6, A6, n6, c6, rfl⟩ := IsC.val hv6
  clear hv6
  apply wpQ_call (i := 4) (by with_reducible (refine List.getElem?_toArray.trans ?_; (repeat (first | exact List.getElem?_cons_zero | refine List.getElem?_cons_succ.trans ?_)))) (by kernel_rfl) (by exact rfl); intro W hF hS; have hcS := hS.1.cells.1; have hfS := hS.1.cells.2; go_simp; (go_at_call 43; refine (K3.out _ _ _ ((H4.out.below hS.1.2).zl L2.out) (hF.zl L3.out)).mono ?_; rintro e w7 ⟨hb_w7, v7, rfl, hv7⟩; refine XPost.mk _ (fun W => IsC W v7 (T)) hb_w7 (hv7) (IsC.cl _ _) ?_); clear hb_w7 hcS hfS hS hF
  intro K hK; go_simp; (try go_bits); refine hK _ ?_; clear hK K
  obtain ⟨s7, A7, n7, c7, rfl⟩ := IsC.val hv7
  clear hv7
  apply wpQ_call (i := 5) (by with_reducible (refine List.getElem?_toArray.trans ?_; (repeat (first | exact List.getElem?_cons_zero | refine List.getElem?_cons_succ.trans ?_)))) (by kernel_rfl) (by exact rfl); intro W hF hS; have hcS := hS.1.cells.1; have hfS := hS.1.cells.2; go_simp; (go_at_call 45; refine (K4.out _ _ _ ((H4u.out.below hS.1.2).zl L1.out) (hF.2.zl L4.out)).mono ?_; rintro e w8 ⟨rfl, hb_w8⟩; refine XPost.mk _ (fun _ => True) hb_w8 (trivial) (Cl.tt) ?_); clear hb_w8 hcS hfS hS hF
  intro K hK; go_simp; (try go_bits); refine hK _ ?_; clear hK K
  refine wpQI_start [6, 7] ?_; (iterate 2 (first | (refine wpQI_off (by with_reducible (refine List.getElem?_toArray.trans ?_; (repeat (first | exact List.getElem?_cons_zero | refine List.getElem?_cons_succ.trans ?_)))) (by kernel_rfl) (by exact rfl) (fun K hK => ?_); go_simp; refine hK _ ?_; clear hK K) | ((first | apply wpQI_step (by with_reducible (refine List.getElem?_toArray.trans ?_; (repeat (first | exact List.getElem?_cons_zero | refine List.getElem?_cons_succ.trans ?_)))) (by kernel_rfl) (by exact rfl) | apply wpQI_on (by with_reducible (refine List.getElem?_toArray.trans ?_; (repeat (first | exact List.getElem?_cons_zero | refine List.getElem?_cons_succ.trans ?_)))) (by kernel_rfl) (by exact rfl)); (focus (intro W' hS; have hcS := hS.cells.1; have hfS := hS.cells.2; go_simp; (first | done | exact rfl | exact ⟨rfl, Below.refl _ _⟩ | (go_simp; first | done | exact rfl | exact ⟨rfl, Below.refl _ _⟩)))); intro K hK; go_simp; (try go_bits); refine hK _ ?_; clear hK K))); refine wpQI_nil ?_
  refine wpQ_done (by kernel_rfl) ?_
  intro w9 hF_w9 hSG
  have hz_w9 := hSG.1.1
  have hb_w9 := hSG.1.2
  clear hSG
  (with_reducible apply cel2 (b := w4.heap.size) hb_w9); (focus ((try simp) <;> omega)); (focus omega); (focus (go_simp; try exact rfl)); (focus (go_simp; try exact rfl)); (focus (intro o; go_simp)); intro c_w9_0_0 c_w9_0_1 fz_w9_0 hl_w9_0; (with_reducible apply cel2 (b := w4.heap.size + 1) hb_w9); (focus ((try simp) <;> omega)); (focus omega); (focus (go_simp; try exact rfl)); (focus (go_simp; try exact rfl)); (focus (intro o; go_simp)); intro c_w9_1_0 c_w9_1_1 fz_w9_1 hl_w9_1
  (try simp only [List.filterMap_nil])
  clear H4u
  clear H4
  have H6 := Lib.hid (show IsC w9 (.agg #[.bool s6, .slice A6 n6 c6]) (n) from hF_w9.1.1)
  have H7 := Lib.hid (show IsC w9 (.agg #[.bool s7, .slice A7 n7 c7]) (T) from hF_w9.1.2)
  have HB9 := Lib.hid (HB5.out.trans (hb_w9.mono (by have := HB5.out.size; omega)))
  have hz9 : w.heap.size + 1 ≤ w9.heap.size := by omega
  clear hF_w9 hb_w9
  clear c_w5_0_0 c_w5_0_1 fz_w5_0 hl_w5_0 c_w5_1_0 c_w5_1_1 fz_w5_1 hl_w5_1
  go_wp2_with fail
  refine HQ_.out _ _ _ ?_
  clear HQ_ Q_
  go_wp2_with fail
  -- own blocks: 
  refine bodyPost_ret (v := .bool true) (by simp only [results, Try.results37]; go_simp) rfl ⟨?_, ?_⟩
  · rfl
  · have hB := HB9.out; ((with_reducible (repeat (first | exact bR _ _ | refine bS ?_ ?_ _ | refine bA ?_ ?_ _ | refine bD ?_ | refine bT ?_ (by assumption) ?_ | refine bO (by assumption) ?_ ?_))) <;> (first | omega | (simp; done) | (simp <;> omega)))
set_option maxRecDepth 100000 in
set_option maxHeartbeats 20000000 in
theorem permitted15_any (v1 v2 n1 n2 : Int) (w : World) :
    Calls Try.prog 33 #[.agg #[.int .i64 v1, .int .i64 v2], .agg #[.int .i64 n1, .int .i64 n2]] w fun e w' => e = .returned (.bool (withinB v1 v2 1048576 && withinB n1 n2 2097152)) ∧ Below w.heap.size w w' := by
  have k1 := fun w => rspeed_any v1 v2 w
  have k2 := fun w => rdirection_any n1 n2 w
  generalize withinB v1 v2 1048576 = c1 at *
  generalize withinB n1 n2 2097152 = c2 at *
  have K1 := Lib.hid k1
  have K2 := Lib.hid k2
  clear k1 k2
  go_enter Try.func33, Try.ntmps33; (try simp only [List.append_eq, List.cons_append, List.nil_append])
  go_wp2_with fail
  -- own blocks: w.heap.size:2, w.heap.size + 1:2
  (go_at_call 34; refine (K1.out _).mono ?_; rintro e w1 ⟨rfl, hb_w1⟩; have hz_w1 := hb_w1.size; (try simp at hz_w1); (with_reducible apply cel2 (b := w.heap.size) hb_w1); (focus ((try simp) <;> omega)); (focus omega); (focus (go_simp; try exact rfl)); (focus (go_simp; try exact rfl)); (focus (intro o; go_simp)); intro c_w1_0_0 c_w1_0_1 fz_w1_0 hl_w1_0; (with_reducible apply cel2 (b := w.heap.size + 1) hb_w1); (focus ((try simp) <;> omega)); (focus omega); (focus (go_simp; try exact rfl)); (focus (go_simp; try exact rfl)); (focus (intro o; go_simp)); intro c_w1_1_0 c_w1_1_1 fz_w1_1 hl_w1_1)
  cases c1
  · go_wp2_with fail
    go_ret
    exact ⟨rfl, by ((with_reducible (repeat (first | exact bR _ _ | refine bS ?_ ?_ _ | refine bA ?_ ?_ _ | refine bD ?_ | refine bT ?_ (by assumption) ?_ | refine bO (by assumption) ?_ ?_))) <;> (first | omega | (simp; done) | (simp <;> omega)))⟩
  · go_wp2_with fail
    (go_at_call 71; refine (K2.out _).mono ?_; rintro e w2 ⟨rfl, hb_w2⟩; have hz_w2 := hb_w2.size; (try simp at hz_w2); (with_reducible apply cel2 (b := w.heap.size) hb_w2); (focus ((try simp) <;> omega)); (focus omega); (focus (go_simp; try exact rfl)); (focus (go_simp; try exact rfl)); (focus (intro o; go_simp)); intro c_w2_0_0 c_w2_0_1 fz_w2_0 hl_w2_0; (with_reducible apply cel2 (b := w.heap.size + 1) hb_w2); (focus ((try simp) <;> omega)); (focus omega); (focus (go_simp; try exact rfl)); (focus (go_simp; try exact rfl)); (focus (intro o; go_simp)); intro c_w2_1_0 c_w2_1_1 fz_w2_1 hl_w2_1)
    go_wp2_with fail
    go_ret
    exact ⟨by cases c2 <;> rfl, by ((with_reducible (repeat (first | exact bR _ _ | refine bS ?_ ?_ _ | refine bA ?_ ?_ _ | refine bD ?_ | refine bT ?_ (by assumption) ?_ | refine bO (by assumption) ?_ ?_))) <;> (first | omega | (simp; done) | (simp <;> omega)))⟩
def partR (n : Int) : Int := n % 16
theorem partR_bd (n : Int) : 0 ≤ partR n ∧ partR n ≤ 15 := by unfold partR; omega
set_option maxRecDepth 100000 in
set_option maxHeartbeats 20000000 in
theorem part15_any (n : Int) (w : World) :
    Calls Try.prog 35 #[.int .i64 n] w fun e w' => e = .returned (.int .i64 (partR n)) ∧ Below w.heap.size w w' := by
  have h := partR_bd n
  obtain ⟨m, hm⟩ : ∃ m, m = n.tmod 16 := ⟨_, rfl⟩
  have hm' := hm.symm
  have e : (0 ≤ n ∧ m = n % 16) ∨ (n < 0 ∧ m = -((-n) % 16)) := by
    rcases Int.lt_or_le n 0 with g | g
    · refine .inr ⟨g, ?_⟩
      rw [hm, ← Int.tmod_eq_emod_of_nonneg (show 0 ≤ -n by omega), Int.neg_tmod, Int.neg_neg]
    · exact .inl ⟨g, by rw [hm, Int.tmod_eq_emod_of_nonneg g]⟩
  have hp : partR n = if m < 0 then m + 16 else m := by unfold partR; split <;> omega
  have hb : -16 < m ∧ m < 16 := by omega
  clear e
  obtain ⟨b1, b2⟩ := hb
  clear hm
  by_cases g : m < 0
  · rw [if_pos g] at hp
    rw [hp]
    clear hp h
    go_enter Try.func35, Try.ntmps35; (try simp only [List.append_eq, List.cons_append, List.nil_append])
    go_wp2_with fail
    go_ret
    exact ⟨rfl, by ((with_reducible (repeat (first | exact bR _ _ | refine bS ?_ ?_ _ | refine bA ?_ ?_ _ | refine bD ?_ | refine bT ?_ (by assumption) ?_ | refine bO (by assumption) ?_ ?_))) <;> (first | omega | (simp; done) | (simp <;> omega)))⟩
  · rw [if_neg g] at hp
    rw [hp]
    clear hp h
    go_enter Try.func35, Try.ntmps35; (try simp only [List.append_eq, List.cons_append, List.nil_append])
    go_wp2_with fail
    go_ret
    exact ⟨rfl, by ((with_reducible (repeat (first | exact bR _ _ | refine bS ?_ ?_ _ | refine bA ?_ ?_ _ | refine bD ?_ | refine bT ?_ (by assumption) ?_ | refine bO (by assumption) ?_ ?_))) <;> (first | omega | (simp; done) | (simp <;> omega)))⟩
end Go.Proofs.Ytklkhnhieihfoaa
namespace Go.Proofs.Ytklkhnhieihfoaa
open Go Go.RowKit
set_option linter.unusedVariables false
theorem trunc_one (r : Int × Int × Int) (g : Nat) (w : World) (spx : Bool) (Apx : Option Addr) (npx cpx : Nat) (spy : Bool) (Apy : Option Addr) (npy cpy : Nat) (spd : Bool) (Apd : Option Addr) (npd cpd : Nat) (hok : Val r) (hm : withinB (meanR [r]).1 (meanR [r]).2 1073741824 = true) (hg : g < w.heap.size) (hp0 : w.cell? ⟨g, 0, none⟩ = some (.bool spx)) (hp1 : w.cell? ⟨g, 1, none⟩ = some (.slice Apx npx cpx)) (hp2 : w.cell? ⟨g, 2, none⟩ = some (.bool spy)) (hp3 : w.cell? ⟨g, 3, none⟩ = some (.slice Apy npy cpy)) (hp4 : w.cell? ⟨g, 4, none⟩ = some (.bool spd)) (hp5 : w.cell? ⟨g, 5, none⟩ = some (.slice Apd npd cpd)) (hR : RAt w (.agg #[.bool spx, .slice Apx npx cpx, .bool spy, .slice Apy npy cpy, .bool spd, .slice Apd npd cpd]) r.1 r.2.1 r.2.2) :
    Calls Try.prog 36 #[.slice (some ⟨g, 0, none⟩) 1 1] w fun e w' => e = .returned (.tuple #[.agg #[.int .i64 (meanR [r]).1, .int .i64 (meanR [r]).2], .bool true]) ∧ Below w.heap.size w w' :=
  trunc_ok [r] (some ⟨g, 0, none⟩) 1 w (by simp) (by simp) (fun k x hx => by
    rcases k with _ | k
    · simp only [List.getElem?_cons_zero, Option.some.injEq] at hx
      subst hx
      exact ⟨g, 0, rfl, hg, _, _, _, _, _, _, _, _, _, _, _, _, by simpa using hp0, by simpa using hp1, by simpa using hp2, by simpa using hp3, by simpa using hp4, by simpa using hp5, hR⟩
    · simp at hx) (by simpa using hok) hm
end Go.Proofs.Ytklkhnhieihfoaa
namespace Go.Proofs.Ytklkhnhieihfoaa
open Go Go.RowKit
set_option linter.unusedVariables false
theorem lowG_pos (x y d : Int) (hd : 0 < d) : (0 : Int) < lowG x y d := by
  unfold lowG
  have : 0 < Nat.gcd (Nat.gcd x.natAbs y.natAbs) d.natAbs := Nat.gcd_pos_of_pos_right _ (by omega)
  omega
theorem lowG_dvd (x y d : Int) : (lowG x y d : Int) ∣ x ∧ (lowG x y d : Int) ∣ y ∧ (lowG x y d : Int) ∣ d := by
  unfold lowG
  have h1 : Nat.gcd (Nat.gcd x.natAbs y.natAbs) d.natAbs ∣ Nat.gcd x.natAbs y.natAbs := Nat.gcd_dvd_left _ _
  exact ⟨Int.ofNat_dvd_left.2 (Nat.dvd_trans h1 (Nat.gcd_dvd_left _ _)), Int.ofNat_dvd_left.2 (Nat.dvd_trans h1 (Nat.gcd_dvd_right _ _)), Int.ofNat_dvd_left.2 (Nat.gcd_dvd_right _ _)⟩
/-- The numbers of a fraction are a multiple of those of its lowest form. -/
theorem lowR_mul (x y d : Int) (hd : 0 < d) : ∃ G : Int, 0 < G ∧ x = G * (lowR x y d).1 ∧ y = G * (lowR x y d).2.1 ∧ d = G * (lowR x y d).2.2 ∧ 0 < (lowR x y d).2.2 := by
  obtain ⟨h1, h2, h3⟩ := lowG_dvd x y d
  have hp := lowG_pos x y d hd
  have e3 : d = (lowG x y d : Int) * (lowR x y d).2.2 := (Int.mul_tdiv_cancel' h3).symm
  refine ⟨lowG x y d, hp, (Int.mul_tdiv_cancel' h1).symm, (Int.mul_tdiv_cancel' h2).symm, e3, ?_⟩
  rcases Int.lt_or_le 0 (lowR x y d).2.2 with h | h
  · exact h
  · have := Int.mul_le_mul_of_nonneg_left h (Int.le_of_lt hp)
    rw [Int.mul_zero, ← e3] at this
    omega
theorem sq_nn (x : Int) : 0 ≤ x * x := by
  rcases Int.le_total 0 x with h | h
  · exact Int.mul_nonneg h h
  · exact Int.mul_nonneg_of_nonpos_of_nonpos h h
theorem sq_le {t B : Int} (hB : 0 ≤ B) (h : t * t ≤ B * B) : -B ≤ t ∧ t ≤ B := by
  constructor
  · rcases Int.lt_or_le t (-B) with g | g
    · exfalso
      have : (B + 1) * (B + 1) ≤ (-t) * (-t) := Int.mul_le_mul (by omega) (by omega) (by omega) (by omega)
      rw [Int.neg_mul_neg] at this
      have e : (B + 1) * (B + 1) = B * B + 2 * B + 1 := by grind
      omega
    · exact g
  · rcases Int.lt_or_le B t with g | g
    · exfalso
      have : (B + 1) * (B + 1) ≤ t * t := Int.mul_le_mul (by omega) (by omega) (by omega) (by omega)
      have e : (B + 1) * (B + 1) = B * B + 2 * B + 1 := by grind
      omega
    · exact g
/-- The square of the length is at most n. -/
def Leq (r : Int × Int × Int) (n : Int) : Prop := r.1 * r.1 + r.2.1 * r.2.1 ≤ r.2.2 * r.2.2 * n
theorem leq_low {x y d n : Int} (hd : 0 < d) (h : x * x + y * y ≤ d * d * n) : Leq (lowR x y d) n := by
  obtain ⟨G, hG, e1, e2, e3, hd'⟩ := lowR_mul x y d hd
  unfold Leq
  generalize (lowR x y d).1 = x' at *
  generalize (lowR x y d).2.1 = y' at *
  generalize (lowR x y d).2.2 = d' at *
  subst e1 e2 e3
  have h2 : G * G * (x' * x' + y' * y') ≤ G * G * (d' * d' * n) := by
    have a : G * G * (x' * x' + y' * y') = G * x' * (G * x') + G * y' * (G * y') := by grind
    have b : G * G * (d' * d' * n) = G * d' * (G * d') * n := by grind
    rw [a, b]; exact h
  exact Int.le_of_mul_le_mul_left h2 (Int.mul_pos hG hG)
/-- A response relative to the surface. -/
theorem rel_leq (u1 u2 n1 n2 e g : Int) (he : 0 ≤ e ∧ e ≤ 15) (hg : 0 ≤ g ∧ g ≤ 15) :
    ((16 - g) * u1 * (n1 * n1 + n2 * n2) - (16 + e - g) * n1 * (u1 * n1 + u2 * n2)) * ((16 - g) * u1 * (n1 * n1 + n2 * n2) - (16 + e - g) * n1 * (u1 * n1 + u2 * n2)) +
    ((16 - g) * u2 * (n1 * n1 + n2 * n2) - (16 + e - g) * n2 * (u1 * n1 + u2 * n2)) * ((16 - g) * u2 * (n1 * n1 + n2 * n2) - (16 + e - g) * n2 * (u1 * n1 + u2 * n2)) ≤
    (16 * (n1 * n1 + n2 * n2)) * (16 * (n1 * n1 + n2 * n2)) * (u1 * u1 + u2 * u2) := by
  have m0 : 0 ≤ n1 * n1 + n2 * n2 := by have := sq_nn n1; have := sq_nn n2; omega
  have s0 := sq_nn (u1 * n2 - u2 * n1)
  have c0 := sq_nn (u1 * n1 + u2 * n2)
  have id1 : ((16 - g) * u1 * (n1 * n1 + n2 * n2) - (16 + e - g) * n1 * (u1 * n1 + u2 * n2)) * ((16 - g) * u1 * (n1 * n1 + n2 * n2) - (16 + e - g) * n1 * (u1 * n1 + u2 * n2)) +
    ((16 - g) * u2 * (n1 * n1 + n2 * n2) - (16 + e - g) * n2 * (u1 * n1 + u2 * n2)) * ((16 - g) * u2 * (n1 * n1 + n2 * n2) - (16 + e - g) * n2 * (u1 * n1 + u2 * n2)) =
    (16 - g) * (16 - g) * ((n1 * n1 + n2 * n2) * ((u1 * n2 - u2 * n1) * (u1 * n2 - u2 * n1))) + e * e * ((n1 * n1 + n2 * n2) * ((u1 * n1 + u2 * n2) * (u1 * n1 + u2 * n2))) := by grind
  have id2 : (16 * (n1 * n1 + n2 * n2)) * (16 * (n1 * n1 + n2 * n2)) * (u1 * u1 + u2 * u2) =
    256 * ((n1 * n1 + n2 * n2) * ((u1 * n2 - u2 * n1) * (u1 * n2 - u2 * n1))) + 256 * ((n1 * n1 + n2 * n2) * ((u1 * n1 + u2 * n2) * (u1 * n1 + u2 * n2))) := by grind
  rw [id1, id2]
  have a := Int.mul_le_mul_of_nonneg_right (show (16 - g) * (16 - g) ≤ 256 from Int.mul_le_mul (a := 16 - g) (c := 16) (b := 16 - g) (d := 16) (by omega) (by omega) (by omega) (by omega)) (Int.mul_nonneg m0 s0)
  have b := Int.mul_le_mul_of_nonneg_right (show e * e ≤ 256 from Int.mul_le_mul (a := e) (c := 16) (b := e) (d := 16) (by omega) (by omega) (by omega) (by omega)) (Int.mul_nonneg m0 c0)
  omega
theorem part_six (n : Int) : sixB (partR n) = true := by simp only [sixB, decide_eq_true_eq]; exact partR_bd n
theorem sumR_lens {a b : Int × Int × Int} (ha : Lens a) (hb : Lens b) (hd : 0 < a.2.2 * b.2.2) : 0 < (sumR a b).2.2 ∧ (canN (sumR a b).1.natAbs).length ≤ 30 ∧ (canN (sumR a b).2.1.natAbs).length ≤ 30 ∧ (canN (sumR a b).2.2.natAbs).length ≤ 30 := by
  obtain ⟨h1, h2, h3⟩ := ha
  obtain ⟨g1, g2, g3⟩ := hb
  exact lowR_bd (n := 30) hd (len_up (len_add (len_mul h1 g3) (len_mul g1 h3)) (by omega)) (len_up (len_add (len_mul h2 g3) (len_mul g2 h3)) (by omega)) (len_up (len_mul h3 g3) (by omega))
/-- Energy relative to the surface. -/
theorem stat_rel {v1 v2 w1 w2 n1 n2 e g : Int} (hp : permB v1 v2 w1 w2 n1 n2 = true) (he : sixB e = true) (hg : sixB g = true) :
    Leq (sumR (statR v1 v2 w1 w2 n1 n2 e g) (-w1, -w2, 1)) ((v1 - w1) * (v1 - w1) + (v2 - w2) * (v2 - w2)) := by
  unfold sumR
  cases ha : apprB v1 v2 w1 w2 n1 n2
  · rw [statR_off hp ha he hg]
    refine leq_low (by simp only; omega) ?_
    simp only
    apply Int.le_of_eq
    grind
  · rw [statR_on ha he hg]
    obtain ⟨_, _, q⟩ := appr_bd ha
    simp only [sixB, decide_eq_true_eq] at he hg
    have hrel := rel_leq (v1 - w1) (v2 - w2) n1 n2 e g he hg
    obtain ⟨G, hG, e1, e2, e3, hd⟩ := lowR_mul (statX v1 (v1 - w1) n1 (n1 * n1 + n2 * n2) ((v1 - w1) * n1 + (v2 - w2) * n2) e g) (statX v2 (v2 - w2) n2 (n1 * n1 + n2 * n2) ((v1 - w1) * n1 + (v2 - w2) * n2) e g) (16 * (n1 * n1 + n2 * n2)) (by omega)
    generalize hL : lowR (statX v1 (v1 - w1) n1 (n1 * n1 + n2 * n2) ((v1 - w1) * n1 + (v2 - w2) * n2) e g) (statX v2 (v2 - w2) n2 (n1 * n1 + n2 * n2) ((v1 - w1) * n1 + (v2 - w2) * n2) e g) (16 * (n1 * n1 + n2 * n2)) = L at *
    obtain ⟨x, y, d⟩ := L
    simp only at e1 e2 e3 hd ⊢
    refine leq_low (by omega) ?_
    have h2 : G * G * ((x * 1 + -w1 * d) * (x * 1 + -w1 * d) + (y * 1 + -w2 * d) * (y * 1 + -w2 * d)) ≤ G * G * (d * 1 * (d * 1) * ((v1 - w1) * (v1 - w1) + (v2 - w2) * (v2 - w2))) := by
      have r1 : G * (x * 1 + -w1 * d) = (16 - g) * (v1 - w1) * (n1 * n1 + n2 * n2) - (16 + e - g) * n1 * ((v1 - w1) * n1 + (v2 - w2) * n2) := by
        have : G * (x * 1 + -w1 * d) = G * x - w1 * (G * d) := by grind
        rw [this, ← e1, ← e3]; unfold statX; grind
      have r2 : G * (y * 1 + -w2 * d) = (16 - g) * (v2 - w2) * (n1 * n1 + n2 * n2) - (16 + e - g) * n2 * ((v1 - w1) * n1 + (v2 - w2) * n2) := by
        have : G * (y * 1 + -w2 * d) = G * y - w2 * (G * d) := by grind
        rw [this, ← e2, ← e3]; unfold statX; grind
      have a : G * G * ((x * 1 + -w1 * d) * (x * 1 + -w1 * d) + (y * 1 + -w2 * d) * (y * 1 + -w2 * d)) = G * (x * 1 + -w1 * d) * (G * (x * 1 + -w1 * d)) + G * (y * 1 + -w2 * d) * (G * (y * 1 + -w2 * d)) := by grind
      have b : G * G * (d * 1 * (d * 1) * ((v1 - w1) * (v1 - w1) + (v2 - w2) * (v2 - w2))) = G * d * (G * d) * ((v1 - w1) * (v1 - w1) + (v2 - w2) * (v2 - w2)) := by grind
      rw [a, b, r1, r2, ← e3]
      exact hrel
    exact Int.le_of_mul_le_mul_left h2 (Int.mul_pos hG hG)
theorem stat_leq {v1 v2 n1 n2 e g : Int} (hp : permB v1 v2 0 0 n1 n2 = true) (he : sixB e = true) (hg : sixB g = true) : Leq (statR v1 v2 0 0 n1 n2 e g) (v1 * v1 + v2 * v2) := by
  cases ha : apprB v1 v2 0 0 n1 n2
  · rw [statR_off hp ha he hg]
    unfold Leq
    simp only
    omega
  · rw [statR_on ha he hg]
    obtain ⟨_, _, q⟩ := appr_bd ha
    simp only [sixB, decide_eq_true_eq] at he hg
    have hrel := rel_leq v1 v2 n1 n2 e g he hg
    refine leq_low (by omega) ?_
    simp only [Int.sub_zero]
    have r1 : statX v1 v1 n1 (n1 * n1 + n2 * n2) (v1 * n1 + v2 * n2) e g = (16 - g) * v1 * (n1 * n1 + n2 * n2) - (16 + e - g) * n1 * (v1 * n1 + v2 * n2) := by unfold statX; grind
    have r2 : statX v2 v2 n2 (n1 * n1 + n2 * n2) (v1 * n1 + v2 * n2) e g = (16 - g) * v2 * (n1 * n1 + n2 * n2) - (16 + e - g) * n2 * (v1 * n1 + v2 * n2) := by unfold statX; grind
    rw [r1, r2]
    exact hrel
/-- Truncation makes no vector longer. -/
theorem tdiv_sq (a b : Int) (hb : 0 < b) : a.tdiv b * a.tdiv b * (b * b) ≤ a * a := by
  have h1 : (a.tdiv b).natAbs * b.natAbs ≤ a.natAbs := by rw [Int.natAbs_tdiv]; exact Nat.div_mul_le_self _ _
  have h2 := Nat.mul_le_mul h1 h1
  have h3 : (((a.tdiv b).natAbs * b.natAbs * ((a.tdiv b).natAbs * b.natAbs) : Nat) : Int) ≤ ((a.natAbs * a.natAbs : Nat) : Int) := by exact_mod_cast h2
  rw [← Int.natAbs_mul, Int.natAbs_mul_self, Int.natAbs_mul_self] at h3
  have e : a.tdiv b * a.tdiv b * (b * b) = a.tdiv b * b * (a.tdiv b * b) := by grind
  rw [e]; exact h3
theorem mean_sq {r : Int × Int × Int} (hd : 0 < r.2.2) : ((meanR [r]).1 * (meanR [r]).1 + (meanR [r]).2 * (meanR [r]).2) * (r.2.2 * r.2.2) ≤ r.1 * r.1 + r.2.1 * r.2.1 := by
  obtain ⟨x, y, d⟩ := r
  simp only at hd ⊢
  have e : meanR [(x, y, d)] = ((lowR x y d).1.tdiv (lowR x y d).2.2, (lowR x y d).2.1.tdiv (lowR x y d).2.2) := by
    unfold meanR meanS sumR
    simp only [List.foldl_cons, List.foldl_nil, List.length_singleton, Int.zero_mul, Int.zero_add, Int.mul_one, Int.one_mul, Int.natCast_one]
  rw [e]
  obtain ⟨G, hG, e1, e2, e3, hd'⟩ := lowR_mul x y d hd
  generalize (lowR x y d).1 = x' at *
  generalize (lowR x y d).2.1 = y' at *
  generalize (lowR x y d).2.2 = d' at *
  simp only
  have a := tdiv_sq x' d' hd'
  have b := tdiv_sq y' d' hd'
  generalize x'.tdiv d' = p at *
  generalize y'.tdiv d' = q at *
  subst e1 e2 e3
  have h0 : (p * p + q * q) * (d' * d') = p * p * (d' * d') + q * q * (d' * d') := by grind
  have h2 : G * G * ((p * p + q * q) * (d' * d')) ≤ G * G * (x' * x' + y' * y') := Int.mul_le_mul_of_nonneg_left (by omega) (sq_nn G)
  have c : (p * p + q * q) * (G * d' * (G * d')) = G * G * ((p * p + q * q) * (d' * d')) := by grind
  have d : G * x' * (G * x') + G * y' * (G * y') = G * G * (x' * x' + y' * y') := by grind
  rw [c, d]; exact h2
theorem mean_leq {r : Int × Int × Int} {n : Int} (hd : 0 < r.2.2) (h : Leq r n) : (meanR [r]).1 * (meanR [r]).1 + (meanR [r]).2 * (meanR [r]).2 ≤ n := by
  have h1 := mean_sq hd
  unfold Leq at h
  have h2 : r.2.2 * r.2.2 * ((meanR [r]).1 * (meanR [r]).1 + (meanR [r]).2 * (meanR [r]).2) ≤ r.2.2 * r.2.2 * n := by
    rw [Int.mul_comm (r.2.2 * r.2.2) ((meanR [r]).1 * (meanR [r]).1 + (meanR [r]).2 * (meanR [r]).2)]; omega
  exact Int.le_of_mul_le_mul_left h2 (Int.mul_pos hd hd)
theorem within_sq {p q n B : Int} (h : p * p + q * q ≤ n) (hB : 0 ≤ B) (hn : n ≤ B * B) : withinB p q B = true := by
  have a := sq_nn p
  have b := sq_nn q
  have c := sq_le (t := p) hB (by omega)
  have d := sq_le (t := q) hB (by omega)
  simp only [withinB, decide_eq_true_eq]
  omega
/-- The energy of a pair. -/
theorem pair_leq {v1 v2 w1 w2 n1 n2 e : Int} (hp : permB v1 v2 w1 w2 n1 n2 = true) (he : sixB e = true) :
    ((pairR v1 v2 w1 w2 n1 n2 e).1.1 * (pairR v1 v2 w1 w2 n1 n2 e).1.1 + (pairR v1 v2 w1 w2 n1 n2 e).1.2.1 * (pairR v1 v2 w1 w2 n1 n2 e).1.2.1) * ((pairR v1 v2 w1 w2 n1 n2 e).2.2.2 * (pairR v1 v2 w1 w2 n1 n2 e).2.2.2) +
    ((pairR v1 v2 w1 w2 n1 n2 e).2.1 * (pairR v1 v2 w1 w2 n1 n2 e).2.1 + (pairR v1 v2 w1 w2 n1 n2 e).2.2.1 * (pairR v1 v2 w1 w2 n1 n2 e).2.2.1) * ((pairR v1 v2 w1 w2 n1 n2 e).1.2.2 * (pairR v1 v2 w1 w2 n1 n2 e).1.2.2) ≤
    ((pairR v1 v2 w1 w2 n1 n2 e).1.2.2 * (pairR v1 v2 w1 w2 n1 n2 e).1.2.2) * ((pairR v1 v2 w1 w2 n1 n2 e).2.2.2 * (pairR v1 v2 w1 w2 n1 n2 e).2.2.2) * (v1 * v1 + v2 * v2 + (w1 * w1 + w2 * w2)) := by
  cases ha : apprB v1 v2 w1 w2 n1 n2
  · rw [pairR_off hp ha he]
    simp only
    omega
  · rw [pairR_on ha he]
    obtain ⟨_, _, q⟩ := appr_bd ha
    simp only [sixB, decide_eq_true_eq] at he
    generalize hC : (v1 - w1) * n1 + (v2 - w2) * n2 = C at *
    generalize hM : n1 * n1 + n2 * n2 = M at *
    obtain ⟨G, hG, e1, e2, e3, hd⟩ := lowR_mul (pairX v1 n1 M C e (-1)) (pairX v2 n2 M C e (-1)) (32 * M) (by omega)
    obtain ⟨H, hH, f1, f2, f3, hd'⟩ := lowR_mul (pairX w1 n1 M C e 1) (pairX w2 n2 M C e 1) (32 * M) (by omega)
    have hcore : (pairX v1 n1 M C e (-1)) * (pairX v1 n1 M C e (-1)) + (pairX v2 n2 M C e (-1)) * (pairX v2 n2 M C e (-1)) + ((pairX w1 n1 M C e 1) * (pairX w1 n1 M C e 1) + (pairX w2 n2 M C e 1) * (pairX w2 n2 M C e 1)) ≤ (32 * M) * (32 * M) * (v1 * v1 + v2 * v2 + (w1 * w1 + w2 * w2)) := by
      have id : (pairX v1 n1 M C e (-1)) * (pairX v1 n1 M C e (-1)) + (pairX v2 n2 M C e (-1)) * (pairX v2 n2 M C e (-1)) + ((pairX w1 n1 M C e 1) * (pairX w1 n1 M C e 1) + (pairX w2 n2 M C e 1) * (pairX w2 n2 M C e 1)) = (32 * M) * (32 * M) * (v1 * v1 + v2 * v2 + (w1 * w1 + w2 * w2)) - 2 * ((16 + e) * ((16 - e) * (M * (C * C)))) := by
        unfold pairX
        rw [← hC, ← hM]
        grind
      have : 0 ≤ (16 + e) * ((16 - e) * (M * (C * C))) := Int.mul_nonneg (by omega) (Int.mul_nonneg (by omega) (Int.mul_nonneg (by omega) (sq_nn C)))
      omega
    generalize (lowR (pairX v1 n1 M C e (-1)) (pairX v2 n2 M C e (-1)) (32 * M)) = p at *
    generalize (lowR (pairX w1 n1 M C e 1) (pairX w2 n2 M C e 1) (32 * M)) = r at *
    obtain ⟨x, y, d⟩ := p
    obtain ⟨x', y', d'⟩ := r
    simp only at *
    rw [e1, e2, f1, f2] at hcore
    have hD : 32 * M * (32 * M) = G * d * (G * d) := by rw [← e3]
    have hD' : H * d' * (H * d') = G * d * (G * d) := by rw [← e3, ← f3]
    have hN := hcore
    rw [hD] at hN
    generalize v1 * v1 + v2 * v2 + (w1 * w1 + w2 * w2) = N at *
    have hpos : 0 < G * G * (H * H) := Int.mul_pos (Int.mul_pos hG hG) (Int.mul_pos hH hH)
    refine Int.le_of_mul_le_mul_left ?_ hpos
    have a1 : G * G * (H * H) * ((x * x + y * y) * (d' * d') + (x' * x' + y' * y') * (d * d)) = (G * x * (G * x) + G * y * (G * y)) * (H * d' * (H * d')) + (H * x' * (H * x') + H * y' * (H * y')) * (G * d * (G * d)) := by grind
    have a2 : G * G * (H * H) * (d * d * (d' * d') * N) = (G * d * (G * d)) * ((H * d' * (H * d')) * N) := by grind
    rw [a1, a2, hD']
    have := Int.mul_le_mul_of_nonneg_left hN (sq_nn (G * d))
    have a3 : (G * x * (G * x) + G * y * (G * y)) * (G * d * (G * d)) + (H * x' * (H * x') + H * y' * (H * y')) * (G * d * (G * d)) = G * d * (G * d) * (G * x * (G * x) + G * y * (G * y) + (H * x' * (H * x') + H * y' * (H * y'))) := by grind
    rw [a3]
    exact this
theorem pair_trunc {p q : Int × Int × Int} {N : Int} (hp : 0 < p.2.2) (hq : 0 < q.2.2) (h : (p.1 * p.1 + p.2.1 * p.2.1) * (q.2.2 * q.2.2) + (q.1 * q.1 + q.2.1 * q.2.1) * (p.2.2 * p.2.2) ≤ (p.2.2 * p.2.2) * (q.2.2 * q.2.2) * N) :
    (meanR [p]).1 * (meanR [p]).1 + (meanR [p]).2 * (meanR [p]).2 + ((meanR [q]).1 * (meanR [q]).1 + (meanR [q]).2 * (meanR [q]).2) ≤ N := by
  have a := Int.mul_le_mul_of_nonneg_right (mean_sq hp) (sq_nn q.2.2)
  have b := Int.mul_le_mul_of_nonneg_right (mean_sq hq) (sq_nn p.2.2)
  generalize (meanR [p]).1 * (meanR [p]).1 + (meanR [p]).2 * (meanR [p]).2 = S at *
  generalize (meanR [q]).1 * (meanR [q]).1 + (meanR [q]).2 * (meanR [q]).2 = T at *
  have hpos : 0 < p.2.2 * p.2.2 * (q.2.2 * q.2.2) := Int.mul_pos (Int.mul_pos hp hp) (Int.mul_pos hq hq)
  refine Int.le_of_mul_le_mul_left ?_ hpos
  have e : p.2.2 * p.2.2 * (q.2.2 * q.2.2) * (S + T) = S * (p.2.2 * p.2.2) * (q.2.2 * q.2.2) + T * (q.2.2 * q.2.2) * (p.2.2 * p.2.2) := by grind
  rw [e]
  omega
end Go.Proofs.Ytklkhnhieihfoaa
namespace Go.Proofs.Ytklkhnhieihfoaa
open Go Go.RowKit
set_option linter.unusedVariables false
theorem dot_sm {a b c d : Int} (h1 : -1073741824 ≤ a ∧ a ≤ 1073741824 ∧ -1073741824 ≤ b ∧ b ≤ 1073741824) (h2 : -1073741824 ≤ c ∧ c ≤ 1073741824 ∧ -1073741824 ≤ d ∧ d ≤ 1073741824) : dotR a b c d = a * c + b * d := by
  unfold dotR
  rw [if_pos ⟨small_of (by omega), small_of (by omega)⟩]
theorem within_of {a b n : Int} (h : withinB a b n = true) : -n ≤ a ∧ a ≤ n ∧ -n ≤ b ∧ b ≤ n := by simpa [withinB] using h
theorem cmpI_yes {a b : Int} (h : a ≤ b) : cmpI a b ≤ 0 ∧ -1 ≤ cmpI a b := by unfold cmpI; split <;> (try split) <;> omega
set_option maxRecDepth 100000 in
set_option maxHeartbeats 20000000 in
theorem respondenergy_a (v1 v2 w1 w2 n1 n2 rest grip : Int) (w : World) (h1 : (withinB v1 v2 1048576 && withinB n1 n2 2097152) = false) :
    Calls Try.prog 7 #[.agg #[.int .i64 v1, .int .i64 v2, .int .i64 w1, .int .i64 w2, .int .i64 n1, .int .i64 n2], .int .i64 rest, .int .i64 grip] w fun e w' => e = .returned (.bool true) ∧ Below w.heap.size w w' := by
  have k1 := fun w => awake15_any w
  have k2 := fun w => permitted15_any v1 v2 n1 n2 w
  have k3 := fun w => rspeed_any w1 w2 w
  rw [h1] at k2
  have K1 := Lib.hid k1
  have K2 := Lib.hid k2
  have K3 := Lib.hid k3
  clear k1 k2 k3 h1
  -- names on
  go_enter Try.func7, Try.ntmps7; (try simp only [List.append_eq, List.cons_append, List.nil_append])
  go_wp2_with fail
  -- own blocks: w.heap.size:6
  (go_at_call 25; refine (K1.out _).mono ?_; rintro e w101 ⟨rfl, hb_w101⟩; have hz_w101 := hb_w101.size; (try simp at hz_w101); (with_reducible apply cel6 (b := w.heap.size) hb_w101); (focus ((try simp) <;> omega)); (focus omega); (focus (go_simp; try exact rfl)); (focus (go_simp; try exact rfl)); (focus (go_simp; try exact rfl)); (focus (go_simp; try exact rfl)); (focus (go_simp; try exact rfl)); (focus (go_simp; try exact rfl)); (focus (intro o; go_simp)); intro c_w101_0_0 c_w101_0_1 c_w101_0_2 c_w101_0_3 c_w101_0_4 c_w101_0_5 fz_w101_0 hl_w101_0)
  have HB101 := Lib.hid (show Below w.heap.size w w101 by ((with_reducible (repeat (first | exact bR _ _ | refine bS ?_ ?_ _ | refine bA ?_ ?_ _ | refine bD ?_ | refine bT ?_ (by assumption) ?_ | refine bO (by assumption) ?_ ?_))) <;> (first | omega | (simp; done) | (simp <;> omega))))
  have hz101 : w.heap.size + 1 ≤ w101.heap.size := by omega
  clear hb_w101
  skip
  go_wp2_with fail
  -- own blocks: w.heap.size:6
  (go_at_call 33; refine (K2.out _).mono ?_; rintro e w102 ⟨rfl, hb_w102⟩; have hz_w102 := hb_w102.size; (try simp at hz_w102); (with_reducible apply cel6 (b := w.heap.size) hb_w102); (focus ((try simp) <;> omega)); (focus omega); (focus (go_simp; try exact rfl)); (focus (go_simp; try exact rfl)); (focus (go_simp; try exact rfl)); (focus (go_simp; try exact rfl)); (focus (go_simp; try exact rfl)); (focus (go_simp; try exact rfl)); (focus (intro o; go_simp)); intro c_w102_0_0 c_w102_0_1 c_w102_0_2 c_w102_0_3 c_w102_0_4 c_w102_0_5 fz_w102_0 hl_w102_0)
  have HB102 := Lib.hid (show Below w.heap.size w w102 by have hB := HB101.out; ((with_reducible (repeat (first | exact bR _ _ | refine bS ?_ ?_ _ | refine bA ?_ ?_ _ | refine bD ?_ | refine bT ?_ (by assumption) ?_ | refine bO (by assumption) ?_ ?_))) <;> (first | omega | (simp; done) | (simp <;> omega))))
  have hz102 : w.heap.size + 1 ≤ w102.heap.size := by omega
  clear hb_w102
  clear c_w101_0_0 c_w101_0_1 c_w101_0_2 c_w101_0_3 c_w101_0_4 c_w101_0_5 fz_w101_0 hl_w101_0
  go_wp2_with fail
  -- own blocks: 
  (go_at_call 25; refine (K1.out _).mono ?_; rintro e w103 ⟨rfl, hb_w103⟩; have hz_w103 := hb_w103.size; (try simp at hz_w103); skip)
  have HB103 := Lib.hid (show Below w.heap.size w w103 by have hB := HB102.out; ((with_reducible (repeat (first | exact bR _ _ | refine bS ?_ ?_ _ | refine bA ?_ ?_ _ | refine bD ?_ | refine bT ?_ (by assumption) ?_ | refine bO (by assumption) ?_ ?_))) <;> (first | omega | (simp; done) | (simp <;> omega))))
  have hz103 : w.heap.size + 1 ≤ w103.heap.size := by omega
  clear hb_w103
  clear c_w102_0_0 c_w102_0_1 c_w102_0_2 c_w102_0_3 c_w102_0_4 c_w102_0_5 fz_w102_0 hl_w102_0
  go_wp2_with fail
  -- own blocks: 
  refine bodyPost_ret (v := .bool true) (by simp only [results, Try.results7]; go_simp) rfl ⟨?_, ?_⟩
  · rfl
  · have hB := HB103.out; ((with_reducible (repeat (first | exact bR _ _ | refine bS ?_ ?_ _ | refine bA ?_ ?_ _ | refine bD ?_ | refine bT ?_ (by assumption) ?_ | refine bO (by assumption) ?_ ?_))) <;> (first | omega | (simp; done) | (simp <;> omega)))
set_option maxRecDepth 100000 in
set_option maxHeartbeats 20000000 in
theorem respondenergy_b (v1 v2 w1 w2 n1 n2 rest grip : Int) (w : World) (h1 : (withinB v1 v2 1048576 && withinB n1 n2 2097152) = true) (h2 : withinB w1 w2 1048576 = false) :
    Calls Try.prog 7 #[.agg #[.int .i64 v1, .int .i64 v2, .int .i64 w1, .int .i64 w2, .int .i64 n1, .int .i64 n2], .int .i64 rest, .int .i64 grip] w fun e w' => e = .returned (.bool true) ∧ Below w.heap.size w w' := by
  have k1 := fun w => awake15_any w
  have k2 := fun w => permitted15_any v1 v2 n1 n2 w
  have k3 := fun w => rspeed_any w1 w2 w
  rw [h1] at k2
  rw [h2] at k3
  have K1 := Lib.hid k1
  have K2 := Lib.hid k2
  have K3 := Lib.hid k3
  clear k1 k2 k3 h1 h2
  -- names on
  go_enter Try.func7, Try.ntmps7; (try simp only [List.append_eq, List.cons_append, List.nil_append])
  go_wp2_with fail
  -- own blocks: w.heap.size:6
  (go_at_call 25; refine (K1.out _).mono ?_; rintro e w101 ⟨rfl, hb_w101⟩; have hz_w101 := hb_w101.size; (try simp at hz_w101); (with_reducible apply cel6 (b := w.heap.size) hb_w101); (focus ((try simp) <;> omega)); (focus omega); (focus (go_simp; try exact rfl)); (focus (go_simp; try exact rfl)); (focus (go_simp; try exact rfl)); (focus (go_simp; try exact rfl)); (focus (go_simp; try exact rfl)); (focus (go_simp; try exact rfl)); (focus (intro o; go_simp)); intro c_w101_0_0 c_w101_0_1 c_w101_0_2 c_w101_0_3 c_w101_0_4 c_w101_0_5 fz_w101_0 hl_w101_0)
  have HB101 := Lib.hid (show Below w.heap.size w w101 by ((with_reducible (repeat (first | exact bR _ _ | refine bS ?_ ?_ _ | refine bA ?_ ?_ _ | refine bD ?_ | refine bT ?_ (by assumption) ?_ | refine bO (by assumption) ?_ ?_))) <;> (first | omega | (simp; done) | (simp <;> omega))))
  have hz101 : w.heap.size + 1 ≤ w101.heap.size := by omega
  clear hb_w101
  skip
  go_wp2_with fail
  -- own blocks: w.heap.size:6
  (go_at_call 33; refine (K2.out _).mono ?_; rintro e w102 ⟨rfl, hb_w102⟩; have hz_w102 := hb_w102.size; (try simp at hz_w102); (with_reducible apply cel6 (b := w.heap.size) hb_w102); (focus ((try simp) <;> omega)); (focus omega); (focus (go_simp; try exact rfl)); (focus (go_simp; try exact rfl)); (focus (go_simp; try exact rfl)); (focus (go_simp; try exact rfl)); (focus (go_simp; try exact rfl)); (focus (go_simp; try exact rfl)); (focus (intro o; go_simp)); intro c_w102_0_0 c_w102_0_1 c_w102_0_2 c_w102_0_3 c_w102_0_4 c_w102_0_5 fz_w102_0 hl_w102_0)
  have HB102 := Lib.hid (show Below w.heap.size w w102 by have hB := HB101.out; ((with_reducible (repeat (first | exact bR _ _ | refine bS ?_ ?_ _ | refine bA ?_ ?_ _ | refine bD ?_ | refine bT ?_ (by assumption) ?_ | refine bO (by assumption) ?_ ?_))) <;> (first | omega | (simp; done) | (simp <;> omega))))
  have hz102 : w.heap.size + 1 ≤ w102.heap.size := by omega
  clear hb_w102
  clear c_w101_0_0 c_w101_0_1 c_w101_0_2 c_w101_0_3 c_w101_0_4 c_w101_0_5 fz_w101_0 hl_w101_0
  go_wp2_with fail
  -- own blocks: 
  (go_at_call 34; refine (K3.out _).mono ?_; rintro e w103 ⟨rfl, hb_w103⟩; have hz_w103 := hb_w103.size; (try simp at hz_w103); skip)
  have HB103 := Lib.hid (show Below w.heap.size w w103 by have hB := HB102.out; ((with_reducible (repeat (first | exact bR _ _ | refine bS ?_ ?_ _ | refine bA ?_ ?_ _ | refine bD ?_ | refine bT ?_ (by assumption) ?_ | refine bO (by assumption) ?_ ?_))) <;> (first | omega | (simp; done) | (simp <;> omega))))
  have hz103 : w.heap.size + 1 ≤ w103.heap.size := by omega
  clear hb_w103
  clear c_w102_0_0 c_w102_0_1 c_w102_0_2 c_w102_0_3 c_w102_0_4 c_w102_0_5 fz_w102_0 hl_w102_0
  go_wp2_with fail
  -- own blocks: 
  (go_at_call 25; refine (K1.out _).mono ?_; rintro e w104 ⟨rfl, hb_w104⟩; have hz_w104 := hb_w104.size; (try simp at hz_w104); skip)
  have HB104 := Lib.hid (show Below w.heap.size w w104 by have hB := HB103.out; ((with_reducible (repeat (first | exact bR _ _ | refine bS ?_ ?_ _ | refine bA ?_ ?_ _ | refine bD ?_ | refine bT ?_ (by assumption) ?_ | refine bO (by assumption) ?_ ?_))) <;> (first | omega | (simp; done) | (simp <;> omega))))
  have hz104 : w.heap.size + 1 ≤ w104.heap.size := by omega
  clear hb_w104
  skip
  go_wp2_with fail
  -- own blocks: 
  refine bodyPost_ret (v := .bool true) (by simp only [results, Try.results7]; go_simp) rfl ⟨?_, ?_⟩
  · rfl
  · have hB := HB104.out; ((with_reducible (repeat (first | exact bR _ _ | refine bS ?_ ?_ _ | refine bA ?_ ?_ _ | refine bD ?_ | refine bT ?_ (by assumption) ?_ | refine bO (by assumption) ?_ ?_))) <;> (first | omega | (simp; done) | (simp <;> omega)))
set_option maxRecDepth 100000 in
set_option maxHeartbeats 20000000 in
theorem respondenergy_on (v1 v2 w1 w2 n1 n2 rest grip : Int) (w : World) (hp : permB v1 v2 w1 w2 n1 n2 = true) :
    Calls Try.prog 7 #[.agg #[.int .i64 v1, .int .i64 v2, .int .i64 w1, .int .i64 w2, .int .i64 n1, .int .i64 n2], .int .i64 rest, .int .i64 grip] w fun e w' => e = .returned (.bool true) ∧ Below w.heap.size w w' := by
  have hp' := hp
  unfold permB at hp'
  rw [Bool.and_eq_true, Bool.and_eq_true] at hp'
  obtain ⟨⟨c1, c2⟩, c3⟩ := hp'
  obtain ⟨bv, bw, bn⟩ := perm_bd hp
  have k1 := fun w => awake15_any w
  have k2 := fun w => permitted15_any v1 v2 n1 n2 w
  rw [c1, c3] at k2
  simp only [Bool.and_self] at k2
  have k3 := fun w => rspeed_any w1 w2 w
  rw [c2] at k3
  have k4 := fun w => part15_any rest w
  have k5 := fun w => part15_any grip w
  have he := part_six rest
  have hg := part_six grip
  generalize partR rest = e at *
  generalize partR grip = g at *
  have hp0 : permB v1 v2 0 0 n1 n2 = true := by unfold permB; rw [c1, c3]; rfl
  obtain ⟨x1, _, _⟩ := perm_vals hp
  have B1 := mulB v1 v1 1048576 1048576 (by omega) (by omega)
  have B2 := mulB v2 v2 1048576 1048576 (by omega) (by omega)
  have B3 := mulB w1 w1 1048576 1048576 (by omega) (by omega)
  have B4 := mulB w2 w2 1048576 1048576 (by omega) (by omega)
  have B5 := mulB (v1 - w1) (v1 - w1) 2097152 2097152 (by omega) (by omega)
  have B6 := mulB (v2 - w2) (v2 - w2) 2097152 2097152 (by omega) (by omega)
  have S1 := sq_nn v1
  have S2 := sq_nn v2
  have S3 := sq_nn w1
  have S4 := sq_nn w2
  have k6 := fun w => static_any v1 v2 0 0 n1 n2 e g w
  obtain ⟨la, da⟩ := stat_lens v1 v2 0 0 n1 n2 e g
  replace da := da hp0 he hg
  have qa := stat_leq hp0 he hg
  have ta := mean_leq da qa
  have wa := within_sq (B := 1073741824) ta (by omega) (by omega)
  have k8 := fun w => vdot_any v1 v2 v1 v2 w
  rw [dot_sm (by omega) (by omega)] at k8
  have k11 := fun w => static_any v1 v2 w1 w2 n1 n2 e g w
  obtain ⟨lb, db⟩ := stat_lens v1 v2 w1 w2 n1 n2 e g
  replace db := db hp he hg
  have qu := stat_rel hp he hg
  have k12 := fun w => rwhole_any (-w1) (-w2) w (by omega) (by omega)
  have lw : Lens (-w1, -w2, 1) := lens_vec (by omega) (by omega)
  obtain ⟨du, lu1, lu2, lu3⟩ := sumR_lens lb lw (by simp only [Int.mul_one]; exact db)
  have k14 := fun w => vsub_any v1 v2 w1 w2 w
  rw [x1] at k14
  have k15 := fun w => vdot_any (v1 - w1) (v2 - w2) (v1 - w1) (v2 - w2) w
  rw [dot_sm (by omega) (by omega)] at k15
  have k17 := fun w => pair_any v1 v2 w1 w2 n1 n2 e w
  obtain ⟨⟨lp, lq⟩, dpq⟩ := pair_lens v1 v2 w1 w2 n1 n2 e
  obtain ⟨dp0, dq0⟩ := dpq hp he
  have qp := pair_leq hp he
  have tp := pair_trunc dp0 dq0 qp
  have k26 := fun w => vdot_any w1 w2 w1 w2 w
  rw [dot_sm (by omega) (by omega)] at k26
  unfold TOut at k6 k11
  unfold POut2 at k17
  generalize statR v1 v2 0 0 n1 n2 e g = A at *
  generalize statR v1 v2 w1 w2 n1 n2 e g = C at *
  generalize pairR v1 v2 w1 w2 n1 n2 e = PQ at *
  obtain ⟨P, Q⟩ := PQ
  simp only at *
  generalize hNN : v1 * v1 + v2 * v2 = N at *
  generalize hWW : w1 * w1 + w2 * w2 = WW at *
  generalize hDD : (v1 - w1) * (v1 - w1) + (v2 - w2) * (v2 - w2) = D2 at *
  have k7 := fun g w (sx : Bool) (Ax : Option Addr) (nx cx : Nat) (sy : Bool) (Ay : Option Addr) (ny cy : Nat) (sd : Bool) (Ad : Option Addr) (nd cd : Nat) => trunc_one A g w sx Ax nx cx sy Ay ny cy sd Ad nd cd (la.val da) wa
  have k9 := fun v w h => atMost_yes A.1 A.2.1 A.2.2 N v w h (by omega) (by have := la.x; omega) (by have := la.y; omega) (by have := la.d; omega) qa
  have wa' := within_of wa
  have k10 := fun w => vdot_any (meanR [A]).1 (meanR [A]).2 (meanR [A]).1 (meanR [A]).2 w
  rw [dot_sm (by omega) (by omega)] at k10
  have k13 := fun u v w h1 h2 => rsum_any C.1 C.2.1 C.2.2 (-w1) (-w2) 1 u v w h1 h2 (by rw [Int.mul_one]; omega) (by have := lb.x; omega) (by have := lb.y; omega) (by have := lb.d; omega) (by have := lw.x; simp only at this; omega) (by have := lw.y; simp only at this; omega) (by have := lw.d; simp only at this; omega)
  unfold POut at k13
  have k16 := fun v w h => atMost_yes (sumR C (-w1, -w2, 1)).1 (sumR C (-w1, -w2, 1)).2.1 (sumR C (-w1, -w2, 1)).2.2 D2 v w h (by omega) (by omega) (by omega) (by omega) qu
  have sx := sq_nn (meanR [P]).1
  have sx2 := sq_nn (meanR [P]).2
  have sy := sq_nn (meanR [Q]).1
  have sy2 := sq_nn (meanR [Q]).2
  have wp := within_sq (B := 1073741824) (p := (meanR [P]).1) (q := (meanR [P]).2) (n := N + WW) (by omega) (by omega) (by omega)
  have wq := within_sq (B := 1073741824) (p := (meanR [Q]).1) (q := (meanR [Q]).2) (n := N + WW) (by omega) (by omega) (by omega)
  have k18 := fun g w (sx : Bool) (Ax : Option Addr) (nx cx : Nat) (sy : Bool) (Ay : Option Addr) (ny cy : Nat) (sd : Bool) (Ad : Option Addr) (nd cd : Nat) => trunc_one P g w sx Ax nx cx sy Ay ny cy sd Ad nd cd (lp.val dp0) wp
  have k19 := fun g w (sx : Bool) (Ax : Option Addr) (nx cx : Nat) (sy : Bool) (Ay : Option Addr) (ny cy : Nat) (sd : Bool) (Ad : Option Addr) (nd cd : Nat) => trunc_one Q g w sx Ax nx cx sy Ay ny cy sd Ad nd cd (lq.val dq0) wq
  have wp' := within_of wp
  have wq' := within_of wq
  have k30 := fun w => vdot_any (meanR [P]).1 (meanR [P]).2 (meanR [P]).1 (meanR [P]).2 w
  rw [dot_sm (by omega) (by omega)] at k30
  have k31 := fun w => vdot_any (meanR [Q]).1 (meanR [Q]).2 (meanR [Q]).1 (meanR [Q]).2 w
  rw [dot_sm (by omega) (by omega)] at k31
  have k20 := fun v w h => square15_any P.1 P.2.1 P.2.2 v w h (by have := lp.x; omega) (by have := lp.y; omega) (by have := lp.d; omega)
  have k21 := fun v w h => square15_any Q.1 Q.2.1 Q.2.2 v w h (by have := lq.x; omega) (by have := lq.y; omega) (by have := lq.d; omega)
  have lsp := len_up (len_add (len_mul lp.x lp.x) (len_mul lp.y lp.y)) (show _ ≤ 100 by omega)
  have ldp := len_up (len_mul lp.d lp.d) (show _ ≤ 100 by omega)
  have lsq := len_up (len_add (len_mul lq.x lq.x) (len_mul lq.y lq.y)) (show _ ≤ 100 by omega)
  have ldq := len_up (len_mul lq.d lq.d) (show _ ≤ 100 by omega)
  have lm1 := len_up (len_mul (len_add (len_mul lp.x lp.x) (len_mul lp.y lp.y)) (len_mul lq.d lq.d)) (show _ ≤ 100 by omega)
  have lm2 := len_up (len_mul (len_add (len_mul lq.x lq.x) (len_mul lq.y lq.y)) (len_mul lp.d lp.d)) (show _ ≤ 100 by omega)
  have lm3 := len_up (len_add (len_mul (len_add (len_mul lp.x lp.x) (len_mul lp.y lp.y)) (len_mul lq.d lq.d)) (len_mul (len_add (len_mul lq.x lq.x) (len_mul lq.y lq.y)) (len_mul lp.d lp.d))) (show _ ≤ 100 by omega)
  have lm4 := len_up (len_mul (len_mul lp.d lp.d) (len_mul lq.d lq.d)) (show _ ≤ 100 by omega)
  have lm5 := len_up (len_wd (z := N + WW) (by omega) (by omega)) (show _ ≤ 100 by omega)
  have lm6 := len_up (len_mul (len_mul (len_mul lp.d lp.d) (len_mul lq.d lq.d)) (len_wd (z := N + WW) (by omega) (by omega))) (show _ ≤ 100 by omega)
  generalize P.1 * P.1 + P.2.1 * P.2.1 = sp at *
  generalize Q.1 * Q.1 + Q.2.1 * Q.2.1 = sq at *
  generalize P.2.2 * P.2.2 = dp at *
  generalize Q.2.2 * Q.2.2 = dq at *
  have k22 := fun u v w h1 h2 => times_any 100 u v sp dq w h1 h2 (by omega)
  have k23 := fun u v w h1 h2 => times_any 100 u v sq dp w h1 h2 (by omega)
  have k24 := fun u v w h1 h2 => plus_any 100 u v (sp * dq) (sq * dp) w h1 h2 (by omega)
  have k25 := fun u v w h1 h2 => times_any 100 u v dp dq w h1 h2 (by omega)
  have k27 := fun w => of_any (N + WW) w (by omega) (by omega)
  have k28 := fun u v w h1 h2 => times_any 100 u v (dp * dq) (N + WW) w h1 h2 (by omega)
  have k29 := fun u v w h1 h2 => cmp_any 100 u v (sp * dq + sq * dp) (dp * dq * (N + WW)) w h1 h2 (by omega)
  obtain ⟨hc1, hc2⟩ := cmpI_yes qp
  generalize hT : (meanR [A]).1 * (meanR [A]).1 + (meanR [A]).2 * (meanR [A]).2 = T at *
  generalize hX : (meanR [P]).1 * (meanR [P]).1 + (meanR [P]).2 * (meanR [P]).2 = X at *
  generalize hY : (meanR [Q]).1 * (meanR [Q]).1 + (meanR [Q]).2 * (meanR [Q]).2 = Y at *
  have hTN : ¬ N < T := by omega
  have hXY : X + Y ≤ N + WW := tp
  have hX0 : 0 ≤ X := by omega
  have hY0 : 0 ≤ Y := by omega
  have hN0 : 0 ≤ N ∧ N ≤ 2199023255552 := by omega
  have hW0 : 0 ≤ WW ∧ WW ≤ 2199023255552 := by omega
  obtain ⟨hN1, hN2⟩ := hN0
  obtain ⟨hW1, hW2⟩ := hW0
  clear ta tp qa qu qp wa wp wq wa' wp' wq' sx sx2 sy sy2 hT hX hY hNN hWW hDD B1 B2 B3 B4 B5 B6 S1 S2 S3 S4
  generalize (meanR [A]).1 = t1 at *
  generalize (meanR [A]).2 = t2 at *
  generalize (meanR [P]).1 = x1 at *
  generalize (meanR [P]).2 = x2 at *
  generalize (meanR [Q]).1 = y1 at *
  generalize (meanR [Q]).2 = y2 at *
  generalize cmpI (sp * dq + sq * dp) (dp * dq * (N + WW)) = cm at *
  generalize dp * dq * (N + WW) = m6 at *
  generalize dp * dq = m4 at *
  generalize sp * dq = m1 at *
  generalize sq * dp = m2 at *
  generalize m1 + m2 = m3 at *
  obtain ⟨m5, hm5⟩ : ∃ m5, m5 = N + WW := ⟨_, rfl⟩
  rw [← hm5] at k27 k28 lm5 hXY
  have hm5' := hm5.symm
  have hm0 : 0 ≤ m5 := by omega
  have hm9 : m5 ≤ 4398046511104 := by omega
  clear hm5
  generalize sumR C (-w1, -w2, 1) = U at *
  obtain ⟨a1, a2, a3⟩ := A
  obtain ⟨b1, b2, b3⟩ := C
  obtain ⟨u1, u2, u3⟩ := U
  obtain ⟨p1, p2, p3⟩ := P
  obtain ⟨q1, q2, q3⟩ := Q
  simp only at *
  have K1 := Lib.hid k1
  have K2 := Lib.hid k2
  have K3 := Lib.hid k3
  have K4 := Lib.hid k4
  have K5 := Lib.hid k5
  have K6 := Lib.hid k6
  have K7 := Lib.hid k7
  have K8 := Lib.hid k8
  have K9 := Lib.hid k9
  have K10 := Lib.hid k10
  have K11 := Lib.hid k11
  have K12 := Lib.hid k12
  have K13 := Lib.hid k13
  have K14 := Lib.hid k14
  have K15 := Lib.hid k15
  have K16 := Lib.hid k16
  have K17 := Lib.hid k17
  have K18 := Lib.hid k18
  have K19 := Lib.hid k19
  have K20 := Lib.hid k20
  have K21 := Lib.hid k21
  have K22 := Lib.hid k22
  have K23 := Lib.hid k23
  have K24 := Lib.hid k24
  have K25 := Lib.hid k25
  have K26 := Lib.hid k26
  have K27 := Lib.hid k27
  have K28 := Lib.hid k28
  have K29 := Lib.hid k29
  have K30 := Lib.hid k30
  have K31 := Lib.hid k31
  have LSP := Lib.hid lsp
  have LDP := Lib.hid ldp
  have LSQ := Lib.hid lsq
  have LDQ := Lib.hid ldq
  have LM1 := Lib.hid lm1
  have LM2 := Lib.hid lm2
  have LM3 := Lib.hid lm3
  have LM4 := Lib.hid lm4
  have LM5 := Lib.hid lm5
  have LM6 := Lib.hid lm6
  obtain ⟨bv1, bv2, bv3, bv4⟩ := bv
  obtain ⟨bw1, bw2, bw3, bw4⟩ := bw
  clear k1 k2 k3 k4 k5 k6 k7 k8 k9 k10 k11 k12 k13 k14 k15 k16 k17 k18 k19 k20 k21 k22 k23 k24 k25 k26 k27 k28 k29 k30 k31 lsp ldp lsq ldq lm1 lm2 lm3 lm4 lm5 lm6 la lb lw lp lq lu1 lu2 lu3 da db du dp0 dq0 dpq hp hp0 he hg c1 c2 c3 bn
  -- names on
  go_enter Try.func7, Try.ntmps7; (try simp only [List.append_eq, List.cons_append, List.nil_append])
  go_wp2_with fail
  -- own blocks: w.heap.size:6
  (go_at_call 25; refine (K1.out _).mono ?_; rintro e w101 ⟨rfl, hb_w101⟩; have hz_w101 := hb_w101.size; (try simp at hz_w101); (with_reducible apply cel6 (b := w.heap.size) hb_w101); (focus ((try simp) <;> omega)); (focus omega); (focus (go_simp; try exact rfl)); (focus (go_simp; try exact rfl)); (focus (go_simp; try exact rfl)); (focus (go_simp; try exact rfl)); (focus (go_simp; try exact rfl)); (focus (go_simp; try exact rfl)); (focus (intro o; go_simp)); intro c_w101_0_0 c_w101_0_1 c_w101_0_2 c_w101_0_3 c_w101_0_4 c_w101_0_5 fz_w101_0 hl_w101_0)
  have HB101 := Lib.hid (show Below w.heap.size w w101 by ((with_reducible (repeat (first | exact bR _ _ | refine bS ?_ ?_ _ | refine bA ?_ ?_ _ | refine bD ?_ | refine bT ?_ (by assumption) ?_ | refine bO (by assumption) ?_ ?_))) <;> (first | omega | (simp; done) | (simp <;> omega))))
  have hz101 : w.heap.size + 1 ≤ w101.heap.size := by omega
  clear hb_w101
  skip
  go_wp2_with fail
  -- own blocks: w.heap.size:6
  (go_at_call 33; refine (K2.out _).mono ?_; rintro e w102 ⟨rfl, hb_w102⟩; have hz_w102 := hb_w102.size; (try simp at hz_w102); (with_reducible apply cel6 (b := w.heap.size) hb_w102); (focus ((try simp) <;> omega)); (focus omega); (focus (go_simp; try exact rfl)); (focus (go_simp; try exact rfl)); (focus (go_simp; try exact rfl)); (focus (go_simp; try exact rfl)); (focus (go_simp; try exact rfl)); (focus (go_simp; try exact rfl)); (focus (intro o; go_simp)); intro c_w102_0_0 c_w102_0_1 c_w102_0_2 c_w102_0_3 c_w102_0_4 c_w102_0_5 fz_w102_0 hl_w102_0)
  have HB102 := Lib.hid (show Below w.heap.size w w102 by have hB := HB101.out; ((with_reducible (repeat (first | exact bR _ _ | refine bS ?_ ?_ _ | refine bA ?_ ?_ _ | refine bD ?_ | refine bT ?_ (by assumption) ?_ | refine bO (by assumption) ?_ ?_))) <;> (first | omega | (simp; done) | (simp <;> omega))))
  have hz102 : w.heap.size + 1 ≤ w102.heap.size := by omega
  clear hb_w102
  clear c_w101_0_0 c_w101_0_1 c_w101_0_2 c_w101_0_3 c_w101_0_4 c_w101_0_5 fz_w101_0 hl_w101_0
  go_wp2_with fail
  -- own blocks: w.heap.size:6
  (go_at_call 34; refine (K3.out _).mono ?_; rintro e w103 ⟨rfl, hb_w103⟩; have hz_w103 := hb_w103.size; (try simp at hz_w103); (with_reducible apply cel6 (b := w.heap.size) hb_w103); (focus ((try simp) <;> omega)); (focus omega); (focus (go_simp; try exact rfl)); (focus (go_simp; try exact rfl)); (focus (go_simp; try exact rfl)); (focus (go_simp; try exact rfl)); (focus (go_simp; try exact rfl)); (focus (go_simp; try exact rfl)); (focus (intro o; go_simp)); intro c_w103_0_0 c_w103_0_1 c_w103_0_2 c_w103_0_3 c_w103_0_4 c_w103_0_5 fz_w103_0 hl_w103_0)
  have HB103 := Lib.hid (show Below w.heap.size w w103 by have hB := HB102.out; ((with_reducible (repeat (first | exact bR _ _ | refine bS ?_ ?_ _ | refine bA ?_ ?_ _ | refine bD ?_ | refine bT ?_ (by assumption) ?_ | refine bO (by assumption) ?_ ?_))) <;> (first | omega | (simp; done) | (simp <;> omega))))
  have hz103 : w.heap.size + 1 ≤ w103.heap.size := by omega
  clear hb_w103
  clear c_w102_0_0 c_w102_0_1 c_w102_0_2 c_w102_0_3 c_w102_0_4 c_w102_0_5 fz_w102_0 hl_w102_0
  go_wp2_with fail
  -- own blocks: w.heap.size:6
  (go_at_call 35; refine (K4.out _).mono ?_; rintro e w104 ⟨rfl, hb_w104⟩; have hz_w104 := hb_w104.size; (try simp at hz_w104); (with_reducible apply cel6 (b := w.heap.size) hb_w104); (focus ((try simp) <;> omega)); (focus omega); (focus (go_simp; try exact rfl)); (focus (go_simp; try exact rfl)); (focus (go_simp; try exact rfl)); (focus (go_simp; try exact rfl)); (focus (go_simp; try exact rfl)); (focus (go_simp; try exact rfl)); (focus (intro o; go_simp)); intro c_w104_0_0 c_w104_0_1 c_w104_0_2 c_w104_0_3 c_w104_0_4 c_w104_0_5 fz_w104_0 hl_w104_0)
  have HB104 := Lib.hid (show Below w.heap.size w w104 by have hB := HB103.out; ((with_reducible (repeat (first | exact bR _ _ | refine bS ?_ ?_ _ | refine bA ?_ ?_ _ | refine bD ?_ | refine bT ?_ (by assumption) ?_ | refine bO (by assumption) ?_ ?_))) <;> (first | omega | (simp; done) | (simp <;> omega))))
  have hz104 : w.heap.size + 1 ≤ w104.heap.size := by omega
  clear hb_w104
  clear c_w103_0_0 c_w103_0_1 c_w103_0_2 c_w103_0_3 c_w103_0_4 c_w103_0_5 fz_w103_0 hl_w103_0
  go_wp2_with fail
  -- own blocks: w.heap.size:6
  (go_at_call 35; refine (K5.out _).mono ?_; rintro e w105 ⟨rfl, hb_w105⟩; have hz_w105 := hb_w105.size; (try simp at hz_w105); (with_reducible apply cel6 (b := w.heap.size) hb_w105); (focus ((try simp) <;> omega)); (focus omega); (focus (go_simp; try exact rfl)); (focus (go_simp; try exact rfl)); (focus (go_simp; try exact rfl)); (focus (go_simp; try exact rfl)); (focus (go_simp; try exact rfl)); (focus (go_simp; try exact rfl)); (focus (intro o; go_simp)); intro c_w105_0_0 c_w105_0_1 c_w105_0_2 c_w105_0_3 c_w105_0_4 c_w105_0_5 fz_w105_0 hl_w105_0)
  have HB105 := Lib.hid (show Below w.heap.size w w105 by have hB := HB104.out; ((with_reducible (repeat (first | exact bR _ _ | refine bS ?_ ?_ _ | refine bA ?_ ?_ _ | refine bD ?_ | refine bT ?_ (by assumption) ?_ | refine bO (by assumption) ?_ ?_))) <;> (first | omega | (simp; done) | (simp <;> omega))))
  have hz105 : w.heap.size + 1 ≤ w105.heap.size := by omega
  clear hb_w105
  clear c_w104_0_0 c_w104_0_1 c_w104_0_2 c_w104_0_3 c_w104_0_4 c_w104_0_5 fz_w104_0 hl_w104_0
  go_wp2_with fail
  -- own blocks: w.heap.size:6
  (go_at_call 31; refine (K6.out _).mono ?_; rintro e w106 ⟨hb_w106, v106, rfl, hv106⟩; have hz_w106 := hb_w106.size; (try simp at hz_w106); (with_reducible apply cel6 (b := w.heap.size) hb_w106); (focus ((try simp) <;> omega)); (focus omega); (focus (go_simp; try exact rfl)); (focus (go_simp; try exact rfl)); (focus (go_simp; try exact rfl)); (focus (go_simp; try exact rfl)); (focus (go_simp; try exact rfl)); (focus (go_simp; try exact rfl)); (focus (intro o; go_simp)); intro c_w106_0_0 c_w106_0_1 c_w106_0_2 c_w106_0_3 c_w106_0_4 c_w106_0_5 fz_w106_0 hl_w106_0)
  obtain ⟨s106x, A106x, n106x, c106x, s106y, A106y, n106y, c106y, s106d, A106d, n106d, c106d, rfl⟩ := RAt.val hv106
  have HB106 := Lib.hid (show Below w.heap.size w w106 by have hB := HB105.out; ((with_reducible (repeat (first | exact bR _ _ | refine bS ?_ ?_ _ | refine bA ?_ ?_ _ | refine bD ?_ | refine bT ?_ (by assumption) ?_ | refine bO (by assumption) ?_ ?_))) <;> (first | omega | (simp; done) | (simp <;> omega))))
  have hz106 : w.heap.size + 1 ≤ w106.heap.size := by omega
  clear hb_w106
  clear c_w105_0_0 c_w105_0_1 c_w105_0_2 c_w105_0_3 c_w105_0_4 c_w105_0_5 fz_w105_0 hl_w105_0
  have H106 := Lib.hid (show RAt w106 (.agg #[.bool s106x, .slice A106x n106x c106x, .bool s106y, .slice A106y n106y c106y, .bool s106d, .slice A106d n106d c106d]) (a1) (a2) (a3) from hv106)
  clear hv106
  go_wp2_with fail
  -- own blocks: w.heap.size:6, w106.heap.size:6
  (go_at_call 36; refine (K7.out _ _ _ _ _ _ _ _ _ _ _ _ _ _ (by (try simp) <;> omega) (by go_simp) (by go_simp) (by go_simp) (by go_simp) (by go_simp) (by go_simp) (show RAt _ (.agg #[.bool s106x, .slice A106x n106x c106x, .bool s106y, .slice A106y n106y c106y, .bool s106d, .slice A106d n106d c106d]) (a1) (a2) (a3) by ((repeat (first | (with_reducible exact H106.out) | (with_reducible refine RAt.al ?_ _) | (with_reducible apply RAt.st1))) <;> (first | (with_reducible assumption) | (intro _ e; cases e; done) | (go_simp; first | done | exact rfl))))).mono ?_; rintro e w107 ⟨rfl, hb_w107⟩; have hz_w107 := hb_w107.size; (try simp at hz_w107); (with_reducible apply cel6 (b := w.heap.size) hb_w107); (focus ((try simp) <;> omega)); (focus omega); (focus (go_simp; try exact rfl)); (focus (go_simp; try exact rfl)); (focus (go_simp; try exact rfl)); (focus (go_simp; try exact rfl)); (focus (go_simp; try exact rfl)); (focus (go_simp; try exact rfl)); (focus (intro o; go_simp)); intro c_w107_0_0 c_w107_0_1 c_w107_0_2 c_w107_0_3 c_w107_0_4 c_w107_0_5 fz_w107_0 hl_w107_0; (with_reducible apply cel6 (b := w106.heap.size) hb_w107); (focus ((try simp) <;> omega)); (focus omega); (focus (go_simp; try exact rfl)); (focus (go_simp; try exact rfl)); (focus (go_simp; try exact rfl)); (focus (go_simp; try exact rfl)); (focus (go_simp; try exact rfl)); (focus (go_simp; try exact rfl)); (focus (intro o; go_simp)); intro c_w107_1_0 c_w107_1_1 c_w107_1_2 c_w107_1_3 c_w107_1_4 c_w107_1_5 fz_w107_1 hl_w107_1)
  replace H106 := Lib.hid (RAt.below (v := .agg #[.bool s106x, .slice A106x n106x c106x, .bool s106y, .slice A106y n106y c106y, .bool s106d, .slice A106d n106d c106d]) (x := a1) (y := a2) (d := a3) (by ((repeat (first | (with_reducible exact H106.out) | (with_reducible refine RAt.al ?_ _) | (with_reducible apply RAt.st1))) <;> (first | (with_reducible assumption) | (intro _ e; cases e; done) | (go_simp; first | done | exact rfl)))) hb_w107)
  have HB107 := Lib.hid (show Below w.heap.size w w107 by have hB := HB106.out; ((with_reducible (repeat (first | exact bR _ _ | refine bS ?_ ?_ _ | refine bA ?_ ?_ _ | refine bD ?_ | refine bT ?_ (by assumption) ?_ | refine bO (by assumption) ?_ ?_))) <;> (first | omega | (simp; done) | (simp <;> omega))))
  have hz107 : w.heap.size + 1 ≤ w107.heap.size := by omega
  clear hb_w107
  clear c_w106_0_0 c_w106_0_1 c_w106_0_2 c_w106_0_3 c_w106_0_4 c_w106_0_5 fz_w106_0 hl_w106_0
  go_wp2_with fail
  -- own blocks: w.heap.size:6, w106.heap.size:6, w107.heap.size:2
  (go_at_call 19; refine (K8.out _).mono ?_; rintro e w108 ⟨rfl, hb_w108⟩; have hz_w108 := hb_w108.size; (try simp at hz_w108); (with_reducible apply cel6 (b := w.heap.size) hb_w108); (focus ((try simp) <;> omega)); (focus omega); (focus (go_simp; try exact rfl)); (focus (go_simp; try exact rfl)); (focus (go_simp; try exact rfl)); (focus (go_simp; try exact rfl)); (focus (go_simp; try exact rfl)); (focus (go_simp; try exact rfl)); (focus (intro o; go_simp)); intro c_w108_0_0 c_w108_0_1 c_w108_0_2 c_w108_0_3 c_w108_0_4 c_w108_0_5 fz_w108_0 hl_w108_0; (with_reducible apply cel6 (b := w106.heap.size) hb_w108); (focus ((try simp) <;> omega)); (focus omega); (focus (go_simp; try exact rfl)); (focus (go_simp; try exact rfl)); (focus (go_simp; try exact rfl)); (focus (go_simp; try exact rfl)); (focus (go_simp; try exact rfl)); (focus (go_simp; try exact rfl)); (focus (intro o; go_simp)); intro c_w108_1_0 c_w108_1_1 c_w108_1_2 c_w108_1_3 c_w108_1_4 c_w108_1_5 fz_w108_1 hl_w108_1; (with_reducible apply cel2 (b := w107.heap.size) hb_w108); (focus ((try simp) <;> omega)); (focus omega); (focus (go_simp; try exact rfl)); (focus (go_simp; try exact rfl)); (focus (intro o; go_simp)); intro c_w108_2_0 c_w108_2_1 fz_w108_2 hl_w108_2)
  replace H106 := Lib.hid (RAt.below (v := .agg #[.bool s106x, .slice A106x n106x c106x, .bool s106y, .slice A106y n106y c106y, .bool s106d, .slice A106d n106d c106d]) (x := a1) (y := a2) (d := a3) (by ((repeat (first | (with_reducible exact H106.out) | (with_reducible refine RAt.al ?_ _) | (with_reducible apply RAt.st1))) <;> (first | (with_reducible assumption) | (intro _ e; cases e; done) | (go_simp; first | done | exact rfl)))) hb_w108)
  have HB108 := Lib.hid (show Below w.heap.size w w108 by have hB := HB107.out; ((with_reducible (repeat (first | exact bR _ _ | refine bS ?_ ?_ _ | refine bA ?_ ?_ _ | refine bD ?_ | refine bT ?_ (by assumption) ?_ | refine bO (by assumption) ?_ ?_))) <;> (first | omega | (simp; done) | (simp <;> omega))))
  have hz108 : w.heap.size + 1 ≤ w108.heap.size := by omega
  clear hb_w108
  clear c_w107_0_0 c_w107_0_1 c_w107_0_2 c_w107_0_3 c_w107_0_4 c_w107_0_5 fz_w107_0 hl_w107_0 c_w107_1_0 c_w107_1_1 c_w107_1_2 c_w107_1_3 c_w107_1_4 c_w107_1_5 fz_w107_1 hl_w107_1
  go_wp2_with fail
  -- own blocks: w.heap.size:6, w107.heap.size:2
  (go_at_call 37; refine (K9.out _ _ ((show RAt _ (.agg #[.bool s106x, .slice A106x n106x c106x, .bool s106y, .slice A106y n106y c106y, .bool s106d, .slice A106d n106d c106d]) (a1) (a2) (a3) by ((repeat (first | (with_reducible exact H106.out) | (with_reducible refine RAt.al ?_ _) | (with_reducible apply RAt.st1))) <;> (first | (with_reducible assumption) | (intro _ e; cases e; done) | (go_simp; first | done | exact rfl)))))).mono ?_; rintro e w109 ⟨rfl, hb_w109⟩; have hz_w109 := hb_w109.size; (try simp at hz_w109); (with_reducible apply cel6 (b := w.heap.size) hb_w109); (focus ((try simp) <;> omega)); (focus omega); (focus (go_simp; try exact rfl)); (focus (go_simp; try exact rfl)); (focus (go_simp; try exact rfl)); (focus (go_simp; try exact rfl)); (focus (go_simp; try exact rfl)); (focus (go_simp; try exact rfl)); (focus (intro o; go_simp)); intro c_w109_0_0 c_w109_0_1 c_w109_0_2 c_w109_0_3 c_w109_0_4 c_w109_0_5 fz_w109_0 hl_w109_0; (with_reducible apply cel2 (b := w107.heap.size) hb_w109); (focus ((try simp) <;> omega)); (focus omega); (focus (go_simp; try exact rfl)); (focus (go_simp; try exact rfl)); (focus (intro o; go_simp)); intro c_w109_1_0 c_w109_1_1 fz_w109_1 hl_w109_1)
  clear H106
  have HB109 := Lib.hid (show Below w.heap.size w w109 by have hB := HB108.out; ((with_reducible (repeat (first | exact bR _ _ | refine bS ?_ ?_ _ | refine bA ?_ ?_ _ | refine bD ?_ | refine bT ?_ (by assumption) ?_ | refine bO (by assumption) ?_ ?_))) <;> (first | omega | (simp; done) | (simp <;> omega))))
  have hz109 : w.heap.size + 1 ≤ w109.heap.size := by omega
  clear hb_w109
  clear c_w108_0_0 c_w108_0_1 c_w108_0_2 c_w108_0_3 c_w108_0_4 c_w108_0_5 fz_w108_0 hl_w108_0 c_w108_1_0 c_w108_1_1 c_w108_1_2 c_w108_1_3 c_w108_1_4 c_w108_1_5 fz_w108_1 hl_w108_1 c_w108_2_0 c_w108_2_1 fz_w108_2 hl_w108_2
  go_wp2_with fail
  -- own blocks: w.heap.size:6
  (go_at_call 19; refine (K10.out _).mono ?_; rintro e w110 ⟨rfl, hb_w110⟩; have hz_w110 := hb_w110.size; (try simp at hz_w110); (with_reducible apply cel6 (b := w.heap.size) hb_w110); (focus ((try simp) <;> omega)); (focus omega); (focus (go_simp; try exact rfl)); (focus (go_simp; try exact rfl)); (focus (go_simp; try exact rfl)); (focus (go_simp; try exact rfl)); (focus (go_simp; try exact rfl)); (focus (go_simp; try exact rfl)); (focus (intro o; go_simp)); intro c_w110_0_0 c_w110_0_1 c_w110_0_2 c_w110_0_3 c_w110_0_4 c_w110_0_5 fz_w110_0 hl_w110_0)
  have HB110 := Lib.hid (show Below w.heap.size w w110 by have hB := HB109.out; ((with_reducible (repeat (first | exact bR _ _ | refine bS ?_ ?_ _ | refine bA ?_ ?_ _ | refine bD ?_ | refine bT ?_ (by assumption) ?_ | refine bO (by assumption) ?_ ?_))) <;> (first | omega | (simp; done) | (simp <;> omega))))
  have hz110 : w.heap.size + 1 ≤ w110.heap.size := by omega
  clear hb_w110
  clear c_w109_0_0 c_w109_0_1 c_w109_0_2 c_w109_0_3 c_w109_0_4 c_w109_0_5 fz_w109_0 hl_w109_0 c_w109_1_0 c_w109_1_1 fz_w109_1 hl_w109_1
  go_wp2_with fail
  -- own blocks: w.heap.size:6
  (go_at_call 31; refine (K11.out _).mono ?_; rintro e w111 ⟨hb_w111, v111, rfl, hv111⟩; have hz_w111 := hb_w111.size; (try simp at hz_w111); (with_reducible apply cel6 (b := w.heap.size) hb_w111); (focus ((try simp) <;> omega)); (focus omega); (focus (go_simp; try exact rfl)); (focus (go_simp; try exact rfl)); (focus (go_simp; try exact rfl)); (focus (go_simp; try exact rfl)); (focus (go_simp; try exact rfl)); (focus (go_simp; try exact rfl)); (focus (intro o; go_simp)); intro c_w111_0_0 c_w111_0_1 c_w111_0_2 c_w111_0_3 c_w111_0_4 c_w111_0_5 fz_w111_0 hl_w111_0)
  obtain ⟨s111x, A111x, n111x, c111x, s111y, A111y, n111y, c111y, s111d, A111d, n111d, c111d, rfl⟩ := RAt.val hv111
  have HB111 := Lib.hid (show Below w.heap.size w w111 by have hB := HB110.out; ((with_reducible (repeat (first | exact bR _ _ | refine bS ?_ ?_ _ | refine bA ?_ ?_ _ | refine bD ?_ | refine bT ?_ (by assumption) ?_ | refine bO (by assumption) ?_ ?_))) <;> (first | omega | (simp; done) | (simp <;> omega))))
  have hz111 : w.heap.size + 1 ≤ w111.heap.size := by omega
  clear hb_w111
  clear c_w110_0_0 c_w110_0_1 c_w110_0_2 c_w110_0_3 c_w110_0_4 c_w110_0_5 fz_w110_0 hl_w110_0
  have H111 := Lib.hid (show RAt w111 (.agg #[.bool s111x, .slice A111x n111x c111x, .bool s111y, .slice A111y n111y c111y, .bool s111d, .slice A111d n111d c111d]) (b1) (b2) (b3) from hv111)
  clear hv111
  go_wp2_with fail
  -- own blocks: w.heap.size:6, w111.heap.size:6
  (refine pin_wp (N := _) (Nat.le_refl _) (fun w112 hb_w112 hz_w112 => ?_); (try simp at hz_w112); (with_reducible apply cel6 (b := w.heap.size) hb_w112); (focus ((try simp) <;> omega)); (focus omega); (focus (go_simp; try exact rfl)); (focus (go_simp; try exact rfl)); (focus (go_simp; try exact rfl)); (focus (go_simp; try exact rfl)); (focus (go_simp; try exact rfl)); (focus (go_simp; try exact rfl)); (focus (intro o; go_simp)); intro c_w112_0_0 c_w112_0_1 c_w112_0_2 c_w112_0_3 c_w112_0_4 c_w112_0_5 fz_w112_0 hl_w112_0; (with_reducible apply cel6 (b := w111.heap.size) hb_w112); (focus ((try simp) <;> omega)); (focus omega); (focus (go_simp; try exact rfl)); (focus (go_simp; try exact rfl)); (focus (go_simp; try exact rfl)); (focus (go_simp; try exact rfl)); (focus (go_simp; try exact rfl)); (focus (go_simp; try exact rfl)); (focus (intro o; go_simp)); intro c_w112_1_0 c_w112_1_1 c_w112_1_2 c_w112_1_3 c_w112_1_4 c_w112_1_5 fz_w112_1 hl_w112_1); refine wp_q (fun Q_ HQ_ => ?_); refine wp_region_floatQ w112.heap.size 13 [13] (Nat.le_refl _) (fun _ => True) trivial Cl.tt (by kernel_rfl) (by kernel_rfl) ?_
  replace H111 := Lib.hid (RAt.below (v := .agg #[.bool s111x, .slice A111x n111x c111x, .bool s111y, .slice A111y n111y c111y, .bool s111d, .slice A111d n111d c111d]) (x := b1) (y := b2) (d := b3) (by ((repeat (first | (with_reducible exact H111.out) | (with_reducible refine RAt.al ?_ _) | (with_reducible apply RAt.st1))) <;> (first | (with_reducible assumption) | (intro _ e; cases e; done) | (go_simp; first | done | exact rfl)))) hb_w112)
  have HB112 := Lib.hid (show Below w.heap.size w w112 by have hB := HB111.out; ((with_reducible (repeat (first | exact bR _ _ | refine bS ?_ ?_ _ | refine bA ?_ ?_ _ | refine bD ?_ | refine bT ?_ (by assumption) ?_ | refine bO (by assumption) ?_ ?_))) <;> (first | omega | (simp; done) | (simp <;> omega))))
  have hz112 : w.heap.size + 1 ≤ w112.heap.size := by omega
  clear hb_w112
  clear c_w111_0_0 c_w111_0_1 c_w111_0_2 c_w111_0_3 c_w111_0_4 c_w111_0_5 fz_w111_0 hl_w111_0
  refine wpQI_start [0, 1, 2, 3, 4, 5, 6, 7, 8, 9] ?_; (iterate 10 (first | (refine wpQI_off (by with_reducible (refine List.getElem?_toArray.trans ?_; (repeat (first | exact List.getElem?_cons_zero | refine List.getElem?_cons_succ.trans ?_)))) (by kernel_rfl) (by exact rfl) (fun K hK => ?_); go_simp; refine hK _ ?_; clear hK K) | ((first | apply wpQI_step (by with_reducible (refine List.getElem?_toArray.trans ?_; (repeat (first | exact List.getElem?_cons_zero | refine List.getElem?_cons_succ.trans ?_)))) (by kernel_rfl) (by exact rfl) | apply wpQI_on (by with_reducible (refine List.getElem?_toArray.trans ?_; (repeat (first | exact List.getElem?_cons_zero | refine List.getElem?_cons_succ.trans ?_)))) (by kernel_rfl) (by exact rfl)); (focus (intro W' hS; have hcS := hS.cells.1; have hfS := hS.cells.2; go_simp; (first | done | exact rfl | exact ⟨rfl, Below.refl _ _⟩ | (go_simp; first | done | exact rfl | exact ⟨rfl, Below.refl _ _⟩)))); intro K hK; go_simp; (try go_bits); refine hK _ ?_; clear hK K))); refine wpQI_nil ?_
  apply wpQ_call (i := 10) (by with_reducible (refine List.getElem?_toArray.trans ?_; (repeat (first | exact List.getElem?_cons_zero | refine List.getElem?_cons_succ.trans ?_)))) (by kernel_rfl) (by exact rfl); intro W hF hS; have hcS := hS.1.cells.1; have hfS := hS.1.cells.2; go_simp; (go_at_call 39; refine (K12.out _).mono ?_; rintro e w113 ⟨hb_w113, v113, rfl, hv113⟩; refine XPost.mk _ (fun W => RAt W v113 ((-w1)) ((-w2)) (1)) hb_w113 (hv113) (RAt.cl _ _ _ _) ?_); clear hb_w113 hcS hfS hS hF
  intro K hK; go_simp; (try go_bits); refine hK _ ?_; clear hK K
  obtain ⟨s113x, A113x, n113x, c113x, s113y, A113y, n113y, c113y, s113d, A113d, n113d, c113d, rfl⟩ := RAt.val hv113
  clear hv113
  apply wpQ_call (i := 11) (by with_reducible (refine List.getElem?_toArray.trans ?_; (repeat (first | exact List.getElem?_cons_zero | refine List.getElem?_cons_succ.trans ?_)))) (by kernel_rfl) (by exact rfl); intro W hF hS; have hcS := hS.1.cells.1; have hfS := hS.1.cells.2; go_simp; (go_at_call 38; refine (K13.out _ _ _ ((H111.out.below hS.1.2)) (hF)).mono ?_; rintro e w114 ⟨hb_w114, v114, rfl, hv114⟩; refine XPost.mk _ (fun W => RAt W v114 (u1) (u2) (u3)) hb_w114 (hv114) (RAt.cl _ _ _ _) ?_); clear hb_w114 hcS hfS hS hF
  intro K hK; go_simp; (try go_bits); refine hK _ ?_; clear hK K
  obtain ⟨s114x, A114x, n114x, c114x, s114y, A114y, n114y, c114y, s114d, A114d, n114d, c114d, rfl⟩ := RAt.val hv114
  clear hv114
  apply wpQ_fresh (i := 12) LInv.std (by with_reducible (refine List.getElem?_toArray.trans ?_; (repeat (first | exact List.getElem?_cons_zero | refine List.getElem?_cons_succ.trans ?_)))) (by kernel_rfl) (fun g => Value.pointer (some ⟨g, 0, none⟩)) (by exact rfl); (focus (intro W; go_simp; first | done | exact rfl | exact ⟨rfl, rfl⟩))
  intro g_r12_12 hN_r12_12 hG_r12_12 K hK
  go_simp; refine hK _ ?_; clear hK K
  have hne : w.heap.size ≠ g_r12_12 := by have := hN_r12_12; omega
  have hne := Ne.symm hne
  have hne : w106.heap.size ≠ g_r12_12 := by have := hN_r12_12; omega
  have hne := Ne.symm hne
  have hne : w107.heap.size ≠ g_r12_12 := by have := hN_r12_12; omega
  have hne := Ne.symm hne
  have hne : w111.heap.size ≠ g_r12_12 := by have := hN_r12_12; omega
  have hne := Ne.symm hne
  refine wpQ_done (by kernel_rfl) ?_
  intro w115 hF_w115 hSG
  have hz_w115 := hSG.1.1
  have hb_w115 := hSG.1.2
  have hB_r12_12 := (hSG.2 _ (List.mem_cons_self ..)).2; simp only at hB_r12_12; have hl_r12_12 := (hSG.size (List.mem_cons_self ..)); simp only at hl_r12_12
  have c_w115_r12_12_0 := cell_of_row w115 g_r12_12 0 _ _ _ hB_r12_12; simp only [List.getElem?_toArray, List.getElem?_cons_zero] at c_w115_r12_12_0
  have c_w115_r12_12_1 := cell_of_row w115 g_r12_12 1 _ _ _ hB_r12_12; simp only [List.getElem?_toArray, List.getElem?_cons_zero, List.getElem?_cons_succ] at c_w115_r12_12_1
  have c_w115_r12_12_2 := cell_of_row w115 g_r12_12 2 _ _ _ hB_r12_12; simp only [List.getElem?_toArray, List.getElem?_cons_zero, List.getElem?_cons_succ] at c_w115_r12_12_2
  have c_w115_r12_12_3 := cell_of_row w115 g_r12_12 3 _ _ _ hB_r12_12; simp only [List.getElem?_toArray, List.getElem?_cons_zero, List.getElem?_cons_succ] at c_w115_r12_12_3
  have c_w115_r12_12_4 := cell_of_row w115 g_r12_12 4 _ _ _ hB_r12_12; simp only [List.getElem?_toArray, List.getElem?_cons_zero, List.getElem?_cons_succ] at c_w115_r12_12_4
  have c_w115_r12_12_5 := cell_of_row w115 g_r12_12 5 _ _ _ hB_r12_12; simp only [List.getElem?_toArray, List.getElem?_cons_zero, List.getElem?_cons_succ] at c_w115_r12_12_5
  have fz_w115_r12_12 : (∀ o, w115.frozen? ⟨g_r12_12, o, none⟩ = false) := (fun o => frozen_of_row w115 g_r12_12 o _ _ hB_r12_12); have HH_r12_12 := Lib.hid hB_r12_12; clear hB_r12_12
  clear hSG
  (with_reducible apply cel6 (b := w.heap.size) hb_w115); (focus ((try simp) <;> omega)); (focus omega); (focus (go_simp; try exact rfl)); (focus (go_simp; try exact rfl)); (focus (go_simp; try exact rfl)); (focus (go_simp; try exact rfl)); (focus (go_simp; try exact rfl)); (focus (go_simp; try exact rfl)); (focus (intro o; go_simp)); intro c_w115_0_0 c_w115_0_1 c_w115_0_2 c_w115_0_3 c_w115_0_4 c_w115_0_5 fz_w115_0 hl_w115_0; (with_reducible apply cel6 (b := w111.heap.size) hb_w115); (focus ((try simp) <;> omega)); (focus omega); (focus (go_simp; try exact rfl)); (focus (go_simp; try exact rfl)); (focus (go_simp; try exact rfl)); (focus (go_simp; try exact rfl)); (focus (go_simp; try exact rfl)); (focus (go_simp; try exact rfl)); (focus (intro o; go_simp)); intro c_w115_1_0 c_w115_1_1 c_w115_1_2 c_w115_1_3 c_w115_1_4 c_w115_1_5 fz_w115_1 hl_w115_1
  (try simp only [List.filterMap_cons, List.filterMap_nil, List.getElem?_cons_succ, List.getElem?_cons_zero])
  clear H111
  have H113 := Lib.hid (show RAt w115 (.agg #[.bool s113x, .slice A113x n113x c113x, .bool s113y, .slice A113y n113y c113y, .bool s113d, .slice A113d n113d c113d]) ((-w1)) ((-w2)) (1) from hF_w115.1)
  have H114 := Lib.hid (show RAt w115 (.agg #[.bool s114x, .slice A114x n114x c114x, .bool s114y, .slice A114y n114y c114y, .bool s114d, .slice A114d n114d c114d]) (u1) (u2) (u3) from hF_w115.2)
  have HB115 := Lib.hid (HB112.out.trans (hb_w115.mono (by have := HB112.out.size; omega)))
  have hz115 : w.heap.size + 1 ≤ w115.heap.size := by omega
  have hn_r12_12 : w.heap.size + 1 ≤ g_r12_12 := by have := hN_r12_12; omega
  clear hF_w115 hb_w115 HH_r12_12 hG_r12_12 hN_r12_12
  clear c_w112_0_0 c_w112_0_1 c_w112_0_2 c_w112_0_3 c_w112_0_4 c_w112_0_5 fz_w112_0 hl_w112_0 c_w112_1_0 c_w112_1_1 c_w112_1_2 c_w112_1_3 c_w112_1_4 c_w112_1_5 fz_w112_1 hl_w112_1
  go_wp2_with fail
  refine HQ_.out _ _ _ ?_
  clear HQ_ Q_
  go_wp2_with fail
  -- own blocks: w.heap.size:6, g_r12_12:6
  (go_at_call 20; refine (K14.out _).mono ?_; rintro e w116 ⟨rfl, hb_w116⟩; have hz_w116 := hb_w116.size; (try simp at hz_w116); (with_reducible apply cel6 (b := w.heap.size) hb_w116); (focus ((try simp) <;> omega)); (focus omega); (focus (go_simp; try exact rfl)); (focus (go_simp; try exact rfl)); (focus (go_simp; try exact rfl)); (focus (go_simp; try exact rfl)); (focus (go_simp; try exact rfl)); (focus (go_simp; try exact rfl)); (focus (intro o; go_simp)); intro c_w116_0_0 c_w116_0_1 c_w116_0_2 c_w116_0_3 c_w116_0_4 c_w116_0_5 fz_w116_0 hl_w116_0; (with_reducible apply cel6 (b := g_r12_12) hb_w116); (focus ((try simp) <;> omega)); (focus omega); (focus (go_simp; try exact rfl)); (focus (go_simp; try exact rfl)); (focus (go_simp; try exact rfl)); (focus (go_simp; try exact rfl)); (focus (go_simp; try exact rfl)); (focus (go_simp; try exact rfl)); (focus (intro o; go_simp)); intro c_w116_1_0 c_w116_1_1 c_w116_1_2 c_w116_1_3 c_w116_1_4 c_w116_1_5 fz_w116_1 hl_w116_1)
  clear H113
  replace H114 := Lib.hid (RAt.below (v := .agg #[.bool s114x, .slice A114x n114x c114x, .bool s114y, .slice A114y n114y c114y, .bool s114d, .slice A114d n114d c114d]) (x := u1) (y := u2) (d := u3) (by ((repeat (first | (with_reducible exact H114.out) | (with_reducible refine RAt.al ?_ _) | (with_reducible apply RAt.st1))) <;> (first | (with_reducible assumption) | (intro _ e; cases e; done) | (go_simp; first | done | exact rfl)))) hb_w116)
  have HB116 := Lib.hid (show Below w.heap.size w w116 by have hB := HB115.out; ((with_reducible (repeat (first | exact bR _ _ | refine bS ?_ ?_ _ | refine bA ?_ ?_ _ | refine bD ?_ | refine bT ?_ (by assumption) ?_ | refine bO (by assumption) ?_ ?_))) <;> (first | omega | (simp; done) | (simp <;> omega))))
  have hz116 : w.heap.size + 1 ≤ w116.heap.size := by omega
  clear hb_w116
  clear c_w115_r12_12_0 c_w115_r12_12_1 c_w115_r12_12_2 c_w115_r12_12_3 c_w115_r12_12_4 c_w115_r12_12_5 fz_w115_r12_12 c_w115_0_0 c_w115_0_1 c_w115_0_2 c_w115_0_3 c_w115_0_4 c_w115_0_5 fz_w115_0 hl_w115_0 c_w115_1_0 c_w115_1_1 c_w115_1_2 c_w115_1_3 c_w115_1_4 c_w115_1_5 fz_w115_1 hl_w115_1
  go_wp2_with fail
  -- own blocks: w.heap.size:6, g_r12_12:6, w116.heap.size:2
  (refine pin_wp (N := _) (Nat.le_refl _) (fun w117 hb_w117 hz_w117 => ?_); (try simp at hz_w117); (with_reducible apply cel6 (b := w.heap.size) hb_w117); (focus ((try simp) <;> omega)); (focus omega); (focus (go_simp; try exact rfl)); (focus (go_simp; try exact rfl)); (focus (go_simp; try exact rfl)); (focus (go_simp; try exact rfl)); (focus (go_simp; try exact rfl)); (focus (go_simp; try exact rfl)); (focus (intro o; go_simp)); intro c_w117_0_0 c_w117_0_1 c_w117_0_2 c_w117_0_3 c_w117_0_4 c_w117_0_5 fz_w117_0 hl_w117_0; (with_reducible apply cel6 (b := g_r12_12) hb_w117); (focus ((try simp) <;> omega)); (focus omega); (focus (go_simp; try exact rfl)); (focus (go_simp; try exact rfl)); (focus (go_simp; try exact rfl)); (focus (go_simp; try exact rfl)); (focus (go_simp; try exact rfl)); (focus (go_simp; try exact rfl)); (focus (intro o; go_simp)); intro c_w117_1_0 c_w117_1_1 c_w117_1_2 c_w117_1_3 c_w117_1_4 c_w117_1_5 fz_w117_1 hl_w117_1; (with_reducible apply cel2 (b := w116.heap.size) hb_w117); (focus ((try simp) <;> omega)); (focus omega); (focus (go_simp; try exact rfl)); (focus (go_simp; try exact rfl)); (focus (intro o; go_simp)); intro c_w117_2_0 c_w117_2_1 fz_w117_2 hl_w117_2); refine wp_q (fun Q_ HQ_ => ?_); refine wp_region_floatQ w117.heap.size 6 [] (Nat.le_refl _) (fun _ => True) trivial Cl.tt (by kernel_rfl) (by kernel_rfl) ?_
  replace H114 := Lib.hid (RAt.below (v := .agg #[.bool s114x, .slice A114x n114x c114x, .bool s114y, .slice A114y n114y c114y, .bool s114d, .slice A114d n114d c114d]) (x := u1) (y := u2) (d := u3) (by ((repeat (first | (with_reducible exact H114.out) | (with_reducible refine RAt.al ?_ _) | (with_reducible apply RAt.st1))) <;> (first | (with_reducible assumption) | (intro _ e; cases e; done) | (go_simp; first | done | exact rfl)))) hb_w117)
  have HB117 := Lib.hid (show Below w.heap.size w w117 by have hB := HB116.out; ((with_reducible (repeat (first | exact bR _ _ | refine bS ?_ ?_ _ | refine bA ?_ ?_ _ | refine bD ?_ | refine bT ?_ (by assumption) ?_ | refine bO (by assumption) ?_ ?_))) <;> (first | omega | (simp; done) | (simp <;> omega))))
  have hz117 : w.heap.size + 1 ≤ w117.heap.size := by omega
  clear hb_w117
  clear c_w116_0_0 c_w116_0_1 c_w116_0_2 c_w116_0_3 c_w116_0_4 c_w116_0_5 fz_w116_0 hl_w116_0 c_w116_1_0 c_w116_1_1 c_w116_1_2 c_w116_1_3 c_w116_1_4 c_w116_1_5 fz_w116_1 hl_w116_1
  refine wpQI_start [0, 1, 2] ?_; (iterate 3 (first | (refine wpQI_off (by with_reducible (refine List.getElem?_toArray.trans ?_; (repeat (first | exact List.getElem?_cons_zero | refine List.getElem?_cons_succ.trans ?_)))) (by kernel_rfl) (by exact rfl) (fun K hK => ?_); go_simp; refine hK _ ?_; clear hK K) | ((first | apply wpQI_step (by with_reducible (refine List.getElem?_toArray.trans ?_; (repeat (first | exact List.getElem?_cons_zero | refine List.getElem?_cons_succ.trans ?_)))) (by kernel_rfl) (by exact rfl) | apply wpQI_on (by with_reducible (refine List.getElem?_toArray.trans ?_; (repeat (first | exact List.getElem?_cons_zero | refine List.getElem?_cons_succ.trans ?_)))) (by kernel_rfl) (by exact rfl)); (focus (intro W' hS; have hcS := hS.cells.1; have hfS := hS.cells.2; go_simp; (first | done | exact rfl | exact ⟨rfl, Below.refl _ _⟩ | (go_simp; first | done | exact rfl | exact ⟨rfl, Below.refl _ _⟩)))); intro K hK; go_simp; (try go_bits); refine hK _ ?_; clear hK K))); refine wpQI_nil ?_
  refine wpQI_start [3] ?_; (iterate 1 (first | (refine wpQI_off (by with_reducible (refine List.getElem?_toArray.trans ?_; (repeat (first | exact List.getElem?_cons_zero | refine List.getElem?_cons_succ.trans ?_)))) (by kernel_rfl) (by exact rfl) (fun K hK => ?_); go_simp; refine hK _ ?_; clear hK K) | ((first | apply wpQI_step (by with_reducible (refine List.getElem?_toArray.trans ?_; (repeat (first | exact List.getElem?_cons_zero | refine List.getElem?_cons_succ.trans ?_)))) (by kernel_rfl) (by exact rfl) | apply wpQI_on (by with_reducible (refine List.getElem?_toArray.trans ?_; (repeat (first | exact List.getElem?_cons_zero | refine List.getElem?_cons_succ.trans ?_)))) (by kernel_rfl) (by exact rfl)); (focus (intro W' hS; have hcS := hS.cells.1; have hfS := hS.cells.2; go_simp; (first | done | exact rfl | exact ⟨rfl, Below.refl _ _⟩ | (go_at_call 19; exact (K15.out _).mono (fun _ _ h => ⟨h.1, h.2⟩)) | (go_simp; first | done | exact rfl | exact ⟨rfl, Below.refl _ _⟩)))); intro K hK; go_simp; (try go_bits); refine hK _ ?_; clear hK K))); refine wpQI_nil ?_
  apply wpQ_call (i := 4) (by with_reducible (refine List.getElem?_toArray.trans ?_; (repeat (first | exact List.getElem?_cons_zero | refine List.getElem?_cons_succ.trans ?_)))) (by kernel_rfl) (by exact rfl); intro W hF hS; have hcS := hS.1.cells.1; have hfS := hS.1.cells.2; go_simp; (go_at_call 37; refine (K16.out _ _ ((H114.out.below hS.1.2))).mono ?_; rintro e w118 ⟨rfl, hb_w118⟩; refine XPost.mk _ (fun _ => True) hb_w118 (trivial) (Cl.tt) ?_); clear hb_w118 hcS hfS hS hF
  intro K hK; go_simp; (try go_bits); refine hK _ ?_; clear hK K
  refine wpQI_start [5] ?_; (iterate 1 (first | (refine wpQI_off (by with_reducible (refine List.getElem?_toArray.trans ?_; (repeat (first | exact List.getElem?_cons_zero | refine List.getElem?_cons_succ.trans ?_)))) (by kernel_rfl) (by exact rfl) (fun K hK => ?_); go_simp; refine hK _ ?_; clear hK K) | ((first | apply wpQI_step (by with_reducible (refine List.getElem?_toArray.trans ?_; (repeat (first | exact List.getElem?_cons_zero | refine List.getElem?_cons_succ.trans ?_)))) (by kernel_rfl) (by exact rfl) | apply wpQI_on (by with_reducible (refine List.getElem?_toArray.trans ?_; (repeat (first | exact List.getElem?_cons_zero | refine List.getElem?_cons_succ.trans ?_)))) (by kernel_rfl) (by exact rfl)); (focus (intro W' hS; have hcS := hS.cells.1; have hfS := hS.cells.2; go_simp; (first | done | exact rfl | exact ⟨rfl, Below.refl _ _⟩ | (go_simp; first | done | exact rfl | exact ⟨rfl, Below.refl _ _⟩)))); intro K hK; go_simp; (try go_bits); refine hK _ ?_; clear hK K))); refine wpQI_nil ?_
  refine wpQ_done (by kernel_rfl) ?_
  intro w119 hF_w119 hSG
  have hz_w119 := hSG.1.1
  have hb_w119 := hSG.1.2
  clear hSG
  (with_reducible apply cel6 (b := w.heap.size) hb_w119); (focus ((try simp) <;> omega)); (focus omega); (focus (go_simp; try exact rfl)); (focus (go_simp; try exact rfl)); (focus (go_simp; try exact rfl)); (focus (go_simp; try exact rfl)); (focus (go_simp; try exact rfl)); (focus (go_simp; try exact rfl)); (focus (intro o; go_simp)); intro c_w119_0_0 c_w119_0_1 c_w119_0_2 c_w119_0_3 c_w119_0_4 c_w119_0_5 fz_w119_0 hl_w119_0; (with_reducible apply cel6 (b := g_r12_12) hb_w119); (focus ((try simp) <;> omega)); (focus omega); (focus (go_simp; try exact rfl)); (focus (go_simp; try exact rfl)); (focus (go_simp; try exact rfl)); (focus (go_simp; try exact rfl)); (focus (go_simp; try exact rfl)); (focus (go_simp; try exact rfl)); (focus (intro o; go_simp)); intro c_w119_1_0 c_w119_1_1 c_w119_1_2 c_w119_1_3 c_w119_1_4 c_w119_1_5 fz_w119_1 hl_w119_1; (with_reducible apply cel2 (b := w116.heap.size) hb_w119); (focus ((try simp) <;> omega)); (focus omega); (focus (go_simp; try exact rfl)); (focus (go_simp; try exact rfl)); (focus (intro o; go_simp)); intro c_w119_2_0 c_w119_2_1 fz_w119_2 hl_w119_2
  (try simp only [List.filterMap_nil])
  clear H114
  have HB119 := Lib.hid (HB117.out.trans (hb_w119.mono (by have := HB117.out.size; omega)))
  have hz119 : w.heap.size + 1 ≤ w119.heap.size := by omega
  clear hF_w119 hb_w119
  clear c_w117_0_0 c_w117_0_1 c_w117_0_2 c_w117_0_3 c_w117_0_4 c_w117_0_5 fz_w117_0 hl_w117_0 c_w117_1_0 c_w117_1_1 c_w117_1_2 c_w117_1_3 c_w117_1_4 c_w117_1_5 fz_w117_1 hl_w117_1 c_w117_2_0 c_w117_2_1 fz_w117_2 hl_w117_2
  go_wp2_with fail
  refine HQ_.out _ _ _ ?_
  clear HQ_ Q_
  go_wp2_with fail
  -- own blocks: w.heap.size:6
  (go_at_call 40; refine (K17.out _).mono ?_; rintro e w120 ⟨hb_w120, u120, v120, rfl, hu120, hv120⟩; have hz_w120 := hb_w120.size; (try simp at hz_w120); (with_reducible apply cel6 (b := w.heap.size) hb_w120); (focus ((try simp) <;> omega)); (focus omega); (focus (go_simp; try exact rfl)); (focus (go_simp; try exact rfl)); (focus (go_simp; try exact rfl)); (focus (go_simp; try exact rfl)); (focus (go_simp; try exact rfl)); (focus (go_simp; try exact rfl)); (focus (intro o; go_simp)); intro c_w120_0_0 c_w120_0_1 c_w120_0_2 c_w120_0_3 c_w120_0_4 c_w120_0_5 fz_w120_0 hl_w120_0)
  obtain ⟨s120ux, A120ux, n120ux, c120ux, s120uy, A120uy, n120uy, c120uy, s120ud, A120ud, n120ud, c120ud, rfl⟩ := RAt.val hu120
  obtain ⟨s120x, A120x, n120x, c120x, s120y, A120y, n120y, c120y, s120d, A120d, n120d, c120d, rfl⟩ := RAt.val hv120
  have HB120 := Lib.hid (show Below w.heap.size w w120 by have hB := HB119.out; ((with_reducible (repeat (first | exact bR _ _ | refine bS ?_ ?_ _ | refine bA ?_ ?_ _ | refine bD ?_ | refine bT ?_ (by assumption) ?_ | refine bO (by assumption) ?_ ?_))) <;> (first | omega | (simp; done) | (simp <;> omega))))
  have hz120 : w.heap.size + 1 ≤ w120.heap.size := by omega
  clear hb_w120
  clear c_w119_0_0 c_w119_0_1 c_w119_0_2 c_w119_0_3 c_w119_0_4 c_w119_0_5 fz_w119_0 hl_w119_0 c_w119_1_0 c_w119_1_1 c_w119_1_2 c_w119_1_3 c_w119_1_4 c_w119_1_5 fz_w119_1 hl_w119_1 c_w119_2_0 c_w119_2_1 fz_w119_2 hl_w119_2
  have H120u := Lib.hid (show RAt w120 (.agg #[.bool s120ux, .slice A120ux n120ux c120ux, .bool s120uy, .slice A120uy n120uy c120uy, .bool s120ud, .slice A120ud n120ud c120ud]) (p1) (p2) (p3) from hu120)
  clear hu120
  have H120 := Lib.hid (show RAt w120 (.agg #[.bool s120x, .slice A120x n120x c120x, .bool s120y, .slice A120y n120y c120y, .bool s120d, .slice A120d n120d c120d]) (q1) (q2) (q3) from hv120)
  clear hv120
  go_wp2_with fail
  -- own blocks: w.heap.size:6, w120.heap.size:6, w120.heap.size + 1:6
  (go_at_call 36; refine (K18.out _ _ _ _ _ _ _ _ _ _ _ _ _ _ (by (try simp) <;> omega) (by go_simp) (by go_simp) (by go_simp) (by go_simp) (by go_simp) (by go_simp) (show RAt _ (.agg #[.bool s120ux, .slice A120ux n120ux c120ux, .bool s120uy, .slice A120uy n120uy c120uy, .bool s120ud, .slice A120ud n120ud c120ud]) (p1) (p2) (p3) by ((repeat (first | (with_reducible exact H120u.out) | (with_reducible refine RAt.al ?_ _) | (with_reducible apply RAt.st1))) <;> (first | (with_reducible assumption) | (intro _ e; cases e; done) | (go_simp; first | done | exact rfl))))).mono ?_; rintro e w121 ⟨rfl, hb_w121⟩; have hz_w121 := hb_w121.size; (try simp at hz_w121); (with_reducible apply cel6 (b := w.heap.size) hb_w121); (focus ((try simp) <;> omega)); (focus omega); (focus (go_simp; try exact rfl)); (focus (go_simp; try exact rfl)); (focus (go_simp; try exact rfl)); (focus (go_simp; try exact rfl)); (focus (go_simp; try exact rfl)); (focus (go_simp; try exact rfl)); (focus (intro o; go_simp)); intro c_w121_0_0 c_w121_0_1 c_w121_0_2 c_w121_0_3 c_w121_0_4 c_w121_0_5 fz_w121_0 hl_w121_0; (with_reducible apply cel6 (b := w120.heap.size) hb_w121); (focus ((try simp) <;> omega)); (focus omega); (focus (go_simp; try exact rfl)); (focus (go_simp; try exact rfl)); (focus (go_simp; try exact rfl)); (focus (go_simp; try exact rfl)); (focus (go_simp; try exact rfl)); (focus (go_simp; try exact rfl)); (focus (intro o; go_simp)); intro c_w121_1_0 c_w121_1_1 c_w121_1_2 c_w121_1_3 c_w121_1_4 c_w121_1_5 fz_w121_1 hl_w121_1; (with_reducible apply cel6 (b := w120.heap.size + 1) hb_w121); (focus ((try simp) <;> omega)); (focus omega); (focus (go_simp; try exact rfl)); (focus (go_simp; try exact rfl)); (focus (go_simp; try exact rfl)); (focus (go_simp; try exact rfl)); (focus (go_simp; try exact rfl)); (focus (go_simp; try exact rfl)); (focus (intro o; go_simp)); intro c_w121_2_0 c_w121_2_1 c_w121_2_2 c_w121_2_3 c_w121_2_4 c_w121_2_5 fz_w121_2 hl_w121_2)
  replace H120u := Lib.hid (RAt.below (v := .agg #[.bool s120ux, .slice A120ux n120ux c120ux, .bool s120uy, .slice A120uy n120uy c120uy, .bool s120ud, .slice A120ud n120ud c120ud]) (x := p1) (y := p2) (d := p3) (by ((repeat (first | (with_reducible exact H120u.out) | (with_reducible refine RAt.al ?_ _) | (with_reducible apply RAt.st1))) <;> (first | (with_reducible assumption) | (intro _ e; cases e; done) | (go_simp; first | done | exact rfl)))) hb_w121)
  replace H120 := Lib.hid (RAt.below (v := .agg #[.bool s120x, .slice A120x n120x c120x, .bool s120y, .slice A120y n120y c120y, .bool s120d, .slice A120d n120d c120d]) (x := q1) (y := q2) (d := q3) (by ((repeat (first | (with_reducible exact H120.out) | (with_reducible refine RAt.al ?_ _) | (with_reducible apply RAt.st1))) <;> (first | (with_reducible assumption) | (intro _ e; cases e; done) | (go_simp; first | done | exact rfl)))) hb_w121)
  have HB121 := Lib.hid (show Below w.heap.size w w121 by have hB := HB120.out; ((with_reducible (repeat (first | exact bR _ _ | refine bS ?_ ?_ _ | refine bA ?_ ?_ _ | refine bD ?_ | refine bT ?_ (by assumption) ?_ | refine bO (by assumption) ?_ ?_))) <;> (first | omega | (simp; done) | (simp <;> omega))))
  have hz121 : w.heap.size + 1 ≤ w121.heap.size := by omega
  clear hb_w121
  clear c_w120_0_0 c_w120_0_1 c_w120_0_2 c_w120_0_3 c_w120_0_4 c_w120_0_5 fz_w120_0 hl_w120_0
  go_wp2_with fail
  -- own blocks: w.heap.size:6, w120.heap.size:6, w120.heap.size + 1:6, w121.heap.size:2
  (go_at_call 36; refine (K19.out _ _ _ _ _ _ _ _ _ _ _ _ _ _ (by (try simp) <;> omega) (by go_simp) (by go_simp) (by go_simp) (by go_simp) (by go_simp) (by go_simp) (show RAt _ (.agg #[.bool s120x, .slice A120x n120x c120x, .bool s120y, .slice A120y n120y c120y, .bool s120d, .slice A120d n120d c120d]) (q1) (q2) (q3) by ((repeat (first | (with_reducible exact H120.out) | (with_reducible refine RAt.al ?_ _) | (with_reducible apply RAt.st1))) <;> (first | (with_reducible assumption) | (intro _ e; cases e; done) | (go_simp; first | done | exact rfl))))).mono ?_; rintro e w122 ⟨rfl, hb_w122⟩; have hz_w122 := hb_w122.size; (try simp at hz_w122); (with_reducible apply cel6 (b := w.heap.size) hb_w122); (focus ((try simp) <;> omega)); (focus omega); (focus (go_simp; try exact rfl)); (focus (go_simp; try exact rfl)); (focus (go_simp; try exact rfl)); (focus (go_simp; try exact rfl)); (focus (go_simp; try exact rfl)); (focus (go_simp; try exact rfl)); (focus (intro o; go_simp)); intro c_w122_0_0 c_w122_0_1 c_w122_0_2 c_w122_0_3 c_w122_0_4 c_w122_0_5 fz_w122_0 hl_w122_0; (with_reducible apply cel6 (b := w120.heap.size) hb_w122); (focus ((try simp) <;> omega)); (focus omega); (focus (go_simp; try exact rfl)); (focus (go_simp; try exact rfl)); (focus (go_simp; try exact rfl)); (focus (go_simp; try exact rfl)); (focus (go_simp; try exact rfl)); (focus (go_simp; try exact rfl)); (focus (intro o; go_simp)); intro c_w122_1_0 c_w122_1_1 c_w122_1_2 c_w122_1_3 c_w122_1_4 c_w122_1_5 fz_w122_1 hl_w122_1; (with_reducible apply cel6 (b := w120.heap.size + 1) hb_w122); (focus ((try simp) <;> omega)); (focus omega); (focus (go_simp; try exact rfl)); (focus (go_simp; try exact rfl)); (focus (go_simp; try exact rfl)); (focus (go_simp; try exact rfl)); (focus (go_simp; try exact rfl)); (focus (go_simp; try exact rfl)); (focus (intro o; go_simp)); intro c_w122_2_0 c_w122_2_1 c_w122_2_2 c_w122_2_3 c_w122_2_4 c_w122_2_5 fz_w122_2 hl_w122_2; (with_reducible apply cel2 (b := w121.heap.size) hb_w122); (focus ((try simp) <;> omega)); (focus omega); (focus (go_simp; try exact rfl)); (focus (go_simp; try exact rfl)); (focus (intro o; go_simp)); intro c_w122_3_0 c_w122_3_1 fz_w122_3 hl_w122_3)
  replace H120u := Lib.hid (RAt.below (v := .agg #[.bool s120ux, .slice A120ux n120ux c120ux, .bool s120uy, .slice A120uy n120uy c120uy, .bool s120ud, .slice A120ud n120ud c120ud]) (x := p1) (y := p2) (d := p3) (by ((repeat (first | (with_reducible exact H120u.out) | (with_reducible refine RAt.al ?_ _) | (with_reducible apply RAt.st1))) <;> (first | (with_reducible assumption) | (intro _ e; cases e; done) | (go_simp; first | done | exact rfl)))) hb_w122)
  replace H120 := Lib.hid (RAt.below (v := .agg #[.bool s120x, .slice A120x n120x c120x, .bool s120y, .slice A120y n120y c120y, .bool s120d, .slice A120d n120d c120d]) (x := q1) (y := q2) (d := q3) (by ((repeat (first | (with_reducible exact H120.out) | (with_reducible refine RAt.al ?_ _) | (with_reducible apply RAt.st1))) <;> (first | (with_reducible assumption) | (intro _ e; cases e; done) | (go_simp; first | done | exact rfl)))) hb_w122)
  have HB122 := Lib.hid (show Below w.heap.size w w122 by have hB := HB121.out; ((with_reducible (repeat (first | exact bR _ _ | refine bS ?_ ?_ _ | refine bA ?_ ?_ _ | refine bD ?_ | refine bT ?_ (by assumption) ?_ | refine bO (by assumption) ?_ ?_))) <;> (first | omega | (simp; done) | (simp <;> omega))))
  have hz122 : w.heap.size + 1 ≤ w122.heap.size := by omega
  clear hb_w122
  clear c_w121_0_0 c_w121_0_1 c_w121_0_2 c_w121_0_3 c_w121_0_4 c_w121_0_5 fz_w121_0 hl_w121_0 c_w121_1_0 c_w121_1_1 c_w121_1_2 c_w121_1_3 c_w121_1_4 c_w121_1_5 fz_w121_1 hl_w121_1 c_w121_2_0 c_w121_2_1 c_w121_2_2 c_w121_2_3 c_w121_2_4 c_w121_2_5 fz_w121_2 hl_w121_2
  go_wp2_with fail
  -- own blocks: w.heap.size:6, w120.heap.size + 1:6, w121.heap.size:2, w122.heap.size:2
  (go_at_call 41; refine (K20.out _ _ ((show RAt _ (.agg #[.bool s120ux, .slice A120ux n120ux c120ux, .bool s120uy, .slice A120uy n120uy c120uy, .bool s120ud, .slice A120ud n120ud c120ud]) (p1) (p2) (p3) by ((repeat (first | (with_reducible exact H120u.out) | (with_reducible refine RAt.al ?_ _) | (with_reducible apply RAt.st1))) <;> (first | (with_reducible assumption) | (intro _ e; cases e; done) | (go_simp; first | done | exact rfl)))))).mono ?_; rintro e w123 ⟨hb_w123, u123, v123, rfl, hu123, hv123⟩; have hz_w123 := hb_w123.size; (try simp at hz_w123); (with_reducible apply cel6 (b := w.heap.size) hb_w123); (focus ((try simp) <;> omega)); (focus omega); (focus (go_simp; try exact rfl)); (focus (go_simp; try exact rfl)); (focus (go_simp; try exact rfl)); (focus (go_simp; try exact rfl)); (focus (go_simp; try exact rfl)); (focus (go_simp; try exact rfl)); (focus (intro o; go_simp)); intro c_w123_0_0 c_w123_0_1 c_w123_0_2 c_w123_0_3 c_w123_0_4 c_w123_0_5 fz_w123_0 hl_w123_0; (with_reducible apply cel6 (b := w120.heap.size + 1) hb_w123); (focus ((try simp) <;> omega)); (focus omega); (focus (go_simp; try exact rfl)); (focus (go_simp; try exact rfl)); (focus (go_simp; try exact rfl)); (focus (go_simp; try exact rfl)); (focus (go_simp; try exact rfl)); (focus (go_simp; try exact rfl)); (focus (intro o; go_simp)); intro c_w123_1_0 c_w123_1_1 c_w123_1_2 c_w123_1_3 c_w123_1_4 c_w123_1_5 fz_w123_1 hl_w123_1; (with_reducible apply cel2 (b := w121.heap.size) hb_w123); (focus ((try simp) <;> omega)); (focus omega); (focus (go_simp; try exact rfl)); (focus (go_simp; try exact rfl)); (focus (intro o; go_simp)); intro c_w123_2_0 c_w123_2_1 fz_w123_2 hl_w123_2; (with_reducible apply cel2 (b := w122.heap.size) hb_w123); (focus ((try simp) <;> omega)); (focus omega); (focus (go_simp; try exact rfl)); (focus (go_simp; try exact rfl)); (focus (intro o; go_simp)); intro c_w123_3_0 c_w123_3_1 fz_w123_3 hl_w123_3)
  obtain ⟨s123u, A123u, n123u, c123u, rfl⟩ := IsC.val hu123
  obtain ⟨s123, A123, n123, c123, rfl⟩ := IsC.val hv123
  clear H120u
  replace H120 := Lib.hid (RAt.below (v := .agg #[.bool s120x, .slice A120x n120x c120x, .bool s120y, .slice A120y n120y c120y, .bool s120d, .slice A120d n120d c120d]) (x := q1) (y := q2) (d := q3) (by ((repeat (first | (with_reducible exact H120.out) | (with_reducible refine RAt.al ?_ _) | (with_reducible apply RAt.st1))) <;> (first | (with_reducible assumption) | (intro _ e; cases e; done) | (go_simp; first | done | exact rfl)))) hb_w123)
  have HB123 := Lib.hid (show Below w.heap.size w w123 by have hB := HB122.out; ((with_reducible (repeat (first | exact bR _ _ | refine bS ?_ ?_ _ | refine bA ?_ ?_ _ | refine bD ?_ | refine bT ?_ (by assumption) ?_ | refine bO (by assumption) ?_ ?_))) <;> (first | omega | (simp; done) | (simp <;> omega))))
  have hz123 : w.heap.size + 1 ≤ w123.heap.size := by omega
  clear hb_w123
  clear c_w122_0_0 c_w122_0_1 c_w122_0_2 c_w122_0_3 c_w122_0_4 c_w122_0_5 fz_w122_0 hl_w122_0 c_w122_1_0 c_w122_1_1 c_w122_1_2 c_w122_1_3 c_w122_1_4 c_w122_1_5 fz_w122_1 hl_w122_1 c_w122_2_0 c_w122_2_1 c_w122_2_2 c_w122_2_3 c_w122_2_4 c_w122_2_5 fz_w122_2 hl_w122_2 c_w122_3_0 c_w122_3_1 fz_w122_3 hl_w122_3
  have H123u := Lib.hid (show IsC w123 (.agg #[.bool s123u, .slice A123u n123u c123u]) (sp) from hu123)
  clear hu123
  have H123 := Lib.hid (show IsC w123 (.agg #[.bool s123, .slice A123 n123 c123]) (dp) from hv123)
  clear hv123
  go_wp2_with fail
  -- own blocks: w.heap.size:6, w121.heap.size:2, w122.heap.size:2, w123.heap.size:2, w123.heap.size + 1:2
  (go_at_call 41; refine (K21.out _ _ ((show RAt _ (.agg #[.bool s120x, .slice A120x n120x c120x, .bool s120y, .slice A120y n120y c120y, .bool s120d, .slice A120d n120d c120d]) (q1) (q2) (q3) by ((repeat (first | (with_reducible exact H120.out) | (with_reducible refine RAt.al ?_ _) | (with_reducible apply RAt.st1))) <;> (first | (with_reducible assumption) | (intro _ e; cases e; done) | (go_simp; first | done | exact rfl)))))).mono ?_; rintro e w124 ⟨hb_w124, u124, v124, rfl, hu124, hv124⟩; have hz_w124 := hb_w124.size; (try simp at hz_w124); (with_reducible apply cel6 (b := w.heap.size) hb_w124); (focus ((try simp) <;> omega)); (focus omega); (focus (go_simp; try exact rfl)); (focus (go_simp; try exact rfl)); (focus (go_simp; try exact rfl)); (focus (go_simp; try exact rfl)); (focus (go_simp; try exact rfl)); (focus (go_simp; try exact rfl)); (focus (intro o; go_simp)); intro c_w124_0_0 c_w124_0_1 c_w124_0_2 c_w124_0_3 c_w124_0_4 c_w124_0_5 fz_w124_0 hl_w124_0; (with_reducible apply cel2 (b := w121.heap.size) hb_w124); (focus ((try simp) <;> omega)); (focus omega); (focus (go_simp; try exact rfl)); (focus (go_simp; try exact rfl)); (focus (intro o; go_simp)); intro c_w124_1_0 c_w124_1_1 fz_w124_1 hl_w124_1; (with_reducible apply cel2 (b := w122.heap.size) hb_w124); (focus ((try simp) <;> omega)); (focus omega); (focus (go_simp; try exact rfl)); (focus (go_simp; try exact rfl)); (focus (intro o; go_simp)); intro c_w124_2_0 c_w124_2_1 fz_w124_2 hl_w124_2; (with_reducible apply cel2 (b := w123.heap.size) hb_w124); (focus ((try simp) <;> omega)); (focus omega); (focus (go_simp; try exact rfl)); (focus (go_simp; try exact rfl)); (focus (intro o; go_simp)); intro c_w124_3_0 c_w124_3_1 fz_w124_3 hl_w124_3; (with_reducible apply cel2 (b := w123.heap.size + 1) hb_w124); (focus ((try simp) <;> omega)); (focus omega); (focus (go_simp; try exact rfl)); (focus (go_simp; try exact rfl)); (focus (intro o; go_simp)); intro c_w124_4_0 c_w124_4_1 fz_w124_4 hl_w124_4)
  obtain ⟨s124u, A124u, n124u, c124u, rfl⟩ := IsC.val hu124
  obtain ⟨s124, A124, n124, c124, rfl⟩ := IsC.val hv124
  clear H120
  replace H123u := Lib.hid (IsC.below (v := .agg #[.bool s123u, .slice A123u n123u c123u]) (z := sp) (by ((repeat (first | (with_reducible exact H123u.out) | (with_reducible refine IsC.al ?_ _) | (with_reducible apply IsC.st1))) <;> (first | (with_reducible assumption) | (intro _ e; cases e; done) | (go_simp; first | done | exact rfl)))) hb_w124)
  replace H123 := Lib.hid (IsC.below (v := .agg #[.bool s123, .slice A123 n123 c123]) (z := dp) (by ((repeat (first | (with_reducible exact H123.out) | (with_reducible refine IsC.al ?_ _) | (with_reducible apply IsC.st1))) <;> (first | (with_reducible assumption) | (intro _ e; cases e; done) | (go_simp; first | done | exact rfl)))) hb_w124)
  have HB124 := Lib.hid (show Below w.heap.size w w124 by have hB := HB123.out; ((with_reducible (repeat (first | exact bR _ _ | refine bS ?_ ?_ _ | refine bA ?_ ?_ _ | refine bD ?_ | refine bT ?_ (by assumption) ?_ | refine bO (by assumption) ?_ ?_))) <;> (first | omega | (simp; done) | (simp <;> omega))))
  have hz124 : w.heap.size + 1 ≤ w124.heap.size := by omega
  clear hb_w124
  clear c_w123_0_0 c_w123_0_1 c_w123_0_2 c_w123_0_3 c_w123_0_4 c_w123_0_5 fz_w123_0 hl_w123_0 c_w123_1_0 c_w123_1_1 c_w123_1_2 c_w123_1_3 c_w123_1_4 c_w123_1_5 fz_w123_1 hl_w123_1 c_w123_2_0 c_w123_2_1 fz_w123_2 hl_w123_2 c_w123_3_0 c_w123_3_1 fz_w123_3 hl_w123_3
  have H124u := Lib.hid (show IsC w124 (.agg #[.bool s124u, .slice A124u n124u c124u]) (sq) from hu124)
  clear hu124
  have H124 := Lib.hid (show IsC w124 (.agg #[.bool s124, .slice A124 n124 c124]) (dq) from hv124)
  clear hv124
  go_wp2_with fail
  -- own blocks: w.heap.size:6, w121.heap.size:2, w122.heap.size:2, w123.heap.size:2, w123.heap.size + 1:2, w124.heap.size:2, w124.heap.size + 1:2
  (refine pin_wp (N := _) (Nat.le_refl _) (fun w125 hb_w125 hz_w125 => ?_); (try simp at hz_w125); (with_reducible apply cel6 (b := w.heap.size) hb_w125); (focus ((try simp) <;> omega)); (focus omega); (focus (go_simp; try exact rfl)); (focus (go_simp; try exact rfl)); (focus (go_simp; try exact rfl)); (focus (go_simp; try exact rfl)); (focus (go_simp; try exact rfl)); (focus (go_simp; try exact rfl)); (focus (intro o; go_simp)); intro c_w125_0_0 c_w125_0_1 c_w125_0_2 c_w125_0_3 c_w125_0_4 c_w125_0_5 fz_w125_0 hl_w125_0; (with_reducible apply cel2 (b := w121.heap.size) hb_w125); (focus ((try simp) <;> omega)); (focus omega); (focus (go_simp; try exact rfl)); (focus (go_simp; try exact rfl)); (focus (intro o; go_simp)); intro c_w125_1_0 c_w125_1_1 fz_w125_1 hl_w125_1; (with_reducible apply cel2 (b := w122.heap.size) hb_w125); (focus ((try simp) <;> omega)); (focus omega); (focus (go_simp; try exact rfl)); (focus (go_simp; try exact rfl)); (focus (intro o; go_simp)); intro c_w125_2_0 c_w125_2_1 fz_w125_2 hl_w125_2; (with_reducible apply cel2 (b := w123.heap.size) hb_w125); (focus ((try simp) <;> omega)); (focus omega); (focus (go_simp; try exact rfl)); (focus (go_simp; try exact rfl)); (focus (intro o; go_simp)); intro c_w125_3_0 c_w125_3_1 fz_w125_3 hl_w125_3; (with_reducible apply cel2 (b := w123.heap.size + 1) hb_w125); (focus ((try simp) <;> omega)); (focus omega); (focus (go_simp; try exact rfl)); (focus (go_simp; try exact rfl)); (focus (intro o; go_simp)); intro c_w125_4_0 c_w125_4_1 fz_w125_4 hl_w125_4; (with_reducible apply cel2 (b := w124.heap.size) hb_w125); (focus ((try simp) <;> omega)); (focus omega); (focus (go_simp; try exact rfl)); (focus (go_simp; try exact rfl)); (focus (intro o; go_simp)); intro c_w125_5_0 c_w125_5_1 fz_w125_5 hl_w125_5; (with_reducible apply cel2 (b := w124.heap.size + 1) hb_w125); (focus ((try simp) <;> omega)); (focus omega); (focus (go_simp; try exact rfl)); (focus (go_simp; try exact rfl)); (focus (intro o; go_simp)); intro c_w125_6_0 c_w125_6_1 fz_w125_6 hl_w125_6); refine wp_q (fun Q_ HQ_ => ?_); refine wp_region_floatQ w125.heap.size 8 [8] (Nat.le_refl _) (fun _ => True) trivial Cl.tt (by kernel_rfl) (by kernel_rfl) ?_
  replace H123u := Lib.hid (IsC.below (v := .agg #[.bool s123u, .slice A123u n123u c123u]) (z := sp) (by ((repeat (first | (with_reducible exact H123u.out) | (with_reducible refine IsC.al ?_ _) | (with_reducible apply IsC.st1))) <;> (first | (with_reducible assumption) | (intro _ e; cases e; done) | (go_simp; first | done | exact rfl)))) hb_w125)
  replace H123 := Lib.hid (IsC.below (v := .agg #[.bool s123, .slice A123 n123 c123]) (z := dp) (by ((repeat (first | (with_reducible exact H123.out) | (with_reducible refine IsC.al ?_ _) | (with_reducible apply IsC.st1))) <;> (first | (with_reducible assumption) | (intro _ e; cases e; done) | (go_simp; first | done | exact rfl)))) hb_w125)
  replace H124u := Lib.hid (IsC.below (v := .agg #[.bool s124u, .slice A124u n124u c124u]) (z := sq) (by ((repeat (first | (with_reducible exact H124u.out) | (with_reducible refine IsC.al ?_ _) | (with_reducible apply IsC.st1))) <;> (first | (with_reducible assumption) | (intro _ e; cases e; done) | (go_simp; first | done | exact rfl)))) hb_w125)
  replace H124 := Lib.hid (IsC.below (v := .agg #[.bool s124, .slice A124 n124 c124]) (z := dq) (by ((repeat (first | (with_reducible exact H124.out) | (with_reducible refine IsC.al ?_ _) | (with_reducible apply IsC.st1))) <;> (first | (with_reducible assumption) | (intro _ e; cases e; done) | (go_simp; first | done | exact rfl)))) hb_w125)
  have HB125 := Lib.hid (show Below w.heap.size w w125 by have hB := HB124.out; ((with_reducible (repeat (first | exact bR _ _ | refine bS ?_ ?_ _ | refine bA ?_ ?_ _ | refine bD ?_ | refine bT ?_ (by assumption) ?_ | refine bO (by assumption) ?_ ?_))) <;> (first | omega | (simp; done) | (simp <;> omega))))
  have hz125 : w.heap.size + 1 ≤ w125.heap.size := by omega
  clear hb_w125
  clear c_w124_0_0 c_w124_0_1 c_w124_0_2 c_w124_0_3 c_w124_0_4 c_w124_0_5 fz_w124_0 hl_w124_0 c_w124_1_0 c_w124_1_1 fz_w124_1 hl_w124_1 c_w124_2_0 c_w124_2_1 fz_w124_2 hl_w124_2 c_w124_3_0 c_w124_3_1 fz_w124_3 hl_w124_3 c_w124_4_0 c_w124_4_1 fz_w124_4 hl_w124_4
  refine wpQI_start [0, 1] ?_; (iterate 2 (first | (refine wpQI_off (by with_reducible (refine List.getElem?_toArray.trans ?_; (repeat (first | exact List.getElem?_cons_zero | refine List.getElem?_cons_succ.trans ?_)))) (by kernel_rfl) (by exact rfl) (fun K hK => ?_); go_simp; refine hK _ ?_; clear hK K) | ((first | apply wpQI_step (by with_reducible (refine List.getElem?_toArray.trans ?_; (repeat (first | exact List.getElem?_cons_zero | refine List.getElem?_cons_succ.trans ?_)))) (by kernel_rfl) (by exact rfl) | apply wpQI_on (by with_reducible (refine List.getElem?_toArray.trans ?_; (repeat (first | exact List.getElem?_cons_zero | refine List.getElem?_cons_succ.trans ?_)))) (by kernel_rfl) (by exact rfl)); (focus (intro W' hS; have hcS := hS.cells.1; have hfS := hS.cells.2; go_simp; (first | done | exact rfl | exact ⟨rfl, Below.refl _ _⟩ | (go_simp; first | done | exact rfl | exact ⟨rfl, Below.refl _ _⟩)))); intro K hK; go_simp; (try go_bits); refine hK _ ?_; clear hK K))); refine wpQI_nil ?_
  refine wpQI_start [3, 4] ?_; (iterate 2 (first | (refine wpQI_off (by with_reducible (refine List.getElem?_toArray.trans ?_; (repeat (first | exact List.getElem?_cons_zero | refine List.getElem?_cons_succ.trans ?_)))) (by kernel_rfl) (by exact rfl) (fun K hK => ?_); go_simp; refine hK _ ?_; clear hK K) | ((first | apply wpQI_step (by with_reducible (refine List.getElem?_toArray.trans ?_; (repeat (first | exact List.getElem?_cons_zero | refine List.getElem?_cons_succ.trans ?_)))) (by kernel_rfl) (by exact rfl) | apply wpQI_on (by with_reducible (refine List.getElem?_toArray.trans ?_; (repeat (first | exact List.getElem?_cons_zero | refine List.getElem?_cons_succ.trans ?_)))) (by kernel_rfl) (by exact rfl)); (focus (intro W' hS; have hcS := hS.cells.1; have hfS := hS.cells.2; go_simp; (first | done | exact rfl | exact ⟨rfl, Below.refl _ _⟩ | (go_simp; first | done | exact rfl | exact ⟨rfl, Below.refl _ _⟩)))); intro K hK; go_simp; (try go_bits); refine hK _ ?_; clear hK K))); refine wpQI_nil ?_
  apply wpQ_call (i := 2) (by with_reducible (refine List.getElem?_toArray.trans ?_; (repeat (first | exact List.getElem?_cons_zero | refine List.getElem?_cons_succ.trans ?_)))) (by kernel_rfl) (by exact rfl); intro W hF hS; have hcS := hS.1.cells.1; have hfS := hS.1.cells.2; go_simp; (go_at_call 43; refine (K22.out _ _ _ ((H123u.out.below hS.1.2).zl LSP.out) ((H124.out.below hS.1.2).zl LDQ.out)).mono ?_; rintro e w126 ⟨hb_w126, v126, rfl, hv126⟩; refine XPost.mk _ (fun W => IsC W v126 (m1)) hb_w126 (hv126) (IsC.cl _ _) ?_); clear hb_w126 hcS hfS hS hF
  intro K hK; go_simp; (try go_bits); refine hK _ ?_; clear hK K
  obtain ⟨s126, A126, n126, c126, rfl⟩ := IsC.val hv126
  clear hv126
  apply wpQ_call (i := 5) (by with_reducible (refine List.getElem?_toArray.trans ?_; (repeat (first | exact List.getElem?_cons_zero | refine List.getElem?_cons_succ.trans ?_)))) (by kernel_rfl) (by exact rfl); intro W hF hS; have hcS := hS.1.cells.1; have hfS := hS.1.cells.2; go_simp; (go_at_call 43; refine (K23.out _ _ _ ((H124u.out.below hS.1.2).zl LSQ.out) ((H123.out.below hS.1.2).zl LDP.out)).mono ?_; rintro e w127 ⟨hb_w127, v127, rfl, hv127⟩; refine XPost.mk _ (fun W => IsC W v127 (m2)) hb_w127 (hv127) (IsC.cl _ _) ?_); clear hb_w127 hcS hfS hS hF
  intro K hK; go_simp; (try go_bits); refine hK _ ?_; clear hK K
  obtain ⟨s127, A127, n127, c127, rfl⟩ := IsC.val hv127
  clear hv127
  apply wpQ_call (i := 6) (by with_reducible (refine List.getElem?_toArray.trans ?_; (repeat (first | exact List.getElem?_cons_zero | refine List.getElem?_cons_succ.trans ?_)))) (by kernel_rfl) (by exact rfl); intro W hF hS; have hcS := hS.1.cells.1; have hfS := hS.1.cells.2; go_simp; (go_at_call 42; refine (K24.out _ _ _ (hF.1.zl LM1.out) (hF.2.zl LM2.out)).mono ?_; rintro e w128 ⟨hb_w128, v128, rfl, hv128⟩; refine XPost.mk _ (fun W => IsC W v128 (m3)) hb_w128 (hv128) (IsC.cl _ _) ?_); clear hb_w128 hcS hfS hS hF
  intro K hK; go_simp; (try go_bits); refine hK _ ?_; clear hK K
  obtain ⟨s128, A128, n128, c128, rfl⟩ := IsC.val hv128
  clear hv128
  apply wpQ_fresh (i := 7) LInv.std (by with_reducible (refine List.getElem?_toArray.trans ?_; (repeat (first | exact List.getElem?_cons_zero | refine List.getElem?_cons_succ.trans ?_)))) (by kernel_rfl) (fun g => Value.pointer (some ⟨g, 0, none⟩)) (by exact rfl); (focus (intro W; go_simp; first | done | exact rfl | exact ⟨rfl, rfl⟩))
  intro g_r21_7 hN_r21_7 hG_r21_7 K hK
  go_simp; refine hK _ ?_; clear hK K
  have hne : w.heap.size ≠ g_r21_7 := by have := hN_r21_7; omega
  have hne := Ne.symm hne
  have hne : w106.heap.size ≠ g_r21_7 := by have := hN_r21_7; omega
  have hne := Ne.symm hne
  have hne : w107.heap.size ≠ g_r21_7 := by have := hN_r21_7; omega
  have hne := Ne.symm hne
  have hne : w111.heap.size ≠ g_r21_7 := by have := hN_r21_7; omega
  have hne := Ne.symm hne
  have hne : g_r12_12 ≠ g_r21_7 := by have := hN_r21_7; omega
  have hne := Ne.symm hne
  have hne : w116.heap.size ≠ g_r21_7 := by have := hN_r21_7; omega
  have hne := Ne.symm hne
  have hne : w120.heap.size ≠ g_r21_7 := by have := hN_r21_7; omega
  have hne := Ne.symm hne
  have hne : w120.heap.size + 1 ≠ g_r21_7 := by have := hN_r21_7; omega
  have hne := Ne.symm hne
  have hne : w121.heap.size ≠ g_r21_7 := by have := hN_r21_7; omega
  have hne := Ne.symm hne
  have hne : w122.heap.size ≠ g_r21_7 := by have := hN_r21_7; omega
  have hne := Ne.symm hne
  have hne : w123.heap.size ≠ g_r21_7 := by have := hN_r21_7; omega
  have hne := Ne.symm hne
  have hne : w123.heap.size + 1 ≠ g_r21_7 := by have := hN_r21_7; omega
  have hne := Ne.symm hne
  have hne : w124.heap.size ≠ g_r21_7 := by have := hN_r21_7; omega
  have hne := Ne.symm hne
  have hne : w124.heap.size + 1 ≠ g_r21_7 := by have := hN_r21_7; omega
  have hne := Ne.symm hne
  refine wpQ_done (by kernel_rfl) ?_
  intro w129 hF_w129 hSG
  have hz_w129 := hSG.1.1
  have hb_w129 := hSG.1.2
  have hB_r21_7 := (hSG.2 _ (List.mem_cons_self ..)).2; simp only at hB_r21_7; have hl_r21_7 := (hSG.size (List.mem_cons_self ..)); simp only at hl_r21_7
  have c_w129_r21_7_0 := cell_of_row w129 g_r21_7 0 _ _ _ hB_r21_7; simp only [List.getElem?_toArray, List.getElem?_cons_zero] at c_w129_r21_7_0
  have c_w129_r21_7_1 := cell_of_row w129 g_r21_7 1 _ _ _ hB_r21_7; simp only [List.getElem?_toArray, List.getElem?_cons_zero, List.getElem?_cons_succ] at c_w129_r21_7_1
  have fz_w129_r21_7 : (∀ o, w129.frozen? ⟨g_r21_7, o, none⟩ = false) := (fun o => frozen_of_row w129 g_r21_7 o _ _ hB_r21_7); have HH_r21_7 := Lib.hid hB_r21_7; clear hB_r21_7
  clear hSG
  (with_reducible apply cel6 (b := w.heap.size) hb_w129); (focus ((try simp) <;> omega)); (focus omega); (focus (go_simp; try exact rfl)); (focus (go_simp; try exact rfl)); (focus (go_simp; try exact rfl)); (focus (go_simp; try exact rfl)); (focus (go_simp; try exact rfl)); (focus (go_simp; try exact rfl)); (focus (intro o; go_simp)); intro c_w129_0_0 c_w129_0_1 c_w129_0_2 c_w129_0_3 c_w129_0_4 c_w129_0_5 fz_w129_0 hl_w129_0; (with_reducible apply cel2 (b := w121.heap.size) hb_w129); (focus ((try simp) <;> omega)); (focus omega); (focus (go_simp; try exact rfl)); (focus (go_simp; try exact rfl)); (focus (intro o; go_simp)); intro c_w129_1_0 c_w129_1_1 fz_w129_1 hl_w129_1; (with_reducible apply cel2 (b := w122.heap.size) hb_w129); (focus ((try simp) <;> omega)); (focus omega); (focus (go_simp; try exact rfl)); (focus (go_simp; try exact rfl)); (focus (intro o; go_simp)); intro c_w129_2_0 c_w129_2_1 fz_w129_2 hl_w129_2; (with_reducible apply cel2 (b := w123.heap.size) hb_w129); (focus ((try simp) <;> omega)); (focus omega); (focus (go_simp; try exact rfl)); (focus (go_simp; try exact rfl)); (focus (intro o; go_simp)); intro c_w129_3_0 c_w129_3_1 fz_w129_3 hl_w129_3; (with_reducible apply cel2 (b := w123.heap.size + 1) hb_w129); (focus ((try simp) <;> omega)); (focus omega); (focus (go_simp; try exact rfl)); (focus (go_simp; try exact rfl)); (focus (intro o; go_simp)); intro c_w129_4_0 c_w129_4_1 fz_w129_4 hl_w129_4; (with_reducible apply cel2 (b := w124.heap.size) hb_w129); (focus ((try simp) <;> omega)); (focus omega); (focus (go_simp; try exact rfl)); (focus (go_simp; try exact rfl)); (focus (intro o; go_simp)); intro c_w129_5_0 c_w129_5_1 fz_w129_5 hl_w129_5; (with_reducible apply cel2 (b := w124.heap.size + 1) hb_w129); (focus ((try simp) <;> omega)); (focus omega); (focus (go_simp; try exact rfl)); (focus (go_simp; try exact rfl)); (focus (intro o; go_simp)); intro c_w129_6_0 c_w129_6_1 fz_w129_6 hl_w129_6
  (try simp only [List.filterMap_cons, List.filterMap_nil, List.getElem?_cons_succ, List.getElem?_cons_zero])
  clear H123u
  clear H124u
  replace H123 := Lib.hid (H123.out.below hb_w129)
  replace H124 := Lib.hid (H124.out.below hb_w129)
  have H126 := Lib.hid (show IsC w129 (.agg #[.bool s126, .slice A126 n126 c126]) (m1) from hF_w129.1.1)
  have H127 := Lib.hid (show IsC w129 (.agg #[.bool s127, .slice A127 n127 c127]) (m2) from hF_w129.1.2)
  have H128 := Lib.hid (show IsC w129 (.agg #[.bool s128, .slice A128 n128 c128]) (m3) from hF_w129.2)
  have HB129 := Lib.hid (HB125.out.trans (hb_w129.mono (by have := HB125.out.size; omega)))
  have hz129 : w.heap.size + 1 ≤ w129.heap.size := by omega
  have hn_r21_7 : w.heap.size + 1 ≤ g_r21_7 := by have := hN_r21_7; omega
  clear hF_w129 hb_w129 HH_r21_7 hG_r21_7 hN_r21_7
  clear c_w125_0_0 c_w125_0_1 c_w125_0_2 c_w125_0_3 c_w125_0_4 c_w125_0_5 fz_w125_0 hl_w125_0 c_w125_1_0 c_w125_1_1 fz_w125_1 hl_w125_1 c_w125_2_0 c_w125_2_1 fz_w125_2 hl_w125_2 c_w125_3_0 c_w125_3_1 fz_w125_3 hl_w125_3 c_w125_4_0 c_w125_4_1 fz_w125_4 hl_w125_4 c_w125_5_0 c_w125_5_1 fz_w125_5 hl_w125_5 c_w125_6_0 c_w125_6_1 fz_w125_6 hl_w125_6
  go_wp2_with fail
  refine HQ_.out _ _ _ ?_
  clear HQ_ Q_
  go_wp2_with fail
  -- own blocks: w.heap.size:6, w121.heap.size:2, w122.heap.size:2, w123.heap.size + 1:2, w124.heap.size + 1:2, g_r21_7:2
  (refine pin_wp (N := _) (Nat.le_refl _) (fun w130 hb_w130 hz_w130 => ?_); (try simp at hz_w130); (with_reducible apply cel6 (b := w.heap.size) hb_w130); (focus ((try simp) <;> omega)); (focus omega); (focus (go_simp; try exact rfl)); (focus (go_simp; try exact rfl)); (focus (go_simp; try exact rfl)); (focus (go_simp; try exact rfl)); (focus (go_simp; try exact rfl)); (focus (go_simp; try exact rfl)); (focus (intro o; go_simp)); intro c_w130_0_0 c_w130_0_1 c_w130_0_2 c_w130_0_3 c_w130_0_4 c_w130_0_5 fz_w130_0 hl_w130_0; (with_reducible apply cel2 (b := w121.heap.size) hb_w130); (focus ((try simp) <;> omega)); (focus omega); (focus (go_simp; try exact rfl)); (focus (go_simp; try exact rfl)); (focus (intro o; go_simp)); intro c_w130_1_0 c_w130_1_1 fz_w130_1 hl_w130_1; (with_reducible apply cel2 (b := w122.heap.size) hb_w130); (focus ((try simp) <;> omega)); (focus omega); (focus (go_simp; try exact rfl)); (focus (go_simp; try exact rfl)); (focus (intro o; go_simp)); intro c_w130_2_0 c_w130_2_1 fz_w130_2 hl_w130_2; (with_reducible apply cel2 (b := w123.heap.size + 1) hb_w130); (focus ((try simp) <;> omega)); (focus omega); (focus (go_simp; try exact rfl)); (focus (go_simp; try exact rfl)); (focus (intro o; go_simp)); intro c_w130_3_0 c_w130_3_1 fz_w130_3 hl_w130_3; (with_reducible apply cel2 (b := w124.heap.size + 1) hb_w130); (focus ((try simp) <;> omega)); (focus omega); (focus (go_simp; try exact rfl)); (focus (go_simp; try exact rfl)); (focus (intro o; go_simp)); intro c_w130_4_0 c_w130_4_1 fz_w130_4 hl_w130_4; (with_reducible apply cel2 (b := g_r21_7) hb_w130); (focus ((try simp) <;> omega)); (focus omega); (focus (go_simp; try exact rfl)); (focus (go_simp; try exact rfl)); (focus (intro o; go_simp)); intro c_w130_5_0 c_w130_5_1 fz_w130_5 hl_w130_5); refine wp_q (fun Q_ HQ_ => ?_); refine wp_region_floatQ w130.heap.size 13 [13] (Nat.le_refl _) (fun _ => True) trivial Cl.tt (by kernel_rfl) (by kernel_rfl) ?_
  clear H126
  clear H127
  replace H123 := Lib.hid (IsC.below (v := .agg #[.bool s123, .slice A123 n123 c123]) (z := dp) (by ((repeat (first | (with_reducible exact H123.out) | (with_reducible refine IsC.al ?_ _) | (with_reducible apply IsC.st1))) <;> (first | (with_reducible assumption) | (intro _ e; cases e; done) | (go_simp; first | done | exact rfl)))) hb_w130)
  replace H124 := Lib.hid (IsC.below (v := .agg #[.bool s124, .slice A124 n124 c124]) (z := dq) (by ((repeat (first | (with_reducible exact H124.out) | (with_reducible refine IsC.al ?_ _) | (with_reducible apply IsC.st1))) <;> (first | (with_reducible assumption) | (intro _ e; cases e; done) | (go_simp; first | done | exact rfl)))) hb_w130)
  replace H128 := Lib.hid (IsC.below (v := .agg #[.bool s128, .slice A128 n128 c128]) (z := m3) (by ((repeat (first | (with_reducible exact H128.out) | (with_reducible refine IsC.al ?_ _) | (with_reducible apply IsC.st1))) <;> (first | (with_reducible assumption) | (intro _ e; cases e; done) | (go_simp; first | done | exact rfl)))) hb_w130)
  have HB130 := Lib.hid (show Below w.heap.size w w130 by have hB := HB129.out; ((with_reducible (repeat (first | exact bR _ _ | refine bS ?_ ?_ _ | refine bA ?_ ?_ _ | refine bD ?_ | refine bT ?_ (by assumption) ?_ | refine bO (by assumption) ?_ ?_))) <;> (first | omega | (simp; done) | (simp <;> omega))))
  have hz130 : w.heap.size + 1 ≤ w130.heap.size := by omega
  clear hb_w130
  clear c_w129_r21_7_0 c_w129_r21_7_1 fz_w129_r21_7 c_w129_0_0 c_w129_0_1 c_w129_0_2 c_w129_0_3 c_w129_0_4 c_w129_0_5 fz_w129_0 hl_w129_0 c_w129_1_0 c_w129_1_1 fz_w129_1 hl_w129_1 c_w129_2_0 c_w129_2_1 fz_w129_2 hl_w129_2 c_w129_3_0 c_w129_3_1 fz_w129_3 hl_w129_3 c_w129_4_0 c_w129_4_1 fz_w129_4 hl_w129_4 c_w129_5_0 c_w129_5_1 fz_w129_5 hl_w129_5 c_w129_6_0 c_w129_6_1 fz_w129_6 hl_w129_6
  refine wpQI_start [0, 1] ?_; (iterate 2 (first | (refine wpQI_off (by with_reducible (refine List.getElem?_toArray.trans ?_; (repeat (first | exact List.getElem?_cons_zero | refine List.getElem?_cons_succ.trans ?_)))) (by kernel_rfl) (by exact rfl) (fun K hK => ?_); go_simp; refine hK _ ?_; clear hK K) | ((first | apply wpQI_step (by with_reducible (refine List.getElem?_toArray.trans ?_; (repeat (first | exact List.getElem?_cons_zero | refine List.getElem?_cons_succ.trans ?_)))) (by kernel_rfl) (by exact rfl) | apply wpQI_on (by with_reducible (refine List.getElem?_toArray.trans ?_; (repeat (first | exact List.getElem?_cons_zero | refine List.getElem?_cons_succ.trans ?_)))) (by kernel_rfl) (by exact rfl)); (focus (intro W' hS; have hcS := hS.cells.1; have hfS := hS.cells.2; go_simp; (first | done | exact rfl | exact ⟨rfl, Below.refl _ _⟩ | (go_simp; first | done | exact rfl | exact ⟨rfl, Below.refl _ _⟩)))); intro K hK; go_simp; (try go_bits); refine hK _ ?_; clear hK K))); refine wpQI_nil ?_
  refine wpQI_start [3, 4, 5, 6, 7] ?_; (iterate 5 (first | (refine wpQI_off (by with_reducible (refine List.getElem?_toArray.trans ?_; (repeat (first | exact List.getElem?_cons_zero | refine List.getElem?_cons_succ.trans ?_)))) (by kernel_rfl) (by exact rfl) (fun K hK => ?_); go_simp; refine hK _ ?_; clear hK K) | ((first | apply wpQI_step (by with_reducible (refine List.getElem?_toArray.trans ?_; (repeat (first | exact List.getElem?_cons_zero | refine List.getElem?_cons_succ.trans ?_)))) (by kernel_rfl) (by exact rfl) | apply wpQI_on (by with_reducible (refine List.getElem?_toArray.trans ?_; (repeat (first | exact List.getElem?_cons_zero | refine List.getElem?_cons_succ.trans ?_)))) (by kernel_rfl) (by exact rfl)); (focus (intro W' hS; have hcS := hS.cells.1; have hfS := hS.cells.2; go_simp; (first | done | exact rfl | exact ⟨rfl, Below.refl _ _⟩ | (go_simp; first | done | exact rfl | exact ⟨rfl, Below.refl _ _⟩)))); intro K hK; go_simp; (try go_bits); refine hK _ ?_; clear hK K))); refine wpQI_nil ?_
  apply wpQ_call (i := 2) (by with_reducible (refine List.getElem?_toArray.trans ?_; (repeat (first | exact List.getElem?_cons_zero | refine List.getElem?_cons_succ.trans ?_)))) (by kernel_rfl) (by exact rfl); intro W hF hS; have hcS := hS.1.cells.1; have hfS := hS.1.cells.2; go_simp; (go_at_call 43; refine (K25.out _ _ _ ((H123.out.below hS.1.2).zl LDP.out) ((H124.out.below hS.1.2).zl LDQ.out)).mono ?_; rintro e w131 ⟨hb_w131, v131, rfl, hv131⟩; refine XPost.mk _ (fun W => IsC W v131 (m4)) hb_w131 (hv131) (IsC.cl _ _) ?_); clear hb_w131 hcS hfS hS hF
  intro K hK; go_simp; (try go_bits); refine hK _ ?_; clear hK K
  obtain ⟨s131, A131, n131, c131, rfl⟩ := IsC.val hv131
  clear hv131
  refine wpQI_start [8] ?_; (iterate 1 (first | (refine wpQI_off (by with_reducible (refine List.getElem?_toArray.trans ?_; (repeat (first | exact List.getElem?_cons_zero | refine List.getElem?_cons_succ.trans ?_)))) (by kernel_rfl) (by exact rfl) (fun K hK => ?_); go_simp; refine hK _ ?_; clear hK K) | ((first | apply wpQI_step (by with_reducible (refine List.getElem?_toArray.trans ?_; (repeat (first | exact List.getElem?_cons_zero | refine List.getElem?_cons_succ.trans ?_)))) (by kernel_rfl) (by exact rfl) | apply wpQI_on (by with_reducible (refine List.getElem?_toArray.trans ?_; (repeat (first | exact List.getElem?_cons_zero | refine List.getElem?_cons_succ.trans ?_)))) (by kernel_rfl) (by exact rfl)); (focus (intro W' hS; have hcS := hS.cells.1; have hfS := hS.cells.2; go_simp; (first | done | exact rfl | exact ⟨rfl, Below.refl _ _⟩ | (go_at_call 19; exact (K26.out _).mono (fun _ _ h => ⟨h.1, h.2⟩)) | (go_simp; first | done | exact rfl | exact ⟨rfl, Below.refl _ _⟩)))); intro K hK; go_simp; (try go_bits); refine hK _ ?_; clear hK K))); refine wpQI_nil ?_
  refine wpQI_start [9] ?_; (iterate 1 (first | (refine wpQI_off (by with_reducible (refine List.getElem?_toArray.trans ?_; (repeat (first | exact List.getElem?_cons_zero | refine List.getElem?_cons_succ.trans ?_)))) (by kernel_rfl) (by exact rfl) (fun K hK => ?_); go_simp; refine hK _ ?_; clear hK K) | ((first | apply wpQI_step (by with_reducible (refine List.getElem?_toArray.trans ?_; (repeat (first | exact List.getElem?_cons_zero | refine List.getElem?_cons_succ.trans ?_)))) (by kernel_rfl) (by exact rfl) | apply wpQI_on (by with_reducible (refine List.getElem?_toArray.trans ?_; (repeat (first | exact List.getElem?_cons_zero | refine List.getElem?_cons_succ.trans ?_)))) (by kernel_rfl) (by exact rfl)); (focus (intro W' hS; have hcS := hS.cells.1; have hfS := hS.cells.2; go_simp; (first | done | exact rfl | exact ⟨rfl, Below.refl _ _⟩ | (go_simp; first | done | exact rfl | exact ⟨rfl, Below.refl _ _⟩)))); intro K hK; go_simp; (try go_bits); refine hK _ ?_; clear hK K))); refine wpQI_nil ?_
  apply wpQ_call (i := 10) (by with_reducible (refine List.getElem?_toArray.trans ?_; (repeat (first | exact List.getElem?_cons_zero | refine List.getElem?_cons_succ.trans ?_)))) (by kernel_rfl) (by exact rfl); intro W hF hS; have hcS := hS.1.cells.1; have hfS := hS.1.cells.2; go_simp; (go_at_call 44; refine (K27.out _).mono ?_; rintro e w132 ⟨hb_w132, v132, rfl, hv132⟩; refine XPost.mk _ (fun W => IsC W v132 (m5)) hb_w132 (hv132) (IsC.cl _ _) ?_); clear hb_w132 hcS hfS hS hF
  intro K hK; go_simp; (try go_bits); refine hK _ ?_; clear hK K
  obtain ⟨s132, A132, n132, c132, rfl⟩ := IsC.val hv132
  clear hv132
  apply wpQ_call (i := 11) (by with_reducible (refine List.getElem?_toArray.trans ?_; (repeat (first | exact List.getElem?_cons_zero | refine List.getElem?_cons_succ.trans ?_)))) (by kernel_rfl) (by exact rfl); intro W hF hS; have hcS := hS.1.cells.1; have hfS := hS.1.cells.2; go_simp; (go_at_call 43; refine (K28.out _ _ _ (hF.1.zl LM4.out) (hF.2.zl LM5.out)).mono ?_; rintro e w133 ⟨hb_w133, v133, rfl, hv133⟩; refine XPost.mk _ (fun W => IsC W v133 (m6)) hb_w133 (hv133) (IsC.cl _ _) ?_); clear hb_w133 hcS hfS hS hF
  intro K hK; go_simp; (try go_bits); refine hK _ ?_; clear hK K
  obtain ⟨s133, A133, n133, c133, rfl⟩ := IsC.val hv133
  clear hv133
  apply wpQ_fresh (i := 12) LInv.std (by with_reducible (refine List.getElem?_toArray.trans ?_; (repeat (first | exact List.getElem?_cons_zero | refine List.getElem?_cons_succ.trans ?_)))) (by kernel_rfl) (fun g => Value.pointer (some ⟨g, 0, none⟩)) (by exact rfl); (focus (intro W; go_simp; first | done | exact rfl | exact ⟨rfl, rfl⟩))
  intro g_r22_12 hN_r22_12 hG_r22_12 K hK
  go_simp; refine hK _ ?_; clear hK K
  have hne : w.heap.size ≠ g_r22_12 := by have := hN_r22_12; omega
  have hne := Ne.symm hne
  have hne : w106.heap.size ≠ g_r22_12 := by have := hN_r22_12; omega
  have hne := Ne.symm hne
  have hne : w107.heap.size ≠ g_r22_12 := by have := hN_r22_12; omega
  have hne := Ne.symm hne
  have hne : w111.heap.size ≠ g_r22_12 := by have := hN_r22_12; omega
  have hne := Ne.symm hne
  have hne : g_r12_12 ≠ g_r22_12 := by have := hN_r22_12; omega
  have hne := Ne.symm hne
  have hne : w116.heap.size ≠ g_r22_12 := by have := hN_r22_12; omega
  have hne := Ne.symm hne
  have hne : w120.heap.size ≠ g_r22_12 := by have := hN_r22_12; omega
  have hne := Ne.symm hne
  have hne : w120.heap.size + 1 ≠ g_r22_12 := by have := hN_r22_12; omega
  have hne := Ne.symm hne
  have hne : w121.heap.size ≠ g_r22_12 := by have := hN_r22_12; omega
  have hne := Ne.symm hne
  have hne : w122.heap.size ≠ g_r22_12 := by have := hN_r22_12; omega
  have hne := Ne.symm hne
  have hne : w123.heap.size ≠ g_r22_12 := by have := hN_r22_12; omega
  have hne := Ne.symm hne
  have hne : w123.heap.size + 1 ≠ g_r22_12 := by have := hN_r22_12; omega
  have hne := Ne.symm hne
  have hne : w124.heap.size ≠ g_r22_12 := by have := hN_r22_12; omega
  have hne := Ne.symm hne
  have hne : w124.heap.size + 1 ≠ g_r22_12 := by have := hN_r22_12; omega
  have hne := Ne.symm hne
  have hne : g_r21_7 ≠ g_r22_12 := by have := hN_r22_12; omega
  have hne := Ne.symm hne
  refine wpQ_done (by kernel_rfl) ?_
  intro w134 hF_w134 hSG
  have hz_w134 := hSG.1.1
  have hb_w134 := hSG.1.2
  have hB_r22_12 := (hSG.2 _ (List.mem_cons_self ..)).2; simp only at hB_r22_12; have hl_r22_12 := (hSG.size (List.mem_cons_self ..)); simp only at hl_r22_12
  have c_w134_r22_12_0 := cell_of_row w134 g_r22_12 0 _ _ _ hB_r22_12; simp only [List.getElem?_toArray, List.getElem?_cons_zero] at c_w134_r22_12_0
  have c_w134_r22_12_1 := cell_of_row w134 g_r22_12 1 _ _ _ hB_r22_12; simp only [List.getElem?_toArray, List.getElem?_cons_zero, List.getElem?_cons_succ] at c_w134_r22_12_1
  have fz_w134_r22_12 : (∀ o, w134.frozen? ⟨g_r22_12, o, none⟩ = false) := (fun o => frozen_of_row w134 g_r22_12 o _ _ hB_r22_12); have HH_r22_12 := Lib.hid hB_r22_12; clear hB_r22_12
  clear hSG
  (with_reducible apply cel6 (b := w.heap.size) hb_w134); (focus ((try simp) <;> omega)); (focus omega); (focus (go_simp; try exact rfl)); (focus (go_simp; try exact rfl)); (focus (go_simp; try exact rfl)); (focus (go_simp; try exact rfl)); (focus (go_simp; try exact rfl)); (focus (go_simp; try exact rfl)); (focus (intro o; go_simp)); intro c_w134_0_0 c_w134_0_1 c_w134_0_2 c_w134_0_3 c_w134_0_4 c_w134_0_5 fz_w134_0 hl_w134_0; (with_reducible apply cel2 (b := w121.heap.size) hb_w134); (focus ((try simp) <;> omega)); (focus omega); (focus (go_simp; try exact rfl)); (focus (go_simp; try exact rfl)); (focus (intro o; go_simp)); intro c_w134_1_0 c_w134_1_1 fz_w134_1 hl_w134_1; (with_reducible apply cel2 (b := w122.heap.size) hb_w134); (focus ((try simp) <;> omega)); (focus omega); (focus (go_simp; try exact rfl)); (focus (go_simp; try exact rfl)); (focus (intro o; go_simp)); intro c_w134_2_0 c_w134_2_1 fz_w134_2 hl_w134_2; (with_reducible apply cel2 (b := w123.heap.size + 1) hb_w134); (focus ((try simp) <;> omega)); (focus omega); (focus (go_simp; try exact rfl)); (focus (go_simp; try exact rfl)); (focus (intro o; go_simp)); intro c_w134_3_0 c_w134_3_1 fz_w134_3 hl_w134_3; (with_reducible apply cel2 (b := w124.heap.size + 1) hb_w134); (focus ((try simp) <;> omega)); (focus omega); (focus (go_simp; try exact rfl)); (focus (go_simp; try exact rfl)); (focus (intro o; go_simp)); intro c_w134_4_0 c_w134_4_1 fz_w134_4 hl_w134_4; (with_reducible apply cel2 (b := g_r21_7) hb_w134); (focus ((try simp) <;> omega)); (focus omega); (focus (go_simp; try exact rfl)); (focus (go_simp; try exact rfl)); (focus (intro o; go_simp)); intro c_w134_5_0 c_w134_5_1 fz_w134_5 hl_w134_5
  (try simp only [List.filterMap_cons, List.filterMap_nil, List.getElem?_cons_succ, List.getElem?_cons_zero])
  clear H123
  clear H124
  replace H128 := Lib.hid (H128.out.below hb_w134)
  have H131 := Lib.hid (show IsC w134 (.agg #[.bool s131, .slice A131 n131 c131]) (m4) from hF_w134.1.1)
  have H132 := Lib.hid (show IsC w134 (.agg #[.bool s132, .slice A132 n132 c132]) (m5) from hF_w134.1.2)
  have H133 := Lib.hid (show IsC w134 (.agg #[.bool s133, .slice A133 n133 c133]) (m6) from hF_w134.2)
  have HB134 := Lib.hid (HB130.out.trans (hb_w134.mono (by have := HB130.out.size; omega)))
  have hz134 : w.heap.size + 1 ≤ w134.heap.size := by omega
  have hn_r22_12 : w.heap.size + 1 ≤ g_r22_12 := by have := hN_r22_12; omega
  clear hF_w134 hb_w134 HH_r22_12 hG_r22_12 hN_r22_12
  clear c_w130_0_0 c_w130_0_1 c_w130_0_2 c_w130_0_3 c_w130_0_4 c_w130_0_5 fz_w130_0 hl_w130_0 c_w130_1_0 c_w130_1_1 fz_w130_1 hl_w130_1 c_w130_2_0 c_w130_2_1 fz_w130_2 hl_w130_2 c_w130_3_0 c_w130_3_1 fz_w130_3 hl_w130_3 c_w130_4_0 c_w130_4_1 fz_w130_4 hl_w130_4 c_w130_5_0 c_w130_5_1 fz_w130_5 hl_w130_5
  go_wp2_with fail
  refine HQ_.out _ _ _ ?_
  clear HQ_ Q_
  go_wp2_with fail
  -- own blocks: w.heap.size:6, w121.heap.size:2, w122.heap.size:2, g_r21_7:2, g_r22_12:2
  (refine pin_wp (N := _) (Nat.le_refl _) (fun w135 hb_w135 hz_w135 => ?_); (try simp at hz_w135); (with_reducible apply cel6 (b := w.heap.size) hb_w135); (focus ((try simp) <;> omega)); (focus omega); (focus (go_simp; try exact rfl)); (focus (go_simp; try exact rfl)); (focus (go_simp; try exact rfl)); (focus (go_simp; try exact rfl)); (focus (go_simp; try exact rfl)); (focus (go_simp; try exact rfl)); (focus (intro o; go_simp)); intro c_w135_0_0 c_w135_0_1 c_w135_0_2 c_w135_0_3 c_w135_0_4 c_w135_0_5 fz_w135_0 hl_w135_0; (with_reducible apply cel2 (b := w121.heap.size) hb_w135); (focus ((try simp) <;> omega)); (focus omega); (focus (go_simp; try exact rfl)); (focus (go_simp; try exact rfl)); (focus (intro o; go_simp)); intro c_w135_1_0 c_w135_1_1 fz_w135_1 hl_w135_1; (with_reducible apply cel2 (b := w122.heap.size) hb_w135); (focus ((try simp) <;> omega)); (focus omega); (focus (go_simp; try exact rfl)); (focus (go_simp; try exact rfl)); (focus (intro o; go_simp)); intro c_w135_2_0 c_w135_2_1 fz_w135_2 hl_w135_2; (with_reducible apply cel2 (b := g_r21_7) hb_w135); (focus ((try simp) <;> omega)); (focus omega); (focus (go_simp; try exact rfl)); (focus (go_simp; try exact rfl)); (focus (intro o; go_simp)); intro c_w135_3_0 c_w135_3_1 fz_w135_3 hl_w135_3; (with_reducible apply cel2 (b := g_r22_12) hb_w135); (focus ((try simp) <;> omega)); (focus omega); (focus (go_simp; try exact rfl)); (focus (go_simp; try exact rfl)); (focus (intro o; go_simp)); intro c_w135_4_0 c_w135_4_1 fz_w135_4 hl_w135_4); refine wp_q (fun Q_ HQ_ => ?_); refine wp_region_floatQ w135.heap.size 28 [] (Nat.le_refl _) (fun _ => True) trivial Cl.tt (by kernel_rfl) (by kernel_rfl) ?_
  clear H131
  clear H132
  replace H128 := Lib.hid (IsC.below (v := .agg #[.bool s128, .slice A128 n128 c128]) (z := m3) (by ((repeat (first | (with_reducible exact H128.out) | (with_reducible refine IsC.al ?_ _) | (with_reducible apply IsC.st1))) <;> (first | (with_reducible assumption) | (intro _ e; cases e; done) | (go_simp; first | done | exact rfl)))) hb_w135)
  replace H133 := Lib.hid (IsC.below (v := .agg #[.bool s133, .slice A133 n133 c133]) (z := m6) (by ((repeat (first | (with_reducible exact H133.out) | (with_reducible refine IsC.al ?_ _) | (with_reducible apply IsC.st1))) <;> (first | (with_reducible assumption) | (intro _ e; cases e; done) | (go_simp; first | done | exact rfl)))) hb_w135)
  have HB135 := Lib.hid (show Below w.heap.size w w135 by have hB := HB134.out; ((with_reducible (repeat (first | exact bR _ _ | refine bS ?_ ?_ _ | refine bA ?_ ?_ _ | refine bD ?_ | refine bT ?_ (by assumption) ?_ | refine bO (by assumption) ?_ ?_))) <;> (first | omega | (simp; done) | (simp <;> omega))))
  have hz135 : w.heap.size + 1 ≤ w135.heap.size := by omega
  clear hb_w135
  clear c_w134_r22_12_0 c_w134_r22_12_1 fz_w134_r22_12 c_w134_0_0 c_w134_0_1 c_w134_0_2 c_w134_0_3 c_w134_0_4 c_w134_0_5 fz_w134_0 hl_w134_0 c_w134_1_0 c_w134_1_1 fz_w134_1 hl_w134_1 c_w134_2_0 c_w134_2_1 fz_w134_2 hl_w134_2 c_w134_3_0 c_w134_3_1 fz_w134_3 hl_w134_3 c_w134_4_0 c_w134_4_1 fz_w134_4 hl_w134_4 c_w134_5_0 c_w134_5_1 fz_w134_5 hl_w134_5
  refine wpQI_start [0, 1, 2, 3, 4, 5, 6] ?_; (iterate 7 (first | (refine wpQI_off (by with_reducible (refine List.getElem?_toArray.trans ?_; (repeat (first | exact List.getElem?_cons_zero | refine List.getElem?_cons_succ.trans ?_)))) (by kernel_rfl) (by exact rfl) (fun K hK => ?_); go_simp; refine hK _ ?_; clear hK K) | ((first | apply wpQI_step (by with_reducible (refine List.getElem?_toArray.trans ?_; (repeat (first | exact List.getElem?_cons_zero | refine List.getElem?_cons_succ.trans ?_)))) (by kernel_rfl) (by exact rfl) | apply wpQI_on (by with_reducible (refine List.getElem?_toArray.trans ?_; (repeat (first | exact List.getElem?_cons_zero | refine List.getElem?_cons_succ.trans ?_)))) (by kernel_rfl) (by exact rfl)); (focus (intro W' hS; have hcS := hS.cells.1; have hfS := hS.cells.2; go_simp; (first | done | exact rfl | exact ⟨rfl, Below.refl _ _⟩ | (go_simp; first | done | exact rfl | exact ⟨rfl, Below.refl _ _⟩)))); intro K hK; go_simp; (try go_bits); refine hK _ ?_; clear hK K))); refine wpQI_nil ?_
  apply wpQ_call (i := 7) (by with_reducible (refine List.getElem?_toArray.trans ?_; (repeat (first | exact List.getElem?_cons_zero | refine List.getElem?_cons_succ.trans ?_)))) (by kernel_rfl) (by exact rfl); intro W hF hS; have hcS := hS.1.cells.1; have hfS := hS.1.cells.2; go_simp; (go_at_call 45; refine (K29.out _ _ _ ((H128.out.below hS.1.2).zl LM3.out) ((H133.out.below hS.1.2).zl LM6.out)).mono ?_; rintro e w136 ⟨rfl, hb_w136⟩; refine XPost.mk _ (fun _ => True) hb_w136 (trivial) (Cl.tt) ?_); clear hb_w136 hcS hfS hS hF
  intro K hK; go_simp; (try go_bits); refine hK _ ?_; clear hK K
  refine wpQI_start [8, 9, 10, 11, 12] ?_; (iterate 5 (first | (refine wpQI_off (by with_reducible (refine List.getElem?_toArray.trans ?_; (repeat (first | exact List.getElem?_cons_zero | refine List.getElem?_cons_succ.trans ?_)))) (by kernel_rfl) (by exact rfl) (fun K hK => ?_); go_simp; refine hK _ ?_; clear hK K) | ((first | apply wpQI_step (by with_reducible (refine List.getElem?_toArray.trans ?_; (repeat (first | exact List.getElem?_cons_zero | refine List.getElem?_cons_succ.trans ?_)))) (by kernel_rfl) (by exact rfl) | apply wpQI_on (by with_reducible (refine List.getElem?_toArray.trans ?_; (repeat (first | exact List.getElem?_cons_zero | refine List.getElem?_cons_succ.trans ?_)))) (by kernel_rfl) (by exact rfl)); (focus (intro W' hS; have hcS := hS.cells.1; have hfS := hS.cells.2; go_simp; (first | done | exact rfl | exact ⟨rfl, Below.refl _ _⟩ | (go_simp; first | done | exact rfl | exact ⟨rfl, Below.refl _ _⟩)))); intro K hK; go_simp; (try go_bits); refine hK _ ?_; clear hK K))); refine wpQI_nil ?_
  refine wpQI_start [14, 15] ?_; (iterate 2 (first | (refine wpQI_off (by with_reducible (refine List.getElem?_toArray.trans ?_; (repeat (first | exact List.getElem?_cons_zero | refine List.getElem?_cons_succ.trans ?_)))) (by kernel_rfl) (by exact rfl) (fun K hK => ?_); go_simp; refine hK _ ?_; clear hK K) | ((first | apply wpQI_step (by with_reducible (refine List.getElem?_toArray.trans ?_; (repeat (first | exact List.getElem?_cons_zero | refine List.getElem?_cons_succ.trans ?_)))) (by kernel_rfl) (by exact rfl) | apply wpQI_on (by with_reducible (refine List.getElem?_toArray.trans ?_; (repeat (first | exact List.getElem?_cons_zero | refine List.getElem?_cons_succ.trans ?_)))) (by kernel_rfl) (by exact rfl)); (focus (intro W' hS; have hcS := hS.cells.1; have hfS := hS.cells.2; go_simp; (first | done | exact rfl | exact ⟨rfl, Below.refl _ _⟩ | (go_simp; first | done | exact rfl | exact ⟨rfl, Below.refl _ _⟩)))); intro K hK; go_simp; (try go_bits); refine hK _ ?_; clear hK K))); refine wpQI_nil ?_
  refine wpQI_start [18, 19, 20, 21, 22] ?_; (iterate 5 (first | (refine wpQI_off (by with_reducible (refine List.getElem?_toArray.trans ?_; (repeat (first | exact List.getElem?_cons_zero | refine List.getElem?_cons_succ.trans ?_)))) (by kernel_rfl) (by exact rfl) (fun K hK => ?_); go_simp; refine hK _ ?_; clear hK K) | ((first | apply wpQI_step (by with_reducible (refine List.getElem?_toArray.trans ?_; (repeat (first | exact List.getElem?_cons_zero | refine List.getElem?_cons_succ.trans ?_)))) (by kernel_rfl) (by exact rfl) | apply wpQI_on (by with_reducible (refine List.getElem?_toArray.trans ?_; (repeat (first | exact List.getElem?_cons_zero | refine List.getElem?_cons_succ.trans ?_)))) (by kernel_rfl) (by exact rfl)); (focus (intro W' hS; have hcS := hS.cells.1; have hfS := hS.cells.2; go_simp; (first | done | exact rfl | exact ⟨rfl, Below.refl _ _⟩ | (go_simp; first | done | exact rfl | exact ⟨rfl, Below.refl _ _⟩)))); intro K hK; go_simp; (try go_bits); refine hK _ ?_; clear hK K))); refine wpQI_nil ?_
  refine wpQI_start [13] ?_; (iterate 1 (first | (refine wpQI_off (by with_reducible (refine List.getElem?_toArray.trans ?_; (repeat (first | exact List.getElem?_cons_zero | refine List.getElem?_cons_succ.trans ?_)))) (by kernel_rfl) (by exact rfl) (fun K hK => ?_); go_simp; refine hK _ ?_; clear hK K) | ((first | apply wpQI_step (by with_reducible (refine List.getElem?_toArray.trans ?_; (repeat (first | exact List.getElem?_cons_zero | refine List.getElem?_cons_succ.trans ?_)))) (by kernel_rfl) (by exact rfl) | apply wpQI_on (by with_reducible (refine List.getElem?_toArray.trans ?_; (repeat (first | exact List.getElem?_cons_zero | refine List.getElem?_cons_succ.trans ?_)))) (by kernel_rfl) (by exact rfl)); (focus (intro W' hS; have hcS := hS.cells.1; have hfS := hS.cells.2; go_simp; (first | done | exact rfl | exact ⟨rfl, Below.refl _ _⟩ | (go_at_call 19; exact (K30.out _).mono (fun _ _ h => ⟨h.1, h.2⟩)) | (go_simp; first | done | exact rfl | exact ⟨rfl, Below.refl _ _⟩)))); intro K hK; go_simp; (try go_bits); refine hK _ ?_; clear hK K))); refine wpQI_nil ?_
  refine wpQI_start [16] ?_; (iterate 1 (first | (refine wpQI_off (by with_reducible (refine List.getElem?_toArray.trans ?_; (repeat (first | exact List.getElem?_cons_zero | refine List.getElem?_cons_succ.trans ?_)))) (by kernel_rfl) (by exact rfl) (fun K hK => ?_); go_simp; refine hK _ ?_; clear hK K) | ((first | apply wpQI_step (by with_reducible (refine List.getElem?_toArray.trans ?_; (repeat (first | exact List.getElem?_cons_zero | refine List.getElem?_cons_succ.trans ?_)))) (by kernel_rfl) (by exact rfl) | apply wpQI_on (by with_reducible (refine List.getElem?_toArray.trans ?_; (repeat (first | exact List.getElem?_cons_zero | refine List.getElem?_cons_succ.trans ?_)))) (by kernel_rfl) (by exact rfl)); (focus (intro W' hS; have hcS := hS.cells.1; have hfS := hS.cells.2; go_simp; (first | done | exact rfl | exact ⟨rfl, Below.refl _ _⟩ | (go_at_call 19; exact (K31.out _).mono (fun _ _ h => ⟨h.1, h.2⟩)) | (go_simp; first | done | exact rfl | exact ⟨rfl, Below.refl _ _⟩)))); intro K hK; go_simp; (try go_bits); refine hK _ ?_; clear hK K))); refine wpQI_nil ?_
  refine wpQI_start [17] ?_; (iterate 1 (first | (refine wpQI_off (by with_reducible (refine List.getElem?_toArray.trans ?_; (repeat (first | exact List.getElem?_cons_zero | refine List.getElem?_cons_succ.trans ?_)))) (by kernel_rfl) (by exact rfl) (fun K hK => ?_); go_simp; refine hK _ ?_; clear hK K) | ((first | apply wpQI_step (by with_reducible (refine List.getElem?_toArray.trans ?_; (repeat (first | exact List.getElem?_cons_zero | refine List.getElem?_cons_succ.trans ?_)))) (by kernel_rfl) (by exact rfl) | apply wpQI_on (by with_reducible (refine List.getElem?_toArray.trans ?_; (repeat (first | exact List.getElem?_cons_zero | refine List.getElem?_cons_succ.trans ?_)))) (by kernel_rfl) (by exact rfl)); (focus (intro W' hS; have hcS := hS.cells.1; have hfS := hS.cells.2; go_simp; (first | done | exact rfl | exact ⟨rfl, Below.refl _ _⟩ | (go_simp; first | done | exact rfl | exact ⟨rfl, Below.refl _ _⟩)))); intro K hK; go_simp; (try go_bits); refine hK _ ?_; clear hK K))); refine wpQI_nil ?_
  refine wpQI_start [23] ?_; (iterate 1 (first | (refine wpQI_off (by with_reducible (refine List.getElem?_toArray.trans ?_; (repeat (first | exact List.getElem?_cons_zero | refine List.getElem?_cons_succ.trans ?_)))) (by kernel_rfl) (by exact rfl) (fun K hK => ?_); go_simp; refine hK _ ?_; clear hK K) | ((first | apply wpQI_step (by with_reducible (refine List.getElem?_toArray.trans ?_; (repeat (first | exact List.getElem?_cons_zero | refine List.getElem?_cons_succ.trans ?_)))) (by kernel_rfl) (by exact rfl) | apply wpQI_on (by with_reducible (refine List.getElem?_toArray.trans ?_; (repeat (first | exact List.getElem?_cons_zero | refine List.getElem?_cons_succ.trans ?_)))) (by kernel_rfl) (by exact rfl)); (focus (intro W' hS; have hcS := hS.cells.1; have hfS := hS.cells.2; go_simp; (first | done | exact rfl | exact ⟨rfl, Below.refl _ _⟩ | (go_at_call 19; exact (K26.out _).mono (fun _ _ h => ⟨h.1, h.2⟩)) | (go_simp; first | done | exact rfl | exact ⟨rfl, Below.refl _ _⟩)))); intro K hK; go_simp; (try go_bits); refine hK _ ?_; clear hK K))); refine wpQI_nil ?_
  refine wpQI_start [24, 25, 26, 27] ?_; (iterate 4 (first | (refine wpQI_off (by with_reducible (refine List.getElem?_toArray.trans ?_; (repeat (first | exact List.getElem?_cons_zero | refine List.getElem?_cons_succ.trans ?_)))) (by kernel_rfl) (by exact rfl) (fun K hK => ?_); go_simp; refine hK _ ?_; clear hK K) | ((first | apply wpQI_step (by with_reducible (refine List.getElem?_toArray.trans ?_; (repeat (first | exact List.getElem?_cons_zero | refine List.getElem?_cons_succ.trans ?_)))) (by kernel_rfl) (by exact rfl) | apply wpQI_on (by with_reducible (refine List.getElem?_toArray.trans ?_; (repeat (first | exact List.getElem?_cons_zero | refine List.getElem?_cons_succ.trans ?_)))) (by kernel_rfl) (by exact rfl)); (focus (intro W' hS; have hcS := hS.cells.1; have hfS := hS.cells.2; go_simp; (first | done | exact rfl | exact ⟨rfl, Below.refl _ _⟩ | (go_simp; first | done | exact rfl | exact ⟨rfl, Below.refl _ _⟩)))); intro K hK; go_simp; (try go_bits); refine hK _ ?_; clear hK K))); refine wpQI_nil ?_
  refine wpQ_done (by kernel_rfl) ?_
  intro w137 hF_w137 hSG
  have hz_w137 := hSG.1.1
  have hb_w137 := hSG.1.2
  clear hSG
  (with_reducible apply cel6 (b := w.heap.size) hb_w137); (focus ((try simp) <;> omega)); (focus omega); (focus (go_simp; try exact rfl)); (focus (go_simp; try exact rfl)); (focus (go_simp; try exact rfl)); (focus (go_simp; try exact rfl)); (focus (go_simp; try exact rfl)); (focus (go_simp; try exact rfl)); (focus (intro o; go_simp)); intro c_w137_0_0 c_w137_0_1 c_w137_0_2 c_w137_0_3 c_w137_0_4 c_w137_0_5 fz_w137_0 hl_w137_0; (with_reducible apply cel2 (b := w121.heap.size) hb_w137); (focus ((try simp) <;> omega)); (focus omega); (focus (go_simp; try exact rfl)); (focus (go_simp; try exact rfl)); (focus (intro o; go_simp)); intro c_w137_1_0 c_w137_1_1 fz_w137_1 hl_w137_1; (with_reducible apply cel2 (b := w122.heap.size) hb_w137); (focus ((try simp) <;> omega)); (focus omega); (focus (go_simp; try exact rfl)); (focus (go_simp; try exact rfl)); (focus (intro o; go_simp)); intro c_w137_2_0 c_w137_2_1 fz_w137_2 hl_w137_2; (with_reducible apply cel2 (b := g_r21_7) hb_w137); (focus ((try simp) <;> omega)); (focus omega); (focus (go_simp; try exact rfl)); (focus (go_simp; try exact rfl)); (focus (intro o; go_simp)); intro c_w137_3_0 c_w137_3_1 fz_w137_3 hl_w137_3; (with_reducible apply cel2 (b := g_r22_12) hb_w137); (focus ((try simp) <;> omega)); (focus omega); (focus (go_simp; try exact rfl)); (focus (go_simp; try exact rfl)); (focus (intro o; go_simp)); intro c_w137_4_0 c_w137_4_1 fz_w137_4 hl_w137_4
  (try simp only [List.filterMap_nil])
  clear H128
  clear H133
  have HB137 := Lib.hid (HB135.out.trans (hb_w137.mono (by have := HB135.out.size; omega)))
  have hz137 : w.heap.size + 1 ≤ w137.heap.size := by omega
  clear hF_w137 hb_w137
  clear c_w135_0_0 c_w135_0_1 c_w135_0_2 c_w135_0_3 c_w135_0_4 c_w135_0_5 fz_w135_0 hl_w135_0 c_w135_1_0 c_w135_1_1 fz_w135_1 hl_w135_1 c_w135_2_0 c_w135_2_1 fz_w135_2 hl_w135_2 c_w135_3_0 c_w135_3_1 fz_w135_3 hl_w135_3 c_w135_4_0 c_w135_4_1 fz_w135_4 hl_w135_4
  go_wp2_with fail
  refine HQ_.out _ _ _ ?_
  clear HQ_ Q_
  go_wp2_with fail
  -- own blocks: 
  refine bodyPost_ret (v := .bool true) (by simp only [results, Try.results7]; go_simp) rfl ⟨?_, ?_⟩
  · rfl
  · have hB := HB137.out; ((with_reducible (repeat (first | exact bR _ _ | refine bS ?_ ?_ _ | refine bA ?_ ?_ _ | refine bD ?_ | refine bT ?_ (by assumption) ?_ | refine bO (by assumption) ?_ ?_))) <;> (first | omega | (simp; done) | (simp <;> omega)))
theorem respondenergy_law (v1 v2 w1 w2 n1 n2 rest grip : Int) (w : World) :
    Calls Try.prog 7 #[.agg #[.int .i64 v1, .int .i64 v2, .int .i64 w1, .int .i64 w2, .int .i64 n1, .int .i64 n2], .int .i64 rest, .int .i64 grip] w fun e w' => e = .returned (.bool true) ∧ Below w.heap.size w w' := by
  cases h1 : (withinB v1 v2 1048576 && withinB n1 n2 2097152)
  · exact respondenergy_a v1 v2 w1 w2 n1 n2 rest grip w h1
  · cases h2 : withinB w1 w2 1048576
    · exact respondenergy_b v1 v2 w1 w2 n1 n2 rest grip w h1 h2
    · rw [Bool.and_eq_true] at h1
      exact respondenergy_on v1 v2 w1 w2 n1 n2 rest grip w (by unfold permB; rw [h1.1, h1.2, h2]; rfl)
end Go.Proofs.Ytklkhnhieihfoaa
namespace Go.Proofs.Ytklkhnhieihfoaa
open Go Go.ChangeShapes Go.WideShapes Go.ChangeAt Go.RowKit
section
variable {H : Type} {enc : TypeId × Value → H} {P : Program} {w : World}
theorem cells_at {base : Nat} {a : Addr} {n : Nat} {row : List Value} (h : w.cells? base a n = some row) : row.length = n ∧ ∀ j v, row[j]? = some v → w.cell? (a.add j) = some v := by
  unfold World.cells? at h
  split at h
  · have hl := mapM_some_length h
    simp at hl
    refine ⟨hl, fun j v hj => ?_⟩
    have hlt : j < n := by rw [← hl]; exact (List.getElem?_eq_some_iff.1 hj).1
    have := mapM_some_get h j j (by simp [hlt])
    rw [this, hj]
  · cases h
theorem add_add' (a : Addr) (i j : Nat) : (a.add i).add j = a.add (i + j) := by
  unfold Addr.add
  by_cases hi : i = 0 <;> by_cases hj : j = 0 <;> simp [hi, hj, Nat.add_assoc]
theorem rowIs_of_trod {base : Nat} {spare : Nat → Bool} {held : Bool} : ∀ (fuel : Nat) (t : TypeId) (cs : List Value) (x : DataW H × List MemPlace), DataW.trod enc P w base spare held fuel t cs = some x → RowIs P w fuel t cs := by
  intro fuel
  induction fuel with
  | zero => intro t cs x h; simp [DataW.trod] at h
  | succ n ih =>
    intro t cs x h
    cases hu : P.underlying t with
    | none => simp only [RowIs, hu]
    | some d =>
      cases d with
      | bool => obtain ⟨b, hb, _⟩ := DataW.trod_bool hu h; simp only [RowIs, hu]; exact ⟨b, hb⟩
      | int k => obtain ⟨z, hz, _, hw⟩ := DataW.trod_int hu h; simp only [RowIs, hu]; exact ⟨z, hz, hw⟩
      | string => obtain ⟨s, hs, _, hw⟩ := DataW.trod_string hu h; simp only [RowIs, hu]; exact ⟨s, hs, hw⟩
      | struct fs =>
        obtain ⟨xs, m, hm, _, hl, hxl, hf⟩ := DataW.trod_struct hu h
        obtain rfl : m = n := by omega
        simp only [RowIs, hu]
        refine ⟨hl, fun f hfm => ?_⟩
        obtain ⟨i, hi⟩ := List.getElem?_of_mem hfm
        have h1 := hf i f (by simpa using hi)
        have hlt : i < xs.length := by rw [hxl]; have := (List.getElem?_eq_some_iff.1 hi).1; simpa using this
        rw [List.getElem?_eq_getElem hlt] at h1
        exact ih _ _ _ h1
      | slice e =>
        simp only [RowIs, hu]
        rcases DataW.trod_slice hu h with ⟨h0, _⟩ | ⟨a, len, cap, elems, rest, m, hm, hcs, _, _, hlc, hcap, hel, hat, _⟩
        · exact .inl h0
        · obtain rfl : m = n := by omega
          refine .inr ⟨a, len, cap, hcs, hlc, hcap, fun i hi => ?_⟩
          have h1 := hat i hi
          have hlt : i < elems.length := by omega
          rw [List.getElem?_eq_getElem hlt] at h1
          obtain ⟨row, hr, ht⟩ := Option.bind_eq_some_iff.1 h1
          obtain ⟨hl, hc⟩ := cells_at hr
          exact ⟨row, hl, fun j v hj => by rw [← add_add']; exact hc j v hj, ih _ _ _ ht⟩
      | _ => simp only [RowIs, hu]
end
end Go.Proofs.Ytklkhnhieihfoaa
namespace Go.Proofs.Ytklkhnhieihfoaa.lawRE
open Go.ChangeShapes Go.WideShapes Go.ChangeAt Go.RowKit
set_option linter.unusedVariables false
theorem walk (w : World) (a0 : Array Value) (n0 : Nat) (w0 : RowIs Try.prog w n0 52 a0.toList) (a1 : Int) (w1 : (Lit.int .i64 a1).wf = true) (a2 : Int) (w2 : (Lit.int .i64 a2).wf = true) :
    Calls Try.prog 7 #[.agg a0, .int .i64 a1, .int .i64 a2] w fun e w' => e = .returned (.bool true) ∧ Below w.heap.size w w' := by
  obtain ⟨px, py, vx, vy, hx, hy, e, _⟩ := row_meet w0
  obtain ⟨l⟩ := a0
  simp only at e
  subst e
  exact respondenergy_law px py vx vy hx hy a1 a2 w
theorem own : ownKnob Try.prog.godebug = none := by kernel_rfl
theorem laidOut : laidOutB Try.prog = true := by kernel_rfl
set_option maxRecDepth 100000 in
theorem lifted (os : Os) (started : os.Started) (H : Type) (enc : TypeId × Value → H) :
    ReturnsInHanded {} Try.checked os 7 .any (Rows.respondEnergySpec.pre6 enc Try.prog Try.f7 Rows.respondEnergyRow.domain false) (Rows.respondEnergySpec.post enc Try.prog Try.f7 false true false false) := by
  refine returnsInHanded_of_change (C := Try.checked) own started (by kernel_rfl) Try.func7
    (ChangeSpec.witness6 (enc := enc) (C := Try.checked) false ⟨#[], #[.agg #[.int .i64 0, .int .i64 0, .int .i64 0, .int .i64 0, .int .i64 0, .int .i64 0], .int .i64 0, .int .i64 0], []⟩ 8 (by kernel_rfl) (by kernel_rfl) (by kernel_rfl) (by kernel_rfl)) ?_
  intro W base args ds gs before hval0 hW hcnd _
  have hval : ∀ (j : Nat) t v, Try.f7.params[j]? = some t → args[j]? = some v → Value.okWide Try.prog W .any base t v := hval0
  have hW' := hW
  obtain ⟨p, q, hA0, hV, rfl, hfz, hnd⟩ := hW
  have hA : DataW.TrodAll enc Try.prog W 0 (fun _ => true) true Try.f7.params.toList args.toList ds p := hA0
  rw [Try.params7] at hA hval
  obtain ⟨v0, vs0, d0, ds0, p0, q0, hargs, rfl, rfl, h0, r0⟩ := trodAll_cons hA
  obtain ⟨v1, vs1, d1, ds1, p1, q1, rfl, rfl, rfl, h1, r1⟩ := trodAll_cons r0
  obtain ⟨v2, vs2, d2, ds2, p2, q2, rfl, rfl, rfl, h2, r2⟩ := trodAll_cons r1
  obtain ⟨rfl, rfl, rfl⟩ := trodAll_nil r2
  obtain rfl : args = #[v0, v1, v2] := by cases args; simp_all
  obtain ⟨rfl, rfl⟩ := trodVars_none hV
  obtain ⟨a0, rfl, hs0⟩ := okWide_struct Try.underlying52 (hval 0 52 v0 rfl rfl)
  have k0 := h0
  have lt0 : ∀ x ∈ p0, x.block < W.heap.size := by obtain ⟨m, hm⟩ := k0; exact DataW.trod_lt m _ _ _ hm
  obtain ⟨n0, w0⟩ : ∃ n, RowIs Try.prog W n 52 a0.toList := by obtain ⟨fuel, hf⟩ := h0; exact ⟨fuel, rowIs_of_trod fuel _ _ _ hf⟩
  obtain ⟨a1, rfl, rfl, rfl, w1⟩ := open_int Try.underlying3 (hval 1 3 v1 rfl rfl) h1
  obtain ⟨a2, rfl, rfl, rfl, w2⟩ := open_int Try.underlying3 (hval 2 3 v2 rfl rfl) h2
  clear hA0 hval0
  refine (walk W a0 n0 w0 a1 w1 a2 w2).mono fun e W' ⟨he, bel⟩ => ?_
  subst he
  exact ⟨_, rfl, _, _, _, [], _, [], hW', trodAll_mk1 (shut_bool Try.underlying4 _), (trodAll_cons_mk (Below.trod laidOut (by kernel_rfl) (of_decide_eq_true (by kernel_rfl)) k0 bel lt0) (trodAll_cons_mk (shut_int Try.underlying3 w1) (trodAll_cons_mk (shut_int Try.underlying3 w2) trodAll_mk0))), rfl, bel.frame _, fun h => by cases h⟩
theorem over : Rows.respondEnergyRow.holds Try.pinned (OpenSpec.ofChange Rows.respondEnergySpec) :=
  OpenClaim.holds_of_wide 7 Try.f7 rfl rfl rfl rfl rfl rfl rfl ⟨rfl, rfl, rfl, rfl, rfl⟩ rfl rfl rfl rfl rfl (by kernel_rfl) Try.func7 (by kernel_rfl)
    (of_decide_eq_true (by kernel_rfl)) (by unfold Func.isWrapper; first | (rw [if_pos (by decide +kernel)]; kernel_rfl) | (rw [if_neg (by decide +kernel)]; exact ⟨rfl, rfl⟩))
    (fun os started H enc _ => lifted os started H enc)
theorem proved : Rows.RespondEnergySaid := over
#print axioms proved
end Go.Proofs.Ytklkhnhieihfoaa.lawRE
