/- Law RespondAway returns true for every Meet and any two integers; each argument reads afterwards as it read before. No conditions. Merged texts: RsA RsJ RsP RsU RsV Open LawRA (what no proof of the claim needs is left out). -/
import Derived.Test.YtklkhnhieihfoaaRb7
import Derived.ProofKit
import Derived.OpenShut
import Derived.ChangeOld
import Derived.Below
import Derived.Carry
import Derived.Test.YtklkhnhieihfoaaRows
namespace Go.Proofs.Ytklkhnhieihfoaa
open Go Go.RowKit
set_option linter.unusedVariables false
theorem rspeed_any (x y : Int) (w : World) :
    Calls Try.prog 34 #[.agg #[.int .i64 x, .int .i64 y]] w fun e w' => e = .returned (.bool (withinB x y 1048576)) ∧ Below w.heap.size w w' := by
  go_enter Try.func34, Try.ntmps34; (try simp only [List.append_eq, List.cons_append, List.nil_append])
  go_wp2_with fail
  -- own blocks: w.heap.size:2
  (go_at_call 86; refine (rnear_any _ _ _ _ (by omega) (by omega)).mono ?_; rintro e w1 ⟨rfl, hb_w1⟩; have hz_w1 := hb_w1.size; (try simp at hz_w1); (with_reducible apply cel2 (b := w.heap.size) hb_w1); (focus ((try simp) <;> omega)); (focus omega); (focus (go_simp; try exact rfl)); (focus (go_simp; try exact rfl)); (focus (intro o; go_simp)); intro cc cc fz hl)
  go_wp2_with fail
  go_ret
  exact ⟨rfl, by ((with_reducible (repeat (first | exact bR _ _ | refine bS ?_ ?_ _ | refine bA ?_ ?_ _ | refine bD ?_ | refine bT ?_ (by assumption) ?_ | refine bO (by assumption) ?_ ?_))) <;> (first | omega | (simp; done) | (simp <;> omega)))⟩
end Go.Proofs.Ytklkhnhieihfoaa
namespace Go.Proofs.Ytklkhnhieihfoaa
open Go Go.RowKit
set_option linter.unusedVariables false
def POut (R : Int × Int × Int) (w : World) (e : Ending) (w' : World) : Prop := ROut R.1 R.2.1 R.2.2 w e w'
set_option maxRecDepth 100000 in
set_option maxHeartbeats 20000000 in
theorem rsum_any (x y d x' y' d' : Int) (u v : Value) (w : World) (hu : RAt w u x y d) (hv : RAt w v x' y' d') (hd : d * d' ≠ 0) (lx : (canN x.natAbs).length ≤ 1000) (ly : (canN y.natAbs).length ≤ 1000) (ld : (canN d.natAbs).length ≤ 1000) (lx2 : (canN x'.natAbs).length ≤ 1000) (ly2 : (canN y'.natAbs).length ≤ 1000) (ld2 : (canN d'.natAbs).length ≤ 1000) :
    Calls Try.prog 38 #[u, v] w (POut (sumR (x, y, d) (x', y', d')) w) := by
  have h0 := hu
  have h1 := hv
  obtain ⟨spx, Apx, npx, cpx, spy, Apy, npy, cpy, spd, Apd, npd, cpd, rfl⟩ := hu.val
  obtain ⟨sqx, Aqx, nqx, cqx, sqy, Aqy, nqy, cqy, sqd, Aqd, nqd, cqd, rfl⟩ := hv.val
  have l1 := len_mul lx ld2
  have l2 := len_mul lx2 ld
  have l3 := len_add l1 l2
  have l4 := len_mul ly ld2
  have l5 := len_mul ly2 ld
  have l6 := len_add l4 l5
  have l7 := len_mul ld ld2
  have k1 := fun u v w h1 h2 => times_any 1000 u v x d' w h1 h2 (by omega)
  have k2 := fun u v w h1 h2 => times_any 1000 u v x' d w h1 h2 (by omega)
  have k3 := fun u v w h1 h2 => plus_any (1000 + 1000) u v (x * d') (x' * d) w h1 h2 (by omega)
  have k4 := fun u v w h1 h2 => times_any 1000 u v y d' w h1 h2 (by omega)
  have k5 := fun u v w h1 h2 => times_any 1000 u v y' d w h1 h2 (by omega)
  have k6 := fun u v w h1 h2 => plus_any (1000 + 1000) u v (y * d') (y' * d) w h1 h2 (by omega)
  have k7 := fun u v w h1 h2 => times_any 1000 u v d d' w h1 h2 (by omega)
  have k8 := fun v w h => rlowest_any (x * d' + x' * d) (y * d' + y' * d) (d * d') v w h hd (by omega) (by omega) (by omega)
  unfold POut sumR lowR
  simp only
  generalize (x * d' + x' * d).tdiv (lowG (x * d' + x' * d) (y * d' + y' * d) (d * d')) = R1 at *
  generalize (y * d' + y' * d).tdiv (lowG (x * d' + x' * d) (y * d' + y' * d) (d * d')) = R2 at *
  generalize (d * d').tdiv (lowG (x * d' + x' * d) (y * d' + y' * d) (d * d')) = R3 at *
  generalize x * d' = P1 at *
  generalize x' * d = P2 at *
  generalize y * d' = Q1 at *
  generalize y' * d = Q2 at *
  generalize P1 + P2 = P at *
  generalize Q1 + Q2 = Q at *
  generalize d * d' = E at *
  have K1 := Lib.hid k1
  have K2 := Lib.hid k2
  have K3 := Lib.hid k3
  have K4 := Lib.hid k4
  have K5 := Lib.hid k5
  have K6 := Lib.hid k6
  have K7 := Lib.hid k7
  have K8 := Lib.hid k8
  have H0 := Lib.hid h0
  have H1 := Lib.hid h1
  have L1 := Lib.hid l1
  have L2 := Lib.hid l2
  have L4 := Lib.hid l4
  have L5 := Lib.hid l5
  have LX := Lib.hid lx
  have LY := Lib.hid ly
  have LD := Lib.hid ld
  have LX2 := Lib.hid lx2
  have LY2 := Lib.hid ly2
  have LD2 := Lib.hid ld2
  clear k1 k2 k3 k4 k5 k6 k7 k8 h0 h1 hu hv l1 l2 l3 l4 l5 l6 l7 lx ly ld lx2 ly2 ld2 hd
  -- names on
  go_enter Try.func38, Try.ntmps38; (try simp only [List.append_eq, List.cons_append, List.nil_append])
  go_wp2_with fail
  -- own blocks: w.heap.size:6, w.heap.size + 1:6, w.heap.size + 1 + 1:6
  (refine pin_wp (N := _) (Nat.le_refl _) (fun w4 hb_w4 hz_w4 => ?_); (try simp at hz_w4); (with_reducible apply cel6 (b := w.heap.size) hb_w4); (focus ((try simp) <;> omega)); (focus omega); (focus (go_simp; try exact rfl)); (focus (go_simp; try exact rfl)); (focus (go_simp; try exact rfl)); (focus (go_simp; try exact rfl)); (focus (go_simp; try exact rfl)); (focus (go_simp; try exact rfl)); (focus (intro o; go_simp)); intro c_w4_0_0 c_w4_0_1 c_w4_0_2 c_w4_0_3 c_w4_0_4 c_w4_0_5 fz_w4_0 hl_w4_0; (with_reducible apply cel6 (b := w.heap.size + 1) hb_w4); (focus ((try simp) <;> omega)); (focus omega); (focus (go_simp; try exact rfl)); (focus (go_simp; try exact rfl)); (focus (go_simp; try exact rfl)); (focus (go_simp; try exact rfl)); (focus (go_simp; try exact rfl)); (focus (go_simp; try exact rfl)); (focus (intro o; go_simp)); intro c_w4_1_0 c_w4_1_1 c_w4_1_2 c_w4_1_3 c_w4_1_4 c_w4_1_5 fz_w4_1 hl_w4_1; (with_reducible apply cel6 (b := w.heap.size + 1 + 1) hb_w4); (focus ((try simp) <;> omega)); (focus omega); (focus (go_simp; try exact rfl)); (focus (go_simp; try exact rfl)); (focus (go_simp; try exact rfl)); (focus (go_simp; try exact rfl)); (focus (go_simp; try exact rfl)); (focus (go_simp; try exact rfl)); (focus (intro o; go_simp)); intro c_w4_2_0 c_w4_2_1 c_w4_2_2 c_w4_2_3 c_w4_2_4 c_w4_2_5 fz_w4_2 hl_w4_2); refine wp_q (fun Q_ HQ_ => ?_); refine wp_region_floatQ w4.heap.size 29 [29] (Nat.le_refl _) (fun _ => True) trivial Cl.tt (by kernel_rfl) (by kernel_rfl) ?_
  replace H0 := Lib.hid (RAt.below (v := .agg #[.bool spx, .slice Apx npx cpx, .bool spy, .slice Apy npy cpy, .bool spd, .slice Apd npd cpd]) (x := x) (y := y) (d := d) (by ((repeat (first | (with_reducible exact H0.out) | (with_reducible refine RAt.al ?_ _) | (with_reducible apply RAt.st1))) <;> (first | (with_reducible assumption) | (intro _ e; cases e; done) | (go_simp; first | done | exact rfl)))) hb_w4)
  replace H1 := Lib.hid (RAt.below (v := .agg #[.bool sqx, .slice Aqx nqx cqx, .bool sqy, .slice Aqy nqy cqy, .bool sqd, .slice Aqd nqd cqd]) (x := x') (y := y') (d := d') (by ((repeat (first | (with_reducible exact H1.out) | (with_reducible refine RAt.al ?_ _) | (with_reducible apply RAt.st1))) <;> (first | (with_reducible assumption) | (intro _ e; cases e; done) | (go_simp; first | done | exact rfl)))) hb_w4)
  have HB4 := Lib.hid (show Below w.heap.size w w4 by ((with_reducible (repeat (first | exact bR _ _ | refine bS ?_ ?_ _ | refine bA ?_ ?_ _ | refine bD ?_ | refine bT ?_ (by assumption) ?_ | refine bO (by assumption) ?_ ?_))) <;> (first | omega | (simp; done) | (simp <;> omega))))
  have hz4 : w.heap.size + 1 + 1 + 1 ≤ w4.heap.size := by omega
  clear hb_w4
  skip
  refine wpQI_start [0, 1, 2, 3] ?_; (iterate 4 (first | (refine wpQI_off (by with_reducible (refine List.getElem?_toArray.trans ?_; (repeat (first | exact List.getElem?_cons_zero | refine List.getElem?_cons_succ.trans ?_)))) (by kernel_rfl) (by exact rfl) (fun K hK => ?_); go_simp; refine hK _ ?_; clear hK K) | ((first | apply wpQI_step (by with_reducible (refine List.getElem?_toArray.trans ?_; (repeat (first | exact List.getElem?_cons_zero | refine List.getElem?_cons_succ.trans ?_)))) (by kernel_rfl) (by exact rfl) | apply wpQI_on (by with_reducible (refine List.getElem?_toArray.trans ?_; (repeat (first | exact List.getElem?_cons_zero | refine List.getElem?_cons_succ.trans ?_)))) (by kernel_rfl) (by exact rfl)); (focus (intro W' hS; have hcS := hS.cells.1; have hfS := hS.cells.2; go_simp; (first | done | exact rfl | exact ⟨rfl, Below.refl _ _⟩ | (go_simp; first | done | exact rfl | exact ⟨rfl, Below.refl _ _⟩)))); intro K hK; go_simp; (try go_bits); refine hK _ ?_; clear hK K))); refine wpQI_nil ?_
  refine wpQI_start [5, 6, 7, 8] ?_; (iterate 4 (first | (refine wpQI_off (by with_reducible (refine List.getElem?_toArray.trans ?_; (repeat (first | exact List.getElem?_cons_zero | refine List.getElem?_cons_succ.trans ?_)))) (by kernel_rfl) (by exact rfl) (fun K hK => ?_); go_simp; refine hK _ ?_; clear hK K) | ((first | apply wpQI_step (by with_reducible (refine List.getElem?_toArray.trans ?_; (repeat (first | exact List.getElem?_cons_zero | refine List.getElem?_cons_succ.trans ?_)))) (by kernel_rfl) (by exact rfl) | apply wpQI_on (by with_reducible (refine List.getElem?_toArray.trans ?_; (repeat (first | exact List.getElem?_cons_zero | refine List.getElem?_cons_succ.trans ?_)))) (by kernel_rfl) (by exact rfl)); (focus (intro W' hS; have hcS := hS.cells.1; have hfS := hS.cells.2; go_simp; (first | done | exact rfl | exact ⟨rfl, Below.refl _ _⟩ | (go_simp; first | done | exact rfl | exact ⟨rfl, Below.refl _ _⟩)))); intro K hK; go_simp; (try go_bits); refine hK _ ?_; clear hK K))); refine wpQI_nil ?_
  refine wpQI_start [11, 12, 13, 14] ?_; (iterate 4 (first | (refine wpQI_off (by with_reducible (refine List.getElem?_toArray.trans ?_; (repeat (first | exact List.getElem?_cons_zero | refine List.getElem?_cons_succ.trans ?_)))) (by kernel_rfl) (by exact rfl) (fun K hK => ?_); go_simp; refine hK _ ?_; clear hK K) | ((first | apply wpQI_step (by with_reducible (refine List.getElem?_toArray.trans ?_; (repeat (first | exact List.getElem?_cons_zero | refine List.getElem?_cons_succ.trans ?_)))) (by kernel_rfl) (by exact rfl) | apply wpQI_on (by with_reducible (refine List.getElem?_toArray.trans ?_; (repeat (first | exact List.getElem?_cons_zero | refine List.getElem?_cons_succ.trans ?_)))) (by kernel_rfl) (by exact rfl)); (focus (intro W' hS; have hcS := hS.cells.1; have hfS := hS.cells.2; go_simp; (first | done | exact rfl | exact ⟨rfl, Below.refl _ _⟩ | (go_simp; first | done | exact rfl | exact ⟨rfl, Below.refl _ _⟩)))); intro K hK; go_simp; (try go_bits); refine hK _ ?_; clear hK K))); refine wpQI_nil ?_
  refine wpQI_start [16, 17, 18, 19] ?_; (iterate 4 (first | (refine wpQI_off (by with_reducible (refine List.getElem?_toArray.trans ?_; (repeat (first | exact List.getElem?_cons_zero | refine List.getElem?_cons_succ.trans ?_)))) (by kernel_rfl) (by exact rfl) (fun K hK => ?_); go_simp; refine hK _ ?_; clear hK K) | ((first | apply wpQI_step (by with_reducible (refine List.getElem?_toArray.trans ?_; (repeat (first | exact List.getElem?_cons_zero | refine List.getElem?_cons_succ.trans ?_)))) (by kernel_rfl) (by exact rfl) | apply wpQI_on (by with_reducible (refine List.getElem?_toArray.trans ?_; (repeat (first | exact List.getElem?_cons_zero | refine List.getElem?_cons_succ.trans ?_)))) (by kernel_rfl) (by exact rfl)); (focus (intro W' hS; have hcS := hS.cells.1; have hfS := hS.cells.2; go_simp; (first | done | exact rfl | exact ⟨rfl, Below.refl _ _⟩ | (go_simp; first | done | exact rfl | exact ⟨rfl, Below.refl _ _⟩)))); intro K hK; go_simp; (try go_bits); refine hK _ ?_; clear hK K))); refine wpQI_nil ?_
  refine wpQI_start [22, 23, 24, 25] ?_; (iterate 4 (first | (refine wpQI_off (by with_reducible (refine List.getElem?_toArray.trans ?_; (repeat (first | exact List.getElem?_cons_zero | refine List.getElem?_cons_succ.trans ?_)))) (by kernel_rfl) (by exact rfl) (fun K hK => ?_); go_simp; refine hK _ ?_; clear hK K) | ((first | apply wpQI_step (by with_reducible (refine List.getElem?_toArray.trans ?_; (repeat (first | exact List.getElem?_cons_zero | refine List.getElem?_cons_succ.trans ?_)))) (by kernel_rfl) (by exact rfl) | apply wpQI_on (by with_reducible (refine List.getElem?_toArray.trans ?_; (repeat (first | exact List.getElem?_cons_zero | refine List.getElem?_cons_succ.trans ?_)))) (by kernel_rfl) (by exact rfl)); (focus (intro W' hS; have hcS := hS.cells.1; have hfS := hS.cells.2; go_simp; (first | done | exact rfl | exact ⟨rfl, Below.refl _ _⟩ | (go_simp; first | done | exact rfl | exact ⟨rfl, Below.refl _ _⟩)))); intro K hK; go_simp; (try go_bits); refine hK _ ?_; clear hK K))); refine wpQI_nil ?_
  apply wpQ_call (i := 4) (by with_reducible (refine List.getElem?_toArray.trans ?_; (repeat (first | exact List.getElem?_cons_zero | refine List.getElem?_cons_succ.trans ?_)))) (by kernel_rfl) (by exact rfl); intro W hF hS; have hcS := hS.1.cells.1; have hfS := hS.1.cells.2; go_simp; (go_at_call 43; refine (K1.out _ _ _ ((RAt.px (H0.out.below hS.1.2)).zl LX.out) ((RAt.pd (H1.out.below hS.1.2)).zl LD2.out)).mono ?_; rintro e w5 ⟨hb_w5, v5, rfl, hv5⟩; refine XPost.mk _ (fun W => IsC W v5 (P1)) hb_w5 (hv5) (IsC.cl _ _) ?_); clear hb_w5 hcS hfS hS hF
  intro K hK; go_simp; (try go_bits); refine hK _ ?_; clear hK K
  obtain ⟨s5, A5, n5, c5, rfl⟩ := IsC.val hv5
  clear hv5
  apply wpQ_call (i := 9) (by with_reducible (refine List.getElem?_toArray.trans ?_; (repeat (first | exact List.getElem?_cons_zero | refine List.getElem?_cons_succ.trans ?_)))) (by kernel_rfl) (by exact rfl); intro W hF hS; have hcS := hS.1.cells.1; have hfS := hS.1.cells.2; go_simp; (go_at_call 43; refine (K2.out _ _ _ ((RAt.px (H1.out.below hS.1.2)).zl LX2.out) ((RAt.pd (H0.out.below hS.1.2)).zl LD.out)).mono ?_; rintro e w6 ⟨hb_w6, v6, rfl, hv6⟩; refine XPost.mk _ (fun W => IsC W v6 (P2)) hb_w6 (hv6) (IsC.cl _ _) ?_); clear hb_w6 hcS hfS hS hF
  intro K hK; go_simp; (try go_bits); refine hK _ ?_; clear hK K
  obtain ⟨s6, A6, n6, c6, rfl⟩ := IsC.val hv6
  clear hv6
  apply wpQ_call (i := 10) (by with_reducible (refine List.getElem?_toArray.trans ?_; (repeat (first | exact List.getElem?_cons_zero | refine List.getElem?_cons_succ.trans ?_)))) (by kernel_rfl) (by exact rfl); intro W hF hS; have hcS := hS.1.cells.1; have hfS := hS.1.cells.2; go_simp; (go_at_call 42; refine (K3.out _ _ _ (hF.1.zl L1.out) (hF.2.zl L2.out)).mono ?_; rintro e w7 ⟨hb_w7, v7, rfl, hv7⟩; refine XPost.mk _ (fun W => IsC W v7 (P)) hb_w7 (hv7) (IsC.cl _ _) ?_); clear hb_w7 hcS hfS hS hF
  intro K hK; go_simp; (try go_bits); refine hK _ ?_; clear hK K
  obtain ⟨s7, A7, n7, c7, rfl⟩ := IsC.val hv7
  clear hv7
  apply wpQ_call (i := 15) (by with_reducible (refine List.getElem?_toArray.trans ?_; (repeat (first | exact List.getElem?_cons_zero | refine List.getElem?_cons_succ.trans ?_)))) (by kernel_rfl) (by exact rfl); intro W hF hS; have hcS := hS.1.cells.1; have hfS := hS.1.cells.2; go_simp; (go_at_call 43; refine (K4.out _ _ _ ((RAt.py (H0.out.below hS.1.2)).zl LY.out) ((RAt.pd (H1.out.below hS.1.2)).zl LD2.out)).mono ?_; rintro e w8 ⟨hb_w8, v8, rfl, hv8⟩; refine XPost.mk _ (fun W => IsC W v8 (Q1)) hb_w8 (hv8) (IsC.cl _ _) ?_); clear hb_w8 hcS hfS hS hF
  intro K hK; go_simp; (try go_bits); refine hK _ ?_; clear hK K
  obtain ⟨s8, A8, n8, c8, rfl⟩ := IsC.val hv8
  clear hv8
  apply wpQ_call (i := 20) (by with_reducible (refine List.getElem?_toArray.trans ?_; (repeat (first | exact List.getElem?_cons_zero | refine List.getElem?_cons_succ.trans ?_)))) (by kernel_rfl) (by exact rfl); intro W hF hS; have hcS := hS.1.cells.1; have hfS := hS.1.cells.2; go_simp; (go_at_call 43; refine (K5.out _ _ _ ((RAt.py (H1.out.below hS.1.2)).zl LY2.out) ((RAt.pd (H0.out.below hS.1.2)).zl LD.out)).mono ?_; rintro e w9 ⟨hb_w9, v9, rfl, hv9⟩; refine XPost.mk _ (fun W => IsC W v9 (Q2)) hb_w9 (hv9) (IsC.cl _ _) ?_); clear hb_w9 hcS hfS hS hF
  intro K hK; go_simp; (try go_bits); refine hK _ ?_; clear hK K
  obtain ⟨s9, A9, n9, c9, rfl⟩ := IsC.val hv9
  clear hv9
  apply wpQ_call (i := 21) (by with_reducible (refine List.getElem?_toArray.trans ?_; (repeat (first | exact List.getElem?_cons_zero | refine List.getElem?_cons_succ.trans ?_)))) (by kernel_rfl) (by exact rfl); intro W hF hS; have hcS := hS.1.cells.1; have hfS := hS.1.cells.2; go_simp; (go_at_call 42; refine (K6.out _ _ _ (hF.1.2.zl L4.out) (hF.2.zl L5.out)).mono ?_; rintro e w10 ⟨hb_w10, v10, rfl, hv10⟩; refine XPost.mk _ (fun W => IsC W v10 (Q)) hb_w10 (hv10) (IsC.cl _ _) ?_); clear hb_w10 hcS hfS hS hF
  intro K hK; go_simp; (try go_bits); refine hK _ ?_; clear hK K
  obtain ⟨s10, A10, n10, c10, rfl⟩ := IsC.val hv10
  clear hv10
  apply wpQ_call (i := 26) (by with_reducible (refine List.getElem?_toArray.trans ?_; (repeat (first | exact List.getElem?_cons_zero | refine List.getElem?_cons_succ.trans ?_)))) (by kernel_rfl) (by exact rfl); intro W hF hS; have hcS := hS.1.cells.1; have hfS := hS.1.cells.2; go_simp; (go_at_call 43; refine (K7.out _ _ _ ((RAt.pd (H0.out.below hS.1.2)).zl LD.out) ((RAt.pd (H1.out.below hS.1.2)).zl LD2.out)).mono ?_; rintro e w11 ⟨hb_w11, v11, rfl, hv11⟩; refine XPost.mk _ (fun W => IsC W v11 (E)) hb_w11 (hv11) (IsC.cl _ _) ?_); clear hb_w11 hcS hfS hS hF
  intro K hK; go_simp; (try go_bits); refine hK _ ?_; clear hK K
  obtain ⟨s11, A11, n11, c11, rfl⟩ := IsC.val hv11
  clear hv11
  refine wpQI_start [27] ?_; (iterate 1 (first | (refine wpQI_off (by with_reducible (refine List.getElem?_toArray.trans ?_; (repeat (first | exact List.getElem?_cons_zero | refine List.getElem?_cons_succ.trans ?_)))) (by kernel_rfl) (by exact rfl) (fun K hK => ?_); go_simp; refine hK _ ?_; clear hK K) | ((first | apply wpQI_step (by with_reducible (refine List.getElem?_toArray.trans ?_; (repeat (first | exact List.getElem?_cons_zero | refine List.getElem?_cons_succ.trans ?_)))) (by kernel_rfl) (by exact rfl) | apply wpQI_on (by with_reducible (refine List.getElem?_toArray.trans ?_; (repeat (first | exact List.getElem?_cons_zero | refine List.getElem?_cons_succ.trans ?_)))) (by kernel_rfl) (by exact rfl)); (focus (intro W' hS; have hcS := hS.cells.1; have hfS := hS.cells.2; go_simp; (first | done | exact rfl | exact ⟨rfl, Below.refl _ _⟩ | (go_simp; first | done | exact rfl | exact ⟨rfl, Below.refl _ _⟩)))); intro K hK; go_simp; (try go_bits); refine hK _ ?_; clear hK K))); refine wpQI_nil ?_
  apply wpQ_call (i := 28) (by with_reducible (refine List.getElem?_toArray.trans ?_; (repeat (first | exact List.getElem?_cons_zero | refine List.getElem?_cons_succ.trans ?_)))) (by kernel_rfl) (by exact rfl); intro W hF hS; have hcS := hS.1.cells.1; have hfS := hS.1.cells.2; go_simp; (go_at_call 85; refine (K8.out _ _ (⟨_, _, _, _, _, _, _, _, _, _, _, _, rfl, hF.1.1.1.1.2, hF.1.2, hF.2⟩)).mono ?_; rintro e w12 ⟨hb_w12, v12, rfl, hv12⟩; refine XPost.mk _ (fun W => RAt W v12 (R1) (R2) (R3)) hb_w12 (hv12) (RAt.cl _ _ _ _) ?_); clear hb_w12 hcS hfS hS hF
  intro K hK; go_simp; (try go_bits); refine hK _ ?_; clear hK K
  obtain ⟨s12x, A12x, n12x, c12x, s12y, A12y, n12y, c12y, s12d, A12d, n12d, c12d, rfl⟩ := RAt.val hv12
  clear hv12
  refine wpQ_done (by kernel_rfl) ?_
  intro w13 hF_w13 hSG
  have hz_w13 := hSG.1.1
  have hb_w13 := hSG.1.2
  clear hSG
  (with_reducible apply cel6 (b := w.heap.size) hb_w13); (focus ((try simp) <;> omega)); (focus omega); (focus (go_simp; try exact rfl)); (focus (go_simp; try exact rfl)); (focus (go_simp; try exact rfl)); (focus (go_simp; try exact rfl)); (focus (go_simp; try exact rfl)); (focus (go_simp; try exact rfl)); (focus (intro o; go_simp)); intro c_w13_0_0 c_w13_0_1 c_w13_0_2 c_w13_0_3 c_w13_0_4 c_w13_0_5 fz_w13_0 hl_w13_0; (with_reducible apply cel6 (b := w.heap.size + 1) hb_w13); (focus ((try simp) <;> omega)); (focus omega); (focus (go_simp; try exact rfl)); (focus (go_simp; try exact rfl)); (focus (go_simp; try exact rfl)); (focus (go_simp; try exact rfl)); (focus (go_simp; try exact rfl)); (focus (go_simp; try exact rfl)); (focus (intro o; go_simp)); intro c_w13_1_0 c_w13_1_1 c_w13_1_2 c_w13_1_3 c_w13_1_4 c_w13_1_5 fz_w13_1 hl_w13_1; (with_reducible apply cel6 (b := w.heap.size + 1 + 1) hb_w13); (focus ((try simp) <;> omega)); (focus omega); (focus (go_simp; try exact rfl)); (focus (go_simp; try exact rfl)); (focus (go_simp; try exact rfl)); (focus (go_simp; try exact rfl)); (focus (go_simp; try exact rfl)); (focus (go_simp; try exact rfl)); (focus (intro o; go_simp)); intro c_w13_2_0 c_w13_2_1 c_w13_2_2 c_w13_2_3 c_w13_2_4 c_w13_2_5 fz_w13_2 hl_w13_2
  (try simp only [List.filterMap_cons, List.filterMap_nil, List.getElem?_cons_succ, List.getElem?_cons_zero])
  clear H0
  clear H1
  have H5 := Lib.hid (show IsC w13 (.agg #[.bool s5, .slice A5 n5 c5]) (P1) from hF_w13.1.1.1.1.1.1.1)
  have H6 := Lib.hid (show IsC w13 (.agg #[.bool s6, .slice A6 n6 c6]) (P2) from hF_w13.1.1.1.1.1.1.2)
  have H7 := Lib.hid (show IsC w13 (.agg #[.bool s7, .slice A7 n7 c7]) (P) from hF_w13.1.1.1.1.1.2)
  have H8 := Lib.hid (show IsC w13 (.agg #[.bool s8, .slice A8 n8 c8]) (Q1) from hF_w13.1.1.1.1.2)
  have H9 := Lib.hid (show IsC w13 (.agg #[.bool s9, .slice A9 n9 c9]) (Q2) from hF_w13.1.1.1.2)
  have H10 := Lib.hid (show IsC w13 (.agg #[.bool s10, .slice A10 n10 c10]) (Q) from hF_w13.1.1.2)
  have H11 := Lib.hid (show IsC w13 (.agg #[.bool s11, .slice A11 n11 c11]) (E) from hF_w13.1.2)
  have H12 := Lib.hid (show RAt w13 (.agg #[.bool s12x, .slice A12x n12x c12x, .bool s12y, .slice A12y n12y c12y, .bool s12d, .slice A12d n12d c12d]) (R1) (R2) (R3) from hF_w13.2)
  have HB13 := Lib.hid (HB4.out.trans (hb_w13.mono (by have := HB4.out.size; omega)))
  have hz13 : w.heap.size + 1 + 1 + 1 ≤ w13.heap.size := by omega
  clear hF_w13 hb_w13
  clear c_w4_0_0 c_w4_0_1 c_w4_0_2 c_w4_0_3 c_w4_0_4 c_w4_0_5 fz_w4_0 hl_w4_0 c_w4_1_0 c_w4_1_1 c_w4_1_2 c_w4_1_3 c_w4_1_4 c_w4_1_5 fz_w4_1 hl_w4_1 c_w4_2_0 c_w4_2_1 c_w4_2_2 c_w4_2_3 c_w4_2_4 c_w4_2_5 fz_w4_2 hl_w4_2
  go_wp2_with fail
  refine HQ_.out _ _ _ ?_
  clear HQ_ Q_
  go_wp2_with fail
  -- own blocks: w.heap.size + 1 + 1:6
  refine bodyPost_ret (v := .agg #[.bool s12x, .slice A12x n12x c12x, .bool s12y, .slice A12y n12y c12y, .bool s12d, .slice A12d n12d c12d]) (by simp only [results, Try.results38]; go_simp) rfl ⟨?_, ?_⟩
  · have hB := HB13.out; ((with_reducible (repeat (first | exact bR _ _ | refine bS ?_ ?_ _ | refine bA ?_ ?_ _ | refine bD ?_ | refine bT ?_ (by assumption) ?_ | refine bO (by assumption) ?_ ?_))) <;> (first | omega | (simp; done) | (simp <;> omega)))
  · exact ⟨_, rfl, (by ((repeat (first | (with_reducible exact H12.out) | (with_reducible refine RAt.al ?_ _) | (with_reducible apply RAt.st1))) <;> (first | (with_reducible assumption) | (intro _ e; cases e; done) | (go_simp; first | done | exact rfl))))⟩
set_option maxRecDepth 100000 in
set_option maxHeartbeats 20000000 in
theorem sign15_any (x y d n1 n2 : Int) (v : Value) (w : World) (hu : RAt w v x y d) (hn1 : -4194304 ≤ n1 ∧ n1 ≤ 4194304) (hn2 : -4194304 ≤ n2 ∧ n2 ≤ 4194304) (lx : (canN x.natAbs).length ≤ 1000) (ly : (canN y.natAbs).length ≤ 1000) :
    Calls Try.prog 47 #[v, .agg #[.int .i64 n1, .int .i64 n2]] w fun e w' => e = .returned (.int .i64 (sgn (x * n1 + y * n2))) ∧ Below w.heap.size w w' := by
  have h0 := hu
  obtain ⟨spx, Apx, npx, cpx, spy, Apy, npy, cpy, spd, Apd, npd, cpd, rfl⟩ := hu.val
  have l1 := len_up (len_wd (z := n1) (by omega) (by omega)) (show _ ≤ 1000 by omega)
  have l2 := len_up (len_wd (z := n2) (by omega) (by omega)) (show _ ≤ 1000 by omega)
  have l3 := len_mul lx l1
  have l4 := len_mul ly l2
  have l5 := len_add l3 l4
  have k1 := fun w => of_any n1 w (by omega) (by omega)
  have k2 := fun u v w h1 h2 => times_any 1000 u v x n1 w h1 h2 (by omega)
  have k3 := fun w => of_any n2 w (by omega) (by omega)
  have k4 := fun u v w h1 h2 => times_any 1000 u v y n2 w h1 h2 (by omega)
  have k5 := fun u v w h1 h2 => plus_any (1000 + 1000) u v (x * n1) (y * n2) w h1 h2 (by omega)
  have k6 := fun v w h => sign_any (1000 + 1000 + 1) v (x * n1 + y * n2) w h (by omega)
  generalize x * n1 = P at *
  generalize y * n2 = Q at *
  generalize P + Q = S at *
  generalize sgn S = r at *
  have K1 := Lib.hid k1
  have K2 := Lib.hid k2
  have K3 := Lib.hid k3
  have K4 := Lib.hid k4
  have K5 := Lib.hid k5
  have K6 := Lib.hid k6
  have H0 := Lib.hid h0
  have L1 := Lib.hid l1
  have L2 := Lib.hid l2
  have L3 := Lib.hid l3
  have L4 := Lib.hid l4
  have L5 := Lib.hid l5
  have LX := Lib.hid lx
  have LY := Lib.hid ly
  clear k1 k2 k3 k4 k5 k6 h0 hu l1 l2 l3 l4 l5 lx ly
  -- names on
  go_enter Try.func47, Try.ntmps47; (try simp only [List.append_eq, List.cons_append, List.nil_append])
  go_wp2_with fail
  -- own blocks: w.heap.size:6, w.heap.size + 1:2
  (refine pin_wp (N := _) (Nat.le_refl _) (fun w4 hb_w4 hz_w4 => ?_); (try simp at hz_w4); (with_reducible apply cel6 (b := w.heap.size) hb_w4); (focus ((try simp) <;> omega)); (focus omega); (focus (go_simp; try exact rfl)); (focus (go_simp; try exact rfl)); (focus (go_simp; try exact rfl)); (focus (go_simp; try exact rfl)); (focus (go_simp; try exact rfl)); (focus (go_simp; try exact rfl)); (focus (intro o; go_simp)); intro c_w4_0_0 c_w4_0_1 c_w4_0_2 c_w4_0_3 c_w4_0_4 c_w4_0_5 fz_w4_0 hl_w4_0; (with_reducible apply cel2 (b := w.heap.size + 1) hb_w4); (focus ((try simp) <;> omega)); (focus omega); (focus (go_simp; try exact rfl)); (focus (go_simp; try exact rfl)); (focus (intro o; go_simp)); intro c_w4_1_0 c_w4_1_1 fz_w4_1 hl_w4_1); refine wp_q (fun Q_ HQ_ => ?_); refine wp_region_floatQ w4.heap.size 15 [] (Nat.le_refl _) (fun _ => True) trivial Cl.tt (by kernel_rfl) (by kernel_rfl) ?_
  replace H0 := Lib.hid (RAt.below (v := .agg #[.bool spx, .slice Apx npx cpx, .bool spy, .slice Apy npy cpy, .bool spd, .slice Apd npd cpd]) (x := x) (y := y) (d := d) (by ((repeat (first | (with_reducible exact H0.out) | (with_reducible refine RAt.al ?_ _) | (with_reducible apply RAt.st1))) <;> (first | (with_reducible assumption) | (intro _ e; cases e; done) | (go_simp; first | done | exact rfl)))) hb_w4)
  have HB4 := Lib.hid (show Below w.heap.size w w4 by ((with_reducible (repeat (first | exact bR _ _ | refine bS ?_ ?_ _ | refine bA ?_ ?_ _ | refine bD ?_ | refine bT ?_ (by assumption) ?_ | refine bO (by assumption) ?_ ?_))) <;> (first | omega | (simp; done) | (simp <;> omega))))
  have hz4 : w.heap.size + 1 + 1 ≤ w4.heap.size := by omega
  clear hb_w4
  skip
  refine wpQI_start [0, 1, 2, 3] ?_; (iterate 4 (first | (refine wpQI_off (by with_reducible (refine List.getElem?_toArray.trans ?_; (repeat (first | exact List.getElem?_cons_zero | refine List.getElem?_cons_succ.trans ?_)))) (by kernel_rfl) (by exact rfl) (fun K hK => ?_); go_simp; refine hK _ ?_; clear hK K) | ((first | apply wpQI_step (by with_reducible (refine List.getElem?_toArray.trans ?_; (repeat (first | exact List.getElem?_cons_zero | refine List.getElem?_cons_succ.trans ?_)))) (by kernel_rfl) (by exact rfl) | apply wpQI_on (by with_reducible (refine List.getElem?_toArray.trans ?_; (repeat (first | exact List.getElem?_cons_zero | refine List.getElem?_cons_succ.trans ?_)))) (by kernel_rfl) (by exact rfl)); (focus (intro W' hS; have hcS := hS.cells.1; have hfS := hS.cells.2; go_simp; (first | done | exact rfl | exact ⟨rfl, Below.refl _ _⟩ | (go_simp; first | done | exact rfl | exact ⟨rfl, Below.refl _ _⟩)))); intro K hK; go_simp; (try go_bits); refine hK _ ?_; clear hK K))); refine wpQI_nil ?_
  refine wpQI_start [6, 7, 8, 9] ?_; (iterate 4 (first | (refine wpQI_off (by with_reducible (refine List.getElem?_toArray.trans ?_; (repeat (first | exact List.getElem?_cons_zero | refine List.getElem?_cons_succ.trans ?_)))) (by kernel_rfl) (by exact rfl) (fun K hK => ?_); go_simp; refine hK _ ?_; clear hK K) | ((first | apply wpQI_step (by with_reducible (refine List.getElem?_toArray.trans ?_; (repeat (first | exact List.getElem?_cons_zero | refine List.getElem?_cons_succ.trans ?_)))) (by kernel_rfl) (by exact rfl) | apply wpQI_on (by with_reducible (refine List.getElem?_toArray.trans ?_; (repeat (first | exact List.getElem?_cons_zero | refine List.getElem?_cons_succ.trans ?_)))) (by kernel_rfl) (by exact rfl)); (focus (intro W' hS; have hcS := hS.cells.1; have hfS := hS.cells.2; go_simp; (first | done | exact rfl | exact ⟨rfl, Below.refl _ _⟩ | (go_simp; first | done | exact rfl | exact ⟨rfl, Below.refl _ _⟩)))); intro K hK; go_simp; (try go_bits); refine hK _ ?_; clear hK K))); refine wpQI_nil ?_
  apply wpQ_call (i := 4) (by with_reducible (refine List.getElem?_toArray.trans ?_; (repeat (first | exact List.getElem?_cons_zero | refine List.getElem?_cons_succ.trans ?_)))) (by kernel_rfl) (by exact rfl); intro W hF hS; have hcS := hS.1.cells.1; have hfS := hS.1.cells.2; go_simp; (go_at_call 44; refine (K1.out _).mono ?_; rintro e w5 ⟨hb_w5, v5, rfl, hv5⟩; refine XPost.mk _ (fun W => IsC W v5 (n1)) hb_w5 (hv5) (IsC.cl _ _) ?_); clear hb_w5 hcS hfS hS hF
  intro K hK; go_simp; (try go_bits); refine hK _ ?_; clear hK K
  obtain ⟨s5, A5, n5, c5, rfl⟩ := IsC.val hv5
  clear hv5
  apply wpQ_call (i := 5) (by with_reducible (refine List.getElem?_toArray.trans ?_; (repeat (first | exact List.getElem?_cons_zero | refine List.getElem?_cons_succ.trans ?_)))) (by kernel_rfl) (by exact rfl); intro W hF hS; have hcS := hS.1.cells.1; have hfS := hS.1.cells.2; go_simp; (go_at_call 43; refine (K2.out _ _ _ ((RAt.px (H0.out.below hS.1.2)).zl LX.out) (hF.zl L1.out)).mono ?_; rintro e w6 ⟨hb_w6, v6, rfl, hv6⟩; refine XPost.mk _ (fun W => IsC W v6 (P)) hb_w6 (hv6) (IsC.cl _ _) ?_); clear hb_w6 hcS hfS hS hF
  intro K hK; go_simp; (try go_bits); refine hK _ ?_; clear hK K
  obtain ⟨s6, A6, n6, c6, rfl⟩ := IsC.val hv6
  clear hv6
  apply wpQ_call (i := 10) (by with_reducible (refine List.getElem?_toArray.trans ?_; (repeat (first | exact List.getElem?_cons_zero | refine List.getElem?_cons_succ.trans ?_)))) (by kernel_rfl) (by exact rfl); intro W hF hS; have hcS := hS.1.cells.1; have hfS := hS.1.cells.2; go_simp; (go_at_call 44; refine (K3.out _).mono ?_; rintro e w7 ⟨hb_w7, v7, rfl, hv7⟩; refine XPost.mk _ (fun W => IsC W v7 (n2)) hb_w7 (hv7) (IsC.cl _ _) ?_); clear hb_w7 hcS hfS hS hF
  intro K hK; go_simp; (try go_bits); refine hK _ ?_; clear hK K
  obtain ⟨s7, A7, n7, c7, rfl⟩ := IsC.val hv7
  clear hv7
  apply wpQ_call (i := 11) (by with_reducible (refine List.getElem?_toArray.trans ?_; (repeat (first | exact List.getElem?_cons_zero | refine List.getElem?_cons_succ.trans ?_)))) (by kernel_rfl) (by exact rfl); intro W hF hS; have hcS := hS.1.cells.1; have hfS := hS.1.cells.2; go_simp; (go_at_call 43; refine (K4.out _ _ _ ((RAt.py (H0.out.below hS.1.2)).zl LY.out) (hF.2.zl L2.out)).mono ?_; rintro e w8 ⟨hb_w8, v8, rfl, hv8⟩; refine XPost.mk _ (fun W => IsC W v8 (Q)) hb_w8 (hv8) (IsC.cl _ _) ?_); clear hb_w8 hcS hfS hS hF
  intro K hK; go_simp; (try go_bits); refine hK _ ?_; clear hK K
  obtain ⟨s8, A8, n8, c8, rfl⟩ := IsC.val hv8
  clear hv8
  apply wpQ_call (i := 12) (by with_reducible (refine List.getElem?_toArray.trans ?_; (repeat (first | exact List.getElem?_cons_zero | refine List.getElem?_cons_succ.trans ?_)))) (by kernel_rfl) (by exact rfl); intro W hF hS; have hcS := hS.1.cells.1; have hfS := hS.1.cells.2; go_simp; (go_at_call 42; refine (K5.out _ _ _ (hF.1.1.2.zl L3.out) (hF.2.zl L4.out)).mono ?_; rintro e w9 ⟨hb_w9, v9, rfl, hv9⟩; refine XPost.mk _ (fun W => IsC W v9 (S)) hb_w9 (hv9) (IsC.cl _ _) ?_); clear hb_w9 hcS hfS hS hF
  intro K hK; go_simp; (try go_bits); refine hK _ ?_; clear hK K
  obtain ⟨s9, A9, n9, c9, rfl⟩ := IsC.val hv9
  clear hv9
  apply wpQ_call (i := 13) (by with_reducible (refine List.getElem?_toArray.trans ?_; (repeat (first | exact List.getElem?_cons_zero | refine List.getElem?_cons_succ.trans ?_)))) (by kernel_rfl) (by exact rfl); intro W hF hS; have hcS := hS.1.cells.1; have hfS := hS.1.cells.2; go_simp; (go_at_call 100; refine (K6.out _ _ (hF.2.zl L5.out)).mono ?_; rintro e w10 ⟨rfl, hb_w10⟩; refine XPost.mk _ (fun _ => True) hb_w10 (trivial) (Cl.tt) ?_); clear hb_w10 hcS hfS hS hF
  intro K hK; go_simp; (try go_bits); refine hK _ ?_; clear hK K
  refine wpQI_start [14] ?_; (iterate 1 (first | (refine wpQI_off (by with_reducible (refine List.getElem?_toArray.trans ?_; (repeat (first | exact List.getElem?_cons_zero | refine List.getElem?_cons_succ.trans ?_)))) (by kernel_rfl) (by exact rfl) (fun K hK => ?_); go_simp; refine hK _ ?_; clear hK K) | ((first | apply wpQI_step (by with_reducible (refine List.getElem?_toArray.trans ?_; (repeat (first | exact List.getElem?_cons_zero | refine List.getElem?_cons_succ.trans ?_)))) (by kernel_rfl) (by exact rfl) | apply wpQI_on (by with_reducible (refine List.getElem?_toArray.trans ?_; (repeat (first | exact List.getElem?_cons_zero | refine List.getElem?_cons_succ.trans ?_)))) (by kernel_rfl) (by exact rfl)); (focus (intro W' hS; have hcS := hS.cells.1; have hfS := hS.cells.2; go_simp; (first | done | exact rfl | exact ⟨rfl, Below.refl _ _⟩ | (go_simp; first | done | exact rfl | exact ⟨rfl, Below.refl _ _⟩)))); intro K hK; go_simp; (try go_bits); refine hK _ ?_; clear hK K))); refine wpQI_nil ?_
  refine wpQ_done (by kernel_rfl) ?_
  intro w11 hF_w11 hSG
  have hz_w11 := hSG.1.1
  have hb_w11 := hSG.1.2
  clear hSG
  (with_reducible apply cel6 (b := w.heap.size) hb_w11); (focus ((try simp) <;> omega)); (focus omega); (focus (go_simp; try exact rfl)); (focus (go_simp; try exact rfl)); (focus (go_simp; try exact rfl)); (focus (go_simp; try exact rfl)); (focus (go_simp; try exact rfl)); (focus (go_simp; try exact rfl)); (focus (intro o; go_simp)); intro c_w11_0_0 c_w11_0_1 c_w11_0_2 c_w11_0_3 c_w11_0_4 c_w11_0_5 fz_w11_0 hl_w11_0; (with_reducible apply cel2 (b := w.heap.size + 1) hb_w11); (focus ((try simp) <;> omega)); (focus omega); (focus (go_simp; try exact rfl)); (focus (go_simp; try exact rfl)); (focus (intro o; go_simp)); intro c_w11_1_0 c_w11_1_1 fz_w11_1 hl_w11_1
  (try simp only [List.filterMap_nil])
  clear H0
  have H5 := Lib.hid (show IsC w11 (.agg #[.bool s5, .slice A5 n5 c5]) (n1) from hF_w11.1.1.1.1.1)
  have H6 := Lib.hid (show IsC w11 (.agg #[.bool s6, .slice A6 n6 c6]) (P) from hF_w11.1.1.1.1.2)
  have H7 := Lib.hid (show IsC w11 (.agg #[.bool s7, .slice A7 n7 c7]) (n2) from hF_w11.1.1.1.2)
  have H8 := Lib.hid (show IsC w11 (.agg #[.bool s8, .slice A8 n8 c8]) (Q) from hF_w11.1.1.2)
  have H9 := Lib.hid (show IsC w11 (.agg #[.bool s9, .slice A9 n9 c9]) (S) from hF_w11.1.2)
  have HB11 := Lib.hid (HB4.out.trans (hb_w11.mono (by have := HB4.out.size; omega)))
  have hz11 : w.heap.size + 1 + 1 ≤ w11.heap.size := by omega
  clear hF_w11 hb_w11
  clear c_w4_0_0 c_w4_0_1 c_w4_0_2 c_w4_0_3 c_w4_0_4 c_w4_0_5 fz_w4_0 hl_w4_0 c_w4_1_0 c_w4_1_1 fz_w4_1 hl_w4_1
  go_wp2_with fail
  refine HQ_.out _ _ _ ?_
  clear HQ_ Q_
  go_wp2_with fail
  -- own blocks: 
  refine bodyPost_ret (v := .int .i64 r) (by simp only [results, Try.results47]; go_simp) rfl ⟨?_, ?_⟩
  · rfl
  · have hB := HB11.out; ((with_reducible (repeat (first | exact bR _ _ | refine bS ?_ ?_ _ | refine bA ?_ ?_ _ | refine bD ?_ | refine bT ?_ (by assumption) ?_ | refine bO (by assumption) ?_ ?_))) <;> (first | omega | (simp; done) | (simp <;> omega)))
set_option maxRecDepth 100000 in
set_option maxHeartbeats 20000000 in
theorem permitted15_any (v1 v2 n1 n2 : Int) (w : World) :
    Calls Try.prog 33 #[.agg #[.int .i64 v1, .int .i64 v2], .agg #[.int .i64 n1, .int .i64 n2]] w fun e w' => e = .returned (.bool (withinB v1 v2 1048576 && withinB n1 n2 2097152)) ∧ Below w.heap.size w w' := by
  have k1 := fun w => rspeed_any v1 v2 w
  have k2 := fun w => rdirection_any n1 n2 w
  generalize withinB v1 v2 1048576 = c1 at *
  generalize withinB n1 n2 2097152 = c2 at *
  have K1 := Lib.hid k1
  have K2 := Lib.hid k2
  clear k1 k2
  go_enter Try.func33, Try.ntmps33; (try simp only [List.append_eq, List.cons_append, List.nil_append])
  go_wp2_with fail
  -- own blocks: w.heap.size:2, w.heap.size + 1:2
  (go_at_call 34; refine (K1.out _).mono ?_; rintro e w1 ⟨rfl, hb_w1⟩; have hz_w1 := hb_w1.size; (try simp at hz_w1); (with_reducible apply cel2 (b := w.heap.size) hb_w1); (focus ((try simp) <;> omega)); (focus omega); (focus (go_simp; try exact rfl)); (focus (go_simp; try exact rfl)); (focus (intro o; go_simp)); intro c_w1_0_0 c_w1_0_1 fz_w1_0 hl_w1_0; (with_reducible apply cel2 (b := w.heap.size + 1) hb_w1); (focus ((try simp) <;> omega)); (focus omega); (focus (go_simp; try exact rfl)); (focus (go_simp; try exact rfl)); (focus (intro o; go_simp)); intro c_w1_1_0 c_w1_1_1 fz_w1_1 hl_w1_1)
  cases c1
  · go_wp2_with fail
    go_ret
    exact ⟨rfl, by ((with_reducible (repeat (first | exact bR _ _ | refine bS ?_ ?_ _ | refine bA ?_ ?_ _ | refine bD ?_ | refine bT ?_ (by assumption) ?_ | refine bO (by assumption) ?_ ?_))) <;> (first | omega | (simp; done) | (simp <;> omega)))⟩
  · go_wp2_with fail
    (go_at_call 71; refine (K2.out _).mono ?_; rintro e w2 ⟨rfl, hb_w2⟩; have hz_w2 := hb_w2.size; (try simp at hz_w2); (with_reducible apply cel2 (b := w.heap.size) hb_w2); (focus ((try simp) <;> omega)); (focus omega); (focus (go_simp; try exact rfl)); (focus (go_simp; try exact rfl)); (focus (intro o; go_simp)); intro c_w2_0_0 c_w2_0_1 fz_w2_0 hl_w2_0; (with_reducible apply cel2 (b := w.heap.size + 1) hb_w2); (focus ((try simp) <;> omega)); (focus omega); (focus (go_simp; try exact rfl)); (focus (go_simp; try exact rfl)); (focus (intro o; go_simp)); intro c_w2_1_0 c_w2_1_1 fz_w2_1 hl_w2_1)
    go_wp2_with fail
    go_ret
    exact ⟨by cases c2 <;> rfl, by ((with_reducible (repeat (first | exact bR _ _ | refine bS ?_ ?_ _ | refine bA ?_ ?_ _ | refine bD ?_ | refine bT ?_ (by assumption) ?_ | refine bO (by assumption) ?_ ?_))) <;> (first | omega | (simp; done) | (simp <;> omega)))⟩
def partR (n : Int) : Int := n % 16
theorem partR_bd (n : Int) : 0 ≤ partR n ∧ partR n ≤ 15 := by unfold partR; omega
set_option maxRecDepth 100000 in
set_option maxHeartbeats 20000000 in
theorem part15_any (n : Int) (w : World) :
    Calls Try.prog 35 #[.int .i64 n] w fun e w' => e = .returned (.int .i64 (partR n)) ∧ Below w.heap.size w w' := by
  have h := partR_bd n
  obtain ⟨m, hm⟩ : ∃ m, m = n.tmod 16 := ⟨_, rfl⟩
  have hm' := hm.symm
  have e : (0 ≤ n ∧ m = n % 16) ∨ (n < 0 ∧ m = -((-n) % 16)) := by
    rcases Int.lt_or_le n 0 with g | g
    · refine .inr ⟨g, ?_⟩
      rw [hm, ← Int.tmod_eq_emod_of_nonneg (show 0 ≤ -n by omega), Int.neg_tmod, Int.neg_neg]
    · exact .inl ⟨g, by rw [hm, Int.tmod_eq_emod_of_nonneg g]⟩
  have hp : partR n = if m < 0 then m + 16 else m := by unfold partR; split <;> omega
  have hb : -16 < m ∧ m < 16 := by omega
  clear e
  obtain ⟨b1, b2⟩ := hb
  clear hm
  by_cases g : m < 0
  · rw [if_pos g] at hp
    rw [hp]
    clear hp h
    go_enter Try.func35, Try.ntmps35; (try simp only [List.append_eq, List.cons_append, List.nil_append])
    go_wp2_with fail
    go_ret
    exact ⟨rfl, by ((with_reducible (repeat (first | exact bR _ _ | refine bS ?_ ?_ _ | refine bA ?_ ?_ _ | refine bD ?_ | refine bT ?_ (by assumption) ?_ | refine bO (by assumption) ?_ ?_))) <;> (first | omega | (simp; done) | (simp <;> omega)))⟩
  · rw [if_neg g] at hp
    rw [hp]
    clear hp h
    go_enter Try.func35, Try.ntmps35; (try simp only [List.append_eq, List.cons_append, List.nil_append])
    go_wp2_with fail
    go_ret
    exact ⟨rfl, by ((with_reducible (repeat (first | exact bR _ _ | refine bS ?_ ?_ _ | refine bA ?_ ?_ _ | refine bD ?_ | refine bT ?_ (by assumption) ?_ | refine bO (by assumption) ?_ ?_))) <;> (first | omega | (simp; done) | (simp <;> omega)))⟩
end Go.Proofs.Ytklkhnhieihfoaa
namespace Go.Proofs.Ytklkhnhieihfoaa
open Go Go.RowKit
set_option linter.unusedVariables false
theorem lowG_pos (x y d : Int) (hd : 0 < d) : (0 : Int) < lowG x y d := by
  unfold lowG
  have : 0 < Nat.gcd (Nat.gcd x.natAbs y.natAbs) d.natAbs := Nat.gcd_pos_of_pos_right _ (by omega)
  omega
theorem lowG_dvd (x y d : Int) : (lowG x y d : Int) ∣ x ∧ (lowG x y d : Int) ∣ y ∧ (lowG x y d : Int) ∣ d := by
  unfold lowG
  have h1 : Nat.gcd (Nat.gcd x.natAbs y.natAbs) d.natAbs ∣ Nat.gcd x.natAbs y.natAbs := Nat.gcd_dvd_left _ _
  exact ⟨Int.ofNat_dvd_left.2 (Nat.dvd_trans h1 (Nat.gcd_dvd_left _ _)), Int.ofNat_dvd_left.2 (Nat.dvd_trans h1 (Nat.gcd_dvd_right _ _)), Int.ofNat_dvd_left.2 (Nat.gcd_dvd_right _ _)⟩
/-- The numbers of a fraction are a multiple of those of its lowest form. -/
theorem lowR_mul (x y d : Int) (hd : 0 < d) : ∃ G : Int, 0 < G ∧ x = G * (lowR x y d).1 ∧ y = G * (lowR x y d).2.1 ∧ d = G * (lowR x y d).2.2 ∧ 0 < (lowR x y d).2.2 := by
  obtain ⟨h1, h2, h3⟩ := lowG_dvd x y d
  have hp := lowG_pos x y d hd
  have e3 : d = (lowG x y d : Int) * (lowR x y d).2.2 := (Int.mul_tdiv_cancel' h3).symm
  refine ⟨lowG x y d, hp, (Int.mul_tdiv_cancel' h1).symm, (Int.mul_tdiv_cancel' h2).symm, e3, ?_⟩
  rcases Int.lt_or_le 0 (lowR x y d).2.2 with h | h
  · exact h
  · have := Int.mul_le_mul_of_nonneg_left h (Int.le_of_lt hp)
    rw [Int.mul_zero, ← e3] at this
    omega
theorem lowR_scale (k x y d : Int) (hk : 0 < k) (hd : 0 < d) : lowR (k * x) (k * y) (k * d) = lowR x y d := by
  have hp := lowG_pos x y d hd
  have e : (lowG (k * x) (k * y) (k * d) : Int) = k * (lowG x y d : Int) := by
    unfold lowG
    rw [Int.natAbs_mul, Int.natAbs_mul, Int.natAbs_mul, Nat.gcd_mul_left, Nat.gcd_mul_left, Int.natCast_mul, Int.natAbs_of_nonneg (Int.le_of_lt hk)]
  obtain ⟨h1, h2, h3⟩ := lowG_dvd x y d
  unfold lowR
  rw [e]
  have key : ∀ z : Int, (k * z).tdiv (k * (lowG x y d : Int)) = z.tdiv (lowG x y d : Int) := fun z => Int.mul_tdiv_mul_of_pos _ _ hk
  rw [key, key, key]
theorem lowR_unit (s t E : Int) (hE : 0 < E) : lowR (s * E) (t * E) E = (s, t, 1) := by
  have := lowR_scale E s t 1 hE (by decide)
  rw [Int.mul_comm E s, Int.mul_comm E t, Int.mul_one] at this
  rw [this]
  unfold lowR lowG
  simp
theorem part_six (n : Int) : sixB (partR n) = true := by simp only [sixB, decide_eq_true_eq]; exact partR_bd n
theorem sumR_lens {a b : Int × Int × Int} (ha : Lens a) (hb : Lens b) (hd : 0 < a.2.2 * b.2.2) : 0 < (sumR a b).2.2 ∧ (canN (sumR a b).1.natAbs).length ≤ 30 ∧ (canN (sumR a b).2.1.natAbs).length ≤ 30 ∧ (canN (sumR a b).2.2.natAbs).length ≤ 30 := by
  obtain ⟨h1, h2, h3⟩ := ha
  obtain ⟨g1, g2, g3⟩ := hb
  exact lowR_bd (n := 30) hd (len_up (len_add (len_mul h1 g3) (len_mul g1 h3)) (by omega)) (len_up (len_add (len_mul h2 g3) (len_mul g2 h3)) (by omega)) (len_up (len_mul h3 g3) (by omega))
end Go.Proofs.Ytklkhnhieihfoaa
namespace Go.Proofs.Ytklkhnhieihfoaa
open Go Go.RowKit
set_option linter.unusedVariables false
theorem rsame_lens {r : Int × Int × Int} (l : Lens r) (u v : Value) (w : World) (hu : RAt w u r.1 r.2.1 r.2.2) (hv : RAt w v r.1 r.2.1 r.2.2) :
    Calls Try.prog 30 #[u, v] w fun e w' => e = .returned (.bool true) ∧ Below w.heap.size w w' :=
  rsame_yes r.1 r.2.1 r.2.2 u v w hu hv (Nat.le_trans l.x (by decide)) (Nat.le_trans l.y (by decide)) (Nat.le_trans l.d (by decide))
theorem sgn_nn {z : Int} (h : 0 ≤ z) : 0 ≤ sgn z ∧ sgn z ≤ 1 := by unfold sgn; split <;> (try split) <;> omega
theorem nn_of_mul {k z : Int} (hk : 0 < k) (h : 0 ≤ k * z) : 0 ≤ z := by
  rcases Int.lt_or_le z 0 with g | g
  · exfalso
    have := Int.mul_lt_mul_of_pos_left g hk
    rw [Int.mul_zero] at this
    omega
  · exact g
theorem away_nn {v1 v2 w1 w2 n1 n2 e g : Int} (ha : apprB v1 v2 w1 w2 n1 n2 = true) (he : sixB e = true) (hg : sixB g = true) :
    0 ≤ (sumR (statR v1 v2 w1 w2 n1 n2 e g) (-w1, -w2, 1)).1 * n1 + (sumR (statR v1 v2 w1 w2 n1 n2 e g) (-w1, -w2, 1)).2.1 * n2 := by
  rw [statR_on ha he hg]
  obtain ⟨_, c0, q⟩ := appr_bd ha
  simp only [sixB, decide_eq_true_eq] at he hg
  generalize hC : (v1 - w1) * n1 + (v2 - w2) * n2 = C at *
  generalize hM : n1 * n1 + n2 * n2 = M at *
  obtain ⟨G, hG, e1, e2, e3, hd⟩ := lowR_mul (statX v1 (v1 - w1) n1 M C e g) (statX v2 (v2 - w2) n2 M C e g) (16 * M) (by omega)
  generalize lowR (statX v1 (v1 - w1) n1 M C e g) (statX v2 (v2 - w2) n2 M C e g) (16 * M) = L at *
  obtain ⟨x, y, d⟩ := L
  unfold sumR
  simp only at *
  obtain ⟨H, hH, f1, f2, f3, _⟩ := lowR_mul (x * 1 + -w1 * d) (y * 1 + -w2 * d) (d * 1) (by omega)
  generalize (lowR (x * 1 + -w1 * d) (y * 1 + -w2 * d) (d * 1)).1 = X at *
  generalize (lowR (x * 1 + -w1 * d) (y * 1 + -w2 * d) (d * 1)).2.1 = Y at *
  refine nn_of_mul (Int.mul_pos hG hH) ?_
  have a : G * H * (X * n1 + Y * n2) = G * (H * X) * n1 + G * (H * Y) * n2 := by grind
  have b : G * (x * 1 + -w1 * d) = G * x - w1 * (G * d) := by grind
  have c : G * (y * 1 + -w2 * d) = G * y - w2 * (G * d) := by grind
  rw [a, ← f1, ← f2, b, c, ← e1, ← e2, ← e3]
  have key : (statX v1 (v1 - w1) n1 M C e g - w1 * (16 * M)) * n1 + (statX v2 (v2 - w2) n2 M C e g - w2 * (16 * M)) * n2 = e * (M * -C) := by
    unfold statX
    rw [← hC, ← hM]
    grind
  rw [key]
  exact Int.mul_nonneg (by omega) (Int.mul_nonneg (by omega) (by omega))
theorem apart_nn {v1 v2 w1 w2 n1 n2 e : Int} (ha : apprB v1 v2 w1 w2 n1 n2 = true) (he : sixB e = true) :
    0 ≤ (sumR (pairR v1 v2 w1 w2 n1 n2 e).1 (-(pairR v1 v2 w1 w2 n1 n2 e).2.1, -(pairR v1 v2 w1 w2 n1 n2 e).2.2.1, (pairR v1 v2 w1 w2 n1 n2 e).2.2.2)).1 * n1 + (sumR (pairR v1 v2 w1 w2 n1 n2 e).1 (-(pairR v1 v2 w1 w2 n1 n2 e).2.1, -(pairR v1 v2 w1 w2 n1 n2 e).2.2.1, (pairR v1 v2 w1 w2 n1 n2 e).2.2.2)).2.1 * n2 := by
  rw [pairR_on ha he]
  obtain ⟨_, c0, q⟩ := appr_bd ha
  simp only [sixB, decide_eq_true_eq] at he
  generalize hC : (v1 - w1) * n1 + (v2 - w2) * n2 = C at *
  generalize hM : n1 * n1 + n2 * n2 = M at *
  obtain ⟨G, hG, e1, e2, e3, hd⟩ := lowR_mul (pairX v1 n1 M C e (-1)) (pairX v2 n2 M C e (-1)) (32 * M) (by omega)
  obtain ⟨K, hK, g1, g2, g3, hd2⟩ := lowR_mul (pairX w1 n1 M C e 1) (pairX w2 n2 M C e 1) (32 * M) (by omega)
  generalize lowR (pairX v1 n1 M C e (-1)) (pairX v2 n2 M C e (-1)) (32 * M) = L at *
  generalize lowR (pairX w1 n1 M C e 1) (pairX w2 n2 M C e 1) (32 * M) = R at *
  obtain ⟨x, y, d⟩ := L
  obtain ⟨x', y', d'⟩ := R
  unfold sumR
  simp only at *
  obtain ⟨H, hH, f1, f2, f3, _⟩ := lowR_mul (x * d' + -x' * d) (y * d' + -y' * d) (d * d') (Int.mul_pos hd hd2)
  generalize (lowR (x * d' + -x' * d) (y * d' + -y' * d) (d * d')).1 = X at *
  generalize (lowR (x * d' + -x' * d) (y * d' + -y' * d) (d * d')).2.1 = Y at *
  refine nn_of_mul (Int.mul_pos (Int.mul_pos hG hK) hH) ?_
  have a : G * K * H * (X * n1 + Y * n2) = G * K * (H * X) * n1 + G * K * (H * Y) * n2 := by grind
  have b : G * K * (x * d' + -x' * d) = (G * x) * (K * d') - (K * x') * (G * d) := by grind
  have c : G * K * (y * d' + -y' * d) = (G * y) * (K * d') - (K * y') * (G * d) := by grind
  rw [a, ← f1, ← f2, b, c, ← e1, ← e2, ← e3, ← g1, ← g2, ← g3]
  have key : (pairX v1 n1 M C e (-1) * (32 * M) - pairX w1 n1 M C e 1 * (32 * M)) * n1 + (pairX v2 n2 M C e (-1) * (32 * M) - pairX w2 n2 M C e 1 * (32 * M)) * n2 = 32 * M * (2 * (e * (M * -C))) := by
    unfold pairX
    rw [← hC, ← hM]
    grind
  rw [key]
  exact Int.mul_nonneg (by omega) (Int.mul_nonneg (by omega) (Int.mul_nonneg (by omega) (Int.mul_nonneg (by omega) (by omega))))
theorem total_is {v1 v2 w1 w2 n1 n2 e : Int} (ha : apprB v1 v2 w1 w2 n1 n2 = true) (he : sixB e = true) :
    sumR (pairR v1 v2 w1 w2 n1 n2 e).1 (pairR v1 v2 w1 w2 n1 n2 e).2 = (v1 + w1, v2 + w2, 1) := by
  rw [pairR_on ha he]
  obtain ⟨_, c0, q⟩ := appr_bd ha
  generalize hC : (v1 - w1) * n1 + (v2 - w2) * n2 = C at *
  generalize hM : n1 * n1 + n2 * n2 = M at *
  obtain ⟨G, hG, e1, e2, e3, hd⟩ := lowR_mul (pairX v1 n1 M C e (-1)) (pairX v2 n2 M C e (-1)) (32 * M) (by omega)
  obtain ⟨K, hK, g1, g2, g3, hd2⟩ := lowR_mul (pairX w1 n1 M C e 1) (pairX w2 n2 M C e 1) (32 * M) (by omega)
  generalize lowR (pairX v1 n1 M C e (-1)) (pairX v2 n2 M C e (-1)) (32 * M) = L at *
  generalize lowR (pairX w1 n1 M C e 1) (pairX w2 n2 M C e 1) (32 * M) = R at *
  obtain ⟨x, y, d⟩ := L
  obtain ⟨x', y', d'⟩ := R
  unfold sumR
  simp only at *
  have hGK : G * K ≠ 0 := Int.ne_of_gt (Int.mul_pos hG hK)
  have a : x * d' + x' * d = (v1 + w1) * (d * d') := by
    refine Int.eq_of_mul_eq_mul_left hGK ?_
    have b : G * K * (x * d' + x' * d) = (G * x) * (K * d') + (K * x') * (G * d) := by grind
    have c : G * K * ((v1 + w1) * (d * d')) = (v1 + w1) * ((G * d) * (K * d')) := by grind
    rw [b, c, ← e1, ← e3, ← g1, ← g3]
    unfold pairX
    grind
  have b : y * d' + y' * d = (v2 + w2) * (d * d') := by
    refine Int.eq_of_mul_eq_mul_left hGK ?_
    have b : G * K * (y * d' + y' * d) = (G * y) * (K * d') + (K * y') * (G * d) := by grind
    have c : G * K * ((v2 + w2) * (d * d')) = (v2 + w2) * ((G * d) * (K * d')) := by grind
    rw [b, c, ← e2, ← e3, ← g2, ← g3]
    unfold pairX
    grind
  rw [a, b]
  exact lowR_unit _ _ _ (Int.mul_pos hd hd2)
-- mirrors
end Go.Proofs.Ytklkhnhieihfoaa
namespace Go.Proofs.Ytklkhnhieihfoaa
open Go Go.RowKit
set_option linter.unusedVariables false
set_option maxRecDepth 100000 in
set_option maxHeartbeats 20000000 in
theorem respondaway_a (v1 v2 w1 w2 n1 n2 rest grip : Int) (w : World) (h1 : (withinB v1 v2 1048576 && withinB n1 n2 2097152) = false) :
    Calls Try.prog 8 #[.agg #[.int .i64 v1, .int .i64 v2, .int .i64 w1, .int .i64 w2, .int .i64 n1, .int .i64 n2], .int .i64 rest, .int .i64 grip] w fun e w' => e = .returned (.bool true) ∧ Below w.heap.size w w' := by
  have k1 := fun w => awake15_any w
  have k2 := fun w => permitted15_any v1 v2 n1 n2 w
  have k3 := fun w => rspeed_any w1 w2 w
  rw [h1] at k2
  have K1 := Lib.hid k1
  have K2 := Lib.hid k2
  have K3 := Lib.hid k3
  clear k1 k2 k3 h1
  -- names on
  go_enter Try.func8, Try.ntmps8; (try simp only [List.append_eq, List.cons_append, List.nil_append])
  go_wp2_with fail
  -- own blocks: w.heap.size:6
  (go_at_call 25; refine (K1.out _).mono ?_; rintro e w101 ⟨rfl, hb_w101⟩; have hz_w101 := hb_w101.size; (try simp at hz_w101); (with_reducible apply cel6 (b := w.heap.size) hb_w101); (focus ((try simp) <;> omega)); (focus omega); (focus (go_simp; try exact rfl)); (focus (go_simp; try exact rfl)); (focus (go_simp; try exact rfl)); (focus (go_simp; try exact rfl)); (focus (go_simp; try exact rfl)); (focus (go_simp; try exact rfl)); (focus (intro o; go_simp)); intro c_w101_0_0 c_w101_0_1 c_w101_0_2 c_w101_0_3 c_w101_0_4 c_w101_0_5 fz_w101_0 hl_w101_0)
  have HB101 := Lib.hid (show Below w.heap.size w w101 by ((with_reducible (repeat (first | exact bR _ _ | refine bS ?_ ?_ _ | refine bA ?_ ?_ _ | refine bD ?_ | refine bT ?_ (by assumption) ?_ | refine bO (by assumption) ?_ ?_))) <;> (first | omega | (simp; done) | (simp <;> omega))))
  have hz101 : w.heap.size + 1 ≤ w101.heap.size := by omega
  clear hb_w101
  skip
  go_wp2_with fail
  -- own blocks: w.heap.size:6
  (go_at_call 33; refine (K2.out _).mono ?_; rintro e w102 ⟨rfl, hb_w102⟩; have hz_w102 := hb_w102.size; (try simp at hz_w102); (with_reducible apply cel6 (b := w.heap.size) hb_w102); (focus ((try simp) <;> omega)); (focus omega); (focus (go_simp; try exact rfl)); (focus (go_simp; try exact rfl)); (focus (go_simp; try exact rfl)); (focus (go_simp; try exact rfl)); (focus (go_simp; try exact rfl)); (focus (go_simp; try exact rfl)); (focus (intro o; go_simp)); intro c_w102_0_0 c_w102_0_1 c_w102_0_2 c_w102_0_3 c_w102_0_4 c_w102_0_5 fz_w102_0 hl_w102_0)
  have HB102 := Lib.hid (show Below w.heap.size w w102 by have hB := HB101.out; ((with_reducible (repeat (first | exact bR _ _ | refine bS ?_ ?_ _ | refine bA ?_ ?_ _ | refine bD ?_ | refine bT ?_ (by assumption) ?_ | refine bO (by assumption) ?_ ?_))) <;> (first | omega | (simp; done) | (simp <;> omega))))
  have hz102 : w.heap.size + 1 ≤ w102.heap.size := by omega
  clear hb_w102
  clear c_w101_0_0 c_w101_0_1 c_w101_0_2 c_w101_0_3 c_w101_0_4 c_w101_0_5 fz_w101_0 hl_w101_0
  go_wp2_with fail
  -- own blocks: 
  (go_at_call 25; refine (K1.out _).mono ?_; rintro e w103 ⟨rfl, hb_w103⟩; have hz_w103 := hb_w103.size; (try simp at hz_w103); skip)
  have HB103 := Lib.hid (show Below w.heap.size w w103 by have hB := HB102.out; ((with_reducible (repeat (first | exact bR _ _ | refine bS ?_ ?_ _ | refine bA ?_ ?_ _ | refine bD ?_ | refine bT ?_ (by assumption) ?_ | refine bO (by assumption) ?_ ?_))) <;> (first | omega | (simp; done) | (simp <;> omega))))
  have hz103 : w.heap.size + 1 ≤ w103.heap.size := by omega
  clear hb_w103
  clear c_w102_0_0 c_w102_0_1 c_w102_0_2 c_w102_0_3 c_w102_0_4 c_w102_0_5 fz_w102_0 hl_w102_0
  go_wp2_with fail
  -- own blocks: 
  refine bodyPost_ret (v := .bool true) (by simp only [results, Try.results8]; go_simp) rfl ⟨?_, ?_⟩
  · rfl
  · have hB := HB103.out; ((with_reducible (repeat (first | exact bR _ _ | refine bS ?_ ?_ _ | refine bA ?_ ?_ _ | refine bD ?_ | refine bT ?_ (by assumption) ?_ | refine bO (by assumption) ?_ ?_))) <;> (first | omega | (simp; done) | (simp <;> omega)))
set_option maxRecDepth 100000 in
set_option maxHeartbeats 20000000 in
theorem respondaway_b (v1 v2 w1 w2 n1 n2 rest grip : Int) (w : World) (h1 : (withinB v1 v2 1048576 && withinB n1 n2 2097152) = true) (h2 : withinB w1 w2 1048576 = false) :
    Calls Try.prog 8 #[.agg #[.int .i64 v1, .int .i64 v2, .int .i64 w1, .int .i64 w2, .int .i64 n1, .int .i64 n2], .int .i64 rest, .int .i64 grip] w fun e w' => e = .returned (.bool true) ∧ Below w.heap.size w w' := by
  have k1 := fun w => awake15_any w
  have k2 := fun w => permitted15_any v1 v2 n1 n2 w
  have k3 := fun w => rspeed_any w1 w2 w
  rw [h1] at k2
  rw [h2] at k3
  have K1 := Lib.hid k1
  have K2 := Lib.hid k2
  have K3 := Lib.hid k3
  clear k1 k2 k3 h1 h2
  -- names on
  go_enter Try.func8, Try.ntmps8; (try simp only [List.append_eq, List.cons_append, List.nil_append])
  go_wp2_with fail
  -- own blocks: w.heap.size:6
  (go_at_call 25; refine (K1.out _).mono ?_; rintro e w101 ⟨rfl, hb_w101⟩; have hz_w101 := hb_w101.size; (try simp at hz_w101); (with_reducible apply cel6 (b := w.heap.size) hb_w101); (focus ((try simp) <;> omega)); (focus omega); (focus (go_simp; try exact rfl)); (focus (go_simp; try exact rfl)); (focus (go_simp; try exact rfl)); (focus (go_simp; try exact rfl)); (focus (go_simp; try exact rfl)); (focus (go_simp; try exact rfl)); (focus (intro o; go_simp)); intro c_w101_0_0 c_w101_0_1 c_w101_0_2 c_w101_0_3 c_w101_0_4 c_w101_0_5 fz_w101_0 hl_w101_0)
  have HB101 := Lib.hid (show Below w.heap.size w w101 by ((with_reducible (repeat (first | exact bR _ _ | refine bS ?_ ?_ _ | refine bA ?_ ?_ _ | refine bD ?_ | refine bT ?_ (by assumption) ?_ | refine bO (by assumption) ?_ ?_))) <;> (first | omega | (simp; done) | (simp <;> omega))))
  have hz101 : w.heap.size + 1 ≤ w101.heap.size := by omega
  clear hb_w101
  skip
  go_wp2_with fail
  -- own blocks: w.heap.size:6
  (go_at_call 33; refine (K2.out _).mono ?_; rintro e w102 ⟨rfl, hb_w102⟩; have hz_w102 := hb_w102.size; (try simp at hz_w102); (with_reducible apply cel6 (b := w.heap.size) hb_w102); (focus ((try simp) <;> omega)); (focus omega); (focus (go_simp; try exact rfl)); (focus (go_simp; try exact rfl)); (focus (go_simp; try exact rfl)); (focus (go_simp; try exact rfl)); (focus (go_simp; try exact rfl)); (focus (go_simp; try exact rfl)); (focus (intro o; go_simp)); intro c_w102_0_0 c_w102_0_1 c_w102_0_2 c_w102_0_3 c_w102_0_4 c_w102_0_5 fz_w102_0 hl_w102_0)
  have HB102 := Lib.hid (show Below w.heap.size w w102 by have hB := HB101.out; ((with_reducible (repeat (first | exact bR _ _ | refine bS ?_ ?_ _ | refine bA ?_ ?_ _ | refine bD ?_ | refine bT ?_ (by assumption) ?_ | refine bO (by assumption) ?_ ?_))) <;> (first | omega | (simp; done) | (simp <;> omega))))
  have hz102 : w.heap.size + 1 ≤ w102.heap.size := by omega
  clear hb_w102
  clear c_w101_0_0 c_w101_0_1 c_w101_0_2 c_w101_0_3 c_w101_0_4 c_w101_0_5 fz_w101_0 hl_w101_0
  go_wp2_with fail
  -- own blocks: 
  (go_at_call 34; refine (K3.out _).mono ?_; rintro e w103 ⟨rfl, hb_w103⟩; have hz_w103 := hb_w103.size; (try simp at hz_w103); skip)
  have HB103 := Lib.hid (show Below w.heap.size w w103 by have hB := HB102.out; ((with_reducible (repeat (first | exact bR _ _ | refine bS ?_ ?_ _ | refine bA ?_ ?_ _ | refine bD ?_ | refine bT ?_ (by assumption) ?_ | refine bO (by assumption) ?_ ?_))) <;> (first | omega | (simp; done) | (simp <;> omega))))
  have hz103 : w.heap.size + 1 ≤ w103.heap.size := by omega
  clear hb_w103
  clear c_w102_0_0 c_w102_0_1 c_w102_0_2 c_w102_0_3 c_w102_0_4 c_w102_0_5 fz_w102_0 hl_w102_0
  go_wp2_with fail
  -- own blocks: 
  (go_at_call 25; refine (K1.out _).mono ?_; rintro e w104 ⟨rfl, hb_w104⟩; have hz_w104 := hb_w104.size; (try simp at hz_w104); skip)
  have HB104 := Lib.hid (show Below w.heap.size w w104 by have hB := HB103.out; ((with_reducible (repeat (first | exact bR _ _ | refine bS ?_ ?_ _ | refine bA ?_ ?_ _ | refine bD ?_ | refine bT ?_ (by assumption) ?_ | refine bO (by assumption) ?_ ?_))) <;> (first | omega | (simp; done) | (simp <;> omega))))
  have hz104 : w.heap.size + 1 ≤ w104.heap.size := by omega
  clear hb_w104
  skip
  go_wp2_with fail
  -- own blocks: 
  refine bodyPost_ret (v := .bool true) (by simp only [results, Try.results8]; go_simp) rfl ⟨?_, ?_⟩
  · rfl
  · have hB := HB104.out; ((with_reducible (repeat (first | exact bR _ _ | refine bS ?_ ?_ _ | refine bA ?_ ?_ _ | refine bD ?_ | refine bT ?_ (by assumption) ?_ | refine bO (by assumption) ?_ ?_))) <;> (first | omega | (simp; done) | (simp <;> omega)))
set_option maxRecDepth 100000 in
set_option maxHeartbeats 20000000 in
theorem respondaway_off (v1 v2 w1 w2 n1 n2 rest grip : Int) (w : World) (hp : permB v1 v2 w1 w2 n1 n2 = true) (ha : apprB v1 v2 w1 w2 n1 n2 = false) :
    Calls Try.prog 8 #[.agg #[.int .i64 v1, .int .i64 v2, .int .i64 w1, .int .i64 w2, .int .i64 n1, .int .i64 n2], .int .i64 rest, .int .i64 grip] w fun e w' => e = .returned (.bool true) ∧ Below w.heap.size w w' := by
  have hp' := hp
  unfold permB at hp'
  rw [Bool.and_eq_true, Bool.and_eq_true] at hp'
  obtain ⟨⟨c1, c2⟩, c3⟩ := hp'
  obtain ⟨bv, bw, bn⟩ := perm_bd hp
  have k1 := fun w => awake15_any w
  have k2 := fun w => permitted15_any v1 v2 n1 n2 w
  rw [c1, c3] at k2
  simp only [Bool.and_self] at k2
  have k3 := fun w => rspeed_any w1 w2 w
  rw [c2] at k3
  have k4 := fun w => part15_any rest w
  have k5 := fun w => part15_any grip w
  have he := part_six rest
  have hg := part_six grip
  generalize partR rest = e at *
  generalize partR grip = g at *
  have k6 : ∀ w, Calls Try.prog 31 #[.agg #[.int .i64 v1, .int .i64 v2], .agg #[.int .i64 w1, .int .i64 w2], .agg #[.int .i64 n1, .int .i64 n2], .int .i64 e, .int .i64 g] w (ROut v1 v2 1 w) := by intro w; have := static_any v1 v2 w1 w2 n1 n2 e g w; rw [statR_off hp ha he hg] at this; exact this
  have k7 : ∀ w, Calls Try.prog 40 #[.agg #[.int .i64 v1, .int .i64 v2], .agg #[.int .i64 w1, .int .i64 w2], .agg #[.int .i64 n1, .int .i64 n2], .int .i64 e] w (RROut v1 v2 1 w1 w2 1 w) := by intro w; have := pair_any v1 v2 w1 w2 n1 n2 e w; rw [pairR_off hp ha he] at this; exact this
  have k8 := fun w => approaches_any v1 v2 w1 w2 n1 n2 w
  rw [ha] at k8
  have k9 := fun w => rwhole_any v1 v2 w (by omega) (by omega)
  have k10 := fun w => rwhole_any w1 w2 w (by omega) (by omega)
  have lv : Lens (v1, v2, 1) := lens_vec (by omega) (by omega)
  have lw : Lens (w1, w2, 1) := lens_vec (by omega) (by omega)
  have k11 := fun u v w h1 h2 => rsame_lens (r := ((v1, v2, 1))) lv u v w h1 h2
  have k12 := fun u v w h1 h2 => rsame_lens (r := ((w1, w2, 1))) lw u v w h1 h2
  simp only at k11 k12
  have K1 := Lib.hid k1
  have K2 := Lib.hid k2
  have K3 := Lib.hid k3
  have K4 := Lib.hid k4
  have K5 := Lib.hid k5
  have K6 := Lib.hid k6
  have K7 := Lib.hid k7
  have K8 := Lib.hid k8
  have K9 := Lib.hid k9
  have K10 := Lib.hid k10
  have K11 := Lib.hid k11
  have K12 := Lib.hid k12
  obtain ⟨bv1, bv2, bv3, bv4⟩ := bv
  obtain ⟨bw1, bw2, bw3, bw4⟩ := bw
  clear k1 k2 k3 k4 k5 k6 k7 k8 k9 k10 k11 k12 lv lw hp he hg c1 c2 c3 bn ha
  -- names on
  go_enter Try.func8, Try.ntmps8; (try simp only [List.append_eq, List.cons_append, List.nil_append])
  go_wp2_with fail
  -- own blocks: w.heap.size:6
  (go_at_call 25; refine (K1.out _).mono ?_; rintro e w101 ⟨rfl, hb_w101⟩; have hz_w101 := hb_w101.size; (try simp at hz_w101); (with_reducible apply cel6 (b := w.heap.size) hb_w101); (focus ((try simp) <;> omega)); (focus omega); (focus (go_simp; try exact rfl)); (focus (go_simp; try exact rfl)); (focus (go_simp; try exact rfl)); (focus (go_simp; try exact rfl)); (focus (go_simp; try exact rfl)); (focus (go_simp; try exact rfl)); (focus (intro o; go_simp)); intro c_w101_0_0 c_w101_0_1 c_w101_0_2 c_w101_0_3 c_w101_0_4 c_w101_0_5 fz_w101_0 hl_w101_0)
  have HB101 := Lib.hid (show Below w.heap.size w w101 by ((with_reducible (repeat (first | exact bR _ _ | refine bS ?_ ?_ _ | refine bA ?_ ?_ _ | refine bD ?_ | refine bT ?_ (by assumption) ?_ | refine bO (by assumption) ?_ ?_))) <;> (first | omega | (simp; done) | (simp <;> omega))))
  have hz101 : w.heap.size + 1 ≤ w101.heap.size := by omega
  clear hb_w101
  skip
  go_wp2_with fail
  -- own blocks: w.heap.size:6
  (go_at_call 33; refine (K2.out _).mono ?_; rintro e w102 ⟨rfl, hb_w102⟩; have hz_w102 := hb_w102.size; (try simp at hz_w102); (with_reducible apply cel6 (b := w.heap.size) hb_w102); (focus ((try simp) <;> omega)); (focus omega); (focus (go_simp; try exact rfl)); (focus (go_simp; try exact rfl)); (focus (go_simp; try exact rfl)); (focus (go_simp; try exact rfl)); (focus (go_simp; try exact rfl)); (focus (go_simp; try exact rfl)); (focus (intro o; go_simp)); intro c_w102_0_0 c_w102_0_1 c_w102_0_2 c_w102_0_3 c_w102_0_4 c_w102_0_5 fz_w102_0 hl_w102_0)
  have HB102 := Lib.hid (show Below w.heap.size w w102 by have hB := HB101.out; ((with_reducible (repeat (first | exact bR _ _ | refine bS ?_ ?_ _ | refine bA ?_ ?_ _ | refine bD ?_ | refine bT ?_ (by assumption) ?_ | refine bO (by assumption) ?_ ?_))) <;> (first | omega | (simp; done) | (simp <;> omega))))
  have hz102 : w.heap.size + 1 ≤ w102.heap.size := by omega
  clear hb_w102
  clear c_w101_0_0 c_w101_0_1 c_w101_0_2 c_w101_0_3 c_w101_0_4 c_w101_0_5 fz_w101_0 hl_w101_0
  go_wp2_with fail
  -- own blocks: w.heap.size:6
  (go_at_call 34; refine (K3.out _).mono ?_; rintro e w103 ⟨rfl, hb_w103⟩; have hz_w103 := hb_w103.size; (try simp at hz_w103); (with_reducible apply cel6 (b := w.heap.size) hb_w103); (focus ((try simp) <;> omega)); (focus omega); (focus (go_simp; try exact rfl)); (focus (go_simp; try exact rfl)); (focus (go_simp; try exact rfl)); (focus (go_simp; try exact rfl)); (focus (go_simp; try exact rfl)); (focus (go_simp; try exact rfl)); (focus (intro o; go_simp)); intro c_w103_0_0 c_w103_0_1 c_w103_0_2 c_w103_0_3 c_w103_0_4 c_w103_0_5 fz_w103_0 hl_w103_0)
  have HB103 := Lib.hid (show Below w.heap.size w w103 by have hB := HB102.out; ((with_reducible (repeat (first | exact bR _ _ | refine bS ?_ ?_ _ | refine bA ?_ ?_ _ | refine bD ?_ | refine bT ?_ (by assumption) ?_ | refine bO (by assumption) ?_ ?_))) <;> (first | omega | (simp; done) | (simp <;> omega))))
  have hz103 : w.heap.size + 1 ≤ w103.heap.size := by omega
  clear hb_w103
  clear c_w102_0_0 c_w102_0_1 c_w102_0_2 c_w102_0_3 c_w102_0_4 c_w102_0_5 fz_w102_0 hl_w102_0
  go_wp2_with fail
  -- own blocks: w.heap.size:6
  (go_at_call 35; refine (K4.out _).mono ?_; rintro e w104 ⟨rfl, hb_w104⟩; have hz_w104 := hb_w104.size; (try simp at hz_w104); (with_reducible apply cel6 (b := w.heap.size) hb_w104); (focus ((try simp) <;> omega)); (focus omega); (focus (go_simp; try exact rfl)); (focus (go_simp; try exact rfl)); (focus (go_simp; try exact rfl)); (focus (go_simp; try exact rfl)); (focus (go_simp; try exact rfl)); (focus (go_simp; try exact rfl)); (focus (intro o; go_simp)); intro c_w104_0_0 c_w104_0_1 c_w104_0_2 c_w104_0_3 c_w104_0_4 c_w104_0_5 fz_w104_0 hl_w104_0)
  have HB104 := Lib.hid (show Below w.heap.size w w104 by have hB := HB103.out; ((with_reducible (repeat (first | exact bR _ _ | refine bS ?_ ?_ _ | refine bA ?_ ?_ _ | refine bD ?_ | refine bT ?_ (by assumption) ?_ | refine bO (by assumption) ?_ ?_))) <;> (first | omega | (simp; done) | (simp <;> omega))))
  have hz104 : w.heap.size + 1 ≤ w104.heap.size := by omega
  clear hb_w104
  clear c_w103_0_0 c_w103_0_1 c_w103_0_2 c_w103_0_3 c_w103_0_4 c_w103_0_5 fz_w103_0 hl_w103_0
  go_wp2_with fail
  -- own blocks: w.heap.size:6
  (go_at_call 35; refine (K5.out _).mono ?_; rintro e w105 ⟨rfl, hb_w105⟩; have hz_w105 := hb_w105.size; (try simp at hz_w105); (with_reducible apply cel6 (b := w.heap.size) hb_w105); (focus ((try simp) <;> omega)); (focus omega); (focus (go_simp; try exact rfl)); (focus (go_simp; try exact rfl)); (focus (go_simp; try exact rfl)); (focus (go_simp; try exact rfl)); (focus (go_simp; try exact rfl)); (focus (go_simp; try exact rfl)); (focus (intro o; go_simp)); intro c_w105_0_0 c_w105_0_1 c_w105_0_2 c_w105_0_3 c_w105_0_4 c_w105_0_5 fz_w105_0 hl_w105_0)
  have HB105 := Lib.hid (show Below w.heap.size w w105 by have hB := HB104.out; ((with_reducible (repeat (first | exact bR _ _ | refine bS ?_ ?_ _ | refine bA ?_ ?_ _ | refine bD ?_ | refine bT ?_ (by assumption) ?_ | refine bO (by assumption) ?_ ?_))) <;> (first | omega | (simp; done) | (simp <;> omega))))
  have hz105 : w.heap.size + 1 ≤ w105.heap.size := by omega
  clear hb_w105
  clear c_w104_0_0 c_w104_0_1 c_w104_0_2 c_w104_0_3 c_w104_0_4 c_w104_0_5 fz_w104_0 hl_w104_0
  go_wp2_with fail
  -- own blocks: w.heap.size:6
  (go_at_call 31; refine (K6.out _).mono ?_; rintro e w106 ⟨hb_w106, v106, rfl, hv106⟩; have hz_w106 := hb_w106.size; (try simp at hz_w106); (with_reducible apply cel6 (b := w.heap.size) hb_w106); (focus ((try simp) <;> omega)); (focus omega); (focus (go_simp; try exact rfl)); (focus (go_simp; try exact rfl)); (focus (go_simp; try exact rfl)); (focus (go_simp; try exact rfl)); (focus (go_simp; try exact rfl)); (focus (go_simp; try exact rfl)); (focus (intro o; go_simp)); intro c_w106_0_0 c_w106_0_1 c_w106_0_2 c_w106_0_3 c_w106_0_4 c_w106_0_5 fz_w106_0 hl_w106_0)
  obtain ⟨s106x, A106x, n106x, c106x, s106y, A106y, n106y, c106y, s106d, A106d, n106d, c106d, rfl⟩ := RAt.val hv106
  have HB106 := Lib.hid (show Below w.heap.size w w106 by have hB := HB105.out; ((with_reducible (repeat (first | exact bR _ _ | refine bS ?_ ?_ _ | refine bA ?_ ?_ _ | refine bD ?_ | refine bT ?_ (by assumption) ?_ | refine bO (by assumption) ?_ ?_))) <;> (first | omega | (simp; done) | (simp <;> omega))))
  have hz106 : w.heap.size + 1 ≤ w106.heap.size := by omega
  clear hb_w106
  clear c_w105_0_0 c_w105_0_1 c_w105_0_2 c_w105_0_3 c_w105_0_4 c_w105_0_5 fz_w105_0 hl_w105_0
  have H106 := Lib.hid (show RAt w106 (.agg #[.bool s106x, .slice A106x n106x c106x, .bool s106y, .slice A106y n106y c106y, .bool s106d, .slice A106d n106d c106d]) (v1) (v2) (1) from hv106)
  clear hv106
  go_wp2_with fail
  -- own blocks: w.heap.size:6, w106.heap.size:6
  (go_at_call 40; refine (K7.out _).mono ?_; rintro e w107 ⟨hb_w107, u107, v107, rfl, hu107, hv107⟩; have hz_w107 := hb_w107.size; (try simp at hz_w107); (with_reducible apply cel6 (b := w.heap.size) hb_w107); (focus ((try simp) <;> omega)); (focus omega); (focus (go_simp; try exact rfl)); (focus (go_simp; try exact rfl)); (focus (go_simp; try exact rfl)); (focus (go_simp; try exact rfl)); (focus (go_simp; try exact rfl)); (focus (go_simp; try exact rfl)); (focus (intro o; go_simp)); intro c_w107_0_0 c_w107_0_1 c_w107_0_2 c_w107_0_3 c_w107_0_4 c_w107_0_5 fz_w107_0 hl_w107_0; (with_reducible apply cel6 (b := w106.heap.size) hb_w107); (focus ((try simp) <;> omega)); (focus omega); (focus (go_simp; try exact rfl)); (focus (go_simp; try exact rfl)); (focus (go_simp; try exact rfl)); (focus (go_simp; try exact rfl)); (focus (go_simp; try exact rfl)); (focus (go_simp; try exact rfl)); (focus (intro o; go_simp)); intro c_w107_1_0 c_w107_1_1 c_w107_1_2 c_w107_1_3 c_w107_1_4 c_w107_1_5 fz_w107_1 hl_w107_1)
  obtain ⟨s107ux, A107ux, n107ux, c107ux, s107uy, A107uy, n107uy, c107uy, s107ud, A107ud, n107ud, c107ud, rfl⟩ := RAt.val hu107
  obtain ⟨s107x, A107x, n107x, c107x, s107y, A107y, n107y, c107y, s107d, A107d, n107d, c107d, rfl⟩ := RAt.val hv107
  replace H106 := Lib.hid (RAt.below (v := .agg #[.bool s106x, .slice A106x n106x c106x, .bool s106y, .slice A106y n106y c106y, .bool s106d, .slice A106d n106d c106d]) (x := v1) (y := v2) (d := 1) (by ((repeat (first | (with_reducible exact H106.out) | (with_reducible refine RAt.al ?_ _) | (with_reducible apply RAt.st1))) <;> (first | (with_reducible assumption) | (intro _ e; cases e; done) | (go_simp; first | done | exact rfl)))) hb_w107)
  have HB107 := Lib.hid (show Below w.heap.size w w107 by have hB := HB106.out; ((with_reducible (repeat (first | exact bR _ _ | refine bS ?_ ?_ _ | refine bA ?_ ?_ _ | refine bD ?_ | refine bT ?_ (by assumption) ?_ | refine bO (by assumption) ?_ ?_))) <;> (first | omega | (simp; done) | (simp <;> omega))))
  have hz107 : w.heap.size + 1 ≤ w107.heap.size := by omega
  clear hb_w107
  clear c_w106_0_0 c_w106_0_1 c_w106_0_2 c_w106_0_3 c_w106_0_4 c_w106_0_5 fz_w106_0 hl_w106_0
  have H107u := Lib.hid (show RAt w107 (.agg #[.bool s107ux, .slice A107ux n107ux c107ux, .bool s107uy, .slice A107uy n107uy c107uy, .bool s107ud, .slice A107ud n107ud c107ud]) (v1) (v2) (1) from hu107)
  clear hu107
  have H107 := Lib.hid (show RAt w107 (.agg #[.bool s107x, .slice A107x n107x c107x, .bool s107y, .slice A107y n107y c107y, .bool s107d, .slice A107d n107d c107d]) (w1) (w2) (1) from hv107)
  clear hv107
  go_wp2_with fail
  -- own blocks: w.heap.size:6, w106.heap.size:6, w107.heap.size:6, w107.heap.size + 1:6
  (go_at_call 26; refine (K8.out _).mono ?_; rintro e w108 ⟨rfl, hb_w108⟩; have hz_w108 := hb_w108.size; (try simp at hz_w108); (with_reducible apply cel6 (b := w.heap.size) hb_w108); (focus ((try simp) <;> omega)); (focus omega); (focus (go_simp; try exact rfl)); (focus (go_simp; try exact rfl)); (focus (go_simp; try exact rfl)); (focus (go_simp; try exact rfl)); (focus (go_simp; try exact rfl)); (focus (go_simp; try exact rfl)); (focus (intro o; go_simp)); intro c_w108_0_0 c_w108_0_1 c_w108_0_2 c_w108_0_3 c_w108_0_4 c_w108_0_5 fz_w108_0 hl_w108_0; (with_reducible apply cel6 (b := w106.heap.size) hb_w108); (focus ((try simp) <;> omega)); (focus omega); (focus (go_simp; try exact rfl)); (focus (go_simp; try exact rfl)); (focus (go_simp; try exact rfl)); (focus (go_simp; try exact rfl)); (focus (go_simp; try exact rfl)); (focus (go_simp; try exact rfl)); (focus (intro o; go_simp)); intro c_w108_1_0 c_w108_1_1 c_w108_1_2 c_w108_1_3 c_w108_1_4 c_w108_1_5 fz_w108_1 hl_w108_1; (with_reducible apply cel6 (b := w107.heap.size) hb_w108); (focus ((try simp) <;> omega)); (focus omega); (focus (go_simp; try exact rfl)); (focus (go_simp; try exact rfl)); (focus (go_simp; try exact rfl)); (focus (go_simp; try exact rfl)); (focus (go_simp; try exact rfl)); (focus (go_simp; try exact rfl)); (focus (intro o; go_simp)); intro c_w108_2_0 c_w108_2_1 c_w108_2_2 c_w108_2_3 c_w108_2_4 c_w108_2_5 fz_w108_2 hl_w108_2; (with_reducible apply cel6 (b := w107.heap.size + 1) hb_w108); (focus ((try simp) <;> omega)); (focus omega); (focus (go_simp; try exact rfl)); (focus (go_simp; try exact rfl)); (focus (go_simp; try exact rfl)); (focus (go_simp; try exact rfl)); (focus (go_simp; try exact rfl)); (focus (go_simp; try exact rfl)); (focus (intro o; go_simp)); intro c_w108_3_0 c_w108_3_1 c_w108_3_2 c_w108_3_3 c_w108_3_4 c_w108_3_5 fz_w108_3 hl_w108_3)
  replace H106 := Lib.hid (RAt.below (v := .agg #[.bool s106x, .slice A106x n106x c106x, .bool s106y, .slice A106y n106y c106y, .bool s106d, .slice A106d n106d c106d]) (x := v1) (y := v2) (d := 1) (by ((repeat (first | (with_reducible exact H106.out) | (with_reducible refine RAt.al ?_ _) | (with_reducible apply RAt.st1))) <;> (first | (with_reducible assumption) | (intro _ e; cases e; done) | (go_simp; first | done | exact rfl)))) hb_w108)
  replace H107u := Lib.hid (RAt.below (v := .agg #[.bool s107ux, .slice A107ux n107ux c107ux, .bool s107uy, .slice A107uy n107uy c107uy, .bool s107ud, .slice A107ud n107ud c107ud]) (x := v1) (y := v2) (d := 1) (by ((repeat (first | (with_reducible exact H107u.out) | (with_reducible refine RAt.al ?_ _) | (with_reducible apply RAt.st1))) <;> (first | (with_reducible assumption) | (intro _ e; cases e; done) | (go_simp; first | done | exact rfl)))) hb_w108)
  replace H107 := Lib.hid (RAt.below (v := .agg #[.bool s107x, .slice A107x n107x c107x, .bool s107y, .slice A107y n107y c107y, .bool s107d, .slice A107d n107d c107d]) (x := w1) (y := w2) (d := 1) (by ((repeat (first | (with_reducible exact H107.out) | (with_reducible refine RAt.al ?_ _) | (with_reducible apply RAt.st1))) <;> (first | (with_reducible assumption) | (intro _ e; cases e; done) | (go_simp; first | done | exact rfl)))) hb_w108)
  have HB108 := Lib.hid (show Below w.heap.size w w108 by have hB := HB107.out; ((with_reducible (repeat (first | exact bR _ _ | refine bS ?_ ?_ _ | refine bA ?_ ?_ _ | refine bD ?_ | refine bT ?_ (by assumption) ?_ | refine bO (by assumption) ?_ ?_))) <;> (first | omega | (simp; done) | (simp <;> omega))))
  have hz108 : w.heap.size + 1 ≤ w108.heap.size := by omega
  clear hb_w108
  clear c_w107_0_0 c_w107_0_1 c_w107_0_2 c_w107_0_3 c_w107_0_4 c_w107_0_5 fz_w107_0 hl_w107_0 c_w107_1_0 c_w107_1_1 c_w107_1_2 c_w107_1_3 c_w107_1_4 c_w107_1_5 fz_w107_1 hl_w107_1
  go_wp2_with fail
  -- own blocks: w.heap.size:6, w106.heap.size:6, w107.heap.size:6, w107.heap.size + 1:6
  (refine pin_wp (N := _) (Nat.le_refl _) (fun w109 hb_w109 hz_w109 => ?_); (try simp at hz_w109); (with_reducible apply cel6 (b := w.heap.size) hb_w109); (focus ((try simp) <;> omega)); (focus omega); (focus (go_simp; try exact rfl)); (focus (go_simp; try exact rfl)); (focus (go_simp; try exact rfl)); (focus (go_simp; try exact rfl)); (focus (go_simp; try exact rfl)); (focus (go_simp; try exact rfl)); (focus (intro o; go_simp)); intro c_w109_0_0 c_w109_0_1 c_w109_0_2 c_w109_0_3 c_w109_0_4 c_w109_0_5 fz_w109_0 hl_w109_0; (with_reducible apply cel6 (b := w106.heap.size) hb_w109); (focus ((try simp) <;> omega)); (focus omega); (focus (go_simp; try exact rfl)); (focus (go_simp; try exact rfl)); (focus (go_simp; try exact rfl)); (focus (go_simp; try exact rfl)); (focus (go_simp; try exact rfl)); (focus (go_simp; try exact rfl)); (focus (intro o; go_simp)); intro c_w109_1_0 c_w109_1_1 c_w109_1_2 c_w109_1_3 c_w109_1_4 c_w109_1_5 fz_w109_1 hl_w109_1; (with_reducible apply cel6 (b := w107.heap.size) hb_w109); (focus ((try simp) <;> omega)); (focus omega); (focus (go_simp; try exact rfl)); (focus (go_simp; try exact rfl)); (focus (go_simp; try exact rfl)); (focus (go_simp; try exact rfl)); (focus (go_simp; try exact rfl)); (focus (go_simp; try exact rfl)); (focus (intro o; go_simp)); intro c_w109_2_0 c_w109_2_1 c_w109_2_2 c_w109_2_3 c_w109_2_4 c_w109_2_5 fz_w109_2 hl_w109_2; (with_reducible apply cel6 (b := w107.heap.size + 1) hb_w109); (focus ((try simp) <;> omega)); (focus omega); (focus (go_simp; try exact rfl)); (focus (go_simp; try exact rfl)); (focus (go_simp; try exact rfl)); (focus (go_simp; try exact rfl)); (focus (go_simp; try exact rfl)); (focus (go_simp; try exact rfl)); (focus (intro o; go_simp)); intro c_w109_3_0 c_w109_3_1 c_w109_3_2 c_w109_3_3 c_w109_3_4 c_w109_3_5 fz_w109_3 hl_w109_3); refine wp_q (fun Q_ HQ_ => ?_); refine wp_region_floatQ w109.heap.size 20 [] (Nat.le_refl _) (fun _ => True) trivial Cl.tt (by kernel_rfl) (by kernel_rfl) ?_
  replace H106 := Lib.hid (RAt.below (v := .agg #[.bool s106x, .slice A106x n106x c106x, .bool s106y, .slice A106y n106y c106y, .bool s106d, .slice A106d n106d c106d]) (x := v1) (y := v2) (d := 1) (by ((repeat (first | (with_reducible exact H106.out) | (with_reducible refine RAt.al ?_ _) | (with_reducible apply RAt.st1))) <;> (first | (with_reducible assumption) | (intro _ e; cases e; done) | (go_simp; first | done | exact rfl)))) hb_w109)
  replace H107u := Lib.hid (RAt.below (v := .agg #[.bool s107ux, .slice A107ux n107ux c107ux, .bool s107uy, .slice A107uy n107uy c107uy, .bool s107ud, .slice A107ud n107ud c107ud]) (x := v1) (y := v2) (d := 1) (by ((repeat (first | (with_reducible exact H107u.out) | (with_reducible refine RAt.al ?_ _) | (with_reducible apply RAt.st1))) <;> (first | (with_reducible assumption) | (intro _ e; cases e; done) | (go_simp; first | done | exact rfl)))) hb_w109)
  replace H107 := Lib.hid (RAt.below (v := .agg #[.bool s107x, .slice A107x n107x c107x, .bool s107y, .slice A107y n107y c107y, .bool s107d, .slice A107d n107d c107d]) (x := w1) (y := w2) (d := 1) (by ((repeat (first | (with_reducible exact H107.out) | (with_reducible refine RAt.al ?_ _) | (with_reducible apply RAt.st1))) <;> (first | (with_reducible assumption) | (intro _ e; cases e; done) | (go_simp; first | done | exact rfl)))) hb_w109)
  have HB109 := Lib.hid (show Below w.heap.size w w109 by have hB := HB108.out; ((with_reducible (repeat (first | exact bR _ _ | refine bS ?_ ?_ _ | refine bA ?_ ?_ _ | refine bD ?_ | refine bT ?_ (by assumption) ?_ | refine bO (by assumption) ?_ ?_))) <;> (first | omega | (simp; done) | (simp <;> omega))))
  have hz109 : w.heap.size + 1 ≤ w109.heap.size := by omega
  clear hb_w109
  clear c_w108_0_0 c_w108_0_1 c_w108_0_2 c_w108_0_3 c_w108_0_4 c_w108_0_5 fz_w108_0 hl_w108_0 c_w108_1_0 c_w108_1_1 c_w108_1_2 c_w108_1_3 c_w108_1_4 c_w108_1_5 fz_w108_1 hl_w108_1 c_w108_2_0 c_w108_2_1 c_w108_2_2 c_w108_2_3 c_w108_2_4 c_w108_2_5 fz_w108_2 hl_w108_2 c_w108_3_0 c_w108_3_1 c_w108_3_2 c_w108_3_3 c_w108_3_4 c_w108_3_5 fz_w108_3 hl_w108_3
  refine wpQI_start [0, 1, 2] ?_; (iterate 3 (first | (refine wpQI_off (by with_reducible (refine List.getElem?_toArray.trans ?_; (repeat (first | exact List.getElem?_cons_zero | refine List.getElem?_cons_succ.trans ?_)))) (by kernel_rfl) (by exact rfl) (fun K hK => ?_); go_simp; refine hK _ ?_; clear hK K) | ((first | apply wpQI_step (by with_reducible (refine List.getElem?_toArray.trans ?_; (repeat (first | exact List.getElem?_cons_zero | refine List.getElem?_cons_succ.trans ?_)))) (by kernel_rfl) (by exact rfl) | apply wpQI_on (by with_reducible (refine List.getElem?_toArray.trans ?_; (repeat (first | exact List.getElem?_cons_zero | refine List.getElem?_cons_succ.trans ?_)))) (by kernel_rfl) (by exact rfl)); (focus (intro W' hS; have hcS := hS.cells.1; have hfS := hS.cells.2; go_simp; (first | done | exact rfl | exact ⟨rfl, Below.refl _ _⟩ | (go_simp; first | done | exact rfl | exact ⟨rfl, Below.refl _ _⟩)))); intro K hK; go_simp; (try go_bits); refine hK _ ?_; clear hK K))); refine wpQI_nil ?_
  apply wpQ_call (i := 3) (by with_reducible (refine List.getElem?_toArray.trans ?_; (repeat (first | exact List.getElem?_cons_zero | refine List.getElem?_cons_succ.trans ?_)))) (by kernel_rfl) (by exact rfl); intro W hF hS; have hcS := hS.1.cells.1; have hfS := hS.1.cells.2; go_simp; (go_at_call 39; refine (K9.out _).mono ?_; rintro e w110 ⟨hb_w110, v110, rfl, hv110⟩; refine XPost.mk _ (fun W => RAt W v110 (v1) (v2) (1)) hb_w110 (hv110) (RAt.cl _ _ _ _) ?_); clear hb_w110 hcS hfS hS hF
  intro K hK; go_simp; (try go_bits); refine hK _ ?_; clear hK K
  obtain ⟨s110x, A110x, n110x, c110x, s110y, A110y, n110y, c110y, s110d, A110d, n110d, c110d, rfl⟩ := RAt.val hv110
  clear hv110
  apply wpQ_call (i := 4) (by with_reducible (refine List.getElem?_toArray.trans ?_; (repeat (first | exact List.getElem?_cons_zero | refine List.getElem?_cons_succ.trans ?_)))) (by kernel_rfl) (by exact rfl); intro W hF hS; have hcS := hS.1.cells.1; have hfS := hS.1.cells.2; go_simp; (go_at_call 30; refine (K11.out _ _ _ ((H106.out.below hS.1.2)) (hF)).mono ?_; rintro e w111 ⟨rfl, hb_w111⟩; refine XPost.mk _ (fun _ => True) hb_w111 (trivial) (Cl.tt) ?_); clear hb_w111 hcS hfS hS hF
  intro K hK; go_simp; (try go_bits); refine hK _ ?_; clear hK K
  refine wpQI_start [5, 6, 7, 8] ?_; (iterate 4 (first | (refine wpQI_off (by with_reducible (refine List.getElem?_toArray.trans ?_; (repeat (first | exact List.getElem?_cons_zero | refine List.getElem?_cons_succ.trans ?_)))) (by kernel_rfl) (by exact rfl) (fun K hK => ?_); go_simp; refine hK _ ?_; clear hK K) | ((first | apply wpQI_step (by with_reducible (refine List.getElem?_toArray.trans ?_; (repeat (first | exact List.getElem?_cons_zero | refine List.getElem?_cons_succ.trans ?_)))) (by kernel_rfl) (by exact rfl) | apply wpQI_on (by with_reducible (refine List.getElem?_toArray.trans ?_; (repeat (first | exact List.getElem?_cons_zero | refine List.getElem?_cons_succ.trans ?_)))) (by kernel_rfl) (by exact rfl)); (focus (intro W' hS; have hcS := hS.cells.1; have hfS := hS.cells.2; go_simp; (first | done | exact rfl | exact ⟨rfl, Below.refl _ _⟩ | (go_simp; first | done | exact rfl | exact ⟨rfl, Below.refl _ _⟩)))); intro K hK; go_simp; (try go_bits); refine hK _ ?_; clear hK K))); refine wpQI_nil ?_
  apply wpQ_call (i := 9) (by with_reducible (refine List.getElem?_toArray.trans ?_; (repeat (first | exact List.getElem?_cons_zero | refine List.getElem?_cons_succ.trans ?_)))) (by kernel_rfl) (by exact rfl); intro W hF hS; have hcS := hS.1.cells.1; have hfS := hS.1.cells.2; go_simp; (go_at_call 39; refine (K9.out _).mono ?_; rintro e w112 ⟨hb_w112, v112, rfl, hv112⟩; refine XPost.mk _ (fun W => RAt W v112 (v1) (v2) (1)) hb_w112 (hv112) (RAt.cl _ _ _ _) ?_); clear hb_w112 hcS hfS hS hF
  intro K hK; go_simp; (try go_bits); refine hK _ ?_; clear hK K
  obtain ⟨s112x, A112x, n112x, c112x, s112y, A112y, n112y, c112y, s112d, A112d, n112d, c112d, rfl⟩ := RAt.val hv112
  clear hv112
  apply wpQ_call (i := 10) (by with_reducible (refine List.getElem?_toArray.trans ?_; (repeat (first | exact List.getElem?_cons_zero | refine List.getElem?_cons_succ.trans ?_)))) (by kernel_rfl) (by exact rfl); intro W hF hS; have hcS := hS.1.cells.1; have hfS := hS.1.cells.2; go_simp; (go_at_call 30; refine (K11.out _ _ _ ((H107u.out.below hS.1.2)) (hF.2)).mono ?_; rintro e w113 ⟨rfl, hb_w113⟩; refine XPost.mk _ (fun _ => True) hb_w113 (trivial) (Cl.tt) ?_); clear hb_w113 hcS hfS hS hF
  intro K hK; go_simp; (try go_bits); refine hK _ ?_; clear hK K
  refine wpQI_start [11, 12, 13, 14, 15] ?_; (iterate 5 (first | (refine wpQI_off (by with_reducible (refine List.getElem?_toArray.trans ?_; (repeat (first | exact List.getElem?_cons_zero | refine List.getElem?_cons_succ.trans ?_)))) (by kernel_rfl) (by exact rfl) (fun K hK => ?_); go_simp; refine hK _ ?_; clear hK K) | ((first | apply wpQI_step (by with_reducible (refine List.getElem?_toArray.trans ?_; (repeat (first | exact List.getElem?_cons_zero | refine List.getElem?_cons_succ.trans ?_)))) (by kernel_rfl) (by exact rfl) | apply wpQI_on (by with_reducible (refine List.getElem?_toArray.trans ?_; (repeat (first | exact List.getElem?_cons_zero | refine List.getElem?_cons_succ.trans ?_)))) (by kernel_rfl) (by exact rfl)); (focus (intro W' hS; have hcS := hS.cells.1; have hfS := hS.cells.2; go_simp; (first | done | exact rfl | exact ⟨rfl, Below.refl _ _⟩ | (go_simp; first | done | exact rfl | exact ⟨rfl, Below.refl _ _⟩)))); intro K hK; go_simp; (try go_bits); refine hK _ ?_; clear hK K))); refine wpQI_nil ?_
  apply wpQ_call (i := 16) (by with_reducible (refine List.getElem?_toArray.trans ?_; (repeat (first | exact List.getElem?_cons_zero | refine List.getElem?_cons_succ.trans ?_)))) (by kernel_rfl) (by exact rfl); intro W hF hS; have hcS := hS.1.cells.1; have hfS := hS.1.cells.2; go_simp; (go_at_call 39; refine (K10.out _).mono ?_; rintro e w114 ⟨hb_w114, v114, rfl, hv114⟩; refine XPost.mk _ (fun W => RAt W v114 (w1) (w2) (1)) hb_w114 (hv114) (RAt.cl _ _ _ _) ?_); clear hb_w114 hcS hfS hS hF
  intro K hK; go_simp; (try go_bits); refine hK _ ?_; clear hK K
  obtain ⟨s114x, A114x, n114x, c114x, s114y, A114y, n114y, c114y, s114d, A114d, n114d, c114d, rfl⟩ := RAt.val hv114
  clear hv114
  apply wpQ_call (i := 17) (by with_reducible (refine List.getElem?_toArray.trans ?_; (repeat (first | exact List.getElem?_cons_zero | refine List.getElem?_cons_succ.trans ?_)))) (by kernel_rfl) (by exact rfl); intro W hF hS; have hcS := hS.1.cells.1; have hfS := hS.1.cells.2; go_simp; (go_at_call 30; refine (K12.out _ _ _ ((H107.out.below hS.1.2)) (hF.2)).mono ?_; rintro e w115 ⟨rfl, hb_w115⟩; refine XPost.mk _ (fun _ => True) hb_w115 (trivial) (Cl.tt) ?_); clear hb_w115 hcS hfS hS hF
  intro K hK; go_simp; (try go_bits); refine hK _ ?_; clear hK K
  refine wpQI_start [18, 19] ?_; (iterate 2 (first | (refine wpQI_off (by with_reducible (refine List.getElem?_toArray.trans ?_; (repeat (first | exact List.getElem?_cons_zero | refine List.getElem?_cons_succ.trans ?_)))) (by kernel_rfl) (by exact rfl) (fun K hK => ?_); go_simp; refine hK _ ?_; clear hK K) | ((first | apply wpQI_step (by with_reducible (refine List.getElem?_toArray.trans ?_; (repeat (first | exact List.getElem?_cons_zero | refine List.getElem?_cons_succ.trans ?_)))) (by kernel_rfl) (by exact rfl) | apply wpQI_on (by with_reducible (refine List.getElem?_toArray.trans ?_; (repeat (first | exact List.getElem?_cons_zero | refine List.getElem?_cons_succ.trans ?_)))) (by kernel_rfl) (by exact rfl)); (focus (intro W' hS; have hcS := hS.cells.1; have hfS := hS.cells.2; go_simp; (first | done | exact rfl | exact ⟨rfl, Below.refl _ _⟩ | (go_simp; first | done | exact rfl | exact ⟨rfl, Below.refl _ _⟩)))); intro K hK; go_simp; (try go_bits); refine hK _ ?_; clear hK K))); refine wpQI_nil ?_
  refine wpQ_done (by kernel_rfl) ?_
  intro w116 hF_w116 hSG
  have hz_w116 := hSG.1.1
  have hb_w116 := hSG.1.2
  clear hSG
  (with_reducible apply cel6 (b := w.heap.size) hb_w116); (focus ((try simp) <;> omega)); (focus omega); (focus (go_simp; try exact rfl)); (focus (go_simp; try exact rfl)); (focus (go_simp; try exact rfl)); (focus (go_simp; try exact rfl)); (focus (go_simp; try exact rfl)); (focus (go_simp; try exact rfl)); (focus (intro o; go_simp)); intro c_w116_0_0 c_w116_0_1 c_w116_0_2 c_w116_0_3 c_w116_0_4 c_w116_0_5 fz_w116_0 hl_w116_0; (with_reducible apply cel6 (b := w106.heap.size) hb_w116); (focus ((try simp) <;> omega)); (focus omega); (focus (go_simp; try exact rfl)); (focus (go_simp; try exact rfl)); (focus (go_simp; try exact rfl)); (focus (go_simp; try exact rfl)); (focus (go_simp; try exact rfl)); (focus (go_simp; try exact rfl)); (focus (intro o; go_simp)); intro c_w116_1_0 c_w116_1_1 c_w116_1_2 c_w116_1_3 c_w116_1_4 c_w116_1_5 fz_w116_1 hl_w116_1; (with_reducible apply cel6 (b := w107.heap.size) hb_w116); (focus ((try simp) <;> omega)); (focus omega); (focus (go_simp; try exact rfl)); (focus (go_simp; try exact rfl)); (focus (go_simp; try exact rfl)); (focus (go_simp; try exact rfl)); (focus (go_simp; try exact rfl)); (focus (go_simp; try exact rfl)); (focus (intro o; go_simp)); intro c_w116_2_0 c_w116_2_1 c_w116_2_2 c_w116_2_3 c_w116_2_4 c_w116_2_5 fz_w116_2 hl_w116_2; (with_reducible apply cel6 (b := w107.heap.size + 1) hb_w116); (focus ((try simp) <;> omega)); (focus omega); (focus (go_simp; try exact rfl)); (focus (go_simp; try exact rfl)); (focus (go_simp; try exact rfl)); (focus (go_simp; try exact rfl)); (focus (go_simp; try exact rfl)); (focus (go_simp; try exact rfl)); (focus (intro o; go_simp)); intro c_w116_3_0 c_w116_3_1 c_w116_3_2 c_w116_3_3 c_w116_3_4 c_w116_3_5 fz_w116_3 hl_w116_3
  (try simp only [List.filterMap_nil])
  clear H106
  clear H107u
  clear H107
  have H110 := Lib.hid (show RAt w116 (.agg #[.bool s110x, .slice A110x n110x c110x, .bool s110y, .slice A110y n110y c110y, .bool s110d, .slice A110d n110d c110d]) (v1) (v2) (1) from hF_w116.1.1.1)
  have H112 := Lib.hid (show RAt w116 (.agg #[.bool s112x, .slice A112x n112x c112x, .bool s112y, .slice A112y n112y c112y, .bool s112d, .slice A112d n112d c112d]) (v1) (v2) (1) from hF_w116.1.1.2)
  have H114 := Lib.hid (show RAt w116 (.agg #[.bool s114x, .slice A114x n114x c114x, .bool s114y, .slice A114y n114y c114y, .bool s114d, .slice A114d n114d c114d]) (w1) (w2) (1) from hF_w116.1.2)
  have HB116 := Lib.hid (HB109.out.trans (hb_w116.mono (by have := HB109.out.size; omega)))
  have hz116 : w.heap.size + 1 ≤ w116.heap.size := by omega
  clear hF_w116 hb_w116
  clear c_w109_0_0 c_w109_0_1 c_w109_0_2 c_w109_0_3 c_w109_0_4 c_w109_0_5 fz_w109_0 hl_w109_0 c_w109_1_0 c_w109_1_1 c_w109_1_2 c_w109_1_3 c_w109_1_4 c_w109_1_5 fz_w109_1 hl_w109_1 c_w109_2_0 c_w109_2_1 c_w109_2_2 c_w109_2_3 c_w109_2_4 c_w109_2_5 fz_w109_2 hl_w109_2 c_w109_3_0 c_w109_3_1 c_w109_3_2 c_w109_3_3 c_w109_3_4 c_w109_3_5 fz_w109_3 hl_w109_3
  go_wp2_with fail
  refine HQ_.out _ _ _ ?_
  clear HQ_ Q_
  go_wp2_with fail
  -- own blocks: 
  refine bodyPost_ret (v := .bool true) (by simp only [results, Try.results8]; go_simp) rfl ⟨?_, ?_⟩
  · rfl
  · have hB := HB116.out; ((with_reducible (repeat (first | exact bR _ _ | refine bS ?_ ?_ _ | refine bA ?_ ?_ _ | refine bD ?_ | refine bT ?_ (by assumption) ?_ | refine bO (by assumption) ?_ ?_))) <;> (first | omega | (simp; done) | (simp <;> omega)))
set_option maxRecDepth 100000 in
set_option maxHeartbeats 20000000 in
theorem respondaway_yes (v1 v2 w1 w2 n1 n2 rest grip : Int) (w : World) (hp : permB v1 v2 w1 w2 n1 n2 = true) (ha : apprB v1 v2 w1 w2 n1 n2 = true) :
    Calls Try.prog 8 #[.agg #[.int .i64 v1, .int .i64 v2, .int .i64 w1, .int .i64 w2, .int .i64 n1, .int .i64 n2], .int .i64 rest, .int .i64 grip] w fun e w' => e = .returned (.bool true) ∧ Below w.heap.size w w' := by
  have hp' := hp
  unfold permB at hp'
  rw [Bool.and_eq_true, Bool.and_eq_true] at hp'
  obtain ⟨⟨c1, c2⟩, c3⟩ := hp'
  obtain ⟨bv, bw, bn⟩ := perm_bd hp
  have k1 := fun w => awake15_any w
  have k2 := fun w => permitted15_any v1 v2 n1 n2 w
  rw [c1, c3] at k2
  simp only [Bool.and_self] at k2
  have k3 := fun w => rspeed_any w1 w2 w
  rw [c2] at k3
  have k4 := fun w => part15_any rest w
  have k5 := fun w => part15_any grip w
  have he := part_six rest
  have hg := part_six grip
  generalize partR rest = e at *
  generalize partR grip = g at *
  have k6 := fun w => static_any v1 v2 w1 w2 n1 n2 e g w
  have k7 := fun w => pair_any v1 v2 w1 w2 n1 n2 e w
  have k8 := fun w => approaches_any v1 v2 w1 w2 n1 n2 w
  rw [ha] at k8
  have k9 := fun w => rwhole_any (-w1) (-w2) w (by omega) (by omega)
  obtain ⟨la, da⟩ := stat_lens v1 v2 w1 w2 n1 n2 e g
  replace da := da hp he hg
  obtain ⟨⟨lp, lq⟩, dpq⟩ := pair_lens v1 v2 w1 w2 n1 n2 e
  obtain ⟨dp0, dq0⟩ := dpq hp he
  have lw : Lens (-w1, -w2, 1) := lens_vec (by omega) (by omega)
  have lvw : Lens (v1 + w1, v2 + w2, 1) := ⟨len_wd (by simp only; omega) (by simp only; omega), len_wd (by simp only; omega) (by simp only; omega), len_wd (by simp only; omega) (by simp only; omega)⟩
  have z1 := away_nn ha he hg
  have z2 := apart_nn ha he
  have z3 := total_is ha he
  have lqn : Lens (-(pairR v1 v2 w1 w2 n1 n2 e).2.1, -(pairR v1 v2 w1 w2 n1 n2 e).2.2.1, (pairR v1 v2 w1 w2 n1 n2 e).2.2.2) := ⟨by simp only; rw [Int.natAbs_neg]; exact lq.x, by simp only; rw [Int.natAbs_neg]; exact lq.y, lq.d⟩
  obtain ⟨_, lu1, lu2, lu3⟩ := sumR_lens la lw (by simp only [Int.mul_one]; exact da)
  obtain ⟨_, lx1, lx2, lx3⟩ := sumR_lens lp lqn (Int.mul_pos dp0 dq0)
  have k10 := fun u v w h1 h2 => rsum_any (statR v1 v2 w1 w2 n1 n2 e g).1 (statR v1 v2 w1 w2 n1 n2 e g).2.1 (statR v1 v2 w1 w2 n1 n2 e g).2.2 (-w1) (-w2) 1 u v w h1 h2 (by rw [Int.mul_one]; omega) (by have := la.x; omega) (by have := la.y; omega) (by have := la.d; omega) (by have := lw.x; simp only at this; omega) (by have := lw.y; simp only at this; omega) (by have := lw.d; simp only at this; omega)
  have hpq : (pairR v1 v2 w1 w2 n1 n2 e).1.2.2 * (pairR v1 v2 w1 w2 n1 n2 e).2.2.2 ≠ 0 := Int.ne_of_gt (Int.mul_pos dp0 dq0)
  have k13 := fun u v w h1 h2 => rsum_any (pairR v1 v2 w1 w2 n1 n2 e).1.1 (pairR v1 v2 w1 w2 n1 n2 e).1.2.1 (pairR v1 v2 w1 w2 n1 n2 e).1.2.2 (-(pairR v1 v2 w1 w2 n1 n2 e).2.1) (-(pairR v1 v2 w1 w2 n1 n2 e).2.2.1) (pairR v1 v2 w1 w2 n1 n2 e).2.2.2 u v w h1 h2 hpq (by have := lp.x; omega) (by have := lp.y; omega) (by have := lp.d; omega) (by have := lqn.x; simp only at this; omega) (by have := lqn.y; simp only at this; omega) (by have := lqn.d; simp only at this; omega)
  have k14 := fun u v w h1 h2 => rsum_any (pairR v1 v2 w1 w2 n1 n2 e).1.1 (pairR v1 v2 w1 w2 n1 n2 e).1.2.1 (pairR v1 v2 w1 w2 n1 n2 e).1.2.2 (pairR v1 v2 w1 w2 n1 n2 e).2.1 (pairR v1 v2 w1 w2 n1 n2 e).2.2.1 (pairR v1 v2 w1 w2 n1 n2 e).2.2.2 u v w h1 h2 hpq (by have := lp.x; omega) (by have := lp.y; omega) (by have := lp.d; omega) (by have := lq.x; omega) (by have := lq.y; omega) (by have := lq.d; omega)
  rw [z3] at k14
  unfold POut at k10 k13 k14
  unfold TOut at k6
  unfold POut2 at k7
  generalize statR v1 v2 w1 w2 n1 n2 e g = A at *
  generalize pairR v1 v2 w1 w2 n1 n2 e = PQ at *
  obtain ⟨⟨p1, p2, p3⟩, ⟨q1, q2, q3⟩⟩ := PQ
  obtain ⟨a1, a2, a3⟩ := A
  simp only at *
  generalize sumR (a1, a2, a3) (-w1, -w2, 1) = S at *
  generalize sumR (p1, p2, p3) (-q1, -q2, q3) = T at *
  obtain ⟨s1, s2, s3⟩ := S
  obtain ⟨t1, t2, t3⟩ := T
  simp only at *
  have k15 := fun v w h => sign15_any s1 s2 s3 n1 n2 v w h (by omega) (by omega) (by omega) (by omega)
  have k16 := fun v w h => sign15_any t1 t2 t3 n1 n2 v w h (by omega) (by omega) (by omega) (by omega)
  obtain ⟨g1, g2⟩ := sgn_nn z1
  obtain ⟨g3, g4⟩ := sgn_nn z2
  clear z1 z2 z3
  generalize sgn (s1 * n1 + s2 * n2) = G1 at *
  generalize sgn (t1 * n1 + t2 * n2) = G2 at *
  have k11 := fun v w h => neg_any 10 v q1 w h (by omega)
  have k12 := fun v w h => neg_any 10 v q2 w h (by omega)
  have lq1 := lq.x
  have lq2 := lq.y
  simp only at lq1 lq2
  have k17 := fun w => rwhole_any (v1 + w1) (v2 + w2) w (by omega) (by omega)
  have k18 := fun u v w h1 h2 => rsame_lens (r := ((v1 + w1, v2 + w2, 1))) lvw u v w h1 h2
  simp only at k18
  have K1 := Lib.hid k1
  have K2 := Lib.hid k2
  have K3 := Lib.hid k3
  have K4 := Lib.hid k4
  have K5 := Lib.hid k5
  have K6 := Lib.hid k6
  have K7 := Lib.hid k7
  have K8 := Lib.hid k8
  have K9 := Lib.hid k9
  have K10 := Lib.hid k10
  have K11 := Lib.hid k11
  have K12 := Lib.hid k12
  have K13 := Lib.hid k13
  have K14 := Lib.hid k14
  have K15 := Lib.hid k15
  have K16 := Lib.hid k16
  have K17 := Lib.hid k17
  have K18 := Lib.hid k18
  have LQ1 := Lib.hid lq1
  have LQ2 := Lib.hid lq2
  obtain ⟨bv1, bv2, bv3, bv4⟩ := bv
  obtain ⟨bw1, bw2, bw3, bw4⟩ := bw
  obtain ⟨bn1, bn2, bn3, bn4⟩ := bn
  clear k1 k2 k3 k4 k5 k6 k7 k8 k9 k10 k11 k12 k13 k14 k15 k16 k17 k18 lq1 lq2 la lp lq lw lvw lqn lu1 lu2 lu3 lx1 lx2 lx3 da dp0 dq0 dpq hpq hp he hg c1 c2 c3 ha
  -- names on
  go_enter Try.func8, Try.ntmps8; (try simp only [List.append_eq, List.cons_append, List.nil_append])
  go_wp2_with fail
  -- own blocks: w.heap.size:6
  (go_at_call 25; refine (K1.out _).mono ?_; rintro e w101 ⟨rfl, hb_w101⟩; have hz_w101 := hb_w101.size; (try simp at hz_w101); (with_reducible apply cel6 (b := w.heap.size) hb_w101); (focus ((try simp) <;> omega)); (focus omega); (focus (go_simp; try exact rfl)); (focus (go_simp; try exact rfl)); (focus (go_simp; try exact rfl)); (focus (go_simp; try exact rfl)); (focus (go_simp; try exact rfl)); (focus (go_simp; try exact rfl)); (focus (intro o; go_simp)); intro c_w101_0_0 c_w101_0_1 c_w101_0_2 c_w101_0_3 c_w101_0_4 c_w101_0_5 fz_w101_0 hl_w101_0)
  have HB101 := Lib.hid (show Below w.heap.size w w101 by ((with_reducible (repeat (first | exact bR _ _ | refine bS ?_ ?_ _ | refine bA ?_ ?_ _ | refine bD ?_ | refine bT ?_ (by assumption) ?_ | refine bO (by assumption) ?_ ?_))) <;> (first | omega | (simp; done) | (simp <;> omega))))
  have hz101 : w.heap.size + 1 ≤ w101.heap.size := by omega
  clear hb_w101
  skip
  go_wp2_with fail
  -- own blocks: w.heap.size:6
  (go_at_call 33; refine (K2.out _).mono ?_; rintro e w102 ⟨rfl, hb_w102⟩; have hz_w102 := hb_w102.size; (try simp at hz_w102); (with_reducible apply cel6 (b := w.heap.size) hb_w102); (focus ((try simp) <;> omega)); (focus omega); (focus (go_simp; try exact rfl)); (focus (go_simp; try exact rfl)); (focus (go_simp; try exact rfl)); (focus (go_simp; try exact rfl)); (focus (go_simp; try exact rfl)); (focus (go_simp; try exact rfl)); (focus (intro o; go_simp)); intro c_w102_0_0 c_w102_0_1 c_w102_0_2 c_w102_0_3 c_w102_0_4 c_w102_0_5 fz_w102_0 hl_w102_0)
  have HB102 := Lib.hid (show Below w.heap.size w w102 by have hB := HB101.out; ((with_reducible (repeat (first | exact bR _ _ | refine bS ?_ ?_ _ | refine bA ?_ ?_ _ | refine bD ?_ | refine bT ?_ (by assumption) ?_ | refine bO (by assumption) ?_ ?_))) <;> (first | omega | (simp; done) | (simp <;> omega))))
  have hz102 : w.heap.size + 1 ≤ w102.heap.size := by omega
  clear hb_w102
  clear c_w101_0_0 c_w101_0_1 c_w101_0_2 c_w101_0_3 c_w101_0_4 c_w101_0_5 fz_w101_0 hl_w101_0
  go_wp2_with fail
  -- own blocks: w.heap.size:6
  (go_at_call 34; refine (K3.out _).mono ?_; rintro e w103 ⟨rfl, hb_w103⟩; have hz_w103 := hb_w103.size; (try simp at hz_w103); (with_reducible apply cel6 (b := w.heap.size) hb_w103); (focus ((try simp) <;> omega)); (focus omega); (focus (go_simp; try exact rfl)); (focus (go_simp; try exact rfl)); (focus (go_simp; try exact rfl)); (focus (go_simp; try exact rfl)); (focus (go_simp; try exact rfl)); (focus (go_simp; try exact rfl)); (focus (intro o; go_simp)); intro c_w103_0_0 c_w103_0_1 c_w103_0_2 c_w103_0_3 c_w103_0_4 c_w103_0_5 fz_w103_0 hl_w103_0)
  have HB103 := Lib.hid (show Below w.heap.size w w103 by have hB := HB102.out; ((with_reducible (repeat (first | exact bR _ _ | refine bS ?_ ?_ _ | refine bA ?_ ?_ _ | refine bD ?_ | refine bT ?_ (by assumption) ?_ | refine bO (by assumption) ?_ ?_))) <;> (first | omega | (simp; done) | (simp <;> omega))))
  have hz103 : w.heap.size + 1 ≤ w103.heap.size := by omega
  clear hb_w103
  clear c_w102_0_0 c_w102_0_1 c_w102_0_2 c_w102_0_3 c_w102_0_4 c_w102_0_5 fz_w102_0 hl_w102_0
  go_wp2_with fail
  -- own blocks: w.heap.size:6
  (go_at_call 35; refine (K4.out _).mono ?_; rintro e w104 ⟨rfl, hb_w104⟩; have hz_w104 := hb_w104.size; (try simp at hz_w104); (with_reducible apply cel6 (b := w.heap.size) hb_w104); (focus ((try simp) <;> omega)); (focus omega); (focus (go_simp; try exact rfl)); (focus (go_simp; try exact rfl)); (focus (go_simp; try exact rfl)); (focus (go_simp; try exact rfl)); (focus (go_simp; try exact rfl)); (focus (go_simp; try exact rfl)); (focus (intro o; go_simp)); intro c_w104_0_0 c_w104_0_1 c_w104_0_2 c_w104_0_3 c_w104_0_4 c_w104_0_5 fz_w104_0 hl_w104_0)
  have HB104 := Lib.hid (show Below w.heap.size w w104 by have hB := HB103.out; ((with_reducible (repeat (first | exact bR _ _ | refine bS ?_ ?_ _ | refine bA ?_ ?_ _ | refine bD ?_ | refine bT ?_ (by assumption) ?_ | refine bO (by assumption) ?_ ?_))) <;> (first | omega | (simp; done) | (simp <;> omega))))
  have hz104 : w.heap.size + 1 ≤ w104.heap.size := by omega
  clear hb_w104
  clear c_w103_0_0 c_w103_0_1 c_w103_0_2 c_w103_0_3 c_w103_0_4 c_w103_0_5 fz_w103_0 hl_w103_0
  go_wp2_with fail
  -- own blocks: w.heap.size:6
  (go_at_call 35; refine (K5.out _).mono ?_; rintro e w105 ⟨rfl, hb_w105⟩; have hz_w105 := hb_w105.size; (try simp at hz_w105); (with_reducible apply cel6 (b := w.heap.size) hb_w105); (focus ((try simp) <;> omega)); (focus omega); (focus (go_simp; try exact rfl)); (focus (go_simp; try exact rfl)); (focus (go_simp; try exact rfl)); (focus (go_simp; try exact rfl)); (focus (go_simp; try exact rfl)); (focus (go_simp; try exact rfl)); (focus (intro o; go_simp)); intro c_w105_0_0 c_w105_0_1 c_w105_0_2 c_w105_0_3 c_w105_0_4 c_w105_0_5 fz_w105_0 hl_w105_0)
  have HB105 := Lib.hid (show Below w.heap.size w w105 by have hB := HB104.out; ((with_reducible (repeat (first | exact bR _ _ | refine bS ?_ ?_ _ | refine bA ?_ ?_ _ | refine bD ?_ | refine bT ?_ (by assumption) ?_ | refine bO (by assumption) ?_ ?_))) <;> (first | omega | (simp; done) | (simp <;> omega))))
  have hz105 : w.heap.size + 1 ≤ w105.heap.size := by omega
  clear hb_w105
  clear c_w104_0_0 c_w104_0_1 c_w104_0_2 c_w104_0_3 c_w104_0_4 c_w104_0_5 fz_w104_0 hl_w104_0
  go_wp2_with fail
  -- own blocks: w.heap.size:6
  (go_at_call 31; refine (K6.out _).mono ?_; rintro e w106 ⟨hb_w106, v106, rfl, hv106⟩; have hz_w106 := hb_w106.size; (try simp at hz_w106); (with_reducible apply cel6 (b := w.heap.size) hb_w106); (focus ((try simp) <;> omega)); (focus omega); (focus (go_simp; try exact rfl)); (focus (go_simp; try exact rfl)); (focus (go_simp; try exact rfl)); (focus (go_simp; try exact rfl)); (focus (go_simp; try exact rfl)); (focus (go_simp; try exact rfl)); (focus (intro o; go_simp)); intro c_w106_0_0 c_w106_0_1 c_w106_0_2 c_w106_0_3 c_w106_0_4 c_w106_0_5 fz_w106_0 hl_w106_0)
  obtain ⟨s106x, A106x, n106x, c106x, s106y, A106y, n106y, c106y, s106d, A106d, n106d, c106d, rfl⟩ := RAt.val hv106
  have HB106 := Lib.hid (show Below w.heap.size w w106 by have hB := HB105.out; ((with_reducible (repeat (first | exact bR _ _ | refine bS ?_ ?_ _ | refine bA ?_ ?_ _ | refine bD ?_ | refine bT ?_ (by assumption) ?_ | refine bO (by assumption) ?_ ?_))) <;> (first | omega | (simp; done) | (simp <;> omega))))
  have hz106 : w.heap.size + 1 ≤ w106.heap.size := by omega
  clear hb_w106
  clear c_w105_0_0 c_w105_0_1 c_w105_0_2 c_w105_0_3 c_w105_0_4 c_w105_0_5 fz_w105_0 hl_w105_0
  have H106 := Lib.hid (show RAt w106 (.agg #[.bool s106x, .slice A106x n106x c106x, .bool s106y, .slice A106y n106y c106y, .bool s106d, .slice A106d n106d c106d]) (a1) (a2) (a3) from hv106)
  clear hv106
  go_wp2_with fail
  -- own blocks: w.heap.size:6, w106.heap.size:6
  (go_at_call 40; refine (K7.out _).mono ?_; rintro e w107 ⟨hb_w107, u107, v107, rfl, hu107, hv107⟩; have hz_w107 := hb_w107.size; (try simp at hz_w107); (with_reducible apply cel6 (b := w.heap.size) hb_w107); (focus ((try simp) <;> omega)); (focus omega); (focus (go_simp; try exact rfl)); (focus (go_simp; try exact rfl)); (focus (go_simp; try exact rfl)); (focus (go_simp; try exact rfl)); (focus (go_simp; try exact rfl)); (focus (go_simp; try exact rfl)); (focus (intro o; go_simp)); intro c_w107_0_0 c_w107_0_1 c_w107_0_2 c_w107_0_3 c_w107_0_4 c_w107_0_5 fz_w107_0 hl_w107_0; (with_reducible apply cel6 (b := w106.heap.size) hb_w107); (focus ((try simp) <;> omega)); (focus omega); (focus (go_simp; try exact rfl)); (focus (go_simp; try exact rfl)); (focus (go_simp; try exact rfl)); (focus (go_simp; try exact rfl)); (focus (go_simp; try exact rfl)); (focus (go_simp; try exact rfl)); (focus (intro o; go_simp)); intro c_w107_1_0 c_w107_1_1 c_w107_1_2 c_w107_1_3 c_w107_1_4 c_w107_1_5 fz_w107_1 hl_w107_1)
  obtain ⟨s107ux, A107ux, n107ux, c107ux, s107uy, A107uy, n107uy, c107uy, s107ud, A107ud, n107ud, c107ud, rfl⟩ := RAt.val hu107
  obtain ⟨s107x, A107x, n107x, c107x, s107y, A107y, n107y, c107y, s107d, A107d, n107d, c107d, rfl⟩ := RAt.val hv107
  replace H106 := Lib.hid (RAt.below (v := .agg #[.bool s106x, .slice A106x n106x c106x, .bool s106y, .slice A106y n106y c106y, .bool s106d, .slice A106d n106d c106d]) (x := a1) (y := a2) (d := a3) (by ((repeat (first | (with_reducible exact H106.out) | (with_reducible refine RAt.al ?_ _) | (with_reducible apply RAt.st1))) <;> (first | (with_reducible assumption) | (intro _ e; cases e; done) | (go_simp; first | done | exact rfl)))) hb_w107)
  have HB107 := Lib.hid (show Below w.heap.size w w107 by have hB := HB106.out; ((with_reducible (repeat (first | exact bR _ _ | refine bS ?_ ?_ _ | refine bA ?_ ?_ _ | refine bD ?_ | refine bT ?_ (by assumption) ?_ | refine bO (by assumption) ?_ ?_))) <;> (first | omega | (simp; done) | (simp <;> omega))))
  have hz107 : w.heap.size + 1 ≤ w107.heap.size := by omega
  clear hb_w107
  clear c_w106_0_0 c_w106_0_1 c_w106_0_2 c_w106_0_3 c_w106_0_4 c_w106_0_5 fz_w106_0 hl_w106_0
  have H107u := Lib.hid (show RAt w107 (.agg #[.bool s107ux, .slice A107ux n107ux c107ux, .bool s107uy, .slice A107uy n107uy c107uy, .bool s107ud, .slice A107ud n107ud c107ud]) (p1) (p2) (p3) from hu107)
  clear hu107
  have H107 := Lib.hid (show RAt w107 (.agg #[.bool s107x, .slice A107x n107x c107x, .bool s107y, .slice A107y n107y c107y, .bool s107d, .slice A107d n107d c107d]) (q1) (q2) (q3) from hv107)
  clear hv107
  go_wp2_with fail
  -- own blocks: w.heap.size:6, w106.heap.size:6, w107.heap.size:6, w107.heap.size + 1:6
  (go_at_call 26; refine (K8.out _).mono ?_; rintro e w108 ⟨rfl, hb_w108⟩; have hz_w108 := hb_w108.size; (try simp at hz_w108); (with_reducible apply cel6 (b := w.heap.size) hb_w108); (focus ((try simp) <;> omega)); (focus omega); (focus (go_simp; try exact rfl)); (focus (go_simp; try exact rfl)); (focus (go_simp; try exact rfl)); (focus (go_simp; try exact rfl)); (focus (go_simp; try exact rfl)); (focus (go_simp; try exact rfl)); (focus (intro o; go_simp)); intro c_w108_0_0 c_w108_0_1 c_w108_0_2 c_w108_0_3 c_w108_0_4 c_w108_0_5 fz_w108_0 hl_w108_0; (with_reducible apply cel6 (b := w106.heap.size) hb_w108); (focus ((try simp) <;> omega)); (focus omega); (focus (go_simp; try exact rfl)); (focus (go_simp; try exact rfl)); (focus (go_simp; try exact rfl)); (focus (go_simp; try exact rfl)); (focus (go_simp; try exact rfl)); (focus (go_simp; try exact rfl)); (focus (intro o; go_simp)); intro c_w108_1_0 c_w108_1_1 c_w108_1_2 c_w108_1_3 c_w108_1_4 c_w108_1_5 fz_w108_1 hl_w108_1; (with_reducible apply cel6 (b := w107.heap.size) hb_w108); (focus ((try simp) <;> omega)); (focus omega); (focus (go_simp; try exact rfl)); (focus (go_simp; try exact rfl)); (focus (go_simp; try exact rfl)); (focus (go_simp; try exact rfl)); (focus (go_simp; try exact rfl)); (focus (go_simp; try exact rfl)); (focus (intro o; go_simp)); intro c_w108_2_0 c_w108_2_1 c_w108_2_2 c_w108_2_3 c_w108_2_4 c_w108_2_5 fz_w108_2 hl_w108_2; (with_reducible apply cel6 (b := w107.heap.size + 1) hb_w108); (focus ((try simp) <;> omega)); (focus omega); (focus (go_simp; try exact rfl)); (focus (go_simp; try exact rfl)); (focus (go_simp; try exact rfl)); (focus (go_simp; try exact rfl)); (focus (go_simp; try exact rfl)); (focus (go_simp; try exact rfl)); (focus (intro o; go_simp)); intro c_w108_3_0 c_w108_3_1 c_w108_3_2 c_w108_3_3 c_w108_3_4 c_w108_3_5 fz_w108_3 hl_w108_3)
  replace H106 := Lib.hid (RAt.below (v := .agg #[.bool s106x, .slice A106x n106x c106x, .bool s106y, .slice A106y n106y c106y, .bool s106d, .slice A106d n106d c106d]) (x := a1) (y := a2) (d := a3) (by ((repeat (first | (with_reducible exact H106.out) | (with_reducible refine RAt.al ?_ _) | (with_reducible apply RAt.st1))) <;> (first | (with_reducible assumption) | (intro _ e; cases e; done) | (go_simp; first | done | exact rfl)))) hb_w108)
  replace H107u := Lib.hid (RAt.below (v := .agg #[.bool s107ux, .slice A107ux n107ux c107ux, .bool s107uy, .slice A107uy n107uy c107uy, .bool s107ud, .slice A107ud n107ud c107ud]) (x := p1) (y := p2) (d := p3) (by ((repeat (first | (with_reducible exact H107u.out) | (with_reducible refine RAt.al ?_ _) | (with_reducible apply RAt.st1))) <;> (first | (with_reducible assumption) | (intro _ e; cases e; done) | (go_simp; first | done | exact rfl)))) hb_w108)
  replace H107 := Lib.hid (RAt.below (v := .agg #[.bool s107x, .slice A107x n107x c107x, .bool s107y, .slice A107y n107y c107y, .bool s107d, .slice A107d n107d c107d]) (x := q1) (y := q2) (d := q3) (by ((repeat (first | (with_reducible exact H107.out) | (with_reducible refine RAt.al ?_ _) | (with_reducible apply RAt.st1))) <;> (first | (with_reducible assumption) | (intro _ e; cases e; done) | (go_simp; first | done | exact rfl)))) hb_w108)
  have HB108 := Lib.hid (show Below w.heap.size w w108 by have hB := HB107.out; ((with_reducible (repeat (first | exact bR _ _ | refine bS ?_ ?_ _ | refine bA ?_ ?_ _ | refine bD ?_ | refine bT ?_ (by assumption) ?_ | refine bO (by assumption) ?_ ?_))) <;> (first | omega | (simp; done) | (simp <;> omega))))
  have hz108 : w.heap.size + 1 ≤ w108.heap.size := by omega
  clear hb_w108
  clear c_w107_0_0 c_w107_0_1 c_w107_0_2 c_w107_0_3 c_w107_0_4 c_w107_0_5 fz_w107_0 hl_w107_0 c_w107_1_0 c_w107_1_1 c_w107_1_2 c_w107_1_3 c_w107_1_4 c_w107_1_5 fz_w107_1 hl_w107_1
  go_wp2_with fail
  -- own blocks: w.heap.size:6, w106.heap.size:6, w107.heap.size:6, w107.heap.size + 1:6
  (refine pin_wp (N := _) (Nat.le_refl _) (fun w109 hb_w109 hz_w109 => ?_); (try simp at hz_w109); (with_reducible apply cel6 (b := w.heap.size) hb_w109); (focus ((try simp) <;> omega)); (focus omega); (focus (go_simp; try exact rfl)); (focus (go_simp; try exact rfl)); (focus (go_simp; try exact rfl)); (focus (go_simp; try exact rfl)); (focus (go_simp; try exact rfl)); (focus (go_simp; try exact rfl)); (focus (intro o; go_simp)); intro c_w109_0_0 c_w109_0_1 c_w109_0_2 c_w109_0_3 c_w109_0_4 c_w109_0_5 fz_w109_0 hl_w109_0; (with_reducible apply cel6 (b := w106.heap.size) hb_w109); (focus ((try simp) <;> omega)); (focus omega); (focus (go_simp; try exact rfl)); (focus (go_simp; try exact rfl)); (focus (go_simp; try exact rfl)); (focus (go_simp; try exact rfl)); (focus (go_simp; try exact rfl)); (focus (go_simp; try exact rfl)); (focus (intro o; go_simp)); intro c_w109_1_0 c_w109_1_1 c_w109_1_2 c_w109_1_3 c_w109_1_4 c_w109_1_5 fz_w109_1 hl_w109_1; (with_reducible apply cel6 (b := w107.heap.size) hb_w109); (focus ((try simp) <;> omega)); (focus omega); (focus (go_simp; try exact rfl)); (focus (go_simp; try exact rfl)); (focus (go_simp; try exact rfl)); (focus (go_simp; try exact rfl)); (focus (go_simp; try exact rfl)); (focus (go_simp; try exact rfl)); (focus (intro o; go_simp)); intro c_w109_2_0 c_w109_2_1 c_w109_2_2 c_w109_2_3 c_w109_2_4 c_w109_2_5 fz_w109_2 hl_w109_2; (with_reducible apply cel6 (b := w107.heap.size + 1) hb_w109); (focus ((try simp) <;> omega)); (focus omega); (focus (go_simp; try exact rfl)); (focus (go_simp; try exact rfl)); (focus (go_simp; try exact rfl)); (focus (go_simp; try exact rfl)); (focus (go_simp; try exact rfl)); (focus (go_simp; try exact rfl)); (focus (intro o; go_simp)); intro c_w109_3_0 c_w109_3_1 c_w109_3_2 c_w109_3_3 c_w109_3_4 c_w109_3_5 fz_w109_3 hl_w109_3); refine wp_q (fun Q_ HQ_ => ?_); refine wp_region_floatQ w109.heap.size 13 [13] (Nat.le_refl _) (fun _ => True) trivial Cl.tt (by kernel_rfl) (by kernel_rfl) ?_
  replace H106 := Lib.hid (RAt.below (v := .agg #[.bool s106x, .slice A106x n106x c106x, .bool s106y, .slice A106y n106y c106y, .bool s106d, .slice A106d n106d c106d]) (x := a1) (y := a2) (d := a3) (by ((repeat (first | (with_reducible exact H106.out) | (with_reducible refine RAt.al ?_ _) | (with_reducible apply RAt.st1))) <;> (first | (with_reducible assumption) | (intro _ e; cases e; done) | (go_simp; first | done | exact rfl)))) hb_w109)
  replace H107u := Lib.hid (RAt.below (v := .agg #[.bool s107ux, .slice A107ux n107ux c107ux, .bool s107uy, .slice A107uy n107uy c107uy, .bool s107ud, .slice A107ud n107ud c107ud]) (x := p1) (y := p2) (d := p3) (by ((repeat (first | (with_reducible exact H107u.out) | (with_reducible refine RAt.al ?_ _) | (with_reducible apply RAt.st1))) <;> (first | (with_reducible assumption) | (intro _ e; cases e; done) | (go_simp; first | done | exact rfl)))) hb_w109)
  replace H107 := Lib.hid (RAt.below (v := .agg #[.bool s107x, .slice A107x n107x c107x, .bool s107y, .slice A107y n107y c107y, .bool s107d, .slice A107d n107d c107d]) (x := q1) (y := q2) (d := q3) (by ((repeat (first | (with_reducible exact H107.out) | (with_reducible refine RAt.al ?_ _) | (with_reducible apply RAt.st1))) <;> (first | (with_reducible assumption) | (intro _ e; cases e; done) | (go_simp; first | done | exact rfl)))) hb_w109)
  have HB109 := Lib.hid (show Below w.heap.size w w109 by have hB := HB108.out; ((with_reducible (repeat (first | exact bR _ _ | refine bS ?_ ?_ _ | refine bA ?_ ?_ _ | refine bD ?_ | refine bT ?_ (by assumption) ?_ | refine bO (by assumption) ?_ ?_))) <;> (first | omega | (simp; done) | (simp <;> omega))))
  have hz109 : w.heap.size + 1 ≤ w109.heap.size := by omega
  clear hb_w109
  clear c_w108_0_0 c_w108_0_1 c_w108_0_2 c_w108_0_3 c_w108_0_4 c_w108_0_5 fz_w108_0 hl_w108_0 c_w108_1_0 c_w108_1_1 c_w108_1_2 c_w108_1_3 c_w108_1_4 c_w108_1_5 fz_w108_1 hl_w108_1 c_w108_2_0 c_w108_2_1 c_w108_2_2 c_w108_2_3 c_w108_2_4 c_w108_2_5 fz_w108_2 hl_w108_2 c_w108_3_0 c_w108_3_1 c_w108_3_2 c_w108_3_3 c_w108_3_4 c_w108_3_5 fz_w108_3 hl_w108_3
  refine wpQI_start [0, 1, 2, 3, 4, 5, 6, 7, 8, 9] ?_; (iterate 10 (first | (refine wpQI_off (by with_reducible (refine List.getElem?_toArray.trans ?_; (repeat (first | exact List.getElem?_cons_zero | refine List.getElem?_cons_succ.trans ?_)))) (by kernel_rfl) (by exact rfl) (fun K hK => ?_); go_simp; refine hK _ ?_; clear hK K) | ((first | apply wpQI_step (by with_reducible (refine List.getElem?_toArray.trans ?_; (repeat (first | exact List.getElem?_cons_zero | refine List.getElem?_cons_succ.trans ?_)))) (by kernel_rfl) (by exact rfl) | apply wpQI_on (by with_reducible (refine List.getElem?_toArray.trans ?_; (repeat (first | exact List.getElem?_cons_zero | refine List.getElem?_cons_succ.trans ?_)))) (by kernel_rfl) (by exact rfl)); (focus (intro W' hS; have hcS := hS.cells.1; have hfS := hS.cells.2; go_simp; (first | done | exact rfl | exact ⟨rfl, Below.refl _ _⟩ | (go_simp; first | done | exact rfl | exact ⟨rfl, Below.refl _ _⟩)))); intro K hK; go_simp; (try go_bits); refine hK _ ?_; clear hK K))); refine wpQI_nil ?_
  apply wpQ_call (i := 10) (by with_reducible (refine List.getElem?_toArray.trans ?_; (repeat (first | exact List.getElem?_cons_zero | refine List.getElem?_cons_succ.trans ?_)))) (by kernel_rfl) (by exact rfl); intro W hF hS; have hcS := hS.1.cells.1; have hfS := hS.1.cells.2; go_simp; (go_at_call 39; refine (K9.out _).mono ?_; rintro e w110 ⟨hb_w110, v110, rfl, hv110⟩; refine XPost.mk _ (fun W => RAt W v110 ((-w1)) ((-w2)) (1)) hb_w110 (hv110) (RAt.cl _ _ _ _) ?_); clear hb_w110 hcS hfS hS hF
  intro K hK; go_simp; (try go_bits); refine hK _ ?_; clear hK K
  obtain ⟨s110x, A110x, n110x, c110x, s110y, A110y, n110y, c110y, s110d, A110d, n110d, c110d, rfl⟩ := RAt.val hv110
  clear hv110
  apply wpQ_call (i := 11) (by with_reducible (refine List.getElem?_toArray.trans ?_; (repeat (first | exact List.getElem?_cons_zero | refine List.getElem?_cons_succ.trans ?_)))) (by kernel_rfl) (by exact rfl); intro W hF hS; have hcS := hS.1.cells.1; have hfS := hS.1.cells.2; go_simp; (go_at_call 38; refine (K10.out _ _ _ ((H106.out.below hS.1.2)) (hF)).mono ?_; rintro e w111 ⟨hb_w111, v111, rfl, hv111⟩; refine XPost.mk _ (fun W => RAt W v111 (s1) (s2) (s3)) hb_w111 (hv111) (RAt.cl _ _ _ _) ?_); clear hb_w111 hcS hfS hS hF
  intro K hK; go_simp; (try go_bits); refine hK _ ?_; clear hK K
  obtain ⟨s111x, A111x, n111x, c111x, s111y, A111y, n111y, c111y, s111d, A111d, n111d, c111d, rfl⟩ := RAt.val hv111
  clear hv111
  apply wpQ_fresh (i := 12) LInv.std (by with_reducible (refine List.getElem?_toArray.trans ?_; (repeat (first | exact List.getElem?_cons_zero | refine List.getElem?_cons_succ.trans ?_)))) (by kernel_rfl) (fun g => Value.pointer (some ⟨g, 0, none⟩)) (by exact rfl); (focus (intro W; go_simp; first | done | exact rfl | exact ⟨rfl, rfl⟩))
  intro g_r10_12 hN_r10_12 hG_r10_12 K hK
  go_simp; refine hK _ ?_; clear hK K
  have hne : w.heap.size ≠ g_r10_12 := by have := hN_r10_12; omega
  have hne := Ne.symm hne
  have hne : w106.heap.size ≠ g_r10_12 := by have := hN_r10_12; omega
  have hne := Ne.symm hne
  have hne : w107.heap.size ≠ g_r10_12 := by have := hN_r10_12; omega
  have hne := Ne.symm hne
  have hne : w107.heap.size + 1 ≠ g_r10_12 := by have := hN_r10_12; omega
  have hne := Ne.symm hne
  refine wpQ_done (by kernel_rfl) ?_
  intro w112 hF_w112 hSG
  have hz_w112 := hSG.1.1
  have hb_w112 := hSG.1.2
  have hB_r10_12 := (hSG.2 _ (List.mem_cons_self ..)).2; simp only at hB_r10_12; have hl_r10_12 := (hSG.size (List.mem_cons_self ..)); simp only at hl_r10_12
  have c_w112_r10_12_0 := cell_of_row w112 g_r10_12 0 _ _ _ hB_r10_12; simp only [List.getElem?_toArray, List.getElem?_cons_zero] at c_w112_r10_12_0
  have c_w112_r10_12_1 := cell_of_row w112 g_r10_12 1 _ _ _ hB_r10_12; simp only [List.getElem?_toArray, List.getElem?_cons_zero, List.getElem?_cons_succ] at c_w112_r10_12_1
  have c_w112_r10_12_2 := cell_of_row w112 g_r10_12 2 _ _ _ hB_r10_12; simp only [List.getElem?_toArray, List.getElem?_cons_zero, List.getElem?_cons_succ] at c_w112_r10_12_2
  have c_w112_r10_12_3 := cell_of_row w112 g_r10_12 3 _ _ _ hB_r10_12; simp only [List.getElem?_toArray, List.getElem?_cons_zero, List.getElem?_cons_succ] at c_w112_r10_12_3
  have c_w112_r10_12_4 := cell_of_row w112 g_r10_12 4 _ _ _ hB_r10_12; simp only [List.getElem?_toArray, List.getElem?_cons_zero, List.getElem?_cons_succ] at c_w112_r10_12_4
  have c_w112_r10_12_5 := cell_of_row w112 g_r10_12 5 _ _ _ hB_r10_12; simp only [List.getElem?_toArray, List.getElem?_cons_zero, List.getElem?_cons_succ] at c_w112_r10_12_5
  have fz_w112_r10_12 : (∀ o, w112.frozen? ⟨g_r10_12, o, none⟩ = false) := (fun o => frozen_of_row w112 g_r10_12 o _ _ hB_r10_12); have HH_r10_12 := Lib.hid hB_r10_12; clear hB_r10_12
  clear hSG
  (with_reducible apply cel6 (b := w.heap.size) hb_w112); (focus ((try simp) <;> omega)); (focus omega); (focus (go_simp; try exact rfl)); (focus (go_simp; try exact rfl)); (focus (go_simp; try exact rfl)); (focus (go_simp; try exact rfl)); (focus (go_simp; try exact rfl)); (focus (go_simp; try exact rfl)); (focus (intro o; go_simp)); intro c_w112_0_0 c_w112_0_1 c_w112_0_2 c_w112_0_3 c_w112_0_4 c_w112_0_5 fz_w112_0 hl_w112_0; (with_reducible apply cel6 (b := w106.heap.size) hb_w112); (focus ((try simp) <;> omega)); (focus omega); (focus (go_simp; try exact rfl)); (focus (go_simp; try exact rfl)); (focus (go_simp; try exact rfl)); (focus (go_simp; try exact rfl)); (focus (go_simp; try exact rfl)); (focus (go_simp; try exact rfl)); (focus (intro o; go_simp)); intro c_w112_1_0 c_w112_1_1 c_w112_1_2 c_w112_1_3 c_w112_1_4 c_w112_1_5 fz_w112_1 hl_w112_1; (with_reducible apply cel6 (b := w107.heap.size) hb_w112); (focus ((try simp) <;> omega)); (focus omega); (focus (go_simp; try exact rfl)); (focus (go_simp; try exact rfl)); (focus (go_simp; try exact rfl)); (focus (go_simp; try exact rfl)); (focus (go_simp; try exact rfl)); (focus (go_simp; try exact rfl)); (focus (intro o; go_simp)); intro c_w112_2_0 c_w112_2_1 c_w112_2_2 c_w112_2_3 c_w112_2_4 c_w112_2_5 fz_w112_2 hl_w112_2; (with_reducible apply cel6 (b := w107.heap.size + 1) hb_w112); (focus ((try simp) <;> omega)); (focus omega); (focus (go_simp; try exact rfl)); (focus (go_simp; try exact rfl)); (focus (go_simp; try exact rfl)); (focus (go_simp; try exact rfl)); (focus (go_simp; try exact rfl)); (focus (go_simp; try exact rfl)); (focus (intro o; go_simp)); intro c_w112_3_0 c_w112_3_1 c_w112_3_2 c_w112_3_3 c_w112_3_4 c_w112_3_5 fz_w112_3 hl_w112_3
  (try simp only [List.filterMap_cons, List.filterMap_nil, List.getElem?_cons_succ, List.getElem?_cons_zero])
  clear H106
  replace H107u := Lib.hid (H107u.out.below hb_w112)
  replace H107 := Lib.hid (H107.out.below hb_w112)
  have H110 := Lib.hid (show RAt w112 (.agg #[.bool s110x, .slice A110x n110x c110x, .bool s110y, .slice A110y n110y c110y, .bool s110d, .slice A110d n110d c110d]) ((-w1)) ((-w2)) (1) from hF_w112.1)
  have H111 := Lib.hid (show RAt w112 (.agg #[.bool s111x, .slice A111x n111x c111x, .bool s111y, .slice A111y n111y c111y, .bool s111d, .slice A111d n111d c111d]) (s1) (s2) (s3) from hF_w112.2)
  have HB112 := Lib.hid (HB109.out.trans (hb_w112.mono (by have := HB109.out.size; omega)))
  have hz112 : w.heap.size + 1 ≤ w112.heap.size := by omega
  have hn_r10_12 : w.heap.size + 1 ≤ g_r10_12 := by have := hN_r10_12; omega
  clear hF_w112 hb_w112 HH_r10_12 hG_r10_12 hN_r10_12
  clear c_w109_0_0 c_w109_0_1 c_w109_0_2 c_w109_0_3 c_w109_0_4 c_w109_0_5 fz_w109_0 hl_w109_0 c_w109_1_0 c_w109_1_1 c_w109_1_2 c_w109_1_3 c_w109_1_4 c_w109_1_5 fz_w109_1 hl_w109_1 c_w109_2_0 c_w109_2_1 c_w109_2_2 c_w109_2_3 c_w109_2_4 c_w109_2_5 fz_w109_2 hl_w109_2 c_w109_3_0 c_w109_3_1 c_w109_3_2 c_w109_3_3 c_w109_3_4 c_w109_3_5 fz_w109_3 hl_w109_3
  go_wp2_with fail
  refine HQ_.out _ _ _ ?_
  clear HQ_ Q_
  go_wp2_with fail
  -- own blocks: w.heap.size:6, w107.heap.size:6, w107.heap.size + 1:6, g_r10_12:6
  (refine pin_wp (N := _) (Nat.le_refl _) (fun w113 hb_w113 hz_w113 => ?_); (try simp at hz_w113); (with_reducible apply cel6 (b := w.heap.size) hb_w113); (focus ((try simp) <;> omega)); (focus omega); (focus (go_simp; try exact rfl)); (focus (go_simp; try exact rfl)); (focus (go_simp; try exact rfl)); (focus (go_simp; try exact rfl)); (focus (go_simp; try exact rfl)); (focus (go_simp; try exact rfl)); (focus (intro o; go_simp)); intro c_w113_0_0 c_w113_0_1 c_w113_0_2 c_w113_0_3 c_w113_0_4 c_w113_0_5 fz_w113_0 hl_w113_0; (with_reducible apply cel6 (b := w107.heap.size) hb_w113); (focus ((try simp) <;> omega)); (focus omega); (focus (go_simp; try exact rfl)); (focus (go_simp; try exact rfl)); (focus (go_simp; try exact rfl)); (focus (go_simp; try exact rfl)); (focus (go_simp; try exact rfl)); (focus (go_simp; try exact rfl)); (focus (intro o; go_simp)); intro c_w113_1_0 c_w113_1_1 c_w113_1_2 c_w113_1_3 c_w113_1_4 c_w113_1_5 fz_w113_1 hl_w113_1; (with_reducible apply cel6 (b := w107.heap.size + 1) hb_w113); (focus ((try simp) <;> omega)); (focus omega); (focus (go_simp; try exact rfl)); (focus (go_simp; try exact rfl)); (focus (go_simp; try exact rfl)); (focus (go_simp; try exact rfl)); (focus (go_simp; try exact rfl)); (focus (go_simp; try exact rfl)); (focus (intro o; go_simp)); intro c_w113_2_0 c_w113_2_1 c_w113_2_2 c_w113_2_3 c_w113_2_4 c_w113_2_5 fz_w113_2 hl_w113_2; (with_reducible apply cel6 (b := g_r10_12) hb_w113); (focus ((try simp) <;> omega)); (focus omega); (focus (go_simp; try exact rfl)); (focus (go_simp; try exact rfl)); (focus (go_simp; try exact rfl)); (focus (go_simp; try exact rfl)); (focus (go_simp; try exact rfl)); (focus (go_simp; try exact rfl)); (focus (intro o; go_simp)); intro c_w113_3_0 c_w113_3_1 c_w113_3_2 c_w113_3_3 c_w113_3_4 c_w113_3_5 fz_w113_3 hl_w113_3); refine wp_q (fun Q_ HQ_ => ?_); refine wp_region_floatQ w113.heap.size 12 [12] (Nat.le_refl _) (fun _ => True) trivial Cl.tt (by kernel_rfl) (by kernel_rfl) ?_
  clear H110
  replace H107u := Lib.hid (RAt.below (v := .agg #[.bool s107ux, .slice A107ux n107ux c107ux, .bool s107uy, .slice A107uy n107uy c107uy, .bool s107ud, .slice A107ud n107ud c107ud]) (x := p1) (y := p2) (d := p3) (by ((repeat (first | (with_reducible exact H107u.out) | (with_reducible refine RAt.al ?_ _) | (with_reducible apply RAt.st1))) <;> (first | (with_reducible assumption) | (intro _ e; cases e; done) | (go_simp; first | done | exact rfl)))) hb_w113)
  replace H107 := Lib.hid (RAt.below (v := .agg #[.bool s107x, .slice A107x n107x c107x, .bool s107y, .slice A107y n107y c107y, .bool s107d, .slice A107d n107d c107d]) (x := q1) (y := q2) (d := q3) (by ((repeat (first | (with_reducible exact H107.out) | (with_reducible refine RAt.al ?_ _) | (with_reducible apply RAt.st1))) <;> (first | (with_reducible assumption) | (intro _ e; cases e; done) | (go_simp; first | done | exact rfl)))) hb_w113)
  replace H111 := Lib.hid (RAt.below (v := .agg #[.bool s111x, .slice A111x n111x c111x, .bool s111y, .slice A111y n111y c111y, .bool s111d, .slice A111d n111d c111d]) (x := s1) (y := s2) (d := s3) (by ((repeat (first | (with_reducible exact H111.out) | (with_reducible refine RAt.al ?_ _) | (with_reducible apply RAt.st1))) <;> (first | (with_reducible assumption) | (intro _ e; cases e; done) | (go_simp; first | done | exact rfl)))) hb_w113)
  have HB113 := Lib.hid (show Below w.heap.size w w113 by have hB := HB112.out; ((with_reducible (repeat (first | exact bR _ _ | refine bS ?_ ?_ _ | refine bA ?_ ?_ _ | refine bD ?_ | refine bT ?_ (by assumption) ?_ | refine bO (by assumption) ?_ ?_))) <;> (first | omega | (simp; done) | (simp <;> omega))))
  have hz113 : w.heap.size + 1 ≤ w113.heap.size := by omega
  clear hb_w113
  clear c_w112_r10_12_0 c_w112_r10_12_1 c_w112_r10_12_2 c_w112_r10_12_3 c_w112_r10_12_4 c_w112_r10_12_5 fz_w112_r10_12 c_w112_0_0 c_w112_0_1 c_w112_0_2 c_w112_0_3 c_w112_0_4 c_w112_0_5 fz_w112_0 hl_w112_0 c_w112_1_0 c_w112_1_1 c_w112_1_2 c_w112_1_3 c_w112_1_4 c_w112_1_5 fz_w112_1 hl_w112_1 c_w112_2_0 c_w112_2_1 c_w112_2_2 c_w112_2_3 c_w112_2_4 c_w112_2_5 fz_w112_2 hl_w112_2 c_w112_3_0 c_w112_3_1 c_w112_3_2 c_w112_3_3 c_w112_3_4 c_w112_3_5 fz_w112_3 hl_w112_3
  refine wpQI_start [0, 1, 2] ?_; (iterate 3 (first | (refine wpQI_off (by with_reducible (refine List.getElem?_toArray.trans ?_; (repeat (first | exact List.getElem?_cons_zero | refine List.getElem?_cons_succ.trans ?_)))) (by kernel_rfl) (by exact rfl) (fun K hK => ?_); go_simp; refine hK _ ?_; clear hK K) | ((first | apply wpQI_step (by with_reducible (refine List.getElem?_toArray.trans ?_; (repeat (first | exact List.getElem?_cons_zero | refine List.getElem?_cons_succ.trans ?_)))) (by kernel_rfl) (by exact rfl) | apply wpQI_on (by with_reducible (refine List.getElem?_toArray.trans ?_; (repeat (first | exact List.getElem?_cons_zero | refine List.getElem?_cons_succ.trans ?_)))) (by kernel_rfl) (by exact rfl)); (focus (intro W' hS; have hcS := hS.cells.1; have hfS := hS.cells.2; go_simp; (first | done | exact rfl | exact ⟨rfl, Below.refl _ _⟩ | (go_simp; first | done | exact rfl | exact ⟨rfl, Below.refl _ _⟩)))); intro K hK; go_simp; (try go_bits); refine hK _ ?_; clear hK K))); refine wpQI_nil ?_
  refine wpQI_start [4, 5] ?_; (iterate 2 (first | (refine wpQI_off (by with_reducible (refine List.getElem?_toArray.trans ?_; (repeat (first | exact List.getElem?_cons_zero | refine List.getElem?_cons_succ.trans ?_)))) (by kernel_rfl) (by exact rfl) (fun K hK => ?_); go_simp; refine hK _ ?_; clear hK K) | ((first | apply wpQI_step (by with_reducible (refine List.getElem?_toArray.trans ?_; (repeat (first | exact List.getElem?_cons_zero | refine List.getElem?_cons_succ.trans ?_)))) (by kernel_rfl) (by exact rfl) | apply wpQI_on (by with_reducible (refine List.getElem?_toArray.trans ?_; (repeat (first | exact List.getElem?_cons_zero | refine List.getElem?_cons_succ.trans ?_)))) (by kernel_rfl) (by exact rfl)); (focus (intro W' hS; have hcS := hS.cells.1; have hfS := hS.cells.2; go_simp; (first | done | exact rfl | exact ⟨rfl, Below.refl _ _⟩ | (go_simp; first | done | exact rfl | exact ⟨rfl, Below.refl _ _⟩)))); intro K hK; go_simp; (try go_bits); refine hK _ ?_; clear hK K))); refine wpQI_nil ?_
  refine wpQI_start [7, 8] ?_; (iterate 2 (first | (refine wpQI_off (by with_reducible (refine List.getElem?_toArray.trans ?_; (repeat (first | exact List.getElem?_cons_zero | refine List.getElem?_cons_succ.trans ?_)))) (by kernel_rfl) (by exact rfl) (fun K hK => ?_); go_simp; refine hK _ ?_; clear hK K) | ((first | apply wpQI_step (by with_reducible (refine List.getElem?_toArray.trans ?_; (repeat (first | exact List.getElem?_cons_zero | refine List.getElem?_cons_succ.trans ?_)))) (by kernel_rfl) (by exact rfl) | apply wpQI_on (by with_reducible (refine List.getElem?_toArray.trans ?_; (repeat (first | exact List.getElem?_cons_zero | refine List.getElem?_cons_succ.trans ?_)))) (by kernel_rfl) (by exact rfl)); (focus (intro W' hS; have hcS := hS.cells.1; have hfS := hS.cells.2; go_simp; (first | done | exact rfl | exact ⟨rfl, Below.refl _ _⟩ | (go_simp; first | done | exact rfl | exact ⟨rfl, Below.refl _ _⟩)))); intro K hK; go_simp; (try go_bits); refine hK _ ?_; clear hK K))); refine wpQI_nil ?_
  apply wpQ_call (i := 3) (by with_reducible (refine List.getElem?_toArray.trans ?_; (repeat (first | exact List.getElem?_cons_zero | refine List.getElem?_cons_succ.trans ?_)))) (by kernel_rfl) (by exact rfl); intro W hF hS; have hcS := hS.1.cells.1; have hfS := hS.1.cells.2; go_simp; (go_at_call 46; refine (K11.out _ _ ((RAt.px (H107.out.below hS.1.2)).zl LQ1.out)).mono ?_; rintro e w114 ⟨hb_w114, v114, rfl, hv114⟩; refine XPost.mk _ (fun W => IsC W v114 ((-q1))) hb_w114 (hv114) (IsC.cl _ _) ?_); clear hb_w114 hcS hfS hS hF
  intro K hK; go_simp; (try go_bits); refine hK _ ?_; clear hK K
  obtain ⟨s114, A114, n114, c114, rfl⟩ := IsC.val hv114
  clear hv114
  apply wpQ_call (i := 6) (by with_reducible (refine List.getElem?_toArray.trans ?_; (repeat (first | exact List.getElem?_cons_zero | refine List.getElem?_cons_succ.trans ?_)))) (by kernel_rfl) (by exact rfl); intro W hF hS; have hcS := hS.1.cells.1; have hfS := hS.1.cells.2; go_simp; (go_at_call 46; refine (K12.out _ _ ((RAt.py (H107.out.below hS.1.2)).zl LQ2.out)).mono ?_; rintro e w115 ⟨hb_w115, v115, rfl, hv115⟩; refine XPost.mk _ (fun W => IsC W v115 ((-q2))) hb_w115 (hv115) (IsC.cl _ _) ?_); clear hb_w115 hcS hfS hS hF
  intro K hK; go_simp; (try go_bits); refine hK _ ?_; clear hK K
  obtain ⟨s115, A115, n115, c115, rfl⟩ := IsC.val hv115
  clear hv115
  refine wpQI_start [9] ?_; (iterate 1 (first | (refine wpQI_off (by with_reducible (refine List.getElem?_toArray.trans ?_; (repeat (first | exact List.getElem?_cons_zero | refine List.getElem?_cons_succ.trans ?_)))) (by kernel_rfl) (by exact rfl) (fun K hK => ?_); go_simp; refine hK _ ?_; clear hK K) | ((first | apply wpQI_step (by with_reducible (refine List.getElem?_toArray.trans ?_; (repeat (first | exact List.getElem?_cons_zero | refine List.getElem?_cons_succ.trans ?_)))) (by kernel_rfl) (by exact rfl) | apply wpQI_on (by with_reducible (refine List.getElem?_toArray.trans ?_; (repeat (first | exact List.getElem?_cons_zero | refine List.getElem?_cons_succ.trans ?_)))) (by kernel_rfl) (by exact rfl)); (focus (intro W' hS; have hcS := hS.cells.1; have hfS := hS.cells.2; go_simp; (first | done | exact rfl | exact ⟨rfl, Below.refl _ _⟩ | (go_simp; first | done | exact rfl | exact ⟨rfl, Below.refl _ _⟩)))); intro K hK; go_simp; (try go_bits); refine hK _ ?_; clear hK K))); refine wpQI_nil ?_
  apply wpQ_call (i := 10) (by with_reducible (refine List.getElem?_toArray.trans ?_; (repeat (first | exact List.getElem?_cons_zero | refine List.getElem?_cons_succ.trans ?_)))) (by kernel_rfl) (by exact rfl); intro W hF hS; have hcS := hS.1.cells.1; have hfS := hS.1.cells.2; go_simp; (go_at_call 38; refine (K13.out _ _ _ ((H107u.out.below hS.1.2)) (⟨_, _, _, _, _, _, _, _, _, _, _, _, rfl, hF.1, hF.2, (RAt.pd (H107.out.below hS.1.2))⟩)).mono ?_; rintro e w116 ⟨hb_w116, v116, rfl, hv116⟩; refine XPost.mk _ (fun W => RAt W v116 (t1) (t2) (t3)) hb_w116 (hv116) (RAt.cl _ _ _ _) ?_); clear hb_w116 hcS hfS hS hF
  intro K hK; go_simp; (try go_bits); refine hK _ ?_; clear hK K
  obtain ⟨s116x, A116x, n116x, c116x, s116y, A116y, n116y, c116y, s116d, A116d, n116d, c116d, rfl⟩ := RAt.val hv116
  clear hv116
  apply wpQ_fresh (i := 11) LInv.std (by with_reducible (refine List.getElem?_toArray.trans ?_; (repeat (first | exact List.getElem?_cons_zero | refine List.getElem?_cons_succ.trans ?_)))) (by kernel_rfl) (fun g => Value.pointer (some ⟨g, 0, none⟩)) (by exact rfl); (focus (intro W; go_simp; first | done | exact rfl | exact ⟨rfl, rfl⟩))
  intro g_r11_11 hN_r11_11 hG_r11_11 K hK
  go_simp; refine hK _ ?_; clear hK K
  have hne : w.heap.size ≠ g_r11_11 := by have := hN_r11_11; omega
  have hne := Ne.symm hne
  have hne : w106.heap.size ≠ g_r11_11 := by have := hN_r11_11; omega
  have hne := Ne.symm hne
  have hne : w107.heap.size ≠ g_r11_11 := by have := hN_r11_11; omega
  have hne := Ne.symm hne
  have hne : w107.heap.size + 1 ≠ g_r11_11 := by have := hN_r11_11; omega
  have hne := Ne.symm hne
  have hne : g_r10_12 ≠ g_r11_11 := by have := hN_r11_11; omega
  have hne := Ne.symm hne
  refine wpQ_done (by kernel_rfl) ?_
  intro w117 hF_w117 hSG
  have hz_w117 := hSG.1.1
  have hb_w117 := hSG.1.2
  have hB_r11_11 := (hSG.2 _ (List.mem_cons_self ..)).2; simp only at hB_r11_11; have hl_r11_11 := (hSG.size (List.mem_cons_self ..)); simp only at hl_r11_11
  have c_w117_r11_11_0 := cell_of_row w117 g_r11_11 0 _ _ _ hB_r11_11; simp only [List.getElem?_toArray, List.getElem?_cons_zero] at c_w117_r11_11_0
  have c_w117_r11_11_1 := cell_of_row w117 g_r11_11 1 _ _ _ hB_r11_11; simp only [List.getElem?_toArray, List.getElem?_cons_zero, List.getElem?_cons_succ] at c_w117_r11_11_1
  have c_w117_r11_11_2 := cell_of_row w117 g_r11_11 2 _ _ _ hB_r11_11; simp only [List.getElem?_toArray, List.getElem?_cons_zero, List.getElem?_cons_succ] at c_w117_r11_11_2
  have c_w117_r11_11_3 := cell_of_row w117 g_r11_11 3 _ _ _ hB_r11_11; simp only [List.getElem?_toArray, List.getElem?_cons_zero, List.getElem?_cons_succ] at c_w117_r11_11_3
  have c_w117_r11_11_4 := cell_of_row w117 g_r11_11 4 _ _ _ hB_r11_11; simp only [List.getElem?_toArray, List.getElem?_cons_zero, List.getElem?_cons_succ] at c_w117_r11_11_4
  have c_w117_r11_11_5 := cell_of_row w117 g_r11_11 5 _ _ _ hB_r11_11; simp only [List.getElem?_toArray, List.getElem?_cons_zero, List.getElem?_cons_succ] at c_w117_r11_11_5
  have fz_w117_r11_11 : (∀ o, w117.frozen? ⟨g_r11_11, o, none⟩ = false) := (fun o => frozen_of_row w117 g_r11_11 o _ _ hB_r11_11); have HH_r11_11 := Lib.hid hB_r11_11; clear hB_r11_11
  clear hSG
  (with_reducible apply cel6 (b := w.heap.size) hb_w117); (focus ((try simp) <;> omega)); (focus omega); (focus (go_simp; try exact rfl)); (focus (go_simp; try exact rfl)); (focus (go_simp; try exact rfl)); (focus (go_simp; try exact rfl)); (focus (go_simp; try exact rfl)); (focus (go_simp; try exact rfl)); (focus (intro o; go_simp)); intro c_w117_0_0 c_w117_0_1 c_w117_0_2 c_w117_0_3 c_w117_0_4 c_w117_0_5 fz_w117_0 hl_w117_0; (with_reducible apply cel6 (b := w107.heap.size) hb_w117); (focus ((try simp) <;> omega)); (focus omega); (focus (go_simp; try exact rfl)); (focus (go_simp; try exact rfl)); (focus (go_simp; try exact rfl)); (focus (go_simp; try exact rfl)); (focus (go_simp; try exact rfl)); (focus (go_simp; try exact rfl)); (focus (intro o; go_simp)); intro c_w117_1_0 c_w117_1_1 c_w117_1_2 c_w117_1_3 c_w117_1_4 c_w117_1_5 fz_w117_1 hl_w117_1; (with_reducible apply cel6 (b := w107.heap.size + 1) hb_w117); (focus ((try simp) <;> omega)); (focus omega); (focus (go_simp; try exact rfl)); (focus (go_simp; try exact rfl)); (focus (go_simp; try exact rfl)); (focus (go_simp; try exact rfl)); (focus (go_simp; try exact rfl)); (focus (go_simp; try exact rfl)); (focus (intro o; go_simp)); intro c_w117_2_0 c_w117_2_1 c_w117_2_2 c_w117_2_3 c_w117_2_4 c_w117_2_5 fz_w117_2 hl_w117_2; (with_reducible apply cel6 (b := g_r10_12) hb_w117); (focus ((try simp) <;> omega)); (focus omega); (focus (go_simp; try exact rfl)); (focus (go_simp; try exact rfl)); (focus (go_simp; try exact rfl)); (focus (go_simp; try exact rfl)); (focus (go_simp; try exact rfl)); (focus (go_simp; try exact rfl)); (focus (intro o; go_simp)); intro c_w117_3_0 c_w117_3_1 c_w117_3_2 c_w117_3_3 c_w117_3_4 c_w117_3_5 fz_w117_3 hl_w117_3
  (try simp only [List.filterMap_cons, List.filterMap_nil, List.getElem?_cons_succ, List.getElem?_cons_zero])
  replace H107u := Lib.hid (H107u.out.below hb_w117)
  replace H107 := Lib.hid (H107.out.below hb_w117)
  replace H111 := Lib.hid (H111.out.below hb_w117)
  have H114 := Lib.hid (show IsC w117 (.agg #[.bool s114, .slice A114 n114 c114]) ((-q1)) from hF_w117.1.1)
  have H115 := Lib.hid (show IsC w117 (.agg #[.bool s115, .slice A115 n115 c115]) ((-q2)) from hF_w117.1.2)
  have H116 := Lib.hid (show RAt w117 (.agg #[.bool s116x, .slice A116x n116x c116x, .bool s116y, .slice A116y n116y c116y, .bool s116d, .slice A116d n116d c116d]) (t1) (t2) (t3) from hF_w117.2)
  have HB117 := Lib.hid (HB113.out.trans (hb_w117.mono (by have := HB113.out.size; omega)))
  have hz117 : w.heap.size + 1 ≤ w117.heap.size := by omega
  have hn_r11_11 : w.heap.size + 1 ≤ g_r11_11 := by have := hN_r11_11; omega
  clear hF_w117 hb_w117 HH_r11_11 hG_r11_11 hN_r11_11
  clear c_w113_0_0 c_w113_0_1 c_w113_0_2 c_w113_0_3 c_w113_0_4 c_w113_0_5 fz_w113_0 hl_w113_0 c_w113_1_0 c_w113_1_1 c_w113_1_2 c_w113_1_3 c_w113_1_4 c_w113_1_5 fz_w113_1 hl_w113_1 c_w113_2_0 c_w113_2_1 c_w113_2_2 c_w113_2_3 c_w113_2_4 c_w113_2_5 fz_w113_2 hl_w113_2 c_w113_3_0 c_w113_3_1 c_w113_3_2 c_w113_3_3 c_w113_3_4 c_w113_3_5 fz_w113_3 hl_w113_3
  go_wp2_with fail
  refine HQ_.out _ _ _ ?_
  clear HQ_ Q_
  go_wp2_with fail
  -- own blocks: w.heap.size:6, g_r10_12:6, g_r11_11:6
  (go_at_call 38; refine (K14.out _ _ _ ((show RAt _ (.agg #[.bool s107ux, .slice A107ux n107ux c107ux, .bool s107uy, .slice A107uy n107uy c107uy, .bool s107ud, .slice A107ud n107ud c107ud]) (p1) (p2) (p3) by ((repeat (first | (with_reducible exact H107u.out) | (with_reducible refine RAt.al ?_ _) | (with_reducible apply RAt.st1))) <;> (first | (with_reducible assumption) | (intro _ e; cases e; done) | (go_simp; first | done | exact rfl))))) ((show RAt _ (.agg #[.bool s107x, .slice A107x n107x c107x, .bool s107y, .slice A107y n107y c107y, .bool s107d, .slice A107d n107d c107d]) (q1) (q2) (q3) by ((repeat (first | (with_reducible exact H107.out) | (with_reducible refine RAt.al ?_ _) | (with_reducible apply RAt.st1))) <;> (first | (with_reducible assumption) | (intro _ e; cases e; done) | (go_simp; first | done | exact rfl)))))).mono ?_; rintro e w118 ⟨hb_w118, v118, rfl, hv118⟩; have hz_w118 := hb_w118.size; (try simp at hz_w118); (with_reducible apply cel6 (b := w.heap.size) hb_w118); (focus ((try simp) <;> omega)); (focus omega); (focus (go_simp; try exact rfl)); (focus (go_simp; try exact rfl)); (focus (go_simp; try exact rfl)); (focus (go_simp; try exact rfl)); (focus (go_simp; try exact rfl)); (focus (go_simp; try exact rfl)); (focus (intro o; go_simp)); intro c_w118_0_0 c_w118_0_1 c_w118_0_2 c_w118_0_3 c_w118_0_4 c_w118_0_5 fz_w118_0 hl_w118_0; (with_reducible apply cel6 (b := g_r10_12) hb_w118); (focus ((try simp) <;> omega)); (focus omega); (focus (go_simp; try exact rfl)); (focus (go_simp; try exact rfl)); (focus (go_simp; try exact rfl)); (focus (go_simp; try exact rfl)); (focus (go_simp; try exact rfl)); (focus (go_simp; try exact rfl)); (focus (intro o; go_simp)); intro c_w118_1_0 c_w118_1_1 c_w118_1_2 c_w118_1_3 c_w118_1_4 c_w118_1_5 fz_w118_1 hl_w118_1; (with_reducible apply cel6 (b := g_r11_11) hb_w118); (focus ((try simp) <;> omega)); (focus omega); (focus (go_simp; try exact rfl)); (focus (go_simp; try exact rfl)); (focus (go_simp; try exact rfl)); (focus (go_simp; try exact rfl)); (focus (go_simp; try exact rfl)); (focus (go_simp; try exact rfl)); (focus (intro o; go_simp)); intro c_w118_2_0 c_w118_2_1 c_w118_2_2 c_w118_2_3 c_w118_2_4 c_w118_2_5 fz_w118_2 hl_w118_2)
  obtain ⟨s118x, A118x, n118x, c118x, s118y, A118y, n118y, c118y, s118d, A118d, n118d, c118d, rfl⟩ := RAt.val hv118
  clear H107u
  clear H107
  clear H114
  clear H115
  replace H111 := Lib.hid (RAt.below (v := .agg #[.bool s111x, .slice A111x n111x c111x, .bool s111y, .slice A111y n111y c111y, .bool s111d, .slice A111d n111d c111d]) (x := s1) (y := s2) (d := s3) (by ((repeat (first | (with_reducible exact H111.out) | (with_reducible refine RAt.al ?_ _) | (with_reducible apply RAt.st1))) <;> (first | (with_reducible assumption) | (intro _ e; cases e; done) | (go_simp; first | done | exact rfl)))) hb_w118)
  replace H116 := Lib.hid (RAt.below (v := .agg #[.bool s116x, .slice A116x n116x c116x, .bool s116y, .slice A116y n116y c116y, .bool s116d, .slice A116d n116d c116d]) (x := t1) (y := t2) (d := t3) (by ((repeat (first | (with_reducible exact H116.out) | (with_reducible refine RAt.al ?_ _) | (with_reducible apply RAt.st1))) <;> (first | (with_reducible assumption) | (intro _ e; cases e; done) | (go_simp; first | done | exact rfl)))) hb_w118)
  have HB118 := Lib.hid (show Below w.heap.size w w118 by have hB := HB117.out; ((with_reducible (repeat (first | exact bR _ _ | refine bS ?_ ?_ _ | refine bA ?_ ?_ _ | refine bD ?_ | refine bT ?_ (by assumption) ?_ | refine bO (by assumption) ?_ ?_))) <;> (first | omega | (simp; done) | (simp <;> omega))))
  have hz118 : w.heap.size + 1 ≤ w118.heap.size := by omega
  clear hb_w118
  clear c_w117_r11_11_0 c_w117_r11_11_1 c_w117_r11_11_2 c_w117_r11_11_3 c_w117_r11_11_4 c_w117_r11_11_5 fz_w117_r11_11 c_w117_0_0 c_w117_0_1 c_w117_0_2 c_w117_0_3 c_w117_0_4 c_w117_0_5 fz_w117_0 hl_w117_0 c_w117_1_0 c_w117_1_1 c_w117_1_2 c_w117_1_3 c_w117_1_4 c_w117_1_5 fz_w117_1 hl_w117_1 c_w117_2_0 c_w117_2_1 c_w117_2_2 c_w117_2_3 c_w117_2_4 c_w117_2_5 fz_w117_2 hl_w117_2 c_w117_3_0 c_w117_3_1 c_w117_3_2 c_w117_3_3 c_w117_3_4 c_w117_3_5 fz_w117_3 hl_w117_3
  have H118 := Lib.hid (show RAt w118 (.agg #[.bool s118x, .slice A118x n118x c118x, .bool s118y, .slice A118y n118y c118y, .bool s118d, .slice A118d n118d c118d]) ((v1 + w1)) ((v2 + w2)) (1) from hv118)
  clear hv118
  go_wp2_with fail
  -- own blocks: w.heap.size:6, g_r10_12:6, g_r11_11:6, w118.heap.size:6
  (refine pin_wp (N := _) (Nat.le_refl _) (fun w119 hb_w119 hz_w119 => ?_); (try simp at hz_w119); (with_reducible apply cel6 (b := w.heap.size) hb_w119); (focus ((try simp) <;> omega)); (focus omega); (focus (go_simp; try exact rfl)); (focus (go_simp; try exact rfl)); (focus (go_simp; try exact rfl)); (focus (go_simp; try exact rfl)); (focus (go_simp; try exact rfl)); (focus (go_simp; try exact rfl)); (focus (intro o; go_simp)); intro c_w119_0_0 c_w119_0_1 c_w119_0_2 c_w119_0_3 c_w119_0_4 c_w119_0_5 fz_w119_0 hl_w119_0; (with_reducible apply cel6 (b := g_r10_12) hb_w119); (focus ((try simp) <;> omega)); (focus omega); (focus (go_simp; try exact rfl)); (focus (go_simp; try exact rfl)); (focus (go_simp; try exact rfl)); (focus (go_simp; try exact rfl)); (focus (go_simp; try exact rfl)); (focus (go_simp; try exact rfl)); (focus (intro o; go_simp)); intro c_w119_1_0 c_w119_1_1 c_w119_1_2 c_w119_1_3 c_w119_1_4 c_w119_1_5 fz_w119_1 hl_w119_1; (with_reducible apply cel6 (b := g_r11_11) hb_w119); (focus ((try simp) <;> omega)); (focus omega); (focus (go_simp; try exact rfl)); (focus (go_simp; try exact rfl)); (focus (go_simp; try exact rfl)); (focus (go_simp; try exact rfl)); (focus (go_simp; try exact rfl)); (focus (go_simp; try exact rfl)); (focus (intro o; go_simp)); intro c_w119_2_0 c_w119_2_1 c_w119_2_2 c_w119_2_3 c_w119_2_4 c_w119_2_5 fz_w119_2 hl_w119_2; (with_reducible apply cel6 (b := w118.heap.size) hb_w119); (focus ((try simp) <;> omega)); (focus omega); (focus (go_simp; try exact rfl)); (focus (go_simp; try exact rfl)); (focus (go_simp; try exact rfl)); (focus (go_simp; try exact rfl)); (focus (go_simp; try exact rfl)); (focus (go_simp; try exact rfl)); (focus (intro o; go_simp)); intro c_w119_3_0 c_w119_3_1 c_w119_3_2 c_w119_3_3 c_w119_3_4 c_w119_3_5 fz_w119_3 hl_w119_3); refine wp_q (fun Q_ HQ_ => ?_); refine wp_region_floatQ w119.heap.size 33 [] (Nat.le_refl _) (fun _ => True) trivial Cl.tt (by kernel_rfl) (by kernel_rfl) ?_
  replace H111 := Lib.hid (RAt.below (v := .agg #[.bool s111x, .slice A111x n111x c111x, .bool s111y, .slice A111y n111y c111y, .bool s111d, .slice A111d n111d c111d]) (x := s1) (y := s2) (d := s3) (by ((repeat (first | (with_reducible exact H111.out) | (with_reducible refine RAt.al ?_ _) | (with_reducible apply RAt.st1))) <;> (first | (with_reducible assumption) | (intro _ e; cases e; done) | (go_simp; first | done | exact rfl)))) hb_w119)
  replace H116 := Lib.hid (RAt.below (v := .agg #[.bool s116x, .slice A116x n116x c116x, .bool s116y, .slice A116y n116y c116y, .bool s116d, .slice A116d n116d c116d]) (x := t1) (y := t2) (d := t3) (by ((repeat (first | (with_reducible exact H116.out) | (with_reducible refine RAt.al ?_ _) | (with_reducible apply RAt.st1))) <;> (first | (with_reducible assumption) | (intro _ e; cases e; done) | (go_simp; first | done | exact rfl)))) hb_w119)
  replace H118 := Lib.hid (RAt.below (v := .agg #[.bool s118x, .slice A118x n118x c118x, .bool s118y, .slice A118y n118y c118y, .bool s118d, .slice A118d n118d c118d]) (x := (v1 + w1)) (y := (v2 + w2)) (d := 1) (by ((repeat (first | (with_reducible exact H118.out) | (with_reducible refine RAt.al ?_ _) | (with_reducible apply RAt.st1))) <;> (first | (with_reducible assumption) | (intro _ e; cases e; done) | (go_simp; first | done | exact rfl)))) hb_w119)
  have HB119 := Lib.hid (show Below w.heap.size w w119 by have hB := HB118.out; ((with_reducible (repeat (first | exact bR _ _ | refine bS ?_ ?_ _ | refine bA ?_ ?_ _ | refine bD ?_ | refine bT ?_ (by assumption) ?_ | refine bO (by assumption) ?_ ?_))) <;> (first | omega | (simp; done) | (simp <;> omega))))
  have hz119 : w.heap.size + 1 ≤ w119.heap.size := by omega
  clear hb_w119
  clear c_w118_0_0 c_w118_0_1 c_w118_0_2 c_w118_0_3 c_w118_0_4 c_w118_0_5 fz_w118_0 hl_w118_0 c_w118_1_0 c_w118_1_1 c_w118_1_2 c_w118_1_3 c_w118_1_4 c_w118_1_5 fz_w118_1 hl_w118_1 c_w118_2_0 c_w118_2_1 c_w118_2_2 c_w118_2_3 c_w118_2_4 c_w118_2_5 fz_w118_2 hl_w118_2
  refine wpQI_start [0, 1, 2] ?_; (iterate 3 (first | (refine wpQI_off (by with_reducible (refine List.getElem?_toArray.trans ?_; (repeat (first | exact List.getElem?_cons_zero | refine List.getElem?_cons_succ.trans ?_)))) (by kernel_rfl) (by exact rfl) (fun K hK => ?_); go_simp; refine hK _ ?_; clear hK K) | ((first | apply wpQI_step (by with_reducible (refine List.getElem?_toArray.trans ?_; (repeat (first | exact List.getElem?_cons_zero | refine List.getElem?_cons_succ.trans ?_)))) (by kernel_rfl) (by exact rfl) | apply wpQI_on (by with_reducible (refine List.getElem?_toArray.trans ?_; (repeat (first | exact List.getElem?_cons_zero | refine List.getElem?_cons_succ.trans ?_)))) (by kernel_rfl) (by exact rfl)); (focus (intro W' hS; have hcS := hS.cells.1; have hfS := hS.cells.2; go_simp; (first | done | exact rfl | exact ⟨rfl, Below.refl _ _⟩ | (go_simp; first | done | exact rfl | exact ⟨rfl, Below.refl _ _⟩)))); intro K hK; go_simp; (try go_bits); refine hK _ ?_; clear hK K))); refine wpQI_nil ?_
  apply wpQ_call (i := 3) (by with_reducible (refine List.getElem?_toArray.trans ?_; (repeat (first | exact List.getElem?_cons_zero | refine List.getElem?_cons_succ.trans ?_)))) (by kernel_rfl) (by exact rfl); intro W hF hS; have hcS := hS.1.cells.1; have hfS := hS.1.cells.2; go_simp; (go_at_call 47; refine (K15.out _ _ ((H111.out.below hS.1.2))).mono ?_; rintro e w120 ⟨rfl, hb_w120⟩; refine XPost.mk _ (fun _ => True) hb_w120 (trivial) (Cl.tt) ?_); clear hb_w120 hcS hfS hS hF
  intro K hK; go_simp; (try go_bits); refine hK _ ?_; clear hK K
  refine wpQI_start [4, 5, 6, 7, 8] ?_; (iterate 5 (first | (refine wpQI_off (by with_reducible (refine List.getElem?_toArray.trans ?_; (repeat (first | exact List.getElem?_cons_zero | refine List.getElem?_cons_succ.trans ?_)))) (by kernel_rfl) (by exact rfl) (fun K hK => ?_); go_simp; refine hK _ ?_; clear hK K) | ((first | apply wpQI_step (by with_reducible (refine List.getElem?_toArray.trans ?_; (repeat (first | exact List.getElem?_cons_zero | refine List.getElem?_cons_succ.trans ?_)))) (by kernel_rfl) (by exact rfl) | apply wpQI_on (by with_reducible (refine List.getElem?_toArray.trans ?_; (repeat (first | exact List.getElem?_cons_zero | refine List.getElem?_cons_succ.trans ?_)))) (by kernel_rfl) (by exact rfl)); (focus (intro W' hS; have hcS := hS.cells.1; have hfS := hS.cells.2; go_simp; (first | done | exact rfl | exact ⟨rfl, Below.refl _ _⟩ | (go_simp; first | done | exact rfl | exact ⟨rfl, Below.refl _ _⟩)))); intro K hK; go_simp; (try go_bits); refine hK _ ?_; clear hK K))); refine wpQI_nil ?_
  apply wpQ_call (i := 9) (by with_reducible (refine List.getElem?_toArray.trans ?_; (repeat (first | exact List.getElem?_cons_zero | refine List.getElem?_cons_succ.trans ?_)))) (by kernel_rfl) (by exact rfl); intro W hF hS; have hcS := hS.1.cells.1; have hfS := hS.1.cells.2; go_simp; (go_at_call 47; refine (K16.out _ _ ((H116.out.below hS.1.2))).mono ?_; rintro e w121 ⟨rfl, hb_w121⟩; refine XPost.mk _ (fun _ => True) hb_w121 (trivial) (Cl.tt) ?_); clear hb_w121 hcS hfS hS hF
  intro K hK; go_simp; (try go_bits); refine hK _ ?_; clear hK K
  refine wpQI_start [10, 11, 12, 13, 14, 15, 16, 17, 18, 19, 20, 21, 22, 23, 24, 25, 26, 27, 28] ?_; (iterate 19 (first | (refine wpQI_off (by with_reducible (refine List.getElem?_toArray.trans ?_; (repeat (first | exact List.getElem?_cons_zero | refine List.getElem?_cons_succ.trans ?_)))) (by kernel_rfl) (by exact rfl) (fun K hK => ?_); go_simp; refine hK _ ?_; clear hK K) | ((first | apply wpQI_step (by with_reducible (refine List.getElem?_toArray.trans ?_; (repeat (first | exact List.getElem?_cons_zero | refine List.getElem?_cons_succ.trans ?_)))) (by kernel_rfl) (by exact rfl) | apply wpQI_on (by with_reducible (refine List.getElem?_toArray.trans ?_; (repeat (first | exact List.getElem?_cons_zero | refine List.getElem?_cons_succ.trans ?_)))) (by kernel_rfl) (by exact rfl)); (focus (intro W' hS; have hcS := hS.cells.1; have hfS := hS.cells.2; go_simp; (first | done | exact rfl | exact ⟨rfl, Below.refl _ _⟩ | (go_simp; first | done | exact rfl | exact ⟨rfl, Below.refl _ _⟩)))); intro K hK; go_simp; (try go_bits); refine hK _ ?_; clear hK K))); refine wpQI_nil ?_
  apply wpQ_call (i := 29) (by with_reducible (refine List.getElem?_toArray.trans ?_; (repeat (first | exact List.getElem?_cons_zero | refine List.getElem?_cons_succ.trans ?_)))) (by kernel_rfl) (by exact rfl); intro W hF hS; have hcS := hS.1.cells.1; have hfS := hS.1.cells.2; go_simp; (go_at_call 39; refine (K17.out _).mono ?_; rintro e w122 ⟨hb_w122, v122, rfl, hv122⟩; refine XPost.mk _ (fun W => RAt W v122 ((v1 + w1)) ((v2 + w2)) (1)) hb_w122 (hv122) (RAt.cl _ _ _ _) ?_); clear hb_w122 hcS hfS hS hF
  intro K hK; go_simp; (try go_bits); refine hK _ ?_; clear hK K
  obtain ⟨s122x, A122x, n122x, c122x, s122y, A122y, n122y, c122y, s122d, A122d, n122d, c122d, rfl⟩ := RAt.val hv122
  clear hv122
  apply wpQ_call (i := 30) (by with_reducible (refine List.getElem?_toArray.trans ?_; (repeat (first | exact List.getElem?_cons_zero | refine List.getElem?_cons_succ.trans ?_)))) (by kernel_rfl) (by exact rfl); intro W hF hS; have hcS := hS.1.cells.1; have hfS := hS.1.cells.2; go_simp; (go_at_call 30; refine (K18.out _ _ _ ((H118.out.below hS.1.2)) (hF)).mono ?_; rintro e w123 ⟨rfl, hb_w123⟩; refine XPost.mk _ (fun _ => True) hb_w123 (trivial) (Cl.tt) ?_); clear hb_w123 hcS hfS hS hF
  intro K hK; go_simp; (try go_bits); refine hK _ ?_; clear hK K
  refine wpQI_start [31, 32] ?_; (iterate 2 (first | (refine wpQI_off (by with_reducible (refine List.getElem?_toArray.trans ?_; (repeat (first | exact List.getElem?_cons_zero | refine List.getElem?_cons_succ.trans ?_)))) (by kernel_rfl) (by exact rfl) (fun K hK => ?_); go_simp; refine hK _ ?_; clear hK K) | ((first | apply wpQI_step (by with_reducible (refine List.getElem?_toArray.trans ?_; (repeat (first | exact List.getElem?_cons_zero | refine List.getElem?_cons_succ.trans ?_)))) (by kernel_rfl) (by exact rfl) | apply wpQI_on (by with_reducible (refine List.getElem?_toArray.trans ?_; (repeat (first | exact List.getElem?_cons_zero | refine List.getElem?_cons_succ.trans ?_)))) (by kernel_rfl) (by exact rfl)); (focus (intro W' hS; have hcS := hS.cells.1; have hfS := hS.cells.2; go_simp; (first | done | exact rfl | exact ⟨rfl, Below.refl _ _⟩ | (go_simp; first | done | exact rfl | exact ⟨rfl, Below.refl _ _⟩)))); intro K hK; go_simp; (try go_bits); refine hK _ ?_; clear hK K))); refine wpQI_nil ?_
  refine wpQ_done (by kernel_rfl) ?_
  intro w124 hF_w124 hSG
  have hz_w124 := hSG.1.1
  have hb_w124 := hSG.1.2
  clear hSG
  (with_reducible apply cel6 (b := w.heap.size) hb_w124); (focus ((try simp) <;> omega)); (focus omega); (focus (go_simp; try exact rfl)); (focus (go_simp; try exact rfl)); (focus (go_simp; try exact rfl)); (focus (go_simp; try exact rfl)); (focus (go_simp; try exact rfl)); (focus (go_simp; try exact rfl)); (focus (intro o; go_simp)); intro c_w124_0_0 c_w124_0_1 c_w124_0_2 c_w124_0_3 c_w124_0_4 c_w124_0_5 fz_w124_0 hl_w124_0; (with_reducible apply cel6 (b := g_r10_12) hb_w124); (focus ((try simp) <;> omega)); (focus omega); (focus (go_simp; try exact rfl)); (focus (go_simp; try exact rfl)); (focus (go_simp; try exact rfl)); (focus (go_simp; try exact rfl)); (focus (go_simp; try exact rfl)); (focus (go_simp; try exact rfl)); (focus (intro o; go_simp)); intro c_w124_1_0 c_w124_1_1 c_w124_1_2 c_w124_1_3 c_w124_1_4 c_w124_1_5 fz_w124_1 hl_w124_1; (with_reducible apply cel6 (b := g_r11_11) hb_w124); (focus ((try simp) <;> omega)); (focus omega); (focus (go_simp; try exact rfl)); (focus (go_simp; try exact rfl)); (focus (go_simp; try exact rfl)); (focus (go_simp; try exact rfl)); (focus (go_simp; try exact rfl)); (focus (go_simp; try exact rfl)); (focus (intro o; go_simp)); intro c_w124_2_0 c_w124_2_1 c_w124_2_2 c_w124_2_3 c_w124_2_4 c_w124_2_5 fz_w124_2 hl_w124_2; (with_reducible apply cel6 (b := w118.heap.size) hb_w124); (focus ((try simp) <;> omega)); (focus omega); (focus (go_simp; try exact rfl)); (focus (go_simp; try exact rfl)); (focus (go_simp; try exact rfl)); (focus (go_simp; try exact rfl)); (focus (go_simp; try exact rfl)); (focus (go_simp; try exact rfl)); (focus (intro o; go_simp)); intro c_w124_3_0 c_w124_3_1 c_w124_3_2 c_w124_3_3 c_w124_3_4 c_w124_3_5 fz_w124_3 hl_w124_3
  (try simp only [List.filterMap_nil])
  clear H111
  clear H116
  clear H118
  have H122 := Lib.hid (show RAt w124 (.agg #[.bool s122x, .slice A122x n122x c122x, .bool s122y, .slice A122y n122y c122y, .bool s122d, .slice A122d n122d c122d]) ((v1 + w1)) ((v2 + w2)) (1) from hF_w124.1)
  have HB124 := Lib.hid (HB119.out.trans (hb_w124.mono (by have := HB119.out.size; omega)))
  have hz124 : w.heap.size + 1 ≤ w124.heap.size := by omega
  clear hF_w124 hb_w124
  clear c_w119_0_0 c_w119_0_1 c_w119_0_2 c_w119_0_3 c_w119_0_4 c_w119_0_5 fz_w119_0 hl_w119_0 c_w119_1_0 c_w119_1_1 c_w119_1_2 c_w119_1_3 c_w119_1_4 c_w119_1_5 fz_w119_1 hl_w119_1 c_w119_2_0 c_w119_2_1 c_w119_2_2 c_w119_2_3 c_w119_2_4 c_w119_2_5 fz_w119_2 hl_w119_2 c_w119_3_0 c_w119_3_1 c_w119_3_2 c_w119_3_3 c_w119_3_4 c_w119_3_5 fz_w119_3 hl_w119_3
  go_wp2_with fail
  refine HQ_.out _ _ _ ?_
  clear HQ_ Q_
  go_wp2_with fail
  -- own blocks: 
  refine bodyPost_ret (v := .bool true) (by simp only [results, Try.results8]; go_simp) rfl ⟨?_, ?_⟩
  · rfl
  · have hB := HB124.out; ((with_reducible (repeat (first | exact bR _ _ | refine bS ?_ ?_ _ | refine bA ?_ ?_ _ | refine bD ?_ | refine bT ?_ (by assumption) ?_ | refine bO (by assumption) ?_ ?_))) <;> (first | omega | (simp; done) | (simp <;> omega)))
theorem respondaway_on (v1 v2 w1 w2 n1 n2 rest grip : Int) (w : World) (hp : permB v1 v2 w1 w2 n1 n2 = true) :
    Calls Try.prog 8 #[.agg #[.int .i64 v1, .int .i64 v2, .int .i64 w1, .int .i64 w2, .int .i64 n1, .int .i64 n2], .int .i64 rest, .int .i64 grip] w fun e w' => e = .returned (.bool true) ∧ Below w.heap.size w w' := by
  cases ha : apprB v1 v2 w1 w2 n1 n2
  · exact respondaway_off v1 v2 w1 w2 n1 n2 rest grip w hp ha
  · exact respondaway_yes v1 v2 w1 w2 n1 n2 rest grip w hp ha
theorem respondaway_law (v1 v2 w1 w2 n1 n2 rest grip : Int) (w : World) :
    Calls Try.prog 8 #[.agg #[.int .i64 v1, .int .i64 v2, .int .i64 w1, .int .i64 w2, .int .i64 n1, .int .i64 n2], .int .i64 rest, .int .i64 grip] w fun e w' => e = .returned (.bool true) ∧ Below w.heap.size w w' := by
  cases h1 : (withinB v1 v2 1048576 && withinB n1 n2 2097152)
  · exact respondaway_a v1 v2 w1 w2 n1 n2 rest grip w h1
  · cases h2 : withinB w1 w2 1048576
    · exact respondaway_b v1 v2 w1 w2 n1 n2 rest grip w h1 h2
    · rw [Bool.and_eq_true] at h1
      exact respondaway_on v1 v2 w1 w2 n1 n2 rest grip w (by unfold permB; rw [h1.1, h1.2, h2]; rfl)
end Go.Proofs.Ytklkhnhieihfoaa
namespace Go.Proofs.Ytklkhnhieihfoaa
open Go Go.ChangeShapes Go.WideShapes Go.ChangeAt Go.RowKit
section
variable {H : Type} {enc : TypeId × Value → H} {P : Program} {w : World}
theorem cells_at {base : Nat} {a : Addr} {n : Nat} {row : List Value} (h : w.cells? base a n = some row) : row.length = n ∧ ∀ j v, row[j]? = some v → w.cell? (a.add j) = some v := by
  unfold World.cells? at h
  split at h
  · have hl := mapM_some_length h
    simp at hl
    refine ⟨hl, fun j v hj => ?_⟩
    have hlt : j < n := by rw [← hl]; exact (List.getElem?_eq_some_iff.1 hj).1
    have := mapM_some_get h j j (by simp [hlt])
    rw [this, hj]
  · cases h
theorem add_add' (a : Addr) (i j : Nat) : (a.add i).add j = a.add (i + j) := by
  unfold Addr.add
  by_cases hi : i = 0 <;> by_cases hj : j = 0 <;> simp [hi, hj, Nat.add_assoc]
theorem rowIs_of_trod {base : Nat} {spare : Nat → Bool} {held : Bool} : ∀ (fuel : Nat) (t : TypeId) (cs : List Value) (x : DataW H × List MemPlace), DataW.trod enc P w base spare held fuel t cs = some x → RowIs P w fuel t cs := by
  intro fuel
  induction fuel with
  | zero => intro t cs x h; simp [DataW.trod] at h
  | succ n ih =>
    intro t cs x h
    cases hu : P.underlying t with
    | none => simp only [RowIs, hu]
    | some d =>
      cases d with
      | bool => obtain ⟨b, hb, _⟩ := DataW.trod_bool hu h; simp only [RowIs, hu]; exact ⟨b, hb⟩
      | int k => obtain ⟨z, hz, _, hw⟩ := DataW.trod_int hu h; simp only [RowIs, hu]; exact ⟨z, hz, hw⟩
      | string => obtain ⟨s, hs, _, hw⟩ := DataW.trod_string hu h; simp only [RowIs, hu]; exact ⟨s, hs, hw⟩
      | struct fs =>
        obtain ⟨xs, m, hm, _, hl, hxl, hf⟩ := DataW.trod_struct hu h
        obtain rfl : m = n := by omega
        simp only [RowIs, hu]
        refine ⟨hl, fun f hfm => ?_⟩
        obtain ⟨i, hi⟩ := List.getElem?_of_mem hfm
        have h1 := hf i f (by simpa using hi)
        have hlt : i < xs.length := by rw [hxl]; have := (List.getElem?_eq_some_iff.1 hi).1; simpa using this
        rw [List.getElem?_eq_getElem hlt] at h1
        exact ih _ _ _ h1
      | slice e =>
        simp only [RowIs, hu]
        rcases DataW.trod_slice hu h with ⟨h0, _⟩ | ⟨a, len, cap, elems, rest, m, hm, hcs, _, _, hlc, hcap, hel, hat, _⟩
        · exact .inl h0
        · obtain rfl : m = n := by omega
          refine .inr ⟨a, len, cap, hcs, hlc, hcap, fun i hi => ?_⟩
          have h1 := hat i hi
          have hlt : i < elems.length := by omega
          rw [List.getElem?_eq_getElem hlt] at h1
          obtain ⟨row, hr, ht⟩ := Option.bind_eq_some_iff.1 h1
          obtain ⟨hl, hc⟩ := cells_at hr
          exact ⟨row, hl, fun j v hj => by rw [← add_add']; exact hc j v hj, ih _ _ _ ht⟩
      | _ => simp only [RowIs, hu]
end
end Go.Proofs.Ytklkhnhieihfoaa
namespace Go.Proofs.Ytklkhnhieihfoaa.lawRA
open Go.ChangeShapes Go.WideShapes Go.ChangeAt Go.RowKit
set_option linter.unusedVariables false
theorem walk (w : World) (a0 : Array Value) (n0 : Nat) (w0 : RowIs Try.prog w n0 52 a0.toList) (a1 : Int) (w1 : (Lit.int .i64 a1).wf = true) (a2 : Int) (w2 : (Lit.int .i64 a2).wf = true) :
    Calls Try.prog 8 #[.agg a0, .int .i64 a1, .int .i64 a2] w fun e w' => e = .returned (.bool true) ∧ Below w.heap.size w w' := by
  obtain ⟨px, py, vx, vy, hx, hy, e, _⟩ := row_meet w0
  obtain ⟨l⟩ := a0
  simp only at e
  subst e
  exact respondaway_law px py vx vy hx hy a1 a2 w
theorem own : ownKnob Try.prog.godebug = none := by kernel_rfl
theorem laidOut : laidOutB Try.prog = true := by kernel_rfl
set_option maxRecDepth 100000 in
theorem lifted (os : Os) (started : os.Started) (H : Type) (enc : TypeId × Value → H) :
    ReturnsInHanded {} Try.checked os 8 .any (Rows.respondAwaySpec.pre6 enc Try.prog Try.f8 Rows.respondAwayRow.domain false) (Rows.respondAwaySpec.post enc Try.prog Try.f8 false true false false) := by
  refine returnsInHanded_of_change (C := Try.checked) own started (by kernel_rfl) Try.func8
    (ChangeSpec.witness6 (enc := enc) (C := Try.checked) false ⟨#[], #[.agg #[.int .i64 0, .int .i64 0, .int .i64 0, .int .i64 0, .int .i64 0, .int .i64 0], .int .i64 0, .int .i64 0], []⟩ 8 (by kernel_rfl) (by kernel_rfl) (by kernel_rfl) (by kernel_rfl)) ?_
  intro W base args ds gs before hval0 hW hcnd _
  have hval : ∀ (j : Nat) t v, Try.f8.params[j]? = some t → args[j]? = some v → Value.okWide Try.prog W .any base t v := hval0
  have hW' := hW
  obtain ⟨p, q, hA0, hV, rfl, hfz, hnd⟩ := hW
  have hA : DataW.TrodAll enc Try.prog W 0 (fun _ => true) true Try.f8.params.toList args.toList ds p := hA0
  rw [Try.params8] at hA hval
  obtain ⟨v0, vs0, d0, ds0, p0, q0, hargs, rfl, rfl, h0, r0⟩ := trodAll_cons hA
  obtain ⟨v1, vs1, d1, ds1, p1, q1, rfl, rfl, rfl, h1, r1⟩ := trodAll_cons r0
  obtain ⟨v2, vs2, d2, ds2, p2, q2, rfl, rfl, rfl, h2, r2⟩ := trodAll_cons r1
  obtain ⟨rfl, rfl, rfl⟩ := trodAll_nil r2
  obtain rfl : args = #[v0, v1, v2] := by cases args; simp_all
  obtain ⟨rfl, rfl⟩ := trodVars_none hV
  obtain ⟨a0, rfl, hs0⟩ := okWide_struct Try.underlying52 (hval 0 52 v0 rfl rfl)
  have k0 := h0
  have lt0 : ∀ x ∈ p0, x.block < W.heap.size := by obtain ⟨m, hm⟩ := k0; exact DataW.trod_lt m _ _ _ hm
  obtain ⟨n0, w0⟩ : ∃ n, RowIs Try.prog W n 52 a0.toList := by obtain ⟨fuel, hf⟩ := h0; exact ⟨fuel, rowIs_of_trod fuel _ _ _ hf⟩
  obtain ⟨a1, rfl, rfl, rfl, w1⟩ := open_int Try.underlying3 (hval 1 3 v1 rfl rfl) h1
  obtain ⟨a2, rfl, rfl, rfl, w2⟩ := open_int Try.underlying3 (hval 2 3 v2 rfl rfl) h2
  clear hA0 hval0
  refine (walk W a0 n0 w0 a1 w1 a2 w2).mono fun e W' ⟨he, bel⟩ => ?_
  subst he
  exact ⟨_, rfl, _, _, _, [], _, [], hW', trodAll_mk1 (shut_bool Try.underlying4 _), (trodAll_cons_mk (Below.trod laidOut (by kernel_rfl) (of_decide_eq_true (by kernel_rfl)) k0 bel lt0) (trodAll_cons_mk (shut_int Try.underlying3 w1) (trodAll_cons_mk (shut_int Try.underlying3 w2) trodAll_mk0))), rfl, bel.frame _, fun h => by cases h⟩
theorem over : Rows.respondAwayRow.holds Try.pinned (OpenSpec.ofChange Rows.respondAwaySpec) :=
  OpenClaim.holds_of_wide 8 Try.f8 rfl rfl rfl rfl rfl rfl rfl ⟨rfl, rfl, rfl, rfl, rfl⟩ rfl rfl rfl rfl rfl (by kernel_rfl) Try.func8 (by kernel_rfl)
    (of_decide_eq_true (by kernel_rfl)) (by unfold Func.isWrapper; first | (rw [if_pos (by decide +kernel)]; kernel_rfl) | (rw [if_neg (by decide +kernel)]; exact ⟨rfl, rfl⟩))
    (fun os started H enc _ => lifted os started H enc)
theorem proved : Rows.RespondAwaySaid := over
#print axioms proved
end Go.Proofs.Ytklkhnhieihfoaa.lawRA
