/- Law IntegerWords returns true for every two numbers. No conditions. -/
import Derived.Test.YtadkcipjcmkoiaaLenZ
import Derived.Test.YtadkcipjcmkoiaaDrawOn
namespace Go.Proofs.Ytadkcipjcmkoiaa.lawIW
open Go.ChangeShapes Go.WideShapes Go.ChangeAt Go.RowKit
set_option linter.unusedVariables false
theorem mul_bd {x y : Int} (x0 : -1073741824 ≤ x) (x1 : x ≤ 1073741823) (y0 : -1073741824 ≤ y) (y1 : y ≤ 1073741823) : -1152921504606846976 ≤ x * y ∧ x * y ≤ 1152921504606846976 := by
  have h1 : 0 ≤ (1073741824 - x) * (1073741824 - y) := Int.mul_nonneg (by omega) (by omega)
  have h2 : 0 ≤ (1073741824 + x) * (1073741824 + y) := Int.mul_nonneg (by omega) (by omega)
  have h3 : 0 ≤ (1073741824 - x) * (1073741824 + y) := Int.mul_nonneg (by omega) (by omega)
  have h4 : 0 ≤ (1073741824 + x) * (1073741824 - y) := Int.mul_nonneg (by omega) (by omega)
  constructor <;> grind
theorem tdiv_bd {x y : Int} (hx0 : -9223372036854775808 ≤ x) (hx1 : x ≤ 9223372036854775807) (h0 : y ≠ 0) (h1 : y ≠ -1) : -9223372036854775808 ≤ x.tdiv y ∧ x.tdiv y ≤ 9223372036854775807 := by
  have h : (x.tdiv y).natAbs = x.natAbs / y.natAbs := Int.natAbs_tdiv x y
  have h2 : x.natAbs / y.natAbs ≤ x.natAbs := Nat.div_le_self _ _
  by_cases hm : x = -9223372036854775808
  · by_cases hy : y = 1
    · subst hy; rw [Int.tdiv_one]; omega
    · have h3 : x.natAbs / y.natAbs ≤ x.natAbs / 2 := Nat.div_le_div_left (by omega) (by decide)
      omega
  · omega
theorem tmod_bd {x y : Int} (hx0 : -9223372036854775808 ≤ x) (hx1 : x ≤ 9223372036854775807) (hy0 : -9223372036854775808 ≤ y) (hy1 : y ≤ 9223372036854775807) (h0 : y ≠ 0) : -9223372036854775808 ≤ x.tmod y ∧ x.tmod y ≤ 9223372036854775807 := by
  have h := Int.natAbs_tmod x y
  have h2 : x.natAbs % y.natAbs < y.natAbs := Nat.mod_lt _ (by omega)
  omega
set_option maxRecDepth 100000 in
set_option maxHeartbeats 4000000 in
theorem walk (w : World) (x : Int) (wx : (Lit.int .i64 x).wf = true) (y : Int) (wy : (Lit.int .i64 y).wf = true) :
    Calls Try.prog 6 #[.int .i64 x, .int .i64 y] w fun e w' => e = .returned (.bool true) ∧ Below w.heap.size w w' := by
  obtain ⟨hx0, hx1⟩ := wf_bd wx
  obtain ⟨hy0, hy1⟩ := wf_bd wy
  have lx := lenZ_word hx0 hx1
  have ly := lenZ_word hy0 hy1
  obtain ⟨xa, hxa⟩ : ∃ q, x / 8589934592 = q := ⟨_, rfl⟩
  obtain ⟨ya, hya⟩ : ∃ q, y / 8589934592 = q := ⟨_, rfl⟩
  obtain ⟨xs, hxs⟩ : ∃ q, x / 2 = q := ⟨_, rfl⟩
  obtain ⟨ys, hys⟩ : ∃ q, y / 2 = q := ⟨_, rfl⟩
  have a0 : -1073741824 ≤ xa := by omega
  have a1 : xa ≤ 1073741823 := by omega
  have a2 : -1073741824 ≤ ya := by omega
  have a3 : ya ≤ 1073741823 := by omega
  have a4 : -4611686018427387904 ≤ xs := by omega
  have a5 : xs ≤ 4611686018427387903 := by omega
  have a6 : -4611686018427387904 ≤ ys := by omega
  have a7 : ys ≤ 4611686018427387903 := by omega
  obtain ⟨p0, p1⟩ := mul_bd a0 a1 a2 a3
  obtain ⟨P, hP⟩ : ∃ q, xa * ya = q := ⟨_, rfl⟩
  obtain ⟨S, hS⟩ : ∃ q, xs + ys = q := ⟨_, rfl⟩
  rw [hP] at p0 p1
  have s0 : -9223372036854775808 ≤ S := by omega
  have s1 : S ≤ 9223372036854775807 := by omega
  have lxa : (canN xa.natAbs).length ≤ 100 := lenZ_word (by omega) (by omega)
  have lya : (canN ya.natAbs).length ≤ 100 := lenZ_word (by omega) (by omega)
  have lxs : (canN xs.natAbs).length ≤ 100 := lenZ_word (by omega) (by omega)
  have lys : (canN ys.natAbs).length ≤ 100 := lenZ_word (by omega) (by omega)
  have lP : (canN P.natAbs).length ≤ 100 := lenZ_word (by omega) (by omega)
  have lS : (canN S.natAbs).length ≤ 100 := lenZ_word (by omega) (by omega)
  have hmu := fun u v w h1 h2 => imul_any 100 u v xa ya w h1 h2 (by omega)
  rw [mulZ lxa lya hP.symm lP] at hmu
  have had := fun u v w h1 h2 => iadd_any 100 u v xs ys w h1 h2 (by omega)
  rw [addZ lxs lys hS.symm lS] at had
  simp only at hmu had
  have HMU := Lib.hid hmu
  have HAD := Lib.hid had
  clear hmu had
  have HQU : Hid (y ≠ 0 → y ≠ -1 → ∃ Q R, x.tdiv y = Q ∧ x.tmod y = R ∧ -9223372036854775808 ≤ Q ∧ Q ≤ 9223372036854775807 ∧ -9223372036854775808 ≤ R ∧ R ≤ 9223372036854775807 ∧ ∀ u v w, IsZ w u 100 x → IsZ w v 100 y → Calls Try.prog 22 #[u, v] w (QOut Q R 0 w)) := Lib.hid (fun h0 h1 => by
    obtain ⟨d1, d2⟩ := tdiv_bd hx0 hx1 h0 h1
    obtain ⟨d3, d4⟩ := tmod_bd hx0 hx1 hy0 hy1 h0
    refine ⟨_, _, rfl, rfl, d1, d2, d3, d4, fun u v w h2 h3 => ?_⟩
    have h := iquo_any 100 u v x y w h2 h3 (by omega)
    rwa [quoZ lx ly h0 rfl rfl] at h)
  by_cases hlt : x < y
  · have nlt : ¬ y < x := by omega
    have C1 : Hid (∀ u v w, IsZ w u 100 x → IsZ w v 100 y → Calls Try.prog 17 #[u, v] w fun e w' => e = .returned (.int .i64 (-1)) ∧ Below w.heap.size w w') := Lib.hid (fun u v w h1 h2 => by have h := icmp_any 100 u v x y w h1 h2 (by omega); rwa [show cmpI x y = -1 by unfold cmpI; rw [if_pos hlt]] at h)
    go_enter Try.func6, Try.ntmps6; (try simp only [List.append_eq, List.cons_append, List.nil_append])
    go_wp2_with fail
    -- own blocks: 
    (go_at_call 10; refine (awake01_any _).mono ?_; rintro e w1 ⟨rfl, hb_w1⟩; have hz_w1 := hb_w1.size; (try simp at hz_w1); skip)
    go_wp2_with fail
    (go_at_call 20; refine (iof_any x _ (by omega) (by omega)).mono ?_; rintro e w2 ⟨hb_w2, v2, rfl, hv2⟩; have hz_w2 := hb_w2.size; (try simp at hz_w2); skip)
    go_wp2_with fail
    (go_at_call 20; refine (iof_any y _ (by omega) (by omega)).mono ?_; rintro e w3 ⟨hb_w3, v3, rfl, hv3⟩; have hz_w3 := hb_w3.size; (try simp at hz_w3); skip)
    have HX3 := Lib.hid (hv2.below hb_w3)
    have HY3 := Lib.hid hv3
    have HB := Lib.hid (show Below w.heap.size w w3 by ((with_reducible (repeat (first | exact bR _ _ | refine bS ?_ ?_ _ | refine bA ?_ ?_ _ | refine bD ?_ | refine bT ?_ (by assumption) ?_ | refine bO (by assumption) ?_ ?_))) <;> (first | omega | (simp; done) | (simp <;> omega))))
    have hz3 : w.heap.size ≤ w3.heap.size := by omega
    obtain ⟨A2, c2, rfl, hc2, hA2⟩ := hv2
    obtain ⟨A3, c3, rfl, hc3, hA3⟩ := hv3
    clear hc2 hA2 hc3 hA3 hb_w1 hb_w2 hb_w3
    go_wp2_with fail
    -- own blocks besides: w3.heap.size:2, w3.heap.size + 1:2
    have HBA := Lib.hid (((Below.refl w3.heap.size w3).alloc (Nat.le_refl _) (.cells #[.bool (decide (x < 0)), .slice A2 (canN x.natAbs).length c2] 24)).alloc (by simp) (.cells #[.bool (decide (y < 0)), .slice A3 (canN y.natAbs).length c3] 24))
    (refine pin_wp (N := _) (Nat.le_refl _) (fun w4 hb_w4 hz_w4 => ?_); (try simp at hz_w4); (with_reducible apply cel2 (b := w3.heap.size) hb_w4); (focus ((try simp) <;> omega)); (focus omega); (focus (go_simp; try exact rfl)); (focus (go_simp; try exact rfl)); (focus (intro o; go_simp)); intro cc cc fz hl; (with_reducible apply cel2 (b := w3.heap.size + 1) hb_w4); (focus ((try simp) <;> omega)); (focus omega); (focus (go_simp; try exact rfl)); (focus (go_simp; try exact rfl)); (focus (intro o; go_simp)); intro cc cc fz hl); refine wp_region_float w4.heap.size 13 (Nat.le_refl _) (fun _ => True) trivial Cl.tt (by kernel_rfl) (by simp) ?_
    have HW4 := Lib.hid (HBA.out.trans (hb_w4.mono (by simp; omega)))
    have HX := Lib.hid (HX3.out.below HW4.out)
    have HY := Lib.hid (HY3.out.below HW4.out)
    replace HB := Lib.hid (HB.out.trans (HW4.out.mono hz3))
    have hz4 : w.heap.size ≤ w4.heap.size := by omega
    clear hb_w4 HX3 HY3 HBA HW4
    refine wpI_start [0, 1, 2, 3, 4, 5, 6] ?_; (iterate 7 (first | (refine wpI_off rfl (by kernel_rfl) rfl (fun K hK => ?_); go_simp; refine hK _ ?_; clear hK K) | ((first | apply wpI_step rfl (by kernel_rfl) rfl | apply wpI_on rfl (by kernel_rfl) rfl); (focus (intro W' hS; have hcS := hS.cells.1; have hfS := hS.cells.2; go_simp; (first | done | exact rfl | exact ⟨rfl, Below.refl _ _⟩ | (go_at_call 17; exact (C1.out _ _ _ ((HX.out.below hS.2).zl lx) ((HY.out.below hS.2).zl ly)).mono (fun _ _ h => ⟨h.1, h.2⟩)) | (go_simp; first | done | exact rfl | exact ⟨rfl, Below.refl _ _⟩)))); intro K hK; go_simp; (try go_bits); refine hK _ ?_; clear hK K))); refine wpI_nil ?_
    refine wpI_start [9] ?_; (iterate 1 (first | (refine wpI_off rfl (by kernel_rfl) rfl (fun K hK => ?_); go_simp; refine hK _ ?_; clear hK K) | ((first | apply wpI_step rfl (by kernel_rfl) rfl | apply wpI_on rfl (by kernel_rfl) rfl); (focus (intro W' hS; have hcS := hS.cells.1; have hfS := hS.cells.2; go_simp; (first | done | exact rfl | exact ⟨rfl, Below.refl _ _⟩ | (go_simp; first | done | exact rfl | exact ⟨rfl, Below.refl _ _⟩)))); intro K hK; go_simp; (try go_bits); refine hK _ ?_; clear hK K))); refine wpI_nil ?_
    apply wpF_call_on (i := 7) rfl (by kernel_rfl) (by kernel_rfl) rfl; intro W hF hS; have hcS := hS.1.cells.1; have hfS := hS.1.cells.2; go_simp; (go_at_call 28; refine (ineg_any 100 _ x _ ((HX.out.below hS.1.2).zl lx) (by omega)).mono ?_; rintro e w5 ⟨hb_w5, v5, rfl, hv5⟩; refine XPost.mk _ (fun W => IsC W v5 (-x)) hb_w5 (hv5) (IsC.cl _ _) ?_); clear hb_w5 hcS hfS hS hF
    intro K hK; go_simp; (try go_bits); refine hK _ ?_; clear hK K
    clear hv5
    apply wpF_call_on (i := 8) rfl (by kernel_rfl) (by kernel_rfl) rfl; intro W hF hS; have hcS := hS.1.cells.1; have hfS := hS.1.cells.2; go_simp; (go_at_call 28; refine (ineg_any 100 _ (-x) _ (hF.zl (by rw [Int.natAbs_neg]; exact lx)) (by omega)).mono ?_; rintro e w6 ⟨hb_w6, v6, rfl, hv6⟩; refine XPost.mk _ (fun W => IsC W v6 x) hb_w6 (by rwa [Int.neg_neg] at hv6) (IsC.cl _ _) ?_); clear hb_w6 hcS hfS hS hF
    intro K hK; go_simp; (try go_bits); refine hK _ ?_; clear hK K
    clear hv6
    apply wpF_call_on (i := 10) rfl (by kernel_rfl) (by kernel_rfl) rfl; intro W hF hS; have hcS := hS.1.cells.1; have hfS := hS.1.cells.2; go_simp; (go_at_call 17; refine (icmp_eq 100 _ _ x x _ (hF.2.zl lx) ((HX.out.below hS.1.2).zl lx) (by omega) rfl).mono ?_; rintro e w7 ⟨rfl, hb_w7⟩; refine XPost.mk _ (fun _ => True) hb_w7 (trivial) (Cl.tt) ?_); clear hb_w7 hcS hfS hS hF
    intro K hK; go_simp; (try go_bits); refine hK _ ?_; clear hK K
    refine wpI_start [11, 12] ?_; (iterate 2 (first | (refine wpI_off rfl (by kernel_rfl) rfl (fun K hK => ?_); go_simp; refine hK _ ?_; clear hK K) | ((first | apply wpI_step rfl (by kernel_rfl) rfl | apply wpI_on rfl (by kernel_rfl) rfl); (focus (intro W' hS; have hcS := hS.cells.1; have hfS := hS.cells.2; go_simp; (first | done | exact rfl | exact ⟨rfl, Below.refl _ _⟩ | (go_simp; first | done | exact rfl | exact ⟨rfl, Below.refl _ _⟩)))); intro K hK; go_simp; (try go_bits); refine hK _ ?_; clear hK K))); refine wpI_nil ?_
    refine wpF_done (by kernel_rfl) ?_
    intro w8 hF_w8 hSG
    have hz_w8 := hSG.1.1
    have hb_w8 := hSG.1.2
    clear hSG
    (with_reducible apply cel2 (b := w3.heap.size) hb_w8); (focus ((try simp) <;> omega)); (focus omega); (focus (go_simp; try exact rfl)); (focus (go_simp; try exact rfl)); (focus (intro o; go_simp)); intro cc cc fz hl; (with_reducible apply cel2 (b := w3.heap.size + 1) hb_w8); (focus ((try simp) <;> omega)); (focus omega); (focus (go_simp; try exact rfl)); (focus (go_simp; try exact rfl)); (focus (intro o; go_simp)); intro cc cc fz hl
    (try simp only [List.drop_succ_cons, List.drop_zero])
    have HW8 := Lib.hid hb_w8
    replace HX := Lib.hid (HX.out.below HW8.out)
    replace HY := Lib.hid (HY.out.below HW8.out)
    replace HB := Lib.hid (HB.out.trans (HW8.out.mono hz4))
    have hz8 : w.heap.size ≤ w8.heap.size := by omega
    clear hb_w8 hF_w8 HW8
    go_wp2_with fail
    (go_at_call 20; refine (iof_any xa _ (by omega) (by omega)).mono ?_; rintro e w9 ⟨hb_w9, v9, rfl, hv9⟩; have hz_w9 := hb_w9.size; (try simp at hz_w9); (with_reducible apply cel2 (b := w3.heap.size) hb_w9); (focus ((try simp) <;> omega)); (focus omega); (focus (go_simp; try exact rfl)); (focus (go_simp; try exact rfl)); (focus (intro o; go_simp)); intro cc cc fz hl; (with_reducible apply cel2 (b := w3.heap.size + 1) hb_w9); (focus ((try simp) <;> omega)); (focus omega); (focus (go_simp; try exact rfl)); (focus (go_simp; try exact rfl)); (focus (intro o; go_simp)); intro cc cc fz hl)
    have HV9 := Lib.hid hv9
    have HW9 := Lib.hid hb_w9
    clear hv9 hb_w9
    go_wp2_with fail
    (go_at_call 20; refine (iof_any ya _ (by omega) (by omega)).mono ?_; rintro e w10 ⟨hb_w10, v10, rfl, hv10⟩; have hz_w10 := hb_w10.size; (try simp at hz_w10); (with_reducible apply cel2 (b := w3.heap.size) hb_w10); (focus ((try simp) <;> omega)); (focus omega); (focus (go_simp; try exact rfl)); (focus (go_simp; try exact rfl)); (focus (intro o; go_simp)); intro cc cc fz hl; (with_reducible apply cel2 (b := w3.heap.size + 1) hb_w10); (focus ((try simp) <;> omega)); (focus omega); (focus (go_simp; try exact rfl)); (focus (go_simp; try exact rfl)); (focus (intro o; go_simp)); intro cc cc fz hl)
    have HV10 := Lib.hid hv10
    have HV9 := Lib.hid (HV9.out.below hb_w10)
    have HW10 := Lib.hid (HW9.out.trans (hb_w10.mono HW9.out.size))
    clear hv10 hb_w10
    go_wp2_with fail
    (go_at_call 23; refine (HMU.out _ _ _ (HV9.out.zl lxa) (HV10.out.zl lya)).mono ?_; rintro e w11 ⟨hb_w11, A11, c11, rfl, hc11, hA11⟩; have hz_w11 := hb_w11.size; (try simp at hz_w11); (with_reducible apply cel2 (b := w3.heap.size) hb_w11); (focus ((try simp) <;> omega)); (focus omega); (focus (go_simp; try exact rfl)); (focus (go_simp; try exact rfl)); (focus (intro o; go_simp)); intro cc cc fz hl; (with_reducible apply cel2 (b := w3.heap.size + 1) hb_w11); (focus ((try simp) <;> omega)); (focus omega); (focus (go_simp; try exact rfl)); (focus (go_simp; try exact rfl)); (focus (intro o; go_simp)); intro cc cc fz hl)
    have HPP := Lib.hid (show IsC w11 (.agg #[.bool (decide (P < 0)), .slice A11 (canN P.natAbs).length c11]) P from ⟨A11, c11, rfl, hc11, hA11⟩)
    have HW11 := Lib.hid (HW10.out.trans (hb_w11.mono HW10.out.size))
    replace HX := Lib.hid (HX.out.below HW11.out)
    replace HY := Lib.hid (HY.out.below HW11.out)
    replace HB := Lib.hid (HB.out.trans (HW11.out.mono hz8))
    have hz11 : w.heap.size ≤ w11.heap.size := by omega
    clear hc11 hA11 hb_w11 HW9 HW10 HW11 HV9 HV10
    go_wp2_with fail
    -- own blocks besides: w11.heap.size:2
    (go_at_call 20; refine (iof_any xs _ (by omega) (by omega)).mono ?_; rintro e w12 ⟨hb_w12, v12, rfl, hv12⟩; have hz_w12 := hb_w12.size; (try simp at hz_w12); (with_reducible apply cel2 (b := w3.heap.size) hb_w12); (focus ((try simp) <;> omega)); (focus omega); (focus (go_simp; try exact rfl)); (focus (go_simp; try exact rfl)); (focus (intro o; go_simp)); intro cc cc fz hl; (with_reducible apply cel2 (b := w3.heap.size + 1) hb_w12); (focus ((try simp) <;> omega)); (focus omega); (focus (go_simp; try exact rfl)); (focus (go_simp; try exact rfl)); (focus (intro o; go_simp)); intro cc cc fz hl; (with_reducible apply cel2 (b := w11.heap.size) hb_w12); (focus ((try simp) <;> omega)); (focus omega); (focus (go_simp; try exact rfl)); (focus (go_simp; try exact rfl)); (focus (intro o; go_simp)); intro cc cc fz hl)
    have HV12 := Lib.hid hv12
    have HW12 := Lib.hid (show Below w11.heap.size w11 w12 by ((with_reducible (repeat (first | exact bR _ _ | refine bS ?_ ?_ _ | refine bA ?_ ?_ _ | refine bD ?_ | refine bT ?_ (by assumption) ?_ | refine bO (by assumption) ?_ ?_))) <;> (first | omega | (simp; done) | (simp <;> omega))))
    clear hv12 hb_w12
    go_wp2_with fail
    (go_at_call 20; refine (iof_any ys _ (by omega) (by omega)).mono ?_; rintro e w13 ⟨hb_w13, v13, rfl, hv13⟩; have hz_w13 := hb_w13.size; (try simp at hz_w13); (with_reducible apply cel2 (b := w3.heap.size) hb_w13); (focus ((try simp) <;> omega)); (focus omega); (focus (go_simp; try exact rfl)); (focus (go_simp; try exact rfl)); (focus (intro o; go_simp)); intro cc cc fz hl; (with_reducible apply cel2 (b := w3.heap.size + 1) hb_w13); (focus ((try simp) <;> omega)); (focus omega); (focus (go_simp; try exact rfl)); (focus (go_simp; try exact rfl)); (focus (intro o; go_simp)); intro cc cc fz hl; (with_reducible apply cel2 (b := w11.heap.size) hb_w13); (focus ((try simp) <;> omega)); (focus omega); (focus (go_simp; try exact rfl)); (focus (go_simp; try exact rfl)); (focus (intro o; go_simp)); intro cc cc fz hl)
    have HV13 := Lib.hid hv13
    have HV12 := Lib.hid (HV12.out.below hb_w13)
    have HW13 := Lib.hid (HW12.out.trans (hb_w13.mono HW12.out.size))
    clear hv13 hb_w13
    go_wp2_with fail
    (go_at_call 24; refine (HAD.out _ _ _ (HV12.out.zl lxs) (HV13.out.zl lys)).mono ?_; rintro e w14 ⟨hb_w14, A14, c14, rfl, hc14, hA14⟩; have hz_w14 := hb_w14.size; (try simp at hz_w14); (with_reducible apply cel2 (b := w3.heap.size) hb_w14); (focus ((try simp) <;> omega)); (focus omega); (focus (go_simp; try exact rfl)); (focus (go_simp; try exact rfl)); (focus (intro o; go_simp)); intro cc cc fz hl; (with_reducible apply cel2 (b := w3.heap.size + 1) hb_w14); (focus ((try simp) <;> omega)); (focus omega); (focus (go_simp; try exact rfl)); (focus (go_simp; try exact rfl)); (focus (intro o; go_simp)); intro cc cc fz hl; (with_reducible apply cel2 (b := w11.heap.size) hb_w14); (focus ((try simp) <;> omega)); (focus omega); (focus (go_simp; try exact rfl)); (focus (go_simp; try exact rfl)); (focus (intro o; go_simp)); intro cc cc fz hl)
    have HSS := Lib.hid (show IsC w14 (.agg #[.bool (decide (S < 0)), .slice A14 (canN S.natAbs).length c14]) S from ⟨A14, c14, rfl, hc14, hA14⟩)
    have HW14 := Lib.hid (HW13.out.trans (hb_w14.mono HW13.out.size))
    replace HX := Lib.hid (HX.out.below HW14.out)
    replace HY := Lib.hid (HY.out.below HW14.out)
    replace HPP := Lib.hid (HPP.out.below HW14.out)
    replace HB := Lib.hid (HB.out.trans (HW14.out.mono hz11))
    have hz14 : w.heap.size ≤ w14.heap.size := by omega
    clear hc14 hA14 hb_w14 HW12 HW13 HW14 HV12 HV13
    go_wp2_with fail
    -- own blocks besides: w14.heap.size:2
    (refine pin_wp (N := _) (Nat.le_refl _) (fun w15 hb_w15 hz_w15 => ?_); (try simp at hz_w15); (with_reducible apply cel2 (b := w3.heap.size) hb_w15); (focus ((try simp) <;> omega)); (focus omega); (focus (go_simp; try exact rfl)); (focus (go_simp; try exact rfl)); (focus (intro o; go_simp)); intro cc cc fz hl; (with_reducible apply cel2 (b := w3.heap.size + 1) hb_w15); (focus ((try simp) <;> omega)); (focus omega); (focus (go_simp; try exact rfl)); (focus (go_simp; try exact rfl)); (focus (intro o; go_simp)); intro cc cc fz hl; (with_reducible apply cel2 (b := w11.heap.size) hb_w15); (focus ((try simp) <;> omega)); (focus omega); (focus (go_simp; try exact rfl)); (focus (go_simp; try exact rfl)); (focus (intro o; go_simp)); intro cc cc fz hl; (with_reducible apply cel2 (b := w14.heap.size) hb_w15); (focus ((try simp) <;> omega)); (focus omega); (focus (go_simp; try exact rfl)); (focus (go_simp; try exact rfl)); (focus (intro o; go_simp)); intro cc cc fz hl); refine wp_region_float w15.heap.size 28 (Nat.le_refl _) (fun _ => True) trivial Cl.tt (by kernel_rfl) (by simp) ?_
    have HW15 := Lib.hid (show Below w14.heap.size w14 w15 by ((with_reducible (repeat (first | exact bR _ _ | refine bS ?_ ?_ _ | refine bA ?_ ?_ _ | refine bD ?_ | refine bT ?_ (by assumption) ?_ | refine bO (by assumption) ?_ ?_))) <;> (first | omega | (simp; done) | (simp <;> omega))))
    replace HX := Lib.hid (HX.out.below HW15.out)
    replace HY := Lib.hid (HY.out.below HW15.out)
    replace HPP := Lib.hid (HPP.out.below HW15.out)
    replace HSS := Lib.hid (HSS.out.below HW15.out)
    replace HB := Lib.hid (HB.out.trans (HW15.out.mono hz14))
    have hz15 : w.heap.size ≤ w15.heap.size := by omega
    clear hb_w15 HW15
    refine wpI_start [0, 1, 2, 3, 4, 5, 6, 7, 8, 9, 10, 11, 12] ?_; (iterate 13 (first | (refine wpI_off rfl (by kernel_rfl) rfl (fun K hK => ?_); go_simp; refine hK _ ?_; clear hK K) | ((first | apply wpI_step rfl (by kernel_rfl) rfl | apply wpI_on rfl (by kernel_rfl) rfl); (focus (intro W' hS; have hcS := hS.cells.1; have hfS := hS.cells.2; go_simp; (first | done | exact rfl | exact ⟨rfl, Below.refl _ _⟩ | (go_simp; first | done | exact rfl | exact ⟨rfl, Below.refl _ _⟩)))); intro K hK; go_simp; (try go_bits); refine hK _ ?_; clear hK K))); refine wpI_nil ?_
    apply wpF_call_on (i := 13) rfl (by kernel_rfl) (by kernel_rfl) rfl; intro W hF hS; have hcS := hS.1.cells.1; have hfS := hS.1.cells.2; go_simp; (go_at_call 20; refine (iof_any P _ (by omega) (by omega)).mono ?_; rintro e w16 ⟨hb_w16, v16, rfl, hv16⟩; refine XPost.mk _ (fun W => IsC W v16 P) hb_w16 (hv16) (IsC.cl _ _) ?_); clear hb_w16 hcS hfS hS hF
    intro K hK; go_simp; (try go_bits); refine hK _ ?_; clear hK K
    clear hv16
    apply wpF_call_on (i := 14) rfl (by kernel_rfl) (by kernel_rfl) rfl; intro W hF hS; have hcS := hS.1.cells.1; have hfS := hS.1.cells.2; go_simp; (go_at_call 17; refine (icmp_eq 100 _ _ P P _ ((HPP.out.below hS.1.2).zl lP) (hF.zl lP) (by omega) rfl).mono ?_; rintro e w17 ⟨rfl, hb_w17⟩; refine XPost.mk _ (fun _ => True) hb_w17 (trivial) (Cl.tt) ?_); clear hb_w17 hcS hfS hS hF
    intro K hK; go_simp; (try go_bits); refine hK _ ?_; clear hK K
    refine wpI_start [15, 16, 17, 18, 19, 20, 21, 22, 23] ?_; (iterate 9 (first | (refine wpI_off rfl (by kernel_rfl) rfl (fun K hK => ?_); go_simp; refine hK _ ?_; clear hK K) | ((first | apply wpI_step rfl (by kernel_rfl) rfl | apply wpI_on rfl (by kernel_rfl) rfl); (focus (intro W' hS; have hcS := hS.cells.1; have hfS := hS.cells.2; go_simp; (first | done | exact rfl | exact ⟨rfl, Below.refl _ _⟩ | (go_simp; first | done | exact rfl | exact ⟨rfl, Below.refl _ _⟩)))); intro K hK; go_simp; (try go_bits); refine hK _ ?_; clear hK K))); refine wpI_nil ?_
    apply wpF_call_on (i := 24) rfl (by kernel_rfl) (by kernel_rfl) rfl; intro W hF hS; have hcS := hS.1.cells.1; have hfS := hS.1.cells.2; go_simp; (go_at_call 20; refine (iof_any S _ (by omega) (by omega)).mono ?_; rintro e w18 ⟨hb_w18, v18, rfl, hv18⟩; refine XPost.mk _ (fun W => IsC W v18 S) hb_w18 (hv18) (IsC.cl _ _) ?_); clear hb_w18 hcS hfS hS hF
    intro K hK; go_simp; (try go_bits); refine hK _ ?_; clear hK K
    clear hv18
    apply wpF_call_on (i := 25) rfl (by kernel_rfl) (by kernel_rfl) rfl; intro W hF hS; have hcS := hS.1.cells.1; have hfS := hS.1.cells.2; go_simp; (go_at_call 17; refine (icmp_eq 100 _ _ S S _ ((HSS.out.below hS.1.2).zl lS) (hF.2.zl lS) (by omega) rfl).mono ?_; rintro e w19 ⟨rfl, hb_w19⟩; refine XPost.mk _ (fun _ => True) hb_w19 (trivial) (Cl.tt) ?_); clear hb_w19 hcS hfS hS hF
    intro K hK; go_simp; (try go_bits); refine hK _ ?_; clear hK K
    refine wpI_start [26, 27] ?_; (iterate 2 (first | (refine wpI_off rfl (by kernel_rfl) rfl (fun K hK => ?_); go_simp; refine hK _ ?_; clear hK K) | ((first | apply wpI_step rfl (by kernel_rfl) rfl | apply wpI_on rfl (by kernel_rfl) rfl); (focus (intro W' hS; have hcS := hS.cells.1; have hfS := hS.cells.2; go_simp; (first | done | exact rfl | exact ⟨rfl, Below.refl _ _⟩ | (go_simp; first | done | exact rfl | exact ⟨rfl, Below.refl _ _⟩)))); intro K hK; go_simp; (try go_bits); refine hK _ ?_; clear hK K))); refine wpI_nil ?_
    refine wpF_done (by kernel_rfl) ?_
    intro w20 hF_w20 hSG
    have hz_w20 := hSG.1.1
    have hb_w20 := hSG.1.2
    clear hSG
    (with_reducible apply cel2 (b := w3.heap.size) hb_w20); (focus ((try simp) <;> omega)); (focus omega); (focus (go_simp; try exact rfl)); (focus (go_simp; try exact rfl)); (focus (intro o; go_simp)); intro cc cc fz hl; (with_reducible apply cel2 (b := w3.heap.size + 1) hb_w20); (focus ((try simp) <;> omega)); (focus omega); (focus (go_simp; try exact rfl)); (focus (go_simp; try exact rfl)); (focus (intro o; go_simp)); intro cc cc fz hl; (with_reducible apply cel2 (b := w11.heap.size) hb_w20); (focus ((try simp) <;> omega)); (focus omega); (focus (go_simp; try exact rfl)); (focus (go_simp; try exact rfl)); (focus (intro o; go_simp)); intro cc cc fz hl; (with_reducible apply cel2 (b := w14.heap.size) hb_w20); (focus ((try simp) <;> omega)); (focus omega); (focus (go_simp; try exact rfl)); (focus (go_simp; try exact rfl)); (focus (intro o; go_simp)); intro cc cc fz hl
    (try simp only [List.drop_succ_cons, List.drop_zero])
    have HW20 := Lib.hid hb_w20
    replace HX := Lib.hid (HX.out.below HW20.out)
    replace HY := Lib.hid (HY.out.below HW20.out)
    replace HB := Lib.hid (HB.out.trans (HW20.out.mono hz15))
    have hz20 : w.heap.size ≤ w20.heap.size := by omega
    clear hb_w20 hF_w20 HW20 HPP HSS
    by_cases hy00 : y = 0
    · go_wp2_with fail
      (go_at_call 10; refine (awake01_any _).mono ?_; rintro e w21 ⟨rfl, hb_w21⟩; have hz_w21 := hb_w21.size; (try simp at hz_w21); (with_reducible apply cel2 (b := w3.heap.size) hb_w21); (focus ((try simp) <;> omega)); (focus omega); (focus (go_simp; try exact rfl)); (focus (go_simp; try exact rfl)); (focus (intro o; go_simp)); intro cc cc fz hl; (with_reducible apply cel2 (b := w3.heap.size + 1) hb_w21); (focus ((try simp) <;> omega)); (focus omega); (focus (go_simp; try exact rfl)); (focus (go_simp; try exact rfl)); (focus (intro o; go_simp)); intro cc cc fz hl; (with_reducible apply cel2 (b := w11.heap.size) hb_w21); (focus ((try simp) <;> omega)); (focus omega); (focus (go_simp; try exact rfl)); (focus (go_simp; try exact rfl)); (focus (intro o; go_simp)); intro cc cc fz hl; (with_reducible apply cel2 (b := w14.heap.size) hb_w21); (focus ((try simp) <;> omega)); (focus omega); (focus (go_simp; try exact rfl)); (focus (go_simp; try exact rfl)); (focus (intro o; go_simp)); intro cc cc fz hl)
      go_wp2_with fail
      go_ret
      exact ⟨rfl, HB.out.trans (hb_w21.mono (by omega))⟩
    · by_cases hym : y = -1
      · go_wp2_with fail
        (go_at_call 10; refine (awake01_any _).mono ?_; rintro e w21 ⟨rfl, hb_w21⟩; have hz_w21 := hb_w21.size; (try simp at hz_w21); (with_reducible apply cel2 (b := w3.heap.size) hb_w21); (focus ((try simp) <;> omega)); (focus omega); (focus (go_simp; try exact rfl)); (focus (go_simp; try exact rfl)); (focus (intro o; go_simp)); intro cc cc fz hl; (with_reducible apply cel2 (b := w3.heap.size + 1) hb_w21); (focus ((try simp) <;> omega)); (focus omega); (focus (go_simp; try exact rfl)); (focus (go_simp; try exact rfl)); (focus (intro o; go_simp)); intro cc cc fz hl; (with_reducible apply cel2 (b := w11.heap.size) hb_w21); (focus ((try simp) <;> omega)); (focus omega); (focus (go_simp; try exact rfl)); (focus (go_simp; try exact rfl)); (focus (intro o; go_simp)); intro cc cc fz hl; (with_reducible apply cel2 (b := w14.heap.size) hb_w21); (focus ((try simp) <;> omega)); (focus omega); (focus (go_simp; try exact rfl)); (focus (go_simp; try exact rfl)); (focus (intro o; go_simp)); intro cc cc fz hl)
        go_wp2_with fail
        go_ret
        exact ⟨rfl, HB.out.trans (hb_w21.mono (by omega))⟩
      · obtain ⟨Q, R, hQ, hR, q0, q1, r0, r1, hqu⟩ := HQU.out hy00 hym
        have HQC := Lib.hid hqu
        have lQ : (canN Q.natAbs).length ≤ 100 := lenZ_word q0 q1
        have lR : (canN R.natAbs).length ≤ 100 := lenZ_word r0 r1
        have hb0 : (y == 0) = false := by simpa using hy00
        have hb1 : (y == -1) = false := by simpa using hym
        clear hqu
        go_wp2_with fail
        (go_at_call 22; refine (HQC.out _ _ _ (HX.out.zl lx) (HY.out.zl ly)).mono ?_; rintro e w21 ⟨hb_w21, A21, c21, A22, c22, rfl, hc21, hc22, hA21, hA22⟩; have hz_w21 := hb_w21.size; (try simp at hz_w21); (with_reducible apply cel2 (b := w3.heap.size) hb_w21); (focus ((try simp) <;> omega)); (focus omega); (focus (go_simp; try exact rfl)); (focus (go_simp; try exact rfl)); (focus (intro o; go_simp)); intro cc cc fz hl; (with_reducible apply cel2 (b := w3.heap.size + 1) hb_w21); (focus ((try simp) <;> omega)); (focus omega); (focus (go_simp; try exact rfl)); (focus (go_simp; try exact rfl)); (focus (intro o; go_simp)); intro cc cc fz hl; (with_reducible apply cel2 (b := w11.heap.size) hb_w21); (focus ((try simp) <;> omega)); (focus omega); (focus (go_simp; try exact rfl)); (focus (go_simp; try exact rfl)); (focus (intro o; go_simp)); intro cc cc fz hl; (with_reducible apply cel2 (b := w14.heap.size) hb_w21); (focus ((try simp) <;> omega)); (focus omega); (focus (go_simp; try exact rfl)); (focus (go_simp; try exact rfl)); (focus (intro o; go_simp)); intro cc cc fz hl)
        have HQ := Lib.hid (show IsC w21 (.agg #[.bool (decide (Q < 0)), .slice A21 (canN Q.natAbs).length c21]) Q from ⟨A21, c21, rfl, hc21, hA21⟩)
        have HR := Lib.hid (show IsC w21 (.agg #[.bool (decide (R < 0)), .slice A22 (canN R.natAbs).length c22]) R from ⟨A22, c22, rfl, hc22, hA22⟩)
        replace HB := Lib.hid (HB.out.trans (hb_w21.mono hz20))
        have hz21 : w.heap.size ≤ w21.heap.size := by omega
        clear hc21 hc22 hA21 hA22 hb_w21
        go_wp2_with fail
        -- own blocks besides: w21.heap.size:2, w21.heap.size + 1:2
        (refine pin_wp (N := _) (Nat.le_refl _) (fun w22 hb_w22 hz_w22 => ?_); (try simp at hz_w22); (with_reducible apply cel2 (b := w3.heap.size) hb_w22); (focus ((try simp) <;> omega)); (focus omega); (focus (go_simp; try exact rfl)); (focus (go_simp; try exact rfl)); (focus (intro o; go_simp)); intro cc cc fz hl; (with_reducible apply cel2 (b := w3.heap.size + 1) hb_w22); (focus ((try simp) <;> omega)); (focus omega); (focus (go_simp; try exact rfl)); (focus (go_simp; try exact rfl)); (focus (intro o; go_simp)); intro cc cc fz hl; (with_reducible apply cel2 (b := w11.heap.size) hb_w22); (focus ((try simp) <;> omega)); (focus omega); (focus (go_simp; try exact rfl)); (focus (go_simp; try exact rfl)); (focus (intro o; go_simp)); intro cc cc fz hl; (with_reducible apply cel2 (b := w14.heap.size) hb_w22); (focus ((try simp) <;> omega)); (focus omega); (focus (go_simp; try exact rfl)); (focus (go_simp; try exact rfl)); (focus (intro o; go_simp)); intro cc cc fz hl; (with_reducible apply cel2 (b := w21.heap.size) hb_w22); (focus ((try simp) <;> omega)); (focus omega); (focus (go_simp; try exact rfl)); (focus (go_simp; try exact rfl)); (focus (intro o; go_simp)); intro cc cc fz hl; (with_reducible apply cel2 (b := w21.heap.size + 1) hb_w22); (focus ((try simp) <;> omega)); (focus omega); (focus (go_simp; try exact rfl)); (focus (go_simp; try exact rfl)); (focus (intro o; go_simp)); intro cc cc fz hl); refine wp_region_float w22.heap.size 20 (Nat.le_refl _) (fun _ => True) trivial Cl.tt (by kernel_rfl) (by simp) ?_
        have HW22 := Lib.hid (show Below w21.heap.size w21 w22 by ((with_reducible (repeat (first | exact bR _ _ | refine bS ?_ ?_ _ | refine bA ?_ ?_ _ | refine bD ?_ | refine bT ?_ (by assumption) ?_ | refine bO (by assumption) ?_ ?_))) <;> (first | omega | (simp; done) | (simp <;> omega))))
        replace HQ := Lib.hid (HQ.out.below HW22.out)
        replace HR := Lib.hid (HR.out.below HW22.out)
        replace HB := Lib.hid (HB.out.trans (HW22.out.mono hz21))
        have hz22 : w.heap.size ≤ w22.heap.size := by omega
        clear hb_w22 HW22
        refine wpI_start [0, 1, 2, 3, 4, 5, 6] ?_; (iterate 7 (first | (refine wpI_off rfl (by kernel_rfl) rfl (fun K hK => ?_); go_simp; refine hK _ ?_; clear hK K) | ((first | apply wpI_step rfl (by kernel_rfl) rfl | apply wpI_on rfl (by kernel_rfl) rfl); (focus (intro W' hS; have hcS := hS.cells.1; have hfS := hS.cells.2; go_simp; (first | done | exact rfl | exact ⟨rfl, Below.refl _ _⟩ | (go_simp; first | done | exact rfl | exact ⟨rfl, Below.refl _ _⟩)))); intro K hK; go_simp; (try go_bits); refine hK _ ?_; clear hK K))); refine wpI_nil ?_
        apply wpF_call_on (i := 7) rfl (by kernel_rfl) (by kernel_rfl) rfl; intro W hF hS; have hcS := hS.1.cells.1; have hfS := hS.1.cells.2; go_simp; (go_at_call 20; refine (iof_any Q _ (by omega) (by omega)).mono ?_; rintro e w23 ⟨hb_w23, v23, rfl, hv23⟩; refine XPost.mk _ (fun W => IsC W v23 Q) hb_w23 (hv23) (IsC.cl _ _) ?_); clear hb_w23 hcS hfS hS hF
        intro K hK; go_simp; (try go_bits); refine hK _ ?_; clear hK K
        clear hv23
        apply wpF_call_on (i := 8) rfl (by kernel_rfl) (by kernel_rfl) rfl; intro W hF hS; have hcS := hS.1.cells.1; have hfS := hS.1.cells.2; go_simp; (go_at_call 17; refine (icmp_eq 100 _ _ Q Q _ ((HQ.out.below hS.1.2).zl lQ) (hF.zl lQ) (by omega) rfl).mono ?_; rintro e w24 ⟨rfl, hb_w24⟩; refine XPost.mk _ (fun _ => True) hb_w24 (trivial) (Cl.tt) ?_); clear hb_w24 hcS hfS hS hF
        intro K hK; go_simp; (try go_bits); refine hK _ ?_; clear hK K
        refine wpI_start [9, 10, 11, 12, 13, 14, 15] ?_; (iterate 7 (first | (refine wpI_off rfl (by kernel_rfl) rfl (fun K hK => ?_); go_simp; refine hK _ ?_; clear hK K) | ((first | apply wpI_step rfl (by kernel_rfl) rfl | apply wpI_on rfl (by kernel_rfl) rfl); (focus (intro W' hS; have hcS := hS.cells.1; have hfS := hS.cells.2; go_simp; (first | done | exact rfl | exact ⟨rfl, Below.refl _ _⟩ | (go_simp; first | done | exact rfl | exact ⟨rfl, Below.refl _ _⟩)))); intro K hK; go_simp; (try go_bits); refine hK _ ?_; clear hK K))); refine wpI_nil ?_
        apply wpF_call_on (i := 16) rfl (by kernel_rfl) (by kernel_rfl) rfl; intro W hF hS; have hcS := hS.1.cells.1; have hfS := hS.1.cells.2; go_simp; (go_at_call 20; refine (iof_any R _ (by omega) (by omega)).mono ?_; rintro e w25 ⟨hb_w25, v25, rfl, hv25⟩; refine XPost.mk _ (fun W => IsC W v25 R) hb_w25 (hv25) (IsC.cl _ _) ?_); clear hb_w25 hcS hfS hS hF
        intro K hK; go_simp; (try go_bits); refine hK _ ?_; clear hK K
        clear hv25
        apply wpF_call_on (i := 17) rfl (by kernel_rfl) (by kernel_rfl) rfl; intro W hF hS; have hcS := hS.1.cells.1; have hfS := hS.1.cells.2; go_simp; (go_at_call 17; refine (icmp_eq 100 _ _ R R _ ((HR.out.below hS.1.2).zl lR) (hF.2.zl lR) (by omega) rfl).mono ?_; rintro e w26 ⟨rfl, hb_w26⟩; refine XPost.mk _ (fun _ => True) hb_w26 (trivial) (Cl.tt) ?_); clear hb_w26 hcS hfS hS hF
        intro K hK; go_simp; (try go_bits); refine hK _ ?_; clear hK K
        refine wpI_start [18, 19] ?_; (iterate 2 (first | (refine wpI_off rfl (by kernel_rfl) rfl (fun K hK => ?_); go_simp; refine hK _ ?_; clear hK K) | ((first | apply wpI_step rfl (by kernel_rfl) rfl | apply wpI_on rfl (by kernel_rfl) rfl); (focus (intro W' hS; have hcS := hS.cells.1; have hfS := hS.cells.2; go_simp; (first | done | exact rfl | exact ⟨rfl, Below.refl _ _⟩ | (go_simp; first | done | exact rfl | exact ⟨rfl, Below.refl _ _⟩)))); intro K hK; go_simp; (try go_bits); refine hK _ ?_; clear hK K))); refine wpI_nil ?_
        refine wpF_done (by kernel_rfl) ?_
        intro w27 hF_w27 hSG
        have hz_w27 := hSG.1.1
        have hb_w27 := hSG.1.2
        clear hSG
        (with_reducible apply cel2 (b := w3.heap.size) hb_w27); (focus ((try simp) <;> omega)); (focus omega); (focus (go_simp; try exact rfl)); (focus (go_simp; try exact rfl)); (focus (intro o; go_simp)); intro cc cc fz hl; (with_reducible apply cel2 (b := w3.heap.size + 1) hb_w27); (focus ((try simp) <;> omega)); (focus omega); (focus (go_simp; try exact rfl)); (focus (go_simp; try exact rfl)); (focus (intro o; go_simp)); intro cc cc fz hl; (with_reducible apply cel2 (b := w11.heap.size) hb_w27); (focus ((try simp) <;> omega)); (focus omega); (focus (go_simp; try exact rfl)); (focus (go_simp; try exact rfl)); (focus (intro o; go_simp)); intro cc cc fz hl; (with_reducible apply cel2 (b := w14.heap.size) hb_w27); (focus ((try simp) <;> omega)); (focus omega); (focus (go_simp; try exact rfl)); (focus (go_simp; try exact rfl)); (focus (intro o; go_simp)); intro cc cc fz hl; (with_reducible apply cel2 (b := w21.heap.size) hb_w27); (focus ((try simp) <;> omega)); (focus omega); (focus (go_simp; try exact rfl)); (focus (go_simp; try exact rfl)); (focus (intro o; go_simp)); intro cc cc fz hl; (with_reducible apply cel2 (b := w21.heap.size + 1) hb_w27); (focus ((try simp) <;> omega)); (focus omega); (focus (go_simp; try exact rfl)); (focus (go_simp; try exact rfl)); (focus (intro o; go_simp)); intro cc cc fz hl
        (try simp only [List.drop_succ_cons, List.drop_zero])
        go_wp2_with fail
        go_ret
        exact ⟨rfl, HB.out.trans (hb_w27.mono (by omega))⟩
  · by_cases hgt : y < x
    · have dm := hlt
      have C1 : Hid (∀ u v w, IsZ w u 100 x → IsZ w v 100 y → Calls Try.prog 17 #[u, v] w fun e w' => e = .returned (.int .i64 (1)) ∧ Below w.heap.size w w') := Lib.hid (fun u v w h1 h2 => by have h := icmp_any 100 u v x y w h1 h2 (by omega); rwa [show cmpI x y = 1 by unfold cmpI; rw [if_neg hlt, if_pos hgt]] at h)
      go_enter Try.func6, Try.ntmps6; (try simp only [List.append_eq, List.cons_append, List.nil_append])
      go_wp2_with fail
      -- own blocks: 
      (go_at_call 10; refine (awake01_any _).mono ?_; rintro e w1 ⟨rfl, hb_w1⟩; have hz_w1 := hb_w1.size; (try simp at hz_w1); skip)
      go_wp2_with fail
      (go_at_call 20; refine (iof_any x _ (by omega) (by omega)).mono ?_; rintro e w2 ⟨hb_w2, v2, rfl, hv2⟩; have hz_w2 := hb_w2.size; (try simp at hz_w2); skip)
      go_wp2_with fail
      (go_at_call 20; refine (iof_any y _ (by omega) (by omega)).mono ?_; rintro e w3 ⟨hb_w3, v3, rfl, hv3⟩; have hz_w3 := hb_w3.size; (try simp at hz_w3); skip)
      have HX3 := Lib.hid (hv2.below hb_w3)
      have HY3 := Lib.hid hv3
      have HB := Lib.hid (show Below w.heap.size w w3 by ((with_reducible (repeat (first | exact bR _ _ | refine bS ?_ ?_ _ | refine bA ?_ ?_ _ | refine bD ?_ | refine bT ?_ (by assumption) ?_ | refine bO (by assumption) ?_ ?_))) <;> (first | omega | (simp; done) | (simp <;> omega))))
      have hz3 : w.heap.size ≤ w3.heap.size := by omega
      obtain ⟨A2, c2, rfl, hc2, hA2⟩ := hv2
      obtain ⟨A3, c3, rfl, hc3, hA3⟩ := hv3
      clear hc2 hA2 hc3 hA3 hb_w1 hb_w2 hb_w3
      go_wp2_with fail
      -- own blocks besides: w3.heap.size:2, w3.heap.size + 1:2
      have HBA := Lib.hid (((Below.refl w3.heap.size w3).alloc (Nat.le_refl _) (.cells #[.bool (decide (x < 0)), .slice A2 (canN x.natAbs).length c2] 24)).alloc (by simp) (.cells #[.bool (decide (y < 0)), .slice A3 (canN y.natAbs).length c3] 24))
      (refine pin_wp (N := _) (Nat.le_refl _) (fun w4 hb_w4 hz_w4 => ?_); (try simp at hz_w4); (with_reducible apply cel2 (b := w3.heap.size) hb_w4); (focus ((try simp) <;> omega)); (focus omega); (focus (go_simp; try exact rfl)); (focus (go_simp; try exact rfl)); (focus (intro o; go_simp)); intro cc cc fz hl; (with_reducible apply cel2 (b := w3.heap.size + 1) hb_w4); (focus ((try simp) <;> omega)); (focus omega); (focus (go_simp; try exact rfl)); (focus (go_simp; try exact rfl)); (focus (intro o; go_simp)); intro cc cc fz hl); refine wp_region_float w4.heap.size 13 (Nat.le_refl _) (fun _ => True) trivial Cl.tt (by kernel_rfl) (by simp) ?_
      have HW4 := Lib.hid (HBA.out.trans (hb_w4.mono (by simp; omega)))
      have HX := Lib.hid (HX3.out.below HW4.out)
      have HY := Lib.hid (HY3.out.below HW4.out)
      replace HB := Lib.hid (HB.out.trans (HW4.out.mono hz3))
      have hz4 : w.heap.size ≤ w4.heap.size := by omega
      clear hb_w4 HX3 HY3 HBA HW4
      refine wpI_start [0, 1, 2, 3, 4, 5, 6] ?_; (iterate 7 (first | (refine wpI_off rfl (by kernel_rfl) rfl (fun K hK => ?_); go_simp; refine hK _ ?_; clear hK K) | ((first | apply wpI_step rfl (by kernel_rfl) rfl | apply wpI_on rfl (by kernel_rfl) rfl); (focus (intro W' hS; have hcS := hS.cells.1; have hfS := hS.cells.2; go_simp; (first | done | exact rfl | exact ⟨rfl, Below.refl _ _⟩ | (go_at_call 17; exact (C1.out _ _ _ ((HX.out.below hS.2).zl lx) ((HY.out.below hS.2).zl ly)).mono (fun _ _ h => ⟨h.1, h.2⟩)) | (go_simp; first | done | exact rfl | exact ⟨rfl, Below.refl _ _⟩)))); intro K hK; go_simp; (try go_bits); refine hK _ ?_; clear hK K))); refine wpI_nil ?_
      refine wpI_start [9] ?_; (iterate 1 (first | (refine wpI_off rfl (by kernel_rfl) rfl (fun K hK => ?_); go_simp; refine hK _ ?_; clear hK K) | ((first | apply wpI_step rfl (by kernel_rfl) rfl | apply wpI_on rfl (by kernel_rfl) rfl); (focus (intro W' hS; have hcS := hS.cells.1; have hfS := hS.cells.2; go_simp; (first | done | exact rfl | exact ⟨rfl, Below.refl _ _⟩ | (go_simp; first | done | exact rfl | exact ⟨rfl, Below.refl _ _⟩)))); intro K hK; go_simp; (try go_bits); refine hK _ ?_; clear hK K))); refine wpI_nil ?_
      apply wpF_call_on (i := 7) rfl (by kernel_rfl) (by kernel_rfl) rfl; intro W hF hS; have hcS := hS.1.cells.1; have hfS := hS.1.cells.2; go_simp; (go_at_call 28; refine (ineg_any 100 _ x _ ((HX.out.below hS.1.2).zl lx) (by omega)).mono ?_; rintro e w5 ⟨hb_w5, v5, rfl, hv5⟩; refine XPost.mk _ (fun W => IsC W v5 (-x)) hb_w5 (hv5) (IsC.cl _ _) ?_); clear hb_w5 hcS hfS hS hF
      intro K hK; go_simp; (try go_bits); refine hK _ ?_; clear hK K
      clear hv5
      apply wpF_call_on (i := 8) rfl (by kernel_rfl) (by kernel_rfl) rfl; intro W hF hS; have hcS := hS.1.cells.1; have hfS := hS.1.cells.2; go_simp; (go_at_call 28; refine (ineg_any 100 _ (-x) _ (hF.zl (by rw [Int.natAbs_neg]; exact lx)) (by omega)).mono ?_; rintro e w6 ⟨hb_w6, v6, rfl, hv6⟩; refine XPost.mk _ (fun W => IsC W v6 x) hb_w6 (by rwa [Int.neg_neg] at hv6) (IsC.cl _ _) ?_); clear hb_w6 hcS hfS hS hF
      intro K hK; go_simp; (try go_bits); refine hK _ ?_; clear hK K
      clear hv6
      apply wpF_call_on (i := 10) rfl (by kernel_rfl) (by kernel_rfl) rfl; intro W hF hS; have hcS := hS.1.cells.1; have hfS := hS.1.cells.2; go_simp; (go_at_call 17; refine (icmp_eq 100 _ _ x x _ (hF.2.zl lx) ((HX.out.below hS.1.2).zl lx) (by omega) rfl).mono ?_; rintro e w7 ⟨rfl, hb_w7⟩; refine XPost.mk _ (fun _ => True) hb_w7 (trivial) (Cl.tt) ?_); clear hb_w7 hcS hfS hS hF
      intro K hK; go_simp; (try go_bits); refine hK _ ?_; clear hK K
      refine wpI_start [11, 12] ?_; (iterate 2 (first | (refine wpI_off rfl (by kernel_rfl) rfl (fun K hK => ?_); go_simp; refine hK _ ?_; clear hK K) | ((first | apply wpI_step rfl (by kernel_rfl) rfl | apply wpI_on rfl (by kernel_rfl) rfl); (focus (intro W' hS; have hcS := hS.cells.1; have hfS := hS.cells.2; go_simp; (first | done | exact rfl | exact ⟨rfl, Below.refl _ _⟩ | (go_simp; first | done | exact rfl | exact ⟨rfl, Below.refl _ _⟩)))); intro K hK; go_simp; (try go_bits); refine hK _ ?_; clear hK K))); refine wpI_nil ?_
      refine wpF_done (by kernel_rfl) ?_
      intro w8 hF_w8 hSG
      have hz_w8 := hSG.1.1
      have hb_w8 := hSG.1.2
      clear hSG
      (with_reducible apply cel2 (b := w3.heap.size) hb_w8); (focus ((try simp) <;> omega)); (focus omega); (focus (go_simp; try exact rfl)); (focus (go_simp; try exact rfl)); (focus (intro o; go_simp)); intro cc cc fz hl; (with_reducible apply cel2 (b := w3.heap.size + 1) hb_w8); (focus ((try simp) <;> omega)); (focus omega); (focus (go_simp; try exact rfl)); (focus (go_simp; try exact rfl)); (focus (intro o; go_simp)); intro cc cc fz hl
      (try simp only [List.drop_succ_cons, List.drop_zero])
      have HW8 := Lib.hid hb_w8
      replace HX := Lib.hid (HX.out.below HW8.out)
      replace HY := Lib.hid (HY.out.below HW8.out)
      replace HB := Lib.hid (HB.out.trans (HW8.out.mono hz4))
      have hz8 : w.heap.size ≤ w8.heap.size := by omega
      clear hb_w8 hF_w8 HW8
      go_wp2_with fail
      (go_at_call 20; refine (iof_any xa _ (by omega) (by omega)).mono ?_; rintro e w9 ⟨hb_w9, v9, rfl, hv9⟩; have hz_w9 := hb_w9.size; (try simp at hz_w9); (with_reducible apply cel2 (b := w3.heap.size) hb_w9); (focus ((try simp) <;> omega)); (focus omega); (focus (go_simp; try exact rfl)); (focus (go_simp; try exact rfl)); (focus (intro o; go_simp)); intro cc cc fz hl; (with_reducible apply cel2 (b := w3.heap.size + 1) hb_w9); (focus ((try simp) <;> omega)); (focus omega); (focus (go_simp; try exact rfl)); (focus (go_simp; try exact rfl)); (focus (intro o; go_simp)); intro cc cc fz hl)
      have HV9 := Lib.hid hv9
      have HW9 := Lib.hid hb_w9
      clear hv9 hb_w9
      go_wp2_with fail
      (go_at_call 20; refine (iof_any ya _ (by omega) (by omega)).mono ?_; rintro e w10 ⟨hb_w10, v10, rfl, hv10⟩; have hz_w10 := hb_w10.size; (try simp at hz_w10); (with_reducible apply cel2 (b := w3.heap.size) hb_w10); (focus ((try simp) <;> omega)); (focus omega); (focus (go_simp; try exact rfl)); (focus (go_simp; try exact rfl)); (focus (intro o; go_simp)); intro cc cc fz hl; (with_reducible apply cel2 (b := w3.heap.size + 1) hb_w10); (focus ((try simp) <;> omega)); (focus omega); (focus (go_simp; try exact rfl)); (focus (go_simp; try exact rfl)); (focus (intro o; go_simp)); intro cc cc fz hl)
      have HV10 := Lib.hid hv10
      have HV9 := Lib.hid (HV9.out.below hb_w10)
      have HW10 := Lib.hid (HW9.out.trans (hb_w10.mono HW9.out.size))
      clear hv10 hb_w10
      go_wp2_with fail
      (go_at_call 23; refine (HMU.out _ _ _ (HV9.out.zl lxa) (HV10.out.zl lya)).mono ?_; rintro e w11 ⟨hb_w11, A11, c11, rfl, hc11, hA11⟩; have hz_w11 := hb_w11.size; (try simp at hz_w11); (with_reducible apply cel2 (b := w3.heap.size) hb_w11); (focus ((try simp) <;> omega)); (focus omega); (focus (go_simp; try exact rfl)); (focus (go_simp; try exact rfl)); (focus (intro o; go_simp)); intro cc cc fz hl; (with_reducible apply cel2 (b := w3.heap.size + 1) hb_w11); (focus ((try simp) <;> omega)); (focus omega); (focus (go_simp; try exact rfl)); (focus (go_simp; try exact rfl)); (focus (intro o; go_simp)); intro cc cc fz hl)
      have HPP := Lib.hid (show IsC w11 (.agg #[.bool (decide (P < 0)), .slice A11 (canN P.natAbs).length c11]) P from ⟨A11, c11, rfl, hc11, hA11⟩)
      have HW11 := Lib.hid (HW10.out.trans (hb_w11.mono HW10.out.size))
      replace HX := Lib.hid (HX.out.below HW11.out)
      replace HY := Lib.hid (HY.out.below HW11.out)
      replace HB := Lib.hid (HB.out.trans (HW11.out.mono hz8))
      have hz11 : w.heap.size ≤ w11.heap.size := by omega
      clear hc11 hA11 hb_w11 HW9 HW10 HW11 HV9 HV10
      go_wp2_with fail
      -- own blocks besides: w11.heap.size:2
      (go_at_call 20; refine (iof_any xs _ (by omega) (by omega)).mono ?_; rintro e w12 ⟨hb_w12, v12, rfl, hv12⟩; have hz_w12 := hb_w12.size; (try simp at hz_w12); (with_reducible apply cel2 (b := w3.heap.size) hb_w12); (focus ((try simp) <;> omega)); (focus omega); (focus (go_simp; try exact rfl)); (focus (go_simp; try exact rfl)); (focus (intro o; go_simp)); intro cc cc fz hl; (with_reducible apply cel2 (b := w3.heap.size + 1) hb_w12); (focus ((try simp) <;> omega)); (focus omega); (focus (go_simp; try exact rfl)); (focus (go_simp; try exact rfl)); (focus (intro o; go_simp)); intro cc cc fz hl; (with_reducible apply cel2 (b := w11.heap.size) hb_w12); (focus ((try simp) <;> omega)); (focus omega); (focus (go_simp; try exact rfl)); (focus (go_simp; try exact rfl)); (focus (intro o; go_simp)); intro cc cc fz hl)
      have HV12 := Lib.hid hv12
      have HW12 := Lib.hid (show Below w11.heap.size w11 w12 by ((with_reducible (repeat (first | exact bR _ _ | refine bS ?_ ?_ _ | refine bA ?_ ?_ _ | refine bD ?_ | refine bT ?_ (by assumption) ?_ | refine bO (by assumption) ?_ ?_))) <;> (first | omega | (simp; done) | (simp <;> omega))))
      clear hv12 hb_w12
      go_wp2_with fail
      (go_at_call 20; refine (iof_any ys _ (by omega) (by omega)).mono ?_; rintro e w13 ⟨hb_w13, v13, rfl, hv13⟩; have hz_w13 := hb_w13.size; (try simp at hz_w13); (with_reducible apply cel2 (b := w3.heap.size) hb_w13); (focus ((try simp) <;> omega)); (focus omega); (focus (go_simp; try exact rfl)); (focus (go_simp; try exact rfl)); (focus (intro o; go_simp)); intro cc cc fz hl; (with_reducible apply cel2 (b := w3.heap.size + 1) hb_w13); (focus ((try simp) <;> omega)); (focus omega); (focus (go_simp; try exact rfl)); (focus (go_simp; try exact rfl)); (focus (intro o; go_simp)); intro cc cc fz hl; (with_reducible apply cel2 (b := w11.heap.size) hb_w13); (focus ((try simp) <;> omega)); (focus omega); (focus (go_simp; try exact rfl)); (focus (go_simp; try exact rfl)); (focus (intro o; go_simp)); intro cc cc fz hl)
      have HV13 := Lib.hid hv13
      have HV12 := Lib.hid (HV12.out.below hb_w13)
      have HW13 := Lib.hid (HW12.out.trans (hb_w13.mono HW12.out.size))
      clear hv13 hb_w13
      go_wp2_with fail
      (go_at_call 24; refine (HAD.out _ _ _ (HV12.out.zl lxs) (HV13.out.zl lys)).mono ?_; rintro e w14 ⟨hb_w14, A14, c14, rfl, hc14, hA14⟩; have hz_w14 := hb_w14.size; (try simp at hz_w14); (with_reducible apply cel2 (b := w3.heap.size) hb_w14); (focus ((try simp) <;> omega)); (focus omega); (focus (go_simp; try exact rfl)); (focus (go_simp; try exact rfl)); (focus (intro o; go_simp)); intro cc cc fz hl; (with_reducible apply cel2 (b := w3.heap.size + 1) hb_w14); (focus ((try simp) <;> omega)); (focus omega); (focus (go_simp; try exact rfl)); (focus (go_simp; try exact rfl)); (focus (intro o; go_simp)); intro cc cc fz hl; (with_reducible apply cel2 (b := w11.heap.size) hb_w14); (focus ((try simp) <;> omega)); (focus omega); (focus (go_simp; try exact rfl)); (focus (go_simp; try exact rfl)); (focus (intro o; go_simp)); intro cc cc fz hl)
      have HSS := Lib.hid (show IsC w14 (.agg #[.bool (decide (S < 0)), .slice A14 (canN S.natAbs).length c14]) S from ⟨A14, c14, rfl, hc14, hA14⟩)
      have HW14 := Lib.hid (HW13.out.trans (hb_w14.mono HW13.out.size))
      replace HX := Lib.hid (HX.out.below HW14.out)
      replace HY := Lib.hid (HY.out.below HW14.out)
      replace HPP := Lib.hid (HPP.out.below HW14.out)
      replace HB := Lib.hid (HB.out.trans (HW14.out.mono hz11))
      have hz14 : w.heap.size ≤ w14.heap.size := by omega
      clear hc14 hA14 hb_w14 HW12 HW13 HW14 HV12 HV13
      go_wp2_with fail
      -- own blocks besides: w14.heap.size:2
      (refine pin_wp (N := _) (Nat.le_refl _) (fun w15 hb_w15 hz_w15 => ?_); (try simp at hz_w15); (with_reducible apply cel2 (b := w3.heap.size) hb_w15); (focus ((try simp) <;> omega)); (focus omega); (focus (go_simp; try exact rfl)); (focus (go_simp; try exact rfl)); (focus (intro o; go_simp)); intro cc cc fz hl; (with_reducible apply cel2 (b := w3.heap.size + 1) hb_w15); (focus ((try simp) <;> omega)); (focus omega); (focus (go_simp; try exact rfl)); (focus (go_simp; try exact rfl)); (focus (intro o; go_simp)); intro cc cc fz hl; (with_reducible apply cel2 (b := w11.heap.size) hb_w15); (focus ((try simp) <;> omega)); (focus omega); (focus (go_simp; try exact rfl)); (focus (go_simp; try exact rfl)); (focus (intro o; go_simp)); intro cc cc fz hl; (with_reducible apply cel2 (b := w14.heap.size) hb_w15); (focus ((try simp) <;> omega)); (focus omega); (focus (go_simp; try exact rfl)); (focus (go_simp; try exact rfl)); (focus (intro o; go_simp)); intro cc cc fz hl); refine wp_region_float w15.heap.size 28 (Nat.le_refl _) (fun _ => True) trivial Cl.tt (by kernel_rfl) (by simp) ?_
      have HW15 := Lib.hid (show Below w14.heap.size w14 w15 by ((with_reducible (repeat (first | exact bR _ _ | refine bS ?_ ?_ _ | refine bA ?_ ?_ _ | refine bD ?_ | refine bT ?_ (by assumption) ?_ | refine bO (by assumption) ?_ ?_))) <;> (first | omega | (simp; done) | (simp <;> omega))))
      replace HX := Lib.hid (HX.out.below HW15.out)
      replace HY := Lib.hid (HY.out.below HW15.out)
      replace HPP := Lib.hid (HPP.out.below HW15.out)
      replace HSS := Lib.hid (HSS.out.below HW15.out)
      replace HB := Lib.hid (HB.out.trans (HW15.out.mono hz14))
      have hz15 : w.heap.size ≤ w15.heap.size := by omega
      clear hb_w15 HW15
      refine wpI_start [0, 1, 2, 3, 4, 5, 6, 7, 8, 9, 10, 11, 12] ?_; (iterate 13 (first | (refine wpI_off rfl (by kernel_rfl) rfl (fun K hK => ?_); go_simp; refine hK _ ?_; clear hK K) | ((first | apply wpI_step rfl (by kernel_rfl) rfl | apply wpI_on rfl (by kernel_rfl) rfl); (focus (intro W' hS; have hcS := hS.cells.1; have hfS := hS.cells.2; go_simp; (first | done | exact rfl | exact ⟨rfl, Below.refl _ _⟩ | (go_simp; first | done | exact rfl | exact ⟨rfl, Below.refl _ _⟩)))); intro K hK; go_simp; (try go_bits); refine hK _ ?_; clear hK K))); refine wpI_nil ?_
      apply wpF_call_on (i := 13) rfl (by kernel_rfl) (by kernel_rfl) rfl; intro W hF hS; have hcS := hS.1.cells.1; have hfS := hS.1.cells.2; go_simp; (go_at_call 20; refine (iof_any P _ (by omega) (by omega)).mono ?_; rintro e w16 ⟨hb_w16, v16, rfl, hv16⟩; refine XPost.mk _ (fun W => IsC W v16 P) hb_w16 (hv16) (IsC.cl _ _) ?_); clear hb_w16 hcS hfS hS hF
      intro K hK; go_simp; (try go_bits); refine hK _ ?_; clear hK K
      clear hv16
      apply wpF_call_on (i := 14) rfl (by kernel_rfl) (by kernel_rfl) rfl; intro W hF hS; have hcS := hS.1.cells.1; have hfS := hS.1.cells.2; go_simp; (go_at_call 17; refine (icmp_eq 100 _ _ P P _ ((HPP.out.below hS.1.2).zl lP) (hF.zl lP) (by omega) rfl).mono ?_; rintro e w17 ⟨rfl, hb_w17⟩; refine XPost.mk _ (fun _ => True) hb_w17 (trivial) (Cl.tt) ?_); clear hb_w17 hcS hfS hS hF
      intro K hK; go_simp; (try go_bits); refine hK _ ?_; clear hK K
      refine wpI_start [15, 16, 17, 18, 19, 20, 21, 22, 23] ?_; (iterate 9 (first | (refine wpI_off rfl (by kernel_rfl) rfl (fun K hK => ?_); go_simp; refine hK _ ?_; clear hK K) | ((first | apply wpI_step rfl (by kernel_rfl) rfl | apply wpI_on rfl (by kernel_rfl) rfl); (focus (intro W' hS; have hcS := hS.cells.1; have hfS := hS.cells.2; go_simp; (first | done | exact rfl | exact ⟨rfl, Below.refl _ _⟩ | (go_simp; first | done | exact rfl | exact ⟨rfl, Below.refl _ _⟩)))); intro K hK; go_simp; (try go_bits); refine hK _ ?_; clear hK K))); refine wpI_nil ?_
      apply wpF_call_on (i := 24) rfl (by kernel_rfl) (by kernel_rfl) rfl; intro W hF hS; have hcS := hS.1.cells.1; have hfS := hS.1.cells.2; go_simp; (go_at_call 20; refine (iof_any S _ (by omega) (by omega)).mono ?_; rintro e w18 ⟨hb_w18, v18, rfl, hv18⟩; refine XPost.mk _ (fun W => IsC W v18 S) hb_w18 (hv18) (IsC.cl _ _) ?_); clear hb_w18 hcS hfS hS hF
      intro K hK; go_simp; (try go_bits); refine hK _ ?_; clear hK K
      clear hv18
      apply wpF_call_on (i := 25) rfl (by kernel_rfl) (by kernel_rfl) rfl; intro W hF hS; have hcS := hS.1.cells.1; have hfS := hS.1.cells.2; go_simp; (go_at_call 17; refine (icmp_eq 100 _ _ S S _ ((HSS.out.below hS.1.2).zl lS) (hF.2.zl lS) (by omega) rfl).mono ?_; rintro e w19 ⟨rfl, hb_w19⟩; refine XPost.mk _ (fun _ => True) hb_w19 (trivial) (Cl.tt) ?_); clear hb_w19 hcS hfS hS hF
      intro K hK; go_simp; (try go_bits); refine hK _ ?_; clear hK K
      refine wpI_start [26, 27] ?_; (iterate 2 (first | (refine wpI_off rfl (by kernel_rfl) rfl (fun K hK => ?_); go_simp; refine hK _ ?_; clear hK K) | ((first | apply wpI_step rfl (by kernel_rfl) rfl | apply wpI_on rfl (by kernel_rfl) rfl); (focus (intro W' hS; have hcS := hS.cells.1; have hfS := hS.cells.2; go_simp; (first | done | exact rfl | exact ⟨rfl, Below.refl _ _⟩ | (go_simp; first | done | exact rfl | exact ⟨rfl, Below.refl _ _⟩)))); intro K hK; go_simp; (try go_bits); refine hK _ ?_; clear hK K))); refine wpI_nil ?_
      refine wpF_done (by kernel_rfl) ?_
      intro w20 hF_w20 hSG
      have hz_w20 := hSG.1.1
      have hb_w20 := hSG.1.2
      clear hSG
      (with_reducible apply cel2 (b := w3.heap.size) hb_w20); (focus ((try simp) <;> omega)); (focus omega); (focus (go_simp; try exact rfl)); (focus (go_simp; try exact rfl)); (focus (intro o; go_simp)); intro cc cc fz hl; (with_reducible apply cel2 (b := w3.heap.size + 1) hb_w20); (focus ((try simp) <;> omega)); (focus omega); (focus (go_simp; try exact rfl)); (focus (go_simp; try exact rfl)); (focus (intro o; go_simp)); intro cc cc fz hl; (with_reducible apply cel2 (b := w11.heap.size) hb_w20); (focus ((try simp) <;> omega)); (focus omega); (focus (go_simp; try exact rfl)); (focus (go_simp; try exact rfl)); (focus (intro o; go_simp)); intro cc cc fz hl; (with_reducible apply cel2 (b := w14.heap.size) hb_w20); (focus ((try simp) <;> omega)); (focus omega); (focus (go_simp; try exact rfl)); (focus (go_simp; try exact rfl)); (focus (intro o; go_simp)); intro cc cc fz hl
      (try simp only [List.drop_succ_cons, List.drop_zero])
      have HW20 := Lib.hid hb_w20
      replace HX := Lib.hid (HX.out.below HW20.out)
      replace HY := Lib.hid (HY.out.below HW20.out)
      replace HB := Lib.hid (HB.out.trans (HW20.out.mono hz15))
      have hz20 : w.heap.size ≤ w20.heap.size := by omega
      clear hb_w20 hF_w20 HW20 HPP HSS
      by_cases hy00 : y = 0
      · go_wp2_with fail
        (go_at_call 10; refine (awake01_any _).mono ?_; rintro e w21 ⟨rfl, hb_w21⟩; have hz_w21 := hb_w21.size; (try simp at hz_w21); (with_reducible apply cel2 (b := w3.heap.size) hb_w21); (focus ((try simp) <;> omega)); (focus omega); (focus (go_simp; try exact rfl)); (focus (go_simp; try exact rfl)); (focus (intro o; go_simp)); intro cc cc fz hl; (with_reducible apply cel2 (b := w3.heap.size + 1) hb_w21); (focus ((try simp) <;> omega)); (focus omega); (focus (go_simp; try exact rfl)); (focus (go_simp; try exact rfl)); (focus (intro o; go_simp)); intro cc cc fz hl; (with_reducible apply cel2 (b := w11.heap.size) hb_w21); (focus ((try simp) <;> omega)); (focus omega); (focus (go_simp; try exact rfl)); (focus (go_simp; try exact rfl)); (focus (intro o; go_simp)); intro cc cc fz hl; (with_reducible apply cel2 (b := w14.heap.size) hb_w21); (focus ((try simp) <;> omega)); (focus omega); (focus (go_simp; try exact rfl)); (focus (go_simp; try exact rfl)); (focus (intro o; go_simp)); intro cc cc fz hl)
        go_wp2_with fail
        go_ret
        exact ⟨rfl, HB.out.trans (hb_w21.mono (by omega))⟩
      · by_cases hym : y = -1
        · go_wp2_with fail
          (go_at_call 10; refine (awake01_any _).mono ?_; rintro e w21 ⟨rfl, hb_w21⟩; have hz_w21 := hb_w21.size; (try simp at hz_w21); (with_reducible apply cel2 (b := w3.heap.size) hb_w21); (focus ((try simp) <;> omega)); (focus omega); (focus (go_simp; try exact rfl)); (focus (go_simp; try exact rfl)); (focus (intro o; go_simp)); intro cc cc fz hl; (with_reducible apply cel2 (b := w3.heap.size + 1) hb_w21); (focus ((try simp) <;> omega)); (focus omega); (focus (go_simp; try exact rfl)); (focus (go_simp; try exact rfl)); (focus (intro o; go_simp)); intro cc cc fz hl; (with_reducible apply cel2 (b := w11.heap.size) hb_w21); (focus ((try simp) <;> omega)); (focus omega); (focus (go_simp; try exact rfl)); (focus (go_simp; try exact rfl)); (focus (intro o; go_simp)); intro cc cc fz hl; (with_reducible apply cel2 (b := w14.heap.size) hb_w21); (focus ((try simp) <;> omega)); (focus omega); (focus (go_simp; try exact rfl)); (focus (go_simp; try exact rfl)); (focus (intro o; go_simp)); intro cc cc fz hl)
          go_wp2_with fail
          go_ret
          exact ⟨rfl, HB.out.trans (hb_w21.mono (by omega))⟩
        · obtain ⟨Q, R, hQ, hR, q0, q1, r0, r1, hqu⟩ := HQU.out hy00 hym
          have HQC := Lib.hid hqu
          have lQ : (canN Q.natAbs).length ≤ 100 := lenZ_word q0 q1
          have lR : (canN R.natAbs).length ≤ 100 := lenZ_word r0 r1
          have hb0 : (y == 0) = false := by simpa using hy00
          have hb1 : (y == -1) = false := by simpa using hym
          clear hqu
          go_wp2_with fail
          (go_at_call 22; refine (HQC.out _ _ _ (HX.out.zl lx) (HY.out.zl ly)).mono ?_; rintro e w21 ⟨hb_w21, A21, c21, A22, c22, rfl, hc21, hc22, hA21, hA22⟩; have hz_w21 := hb_w21.size; (try simp at hz_w21); (with_reducible apply cel2 (b := w3.heap.size) hb_w21); (focus ((try simp) <;> omega)); (focus omega); (focus (go_simp; try exact rfl)); (focus (go_simp; try exact rfl)); (focus (intro o; go_simp)); intro cc cc fz hl; (with_reducible apply cel2 (b := w3.heap.size + 1) hb_w21); (focus ((try simp) <;> omega)); (focus omega); (focus (go_simp; try exact rfl)); (focus (go_simp; try exact rfl)); (focus (intro o; go_simp)); intro cc cc fz hl; (with_reducible apply cel2 (b := w11.heap.size) hb_w21); (focus ((try simp) <;> omega)); (focus omega); (focus (go_simp; try exact rfl)); (focus (go_simp; try exact rfl)); (focus (intro o; go_simp)); intro cc cc fz hl; (with_reducible apply cel2 (b := w14.heap.size) hb_w21); (focus ((try simp) <;> omega)); (focus omega); (focus (go_simp; try exact rfl)); (focus (go_simp; try exact rfl)); (focus (intro o; go_simp)); intro cc cc fz hl)
          have HQ := Lib.hid (show IsC w21 (.agg #[.bool (decide (Q < 0)), .slice A21 (canN Q.natAbs).length c21]) Q from ⟨A21, c21, rfl, hc21, hA21⟩)
          have HR := Lib.hid (show IsC w21 (.agg #[.bool (decide (R < 0)), .slice A22 (canN R.natAbs).length c22]) R from ⟨A22, c22, rfl, hc22, hA22⟩)
          replace HB := Lib.hid (HB.out.trans (hb_w21.mono hz20))
          have hz21 : w.heap.size ≤ w21.heap.size := by omega
          clear hc21 hc22 hA21 hA22 hb_w21
          go_wp2_with fail
          -- own blocks besides: w21.heap.size:2, w21.heap.size + 1:2
          (refine pin_wp (N := _) (Nat.le_refl _) (fun w22 hb_w22 hz_w22 => ?_); (try simp at hz_w22); (with_reducible apply cel2 (b := w3.heap.size) hb_w22); (focus ((try simp) <;> omega)); (focus omega); (focus (go_simp; try exact rfl)); (focus (go_simp; try exact rfl)); (focus (intro o; go_simp)); intro cc cc fz hl; (with_reducible apply cel2 (b := w3.heap.size + 1) hb_w22); (focus ((try simp) <;> omega)); (focus omega); (focus (go_simp; try exact rfl)); (focus (go_simp; try exact rfl)); (focus (intro o; go_simp)); intro cc cc fz hl; (with_reducible apply cel2 (b := w11.heap.size) hb_w22); (focus ((try simp) <;> omega)); (focus omega); (focus (go_simp; try exact rfl)); (focus (go_simp; try exact rfl)); (focus (intro o; go_simp)); intro cc cc fz hl; (with_reducible apply cel2 (b := w14.heap.size) hb_w22); (focus ((try simp) <;> omega)); (focus omega); (focus (go_simp; try exact rfl)); (focus (go_simp; try exact rfl)); (focus (intro o; go_simp)); intro cc cc fz hl; (with_reducible apply cel2 (b := w21.heap.size) hb_w22); (focus ((try simp) <;> omega)); (focus omega); (focus (go_simp; try exact rfl)); (focus (go_simp; try exact rfl)); (focus (intro o; go_simp)); intro cc cc fz hl; (with_reducible apply cel2 (b := w21.heap.size + 1) hb_w22); (focus ((try simp) <;> omega)); (focus omega); (focus (go_simp; try exact rfl)); (focus (go_simp; try exact rfl)); (focus (intro o; go_simp)); intro cc cc fz hl); refine wp_region_float w22.heap.size 20 (Nat.le_refl _) (fun _ => True) trivial Cl.tt (by kernel_rfl) (by simp) ?_
          have HW22 := Lib.hid (show Below w21.heap.size w21 w22 by ((with_reducible (repeat (first | exact bR _ _ | refine bS ?_ ?_ _ | refine bA ?_ ?_ _ | refine bD ?_ | refine bT ?_ (by assumption) ?_ | refine bO (by assumption) ?_ ?_))) <;> (first | omega | (simp; done) | (simp <;> omega))))
          replace HQ := Lib.hid (HQ.out.below HW22.out)
          replace HR := Lib.hid (HR.out.below HW22.out)
          replace HB := Lib.hid (HB.out.trans (HW22.out.mono hz21))
          have hz22 : w.heap.size ≤ w22.heap.size := by omega
          clear hb_w22 HW22
          refine wpI_start [0, 1, 2, 3, 4, 5, 6] ?_; (iterate 7 (first | (refine wpI_off rfl (by kernel_rfl) rfl (fun K hK => ?_); go_simp; refine hK _ ?_; clear hK K) | ((first | apply wpI_step rfl (by kernel_rfl) rfl | apply wpI_on rfl (by kernel_rfl) rfl); (focus (intro W' hS; have hcS := hS.cells.1; have hfS := hS.cells.2; go_simp; (first | done | exact rfl | exact ⟨rfl, Below.refl _ _⟩ | (go_simp; first | done | exact rfl | exact ⟨rfl, Below.refl _ _⟩)))); intro K hK; go_simp; (try go_bits); refine hK _ ?_; clear hK K))); refine wpI_nil ?_
          apply wpF_call_on (i := 7) rfl (by kernel_rfl) (by kernel_rfl) rfl; intro W hF hS; have hcS := hS.1.cells.1; have hfS := hS.1.cells.2; go_simp; (go_at_call 20; refine (iof_any Q _ (by omega) (by omega)).mono ?_; rintro e w23 ⟨hb_w23, v23, rfl, hv23⟩; refine XPost.mk _ (fun W => IsC W v23 Q) hb_w23 (hv23) (IsC.cl _ _) ?_); clear hb_w23 hcS hfS hS hF
          intro K hK; go_simp; (try go_bits); refine hK _ ?_; clear hK K
          clear hv23
          apply wpF_call_on (i := 8) rfl (by kernel_rfl) (by kernel_rfl) rfl; intro W hF hS; have hcS := hS.1.cells.1; have hfS := hS.1.cells.2; go_simp; (go_at_call 17; refine (icmp_eq 100 _ _ Q Q _ ((HQ.out.below hS.1.2).zl lQ) (hF.zl lQ) (by omega) rfl).mono ?_; rintro e w24 ⟨rfl, hb_w24⟩; refine XPost.mk _ (fun _ => True) hb_w24 (trivial) (Cl.tt) ?_); clear hb_w24 hcS hfS hS hF
          intro K hK; go_simp; (try go_bits); refine hK _ ?_; clear hK K
          refine wpI_start [9, 10, 11, 12, 13, 14, 15] ?_; (iterate 7 (first | (refine wpI_off rfl (by kernel_rfl) rfl (fun K hK => ?_); go_simp; refine hK _ ?_; clear hK K) | ((first | apply wpI_step rfl (by kernel_rfl) rfl | apply wpI_on rfl (by kernel_rfl) rfl); (focus (intro W' hS; have hcS := hS.cells.1; have hfS := hS.cells.2; go_simp; (first | done | exact rfl | exact ⟨rfl, Below.refl _ _⟩ | (go_simp; first | done | exact rfl | exact ⟨rfl, Below.refl _ _⟩)))); intro K hK; go_simp; (try go_bits); refine hK _ ?_; clear hK K))); refine wpI_nil ?_
          apply wpF_call_on (i := 16) rfl (by kernel_rfl) (by kernel_rfl) rfl; intro W hF hS; have hcS := hS.1.cells.1; have hfS := hS.1.cells.2; go_simp; (go_at_call 20; refine (iof_any R _ (by omega) (by omega)).mono ?_; rintro e w25 ⟨hb_w25, v25, rfl, hv25⟩; refine XPost.mk _ (fun W => IsC W v25 R) hb_w25 (hv25) (IsC.cl _ _) ?_); clear hb_w25 hcS hfS hS hF
          intro K hK; go_simp; (try go_bits); refine hK _ ?_; clear hK K
          clear hv25
          apply wpF_call_on (i := 17) rfl (by kernel_rfl) (by kernel_rfl) rfl; intro W hF hS; have hcS := hS.1.cells.1; have hfS := hS.1.cells.2; go_simp; (go_at_call 17; refine (icmp_eq 100 _ _ R R _ ((HR.out.below hS.1.2).zl lR) (hF.2.zl lR) (by omega) rfl).mono ?_; rintro e w26 ⟨rfl, hb_w26⟩; refine XPost.mk _ (fun _ => True) hb_w26 (trivial) (Cl.tt) ?_); clear hb_w26 hcS hfS hS hF
          intro K hK; go_simp; (try go_bits); refine hK _ ?_; clear hK K
          refine wpI_start [18, 19] ?_; (iterate 2 (first | (refine wpI_off rfl (by kernel_rfl) rfl (fun K hK => ?_); go_simp; refine hK _ ?_; clear hK K) | ((first | apply wpI_step rfl (by kernel_rfl) rfl | apply wpI_on rfl (by kernel_rfl) rfl); (focus (intro W' hS; have hcS := hS.cells.1; have hfS := hS.cells.2; go_simp; (first | done | exact rfl | exact ⟨rfl, Below.refl _ _⟩ | (go_simp; first | done | exact rfl | exact ⟨rfl, Below.refl _ _⟩)))); intro K hK; go_simp; (try go_bits); refine hK _ ?_; clear hK K))); refine wpI_nil ?_
          refine wpF_done (by kernel_rfl) ?_
          intro w27 hF_w27 hSG
          have hz_w27 := hSG.1.1
          have hb_w27 := hSG.1.2
          clear hSG
          (with_reducible apply cel2 (b := w3.heap.size) hb_w27); (focus ((try simp) <;> omega)); (focus omega); (focus (go_simp; try exact rfl)); (focus (go_simp; try exact rfl)); (focus (intro o; go_simp)); intro cc cc fz hl; (with_reducible apply cel2 (b := w3.heap.size + 1) hb_w27); (focus ((try simp) <;> omega)); (focus omega); (focus (go_simp; try exact rfl)); (focus (go_simp; try exact rfl)); (focus (intro o; go_simp)); intro cc cc fz hl; (with_reducible apply cel2 (b := w11.heap.size) hb_w27); (focus ((try simp) <;> omega)); (focus omega); (focus (go_simp; try exact rfl)); (focus (go_simp; try exact rfl)); (focus (intro o; go_simp)); intro cc cc fz hl; (with_reducible apply cel2 (b := w14.heap.size) hb_w27); (focus ((try simp) <;> omega)); (focus omega); (focus (go_simp; try exact rfl)); (focus (go_simp; try exact rfl)); (focus (intro o; go_simp)); intro cc cc fz hl; (with_reducible apply cel2 (b := w21.heap.size) hb_w27); (focus ((try simp) <;> omega)); (focus omega); (focus (go_simp; try exact rfl)); (focus (go_simp; try exact rfl)); (focus (intro o; go_simp)); intro cc cc fz hl; (with_reducible apply cel2 (b := w21.heap.size + 1) hb_w27); (focus ((try simp) <;> omega)); (focus omega); (focus (go_simp; try exact rfl)); (focus (go_simp; try exact rfl)); (focus (intro o; go_simp)); intro cc cc fz hl
          (try simp only [List.drop_succ_cons, List.drop_zero])
          go_wp2_with fail
          go_ret
          exact ⟨rfl, HB.out.trans (hb_w27.mono (by omega))⟩
    · have dm := hlt
      have C1 : Hid (∀ u v w, IsZ w u 100 x → IsZ w v 100 y → Calls Try.prog 17 #[u, v] w fun e w' => e = .returned (.int .i64 (0)) ∧ Below w.heap.size w w') := Lib.hid (fun u v w h1 h2 => by have h := icmp_any 100 u v x y w h1 h2 (by omega); rwa [show cmpI x y = 0 by unfold cmpI; rw [if_neg hlt, if_neg hgt]] at h)
      go_enter Try.func6, Try.ntmps6; (try simp only [List.append_eq, List.cons_append, List.nil_append])
      go_wp2_with fail
      -- own blocks: 
      (go_at_call 10; refine (awake01_any _).mono ?_; rintro e w1 ⟨rfl, hb_w1⟩; have hz_w1 := hb_w1.size; (try simp at hz_w1); skip)
      go_wp2_with fail
      (go_at_call 20; refine (iof_any x _ (by omega) (by omega)).mono ?_; rintro e w2 ⟨hb_w2, v2, rfl, hv2⟩; have hz_w2 := hb_w2.size; (try simp at hz_w2); skip)
      go_wp2_with fail
      (go_at_call 20; refine (iof_any y _ (by omega) (by omega)).mono ?_; rintro e w3 ⟨hb_w3, v3, rfl, hv3⟩; have hz_w3 := hb_w3.size; (try simp at hz_w3); skip)
      have HX3 := Lib.hid (hv2.below hb_w3)
      have HY3 := Lib.hid hv3
      have HB := Lib.hid (show Below w.heap.size w w3 by ((with_reducible (repeat (first | exact bR _ _ | refine bS ?_ ?_ _ | refine bA ?_ ?_ _ | refine bD ?_ | refine bT ?_ (by assumption) ?_ | refine bO (by assumption) ?_ ?_))) <;> (first | omega | (simp; done) | (simp <;> omega))))
      have hz3 : w.heap.size ≤ w3.heap.size := by omega
      obtain ⟨A2, c2, rfl, hc2, hA2⟩ := hv2
      obtain ⟨A3, c3, rfl, hc3, hA3⟩ := hv3
      clear hc2 hA2 hc3 hA3 hb_w1 hb_w2 hb_w3
      go_wp2_with fail
      -- own blocks besides: w3.heap.size:2, w3.heap.size + 1:2
      have HBA := Lib.hid (((Below.refl w3.heap.size w3).alloc (Nat.le_refl _) (.cells #[.bool (decide (x < 0)), .slice A2 (canN x.natAbs).length c2] 24)).alloc (by simp) (.cells #[.bool (decide (y < 0)), .slice A3 (canN y.natAbs).length c3] 24))
      (refine pin_wp (N := _) (Nat.le_refl _) (fun w4 hb_w4 hz_w4 => ?_); (try simp at hz_w4); (with_reducible apply cel2 (b := w3.heap.size) hb_w4); (focus ((try simp) <;> omega)); (focus omega); (focus (go_simp; try exact rfl)); (focus (go_simp; try exact rfl)); (focus (intro o; go_simp)); intro cc cc fz hl; (with_reducible apply cel2 (b := w3.heap.size + 1) hb_w4); (focus ((try simp) <;> omega)); (focus omega); (focus (go_simp; try exact rfl)); (focus (go_simp; try exact rfl)); (focus (intro o; go_simp)); intro cc cc fz hl); refine wp_region_float w4.heap.size 13 (Nat.le_refl _) (fun _ => True) trivial Cl.tt (by kernel_rfl) (by simp) ?_
      have HW4 := Lib.hid (HBA.out.trans (hb_w4.mono (by simp; omega)))
      have HX := Lib.hid (HX3.out.below HW4.out)
      have HY := Lib.hid (HY3.out.below HW4.out)
      replace HB := Lib.hid (HB.out.trans (HW4.out.mono hz3))
      have hz4 : w.heap.size ≤ w4.heap.size := by omega
      clear hb_w4 HX3 HY3 HBA HW4
      refine wpI_start [0, 1, 2, 3, 4, 5, 6] ?_; (iterate 7 (first | (refine wpI_off rfl (by kernel_rfl) rfl (fun K hK => ?_); go_simp; refine hK _ ?_; clear hK K) | ((first | apply wpI_step rfl (by kernel_rfl) rfl | apply wpI_on rfl (by kernel_rfl) rfl); (focus (intro W' hS; have hcS := hS.cells.1; have hfS := hS.cells.2; go_simp; (first | done | exact rfl | exact ⟨rfl, Below.refl _ _⟩ | (go_at_call 17; exact (C1.out _ _ _ ((HX.out.below hS.2).zl lx) ((HY.out.below hS.2).zl ly)).mono (fun _ _ h => ⟨h.1, h.2⟩)) | (go_simp; first | done | exact rfl | exact ⟨rfl, Below.refl _ _⟩)))); intro K hK; go_simp; (try go_bits); refine hK _ ?_; clear hK K))); refine wpI_nil ?_
      refine wpI_start [9] ?_; (iterate 1 (first | (refine wpI_off rfl (by kernel_rfl) rfl (fun K hK => ?_); go_simp; refine hK _ ?_; clear hK K) | ((first | apply wpI_step rfl (by kernel_rfl) rfl | apply wpI_on rfl (by kernel_rfl) rfl); (focus (intro W' hS; have hcS := hS.cells.1; have hfS := hS.cells.2; go_simp; (first | done | exact rfl | exact ⟨rfl, Below.refl _ _⟩ | (go_simp; first | done | exact rfl | exact ⟨rfl, Below.refl _ _⟩)))); intro K hK; go_simp; (try go_bits); refine hK _ ?_; clear hK K))); refine wpI_nil ?_
      apply wpF_call_on (i := 7) rfl (by kernel_rfl) (by kernel_rfl) rfl; intro W hF hS; have hcS := hS.1.cells.1; have hfS := hS.1.cells.2; go_simp; (go_at_call 28; refine (ineg_any 100 _ x _ ((HX.out.below hS.1.2).zl lx) (by omega)).mono ?_; rintro e w5 ⟨hb_w5, v5, rfl, hv5⟩; refine XPost.mk _ (fun W => IsC W v5 (-x)) hb_w5 (hv5) (IsC.cl _ _) ?_); clear hb_w5 hcS hfS hS hF
      intro K hK; go_simp; (try go_bits); refine hK _ ?_; clear hK K
      clear hv5
      apply wpF_call_on (i := 8) rfl (by kernel_rfl) (by kernel_rfl) rfl; intro W hF hS; have hcS := hS.1.cells.1; have hfS := hS.1.cells.2; go_simp; (go_at_call 28; refine (ineg_any 100 _ (-x) _ (hF.zl (by rw [Int.natAbs_neg]; exact lx)) (by omega)).mono ?_; rintro e w6 ⟨hb_w6, v6, rfl, hv6⟩; refine XPost.mk _ (fun W => IsC W v6 x) hb_w6 (by rwa [Int.neg_neg] at hv6) (IsC.cl _ _) ?_); clear hb_w6 hcS hfS hS hF
      intro K hK; go_simp; (try go_bits); refine hK _ ?_; clear hK K
      clear hv6
      apply wpF_call_on (i := 10) rfl (by kernel_rfl) (by kernel_rfl) rfl; intro W hF hS; have hcS := hS.1.cells.1; have hfS := hS.1.cells.2; go_simp; (go_at_call 17; refine (icmp_eq 100 _ _ x x _ (hF.2.zl lx) ((HX.out.below hS.1.2).zl lx) (by omega) rfl).mono ?_; rintro e w7 ⟨rfl, hb_w7⟩; refine XPost.mk _ (fun _ => True) hb_w7 (trivial) (Cl.tt) ?_); clear hb_w7 hcS hfS hS hF
      intro K hK; go_simp; (try go_bits); refine hK _ ?_; clear hK K
      refine wpI_start [11, 12] ?_; (iterate 2 (first | (refine wpI_off rfl (by kernel_rfl) rfl (fun K hK => ?_); go_simp; refine hK _ ?_; clear hK K) | ((first | apply wpI_step rfl (by kernel_rfl) rfl | apply wpI_on rfl (by kernel_rfl) rfl); (focus (intro W' hS; have hcS := hS.cells.1; have hfS := hS.cells.2; go_simp; (first | done | exact rfl | exact ⟨rfl, Below.refl _ _⟩ | (go_simp; first | done | exact rfl | exact ⟨rfl, Below.refl _ _⟩)))); intro K hK; go_simp; (try go_bits); refine hK _ ?_; clear hK K))); refine wpI_nil ?_
      refine wpF_done (by kernel_rfl) ?_
      intro w8 hF_w8 hSG
      have hz_w8 := hSG.1.1
      have hb_w8 := hSG.1.2
      clear hSG
      (with_reducible apply cel2 (b := w3.heap.size) hb_w8); (focus ((try simp) <;> omega)); (focus omega); (focus (go_simp; try exact rfl)); (focus (go_simp; try exact rfl)); (focus (intro o; go_simp)); intro cc cc fz hl; (with_reducible apply cel2 (b := w3.heap.size + 1) hb_w8); (focus ((try simp) <;> omega)); (focus omega); (focus (go_simp; try exact rfl)); (focus (go_simp; try exact rfl)); (focus (intro o; go_simp)); intro cc cc fz hl
      (try simp only [List.drop_succ_cons, List.drop_zero])
      have HW8 := Lib.hid hb_w8
      replace HX := Lib.hid (HX.out.below HW8.out)
      replace HY := Lib.hid (HY.out.below HW8.out)
      replace HB := Lib.hid (HB.out.trans (HW8.out.mono hz4))
      have hz8 : w.heap.size ≤ w8.heap.size := by omega
      clear hb_w8 hF_w8 HW8
      go_wp2_with fail
      (go_at_call 20; refine (iof_any xa _ (by omega) (by omega)).mono ?_; rintro e w9 ⟨hb_w9, v9, rfl, hv9⟩; have hz_w9 := hb_w9.size; (try simp at hz_w9); (with_reducible apply cel2 (b := w3.heap.size) hb_w9); (focus ((try simp) <;> omega)); (focus omega); (focus (go_simp; try exact rfl)); (focus (go_simp; try exact rfl)); (focus (intro o; go_simp)); intro cc cc fz hl; (with_reducible apply cel2 (b := w3.heap.size + 1) hb_w9); (focus ((try simp) <;> omega)); (focus omega); (focus (go_simp; try exact rfl)); (focus (go_simp; try exact rfl)); (focus (intro o; go_simp)); intro cc cc fz hl)
      have HV9 := Lib.hid hv9
      have HW9 := Lib.hid hb_w9
      clear hv9 hb_w9
      go_wp2_with fail
      (go_at_call 20; refine (iof_any ya _ (by omega) (by omega)).mono ?_; rintro e w10 ⟨hb_w10, v10, rfl, hv10⟩; have hz_w10 := hb_w10.size; (try simp at hz_w10); (with_reducible apply cel2 (b := w3.heap.size) hb_w10); (focus ((try simp) <;> omega)); (focus omega); (focus (go_simp; try exact rfl)); (focus (go_simp; try exact rfl)); (focus (intro o; go_simp)); intro cc cc fz hl; (with_reducible apply cel2 (b := w3.heap.size + 1) hb_w10); (focus ((try simp) <;> omega)); (focus omega); (focus (go_simp; try exact rfl)); (focus (go_simp; try exact rfl)); (focus (intro o; go_simp)); intro cc cc fz hl)
      have HV10 := Lib.hid hv10
      have HV9 := Lib.hid (HV9.out.below hb_w10)
      have HW10 := Lib.hid (HW9.out.trans (hb_w10.mono HW9.out.size))
      clear hv10 hb_w10
      go_wp2_with fail
      (go_at_call 23; refine (HMU.out _ _ _ (HV9.out.zl lxa) (HV10.out.zl lya)).mono ?_; rintro e w11 ⟨hb_w11, A11, c11, rfl, hc11, hA11⟩; have hz_w11 := hb_w11.size; (try simp at hz_w11); (with_reducible apply cel2 (b := w3.heap.size) hb_w11); (focus ((try simp) <;> omega)); (focus omega); (focus (go_simp; try exact rfl)); (focus (go_simp; try exact rfl)); (focus (intro o; go_simp)); intro cc cc fz hl; (with_reducible apply cel2 (b := w3.heap.size + 1) hb_w11); (focus ((try simp) <;> omega)); (focus omega); (focus (go_simp; try exact rfl)); (focus (go_simp; try exact rfl)); (focus (intro o; go_simp)); intro cc cc fz hl)
      have HPP := Lib.hid (show IsC w11 (.agg #[.bool (decide (P < 0)), .slice A11 (canN P.natAbs).length c11]) P from ⟨A11, c11, rfl, hc11, hA11⟩)
      have HW11 := Lib.hid (HW10.out.trans (hb_w11.mono HW10.out.size))
      replace HX := Lib.hid (HX.out.below HW11.out)
      replace HY := Lib.hid (HY.out.below HW11.out)
      replace HB := Lib.hid (HB.out.trans (HW11.out.mono hz8))
      have hz11 : w.heap.size ≤ w11.heap.size := by omega
      clear hc11 hA11 hb_w11 HW9 HW10 HW11 HV9 HV10
      go_wp2_with fail
      -- own blocks besides: w11.heap.size:2
      (go_at_call 20; refine (iof_any xs _ (by omega) (by omega)).mono ?_; rintro e w12 ⟨hb_w12, v12, rfl, hv12⟩; have hz_w12 := hb_w12.size; (try simp at hz_w12); (with_reducible apply cel2 (b := w3.heap.size) hb_w12); (focus ((try simp) <;> omega)); (focus omega); (focus (go_simp; try exact rfl)); (focus (go_simp; try exact rfl)); (focus (intro o; go_simp)); intro cc cc fz hl; (with_reducible apply cel2 (b := w3.heap.size + 1) hb_w12); (focus ((try simp) <;> omega)); (focus omega); (focus (go_simp; try exact rfl)); (focus (go_simp; try exact rfl)); (focus (intro o; go_simp)); intro cc cc fz hl; (with_reducible apply cel2 (b := w11.heap.size) hb_w12); (focus ((try simp) <;> omega)); (focus omega); (focus (go_simp; try exact rfl)); (focus (go_simp; try exact rfl)); (focus (intro o; go_simp)); intro cc cc fz hl)
      have HV12 := Lib.hid hv12
      have HW12 := Lib.hid (show Below w11.heap.size w11 w12 by ((with_reducible (repeat (first | exact bR _ _ | refine bS ?_ ?_ _ | refine bA ?_ ?_ _ | refine bD ?_ | refine bT ?_ (by assumption) ?_ | refine bO (by assumption) ?_ ?_))) <;> (first | omega | (simp; done) | (simp <;> omega))))
      clear hv12 hb_w12
      go_wp2_with fail
      (go_at_call 20; refine (iof_any ys _ (by omega) (by omega)).mono ?_; rintro e w13 ⟨hb_w13, v13, rfl, hv13⟩; have hz_w13 := hb_w13.size; (try simp at hz_w13); (with_reducible apply cel2 (b := w3.heap.size) hb_w13); (focus ((try simp) <;> omega)); (focus omega); (focus (go_simp; try exact rfl)); (focus (go_simp; try exact rfl)); (focus (intro o; go_simp)); intro cc cc fz hl; (with_reducible apply cel2 (b := w3.heap.size + 1) hb_w13); (focus ((try simp) <;> omega)); (focus omega); (focus (go_simp; try exact rfl)); (focus (go_simp; try exact rfl)); (focus (intro o; go_simp)); intro cc cc fz hl; (with_reducible apply cel2 (b := w11.heap.size) hb_w13); (focus ((try simp) <;> omega)); (focus omega); (focus (go_simp; try exact rfl)); (focus (go_simp; try exact rfl)); (focus (intro o; go_simp)); intro cc cc fz hl)
      have HV13 := Lib.hid hv13
      have HV12 := Lib.hid (HV12.out.below hb_w13)
      have HW13 := Lib.hid (HW12.out.trans (hb_w13.mono HW12.out.size))
      clear hv13 hb_w13
      go_wp2_with fail
      (go_at_call 24; refine (HAD.out _ _ _ (HV12.out.zl lxs) (HV13.out.zl lys)).mono ?_; rintro e w14 ⟨hb_w14, A14, c14, rfl, hc14, hA14⟩; have hz_w14 := hb_w14.size; (try simp at hz_w14); (with_reducible apply cel2 (b := w3.heap.size) hb_w14); (focus ((try simp) <;> omega)); (focus omega); (focus (go_simp; try exact rfl)); (focus (go_simp; try exact rfl)); (focus (intro o; go_simp)); intro cc cc fz hl; (with_reducible apply cel2 (b := w3.heap.size + 1) hb_w14); (focus ((try simp) <;> omega)); (focus omega); (focus (go_simp; try exact rfl)); (focus (go_simp; try exact rfl)); (focus (intro o; go_simp)); intro cc cc fz hl; (with_reducible apply cel2 (b := w11.heap.size) hb_w14); (focus ((try simp) <;> omega)); (focus omega); (focus (go_simp; try exact rfl)); (focus (go_simp; try exact rfl)); (focus (intro o; go_simp)); intro cc cc fz hl)
      have HSS := Lib.hid (show IsC w14 (.agg #[.bool (decide (S < 0)), .slice A14 (canN S.natAbs).length c14]) S from ⟨A14, c14, rfl, hc14, hA14⟩)
      have HW14 := Lib.hid (HW13.out.trans (hb_w14.mono HW13.out.size))
      replace HX := Lib.hid (HX.out.below HW14.out)
      replace HY := Lib.hid (HY.out.below HW14.out)
      replace HPP := Lib.hid (HPP.out.below HW14.out)
      replace HB := Lib.hid (HB.out.trans (HW14.out.mono hz11))
      have hz14 : w.heap.size ≤ w14.heap.size := by omega
      clear hc14 hA14 hb_w14 HW12 HW13 HW14 HV12 HV13
      go_wp2_with fail
      -- own blocks besides: w14.heap.size:2
      (refine pin_wp (N := _) (Nat.le_refl _) (fun w15 hb_w15 hz_w15 => ?_); (try simp at hz_w15); (with_reducible apply cel2 (b := w3.heap.size) hb_w15); (focus ((try simp) <;> omega)); (focus omega); (focus (go_simp; try exact rfl)); (focus (go_simp; try exact rfl)); (focus (intro o; go_simp)); intro cc cc fz hl; (with_reducible apply cel2 (b := w3.heap.size + 1) hb_w15); (focus ((try simp) <;> omega)); (focus omega); (focus (go_simp; try exact rfl)); (focus (go_simp; try exact rfl)); (focus (intro o; go_simp)); intro cc cc fz hl; (with_reducible apply cel2 (b := w11.heap.size) hb_w15); (focus ((try simp) <;> omega)); (focus omega); (focus (go_simp; try exact rfl)); (focus (go_simp; try exact rfl)); (focus (intro o; go_simp)); intro cc cc fz hl; (with_reducible apply cel2 (b := w14.heap.size) hb_w15); (focus ((try simp) <;> omega)); (focus omega); (focus (go_simp; try exact rfl)); (focus (go_simp; try exact rfl)); (focus (intro o; go_simp)); intro cc cc fz hl); refine wp_region_float w15.heap.size 28 (Nat.le_refl _) (fun _ => True) trivial Cl.tt (by kernel_rfl) (by simp) ?_
      have HW15 := Lib.hid (show Below w14.heap.size w14 w15 by ((with_reducible (repeat (first | exact bR _ _ | refine bS ?_ ?_ _ | refine bA ?_ ?_ _ | refine bD ?_ | refine bT ?_ (by assumption) ?_ | refine bO (by assumption) ?_ ?_))) <;> (first | omega | (simp; done) | (simp <;> omega))))
      replace HX := Lib.hid (HX.out.below HW15.out)
      replace HY := Lib.hid (HY.out.below HW15.out)
      replace HPP := Lib.hid (HPP.out.below HW15.out)
      replace HSS := Lib.hid (HSS.out.below HW15.out)
      replace HB := Lib.hid (HB.out.trans (HW15.out.mono hz14))
      have hz15 : w.heap.size ≤ w15.heap.size := by omega
      clear hb_w15 HW15
      refine wpI_start [0, 1, 2, 3, 4, 5, 6, 7, 8, 9, 10, 11, 12] ?_; (iterate 13 (first | (refine wpI_off rfl (by kernel_rfl) rfl (fun K hK => ?_); go_simp; refine hK _ ?_; clear hK K) | ((first | apply wpI_step rfl (by kernel_rfl) rfl | apply wpI_on rfl (by kernel_rfl) rfl); (focus (intro W' hS; have hcS := hS.cells.1; have hfS := hS.cells.2; go_simp; (first | done | exact rfl | exact ⟨rfl, Below.refl _ _⟩ | (go_simp; first | done | exact rfl | exact ⟨rfl, Below.refl _ _⟩)))); intro K hK; go_simp; (try go_bits); refine hK _ ?_; clear hK K))); refine wpI_nil ?_
      apply wpF_call_on (i := 13) rfl (by kernel_rfl) (by kernel_rfl) rfl; intro W hF hS; have hcS := hS.1.cells.1; have hfS := hS.1.cells.2; go_simp; (go_at_call 20; refine (iof_any P _ (by omega) (by omega)).mono ?_; rintro e w16 ⟨hb_w16, v16, rfl, hv16⟩; refine XPost.mk _ (fun W => IsC W v16 P) hb_w16 (hv16) (IsC.cl _ _) ?_); clear hb_w16 hcS hfS hS hF
      intro K hK; go_simp; (try go_bits); refine hK _ ?_; clear hK K
      clear hv16
      apply wpF_call_on (i := 14) rfl (by kernel_rfl) (by kernel_rfl) rfl; intro W hF hS; have hcS := hS.1.cells.1; have hfS := hS.1.cells.2; go_simp; (go_at_call 17; refine (icmp_eq 100 _ _ P P _ ((HPP.out.below hS.1.2).zl lP) (hF.zl lP) (by omega) rfl).mono ?_; rintro e w17 ⟨rfl, hb_w17⟩; refine XPost.mk _ (fun _ => True) hb_w17 (trivial) (Cl.tt) ?_); clear hb_w17 hcS hfS hS hF
      intro K hK; go_simp; (try go_bits); refine hK _ ?_; clear hK K
      refine wpI_start [15, 16, 17, 18, 19, 20, 21, 22, 23] ?_; (iterate 9 (first | (refine wpI_off rfl (by kernel_rfl) rfl (fun K hK => ?_); go_simp; refine hK _ ?_; clear hK K) | ((first | apply wpI_step rfl (by kernel_rfl) rfl | apply wpI_on rfl (by kernel_rfl) rfl); (focus (intro W' hS; have hcS := hS.cells.1; have hfS := hS.cells.2; go_simp; (first | done | exact rfl | exact ⟨rfl, Below.refl _ _⟩ | (go_simp; first | done | exact rfl | exact ⟨rfl, Below.refl _ _⟩)))); intro K hK; go_simp; (try go_bits); refine hK _ ?_; clear hK K))); refine wpI_nil ?_
      apply wpF_call_on (i := 24) rfl (by kernel_rfl) (by kernel_rfl) rfl; intro W hF hS; have hcS := hS.1.cells.1; have hfS := hS.1.cells.2; go_simp; (go_at_call 20; refine (iof_any S _ (by omega) (by omega)).mono ?_; rintro e w18 ⟨hb_w18, v18, rfl, hv18⟩; refine XPost.mk _ (fun W => IsC W v18 S) hb_w18 (hv18) (IsC.cl _ _) ?_); clear hb_w18 hcS hfS hS hF
      intro K hK; go_simp; (try go_bits); refine hK _ ?_; clear hK K
      clear hv18
      apply wpF_call_on (i := 25) rfl (by kernel_rfl) (by kernel_rfl) rfl; intro W hF hS; have hcS := hS.1.cells.1; have hfS := hS.1.cells.2; go_simp; (go_at_call 17; refine (icmp_eq 100 _ _ S S _ ((HSS.out.below hS.1.2).zl lS) (hF.2.zl lS) (by omega) rfl).mono ?_; rintro e w19 ⟨rfl, hb_w19⟩; refine XPost.mk _ (fun _ => True) hb_w19 (trivial) (Cl.tt) ?_); clear hb_w19 hcS hfS hS hF
      intro K hK; go_simp; (try go_bits); refine hK _ ?_; clear hK K
      refine wpI_start [26, 27] ?_; (iterate 2 (first | (refine wpI_off rfl (by kernel_rfl) rfl (fun K hK => ?_); go_simp; refine hK _ ?_; clear hK K) | ((first | apply wpI_step rfl (by kernel_rfl) rfl | apply wpI_on rfl (by kernel_rfl) rfl); (focus (intro W' hS; have hcS := hS.cells.1; have hfS := hS.cells.2; go_simp; (first | done | exact rfl | exact ⟨rfl, Below.refl _ _⟩ | (go_simp; first | done | exact rfl | exact ⟨rfl, Below.refl _ _⟩)))); intro K hK; go_simp; (try go_bits); refine hK _ ?_; clear hK K))); refine wpI_nil ?_
      refine wpF_done (by kernel_rfl) ?_
      intro w20 hF_w20 hSG
      have hz_w20 := hSG.1.1
      have hb_w20 := hSG.1.2
      clear hSG
      (with_reducible apply cel2 (b := w3.heap.size) hb_w20); (focus ((try simp) <;> omega)); (focus omega); (focus (go_simp; try exact rfl)); (focus (go_simp; try exact rfl)); (focus (intro o; go_simp)); intro cc cc fz hl; (with_reducible apply cel2 (b := w3.heap.size + 1) hb_w20); (focus ((try simp) <;> omega)); (focus omega); (focus (go_simp; try exact rfl)); (focus (go_simp; try exact rfl)); (focus (intro o; go_simp)); intro cc cc fz hl; (with_reducible apply cel2 (b := w11.heap.size) hb_w20); (focus ((try simp) <;> omega)); (focus omega); (focus (go_simp; try exact rfl)); (focus (go_simp; try exact rfl)); (focus (intro o; go_simp)); intro cc cc fz hl; (with_reducible apply cel2 (b := w14.heap.size) hb_w20); (focus ((try simp) <;> omega)); (focus omega); (focus (go_simp; try exact rfl)); (focus (go_simp; try exact rfl)); (focus (intro o; go_simp)); intro cc cc fz hl
      (try simp only [List.drop_succ_cons, List.drop_zero])
      have HW20 := Lib.hid hb_w20
      replace HX := Lib.hid (HX.out.below HW20.out)
      replace HY := Lib.hid (HY.out.below HW20.out)
      replace HB := Lib.hid (HB.out.trans (HW20.out.mono hz15))
      have hz20 : w.heap.size ≤ w20.heap.size := by omega
      clear hb_w20 hF_w20 HW20 HPP HSS
      by_cases hy00 : y = 0
      · go_wp2_with fail
        (go_at_call 10; refine (awake01_any _).mono ?_; rintro e w21 ⟨rfl, hb_w21⟩; have hz_w21 := hb_w21.size; (try simp at hz_w21); (with_reducible apply cel2 (b := w3.heap.size) hb_w21); (focus ((try simp) <;> omega)); (focus omega); (focus (go_simp; try exact rfl)); (focus (go_simp; try exact rfl)); (focus (intro o; go_simp)); intro cc cc fz hl; (with_reducible apply cel2 (b := w3.heap.size + 1) hb_w21); (focus ((try simp) <;> omega)); (focus omega); (focus (go_simp; try exact rfl)); (focus (go_simp; try exact rfl)); (focus (intro o; go_simp)); intro cc cc fz hl; (with_reducible apply cel2 (b := w11.heap.size) hb_w21); (focus ((try simp) <;> omega)); (focus omega); (focus (go_simp; try exact rfl)); (focus (go_simp; try exact rfl)); (focus (intro o; go_simp)); intro cc cc fz hl; (with_reducible apply cel2 (b := w14.heap.size) hb_w21); (focus ((try simp) <;> omega)); (focus omega); (focus (go_simp; try exact rfl)); (focus (go_simp; try exact rfl)); (focus (intro o; go_simp)); intro cc cc fz hl)
        go_wp2_with fail
        go_ret
        exact ⟨rfl, HB.out.trans (hb_w21.mono (by omega))⟩
      · by_cases hym : y = -1
        · go_wp2_with fail
          (go_at_call 10; refine (awake01_any _).mono ?_; rintro e w21 ⟨rfl, hb_w21⟩; have hz_w21 := hb_w21.size; (try simp at hz_w21); (with_reducible apply cel2 (b := w3.heap.size) hb_w21); (focus ((try simp) <;> omega)); (focus omega); (focus (go_simp; try exact rfl)); (focus (go_simp; try exact rfl)); (focus (intro o; go_simp)); intro cc cc fz hl; (with_reducible apply cel2 (b := w3.heap.size + 1) hb_w21); (focus ((try simp) <;> omega)); (focus omega); (focus (go_simp; try exact rfl)); (focus (go_simp; try exact rfl)); (focus (intro o; go_simp)); intro cc cc fz hl; (with_reducible apply cel2 (b := w11.heap.size) hb_w21); (focus ((try simp) <;> omega)); (focus omega); (focus (go_simp; try exact rfl)); (focus (go_simp; try exact rfl)); (focus (intro o; go_simp)); intro cc cc fz hl; (with_reducible apply cel2 (b := w14.heap.size) hb_w21); (focus ((try simp) <;> omega)); (focus omega); (focus (go_simp; try exact rfl)); (focus (go_simp; try exact rfl)); (focus (intro o; go_simp)); intro cc cc fz hl)
          go_wp2_with fail
          go_ret
          exact ⟨rfl, HB.out.trans (hb_w21.mono (by omega))⟩
        · obtain ⟨Q, R, hQ, hR, q0, q1, r0, r1, hqu⟩ := HQU.out hy00 hym
          have HQC := Lib.hid hqu
          have lQ : (canN Q.natAbs).length ≤ 100 := lenZ_word q0 q1
          have lR : (canN R.natAbs).length ≤ 100 := lenZ_word r0 r1
          have hb0 : (y == 0) = false := by simpa using hy00
          have hb1 : (y == -1) = false := by simpa using hym
          clear hqu
          go_wp2_with fail
          (go_at_call 22; refine (HQC.out _ _ _ (HX.out.zl lx) (HY.out.zl ly)).mono ?_; rintro e w21 ⟨hb_w21, A21, c21, A22, c22, rfl, hc21, hc22, hA21, hA22⟩; have hz_w21 := hb_w21.size; (try simp at hz_w21); (with_reducible apply cel2 (b := w3.heap.size) hb_w21); (focus ((try simp) <;> omega)); (focus omega); (focus (go_simp; try exact rfl)); (focus (go_simp; try exact rfl)); (focus (intro o; go_simp)); intro cc cc fz hl; (with_reducible apply cel2 (b := w3.heap.size + 1) hb_w21); (focus ((try simp) <;> omega)); (focus omega); (focus (go_simp; try exact rfl)); (focus (go_simp; try exact rfl)); (focus (intro o; go_simp)); intro cc cc fz hl; (with_reducible apply cel2 (b := w11.heap.size) hb_w21); (focus ((try simp) <;> omega)); (focus omega); (focus (go_simp; try exact rfl)); (focus (go_simp; try exact rfl)); (focus (intro o; go_simp)); intro cc cc fz hl; (with_reducible apply cel2 (b := w14.heap.size) hb_w21); (focus ((try simp) <;> omega)); (focus omega); (focus (go_simp; try exact rfl)); (focus (go_simp; try exact rfl)); (focus (intro o; go_simp)); intro cc cc fz hl)
          have HQ := Lib.hid (show IsC w21 (.agg #[.bool (decide (Q < 0)), .slice A21 (canN Q.natAbs).length c21]) Q from ⟨A21, c21, rfl, hc21, hA21⟩)
          have HR := Lib.hid (show IsC w21 (.agg #[.bool (decide (R < 0)), .slice A22 (canN R.natAbs).length c22]) R from ⟨A22, c22, rfl, hc22, hA22⟩)
          replace HB := Lib.hid (HB.out.trans (hb_w21.mono hz20))
          have hz21 : w.heap.size ≤ w21.heap.size := by omega
          clear hc21 hc22 hA21 hA22 hb_w21
          go_wp2_with fail
          -- own blocks besides: w21.heap.size:2, w21.heap.size + 1:2
          (refine pin_wp (N := _) (Nat.le_refl _) (fun w22 hb_w22 hz_w22 => ?_); (try simp at hz_w22); (with_reducible apply cel2 (b := w3.heap.size) hb_w22); (focus ((try simp) <;> omega)); (focus omega); (focus (go_simp; try exact rfl)); (focus (go_simp; try exact rfl)); (focus (intro o; go_simp)); intro cc cc fz hl; (with_reducible apply cel2 (b := w3.heap.size + 1) hb_w22); (focus ((try simp) <;> omega)); (focus omega); (focus (go_simp; try exact rfl)); (focus (go_simp; try exact rfl)); (focus (intro o; go_simp)); intro cc cc fz hl; (with_reducible apply cel2 (b := w11.heap.size) hb_w22); (focus ((try simp) <;> omega)); (focus omega); (focus (go_simp; try exact rfl)); (focus (go_simp; try exact rfl)); (focus (intro o; go_simp)); intro cc cc fz hl; (with_reducible apply cel2 (b := w14.heap.size) hb_w22); (focus ((try simp) <;> omega)); (focus omega); (focus (go_simp; try exact rfl)); (focus (go_simp; try exact rfl)); (focus (intro o; go_simp)); intro cc cc fz hl; (with_reducible apply cel2 (b := w21.heap.size) hb_w22); (focus ((try simp) <;> omega)); (focus omega); (focus (go_simp; try exact rfl)); (focus (go_simp; try exact rfl)); (focus (intro o; go_simp)); intro cc cc fz hl; (with_reducible apply cel2 (b := w21.heap.size + 1) hb_w22); (focus ((try simp) <;> omega)); (focus omega); (focus (go_simp; try exact rfl)); (focus (go_simp; try exact rfl)); (focus (intro o; go_simp)); intro cc cc fz hl); refine wp_region_float w22.heap.size 20 (Nat.le_refl _) (fun _ => True) trivial Cl.tt (by kernel_rfl) (by simp) ?_
          have HW22 := Lib.hid (show Below w21.heap.size w21 w22 by ((with_reducible (repeat (first | exact bR _ _ | refine bS ?_ ?_ _ | refine bA ?_ ?_ _ | refine bD ?_ | refine bT ?_ (by assumption) ?_ | refine bO (by assumption) ?_ ?_))) <;> (first | omega | (simp; done) | (simp <;> omega))))
          replace HQ := Lib.hid (HQ.out.below HW22.out)
          replace HR := Lib.hid (HR.out.below HW22.out)
          replace HB := Lib.hid (HB.out.trans (HW22.out.mono hz21))
          have hz22 : w.heap.size ≤ w22.heap.size := by omega
          clear hb_w22 HW22
          refine wpI_start [0, 1, 2, 3, 4, 5, 6] ?_; (iterate 7 (first | (refine wpI_off rfl (by kernel_rfl) rfl (fun K hK => ?_); go_simp; refine hK _ ?_; clear hK K) | ((first | apply wpI_step rfl (by kernel_rfl) rfl | apply wpI_on rfl (by kernel_rfl) rfl); (focus (intro W' hS; have hcS := hS.cells.1; have hfS := hS.cells.2; go_simp; (first | done | exact rfl | exact ⟨rfl, Below.refl _ _⟩ | (go_simp; first | done | exact rfl | exact ⟨rfl, Below.refl _ _⟩)))); intro K hK; go_simp; (try go_bits); refine hK _ ?_; clear hK K))); refine wpI_nil ?_
          apply wpF_call_on (i := 7) rfl (by kernel_rfl) (by kernel_rfl) rfl; intro W hF hS; have hcS := hS.1.cells.1; have hfS := hS.1.cells.2; go_simp; (go_at_call 20; refine (iof_any Q _ (by omega) (by omega)).mono ?_; rintro e w23 ⟨hb_w23, v23, rfl, hv23⟩; refine XPost.mk _ (fun W => IsC W v23 Q) hb_w23 (hv23) (IsC.cl _ _) ?_); clear hb_w23 hcS hfS hS hF
          intro K hK; go_simp; (try go_bits); refine hK _ ?_; clear hK K
          clear hv23
          apply wpF_call_on (i := 8) rfl (by kernel_rfl) (by kernel_rfl) rfl; intro W hF hS; have hcS := hS.1.cells.1; have hfS := hS.1.cells.2; go_simp; (go_at_call 17; refine (icmp_eq 100 _ _ Q Q _ ((HQ.out.below hS.1.2).zl lQ) (hF.zl lQ) (by omega) rfl).mono ?_; rintro e w24 ⟨rfl, hb_w24⟩; refine XPost.mk _ (fun _ => True) hb_w24 (trivial) (Cl.tt) ?_); clear hb_w24 hcS hfS hS hF
          intro K hK; go_simp; (try go_bits); refine hK _ ?_; clear hK K
          refine wpI_start [9, 10, 11, 12, 13, 14, 15] ?_; (iterate 7 (first | (refine wpI_off rfl (by kernel_rfl) rfl (fun K hK => ?_); go_simp; refine hK _ ?_; clear hK K) | ((first | apply wpI_step rfl (by kernel_rfl) rfl | apply wpI_on rfl (by kernel_rfl) rfl); (focus (intro W' hS; have hcS := hS.cells.1; have hfS := hS.cells.2; go_simp; (first | done | exact rfl | exact ⟨rfl, Below.refl _ _⟩ | (go_simp; first | done | exact rfl | exact ⟨rfl, Below.refl _ _⟩)))); intro K hK; go_simp; (try go_bits); refine hK _ ?_; clear hK K))); refine wpI_nil ?_
          apply wpF_call_on (i := 16) rfl (by kernel_rfl) (by kernel_rfl) rfl; intro W hF hS; have hcS := hS.1.cells.1; have hfS := hS.1.cells.2; go_simp; (go_at_call 20; refine (iof_any R _ (by omega) (by omega)).mono ?_; rintro e w25 ⟨hb_w25, v25, rfl, hv25⟩; refine XPost.mk _ (fun W => IsC W v25 R) hb_w25 (hv25) (IsC.cl _ _) ?_); clear hb_w25 hcS hfS hS hF
          intro K hK; go_simp; (try go_bits); refine hK _ ?_; clear hK K
          clear hv25
          apply wpF_call_on (i := 17) rfl (by kernel_rfl) (by kernel_rfl) rfl; intro W hF hS; have hcS := hS.1.cells.1; have hfS := hS.1.cells.2; go_simp; (go_at_call 17; refine (icmp_eq 100 _ _ R R _ ((HR.out.below hS.1.2).zl lR) (hF.2.zl lR) (by omega) rfl).mono ?_; rintro e w26 ⟨rfl, hb_w26⟩; refine XPost.mk _ (fun _ => True) hb_w26 (trivial) (Cl.tt) ?_); clear hb_w26 hcS hfS hS hF
          intro K hK; go_simp; (try go_bits); refine hK _ ?_; clear hK K
          refine wpI_start [18, 19] ?_; (iterate 2 (first | (refine wpI_off rfl (by kernel_rfl) rfl (fun K hK => ?_); go_simp; refine hK _ ?_; clear hK K) | ((first | apply wpI_step rfl (by kernel_rfl) rfl | apply wpI_on rfl (by kernel_rfl) rfl); (focus (intro W' hS; have hcS := hS.cells.1; have hfS := hS.cells.2; go_simp; (first | done | exact rfl | exact ⟨rfl, Below.refl _ _⟩ | (go_simp; first | done | exact rfl | exact ⟨rfl, Below.refl _ _⟩)))); intro K hK; go_simp; (try go_bits); refine hK _ ?_; clear hK K))); refine wpI_nil ?_
          refine wpF_done (by kernel_rfl) ?_
          intro w27 hF_w27 hSG
          have hz_w27 := hSG.1.1
          have hb_w27 := hSG.1.2
          clear hSG
          (with_reducible apply cel2 (b := w3.heap.size) hb_w27); (focus ((try simp) <;> omega)); (focus omega); (focus (go_simp; try exact rfl)); (focus (go_simp; try exact rfl)); (focus (intro o; go_simp)); intro cc cc fz hl; (with_reducible apply cel2 (b := w3.heap.size + 1) hb_w27); (focus ((try simp) <;> omega)); (focus omega); (focus (go_simp; try exact rfl)); (focus (go_simp; try exact rfl)); (focus (intro o; go_simp)); intro cc cc fz hl; (with_reducible apply cel2 (b := w11.heap.size) hb_w27); (focus ((try simp) <;> omega)); (focus omega); (focus (go_simp; try exact rfl)); (focus (go_simp; try exact rfl)); (focus (intro o; go_simp)); intro cc cc fz hl; (with_reducible apply cel2 (b := w14.heap.size) hb_w27); (focus ((try simp) <;> omega)); (focus omega); (focus (go_simp; try exact rfl)); (focus (go_simp; try exact rfl)); (focus (intro o; go_simp)); intro cc cc fz hl; (with_reducible apply cel2 (b := w21.heap.size) hb_w27); (focus ((try simp) <;> omega)); (focus omega); (focus (go_simp; try exact rfl)); (focus (go_simp; try exact rfl)); (focus (intro o; go_simp)); intro cc cc fz hl; (with_reducible apply cel2 (b := w21.heap.size + 1) hb_w27); (focus ((try simp) <;> omega)); (focus omega); (focus (go_simp; try exact rfl)); (focus (go_simp; try exact rfl)); (focus (intro o; go_simp)); intro cc cc fz hl
          (try simp only [List.drop_succ_cons, List.drop_zero])
          go_wp2_with fail
          go_ret
          exact ⟨rfl, HB.out.trans (hb_w27.mono (by omega))⟩
theorem own : ownKnob Try.prog.godebug = none := by kernel_rfl
theorem laidOut : laidOutB Try.prog = true := by kernel_rfl
set_option maxRecDepth 100000 in
theorem lifted (os : Os) (started : os.Started) (H : Type) (enc : TypeId × Value → H) :
    ReturnsInHanded {} Try.checked os 6 .any (Rows.integerWordsSpec.pre6 enc Try.prog Try.f6 Rows.integerWordsRow.domain false) (Rows.integerWordsSpec.post enc Try.prog Try.f6 false true false false) := by
  refine returnsInHanded_of_change (C := Try.checked) own started (by kernel_rfl) Try.func6
    (ChangeSpec.witness6 (enc := enc) (C := Try.checked) false ⟨#[], #[.int .i64 0, .int .i64 0], []⟩ 8 (by kernel_rfl) (by kernel_rfl) (by kernel_rfl) (by kernel_rfl)) ?_
  intro W base args ds gs before hval0 hW hcnd _
  have hval : ∀ (j : Nat) t v, Try.f6.params[j]? = some t → args[j]? = some v → Value.okWide Try.prog W .any base t v := hval0
  have hW' := hW
  obtain ⟨p, q, hA0, hV, rfl, hfz, hnd⟩ := hW
  have hA : DataW.TrodAll enc Try.prog W 0 (fun _ => true) true Try.f6.params.toList args.toList ds p := hA0
  rw [Try.params6] at hA hval
  obtain ⟨v0, vs0, d0, ds0, p0, q0, hargs, rfl, rfl, h0, r0⟩ := trodAll_cons hA
  obtain ⟨v1, vs1, d1, ds1, p1, q1, rfl, rfl, rfl, h1, r1⟩ := trodAll_cons r0
  obtain ⟨rfl, rfl, rfl⟩ := trodAll_nil r1
  obtain rfl : args = #[v0, v1] := by cases args; simp_all
  obtain ⟨rfl, rfl⟩ := trodVars_none hV
  obtain ⟨a0, rfl, rfl, rfl, w0⟩ := open_int Try.underlying3 (hval 0 3 v0 rfl rfl) h0
  obtain ⟨a1, rfl, rfl, rfl, w1⟩ := open_int Try.underlying3 (hval 1 3 v1 rfl rfl) h1
  clear hA0 hval0
  refine (walk W a0 w0 a1 w1).mono fun e W' ⟨he, bel⟩ => ?_
  subst he
  exact ⟨_, rfl, _, _, _, [], _, [], hW', trodAll_mk1 (shut_bool Try.underlying4 _), (trodAll_cons_mk (shut_int Try.underlying3 w0) (trodAll_cons_mk (shut_int Try.underlying3 w1) trodAll_mk0)), rfl, bel.frame _, fun h => by cases h⟩

theorem over : Rows.integerWordsRow.holds Try.pinned (OpenSpec.ofChange Rows.integerWordsSpec) :=
  OpenClaim.holds_of_wide 6 Try.f6 rfl rfl rfl rfl rfl rfl rfl ⟨rfl, rfl, rfl, rfl, rfl⟩ rfl rfl rfl rfl rfl (by kernel_rfl) Try.func6 (by kernel_rfl)
    (of_decide_eq_true (by kernel_rfl)) (by unfold Func.isWrapper; first | (rw [if_pos (by decide +kernel)]; kernel_rfl) | (rw [if_neg (by decide +kernel)]; exact ⟨rfl, rfl⟩))
    (fun os started H enc _ => lifted os started H enc)

theorem proved : Rows.IntegerWordsSaid := over
#print axioms proved
end Go.Proofs.Ytadkcipjcmkoiaa.lawIW
