/- Law IntegerDivides returns true for every three integers. No conditions. -/
import Derived.Test.YtadkcipjcmkoiaaDvs
import Derived.Test.YtadkcipjcmkoiaaDrawOn
namespace Go.Proofs.Ytadkcipjcmkoiaa.lawID
open Go.ChangeShapes Go.WideShapes Go.ChangeAt Go.RowKit
set_option linter.unusedVariables false
set_option maxRecDepth 100000 in
set_option maxHeartbeats 2000000 in
theorem long (p1 p2 p3 : Bool) (A1 A2 A3 : Option Addr) (n1 n2 n3 c1 c2 c3 : Nat) (w : World) (h : ¬ (n1 ≤ 20 ∧ n2 ≤ 20 ∧ n3 ≤ 20)) (h1 : n1 ≤ maxLen) (h2 : n2 ≤ maxLen) (h3 : n3 ≤ maxLen) :
    Calls Try.prog 5 #[.agg #[.bool p1, .slice A1 n1 c1], .agg #[.bool p2, .slice A2 n2 c2], .agg #[.bool p3, .slice A3 n3 c3]] w fun e w' => e = .returned (.bool true) ∧ Below w.heap.size w w' := by
  unfold maxLen at h1 h2 h3
  by_cases g1 : n1 ≤ 20
  · have i1 : decide ((20 : Int) < (n1 : Int)) = false := by rw [decide_eq_false_iff_not]; omega
    by_cases g2 : n2 ≤ 20
    · have i2 : decide ((20 : Int) < (n2 : Int)) = false := by rw [decide_eq_false_iff_not]; omega
      have i3 : decide ((20 : Int) < (n3 : Int)) = true := by rw [decide_eq_true_iff]; omega
      go_enter Try.func5, Try.ntmps5; (try simp only [List.append_eq, List.cons_append, List.nil_append])
      go_wp2_with fail
      -- own blocks: w.heap.size:2, w.heap.size + 1:2, w.heap.size + 1 + 1:2
      (go_at_call 10; refine (awake01_any _).mono ?_; rintro e w1 ⟨rfl, hb_w1⟩; have hz_w1 := hb_w1.size; (try simp at hz_w1); (with_reducible apply cel2 (b := w.heap.size) hb_w1); (focus ((try simp) <;> omega)); (focus omega); (focus (go_simp; try exact rfl)); (focus (go_simp; try exact rfl)); (focus (intro o; go_simp)); intro cc cc fz hl; (with_reducible apply cel2 (b := w.heap.size + 1) hb_w1); (focus ((try simp) <;> omega)); (focus omega); (focus (go_simp; try exact rfl)); (focus (go_simp; try exact rfl)); (focus (intro o; go_simp)); intro cc cc fz hl; (with_reducible apply cel2 (b := w.heap.size + 1 + 1) hb_w1); (focus ((try simp) <;> omega)); (focus omega); (focus (go_simp; try exact rfl)); (focus (go_simp; try exact rfl)); (focus (intro o; go_simp)); intro cc cc fz hl)
      go_wp2_with fail
      (go_at_call 10; refine (awake01_any _).mono ?_; rintro e w2 ⟨rfl, hb_w2⟩; have hz_w2 := hb_w2.size; (try simp at hz_w2); (with_reducible apply cel2 (b := w.heap.size) hb_w2); (focus ((try simp) <;> omega)); (focus omega); (focus (go_simp; try exact rfl)); (focus (go_simp; try exact rfl)); (focus (intro o; go_simp)); intro cc cc fz hl; (with_reducible apply cel2 (b := w.heap.size + 1) hb_w2); (focus ((try simp) <;> omega)); (focus omega); (focus (go_simp; try exact rfl)); (focus (go_simp; try exact rfl)); (focus (intro o; go_simp)); intro cc cc fz hl; (with_reducible apply cel2 (b := w.heap.size + 1 + 1) hb_w2); (focus ((try simp) <;> omega)); (focus omega); (focus (go_simp; try exact rfl)); (focus (go_simp; try exact rfl)); (focus (intro o; go_simp)); intro cc cc fz hl)
      go_wp2_with fail
      go_ret
      exact ⟨rfl, by ((with_reducible (repeat (first | exact bR _ _ | refine bS ?_ ?_ _ | refine bA ?_ ?_ _ | refine bD ?_ | refine bT ?_ (by assumption) ?_ | refine bO (by assumption) ?_ ?_))) <;> (first | omega | (simp; done) | (simp <;> omega)))⟩
    · have i2 : decide ((20 : Int) < (n2 : Int)) = true := by rw [decide_eq_true_iff]; omega
      go_enter Try.func5, Try.ntmps5; (try simp only [List.append_eq, List.cons_append, List.nil_append])
      go_wp2_with fail
      -- own blocks: w.heap.size:2, w.heap.size + 1:2, w.heap.size + 1 + 1:2
      (go_at_call 10; refine (awake01_any _).mono ?_; rintro e w1 ⟨rfl, hb_w1⟩; have hz_w1 := hb_w1.size; (try simp at hz_w1); (with_reducible apply cel2 (b := w.heap.size) hb_w1); (focus ((try simp) <;> omega)); (focus omega); (focus (go_simp; try exact rfl)); (focus (go_simp; try exact rfl)); (focus (intro o; go_simp)); intro cc cc fz hl; (with_reducible apply cel2 (b := w.heap.size + 1) hb_w1); (focus ((try simp) <;> omega)); (focus omega); (focus (go_simp; try exact rfl)); (focus (go_simp; try exact rfl)); (focus (intro o; go_simp)); intro cc cc fz hl; (with_reducible apply cel2 (b := w.heap.size + 1 + 1) hb_w1); (focus ((try simp) <;> omega)); (focus omega); (focus (go_simp; try exact rfl)); (focus (go_simp; try exact rfl)); (focus (intro o; go_simp)); intro cc cc fz hl)
      go_wp2_with fail
      (go_at_call 10; refine (awake01_any _).mono ?_; rintro e w2 ⟨rfl, hb_w2⟩; have hz_w2 := hb_w2.size; (try simp at hz_w2); (with_reducible apply cel2 (b := w.heap.size) hb_w2); (focus ((try simp) <;> omega)); (focus omega); (focus (go_simp; try exact rfl)); (focus (go_simp; try exact rfl)); (focus (intro o; go_simp)); intro cc cc fz hl; (with_reducible apply cel2 (b := w.heap.size + 1) hb_w2); (focus ((try simp) <;> omega)); (focus omega); (focus (go_simp; try exact rfl)); (focus (go_simp; try exact rfl)); (focus (intro o; go_simp)); intro cc cc fz hl; (with_reducible apply cel2 (b := w.heap.size + 1 + 1) hb_w2); (focus ((try simp) <;> omega)); (focus omega); (focus (go_simp; try exact rfl)); (focus (go_simp; try exact rfl)); (focus (intro o; go_simp)); intro cc cc fz hl)
      go_wp2_with fail
      go_ret
      exact ⟨rfl, by ((with_reducible (repeat (first | exact bR _ _ | refine bS ?_ ?_ _ | refine bA ?_ ?_ _ | refine bD ?_ | refine bT ?_ (by assumption) ?_ | refine bO (by assumption) ?_ ?_))) <;> (first | omega | (simp; done) | (simp <;> omega)))⟩
  · have i1 : decide ((20 : Int) < (n1 : Int)) = true := by rw [decide_eq_true_iff]; omega
    go_enter Try.func5, Try.ntmps5; (try simp only [List.append_eq, List.cons_append, List.nil_append])
    go_wp2_with fail
    -- own blocks: w.heap.size:2, w.heap.size + 1:2, w.heap.size + 1 + 1:2
    (go_at_call 10; refine (awake01_any _).mono ?_; rintro e w1 ⟨rfl, hb_w1⟩; have hz_w1 := hb_w1.size; (try simp at hz_w1); (with_reducible apply cel2 (b := w.heap.size) hb_w1); (focus ((try simp) <;> omega)); (focus omega); (focus (go_simp; try exact rfl)); (focus (go_simp; try exact rfl)); (focus (intro o; go_simp)); intro cc cc fz hl; (with_reducible apply cel2 (b := w.heap.size + 1) hb_w1); (focus ((try simp) <;> omega)); (focus omega); (focus (go_simp; try exact rfl)); (focus (go_simp; try exact rfl)); (focus (intro o; go_simp)); intro cc cc fz hl; (with_reducible apply cel2 (b := w.heap.size + 1 + 1) hb_w1); (focus ((try simp) <;> omega)); (focus omega); (focus (go_simp; try exact rfl)); (focus (go_simp; try exact rfl)); (focus (intro o; go_simp)); intro cc cc fz hl)
    go_wp2_with fail
    (go_at_call 10; refine (awake01_any _).mono ?_; rintro e w2 ⟨rfl, hb_w2⟩; have hz_w2 := hb_w2.size; (try simp at hz_w2); (with_reducible apply cel2 (b := w.heap.size) hb_w2); (focus ((try simp) <;> omega)); (focus omega); (focus (go_simp; try exact rfl)); (focus (go_simp; try exact rfl)); (focus (intro o; go_simp)); intro cc cc fz hl; (with_reducible apply cel2 (b := w.heap.size + 1) hb_w2); (focus ((try simp) <;> omega)); (focus omega); (focus (go_simp; try exact rfl)); (focus (go_simp; try exact rfl)); (focus (intro o; go_simp)); intro cc cc fz hl; (with_reducible apply cel2 (b := w.heap.size + 1 + 1) hb_w2); (focus ((try simp) <;> omega)); (focus omega); (focus (go_simp; try exact rfl)); (focus (go_simp; try exact rfl)); (focus (intro o; go_simp)); intro cc cc fz hl)
    go_wp2_with fail
    go_ret
    exact ⟨rfl, by ((with_reducible (repeat (first | exact bR _ _ | refine bS ?_ ?_ _ | refine bA ?_ ?_ _ | refine bD ?_ | refine bT ?_ (by assumption) ?_ | refine bO (by assumption) ?_ ?_))) <;> (first | omega | (simp; done) | (simp <;> omega)))⟩
theorem nat_dvd {n : Nat} {z : Int} (h : n ∣ z.natAbs) : (n : Int) ∣ z := Int.ofNat_dvd_left.2 h
set_option maxRecDepth 100000 in
set_option maxHeartbeats 4000000 in
theorem short (p1 p2 p3 : Bool) (A1 A2 A3 : Option Addr) (n1 n2 n3 c1 c2 c3 : Nat) (z1 z2 z3 : Int) (w : World) (h1 : n1 ≤ 20) (h2 : n2 ≤ 20) (h3 : n3 ≤ 20)
    (hA : IsZ w (.agg #[.bool p1, .slice A1 n1 c1]) 20 z1) (hB : IsZ w (.agg #[.bool p2, .slice A2 n2 c2]) 20 z2) (hC : IsZ w (.agg #[.bool p3, .slice A3 n3 c3]) 20 z3) :
    Calls Try.prog 5 #[.agg #[.bool p1, .slice A1 n1 c1], .agg #[.bool p2, .slice A2 n2 c2], .agg #[.bool p3, .slice A3 n3 c3]] w fun e w' => e = .returned (.bool true) ∧ Below w.heap.size w w' := by
  have la := isZ_len hA
  have lb := isZ_len hB
  have lc := isZ_len hC
  have HA := Lib.hid (hA.upto (show 20 ≤ 100 by decide))
  have HB0 := Lib.hid (hB.upto (show 20 ≤ 100 by decide))
  have HC0 := Lib.hid (hC.upto (show 20 ≤ 100 by decide))
  have i1 : decide ((20 : Int) < (n1 : Int)) = false := by rw [decide_eq_false_iff_not]; omega
  have i2 : decide ((20 : Int) < (n2 : Int)) = false := by rw [decide_eq_false_iff_not]; omega
  have i3 : decide ((20 : Int) < (n3 : Int)) = false := by rw [decide_eq_false_iff_not]; omega
  have k2 := fun u w h => isign_any 100 u z2 w h (by omega)
  have hs2 := @sgn0 z2
  obtain ⟨s2, es2⟩ : ∃ s, s = sgn z2 := ⟨_, rfl⟩
  rw [← es2] at k2 hs2
  have K2 := Lib.hid k2
  clear k2 es2 hA hB hC
  by_cases h0 : z2 = 0
  · rw [decide_eq_true h0] at hs2
    have k1 := fun u v w h1 h2 => iquo_any 100 u v z1 z2 w h1 h2 (by omega)
    rw [h0, quoZ0 (by omega), ← h0] at k1
    simp only at k1
    have K1 := Lib.hid k1
    clear k1 h0
    go_enter Try.func5, Try.ntmps5; (try simp only [List.append_eq, List.cons_append, List.nil_append])
    go_wp2_with fail
    -- own blocks: w.heap.size:2, w.heap.size + 1:2, w.heap.size + 1 + 1:2
    (go_at_call 10; refine (awake01_any _).mono ?_; rintro e w1 ⟨rfl, hb_w1⟩; have hz_w1 := hb_w1.size; (try simp at hz_w1); (with_reducible apply cel2 (b := w.heap.size) hb_w1); (focus ((try simp) <;> omega)); (focus omega); (focus (go_simp; try exact rfl)); (focus (go_simp; try exact rfl)); (focus (intro o; go_simp)); intro cc cc fz hl; (with_reducible apply cel2 (b := w.heap.size + 1) hb_w1); (focus ((try simp) <;> omega)); (focus omega); (focus (go_simp; try exact rfl)); (focus (go_simp; try exact rfl)); (focus (intro o; go_simp)); intro cc cc fz hl; (with_reducible apply cel2 (b := w.heap.size + 1 + 1) hb_w1); (focus ((try simp) <;> omega)); (focus omega); (focus (go_simp; try exact rfl)); (focus (go_simp; try exact rfl)); (focus (intro o; go_simp)); intro cc cc fz hl)
    have HB := Lib.hid (show Below w.heap.size w w1 by ((with_reducible (repeat (first | exact bR _ _ | refine bS ?_ ?_ _ | refine bA ?_ ?_ _ | refine bD ?_ | refine bT ?_ (by assumption) ?_ | refine bO (by assumption) ?_ ?_))) <;> (first | omega | (simp; done) | (simp <;> omega))))
    replace HA := Lib.hid (HA.out.below HB.out)
    replace HB0 := Lib.hid (HB0.out.below HB.out)
    have hz1 : w.heap.size ≤ w1.heap.size := by omega
    clear hb_w1
    go_wp2_with fail
    (go_at_call 22; refine (K1.out _ _ _ HA.out HB0.out).mono ?_; rintro e w2 ⟨hb_w2, A4, c4, A5, c5, rfl, hc4, hc5, hA4, hA5⟩; have hz_w2 := hb_w2.size; (try simp at hz_w2); (with_reducible apply cel2 (b := w.heap.size) hb_w2); (focus ((try simp) <;> omega)); (focus omega); (focus (go_simp; try exact rfl)); (focus (go_simp; try exact rfl)); (focus (intro o; go_simp)); intro cc cc fz hl; (with_reducible apply cel2 (b := w.heap.size + 1) hb_w2); (focus ((try simp) <;> omega)); (focus omega); (focus (go_simp; try exact rfl)); (focus (go_simp; try exact rfl)); (focus (intro o; go_simp)); intro cc cc fz hl; (with_reducible apply cel2 (b := w.heap.size + 1 + 1) hb_w2); (focus ((try simp) <;> omega)); (focus omega); (focus (go_simp; try exact rfl)); (focus (go_simp; try exact rfl)); (focus (intro o; go_simp)); intro cc cc fz hl)
    have HW2 := Lib.hid hb_w2
    clear hc4 hc5 hA4 hA5 hb_w2
    go_wp2_with fail
    -- own blocks besides: w2.heap.size:2, w2.heap.size + 1:2
    (go_at_call 21; refine (K2.out _ _ (HB0.out.below (HW2.out.trans (((Below.refl _ _).alloc hz_w2 _).alloc (by simp; omega) _)))).mono ?_; rintro e w3 ⟨rfl, hb_w3⟩; have hz_w3 := hb_w3.size; (try simp at hz_w3); (with_reducible apply cel2 (b := w.heap.size) hb_w3); (focus ((try simp) <;> omega)); (focus omega); (focus (go_simp; try exact rfl)); (focus (go_simp; try exact rfl)); (focus (intro o; go_simp)); intro cc cc fz hl; (with_reducible apply cel2 (b := w.heap.size + 1) hb_w3); (focus ((try simp) <;> omega)); (focus omega); (focus (go_simp; try exact rfl)); (focus (go_simp; try exact rfl)); (focus (intro o; go_simp)); intro cc cc fz hl; (with_reducible apply cel2 (b := w.heap.size + 1 + 1) hb_w3); (focus ((try simp) <;> omega)); (focus omega); (focus (go_simp; try exact rfl)); (focus (go_simp; try exact rfl)); (focus (intro o; go_simp)); intro cc cc fz hl; (with_reducible apply cel2 (b := w2.heap.size) hb_w3); (focus ((try simp) <;> omega)); (focus omega); (focus (go_simp; try exact rfl)); (focus (go_simp; try exact rfl)); (focus (intro o; go_simp)); intro cc cc fz hl; (with_reducible apply cel2 (b := w2.heap.size + 1) hb_w3); (focus ((try simp) <;> omega)); (focus omega); (focus (go_simp; try exact rfl)); (focus (go_simp; try exact rfl)); (focus (intro o; go_simp)); intro cc cc fz hl)
    have HW3 := Lib.hid (show Below w2.heap.size w2 w3 by ((with_reducible (repeat (first | exact bR _ _ | refine bS ?_ ?_ _ | refine bA ?_ ?_ _ | refine bD ?_ | refine bT ?_ (by assumption) ?_ | refine bO (by assumption) ?_ ?_))) <;> (first | omega | (simp; done) | (simp <;> omega))))
    clear hb_w3
    go_wp2_with fail
    go_ret
    exact ⟨rfl, HB.out.trans ((HW2.out.trans (HW3.out.mono hz_w2)).mono hz1)⟩
  · rw [decide_eq_false h0] at hs2
    obtain ⟨zq, hzq⟩ : ∃ q, q = z1.tdiv z2 := ⟨_, rfl⟩
    obtain ⟨zr, hzr⟩ : ∃ q, q = z1.tmod z2 := ⟨_, rfl⟩
    obtain ⟨zp, hzp⟩ : ∃ q, q = zq * z2 := ⟨_, rfl⟩
    obtain ⟨zx, hzx⟩ : ∃ q, q = z1 * z3 := ⟨_, rfl⟩
    obtain ⟨zy, hzy⟩ : ∃ q, q = z2 * z3 := ⟨_, rfl⟩
    obtain ⟨zd, hzd⟩ : ∃ q : Int, q = (Nat.gcd zx.natAbs zy.natAbs : Nat) := ⟨_, rfl⟩
    have lq : (canN zq.natAbs).length ≤ 20 := by
      rw [hzq]; refine Nat.le_trans (canN_mono ?_) la; rw [Int.natAbs_tdiv]; exact Nat.div_le_self _ _
    have lr : (canN zr.natAbs).length ≤ 20 := by
      rw [hzr]; refine Nat.le_trans (canN_mono ?_) la; rw [Int.natAbs_tmod]; exact Nat.mod_le _ _
    have lp : (canN zp.natAbs).length ≤ 40 := by rw [hzp]; exact len_mul lq lb
    have lx : (canN zx.natAbs).length ≤ 40 := by rw [hzx]; exact len_mul la lc
    have ly : (canN zy.natAbs).length ≤ 40 := by rw [hzy]; exact len_mul lb lc
    have ld : (canN zd.natAbs).length ≤ 40 := by rw [hzd, Int.natAbs_natCast]; exact gcd_len lx ly
    have hsum : z1 = zp + zr := by
      have := Int.mul_tdiv_add_tmod z1 z2
      rw [hzp, hzq, hzr, Int.mul_comm]; omega
    have hlt : ((zr.natAbs : Nat) : Int) < ((z2.natAbs : Nat) : Int) := by
      have := Nat.mod_lt z1.natAbs (show 0 < z2.natAbs by omega)
      rw [hzr, Int.natAbs_tmod]; omega
    have d1 : zd ∣ zx := by rw [hzd]; exact nat_dvd (Nat.gcd_dvd_left _ _)
    have d2 : zd ∣ zy := by rw [hzd]; exact nat_dvd (Nat.gcd_dvd_right _ _)
    have d3 : z3 ∣ zd := by
      rw [hzd]
      refine Int.ofNat_dvd_right.2 (Nat.dvd_gcd ?_ ?_)
      · rw [hzx, Int.natAbs_mul]; exact Nat.dvd_mul_left _ _
      · rw [hzy, Int.natAbs_mul]; exact Nat.dvd_mul_left _ _
    have hsg : zr ≠ 0 → sgn zr = sgn z1 := by
      intro hr
      rcases Int.lt_or_le z1 0 with h | h
      · have h5 : zr ≤ 0 := by
          have h6 := Int.tmod_nonneg z2 (show 0 ≤ -z1 by omega)
          rw [Int.neg_tmod] at h6
          omega
        unfold sgn; rw [if_neg hr, if_pos (by omega), if_neg (by omega), if_pos h]
      · have h5 : 0 ≤ zr := by rw [hzr]; exact Int.tmod_nonneg _ h
        have h6 : z1 ≠ 0 := by intro e; apply hr; rw [hzr, e]; exact Int.zero_tmod _
        unfold sgn; rw [if_neg hr, if_neg (by omega), if_neg h6, if_neg (by omega)]
    have k1 := fun u v w h1 h2 => iquo_any 100 u v z1 z2 w h1 h2 (by omega)
    rw [quoZ (by omega) (by omega) h0 hzq hzr] at k1
    have k3 := fun u v w h1 h2 => imul_any 100 u v zq z2 w h1 h2 (by omega)
    rw [mulZ (by omega) (by omega) hzp (by omega)] at k3
    have k4 := fun u v w h1 h2 => iadd_any 100 u v zp zr w h1 h2 (by omega)
    rw [addZ (by omega) (by omega) hsum (by omega)] at k4
    have k5 := fun u v w h1 h2 => icmp_any 100 u v (zr.natAbs : Int) (z2.natAbs : Int) w h1 h2 (by omega)
    rw [show cmpI (zr.natAbs : Int) (z2.natAbs : Int) = -1 by unfold cmpI; rw [if_pos hlt]] at k5
    have k6 := fun u v w h1 h2 => imul_any 100 u v z1 z3 w h1 h2 (by omega)
    rw [mulZ (by omega) (by omega) hzx (by omega)] at k6
    have k7 := fun u v w h1 h2 => imul_any 100 u v z2 z3 w h1 h2 (by omega)
    rw [mulZ (by omega) (by omega) hzy (by omega)] at k7
    have k8 := fun u v w h1 h2 => igcd_any 100 u v zx zy w h1 h2 (by omega)
    rw [gcdZ (by omega) (by omega) hzd] at k8
    have k9 := fun u v w h1 h2 => icmp_eq 100 u v z1 z1 w h1 h2 (by omega) rfl
    have k10 := fun u w h => isign_any 100 u zr w h (by omega)
    have k11 := fun u w h => isign_any 100 u z1 w h (by omega)
    have k12 := fun u v w h1 h2 => divides_any 100 u v zd zx w h1 h2 (by omega)
    rw [decide_eq_true d1] at k12
    have k13 := fun u v w h1 h2 => divides_any 100 u v zd zy w h1 h2 (by omega)
    rw [decide_eq_true d2] at k13
    have k14 := fun u v w h1 h2 => divides_any 100 u v z3 zd w h1 h2 (by omega)
    rw [decide_eq_true d3] at k14
    simp only at k1 k3 k4 k6 k7 k8
    have K1 := Lib.hid k1
    have K3 := Lib.hid k3
    have K4 := Lib.hid k4
    have K5 := Lib.hid k5
    have K6 := Lib.hid k6
    have K7 := Lib.hid k7
    have K8 := Lib.hid k8
    have K9 := Lib.hid k9
    have K12 := Lib.hid k12
    have K13 := Lib.hid k13
    have K14 := Lib.hid k14
    replace la : (canN z1.natAbs).length ≤ 100 := by omega
    replace lq : (canN zq.natAbs).length ≤ 100 := by omega
    replace lr : (canN zr.natAbs).length ≤ 100 := by omega
    replace lp : (canN zp.natAbs).length ≤ 100 := by omega
    replace lx : (canN zx.natAbs).length ≤ 100 := by omega
    replace ly : (canN zy.natAbs).length ≤ 100 := by omega
    replace ld : (canN zd.natAbs).length ≤ 100 := by omega
    clear k1 k3 k4 k5 k6 k7 k8 k9 k12 k13 k14 d1 d2 d3 hzp hzx hzy hzd hsum hlt hzq hzr h0 lb lc
    by_cases hr0 : zr = 0
    · have s10 : sgn zr = 0 := by rw [hr0]; rfl
      rw [s10] at k10
      have K10 := Lib.hid k10
      clear k10 k11 hsg s10 hr0
      go_enter Try.func5, Try.ntmps5; (try simp only [List.append_eq, List.cons_append, List.nil_append])
      go_wp2_with fail
      -- own blocks: w.heap.size:2, w.heap.size + 1:2, w.heap.size + 1 + 1:2
      (go_at_call 10; refine (awake01_any _).mono ?_; rintro e w1 ⟨rfl, hb_w1⟩; have hz_w1 := hb_w1.size; (try simp at hz_w1); (with_reducible apply cel2 (b := w.heap.size) hb_w1); (focus ((try simp) <;> omega)); (focus omega); (focus (go_simp; try exact rfl)); (focus (go_simp; try exact rfl)); (focus (intro o; go_simp)); intro cc cc fz hl; (with_reducible apply cel2 (b := w.heap.size + 1) hb_w1); (focus ((try simp) <;> omega)); (focus omega); (focus (go_simp; try exact rfl)); (focus (go_simp; try exact rfl)); (focus (intro o; go_simp)); intro cc cc fz hl; (with_reducible apply cel2 (b := w.heap.size + 1 + 1) hb_w1); (focus ((try simp) <;> omega)); (focus omega); (focus (go_simp; try exact rfl)); (focus (go_simp; try exact rfl)); (focus (intro o; go_simp)); intro cc cc fz hl)
      have HB := Lib.hid (show Below w.heap.size w w1 by ((with_reducible (repeat (first | exact bR _ _ | refine bS ?_ ?_ _ | refine bA ?_ ?_ _ | refine bD ?_ | refine bT ?_ (by assumption) ?_ | refine bO (by assumption) ?_ ?_))) <;> (first | omega | (simp; done) | (simp <;> omega))))
      replace HA := Lib.hid (HA.out.below HB.out)
      replace HB0 := Lib.hid (HB0.out.below HB.out)
      replace HC0 := Lib.hid (HC0.out.below HB.out)
      have hz1 : w.heap.size ≤ w1.heap.size := by omega
      clear hb_w1
      go_wp2_with fail
      (go_at_call 22; refine (K1.out _ _ _ (HA.out.below (Below.refl _ _)) (HB0.out.below (Below.refl _ _))).mono ?_; rintro e w2 ⟨hb_w2, A2, c2, A2q, c2q, rfl, hc2, hc2q, hA2, hA2q⟩; have hz_w2 := hb_w2.size; (try simp at hz_w2); (with_reducible apply cel2 (b := w.heap.size) hb_w2); (focus ((try simp) <;> omega)); (focus omega); (focus (go_simp; try exact rfl)); (focus (go_simp; try exact rfl)); (focus (intro o; go_simp)); intro cc cc fz hl; (with_reducible apply cel2 (b := w.heap.size + 1) hb_w2); (focus ((try simp) <;> omega)); (focus omega); (focus (go_simp; try exact rfl)); (focus (go_simp; try exact rfl)); (focus (intro o; go_simp)); intro cc cc fz hl; (with_reducible apply cel2 (b := w.heap.size + 1 + 1) hb_w2); (focus ((try simp) <;> omega)); (focus omega); (focus (go_simp; try exact rfl)); (focus (go_simp; try exact rfl)); (focus (intro o; go_simp)); intro cc cc fz hl)
      have HW2 := Lib.hid (show Below w1.heap.size w1 w2 by ((with_reducible (repeat (first | exact bR _ _ | refine bS ?_ ?_ _ | refine bA ?_ ?_ _ | refine bD ?_ | refine bT ?_ (by assumption) ?_ | refine bO (by assumption) ?_ ?_))) <;> (first | omega | (simp; done) | (simp <;> omega))))
      have HQ := Lib.hid (show IsC w2 (.agg #[.bool (decide (zq < 0)), .slice A2 (canN zq.natAbs).length c2]) zq from ⟨A2, c2, rfl, hc2, hA2⟩)
      have HR := Lib.hid (show IsC w2 (.agg #[.bool (decide (zr < 0)), .slice A2q (canN zr.natAbs).length c2q]) zr from ⟨A2q, c2q, rfl, hc2q, hA2q⟩)
      replace HA := Lib.hid (HA.out.below HW2.out)
      replace HB0 := Lib.hid (HB0.out.below HW2.out)
      replace HC0 := Lib.hid (HC0.out.below HW2.out)
      have hz2 : w.heap.size ≤ w2.heap.size := by omega
      replace HB := Lib.hid (HB.out.trans (HW2.out.mono (by omega)))
      clear hb_w2 HW2 hc2 hA2 hc2q hA2q
      go_wp2_with fail
      -- own blocks besides: w2.heap.size:2, w2.heap.size + 1:2
      (go_at_call 21; refine (K2.out _ _ (HB0.out.below (((Below.refl _ _).alloc (Nat.le_refl _) _).alloc (by simp) _))).mono ?_; rintro e w3 ⟨rfl, hb_w3⟩; have hz_w3 := hb_w3.size; (try simp at hz_w3); (with_reducible apply cel2 (b := w.heap.size) hb_w3); (focus ((try simp) <;> omega)); (focus omega); (focus (go_simp; try exact rfl)); (focus (go_simp; try exact rfl)); (focus (intro o; go_simp)); intro cc cc fz hl; (with_reducible apply cel2 (b := w.heap.size + 1) hb_w3); (focus ((try simp) <;> omega)); (focus omega); (focus (go_simp; try exact rfl)); (focus (go_simp; try exact rfl)); (focus (intro o; go_simp)); intro cc cc fz hl; (with_reducible apply cel2 (b := w.heap.size + 1 + 1) hb_w3); (focus ((try simp) <;> omega)); (focus omega); (focus (go_simp; try exact rfl)); (focus (go_simp; try exact rfl)); (focus (intro o; go_simp)); intro cc cc fz hl; (with_reducible apply cel2 (b := w2.heap.size) hb_w3); (focus ((try simp) <;> omega)); (focus omega); (focus (go_simp; try exact rfl)); (focus (go_simp; try exact rfl)); (focus (intro o; go_simp)); intro cc cc fz hl; (with_reducible apply cel2 (b := w2.heap.size + 1) hb_w3); (focus ((try simp) <;> omega)); (focus omega); (focus (go_simp; try exact rfl)); (focus (go_simp; try exact rfl)); (focus (intro o; go_simp)); intro cc cc fz hl)
      have HW3 := Lib.hid (show Below w2.heap.size w2 w3 by ((with_reducible (repeat (first | exact bR _ _ | refine bS ?_ ?_ _ | refine bA ?_ ?_ _ | refine bD ?_ | refine bT ?_ (by assumption) ?_ | refine bO (by assumption) ?_ ?_))) <;> (first | omega | (simp; done) | (simp <;> omega))))
      replace HA := Lib.hid (HA.out.below HW3.out)
      replace HB0 := Lib.hid (HB0.out.below HW3.out)
      replace HC0 := Lib.hid (HC0.out.below HW3.out)
      replace HQ := Lib.hid (HQ.out.below HW3.out)
      replace HR := Lib.hid (HR.out.below HW3.out)
      have hz3 : w.heap.size ≤ w3.heap.size := by omega
      replace HB := Lib.hid (HB.out.trans (HW3.out.mono (by omega)))
      clear hb_w3 HW3
      go_wp2_with fail
      (go_at_call 23; refine (K3.out _ _ _ ((HQ.out.below (Below.refl _ _)).zl lq) (HB0.out.below (Below.refl _ _))).mono ?_; rintro e w4 ⟨hb_w4, A4, c4, rfl, hc4, hA4⟩; have hz_w4 := hb_w4.size; (try simp at hz_w4); (with_reducible apply cel2 (b := w.heap.size) hb_w4); (focus ((try simp) <;> omega)); (focus omega); (focus (go_simp; try exact rfl)); (focus (go_simp; try exact rfl)); (focus (intro o; go_simp)); intro cc cc fz hl; (with_reducible apply cel2 (b := w.heap.size + 1) hb_w4); (focus ((try simp) <;> omega)); (focus omega); (focus (go_simp; try exact rfl)); (focus (go_simp; try exact rfl)); (focus (intro o; go_simp)); intro cc cc fz hl; (with_reducible apply cel2 (b := w.heap.size + 1 + 1) hb_w4); (focus ((try simp) <;> omega)); (focus omega); (focus (go_simp; try exact rfl)); (focus (go_simp; try exact rfl)); (focus (intro o; go_simp)); intro cc cc fz hl; (with_reducible apply cel2 (b := w2.heap.size) hb_w4); (focus ((try simp) <;> omega)); (focus omega); (focus (go_simp; try exact rfl)); (focus (go_simp; try exact rfl)); (focus (intro o; go_simp)); intro cc cc fz hl; (with_reducible apply cel2 (b := w2.heap.size + 1) hb_w4); (focus ((try simp) <;> omega)); (focus omega); (focus (go_simp; try exact rfl)); (focus (go_simp; try exact rfl)); (focus (intro o; go_simp)); intro cc cc fz hl)
      have HW4 := Lib.hid (show Below w3.heap.size w3 w4 by ((with_reducible (repeat (first | exact bR _ _ | refine bS ?_ ?_ _ | refine bA ?_ ?_ _ | refine bD ?_ | refine bT ?_ (by assumption) ?_ | refine bO (by assumption) ?_ ?_))) <;> (first | omega | (simp; done) | (simp <;> omega))))
      have HP := Lib.hid (show IsC w4 (.agg #[.bool (decide (zp < 0)), .slice A4 (canN zp.natAbs).length c4]) zp from ⟨A4, c4, rfl, hc4, hA4⟩)
      replace HA := Lib.hid (HA.out.below HW4.out)
      replace HB0 := Lib.hid (HB0.out.below HW4.out)
      replace HC0 := Lib.hid (HC0.out.below HW4.out)
      replace HQ := Lib.hid (HQ.out.below HW4.out)
      replace HR := Lib.hid (HR.out.below HW4.out)
      have hz4 : w.heap.size ≤ w4.heap.size := by omega
      replace HB := Lib.hid (HB.out.trans (HW4.out.mono (by omega)))
      clear hb_w4 HW4 hc4 hA4
      go_wp2_with fail
      -- own blocks besides: w4.heap.size:2
      (go_at_call 24; refine (K4.out _ _ _ ((HP.out.below ((Below.refl _ _).alloc (Nat.le_refl _) _)).zl lp) ((HR.out.below ((Below.refl _ _).alloc (Nat.le_refl _) _)).zl lr)).mono ?_; rintro e w5 ⟨hb_w5, A5, c5, rfl, hc5, hA5⟩; have hz_w5 := hb_w5.size; (try simp at hz_w5); (with_reducible apply cel2 (b := w.heap.size) hb_w5); (focus ((try simp) <;> omega)); (focus omega); (focus (go_simp; try exact rfl)); (focus (go_simp; try exact rfl)); (focus (intro o; go_simp)); intro cc cc fz hl; (with_reducible apply cel2 (b := w.heap.size + 1) hb_w5); (focus ((try simp) <;> omega)); (focus omega); (focus (go_simp; try exact rfl)); (focus (go_simp; try exact rfl)); (focus (intro o; go_simp)); intro cc cc fz hl; (with_reducible apply cel2 (b := w.heap.size + 1 + 1) hb_w5); (focus ((try simp) <;> omega)); (focus omega); (focus (go_simp; try exact rfl)); (focus (go_simp; try exact rfl)); (focus (intro o; go_simp)); intro cc cc fz hl; (with_reducible apply cel2 (b := w2.heap.size) hb_w5); (focus ((try simp) <;> omega)); (focus omega); (focus (go_simp; try exact rfl)); (focus (go_simp; try exact rfl)); (focus (intro o; go_simp)); intro cc cc fz hl; (with_reducible apply cel2 (b := w2.heap.size + 1) hb_w5); (focus ((try simp) <;> omega)); (focus omega); (focus (go_simp; try exact rfl)); (focus (go_simp; try exact rfl)); (focus (intro o; go_simp)); intro cc cc fz hl; (with_reducible apply cel2 (b := w4.heap.size) hb_w5); (focus ((try simp) <;> omega)); (focus omega); (focus (go_simp; try exact rfl)); (focus (go_simp; try exact rfl)); (focus (intro o; go_simp)); intro cc cc fz hl)
      have HW5 := Lib.hid (show Below w4.heap.size w4 w5 by ((with_reducible (repeat (first | exact bR _ _ | refine bS ?_ ?_ _ | refine bA ?_ ?_ _ | refine bD ?_ | refine bT ?_ (by assumption) ?_ | refine bO (by assumption) ?_ ?_))) <;> (first | omega | (simp; done) | (simp <;> omega))))
      have HS := Lib.hid (show IsC w5 (.agg #[.bool (decide (z1 < 0)), .slice A5 (canN z1.natAbs).length c5]) z1 from ⟨A5, c5, rfl, hc5, hA5⟩)
      replace HA := Lib.hid (HA.out.below HW5.out)
      replace HB0 := Lib.hid (HB0.out.below HW5.out)
      replace HC0 := Lib.hid (HC0.out.below HW5.out)
      replace HQ := Lib.hid (HQ.out.below HW5.out)
      replace HR := Lib.hid (HR.out.below HW5.out)
      replace HP := Lib.hid (HP.out.below HW5.out)
      have hz5 : w.heap.size ≤ w5.heap.size := by omega
      replace HB := Lib.hid (HB.out.trans (HW5.out.mono (by omega)))
      clear hb_w5 HW5 hc5 hA5
      go_wp2_with fail
      -- own blocks besides: w5.heap.size:2
      (refine pin_wp (N := _) (Nat.le_refl _) (fun w6 hb_w6 hz_w6 => ?_); (try simp at hz_w6); (with_reducible apply cel2 (b := w.heap.size) hb_w6); (focus ((try simp) <;> omega)); (focus omega); (focus (go_simp; try exact rfl)); (focus (go_simp; try exact rfl)); (focus (intro o; go_simp)); intro cc cc fz hl; (with_reducible apply cel2 (b := w.heap.size + 1) hb_w6); (focus ((try simp) <;> omega)); (focus omega); (focus (go_simp; try exact rfl)); (focus (go_simp; try exact rfl)); (focus (intro o; go_simp)); intro cc cc fz hl; (with_reducible apply cel2 (b := w.heap.size + 1 + 1) hb_w6); (focus ((try simp) <;> omega)); (focus omega); (focus (go_simp; try exact rfl)); (focus (go_simp; try exact rfl)); (focus (intro o; go_simp)); intro cc cc fz hl; (with_reducible apply cel2 (b := w2.heap.size) hb_w6); (focus ((try simp) <;> omega)); (focus omega); (focus (go_simp; try exact rfl)); (focus (go_simp; try exact rfl)); (focus (intro o; go_simp)); intro cc cc fz hl; (with_reducible apply cel2 (b := w2.heap.size + 1) hb_w6); (focus ((try simp) <;> omega)); (focus omega); (focus (go_simp; try exact rfl)); (focus (go_simp; try exact rfl)); (focus (intro o; go_simp)); intro cc cc fz hl; (with_reducible apply cel2 (b := w4.heap.size) hb_w6); (focus ((try simp) <;> omega)); (focus omega); (focus (go_simp; try exact rfl)); (focus (go_simp; try exact rfl)); (focus (intro o; go_simp)); intro cc cc fz hl; (with_reducible apply cel2 (b := w5.heap.size) hb_w6); (focus ((try simp) <;> omega)); (focus omega); (focus (go_simp; try exact rfl)); (focus (go_simp; try exact rfl)); (focus (intro o; go_simp)); intro cc cc fz hl); refine wp_region_float w6.heap.size 5 (Nat.le_refl _) (fun _ => True) trivial Cl.tt (by kernel_rfl) (by simp) ?_
      have HW6 := Lib.hid (show Below w5.heap.size w5 w6 by ((with_reducible (repeat (first | exact bR _ _ | refine bS ?_ ?_ _ | refine bA ?_ ?_ _ | refine bD ?_ | refine bT ?_ (by assumption) ?_ | refine bO (by assumption) ?_ ?_))) <;> (first | omega | (simp; done) | (simp <;> omega))))
      replace HA := Lib.hid (HA.out.below HW6.out)
      replace HB0 := Lib.hid (HB0.out.below HW6.out)
      replace HC0 := Lib.hid (HC0.out.below HW6.out)
      replace HQ := Lib.hid (HQ.out.below HW6.out)
      replace HR := Lib.hid (HR.out.below HW6.out)
      replace HP := Lib.hid (HP.out.below HW6.out)
      replace HS := Lib.hid (HS.out.below HW6.out)
      have hz6 : w.heap.size ≤ w6.heap.size := by omega
      replace HB := Lib.hid (HB.out.trans (HW6.out.mono (by omega)))
      clear hb_w6 HW6
      refine wpI_start [0] ?_; (iterate 1 (first | (refine wpI_off rfl (by kernel_rfl) rfl (fun K hK => ?_); go_simp; refine hK _ ?_; clear hK K) | ((first | apply wpI_step rfl (by kernel_rfl) rfl | apply wpI_on rfl (by kernel_rfl) rfl); (focus (intro W' hS; have hcS := hS.cells.1; have hfS := hS.cells.2; go_simp; (first | done | exact rfl | exact ⟨rfl, Below.refl _ _⟩ | (go_simp; first | done | exact rfl | exact ⟨rfl, Below.refl _ _⟩)))); intro K hK; go_simp; (try go_bits); refine hK _ ?_; clear hK K))); refine wpI_nil ?_
      refine wpI_start [2] ?_; (iterate 1 (first | (refine wpI_off rfl (by kernel_rfl) rfl (fun K hK => ?_); go_simp; refine hK _ ?_; clear hK K) | ((first | apply wpI_step rfl (by kernel_rfl) rfl | apply wpI_on rfl (by kernel_rfl) rfl); (focus (intro W' hS; have hcS := hS.cells.1; have hfS := hS.cells.2; go_simp; (first | done | exact rfl | exact ⟨rfl, Below.refl _ _⟩ | (go_simp; first | done | exact rfl | exact ⟨rfl, Below.refl _ _⟩)))); intro K hK; go_simp; (try go_bits); refine hK _ ?_; clear hK K))); refine wpI_nil ?_
      apply wpF_call (i := 1) rfl (by kernel_rfl) (by kernel_rfl); intro W hF hS; have hcS := hS.1.cells.1; have hfS := hS.1.cells.2; go_simp; (go_at_call 25; refine (positive_any 100 _ zr _ ((HR.out.below hS.1.2).zl lr) (by omega)).mono ?_; rintro e w40 ⟨hb_w40, v40, rfl, hv40⟩; refine XPost.mk _ (fun W => IsZ W v40 100 (zr.natAbs : Int)) hb_w40 (hv40) (IsZ.cl _ _ _) ?_); clear hb_w40 hcS hfS hS hF
      intro K hK; go_simp; (try go_bits); refine hK _ ?_; clear hK K
      clear hv40
      apply wpF_call (i := 3) rfl (by kernel_rfl) (by kernel_rfl); intro W hF hS; have hcS := hS.1.cells.1; have hfS := hS.1.cells.2; go_simp; (go_at_call 25; refine (positive_any 100 _ z2 _ (HB0.out.below hS.1.2) (by omega)).mono ?_; rintro e w41 ⟨hb_w41, v41, rfl, hv41⟩; refine XPost.mk _ (fun W => IsZ W v41 100 (z2.natAbs : Int)) hb_w41 (hv41) (IsZ.cl _ _ _) ?_); clear hb_w41 hcS hfS hS hF
      intro K hK; go_simp; (try go_bits); refine hK _ ?_; clear hK K
      clear hv41
      apply wpF_call (i := 4) rfl (by kernel_rfl) (by kernel_rfl); intro W hF hS; have hcS := hS.1.cells.1; have hfS := hS.1.cells.2; go_simp; (go_at_call 17; refine (K5.out _ _ _ hF.1 hF.2).mono ?_; rintro e w42 ⟨rfl, hb_w42⟩; refine XPost.mk _ (fun _ => True) hb_w42 (trivial) (Cl.tt) ?_); clear hb_w42 hcS hfS hS hF
      intro K hK; go_simp; (try go_bits); refine hK _ ?_; clear hK K
      refine wpF_done (by kernel_rfl) ?_
      intro w7 hF_w7 hSG
      have hz_w7 := hSG.1.1
      have hb_w7 := hSG.1.2
      clear hSG
      (with_reducible apply cel2 (b := w.heap.size) hb_w7); (focus ((try simp) <;> omega)); (focus omega); (focus (go_simp; try exact rfl)); (focus (go_simp; try exact rfl)); (focus (intro o; go_simp)); intro cc cc fz hl; (with_reducible apply cel2 (b := w.heap.size + 1) hb_w7); (focus ((try simp) <;> omega)); (focus omega); (focus (go_simp; try exact rfl)); (focus (go_simp; try exact rfl)); (focus (intro o; go_simp)); intro cc cc fz hl; (with_reducible apply cel2 (b := w.heap.size + 1 + 1) hb_w7); (focus ((try simp) <;> omega)); (focus omega); (focus (go_simp; try exact rfl)); (focus (go_simp; try exact rfl)); (focus (intro o; go_simp)); intro cc cc fz hl; (with_reducible apply cel2 (b := w2.heap.size) hb_w7); (focus ((try simp) <;> omega)); (focus omega); (focus (go_simp; try exact rfl)); (focus (go_simp; try exact rfl)); (focus (intro o; go_simp)); intro cc cc fz hl; (with_reducible apply cel2 (b := w2.heap.size + 1) hb_w7); (focus ((try simp) <;> omega)); (focus omega); (focus (go_simp; try exact rfl)); (focus (go_simp; try exact rfl)); (focus (intro o; go_simp)); intro cc cc fz hl; (with_reducible apply cel2 (b := w4.heap.size) hb_w7); (focus ((try simp) <;> omega)); (focus omega); (focus (go_simp; try exact rfl)); (focus (go_simp; try exact rfl)); (focus (intro o; go_simp)); intro cc cc fz hl; (with_reducible apply cel2 (b := w5.heap.size) hb_w7); (focus ((try simp) <;> omega)); (focus omega); (focus (go_simp; try exact rfl)); (focus (go_simp; try exact rfl)); (focus (intro o; go_simp)); intro cc cc fz hl
      (try simp only [List.drop_succ_cons, List.drop_zero])
      clear hF_w7
      have HW7 := Lib.hid (show Below w6.heap.size w6 w7 by exact hb_w7)
      replace HA := Lib.hid (HA.out.below HW7.out)
      replace HB0 := Lib.hid (HB0.out.below HW7.out)
      replace HC0 := Lib.hid (HC0.out.below HW7.out)
      replace HQ := Lib.hid (HQ.out.below HW7.out)
      replace HR := Lib.hid (HR.out.below HW7.out)
      replace HP := Lib.hid (HP.out.below HW7.out)
      replace HS := Lib.hid (HS.out.below HW7.out)
      have hz7 : w.heap.size ≤ w7.heap.size := by omega
      replace HB := Lib.hid (HB.out.trans (HW7.out.mono (by omega)))
      clear hb_w7 HW7
      go_wp2_with fail
      (go_at_call 23; refine (K6.out _ _ _ (HA.out.below (Below.refl _ _)) (HC0.out.below (Below.refl _ _))).mono ?_; rintro e w8 ⟨hb_w8, A8, c8, rfl, hc8, hA8⟩; have hz_w8 := hb_w8.size; (try simp at hz_w8); (with_reducible apply cel2 (b := w.heap.size) hb_w8); (focus ((try simp) <;> omega)); (focus omega); (focus (go_simp; try exact rfl)); (focus (go_simp; try exact rfl)); (focus (intro o; go_simp)); intro cc cc fz hl; (with_reducible apply cel2 (b := w.heap.size + 1) hb_w8); (focus ((try simp) <;> omega)); (focus omega); (focus (go_simp; try exact rfl)); (focus (go_simp; try exact rfl)); (focus (intro o; go_simp)); intro cc cc fz hl; (with_reducible apply cel2 (b := w.heap.size + 1 + 1) hb_w8); (focus ((try simp) <;> omega)); (focus omega); (focus (go_simp; try exact rfl)); (focus (go_simp; try exact rfl)); (focus (intro o; go_simp)); intro cc cc fz hl; (with_reducible apply cel2 (b := w2.heap.size) hb_w8); (focus ((try simp) <;> omega)); (focus omega); (focus (go_simp; try exact rfl)); (focus (go_simp; try exact rfl)); (focus (intro o; go_simp)); intro cc cc fz hl; (with_reducible apply cel2 (b := w2.heap.size + 1) hb_w8); (focus ((try simp) <;> omega)); (focus omega); (focus (go_simp; try exact rfl)); (focus (go_simp; try exact rfl)); (focus (intro o; go_simp)); intro cc cc fz hl; (with_reducible apply cel2 (b := w4.heap.size) hb_w8); (focus ((try simp) <;> omega)); (focus omega); (focus (go_simp; try exact rfl)); (focus (go_simp; try exact rfl)); (focus (intro o; go_simp)); intro cc cc fz hl; (with_reducible apply cel2 (b := w5.heap.size) hb_w8); (focus ((try simp) <;> omega)); (focus omega); (focus (go_simp; try exact rfl)); (focus (go_simp; try exact rfl)); (focus (intro o; go_simp)); intro cc cc fz hl)
      have HW8 := Lib.hid (show Below w7.heap.size w7 w8 by ((with_reducible (repeat (first | exact bR _ _ | refine bS ?_ ?_ _ | refine bA ?_ ?_ _ | refine bD ?_ | refine bT ?_ (by assumption) ?_ | refine bO (by assumption) ?_ ?_))) <;> (first | omega | (simp; done) | (simp <;> omega))))
      have HX := Lib.hid (show IsC w8 (.agg #[.bool (decide (zx < 0)), .slice A8 (canN zx.natAbs).length c8]) zx from ⟨A8, c8, rfl, hc8, hA8⟩)
      replace HA := Lib.hid (HA.out.below HW8.out)
      replace HB0 := Lib.hid (HB0.out.below HW8.out)
      replace HC0 := Lib.hid (HC0.out.below HW8.out)
      replace HQ := Lib.hid (HQ.out.below HW8.out)
      replace HR := Lib.hid (HR.out.below HW8.out)
      replace HP := Lib.hid (HP.out.below HW8.out)
      replace HS := Lib.hid (HS.out.below HW8.out)
      have hz8 : w.heap.size ≤ w8.heap.size := by omega
      replace HB := Lib.hid (HB.out.trans (HW8.out.mono (by omega)))
      clear hb_w8 HW8 hc8 hA8
      go_wp2_with fail
      -- own blocks besides: w8.heap.size:2
      (go_at_call 23; refine (K7.out _ _ _ (HB0.out.below ((Below.refl _ _).alloc (Nat.le_refl _) _)) (HC0.out.below ((Below.refl _ _).alloc (Nat.le_refl _) _))).mono ?_; rintro e w9 ⟨hb_w9, A9, c9, rfl, hc9, hA9⟩; have hz_w9 := hb_w9.size; (try simp at hz_w9); (with_reducible apply cel2 (b := w.heap.size) hb_w9); (focus ((try simp) <;> omega)); (focus omega); (focus (go_simp; try exact rfl)); (focus (go_simp; try exact rfl)); (focus (intro o; go_simp)); intro cc cc fz hl; (with_reducible apply cel2 (b := w.heap.size + 1) hb_w9); (focus ((try simp) <;> omega)); (focus omega); (focus (go_simp; try exact rfl)); (focus (go_simp; try exact rfl)); (focus (intro o; go_simp)); intro cc cc fz hl; (with_reducible apply cel2 (b := w.heap.size + 1 + 1) hb_w9); (focus ((try simp) <;> omega)); (focus omega); (focus (go_simp; try exact rfl)); (focus (go_simp; try exact rfl)); (focus (intro o; go_simp)); intro cc cc fz hl; (with_reducible apply cel2 (b := w2.heap.size) hb_w9); (focus ((try simp) <;> omega)); (focus omega); (focus (go_simp; try exact rfl)); (focus (go_simp; try exact rfl)); (focus (intro o; go_simp)); intro cc cc fz hl; (with_reducible apply cel2 (b := w2.heap.size + 1) hb_w9); (focus ((try simp) <;> omega)); (focus omega); (focus (go_simp; try exact rfl)); (focus (go_simp; try exact rfl)); (focus (intro o; go_simp)); intro cc cc fz hl; (with_reducible apply cel2 (b := w4.heap.size) hb_w9); (focus ((try simp) <;> omega)); (focus omega); (focus (go_simp; try exact rfl)); (focus (go_simp; try exact rfl)); (focus (intro o; go_simp)); intro cc cc fz hl; (with_reducible apply cel2 (b := w5.heap.size) hb_w9); (focus ((try simp) <;> omega)); (focus omega); (focus (go_simp; try exact rfl)); (focus (go_simp; try exact rfl)); (focus (intro o; go_simp)); intro cc cc fz hl; (with_reducible apply cel2 (b := w8.heap.size) hb_w9); (focus ((try simp) <;> omega)); (focus omega); (focus (go_simp; try exact rfl)); (focus (go_simp; try exact rfl)); (focus (intro o; go_simp)); intro cc cc fz hl)
      have HW9 := Lib.hid (show Below w8.heap.size w8 w9 by ((with_reducible (repeat (first | exact bR _ _ | refine bS ?_ ?_ _ | refine bA ?_ ?_ _ | refine bD ?_ | refine bT ?_ (by assumption) ?_ | refine bO (by assumption) ?_ ?_))) <;> (first | omega | (simp; done) | (simp <;> omega))))
      have HY := Lib.hid (show IsC w9 (.agg #[.bool (decide (zy < 0)), .slice A9 (canN zy.natAbs).length c9]) zy from ⟨A9, c9, rfl, hc9, hA9⟩)
      replace HA := Lib.hid (HA.out.below HW9.out)
      replace HB0 := Lib.hid (HB0.out.below HW9.out)
      replace HC0 := Lib.hid (HC0.out.below HW9.out)
      replace HQ := Lib.hid (HQ.out.below HW9.out)
      replace HR := Lib.hid (HR.out.below HW9.out)
      replace HP := Lib.hid (HP.out.below HW9.out)
      replace HS := Lib.hid (HS.out.below HW9.out)
      replace HX := Lib.hid (HX.out.below HW9.out)
      have hz9 : w.heap.size ≤ w9.heap.size := by omega
      replace HB := Lib.hid (HB.out.trans (HW9.out.mono (by omega)))
      clear hb_w9 HW9 hc9 hA9
      go_wp2_with fail
      -- own blocks besides: w9.heap.size:2
      (go_at_call 26; refine (K8.out _ _ _ ((HX.out.below ((Below.refl _ _).alloc (Nat.le_refl _) _)).zl lx) ((HY.out.below ((Below.refl _ _).alloc (Nat.le_refl _) _)).zl ly)).mono ?_; rintro e w10 ⟨hb_w10, A10, c10, rfl, hc10, hA10⟩; have hz_w10 := hb_w10.size; (try simp at hz_w10); (with_reducible apply cel2 (b := w.heap.size) hb_w10); (focus ((try simp) <;> omega)); (focus omega); (focus (go_simp; try exact rfl)); (focus (go_simp; try exact rfl)); (focus (intro o; go_simp)); intro cc cc fz hl; (with_reducible apply cel2 (b := w.heap.size + 1) hb_w10); (focus ((try simp) <;> omega)); (focus omega); (focus (go_simp; try exact rfl)); (focus (go_simp; try exact rfl)); (focus (intro o; go_simp)); intro cc cc fz hl; (with_reducible apply cel2 (b := w.heap.size + 1 + 1) hb_w10); (focus ((try simp) <;> omega)); (focus omega); (focus (go_simp; try exact rfl)); (focus (go_simp; try exact rfl)); (focus (intro o; go_simp)); intro cc cc fz hl; (with_reducible apply cel2 (b := w2.heap.size) hb_w10); (focus ((try simp) <;> omega)); (focus omega); (focus (go_simp; try exact rfl)); (focus (go_simp; try exact rfl)); (focus (intro o; go_simp)); intro cc cc fz hl; (with_reducible apply cel2 (b := w2.heap.size + 1) hb_w10); (focus ((try simp) <;> omega)); (focus omega); (focus (go_simp; try exact rfl)); (focus (go_simp; try exact rfl)); (focus (intro o; go_simp)); intro cc cc fz hl; (with_reducible apply cel2 (b := w4.heap.size) hb_w10); (focus ((try simp) <;> omega)); (focus omega); (focus (go_simp; try exact rfl)); (focus (go_simp; try exact rfl)); (focus (intro o; go_simp)); intro cc cc fz hl; (with_reducible apply cel2 (b := w5.heap.size) hb_w10); (focus ((try simp) <;> omega)); (focus omega); (focus (go_simp; try exact rfl)); (focus (go_simp; try exact rfl)); (focus (intro o; go_simp)); intro cc cc fz hl; (with_reducible apply cel2 (b := w8.heap.size) hb_w10); (focus ((try simp) <;> omega)); (focus omega); (focus (go_simp; try exact rfl)); (focus (go_simp; try exact rfl)); (focus (intro o; go_simp)); intro cc cc fz hl; (with_reducible apply cel2 (b := w9.heap.size) hb_w10); (focus ((try simp) <;> omega)); (focus omega); (focus (go_simp; try exact rfl)); (focus (go_simp; try exact rfl)); (focus (intro o; go_simp)); intro cc cc fz hl)
      have HW10 := Lib.hid (show Below w9.heap.size w9 w10 by ((with_reducible (repeat (first | exact bR _ _ | refine bS ?_ ?_ _ | refine bA ?_ ?_ _ | refine bD ?_ | refine bT ?_ (by assumption) ?_ | refine bO (by assumption) ?_ ?_))) <;> (first | omega | (simp; done) | (simp <;> omega))))
      have HD := Lib.hid (show IsC w10 (.agg #[.bool (decide (zd < 0)), .slice A10 (canN zd.natAbs).length c10]) zd from ⟨A10, c10, rfl, hc10, hA10⟩)
      replace HA := Lib.hid (HA.out.below HW10.out)
      replace HB0 := Lib.hid (HB0.out.below HW10.out)
      replace HC0 := Lib.hid (HC0.out.below HW10.out)
      replace HQ := Lib.hid (HQ.out.below HW10.out)
      replace HR := Lib.hid (HR.out.below HW10.out)
      replace HP := Lib.hid (HP.out.below HW10.out)
      replace HS := Lib.hid (HS.out.below HW10.out)
      replace HX := Lib.hid (HX.out.below HW10.out)
      replace HY := Lib.hid (HY.out.below HW10.out)
      have hz10 : w.heap.size ≤ w10.heap.size := by omega
      replace HB := Lib.hid (HB.out.trans (HW10.out.mono (by omega)))
      clear hb_w10 HW10 hc10 hA10
      go_wp2_with fail
      -- own blocks besides: w10.heap.size:2
      (refine pin_wp (N := _) (Nat.le_refl _) (fun w11 hb_w11 hz_w11 => ?_); (try simp at hz_w11); (with_reducible apply cel2 (b := w.heap.size) hb_w11); (focus ((try simp) <;> omega)); (focus omega); (focus (go_simp; try exact rfl)); (focus (go_simp; try exact rfl)); (focus (intro o; go_simp)); intro cc cc fz hl; (with_reducible apply cel2 (b := w.heap.size + 1) hb_w11); (focus ((try simp) <;> omega)); (focus omega); (focus (go_simp; try exact rfl)); (focus (go_simp; try exact rfl)); (focus (intro o; go_simp)); intro cc cc fz hl; (with_reducible apply cel2 (b := w.heap.size + 1 + 1) hb_w11); (focus ((try simp) <;> omega)); (focus omega); (focus (go_simp; try exact rfl)); (focus (go_simp; try exact rfl)); (focus (intro o; go_simp)); intro cc cc fz hl; (with_reducible apply cel2 (b := w2.heap.size) hb_w11); (focus ((try simp) <;> omega)); (focus omega); (focus (go_simp; try exact rfl)); (focus (go_simp; try exact rfl)); (focus (intro o; go_simp)); intro cc cc fz hl; (with_reducible apply cel2 (b := w2.heap.size + 1) hb_w11); (focus ((try simp) <;> omega)); (focus omega); (focus (go_simp; try exact rfl)); (focus (go_simp; try exact rfl)); (focus (intro o; go_simp)); intro cc cc fz hl; (with_reducible apply cel2 (b := w4.heap.size) hb_w11); (focus ((try simp) <;> omega)); (focus omega); (focus (go_simp; try exact rfl)); (focus (go_simp; try exact rfl)); (focus (intro o; go_simp)); intro cc cc fz hl; (with_reducible apply cel2 (b := w5.heap.size) hb_w11); (focus ((try simp) <;> omega)); (focus omega); (focus (go_simp; try exact rfl)); (focus (go_simp; try exact rfl)); (focus (intro o; go_simp)); intro cc cc fz hl; (with_reducible apply cel2 (b := w8.heap.size) hb_w11); (focus ((try simp) <;> omega)); (focus omega); (focus (go_simp; try exact rfl)); (focus (go_simp; try exact rfl)); (focus (intro o; go_simp)); intro cc cc fz hl; (with_reducible apply cel2 (b := w9.heap.size) hb_w11); (focus ((try simp) <;> omega)); (focus omega); (focus (go_simp; try exact rfl)); (focus (go_simp; try exact rfl)); (focus (intro o; go_simp)); intro cc cc fz hl; (with_reducible apply cel2 (b := w10.heap.size) hb_w11); (focus ((try simp) <;> omega)); (focus omega); (focus (go_simp; try exact rfl)); (focus (go_simp; try exact rfl)); (focus (intro o; go_simp)); intro cc cc fz hl); refine wp_region_float w11.heap.size 44 (Nat.le_refl _) (fun _ => True) trivial Cl.tt (by kernel_rfl) (by simp) ?_
      have HW11 := Lib.hid (show Below w10.heap.size w10 w11 by ((with_reducible (repeat (first | exact bR _ _ | refine bS ?_ ?_ _ | refine bA ?_ ?_ _ | refine bD ?_ | refine bT ?_ (by assumption) ?_ | refine bO (by assumption) ?_ ?_))) <;> (first | omega | (simp; done) | (simp <;> omega))))
      replace HA := Lib.hid (HA.out.below HW11.out)
      replace HB0 := Lib.hid (HB0.out.below HW11.out)
      replace HC0 := Lib.hid (HC0.out.below HW11.out)
      replace HQ := Lib.hid (HQ.out.below HW11.out)
      replace HR := Lib.hid (HR.out.below HW11.out)
      replace HP := Lib.hid (HP.out.below HW11.out)
      replace HS := Lib.hid (HS.out.below HW11.out)
      replace HX := Lib.hid (HX.out.below HW11.out)
      replace HY := Lib.hid (HY.out.below HW11.out)
      replace HD := Lib.hid (HD.out.below HW11.out)
      have hz11 : w.heap.size ≤ w11.heap.size := by omega
      replace HB := Lib.hid (HB.out.trans (HW11.out.mono (by omega)))
      clear hb_w11 HW11
      refine wpI_start [0, 1, 2, 3, 4, 5, 6, 7, 8, 9, 10, 11, 12, 13, 14, 15, 16, 17, 18, 19, 20, 21, 22, 23, 24] ?_; (iterate 25 (first | (refine wpI_off rfl (by kernel_rfl) rfl (fun K hK => ?_); go_simp; refine hK _ ?_; clear hK K) | ((first | apply wpI_step rfl (by kernel_rfl) rfl | apply wpI_on rfl (by kernel_rfl) rfl); (focus (intro W' hS; have hcS := hS.cells.1; have hfS := hS.cells.2; go_simp; (first | done | exact rfl | exact ⟨rfl, Below.refl _ _⟩ | (go_simp; first | done | exact rfl | exact ⟨rfl, Below.refl _ _⟩)))); intro K hK; go_simp; (try go_bits); refine hK _ ?_; clear hK K))); refine wpI_nil ?_
      refine wpI_start [25] ?_; (iterate 1 (first | (refine wpI_off rfl (by kernel_rfl) rfl (fun K hK => ?_); go_simp; refine hK _ ?_; clear hK K) | ((first | apply wpI_step rfl (by kernel_rfl) rfl | apply wpI_on rfl (by kernel_rfl) rfl); (focus (intro W' hS; have hcS := hS.cells.1; have hfS := hS.cells.2; go_simp; (first | done | exact rfl | exact ⟨rfl, Below.refl _ _⟩ | (go_at_call 17; exact (K9.out _ _ _ ((HS.out.below hS.2).zl la) (HA.out.below hS.2)).mono (fun _ _ h => ⟨h.1, h.2⟩)) | (go_simp; first | done | exact rfl | exact ⟨rfl, Below.refl _ _⟩)))); intro K hK; go_simp; (try go_bits); refine hK _ ?_; clear hK K))); refine wpI_nil ?_
      refine wpI_start [26, 27, 28, 29, 30, 31, 32, 33, 34, 35, 36, 37, 38, 39, 40, 41, 42, 43] ?_; (iterate 18 (first | (refine wpI_off rfl (by kernel_rfl) rfl (fun K hK => ?_); go_simp; refine hK _ ?_; clear hK K) | ((first | apply wpI_step rfl (by kernel_rfl) rfl | apply wpI_on rfl (by kernel_rfl) rfl); (focus (intro W' hS; have hcS := hS.cells.1; have hfS := hS.cells.2; go_simp; (first | done | exact rfl | exact ⟨rfl, Below.refl _ _⟩ | (go_at_call 21; exact (K10.out _ _ ((HR.out.below hS.2).zl lr)).mono (fun _ _ h => ⟨h.1, h.2⟩)) | (go_simp; first | done | exact rfl | exact ⟨rfl, Below.refl _ _⟩)))); intro K hK; go_simp; (try go_bits); refine hK _ ?_; clear hK K))); refine wpI_nil ?_
      refine wpF_done (by kernel_rfl) ?_
      intro w12 hF_w12 hSG
      have hz_w12 := hSG.1.1
      have hb_w12 := hSG.1.2
      clear hSG
      (with_reducible apply cel2 (b := w.heap.size) hb_w12); (focus ((try simp) <;> omega)); (focus omega); (focus (go_simp; try exact rfl)); (focus (go_simp; try exact rfl)); (focus (intro o; go_simp)); intro cc cc fz hl; (with_reducible apply cel2 (b := w.heap.size + 1) hb_w12); (focus ((try simp) <;> omega)); (focus omega); (focus (go_simp; try exact rfl)); (focus (go_simp; try exact rfl)); (focus (intro o; go_simp)); intro cc cc fz hl; (with_reducible apply cel2 (b := w.heap.size + 1 + 1) hb_w12); (focus ((try simp) <;> omega)); (focus omega); (focus (go_simp; try exact rfl)); (focus (go_simp; try exact rfl)); (focus (intro o; go_simp)); intro cc cc fz hl; (with_reducible apply cel2 (b := w2.heap.size) hb_w12); (focus ((try simp) <;> omega)); (focus omega); (focus (go_simp; try exact rfl)); (focus (go_simp; try exact rfl)); (focus (intro o; go_simp)); intro cc cc fz hl; (with_reducible apply cel2 (b := w2.heap.size + 1) hb_w12); (focus ((try simp) <;> omega)); (focus omega); (focus (go_simp; try exact rfl)); (focus (go_simp; try exact rfl)); (focus (intro o; go_simp)); intro cc cc fz hl; (with_reducible apply cel2 (b := w4.heap.size) hb_w12); (focus ((try simp) <;> omega)); (focus omega); (focus (go_simp; try exact rfl)); (focus (go_simp; try exact rfl)); (focus (intro o; go_simp)); intro cc cc fz hl; (with_reducible apply cel2 (b := w5.heap.size) hb_w12); (focus ((try simp) <;> omega)); (focus omega); (focus (go_simp; try exact rfl)); (focus (go_simp; try exact rfl)); (focus (intro o; go_simp)); intro cc cc fz hl; (with_reducible apply cel2 (b := w8.heap.size) hb_w12); (focus ((try simp) <;> omega)); (focus omega); (focus (go_simp; try exact rfl)); (focus (go_simp; try exact rfl)); (focus (intro o; go_simp)); intro cc cc fz hl; (with_reducible apply cel2 (b := w9.heap.size) hb_w12); (focus ((try simp) <;> omega)); (focus omega); (focus (go_simp; try exact rfl)); (focus (go_simp; try exact rfl)); (focus (intro o; go_simp)); intro cc cc fz hl; (with_reducible apply cel2 (b := w10.heap.size) hb_w12); (focus ((try simp) <;> omega)); (focus omega); (focus (go_simp; try exact rfl)); (focus (go_simp; try exact rfl)); (focus (intro o; go_simp)); intro cc cc fz hl
      (try simp only [List.drop_succ_cons, List.drop_zero])
      have HW12 := Lib.hid (show Below w11.heap.size w11 w12 by exact hb_w12)
      replace HA := Lib.hid (HA.out.below HW12.out)
      replace HB0 := Lib.hid (HB0.out.below HW12.out)
      replace HC0 := Lib.hid (HC0.out.below HW12.out)
      replace HQ := Lib.hid (HQ.out.below HW12.out)
      replace HR := Lib.hid (HR.out.below HW12.out)
      replace HP := Lib.hid (HP.out.below HW12.out)
      replace HS := Lib.hid (HS.out.below HW12.out)
      replace HX := Lib.hid (HX.out.below HW12.out)
      replace HY := Lib.hid (HY.out.below HW12.out)
      replace HD := Lib.hid (HD.out.below HW12.out)
      have hz12 : w.heap.size ≤ w12.heap.size := by omega
      replace HB := Lib.hid (HB.out.trans (HW12.out.mono (by omega)))
      clear hb_w12 HW12
      go_wp2_with fail
      (go_at_call 27; refine (K12.out _ _ _ ((HD.out.below (Below.refl _ _)).zl ld) ((HX.out.below (Below.refl _ _)).zl lx)).mono ?_; rintro e w13 ⟨rfl, hb_w13⟩; have hz_w13 := hb_w13.size; (try simp at hz_w13); (with_reducible apply cel2 (b := w.heap.size) hb_w13); (focus ((try simp) <;> omega)); (focus omega); (focus (go_simp; try exact rfl)); (focus (go_simp; try exact rfl)); (focus (intro o; go_simp)); intro cc cc fz hl; (with_reducible apply cel2 (b := w.heap.size + 1) hb_w13); (focus ((try simp) <;> omega)); (focus omega); (focus (go_simp; try exact rfl)); (focus (go_simp; try exact rfl)); (focus (intro o; go_simp)); intro cc cc fz hl; (with_reducible apply cel2 (b := w.heap.size + 1 + 1) hb_w13); (focus ((try simp) <;> omega)); (focus omega); (focus (go_simp; try exact rfl)); (focus (go_simp; try exact rfl)); (focus (intro o; go_simp)); intro cc cc fz hl; (with_reducible apply cel2 (b := w2.heap.size) hb_w13); (focus ((try simp) <;> omega)); (focus omega); (focus (go_simp; try exact rfl)); (focus (go_simp; try exact rfl)); (focus (intro o; go_simp)); intro cc cc fz hl; (with_reducible apply cel2 (b := w2.heap.size + 1) hb_w13); (focus ((try simp) <;> omega)); (focus omega); (focus (go_simp; try exact rfl)); (focus (go_simp; try exact rfl)); (focus (intro o; go_simp)); intro cc cc fz hl; (with_reducible apply cel2 (b := w4.heap.size) hb_w13); (focus ((try simp) <;> omega)); (focus omega); (focus (go_simp; try exact rfl)); (focus (go_simp; try exact rfl)); (focus (intro o; go_simp)); intro cc cc fz hl; (with_reducible apply cel2 (b := w5.heap.size) hb_w13); (focus ((try simp) <;> omega)); (focus omega); (focus (go_simp; try exact rfl)); (focus (go_simp; try exact rfl)); (focus (intro o; go_simp)); intro cc cc fz hl; (with_reducible apply cel2 (b := w8.heap.size) hb_w13); (focus ((try simp) <;> omega)); (focus omega); (focus (go_simp; try exact rfl)); (focus (go_simp; try exact rfl)); (focus (intro o; go_simp)); intro cc cc fz hl; (with_reducible apply cel2 (b := w9.heap.size) hb_w13); (focus ((try simp) <;> omega)); (focus omega); (focus (go_simp; try exact rfl)); (focus (go_simp; try exact rfl)); (focus (intro o; go_simp)); intro cc cc fz hl; (with_reducible apply cel2 (b := w10.heap.size) hb_w13); (focus ((try simp) <;> omega)); (focus omega); (focus (go_simp; try exact rfl)); (focus (go_simp; try exact rfl)); (focus (intro o; go_simp)); intro cc cc fz hl)
      have HW13 := Lib.hid (show Below w12.heap.size w12 w13 by ((with_reducible (repeat (first | exact bR _ _ | refine bS ?_ ?_ _ | refine bA ?_ ?_ _ | refine bD ?_ | refine bT ?_ (by assumption) ?_ | refine bO (by assumption) ?_ ?_))) <;> (first | omega | (simp; done) | (simp <;> omega))))
      replace HA := Lib.hid (HA.out.below HW13.out)
      replace HB0 := Lib.hid (HB0.out.below HW13.out)
      replace HC0 := Lib.hid (HC0.out.below HW13.out)
      replace HQ := Lib.hid (HQ.out.below HW13.out)
      replace HR := Lib.hid (HR.out.below HW13.out)
      replace HP := Lib.hid (HP.out.below HW13.out)
      replace HS := Lib.hid (HS.out.below HW13.out)
      replace HX := Lib.hid (HX.out.below HW13.out)
      replace HY := Lib.hid (HY.out.below HW13.out)
      replace HD := Lib.hid (HD.out.below HW13.out)
      have hz13 : w.heap.size ≤ w13.heap.size := by omega
      replace HB := Lib.hid (HB.out.trans (HW13.out.mono (by omega)))
      clear hb_w13 HW13
      go_wp2_with fail
      (go_at_call 27; refine (K13.out _ _ _ ((HD.out.below (Below.refl _ _)).zl ld) ((HY.out.below (Below.refl _ _)).zl ly)).mono ?_; rintro e w14 ⟨rfl, hb_w14⟩; have hz_w14 := hb_w14.size; (try simp at hz_w14); (with_reducible apply cel2 (b := w.heap.size) hb_w14); (focus ((try simp) <;> omega)); (focus omega); (focus (go_simp; try exact rfl)); (focus (go_simp; try exact rfl)); (focus (intro o; go_simp)); intro cc cc fz hl; (with_reducible apply cel2 (b := w.heap.size + 1) hb_w14); (focus ((try simp) <;> omega)); (focus omega); (focus (go_simp; try exact rfl)); (focus (go_simp; try exact rfl)); (focus (intro o; go_simp)); intro cc cc fz hl; (with_reducible apply cel2 (b := w.heap.size + 1 + 1) hb_w14); (focus ((try simp) <;> omega)); (focus omega); (focus (go_simp; try exact rfl)); (focus (go_simp; try exact rfl)); (focus (intro o; go_simp)); intro cc cc fz hl; (with_reducible apply cel2 (b := w2.heap.size) hb_w14); (focus ((try simp) <;> omega)); (focus omega); (focus (go_simp; try exact rfl)); (focus (go_simp; try exact rfl)); (focus (intro o; go_simp)); intro cc cc fz hl; (with_reducible apply cel2 (b := w2.heap.size + 1) hb_w14); (focus ((try simp) <;> omega)); (focus omega); (focus (go_simp; try exact rfl)); (focus (go_simp; try exact rfl)); (focus (intro o; go_simp)); intro cc cc fz hl; (with_reducible apply cel2 (b := w4.heap.size) hb_w14); (focus ((try simp) <;> omega)); (focus omega); (focus (go_simp; try exact rfl)); (focus (go_simp; try exact rfl)); (focus (intro o; go_simp)); intro cc cc fz hl; (with_reducible apply cel2 (b := w5.heap.size) hb_w14); (focus ((try simp) <;> omega)); (focus omega); (focus (go_simp; try exact rfl)); (focus (go_simp; try exact rfl)); (focus (intro o; go_simp)); intro cc cc fz hl; (with_reducible apply cel2 (b := w8.heap.size) hb_w14); (focus ((try simp) <;> omega)); (focus omega); (focus (go_simp; try exact rfl)); (focus (go_simp; try exact rfl)); (focus (intro o; go_simp)); intro cc cc fz hl; (with_reducible apply cel2 (b := w9.heap.size) hb_w14); (focus ((try simp) <;> omega)); (focus omega); (focus (go_simp; try exact rfl)); (focus (go_simp; try exact rfl)); (focus (intro o; go_simp)); intro cc cc fz hl; (with_reducible apply cel2 (b := w10.heap.size) hb_w14); (focus ((try simp) <;> omega)); (focus omega); (focus (go_simp; try exact rfl)); (focus (go_simp; try exact rfl)); (focus (intro o; go_simp)); intro cc cc fz hl)
      have HW14 := Lib.hid (show Below w13.heap.size w13 w14 by ((with_reducible (repeat (first | exact bR _ _ | refine bS ?_ ?_ _ | refine bA ?_ ?_ _ | refine bD ?_ | refine bT ?_ (by assumption) ?_ | refine bO (by assumption) ?_ ?_))) <;> (first | omega | (simp; done) | (simp <;> omega))))
      replace HA := Lib.hid (HA.out.below HW14.out)
      replace HB0 := Lib.hid (HB0.out.below HW14.out)
      replace HC0 := Lib.hid (HC0.out.below HW14.out)
      replace HQ := Lib.hid (HQ.out.below HW14.out)
      replace HR := Lib.hid (HR.out.below HW14.out)
      replace HP := Lib.hid (HP.out.below HW14.out)
      replace HS := Lib.hid (HS.out.below HW14.out)
      replace HX := Lib.hid (HX.out.below HW14.out)
      replace HY := Lib.hid (HY.out.below HW14.out)
      replace HD := Lib.hid (HD.out.below HW14.out)
      have hz14 : w.heap.size ≤ w14.heap.size := by omega
      replace HB := Lib.hid (HB.out.trans (HW14.out.mono (by omega)))
      clear hb_w14 HW14
      go_wp2_with fail
      (go_at_call 27; refine (K14.out _ _ _ (HC0.out.below (Below.refl _ _)) ((HD.out.below (Below.refl _ _)).zl ld)).mono ?_; rintro e w15 ⟨rfl, hb_w15⟩; have hz_w15 := hb_w15.size; (try simp at hz_w15); (with_reducible apply cel2 (b := w.heap.size) hb_w15); (focus ((try simp) <;> omega)); (focus omega); (focus (go_simp; try exact rfl)); (focus (go_simp; try exact rfl)); (focus (intro o; go_simp)); intro cc cc fz hl; (with_reducible apply cel2 (b := w.heap.size + 1) hb_w15); (focus ((try simp) <;> omega)); (focus omega); (focus (go_simp; try exact rfl)); (focus (go_simp; try exact rfl)); (focus (intro o; go_simp)); intro cc cc fz hl; (with_reducible apply cel2 (b := w.heap.size + 1 + 1) hb_w15); (focus ((try simp) <;> omega)); (focus omega); (focus (go_simp; try exact rfl)); (focus (go_simp; try exact rfl)); (focus (intro o; go_simp)); intro cc cc fz hl; (with_reducible apply cel2 (b := w2.heap.size) hb_w15); (focus ((try simp) <;> omega)); (focus omega); (focus (go_simp; try exact rfl)); (focus (go_simp; try exact rfl)); (focus (intro o; go_simp)); intro cc cc fz hl; (with_reducible apply cel2 (b := w2.heap.size + 1) hb_w15); (focus ((try simp) <;> omega)); (focus omega); (focus (go_simp; try exact rfl)); (focus (go_simp; try exact rfl)); (focus (intro o; go_simp)); intro cc cc fz hl; (with_reducible apply cel2 (b := w4.heap.size) hb_w15); (focus ((try simp) <;> omega)); (focus omega); (focus (go_simp; try exact rfl)); (focus (go_simp; try exact rfl)); (focus (intro o; go_simp)); intro cc cc fz hl; (with_reducible apply cel2 (b := w5.heap.size) hb_w15); (focus ((try simp) <;> omega)); (focus omega); (focus (go_simp; try exact rfl)); (focus (go_simp; try exact rfl)); (focus (intro o; go_simp)); intro cc cc fz hl; (with_reducible apply cel2 (b := w8.heap.size) hb_w15); (focus ((try simp) <;> omega)); (focus omega); (focus (go_simp; try exact rfl)); (focus (go_simp; try exact rfl)); (focus (intro o; go_simp)); intro cc cc fz hl; (with_reducible apply cel2 (b := w9.heap.size) hb_w15); (focus ((try simp) <;> omega)); (focus omega); (focus (go_simp; try exact rfl)); (focus (go_simp; try exact rfl)); (focus (intro o; go_simp)); intro cc cc fz hl; (with_reducible apply cel2 (b := w10.heap.size) hb_w15); (focus ((try simp) <;> omega)); (focus omega); (focus (go_simp; try exact rfl)); (focus (go_simp; try exact rfl)); (focus (intro o; go_simp)); intro cc cc fz hl)
      have HW15 := Lib.hid (show Below w14.heap.size w14 w15 by ((with_reducible (repeat (first | exact bR _ _ | refine bS ?_ ?_ _ | refine bA ?_ ?_ _ | refine bD ?_ | refine bT ?_ (by assumption) ?_ | refine bO (by assumption) ?_ ?_))) <;> (first | omega | (simp; done) | (simp <;> omega))))
      replace HA := Lib.hid (HA.out.below HW15.out)
      replace HB0 := Lib.hid (HB0.out.below HW15.out)
      replace HC0 := Lib.hid (HC0.out.below HW15.out)
      replace HQ := Lib.hid (HQ.out.below HW15.out)
      replace HR := Lib.hid (HR.out.below HW15.out)
      replace HP := Lib.hid (HP.out.below HW15.out)
      replace HS := Lib.hid (HS.out.below HW15.out)
      replace HX := Lib.hid (HX.out.below HW15.out)
      replace HY := Lib.hid (HY.out.below HW15.out)
      replace HD := Lib.hid (HD.out.below HW15.out)
      have hz15 : w.heap.size ≤ w15.heap.size := by omega
      replace HB := Lib.hid (HB.out.trans (HW15.out.mono (by omega)))
      clear hb_w15 HW15
      go_wp2_with fail
      go_ret
      refine ⟨ret_bool (by first | rfl | simp | (simp; omega)), HB.out⟩
    · have hr := hsg hr0
      rw [hr] at k10
      have hn0 : (sgn z1 == 0) = false := by rw [← hr]; unfold sgn; rw [if_neg hr0]; split <;> rfl
      obtain ⟨s1, es1⟩ : ∃ s, s = sgn z1 := ⟨_, rfl⟩
      rw [← es1] at k10 k11 hn0
      have K10 := Lib.hid k10
      have K11 := Lib.hid k11
      have hn2 : ¬ s1 = 0 := by simpa using hn0
      have hn3 : (s1 != 0) = true := by simp [hn2]
      clear k10 k11 hsg hr0 hr es1
      go_enter Try.func5, Try.ntmps5; (try simp only [List.append_eq, List.cons_append, List.nil_append])
      go_wp2_with fail
      -- own blocks: w.heap.size:2, w.heap.size + 1:2, w.heap.size + 1 + 1:2
      (go_at_call 10; refine (awake01_any _).mono ?_; rintro e w1 ⟨rfl, hb_w1⟩; have hz_w1 := hb_w1.size; (try simp at hz_w1); (with_reducible apply cel2 (b := w.heap.size) hb_w1); (focus ((try simp) <;> omega)); (focus omega); (focus (go_simp; try exact rfl)); (focus (go_simp; try exact rfl)); (focus (intro o; go_simp)); intro cc cc fz hl; (with_reducible apply cel2 (b := w.heap.size + 1) hb_w1); (focus ((try simp) <;> omega)); (focus omega); (focus (go_simp; try exact rfl)); (focus (go_simp; try exact rfl)); (focus (intro o; go_simp)); intro cc cc fz hl; (with_reducible apply cel2 (b := w.heap.size + 1 + 1) hb_w1); (focus ((try simp) <;> omega)); (focus omega); (focus (go_simp; try exact rfl)); (focus (go_simp; try exact rfl)); (focus (intro o; go_simp)); intro cc cc fz hl)
      have HB := Lib.hid (show Below w.heap.size w w1 by ((with_reducible (repeat (first | exact bR _ _ | refine bS ?_ ?_ _ | refine bA ?_ ?_ _ | refine bD ?_ | refine bT ?_ (by assumption) ?_ | refine bO (by assumption) ?_ ?_))) <;> (first | omega | (simp; done) | (simp <;> omega))))
      replace HA := Lib.hid (HA.out.below HB.out)
      replace HB0 := Lib.hid (HB0.out.below HB.out)
      replace HC0 := Lib.hid (HC0.out.below HB.out)
      have hz1 : w.heap.size ≤ w1.heap.size := by omega
      clear hb_w1
      go_wp2_with fail
      (go_at_call 22; refine (K1.out _ _ _ (HA.out.below (Below.refl _ _)) (HB0.out.below (Below.refl _ _))).mono ?_; rintro e w2 ⟨hb_w2, A2, c2, A2q, c2q, rfl, hc2, hc2q, hA2, hA2q⟩; have hz_w2 := hb_w2.size; (try simp at hz_w2); (with_reducible apply cel2 (b := w.heap.size) hb_w2); (focus ((try simp) <;> omega)); (focus omega); (focus (go_simp; try exact rfl)); (focus (go_simp; try exact rfl)); (focus (intro o; go_simp)); intro cc cc fz hl; (with_reducible apply cel2 (b := w.heap.size + 1) hb_w2); (focus ((try simp) <;> omega)); (focus omega); (focus (go_simp; try exact rfl)); (focus (go_simp; try exact rfl)); (focus (intro o; go_simp)); intro cc cc fz hl; (with_reducible apply cel2 (b := w.heap.size + 1 + 1) hb_w2); (focus ((try simp) <;> omega)); (focus omega); (focus (go_simp; try exact rfl)); (focus (go_simp; try exact rfl)); (focus (intro o; go_simp)); intro cc cc fz hl)
      have HW2 := Lib.hid (show Below w1.heap.size w1 w2 by ((with_reducible (repeat (first | exact bR _ _ | refine bS ?_ ?_ _ | refine bA ?_ ?_ _ | refine bD ?_ | refine bT ?_ (by assumption) ?_ | refine bO (by assumption) ?_ ?_))) <;> (first | omega | (simp; done) | (simp <;> omega))))
      have HQ := Lib.hid (show IsC w2 (.agg #[.bool (decide (zq < 0)), .slice A2 (canN zq.natAbs).length c2]) zq from ⟨A2, c2, rfl, hc2, hA2⟩)
      have HR := Lib.hid (show IsC w2 (.agg #[.bool (decide (zr < 0)), .slice A2q (canN zr.natAbs).length c2q]) zr from ⟨A2q, c2q, rfl, hc2q, hA2q⟩)
      replace HA := Lib.hid (HA.out.below HW2.out)
      replace HB0 := Lib.hid (HB0.out.below HW2.out)
      replace HC0 := Lib.hid (HC0.out.below HW2.out)
      have hz2 : w.heap.size ≤ w2.heap.size := by omega
      replace HB := Lib.hid (HB.out.trans (HW2.out.mono (by omega)))
      clear hb_w2 HW2 hc2 hA2 hc2q hA2q
      go_wp2_with fail
      -- own blocks besides: w2.heap.size:2, w2.heap.size + 1:2
      (go_at_call 21; refine (K2.out _ _ (HB0.out.below (((Below.refl _ _).alloc (Nat.le_refl _) _).alloc (by simp) _))).mono ?_; rintro e w3 ⟨rfl, hb_w3⟩; have hz_w3 := hb_w3.size; (try simp at hz_w3); (with_reducible apply cel2 (b := w.heap.size) hb_w3); (focus ((try simp) <;> omega)); (focus omega); (focus (go_simp; try exact rfl)); (focus (go_simp; try exact rfl)); (focus (intro o; go_simp)); intro cc cc fz hl; (with_reducible apply cel2 (b := w.heap.size + 1) hb_w3); (focus ((try simp) <;> omega)); (focus omega); (focus (go_simp; try exact rfl)); (focus (go_simp; try exact rfl)); (focus (intro o; go_simp)); intro cc cc fz hl; (with_reducible apply cel2 (b := w.heap.size + 1 + 1) hb_w3); (focus ((try simp) <;> omega)); (focus omega); (focus (go_simp; try exact rfl)); (focus (go_simp; try exact rfl)); (focus (intro o; go_simp)); intro cc cc fz hl; (with_reducible apply cel2 (b := w2.heap.size) hb_w3); (focus ((try simp) <;> omega)); (focus omega); (focus (go_simp; try exact rfl)); (focus (go_simp; try exact rfl)); (focus (intro o; go_simp)); intro cc cc fz hl; (with_reducible apply cel2 (b := w2.heap.size + 1) hb_w3); (focus ((try simp) <;> omega)); (focus omega); (focus (go_simp; try exact rfl)); (focus (go_simp; try exact rfl)); (focus (intro o; go_simp)); intro cc cc fz hl)
      have HW3 := Lib.hid (show Below w2.heap.size w2 w3 by ((with_reducible (repeat (first | exact bR _ _ | refine bS ?_ ?_ _ | refine bA ?_ ?_ _ | refine bD ?_ | refine bT ?_ (by assumption) ?_ | refine bO (by assumption) ?_ ?_))) <;> (first | omega | (simp; done) | (simp <;> omega))))
      replace HA := Lib.hid (HA.out.below HW3.out)
      replace HB0 := Lib.hid (HB0.out.below HW3.out)
      replace HC0 := Lib.hid (HC0.out.below HW3.out)
      replace HQ := Lib.hid (HQ.out.below HW3.out)
      replace HR := Lib.hid (HR.out.below HW3.out)
      have hz3 : w.heap.size ≤ w3.heap.size := by omega
      replace HB := Lib.hid (HB.out.trans (HW3.out.mono (by omega)))
      clear hb_w3 HW3
      go_wp2_with fail
      (go_at_call 23; refine (K3.out _ _ _ ((HQ.out.below (Below.refl _ _)).zl lq) (HB0.out.below (Below.refl _ _))).mono ?_; rintro e w4 ⟨hb_w4, A4, c4, rfl, hc4, hA4⟩; have hz_w4 := hb_w4.size; (try simp at hz_w4); (with_reducible apply cel2 (b := w.heap.size) hb_w4); (focus ((try simp) <;> omega)); (focus omega); (focus (go_simp; try exact rfl)); (focus (go_simp; try exact rfl)); (focus (intro o; go_simp)); intro cc cc fz hl; (with_reducible apply cel2 (b := w.heap.size + 1) hb_w4); (focus ((try simp) <;> omega)); (focus omega); (focus (go_simp; try exact rfl)); (focus (go_simp; try exact rfl)); (focus (intro o; go_simp)); intro cc cc fz hl; (with_reducible apply cel2 (b := w.heap.size + 1 + 1) hb_w4); (focus ((try simp) <;> omega)); (focus omega); (focus (go_simp; try exact rfl)); (focus (go_simp; try exact rfl)); (focus (intro o; go_simp)); intro cc cc fz hl; (with_reducible apply cel2 (b := w2.heap.size) hb_w4); (focus ((try simp) <;> omega)); (focus omega); (focus (go_simp; try exact rfl)); (focus (go_simp; try exact rfl)); (focus (intro o; go_simp)); intro cc cc fz hl; (with_reducible apply cel2 (b := w2.heap.size + 1) hb_w4); (focus ((try simp) <;> omega)); (focus omega); (focus (go_simp; try exact rfl)); (focus (go_simp; try exact rfl)); (focus (intro o; go_simp)); intro cc cc fz hl)
      have HW4 := Lib.hid (show Below w3.heap.size w3 w4 by ((with_reducible (repeat (first | exact bR _ _ | refine bS ?_ ?_ _ | refine bA ?_ ?_ _ | refine bD ?_ | refine bT ?_ (by assumption) ?_ | refine bO (by assumption) ?_ ?_))) <;> (first | omega | (simp; done) | (simp <;> omega))))
      have HP := Lib.hid (show IsC w4 (.agg #[.bool (decide (zp < 0)), .slice A4 (canN zp.natAbs).length c4]) zp from ⟨A4, c4, rfl, hc4, hA4⟩)
      replace HA := Lib.hid (HA.out.below HW4.out)
      replace HB0 := Lib.hid (HB0.out.below HW4.out)
      replace HC0 := Lib.hid (HC0.out.below HW4.out)
      replace HQ := Lib.hid (HQ.out.below HW4.out)
      replace HR := Lib.hid (HR.out.below HW4.out)
      have hz4 : w.heap.size ≤ w4.heap.size := by omega
      replace HB := Lib.hid (HB.out.trans (HW4.out.mono (by omega)))
      clear hb_w4 HW4 hc4 hA4
      go_wp2_with fail
      -- own blocks besides: w4.heap.size:2
      (go_at_call 24; refine (K4.out _ _ _ ((HP.out.below ((Below.refl _ _).alloc (Nat.le_refl _) _)).zl lp) ((HR.out.below ((Below.refl _ _).alloc (Nat.le_refl _) _)).zl lr)).mono ?_; rintro e w5 ⟨hb_w5, A5, c5, rfl, hc5, hA5⟩; have hz_w5 := hb_w5.size; (try simp at hz_w5); (with_reducible apply cel2 (b := w.heap.size) hb_w5); (focus ((try simp) <;> omega)); (focus omega); (focus (go_simp; try exact rfl)); (focus (go_simp; try exact rfl)); (focus (intro o; go_simp)); intro cc cc fz hl; (with_reducible apply cel2 (b := w.heap.size + 1) hb_w5); (focus ((try simp) <;> omega)); (focus omega); (focus (go_simp; try exact rfl)); (focus (go_simp; try exact rfl)); (focus (intro o; go_simp)); intro cc cc fz hl; (with_reducible apply cel2 (b := w.heap.size + 1 + 1) hb_w5); (focus ((try simp) <;> omega)); (focus omega); (focus (go_simp; try exact rfl)); (focus (go_simp; try exact rfl)); (focus (intro o; go_simp)); intro cc cc fz hl; (with_reducible apply cel2 (b := w2.heap.size) hb_w5); (focus ((try simp) <;> omega)); (focus omega); (focus (go_simp; try exact rfl)); (focus (go_simp; try exact rfl)); (focus (intro o; go_simp)); intro cc cc fz hl; (with_reducible apply cel2 (b := w2.heap.size + 1) hb_w5); (focus ((try simp) <;> omega)); (focus omega); (focus (go_simp; try exact rfl)); (focus (go_simp; try exact rfl)); (focus (intro o; go_simp)); intro cc cc fz hl; (with_reducible apply cel2 (b := w4.heap.size) hb_w5); (focus ((try simp) <;> omega)); (focus omega); (focus (go_simp; try exact rfl)); (focus (go_simp; try exact rfl)); (focus (intro o; go_simp)); intro cc cc fz hl)
      have HW5 := Lib.hid (show Below w4.heap.size w4 w5 by ((with_reducible (repeat (first | exact bR _ _ | refine bS ?_ ?_ _ | refine bA ?_ ?_ _ | refine bD ?_ | refine bT ?_ (by assumption) ?_ | refine bO (by assumption) ?_ ?_))) <;> (first | omega | (simp; done) | (simp <;> omega))))
      have HS := Lib.hid (show IsC w5 (.agg #[.bool (decide (z1 < 0)), .slice A5 (canN z1.natAbs).length c5]) z1 from ⟨A5, c5, rfl, hc5, hA5⟩)
      replace HA := Lib.hid (HA.out.below HW5.out)
      replace HB0 := Lib.hid (HB0.out.below HW5.out)
      replace HC0 := Lib.hid (HC0.out.below HW5.out)
      replace HQ := Lib.hid (HQ.out.below HW5.out)
      replace HR := Lib.hid (HR.out.below HW5.out)
      replace HP := Lib.hid (HP.out.below HW5.out)
      have hz5 : w.heap.size ≤ w5.heap.size := by omega
      replace HB := Lib.hid (HB.out.trans (HW5.out.mono (by omega)))
      clear hb_w5 HW5 hc5 hA5
      go_wp2_with fail
      -- own blocks besides: w5.heap.size:2
      (refine pin_wp (N := _) (Nat.le_refl _) (fun w6 hb_w6 hz_w6 => ?_); (try simp at hz_w6); (with_reducible apply cel2 (b := w.heap.size) hb_w6); (focus ((try simp) <;> omega)); (focus omega); (focus (go_simp; try exact rfl)); (focus (go_simp; try exact rfl)); (focus (intro o; go_simp)); intro cc cc fz hl; (with_reducible apply cel2 (b := w.heap.size + 1) hb_w6); (focus ((try simp) <;> omega)); (focus omega); (focus (go_simp; try exact rfl)); (focus (go_simp; try exact rfl)); (focus (intro o; go_simp)); intro cc cc fz hl; (with_reducible apply cel2 (b := w.heap.size + 1 + 1) hb_w6); (focus ((try simp) <;> omega)); (focus omega); (focus (go_simp; try exact rfl)); (focus (go_simp; try exact rfl)); (focus (intro o; go_simp)); intro cc cc fz hl; (with_reducible apply cel2 (b := w2.heap.size) hb_w6); (focus ((try simp) <;> omega)); (focus omega); (focus (go_simp; try exact rfl)); (focus (go_simp; try exact rfl)); (focus (intro o; go_simp)); intro cc cc fz hl; (with_reducible apply cel2 (b := w2.heap.size + 1) hb_w6); (focus ((try simp) <;> omega)); (focus omega); (focus (go_simp; try exact rfl)); (focus (go_simp; try exact rfl)); (focus (intro o; go_simp)); intro cc cc fz hl; (with_reducible apply cel2 (b := w4.heap.size) hb_w6); (focus ((try simp) <;> omega)); (focus omega); (focus (go_simp; try exact rfl)); (focus (go_simp; try exact rfl)); (focus (intro o; go_simp)); intro cc cc fz hl; (with_reducible apply cel2 (b := w5.heap.size) hb_w6); (focus ((try simp) <;> omega)); (focus omega); (focus (go_simp; try exact rfl)); (focus (go_simp; try exact rfl)); (focus (intro o; go_simp)); intro cc cc fz hl); refine wp_region_float w6.heap.size 5 (Nat.le_refl _) (fun _ => True) trivial Cl.tt (by kernel_rfl) (by simp) ?_
      have HW6 := Lib.hid (show Below w5.heap.size w5 w6 by ((with_reducible (repeat (first | exact bR _ _ | refine bS ?_ ?_ _ | refine bA ?_ ?_ _ | refine bD ?_ | refine bT ?_ (by assumption) ?_ | refine bO (by assumption) ?_ ?_))) <;> (first | omega | (simp; done) | (simp <;> omega))))
      replace HA := Lib.hid (HA.out.below HW6.out)
      replace HB0 := Lib.hid (HB0.out.below HW6.out)
      replace HC0 := Lib.hid (HC0.out.below HW6.out)
      replace HQ := Lib.hid (HQ.out.below HW6.out)
      replace HR := Lib.hid (HR.out.below HW6.out)
      replace HP := Lib.hid (HP.out.below HW6.out)
      replace HS := Lib.hid (HS.out.below HW6.out)
      have hz6 : w.heap.size ≤ w6.heap.size := by omega
      replace HB := Lib.hid (HB.out.trans (HW6.out.mono (by omega)))
      clear hb_w6 HW6
      refine wpI_start [0] ?_; (iterate 1 (first | (refine wpI_off rfl (by kernel_rfl) rfl (fun K hK => ?_); go_simp; refine hK _ ?_; clear hK K) | ((first | apply wpI_step rfl (by kernel_rfl) rfl | apply wpI_on rfl (by kernel_rfl) rfl); (focus (intro W' hS; have hcS := hS.cells.1; have hfS := hS.cells.2; go_simp; (first | done | exact rfl | exact ⟨rfl, Below.refl _ _⟩ | (go_simp; first | done | exact rfl | exact ⟨rfl, Below.refl _ _⟩)))); intro K hK; go_simp; (try go_bits); refine hK _ ?_; clear hK K))); refine wpI_nil ?_
      refine wpI_start [2] ?_; (iterate 1 (first | (refine wpI_off rfl (by kernel_rfl) rfl (fun K hK => ?_); go_simp; refine hK _ ?_; clear hK K) | ((first | apply wpI_step rfl (by kernel_rfl) rfl | apply wpI_on rfl (by kernel_rfl) rfl); (focus (intro W' hS; have hcS := hS.cells.1; have hfS := hS.cells.2; go_simp; (first | done | exact rfl | exact ⟨rfl, Below.refl _ _⟩ | (go_simp; first | done | exact rfl | exact ⟨rfl, Below.refl _ _⟩)))); intro K hK; go_simp; (try go_bits); refine hK _ ?_; clear hK K))); refine wpI_nil ?_
      apply wpF_call (i := 1) rfl (by kernel_rfl) (by kernel_rfl); intro W hF hS; have hcS := hS.1.cells.1; have hfS := hS.1.cells.2; go_simp; (go_at_call 25; refine (positive_any 100 _ zr _ ((HR.out.below hS.1.2).zl lr) (by omega)).mono ?_; rintro e w40 ⟨hb_w40, v40, rfl, hv40⟩; refine XPost.mk _ (fun W => IsZ W v40 100 (zr.natAbs : Int)) hb_w40 (hv40) (IsZ.cl _ _ _) ?_); clear hb_w40 hcS hfS hS hF
      intro K hK; go_simp; (try go_bits); refine hK _ ?_; clear hK K
      clear hv40
      apply wpF_call (i := 3) rfl (by kernel_rfl) (by kernel_rfl); intro W hF hS; have hcS := hS.1.cells.1; have hfS := hS.1.cells.2; go_simp; (go_at_call 25; refine (positive_any 100 _ z2 _ (HB0.out.below hS.1.2) (by omega)).mono ?_; rintro e w41 ⟨hb_w41, v41, rfl, hv41⟩; refine XPost.mk _ (fun W => IsZ W v41 100 (z2.natAbs : Int)) hb_w41 (hv41) (IsZ.cl _ _ _) ?_); clear hb_w41 hcS hfS hS hF
      intro K hK; go_simp; (try go_bits); refine hK _ ?_; clear hK K
      clear hv41
      apply wpF_call (i := 4) rfl (by kernel_rfl) (by kernel_rfl); intro W hF hS; have hcS := hS.1.cells.1; have hfS := hS.1.cells.2; go_simp; (go_at_call 17; refine (K5.out _ _ _ hF.1 hF.2).mono ?_; rintro e w42 ⟨rfl, hb_w42⟩; refine XPost.mk _ (fun _ => True) hb_w42 (trivial) (Cl.tt) ?_); clear hb_w42 hcS hfS hS hF
      intro K hK; go_simp; (try go_bits); refine hK _ ?_; clear hK K
      refine wpF_done (by kernel_rfl) ?_
      intro w7 hF_w7 hSG
      have hz_w7 := hSG.1.1
      have hb_w7 := hSG.1.2
      clear hSG
      (with_reducible apply cel2 (b := w.heap.size) hb_w7); (focus ((try simp) <;> omega)); (focus omega); (focus (go_simp; try exact rfl)); (focus (go_simp; try exact rfl)); (focus (intro o; go_simp)); intro cc cc fz hl; (with_reducible apply cel2 (b := w.heap.size + 1) hb_w7); (focus ((try simp) <;> omega)); (focus omega); (focus (go_simp; try exact rfl)); (focus (go_simp; try exact rfl)); (focus (intro o; go_simp)); intro cc cc fz hl; (with_reducible apply cel2 (b := w.heap.size + 1 + 1) hb_w7); (focus ((try simp) <;> omega)); (focus omega); (focus (go_simp; try exact rfl)); (focus (go_simp; try exact rfl)); (focus (intro o; go_simp)); intro cc cc fz hl; (with_reducible apply cel2 (b := w2.heap.size) hb_w7); (focus ((try simp) <;> omega)); (focus omega); (focus (go_simp; try exact rfl)); (focus (go_simp; try exact rfl)); (focus (intro o; go_simp)); intro cc cc fz hl; (with_reducible apply cel2 (b := w2.heap.size + 1) hb_w7); (focus ((try simp) <;> omega)); (focus omega); (focus (go_simp; try exact rfl)); (focus (go_simp; try exact rfl)); (focus (intro o; go_simp)); intro cc cc fz hl; (with_reducible apply cel2 (b := w4.heap.size) hb_w7); (focus ((try simp) <;> omega)); (focus omega); (focus (go_simp; try exact rfl)); (focus (go_simp; try exact rfl)); (focus (intro o; go_simp)); intro cc cc fz hl; (with_reducible apply cel2 (b := w5.heap.size) hb_w7); (focus ((try simp) <;> omega)); (focus omega); (focus (go_simp; try exact rfl)); (focus (go_simp; try exact rfl)); (focus (intro o; go_simp)); intro cc cc fz hl
      (try simp only [List.drop_succ_cons, List.drop_zero])
      clear hF_w7
      have HW7 := Lib.hid (show Below w6.heap.size w6 w7 by exact hb_w7)
      replace HA := Lib.hid (HA.out.below HW7.out)
      replace HB0 := Lib.hid (HB0.out.below HW7.out)
      replace HC0 := Lib.hid (HC0.out.below HW7.out)
      replace HQ := Lib.hid (HQ.out.below HW7.out)
      replace HR := Lib.hid (HR.out.below HW7.out)
      replace HP := Lib.hid (HP.out.below HW7.out)
      replace HS := Lib.hid (HS.out.below HW7.out)
      have hz7 : w.heap.size ≤ w7.heap.size := by omega
      replace HB := Lib.hid (HB.out.trans (HW7.out.mono (by omega)))
      clear hb_w7 HW7
      go_wp2_with fail
      (go_at_call 23; refine (K6.out _ _ _ (HA.out.below (Below.refl _ _)) (HC0.out.below (Below.refl _ _))).mono ?_; rintro e w8 ⟨hb_w8, A8, c8, rfl, hc8, hA8⟩; have hz_w8 := hb_w8.size; (try simp at hz_w8); (with_reducible apply cel2 (b := w.heap.size) hb_w8); (focus ((try simp) <;> omega)); (focus omega); (focus (go_simp; try exact rfl)); (focus (go_simp; try exact rfl)); (focus (intro o; go_simp)); intro cc cc fz hl; (with_reducible apply cel2 (b := w.heap.size + 1) hb_w8); (focus ((try simp) <;> omega)); (focus omega); (focus (go_simp; try exact rfl)); (focus (go_simp; try exact rfl)); (focus (intro o; go_simp)); intro cc cc fz hl; (with_reducible apply cel2 (b := w.heap.size + 1 + 1) hb_w8); (focus ((try simp) <;> omega)); (focus omega); (focus (go_simp; try exact rfl)); (focus (go_simp; try exact rfl)); (focus (intro o; go_simp)); intro cc cc fz hl; (with_reducible apply cel2 (b := w2.heap.size) hb_w8); (focus ((try simp) <;> omega)); (focus omega); (focus (go_simp; try exact rfl)); (focus (go_simp; try exact rfl)); (focus (intro o; go_simp)); intro cc cc fz hl; (with_reducible apply cel2 (b := w2.heap.size + 1) hb_w8); (focus ((try simp) <;> omega)); (focus omega); (focus (go_simp; try exact rfl)); (focus (go_simp; try exact rfl)); (focus (intro o; go_simp)); intro cc cc fz hl; (with_reducible apply cel2 (b := w4.heap.size) hb_w8); (focus ((try simp) <;> omega)); (focus omega); (focus (go_simp; try exact rfl)); (focus (go_simp; try exact rfl)); (focus (intro o; go_simp)); intro cc cc fz hl; (with_reducible apply cel2 (b := w5.heap.size) hb_w8); (focus ((try simp) <;> omega)); (focus omega); (focus (go_simp; try exact rfl)); (focus (go_simp; try exact rfl)); (focus (intro o; go_simp)); intro cc cc fz hl)
      have HW8 := Lib.hid (show Below w7.heap.size w7 w8 by ((with_reducible (repeat (first | exact bR _ _ | refine bS ?_ ?_ _ | refine bA ?_ ?_ _ | refine bD ?_ | refine bT ?_ (by assumption) ?_ | refine bO (by assumption) ?_ ?_))) <;> (first | omega | (simp; done) | (simp <;> omega))))
      have HX := Lib.hid (show IsC w8 (.agg #[.bool (decide (zx < 0)), .slice A8 (canN zx.natAbs).length c8]) zx from ⟨A8, c8, rfl, hc8, hA8⟩)
      replace HA := Lib.hid (HA.out.below HW8.out)
      replace HB0 := Lib.hid (HB0.out.below HW8.out)
      replace HC0 := Lib.hid (HC0.out.below HW8.out)
      replace HQ := Lib.hid (HQ.out.below HW8.out)
      replace HR := Lib.hid (HR.out.below HW8.out)
      replace HP := Lib.hid (HP.out.below HW8.out)
      replace HS := Lib.hid (HS.out.below HW8.out)
      have hz8 : w.heap.size ≤ w8.heap.size := by omega
      replace HB := Lib.hid (HB.out.trans (HW8.out.mono (by omega)))
      clear hb_w8 HW8 hc8 hA8
      go_wp2_with fail
      -- own blocks besides: w8.heap.size:2
      (go_at_call 23; refine (K7.out _ _ _ (HB0.out.below ((Below.refl _ _).alloc (Nat.le_refl _) _)) (HC0.out.below ((Below.refl _ _).alloc (Nat.le_refl _) _))).mono ?_; rintro e w9 ⟨hb_w9, A9, c9, rfl, hc9, hA9⟩; have hz_w9 := hb_w9.size; (try simp at hz_w9); (with_reducible apply cel2 (b := w.heap.size) hb_w9); (focus ((try simp) <;> omega)); (focus omega); (focus (go_simp; try exact rfl)); (focus (go_simp; try exact rfl)); (focus (intro o; go_simp)); intro cc cc fz hl; (with_reducible apply cel2 (b := w.heap.size + 1) hb_w9); (focus ((try simp) <;> omega)); (focus omega); (focus (go_simp; try exact rfl)); (focus (go_simp; try exact rfl)); (focus (intro o; go_simp)); intro cc cc fz hl; (with_reducible apply cel2 (b := w.heap.size + 1 + 1) hb_w9); (focus ((try simp) <;> omega)); (focus omega); (focus (go_simp; try exact rfl)); (focus (go_simp; try exact rfl)); (focus (intro o; go_simp)); intro cc cc fz hl; (with_reducible apply cel2 (b := w2.heap.size) hb_w9); (focus ((try simp) <;> omega)); (focus omega); (focus (go_simp; try exact rfl)); (focus (go_simp; try exact rfl)); (focus (intro o; go_simp)); intro cc cc fz hl; (with_reducible apply cel2 (b := w2.heap.size + 1) hb_w9); (focus ((try simp) <;> omega)); (focus omega); (focus (go_simp; try exact rfl)); (focus (go_simp; try exact rfl)); (focus (intro o; go_simp)); intro cc cc fz hl; (with_reducible apply cel2 (b := w4.heap.size) hb_w9); (focus ((try simp) <;> omega)); (focus omega); (focus (go_simp; try exact rfl)); (focus (go_simp; try exact rfl)); (focus (intro o; go_simp)); intro cc cc fz hl; (with_reducible apply cel2 (b := w5.heap.size) hb_w9); (focus ((try simp) <;> omega)); (focus omega); (focus (go_simp; try exact rfl)); (focus (go_simp; try exact rfl)); (focus (intro o; go_simp)); intro cc cc fz hl; (with_reducible apply cel2 (b := w8.heap.size) hb_w9); (focus ((try simp) <;> omega)); (focus omega); (focus (go_simp; try exact rfl)); (focus (go_simp; try exact rfl)); (focus (intro o; go_simp)); intro cc cc fz hl)
      have HW9 := Lib.hid (show Below w8.heap.size w8 w9 by ((with_reducible (repeat (first | exact bR _ _ | refine bS ?_ ?_ _ | refine bA ?_ ?_ _ | refine bD ?_ | refine bT ?_ (by assumption) ?_ | refine bO (by assumption) ?_ ?_))) <;> (first | omega | (simp; done) | (simp <;> omega))))
      have HY := Lib.hid (show IsC w9 (.agg #[.bool (decide (zy < 0)), .slice A9 (canN zy.natAbs).length c9]) zy from ⟨A9, c9, rfl, hc9, hA9⟩)
      replace HA := Lib.hid (HA.out.below HW9.out)
      replace HB0 := Lib.hid (HB0.out.below HW9.out)
      replace HC0 := Lib.hid (HC0.out.below HW9.out)
      replace HQ := Lib.hid (HQ.out.below HW9.out)
      replace HR := Lib.hid (HR.out.below HW9.out)
      replace HP := Lib.hid (HP.out.below HW9.out)
      replace HS := Lib.hid (HS.out.below HW9.out)
      replace HX := Lib.hid (HX.out.below HW9.out)
      have hz9 : w.heap.size ≤ w9.heap.size := by omega
      replace HB := Lib.hid (HB.out.trans (HW9.out.mono (by omega)))
      clear hb_w9 HW9 hc9 hA9
      go_wp2_with fail
      -- own blocks besides: w9.heap.size:2
      (go_at_call 26; refine (K8.out _ _ _ ((HX.out.below ((Below.refl _ _).alloc (Nat.le_refl _) _)).zl lx) ((HY.out.below ((Below.refl _ _).alloc (Nat.le_refl _) _)).zl ly)).mono ?_; rintro e w10 ⟨hb_w10, A10, c10, rfl, hc10, hA10⟩; have hz_w10 := hb_w10.size; (try simp at hz_w10); (with_reducible apply cel2 (b := w.heap.size) hb_w10); (focus ((try simp) <;> omega)); (focus omega); (focus (go_simp; try exact rfl)); (focus (go_simp; try exact rfl)); (focus (intro o; go_simp)); intro cc cc fz hl; (with_reducible apply cel2 (b := w.heap.size + 1) hb_w10); (focus ((try simp) <;> omega)); (focus omega); (focus (go_simp; try exact rfl)); (focus (go_simp; try exact rfl)); (focus (intro o; go_simp)); intro cc cc fz hl; (with_reducible apply cel2 (b := w.heap.size + 1 + 1) hb_w10); (focus ((try simp) <;> omega)); (focus omega); (focus (go_simp; try exact rfl)); (focus (go_simp; try exact rfl)); (focus (intro o; go_simp)); intro cc cc fz hl; (with_reducible apply cel2 (b := w2.heap.size) hb_w10); (focus ((try simp) <;> omega)); (focus omega); (focus (go_simp; try exact rfl)); (focus (go_simp; try exact rfl)); (focus (intro o; go_simp)); intro cc cc fz hl; (with_reducible apply cel2 (b := w2.heap.size + 1) hb_w10); (focus ((try simp) <;> omega)); (focus omega); (focus (go_simp; try exact rfl)); (focus (go_simp; try exact rfl)); (focus (intro o; go_simp)); intro cc cc fz hl; (with_reducible apply cel2 (b := w4.heap.size) hb_w10); (focus ((try simp) <;> omega)); (focus omega); (focus (go_simp; try exact rfl)); (focus (go_simp; try exact rfl)); (focus (intro o; go_simp)); intro cc cc fz hl; (with_reducible apply cel2 (b := w5.heap.size) hb_w10); (focus ((try simp) <;> omega)); (focus omega); (focus (go_simp; try exact rfl)); (focus (go_simp; try exact rfl)); (focus (intro o; go_simp)); intro cc cc fz hl; (with_reducible apply cel2 (b := w8.heap.size) hb_w10); (focus ((try simp) <;> omega)); (focus omega); (focus (go_simp; try exact rfl)); (focus (go_simp; try exact rfl)); (focus (intro o; go_simp)); intro cc cc fz hl; (with_reducible apply cel2 (b := w9.heap.size) hb_w10); (focus ((try simp) <;> omega)); (focus omega); (focus (go_simp; try exact rfl)); (focus (go_simp; try exact rfl)); (focus (intro o; go_simp)); intro cc cc fz hl)
      have HW10 := Lib.hid (show Below w9.heap.size w9 w10 by ((with_reducible (repeat (first | exact bR _ _ | refine bS ?_ ?_ _ | refine bA ?_ ?_ _ | refine bD ?_ | refine bT ?_ (by assumption) ?_ | refine bO (by assumption) ?_ ?_))) <;> (first | omega | (simp; done) | (simp <;> omega))))
      have HD := Lib.hid (show IsC w10 (.agg #[.bool (decide (zd < 0)), .slice A10 (canN zd.natAbs).length c10]) zd from ⟨A10, c10, rfl, hc10, hA10⟩)
      replace HA := Lib.hid (HA.out.below HW10.out)
      replace HB0 := Lib.hid (HB0.out.below HW10.out)
      replace HC0 := Lib.hid (HC0.out.below HW10.out)
      replace HQ := Lib.hid (HQ.out.below HW10.out)
      replace HR := Lib.hid (HR.out.below HW10.out)
      replace HP := Lib.hid (HP.out.below HW10.out)
      replace HS := Lib.hid (HS.out.below HW10.out)
      replace HX := Lib.hid (HX.out.below HW10.out)
      replace HY := Lib.hid (HY.out.below HW10.out)
      have hz10 : w.heap.size ≤ w10.heap.size := by omega
      replace HB := Lib.hid (HB.out.trans (HW10.out.mono (by omega)))
      clear hb_w10 HW10 hc10 hA10
      go_wp2_with fail
      -- own blocks besides: w10.heap.size:2
      (refine pin_wp (N := _) (Nat.le_refl _) (fun w11 hb_w11 hz_w11 => ?_); (try simp at hz_w11); (with_reducible apply cel2 (b := w.heap.size) hb_w11); (focus ((try simp) <;> omega)); (focus omega); (focus (go_simp; try exact rfl)); (focus (go_simp; try exact rfl)); (focus (intro o; go_simp)); intro cc cc fz hl; (with_reducible apply cel2 (b := w.heap.size + 1) hb_w11); (focus ((try simp) <;> omega)); (focus omega); (focus (go_simp; try exact rfl)); (focus (go_simp; try exact rfl)); (focus (intro o; go_simp)); intro cc cc fz hl; (with_reducible apply cel2 (b := w.heap.size + 1 + 1) hb_w11); (focus ((try simp) <;> omega)); (focus omega); (focus (go_simp; try exact rfl)); (focus (go_simp; try exact rfl)); (focus (intro o; go_simp)); intro cc cc fz hl; (with_reducible apply cel2 (b := w2.heap.size) hb_w11); (focus ((try simp) <;> omega)); (focus omega); (focus (go_simp; try exact rfl)); (focus (go_simp; try exact rfl)); (focus (intro o; go_simp)); intro cc cc fz hl; (with_reducible apply cel2 (b := w2.heap.size + 1) hb_w11); (focus ((try simp) <;> omega)); (focus omega); (focus (go_simp; try exact rfl)); (focus (go_simp; try exact rfl)); (focus (intro o; go_simp)); intro cc cc fz hl; (with_reducible apply cel2 (b := w4.heap.size) hb_w11); (focus ((try simp) <;> omega)); (focus omega); (focus (go_simp; try exact rfl)); (focus (go_simp; try exact rfl)); (focus (intro o; go_simp)); intro cc cc fz hl; (with_reducible apply cel2 (b := w5.heap.size) hb_w11); (focus ((try simp) <;> omega)); (focus omega); (focus (go_simp; try exact rfl)); (focus (go_simp; try exact rfl)); (focus (intro o; go_simp)); intro cc cc fz hl; (with_reducible apply cel2 (b := w8.heap.size) hb_w11); (focus ((try simp) <;> omega)); (focus omega); (focus (go_simp; try exact rfl)); (focus (go_simp; try exact rfl)); (focus (intro o; go_simp)); intro cc cc fz hl; (with_reducible apply cel2 (b := w9.heap.size) hb_w11); (focus ((try simp) <;> omega)); (focus omega); (focus (go_simp; try exact rfl)); (focus (go_simp; try exact rfl)); (focus (intro o; go_simp)); intro cc cc fz hl; (with_reducible apply cel2 (b := w10.heap.size) hb_w11); (focus ((try simp) <;> omega)); (focus omega); (focus (go_simp; try exact rfl)); (focus (go_simp; try exact rfl)); (focus (intro o; go_simp)); intro cc cc fz hl); refine wp_region_float w11.heap.size 44 (Nat.le_refl _) (fun _ => True) trivial Cl.tt (by kernel_rfl) (by simp) ?_
      have HW11 := Lib.hid (show Below w10.heap.size w10 w11 by ((with_reducible (repeat (first | exact bR _ _ | refine bS ?_ ?_ _ | refine bA ?_ ?_ _ | refine bD ?_ | refine bT ?_ (by assumption) ?_ | refine bO (by assumption) ?_ ?_))) <;> (first | omega | (simp; done) | (simp <;> omega))))
      replace HA := Lib.hid (HA.out.below HW11.out)
      replace HB0 := Lib.hid (HB0.out.below HW11.out)
      replace HC0 := Lib.hid (HC0.out.below HW11.out)
      replace HQ := Lib.hid (HQ.out.below HW11.out)
      replace HR := Lib.hid (HR.out.below HW11.out)
      replace HP := Lib.hid (HP.out.below HW11.out)
      replace HS := Lib.hid (HS.out.below HW11.out)
      replace HX := Lib.hid (HX.out.below HW11.out)
      replace HY := Lib.hid (HY.out.below HW11.out)
      replace HD := Lib.hid (HD.out.below HW11.out)
      have hz11 : w.heap.size ≤ w11.heap.size := by omega
      replace HB := Lib.hid (HB.out.trans (HW11.out.mono (by omega)))
      clear hb_w11 HW11
      refine wpI_start [0, 1, 2, 3, 4, 5, 6, 7, 8, 9, 10, 11, 12, 13, 14, 15, 16, 17, 18, 19, 20, 21, 22, 23, 24] ?_; (iterate 25 (first | (refine wpI_off rfl (by kernel_rfl) rfl (fun K hK => ?_); go_simp; refine hK _ ?_; clear hK K) | ((first | apply wpI_step rfl (by kernel_rfl) rfl | apply wpI_on rfl (by kernel_rfl) rfl); (focus (intro W' hS; have hcS := hS.cells.1; have hfS := hS.cells.2; go_simp; (first | done | exact rfl | exact ⟨rfl, Below.refl _ _⟩ | (go_simp; first | done | exact rfl | exact ⟨rfl, Below.refl _ _⟩)))); intro K hK; go_simp; (try go_bits); refine hK _ ?_; clear hK K))); refine wpI_nil ?_
      refine wpI_start [25] ?_; (iterate 1 (first | (refine wpI_off rfl (by kernel_rfl) rfl (fun K hK => ?_); go_simp; refine hK _ ?_; clear hK K) | ((first | apply wpI_step rfl (by kernel_rfl) rfl | apply wpI_on rfl (by kernel_rfl) rfl); (focus (intro W' hS; have hcS := hS.cells.1; have hfS := hS.cells.2; go_simp; (first | done | exact rfl | exact ⟨rfl, Below.refl _ _⟩ | (go_at_call 17; exact (K9.out _ _ _ ((HS.out.below hS.2).zl la) (HA.out.below hS.2)).mono (fun _ _ h => ⟨h.1, h.2⟩)) | (go_simp; first | done | exact rfl | exact ⟨rfl, Below.refl _ _⟩)))); intro K hK; go_simp; (try go_bits); refine hK _ ?_; clear hK K))); refine wpI_nil ?_
      refine wpI_start [26, 27, 28, 29, 30, 31, 32, 33, 34, 35, 36, 37, 38, 39] ?_; (iterate 14 (first | (refine wpI_off rfl (by kernel_rfl) rfl (fun K hK => ?_); go_simp; refine hK _ ?_; clear hK K) | ((first | apply wpI_step rfl (by kernel_rfl) rfl | apply wpI_on rfl (by kernel_rfl) rfl); (focus (intro W' hS; have hcS := hS.cells.1; have hfS := hS.cells.2; go_simp; (first | done | exact rfl | exact ⟨rfl, Below.refl _ _⟩ | (go_at_call 21; exact (K10.out _ _ ((HR.out.below hS.2).zl lr)).mono (fun _ _ h => ⟨h.1, h.2⟩)) | (go_simp; first | done | exact rfl | exact ⟨rfl, Below.refl _ _⟩)))); intro K hK; go_simp; (try go_bits); refine hK _ ?_; clear hK K))); refine wpI_nil ?_
      refine wpI_start [40, 41, 42, 43] ?_; (iterate 4 (first | (refine wpI_off rfl (by kernel_rfl) rfl (fun K hK => ?_); go_simp; refine hK _ ?_; clear hK K) | ((first | apply wpI_step rfl (by kernel_rfl) rfl | apply wpI_on rfl (by kernel_rfl) rfl); (focus (intro W' hS; have hcS := hS.cells.1; have hfS := hS.cells.2; go_simp; (first | done | exact rfl | exact ⟨rfl, Below.refl _ _⟩ | (go_at_call 21; exact (K11.out _ _ (HA.out.below hS.2)).mono (fun _ _ h => ⟨h.1, h.2⟩)) | (go_simp; first | done | exact rfl | exact ⟨rfl, Below.refl _ _⟩)))); intro K hK; go_simp; (try go_bits); refine hK _ ?_; clear hK K))); refine wpI_nil ?_
      refine wpF_done (by kernel_rfl) ?_
      intro w12 hF_w12 hSG
      have hz_w12 := hSG.1.1
      have hb_w12 := hSG.1.2
      clear hSG
      (with_reducible apply cel2 (b := w.heap.size) hb_w12); (focus ((try simp) <;> omega)); (focus omega); (focus (go_simp; try exact rfl)); (focus (go_simp; try exact rfl)); (focus (intro o; go_simp)); intro cc cc fz hl; (with_reducible apply cel2 (b := w.heap.size + 1) hb_w12); (focus ((try simp) <;> omega)); (focus omega); (focus (go_simp; try exact rfl)); (focus (go_simp; try exact rfl)); (focus (intro o; go_simp)); intro cc cc fz hl; (with_reducible apply cel2 (b := w.heap.size + 1 + 1) hb_w12); (focus ((try simp) <;> omega)); (focus omega); (focus (go_simp; try exact rfl)); (focus (go_simp; try exact rfl)); (focus (intro o; go_simp)); intro cc cc fz hl; (with_reducible apply cel2 (b := w2.heap.size) hb_w12); (focus ((try simp) <;> omega)); (focus omega); (focus (go_simp; try exact rfl)); (focus (go_simp; try exact rfl)); (focus (intro o; go_simp)); intro cc cc fz hl; (with_reducible apply cel2 (b := w2.heap.size + 1) hb_w12); (focus ((try simp) <;> omega)); (focus omega); (focus (go_simp; try exact rfl)); (focus (go_simp; try exact rfl)); (focus (intro o; go_simp)); intro cc cc fz hl; (with_reducible apply cel2 (b := w4.heap.size) hb_w12); (focus ((try simp) <;> omega)); (focus omega); (focus (go_simp; try exact rfl)); (focus (go_simp; try exact rfl)); (focus (intro o; go_simp)); intro cc cc fz hl; (with_reducible apply cel2 (b := w5.heap.size) hb_w12); (focus ((try simp) <;> omega)); (focus omega); (focus (go_simp; try exact rfl)); (focus (go_simp; try exact rfl)); (focus (intro o; go_simp)); intro cc cc fz hl; (with_reducible apply cel2 (b := w8.heap.size) hb_w12); (focus ((try simp) <;> omega)); (focus omega); (focus (go_simp; try exact rfl)); (focus (go_simp; try exact rfl)); (focus (intro o; go_simp)); intro cc cc fz hl; (with_reducible apply cel2 (b := w9.heap.size) hb_w12); (focus ((try simp) <;> omega)); (focus omega); (focus (go_simp; try exact rfl)); (focus (go_simp; try exact rfl)); (focus (intro o; go_simp)); intro cc cc fz hl; (with_reducible apply cel2 (b := w10.heap.size) hb_w12); (focus ((try simp) <;> omega)); (focus omega); (focus (go_simp; try exact rfl)); (focus (go_simp; try exact rfl)); (focus (intro o; go_simp)); intro cc cc fz hl
      (try simp only [List.drop_succ_cons, List.drop_zero])
      have HW12 := Lib.hid (show Below w11.heap.size w11 w12 by exact hb_w12)
      replace HA := Lib.hid (HA.out.below HW12.out)
      replace HB0 := Lib.hid (HB0.out.below HW12.out)
      replace HC0 := Lib.hid (HC0.out.below HW12.out)
      replace HQ := Lib.hid (HQ.out.below HW12.out)
      replace HR := Lib.hid (HR.out.below HW12.out)
      replace HP := Lib.hid (HP.out.below HW12.out)
      replace HS := Lib.hid (HS.out.below HW12.out)
      replace HX := Lib.hid (HX.out.below HW12.out)
      replace HY := Lib.hid (HY.out.below HW12.out)
      replace HD := Lib.hid (HD.out.below HW12.out)
      have hz12 : w.heap.size ≤ w12.heap.size := by omega
      replace HB := Lib.hid (HB.out.trans (HW12.out.mono (by omega)))
      clear hb_w12 HW12
      go_wp2_with fail
      (go_at_call 27; refine (K12.out _ _ _ ((HD.out.below (Below.refl _ _)).zl ld) ((HX.out.below (Below.refl _ _)).zl lx)).mono ?_; rintro e w13 ⟨rfl, hb_w13⟩; have hz_w13 := hb_w13.size; (try simp at hz_w13); (with_reducible apply cel2 (b := w.heap.size) hb_w13); (focus ((try simp) <;> omega)); (focus omega); (focus (go_simp; try exact rfl)); (focus (go_simp; try exact rfl)); (focus (intro o; go_simp)); intro cc cc fz hl; (with_reducible apply cel2 (b := w.heap.size + 1) hb_w13); (focus ((try simp) <;> omega)); (focus omega); (focus (go_simp; try exact rfl)); (focus (go_simp; try exact rfl)); (focus (intro o; go_simp)); intro cc cc fz hl; (with_reducible apply cel2 (b := w.heap.size + 1 + 1) hb_w13); (focus ((try simp) <;> omega)); (focus omega); (focus (go_simp; try exact rfl)); (focus (go_simp; try exact rfl)); (focus (intro o; go_simp)); intro cc cc fz hl; (with_reducible apply cel2 (b := w2.heap.size) hb_w13); (focus ((try simp) <;> omega)); (focus omega); (focus (go_simp; try exact rfl)); (focus (go_simp; try exact rfl)); (focus (intro o; go_simp)); intro cc cc fz hl; (with_reducible apply cel2 (b := w2.heap.size + 1) hb_w13); (focus ((try simp) <;> omega)); (focus omega); (focus (go_simp; try exact rfl)); (focus (go_simp; try exact rfl)); (focus (intro o; go_simp)); intro cc cc fz hl; (with_reducible apply cel2 (b := w4.heap.size) hb_w13); (focus ((try simp) <;> omega)); (focus omega); (focus (go_simp; try exact rfl)); (focus (go_simp; try exact rfl)); (focus (intro o; go_simp)); intro cc cc fz hl; (with_reducible apply cel2 (b := w5.heap.size) hb_w13); (focus ((try simp) <;> omega)); (focus omega); (focus (go_simp; try exact rfl)); (focus (go_simp; try exact rfl)); (focus (intro o; go_simp)); intro cc cc fz hl; (with_reducible apply cel2 (b := w8.heap.size) hb_w13); (focus ((try simp) <;> omega)); (focus omega); (focus (go_simp; try exact rfl)); (focus (go_simp; try exact rfl)); (focus (intro o; go_simp)); intro cc cc fz hl; (with_reducible apply cel2 (b := w9.heap.size) hb_w13); (focus ((try simp) <;> omega)); (focus omega); (focus (go_simp; try exact rfl)); (focus (go_simp; try exact rfl)); (focus (intro o; go_simp)); intro cc cc fz hl; (with_reducible apply cel2 (b := w10.heap.size) hb_w13); (focus ((try simp) <;> omega)); (focus omega); (focus (go_simp; try exact rfl)); (focus (go_simp; try exact rfl)); (focus (intro o; go_simp)); intro cc cc fz hl)
      have HW13 := Lib.hid (show Below w12.heap.size w12 w13 by ((with_reducible (repeat (first | exact bR _ _ | refine bS ?_ ?_ _ | refine bA ?_ ?_ _ | refine bD ?_ | refine bT ?_ (by assumption) ?_ | refine bO (by assumption) ?_ ?_))) <;> (first | omega | (simp; done) | (simp <;> omega))))
      replace HA := Lib.hid (HA.out.below HW13.out)
      replace HB0 := Lib.hid (HB0.out.below HW13.out)
      replace HC0 := Lib.hid (HC0.out.below HW13.out)
      replace HQ := Lib.hid (HQ.out.below HW13.out)
      replace HR := Lib.hid (HR.out.below HW13.out)
      replace HP := Lib.hid (HP.out.below HW13.out)
      replace HS := Lib.hid (HS.out.below HW13.out)
      replace HX := Lib.hid (HX.out.below HW13.out)
      replace HY := Lib.hid (HY.out.below HW13.out)
      replace HD := Lib.hid (HD.out.below HW13.out)
      have hz13 : w.heap.size ≤ w13.heap.size := by omega
      replace HB := Lib.hid (HB.out.trans (HW13.out.mono (by omega)))
      clear hb_w13 HW13
      go_wp2_with fail
      (go_at_call 27; refine (K13.out _ _ _ ((HD.out.below (Below.refl _ _)).zl ld) ((HY.out.below (Below.refl _ _)).zl ly)).mono ?_; rintro e w14 ⟨rfl, hb_w14⟩; have hz_w14 := hb_w14.size; (try simp at hz_w14); (with_reducible apply cel2 (b := w.heap.size) hb_w14); (focus ((try simp) <;> omega)); (focus omega); (focus (go_simp; try exact rfl)); (focus (go_simp; try exact rfl)); (focus (intro o; go_simp)); intro cc cc fz hl; (with_reducible apply cel2 (b := w.heap.size + 1) hb_w14); (focus ((try simp) <;> omega)); (focus omega); (focus (go_simp; try exact rfl)); (focus (go_simp; try exact rfl)); (focus (intro o; go_simp)); intro cc cc fz hl; (with_reducible apply cel2 (b := w.heap.size + 1 + 1) hb_w14); (focus ((try simp) <;> omega)); (focus omega); (focus (go_simp; try exact rfl)); (focus (go_simp; try exact rfl)); (focus (intro o; go_simp)); intro cc cc fz hl; (with_reducible apply cel2 (b := w2.heap.size) hb_w14); (focus ((try simp) <;> omega)); (focus omega); (focus (go_simp; try exact rfl)); (focus (go_simp; try exact rfl)); (focus (intro o; go_simp)); intro cc cc fz hl; (with_reducible apply cel2 (b := w2.heap.size + 1) hb_w14); (focus ((try simp) <;> omega)); (focus omega); (focus (go_simp; try exact rfl)); (focus (go_simp; try exact rfl)); (focus (intro o; go_simp)); intro cc cc fz hl; (with_reducible apply cel2 (b := w4.heap.size) hb_w14); (focus ((try simp) <;> omega)); (focus omega); (focus (go_simp; try exact rfl)); (focus (go_simp; try exact rfl)); (focus (intro o; go_simp)); intro cc cc fz hl; (with_reducible apply cel2 (b := w5.heap.size) hb_w14); (focus ((try simp) <;> omega)); (focus omega); (focus (go_simp; try exact rfl)); (focus (go_simp; try exact rfl)); (focus (intro o; go_simp)); intro cc cc fz hl; (with_reducible apply cel2 (b := w8.heap.size) hb_w14); (focus ((try simp) <;> omega)); (focus omega); (focus (go_simp; try exact rfl)); (focus (go_simp; try exact rfl)); (focus (intro o; go_simp)); intro cc cc fz hl; (with_reducible apply cel2 (b := w9.heap.size) hb_w14); (focus ((try simp) <;> omega)); (focus omega); (focus (go_simp; try exact rfl)); (focus (go_simp; try exact rfl)); (focus (intro o; go_simp)); intro cc cc fz hl; (with_reducible apply cel2 (b := w10.heap.size) hb_w14); (focus ((try simp) <;> omega)); (focus omega); (focus (go_simp; try exact rfl)); (focus (go_simp; try exact rfl)); (focus (intro o; go_simp)); intro cc cc fz hl)
      have HW14 := Lib.hid (show Below w13.heap.size w13 w14 by ((with_reducible (repeat (first | exact bR _ _ | refine bS ?_ ?_ _ | refine bA ?_ ?_ _ | refine bD ?_ | refine bT ?_ (by assumption) ?_ | refine bO (by assumption) ?_ ?_))) <;> (first | omega | (simp; done) | (simp <;> omega))))
      replace HA := Lib.hid (HA.out.below HW14.out)
      replace HB0 := Lib.hid (HB0.out.below HW14.out)
      replace HC0 := Lib.hid (HC0.out.below HW14.out)
      replace HQ := Lib.hid (HQ.out.below HW14.out)
      replace HR := Lib.hid (HR.out.below HW14.out)
      replace HP := Lib.hid (HP.out.below HW14.out)
      replace HS := Lib.hid (HS.out.below HW14.out)
      replace HX := Lib.hid (HX.out.below HW14.out)
      replace HY := Lib.hid (HY.out.below HW14.out)
      replace HD := Lib.hid (HD.out.below HW14.out)
      have hz14 : w.heap.size ≤ w14.heap.size := by omega
      replace HB := Lib.hid (HB.out.trans (HW14.out.mono (by omega)))
      clear hb_w14 HW14
      go_wp2_with fail
      (go_at_call 27; refine (K14.out _ _ _ (HC0.out.below (Below.refl _ _)) ((HD.out.below (Below.refl _ _)).zl ld)).mono ?_; rintro e w15 ⟨rfl, hb_w15⟩; have hz_w15 := hb_w15.size; (try simp at hz_w15); (with_reducible apply cel2 (b := w.heap.size) hb_w15); (focus ((try simp) <;> omega)); (focus omega); (focus (go_simp; try exact rfl)); (focus (go_simp; try exact rfl)); (focus (intro o; go_simp)); intro cc cc fz hl; (with_reducible apply cel2 (b := w.heap.size + 1) hb_w15); (focus ((try simp) <;> omega)); (focus omega); (focus (go_simp; try exact rfl)); (focus (go_simp; try exact rfl)); (focus (intro o; go_simp)); intro cc cc fz hl; (with_reducible apply cel2 (b := w.heap.size + 1 + 1) hb_w15); (focus ((try simp) <;> omega)); (focus omega); (focus (go_simp; try exact rfl)); (focus (go_simp; try exact rfl)); (focus (intro o; go_simp)); intro cc cc fz hl; (with_reducible apply cel2 (b := w2.heap.size) hb_w15); (focus ((try simp) <;> omega)); (focus omega); (focus (go_simp; try exact rfl)); (focus (go_simp; try exact rfl)); (focus (intro o; go_simp)); intro cc cc fz hl; (with_reducible apply cel2 (b := w2.heap.size + 1) hb_w15); (focus ((try simp) <;> omega)); (focus omega); (focus (go_simp; try exact rfl)); (focus (go_simp; try exact rfl)); (focus (intro o; go_simp)); intro cc cc fz hl; (with_reducible apply cel2 (b := w4.heap.size) hb_w15); (focus ((try simp) <;> omega)); (focus omega); (focus (go_simp; try exact rfl)); (focus (go_simp; try exact rfl)); (focus (intro o; go_simp)); intro cc cc fz hl; (with_reducible apply cel2 (b := w5.heap.size) hb_w15); (focus ((try simp) <;> omega)); (focus omega); (focus (go_simp; try exact rfl)); (focus (go_simp; try exact rfl)); (focus (intro o; go_simp)); intro cc cc fz hl; (with_reducible apply cel2 (b := w8.heap.size) hb_w15); (focus ((try simp) <;> omega)); (focus omega); (focus (go_simp; try exact rfl)); (focus (go_simp; try exact rfl)); (focus (intro o; go_simp)); intro cc cc fz hl; (with_reducible apply cel2 (b := w9.heap.size) hb_w15); (focus ((try simp) <;> omega)); (focus omega); (focus (go_simp; try exact rfl)); (focus (go_simp; try exact rfl)); (focus (intro o; go_simp)); intro cc cc fz hl; (with_reducible apply cel2 (b := w10.heap.size) hb_w15); (focus ((try simp) <;> omega)); (focus omega); (focus (go_simp; try exact rfl)); (focus (go_simp; try exact rfl)); (focus (intro o; go_simp)); intro cc cc fz hl)
      have HW15 := Lib.hid (show Below w14.heap.size w14 w15 by ((with_reducible (repeat (first | exact bR _ _ | refine bS ?_ ?_ _ | refine bA ?_ ?_ _ | refine bD ?_ | refine bT ?_ (by assumption) ?_ | refine bO (by assumption) ?_ ?_))) <;> (first | omega | (simp; done) | (simp <;> omega))))
      replace HA := Lib.hid (HA.out.below HW15.out)
      replace HB0 := Lib.hid (HB0.out.below HW15.out)
      replace HC0 := Lib.hid (HC0.out.below HW15.out)
      replace HQ := Lib.hid (HQ.out.below HW15.out)
      replace HR := Lib.hid (HR.out.below HW15.out)
      replace HP := Lib.hid (HP.out.below HW15.out)
      replace HS := Lib.hid (HS.out.below HW15.out)
      replace HX := Lib.hid (HX.out.below HW15.out)
      replace HY := Lib.hid (HY.out.below HW15.out)
      replace HD := Lib.hid (HD.out.below HW15.out)
      have hz15 : w.heap.size ≤ w15.heap.size := by omega
      replace HB := Lib.hid (HB.out.trans (HW15.out.mono (by omega)))
      clear hb_w15 HW15
      go_wp2_with fail
      go_ret
      refine ⟨ret_bool (by first | rfl | simp | (simp; omega)), HB.out⟩

theorem walk (w : World) (a0 : Array Value) (n0 : Nat) (w0 : RowIs Try.prog w n0 24 a0.toList) (a1 : Array Value) (n1 : Nat) (w1 : RowIs Try.prog w n1 24 a1.toList) (a2 : Array Value) (n2 : Nat) (w2 : RowIs Try.prog w n2 24 a2.toList) :
    Calls Try.prog 5 #[.agg a0, .agg a1, .agg a2] w fun e w' => e = .returned (.bool true) ∧ Below w.heap.size w w' := by
  obtain ⟨p, A, len, cap, z, e, hml, hA⟩ := int_open w0
  obtain ⟨p2, A2, len2, cap2, z2, e2, hml2, hA2⟩ := int_open w1
  obtain ⟨p3, A3, len3, cap3, z3, e3, hml3, hA3⟩ := int_open w2
  obtain ⟨l⟩ := a0
  obtain ⟨l2⟩ := a1
  obtain ⟨l3⟩ := a2
  simp only at e e2 e3
  subst e e2 e3
  by_cases h : len ≤ 20 ∧ len2 ≤ 20 ∧ len3 ≤ 20
  · exact short p p2 p3 A A2 A3 len len2 len3 cap cap2 cap3 z z2 z3 w h.1 h.2.1 h.2.2 (hA.upto h.1) (hA2.upto h.2.1) (hA3.upto h.2.2)
  · exact long p p2 p3 A A2 A3 len len2 len3 cap cap2 cap3 w h hml hml2 hml3
theorem own : ownKnob Try.prog.godebug = none := by kernel_rfl
theorem laidOut : laidOutB Try.prog = true := by kernel_rfl
set_option maxRecDepth 100000 in
theorem lifted (os : Os) (started : os.Started) (H : Type) (enc : TypeId × Value → H) :
    ReturnsInHanded {} Try.checked os 5 .any (Rows.integerDividesSpec.pre6 enc Try.prog Try.f5 Rows.integerDividesRow.domain false) (Rows.integerDividesSpec.post enc Try.prog Try.f5 false true false false) := by
  refine returnsInHanded_of_change (C := Try.checked) own started (by kernel_rfl) Try.func5
    (ChangeSpec.witness6 (enc := enc) (C := Try.checked) false ⟨#[], #[.agg #[.bool false, .slice none 0 0], .agg #[.bool false, .slice none 0 0], .agg #[.bool false, .slice none 0 0]], []⟩ 8 (by kernel_rfl) (by kernel_rfl) (by kernel_rfl) (by kernel_rfl)) ?_
  intro W base args ds gs before hval0 hW hcnd _
  have hval : ∀ (j : Nat) t v, Try.f5.params[j]? = some t → args[j]? = some v → Value.okWide Try.prog W .any base t v := hval0
  have hW' := hW
  obtain ⟨p, q, hA0, hV, rfl, hfz, hnd⟩ := hW
  have hA : DataW.TrodAll enc Try.prog W 0 (fun _ => true) true Try.f5.params.toList args.toList ds p := hA0
  rw [Try.params5] at hA hval
  obtain ⟨v0, vs0, d0, ds0, p0, q0, hargs, rfl, rfl, h0, r0⟩ := trodAll_cons hA
  obtain ⟨v1, vs1, d1, ds1, p1, q1, rfl, rfl, rfl, h1, r1⟩ := trodAll_cons r0
  obtain ⟨v2, vs2, d2, ds2, p2, q2, rfl, rfl, rfl, h2, r2⟩ := trodAll_cons r1
  obtain ⟨rfl, rfl, rfl⟩ := trodAll_nil r2
  obtain rfl : args = #[v0, v1, v2] := by cases args; simp_all
  obtain ⟨rfl, rfl⟩ := trodVars_none hV
  obtain ⟨a0, rfl, hs0⟩ := okWide_struct Try.underlying24 (hval 0 24 v0 rfl rfl)
  have k0 := h0
  have lt0 : ∀ x ∈ p0, x.block < W.heap.size := by obtain ⟨m, hm⟩ := k0; exact DataW.trod_lt m _ _ _ hm
  obtain ⟨n0, w0⟩ : ∃ n, RowIs Try.prog W n 24 a0.toList := by obtain ⟨fuel, hf⟩ := h0; exact ⟨fuel, rowIs_of_trod fuel _ _ _ hf⟩
  obtain ⟨a1, rfl, hs1⟩ := okWide_struct Try.underlying24 (hval 1 24 v1 rfl rfl)
  have k1 := h1
  have lt1 : ∀ x ∈ p1, x.block < W.heap.size := by obtain ⟨m, hm⟩ := k1; exact DataW.trod_lt m _ _ _ hm
  obtain ⟨n1, w1⟩ : ∃ n, RowIs Try.prog W n 24 a1.toList := by obtain ⟨fuel, hf⟩ := h1; exact ⟨fuel, rowIs_of_trod fuel _ _ _ hf⟩
  obtain ⟨a2, rfl, hs2⟩ := okWide_struct Try.underlying24 (hval 2 24 v2 rfl rfl)
  have k2 := h2
  have lt2 : ∀ x ∈ p2, x.block < W.heap.size := by obtain ⟨m, hm⟩ := k2; exact DataW.trod_lt m _ _ _ hm
  obtain ⟨n2, w2⟩ : ∃ n, RowIs Try.prog W n 24 a2.toList := by obtain ⟨fuel, hf⟩ := h2; exact ⟨fuel, rowIs_of_trod fuel _ _ _ hf⟩
  clear hA0 hval0
  refine (walk W a0 n0 w0 a1 n1 w1 a2 n2 w2).mono fun e W' ⟨he, bel⟩ => ?_
  subst he
  exact ⟨_, rfl, _, _, _, [], _, [], hW', trodAll_mk1 (shut_bool Try.underlying4 _), (trodAll_cons_mk (Below.trod laidOut (by kernel_rfl) (of_decide_eq_true (by kernel_rfl)) k0 bel lt0) (trodAll_cons_mk (Below.trod laidOut (by kernel_rfl) (of_decide_eq_true (by kernel_rfl)) k1 bel lt1) (trodAll_cons_mk (Below.trod laidOut (by kernel_rfl) (of_decide_eq_true (by kernel_rfl)) k2 bel lt2) trodAll_mk0))), rfl, bel.frame _, fun h => by cases h⟩

theorem over : Rows.integerDividesRow.holds Try.pinned (OpenSpec.ofChange Rows.integerDividesSpec) :=
  OpenClaim.holds_of_wide 5 Try.f5 rfl rfl rfl rfl rfl rfl rfl ⟨rfl, rfl, rfl, rfl, rfl⟩ rfl rfl rfl rfl rfl (by kernel_rfl) Try.func5 (by kernel_rfl)
    (of_decide_eq_true (by kernel_rfl)) (by unfold Func.isWrapper; first | (rw [if_pos (by decide +kernel)]; kernel_rfl) | (rw [if_neg (by decide +kernel)]; exact ⟨rfl, rfl⟩))
    (fun os started H enc _ => lifted os started H enc)

theorem proved : Rows.IntegerDividesSaid := over
#print axioms proved
end Go.Proofs.Ytadkcipjcmkoiaa.lawID
