/- Law IntegerRing returns true for every three integers. No conditions. -/
import Derived.Test.YtadkcipjcmkoiaaLenZ
namespace Go.Proofs.Ytadkcipjcmkoiaa.lawIR
open Go.ChangeShapes Go.WideShapes Go.ChangeAt Go.RowKit
set_option linter.unusedVariables false
set_option maxRecDepth 100000 in
set_option maxHeartbeats 2000000 in
theorem long (p1 p2 p3 : Bool) (A1 A2 A3 : Option Addr) (n1 n2 n3 c1 c2 c3 : Nat) (w : World) (h : ¬ (n1 ≤ 40 ∧ n2 ≤ 40 ∧ n3 ≤ 40)) (h1 : n1 ≤ maxLen) (h2 : n2 ≤ maxLen) (h3 : n3 ≤ maxLen) :
    Calls Try.prog 7 #[.agg #[.bool p1, .slice A1 n1 c1], .agg #[.bool p2, .slice A2 n2 c2], .agg #[.bool p3, .slice A3 n3 c3]] w fun e w' => e = .returned (.bool true) ∧ Below w.heap.size w w' := by
  unfold maxLen at h1 h2 h3
  have f1 := fun w => few_any p1 A1 n1 c1 w (by omega)
  have f2 := fun w => few_any p2 A2 n2 c2 w (by omega)
  have f3 := fun w => few_any p3 A3 n3 c3 w (by omega)
  obtain ⟨b1, e1⟩ : ∃ b, b = decide (n1 ≤ 40) := ⟨_, rfl⟩
  obtain ⟨b2, e2⟩ : ∃ b, b = decide (n2 ≤ 40) := ⟨_, rfl⟩
  obtain ⟨b3, e3⟩ : ∃ b, b = decide (n3 ≤ 40) := ⟨_, rfl⟩
  have hq : ¬ (b1 = true ∧ b2 = true ∧ b3 = true) := by
    rw [e1, e2, e3, decide_eq_true_iff, decide_eq_true_iff, decide_eq_true_iff]; exact h
  rw [← e1] at f1
  rw [← e2] at f2
  rw [← e3] at f3
  have F1 := Lib.hid f1
  have F2 := Lib.hid f2
  have F3 := Lib.hid f3
  clear f1 f2 f3 e1 e2 e3 h
  go_enter Try.func7, Try.ntmps7; (try simp only [List.append_eq, List.cons_append, List.nil_append])
  go_wp2_with fail
  -- own blocks: w.heap.size:2, w.heap.size + 1:2, w.heap.size + 1 + 1:2
  (go_at_call 10; refine (awake01_any _).mono ?_; rintro e w1 ⟨rfl, hb_w1⟩; have hz_w1 := hb_w1.size; (try simp at hz_w1); (with_reducible apply cel2 (b := w.heap.size) hb_w1); (focus ((try simp) <;> omega)); (focus omega); (focus (go_simp; try exact rfl)); (focus (go_simp; try exact rfl)); (focus (intro o; go_simp)); intro cc cc fz hl; (with_reducible apply cel2 (b := w.heap.size + 1) hb_w1); (focus ((try simp) <;> omega)); (focus omega); (focus (go_simp; try exact rfl)); (focus (go_simp; try exact rfl)); (focus (intro o; go_simp)); intro cc cc fz hl; (with_reducible apply cel2 (b := w.heap.size + 1 + 1) hb_w1); (focus ((try simp) <;> omega)); (focus omega); (focus (go_simp; try exact rfl)); (focus (go_simp; try exact rfl)); (focus (intro o; go_simp)); intro cc cc fz hl)
  cases b1
  · go_wp2_with fail
    (go_at_call 11; refine (F1.out _).mono ?_; rintro e w2 ⟨rfl, hb_w2⟩; have hz_w2 := hb_w2.size; (try simp at hz_w2); (with_reducible apply cel2 (b := w.heap.size) hb_w2); (focus ((try simp) <;> omega)); (focus omega); (focus (go_simp; try exact rfl)); (focus (go_simp; try exact rfl)); (focus (intro o; go_simp)); intro cc cc fz hl; (with_reducible apply cel2 (b := w.heap.size + 1) hb_w2); (focus ((try simp) <;> omega)); (focus omega); (focus (go_simp; try exact rfl)); (focus (go_simp; try exact rfl)); (focus (intro o; go_simp)); intro cc cc fz hl; (with_reducible apply cel2 (b := w.heap.size + 1 + 1) hb_w2); (focus ((try simp) <;> omega)); (focus omega); (focus (go_simp; try exact rfl)); (focus (go_simp; try exact rfl)); (focus (intro o; go_simp)); intro cc cc fz hl)
    go_wp2_with fail
    (go_at_call 10; refine (awake01_any _).mono ?_; rintro e w3 ⟨rfl, hb_w3⟩; have hz_w3 := hb_w3.size; (try simp at hz_w3); (with_reducible apply cel2 (b := w.heap.size) hb_w3); (focus ((try simp) <;> omega)); (focus omega); (focus (go_simp; try exact rfl)); (focus (go_simp; try exact rfl)); (focus (intro o; go_simp)); intro cc cc fz hl; (with_reducible apply cel2 (b := w.heap.size + 1) hb_w3); (focus ((try simp) <;> omega)); (focus omega); (focus (go_simp; try exact rfl)); (focus (go_simp; try exact rfl)); (focus (intro o; go_simp)); intro cc cc fz hl; (with_reducible apply cel2 (b := w.heap.size + 1 + 1) hb_w3); (focus ((try simp) <;> omega)); (focus omega); (focus (go_simp; try exact rfl)); (focus (go_simp; try exact rfl)); (focus (intro o; go_simp)); intro cc cc fz hl)
    go_wp2_with fail
    go_ret
    exact ⟨rfl, by ((with_reducible (repeat (first | exact bR _ _ | refine bS ?_ ?_ _ | refine bA ?_ ?_ _ | refine bD ?_ | refine bT ?_ (by assumption) ?_ | refine bO (by assumption) ?_ ?_))) <;> (first | omega | (simp; done) | (simp <;> omega)))⟩
  · cases b2
    · go_wp2_with fail
      (go_at_call 11; refine (F1.out _).mono ?_; rintro e w2 ⟨rfl, hb_w2⟩; have hz_w2 := hb_w2.size; (try simp at hz_w2); (with_reducible apply cel2 (b := w.heap.size) hb_w2); (focus ((try simp) <;> omega)); (focus omega); (focus (go_simp; try exact rfl)); (focus (go_simp; try exact rfl)); (focus (intro o; go_simp)); intro cc cc fz hl; (with_reducible apply cel2 (b := w.heap.size + 1) hb_w2); (focus ((try simp) <;> omega)); (focus omega); (focus (go_simp; try exact rfl)); (focus (go_simp; try exact rfl)); (focus (intro o; go_simp)); intro cc cc fz hl; (with_reducible apply cel2 (b := w.heap.size + 1 + 1) hb_w2); (focus ((try simp) <;> omega)); (focus omega); (focus (go_simp; try exact rfl)); (focus (go_simp; try exact rfl)); (focus (intro o; go_simp)); intro cc cc fz hl)
      go_wp2_with fail
      (go_at_call 11; refine (F2.out _).mono ?_; rintro e w3 ⟨rfl, hb_w3⟩; have hz_w3 := hb_w3.size; (try simp at hz_w3); (with_reducible apply cel2 (b := w.heap.size) hb_w3); (focus ((try simp) <;> omega)); (focus omega); (focus (go_simp; try exact rfl)); (focus (go_simp; try exact rfl)); (focus (intro o; go_simp)); intro cc cc fz hl; (with_reducible apply cel2 (b := w.heap.size + 1) hb_w3); (focus ((try simp) <;> omega)); (focus omega); (focus (go_simp; try exact rfl)); (focus (go_simp; try exact rfl)); (focus (intro o; go_simp)); intro cc cc fz hl; (with_reducible apply cel2 (b := w.heap.size + 1 + 1) hb_w3); (focus ((try simp) <;> omega)); (focus omega); (focus (go_simp; try exact rfl)); (focus (go_simp; try exact rfl)); (focus (intro o; go_simp)); intro cc cc fz hl)
      go_wp2_with fail
      (go_at_call 10; refine (awake01_any _).mono ?_; rintro e w4 ⟨rfl, hb_w4⟩; have hz_w4 := hb_w4.size; (try simp at hz_w4); (with_reducible apply cel2 (b := w.heap.size) hb_w4); (focus ((try simp) <;> omega)); (focus omega); (focus (go_simp; try exact rfl)); (focus (go_simp; try exact rfl)); (focus (intro o; go_simp)); intro cc cc fz hl; (with_reducible apply cel2 (b := w.heap.size + 1) hb_w4); (focus ((try simp) <;> omega)); (focus omega); (focus (go_simp; try exact rfl)); (focus (go_simp; try exact rfl)); (focus (intro o; go_simp)); intro cc cc fz hl; (with_reducible apply cel2 (b := w.heap.size + 1 + 1) hb_w4); (focus ((try simp) <;> omega)); (focus omega); (focus (go_simp; try exact rfl)); (focus (go_simp; try exact rfl)); (focus (intro o; go_simp)); intro cc cc fz hl)
      go_wp2_with fail
      go_ret
      exact ⟨rfl, by ((with_reducible (repeat (first | exact bR _ _ | refine bS ?_ ?_ _ | refine bA ?_ ?_ _ | refine bD ?_ | refine bT ?_ (by assumption) ?_ | refine bO (by assumption) ?_ ?_))) <;> (first | omega | (simp; done) | (simp <;> omega)))⟩
    · cases b3
      · go_wp2_with fail
        (go_at_call 11; refine (F1.out _).mono ?_; rintro e w2 ⟨rfl, hb_w2⟩; have hz_w2 := hb_w2.size; (try simp at hz_w2); (with_reducible apply cel2 (b := w.heap.size) hb_w2); (focus ((try simp) <;> omega)); (focus omega); (focus (go_simp; try exact rfl)); (focus (go_simp; try exact rfl)); (focus (intro o; go_simp)); intro cc cc fz hl; (with_reducible apply cel2 (b := w.heap.size + 1) hb_w2); (focus ((try simp) <;> omega)); (focus omega); (focus (go_simp; try exact rfl)); (focus (go_simp; try exact rfl)); (focus (intro o; go_simp)); intro cc cc fz hl; (with_reducible apply cel2 (b := w.heap.size + 1 + 1) hb_w2); (focus ((try simp) <;> omega)); (focus omega); (focus (go_simp; try exact rfl)); (focus (go_simp; try exact rfl)); (focus (intro o; go_simp)); intro cc cc fz hl)
        go_wp2_with fail
        (go_at_call 11; refine (F2.out _).mono ?_; rintro e w3 ⟨rfl, hb_w3⟩; have hz_w3 := hb_w3.size; (try simp at hz_w3); (with_reducible apply cel2 (b := w.heap.size) hb_w3); (focus ((try simp) <;> omega)); (focus omega); (focus (go_simp; try exact rfl)); (focus (go_simp; try exact rfl)); (focus (intro o; go_simp)); intro cc cc fz hl; (with_reducible apply cel2 (b := w.heap.size + 1) hb_w3); (focus ((try simp) <;> omega)); (focus omega); (focus (go_simp; try exact rfl)); (focus (go_simp; try exact rfl)); (focus (intro o; go_simp)); intro cc cc fz hl; (with_reducible apply cel2 (b := w.heap.size + 1 + 1) hb_w3); (focus ((try simp) <;> omega)); (focus omega); (focus (go_simp; try exact rfl)); (focus (go_simp; try exact rfl)); (focus (intro o; go_simp)); intro cc cc fz hl)
        go_wp2_with fail
        (go_at_call 11; refine (F3.out _).mono ?_; rintro e w4 ⟨rfl, hb_w4⟩; have hz_w4 := hb_w4.size; (try simp at hz_w4); (with_reducible apply cel2 (b := w.heap.size) hb_w4); (focus ((try simp) <;> omega)); (focus omega); (focus (go_simp; try exact rfl)); (focus (go_simp; try exact rfl)); (focus (intro o; go_simp)); intro cc cc fz hl; (with_reducible apply cel2 (b := w.heap.size + 1) hb_w4); (focus ((try simp) <;> omega)); (focus omega); (focus (go_simp; try exact rfl)); (focus (go_simp; try exact rfl)); (focus (intro o; go_simp)); intro cc cc fz hl; (with_reducible apply cel2 (b := w.heap.size + 1 + 1) hb_w4); (focus ((try simp) <;> omega)); (focus omega); (focus (go_simp; try exact rfl)); (focus (go_simp; try exact rfl)); (focus (intro o; go_simp)); intro cc cc fz hl)
        go_wp2_with fail
        (go_at_call 10; refine (awake01_any _).mono ?_; rintro e w5 ⟨rfl, hb_w5⟩; have hz_w5 := hb_w5.size; (try simp at hz_w5); (with_reducible apply cel2 (b := w.heap.size) hb_w5); (focus ((try simp) <;> omega)); (focus omega); (focus (go_simp; try exact rfl)); (focus (go_simp; try exact rfl)); (focus (intro o; go_simp)); intro cc cc fz hl; (with_reducible apply cel2 (b := w.heap.size + 1) hb_w5); (focus ((try simp) <;> omega)); (focus omega); (focus (go_simp; try exact rfl)); (focus (go_simp; try exact rfl)); (focus (intro o; go_simp)); intro cc cc fz hl; (with_reducible apply cel2 (b := w.heap.size + 1 + 1) hb_w5); (focus ((try simp) <;> omega)); (focus omega); (focus (go_simp; try exact rfl)); (focus (go_simp; try exact rfl)); (focus (intro o; go_simp)); intro cc cc fz hl)
        go_wp2_with fail
        go_ret
        exact ⟨rfl, by ((with_reducible (repeat (first | exact bR _ _ | refine bS ?_ ?_ _ | refine bA ?_ ?_ _ | refine bD ?_ | refine bT ?_ (by assumption) ?_ | refine bO (by assumption) ?_ ?_))) <;> (first | omega | (simp; done) | (simp <;> omega)))⟩
      · exact absurd ⟨rfl, rfl, rfl⟩ hq
set_option maxRecDepth 100000 in
set_option maxHeartbeats 4000000 in
theorem short (p1 p2 p3 : Bool) (A1 A2 A3 : Option Addr) (n1 n2 n3 c1 c2 c3 : Nat) (z1 z2 z3 : Int) (w : World) (h1 : n1 ≤ 40) (h2 : n2 ≤ 40) (h3 : n3 ≤ 40)
    (hA : IsZ w (.agg #[.bool p1, .slice A1 n1 c1]) 40 z1) (hB : IsZ w (.agg #[.bool p2, .slice A2 n2 c2]) 40 z2) (hC : IsZ w (.agg #[.bool p3, .slice A3 n3 c3]) 40 z3) :
    Calls Try.prog 7 #[.agg #[.bool p1, .slice A1 n1 c1], .agg #[.bool p2, .slice A2 n2 c2], .agg #[.bool p3, .slice A3 n3 c3]] w fun e w' => e = .returned (.bool true) ∧ Below w.heap.size w w' := by
  have la := isZ_len hA
  have lb := isZ_len hB
  have lc := isZ_len hC
  obtain ⟨zab, hzab⟩ : ∃ q, q = z1 + z2 := ⟨_, rfl⟩
  have lab : (canN zab.natAbs).length ≤ 41 := by rw [hzab]; exact len_add (n := 40) la lb
  have k1 := fun u v w h1 h2 => iadd_any 100 u v z1 z2 w h1 h2 (by omega)
  rw [addZ (by omega) (by omega) hzab (by omega)] at k1
  simp only at k1
  have K1 := Lib.hid k1
  obtain ⟨zbc, hzbc⟩ : ∃ q, q = z2 + z3 := ⟨_, rfl⟩
  have lbc : (canN zbc.natAbs).length ≤ 41 := by rw [hzbc]; exact len_add (n := 40) lb lc
  have k2 := fun u v w h1 h2 => iadd_any 100 u v z2 z3 w h1 h2 (by omega)
  rw [addZ (by omega) (by omega) hzbc (by omega)] at k2
  simp only at k2
  have K2 := Lib.hid k2
  obtain ⟨zle, hzle⟩ : ∃ q, q = zab + z3 := ⟨_, rfl⟩
  have lle : (canN zle.natAbs).length ≤ 42 := by rw [hzle]; exact len_add (n := 41) lab (by omega)
  have k3 := fun u v w h1 h2 => iadd_any 100 u v zab z3 w h1 h2 (by omega)
  rw [addZ (by omega) (by omega) hzle (by omega)] at k3
  simp only at k3
  have K3 := Lib.hid k3
  obtain ⟨zri, hzri⟩ : ∃ q, q = z1 + zbc := ⟨_, rfl⟩
  have lri : (canN zri.natAbs).length ≤ 42 := by rw [hzri]; exact len_add (n := 41) (by omega) lbc
  have k4 := fun u v w h1 h2 => iadd_any 100 u v z1 zbc w h1 h2 (by omega)
  rw [addZ (by omega) (by omega) hzri (by omega)] at k4
  simp only at k4
  have K4 := Lib.hid k4
  obtain ⟨zpa, hzpa⟩ : ∃ q, q = z1 * z2 := ⟨_, rfl⟩
  have lpa : (canN zpa.natAbs).length ≤ 80 := by rw [hzpa]; exact len_mul (n := 40) (m := 40) la lb
  have k5 := fun u v w h1 h2 => imul_any 100 u v z1 z2 w h1 h2 (by omega)
  rw [mulZ (by omega) (by omega) hzpa (by omega)] at k5
  simp only at k5
  have K5 := Lib.hid k5
  obtain ⟨zpb, hzpb⟩ : ∃ q, q = z2 * z1 := ⟨_, rfl⟩
  have lpb : (canN zpb.natAbs).length ≤ 80 := by rw [hzpb]; exact len_mul (n := 40) (m := 40) lb la
  have k6 := fun u v w h1 h2 => imul_any 100 u v z2 z1 w h1 h2 (by omega)
  rw [mulZ (by omega) (by omega) hzpb (by omega)] at k6
  simp only at k6
  have K6 := Lib.hid k6
  obtain ⟨zpc, hzpc⟩ : ∃ q, q = z1 * z3 := ⟨_, rfl⟩
  have lpc : (canN zpc.natAbs).length ≤ 80 := by rw [hzpc]; exact len_mul (n := 40) (m := 40) la lc
  have k7 := fun u v w h1 h2 => imul_any 100 u v z1 z3 w h1 h2 (by omega)
  rw [mulZ (by omega) (by omega) hzpc (by omega)] at k7
  simp only at k7
  have K7 := Lib.hid k7
  obtain ⟨zon, hzon⟩ : ∃ q, q = z1 * zbc := ⟨_, rfl⟩
  have lon : (canN zon.natAbs).length ≤ 81 := by rw [hzon]; exact len_mul (n := 40) (m := 41) la lbc
  have k8 := fun u v w h1 h2 => imul_any 100 u v z1 zbc w h1 h2 (by omega)
  rw [mulZ (by omega) (by omega) hzon (by omega)] at k8
  simp only at k8
  have K8 := Lib.hid k8
  obtain ⟨ztw, hztw⟩ : ∃ q, q = zpa + zpc := ⟨_, rfl⟩
  have ltw : (canN ztw.natAbs).length ≤ 81 := by rw [hztw]; exact len_add (n := 80) lpa lpc
  have k9 := fun u v w h1 h2 => iadd_any 100 u v zpa zpc w h1 h2 (by omega)
  rw [addZ (by omega) (by omega) hztw (by omega)] at k9
  simp only at k9
  have K9 := Lib.hid k9
  obtain ⟨zno, hzno⟩ : ∃ q, q = zab - z2 := ⟨_, rfl⟩
  have lno : (canN zno.natAbs).length ≤ 42 := by rw [hzno]; exact len_sub (n := 41) lab (by omega)
  have k10 := fun u v w h1 h2 => isub_any 100 u v zab z2 w h1 h2 (by omega)
  rw [subZ (by omega) (by omega) hzno (by omega)] at k10
  simp only at k10
  have K10 := Lib.hid k10
  have c1 := fun u v w h1 h2 => icmp_any 100 u v zle zri w h1 h2 (by omega)
  rw [cmpZ (by rw [hzle, hzri, hzab, hzbc]; omega)] at c1
  have C1 := Lib.hid c1
  have c2 := fun u v w h1 h2 => icmp_any 100 u v zpa zpb w h1 h2 (by omega)
  rw [cmpZ (by rw [hzpa, hzpb]; exact Int.mul_comm _ _)] at c2
  have C2 := Lib.hid c2
  have c3 := fun u v w h1 h2 => icmp_any 100 u v zon ztw w h1 h2 (by omega)
  rw [cmpZ (by rw [hzon, hztw, hzpa, hzpc, hzbc]; exact Int.mul_add _ _ _)] at c3
  have C3 := Lib.hid c3
  have c4 := fun u v w h1 h2 => icmp_any 100 u v zno z1 w h1 h2 (by omega)
  rw [cmpZ (by rw [hzno, hzab]; omega)] at c4
  have C4 := Lib.hid c4
  replace lab : (canN zab.natAbs).length ≤ 100 := by omega
  replace lbc : (canN zbc.natAbs).length ≤ 100 := by omega
  replace lle : (canN zle.natAbs).length ≤ 100 := by omega
  replace lri : (canN zri.natAbs).length ≤ 100 := by omega
  replace lpa : (canN zpa.natAbs).length ≤ 100 := by omega
  replace lpb : (canN zpb.natAbs).length ≤ 100 := by omega
  replace lpc : (canN zpc.natAbs).length ≤ 100 := by omega
  replace lon : (canN zon.natAbs).length ≤ 100 := by omega
  replace ltw : (canN ztw.natAbs).length ≤ 100 := by omega
  replace lno : (canN zno.natAbs).length ≤ 100 := by omega
  clear k1 k2 k3 k4 k5 k6 k7 k8 k9 k10 c1 c2 c3 c4 hzab hzbc hzle hzri hzpa hzpb hzpc hzon hztw hzno
  have f1 := fun w => few_any p1 A1 n1 c1 w (by omega)
  have f2 := fun w => few_any p2 A2 n2 c2 w (by omega)
  have f3 := fun w => few_any p3 A3 n3 c3 w (by omega)
  rw [decide_eq_true h1] at f1
  rw [decide_eq_true h2] at f2
  rw [decide_eq_true h3] at f3
  have F1 := Lib.hid f1
  have F2 := Lib.hid f2
  have F3 := Lib.hid f3
  have HA := Lib.hid (hA.upto (show 40 ≤ 100 by decide))
  have HB0 := Lib.hid (hB.upto (show 40 ≤ 100 by decide))
  have HC0 := Lib.hid (hC.upto (show 40 ≤ 100 by decide))
  clear f1 f2 f3 hA hB hC la lb lc
  go_enter Try.func7, Try.ntmps7; (try simp only [List.append_eq, List.cons_append, List.nil_append])
  go_wp2_with fail
  -- own blocks: w.heap.size:2, w.heap.size + 1:2, w.heap.size + 1 + 1:2
  (go_at_call 10; refine (awake01_any _).mono ?_; rintro e w1 ⟨rfl, hb_w1⟩; have hz_w1 := hb_w1.size; (try simp at hz_w1); (with_reducible apply cel2 (b := w.heap.size) hb_w1); (focus ((try simp) <;> omega)); (focus omega); (focus (go_simp; try exact rfl)); (focus (go_simp; try exact rfl)); (focus (intro o; go_simp)); intro cc cc fz hl; (with_reducible apply cel2 (b := w.heap.size + 1) hb_w1); (focus ((try simp) <;> omega)); (focus omega); (focus (go_simp; try exact rfl)); (focus (go_simp; try exact rfl)); (focus (intro o; go_simp)); intro cc cc fz hl; (with_reducible apply cel2 (b := w.heap.size + 1 + 1) hb_w1); (focus ((try simp) <;> omega)); (focus omega); (focus (go_simp; try exact rfl)); (focus (go_simp; try exact rfl)); (focus (intro o; go_simp)); intro cc cc fz hl)
  go_wp2_with fail
  (go_at_call 11; refine (F1.out _).mono ?_; rintro e w2 ⟨rfl, hb_w2⟩; have hz_w2 := hb_w2.size; (try simp at hz_w2); (with_reducible apply cel2 (b := w.heap.size) hb_w2); (focus ((try simp) <;> omega)); (focus omega); (focus (go_simp; try exact rfl)); (focus (go_simp; try exact rfl)); (focus (intro o; go_simp)); intro cc cc fz hl; (with_reducible apply cel2 (b := w.heap.size + 1) hb_w2); (focus ((try simp) <;> omega)); (focus omega); (focus (go_simp; try exact rfl)); (focus (go_simp; try exact rfl)); (focus (intro o; go_simp)); intro cc cc fz hl; (with_reducible apply cel2 (b := w.heap.size + 1 + 1) hb_w2); (focus ((try simp) <;> omega)); (focus omega); (focus (go_simp; try exact rfl)); (focus (go_simp; try exact rfl)); (focus (intro o; go_simp)); intro cc cc fz hl)
  go_wp2_with fail
  (go_at_call 11; refine (F2.out _).mono ?_; rintro e w3 ⟨rfl, hb_w3⟩; have hz_w3 := hb_w3.size; (try simp at hz_w3); (with_reducible apply cel2 (b := w.heap.size) hb_w3); (focus ((try simp) <;> omega)); (focus omega); (focus (go_simp; try exact rfl)); (focus (go_simp; try exact rfl)); (focus (intro o; go_simp)); intro cc cc fz hl; (with_reducible apply cel2 (b := w.heap.size + 1) hb_w3); (focus ((try simp) <;> omega)); (focus omega); (focus (go_simp; try exact rfl)); (focus (go_simp; try exact rfl)); (focus (intro o; go_simp)); intro cc cc fz hl; (with_reducible apply cel2 (b := w.heap.size + 1 + 1) hb_w3); (focus ((try simp) <;> omega)); (focus omega); (focus (go_simp; try exact rfl)); (focus (go_simp; try exact rfl)); (focus (intro o; go_simp)); intro cc cc fz hl)
  go_wp2_with fail
  (go_at_call 11; refine (F3.out _).mono ?_; rintro e w4 ⟨rfl, hb_w4⟩; have hz_w4 := hb_w4.size; (try simp at hz_w4); (with_reducible apply cel2 (b := w.heap.size) hb_w4); (focus ((try simp) <;> omega)); (focus omega); (focus (go_simp; try exact rfl)); (focus (go_simp; try exact rfl)); (focus (intro o; go_simp)); intro cc cc fz hl; (with_reducible apply cel2 (b := w.heap.size + 1) hb_w4); (focus ((try simp) <;> omega)); (focus omega); (focus (go_simp; try exact rfl)); (focus (go_simp; try exact rfl)); (focus (intro o; go_simp)); intro cc cc fz hl; (with_reducible apply cel2 (b := w.heap.size + 1 + 1) hb_w4); (focus ((try simp) <;> omega)); (focus omega); (focus (go_simp; try exact rfl)); (focus (go_simp; try exact rfl)); (focus (intro o; go_simp)); intro cc cc fz hl)
  have HB := Lib.hid (show Below w.heap.size w w4 by ((with_reducible (repeat (first | exact bR _ _ | refine bS ?_ ?_ _ | refine bA ?_ ?_ _ | refine bD ?_ | refine bT ?_ (by assumption) ?_ | refine bO (by assumption) ?_ ?_))) <;> (first | omega | (simp; done) | (simp <;> omega))))
  replace HA := Lib.hid (HA.out.below HB.out)
  replace HB0 := Lib.hid (HB0.out.below HB.out)
  replace HC0 := Lib.hid (HC0.out.below HB.out)
  have hz4 : w.heap.size ≤ w4.heap.size := by omega
  clear hb_w1 hb_w2 hb_w3 hb_w4
  go_wp2_with fail
  (go_at_call 24; refine (K1.out _ _ _ (HA.out.below (Below.refl _ _)) (HB0.out.below (Below.refl _ _))).mono ?_; rintro e w5 ⟨hb_w5, A5, c5, rfl, hc5, hA5⟩; have hz_w5 := hb_w5.size; (try simp at hz_w5); (with_reducible apply cel2 (b := w.heap.size) hb_w5); (focus ((try simp) <;> omega)); (focus omega); (focus (go_simp; try exact rfl)); (focus (go_simp; try exact rfl)); (focus (intro o; go_simp)); intro cc cc fz hl; (with_reducible apply cel2 (b := w.heap.size + 1) hb_w5); (focus ((try simp) <;> omega)); (focus omega); (focus (go_simp; try exact rfl)); (focus (go_simp; try exact rfl)); (focus (intro o; go_simp)); intro cc cc fz hl; (with_reducible apply cel2 (b := w.heap.size + 1 + 1) hb_w5); (focus ((try simp) <;> omega)); (focus omega); (focus (go_simp; try exact rfl)); (focus (go_simp; try exact rfl)); (focus (intro o; go_simp)); intro cc cc fz hl)
  have HW5 := Lib.hid (show Below w4.heap.size w4 w5 by ((with_reducible (repeat (first | exact bR _ _ | refine bS ?_ ?_ _ | refine bA ?_ ?_ _ | refine bD ?_ | refine bT ?_ (by assumption) ?_ | refine bO (by assumption) ?_ ?_))) <;> (first | omega | (simp; done) | (simp <;> omega))))
  have HAB := Lib.hid (show IsC w5 (.agg #[.bool (decide (zab < 0)), .slice A5 (canN zab.natAbs).length c5]) zab from ⟨A5, c5, rfl, hc5, hA5⟩)
  replace HA := Lib.hid (HA.out.below HW5.out)
  replace HB0 := Lib.hid (HB0.out.below HW5.out)
  replace HC0 := Lib.hid (HC0.out.below HW5.out)
  have hz5 : w.heap.size ≤ w5.heap.size := by omega
  replace HB := Lib.hid (HB.out.trans (HW5.out.mono (by omega)))
  clear hb_w5 HW5 hc5 hA5
  go_wp2_with fail
  -- own blocks besides: w5.heap.size:2
  (go_at_call 29; refine (plain_any _ _ _ _ 0 true _).mono ?_; rintro e w6 ⟨rfl, hb_w6⟩; have hz_w6 := hb_w6.size; (try simp at hz_w6); (with_reducible apply cel2 (b := w.heap.size) hb_w6); (focus ((try simp) <;> omega)); (focus omega); (focus (go_simp; try exact rfl)); (focus (go_simp; try exact rfl)); (focus (intro o; go_simp)); intro cc cc fz hl; (with_reducible apply cel2 (b := w.heap.size + 1) hb_w6); (focus ((try simp) <;> omega)); (focus omega); (focus (go_simp; try exact rfl)); (focus (go_simp; try exact rfl)); (focus (intro o; go_simp)); intro cc cc fz hl; (with_reducible apply cel2 (b := w.heap.size + 1 + 1) hb_w6); (focus ((try simp) <;> omega)); (focus omega); (focus (go_simp; try exact rfl)); (focus (go_simp; try exact rfl)); (focus (intro o; go_simp)); intro cc cc fz hl; (with_reducible apply cel2 (b := w5.heap.size) hb_w6); (focus ((try simp) <;> omega)); (focus omega); (focus (go_simp; try exact rfl)); (focus (go_simp; try exact rfl)); (focus (intro o; go_simp)); intro cc cc fz hl)
  have hz6 : w.heap.size ≤ w6.heap.size := by omega
  go_wp2_with fail
  (go_at_call 24; refine (K2.out _ _ _ (HB0.out.below (by ((with_reducible (repeat (first | exact bR _ _ | refine bS ?_ ?_ _ | refine bA ?_ ?_ _ | refine bD ?_ | refine bT ?_ (by assumption) ?_ | refine bO (by assumption) ?_ ?_))) <;> (first | omega | (simp; done) | (simp <;> omega))))) (HC0.out.below (by ((with_reducible (repeat (first | exact bR _ _ | refine bS ?_ ?_ _ | refine bA ?_ ?_ _ | refine bD ?_ | refine bT ?_ (by assumption) ?_ | refine bO (by assumption) ?_ ?_))) <;> (first | omega | (simp; done) | (simp <;> omega)))))).mono ?_; rintro e w7 ⟨hb_w7, A7, c7, rfl, hc7, hA7⟩; have hz_w7 := hb_w7.size; (try simp at hz_w7); (with_reducible apply cel2 (b := w.heap.size) hb_w7); (focus ((try simp) <;> omega)); (focus omega); (focus (go_simp; try exact rfl)); (focus (go_simp; try exact rfl)); (focus (intro o; go_simp)); intro cc cc fz hl; (with_reducible apply cel2 (b := w.heap.size + 1) hb_w7); (focus ((try simp) <;> omega)); (focus omega); (focus (go_simp; try exact rfl)); (focus (go_simp; try exact rfl)); (focus (intro o; go_simp)); intro cc cc fz hl; (with_reducible apply cel2 (b := w.heap.size + 1 + 1) hb_w7); (focus ((try simp) <;> omega)); (focus omega); (focus (go_simp; try exact rfl)); (focus (go_simp; try exact rfl)); (focus (intro o; go_simp)); intro cc cc fz hl; (with_reducible apply cel2 (b := w5.heap.size) hb_w7); (focus ((try simp) <;> omega)); (focus omega); (focus (go_simp; try exact rfl)); (focus (go_simp; try exact rfl)); (focus (intro o; go_simp)); intro cc cc fz hl)
  have HW7 := Lib.hid (show Below w5.heap.size w5 w7 by ((with_reducible (repeat (first | exact bR _ _ | refine bS ?_ ?_ _ | refine bA ?_ ?_ _ | refine bD ?_ | refine bT ?_ (by assumption) ?_ | refine bO (by assumption) ?_ ?_))) <;> (first | omega | (simp; done) | (simp <;> omega))))
  have HBC := Lib.hid (show IsC w7 (.agg #[.bool (decide (zbc < 0)), .slice A7 (canN zbc.natAbs).length c7]) zbc from ⟨A7, c7, rfl, hc7, hA7⟩)
  replace HA := Lib.hid (HA.out.below HW7.out)
  replace HB0 := Lib.hid (HB0.out.below HW7.out)
  replace HC0 := Lib.hid (HC0.out.below HW7.out)
  replace HAB := Lib.hid (HAB.out.below HW7.out)
  have hz7 : w.heap.size ≤ w7.heap.size := by omega
  replace HB := Lib.hid (HB.out.trans (HW7.out.mono (by omega)))
  clear hb_w7 HW7 hc7 hA7 hb_w6
  go_wp2_with fail
  -- own blocks besides: w7.heap.size:2
  (go_at_call 29; refine (plain_any _ _ _ _ 0 true _).mono ?_; rintro e w8 ⟨rfl, hb_w8⟩; have hz_w8 := hb_w8.size; (try simp at hz_w8); (with_reducible apply cel2 (b := w.heap.size) hb_w8); (focus ((try simp) <;> omega)); (focus omega); (focus (go_simp; try exact rfl)); (focus (go_simp; try exact rfl)); (focus (intro o; go_simp)); intro cc cc fz hl; (with_reducible apply cel2 (b := w.heap.size + 1) hb_w8); (focus ((try simp) <;> omega)); (focus omega); (focus (go_simp; try exact rfl)); (focus (go_simp; try exact rfl)); (focus (intro o; go_simp)); intro cc cc fz hl; (with_reducible apply cel2 (b := w.heap.size + 1 + 1) hb_w8); (focus ((try simp) <;> omega)); (focus omega); (focus (go_simp; try exact rfl)); (focus (go_simp; try exact rfl)); (focus (intro o; go_simp)); intro cc cc fz hl; (with_reducible apply cel2 (b := w5.heap.size) hb_w8); (focus ((try simp) <;> omega)); (focus omega); (focus (go_simp; try exact rfl)); (focus (go_simp; try exact rfl)); (focus (intro o; go_simp)); intro cc cc fz hl; (with_reducible apply cel2 (b := w7.heap.size) hb_w8); (focus ((try simp) <;> omega)); (focus omega); (focus (go_simp; try exact rfl)); (focus (go_simp; try exact rfl)); (focus (intro o; go_simp)); intro cc cc fz hl)
  have hz8 : w.heap.size ≤ w8.heap.size := by omega
  go_wp2_with fail
  (go_at_call 24; refine (K3.out _ _ _ ((HAB.out.below (by ((with_reducible (repeat (first | exact bR _ _ | refine bS ?_ ?_ _ | refine bA ?_ ?_ _ | refine bD ?_ | refine bT ?_ (by assumption) ?_ | refine bO (by assumption) ?_ ?_))) <;> (first | omega | (simp; done) | (simp <;> omega))))).zl lab) (HC0.out.below (by ((with_reducible (repeat (first | exact bR _ _ | refine bS ?_ ?_ _ | refine bA ?_ ?_ _ | refine bD ?_ | refine bT ?_ (by assumption) ?_ | refine bO (by assumption) ?_ ?_))) <;> (first | omega | (simp; done) | (simp <;> omega)))))).mono ?_; rintro e w9 ⟨hb_w9, A9, c9, rfl, hc9, hA9⟩; have hz_w9 := hb_w9.size; (try simp at hz_w9); (with_reducible apply cel2 (b := w.heap.size) hb_w9); (focus ((try simp) <;> omega)); (focus omega); (focus (go_simp; try exact rfl)); (focus (go_simp; try exact rfl)); (focus (intro o; go_simp)); intro cc cc fz hl; (with_reducible apply cel2 (b := w.heap.size + 1) hb_w9); (focus ((try simp) <;> omega)); (focus omega); (focus (go_simp; try exact rfl)); (focus (go_simp; try exact rfl)); (focus (intro o; go_simp)); intro cc cc fz hl; (with_reducible apply cel2 (b := w.heap.size + 1 + 1) hb_w9); (focus ((try simp) <;> omega)); (focus omega); (focus (go_simp; try exact rfl)); (focus (go_simp; try exact rfl)); (focus (intro o; go_simp)); intro cc cc fz hl; (with_reducible apply cel2 (b := w5.heap.size) hb_w9); (focus ((try simp) <;> omega)); (focus omega); (focus (go_simp; try exact rfl)); (focus (go_simp; try exact rfl)); (focus (intro o; go_simp)); intro cc cc fz hl; (with_reducible apply cel2 (b := w7.heap.size) hb_w9); (focus ((try simp) <;> omega)); (focus omega); (focus (go_simp; try exact rfl)); (focus (go_simp; try exact rfl)); (focus (intro o; go_simp)); intro cc cc fz hl)
  have HW9 := Lib.hid (show Below w7.heap.size w7 w9 by ((with_reducible (repeat (first | exact bR _ _ | refine bS ?_ ?_ _ | refine bA ?_ ?_ _ | refine bD ?_ | refine bT ?_ (by assumption) ?_ | refine bO (by assumption) ?_ ?_))) <;> (first | omega | (simp; done) | (simp <;> omega))))
  have HLE := Lib.hid (show IsC w9 (.agg #[.bool (decide (zle < 0)), .slice A9 (canN zle.natAbs).length c9]) zle from ⟨A9, c9, rfl, hc9, hA9⟩)
  replace HA := Lib.hid (HA.out.below HW9.out)
  replace HB0 := Lib.hid (HB0.out.below HW9.out)
  replace HC0 := Lib.hid (HC0.out.below HW9.out)
  replace HAB := Lib.hid (HAB.out.below HW9.out)
  replace HBC := Lib.hid (HBC.out.below HW9.out)
  have hz9 : w.heap.size ≤ w9.heap.size := by omega
  replace HB := Lib.hid (HB.out.trans (HW9.out.mono (by omega)))
  clear hb_w9 HW9 hc9 hA9 hb_w8
  go_wp2_with fail
  -- own blocks besides: w9.heap.size:2
  (go_at_call 29; refine (plain_any _ _ _ _ 0 true _).mono ?_; rintro e w10 ⟨rfl, hb_w10⟩; have hz_w10 := hb_w10.size; (try simp at hz_w10); (with_reducible apply cel2 (b := w.heap.size) hb_w10); (focus ((try simp) <;> omega)); (focus omega); (focus (go_simp; try exact rfl)); (focus (go_simp; try exact rfl)); (focus (intro o; go_simp)); intro cc cc fz hl; (with_reducible apply cel2 (b := w.heap.size + 1) hb_w10); (focus ((try simp) <;> omega)); (focus omega); (focus (go_simp; try exact rfl)); (focus (go_simp; try exact rfl)); (focus (intro o; go_simp)); intro cc cc fz hl; (with_reducible apply cel2 (b := w.heap.size + 1 + 1) hb_w10); (focus ((try simp) <;> omega)); (focus omega); (focus (go_simp; try exact rfl)); (focus (go_simp; try exact rfl)); (focus (intro o; go_simp)); intro cc cc fz hl; (with_reducible apply cel2 (b := w5.heap.size) hb_w10); (focus ((try simp) <;> omega)); (focus omega); (focus (go_simp; try exact rfl)); (focus (go_simp; try exact rfl)); (focus (intro o; go_simp)); intro cc cc fz hl; (with_reducible apply cel2 (b := w7.heap.size) hb_w10); (focus ((try simp) <;> omega)); (focus omega); (focus (go_simp; try exact rfl)); (focus (go_simp; try exact rfl)); (focus (intro o; go_simp)); intro cc cc fz hl; (with_reducible apply cel2 (b := w9.heap.size) hb_w10); (focus ((try simp) <;> omega)); (focus omega); (focus (go_simp; try exact rfl)); (focus (go_simp; try exact rfl)); (focus (intro o; go_simp)); intro cc cc fz hl)
  have hz10 : w.heap.size ≤ w10.heap.size := by omega
  go_wp2_with fail
  (go_at_call 24; refine (K4.out _ _ _ (HA.out.below (by ((with_reducible (repeat (first | exact bR _ _ | refine bS ?_ ?_ _ | refine bA ?_ ?_ _ | refine bD ?_ | refine bT ?_ (by assumption) ?_ | refine bO (by assumption) ?_ ?_))) <;> (first | omega | (simp; done) | (simp <;> omega))))) ((HBC.out.below (by ((with_reducible (repeat (first | exact bR _ _ | refine bS ?_ ?_ _ | refine bA ?_ ?_ _ | refine bD ?_ | refine bT ?_ (by assumption) ?_ | refine bO (by assumption) ?_ ?_))) <;> (first | omega | (simp; done) | (simp <;> omega))))).zl lbc)).mono ?_; rintro e w11 ⟨hb_w11, A11, c11, rfl, hc11, hA11⟩; have hz_w11 := hb_w11.size; (try simp at hz_w11); (with_reducible apply cel2 (b := w.heap.size) hb_w11); (focus ((try simp) <;> omega)); (focus omega); (focus (go_simp; try exact rfl)); (focus (go_simp; try exact rfl)); (focus (intro o; go_simp)); intro cc cc fz hl; (with_reducible apply cel2 (b := w.heap.size + 1) hb_w11); (focus ((try simp) <;> omega)); (focus omega); (focus (go_simp; try exact rfl)); (focus (go_simp; try exact rfl)); (focus (intro o; go_simp)); intro cc cc fz hl; (with_reducible apply cel2 (b := w.heap.size + 1 + 1) hb_w11); (focus ((try simp) <;> omega)); (focus omega); (focus (go_simp; try exact rfl)); (focus (go_simp; try exact rfl)); (focus (intro o; go_simp)); intro cc cc fz hl; (with_reducible apply cel2 (b := w5.heap.size) hb_w11); (focus ((try simp) <;> omega)); (focus omega); (focus (go_simp; try exact rfl)); (focus (go_simp; try exact rfl)); (focus (intro o; go_simp)); intro cc cc fz hl; (with_reducible apply cel2 (b := w7.heap.size) hb_w11); (focus ((try simp) <;> omega)); (focus omega); (focus (go_simp; try exact rfl)); (focus (go_simp; try exact rfl)); (focus (intro o; go_simp)); intro cc cc fz hl; (with_reducible apply cel2 (b := w9.heap.size) hb_w11); (focus ((try simp) <;> omega)); (focus omega); (focus (go_simp; try exact rfl)); (focus (go_simp; try exact rfl)); (focus (intro o; go_simp)); intro cc cc fz hl)
  have HW11 := Lib.hid (show Below w9.heap.size w9 w11 by ((with_reducible (repeat (first | exact bR _ _ | refine bS ?_ ?_ _ | refine bA ?_ ?_ _ | refine bD ?_ | refine bT ?_ (by assumption) ?_ | refine bO (by assumption) ?_ ?_))) <;> (first | omega | (simp; done) | (simp <;> omega))))
  have HRI := Lib.hid (show IsC w11 (.agg #[.bool (decide (zri < 0)), .slice A11 (canN zri.natAbs).length c11]) zri from ⟨A11, c11, rfl, hc11, hA11⟩)
  replace HA := Lib.hid (HA.out.below HW11.out)
  replace HB0 := Lib.hid (HB0.out.below HW11.out)
  replace HC0 := Lib.hid (HC0.out.below HW11.out)
  replace HAB := Lib.hid (HAB.out.below HW11.out)
  replace HBC := Lib.hid (HBC.out.below HW11.out)
  replace HLE := Lib.hid (HLE.out.below HW11.out)
  have hz11 : w.heap.size ≤ w11.heap.size := by omega
  replace HB := Lib.hid (HB.out.trans (HW11.out.mono (by omega)))
  clear hb_w11 HW11 hc11 hA11 hb_w10
  go_wp2_with fail
  -- own blocks besides: w11.heap.size:2
  (go_at_call 29; refine (plain_any _ _ _ _ 0 true _).mono ?_; rintro e w12 ⟨rfl, hb_w12⟩; have hz_w12 := hb_w12.size; (try simp at hz_w12); (with_reducible apply cel2 (b := w.heap.size) hb_w12); (focus ((try simp) <;> omega)); (focus omega); (focus (go_simp; try exact rfl)); (focus (go_simp; try exact rfl)); (focus (intro o; go_simp)); intro cc cc fz hl; (with_reducible apply cel2 (b := w.heap.size + 1) hb_w12); (focus ((try simp) <;> omega)); (focus omega); (focus (go_simp; try exact rfl)); (focus (go_simp; try exact rfl)); (focus (intro o; go_simp)); intro cc cc fz hl; (with_reducible apply cel2 (b := w.heap.size + 1 + 1) hb_w12); (focus ((try simp) <;> omega)); (focus omega); (focus (go_simp; try exact rfl)); (focus (go_simp; try exact rfl)); (focus (intro o; go_simp)); intro cc cc fz hl; (with_reducible apply cel2 (b := w5.heap.size) hb_w12); (focus ((try simp) <;> omega)); (focus omega); (focus (go_simp; try exact rfl)); (focus (go_simp; try exact rfl)); (focus (intro o; go_simp)); intro cc cc fz hl; (with_reducible apply cel2 (b := w7.heap.size) hb_w12); (focus ((try simp) <;> omega)); (focus omega); (focus (go_simp; try exact rfl)); (focus (go_simp; try exact rfl)); (focus (intro o; go_simp)); intro cc cc fz hl; (with_reducible apply cel2 (b := w9.heap.size) hb_w12); (focus ((try simp) <;> omega)); (focus omega); (focus (go_simp; try exact rfl)); (focus (go_simp; try exact rfl)); (focus (intro o; go_simp)); intro cc cc fz hl; (with_reducible apply cel2 (b := w11.heap.size) hb_w12); (focus ((try simp) <;> omega)); (focus omega); (focus (go_simp; try exact rfl)); (focus (go_simp; try exact rfl)); (focus (intro o; go_simp)); intro cc cc fz hl)
  have hz12 : w.heap.size ≤ w12.heap.size := by omega
  go_wp2_with fail
  (go_at_call 23; refine (K5.out _ _ _ (HA.out.below (by ((with_reducible (repeat (first | exact bR _ _ | refine bS ?_ ?_ _ | refine bA ?_ ?_ _ | refine bD ?_ | refine bT ?_ (by assumption) ?_ | refine bO (by assumption) ?_ ?_))) <;> (first | omega | (simp; done) | (simp <;> omega))))) (HB0.out.below (by ((with_reducible (repeat (first | exact bR _ _ | refine bS ?_ ?_ _ | refine bA ?_ ?_ _ | refine bD ?_ | refine bT ?_ (by assumption) ?_ | refine bO (by assumption) ?_ ?_))) <;> (first | omega | (simp; done) | (simp <;> omega)))))).mono ?_; rintro e w13 ⟨hb_w13, A13, c13, rfl, hc13, hA13⟩; have hz_w13 := hb_w13.size; (try simp at hz_w13); (with_reducible apply cel2 (b := w.heap.size) hb_w13); (focus ((try simp) <;> omega)); (focus omega); (focus (go_simp; try exact rfl)); (focus (go_simp; try exact rfl)); (focus (intro o; go_simp)); intro cc cc fz hl; (with_reducible apply cel2 (b := w.heap.size + 1) hb_w13); (focus ((try simp) <;> omega)); (focus omega); (focus (go_simp; try exact rfl)); (focus (go_simp; try exact rfl)); (focus (intro o; go_simp)); intro cc cc fz hl; (with_reducible apply cel2 (b := w.heap.size + 1 + 1) hb_w13); (focus ((try simp) <;> omega)); (focus omega); (focus (go_simp; try exact rfl)); (focus (go_simp; try exact rfl)); (focus (intro o; go_simp)); intro cc cc fz hl; (with_reducible apply cel2 (b := w5.heap.size) hb_w13); (focus ((try simp) <;> omega)); (focus omega); (focus (go_simp; try exact rfl)); (focus (go_simp; try exact rfl)); (focus (intro o; go_simp)); intro cc cc fz hl; (with_reducible apply cel2 (b := w7.heap.size) hb_w13); (focus ((try simp) <;> omega)); (focus omega); (focus (go_simp; try exact rfl)); (focus (go_simp; try exact rfl)); (focus (intro o; go_simp)); intro cc cc fz hl; (with_reducible apply cel2 (b := w9.heap.size) hb_w13); (focus ((try simp) <;> omega)); (focus omega); (focus (go_simp; try exact rfl)); (focus (go_simp; try exact rfl)); (focus (intro o; go_simp)); intro cc cc fz hl; (with_reducible apply cel2 (b := w11.heap.size) hb_w13); (focus ((try simp) <;> omega)); (focus omega); (focus (go_simp; try exact rfl)); (focus (go_simp; try exact rfl)); (focus (intro o; go_simp)); intro cc cc fz hl)
  have HW13 := Lib.hid (show Below w11.heap.size w11 w13 by ((with_reducible (repeat (first | exact bR _ _ | refine bS ?_ ?_ _ | refine bA ?_ ?_ _ | refine bD ?_ | refine bT ?_ (by assumption) ?_ | refine bO (by assumption) ?_ ?_))) <;> (first | omega | (simp; done) | (simp <;> omega))))
  have HPA := Lib.hid (show IsC w13 (.agg #[.bool (decide (zpa < 0)), .slice A13 (canN zpa.natAbs).length c13]) zpa from ⟨A13, c13, rfl, hc13, hA13⟩)
  replace HA := Lib.hid (HA.out.below HW13.out)
  replace HB0 := Lib.hid (HB0.out.below HW13.out)
  replace HC0 := Lib.hid (HC0.out.below HW13.out)
  replace HAB := Lib.hid (HAB.out.below HW13.out)
  replace HBC := Lib.hid (HBC.out.below HW13.out)
  replace HLE := Lib.hid (HLE.out.below HW13.out)
  replace HRI := Lib.hid (HRI.out.below HW13.out)
  have hz13 : w.heap.size ≤ w13.heap.size := by omega
  replace HB := Lib.hid (HB.out.trans (HW13.out.mono (by omega)))
  clear hb_w13 HW13 hc13 hA13 hb_w12
  go_wp2_with fail
  -- own blocks besides: w13.heap.size:2
  (go_at_call 29; refine (plain_any _ _ _ _ 0 true _).mono ?_; rintro e w14 ⟨rfl, hb_w14⟩; have hz_w14 := hb_w14.size; (try simp at hz_w14); (with_reducible apply cel2 (b := w.heap.size) hb_w14); (focus ((try simp) <;> omega)); (focus omega); (focus (go_simp; try exact rfl)); (focus (go_simp; try exact rfl)); (focus (intro o; go_simp)); intro cc cc fz hl; (with_reducible apply cel2 (b := w.heap.size + 1) hb_w14); (focus ((try simp) <;> omega)); (focus omega); (focus (go_simp; try exact rfl)); (focus (go_simp; try exact rfl)); (focus (intro o; go_simp)); intro cc cc fz hl; (with_reducible apply cel2 (b := w.heap.size + 1 + 1) hb_w14); (focus ((try simp) <;> omega)); (focus omega); (focus (go_simp; try exact rfl)); (focus (go_simp; try exact rfl)); (focus (intro o; go_simp)); intro cc cc fz hl; (with_reducible apply cel2 (b := w5.heap.size) hb_w14); (focus ((try simp) <;> omega)); (focus omega); (focus (go_simp; try exact rfl)); (focus (go_simp; try exact rfl)); (focus (intro o; go_simp)); intro cc cc fz hl; (with_reducible apply cel2 (b := w7.heap.size) hb_w14); (focus ((try simp) <;> omega)); (focus omega); (focus (go_simp; try exact rfl)); (focus (go_simp; try exact rfl)); (focus (intro o; go_simp)); intro cc cc fz hl; (with_reducible apply cel2 (b := w9.heap.size) hb_w14); (focus ((try simp) <;> omega)); (focus omega); (focus (go_simp; try exact rfl)); (focus (go_simp; try exact rfl)); (focus (intro o; go_simp)); intro cc cc fz hl; (with_reducible apply cel2 (b := w11.heap.size) hb_w14); (focus ((try simp) <;> omega)); (focus omega); (focus (go_simp; try exact rfl)); (focus (go_simp; try exact rfl)); (focus (intro o; go_simp)); intro cc cc fz hl; (with_reducible apply cel2 (b := w13.heap.size) hb_w14); (focus ((try simp) <;> omega)); (focus omega); (focus (go_simp; try exact rfl)); (focus (go_simp; try exact rfl)); (focus (intro o; go_simp)); intro cc cc fz hl)
  have hz14 : w.heap.size ≤ w14.heap.size := by omega
  go_wp2_with fail
  (go_at_call 23; refine (K6.out _ _ _ (HB0.out.below (by ((with_reducible (repeat (first | exact bR _ _ | refine bS ?_ ?_ _ | refine bA ?_ ?_ _ | refine bD ?_ | refine bT ?_ (by assumption) ?_ | refine bO (by assumption) ?_ ?_))) <;> (first | omega | (simp; done) | (simp <;> omega))))) (HA.out.below (by ((with_reducible (repeat (first | exact bR _ _ | refine bS ?_ ?_ _ | refine bA ?_ ?_ _ | refine bD ?_ | refine bT ?_ (by assumption) ?_ | refine bO (by assumption) ?_ ?_))) <;> (first | omega | (simp; done) | (simp <;> omega)))))).mono ?_; rintro e w15 ⟨hb_w15, A15, c15, rfl, hc15, hA15⟩; have hz_w15 := hb_w15.size; (try simp at hz_w15); (with_reducible apply cel2 (b := w.heap.size) hb_w15); (focus ((try simp) <;> omega)); (focus omega); (focus (go_simp; try exact rfl)); (focus (go_simp; try exact rfl)); (focus (intro o; go_simp)); intro cc cc fz hl; (with_reducible apply cel2 (b := w.heap.size + 1) hb_w15); (focus ((try simp) <;> omega)); (focus omega); (focus (go_simp; try exact rfl)); (focus (go_simp; try exact rfl)); (focus (intro o; go_simp)); intro cc cc fz hl; (with_reducible apply cel2 (b := w.heap.size + 1 + 1) hb_w15); (focus ((try simp) <;> omega)); (focus omega); (focus (go_simp; try exact rfl)); (focus (go_simp; try exact rfl)); (focus (intro o; go_simp)); intro cc cc fz hl; (with_reducible apply cel2 (b := w5.heap.size) hb_w15); (focus ((try simp) <;> omega)); (focus omega); (focus (go_simp; try exact rfl)); (focus (go_simp; try exact rfl)); (focus (intro o; go_simp)); intro cc cc fz hl; (with_reducible apply cel2 (b := w7.heap.size) hb_w15); (focus ((try simp) <;> omega)); (focus omega); (focus (go_simp; try exact rfl)); (focus (go_simp; try exact rfl)); (focus (intro o; go_simp)); intro cc cc fz hl; (with_reducible apply cel2 (b := w9.heap.size) hb_w15); (focus ((try simp) <;> omega)); (focus omega); (focus (go_simp; try exact rfl)); (focus (go_simp; try exact rfl)); (focus (intro o; go_simp)); intro cc cc fz hl; (with_reducible apply cel2 (b := w11.heap.size) hb_w15); (focus ((try simp) <;> omega)); (focus omega); (focus (go_simp; try exact rfl)); (focus (go_simp; try exact rfl)); (focus (intro o; go_simp)); intro cc cc fz hl; (with_reducible apply cel2 (b := w13.heap.size) hb_w15); (focus ((try simp) <;> omega)); (focus omega); (focus (go_simp; try exact rfl)); (focus (go_simp; try exact rfl)); (focus (intro o; go_simp)); intro cc cc fz hl)
  have HW15 := Lib.hid (show Below w13.heap.size w13 w15 by ((with_reducible (repeat (first | exact bR _ _ | refine bS ?_ ?_ _ | refine bA ?_ ?_ _ | refine bD ?_ | refine bT ?_ (by assumption) ?_ | refine bO (by assumption) ?_ ?_))) <;> (first | omega | (simp; done) | (simp <;> omega))))
  have HPB := Lib.hid (show IsC w15 (.agg #[.bool (decide (zpb < 0)), .slice A15 (canN zpb.natAbs).length c15]) zpb from ⟨A15, c15, rfl, hc15, hA15⟩)
  replace HA := Lib.hid (HA.out.below HW15.out)
  replace HB0 := Lib.hid (HB0.out.below HW15.out)
  replace HC0 := Lib.hid (HC0.out.below HW15.out)
  replace HAB := Lib.hid (HAB.out.below HW15.out)
  replace HBC := Lib.hid (HBC.out.below HW15.out)
  replace HLE := Lib.hid (HLE.out.below HW15.out)
  replace HRI := Lib.hid (HRI.out.below HW15.out)
  replace HPA := Lib.hid (HPA.out.below HW15.out)
  have hz15 : w.heap.size ≤ w15.heap.size := by omega
  replace HB := Lib.hid (HB.out.trans (HW15.out.mono (by omega)))
  clear hb_w15 HW15 hc15 hA15 hb_w14
  go_wp2_with fail
  -- own blocks besides: w15.heap.size:2
  (go_at_call 29; refine (plain_any _ _ _ _ 0 true _).mono ?_; rintro e w16 ⟨rfl, hb_w16⟩; have hz_w16 := hb_w16.size; (try simp at hz_w16); (with_reducible apply cel2 (b := w.heap.size) hb_w16); (focus ((try simp) <;> omega)); (focus omega); (focus (go_simp; try exact rfl)); (focus (go_simp; try exact rfl)); (focus (intro o; go_simp)); intro cc cc fz hl; (with_reducible apply cel2 (b := w.heap.size + 1) hb_w16); (focus ((try simp) <;> omega)); (focus omega); (focus (go_simp; try exact rfl)); (focus (go_simp; try exact rfl)); (focus (intro o; go_simp)); intro cc cc fz hl; (with_reducible apply cel2 (b := w.heap.size + 1 + 1) hb_w16); (focus ((try simp) <;> omega)); (focus omega); (focus (go_simp; try exact rfl)); (focus (go_simp; try exact rfl)); (focus (intro o; go_simp)); intro cc cc fz hl; (with_reducible apply cel2 (b := w5.heap.size) hb_w16); (focus ((try simp) <;> omega)); (focus omega); (focus (go_simp; try exact rfl)); (focus (go_simp; try exact rfl)); (focus (intro o; go_simp)); intro cc cc fz hl; (with_reducible apply cel2 (b := w7.heap.size) hb_w16); (focus ((try simp) <;> omega)); (focus omega); (focus (go_simp; try exact rfl)); (focus (go_simp; try exact rfl)); (focus (intro o; go_simp)); intro cc cc fz hl; (with_reducible apply cel2 (b := w9.heap.size) hb_w16); (focus ((try simp) <;> omega)); (focus omega); (focus (go_simp; try exact rfl)); (focus (go_simp; try exact rfl)); (focus (intro o; go_simp)); intro cc cc fz hl; (with_reducible apply cel2 (b := w11.heap.size) hb_w16); (focus ((try simp) <;> omega)); (focus omega); (focus (go_simp; try exact rfl)); (focus (go_simp; try exact rfl)); (focus (intro o; go_simp)); intro cc cc fz hl; (with_reducible apply cel2 (b := w13.heap.size) hb_w16); (focus ((try simp) <;> omega)); (focus omega); (focus (go_simp; try exact rfl)); (focus (go_simp; try exact rfl)); (focus (intro o; go_simp)); intro cc cc fz hl; (with_reducible apply cel2 (b := w15.heap.size) hb_w16); (focus ((try simp) <;> omega)); (focus omega); (focus (go_simp; try exact rfl)); (focus (go_simp; try exact rfl)); (focus (intro o; go_simp)); intro cc cc fz hl)
  have hz16 : w.heap.size ≤ w16.heap.size := by omega
  go_wp2_with fail
  (go_at_call 23; refine (K7.out _ _ _ (HA.out.below (by ((with_reducible (repeat (first | exact bR _ _ | refine bS ?_ ?_ _ | refine bA ?_ ?_ _ | refine bD ?_ | refine bT ?_ (by assumption) ?_ | refine bO (by assumption) ?_ ?_))) <;> (first | omega | (simp; done) | (simp <;> omega))))) (HC0.out.below (by ((with_reducible (repeat (first | exact bR _ _ | refine bS ?_ ?_ _ | refine bA ?_ ?_ _ | refine bD ?_ | refine bT ?_ (by assumption) ?_ | refine bO (by assumption) ?_ ?_))) <;> (first | omega | (simp; done) | (simp <;> omega)))))).mono ?_; rintro e w17 ⟨hb_w17, A17, c17, rfl, hc17, hA17⟩; have hz_w17 := hb_w17.size; (try simp at hz_w17); (with_reducible apply cel2 (b := w.heap.size) hb_w17); (focus ((try simp) <;> omega)); (focus omega); (focus (go_simp; try exact rfl)); (focus (go_simp; try exact rfl)); (focus (intro o; go_simp)); intro cc cc fz hl; (with_reducible apply cel2 (b := w.heap.size + 1) hb_w17); (focus ((try simp) <;> omega)); (focus omega); (focus (go_simp; try exact rfl)); (focus (go_simp; try exact rfl)); (focus (intro o; go_simp)); intro cc cc fz hl; (with_reducible apply cel2 (b := w.heap.size + 1 + 1) hb_w17); (focus ((try simp) <;> omega)); (focus omega); (focus (go_simp; try exact rfl)); (focus (go_simp; try exact rfl)); (focus (intro o; go_simp)); intro cc cc fz hl; (with_reducible apply cel2 (b := w5.heap.size) hb_w17); (focus ((try simp) <;> omega)); (focus omega); (focus (go_simp; try exact rfl)); (focus (go_simp; try exact rfl)); (focus (intro o; go_simp)); intro cc cc fz hl; (with_reducible apply cel2 (b := w7.heap.size) hb_w17); (focus ((try simp) <;> omega)); (focus omega); (focus (go_simp; try exact rfl)); (focus (go_simp; try exact rfl)); (focus (intro o; go_simp)); intro cc cc fz hl; (with_reducible apply cel2 (b := w9.heap.size) hb_w17); (focus ((try simp) <;> omega)); (focus omega); (focus (go_simp; try exact rfl)); (focus (go_simp; try exact rfl)); (focus (intro o; go_simp)); intro cc cc fz hl; (with_reducible apply cel2 (b := w11.heap.size) hb_w17); (focus ((try simp) <;> omega)); (focus omega); (focus (go_simp; try exact rfl)); (focus (go_simp; try exact rfl)); (focus (intro o; go_simp)); intro cc cc fz hl; (with_reducible apply cel2 (b := w13.heap.size) hb_w17); (focus ((try simp) <;> omega)); (focus omega); (focus (go_simp; try exact rfl)); (focus (go_simp; try exact rfl)); (focus (intro o; go_simp)); intro cc cc fz hl; (with_reducible apply cel2 (b := w15.heap.size) hb_w17); (focus ((try simp) <;> omega)); (focus omega); (focus (go_simp; try exact rfl)); (focus (go_simp; try exact rfl)); (focus (intro o; go_simp)); intro cc cc fz hl)
  have HW17 := Lib.hid (show Below w15.heap.size w15 w17 by ((with_reducible (repeat (first | exact bR _ _ | refine bS ?_ ?_ _ | refine bA ?_ ?_ _ | refine bD ?_ | refine bT ?_ (by assumption) ?_ | refine bO (by assumption) ?_ ?_))) <;> (first | omega | (simp; done) | (simp <;> omega))))
  have HPC := Lib.hid (show IsC w17 (.agg #[.bool (decide (zpc < 0)), .slice A17 (canN zpc.natAbs).length c17]) zpc from ⟨A17, c17, rfl, hc17, hA17⟩)
  replace HA := Lib.hid (HA.out.below HW17.out)
  replace HB0 := Lib.hid (HB0.out.below HW17.out)
  replace HC0 := Lib.hid (HC0.out.below HW17.out)
  replace HAB := Lib.hid (HAB.out.below HW17.out)
  replace HBC := Lib.hid (HBC.out.below HW17.out)
  replace HLE := Lib.hid (HLE.out.below HW17.out)
  replace HRI := Lib.hid (HRI.out.below HW17.out)
  replace HPA := Lib.hid (HPA.out.below HW17.out)
  replace HPB := Lib.hid (HPB.out.below HW17.out)
  have hz17 : w.heap.size ≤ w17.heap.size := by omega
  replace HB := Lib.hid (HB.out.trans (HW17.out.mono (by omega)))
  clear hb_w17 HW17 hc17 hA17 hb_w16
  go_wp2_with fail
  -- own blocks besides: w17.heap.size:2
  (go_at_call 29; refine (plain_any _ _ _ _ 0 true _).mono ?_; rintro e w18 ⟨rfl, hb_w18⟩; have hz_w18 := hb_w18.size; (try simp at hz_w18); (with_reducible apply cel2 (b := w.heap.size) hb_w18); (focus ((try simp) <;> omega)); (focus omega); (focus (go_simp; try exact rfl)); (focus (go_simp; try exact rfl)); (focus (intro o; go_simp)); intro cc cc fz hl; (with_reducible apply cel2 (b := w.heap.size + 1) hb_w18); (focus ((try simp) <;> omega)); (focus omega); (focus (go_simp; try exact rfl)); (focus (go_simp; try exact rfl)); (focus (intro o; go_simp)); intro cc cc fz hl; (with_reducible apply cel2 (b := w.heap.size + 1 + 1) hb_w18); (focus ((try simp) <;> omega)); (focus omega); (focus (go_simp; try exact rfl)); (focus (go_simp; try exact rfl)); (focus (intro o; go_simp)); intro cc cc fz hl; (with_reducible apply cel2 (b := w5.heap.size) hb_w18); (focus ((try simp) <;> omega)); (focus omega); (focus (go_simp; try exact rfl)); (focus (go_simp; try exact rfl)); (focus (intro o; go_simp)); intro cc cc fz hl; (with_reducible apply cel2 (b := w7.heap.size) hb_w18); (focus ((try simp) <;> omega)); (focus omega); (focus (go_simp; try exact rfl)); (focus (go_simp; try exact rfl)); (focus (intro o; go_simp)); intro cc cc fz hl; (with_reducible apply cel2 (b := w9.heap.size) hb_w18); (focus ((try simp) <;> omega)); (focus omega); (focus (go_simp; try exact rfl)); (focus (go_simp; try exact rfl)); (focus (intro o; go_simp)); intro cc cc fz hl; (with_reducible apply cel2 (b := w11.heap.size) hb_w18); (focus ((try simp) <;> omega)); (focus omega); (focus (go_simp; try exact rfl)); (focus (go_simp; try exact rfl)); (focus (intro o; go_simp)); intro cc cc fz hl; (with_reducible apply cel2 (b := w13.heap.size) hb_w18); (focus ((try simp) <;> omega)); (focus omega); (focus (go_simp; try exact rfl)); (focus (go_simp; try exact rfl)); (focus (intro o; go_simp)); intro cc cc fz hl; (with_reducible apply cel2 (b := w15.heap.size) hb_w18); (focus ((try simp) <;> omega)); (focus omega); (focus (go_simp; try exact rfl)); (focus (go_simp; try exact rfl)); (focus (intro o; go_simp)); intro cc cc fz hl; (with_reducible apply cel2 (b := w17.heap.size) hb_w18); (focus ((try simp) <;> omega)); (focus omega); (focus (go_simp; try exact rfl)); (focus (go_simp; try exact rfl)); (focus (intro o; go_simp)); intro cc cc fz hl)
  have hz18 : w.heap.size ≤ w18.heap.size := by omega
  go_wp2_with fail
  (go_at_call 23; refine (K8.out _ _ _ (HA.out.below (by ((with_reducible (repeat (first | exact bR _ _ | refine bS ?_ ?_ _ | refine bA ?_ ?_ _ | refine bD ?_ | refine bT ?_ (by assumption) ?_ | refine bO (by assumption) ?_ ?_))) <;> (first | omega | (simp; done) | (simp <;> omega))))) ((HBC.out.below (by ((with_reducible (repeat (first | exact bR _ _ | refine bS ?_ ?_ _ | refine bA ?_ ?_ _ | refine bD ?_ | refine bT ?_ (by assumption) ?_ | refine bO (by assumption) ?_ ?_))) <;> (first | omega | (simp; done) | (simp <;> omega))))).zl lbc)).mono ?_; rintro e w19 ⟨hb_w19, A19, c19, rfl, hc19, hA19⟩; have hz_w19 := hb_w19.size; (try simp at hz_w19); (with_reducible apply cel2 (b := w.heap.size) hb_w19); (focus ((try simp) <;> omega)); (focus omega); (focus (go_simp; try exact rfl)); (focus (go_simp; try exact rfl)); (focus (intro o; go_simp)); intro cc cc fz hl; (with_reducible apply cel2 (b := w.heap.size + 1) hb_w19); (focus ((try simp) <;> omega)); (focus omega); (focus (go_simp; try exact rfl)); (focus (go_simp; try exact rfl)); (focus (intro o; go_simp)); intro cc cc fz hl; (with_reducible apply cel2 (b := w.heap.size + 1 + 1) hb_w19); (focus ((try simp) <;> omega)); (focus omega); (focus (go_simp; try exact rfl)); (focus (go_simp; try exact rfl)); (focus (intro o; go_simp)); intro cc cc fz hl; (with_reducible apply cel2 (b := w5.heap.size) hb_w19); (focus ((try simp) <;> omega)); (focus omega); (focus (go_simp; try exact rfl)); (focus (go_simp; try exact rfl)); (focus (intro o; go_simp)); intro cc cc fz hl; (with_reducible apply cel2 (b := w7.heap.size) hb_w19); (focus ((try simp) <;> omega)); (focus omega); (focus (go_simp; try exact rfl)); (focus (go_simp; try exact rfl)); (focus (intro o; go_simp)); intro cc cc fz hl; (with_reducible apply cel2 (b := w9.heap.size) hb_w19); (focus ((try simp) <;> omega)); (focus omega); (focus (go_simp; try exact rfl)); (focus (go_simp; try exact rfl)); (focus (intro o; go_simp)); intro cc cc fz hl; (with_reducible apply cel2 (b := w11.heap.size) hb_w19); (focus ((try simp) <;> omega)); (focus omega); (focus (go_simp; try exact rfl)); (focus (go_simp; try exact rfl)); (focus (intro o; go_simp)); intro cc cc fz hl; (with_reducible apply cel2 (b := w13.heap.size) hb_w19); (focus ((try simp) <;> omega)); (focus omega); (focus (go_simp; try exact rfl)); (focus (go_simp; try exact rfl)); (focus (intro o; go_simp)); intro cc cc fz hl; (with_reducible apply cel2 (b := w15.heap.size) hb_w19); (focus ((try simp) <;> omega)); (focus omega); (focus (go_simp; try exact rfl)); (focus (go_simp; try exact rfl)); (focus (intro o; go_simp)); intro cc cc fz hl; (with_reducible apply cel2 (b := w17.heap.size) hb_w19); (focus ((try simp) <;> omega)); (focus omega); (focus (go_simp; try exact rfl)); (focus (go_simp; try exact rfl)); (focus (intro o; go_simp)); intro cc cc fz hl)
  have HW19 := Lib.hid (show Below w17.heap.size w17 w19 by ((with_reducible (repeat (first | exact bR _ _ | refine bS ?_ ?_ _ | refine bA ?_ ?_ _ | refine bD ?_ | refine bT ?_ (by assumption) ?_ | refine bO (by assumption) ?_ ?_))) <;> (first | omega | (simp; done) | (simp <;> omega))))
  have HON := Lib.hid (show IsC w19 (.agg #[.bool (decide (zon < 0)), .slice A19 (canN zon.natAbs).length c19]) zon from ⟨A19, c19, rfl, hc19, hA19⟩)
  replace HA := Lib.hid (HA.out.below HW19.out)
  replace HB0 := Lib.hid (HB0.out.below HW19.out)
  replace HC0 := Lib.hid (HC0.out.below HW19.out)
  replace HAB := Lib.hid (HAB.out.below HW19.out)
  replace HBC := Lib.hid (HBC.out.below HW19.out)
  replace HLE := Lib.hid (HLE.out.below HW19.out)
  replace HRI := Lib.hid (HRI.out.below HW19.out)
  replace HPA := Lib.hid (HPA.out.below HW19.out)
  replace HPB := Lib.hid (HPB.out.below HW19.out)
  replace HPC := Lib.hid (HPC.out.below HW19.out)
  have hz19 : w.heap.size ≤ w19.heap.size := by omega
  replace HB := Lib.hid (HB.out.trans (HW19.out.mono (by omega)))
  clear hb_w19 HW19 hc19 hA19 hb_w18
  go_wp2_with fail
  -- own blocks besides: w19.heap.size:2
  (go_at_call 29; refine (plain_any _ _ _ _ 0 true _).mono ?_; rintro e w20 ⟨rfl, hb_w20⟩; have hz_w20 := hb_w20.size; (try simp at hz_w20); (with_reducible apply cel2 (b := w.heap.size) hb_w20); (focus ((try simp) <;> omega)); (focus omega); (focus (go_simp; try exact rfl)); (focus (go_simp; try exact rfl)); (focus (intro o; go_simp)); intro cc cc fz hl; (with_reducible apply cel2 (b := w.heap.size + 1) hb_w20); (focus ((try simp) <;> omega)); (focus omega); (focus (go_simp; try exact rfl)); (focus (go_simp; try exact rfl)); (focus (intro o; go_simp)); intro cc cc fz hl; (with_reducible apply cel2 (b := w.heap.size + 1 + 1) hb_w20); (focus ((try simp) <;> omega)); (focus omega); (focus (go_simp; try exact rfl)); (focus (go_simp; try exact rfl)); (focus (intro o; go_simp)); intro cc cc fz hl; (with_reducible apply cel2 (b := w5.heap.size) hb_w20); (focus ((try simp) <;> omega)); (focus omega); (focus (go_simp; try exact rfl)); (focus (go_simp; try exact rfl)); (focus (intro o; go_simp)); intro cc cc fz hl; (with_reducible apply cel2 (b := w7.heap.size) hb_w20); (focus ((try simp) <;> omega)); (focus omega); (focus (go_simp; try exact rfl)); (focus (go_simp; try exact rfl)); (focus (intro o; go_simp)); intro cc cc fz hl; (with_reducible apply cel2 (b := w9.heap.size) hb_w20); (focus ((try simp) <;> omega)); (focus omega); (focus (go_simp; try exact rfl)); (focus (go_simp; try exact rfl)); (focus (intro o; go_simp)); intro cc cc fz hl; (with_reducible apply cel2 (b := w11.heap.size) hb_w20); (focus ((try simp) <;> omega)); (focus omega); (focus (go_simp; try exact rfl)); (focus (go_simp; try exact rfl)); (focus (intro o; go_simp)); intro cc cc fz hl; (with_reducible apply cel2 (b := w13.heap.size) hb_w20); (focus ((try simp) <;> omega)); (focus omega); (focus (go_simp; try exact rfl)); (focus (go_simp; try exact rfl)); (focus (intro o; go_simp)); intro cc cc fz hl; (with_reducible apply cel2 (b := w15.heap.size) hb_w20); (focus ((try simp) <;> omega)); (focus omega); (focus (go_simp; try exact rfl)); (focus (go_simp; try exact rfl)); (focus (intro o; go_simp)); intro cc cc fz hl; (with_reducible apply cel2 (b := w17.heap.size) hb_w20); (focus ((try simp) <;> omega)); (focus omega); (focus (go_simp; try exact rfl)); (focus (go_simp; try exact rfl)); (focus (intro o; go_simp)); intro cc cc fz hl; (with_reducible apply cel2 (b := w19.heap.size) hb_w20); (focus ((try simp) <;> omega)); (focus omega); (focus (go_simp; try exact rfl)); (focus (go_simp; try exact rfl)); (focus (intro o; go_simp)); intro cc cc fz hl)
  have hz20 : w.heap.size ≤ w20.heap.size := by omega
  go_wp2_with fail
  (go_at_call 24; refine (K9.out _ _ _ ((HPA.out.below (by ((with_reducible (repeat (first | exact bR _ _ | refine bS ?_ ?_ _ | refine bA ?_ ?_ _ | refine bD ?_ | refine bT ?_ (by assumption) ?_ | refine bO (by assumption) ?_ ?_))) <;> (first | omega | (simp; done) | (simp <;> omega))))).zl lpa) ((HPC.out.below (by ((with_reducible (repeat (first | exact bR _ _ | refine bS ?_ ?_ _ | refine bA ?_ ?_ _ | refine bD ?_ | refine bT ?_ (by assumption) ?_ | refine bO (by assumption) ?_ ?_))) <;> (first | omega | (simp; done) | (simp <;> omega))))).zl lpc)).mono ?_; rintro e w21 ⟨hb_w21, A21, c21, rfl, hc21, hA21⟩; have hz_w21 := hb_w21.size; (try simp at hz_w21); (with_reducible apply cel2 (b := w.heap.size) hb_w21); (focus ((try simp) <;> omega)); (focus omega); (focus (go_simp; try exact rfl)); (focus (go_simp; try exact rfl)); (focus (intro o; go_simp)); intro cc cc fz hl; (with_reducible apply cel2 (b := w.heap.size + 1) hb_w21); (focus ((try simp) <;> omega)); (focus omega); (focus (go_simp; try exact rfl)); (focus (go_simp; try exact rfl)); (focus (intro o; go_simp)); intro cc cc fz hl; (with_reducible apply cel2 (b := w.heap.size + 1 + 1) hb_w21); (focus ((try simp) <;> omega)); (focus omega); (focus (go_simp; try exact rfl)); (focus (go_simp; try exact rfl)); (focus (intro o; go_simp)); intro cc cc fz hl; (with_reducible apply cel2 (b := w5.heap.size) hb_w21); (focus ((try simp) <;> omega)); (focus omega); (focus (go_simp; try exact rfl)); (focus (go_simp; try exact rfl)); (focus (intro o; go_simp)); intro cc cc fz hl; (with_reducible apply cel2 (b := w7.heap.size) hb_w21); (focus ((try simp) <;> omega)); (focus omega); (focus (go_simp; try exact rfl)); (focus (go_simp; try exact rfl)); (focus (intro o; go_simp)); intro cc cc fz hl; (with_reducible apply cel2 (b := w9.heap.size) hb_w21); (focus ((try simp) <;> omega)); (focus omega); (focus (go_simp; try exact rfl)); (focus (go_simp; try exact rfl)); (focus (intro o; go_simp)); intro cc cc fz hl; (with_reducible apply cel2 (b := w11.heap.size) hb_w21); (focus ((try simp) <;> omega)); (focus omega); (focus (go_simp; try exact rfl)); (focus (go_simp; try exact rfl)); (focus (intro o; go_simp)); intro cc cc fz hl; (with_reducible apply cel2 (b := w13.heap.size) hb_w21); (focus ((try simp) <;> omega)); (focus omega); (focus (go_simp; try exact rfl)); (focus (go_simp; try exact rfl)); (focus (intro o; go_simp)); intro cc cc fz hl; (with_reducible apply cel2 (b := w15.heap.size) hb_w21); (focus ((try simp) <;> omega)); (focus omega); (focus (go_simp; try exact rfl)); (focus (go_simp; try exact rfl)); (focus (intro o; go_simp)); intro cc cc fz hl; (with_reducible apply cel2 (b := w17.heap.size) hb_w21); (focus ((try simp) <;> omega)); (focus omega); (focus (go_simp; try exact rfl)); (focus (go_simp; try exact rfl)); (focus (intro o; go_simp)); intro cc cc fz hl; (with_reducible apply cel2 (b := w19.heap.size) hb_w21); (focus ((try simp) <;> omega)); (focus omega); (focus (go_simp; try exact rfl)); (focus (go_simp; try exact rfl)); (focus (intro o; go_simp)); intro cc cc fz hl)
  have HW21 := Lib.hid (show Below w19.heap.size w19 w21 by ((with_reducible (repeat (first | exact bR _ _ | refine bS ?_ ?_ _ | refine bA ?_ ?_ _ | refine bD ?_ | refine bT ?_ (by assumption) ?_ | refine bO (by assumption) ?_ ?_))) <;> (first | omega | (simp; done) | (simp <;> omega))))
  have HTW := Lib.hid (show IsC w21 (.agg #[.bool (decide (ztw < 0)), .slice A21 (canN ztw.natAbs).length c21]) ztw from ⟨A21, c21, rfl, hc21, hA21⟩)
  replace HA := Lib.hid (HA.out.below HW21.out)
  replace HB0 := Lib.hid (HB0.out.below HW21.out)
  replace HC0 := Lib.hid (HC0.out.below HW21.out)
  replace HAB := Lib.hid (HAB.out.below HW21.out)
  replace HBC := Lib.hid (HBC.out.below HW21.out)
  replace HLE := Lib.hid (HLE.out.below HW21.out)
  replace HRI := Lib.hid (HRI.out.below HW21.out)
  replace HPA := Lib.hid (HPA.out.below HW21.out)
  replace HPB := Lib.hid (HPB.out.below HW21.out)
  replace HPC := Lib.hid (HPC.out.below HW21.out)
  replace HON := Lib.hid (HON.out.below HW21.out)
  have hz21 : w.heap.size ≤ w21.heap.size := by omega
  replace HB := Lib.hid (HB.out.trans (HW21.out.mono (by omega)))
  clear hb_w21 HW21 hc21 hA21 hb_w20
  go_wp2_with fail
  -- own blocks besides: w21.heap.size:2
  (go_at_call 29; refine (plain_any _ _ _ _ 0 true _).mono ?_; rintro e w22 ⟨rfl, hb_w22⟩; have hz_w22 := hb_w22.size; (try simp at hz_w22); (with_reducible apply cel2 (b := w.heap.size) hb_w22); (focus ((try simp) <;> omega)); (focus omega); (focus (go_simp; try exact rfl)); (focus (go_simp; try exact rfl)); (focus (intro o; go_simp)); intro cc cc fz hl; (with_reducible apply cel2 (b := w.heap.size + 1) hb_w22); (focus ((try simp) <;> omega)); (focus omega); (focus (go_simp; try exact rfl)); (focus (go_simp; try exact rfl)); (focus (intro o; go_simp)); intro cc cc fz hl; (with_reducible apply cel2 (b := w.heap.size + 1 + 1) hb_w22); (focus ((try simp) <;> omega)); (focus omega); (focus (go_simp; try exact rfl)); (focus (go_simp; try exact rfl)); (focus (intro o; go_simp)); intro cc cc fz hl; (with_reducible apply cel2 (b := w5.heap.size) hb_w22); (focus ((try simp) <;> omega)); (focus omega); (focus (go_simp; try exact rfl)); (focus (go_simp; try exact rfl)); (focus (intro o; go_simp)); intro cc cc fz hl; (with_reducible apply cel2 (b := w7.heap.size) hb_w22); (focus ((try simp) <;> omega)); (focus omega); (focus (go_simp; try exact rfl)); (focus (go_simp; try exact rfl)); (focus (intro o; go_simp)); intro cc cc fz hl; (with_reducible apply cel2 (b := w9.heap.size) hb_w22); (focus ((try simp) <;> omega)); (focus omega); (focus (go_simp; try exact rfl)); (focus (go_simp; try exact rfl)); (focus (intro o; go_simp)); intro cc cc fz hl; (with_reducible apply cel2 (b := w11.heap.size) hb_w22); (focus ((try simp) <;> omega)); (focus omega); (focus (go_simp; try exact rfl)); (focus (go_simp; try exact rfl)); (focus (intro o; go_simp)); intro cc cc fz hl; (with_reducible apply cel2 (b := w13.heap.size) hb_w22); (focus ((try simp) <;> omega)); (focus omega); (focus (go_simp; try exact rfl)); (focus (go_simp; try exact rfl)); (focus (intro o; go_simp)); intro cc cc fz hl; (with_reducible apply cel2 (b := w15.heap.size) hb_w22); (focus ((try simp) <;> omega)); (focus omega); (focus (go_simp; try exact rfl)); (focus (go_simp; try exact rfl)); (focus (intro o; go_simp)); intro cc cc fz hl; (with_reducible apply cel2 (b := w17.heap.size) hb_w22); (focus ((try simp) <;> omega)); (focus omega); (focus (go_simp; try exact rfl)); (focus (go_simp; try exact rfl)); (focus (intro o; go_simp)); intro cc cc fz hl; (with_reducible apply cel2 (b := w19.heap.size) hb_w22); (focus ((try simp) <;> omega)); (focus omega); (focus (go_simp; try exact rfl)); (focus (go_simp; try exact rfl)); (focus (intro o; go_simp)); intro cc cc fz hl; (with_reducible apply cel2 (b := w21.heap.size) hb_w22); (focus ((try simp) <;> omega)); (focus omega); (focus (go_simp; try exact rfl)); (focus (go_simp; try exact rfl)); (focus (intro o; go_simp)); intro cc cc fz hl)
  have hz22 : w.heap.size ≤ w22.heap.size := by omega
  go_wp2_with fail
  (go_at_call 19; refine (K10.out _ _ _ ((HAB.out.below (by ((with_reducible (repeat (first | exact bR _ _ | refine bS ?_ ?_ _ | refine bA ?_ ?_ _ | refine bD ?_ | refine bT ?_ (by assumption) ?_ | refine bO (by assumption) ?_ ?_))) <;> (first | omega | (simp; done) | (simp <;> omega))))).zl lab) (HB0.out.below (by ((with_reducible (repeat (first | exact bR _ _ | refine bS ?_ ?_ _ | refine bA ?_ ?_ _ | refine bD ?_ | refine bT ?_ (by assumption) ?_ | refine bO (by assumption) ?_ ?_))) <;> (first | omega | (simp; done) | (simp <;> omega)))))).mono ?_; rintro e w23 ⟨hb_w23, A23, c23, rfl, hc23, hA23⟩; have hz_w23 := hb_w23.size; (try simp at hz_w23); (with_reducible apply cel2 (b := w.heap.size) hb_w23); (focus ((try simp) <;> omega)); (focus omega); (focus (go_simp; try exact rfl)); (focus (go_simp; try exact rfl)); (focus (intro o; go_simp)); intro cc cc fz hl; (with_reducible apply cel2 (b := w.heap.size + 1) hb_w23); (focus ((try simp) <;> omega)); (focus omega); (focus (go_simp; try exact rfl)); (focus (go_simp; try exact rfl)); (focus (intro o; go_simp)); intro cc cc fz hl; (with_reducible apply cel2 (b := w.heap.size + 1 + 1) hb_w23); (focus ((try simp) <;> omega)); (focus omega); (focus (go_simp; try exact rfl)); (focus (go_simp; try exact rfl)); (focus (intro o; go_simp)); intro cc cc fz hl; (with_reducible apply cel2 (b := w5.heap.size) hb_w23); (focus ((try simp) <;> omega)); (focus omega); (focus (go_simp; try exact rfl)); (focus (go_simp; try exact rfl)); (focus (intro o; go_simp)); intro cc cc fz hl; (with_reducible apply cel2 (b := w7.heap.size) hb_w23); (focus ((try simp) <;> omega)); (focus omega); (focus (go_simp; try exact rfl)); (focus (go_simp; try exact rfl)); (focus (intro o; go_simp)); intro cc cc fz hl; (with_reducible apply cel2 (b := w9.heap.size) hb_w23); (focus ((try simp) <;> omega)); (focus omega); (focus (go_simp; try exact rfl)); (focus (go_simp; try exact rfl)); (focus (intro o; go_simp)); intro cc cc fz hl; (with_reducible apply cel2 (b := w11.heap.size) hb_w23); (focus ((try simp) <;> omega)); (focus omega); (focus (go_simp; try exact rfl)); (focus (go_simp; try exact rfl)); (focus (intro o; go_simp)); intro cc cc fz hl; (with_reducible apply cel2 (b := w13.heap.size) hb_w23); (focus ((try simp) <;> omega)); (focus omega); (focus (go_simp; try exact rfl)); (focus (go_simp; try exact rfl)); (focus (intro o; go_simp)); intro cc cc fz hl; (with_reducible apply cel2 (b := w15.heap.size) hb_w23); (focus ((try simp) <;> omega)); (focus omega); (focus (go_simp; try exact rfl)); (focus (go_simp; try exact rfl)); (focus (intro o; go_simp)); intro cc cc fz hl; (with_reducible apply cel2 (b := w17.heap.size) hb_w23); (focus ((try simp) <;> omega)); (focus omega); (focus (go_simp; try exact rfl)); (focus (go_simp; try exact rfl)); (focus (intro o; go_simp)); intro cc cc fz hl; (with_reducible apply cel2 (b := w19.heap.size) hb_w23); (focus ((try simp) <;> omega)); (focus omega); (focus (go_simp; try exact rfl)); (focus (go_simp; try exact rfl)); (focus (intro o; go_simp)); intro cc cc fz hl; (with_reducible apply cel2 (b := w21.heap.size) hb_w23); (focus ((try simp) <;> omega)); (focus omega); (focus (go_simp; try exact rfl)); (focus (go_simp; try exact rfl)); (focus (intro o; go_simp)); intro cc cc fz hl)
  have HW23 := Lib.hid (show Below w21.heap.size w21 w23 by ((with_reducible (repeat (first | exact bR _ _ | refine bS ?_ ?_ _ | refine bA ?_ ?_ _ | refine bD ?_ | refine bT ?_ (by assumption) ?_ | refine bO (by assumption) ?_ ?_))) <;> (first | omega | (simp; done) | (simp <;> omega))))
  have HNO := Lib.hid (show IsC w23 (.agg #[.bool (decide (zno < 0)), .slice A23 (canN zno.natAbs).length c23]) zno from ⟨A23, c23, rfl, hc23, hA23⟩)
  replace HA := Lib.hid (HA.out.below HW23.out)
  replace HB0 := Lib.hid (HB0.out.below HW23.out)
  replace HC0 := Lib.hid (HC0.out.below HW23.out)
  replace HAB := Lib.hid (HAB.out.below HW23.out)
  replace HBC := Lib.hid (HBC.out.below HW23.out)
  replace HLE := Lib.hid (HLE.out.below HW23.out)
  replace HRI := Lib.hid (HRI.out.below HW23.out)
  replace HPA := Lib.hid (HPA.out.below HW23.out)
  replace HPB := Lib.hid (HPB.out.below HW23.out)
  replace HPC := Lib.hid (HPC.out.below HW23.out)
  replace HON := Lib.hid (HON.out.below HW23.out)
  replace HTW := Lib.hid (HTW.out.below HW23.out)
  have hz23 : w.heap.size ≤ w23.heap.size := by omega
  replace HB := Lib.hid (HB.out.trans (HW23.out.mono (by omega)))
  clear hb_w23 HW23 hc23 hA23 hb_w22
  go_wp2_with fail
  -- own blocks besides: w23.heap.size:2
  (go_at_call 29; refine (plain_any _ _ _ _ 0 true _).mono ?_; rintro e w24 ⟨rfl, hb_w24⟩; have hz_w24 := hb_w24.size; (try simp at hz_w24); (with_reducible apply cel2 (b := w.heap.size) hb_w24); (focus ((try simp) <;> omega)); (focus omega); (focus (go_simp; try exact rfl)); (focus (go_simp; try exact rfl)); (focus (intro o; go_simp)); intro cc cc fz hl; (with_reducible apply cel2 (b := w.heap.size + 1) hb_w24); (focus ((try simp) <;> omega)); (focus omega); (focus (go_simp; try exact rfl)); (focus (go_simp; try exact rfl)); (focus (intro o; go_simp)); intro cc cc fz hl; (with_reducible apply cel2 (b := w.heap.size + 1 + 1) hb_w24); (focus ((try simp) <;> omega)); (focus omega); (focus (go_simp; try exact rfl)); (focus (go_simp; try exact rfl)); (focus (intro o; go_simp)); intro cc cc fz hl; (with_reducible apply cel2 (b := w5.heap.size) hb_w24); (focus ((try simp) <;> omega)); (focus omega); (focus (go_simp; try exact rfl)); (focus (go_simp; try exact rfl)); (focus (intro o; go_simp)); intro cc cc fz hl; (with_reducible apply cel2 (b := w7.heap.size) hb_w24); (focus ((try simp) <;> omega)); (focus omega); (focus (go_simp; try exact rfl)); (focus (go_simp; try exact rfl)); (focus (intro o; go_simp)); intro cc cc fz hl; (with_reducible apply cel2 (b := w9.heap.size) hb_w24); (focus ((try simp) <;> omega)); (focus omega); (focus (go_simp; try exact rfl)); (focus (go_simp; try exact rfl)); (focus (intro o; go_simp)); intro cc cc fz hl; (with_reducible apply cel2 (b := w11.heap.size) hb_w24); (focus ((try simp) <;> omega)); (focus omega); (focus (go_simp; try exact rfl)); (focus (go_simp; try exact rfl)); (focus (intro o; go_simp)); intro cc cc fz hl; (with_reducible apply cel2 (b := w13.heap.size) hb_w24); (focus ((try simp) <;> omega)); (focus omega); (focus (go_simp; try exact rfl)); (focus (go_simp; try exact rfl)); (focus (intro o; go_simp)); intro cc cc fz hl; (with_reducible apply cel2 (b := w15.heap.size) hb_w24); (focus ((try simp) <;> omega)); (focus omega); (focus (go_simp; try exact rfl)); (focus (go_simp; try exact rfl)); (focus (intro o; go_simp)); intro cc cc fz hl; (with_reducible apply cel2 (b := w17.heap.size) hb_w24); (focus ((try simp) <;> omega)); (focus omega); (focus (go_simp; try exact rfl)); (focus (go_simp; try exact rfl)); (focus (intro o; go_simp)); intro cc cc fz hl; (with_reducible apply cel2 (b := w19.heap.size) hb_w24); (focus ((try simp) <;> omega)); (focus omega); (focus (go_simp; try exact rfl)); (focus (go_simp; try exact rfl)); (focus (intro o; go_simp)); intro cc cc fz hl; (with_reducible apply cel2 (b := w21.heap.size) hb_w24); (focus ((try simp) <;> omega)); (focus omega); (focus (go_simp; try exact rfl)); (focus (go_simp; try exact rfl)); (focus (intro o; go_simp)); intro cc cc fz hl; (with_reducible apply cel2 (b := w23.heap.size) hb_w24); (focus ((try simp) <;> omega)); (focus omega); (focus (go_simp; try exact rfl)); (focus (go_simp; try exact rfl)); (focus (intro o; go_simp)); intro cc cc fz hl)
  have hz24 : w.heap.size ≤ w24.heap.size := by omega
  go_wp2_with fail
  (go_at_call 17; refine (C1.out _ _ _ ((HLE.out.below (by ((with_reducible (repeat (first | exact bR _ _ | refine bS ?_ ?_ _ | refine bA ?_ ?_ _ | refine bD ?_ | refine bT ?_ (by assumption) ?_ | refine bO (by assumption) ?_ ?_))) <;> (first | omega | (simp; done) | (simp <;> omega))))).zl lle) ((HRI.out.below (by ((with_reducible (repeat (first | exact bR _ _ | refine bS ?_ ?_ _ | refine bA ?_ ?_ _ | refine bD ?_ | refine bT ?_ (by assumption) ?_ | refine bO (by assumption) ?_ ?_))) <;> (first | omega | (simp; done) | (simp <;> omega))))).zl lri)).mono ?_; rintro e w25 ⟨rfl, hb_w25⟩; have hz_w25 := hb_w25.size; (try simp at hz_w25); (with_reducible apply cel2 (b := w.heap.size) hb_w25); (focus ((try simp) <;> omega)); (focus omega); (focus (go_simp; try exact rfl)); (focus (go_simp; try exact rfl)); (focus (intro o; go_simp)); intro cc cc fz hl; (with_reducible apply cel2 (b := w.heap.size + 1) hb_w25); (focus ((try simp) <;> omega)); (focus omega); (focus (go_simp; try exact rfl)); (focus (go_simp; try exact rfl)); (focus (intro o; go_simp)); intro cc cc fz hl; (with_reducible apply cel2 (b := w.heap.size + 1 + 1) hb_w25); (focus ((try simp) <;> omega)); (focus omega); (focus (go_simp; try exact rfl)); (focus (go_simp; try exact rfl)); (focus (intro o; go_simp)); intro cc cc fz hl; (with_reducible apply cel2 (b := w5.heap.size) hb_w25); (focus ((try simp) <;> omega)); (focus omega); (focus (go_simp; try exact rfl)); (focus (go_simp; try exact rfl)); (focus (intro o; go_simp)); intro cc cc fz hl; (with_reducible apply cel2 (b := w7.heap.size) hb_w25); (focus ((try simp) <;> omega)); (focus omega); (focus (go_simp; try exact rfl)); (focus (go_simp; try exact rfl)); (focus (intro o; go_simp)); intro cc cc fz hl; (with_reducible apply cel2 (b := w9.heap.size) hb_w25); (focus ((try simp) <;> omega)); (focus omega); (focus (go_simp; try exact rfl)); (focus (go_simp; try exact rfl)); (focus (intro o; go_simp)); intro cc cc fz hl; (with_reducible apply cel2 (b := w11.heap.size) hb_w25); (focus ((try simp) <;> omega)); (focus omega); (focus (go_simp; try exact rfl)); (focus (go_simp; try exact rfl)); (focus (intro o; go_simp)); intro cc cc fz hl; (with_reducible apply cel2 (b := w13.heap.size) hb_w25); (focus ((try simp) <;> omega)); (focus omega); (focus (go_simp; try exact rfl)); (focus (go_simp; try exact rfl)); (focus (intro o; go_simp)); intro cc cc fz hl; (with_reducible apply cel2 (b := w15.heap.size) hb_w25); (focus ((try simp) <;> omega)); (focus omega); (focus (go_simp; try exact rfl)); (focus (go_simp; try exact rfl)); (focus (intro o; go_simp)); intro cc cc fz hl; (with_reducible apply cel2 (b := w17.heap.size) hb_w25); (focus ((try simp) <;> omega)); (focus omega); (focus (go_simp; try exact rfl)); (focus (go_simp; try exact rfl)); (focus (intro o; go_simp)); intro cc cc fz hl; (with_reducible apply cel2 (b := w19.heap.size) hb_w25); (focus ((try simp) <;> omega)); (focus omega); (focus (go_simp; try exact rfl)); (focus (go_simp; try exact rfl)); (focus (intro o; go_simp)); intro cc cc fz hl; (with_reducible apply cel2 (b := w21.heap.size) hb_w25); (focus ((try simp) <;> omega)); (focus omega); (focus (go_simp; try exact rfl)); (focus (go_simp; try exact rfl)); (focus (intro o; go_simp)); intro cc cc fz hl; (with_reducible apply cel2 (b := w23.heap.size) hb_w25); (focus ((try simp) <;> omega)); (focus omega); (focus (go_simp; try exact rfl)); (focus (go_simp; try exact rfl)); (focus (intro o; go_simp)); intro cc cc fz hl)
  have HW25 := Lib.hid (show Below w23.heap.size w23 w25 by ((with_reducible (repeat (first | exact bR _ _ | refine bS ?_ ?_ _ | refine bA ?_ ?_ _ | refine bD ?_ | refine bT ?_ (by assumption) ?_ | refine bO (by assumption) ?_ ?_))) <;> (first | omega | (simp; done) | (simp <;> omega))))
  replace HA := Lib.hid (HA.out.below HW25.out)
  replace HB0 := Lib.hid (HB0.out.below HW25.out)
  replace HC0 := Lib.hid (HC0.out.below HW25.out)
  replace HAB := Lib.hid (HAB.out.below HW25.out)
  replace HBC := Lib.hid (HBC.out.below HW25.out)
  replace HLE := Lib.hid (HLE.out.below HW25.out)
  replace HRI := Lib.hid (HRI.out.below HW25.out)
  replace HPA := Lib.hid (HPA.out.below HW25.out)
  replace HPB := Lib.hid (HPB.out.below HW25.out)
  replace HPC := Lib.hid (HPC.out.below HW25.out)
  replace HON := Lib.hid (HON.out.below HW25.out)
  replace HTW := Lib.hid (HTW.out.below HW25.out)
  replace HNO := Lib.hid (HNO.out.below HW25.out)
  have hz25 : w.heap.size ≤ w25.heap.size := by omega
  replace HB := Lib.hid (HB.out.trans (HW25.out.mono (by omega)))
  clear hb_w25 HW25 hb_w24
  go_wp2_with fail
  (go_at_call 17; refine (C2.out _ _ _ ((HPA.out.below (Below.refl _ _)).zl lpa) ((HPB.out.below (Below.refl _ _)).zl lpb)).mono ?_; rintro e w26 ⟨rfl, hb_w26⟩; have hz_w26 := hb_w26.size; (try simp at hz_w26); (with_reducible apply cel2 (b := w.heap.size) hb_w26); (focus ((try simp) <;> omega)); (focus omega); (focus (go_simp; try exact rfl)); (focus (go_simp; try exact rfl)); (focus (intro o; go_simp)); intro cc cc fz hl; (with_reducible apply cel2 (b := w.heap.size + 1) hb_w26); (focus ((try simp) <;> omega)); (focus omega); (focus (go_simp; try exact rfl)); (focus (go_simp; try exact rfl)); (focus (intro o; go_simp)); intro cc cc fz hl; (with_reducible apply cel2 (b := w.heap.size + 1 + 1) hb_w26); (focus ((try simp) <;> omega)); (focus omega); (focus (go_simp; try exact rfl)); (focus (go_simp; try exact rfl)); (focus (intro o; go_simp)); intro cc cc fz hl; (with_reducible apply cel2 (b := w5.heap.size) hb_w26); (focus ((try simp) <;> omega)); (focus omega); (focus (go_simp; try exact rfl)); (focus (go_simp; try exact rfl)); (focus (intro o; go_simp)); intro cc cc fz hl; (with_reducible apply cel2 (b := w7.heap.size) hb_w26); (focus ((try simp) <;> omega)); (focus omega); (focus (go_simp; try exact rfl)); (focus (go_simp; try exact rfl)); (focus (intro o; go_simp)); intro cc cc fz hl; (with_reducible apply cel2 (b := w9.heap.size) hb_w26); (focus ((try simp) <;> omega)); (focus omega); (focus (go_simp; try exact rfl)); (focus (go_simp; try exact rfl)); (focus (intro o; go_simp)); intro cc cc fz hl; (with_reducible apply cel2 (b := w11.heap.size) hb_w26); (focus ((try simp) <;> omega)); (focus omega); (focus (go_simp; try exact rfl)); (focus (go_simp; try exact rfl)); (focus (intro o; go_simp)); intro cc cc fz hl; (with_reducible apply cel2 (b := w13.heap.size) hb_w26); (focus ((try simp) <;> omega)); (focus omega); (focus (go_simp; try exact rfl)); (focus (go_simp; try exact rfl)); (focus (intro o; go_simp)); intro cc cc fz hl; (with_reducible apply cel2 (b := w15.heap.size) hb_w26); (focus ((try simp) <;> omega)); (focus omega); (focus (go_simp; try exact rfl)); (focus (go_simp; try exact rfl)); (focus (intro o; go_simp)); intro cc cc fz hl; (with_reducible apply cel2 (b := w17.heap.size) hb_w26); (focus ((try simp) <;> omega)); (focus omega); (focus (go_simp; try exact rfl)); (focus (go_simp; try exact rfl)); (focus (intro o; go_simp)); intro cc cc fz hl; (with_reducible apply cel2 (b := w19.heap.size) hb_w26); (focus ((try simp) <;> omega)); (focus omega); (focus (go_simp; try exact rfl)); (focus (go_simp; try exact rfl)); (focus (intro o; go_simp)); intro cc cc fz hl; (with_reducible apply cel2 (b := w21.heap.size) hb_w26); (focus ((try simp) <;> omega)); (focus omega); (focus (go_simp; try exact rfl)); (focus (go_simp; try exact rfl)); (focus (intro o; go_simp)); intro cc cc fz hl; (with_reducible apply cel2 (b := w23.heap.size) hb_w26); (focus ((try simp) <;> omega)); (focus omega); (focus (go_simp; try exact rfl)); (focus (go_simp; try exact rfl)); (focus (intro o; go_simp)); intro cc cc fz hl)
  have HW26 := Lib.hid (show Below w25.heap.size w25 w26 by ((with_reducible (repeat (first | exact bR _ _ | refine bS ?_ ?_ _ | refine bA ?_ ?_ _ | refine bD ?_ | refine bT ?_ (by assumption) ?_ | refine bO (by assumption) ?_ ?_))) <;> (first | omega | (simp; done) | (simp <;> omega))))
  replace HA := Lib.hid (HA.out.below HW26.out)
  replace HB0 := Lib.hid (HB0.out.below HW26.out)
  replace HC0 := Lib.hid (HC0.out.below HW26.out)
  replace HAB := Lib.hid (HAB.out.below HW26.out)
  replace HBC := Lib.hid (HBC.out.below HW26.out)
  replace HLE := Lib.hid (HLE.out.below HW26.out)
  replace HRI := Lib.hid (HRI.out.below HW26.out)
  replace HPA := Lib.hid (HPA.out.below HW26.out)
  replace HPB := Lib.hid (HPB.out.below HW26.out)
  replace HPC := Lib.hid (HPC.out.below HW26.out)
  replace HON := Lib.hid (HON.out.below HW26.out)
  replace HTW := Lib.hid (HTW.out.below HW26.out)
  replace HNO := Lib.hid (HNO.out.below HW26.out)
  have hz26 : w.heap.size ≤ w26.heap.size := by omega
  replace HB := Lib.hid (HB.out.trans (HW26.out.mono (by omega)))
  clear hb_w26 HW26
  go_wp2_with fail
  (go_at_call 17; refine (C3.out _ _ _ ((HON.out.below (Below.refl _ _)).zl lon) ((HTW.out.below (Below.refl _ _)).zl ltw)).mono ?_; rintro e w27 ⟨rfl, hb_w27⟩; have hz_w27 := hb_w27.size; (try simp at hz_w27); (with_reducible apply cel2 (b := w.heap.size) hb_w27); (focus ((try simp) <;> omega)); (focus omega); (focus (go_simp; try exact rfl)); (focus (go_simp; try exact rfl)); (focus (intro o; go_simp)); intro cc cc fz hl; (with_reducible apply cel2 (b := w.heap.size + 1) hb_w27); (focus ((try simp) <;> omega)); (focus omega); (focus (go_simp; try exact rfl)); (focus (go_simp; try exact rfl)); (focus (intro o; go_simp)); intro cc cc fz hl; (with_reducible apply cel2 (b := w.heap.size + 1 + 1) hb_w27); (focus ((try simp) <;> omega)); (focus omega); (focus (go_simp; try exact rfl)); (focus (go_simp; try exact rfl)); (focus (intro o; go_simp)); intro cc cc fz hl; (with_reducible apply cel2 (b := w5.heap.size) hb_w27); (focus ((try simp) <;> omega)); (focus omega); (focus (go_simp; try exact rfl)); (focus (go_simp; try exact rfl)); (focus (intro o; go_simp)); intro cc cc fz hl; (with_reducible apply cel2 (b := w7.heap.size) hb_w27); (focus ((try simp) <;> omega)); (focus omega); (focus (go_simp; try exact rfl)); (focus (go_simp; try exact rfl)); (focus (intro o; go_simp)); intro cc cc fz hl; (with_reducible apply cel2 (b := w9.heap.size) hb_w27); (focus ((try simp) <;> omega)); (focus omega); (focus (go_simp; try exact rfl)); (focus (go_simp; try exact rfl)); (focus (intro o; go_simp)); intro cc cc fz hl; (with_reducible apply cel2 (b := w11.heap.size) hb_w27); (focus ((try simp) <;> omega)); (focus omega); (focus (go_simp; try exact rfl)); (focus (go_simp; try exact rfl)); (focus (intro o; go_simp)); intro cc cc fz hl; (with_reducible apply cel2 (b := w13.heap.size) hb_w27); (focus ((try simp) <;> omega)); (focus omega); (focus (go_simp; try exact rfl)); (focus (go_simp; try exact rfl)); (focus (intro o; go_simp)); intro cc cc fz hl; (with_reducible apply cel2 (b := w15.heap.size) hb_w27); (focus ((try simp) <;> omega)); (focus omega); (focus (go_simp; try exact rfl)); (focus (go_simp; try exact rfl)); (focus (intro o; go_simp)); intro cc cc fz hl; (with_reducible apply cel2 (b := w17.heap.size) hb_w27); (focus ((try simp) <;> omega)); (focus omega); (focus (go_simp; try exact rfl)); (focus (go_simp; try exact rfl)); (focus (intro o; go_simp)); intro cc cc fz hl; (with_reducible apply cel2 (b := w19.heap.size) hb_w27); (focus ((try simp) <;> omega)); (focus omega); (focus (go_simp; try exact rfl)); (focus (go_simp; try exact rfl)); (focus (intro o; go_simp)); intro cc cc fz hl; (with_reducible apply cel2 (b := w21.heap.size) hb_w27); (focus ((try simp) <;> omega)); (focus omega); (focus (go_simp; try exact rfl)); (focus (go_simp; try exact rfl)); (focus (intro o; go_simp)); intro cc cc fz hl; (with_reducible apply cel2 (b := w23.heap.size) hb_w27); (focus ((try simp) <;> omega)); (focus omega); (focus (go_simp; try exact rfl)); (focus (go_simp; try exact rfl)); (focus (intro o; go_simp)); intro cc cc fz hl)
  have HW27 := Lib.hid (show Below w26.heap.size w26 w27 by ((with_reducible (repeat (first | exact bR _ _ | refine bS ?_ ?_ _ | refine bA ?_ ?_ _ | refine bD ?_ | refine bT ?_ (by assumption) ?_ | refine bO (by assumption) ?_ ?_))) <;> (first | omega | (simp; done) | (simp <;> omega))))
  replace HA := Lib.hid (HA.out.below HW27.out)
  replace HB0 := Lib.hid (HB0.out.below HW27.out)
  replace HC0 := Lib.hid (HC0.out.below HW27.out)
  replace HAB := Lib.hid (HAB.out.below HW27.out)
  replace HBC := Lib.hid (HBC.out.below HW27.out)
  replace HLE := Lib.hid (HLE.out.below HW27.out)
  replace HRI := Lib.hid (HRI.out.below HW27.out)
  replace HPA := Lib.hid (HPA.out.below HW27.out)
  replace HPB := Lib.hid (HPB.out.below HW27.out)
  replace HPC := Lib.hid (HPC.out.below HW27.out)
  replace HON := Lib.hid (HON.out.below HW27.out)
  replace HTW := Lib.hid (HTW.out.below HW27.out)
  replace HNO := Lib.hid (HNO.out.below HW27.out)
  have hz27 : w.heap.size ≤ w27.heap.size := by omega
  replace HB := Lib.hid (HB.out.trans (HW27.out.mono (by omega)))
  clear hb_w27 HW27
  go_wp2_with fail
  (go_at_call 17; refine (C4.out _ _ _ ((HNO.out.below (Below.refl _ _)).zl lno) (HA.out.below (Below.refl _ _))).mono ?_; rintro e w28 ⟨rfl, hb_w28⟩; have hz_w28 := hb_w28.size; (try simp at hz_w28); (with_reducible apply cel2 (b := w.heap.size) hb_w28); (focus ((try simp) <;> omega)); (focus omega); (focus (go_simp; try exact rfl)); (focus (go_simp; try exact rfl)); (focus (intro o; go_simp)); intro cc cc fz hl; (with_reducible apply cel2 (b := w.heap.size + 1) hb_w28); (focus ((try simp) <;> omega)); (focus omega); (focus (go_simp; try exact rfl)); (focus (go_simp; try exact rfl)); (focus (intro o; go_simp)); intro cc cc fz hl; (with_reducible apply cel2 (b := w.heap.size + 1 + 1) hb_w28); (focus ((try simp) <;> omega)); (focus omega); (focus (go_simp; try exact rfl)); (focus (go_simp; try exact rfl)); (focus (intro o; go_simp)); intro cc cc fz hl; (with_reducible apply cel2 (b := w5.heap.size) hb_w28); (focus ((try simp) <;> omega)); (focus omega); (focus (go_simp; try exact rfl)); (focus (go_simp; try exact rfl)); (focus (intro o; go_simp)); intro cc cc fz hl; (with_reducible apply cel2 (b := w7.heap.size) hb_w28); (focus ((try simp) <;> omega)); (focus omega); (focus (go_simp; try exact rfl)); (focus (go_simp; try exact rfl)); (focus (intro o; go_simp)); intro cc cc fz hl; (with_reducible apply cel2 (b := w9.heap.size) hb_w28); (focus ((try simp) <;> omega)); (focus omega); (focus (go_simp; try exact rfl)); (focus (go_simp; try exact rfl)); (focus (intro o; go_simp)); intro cc cc fz hl; (with_reducible apply cel2 (b := w11.heap.size) hb_w28); (focus ((try simp) <;> omega)); (focus omega); (focus (go_simp; try exact rfl)); (focus (go_simp; try exact rfl)); (focus (intro o; go_simp)); intro cc cc fz hl; (with_reducible apply cel2 (b := w13.heap.size) hb_w28); (focus ((try simp) <;> omega)); (focus omega); (focus (go_simp; try exact rfl)); (focus (go_simp; try exact rfl)); (focus (intro o; go_simp)); intro cc cc fz hl; (with_reducible apply cel2 (b := w15.heap.size) hb_w28); (focus ((try simp) <;> omega)); (focus omega); (focus (go_simp; try exact rfl)); (focus (go_simp; try exact rfl)); (focus (intro o; go_simp)); intro cc cc fz hl; (with_reducible apply cel2 (b := w17.heap.size) hb_w28); (focus ((try simp) <;> omega)); (focus omega); (focus (go_simp; try exact rfl)); (focus (go_simp; try exact rfl)); (focus (intro o; go_simp)); intro cc cc fz hl; (with_reducible apply cel2 (b := w19.heap.size) hb_w28); (focus ((try simp) <;> omega)); (focus omega); (focus (go_simp; try exact rfl)); (focus (go_simp; try exact rfl)); (focus (intro o; go_simp)); intro cc cc fz hl; (with_reducible apply cel2 (b := w21.heap.size) hb_w28); (focus ((try simp) <;> omega)); (focus omega); (focus (go_simp; try exact rfl)); (focus (go_simp; try exact rfl)); (focus (intro o; go_simp)); intro cc cc fz hl; (with_reducible apply cel2 (b := w23.heap.size) hb_w28); (focus ((try simp) <;> omega)); (focus omega); (focus (go_simp; try exact rfl)); (focus (go_simp; try exact rfl)); (focus (intro o; go_simp)); intro cc cc fz hl)
  have HW28 := Lib.hid (show Below w27.heap.size w27 w28 by ((with_reducible (repeat (first | exact bR _ _ | refine bS ?_ ?_ _ | refine bA ?_ ?_ _ | refine bD ?_ | refine bT ?_ (by assumption) ?_ | refine bO (by assumption) ?_ ?_))) <;> (first | omega | (simp; done) | (simp <;> omega))))
  replace HA := Lib.hid (HA.out.below HW28.out)
  replace HB0 := Lib.hid (HB0.out.below HW28.out)
  replace HC0 := Lib.hid (HC0.out.below HW28.out)
  replace HAB := Lib.hid (HAB.out.below HW28.out)
  replace HBC := Lib.hid (HBC.out.below HW28.out)
  replace HLE := Lib.hid (HLE.out.below HW28.out)
  replace HRI := Lib.hid (HRI.out.below HW28.out)
  replace HPA := Lib.hid (HPA.out.below HW28.out)
  replace HPB := Lib.hid (HPB.out.below HW28.out)
  replace HPC := Lib.hid (HPC.out.below HW28.out)
  replace HON := Lib.hid (HON.out.below HW28.out)
  replace HTW := Lib.hid (HTW.out.below HW28.out)
  replace HNO := Lib.hid (HNO.out.below HW28.out)
  have hz28 : w.heap.size ≤ w28.heap.size := by omega
  replace HB := Lib.hid (HB.out.trans (HW28.out.mono (by omega)))
  clear hb_w28 HW28
  go_wp2_with fail
  go_ret
  refine ⟨ret_bool (by first | rfl | simp | (simp; omega)), HB.out⟩

theorem walk (w : World) (a0 : Array Value) (n0 : Nat) (w0 : RowIs Try.prog w n0 24 a0.toList) (a1 : Array Value) (n1 : Nat) (w1 : RowIs Try.prog w n1 24 a1.toList) (a2 : Array Value) (n2 : Nat) (w2 : RowIs Try.prog w n2 24 a2.toList) :
    Calls Try.prog 7 #[.agg a0, .agg a1, .agg a2] w fun e w' => e = .returned (.bool true) ∧ Below w.heap.size w w' := by
  obtain ⟨p, A, len, cap, z, e, hml, hA⟩ := int_open w0
  obtain ⟨p2, A2, len2, cap2, z2, e2, hml2, hA2⟩ := int_open w1
  obtain ⟨p3, A3, len3, cap3, z3, e3, hml3, hA3⟩ := int_open w2
  obtain ⟨l⟩ := a0
  obtain ⟨l2⟩ := a1
  obtain ⟨l3⟩ := a2
  simp only at e e2 e3
  subst e e2 e3
  by_cases h : len ≤ 40 ∧ len2 ≤ 40 ∧ len3 ≤ 40
  · exact short p p2 p3 A A2 A3 len len2 len3 cap cap2 cap3 z z2 z3 w h.1 h.2.1 h.2.2 (hA.upto h.1) (hA2.upto h.2.1) (hA3.upto h.2.2)
  · exact long p p2 p3 A A2 A3 len len2 len3 cap cap2 cap3 w h hml hml2 hml3
theorem own : ownKnob Try.prog.godebug = none := by kernel_rfl
theorem laidOut : laidOutB Try.prog = true := by kernel_rfl
set_option maxRecDepth 100000 in
theorem lifted (os : Os) (started : os.Started) (H : Type) (enc : TypeId × Value → H) :
    ReturnsInHanded {} Try.checked os 7 .any (Rows.integerRingSpec.pre6 enc Try.prog Try.f7 Rows.integerRingRow.domain false) (Rows.integerRingSpec.post enc Try.prog Try.f7 false true false false) := by
  refine returnsInHanded_of_change (C := Try.checked) own started (by kernel_rfl) Try.func7
    (ChangeSpec.witness6 (enc := enc) (C := Try.checked) false ⟨#[], #[.agg #[.bool false, .slice none 0 0], .agg #[.bool false, .slice none 0 0], .agg #[.bool false, .slice none 0 0]], []⟩ 8 (by kernel_rfl) (by kernel_rfl) (by kernel_rfl) (by kernel_rfl)) ?_
  intro W base args ds gs before hval0 hW hcnd _
  have hval : ∀ (j : Nat) t v, Try.f7.params[j]? = some t → args[j]? = some v → Value.okWide Try.prog W .any base t v := hval0
  have hW' := hW
  obtain ⟨p, q, hA0, hV, rfl, hfz, hnd⟩ := hW
  have hA : DataW.TrodAll enc Try.prog W 0 (fun _ => true) true Try.f7.params.toList args.toList ds p := hA0
  rw [Try.params7] at hA hval
  obtain ⟨v0, vs0, d0, ds0, p0, q0, hargs, rfl, rfl, h0, r0⟩ := trodAll_cons hA
  obtain ⟨v1, vs1, d1, ds1, p1, q1, rfl, rfl, rfl, h1, r1⟩ := trodAll_cons r0
  obtain ⟨v2, vs2, d2, ds2, p2, q2, rfl, rfl, rfl, h2, r2⟩ := trodAll_cons r1
  obtain ⟨rfl, rfl, rfl⟩ := trodAll_nil r2
  obtain rfl : args = #[v0, v1, v2] := by cases args; simp_all
  obtain ⟨rfl, rfl⟩ := trodVars_none hV
  obtain ⟨a0, rfl, hs0⟩ := okWide_struct Try.underlying24 (hval 0 24 v0 rfl rfl)
  have k0 := h0
  have lt0 : ∀ x ∈ p0, x.block < W.heap.size := by obtain ⟨m, hm⟩ := k0; exact DataW.trod_lt m _ _ _ hm
  obtain ⟨n0, w0⟩ : ∃ n, RowIs Try.prog W n 24 a0.toList := by obtain ⟨fuel, hf⟩ := h0; exact ⟨fuel, rowIs_of_trod fuel _ _ _ hf⟩
  obtain ⟨a1, rfl, hs1⟩ := okWide_struct Try.underlying24 (hval 1 24 v1 rfl rfl)
  have k1 := h1
  have lt1 : ∀ x ∈ p1, x.block < W.heap.size := by obtain ⟨m, hm⟩ := k1; exact DataW.trod_lt m _ _ _ hm
  obtain ⟨n1, w1⟩ : ∃ n, RowIs Try.prog W n 24 a1.toList := by obtain ⟨fuel, hf⟩ := h1; exact ⟨fuel, rowIs_of_trod fuel _ _ _ hf⟩
  obtain ⟨a2, rfl, hs2⟩ := okWide_struct Try.underlying24 (hval 2 24 v2 rfl rfl)
  have k2 := h2
  have lt2 : ∀ x ∈ p2, x.block < W.heap.size := by obtain ⟨m, hm⟩ := k2; exact DataW.trod_lt m _ _ _ hm
  obtain ⟨n2, w2⟩ : ∃ n, RowIs Try.prog W n 24 a2.toList := by obtain ⟨fuel, hf⟩ := h2; exact ⟨fuel, rowIs_of_trod fuel _ _ _ hf⟩
  clear hA0 hval0
  refine (walk W a0 n0 w0 a1 n1 w1 a2 n2 w2).mono fun e W' ⟨he, bel⟩ => ?_
  subst he
  exact ⟨_, rfl, _, _, _, [], _, [], hW', trodAll_mk1 (shut_bool Try.underlying4 _), (trodAll_cons_mk (Below.trod laidOut (by kernel_rfl) (of_decide_eq_true (by kernel_rfl)) k0 bel lt0) (trodAll_cons_mk (Below.trod laidOut (by kernel_rfl) (of_decide_eq_true (by kernel_rfl)) k1 bel lt1) (trodAll_cons_mk (Below.trod laidOut (by kernel_rfl) (of_decide_eq_true (by kernel_rfl)) k2 bel lt2) trodAll_mk0))), rfl, bel.frame _, fun h => by cases h⟩

theorem over : Rows.integerRingRow.holds Try.pinned (OpenSpec.ofChange Rows.integerRingSpec) :=
  OpenClaim.holds_of_wide 7 Try.f7 rfl rfl rfl rfl rfl rfl rfl ⟨rfl, rfl, rfl, rfl, rfl⟩ rfl rfl rfl rfl rfl (by kernel_rfl) Try.func7 (by kernel_rfl)
    (of_decide_eq_true (by kernel_rfl)) (by unfold Func.isWrapper; first | (rw [if_pos (by decide +kernel)]; kernel_rfl) | (rw [if_neg (by decide +kernel)]; exact ⟨rfl, rfl⟩))
    (fun os started H enc _ => lifted os started H enc)

theorem proved : Rows.IntegerRingSaid := over
#print axioms proved
end Go.Proofs.Ytadkcipjcmkoiaa.lawIR
