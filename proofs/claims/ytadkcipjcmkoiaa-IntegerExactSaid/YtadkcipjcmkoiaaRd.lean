/- The contracts of pinballref01.Shift, Bits. -/
import Derived.Test.YtadkcipjcmkoiaaRb
import Derived.Test.YtadkcipjcmkoiaaBigDn
import Derived.Test.YtadkcipjcmkoiaaBigUp
namespace Go.Proofs.Ytadkcipjcmkoiaa
open Go Go.RowKit
set_option linter.unusedVariables false
set_option maxRecDepth 100000 in
set_option maxHeartbeats 4000000 in
theorem rquo_any (n : Nat) (u v : Value) (a b : Int) (w : World) (ha : IsZ w u n a) (hb : IsZ w v n b) (hn : n ≤ 100000) :
    Calls Try.prog 36 #[u, v] w (QOut (quoR a b).1 (quoR a b).2.1 (quoR a b).2.2 w) := by
  have HA := Lib.hid ha
  have HB := Lib.hid hb
  obtain ⟨p, A, c, l, rfl⟩ := isZ_val ha
  obtain ⟨p', A', c', l', rfl⟩ := isZ_val hb
  have hL1 := fun w' (hbb : Below w.heap.size w w') => rlarge_any n _ a w' (HA.out.below hbb) (by omega)
  have hL2 := fun w' (hbb : Below w.heap.size w w') => rlarge_any n _ b w' (HB.out.below hbb) (by omega)
  obtain ⟨q1, hq1⟩ : ∃ q, q = lgB a := ⟨_, rfl⟩
  obtain ⟨q2, hq2⟩ : ∃ q, q = lgB b := ⟨_, rfl⟩
  rw [← hq1] at hL1
  rw [← hq2] at hL2
  have hsg := fun w' (hbb : Below w.heap.size w w') => sign_any n _ b w' (HB.out.below hbb) (by omega)
  have hs0 := @sgn0 b
  obtain ⟨s, hs⟩ : ∃ s, s = sgn b := ⟨_, rfl⟩
  rw [← hs] at hsg hs0
  have HSG := Lib.hid hsg
  have L1 := Lib.hid hL1
  have L2 := Lib.hid hL2
  have HE : Hid ((q1 || q2) = true → quoR a b = (0, 0, 2)) := Lib.hid (fun h => by unfold quoR; rw [← hq1, ← hq2, if_pos h])
  have HE0 : Hid (q1 = false → q2 = false → b = 0 → quoR a b = (0, 0, 3)) := Lib.hid (fun h1 h2 h3 => by unfold quoR; rw [← hq1, ← hq2, h1, h2, if_neg (by decide), if_pos h3])
  have HE1 : Hid (q1 = false → q2 = false → ¬ b = 0 → quoR a b = (a.tdiv b, a.tmod b, 0)) := Lib.hid (fun h1 h2 h3 => by unfold quoR; rw [← hq1, ← hq2, h1, h2, if_neg (by decide), if_neg h3])
  clear ha hb hL1 hL2 hsg hs hq1 hq2
  cases q1
  · cases q2
    · by_cases hb0 : b = 0
      · rw [HE0.out rfl rfl hb0]
        rw [decide_eq_true hb0] at hs0
        clear HE HE0 HE1 hb0
        go_enter Try.func36, Try.ntmps36; (try simp only [List.append_eq, List.cons_append, List.nil_append])
        go_wp2_with fail
        -- own blocks: w.heap.size:2, w.heap.size + 1:2, w.heap.size + 1 + 1:2, w.heap.size + 1 + 1 + 1:2
        (go_at_call 50; refine (L1.out _ (by ((with_reducible (repeat (first | exact bR _ _ | refine bS ?_ ?_ _ | refine bA ?_ ?_ _ | refine bD ?_ | refine bT ?_ (by assumption) ?_ | refine bO (by assumption) ?_ ?_))) <;> (first | omega | (simp; done) | (simp <;> omega))))).mono ?_; rintro e w1 ⟨rfl, hb_w1⟩; have hz_w1 := hb_w1.size; (try simp at hz_w1); (with_reducible apply cel2 (b := w.heap.size) hb_w1); (focus ((try simp) <;> omega)); (focus omega); (focus (go_simp; try exact rfl)); (focus (go_simp; try exact rfl)); (focus (intro o; go_simp)); intro cc cc fz hl; (with_reducible apply cel2 (b := w.heap.size + 1) hb_w1); (focus ((try simp) <;> omega)); (focus omega); (focus (go_simp; try exact rfl)); (focus (go_simp; try exact rfl)); (focus (intro o; go_simp)); intro cc cc fz hl; (with_reducible apply cel2 (b := w.heap.size + 1 + 1) hb_w1); (focus ((try simp) <;> omega)); (focus omega); (focus (go_simp; try exact rfl)); (focus (go_simp; try exact rfl)); (focus (intro o; go_simp)); intro cc cc fz hl; (with_reducible apply cel2 (b := w.heap.size + 1 + 1 + 1) hb_w1); (focus ((try simp) <;> omega)); (focus omega); (focus (go_simp; try exact rfl)); (focus (go_simp; try exact rfl)); (focus (intro o; go_simp)); intro cc cc fz hl)
        have HB1 := Lib.hid (show Below w.heap.size w w1 by ((with_reducible (repeat (first | exact bR _ _ | refine bS ?_ ?_ _ | refine bA ?_ ?_ _ | refine bD ?_ | refine bT ?_ (by assumption) ?_ | refine bO (by assumption) ?_ ?_))) <;> (first | omega | (simp; done) | (simp <;> omega))))
        have hz1 : w.heap.size + 1 + 1 + 1 + 1 ≤ w1.heap.size := by omega
        clear hb_w1 hz_w1
        go_wp2_with fail
        (go_at_call 50; refine (L2.out _ HB1.out).mono ?_; rintro e w2 ⟨rfl, hb_w2⟩; have hz_w2 := hb_w2.size; (try simp at hz_w2); (with_reducible apply cel2 (b := w.heap.size) hb_w2); (focus ((try simp) <;> omega)); (focus omega); (focus (go_simp; try exact rfl)); (focus (go_simp; try exact rfl)); (focus (intro o; go_simp)); intro cc cc fz hl; (with_reducible apply cel2 (b := w.heap.size + 1) hb_w2); (focus ((try simp) <;> omega)); (focus omega); (focus (go_simp; try exact rfl)); (focus (go_simp; try exact rfl)); (focus (intro o; go_simp)); intro cc cc fz hl; (with_reducible apply cel2 (b := w.heap.size + 1 + 1) hb_w2); (focus ((try simp) <;> omega)); (focus omega); (focus (go_simp; try exact rfl)); (focus (go_simp; try exact rfl)); (focus (intro o; go_simp)); intro cc cc fz hl; (with_reducible apply cel2 (b := w.heap.size + 1 + 1 + 1) hb_w2); (focus ((try simp) <;> omega)); (focus omega); (focus (go_simp; try exact rfl)); (focus (go_simp; try exact rfl)); (focus (intro o; go_simp)); intro cc cc fz hl)
        have HB2 := Lib.hid (HB1.out.trans (hb_w2.mono (by omega)))
        have hz2 : w.heap.size + 1 + 1 + 1 + 1 ≤ w2.heap.size := by omega
        clear hb_w2 hz_w2
        go_wp2_with fail
        (go_at_call 43; refine (HSG.out _ HB2.out).mono ?_; rintro e w3 ⟨rfl, hb_w3⟩; have hz_w3 := hb_w3.size; (try simp at hz_w3); (with_reducible apply cel2 (b := w.heap.size) hb_w3); (focus ((try simp) <;> omega)); (focus omega); (focus (go_simp; try exact rfl)); (focus (go_simp; try exact rfl)); (focus (intro o; go_simp)); intro cc cc fz hl; (with_reducible apply cel2 (b := w.heap.size + 1) hb_w3); (focus ((try simp) <;> omega)); (focus omega); (focus (go_simp; try exact rfl)); (focus (go_simp; try exact rfl)); (focus (intro o; go_simp)); intro cc cc fz hl; (with_reducible apply cel2 (b := w.heap.size + 1 + 1) hb_w3); (focus ((try simp) <;> omega)); (focus omega); (focus (go_simp; try exact rfl)); (focus (go_simp; try exact rfl)); (focus (intro o; go_simp)); intro cc cc fz hl; (with_reducible apply cel2 (b := w.heap.size + 1 + 1 + 1) hb_w3); (focus ((try simp) <;> omega)); (focus omega); (focus (go_simp; try exact rfl)); (focus (go_simp; try exact rfl)); (focus (intro o; go_simp)); intro cc cc fz hl)
        have HB3 := Lib.hid (HB2.out.trans (hb_w3.mono (by omega)))
        have hz3 : w.heap.size + 1 + 1 + 1 + 1 ≤ w3.heap.size := by omega
        clear hb_w3 hz_w3
        go_wp2_with fail
        refine bodyPost_ret (v := .tuple #[.agg #[.bool false, .slice none 0 0], .agg #[.bool false, .slice none 0 0], .int .i64 3]) (by simp only [results, Try.results36]; go_simp) rfl (qout_zero ?_)
        have hfin := HB3.out
        ((with_reducible (repeat (first | exact bR _ _ | refine bS ?_ ?_ _ | refine bA ?_ ?_ _ | refine bD ?_ | refine bT ?_ (by assumption) ?_ | refine bO (by assumption) ?_ ?_))) <;> (first | omega | (simp; done) | (simp <;> omega)))
      · rw [HE1.out rfl rfl hb0]
        rw [decide_eq_false hb0] at hs0
        have hqu := fun w' (hbb : Below w.heap.size w w') => div_any n _ _ a b w' (HA.out.below hbb) (HB.out.below hbb) (by omega) hb0
        obtain ⟨Q, hQ⟩ : ∃ Q, Q = a.tdiv b := ⟨_, rfl⟩
        obtain ⟨R, hR⟩ : ∃ R, R = a.tmod b := ⟨_, rfl⟩
        rw [← hQ, ← hR] at hqu
        rw [← hQ, ← hR]
        have HQU := Lib.hid hqu
        clear HE HE0 HE1 hb0 hqu hQ hR
        go_enter Try.func36, Try.ntmps36; (try simp only [List.append_eq, List.cons_append, List.nil_append])
        go_wp2_with fail
        -- own blocks: w.heap.size:2, w.heap.size + 1:2, w.heap.size + 1 + 1:2, w.heap.size + 1 + 1 + 1:2
        (go_at_call 50; refine (L1.out _ (by ((with_reducible (repeat (first | exact bR _ _ | refine bS ?_ ?_ _ | refine bA ?_ ?_ _ | refine bD ?_ | refine bT ?_ (by assumption) ?_ | refine bO (by assumption) ?_ ?_))) <;> (first | omega | (simp; done) | (simp <;> omega))))).mono ?_; rintro e w1 ⟨rfl, hb_w1⟩; have hz_w1 := hb_w1.size; (try simp at hz_w1); (with_reducible apply cel2 (b := w.heap.size) hb_w1); (focus ((try simp) <;> omega)); (focus omega); (focus (go_simp; try exact rfl)); (focus (go_simp; try exact rfl)); (focus (intro o; go_simp)); intro cc cc fz hl; (with_reducible apply cel2 (b := w.heap.size + 1) hb_w1); (focus ((try simp) <;> omega)); (focus omega); (focus (go_simp; try exact rfl)); (focus (go_simp; try exact rfl)); (focus (intro o; go_simp)); intro cc cc fz hl; (with_reducible apply cel2 (b := w.heap.size + 1 + 1) hb_w1); (focus ((try simp) <;> omega)); (focus omega); (focus (go_simp; try exact rfl)); (focus (go_simp; try exact rfl)); (focus (intro o; go_simp)); intro cc cc fz hl; (with_reducible apply cel2 (b := w.heap.size + 1 + 1 + 1) hb_w1); (focus ((try simp) <;> omega)); (focus omega); (focus (go_simp; try exact rfl)); (focus (go_simp; try exact rfl)); (focus (intro o; go_simp)); intro cc cc fz hl)
        have HB1 := Lib.hid (show Below w.heap.size w w1 by ((with_reducible (repeat (first | exact bR _ _ | refine bS ?_ ?_ _ | refine bA ?_ ?_ _ | refine bD ?_ | refine bT ?_ (by assumption) ?_ | refine bO (by assumption) ?_ ?_))) <;> (first | omega | (simp; done) | (simp <;> omega))))
        have hz1 : w.heap.size + 1 + 1 + 1 + 1 ≤ w1.heap.size := by omega
        clear hb_w1 hz_w1
        go_wp2_with fail
        (go_at_call 50; refine (L2.out _ HB1.out).mono ?_; rintro e w2 ⟨rfl, hb_w2⟩; have hz_w2 := hb_w2.size; (try simp at hz_w2); (with_reducible apply cel2 (b := w.heap.size) hb_w2); (focus ((try simp) <;> omega)); (focus omega); (focus (go_simp; try exact rfl)); (focus (go_simp; try exact rfl)); (focus (intro o; go_simp)); intro cc cc fz hl; (with_reducible apply cel2 (b := w.heap.size + 1) hb_w2); (focus ((try simp) <;> omega)); (focus omega); (focus (go_simp; try exact rfl)); (focus (go_simp; try exact rfl)); (focus (intro o; go_simp)); intro cc cc fz hl; (with_reducible apply cel2 (b := w.heap.size + 1 + 1) hb_w2); (focus ((try simp) <;> omega)); (focus omega); (focus (go_simp; try exact rfl)); (focus (go_simp; try exact rfl)); (focus (intro o; go_simp)); intro cc cc fz hl; (with_reducible apply cel2 (b := w.heap.size + 1 + 1 + 1) hb_w2); (focus ((try simp) <;> omega)); (focus omega); (focus (go_simp; try exact rfl)); (focus (go_simp; try exact rfl)); (focus (intro o; go_simp)); intro cc cc fz hl)
        have HB2 := Lib.hid (HB1.out.trans (hb_w2.mono (by omega)))
        have hz2 : w.heap.size + 1 + 1 + 1 + 1 ≤ w2.heap.size := by omega
        clear hb_w2 hz_w2
        go_wp2_with fail
        (go_at_call 43; refine (HSG.out _ HB2.out).mono ?_; rintro e w3 ⟨rfl, hb_w3⟩; have hz_w3 := hb_w3.size; (try simp at hz_w3); (with_reducible apply cel2 (b := w.heap.size) hb_w3); (focus ((try simp) <;> omega)); (focus omega); (focus (go_simp; try exact rfl)); (focus (go_simp; try exact rfl)); (focus (intro o; go_simp)); intro cc cc fz hl; (with_reducible apply cel2 (b := w.heap.size + 1) hb_w3); (focus ((try simp) <;> omega)); (focus omega); (focus (go_simp; try exact rfl)); (focus (go_simp; try exact rfl)); (focus (intro o; go_simp)); intro cc cc fz hl; (with_reducible apply cel2 (b := w.heap.size + 1 + 1) hb_w3); (focus ((try simp) <;> omega)); (focus omega); (focus (go_simp; try exact rfl)); (focus (go_simp; try exact rfl)); (focus (intro o; go_simp)); intro cc cc fz hl; (with_reducible apply cel2 (b := w.heap.size + 1 + 1 + 1) hb_w3); (focus ((try simp) <;> omega)); (focus omega); (focus (go_simp; try exact rfl)); (focus (go_simp; try exact rfl)); (focus (intro o; go_simp)); intro cc cc fz hl)
        have HB3 := Lib.hid (HB2.out.trans (hb_w3.mono (by omega)))
        have hz3 : w.heap.size + 1 + 1 + 1 + 1 ≤ w3.heap.size := by omega
        clear hb_w3 hz_w3
        go_wp2_with fail
        (go_at_call 71; refine (HQU.out _ HB3.out).mono ?_; rintro e w4 ⟨hb_w4, _, _, rfl, ⟨A5, c5, rfl, hc5, hA5⟩, ⟨A6, c6, rfl, hc6, hA6⟩⟩; have hz_w4 := hb_w4.size; (try simp at hz_w4); (with_reducible apply cel2 (b := w.heap.size) hb_w4); (focus ((try simp) <;> omega)); (focus omega); (focus (go_simp; try exact rfl)); (focus (go_simp; try exact rfl)); (focus (intro o; go_simp)); intro cc cc fz hl; (with_reducible apply cel2 (b := w.heap.size + 1) hb_w4); (focus ((try simp) <;> omega)); (focus omega); (focus (go_simp; try exact rfl)); (focus (go_simp; try exact rfl)); (focus (intro o; go_simp)); intro cc cc fz hl; (with_reducible apply cel2 (b := w.heap.size + 1 + 1) hb_w4); (focus ((try simp) <;> omega)); (focus omega); (focus (go_simp; try exact rfl)); (focus (go_simp; try exact rfl)); (focus (intro o; go_simp)); intro cc cc fz hl; (with_reducible apply cel2 (b := w.heap.size + 1 + 1 + 1) hb_w4); (focus ((try simp) <;> omega)); (focus omega); (focus (go_simp; try exact rfl)); (focus (go_simp; try exact rfl)); (focus (intro o; go_simp)); intro cc cc fz hl)
        have HB4 := Lib.hid (HB3.out.trans (hb_w4.mono (by omega)))
        have hz4 : w.heap.size + 1 + 1 + 1 + 1 ≤ w4.heap.size := by omega
        have HA5 := Lib.hid hA5
        have HA6 := Lib.hid hA6
        have HC5 := Lib.hid hc5
        have HC6 := Lib.hid hc6
        clear hb_w4 hz_w4 hA5 hA6 hc5 hc6
        go_wp2_with fail
        -- own blocks besides: w4.heap.size:2, w4.heap.size + 1:2
        have HBA := Lib.hid (((Below.refl w4.heap.size w4).alloc (Nat.le_refl _) (.cells #[.bool (decide (Q < 0)), .slice A5 (canN Q.natAbs).length c5] 24)).alloc (by simp) (.cells #[.bool (decide (R < 0)), .slice A6 (canN R.natAbs).length c6] 24))
        (refine pin_wp (N := _) (Nat.le_refl _) (fun w5 hb_w5 hz_w5 => ?_); (try simp at hz_w5); (with_reducible apply cel2 (b := w.heap.size) hb_w5); (focus ((try simp) <;> omega)); (focus omega); (focus (go_simp; try exact rfl)); (focus (go_simp; try exact rfl)); (focus (intro o; go_simp)); intro cc cc fz hl; (with_reducible apply cel2 (b := w.heap.size + 1) hb_w5); (focus ((try simp) <;> omega)); (focus omega); (focus (go_simp; try exact rfl)); (focus (go_simp; try exact rfl)); (focus (intro o; go_simp)); intro cc cc fz hl; (with_reducible apply cel2 (b := w.heap.size + 1 + 1) hb_w5); (focus ((try simp) <;> omega)); (focus omega); (focus (go_simp; try exact rfl)); (focus (go_simp; try exact rfl)); (focus (intro o; go_simp)); intro cc cc fz hl; (with_reducible apply cel2 (b := w.heap.size + 1 + 1 + 1) hb_w5); (focus ((try simp) <;> omega)); (focus omega); (focus (go_simp; try exact rfl)); (focus (go_simp; try exact rfl)); (focus (intro o; go_simp)); intro cc cc fz hl; (with_reducible apply cel2 (b := w4.heap.size) hb_w5); (focus ((try simp) <;> omega)); (focus omega); (focus (go_simp; try exact rfl)); (focus (go_simp; try exact rfl)); (focus (intro o; go_simp)); intro cc cc fz hl; (with_reducible apply cel2 (b := w4.heap.size + 1) hb_w5); (focus ((try simp) <;> omega)); (focus omega); (focus (go_simp; try exact rfl)); (focus (go_simp; try exact rfl)); (focus (intro o; go_simp)); intro cc cc fz hl)
        have HB5 := Lib.hid (HB4.out.trans ((HBA.out.trans (hb_w5.mono (by simp; omega))).mono (by omega)))
        have HA5 := Lib.hid (HA5.out.below (HBA.out.trans (hb_w5.mono (by simp; omega))))
        have HA6 := Lib.hid (HA6.out.below (HBA.out.trans (hb_w5.mono (by simp; omega))))
        have HC1 := Lib.hid (show C2 w5 (w.heap.size + 1 + 1) (.bool false) (.slice none 0 0) from ⟨by assumption, by assumption, by assumption⟩)
        have HC2 := Lib.hid (show C2 w5 (w.heap.size + 1 + 1 + 1) (.bool false) (.slice none 0 0) from ⟨by assumption, by assumption, by assumption⟩)
        have hz5 : w.heap.size + 1 + 1 + 1 + 1 ≤ w5.heap.size := by omega
        clear hb_w5 HBA
        have e1 : ¬ (w.heap.size + 1 + 1 + 1 = w.heap.size + 1 + 1) := by omega
        have e2 : ¬ (w.heap.size + 1 + 1 = w.heap.size + 1 + 1 + 1) := by omega
        have e3 : ¬ (w4.heap.size + 1 = w.heap.size + 1 + 1) := by omega
        have e4 : ¬ (w4.heap.size = w.heap.size + 1 + 1) := by omega
        have e5 : ¬ (w4.heap.size + 1 = w.heap.size + 1 + 1 + 1) := by omega
        have e6 : ¬ (w4.heap.size = w.heap.size + 1 + 1 + 1) := by omega
        go_region
        go_wp2_with fail
        refine bodyPost_ret (v := .tuple #[.agg #[.bool (decide (Q < 0)), .slice A5 (canN Q.natAbs).length c5], .agg #[.bool (decide (R < 0)), .slice A6 (canN R.natAbs).length c6], .int .i64 0]) (by simp only [results, Try.results36]; go_simp) rfl ⟨?_, A5, c5, A6, c6, rfl, HC5.out, HC6.out, ?_, ?_⟩
        · have hfin := HB5.out
          ((with_reducible (repeat (first | exact bR _ _ | refine bS ?_ ?_ _ | refine bA ?_ ?_ _ | refine bD ?_ | refine bT ?_ (by assumption) ?_ | refine bO (by assumption) ?_ ?_))) <;> (first | omega | (simp; done) | (simp <;> omega)))
        · have n2 := HC2.out.far e1 (.bool (decide (Q < 0))) (.slice A5 (canN Q.natAbs).length c5)
          first
            | exact (HA5.out.set2 HC1.out.1 HC1.out.2.1 _ _).set2 n2.1 n2.2.1 _ _
            | exact ((HA5.out.set2 HC1.out.1 HC1.out.2.1 _ _).set2 n2.1 n2.2.1 _ _).drew
        · have n2 := HC2.out.far e1 (.bool (decide (Q < 0))) (.slice A5 (canN Q.natAbs).length c5)
          first
            | exact (HA6.out.set2 HC1.out.1 HC1.out.2.1 _ _).set2 n2.1 n2.2.1 _ _
            | exact ((HA6.out.set2 HC1.out.1 HC1.out.2.1 _ _).set2 n2.1 n2.2.1 _ _).drew
    · rw [HE.out rfl]
      clear HE HE0 HE1
      go_enter Try.func36, Try.ntmps36; (try simp only [List.append_eq, List.cons_append, List.nil_append])
      go_wp2_with fail
      -- own blocks: w.heap.size:2, w.heap.size + 1:2, w.heap.size + 1 + 1:2, w.heap.size + 1 + 1 + 1:2
      (go_at_call 50; refine (L1.out _ (by ((with_reducible (repeat (first | exact bR _ _ | refine bS ?_ ?_ _ | refine bA ?_ ?_ _ | refine bD ?_ | refine bT ?_ (by assumption) ?_ | refine bO (by assumption) ?_ ?_))) <;> (first | omega | (simp; done) | (simp <;> omega))))).mono ?_; rintro e w1 ⟨rfl, hb_w1⟩; have hz_w1 := hb_w1.size; (try simp at hz_w1); (with_reducible apply cel2 (b := w.heap.size) hb_w1); (focus ((try simp) <;> omega)); (focus omega); (focus (go_simp; try exact rfl)); (focus (go_simp; try exact rfl)); (focus (intro o; go_simp)); intro cc cc fz hl; (with_reducible apply cel2 (b := w.heap.size + 1) hb_w1); (focus ((try simp) <;> omega)); (focus omega); (focus (go_simp; try exact rfl)); (focus (go_simp; try exact rfl)); (focus (intro o; go_simp)); intro cc cc fz hl; (with_reducible apply cel2 (b := w.heap.size + 1 + 1) hb_w1); (focus ((try simp) <;> omega)); (focus omega); (focus (go_simp; try exact rfl)); (focus (go_simp; try exact rfl)); (focus (intro o; go_simp)); intro cc cc fz hl; (with_reducible apply cel2 (b := w.heap.size + 1 + 1 + 1) hb_w1); (focus ((try simp) <;> omega)); (focus omega); (focus (go_simp; try exact rfl)); (focus (go_simp; try exact rfl)); (focus (intro o; go_simp)); intro cc cc fz hl)
      have HB1 := Lib.hid (show Below w.heap.size w w1 by ((with_reducible (repeat (first | exact bR _ _ | refine bS ?_ ?_ _ | refine bA ?_ ?_ _ | refine bD ?_ | refine bT ?_ (by assumption) ?_ | refine bO (by assumption) ?_ ?_))) <;> (first | omega | (simp; done) | (simp <;> omega))))
      have hz1 : w.heap.size + 1 + 1 + 1 + 1 ≤ w1.heap.size := by omega
      clear hb_w1 hz_w1
      go_wp2_with fail
      (go_at_call 50; refine (L2.out _ HB1.out).mono ?_; rintro e w2 ⟨rfl, hb_w2⟩; have hz_w2 := hb_w2.size; (try simp at hz_w2); (with_reducible apply cel2 (b := w.heap.size) hb_w2); (focus ((try simp) <;> omega)); (focus omega); (focus (go_simp; try exact rfl)); (focus (go_simp; try exact rfl)); (focus (intro o; go_simp)); intro cc cc fz hl; (with_reducible apply cel2 (b := w.heap.size + 1) hb_w2); (focus ((try simp) <;> omega)); (focus omega); (focus (go_simp; try exact rfl)); (focus (go_simp; try exact rfl)); (focus (intro o; go_simp)); intro cc cc fz hl; (with_reducible apply cel2 (b := w.heap.size + 1 + 1) hb_w2); (focus ((try simp) <;> omega)); (focus omega); (focus (go_simp; try exact rfl)); (focus (go_simp; try exact rfl)); (focus (intro o; go_simp)); intro cc cc fz hl; (with_reducible apply cel2 (b := w.heap.size + 1 + 1 + 1) hb_w2); (focus ((try simp) <;> omega)); (focus omega); (focus (go_simp; try exact rfl)); (focus (go_simp; try exact rfl)); (focus (intro o; go_simp)); intro cc cc fz hl)
      have HB2 := Lib.hid (HB1.out.trans (hb_w2.mono (by omega)))
      have hz2 : w.heap.size + 1 + 1 + 1 + 1 ≤ w2.heap.size := by omega
      clear hb_w2 hz_w2
      go_wp2_with fail
      refine bodyPost_ret (v := .tuple #[.agg #[.bool false, .slice none 0 0], .agg #[.bool false, .slice none 0 0], .int .i64 2]) (by simp only [results, Try.results36]; go_simp) rfl (qout_zero ?_)
      have hfin := HB2.out
      ((with_reducible (repeat (first | exact bR _ _ | refine bS ?_ ?_ _ | refine bA ?_ ?_ _ | refine bD ?_ | refine bT ?_ (by assumption) ?_ | refine bO (by assumption) ?_ ?_))) <;> (first | omega | (simp; done) | (simp <;> omega)))
  · rw [HE.out rfl]
    clear HE HE0 HE1
    go_enter Try.func36, Try.ntmps36; (try simp only [List.append_eq, List.cons_append, List.nil_append])
    go_wp2_with fail
    -- own blocks: w.heap.size:2, w.heap.size + 1:2, w.heap.size + 1 + 1:2, w.heap.size + 1 + 1 + 1:2
    (go_at_call 50; refine (L1.out _ (by ((with_reducible (repeat (first | exact bR _ _ | refine bS ?_ ?_ _ | refine bA ?_ ?_ _ | refine bD ?_ | refine bT ?_ (by assumption) ?_ | refine bO (by assumption) ?_ ?_))) <;> (first | omega | (simp; done) | (simp <;> omega))))).mono ?_; rintro e w1 ⟨rfl, hb_w1⟩; have hz_w1 := hb_w1.size; (try simp at hz_w1); (with_reducible apply cel2 (b := w.heap.size) hb_w1); (focus ((try simp) <;> omega)); (focus omega); (focus (go_simp; try exact rfl)); (focus (go_simp; try exact rfl)); (focus (intro o; go_simp)); intro cc cc fz hl; (with_reducible apply cel2 (b := w.heap.size + 1) hb_w1); (focus ((try simp) <;> omega)); (focus omega); (focus (go_simp; try exact rfl)); (focus (go_simp; try exact rfl)); (focus (intro o; go_simp)); intro cc cc fz hl; (with_reducible apply cel2 (b := w.heap.size + 1 + 1) hb_w1); (focus ((try simp) <;> omega)); (focus omega); (focus (go_simp; try exact rfl)); (focus (go_simp; try exact rfl)); (focus (intro o; go_simp)); intro cc cc fz hl; (with_reducible apply cel2 (b := w.heap.size + 1 + 1 + 1) hb_w1); (focus ((try simp) <;> omega)); (focus omega); (focus (go_simp; try exact rfl)); (focus (go_simp; try exact rfl)); (focus (intro o; go_simp)); intro cc cc fz hl)
    have HB1 := Lib.hid (show Below w.heap.size w w1 by ((with_reducible (repeat (first | exact bR _ _ | refine bS ?_ ?_ _ | refine bA ?_ ?_ _ | refine bD ?_ | refine bT ?_ (by assumption) ?_ | refine bO (by assumption) ?_ ?_))) <;> (first | omega | (simp; done) | (simp <;> omega))))
    have hz1 : w.heap.size + 1 + 1 + 1 + 1 ≤ w1.heap.size := by omega
    clear hb_w1 hz_w1
    go_wp2_with fail
    refine bodyPost_ret (v := .tuple #[.agg #[.bool false, .slice none 0 0], .agg #[.bool false, .slice none 0 0], .int .i64 2]) (by simp only [results, Try.results36]; go_simp) rfl (qout_zero ?_)
    have hfin := HB1.out
    ((with_reducible (repeat (first | exact bR _ _ | refine bS ?_ ?_ _ | refine bA ?_ ?_ _ | refine bD ?_ | refine bT ?_ (by assumption) ?_ | refine bO (by assumption) ?_ ?_))) <;> (first | omega | (simp; done) | (simp <;> omega)))
set_option maxRecDepth 100000 in
set_option maxHeartbeats 4000000 in
theorem rgcd_any (n : Nat) (u v : Value) (a b : Int) (w : World) (ha : IsZ w u n a) (hb : IsZ w v n b) (hn : n ≤ 100000) :
    Calls Try.prog 37 #[u, v] w (EOut (gcdR a b).1 (gcdR a b).2 w) := by
  have HA := Lib.hid ha
  have HB := Lib.hid hb
  obtain ⟨p, A, c, l, rfl⟩ := isZ_val ha
  obtain ⟨p', A', c', l', rfl⟩ := isZ_val hb
  have hL1 := fun w' (hbb : Below w.heap.size w w') => rlarge_any n _ a w' (HA.out.below hbb) (by omega)
  have hL2 := fun w' (hbb : Below w.heap.size w w') => rlarge_any n _ b w' (HB.out.below hbb) (by omega)
  have hco := fun w' (hbb : Below w.heap.size w w') => rcommon_any n _ _ a b w' (HA.out.below hbb) (HB.out.below hbb) (by omega)
  obtain ⟨q1, hq1⟩ : ∃ q, q = lgB a := ⟨_, rfl⟩
  obtain ⟨q2, hq2⟩ : ∃ q, q = lgB b := ⟨_, rfl⟩
  rw [← hq1] at hL1
  rw [← hq2] at hL2
  obtain ⟨G, hG⟩ : ∃ G, G = Nat.gcd a.natAbs b.natAbs := ⟨_, rfl⟩
  rw [← hG] at hco
  have L1 := Lib.hid hL1
  have L2 := Lib.hid hL2
  have HCO := Lib.hid hco
  have HE : Hid ((q1 || q2) = true → gcdR a b = (0, 2)) := Lib.hid (fun h => by unfold gcdR; rw [← hq1, ← hq2, if_pos h])
  have HE1 : Hid (q1 = false → q2 = false → gcdR a b = ((G : Int), 0)) := Lib.hid (fun h1 h2 => by unfold gcdR; rw [← hq1, ← hq2, h1, h2, if_neg (by decide), hG])
  clear ha hb hL1 hL2 hq1 hq2 hco hG
  cases q1
  · cases q2
    · rw [HE1.out rfl rfl]
      clear HE HE1
      go_enter Try.func37, Try.ntmps37; (try simp only [List.append_eq, List.cons_append, List.nil_append])
      go_wp2_with fail
      -- own blocks: w.heap.size:2, w.heap.size + 1:2, w.heap.size + 1 + 1:2
      (go_at_call 50; refine (L1.out _ (by ((with_reducible (repeat (first | exact bR _ _ | refine bS ?_ ?_ _ | refine bA ?_ ?_ _ | refine bD ?_ | refine bT ?_ (by assumption) ?_ | refine bO (by assumption) ?_ ?_))) <;> (first | omega | (simp; done) | (simp <;> omega))))).mono ?_; rintro e w1 ⟨rfl, hb_w1⟩; have hz_w1 := hb_w1.size; (try simp at hz_w1); (with_reducible apply cel2 (b := w.heap.size) hb_w1); (focus ((try simp) <;> omega)); (focus omega); (focus (go_simp; try exact rfl)); (focus (go_simp; try exact rfl)); (focus (intro o; go_simp)); intro cc cc fz hl; (with_reducible apply cel2 (b := w.heap.size + 1) hb_w1); (focus ((try simp) <;> omega)); (focus omega); (focus (go_simp; try exact rfl)); (focus (go_simp; try exact rfl)); (focus (intro o; go_simp)); intro cc cc fz hl; (with_reducible apply cel2 (b := w.heap.size + 1 + 1) hb_w1); (focus ((try simp) <;> omega)); (focus omega); (focus (go_simp; try exact rfl)); (focus (go_simp; try exact rfl)); (focus (intro o; go_simp)); intro cc cc fz hl)
      have HB1 := Lib.hid (show Below w.heap.size w w1 by ((with_reducible (repeat (first | exact bR _ _ | refine bS ?_ ?_ _ | refine bA ?_ ?_ _ | refine bD ?_ | refine bT ?_ (by assumption) ?_ | refine bO (by assumption) ?_ ?_))) <;> (first | omega | (simp; done) | (simp <;> omega))))
      have hz1 : w.heap.size + 1 + 1 + 1 ≤ w1.heap.size := by omega
      clear hb_w1 hz_w1
      go_wp2_with fail
      (go_at_call 50; refine (L2.out _ HB1.out).mono ?_; rintro e w2 ⟨rfl, hb_w2⟩; have hz_w2 := hb_w2.size; (try simp at hz_w2); (with_reducible apply cel2 (b := w.heap.size) hb_w2); (focus ((try simp) <;> omega)); (focus omega); (focus (go_simp; try exact rfl)); (focus (go_simp; try exact rfl)); (focus (intro o; go_simp)); intro cc cc fz hl; (with_reducible apply cel2 (b := w.heap.size + 1) hb_w2); (focus ((try simp) <;> omega)); (focus omega); (focus (go_simp; try exact rfl)); (focus (go_simp; try exact rfl)); (focus (intro o; go_simp)); intro cc cc fz hl; (with_reducible apply cel2 (b := w.heap.size + 1 + 1) hb_w2); (focus ((try simp) <;> omega)); (focus omega); (focus (go_simp; try exact rfl)); (focus (go_simp; try exact rfl)); (focus (intro o; go_simp)); intro cc cc fz hl)
      have HB2 := Lib.hid (HB1.out.trans (hb_w2.mono (by omega)))
      have hz2 : w.heap.size + 1 + 1 + 1 ≤ w2.heap.size := by omega
      clear hb_w2 hz_w2
      go_wp2_with fail
      (go_at_call 72; refine (HCO.out _ HB2.out).mono ?_; rintro e w3 ⟨hb_w3, A5, c5, rfl, hc5, hA5⟩; have hz_w3 := hb_w3.size; (try simp at hz_w3); (with_reducible apply cel2 (b := w.heap.size) hb_w3); (focus ((try simp) <;> omega)); (focus omega); (focus (go_simp; try exact rfl)); (focus (go_simp; try exact rfl)); (focus (intro o; go_simp)); intro cc cc fz hl; (with_reducible apply cel2 (b := w.heap.size + 1) hb_w3); (focus ((try simp) <;> omega)); (focus omega); (focus (go_simp; try exact rfl)); (focus (go_simp; try exact rfl)); (focus (intro o; go_simp)); intro cc cc fz hl; (with_reducible apply cel2 (b := w.heap.size + 1 + 1) hb_w3); (focus ((try simp) <;> omega)); (focus omega); (focus (go_simp; try exact rfl)); (focus (go_simp; try exact rfl)); (focus (intro o; go_simp)); intro cc cc fz hl)
      have HB3 := Lib.hid (HB2.out.trans (hb_w3.mono (by omega)))
      have hz3 : w.heap.size + 1 + 1 + 1 ≤ w3.heap.size := by omega
      have HA5 := Lib.hid hA5
      have HC5 := Lib.hid hc5
      clear hb_w3 hz_w3 hA5 hc5
      go_wp2_with fail
      refine bodyPost_ret (v := .tuple #[.agg #[.bool false, .slice A5 (canN G).length c5], .int .i64 0]) (by simp only [results, Try.results37]; go_simp) rfl (eout_nat ((HB3.out.setCell (by simp <;> omega) _).setCell (by simp <;> omega) _) HC5.out (HA5.out.set2 (by assumption) (by assumption) _ _))
    · rw [HE.out rfl]
      clear HE HE1
      go_enter Try.func37, Try.ntmps37; (try simp only [List.append_eq, List.cons_append, List.nil_append])
      go_wp2_with fail
      -- own blocks: w.heap.size:2, w.heap.size + 1:2, w.heap.size + 1 + 1:2
      (go_at_call 50; refine (L1.out _ (by ((with_reducible (repeat (first | exact bR _ _ | refine bS ?_ ?_ _ | refine bA ?_ ?_ _ | refine bD ?_ | refine bT ?_ (by assumption) ?_ | refine bO (by assumption) ?_ ?_))) <;> (first | omega | (simp; done) | (simp <;> omega))))).mono ?_; rintro e w1 ⟨rfl, hb_w1⟩; have hz_w1 := hb_w1.size; (try simp at hz_w1); (with_reducible apply cel2 (b := w.heap.size) hb_w1); (focus ((try simp) <;> omega)); (focus omega); (focus (go_simp; try exact rfl)); (focus (go_simp; try exact rfl)); (focus (intro o; go_simp)); intro cc cc fz hl; (with_reducible apply cel2 (b := w.heap.size + 1) hb_w1); (focus ((try simp) <;> omega)); (focus omega); (focus (go_simp; try exact rfl)); (focus (go_simp; try exact rfl)); (focus (intro o; go_simp)); intro cc cc fz hl; (with_reducible apply cel2 (b := w.heap.size + 1 + 1) hb_w1); (focus ((try simp) <;> omega)); (focus omega); (focus (go_simp; try exact rfl)); (focus (go_simp; try exact rfl)); (focus (intro o; go_simp)); intro cc cc fz hl)
      have HB1 := Lib.hid (show Below w.heap.size w w1 by ((with_reducible (repeat (first | exact bR _ _ | refine bS ?_ ?_ _ | refine bA ?_ ?_ _ | refine bD ?_ | refine bT ?_ (by assumption) ?_ | refine bO (by assumption) ?_ ?_))) <;> (first | omega | (simp; done) | (simp <;> omega))))
      have hz1 : w.heap.size + 1 + 1 + 1 ≤ w1.heap.size := by omega
      clear hb_w1 hz_w1
      go_wp2_with fail
      (go_at_call 50; refine (L2.out _ HB1.out).mono ?_; rintro e w2 ⟨rfl, hb_w2⟩; have hz_w2 := hb_w2.size; (try simp at hz_w2); (with_reducible apply cel2 (b := w.heap.size) hb_w2); (focus ((try simp) <;> omega)); (focus omega); (focus (go_simp; try exact rfl)); (focus (go_simp; try exact rfl)); (focus (intro o; go_simp)); intro cc cc fz hl; (with_reducible apply cel2 (b := w.heap.size + 1) hb_w2); (focus ((try simp) <;> omega)); (focus omega); (focus (go_simp; try exact rfl)); (focus (go_simp; try exact rfl)); (focus (intro o; go_simp)); intro cc cc fz hl; (with_reducible apply cel2 (b := w.heap.size + 1 + 1) hb_w2); (focus ((try simp) <;> omega)); (focus omega); (focus (go_simp; try exact rfl)); (focus (go_simp; try exact rfl)); (focus (intro o; go_simp)); intro cc cc fz hl)
      have HB2 := Lib.hid (HB1.out.trans (hb_w2.mono (by omega)))
      have hz2 : w.heap.size + 1 + 1 + 1 ≤ w2.heap.size := by omega
      clear hb_w2 hz_w2
      go_wp2_with fail
      refine bodyPost_ret (v := .tuple #[.agg #[.bool false, .slice none 0 0], .int .i64 2]) (by simp only [results, Try.results37]; go_simp) rfl (eout_zero ((HB2.out.setCell (by simp <;> omega) _).setCell (by simp <;> omega) _))
  · rw [HE.out rfl]
    clear HE HE1
    go_enter Try.func37, Try.ntmps37; (try simp only [List.append_eq, List.cons_append, List.nil_append])
    go_wp2_with fail
    -- own blocks: w.heap.size:2, w.heap.size + 1:2, w.heap.size + 1 + 1:2
    (go_at_call 50; refine (L1.out _ (by ((with_reducible (repeat (first | exact bR _ _ | refine bS ?_ ?_ _ | refine bA ?_ ?_ _ | refine bD ?_ | refine bT ?_ (by assumption) ?_ | refine bO (by assumption) ?_ ?_))) <;> (first | omega | (simp; done) | (simp <;> omega))))).mono ?_; rintro e w1 ⟨rfl, hb_w1⟩; have hz_w1 := hb_w1.size; (try simp at hz_w1); (with_reducible apply cel2 (b := w.heap.size) hb_w1); (focus ((try simp) <;> omega)); (focus omega); (focus (go_simp; try exact rfl)); (focus (go_simp; try exact rfl)); (focus (intro o; go_simp)); intro cc cc fz hl; (with_reducible apply cel2 (b := w.heap.size + 1) hb_w1); (focus ((try simp) <;> omega)); (focus omega); (focus (go_simp; try exact rfl)); (focus (go_simp; try exact rfl)); (focus (intro o; go_simp)); intro cc cc fz hl; (with_reducible apply cel2 (b := w.heap.size + 1 + 1) hb_w1); (focus ((try simp) <;> omega)); (focus omega); (focus (go_simp; try exact rfl)); (focus (go_simp; try exact rfl)); (focus (intro o; go_simp)); intro cc cc fz hl)
    have HB1 := Lib.hid (show Below w.heap.size w w1 by ((with_reducible (repeat (first | exact bR _ _ | refine bS ?_ ?_ _ | refine bA ?_ ?_ _ | refine bD ?_ | refine bT ?_ (by assumption) ?_ | refine bO (by assumption) ?_ ?_))) <;> (first | omega | (simp; done) | (simp <;> omega))))
    have hz1 : w.heap.size + 1 + 1 + 1 ≤ w1.heap.size := by omega
    clear hb_w1 hz_w1
    go_wp2_with fail
    refine bodyPost_ret (v := .tuple #[.agg #[.bool false, .slice none 0 0], .int .i64 2]) (by simp only [results, Try.results37]; go_simp) rfl (eout_zero ((HB1.out.setCell (by simp <;> omega) _).setCell (by simp <;> omega) _))
theorem rup_at (n0 : Nat) (u : Value) (z n : Int) (w : World) (hu : IsZ w u n0 z) (hn0 : n0 ≤ 400000) (h0 : 0 ≤ n) (h1 : n ≤ 8256) :
    Calls Try.prog 73 #[u, .int .i64 n] w (ZOut (z * 2 ^ n.toNat) w) := by
  have h := up_any n0 u z (n.toNat / 32) (n.toNat % 32) w hu hn0 (by omega) (by omega)
  rw [pb_pow, show 32 * (n.toNat / 32) + n.toNat % 32 = n.toNat by omega, show (32 * ((n.toNat / 32 : Nat) : Int) + ((n.toNat % 32 : Nat) : Int)) = n by omega] at h
  exact h
theorem rdown_at (n0 : Nat) (u : Value) (z n : Int) (w : World) (hu : IsZ w u n0 z) (hn0 : n0 ≤ 400000) (h0 : 0 ≤ n) (h1 : n ≤ 8256) :
    Calls Try.prog 74 #[u, .int .i64 n] w (ZOut (z / 2 ^ n.toNat) w) := by
  have h := down_any n0 u z (n.toNat / 32) (n.toNat % 32) w hu hn0 (by omega) (by omega)
  rw [pb_pow, show 32 * (n.toNat / 32) + n.toNat % 32 = n.toNat by omega, show (32 * ((n.toNat / 32 : Nat) : Int) + ((n.toNat % 32 : Nat) : Int)) = n by omega] at h
  exact h
set_option maxHeartbeats 1000000 in
theorem rtrim_any (n : Nat) (v : Value) (z : Int) (w : World) (h : IsZ w v n z) (hn : n ≤ 1000000) :
    Calls Try.prog 40 #[v] w (ZOut z w) := by
  obtain ⟨neg, A, c, l, rfl, hc, hL, hl, hA, rfl⟩ := h
  have hm := fun w hA => make1_any neg A l c w hL hA hc (by omega)
  obtain ⟨Z, hZ⟩ : ∃ Z, Z = sv neg (mv l) := ⟨_, rfl⟩
  rw [← hZ] at hm ⊢
  have HM := Lib.hid hm
  have HA := Lib.hid hA
  clear hm hA hZ
  go_enter Try.func40, Try.ntmps40; (try simp only [List.append_eq, List.cons_append, List.nil_append])
  go_wp2_with fail
  -- own blocks: w.heap.size:2, w.heap.size + 1:2
  (go_at_call 49; refine (HM.out _ ((HA.out.alloc _).alloc _)).mono ?_; rintro e w1 ⟨hb_w1, v1, rfl, hv1⟩; have hz_w1 := hb_w1.size; (try simp at hz_w1); (with_reducible apply cel2 (b := w.heap.size) hb_w1); (focus ((try simp) <;> omega)); (focus omega); (focus (go_simp; try exact rfl)); (focus (go_simp; try exact rfl)); (focus (intro o; go_simp)); intro cc cc fz hl; (with_reducible apply cel2 (b := w.heap.size + 1) hb_w1); (focus ((try simp) <;> omega)); (focus omega); (focus (go_simp; try exact rfl)); (focus (go_simp; try exact rfl)); (focus (intro o; go_simp)); intro cc cc fz hl)
  obtain ⟨A1, c1, rfl, hc1, hA1⟩ := hv1
  have HC := Lib.hid hc1
  have HA1 := Lib.hid hA1
  clear hc1 hA1
  go_wp2_with fail
  refine bodyPost_ret (v := .agg #[.bool (decide (Z < 0)), .slice A1 (canN Z.natAbs).length c1]) (by simp only [results, Try.results40]; go_simp) rfl ⟨?_, ?_⟩
  · ((with_reducible (repeat (first | exact bR _ _ | refine bS ?_ ?_ _ | refine bA ?_ ?_ _ | refine bD ?_ | refine bT ?_ (by assumption) ?_ | refine bO (by assumption) ?_ ?_))) <;> (first | omega | (simp; done) | (simp <;> omega)))
  · exact ⟨_, rfl, A1, c1, rfl, HC.out, HA1.out.set2 (by assumption) (by assumption) _ _⟩
theorem ediv_big {a D : Int} (h : (a.natAbs : Int) < D) : a / D = if a < 0 then -1 else 0 := by
  have hD : 0 < D := by omega
  by_cases ha : a < 0
  · rw [if_pos ha]
    refine (Int.ediv_emod_unique (r := a + D) hD).2 ⟨by omega, by omega, by omega⟩ |>.1
  · rw [if_neg ha]
    exact Int.ediv_eq_zero_of_lt (by omega) (by omega)
theorem shift_far {a : Int} (hl : lgB a = false) (m : Nat) : a / 2 ^ (min m 8256) = a / 2 ^ (min m 8192) := by
  by_cases h : m ≤ 8192
  · rw [Nat.min_eq_left (by omega), Nat.min_eq_left h]
  · have hb : (a.natAbs : Int) < 2 ^ 8192 := by
      unfold lgB at hl
      rw [decide_eq_false_iff_not] at hl
      have h1 := canN_len.1 (Nat.le_of_not_lt hl)
      rwa [PB_pow] at h1
    have hb2 : (a.natAbs : Int) < 2 ^ (min m 8256) := by
      have : (2 : Int) ^ 8192 < 2 ^ (min m 8256) := pow2_lt (by omega)
      omega
    rw [Nat.min_eq_right (by omega : 8192 ≤ m), ediv_big hb, ediv_big hb2]
set_option maxRecDepth 100000 in
set_option maxHeartbeats 4000000 in
theorem rshift_any (n0 : Nat) (u : Value) (a n : Int) (w : World) (ha : IsZ w u n0 a) (hn0 : n0 ≤ 100000) (h1 : -9223372036854775808 ≤ n) (h2 : n ≤ 9223372036854775807) :
    Calls Try.prog 38 #[u, .int .i64 n] w (EOut (shiftR a n).1 (shiftR a n).2 w) := by
  have HA := Lib.hid ha
  have hla := isZ_len ha
  obtain ⟨p, A, c, l, rfl⟩ := isZ_val ha
  obtain ⟨q, hq⟩ : ∃ q, q = lgB a := ⟨_, rfl⟩
  have hlo := fun w' (hbb : Below w.heap.size w w') => rlarge_any n0 _ a w' (HA.out.below hbb) (by omega)
  rw [← hq] at hlo
  have HLO := Lib.hid hlo
  have hsg := fun w' (hbb : Below w.heap.size w w') => sign_any n0 _ a w' (HA.out.below hbb) (by omega)
  have hs0 := @sgn0 a
  obtain ⟨s, hs⟩ : ∃ s, s = sgn a := ⟨_, rfl⟩
  rw [← hs] at hsg hs0
  have HSG := Lib.hid hsg
  clear ha hlo hsg hs
  cases hqq : q
  · by_cases ha0 : a = 0
    · have e : shiftR a n = (0, 0) := by unfold shiftR; rw [← hq, hqq, if_pos ha0]; rfl
      rw [decide_eq_true ha0] at hs0
      rw [e]
      subst hqq
      clear hq e ha0
      go_enter Try.func38, Try.ntmps38; (try simp only [List.append_eq, List.cons_append, List.nil_append])
      go_wp2_with fail
      -- own blocks: w.heap.size:2, w.heap.size + 1:2
      (go_at_call 50; refine (HLO.out _ (by ((with_reducible (repeat (first | exact bR _ _ | refine bS ?_ ?_ _ | refine bA ?_ ?_ _ | refine bD ?_ | refine bT ?_ (by assumption) ?_ | refine bO (by assumption) ?_ ?_))) <;> (first | omega | (simp; done) | (simp <;> omega))))).mono ?_; rintro e w1 ⟨rfl, hb_w1⟩; have hz_w1 := hb_w1.size; (try simp at hz_w1); (with_reducible apply cel2 (b := w.heap.size) hb_w1); (focus ((try simp) <;> omega)); (focus omega); (focus (go_simp; try exact rfl)); (focus (go_simp; try exact rfl)); (focus (intro o; go_simp)); intro cc cc fz hl; (with_reducible apply cel2 (b := w.heap.size + 1) hb_w1); (focus ((try simp) <;> omega)); (focus omega); (focus (go_simp; try exact rfl)); (focus (go_simp; try exact rfl)); (focus (intro o; go_simp)); intro cc cc fz hl)
      have HB1 := Lib.hid (show Below w.heap.size w w1 by ((with_reducible (repeat (first | exact bR _ _ | refine bS ?_ ?_ _ | refine bA ?_ ?_ _ | refine bD ?_ | refine bT ?_ (by assumption) ?_ | refine bO (by assumption) ?_ ?_))) <;> (first | omega | (simp; done) | (simp <;> omega))))
      have hz1 : w.heap.size + 1 + 1 ≤ w1.heap.size := by omega
      clear hb_w1 hz_w1
      go_wp2_with fail
      (go_at_call 43; refine (HSG.out _ HB1.out).mono ?_; rintro e w2 ⟨rfl, hb_w2⟩; have hz_w2 := hb_w2.size; (try simp at hz_w2); (with_reducible apply cel2 (b := w.heap.size) hb_w2); (focus ((try simp) <;> omega)); (focus omega); (focus (go_simp; try exact rfl)); (focus (go_simp; try exact rfl)); (focus (intro o; go_simp)); intro cc cc fz hl; (with_reducible apply cel2 (b := w.heap.size + 1) hb_w2); (focus ((try simp) <;> omega)); (focus omega); (focus (go_simp; try exact rfl)); (focus (go_simp; try exact rfl)); (focus (intro o; go_simp)); intro cc cc fz hl)
      have HB2 := Lib.hid (HB1.out.trans (hb_w2.mono (by omega)))
      have hz2 : w.heap.size + 1 + 1 ≤ w2.heap.size := by omega
      clear hb_w2 hz_w2
      go_wp2_with fail
      refine bodyPost_ret (v := .tuple #[.agg #[.bool false, .slice none 0 0], .int .i64 0]) (by simp only [results, Try.results38]; go_simp) rfl (eout_zero ((HB2.out.setCell (by simp <;> omega) _).setCell (by simp <;> omega) _))
    · rw [decide_eq_false ha0] at hs0
      by_cases hbig : 8192 < n
      · have e : shiftR a n = (0, 2) := by unfold shiftR; rw [← hq, hqq, if_neg ha0, if_pos hbig]; rfl
        rw [e]
        subst hqq
        clear hq e ha0
        go_enter Try.func38, Try.ntmps38; (try simp only [List.append_eq, List.cons_append, List.nil_append])
        go_wp2_with fail
        -- own blocks: w.heap.size:2, w.heap.size + 1:2
        (go_at_call 50; refine (HLO.out _ (by ((with_reducible (repeat (first | exact bR _ _ | refine bS ?_ ?_ _ | refine bA ?_ ?_ _ | refine bD ?_ | refine bT ?_ (by assumption) ?_ | refine bO (by assumption) ?_ ?_))) <;> (first | omega | (simp; done) | (simp <;> omega))))).mono ?_; rintro e w1 ⟨rfl, hb_w1⟩; have hz_w1 := hb_w1.size; (try simp at hz_w1); (with_reducible apply cel2 (b := w.heap.size) hb_w1); (focus ((try simp) <;> omega)); (focus omega); (focus (go_simp; try exact rfl)); (focus (go_simp; try exact rfl)); (focus (intro o; go_simp)); intro cc cc fz hl; (with_reducible apply cel2 (b := w.heap.size + 1) hb_w1); (focus ((try simp) <;> omega)); (focus omega); (focus (go_simp; try exact rfl)); (focus (go_simp; try exact rfl)); (focus (intro o; go_simp)); intro cc cc fz hl)
        have HB1 := Lib.hid (show Below w.heap.size w w1 by ((with_reducible (repeat (first | exact bR _ _ | refine bS ?_ ?_ _ | refine bA ?_ ?_ _ | refine bD ?_ | refine bT ?_ (by assumption) ?_ | refine bO (by assumption) ?_ ?_))) <;> (first | omega | (simp; done) | (simp <;> omega))))
        have hz1 : w.heap.size + 1 + 1 ≤ w1.heap.size := by omega
        clear hb_w1 hz_w1
        go_wp2_with fail
        (go_at_call 43; refine (HSG.out _ HB1.out).mono ?_; rintro e w2 ⟨rfl, hb_w2⟩; have hz_w2 := hb_w2.size; (try simp at hz_w2); (with_reducible apply cel2 (b := w.heap.size) hb_w2); (focus ((try simp) <;> omega)); (focus omega); (focus (go_simp; try exact rfl)); (focus (go_simp; try exact rfl)); (focus (intro o; go_simp)); intro cc cc fz hl; (with_reducible apply cel2 (b := w.heap.size + 1) hb_w2); (focus ((try simp) <;> omega)); (focus omega); (focus (go_simp; try exact rfl)); (focus (go_simp; try exact rfl)); (focus (intro o; go_simp)); intro cc cc fz hl)
        have HB2 := Lib.hid (HB1.out.trans (hb_w2.mono (by omega)))
        have hz2 : w.heap.size + 1 + 1 ≤ w2.heap.size := by omega
        clear hb_w2 hz_w2
        go_wp2_with fail
        refine bodyPost_ret (v := .tuple #[.agg #[.bool false, .slice none 0 0], .int .i64 2]) (by simp only [results, Try.results38]; go_simp) rfl (eout_zero ((HB2.out.setCell (by simp <;> omega) _).setCell (by simp <;> omega) _))
      · by_cases hneg : n < 0
        · have hfar := shift_far (hq.symm.trans hqq) (-n).toNat
          by_cases hlow : n < -8256
          · have e : shiftR a n = (a / 2 ^ (8256 : Int).toNat, 0) := by
              unfold shiftR; rw [← hq, hqq, if_neg ha0, if_neg hbig, if_pos hneg, if_neg (by decide), show (min (-n) 8192).toNat = min (-n).toNat 8192 by omega, ← hfar, show min (-n).toNat 8256 = (8256 : Int).toNat by omega]
            have hop := fun w' (hbb : Below w.heap.size w w') => rdown_at n0 _ a 8256 w' (HA.out.below hbb) (by omega) (by omega) (by omega)
            obtain ⟨Z, hZ⟩ : ∃ Z, Z = a / 2 ^ (8256 : Int).toNat := ⟨_, rfl⟩
            rw [← hZ] at hop e
            rw [e]
            subst hqq
            have HOP := Lib.hid hop
            clear hq e ha0 hop hZ hfar
            go_enter Try.func38, Try.ntmps38; (try simp only [List.append_eq, List.cons_append, List.nil_append])
            go_wp2_with fail
            -- own blocks: w.heap.size:2, w.heap.size + 1:2
            (go_at_call 50; refine (HLO.out _ (by ((with_reducible (repeat (first | exact bR _ _ | refine bS ?_ ?_ _ | refine bA ?_ ?_ _ | refine bD ?_ | refine bT ?_ (by assumption) ?_ | refine bO (by assumption) ?_ ?_))) <;> (first | omega | (simp; done) | (simp <;> omega))))).mono ?_; rintro e w1 ⟨rfl, hb_w1⟩; have hz_w1 := hb_w1.size; (try simp at hz_w1); (with_reducible apply cel2 (b := w.heap.size) hb_w1); (focus ((try simp) <;> omega)); (focus omega); (focus (go_simp; try exact rfl)); (focus (go_simp; try exact rfl)); (focus (intro o; go_simp)); intro cc cc fz hl; (with_reducible apply cel2 (b := w.heap.size + 1) hb_w1); (focus ((try simp) <;> omega)); (focus omega); (focus (go_simp; try exact rfl)); (focus (go_simp; try exact rfl)); (focus (intro o; go_simp)); intro cc cc fz hl)
            have HB1 := Lib.hid (show Below w.heap.size w w1 by ((with_reducible (repeat (first | exact bR _ _ | refine bS ?_ ?_ _ | refine bA ?_ ?_ _ | refine bD ?_ | refine bT ?_ (by assumption) ?_ | refine bO (by assumption) ?_ ?_))) <;> (first | omega | (simp; done) | (simp <;> omega))))
            have hz1 : w.heap.size + 1 + 1 ≤ w1.heap.size := by omega
            clear hb_w1 hz_w1
            go_wp2_with fail
            (go_at_call 43; refine (HSG.out _ HB1.out).mono ?_; rintro e w2 ⟨rfl, hb_w2⟩; have hz_w2 := hb_w2.size; (try simp at hz_w2); (with_reducible apply cel2 (b := w.heap.size) hb_w2); (focus ((try simp) <;> omega)); (focus omega); (focus (go_simp; try exact rfl)); (focus (go_simp; try exact rfl)); (focus (intro o; go_simp)); intro cc cc fz hl; (with_reducible apply cel2 (b := w.heap.size + 1) hb_w2); (focus ((try simp) <;> omega)); (focus omega); (focus (go_simp; try exact rfl)); (focus (go_simp; try exact rfl)); (focus (intro o; go_simp)); intro cc cc fz hl)
            have HB2 := Lib.hid (HB1.out.trans (hb_w2.mono (by omega)))
            have hz2 : w.heap.size + 1 + 1 ≤ w2.heap.size := by omega
            clear hb_w2 hz_w2
            go_wp2_with fail
            (go_at_call 74; refine (HOP.out _ HB2.out).mono ?_; rintro e w3 ⟨hb_w3, v3, rfl, A3, c3, rfl, hc3, hA3⟩; have hz_w3 := hb_w3.size; (try simp at hz_w3); (with_reducible apply cel2 (b := w.heap.size) hb_w3); (focus ((try simp) <;> omega)); (focus omega); (focus (go_simp; try exact rfl)); (focus (go_simp; try exact rfl)); (focus (intro o; go_simp)); intro cc cc fz hl; (with_reducible apply cel2 (b := w.heap.size + 1) hb_w3); (focus ((try simp) <;> omega)); (focus omega); (focus (go_simp; try exact rfl)); (focus (go_simp; try exact rfl)); (focus (intro o; go_simp)); intro cc cc fz hl)
            have HC3 := Lib.hid hc3
            have HA3 := Lib.hid hA3
            clear hc3 hA3
            go_wp2_with fail
            refine bodyPost_ret (v := .tuple #[.agg #[.bool (decide (Z < 0)), .slice A3 (canN Z.natAbs).length c3], .int .i64 0]) (by simp only [results, Try.results38]; go_simp) rfl ⟨?_, ?_⟩
            · exact HB2.out.trans (by ((with_reducible (repeat (first | exact bR _ _ | refine bS ?_ ?_ _ | refine bA ?_ ?_ _ | refine bD ?_ | refine bT ?_ (by assumption) ?_ | refine bO (by assumption) ?_ ?_))) <;> (first | omega | (simp; done) | (simp <;> omega))))
            · exact ⟨A3, c3, rfl, HC3.out, HA3.out.set2 (by assumption) (by assumption) _ _⟩
          · have e : shiftR a n = (a / 2 ^ (-n).toNat, 0) := by
              unfold shiftR; rw [← hq, hqq, if_neg ha0, if_neg hbig, if_pos hneg, if_neg (by decide), show (min (-n) 8192).toNat = min (-n).toNat 8192 by omega, ← hfar, show min (-n).toNat 8256 = (-n).toNat by omega]
            have hop := fun w' (hbb : Below w.heap.size w w') => rdown_at n0 _ a (-n) w' (HA.out.below hbb) (by omega) (by omega) (by omega)
            obtain ⟨Z, hZ⟩ : ∃ Z, Z = a / 2 ^ (-n).toNat := ⟨_, rfl⟩
            rw [← hZ] at hop e
            rw [e]
            subst hqq
            have HOP := Lib.hid hop
            clear hq e ha0 hop hZ hfar
            go_enter Try.func38, Try.ntmps38; (try simp only [List.append_eq, List.cons_append, List.nil_append])
            go_wp2_with fail
            -- own blocks: w.heap.size:2, w.heap.size + 1:2
            (go_at_call 50; refine (HLO.out _ (by ((with_reducible (repeat (first | exact bR _ _ | refine bS ?_ ?_ _ | refine bA ?_ ?_ _ | refine bD ?_ | refine bT ?_ (by assumption) ?_ | refine bO (by assumption) ?_ ?_))) <;> (first | omega | (simp; done) | (simp <;> omega))))).mono ?_; rintro e w1 ⟨rfl, hb_w1⟩; have hz_w1 := hb_w1.size; (try simp at hz_w1); (with_reducible apply cel2 (b := w.heap.size) hb_w1); (focus ((try simp) <;> omega)); (focus omega); (focus (go_simp; try exact rfl)); (focus (go_simp; try exact rfl)); (focus (intro o; go_simp)); intro cc cc fz hl; (with_reducible apply cel2 (b := w.heap.size + 1) hb_w1); (focus ((try simp) <;> omega)); (focus omega); (focus (go_simp; try exact rfl)); (focus (go_simp; try exact rfl)); (focus (intro o; go_simp)); intro cc cc fz hl)
            have HB1 := Lib.hid (show Below w.heap.size w w1 by ((with_reducible (repeat (first | exact bR _ _ | refine bS ?_ ?_ _ | refine bA ?_ ?_ _ | refine bD ?_ | refine bT ?_ (by assumption) ?_ | refine bO (by assumption) ?_ ?_))) <;> (first | omega | (simp; done) | (simp <;> omega))))
            have hz1 : w.heap.size + 1 + 1 ≤ w1.heap.size := by omega
            clear hb_w1 hz_w1
            go_wp2_with fail
            (go_at_call 43; refine (HSG.out _ HB1.out).mono ?_; rintro e w2 ⟨rfl, hb_w2⟩; have hz_w2 := hb_w2.size; (try simp at hz_w2); (with_reducible apply cel2 (b := w.heap.size) hb_w2); (focus ((try simp) <;> omega)); (focus omega); (focus (go_simp; try exact rfl)); (focus (go_simp; try exact rfl)); (focus (intro o; go_simp)); intro cc cc fz hl; (with_reducible apply cel2 (b := w.heap.size + 1) hb_w2); (focus ((try simp) <;> omega)); (focus omega); (focus (go_simp; try exact rfl)); (focus (go_simp; try exact rfl)); (focus (intro o; go_simp)); intro cc cc fz hl)
            have HB2 := Lib.hid (HB1.out.trans (hb_w2.mono (by omega)))
            have hz2 : w.heap.size + 1 + 1 ≤ w2.heap.size := by omega
            clear hb_w2 hz_w2
            go_wp2_with fail
            (go_at_call 74; refine (HOP.out _ HB2.out).mono ?_; rintro e w3 ⟨hb_w3, v3, rfl, A3, c3, rfl, hc3, hA3⟩; have hz_w3 := hb_w3.size; (try simp at hz_w3); (with_reducible apply cel2 (b := w.heap.size) hb_w3); (focus ((try simp) <;> omega)); (focus omega); (focus (go_simp; try exact rfl)); (focus (go_simp; try exact rfl)); (focus (intro o; go_simp)); intro cc cc fz hl; (with_reducible apply cel2 (b := w.heap.size + 1) hb_w3); (focus ((try simp) <;> omega)); (focus omega); (focus (go_simp; try exact rfl)); (focus (go_simp; try exact rfl)); (focus (intro o; go_simp)); intro cc cc fz hl)
            have HC3 := Lib.hid hc3
            have HA3 := Lib.hid hA3
            clear hc3 hA3
            go_wp2_with fail
            refine bodyPost_ret (v := .tuple #[.agg #[.bool (decide (Z < 0)), .slice A3 (canN Z.natAbs).length c3], .int .i64 0]) (by simp only [results, Try.results38]; go_simp) rfl ⟨?_, ?_⟩
            · exact HB2.out.trans (by ((with_reducible (repeat (first | exact bR _ _ | refine bS ?_ ?_ _ | refine bA ?_ ?_ _ | refine bD ?_ | refine bT ?_ (by assumption) ?_ | refine bO (by assumption) ?_ ?_))) <;> (first | omega | (simp; done) | (simp <;> omega))))
            · exact ⟨A3, c3, rfl, HC3.out, HA3.out.set2 (by assumption) (by assumption) _ _⟩
        · have e : shiftR a n = sizedR (a * 2 ^ n.toNat) := by
            unfold shiftR; rw [← hq, hqq, if_neg ha0, if_neg hbig, if_neg hneg]; rfl
          have hop := fun w' (hbb : Below w.heap.size w w') => rup_at n0 _ a n w' (HA.out.below hbb) (by omega) (by omega) (by omega)
          have hlen := len_shl (k := n.toNat) hla (by omega)
          obtain ⟨Z, hZ⟩ : ∃ Z, Z = a * 2 ^ n.toNat := ⟨_, rfl⟩
          rw [← hZ] at hop e hlen
          have e2 : sizedR Z = szR a a Z := by rw [szR_eq, ← hq, hqq]; rfl
          have hsz := fun t w' (hbb : Below w.heap.size w w') h => rsized_any (n0 + 257) _ _ t a a Z w' ((HA.out.below hbb).upto (by omega)) ((HA.out.below hbb).upto (by omega)) h hlen (by omega)
          rw [e, e2]
          obtain ⟨r1, r2, hr⟩ : ∃ r1 r2, szR a a Z = (r1, r2) := ⟨_, _, rfl⟩
          rw [hr] at hsz ⊢
          subst hqq
          have HOP := Lib.hid hop
          have HSZ := Lib.hid hsz
          clear hq e e2 ha0 hop hZ hsz hr hlen
          go_enter Try.func38, Try.ntmps38; (try simp only [List.append_eq, List.cons_append, List.nil_append])
          go_wp2_with fail
          -- own blocks: w.heap.size:2, w.heap.size + 1:2
          (go_at_call 50; refine (HLO.out _ (by ((with_reducible (repeat (first | exact bR _ _ | refine bS ?_ ?_ _ | refine bA ?_ ?_ _ | refine bD ?_ | refine bT ?_ (by assumption) ?_ | refine bO (by assumption) ?_ ?_))) <;> (first | omega | (simp; done) | (simp <;> omega))))).mono ?_; rintro e w1 ⟨rfl, hb_w1⟩; have hz_w1 := hb_w1.size; (try simp at hz_w1); (with_reducible apply cel2 (b := w.heap.size) hb_w1); (focus ((try simp) <;> omega)); (focus omega); (focus (go_simp; try exact rfl)); (focus (go_simp; try exact rfl)); (focus (intro o; go_simp)); intro cc cc fz hl; (with_reducible apply cel2 (b := w.heap.size + 1) hb_w1); (focus ((try simp) <;> omega)); (focus omega); (focus (go_simp; try exact rfl)); (focus (go_simp; try exact rfl)); (focus (intro o; go_simp)); intro cc cc fz hl)
          have HB1 := Lib.hid (show Below w.heap.size w w1 by ((with_reducible (repeat (first | exact bR _ _ | refine bS ?_ ?_ _ | refine bA ?_ ?_ _ | refine bD ?_ | refine bT ?_ (by assumption) ?_ | refine bO (by assumption) ?_ ?_))) <;> (first | omega | (simp; done) | (simp <;> omega))))
          have hz1 : w.heap.size + 1 + 1 ≤ w1.heap.size := by omega
          clear hb_w1 hz_w1
          go_wp2_with fail
          (go_at_call 43; refine (HSG.out _ HB1.out).mono ?_; rintro e w2 ⟨rfl, hb_w2⟩; have hz_w2 := hb_w2.size; (try simp at hz_w2); (with_reducible apply cel2 (b := w.heap.size) hb_w2); (focus ((try simp) <;> omega)); (focus omega); (focus (go_simp; try exact rfl)); (focus (go_simp; try exact rfl)); (focus (intro o; go_simp)); intro cc cc fz hl; (with_reducible apply cel2 (b := w.heap.size + 1) hb_w2); (focus ((try simp) <;> omega)); (focus omega); (focus (go_simp; try exact rfl)); (focus (go_simp; try exact rfl)); (focus (intro o; go_simp)); intro cc cc fz hl)
          have HB2 := Lib.hid (HB1.out.trans (hb_w2.mono (by omega)))
          have hz2 : w.heap.size + 1 + 1 ≤ w2.heap.size := by omega
          clear hb_w2 hz_w2
          go_wp2_with fail
          (refine pin_wp (N := _) (Nat.le_refl _) (fun w4 hb_w4 hz_w4 => ?_); (try simp at hz_w4); (with_reducible apply cel2 (b := w.heap.size) hb_w4); (focus ((try simp) <;> omega)); (focus omega); (focus (go_simp; try exact rfl)); (focus (go_simp; try exact rfl)); (focus (intro o; go_simp)); intro cc cc fz hl; (with_reducible apply cel2 (b := w.heap.size + 1) hb_w4); (focus ((try simp) <;> omega)); (focus omega); (focus (go_simp; try exact rfl)); (focus (go_simp; try exact rfl)); (focus (intro o; go_simp)); intro cc cc fz hl); refine wp_region_float w4.heap.size 8 (Nat.le_refl _) (fun _ => True) trivial Cl.tt (by kernel_rfl) (by simp) ?_
          have HB4 := Lib.hid (HB2.out.trans (hb_w4.mono (by omega)))
          have hz4 : w.heap.size + 1 + 1 ≤ w4.heap.size := by omega
          clear hb_w4
          refine wpI_start [0, 1, 2, 3] ?_; (iterate 4 (first | (refine wpI_off rfl (by kernel_rfl) rfl (fun K hK => ?_); go_simp; refine hK _ ?_; clear hK K) | ((first | apply wpI_step rfl (by kernel_rfl) rfl | apply wpI_on rfl (by kernel_rfl) rfl); (focus (intro W' hS; have hcS := hS.cells.1; have hfS := hS.cells.2; go_simp; (first | done | exact rfl | exact ⟨rfl, Below.refl _ _⟩ | (go_simp; first | done | exact rfl | exact ⟨rfl, Below.refl _ _⟩)))); intro K hK; go_simp; (try go_bits); refine hK _ ?_; clear hK K))); refine wpI_nil ?_
          apply wpF_call (i := 4) rfl (by kernel_rfl) (by kernel_rfl); intro W hF hS; have hcS := hS.1.cells.1; have hfS := hS.1.cells.2; go_simp; (go_at_call 73; refine (HOP.out _ (HB4.out.trans (hS.1.2.mono (by omega)))).mono ?_; rintro e w5 ⟨hb_w5, v5, rfl, hv5⟩; refine XPost.mk _ (fun W => IsC W v5 Z) hb_w5 (hv5) (IsC.cl _ _) ?_); clear hb_w5 hcS hfS hS hF
          intro K hK; go_simp; (try go_bits); refine hK _ ?_; clear hK K
          clear hv5
          apply wpF_call (i := 5) rfl (by kernel_rfl) (by kernel_rfl); intro W hF hS; have hcS := hS.1.cells.1; have hfS := hS.1.cells.2; go_simp; (go_at_call 67; refine (HSZ.out _ _ (HB4.out.trans (hS.1.2.mono (by omega))) hF).mono ?_; rintro e w6 ⟨hb_w6, A6, c6, rfl, hc6, hA6⟩; refine XPost.mk _ (fun W => LAt W A6 (canN r1.natAbs)) hb_w6 (hA6) (LAt.cl _ _) ?_); clear hb_w6 hcS hfS hS hF
          intro K hK; go_simp; (try go_bits); refine hK _ ?_; clear hK K
          have HC6 := Lib.hid hc6
          clear hA6 hc6
          refine wpI_start [6, 7] ?_; (iterate 2 (first | (refine wpI_off rfl (by kernel_rfl) rfl (fun K hK => ?_); go_simp; refine hK _ ?_; clear hK K) | ((first | apply wpI_step rfl (by kernel_rfl) rfl | apply wpI_on rfl (by kernel_rfl) rfl); (focus (intro W' hS; have hcS := hS.cells.1; have hfS := hS.cells.2; go_simp; (first | done | exact rfl | exact ⟨rfl, Below.refl _ _⟩ | (go_simp; first | done | exact rfl | exact ⟨rfl, Below.refl _ _⟩)))); intro K hK; go_simp; (try go_bits); refine hK _ ?_; clear hK K))); refine wpI_nil ?_
          refine wpF_done (by kernel_rfl) ?_
          intro w11 hF_w11 hSG
          have hz_w11 := hSG.1.1
          have hb_w11 := hSG.1.2
          clear hSG
          (with_reducible apply cel2 (b := w.heap.size) hb_w11); (focus ((try simp) <;> omega)); (focus omega); (focus (go_simp; try exact rfl)); (focus (go_simp; try exact rfl)); (focus (intro o; go_simp)); intro cc cc fz hl; (with_reducible apply cel2 (b := w.heap.size + 1) hb_w11); (focus ((try simp) <;> omega)); (focus omega); (focus (go_simp; try exact rfl)); (focus (go_simp; try exact rfl)); (focus (intro o; go_simp)); intro cc cc fz hl
          (try simp only [List.drop_succ_cons, List.drop_zero])
          have HB11 := Lib.hid (HB4.out.trans (hb_w11.mono (by omega)))
          have HL6 := Lib.hid hF_w11.2
          clear hb_w11 hF_w11
          go_wp2_with fail
          refine bodyPost_ret (v := .tuple #[.agg #[.bool (decide (r1 < 0)), .slice A6 (canN r1.natAbs).length c6], .int .i64 r2]) (by simp only [results, Try.results38]; go_simp) rfl ⟨?_, ?_⟩
          · exact (HB11.out.setCell (by simp <;> omega) _).setCell (by simp <;> omega) _
          · exact ⟨A6, c6, rfl, HC6.out, HL6.out.set2 (by assumption) (by assumption) _ _⟩
  · have e : shiftR a n = (0, 2) := by unfold shiftR; rw [← hq, hqq]; rfl
    rw [e]
    subst hqq
    clear hq e hs0
    go_enter Try.func38, Try.ntmps38; (try simp only [List.append_eq, List.cons_append, List.nil_append])
    go_wp2_with fail
    -- own blocks: w.heap.size:2, w.heap.size + 1:2
    (go_at_call 50; refine (HLO.out _ (by ((with_reducible (repeat (first | exact bR _ _ | refine bS ?_ ?_ _ | refine bA ?_ ?_ _ | refine bD ?_ | refine bT ?_ (by assumption) ?_ | refine bO (by assumption) ?_ ?_))) <;> (first | omega | (simp; done) | (simp <;> omega))))).mono ?_; rintro e w1 ⟨rfl, hb_w1⟩; have hz_w1 := hb_w1.size; (try simp at hz_w1); (with_reducible apply cel2 (b := w.heap.size) hb_w1); (focus ((try simp) <;> omega)); (focus omega); (focus (go_simp; try exact rfl)); (focus (go_simp; try exact rfl)); (focus (intro o; go_simp)); intro cc cc fz hl; (with_reducible apply cel2 (b := w.heap.size + 1) hb_w1); (focus ((try simp) <;> omega)); (focus omega); (focus (go_simp; try exact rfl)); (focus (go_simp; try exact rfl)); (focus (intro o; go_simp)); intro cc cc fz hl)
    have HB1 := Lib.hid (show Below w.heap.size w w1 by ((with_reducible (repeat (first | exact bR _ _ | refine bS ?_ ?_ _ | refine bA ?_ ?_ _ | refine bD ?_ | refine bT ?_ (by assumption) ?_ | refine bO (by assumption) ?_ ?_))) <;> (first | omega | (simp; done) | (simp <;> omega))))
    have hz1 : w.heap.size + 1 + 1 ≤ w1.heap.size := by omega
    clear hb_w1 hz_w1
    go_wp2_with fail
    refine bodyPost_ret (v := .tuple #[.agg #[.bool false, .slice none 0 0], .int .i64 2]) (by simp only [results, Try.results38]; go_simp) rfl (eout_zero ((HB1.out.setCell (by simp <;> omega) _).setCell (by simp <;> omega) _))
set_option maxRecDepth 100000 in
set_option maxHeartbeats 2000000 in
theorem rbits_any (n : Nat) (v : Value) (z : Int) (w : World) (h : IsZ w v n z) (hn : n ≤ 400000) :
    Calls Try.prog 44 #[v] w fun e w' => e = .returned (.int .i64 (bitN z.natAbs)) ∧ Below w.heap.size w w' := by
  obtain ⟨p, A, c, l, rfl, hc, hL, hl, hAt, ea, ma, ca⟩ := isZ_open h
  have hma := fun w' (h : Below w.heap.size w w') => mag_any A l c w' hL (hAt.below h) hc (by omega)
  rw [ma] at hma
  obtain ⟨x, hx⟩ : ∃ x, x = z.natAbs := ⟨_, rfl⟩
  rw [← hx] at hma ca ⊢
  obtain ⟨ln, hln⟩ : ∃ q, q = l.length := ⟨_, rfl⟩
  rw [← hln] at hma ⊢
  have HMA := Lib.hid hma
  clear hma hAt ea ma h hx hc hL hl hln
  have HC := Lib.hid ca
  go_enter Try.func44, Try.ntmps44; (try simp only [List.append_eq, List.cons_append, List.nil_append])
  go_wp2_with fail
  -- own blocks: w.heap.size:2
  (go_at_call 53; refine (HMA.out _ (by ((with_reducible (repeat (first | exact bR _ _ | refine bS ?_ ?_ _ | refine bA ?_ ?_ _ | refine bD ?_ | refine bT ?_ (by assumption) ?_ | refine bO (by assumption) ?_ ?_))) <;> (first | omega | (simp; done) | (simp <;> omega))))).mono ?_; rintro e w1 ⟨hb_w1, A1, c1, rfl, hc1, hA1⟩; have hz_w1 := hb_w1.size; (try simp at hz_w1); (with_reducible apply cel2 (b := w.heap.size) hb_w1); (focus ((try simp) <;> omega)); (focus omega); (focus (go_simp; try exact rfl)); (focus (go_simp; try exact rfl)); (focus (intro o; go_simp)); intro cc cc fz hl)
  have HB1 := Lib.hid (show Below w.heap.size w w1 by ((with_reducible (repeat (first | exact bR _ _ | refine bS ?_ ?_ _ | refine bA ?_ ?_ _ | refine bD ?_ | refine bT ?_ (by assumption) ?_ | refine bO (by assumption) ?_ ?_))) <;> (first | omega | (simp; done) | (simp <;> omega))))
  clear hb_w1
  by_cases h0 : x = 0
  · subst h0
    clear hA1 HC ca
    rw [canN_zero]
    simp only [List.length_nil]
    go_wp2_with fail
    go_ret
    exact ⟨rfl, HB1.out⟩
  · have hl0 : (canN x).length ≠ 0 := fun e => h0 (canN_len0.1 e)
    obtain ⟨m, hm⟩ : ∃ m, (canN x).length = m + 1 := ⟨(canN x).length - 1, by omega⟩
    obtain ⟨t, ht⟩ : ∃ t, (canN x)[m]? = some t := ⟨(canN x)[m], by simp⟩
    have hbt := bitN_limbs hm ht
    obtain ⟨t0, t1⟩ := (canN_lim x).get ht
    obtain ⟨g, o, rfl, hg, hcell⟩ := hA1 m t ht
    rw [hm]
    obtain ⟨tn, rfl⟩ : ∃ tn : Nat, t = tn := ⟨t.toNat, by omega⟩
    rw [Int.toNat_natCast] at hbt
    have HBT := Lib.hid hbt
    have hm1 : (m : Int) + 1 ≤ 400000 := by omega
    have HT := Lib.hid (show tn < 4294967296 from by omega)
    have t2 : (tn : Int) < 4294967296 := t1
    obtain ⟨xi, hxi⟩ : ∃ xi : Int, xi = (tn : Int) := ⟨_, rfl⟩
    rw [← hxi] at hcell t2
    have HXI := Lib.hid hxi
    have x00 : 0 ≤ xi := by omega
    have c10 : (m : Int) + 1 ≤ (c1 : Int) := by omega
    have e0 : (((m + 1 : Nat) : Int) == 0) = false := by rw [beq_eq_false_iff_ne]; omega
    have e1 : (((m : Int) + 1) == 0) = false := by rw [beq_eq_false_iff_ne]; omega
    clear ca hbt ht hl0 h0 hA1 HC hc1 t0 t1 hxi hm
    go_wp2_with fail
    go_loop [4, 5] (fun vn vx => ∃ (n' : Nat) (x : Int), vn = .int .i64 n' ∧ vx = .int .u32 x ∧ 0 ≤ x ∧ x < 4294967296 ∧ n' ≤ 13000000 ∧ Hid (n' + Lib.bitLen x.toNat = 32 * m + Lib.bitLen tn)) (fun _ vx => (intOf vx).toNat)
    case atStart =>
      refine ⟨32 * m, xi, by go_num, rfl, x00, t2, by omega, Lib.hid ?_⟩
      rw [show xi.toNat = tn by have := HXI.out; omega]
    case round =>
      obtain ⟨n', x, rfl, rfl, x0, x1, hn', HI⟩ := hrel
      have n0 : (0 : Int) ≤ (n' : Int) := by omega
      have n1 : (n' : Int) ≤ 13000000 := by omega
      by_cases hx : 0 < x
      · have hlen : Lib.bitLen x.toNat ≤ 32 := Lib.bitLen_le _ 32 (by decide) (by omega)
        have hhf := Lib.bitLen_half x.toNat (by omega) (by omega)
        have HST := Lib.hid (show (n' + 1) + Lib.bitLen (x / 2).toNat = 32 * m + Lib.bitLen tn by
          have h1 := HI.out
          rw [hhf] at h1
          rw [show (x / 2).toNat = x.toNat / 2 by omega]
          omega)
        have hB : Lib.bitLen tn ≤ 32 := Lib.bitLen_le _ 32 (by decide) (by have := HT.out; omega)
        have hnn : n' + 1 ≤ 13000000 := by have := HST.out; omega
        clear hlen hhf hB
        go_wp2_with fail
        go_round
        case rel => exact ⟨n' + 1, x / 2, by go_num, by go_num, by omega, by omega, hnn, HST⟩
        case measure => simp [intOf]; omega
      · have hx0 : x = 0 := by omega
        have HF := Lib.hid (show n' = 32 * m + Lib.bitLen tn by
          have h1 := HI.out
          rw [hx0] at h1
          have : Lib.bitLen (0 : Int).toNat = 0 := rfl
          omega)
        clear hx0
        go_wp2_with fail
        go_ret
        refine ⟨?_, HB1.out⟩
        rw [HF.out, HBT.out]
        rfl
end Go.Proofs.Ytadkcipjcmkoiaa
