/- The contracts of integer.Quo, Gcd, Text, Shift. -/
import Derived.Test.YtadkcipjcmkoiaaIb
namespace Go.Proofs.Ytadkcipjcmkoiaa
open Go Go.RowKit
set_option linter.unusedVariables false
/-- The results of Quo. -/
def quoR (a b : Int) : Int × Int × Int := if lgB a || lgB b then (0, 0, 2) else if b = 0 then (0, 0, 3) else (a.tdiv b, a.tmod b, 0)
def QOut (q r er : Int) (w : World) (e : Ending) (w' : World) : Prop := Below w.heap.size w w' ∧ ∃ A c B d, e = .returned (.tuple #[.agg #[.bool (decide (q < 0)), .slice A (canN q.natAbs).length c], .agg #[.bool (decide (r < 0)), .slice B (canN r.natAbs).length d], .int .i64 er]) ∧ (canN q.natAbs).length ≤ c ∧ (canN r.natAbs).length ≤ d ∧ LAt w' A (canN q.natAbs) ∧ LAt w' B (canN r.natAbs)
theorem qout_zero {er : Int} {w w' : World} (hb : Below w.heap.size w w') : QOut 0 0 er w (.returned (.tuple #[.agg #[.bool false, .slice none 0 0], .agg #[.bool false, .slice none 0 0], .int .i64 er])) w' := by
  have e := show canN (0 : Int).natAbs = [] from canN_zero
  refine ⟨hb, none, 0, none, 0, ?_, ?_, ?_, ?_, ?_⟩
  · rw [zero_val]
  · rw [e]; exact Nat.le_refl _
  · rw [e]; exact Nat.le_refl _
  · rw [e]; exact LAt.nil _ _
  · rw [e]; exact LAt.nil _ _
theorem sgn0 {b : Int} : (sgn b == 0) = decide (b = 0) := by
  unfold sgn
  by_cases h : b = 0
  · rw [if_pos h, decide_eq_true h]; rfl
  · rw [if_neg h, decide_eq_false h]; split <;> rfl
set_option maxRecDepth 100000 in
set_option maxHeartbeats 4000000 in
theorem iquo_any (n : Nat) (u v : Value) (a b : Int) (w : World) (ha : IsZ w u n a) (hb : IsZ w v n b) (hn : n ≤ 100000) :
    Calls Try.prog 22 #[u, v] w (QOut (quoR a b).1 (quoR a b).2.1 (quoR a b).2.2 w) := by
  have HA := Lib.hid ha
  have HB := Lib.hid hb
  obtain ⟨p, A, c, l, rfl⟩ := isZ_val ha
  obtain ⟨p', A', c', l', rfl⟩ := isZ_val hb
  obtain ⟨q, hq⟩ : ∃ q, q = (lgB a || lgB b) := ⟨_, rfl⟩
  have hlo := fun g w' hg h0 h1 h2 h3 (hbb : Below w.heap.size w w') => large_two n g (.bool p) (.slice A l c) (.bool p') (.slice A' l' c') a b w' hg h0 h1 h2 h3 (HA.out.below hbb) (HB.out.below hbb) (by omega)
  rw [← hq] at hlo
  have HLO := Lib.hid hlo
  have hsg := fun w' (hbb : Below w.heap.size w w') => wsign_any n _ b w' (HB.out.below hbb) (by omega)
  have hs0 := @sgn0 b
  obtain ⟨s, hs⟩ : ∃ s, s = sgn b := ⟨_, rfl⟩
  rw [← hs] at hsg hs0
  have HSG := Lib.hid hsg
  clear ha hb hlo hsg hs
  cases hqq : q
  · by_cases hb0 : b = 0
    · have e : quoR a b = (0, 0, 3) := by unfold quoR; rw [← hq, hqq, if_pos hb0]; rfl
      rw [decide_eq_true hb0] at hs0
      rw [e]
      subst hqq
      clear hq e hb0
      go_enter Try.func22, Try.ntmps22; (try simp only [List.append_eq, List.cons_append, List.nil_append])
      go_wp2_with fail
      -- own blocks: w.heap.size:2, w.heap.size + 1:2, w.heap.size + 1 + 1:2, w.heap.size + 1 + 1 + 1:2
      (go_at_call 51; refine (HLO.out _ _ (by simp) (by go_simp) (by go_simp) (by go_simp) (by go_simp) (by ((with_reducible (repeat (first | exact bR _ _ | refine bS ?_ ?_ _ | refine bA ?_ ?_ _ | refine bD ?_ | refine bT ?_ (by assumption) ?_ | refine bO (by assumption) ?_ ?_))) <;> (first | omega | (simp; done) | (simp <;> omega))))).mono ?_; rintro e w1 ⟨rfl, hb_w1⟩; have hz_w1 := hb_w1.size; (try simp at hz_w1); (with_reducible apply cel2 (b := w.heap.size) hb_w1); (focus ((try simp) <;> omega)); (focus omega); (focus (go_simp; try exact rfl)); (focus (go_simp; try exact rfl)); (focus (intro o; go_simp)); intro cc cc fz hl; (with_reducible apply cel2 (b := w.heap.size + 1) hb_w1); (focus ((try simp) <;> omega)); (focus omega); (focus (go_simp; try exact rfl)); (focus (go_simp; try exact rfl)); (focus (intro o; go_simp)); intro cc cc fz hl; (with_reducible apply cel2 (b := w.heap.size + 1 + 1) hb_w1); (focus ((try simp) <;> omega)); (focus omega); (focus (go_simp; try exact rfl)); (focus (go_simp; try exact rfl)); (focus (intro o; go_simp)); intro cc cc fz hl; (with_reducible apply cel2 (b := w.heap.size + 1 + 1 + 1) hb_w1); (focus ((try simp) <;> omega)); (focus omega); (focus (go_simp; try exact rfl)); (focus (go_simp; try exact rfl)); (focus (intro o; go_simp)); intro cc cc fz hl)
      have HB1 := Lib.hid (show Below w.heap.size w w1 by ((with_reducible (repeat (first | exact bR _ _ | refine bS ?_ ?_ _ | refine bA ?_ ?_ _ | refine bD ?_ | refine bT ?_ (by assumption) ?_ | refine bO (by assumption) ?_ ?_))) <;> (first | omega | (simp; done) | (simp <;> omega))))
      have hz1 : w.heap.size + 1 + 1 + 1 + 1 ≤ w1.heap.size := by omega
      clear hb_w1 hz_w1
      go_wp2_with fail
      (go_at_call 56; refine (HSG.out _ HB1.out).mono ?_; rintro e w2 ⟨rfl, hb_w2⟩; have hz_w2 := hb_w2.size; (try simp at hz_w2); (with_reducible apply cel2 (b := w.heap.size) hb_w2); (focus ((try simp) <;> omega)); (focus omega); (focus (go_simp; try exact rfl)); (focus (go_simp; try exact rfl)); (focus (intro o; go_simp)); intro cc cc fz hl; (with_reducible apply cel2 (b := w.heap.size + 1) hb_w2); (focus ((try simp) <;> omega)); (focus omega); (focus (go_simp; try exact rfl)); (focus (go_simp; try exact rfl)); (focus (intro o; go_simp)); intro cc cc fz hl; (with_reducible apply cel2 (b := w.heap.size + 1 + 1) hb_w2); (focus ((try simp) <;> omega)); (focus omega); (focus (go_simp; try exact rfl)); (focus (go_simp; try exact rfl)); (focus (intro o; go_simp)); intro cc cc fz hl; (with_reducible apply cel2 (b := w.heap.size + 1 + 1 + 1) hb_w2); (focus ((try simp) <;> omega)); (focus omega); (focus (go_simp; try exact rfl)); (focus (go_simp; try exact rfl)); (focus (intro o; go_simp)); intro cc cc fz hl)
      have HB2 := Lib.hid (HB1.out.trans (hb_w2.mono (by omega)))
      have hz2 : w.heap.size + 1 + 1 + 1 + 1 ≤ w2.heap.size := by omega
      clear hb_w2 hz_w2
      go_wp2_with fail
      refine bodyPost_ret (v := .tuple #[.agg #[.bool false, .slice none 0 0], .agg #[.bool false, .slice none 0 0], .int .i64 3]) (by simp only [results, Try.results22]; go_simp) rfl (qout_zero ?_)
      have hfin := HB2.out
      ((with_reducible (repeat (first | exact bR _ _ | refine bS ?_ ?_ _ | refine bA ?_ ?_ _ | refine bD ?_ | refine bT ?_ (by assumption) ?_ | refine bO (by assumption) ?_ ?_))) <;> (first | omega | (simp; done) | (simp <;> omega)))
    · have e : quoR a b = (a.tdiv b, a.tmod b, 0) := by unfold quoR; rw [← hq, hqq, if_neg hb0]; rfl
      rw [decide_eq_false hb0] at hs0
      have hqu := fun w' (hbb : Below w.heap.size w w') => wquo_any n _ _ a b w' (HA.out.below hbb) (HB.out.below hbb) (by omega) hb0
      obtain ⟨Q, hQ⟩ : ∃ Q, Q = a.tdiv b := ⟨_, rfl⟩
      obtain ⟨R, hR⟩ : ∃ R, R = a.tmod b := ⟨_, rfl⟩
      rw [← hQ, ← hR] at hqu
      rw [e, ← hQ, ← hR]
      have HQU := Lib.hid hqu
      subst hqq
      clear hq e hb0 hqu hQ hR
      go_enter Try.func22, Try.ntmps22; (try simp only [List.append_eq, List.cons_append, List.nil_append])
      go_wp2_with fail
      -- own blocks: w.heap.size:2, w.heap.size + 1:2, w.heap.size + 1 + 1:2, w.heap.size + 1 + 1 + 1:2
      (go_at_call 51; refine (HLO.out _ _ (by simp) (by go_simp) (by go_simp) (by go_simp) (by go_simp) (by ((with_reducible (repeat (first | exact bR _ _ | refine bS ?_ ?_ _ | refine bA ?_ ?_ _ | refine bD ?_ | refine bT ?_ (by assumption) ?_ | refine bO (by assumption) ?_ ?_))) <;> (first | omega | (simp; done) | (simp <;> omega))))).mono ?_; rintro e w1 ⟨rfl, hb_w1⟩; have hz_w1 := hb_w1.size; (try simp at hz_w1); (with_reducible apply cel2 (b := w.heap.size) hb_w1); (focus ((try simp) <;> omega)); (focus omega); (focus (go_simp; try exact rfl)); (focus (go_simp; try exact rfl)); (focus (intro o; go_simp)); intro cc cc fz hl; (with_reducible apply cel2 (b := w.heap.size + 1) hb_w1); (focus ((try simp) <;> omega)); (focus omega); (focus (go_simp; try exact rfl)); (focus (go_simp; try exact rfl)); (focus (intro o; go_simp)); intro cc cc fz hl; (with_reducible apply cel2 (b := w.heap.size + 1 + 1) hb_w1); (focus ((try simp) <;> omega)); (focus omega); (focus (go_simp; try exact rfl)); (focus (go_simp; try exact rfl)); (focus (intro o; go_simp)); intro cc cc fz hl; (with_reducible apply cel2 (b := w.heap.size + 1 + 1 + 1) hb_w1); (focus ((try simp) <;> omega)); (focus omega); (focus (go_simp; try exact rfl)); (focus (go_simp; try exact rfl)); (focus (intro o; go_simp)); intro cc cc fz hl)
      have HB1 := Lib.hid (show Below w.heap.size w w1 by ((with_reducible (repeat (first | exact bR _ _ | refine bS ?_ ?_ _ | refine bA ?_ ?_ _ | refine bD ?_ | refine bT ?_ (by assumption) ?_ | refine bO (by assumption) ?_ ?_))) <;> (first | omega | (simp; done) | (simp <;> omega))))
      have hz1 : w.heap.size + 1 + 1 + 1 + 1 ≤ w1.heap.size := by omega
      clear hb_w1 hz_w1
      go_wp2_with fail
      (go_at_call 56; refine (HSG.out _ HB1.out).mono ?_; rintro e w2 ⟨rfl, hb_w2⟩; have hz_w2 := hb_w2.size; (try simp at hz_w2); (with_reducible apply cel2 (b := w.heap.size) hb_w2); (focus ((try simp) <;> omega)); (focus omega); (focus (go_simp; try exact rfl)); (focus (go_simp; try exact rfl)); (focus (intro o; go_simp)); intro cc cc fz hl; (with_reducible apply cel2 (b := w.heap.size + 1) hb_w2); (focus ((try simp) <;> omega)); (focus omega); (focus (go_simp; try exact rfl)); (focus (go_simp; try exact rfl)); (focus (intro o; go_simp)); intro cc cc fz hl; (with_reducible apply cel2 (b := w.heap.size + 1 + 1) hb_w2); (focus ((try simp) <;> omega)); (focus omega); (focus (go_simp; try exact rfl)); (focus (go_simp; try exact rfl)); (focus (intro o; go_simp)); intro cc cc fz hl; (with_reducible apply cel2 (b := w.heap.size + 1 + 1 + 1) hb_w2); (focus ((try simp) <;> omega)); (focus omega); (focus (go_simp; try exact rfl)); (focus (go_simp; try exact rfl)); (focus (intro o; go_simp)); intro cc cc fz hl)
      have HB2 := Lib.hid (HB1.out.trans (hb_w2.mono (by omega)))
      have hz2 : w.heap.size + 1 + 1 + 1 + 1 ≤ w2.heap.size := by omega
      clear hb_w2 hz_w2
      go_wp2_with fail
      (go_at_call 61; refine (HQU.out _ HB2.out).mono ?_; rintro e w3 ⟨hb_w3, _, _, rfl, ⟨A5, c5, rfl, hc5, hA5⟩, ⟨A6, c6, rfl, hc6, hA6⟩⟩; have hz_w3 := hb_w3.size; (try simp at hz_w3); (with_reducible apply cel2 (b := w.heap.size) hb_w3); (focus ((try simp) <;> omega)); (focus omega); (focus (go_simp; try exact rfl)); (focus (go_simp; try exact rfl)); (focus (intro o; go_simp)); intro cc cc fz hl; (with_reducible apply cel2 (b := w.heap.size + 1) hb_w3); (focus ((try simp) <;> omega)); (focus omega); (focus (go_simp; try exact rfl)); (focus (go_simp; try exact rfl)); (focus (intro o; go_simp)); intro cc cc fz hl; (with_reducible apply cel2 (b := w.heap.size + 1 + 1) hb_w3); (focus ((try simp) <;> omega)); (focus omega); (focus (go_simp; try exact rfl)); (focus (go_simp; try exact rfl)); (focus (intro o; go_simp)); intro cc cc fz hl; (with_reducible apply cel2 (b := w.heap.size + 1 + 1 + 1) hb_w3); (focus ((try simp) <;> omega)); (focus omega); (focus (go_simp; try exact rfl)); (focus (go_simp; try exact rfl)); (focus (intro o; go_simp)); intro cc cc fz hl)
      have HB3 := Lib.hid (HB2.out.trans (hb_w3.mono (by omega)))
      have hz3 : w.heap.size + 1 + 1 + 1 + 1 ≤ w3.heap.size := by omega
      have HA5 := Lib.hid hA5
      have HA6 := Lib.hid hA6
      have HC5 := Lib.hid hc5
      have HC6 := Lib.hid hc6
      have HC1 := Lib.hid (show C2 w3 (w.heap.size + 1 + 1) (.bool false) (.slice none 0 0) from ⟨by assumption, by assumption, by assumption⟩)
      have HC2 := Lib.hid (show C2 w3 (w.heap.size + 1 + 1 + 1) (.bool false) (.slice none 0 0) from ⟨by assumption, by assumption, by assumption⟩)
      clear hb_w3 hz_w3 hA5 hA6 hc5 hc6
      go_wp2_with fail
      have e1 : ¬ (w.heap.size + 1 + 1 + 1 = w.heap.size + 1 + 1) := by omega
      have e2 : ¬ (w.heap.size + 1 + 1 = w.heap.size + 1 + 1 + 1) := by omega
      have k1 := HC1.out
      have k2 := HC2.out.far e1 (.bool (decide (Q < 0))) (.slice A5 (canN Q.natAbs).length c5)
      have m1 := (HC1.out.set (.bool (decide (Q < 0))) (.slice A5 (canN Q.natAbs).length c5)).far e2 (.bool (decide (R < 0))) (.slice A6 (canN R.natAbs).length c6)
      have m2 := k2.set (.bool (decide (R < 0))) (.slice A6 (canN R.natAbs).length c6)
      have l5 := Lib.hid ((HA5.out.set2 k1.1 k1.2.1 (.bool (decide (Q < 0))) (.slice A5 (canN Q.natAbs).length c5)).set2 k2.1 k2.2.1 (.bool (decide (R < 0))) (.slice A6 (canN R.natAbs).length c6))
      have l6 := Lib.hid ((HA6.out.set2 k1.1 k1.2.1 (.bool (decide (Q < 0))) (.slice A5 (canN Q.natAbs).length c5)).set2 k2.1 k2.2.1 (.bool (decide (R < 0))) (.slice A6 (canN R.natAbs).length c6))
      have hb4 := (((HB3.out.setCell (p := ⟨w.heap.size + 1 + 1, 0, none⟩) (by simp <;> omega) (.bool (decide (Q < 0)))).setCell (p := ⟨w.heap.size + 1 + 1, 1, none⟩) (by simp <;> omega) (.slice A5 (canN Q.natAbs).length c5)).setCell (p := ⟨w.heap.size + 1 + 1 + 1, 0, none⟩) (by simp <;> omega) (.bool (decide (R < 0)))).setCell (p := ⟨w.heap.size + 1 + 1 + 1, 1, none⟩) (by simp <;> omega) (.slice A6 (canN R.natAbs).length c6)
      have HM1 := Lib.hid m1
      have HM2 := Lib.hid m2
      have HB4 := Lib.hid hb4
      clear k1 k2 m1 m2 hb4
      refine pin_wp (N := _) (Nat.le_refl _) (fun w4 hb_w4 hz_w4 => ?_)
      have HM1 := Lib.hid (HM1.out.below hb_w4)
      have HM2 := Lib.hid (HM2.out.below hb_w4)
      have l5 := Lib.hid (l5.out.below hb_w4)
      have l6 := Lib.hid (l6.out.below hb_w4)
      have HB4 := Lib.hid (HB4.out.trans (hb_w4.mono (by simp [World.setCell]; omega)))
      have a0 := HM1.out.1
      have a1 := HM1.out.2.1
      have a2 := HM1.out.2.2
      have a3 := HM1.out.lt
      have b0 := HM2.out.1
      have b1 := HM2.out.2.1
      have b2 := HM2.out.2.2
      have b3 := HM2.out.lt
      clear hb_w4 hz_w4
      go_region
      go_wp2_with fail
      refine bodyPost_ret (v := .tuple #[.agg #[.bool (decide (Q < 0)), .slice A5 (canN Q.natAbs).length c5], .agg #[.bool (decide (R < 0)), .slice A6 (canN R.natAbs).length c6], .int .i64 0]) (by simp only [results, Try.results22]; go_simp) rfl ⟨?_, A5, c5, A6, c6, rfl, HC5.out, HC6.out, ?_, ?_⟩
      · have hfin := HB4.out
        ((with_reducible (repeat (first | exact bR _ _ | refine bS ?_ ?_ _ | refine bA ?_ ?_ _ | refine bD ?_ | refine bT ?_ (by assumption) ?_ | refine bO (by assumption) ?_ ?_))) <;> (first | omega | (simp; done) | (simp <;> omega)))
      · have n2 := (HM2.out.far e1 (.bool (decide (Q < 0))) (.slice A5 (canN Q.natAbs).length c5))
        first
          | exact (l5.out.set2 a0 a1 _ _).set2 n2.1 n2.2.1 _ _
          | exact ((l5.out.set2 a0 a1 _ _).set2 n2.1 n2.2.1 _ _).drew
      · have n2 := (HM2.out.far e1 (.bool (decide (Q < 0))) (.slice A5 (canN Q.natAbs).length c5))
        first
          | exact (l6.out.set2 a0 a1 _ _).set2 n2.1 n2.2.1 _ _
          | exact ((l6.out.set2 a0 a1 _ _).set2 n2.1 n2.2.1 _ _).drew
  · have e : quoR a b = (0, 0, 2) := by unfold quoR; rw [← hq, hqq]; rfl
    rw [e]
    subst hqq
    clear hq e hs0
    go_enter Try.func22, Try.ntmps22; (try simp only [List.append_eq, List.cons_append, List.nil_append])
    go_wp2_with fail
    -- own blocks: w.heap.size:2, w.heap.size + 1:2, w.heap.size + 1 + 1:2, w.heap.size + 1 + 1 + 1:2
    (go_at_call 51; refine (HLO.out _ _ (by simp) (by go_simp) (by go_simp) (by go_simp) (by go_simp) (by ((with_reducible (repeat (first | exact bR _ _ | refine bS ?_ ?_ _ | refine bA ?_ ?_ _ | refine bD ?_ | refine bT ?_ (by assumption) ?_ | refine bO (by assumption) ?_ ?_))) <;> (first | omega | (simp; done) | (simp <;> omega))))).mono ?_; rintro e w1 ⟨rfl, hb_w1⟩; have hz_w1 := hb_w1.size; (try simp at hz_w1); (with_reducible apply cel2 (b := w.heap.size) hb_w1); (focus ((try simp) <;> omega)); (focus omega); (focus (go_simp; try exact rfl)); (focus (go_simp; try exact rfl)); (focus (intro o; go_simp)); intro cc cc fz hl; (with_reducible apply cel2 (b := w.heap.size + 1) hb_w1); (focus ((try simp) <;> omega)); (focus omega); (focus (go_simp; try exact rfl)); (focus (go_simp; try exact rfl)); (focus (intro o; go_simp)); intro cc cc fz hl; (with_reducible apply cel2 (b := w.heap.size + 1 + 1) hb_w1); (focus ((try simp) <;> omega)); (focus omega); (focus (go_simp; try exact rfl)); (focus (go_simp; try exact rfl)); (focus (intro o; go_simp)); intro cc cc fz hl; (with_reducible apply cel2 (b := w.heap.size + 1 + 1 + 1) hb_w1); (focus ((try simp) <;> omega)); (focus omega); (focus (go_simp; try exact rfl)); (focus (go_simp; try exact rfl)); (focus (intro o; go_simp)); intro cc cc fz hl)
    have HB1 := Lib.hid (show Below w.heap.size w w1 by ((with_reducible (repeat (first | exact bR _ _ | refine bS ?_ ?_ _ | refine bA ?_ ?_ _ | refine bD ?_ | refine bT ?_ (by assumption) ?_ | refine bO (by assumption) ?_ ?_))) <;> (first | omega | (simp; done) | (simp <;> omega))))
    go_wp2_with fail
    refine bodyPost_ret (v := .tuple #[.agg #[.bool false, .slice none 0 0], .agg #[.bool false, .slice none 0 0], .int .i64 2]) (by simp only [results, Try.results22]; go_simp) rfl (qout_zero ?_)
    ((with_reducible (repeat (first | exact bR _ _ | refine bS ?_ ?_ _ | refine bA ?_ ?_ _ | refine bD ?_ | refine bT ?_ (by assumption) ?_ | refine bO (by assumption) ?_ ?_))) <;> (first | omega | (simp; done) | (simp <;> omega)))
end Go.Proofs.Ytadkcipjcmkoiaa
