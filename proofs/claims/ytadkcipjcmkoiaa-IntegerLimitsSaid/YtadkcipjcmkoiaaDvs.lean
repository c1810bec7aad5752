/- positive and divides of the laws of layer 1. -/
import Derived.Test.YtadkcipjcmkoiaaLenZ
namespace Go.Proofs.Ytadkcipjcmkoiaa
open Go Go.RowKit
set_option linter.unusedVariables false
theorem IsZ.set2 {w : World} {v : Value} {n : Nat} {z : Int} (h : IsZ w v n z) {b : Nat} {b0 : Bool} {a : Option Addr} {m c : Nat} (h0 : w.cell? ⟨b, 0, none⟩ = some (.bool b0)) (h1 : w.cell? ⟨b, 1, none⟩ = some (.slice a m c)) (x y : Value) :
    IsZ ((w.setCell ⟨b, 0, none⟩ x).setCell ⟨b, 1, none⟩ y) v n z := by
  obtain ⟨neg, A, d, l, h2, h3, h4, h5, h6, h7⟩ := h
  exact ⟨neg, A, d, l, h2, h3, h4, h5, h6.set2 h0 h1 x y, h7⟩
def POut (n : Nat) (z : Int) (w : World) (e : Ending) (w' : World) : Prop := Below w.heap.size w w' ∧ ∃ v, e = .returned v ∧ IsZ w' v n z
set_option maxHeartbeats 2000000 in
theorem positive_any (n : Nat) (v : Value) (z : Int) (w : World) (h : IsZ w v n z) (hn : n ≤ 1000000) :
    Calls Try.prog 25 #[v] w (POut n (z.natAbs : Int) w) := by
  have H := Lib.hid h
  have lz := isZ_len h
  obtain ⟨p, A, c, l, rfl⟩ := isZ_val h
  have hsg := fun w' (hb : Below w.heap.size w w') => isign_any n _ z w' (H.out.below hb) hn
  have hng := fun w' (hb : Below w.heap.size w w') => ineg_any n _ z w' (H.out.below hb) hn
  by_cases hz : z < 0
  · have e : ((z.natAbs : Nat) : Int) = -z := by omega
    rw [e]
    rw [show sgn z = -1 by unfold sgn; rw [if_neg (by omega), if_pos hz]] at hsg
    have lm : (canN (-z).natAbs).length ≤ n := by rw [Int.natAbs_neg]; exact lz
    obtain ⟨M, hM⟩ : ∃ M, M = -z := ⟨_, rfl⟩
    rw [← hM] at hng lm ⊢
    have HSG := Lib.hid hsg
    have HNG := Lib.hid hng
    have LM := Lib.hid lm
    clear hsg hng h e hM lm
    go_enter Try.func25, Try.ntmps25; (try simp only [List.append_eq, List.cons_append, List.nil_append])
    go_wp2_with fail
    -- own blocks: w.heap.size:2, w.heap.size + 1:2
    (go_at_call 21; refine (HSG.out _ (by ((with_reducible (repeat (first | exact bR _ _ | refine bS ?_ ?_ _ | refine bA ?_ ?_ _ | refine bD ?_ | refine bT ?_ (by assumption) ?_ | refine bO (by assumption) ?_ ?_))) <;> (first | omega | (simp; done) | (simp <;> omega))))).mono ?_; rintro e w1 ⟨rfl, hb_w1⟩; have hz_w1 := hb_w1.size; (try simp at hz_w1); (with_reducible apply cel2 (b := w.heap.size) hb_w1); (focus ((try simp) <;> omega)); (focus omega); (focus (go_simp; try exact rfl)); (focus (go_simp; try exact rfl)); (focus (intro o; go_simp)); intro cc cc fz hl; (with_reducible apply cel2 (b := w.heap.size + 1) hb_w1); (focus ((try simp) <;> omega)); (focus omega); (focus (go_simp; try exact rfl)); (focus (go_simp; try exact rfl)); (focus (intro o; go_simp)); intro cc cc fz hl)
    have HB1 := Lib.hid (show Below w.heap.size w w1 by ((with_reducible (repeat (first | exact bR _ _ | refine bS ?_ ?_ _ | refine bA ?_ ?_ _ | refine bD ?_ | refine bT ?_ (by assumption) ?_ | refine bO (by assumption) ?_ ?_))) <;> (first | omega | (simp; done) | (simp <;> omega))))
    clear hb_w1
    go_wp2_with fail
    (go_at_call 28; refine (HNG.out _ HB1.out).mono ?_; rintro e w2 ⟨hb_w2, v2, rfl, A2, c2, rfl, hc2, hA2⟩; have hz_w2 := hb_w2.size; (try simp at hz_w2); (with_reducible apply cel2 (b := w.heap.size) hb_w2); (focus ((try simp) <;> omega)); (focus omega); (focus (go_simp; try exact rfl)); (focus (go_simp; try exact rfl)); (focus (intro o; go_simp)); intro cc cc fz hl; (with_reducible apply cel2 (b := w.heap.size + 1) hb_w2); (focus ((try simp) <;> omega)); (focus omega); (focus (go_simp; try exact rfl)); (focus (go_simp; try exact rfl)); (focus (intro o; go_simp)); intro cc cc fz hl)
    have HC2 := Lib.hid hc2
    have HA2 := Lib.hid hA2
    have HB2 := Lib.hid (HB1.out.trans (hb_w2.mono (by omega)))
    clear hc2 hA2 hb_w2
    go_wp2_with fail
    refine bodyPost_ret (v := .agg #[.bool (decide (M < 0)), .slice A2 (canN M.natAbs).length c2]) (by simp only [results, Try.results25]; go_simp) rfl ⟨?_, ?_⟩
    · exact (HB2.out.setCell (by simp <;> omega) _).setCell (by simp <;> omega) _
    · exact ⟨_, rfl, ((show IsC w2 (.agg #[.bool (decide (M < 0)), .slice A2 (canN M.natAbs).length c2]) M from ⟨A2, c2, rfl, HC2.out, HA2.out⟩).zl LM.out).set2 (by assumption) (by assumption) _ _⟩
  · have e : ((z.natAbs : Nat) : Int) = z := by omega
    rw [e]
    obtain ⟨S, hS, hS0⟩ : ∃ S, sgn z = S ∧ ¬ S < 0 := ⟨_, rfl, by unfold sgn; split <;> (try split) <;> omega⟩
    rw [hS] at hsg
    have HSG := Lib.hid hsg
    clear hsg hng h e hS
    go_enter Try.func25, Try.ntmps25; (try simp only [List.append_eq, List.cons_append, List.nil_append])
    go_wp2_with fail
    -- own blocks: w.heap.size:2, w.heap.size + 1:2
    (go_at_call 21; refine (HSG.out _ (by ((with_reducible (repeat (first | exact bR _ _ | refine bS ?_ ?_ _ | refine bA ?_ ?_ _ | refine bD ?_ | refine bT ?_ (by assumption) ?_ | refine bO (by assumption) ?_ ?_))) <;> (first | omega | (simp; done) | (simp <;> omega))))).mono ?_; rintro e w1 ⟨rfl, hb_w1⟩; have hz_w1 := hb_w1.size; (try simp at hz_w1); (with_reducible apply cel2 (b := w.heap.size) hb_w1); (focus ((try simp) <;> omega)); (focus omega); (focus (go_simp; try exact rfl)); (focus (go_simp; try exact rfl)); (focus (intro o; go_simp)); intro cc cc fz hl; (with_reducible apply cel2 (b := w.heap.size + 1) hb_w1); (focus ((try simp) <;> omega)); (focus omega); (focus (go_simp; try exact rfl)); (focus (go_simp; try exact rfl)); (focus (intro o; go_simp)); intro cc cc fz hl)
    have HB1 := Lib.hid (show Below w.heap.size w w1 by ((with_reducible (repeat (first | exact bR _ _ | refine bS ?_ ?_ _ | refine bA ?_ ?_ _ | refine bD ?_ | refine bT ?_ (by assumption) ?_ | refine bO (by assumption) ?_ ?_))) <;> (first | omega | (simp; done) | (simp <;> omega))))
    clear hb_w1
    go_wp2_with fail
    refine bodyPost_ret (v := .agg #[.bool p, .slice A l c]) (by simp only [results, Try.results25]; go_simp) rfl ⟨?_, ?_⟩
    · exact (HB1.out.setCell (by simp <;> omega) _).setCell (by simp <;> omega) _
    · exact ⟨_, rfl, (H.out.below HB1.out).set2 (by assumption) (by assumption) _ _⟩
set_option maxRecDepth 100000 in
set_option maxHeartbeats 2000000 in
theorem divides_any (n : Nat) (u v : Value) (a b : Int) (w : World) (ha : IsZ w u n a) (hb : IsZ w v n b) (hn : n ≤ 100) :
    Calls Try.prog 27 #[u, v] w fun e w' => e = .returned (.bool (decide (a ∣ b))) ∧ Below w.heap.size w w' := by
  have HA := Lib.hid ha
  have HB := Lib.hid hb
  have la := isZ_len ha
  have lb := isZ_len hb
  obtain ⟨p, A, c, l, rfl⟩ := isZ_val ha
  obtain ⟨p', A', c', l', rfl⟩ := isZ_val hb
  have hsa := fun w' (hbb : Below w.heap.size w w') => isign_any n _ a w' (HA.out.below hbb) (by omega)
  have hsb := fun w' (hbb : Below w.heap.size w w') => isign_any n _ b w' (HB.out.below hbb) (by omega)
  have hs0 := @sgn0 a
  have ht0 := @sgn0 b
  obtain ⟨s, hs⟩ : ∃ s, s = sgn a := ⟨_, rfl⟩
  obtain ⟨t, ht⟩ : ∃ t, t = sgn b := ⟨_, rfl⟩
  rw [← hs] at hsa hs0
  rw [← ht] at hsb ht0
  have HSA := Lib.hid hsa
  have HSB := Lib.hid hsb
  clear ha hb hsa hsb hs ht
  by_cases h0 : a = 0
  · rw [decide_eq_true h0] at hs0
    have e : decide (a ∣ b) = decide (b = 0) := by rw [h0]; apply decide_eq_decide.2; exact Int.zero_dvd
    rw [e, ← ht0]
    clear e ht0 h0
    go_enter Try.func27, Try.ntmps27; (try simp only [List.append_eq, List.cons_append, List.nil_append])
    go_wp2_with fail
    -- own blocks: w.heap.size:2, w.heap.size + 1:2
    (go_at_call 21; refine (HSA.out _ (by ((with_reducible (repeat (first | exact bR _ _ | refine bS ?_ ?_ _ | refine bA ?_ ?_ _ | refine bD ?_ | refine bT ?_ (by assumption) ?_ | refine bO (by assumption) ?_ ?_))) <;> (first | omega | (simp; done) | (simp <;> omega))))).mono ?_; rintro e w1 ⟨rfl, hb_w1⟩; have hz_w1 := hb_w1.size; (try simp at hz_w1); (with_reducible apply cel2 (b := w.heap.size) hb_w1); (focus ((try simp) <;> omega)); (focus omega); (focus (go_simp; try exact rfl)); (focus (go_simp; try exact rfl)); (focus (intro o; go_simp)); intro cc cc fz hl; (with_reducible apply cel2 (b := w.heap.size + 1) hb_w1); (focus ((try simp) <;> omega)); (focus omega); (focus (go_simp; try exact rfl)); (focus (go_simp; try exact rfl)); (focus (intro o; go_simp)); intro cc cc fz hl)
    have HB1 := Lib.hid (show Below w.heap.size w w1 by ((with_reducible (repeat (first | exact bR _ _ | refine bS ?_ ?_ _ | refine bA ?_ ?_ _ | refine bD ?_ | refine bT ?_ (by assumption) ?_ | refine bO (by assumption) ?_ ?_))) <;> (first | omega | (simp; done) | (simp <;> omega))))
    clear hb_w1
    go_wp2_with fail
    (go_at_call 21; refine (HSB.out _ HB1.out).mono ?_; rintro e w2 ⟨rfl, hb_w2⟩; have hz_w2 := hb_w2.size; (try simp at hz_w2); (with_reducible apply cel2 (b := w.heap.size) hb_w2); (focus ((try simp) <;> omega)); (focus omega); (focus (go_simp; try exact rfl)); (focus (go_simp; try exact rfl)); (focus (intro o; go_simp)); intro cc cc fz hl; (with_reducible apply cel2 (b := w.heap.size + 1) hb_w2); (focus ((try simp) <;> omega)); (focus omega); (focus (go_simp; try exact rfl)); (focus (go_simp; try exact rfl)); (focus (intro o; go_simp)); intro cc cc fz hl)
    have HB2 := Lib.hid (HB1.out.trans (hb_w2.mono (by omega)))
    clear hb_w2
    go_wp2_with fail
    go_ret
    exact ⟨rfl, HB2.out⟩
  · rw [decide_eq_false h0] at hs0
    obtain ⟨Q, hQ⟩ : ∃ Q, Q = b.tdiv a := ⟨_, rfl⟩
    obtain ⟨R, hR⟩ : ∃ R, R = b.tmod a := ⟨_, rfl⟩
    have hqu := fun w' (hbb : Below w.heap.size w w') => iquo_any n _ _ b a w' (HB.out.below hbb) (HA.out.below hbb) (by omega)
    rw [quoZ (by omega) (by omega) h0 hQ hR] at hqu
    have lR : (canN R.natAbs).length ≤ n := by
      rw [hR]
      refine Nat.le_trans (canN_mono ?_) lb
      rw [Int.natAbs_tmod]
      exact Nat.mod_le _ _
    have hr0 := @sgn0 R
    have hsr := fun v w' h => isign_any n v R w' h (by omega)
    obtain ⟨q, hq⟩ : ∃ q, q = sgn R := ⟨_, rfl⟩
    rw [← hq] at hr0 hsr
    have e : decide (a ∣ b) = decide (R = 0) := by apply decide_eq_decide.2; rw [hR]; exact Int.dvd_iff_tmod_eq_zero
    rw [e, ← hr0]
    have HQU := Lib.hid hqu
    have HSR := Lib.hid hsr
    have LR := Lib.hid lR
    clear e hr0 hq hqu hsr hQ hR h0 ht0 lR
    go_enter Try.func27, Try.ntmps27; (try simp only [List.append_eq, List.cons_append, List.nil_append])
    go_wp2_with fail
    -- own blocks: w.heap.size:2, w.heap.size + 1:2
    (go_at_call 21; refine (HSA.out _ (by ((with_reducible (repeat (first | exact bR _ _ | refine bS ?_ ?_ _ | refine bA ?_ ?_ _ | refine bD ?_ | refine bT ?_ (by assumption) ?_ | refine bO (by assumption) ?_ ?_))) <;> (first | omega | (simp; done) | (simp <;> omega))))).mono ?_; rintro e w1 ⟨rfl, hb_w1⟩; have hz_w1 := hb_w1.size; (try simp at hz_w1); (with_reducible apply cel2 (b := w.heap.size) hb_w1); (focus ((try simp) <;> omega)); (focus omega); (focus (go_simp; try exact rfl)); (focus (go_simp; try exact rfl)); (focus (intro o; go_simp)); intro cc cc fz hl; (with_reducible apply cel2 (b := w.heap.size + 1) hb_w1); (focus ((try simp) <;> omega)); (focus omega); (focus (go_simp; try exact rfl)); (focus (go_simp; try exact rfl)); (focus (intro o; go_simp)); intro cc cc fz hl)
    have HB1 := Lib.hid (show Below w.heap.size w w1 by ((with_reducible (repeat (first | exact bR _ _ | refine bS ?_ ?_ _ | refine bA ?_ ?_ _ | refine bD ?_ | refine bT ?_ (by assumption) ?_ | refine bO (by assumption) ?_ ?_))) <;> (first | omega | (simp; done) | (simp <;> omega))))
    clear hb_w1
    go_wp2_with fail
    (go_at_call 22; refine (HQU.out _ HB1.out).mono ?_; rintro e w2 ⟨hb_w2, A1, c1, A2, c2, rfl, hc1, hc2, hA1, hA2⟩; have hz_w2 := hb_w2.size; (try simp at hz_w2); (with_reducible apply cel2 (b := w.heap.size) hb_w2); (focus ((try simp) <;> omega)); (focus omega); (focus (go_simp; try exact rfl)); (focus (go_simp; try exact rfl)); (focus (intro o; go_simp)); intro cc cc fz hl; (with_reducible apply cel2 (b := w.heap.size + 1) hb_w2); (focus ((try simp) <;> omega)); (focus omega); (focus (go_simp; try exact rfl)); (focus (go_simp; try exact rfl)); (focus (intro o; go_simp)); intro cc cc fz hl)
    have HB2 := Lib.hid (HB1.out.trans (hb_w2.mono (by omega)))
    have HR2 := Lib.hid (show IsC w2 (.agg #[.bool (decide (R < 0)), .slice A2 (canN R.natAbs).length c2]) R from ⟨A2, c2, rfl, hc2, hA2⟩)
    have hz2 : w.heap.size ≤ w2.heap.size := by omega
    clear hc1 hc2 hA1 hA2 hb_w2
    go_wp2_with fail
    -- own blocks besides: w2.heap.size:2, w2.heap.size + 1:2
    (go_at_call 21; refine (HSR.out _ _ ((HR2.out.below (((Below.refl _ _).alloc (Nat.le_refl _) _).alloc (by simp) _)).zl LR.out)).mono ?_; rintro e w3 ⟨rfl, hb_w3⟩; have hz_w3 := hb_w3.size; (try simp at hz_w3); (with_reducible apply cel2 (b := w.heap.size) hb_w3); (focus ((try simp) <;> omega)); (focus omega); (focus (go_simp; try exact rfl)); (focus (go_simp; try exact rfl)); (focus (intro o; go_simp)); intro cc cc fz hl; (with_reducible apply cel2 (b := w.heap.size + 1) hb_w3); (focus ((try simp) <;> omega)); (focus omega); (focus (go_simp; try exact rfl)); (focus (go_simp; try exact rfl)); (focus (intro o; go_simp)); intro cc cc fz hl; (with_reducible apply cel2 (b := w2.heap.size) hb_w3); (focus ((try simp) <;> omega)); (focus omega); (focus (go_simp; try exact rfl)); (focus (go_simp; try exact rfl)); (focus (intro o; go_simp)); intro cc cc fz hl; (with_reducible apply cel2 (b := w2.heap.size + 1) hb_w3); (focus ((try simp) <;> omega)); (focus omega); (focus (go_simp; try exact rfl)); (focus (go_simp; try exact rfl)); (focus (intro o; go_simp)); intro cc cc fz hl)
    have HW3 := Lib.hid (show Below w2.heap.size w2 w3 by ((with_reducible (repeat (first | exact bR _ _ | refine bS ?_ ?_ _ | refine bA ?_ ?_ _ | refine bD ?_ | refine bT ?_ (by assumption) ?_ | refine bO (by assumption) ?_ ?_))) <;> (first | omega | (simp; done) | (simp <;> omega))))
    clear hb_w3
    go_wp2_with fail
    go_ret
    exact ⟨ret_bool (by first | rfl | simp), HB2.out.trans (HW3.out.mono hz2)⟩
end Go.Proofs.Ytadkcipjcmkoiaa
