/- The contracts of pinballref01.Large, sized, Add, Sub, Mul. -/
import Derived.Test.YtadkcipjcmkoiaaLenZ
import Derived.Test.YtadkcipjcmkoiaaBigT
import Derived.Test.YtadkcipjcmkoiaaBigU
namespace Go.Proofs.Ytadkcipjcmkoiaa
open Go Go.RowKit
set_option linter.unusedVariables false
set_option maxHeartbeats 1000000 in
theorem rlarge_any (n : Nat) (v : Value) (z : Int) (w : World) (h : IsZ w v n z) (hn : n ≤ 1000000) :
    Calls Try.prog 50 #[v] w fun e w' => e = .returned (.bool (lgB z)) ∧ Below w.heap.size w w' := by
  obtain ⟨p, A, c, l, rfl, hc, hL, hl, hAt, ea, ma, ca⟩ := isZ_open h
  have hma := fun w' (h : Below w.heap.size w w') => mag_any A l c w' hL (hAt.below h) hc (by omega)
  rw [ma] at hma
  obtain ⟨k, hk⟩ : ∃ k, k = (canN z.natAbs).length := ⟨_, rfl⟩
  have e : lgB z = decide (256 < k) := by unfold lgB; rw [hk]
  rw [e]
  obtain ⟨x, hx⟩ : ∃ x, x = z.natAbs := ⟨_, rfl⟩
  rw [← hx] at hma hk
  have hk0 : k ≤ 1000000 := by rw [← hx, ← hk] at ca; omega
  have HMA := Lib.hid hma
  clear hma hAt ea ma ca h e hx
  go_enter Try.func50, Try.ntmps50; (try simp only [List.append_eq, List.cons_append, List.nil_append])
  go_wp2_with fail
  -- own blocks: w.heap.size:2
  (go_at_call 53; refine (HMA.out _ (by ((with_reducible (repeat (first | exact bR _ _ | refine bS ?_ ?_ _ | refine bA ?_ ?_ _ | refine bD ?_ | refine bT ?_ (by assumption) ?_ | refine bO (by assumption) ?_ ?_))) <;> (first | omega | (simp; done) | (simp <;> omega))))).mono ?_; rintro e w1 ⟨hb_w1, A1, c1, rfl, hc1, hA1⟩; have hz_w1 := hb_w1.size; (try simp at hz_w1); (with_reducible apply cel2 (b := w.heap.size) hb_w1); (focus ((try simp) <;> omega)); (focus omega); (focus (go_simp; try exact rfl)); (focus (go_simp; try exact rfl)); (focus (intro o; go_simp)); intro cc cc fz hl)
  rw [← hk] at hc1 ⊢
  clear hA1
  go_wp2_with fail
  go_ret
  refine ⟨ret_bool ?_, by ((with_reducible (repeat (first | exact bR _ _ | refine bS ?_ ?_ _ | refine bA ?_ ?_ _ | refine bD ?_ | refine bT ?_ (by assumption) ?_ | refine bO (by assumption) ?_ ?_))) <;> (first | omega | (simp; done) | (simp <;> omega)))⟩
  first | rfl | (apply decide_eq_decide.2; omega)
theorem IsC.alloc {w : World} {v : Value} {z : Int} (h : IsC w v z) (o : Obj) : IsC (w.alloc o) v z := h.below ((Below.refl _ _).alloc (Nat.le_refl _) _)
theorem IsZ.alloc {w : World} {v : Value} {z : Int} {n : Nat} (h : IsZ w v n z) (o : Obj) : IsZ (w.alloc o) v n z := h.below ((Below.refl _ _).alloc (Nat.le_refl _) _)
/-- What the reference's sized gives. -/
def szR (a b r : Int) : Int × Int := if lgB a || lgB b || lgB r then (0, 2) else (r, 0)
set_option maxRecDepth 100000 in
set_option maxHeartbeats 4000000 in
theorem rsized_any (n : Nat) (u v t : Value) (a b r : Int) (w : World) (ha : IsZ w u n a) (hb : IsZ w v n b) (hr : IsC w t r) (hrn : (canN r.natAbs).length ≤ n) (hn : n ≤ 1000000) :
    Calls Try.prog 67 #[u, v, t] w (EOut (szR a b r).1 (szR a b r).2 w) := by
  obtain ⟨p, A, c, l, rfl⟩ := isZ_val ha
  obtain ⟨p', A', c', l', rfl⟩ := isZ_val hb
  have hL1 := fun w' (hbb : Below w.heap.size w w') => rlarge_any n _ a w' (ha.below hbb) hn
  have hL2 := fun w' (hbb : Below w.heap.size w w') => rlarge_any n _ b w' (hb.below hbb) hn
  have hL3 := fun w' (hbb : Below w.heap.size w w') => rlarge_any n _ r w' ((hr.zl hrn).below hbb) hn
  obtain ⟨A2, c2, rfl, hc2, hA2⟩ := hr
  obtain ⟨b1, e1⟩ : ∃ q, q = lgB a := ⟨_, rfl⟩
  obtain ⟨b2, e2⟩ : ∃ q, q = lgB b := ⟨_, rfl⟩
  obtain ⟨b3, e3⟩ : ∃ q, q = lgB r := ⟨_, rfl⟩
  have es : szR a b r = if b1 || b2 || b3 then (0, 2) else (r, 0) := by unfold szR; rw [e1, e2, e3]
  rw [es]
  rw [← e1] at hL1
  rw [← e2] at hL2
  rw [← e3] at hL3
  have L1 := Lib.hid hL1
  have L2 := Lib.hid hL2
  have L3 := Lib.hid hL3
  have HA2 := Lib.hid hA2
  have HC2 := Lib.hid hc2
  clear hL1 hL2 hL3 ha hb es e1 e2 e3 hA2 hc2
  cases b1
  · cases b2
    · cases b3
      · go_enter Try.func67, Try.ntmps67; (try simp only [List.append_eq, List.cons_append, List.nil_append])
        go_wp2_with fail
        -- own blocks: w.heap.size:2, w.heap.size + 1:2, w.heap.size + 1 + 1:2, w.heap.size + 1 + 1 + 1:2
        (go_at_call 50; refine (L1.out _ (by ((with_reducible (repeat (first | exact bR _ _ | refine bS ?_ ?_ _ | refine bA ?_ ?_ _ | refine bD ?_ | refine bT ?_ (by assumption) ?_ | refine bO (by assumption) ?_ ?_))) <;> (first | omega | (simp; done) | (simp <;> omega))))).mono ?_; rintro e w1 ⟨rfl, hb_w1⟩; have hz_w1 := hb_w1.size; (try simp at hz_w1); (with_reducible apply cel2 (b := w.heap.size) hb_w1); (focus ((try simp) <;> omega)); (focus omega); (focus (go_simp; try exact rfl)); (focus (go_simp; try exact rfl)); (focus (intro o; go_simp)); intro cc cc fz hl; (with_reducible apply cel2 (b := w.heap.size + 1) hb_w1); (focus ((try simp) <;> omega)); (focus omega); (focus (go_simp; try exact rfl)); (focus (go_simp; try exact rfl)); (focus (intro o; go_simp)); intro cc cc fz hl; (with_reducible apply cel2 (b := w.heap.size + 1 + 1) hb_w1); (focus ((try simp) <;> omega)); (focus omega); (focus (go_simp; try exact rfl)); (focus (go_simp; try exact rfl)); (focus (intro o; go_simp)); intro cc cc fz hl; (with_reducible apply cel2 (b := w.heap.size + 1 + 1 + 1) hb_w1); (focus ((try simp) <;> omega)); (focus omega); (focus (go_simp; try exact rfl)); (focus (go_simp; try exact rfl)); (focus (intro o; go_simp)); intro cc cc fz hl)
        have HB1 := Lib.hid (show Below w.heap.size w w1 by ((with_reducible (repeat (first | exact bR _ _ | refine bS ?_ ?_ _ | refine bA ?_ ?_ _ | refine bD ?_ | refine bT ?_ (by assumption) ?_ | refine bO (by assumption) ?_ ?_))) <;> (first | omega | (simp; done) | (simp <;> omega))))
        clear hb_w1
        go_wp2_with fail
        (go_at_call 50; refine (L2.out _ HB1.out).mono ?_; rintro e w2 ⟨rfl, hb_w2⟩; have hz_w2 := hb_w2.size; (try simp at hz_w2); (with_reducible apply cel2 (b := w.heap.size) hb_w2); (focus ((try simp) <;> omega)); (focus omega); (focus (go_simp; try exact rfl)); (focus (go_simp; try exact rfl)); (focus (intro o; go_simp)); intro cc cc fz hl; (with_reducible apply cel2 (b := w.heap.size + 1) hb_w2); (focus ((try simp) <;> omega)); (focus omega); (focus (go_simp; try exact rfl)); (focus (go_simp; try exact rfl)); (focus (intro o; go_simp)); intro cc cc fz hl; (with_reducible apply cel2 (b := w.heap.size + 1 + 1) hb_w2); (focus ((try simp) <;> omega)); (focus omega); (focus (go_simp; try exact rfl)); (focus (go_simp; try exact rfl)); (focus (intro o; go_simp)); intro cc cc fz hl; (with_reducible apply cel2 (b := w.heap.size + 1 + 1 + 1) hb_w2); (focus ((try simp) <;> omega)); (focus omega); (focus (go_simp; try exact rfl)); (focus (go_simp; try exact rfl)); (focus (intro o; go_simp)); intro cc cc fz hl)
        have HB2 := Lib.hid (HB1.out.trans (hb_w2.mono (by omega)))
        clear hb_w2
        go_wp2_with fail
        (go_at_call 50; refine (L3.out _ HB2.out).mono ?_; rintro e w3 ⟨rfl, hb_w3⟩; have hz_w3 := hb_w3.size; (try simp at hz_w3); (with_reducible apply cel2 (b := w.heap.size) hb_w3); (focus ((try simp) <;> omega)); (focus omega); (focus (go_simp; try exact rfl)); (focus (go_simp; try exact rfl)); (focus (intro o; go_simp)); intro cc cc fz hl; (with_reducible apply cel2 (b := w.heap.size + 1) hb_w3); (focus ((try simp) <;> omega)); (focus omega); (focus (go_simp; try exact rfl)); (focus (go_simp; try exact rfl)); (focus (intro o; go_simp)); intro cc cc fz hl; (with_reducible apply cel2 (b := w.heap.size + 1 + 1) hb_w3); (focus ((try simp) <;> omega)); (focus omega); (focus (go_simp; try exact rfl)); (focus (go_simp; try exact rfl)); (focus (intro o; go_simp)); intro cc cc fz hl; (with_reducible apply cel2 (b := w.heap.size + 1 + 1 + 1) hb_w3); (focus ((try simp) <;> omega)); (focus omega); (focus (go_simp; try exact rfl)); (focus (go_simp; try exact rfl)); (focus (intro o; go_simp)); intro cc cc fz hl)
        have HB3 := Lib.hid (HB2.out.trans (hb_w3.mono (by omega)))
        clear hb_w3
        go_wp2_with fail
        refine bodyPost_ret (v := .tuple #[.agg #[.bool (decide (r < 0)), .slice A2 (canN r.natAbs).length c2], .int .i64 0]) (by simp only [results, Try.results67]; go_simp) rfl ⟨?_, ?_⟩
        · exact (HB3.out.setCell (by simp <;> omega) _).setCell (by simp <;> omega) _
        · exact ⟨A2, c2, rfl, HC2.out, (HA2.out.below HB3.out).set2 (by assumption) (by assumption) _ _⟩
      · go_enter Try.func67, Try.ntmps67; (try simp only [List.append_eq, List.cons_append, List.nil_append])
        go_wp2_with fail
        -- own blocks: w.heap.size:2, w.heap.size + 1:2, w.heap.size + 1 + 1:2, w.heap.size + 1 + 1 + 1:2
        (go_at_call 50; refine (L1.out _ (by ((with_reducible (repeat (first | exact bR _ _ | refine bS ?_ ?_ _ | refine bA ?_ ?_ _ | refine bD ?_ | refine bT ?_ (by assumption) ?_ | refine bO (by assumption) ?_ ?_))) <;> (first | omega | (simp; done) | (simp <;> omega))))).mono ?_; rintro e w1 ⟨rfl, hb_w1⟩; have hz_w1 := hb_w1.size; (try simp at hz_w1); (with_reducible apply cel2 (b := w.heap.size) hb_w1); (focus ((try simp) <;> omega)); (focus omega); (focus (go_simp; try exact rfl)); (focus (go_simp; try exact rfl)); (focus (intro o; go_simp)); intro cc cc fz hl; (with_reducible apply cel2 (b := w.heap.size + 1) hb_w1); (focus ((try simp) <;> omega)); (focus omega); (focus (go_simp; try exact rfl)); (focus (go_simp; try exact rfl)); (focus (intro o; go_simp)); intro cc cc fz hl; (with_reducible apply cel2 (b := w.heap.size + 1 + 1) hb_w1); (focus ((try simp) <;> omega)); (focus omega); (focus (go_simp; try exact rfl)); (focus (go_simp; try exact rfl)); (focus (intro o; go_simp)); intro cc cc fz hl; (with_reducible apply cel2 (b := w.heap.size + 1 + 1 + 1) hb_w1); (focus ((try simp) <;> omega)); (focus omega); (focus (go_simp; try exact rfl)); (focus (go_simp; try exact rfl)); (focus (intro o; go_simp)); intro cc cc fz hl)
        have HB1 := Lib.hid (show Below w.heap.size w w1 by ((with_reducible (repeat (first | exact bR _ _ | refine bS ?_ ?_ _ | refine bA ?_ ?_ _ | refine bD ?_ | refine bT ?_ (by assumption) ?_ | refine bO (by assumption) ?_ ?_))) <;> (first | omega | (simp; done) | (simp <;> omega))))
        clear hb_w1
        go_wp2_with fail
        (go_at_call 50; refine (L2.out _ HB1.out).mono ?_; rintro e w2 ⟨rfl, hb_w2⟩; have hz_w2 := hb_w2.size; (try simp at hz_w2); (with_reducible apply cel2 (b := w.heap.size) hb_w2); (focus ((try simp) <;> omega)); (focus omega); (focus (go_simp; try exact rfl)); (focus (go_simp; try exact rfl)); (focus (intro o; go_simp)); intro cc cc fz hl; (with_reducible apply cel2 (b := w.heap.size + 1) hb_w2); (focus ((try simp) <;> omega)); (focus omega); (focus (go_simp; try exact rfl)); (focus (go_simp; try exact rfl)); (focus (intro o; go_simp)); intro cc cc fz hl; (with_reducible apply cel2 (b := w.heap.size + 1 + 1) hb_w2); (focus ((try simp) <;> omega)); (focus omega); (focus (go_simp; try exact rfl)); (focus (go_simp; try exact rfl)); (focus (intro o; go_simp)); intro cc cc fz hl; (with_reducible apply cel2 (b := w.heap.size + 1 + 1 + 1) hb_w2); (focus ((try simp) <;> omega)); (focus omega); (focus (go_simp; try exact rfl)); (focus (go_simp; try exact rfl)); (focus (intro o; go_simp)); intro cc cc fz hl)
        have HB2 := Lib.hid (HB1.out.trans (hb_w2.mono (by omega)))
        clear hb_w2
        go_wp2_with fail
        (go_at_call 50; refine (L3.out _ HB2.out).mono ?_; rintro e w3 ⟨rfl, hb_w3⟩; have hz_w3 := hb_w3.size; (try simp at hz_w3); (with_reducible apply cel2 (b := w.heap.size) hb_w3); (focus ((try simp) <;> omega)); (focus omega); (focus (go_simp; try exact rfl)); (focus (go_simp; try exact rfl)); (focus (intro o; go_simp)); intro cc cc fz hl; (with_reducible apply cel2 (b := w.heap.size + 1) hb_w3); (focus ((try simp) <;> omega)); (focus omega); (focus (go_simp; try exact rfl)); (focus (go_simp; try exact rfl)); (focus (intro o; go_simp)); intro cc cc fz hl; (with_reducible apply cel2 (b := w.heap.size + 1 + 1) hb_w3); (focus ((try simp) <;> omega)); (focus omega); (focus (go_simp; try exact rfl)); (focus (go_simp; try exact rfl)); (focus (intro o; go_simp)); intro cc cc fz hl; (with_reducible apply cel2 (b := w.heap.size + 1 + 1 + 1) hb_w3); (focus ((try simp) <;> omega)); (focus omega); (focus (go_simp; try exact rfl)); (focus (go_simp; try exact rfl)); (focus (intro o; go_simp)); intro cc cc fz hl)
        have HB3 := Lib.hid (HB2.out.trans (hb_w3.mono (by omega)))
        clear hb_w3
        go_wp2_with fail
        refine bodyPost_ret (v := .tuple #[.agg #[.bool false, .slice none 0 0], .int .i64 2]) (by simp only [results, Try.results67]; go_simp) rfl (eout_zero ((HB3.out.setCell (by simp <;> omega) _).setCell (by simp <;> omega) _))
    · go_enter Try.func67, Try.ntmps67; (try simp only [List.append_eq, List.cons_append, List.nil_append])
      go_wp2_with fail
      -- own blocks: w.heap.size:2, w.heap.size + 1:2, w.heap.size + 1 + 1:2, w.heap.size + 1 + 1 + 1:2
      (go_at_call 50; refine (L1.out _ (by ((with_reducible (repeat (first | exact bR _ _ | refine bS ?_ ?_ _ | refine bA ?_ ?_ _ | refine bD ?_ | refine bT ?_ (by assumption) ?_ | refine bO (by assumption) ?_ ?_))) <;> (first | omega | (simp; done) | (simp <;> omega))))).mono ?_; rintro e w1 ⟨rfl, hb_w1⟩; have hz_w1 := hb_w1.size; (try simp at hz_w1); (with_reducible apply cel2 (b := w.heap.size) hb_w1); (focus ((try simp) <;> omega)); (focus omega); (focus (go_simp; try exact rfl)); (focus (go_simp; try exact rfl)); (focus (intro o; go_simp)); intro cc cc fz hl; (with_reducible apply cel2 (b := w.heap.size + 1) hb_w1); (focus ((try simp) <;> omega)); (focus omega); (focus (go_simp; try exact rfl)); (focus (go_simp; try exact rfl)); (focus (intro o; go_simp)); intro cc cc fz hl; (with_reducible apply cel2 (b := w.heap.size + 1 + 1) hb_w1); (focus ((try simp) <;> omega)); (focus omega); (focus (go_simp; try exact rfl)); (focus (go_simp; try exact rfl)); (focus (intro o; go_simp)); intro cc cc fz hl; (with_reducible apply cel2 (b := w.heap.size + 1 + 1 + 1) hb_w1); (focus ((try simp) <;> omega)); (focus omega); (focus (go_simp; try exact rfl)); (focus (go_simp; try exact rfl)); (focus (intro o; go_simp)); intro cc cc fz hl)
      have HB1 := Lib.hid (show Below w.heap.size w w1 by ((with_reducible (repeat (first | exact bR _ _ | refine bS ?_ ?_ _ | refine bA ?_ ?_ _ | refine bD ?_ | refine bT ?_ (by assumption) ?_ | refine bO (by assumption) ?_ ?_))) <;> (first | omega | (simp; done) | (simp <;> omega))))
      clear hb_w1
      go_wp2_with fail
      (go_at_call 50; refine (L2.out _ HB1.out).mono ?_; rintro e w2 ⟨rfl, hb_w2⟩; have hz_w2 := hb_w2.size; (try simp at hz_w2); (with_reducible apply cel2 (b := w.heap.size) hb_w2); (focus ((try simp) <;> omega)); (focus omega); (focus (go_simp; try exact rfl)); (focus (go_simp; try exact rfl)); (focus (intro o; go_simp)); intro cc cc fz hl; (with_reducible apply cel2 (b := w.heap.size + 1) hb_w2); (focus ((try simp) <;> omega)); (focus omega); (focus (go_simp; try exact rfl)); (focus (go_simp; try exact rfl)); (focus (intro o; go_simp)); intro cc cc fz hl; (with_reducible apply cel2 (b := w.heap.size + 1 + 1) hb_w2); (focus ((try simp) <;> omega)); (focus omega); (focus (go_simp; try exact rfl)); (focus (go_simp; try exact rfl)); (focus (intro o; go_simp)); intro cc cc fz hl; (with_reducible apply cel2 (b := w.heap.size + 1 + 1 + 1) hb_w2); (focus ((try simp) <;> omega)); (focus omega); (focus (go_simp; try exact rfl)); (focus (go_simp; try exact rfl)); (focus (intro o; go_simp)); intro cc cc fz hl)
      have HB2 := Lib.hid (HB1.out.trans (hb_w2.mono (by omega)))
      clear hb_w2
      go_wp2_with fail
      refine bodyPost_ret (v := .tuple #[.agg #[.bool false, .slice none 0 0], .int .i64 2]) (by simp only [results, Try.results67]; go_simp) rfl (eout_zero ((HB2.out.setCell (by simp <;> omega) _).setCell (by simp <;> omega) _))
  · go_enter Try.func67, Try.ntmps67; (try simp only [List.append_eq, List.cons_append, List.nil_append])
    go_wp2_with fail
    -- own blocks: w.heap.size:2, w.heap.size + 1:2, w.heap.size + 1 + 1:2, w.heap.size + 1 + 1 + 1:2
    (go_at_call 50; refine (L1.out _ (by ((with_reducible (repeat (first | exact bR _ _ | refine bS ?_ ?_ _ | refine bA ?_ ?_ _ | refine bD ?_ | refine bT ?_ (by assumption) ?_ | refine bO (by assumption) ?_ ?_))) <;> (first | omega | (simp; done) | (simp <;> omega))))).mono ?_; rintro e w1 ⟨rfl, hb_w1⟩; have hz_w1 := hb_w1.size; (try simp at hz_w1); (with_reducible apply cel2 (b := w.heap.size) hb_w1); (focus ((try simp) <;> omega)); (focus omega); (focus (go_simp; try exact rfl)); (focus (go_simp; try exact rfl)); (focus (intro o; go_simp)); intro cc cc fz hl; (with_reducible apply cel2 (b := w.heap.size + 1) hb_w1); (focus ((try simp) <;> omega)); (focus omega); (focus (go_simp; try exact rfl)); (focus (go_simp; try exact rfl)); (focus (intro o; go_simp)); intro cc cc fz hl; (with_reducible apply cel2 (b := w.heap.size + 1 + 1) hb_w1); (focus ((try simp) <;> omega)); (focus omega); (focus (go_simp; try exact rfl)); (focus (go_simp; try exact rfl)); (focus (intro o; go_simp)); intro cc cc fz hl; (with_reducible apply cel2 (b := w.heap.size + 1 + 1 + 1) hb_w1); (focus ((try simp) <;> omega)); (focus omega); (focus (go_simp; try exact rfl)); (focus (go_simp; try exact rfl)); (focus (intro o; go_simp)); intro cc cc fz hl)
    have HB1 := Lib.hid (show Below w.heap.size w w1 by ((with_reducible (repeat (first | exact bR _ _ | refine bS ?_ ?_ _ | refine bA ?_ ?_ _ | refine bD ?_ | refine bT ?_ (by assumption) ?_ | refine bO (by assumption) ?_ ?_))) <;> (first | omega | (simp; done) | (simp <;> omega))))
    clear hb_w1
    go_wp2_with fail
    refine bodyPost_ret (v := .tuple #[.agg #[.bool false, .slice none 0 0], .int .i64 2]) (by simp only [results, Try.results67]; go_simp) rfl (eout_zero ((HB1.out.setCell (by simp <;> omega) _).setCell (by simp <;> omega) _))
theorem szR_eq (a b r : Int) : szR a b r = if lgB a || lgB b then (0, 2) else sizedR r := by
  unfold szR sizedR
  cases lgB a <;> cases lgB b <;> cases lgB r <;> rfl
set_option maxRecDepth 100000 in
set_option maxHeartbeats 4000000 in
theorem radd_any (n : Nat) (u v : Value) (a b : Int) (w : World) (ha : IsZ w u n a) (hb : IsZ w v n b) (hn : n ≤ 100000) :
    Calls Try.prog 33 #[u, v] w (EOut (addR a b).1 (addR a b).2 w) := by
  have HA := Lib.hid ha
  have HB := Lib.hid hb
  have hlen := len_add (isZ_len ha) (isZ_len hb)
  obtain ⟨p, A, c, l, rfl⟩ := isZ_val ha
  obtain ⟨p', A', c', l', rfl⟩ := isZ_val hb
  have hpl := fun w' (hbb : Below w.heap.size w w') => plus_any n _ _ a b w' (ha.below hbb) (hb.below hbb) (by omega)
  obtain ⟨Z, hZ⟩ : ∃ Z, Z = a+b := ⟨_, rfl⟩
  rw [← hZ] at hpl hlen
  have e : addR a b = szR a b Z := by rw [szR_eq]; unfold addR; rw [hZ]
  rw [e]
  have hsz := fun t w' (hbb : Below w.heap.size w w') h => rsized_any (n + 1) _ _ t a b Z w' ((ha.below hbb).upto (Nat.le_succ n)) ((hb.below hbb).upto (Nat.le_succ n)) h hlen (by omega)
  obtain ⟨r1, r2, hr⟩ : ∃ r1 r2, szR a b Z = (r1, r2) := ⟨_, _, rfl⟩
  rw [hr] at hsz ⊢
  have HPL := Lib.hid hpl
  have HSZ := Lib.hid hsz
  clear ha hb hpl hsz e hr hZ hlen HA HB
  go_enter Try.func33, Try.ntmps33; (try simp only [List.append_eq, List.cons_append, List.nil_append])
  go_wp2_with fail
  -- own blocks: w.heap.size:2, w.heap.size + 1:2, w.heap.size + 1 + 1:2
  have HB0 := Lib.hid (show Below w.heap.size w (((w.alloc (.cells #[.bool p, .slice A l c] 24)).alloc (.cells #[.bool p', .slice A' l' c'] 24)).alloc (.cells #[.bool false, .slice none 0 0] 24)) by ((with_reducible (repeat (first | exact bR _ _ | refine bS ?_ ?_ _ | refine bA ?_ ?_ _ | refine bD ?_ | refine bT ?_ (by assumption) ?_ | refine bO (by assumption) ?_ ?_))) <;> (first | omega | (simp; done) | (simp <;> omega))))
  (refine pin_wp (N := _) (Nat.le_refl _) (fun w1 hb_w1 hz_w1 => ?_); (try simp at hz_w1); (with_reducible apply cel2 (b := w.heap.size) hb_w1); (focus ((try simp) <;> omega)); (focus omega); (focus (go_simp; try exact rfl)); (focus (go_simp; try exact rfl)); (focus (intro o; go_simp)); intro cc cc fz hl; (with_reducible apply cel2 (b := w.heap.size + 1) hb_w1); (focus ((try simp) <;> omega)); (focus omega); (focus (go_simp; try exact rfl)); (focus (go_simp; try exact rfl)); (focus (intro o; go_simp)); intro cc cc fz hl; (with_reducible apply cel2 (b := w.heap.size + 1 + 1) hb_w1); (focus ((try simp) <;> omega)); (focus omega); (focus (go_simp; try exact rfl)); (focus (go_simp; try exact rfl)); (focus (intro o; go_simp)); intro cc cc fz hl); refine wp_region_float w1.heap.size 8 (Nat.le_refl _) (fun _ => True) trivial Cl.tt (by kernel_rfl) (by simp) ?_
  have HB1 := Lib.hid (HB0.out.trans (hb_w1.mono (by simp <;> omega)))
  clear hb_w1
  refine wpI_start [0, 1, 2, 3] ?_; (iterate 4 (first | (refine wpI_off rfl (by kernel_rfl) rfl (fun K hK => ?_); go_simp; refine hK _ ?_; clear hK K) | ((first | apply wpI_step rfl (by kernel_rfl) rfl | apply wpI_on rfl (by kernel_rfl) rfl); (focus (intro W' hS; have hcS := hS.cells.1; have hfS := hS.cells.2; go_simp; (first | done | exact rfl | exact ⟨rfl, Below.refl _ _⟩ | (go_simp; first | done | exact rfl | exact ⟨rfl, Below.refl _ _⟩)))); intro K hK; go_simp; (try go_bits); refine hK _ ?_; clear hK K))); refine wpI_nil ?_
  apply wpF_call (i := 4) rfl (by kernel_rfl) (by kernel_rfl); intro W hF hS; have hcS := hS.1.cells.1; have hfS := hS.1.cells.2; go_simp; (go_at_call 68; refine (HPL.out _ (HB1.out.trans (hS.1.2.mono (by omega)))).mono ?_; rintro e w4 ⟨hb_w4, v4, rfl, hv4⟩; refine XPost.mk _ (fun W => IsC W v4 Z) hb_w4 (hv4) (IsC.cl _ _) ?_); clear hb_w4 hcS hfS hS hF
  intro K hK; go_simp; (try go_bits); refine hK _ ?_; clear hK K
  clear hv4
  apply wpF_call (i := 5) rfl (by kernel_rfl) (by kernel_rfl); intro W hF hS; have hcS := hS.1.cells.1; have hfS := hS.1.cells.2; go_simp; (go_at_call 67; refine (HSZ.out _ _ (HB1.out.trans (hS.1.2.mono (by omega))) hF).mono ?_; rintro e w5 ⟨hb_w5, A5, c5, rfl, hc5, hA5⟩; refine XPost.mk _ (fun W => LAt W A5 (canN r1.natAbs)) hb_w5 (hA5) (LAt.cl _ _) ?_); clear hb_w5 hcS hfS hS hF
  intro K hK; go_simp; (try go_bits); refine hK _ ?_; clear hK K
  have HC5 := Lib.hid hc5
  clear hA5 hc5
  refine wpI_start [6, 7] ?_; (iterate 2 (first | (refine wpI_off rfl (by kernel_rfl) rfl (fun K hK => ?_); go_simp; refine hK _ ?_; clear hK K) | ((first | apply wpI_step rfl (by kernel_rfl) rfl | apply wpI_on rfl (by kernel_rfl) rfl); (focus (intro W' hS; have hcS := hS.cells.1; have hfS := hS.cells.2; go_simp; (first | done | exact rfl | exact ⟨rfl, Below.refl _ _⟩ | (go_simp; first | done | exact rfl | exact ⟨rfl, Below.refl _ _⟩)))); intro K hK; go_simp; (try go_bits); refine hK _ ?_; clear hK K))); refine wpI_nil ?_
  refine wpF_done (by kernel_rfl) ?_
  intro w11 hF_w11 hSG
  have hz_w11 := hSG.1.1
  have hb_w11 := hSG.1.2
  clear hSG
  (with_reducible apply cel2 (b := w.heap.size) hb_w11); (focus ((try simp) <;> omega)); (focus omega); (focus (go_simp; try exact rfl)); (focus (go_simp; try exact rfl)); (focus (intro o; go_simp)); intro cc cc fz hl; (with_reducible apply cel2 (b := w.heap.size + 1) hb_w11); (focus ((try simp) <;> omega)); (focus omega); (focus (go_simp; try exact rfl)); (focus (go_simp; try exact rfl)); (focus (intro o; go_simp)); intro cc cc fz hl; (with_reducible apply cel2 (b := w.heap.size + 1 + 1) hb_w11); (focus ((try simp) <;> omega)); (focus omega); (focus (go_simp; try exact rfl)); (focus (go_simp; try exact rfl)); (focus (intro o; go_simp)); intro cc cc fz hl
  (try simp only [List.drop_succ_cons, List.drop_zero])
  have HB11 := Lib.hid (HB1.out.trans (hb_w11.mono (by omega)))
  have HL5 := Lib.hid hF_w11.2
  clear hb_w11 hF_w11
  go_wp2_with fail
  refine bodyPost_ret (v := .tuple #[.agg #[.bool (decide (r1 < 0)), .slice A5 (canN r1.natAbs).length c5], .int .i64 r2]) (by simp only [results, Try.results33]; go_simp) rfl ⟨?_, ?_⟩
  · exact (HB11.out.setCell (by simp <;> omega) _).setCell (by simp <;> omega) _
  · exact ⟨A5, c5, rfl, HC5.out, HL5.out.set2 (by assumption) (by assumption) _ _⟩
set_option maxRecDepth 100000 in
set_option maxHeartbeats 4000000 in
theorem rsub_any (n : Nat) (u v : Value) (a b : Int) (w : World) (ha : IsZ w u n a) (hb : IsZ w v n b) (hn : n ≤ 100000) :
    Calls Try.prog 34 #[u, v] w (EOut (subR a b).1 (subR a b).2 w) := by
  have HA := Lib.hid ha
  have HB := Lib.hid hb
  have hlen := len_sub (isZ_len ha) (isZ_len hb)
  obtain ⟨p, A, c, l, rfl⟩ := isZ_val ha
  obtain ⟨p', A', c', l', rfl⟩ := isZ_val hb
  have hpl := fun w' (hbb : Below w.heap.size w w') => minus_any n _ _ a b w' (ha.below hbb) (hb.below hbb) (by omega)
  obtain ⟨Z, hZ⟩ : ∃ Z, Z = a-b := ⟨_, rfl⟩
  rw [← hZ] at hpl hlen
  have e : subR a b = szR a b Z := by rw [szR_eq]; unfold subR; rw [hZ]
  rw [e]
  have hsz := fun t w' (hbb : Below w.heap.size w w') h => rsized_any (n + 1) _ _ t a b Z w' ((ha.below hbb).upto (Nat.le_succ n)) ((hb.below hbb).upto (Nat.le_succ n)) h hlen (by omega)
  obtain ⟨r1, r2, hr⟩ : ∃ r1 r2, szR a b Z = (r1, r2) := ⟨_, _, rfl⟩
  rw [hr] at hsz ⊢
  have HPL := Lib.hid hpl
  have HSZ := Lib.hid hsz
  clear ha hb hpl hsz e hr hZ hlen HA HB
  go_enter Try.func34, Try.ntmps34; (try simp only [List.append_eq, List.cons_append, List.nil_append])
  go_wp2_with fail
  -- own blocks: w.heap.size:2, w.heap.size + 1:2, w.heap.size + 1 + 1:2
  have HB0 := Lib.hid (show Below w.heap.size w (((w.alloc (.cells #[.bool p, .slice A l c] 24)).alloc (.cells #[.bool p', .slice A' l' c'] 24)).alloc (.cells #[.bool false, .slice none 0 0] 24)) by ((with_reducible (repeat (first | exact bR _ _ | refine bS ?_ ?_ _ | refine bA ?_ ?_ _ | refine bD ?_ | refine bT ?_ (by assumption) ?_ | refine bO (by assumption) ?_ ?_))) <;> (first | omega | (simp; done) | (simp <;> omega))))
  (refine pin_wp (N := _) (Nat.le_refl _) (fun w1 hb_w1 hz_w1 => ?_); (try simp at hz_w1); (with_reducible apply cel2 (b := w.heap.size) hb_w1); (focus ((try simp) <;> omega)); (focus omega); (focus (go_simp; try exact rfl)); (focus (go_simp; try exact rfl)); (focus (intro o; go_simp)); intro cc cc fz hl; (with_reducible apply cel2 (b := w.heap.size + 1) hb_w1); (focus ((try simp) <;> omega)); (focus omega); (focus (go_simp; try exact rfl)); (focus (go_simp; try exact rfl)); (focus (intro o; go_simp)); intro cc cc fz hl; (with_reducible apply cel2 (b := w.heap.size + 1 + 1) hb_w1); (focus ((try simp) <;> omega)); (focus omega); (focus (go_simp; try exact rfl)); (focus (go_simp; try exact rfl)); (focus (intro o; go_simp)); intro cc cc fz hl); refine wp_region_float w1.heap.size 8 (Nat.le_refl _) (fun _ => True) trivial Cl.tt (by kernel_rfl) (by simp) ?_
  have HB1 := Lib.hid (HB0.out.trans (hb_w1.mono (by simp <;> omega)))
  clear hb_w1
  refine wpI_start [0, 1, 2, 3] ?_; (iterate 4 (first | (refine wpI_off rfl (by kernel_rfl) rfl (fun K hK => ?_); go_simp; refine hK _ ?_; clear hK K) | ((first | apply wpI_step rfl (by kernel_rfl) rfl | apply wpI_on rfl (by kernel_rfl) rfl); (focus (intro W' hS; have hcS := hS.cells.1; have hfS := hS.cells.2; go_simp; (first | done | exact rfl | exact ⟨rfl, Below.refl _ _⟩ | (go_simp; first | done | exact rfl | exact ⟨rfl, Below.refl _ _⟩)))); intro K hK; go_simp; (try go_bits); refine hK _ ?_; clear hK K))); refine wpI_nil ?_
  apply wpF_call (i := 4) rfl (by kernel_rfl) (by kernel_rfl); intro W hF hS; have hcS := hS.1.cells.1; have hfS := hS.1.cells.2; go_simp; (go_at_call 69; refine (HPL.out _ (HB1.out.trans (hS.1.2.mono (by omega)))).mono ?_; rintro e w4 ⟨hb_w4, v4, rfl, hv4⟩; refine XPost.mk _ (fun W => IsC W v4 Z) hb_w4 (hv4) (IsC.cl _ _) ?_); clear hb_w4 hcS hfS hS hF
  intro K hK; go_simp; (try go_bits); refine hK _ ?_; clear hK K
  clear hv4
  apply wpF_call (i := 5) rfl (by kernel_rfl) (by kernel_rfl); intro W hF hS; have hcS := hS.1.cells.1; have hfS := hS.1.cells.2; go_simp; (go_at_call 67; refine (HSZ.out _ _ (HB1.out.trans (hS.1.2.mono (by omega))) hF).mono ?_; rintro e w5 ⟨hb_w5, A5, c5, rfl, hc5, hA5⟩; refine XPost.mk _ (fun W => LAt W A5 (canN r1.natAbs)) hb_w5 (hA5) (LAt.cl _ _) ?_); clear hb_w5 hcS hfS hS hF
  intro K hK; go_simp; (try go_bits); refine hK _ ?_; clear hK K
  have HC5 := Lib.hid hc5
  clear hA5 hc5
  refine wpI_start [6, 7] ?_; (iterate 2 (first | (refine wpI_off rfl (by kernel_rfl) rfl (fun K hK => ?_); go_simp; refine hK _ ?_; clear hK K) | ((first | apply wpI_step rfl (by kernel_rfl) rfl | apply wpI_on rfl (by kernel_rfl) rfl); (focus (intro W' hS; have hcS := hS.cells.1; have hfS := hS.cells.2; go_simp; (first | done | exact rfl | exact ⟨rfl, Below.refl _ _⟩ | (go_simp; first | done | exact rfl | exact ⟨rfl, Below.refl _ _⟩)))); intro K hK; go_simp; (try go_bits); refine hK _ ?_; clear hK K))); refine wpI_nil ?_
  refine wpF_done (by kernel_rfl) ?_
  intro w11 hF_w11 hSG
  have hz_w11 := hSG.1.1
  have hb_w11 := hSG.1.2
  clear hSG
  (with_reducible apply cel2 (b := w.heap.size) hb_w11); (focus ((try simp) <;> omega)); (focus omega); (focus (go_simp; try exact rfl)); (focus (go_simp; try exact rfl)); (focus (intro o; go_simp)); intro cc cc fz hl; (with_reducible apply cel2 (b := w.heap.size + 1) hb_w11); (focus ((try simp) <;> omega)); (focus omega); (focus (go_simp; try exact rfl)); (focus (go_simp; try exact rfl)); (focus (intro o; go_simp)); intro cc cc fz hl; (with_reducible apply cel2 (b := w.heap.size + 1 + 1) hb_w11); (focus ((try simp) <;> omega)); (focus omega); (focus (go_simp; try exact rfl)); (focus (go_simp; try exact rfl)); (focus (intro o; go_simp)); intro cc cc fz hl
  (try simp only [List.drop_succ_cons, List.drop_zero])
  have HB11 := Lib.hid (HB1.out.trans (hb_w11.mono (by omega)))
  have HL5 := Lib.hid hF_w11.2
  clear hb_w11 hF_w11
  go_wp2_with fail
  refine bodyPost_ret (v := .tuple #[.agg #[.bool (decide (r1 < 0)), .slice A5 (canN r1.natAbs).length c5], .int .i64 r2]) (by simp only [results, Try.results34]; go_simp) rfl ⟨?_, ?_⟩
  · exact (HB11.out.setCell (by simp <;> omega) _).setCell (by simp <;> omega) _
  · exact ⟨A5, c5, rfl, HC5.out, HL5.out.set2 (by assumption) (by assumption) _ _⟩
end Go.Proofs.Ytadkcipjcmkoiaa
