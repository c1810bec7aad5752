/- The contracts of support.Hold, Impulse, Payable. -/
import Derived.Test.YtklkhnhieihfoaaSupC
namespace Go.Proofs.Ytklkhnhieihfoaa
open Go Go.RowKit
set_option linter.unusedVariables false
def holdR (P : Pl) : Pl := if fitB P = true then { P with v1 := 0, v2 := 0, h1 := 0, h2 := 0, d := true } else zeroPl
theorem fit_stay {P : Pl} (h : fitB P = true) (z : Int) : stayI P.p1 P.p2 z = z := by
  unfold fitB validB at h
  simp only [Bool.and_eq_true] at h
  exact if_pos h.1.1.1.1.1
set_option maxRecDepth 100000 in
set_option maxHeartbeats 8000000 in
theorem hold_any (P : Pl) (v : Value) (w : World) (h : PlAt w v P) (hk : P.ks.length ≤ 1000) (hn : P.ns.length ≤ 1000) :
    Calls Try.prog 62 #[v] w (CpOut (holdR P) w) := by
  have ha := fun w' (hb : Below w.heap.size w w') => accepted_any P v w' (h.below hb (Nat.le_refl _)) (by omega)
  have hc := fun w' (hb : Below w.heap.size w w') => copied_any P v w' (h.below hb (Nat.le_refl _)) hk hn
  cases hf : fitB P
  · have er : holdR P = zeroPl := if_neg (by rw [hf]; simp)
    rw [er]
    rw [hf] at ha
    obtain ⟨A, c, B, e, rfl, hA, hB⟩ := h
    simp only [plV] at ha
    have HA := Lib.hid ha
    clear ha hc hf er hA hB
    simp only [plV]
    go_enter Try.func62, Try.ntmps62; (try simp only [List.append_eq, List.cons_append, List.nil_append])
    go_wp2_with fail
    -- own blocks: w.heap.size:14, w.heap.size + 1:14
    (go_at_call 56; refine (HA.out _ (by ((with_reducible (repeat (first | exact bR _ _ | refine bS ?_ ?_ _ | refine bA ?_ ?_ _ | refine bD ?_ | refine bT ?_ (by assumption) ?_ | refine bO (by assumption) ?_ ?_))) <;> (first | omega | (simp; done) | (simp <;> omega))))).mono ?_; rintro e w1 ⟨rfl, hb_w1⟩; have hz_w1 := hb_w1.size; (try simp at hz_w1); (with_reducible apply cel14 (b := w.heap.size) hb_w1); (focus ((try simp) <;> omega)); (focus omega); (focus (go_simp; try exact rfl)); (focus (go_simp; try exact rfl)); (focus (go_simp; try exact rfl)); (focus (go_simp; try exact rfl)); (focus (go_simp; try exact rfl)); (focus (go_simp; try exact rfl)); (focus (go_simp; try exact rfl)); (focus (go_simp; try exact rfl)); (focus (go_simp; try exact rfl)); (focus (go_simp; try exact rfl)); (focus (go_simp; try exact rfl)); (focus (go_simp; try exact rfl)); (focus (go_simp; try exact rfl)); (focus (go_simp; try exact rfl)); (focus (intro o; go_simp)); intro cc cc cc cc cc cc cc cc cc cc cc cc cc cc fz hl; (with_reducible apply cel14 (b := w.heap.size + 1) hb_w1); (focus ((try simp) <;> omega)); (focus omega); (focus (go_simp; try exact rfl)); (focus (go_simp; try exact rfl)); (focus (go_simp; try exact rfl)); (focus (go_simp; try exact rfl)); (focus (go_simp; try exact rfl)); (focus (go_simp; try exact rfl)); (focus (go_simp; try exact rfl)); (focus (go_simp; try exact rfl)); (focus (go_simp; try exact rfl)); (focus (go_simp; try exact rfl)); (focus (go_simp; try exact rfl)); (focus (go_simp; try exact rfl)); (focus (go_simp; try exact rfl)); (focus (go_simp; try exact rfl)); (focus (intro o; go_simp)); intro cc cc cc cc cc cc cc cc cc cc cc cc cc cc fz hl)
    go_wp2_with fail
    refine bodyPost_ret (v := .agg #[.int .i64 0, .int .i64 0, .int .i64 0, .int .i64 0, .int .i64 0, .int .i64 0, .int .i64 0, .int .i64 0, .int .i64 0, .int .i64 0, .slice none 0 0, .slice none 0 0, .bool false, .bool false]) (by simp only [results, Try.results62]; go_simp) rfl ⟨?_, ?_⟩
    · ((with_reducible (repeat (first | exact bR _ _ | refine bS ?_ ?_ _ | refine bA ?_ ?_ _ | refine bD ?_ | refine bT ?_ (by assumption) ?_ | refine bO (by assumption) ?_ ?_))) <;> (first | omega | (simp; done) | (simp <;> omega)))
    · exact ⟨none, 0, none, 0, rfl, World.ownsRow_nil _ _ _ _, World.ownsRow_nil _ _ _ _⟩
  · have er : holdR P = { P with v1 := 0, v2 := 0, h1 := 0, h2 := 0, d := true } := if_pos hf
    have es := fit_stay hf
    rw [er]
    rw [hf] at ha
    obtain ⟨A, c, B, e, rfl, hA, hB⟩ := h
    obtain ⟨p1, p2, v1, v2, h1, h2, f1, f2, b1, b2, ks, ns, t, d⟩ := P
    simp only [plV] at ha hc es ⊢
    have hst := fun w => stay_any p1 p2 w
    rw [es, es] at hst
    have HA := Lib.hid ha
    have HC := Lib.hid hc
    have HS := Lib.hid hst
    clear ha hc hf er hst es hA hB
    go_enter Try.func62, Try.ntmps62; (try simp only [List.append_eq, List.cons_append, List.nil_append])
    go_wp2_with fail
    -- own blocks: w.heap.size:14, w.heap.size + 1:14
    (go_at_call 56; refine (HA.out _ (by ((with_reducible (repeat (first | exact bR _ _ | refine bS ?_ ?_ _ | refine bA ?_ ?_ _ | refine bD ?_ | refine bT ?_ (by assumption) ?_ | refine bO (by assumption) ?_ ?_))) <;> (first | omega | (simp; done) | (simp <;> omega))))).mono ?_; rintro e w1 ⟨rfl, hb_w1⟩; have hz_w1 := hb_w1.size; (try simp at hz_w1); (with_reducible apply cel14 (b := w.heap.size) hb_w1); (focus ((try simp) <;> omega)); (focus omega); (focus (go_simp; try exact rfl)); (focus (go_simp; try exact rfl)); (focus (go_simp; try exact rfl)); (focus (go_simp; try exact rfl)); (focus (go_simp; try exact rfl)); (focus (go_simp; try exact rfl)); (focus (go_simp; try exact rfl)); (focus (go_simp; try exact rfl)); (focus (go_simp; try exact rfl)); (focus (go_simp; try exact rfl)); (focus (go_simp; try exact rfl)); (focus (go_simp; try exact rfl)); (focus (go_simp; try exact rfl)); (focus (go_simp; try exact rfl)); (focus (intro o; go_simp)); intro cc cc cc cc cc cc cc cc cc cc cc cc cc cc fz hl; (with_reducible apply cel14 (b := w.heap.size + 1) hb_w1); (focus ((try simp) <;> omega)); (focus omega); (focus (go_simp; try exact rfl)); (focus (go_simp; try exact rfl)); (focus (go_simp; try exact rfl)); (focus (go_simp; try exact rfl)); (focus (go_simp; try exact rfl)); (focus (go_simp; try exact rfl)); (focus (go_simp; try exact rfl)); (focus (go_simp; try exact rfl)); (focus (go_simp; try exact rfl)); (focus (go_simp; try exact rfl)); (focus (go_simp; try exact rfl)); (focus (go_simp; try exact rfl)); (focus (go_simp; try exact rfl)); (focus (go_simp; try exact rfl)); (focus (intro o; go_simp)); intro cc cc cc cc cc cc cc cc cc cc cc cc cc cc fz hl)
    go_wp2_with fail
    (go_at_call 58; refine (HC.out _ (by ((with_reducible (repeat (first | exact bR _ _ | refine bS ?_ ?_ _ | refine bA ?_ ?_ _ | refine bD ?_ | refine bT ?_ (by assumption) ?_ | refine bO (by assumption) ?_ ?_))) <;> (first | omega | (simp; done) | (simp <;> omega))))).mono ?_; rintro e w2 ⟨hb_w2, A2, c2, B2, d2, rfl, hk2, hn2⟩; have hz_w2 := hb_w2.size; (try simp at hz_w2); (with_reducible apply cel14 (b := w.heap.size) hb_w2); (focus ((try simp) <;> omega)); (focus omega); (focus (go_simp; try exact rfl)); (focus (go_simp; try exact rfl)); (focus (go_simp; try exact rfl)); (focus (go_simp; try exact rfl)); (focus (go_simp; try exact rfl)); (focus (go_simp; try exact rfl)); (focus (go_simp; try exact rfl)); (focus (go_simp; try exact rfl)); (focus (go_simp; try exact rfl)); (focus (go_simp; try exact rfl)); (focus (go_simp; try exact rfl)); (focus (go_simp; try exact rfl)); (focus (go_simp; try exact rfl)); (focus (go_simp; try exact rfl)); (focus (intro o; go_simp)); intro cc cc cc cc cc cc cc cc cc cc cc cc cc cc fz hl; (with_reducible apply cel14 (b := w.heap.size + 1) hb_w2); (focus ((try simp) <;> omega)); (focus omega); (focus (go_simp; try exact rfl)); (focus (go_simp; try exact rfl)); (focus (go_simp; try exact rfl)); (focus (go_simp; try exact rfl)); (focus (go_simp; try exact rfl)); (focus (go_simp; try exact rfl)); (focus (go_simp; try exact rfl)); (focus (go_simp; try exact rfl)); (focus (go_simp; try exact rfl)); (focus (go_simp; try exact rfl)); (focus (go_simp; try exact rfl)); (focus (go_simp; try exact rfl)); (focus (go_simp; try exact rfl)); (focus (go_simp; try exact rfl)); (focus (intro o; go_simp)); intro cc cc cc cc cc cc cc cc cc cc cc cc cc cc fz hl)
    have HK := Lib.hid hk2
    have HN := Lib.hid hn2
    have hzz : w.heap.size + 1 + 1 ≤ w1.heap.size := by omega
    clear hk2 hn2
    simp only [plV]
    go_wp2_with fail
    -- own blocks: w.heap.size:14, w.heap.size + 1:14
    (go_at_call 64; refine (HS.out _).mono ?_; rintro e w3 ⟨rfl, hb_w3⟩; have hz_w3 := hb_w3.size; (try simp at hz_w3); (with_reducible apply cel14 (b := w.heap.size) hb_w3); (focus ((try simp) <;> omega)); (focus omega); (focus (go_simp; try exact rfl)); (focus (go_simp; try exact rfl)); (focus (go_simp; try exact rfl)); (focus (go_simp; try exact rfl)); (focus (go_simp; try exact rfl)); (focus (go_simp; try exact rfl)); (focus (go_simp; try exact rfl)); (focus (go_simp; try exact rfl)); (focus (go_simp; try exact rfl)); (focus (go_simp; try exact rfl)); (focus (go_simp; try exact rfl)); (focus (go_simp; try exact rfl)); (focus (go_simp; try exact rfl)); (focus (go_simp; try exact rfl)); (focus (intro o; go_simp)); intro cc cc cc cc cc cc cc cc cc cc cc cc cc cc fz hl; (with_reducible apply cel14 (b := w.heap.size + 1) hb_w3); (focus ((try simp) <;> omega)); (focus omega); (focus (go_simp; try exact rfl)); (focus (go_simp; try exact rfl)); (focus (go_simp; try exact rfl)); (focus (go_simp; try exact rfl)); (focus (go_simp; try exact rfl)); (focus (go_simp; try exact rfl)); (focus (go_simp; try exact rfl)); (focus (go_simp; try exact rfl)); (focus (go_simp; try exact rfl)); (focus (go_simp; try exact rfl)); (focus (go_simp; try exact rfl)); (focus (go_simp; try exact rfl)); (focus (go_simp; try exact rfl)); (focus (go_simp; try exact rfl)); (focus (intro o; go_simp)); intro cc cc cc cc cc cc cc cc cc cc cc cc cc cc fz hl)
    go_wp2_with fail
    refine bodyPost_ret (v := .agg #[.int .i64 p1, .int .i64 p2, .int .i64 0, .int .i64 0, .int .i64 0, .int .i64 0, .int .i64 f1, .int .i64 f2, .int .i64 b1, .int .i64 b2, .slice A2 ks.length c2, .slice B2 ns.length d2, .bool t, .bool true]) (by simp only [results, Try.results62]; go_simp) rfl ⟨?_, ?_⟩
    · ((with_reducible (repeat (first | exact bR _ _ | refine bS ?_ ?_ _ | refine bA ?_ ?_ _ | refine bD ?_ | refine bT ?_ (by assumption) ?_ | refine bO (by assumption) ?_ ?_))) <;> (first | omega | (simp; done) | (simp <;> omega)))
    · have hk9 := HK.out
      have hn9 := HN.out
      unfold OwnK at hk9
      unfold OwnN at hn9
      refine ⟨A2, c2, B2, d2, rfl, own_weaker (base := w1.heap.size) ?_ (by omega), own_weaker (base := w1.heap.size) ?_ (by omega)⟩
      · show World.ownsRow _ _ _ _ (.slice A2 ks.length c2) ks.length (ks.map (Value.int .i64))
        ((repeat (first | (with_reducible exact hk9) | (with_reducible refine own_setlow ?_ ?_ _) | (with_reducible refine own_below ?_ hb_w3 ?_))) <;> first | omega | (simp; done) | (simp <;> omega))
      · show World.ownsRow _ _ _ _ (.slice B2 ns.length d2) ns.length (flatV ns)
        ((repeat (first | (with_reducible exact hn9) | (with_reducible refine own_setlow ?_ ?_ _) | (with_reducible refine own_below ?_ hb_w3 ?_))) <;> first | omega | (simp; done) | (simp <;> omega))
def impR (P : Pl) (a b : Int) : Pl := if fitB P = true ∧ withinB a b 262144 = true then (if P.d = true then P else startR P.p1 P.p2 a b P.f1 P.f2) else zeroPl
set_option maxRecDepth 100000 in
set_option maxHeartbeats 8000000 in
theorem impulse_any (P : Pl) (v : Value) (a b : Int) (w : World) (h : PlAt w v P) (hk : P.ks.length ≤ 1000) (hn : P.ns.length ≤ 1000) :
    Calls Try.prog 21 #[v, .agg #[.int .i64 a, .int .i64 b]] w (CpOut (impR P a b) w) := by
  have ha := fun w' (hb : Below w.heap.size w w') => accepted_any P v w' (h.below hb (Nat.le_refl _)) (by omega)
  have hc := fun w' (hb : Below w.heap.size w w') => copied_any P v w' (h.below hb (Nat.le_refl _)) hk hn
  have hw := fun g w => swithin_one 262144 a b g w (by omega) (by omega)
  have hs := fun w => start_any P.p1 P.p2 a b P.f1 P.f2 w
  obtain ⟨R, hR⟩ : ∃ R, R = impR P a b := ⟨_, rfl⟩
  rw [← hR]
  unfold impR at hR
  obtain ⟨S, hS⟩ : ∃ S, S = startR P.p1 P.p2 a b P.f1 P.f2 := ⟨_, rfl⟩
  have hSn : S.ks = [] ∧ S.ns = [] := by rw [hS]; unfold startR; split <;> exact ⟨rfl, rfl⟩
  rw [← hS] at hR hs
  generalize fitB P = c1 at *
  generalize withinB a b 262144 = c2 at *
  obtain ⟨A, c, B, e, rfl, hA, hB⟩ := h
  obtain ⟨p1, p2, v1, v2, h1, h2, f1, f2, b1, b2, ks, ns, t, d⟩ := P
  obtain ⟨q1, q2, q3, q4, q5, q6, q7, q8, q9, q10, qk, qn, qt, qd⟩ := S
  simp only at hSn hR
  obtain ⟨rfl, rfl⟩ := hSn
  have hz := fun w => PlAt.zero w
  have hp := fun w => plAt_nil w ⟨q1, q2, q3, q4, q5, q6, q7, q8, q9, q10, [], [], qt, qd⟩ rfl rfl
  simp only [plV, zeroPl] at ha hc hs hz hp ⊢
  have HA := Lib.hid ha
  have HC := Lib.hid hc
  have HS := Lib.hid hs
  have HW := Lib.hid hw
  have HZ := Lib.hid hz
  have HP := Lib.hid hp
  have HR := Lib.hid hR
  clear ha hc hs hw hA hB hz hp hR hS
  go_enter Try.func21, Try.ntmps21; (try simp only [List.append_eq, List.cons_append, List.nil_append])
  go_wp2_with fail
  -- own blocks: w.heap.size:14, w.heap.size + 1:2, w.heap.size + 1 + 1:14
  (go_at_call 56; refine (HA.out _ (by ((with_reducible (repeat (first | exact bR _ _ | refine bS ?_ ?_ _ | refine bA ?_ ?_ _ | refine bD ?_ | refine bT ?_ (by assumption) ?_ | refine bO (by assumption) ?_ ?_))) <;> (first | omega | (simp; done) | (simp <;> omega))))).mono ?_; rintro e w1 ⟨rfl, hb_w1⟩; have hz_w1 := hb_w1.size; (try simp at hz_w1); (with_reducible apply cel14 (b := w.heap.size) hb_w1); (focus ((try simp) <;> omega)); (focus omega); (focus (go_simp; try exact rfl)); (focus (go_simp; try exact rfl)); (focus (go_simp; try exact rfl)); (focus (go_simp; try exact rfl)); (focus (go_simp; try exact rfl)); (focus (go_simp; try exact rfl)); (focus (go_simp; try exact rfl)); (focus (go_simp; try exact rfl)); (focus (go_simp; try exact rfl)); (focus (go_simp; try exact rfl)); (focus (go_simp; try exact rfl)); (focus (go_simp; try exact rfl)); (focus (go_simp; try exact rfl)); (focus (go_simp; try exact rfl)); (focus (intro o; go_simp)); intro cc cc cc cc cc cc cc cc cc cc cc cc cc cc fz hl; (with_reducible apply cel2 (b := w.heap.size + 1) hb_w1); (focus ((try simp) <;> omega)); (focus omega); (focus (go_simp; try exact rfl)); (focus (go_simp; try exact rfl)); (focus (intro o; go_simp)); intro cc cc fz hl; (with_reducible apply cel14 (b := w.heap.size + 1 + 1) hb_w1); (focus ((try simp) <;> omega)); (focus omega); (focus (go_simp; try exact rfl)); (focus (go_simp; try exact rfl)); (focus (go_simp; try exact rfl)); (focus (go_simp; try exact rfl)); (focus (go_simp; try exact rfl)); (focus (go_simp; try exact rfl)); (focus (go_simp; try exact rfl)); (focus (go_simp; try exact rfl)); (focus (go_simp; try exact rfl)); (focus (go_simp; try exact rfl)); (focus (go_simp; try exact rfl)); (focus (go_simp; try exact rfl)); (focus (go_simp; try exact rfl)); (focus (go_simp; try exact rfl)); (focus (intro o; go_simp)); intro cc cc cc cc cc cc cc cc cc cc cc cc cc cc fz hl)
  cases c1
  · have hr := HR.out
    rw [if_neg (by simp)] at hr
    subst hr
    go_wp2_with fail
    refine bodyPost_ret (v := .agg #[.int .i64 0, .int .i64 0, .int .i64 0, .int .i64 0, .int .i64 0, .int .i64 0, .int .i64 0, .int .i64 0, .int .i64 0, .int .i64 0, .slice none 0 0, .slice none 0 0, .bool false, .bool false]) (by simp only [results, Try.results21]; go_simp) rfl ⟨?_, ?_⟩
    · ((with_reducible (repeat (first | exact bR _ _ | refine bS ?_ ?_ _ | refine bA ?_ ?_ _ | refine bD ?_ | refine bT ?_ (by assumption) ?_ | refine bO (by assumption) ?_ ?_))) <;> (first | omega | (simp; done) | (simp <;> omega)))
    · exact ⟨none, 0, none, 0, rfl, World.ownsRow_nil _ _ _ _, World.ownsRow_nil _ _ _ _⟩
  · go_wp2_with fail
    (go_at_call 57; refine (HW.out _ _ (by simp) (by go_simp) (by go_simp)).mono ?_; rintro e w2 ⟨rfl, hb_w2⟩; have hz_w2 := hb_w2.size; (try simp at hz_w2); (with_reducible apply cel14 (b := w.heap.size) hb_w2); (focus ((try simp) <;> omega)); (focus omega); (focus (go_simp; try exact rfl)); (focus (go_simp; try exact rfl)); (focus (go_simp; try exact rfl)); (focus (go_simp; try exact rfl)); (focus (go_simp; try exact rfl)); (focus (go_simp; try exact rfl)); (focus (go_simp; try exact rfl)); (focus (go_simp; try exact rfl)); (focus (go_simp; try exact rfl)); (focus (go_simp; try exact rfl)); (focus (go_simp; try exact rfl)); (focus (go_simp; try exact rfl)); (focus (go_simp; try exact rfl)); (focus (go_simp; try exact rfl)); (focus (intro o; go_simp)); intro cc cc cc cc cc cc cc cc cc cc cc cc cc cc fz hl; (with_reducible apply cel2 (b := w.heap.size + 1) hb_w2); (focus ((try simp) <;> omega)); (focus omega); (focus (go_simp; try exact rfl)); (focus (go_simp; try exact rfl)); (focus (intro o; go_simp)); intro cc cc fz hl; (with_reducible apply cel14 (b := w.heap.size + 1 + 1) hb_w2); (focus ((try simp) <;> omega)); (focus omega); (focus (go_simp; try exact rfl)); (focus (go_simp; try exact rfl)); (focus (go_simp; try exact rfl)); (focus (go_simp; try exact rfl)); (focus (go_simp; try exact rfl)); (focus (go_simp; try exact rfl)); (focus (go_simp; try exact rfl)); (focus (go_simp; try exact rfl)); (focus (go_simp; try exact rfl)); (focus (go_simp; try exact rfl)); (focus (go_simp; try exact rfl)); (focus (go_simp; try exact rfl)); (focus (go_simp; try exact rfl)); (focus (go_simp; try exact rfl)); (focus (intro o; go_simp)); intro cc cc cc cc cc cc cc cc cc cc cc cc cc cc fz hl)
    cases c2
    · have hr := HR.out
      rw [if_neg (by simp)] at hr
      subst hr
      go_wp2_with fail
      refine bodyPost_ret (v := .agg #[.int .i64 0, .int .i64 0, .int .i64 0, .int .i64 0, .int .i64 0, .int .i64 0, .int .i64 0, .int .i64 0, .int .i64 0, .int .i64 0, .slice none 0 0, .slice none 0 0, .bool false, .bool false]) (by simp only [results, Try.results21]; go_simp) rfl ⟨?_, ?_⟩
      · ((with_reducible (repeat (first | exact bR _ _ | refine bS ?_ ?_ _ | refine bA ?_ ?_ _ | refine bD ?_ | refine bT ?_ (by assumption) ?_ | refine bO (by assumption) ?_ ?_))) <;> (first | omega | (simp; done) | (simp <;> omega)))
      · exact ⟨none, 0, none, 0, rfl, World.ownsRow_nil _ _ _ _, World.ownsRow_nil _ _ _ _⟩
    · have hr := HR.out
      rw [if_pos (by simp)] at hr
      cases d
      · rw [if_neg (by simp)] at hr
        subst hr
        go_wp2_with fail
        (go_at_call 15; refine (HS.out _).mono ?_; rintro e w3 ⟨rfl, hb_w3⟩; have hz_w3 := hb_w3.size; (try simp at hz_w3); (with_reducible apply cel14 (b := w.heap.size) hb_w3); (focus ((try simp) <;> omega)); (focus omega); (focus (go_simp; try exact rfl)); (focus (go_simp; try exact rfl)); (focus (go_simp; try exact rfl)); (focus (go_simp; try exact rfl)); (focus (go_simp; try exact rfl)); (focus (go_simp; try exact rfl)); (focus (go_simp; try exact rfl)); (focus (go_simp; try exact rfl)); (focus (go_simp; try exact rfl)); (focus (go_simp; try exact rfl)); (focus (go_simp; try exact rfl)); (focus (go_simp; try exact rfl)); (focus (go_simp; try exact rfl)); (focus (go_simp; try exact rfl)); (focus (intro o; go_simp)); intro cc cc cc cc cc cc cc cc cc cc cc cc cc cc fz hl; (with_reducible apply cel2 (b := w.heap.size + 1) hb_w3); (focus ((try simp) <;> omega)); (focus omega); (focus (go_simp; try exact rfl)); (focus (go_simp; try exact rfl)); (focus (intro o; go_simp)); intro cc cc fz hl; (with_reducible apply cel14 (b := w.heap.size + 1 + 1) hb_w3); (focus ((try simp) <;> omega)); (focus omega); (focus (go_simp; try exact rfl)); (focus (go_simp; try exact rfl)); (focus (go_simp; try exact rfl)); (focus (go_simp; try exact rfl)); (focus (go_simp; try exact rfl)); (focus (go_simp; try exact rfl)); (focus (go_simp; try exact rfl)); (focus (go_simp; try exact rfl)); (focus (go_simp; try exact rfl)); (focus (go_simp; try exact rfl)); (focus (go_simp; try exact rfl)); (focus (go_simp; try exact rfl)); (focus (go_simp; try exact rfl)); (focus (go_simp; try exact rfl)); (focus (intro o; go_simp)); intro cc cc cc cc cc cc cc cc cc cc cc cc cc cc fz hl)
        go_wp2_with fail
        refine bodyPost_ret (v := .agg #[.int .i64 q1, .int .i64 q2, .int .i64 q3, .int .i64 q4, .int .i64 q5, .int .i64 q6, .int .i64 q7, .int .i64 q8, .int .i64 q9, .int .i64 q10, .slice none 0 0, .slice none 0 0, .bool qt, .bool qd]) (by simp only [results, Try.results21]; go_simp) rfl ⟨?_, ?_⟩
        · ((with_reducible (repeat (first | exact bR _ _ | refine bS ?_ ?_ _ | refine bA ?_ ?_ _ | refine bD ?_ | refine bT ?_ (by assumption) ?_ | refine bO (by assumption) ?_ ?_))) <;> (first | omega | (simp; done) | (simp <;> omega)))
        · exact ⟨none, 0, none, 0, rfl, World.ownsRow_nil _ _ _ _, World.ownsRow_nil _ _ _ _⟩
      · rw [if_pos rfl] at hr
        subst hr
        go_wp2_with fail
        (go_at_call 58; refine (HC.out _ (by ((with_reducible (repeat (first | exact bR _ _ | refine bS ?_ ?_ _ | refine bA ?_ ?_ _ | refine bD ?_ | refine bT ?_ (by assumption) ?_ | refine bO (by assumption) ?_ ?_))) <;> (first | omega | (simp; done) | (simp <;> omega))))).mono ?_; rintro e w3 ⟨hb_w3, A2, c2, B2, d2, rfl, hk2, hn2⟩; have hz_w3 := hb_w3.size; (try simp at hz_w3); (with_reducible apply cel14 (b := w.heap.size) hb_w3); (focus ((try simp) <;> omega)); (focus omega); (focus (go_simp; try exact rfl)); (focus (go_simp; try exact rfl)); (focus (go_simp; try exact rfl)); (focus (go_simp; try exact rfl)); (focus (go_simp; try exact rfl)); (focus (go_simp; try exact rfl)); (focus (go_simp; try exact rfl)); (focus (go_simp; try exact rfl)); (focus (go_simp; try exact rfl)); (focus (go_simp; try exact rfl)); (focus (go_simp; try exact rfl)); (focus (go_simp; try exact rfl)); (focus (go_simp; try exact rfl)); (focus (go_simp; try exact rfl)); (focus (intro o; go_simp)); intro cc cc cc cc cc cc cc cc cc cc cc cc cc cc fz hl; (with_reducible apply cel2 (b := w.heap.size + 1) hb_w3); (focus ((try simp) <;> omega)); (focus omega); (focus (go_simp; try exact rfl)); (focus (go_simp; try exact rfl)); (focus (intro o; go_simp)); intro cc cc fz hl; (with_reducible apply cel14 (b := w.heap.size + 1 + 1) hb_w3); (focus ((try simp) <;> omega)); (focus omega); (focus (go_simp; try exact rfl)); (focus (go_simp; try exact rfl)); (focus (go_simp; try exact rfl)); (focus (go_simp; try exact rfl)); (focus (go_simp; try exact rfl)); (focus (go_simp; try exact rfl)); (focus (go_simp; try exact rfl)); (focus (go_simp; try exact rfl)); (focus (go_simp; try exact rfl)); (focus (go_simp; try exact rfl)); (focus (go_simp; try exact rfl)); (focus (go_simp; try exact rfl)); (focus (go_simp; try exact rfl)); (focus (go_simp; try exact rfl)); (focus (intro o; go_simp)); intro cc cc cc cc cc cc cc cc cc cc cc cc cc cc fz hl)
        have HK := Lib.hid hk2
        have HN := Lib.hid hn2
        clear hk2 hn2
        simp only [plV]
        go_wp2_with fail
        refine bodyPost_ret (v := .agg #[.int .i64 p1, .int .i64 p2, .int .i64 v1, .int .i64 v2, .int .i64 h1, .int .i64 h2, .int .i64 f1, .int .i64 f2, .int .i64 b1, .int .i64 b2, .slice A2 ks.length c2, .slice B2 ns.length d2, .bool t, .bool true]) (by simp only [results, Try.results21]; go_simp) rfl ⟨?_, ?_⟩
        · ((with_reducible (repeat (first | exact bR _ _ | refine bS ?_ ?_ _ | refine bA ?_ ?_ _ | refine bD ?_ | refine bT ?_ (by assumption) ?_ | refine bO (by assumption) ?_ ?_))) <;> (first | omega | (simp; done) | (simp <;> omega)))
        · have hk9 := HK.out
          have hn9 := HN.out
          unfold OwnK at hk9
          unfold OwnN at hn9
          refine ⟨A2, c2, B2, d2, rfl, own_weaker (base := w2.heap.size) ?_ (by omega), own_weaker (base := w2.heap.size) ?_ (by omega)⟩
          · show World.ownsRow _ _ _ _ (.slice A2 ks.length c2) ks.length (ks.map (Value.int .i64))
            ((repeat (first | (with_reducible exact hk9) | (with_reducible refine own_setlow ?_ ?_ _))) <;> first | omega | (simp; done) | (simp <;> omega))
          · show World.ownsRow _ _ _ _ (.slice B2 ns.length d2) ns.length (flatV ns)
            ((repeat (first | (with_reducible exact hn9) | (with_reducible refine own_setlow ?_ ?_ _))) <;> first | omega | (simp; done) | (simp <;> omega))
theorem payable_any (P : Pl) (v : Value) (w : World) (h : PlAt w v P) (hn : P.ns.length ≤ 1000) (hf : fitB P = true) :
    Calls Try.prog 55 #[v] w fun e w' => e = .returned (.bool (decide (0 ≤ budR P))) ∧ Below w.heap.size w w' := by
  have ha := fun w' (hb : Below w.heap.size w w') => accepted_any P v w' (h.below hb (Nat.le_refl _)) (by omega)
  have hbu := fun w' (hb : Below w.heap.size w w') => budget_any P v w' (h.below hb (Nat.le_refl _)) (fit_bud hf)
  rw [hf] at ha
  obtain ⟨A, c, B, e, rfl, hA, hB⟩ := h
  generalize budR P = R at *
  simp only [plV] at ha hbu ⊢
  have HA := Lib.hid ha
  have HB := Lib.hid hbu
  clear ha hbu hA hB hf
  go_enter Try.func55, Try.ntmps55; (try simp only [List.append_eq, List.cons_append, List.nil_append])
  go_wp2_with fail
  -- own blocks: w.heap.size:14
  (go_at_call 56; refine (HA.out _ (by ((with_reducible (repeat (first | exact bR _ _ | refine bS ?_ ?_ _ | refine bA ?_ ?_ _ | refine bD ?_ | refine bT ?_ (by assumption) ?_ | refine bO (by assumption) ?_ ?_))) <;> (first | omega | (simp; done) | (simp <;> omega))))).mono ?_; rintro e w1 ⟨rfl, hb_w1⟩; have hz_w1 := hb_w1.size; (try simp at hz_w1); (with_reducible apply cel14 (b := w.heap.size) hb_w1); (focus ((try simp) <;> omega)); (focus omega); (focus (go_simp; try exact rfl)); (focus (go_simp; try exact rfl)); (focus (go_simp; try exact rfl)); (focus (go_simp; try exact rfl)); (focus (go_simp; try exact rfl)); (focus (go_simp; try exact rfl)); (focus (go_simp; try exact rfl)); (focus (go_simp; try exact rfl)); (focus (go_simp; try exact rfl)); (focus (go_simp; try exact rfl)); (focus (go_simp; try exact rfl)); (focus (go_simp; try exact rfl)); (focus (go_simp; try exact rfl)); (focus (go_simp; try exact rfl)); (focus (intro o; go_simp)); intro cc cc cc cc cc cc cc cc cc cc cc cc cc cc fz hl)
  go_wp2_with fail
  (go_at_call 63; refine (HB.out _ (by ((with_reducible (repeat (first | exact bR _ _ | refine bS ?_ ?_ _ | refine bA ?_ ?_ _ | refine bD ?_ | refine bT ?_ (by assumption) ?_ | refine bO (by assumption) ?_ ?_))) <;> (first | omega | (simp; done) | (simp <;> omega))))).mono ?_; rintro e w2 ⟨rfl, hb_w2⟩; have hz_w2 := hb_w2.size; (try simp at hz_w2); (with_reducible apply cel14 (b := w.heap.size) hb_w2); (focus ((try simp) <;> omega)); (focus omega); (focus (go_simp; try exact rfl)); (focus (go_simp; try exact rfl)); (focus (go_simp; try exact rfl)); (focus (go_simp; try exact rfl)); (focus (go_simp; try exact rfl)); (focus (go_simp; try exact rfl)); (focus (go_simp; try exact rfl)); (focus (go_simp; try exact rfl)); (focus (go_simp; try exact rfl)); (focus (go_simp; try exact rfl)); (focus (go_simp; try exact rfl)); (focus (go_simp; try exact rfl)); (focus (go_simp; try exact rfl)); (focus (go_simp; try exact rfl)); (focus (intro o; go_simp)); intro cc cc cc cc cc cc cc cc cc cc cc cc cc cc fz hl)
  go_wp2_with fail
  go_ret
  exact ⟨by first | trivial | rfl, by ((with_reducible (repeat (first | exact bR _ _ | refine bS ?_ ?_ _ | refine bA ?_ ?_ _ | refine bD ?_ | refine bT ?_ (by assumption) ?_ | refine bO (by assumption) ?_ ?_))) <;> (first | omega | (simp; done) | (simp <;> omega)))⟩
end Go.Proofs.Ytklkhnhieihfoaa
