/- The law's act. -/
import Derived.Test.YtklkhnhieihfoaaSupP
import Derived.Test.YtklkhnhieihfoaaSupH
import Derived.Test.YtklkhnhieihfoaaOpenL
namespace Go.Proofs.Ytklkhnhieihfoaa
open Go Go.RowKit
set_option linter.unusedVariables false
set_option maxRecDepth 100000 in
set_option maxHeartbeats 40000000 in
theorem act_any (P : Pl) (v : Value) (x : Ac) (w : World) (h : PlAt w v P) (hx : x.ok w) (hk : P.ks.length ≤ 400) (hn : P.ns.length ≤ 400) (hle : x.ks.length ≤ 100) (hln : x.ns.length ≤ 100) :
    Calls Try.prog 24 #[v, .agg #[.int .i64 x.kd, .int .i64 x.a, .int .i64 x.b, .slice x.kA x.ks.length x.kc, .slice x.nA x.ns.length x.nc]] w (CpOut (actR P x.kd x.a x.b x.ks x.ns) w) := by
  obtain ⟨kd, a, b, ks, ns, kA, kc, nA, nc⟩ := x
  simp only at hle hln ⊢
  obtain ⟨_, _, _, _, _, hK, hN⟩ := hx
  simp only at hK hN
  have k1 := fun w' (hb : Below w.heap.size w w') => impulse_any P v a b w' (h.below hb (Nat.le_refl _)) (by omega) (by omega)
  have k2 := fun w' (hb : Below w.heap.size w w') => hold_any P v w' (h.below hb (Nat.le_refl _)) (by omega) (by omega)
  have k3 := fun w' (hb : Below w.heap.size w w') => press_any P v ks ns kA nA kc nc w' (h.below hb (Nat.le_refl _)) (hK.below hb (Nat.le_refl _)) (hN.below hb (Nat.le_refl _)) hk hn hle hln
  obtain ⟨A, c, B, d, rfl, _, _⟩ := h
  unfold actR
  generalize impR P a b = T1 at *
  generalize holdR P = T2 at *
  generalize pressR P ks ns = T3 at *
  simp only [plV] at k1 k2 k3 ⊢
  have K1 := Lib.hid k1
  have K2 := Lib.hid k2
  have K3 := Lib.hid k3
  clear k1 k2 k3 hK hN
  by_cases h0 : kd = 0
  · rw [if_pos h0]
    subst h0
    clear K2 K3
    go_enter Try.func24, Try.ntmps24; (try simp only [List.append_eq, List.cons_append, List.nil_append])
    go_wp2_with fail
    -- own blocks: w.heap.size:14, w.heap.size + 1:5, w.heap.size + 1 + 1:14
    (go_at_call 21; refine (K1.out _ (by ((with_reducible (repeat (first | exact bR _ _ | refine bS ?_ ?_ _ | refine bA ?_ ?_ _ | refine bD ?_ | refine bT ?_ (by assumption) ?_ | refine bO (by assumption) ?_ ?_))) <;> (first | omega | (simp; done) | (simp <;> omega))))).mono ?_; rintro e w3 ⟨hb_w3, A2, c2, B2, d2, rfl, hk2, hn2⟩; have hz_w3 := hb_w3.size; (try simp at hz_w3); (with_reducible apply cel14 (b := w.heap.size) hb_w3); (focus ((try simp) <;> omega)); (focus omega); (focus (go_simp; try exact rfl)); (focus (go_simp; try exact rfl)); (focus (go_simp; try exact rfl)); (focus (go_simp; try exact rfl)); (focus (go_simp; try exact rfl)); (focus (go_simp; try exact rfl)); (focus (go_simp; try exact rfl)); (focus (go_simp; try exact rfl)); (focus (go_simp; try exact rfl)); (focus (go_simp; try exact rfl)); (focus (go_simp; try exact rfl)); (focus (go_simp; try exact rfl)); (focus (go_simp; try exact rfl)); (focus (go_simp; try exact rfl)); (focus (intro o; go_simp)); intro cc cc cc cc cc cc cc cc cc cc cc cc cc cc fz hl; (with_reducible apply cel5 (b := w.heap.size + 1) hb_w3); (focus ((try simp) <;> omega)); (focus omega); (focus (go_simp; try exact rfl)); (focus (go_simp; try exact rfl)); (focus (go_simp; try exact rfl)); (focus (go_simp; try exact rfl)); (focus (go_simp; try exact rfl)); (focus (intro o; go_simp)); intro cc cc cc cc cc fz hl; (with_reducible apply cel14 (b := w.heap.size + 1 + 1) hb_w3); (focus ((try simp) <;> omega)); (focus omega); (focus (go_simp; try exact rfl)); (focus (go_simp; try exact rfl)); (focus (go_simp; try exact rfl)); (focus (go_simp; try exact rfl)); (focus (go_simp; try exact rfl)); (focus (go_simp; try exact rfl)); (focus (go_simp; try exact rfl)); (focus (go_simp; try exact rfl)); (focus (go_simp; try exact rfl)); (focus (go_simp; try exact rfl)); (focus (go_simp; try exact rfl)); (focus (go_simp; try exact rfl)); (focus (go_simp; try exact rfl)); (focus (go_simp; try exact rfl)); (focus (intro o; go_simp)); intro cc cc cc cc cc cc cc cc cc cc cc cc cc cc fz hl)
    have HK := Lib.hid (OwnK.weaker (base' := w.heap.size + 1 + 1 + 1) hk2 (by (try simp) <;> omega))
    have HN := Lib.hid (OwnN.weaker (base' := w.heap.size + 1 + 1 + 1) hn2 (by (try simp) <;> omega))
    clear hk2 hn2
    simp only [plV]
    go_wp2_with fail
    refine bodyPost_ret (v := .agg #[.int .i64 T1.p1, .int .i64 T1.p2, .int .i64 T1.v1, .int .i64 T1.v2, .int .i64 T1.h1, .int .i64 T1.h2, .int .i64 T1.f1, .int .i64 T1.f2, .int .i64 T1.b1, .int .i64 T1.b2, .slice A2 T1.ks.length c2, .slice B2 T1.ns.length d2, .bool T1.t, .bool T1.d]) (by simp only [results, Try.results24]; go_simp) rfl ⟨?_, ?_⟩
    · ((with_reducible (repeat (first | exact bR _ _ | refine bS ?_ ?_ _ | refine bA ?_ ?_ _ | refine bD ?_ | refine bT ?_ (by assumption) ?_ | refine bO (by assumption) ?_ ?_))) <;> (first | omega | (simp; done) | (simp <;> omega)))
    · refine ⟨A2, c2, B2, d2, rfl, OwnK.weaker (base := w.heap.size + 1 + 1 + 1) ?_ (by omega), OwnN.weaker (base := w.heap.size + 1 + 1 + 1) ?_ (by omega)⟩
      · have hk9 := HK.out
        ((repeat (first | (with_reducible exact hk9) | (with_reducible refine OwnK.low ?_ ?_ _) | (with_reducible refine OwnK.alloc ?_ _))) <;> first | omega | (simp; done) | (simp <;> omega))
      · have hn9 := HN.out
        ((repeat (first | (with_reducible exact hn9) | (with_reducible refine OwnN.low ?_ ?_ _) | (with_reducible refine OwnN.alloc ?_ _))) <;> first | omega | (simp; done) | (simp <;> omega))
  · rw [if_neg h0]
    have hn0 : (kd == 0) = false := by rw [beq_eq_false_iff_ne]; exact h0
    by_cases h4 : kd = 4
    · rw [if_pos h4]
      subst h4
      clear K1 K3
      go_enter Try.func24, Try.ntmps24; (try simp only [List.append_eq, List.cons_append, List.nil_append])
      go_wp2_with fail
      -- own blocks: w.heap.size:14, w.heap.size + 1:5, w.heap.size + 1 + 1:14
      (go_at_call 62; refine (K2.out _ (by ((with_reducible (repeat (first | exact bR _ _ | refine bS ?_ ?_ _ | refine bA ?_ ?_ _ | refine bD ?_ | refine bT ?_ (by assumption) ?_ | refine bO (by assumption) ?_ ?_))) <;> (first | omega | (simp; done) | (simp <;> omega))))).mono ?_; rintro e w3 ⟨hb_w3, A2, c2, B2, d2, rfl, hk2, hn2⟩; have hz_w3 := hb_w3.size; (try simp at hz_w3); (with_reducible apply cel14 (b := w.heap.size) hb_w3); (focus ((try simp) <;> omega)); (focus omega); (focus (go_simp; try exact rfl)); (focus (go_simp; try exact rfl)); (focus (go_simp; try exact rfl)); (focus (go_simp; try exact rfl)); (focus (go_simp; try exact rfl)); (focus (go_simp; try exact rfl)); (focus (go_simp; try exact rfl)); (focus (go_simp; try exact rfl)); (focus (go_simp; try exact rfl)); (focus (go_simp; try exact rfl)); (focus (go_simp; try exact rfl)); (focus (go_simp; try exact rfl)); (focus (go_simp; try exact rfl)); (focus (go_simp; try exact rfl)); (focus (intro o; go_simp)); intro cc cc cc cc cc cc cc cc cc cc cc cc cc cc fz hl; (with_reducible apply cel5 (b := w.heap.size + 1) hb_w3); (focus ((try simp) <;> omega)); (focus omega); (focus (go_simp; try exact rfl)); (focus (go_simp; try exact rfl)); (focus (go_simp; try exact rfl)); (focus (go_simp; try exact rfl)); (focus (go_simp; try exact rfl)); (focus (intro o; go_simp)); intro cc cc cc cc cc fz hl; (with_reducible apply cel14 (b := w.heap.size + 1 + 1) hb_w3); (focus ((try simp) <;> omega)); (focus omega); (focus (go_simp; try exact rfl)); (focus (go_simp; try exact rfl)); (focus (go_simp; try exact rfl)); (focus (go_simp; try exact rfl)); (focus (go_simp; try exact rfl)); (focus (go_simp; try exact rfl)); (focus (go_simp; try exact rfl)); (focus (go_simp; try exact rfl)); (focus (go_simp; try exact rfl)); (focus (go_simp; try exact rfl)); (focus (go_simp; try exact rfl)); (focus (go_simp; try exact rfl)); (focus (go_simp; try exact rfl)); (focus (go_simp; try exact rfl)); (focus (intro o; go_simp)); intro cc cc cc cc cc cc cc cc cc cc cc cc cc cc fz hl)
      have HK := Lib.hid (OwnK.weaker (base' := w.heap.size + 1 + 1 + 1) hk2 (by (try simp) <;> omega))
      have HN := Lib.hid (OwnN.weaker (base' := w.heap.size + 1 + 1 + 1) hn2 (by (try simp) <;> omega))
      clear hk2 hn2
      simp only [plV]
      go_wp2_with fail
      refine bodyPost_ret (v := .agg #[.int .i64 T2.p1, .int .i64 T2.p2, .int .i64 T2.v1, .int .i64 T2.v2, .int .i64 T2.h1, .int .i64 T2.h2, .int .i64 T2.f1, .int .i64 T2.f2, .int .i64 T2.b1, .int .i64 T2.b2, .slice A2 T2.ks.length c2, .slice B2 T2.ns.length d2, .bool T2.t, .bool T2.d]) (by simp only [results, Try.results24]; go_simp) rfl ⟨?_, ?_⟩
      · ((with_reducible (repeat (first | exact bR _ _ | refine bS ?_ ?_ _ | refine bA ?_ ?_ _ | refine bD ?_ | refine bT ?_ (by assumption) ?_ | refine bO (by assumption) ?_ ?_))) <;> (first | omega | (simp; done) | (simp <;> omega)))
      · refine ⟨A2, c2, B2, d2, rfl, OwnK.weaker (base := w.heap.size + 1 + 1 + 1) ?_ (by omega), OwnN.weaker (base := w.heap.size + 1 + 1 + 1) ?_ (by omega)⟩
        · have hk9 := HK.out
          ((repeat (first | (with_reducible exact hk9) | (with_reducible refine OwnK.low ?_ ?_ _) | (with_reducible refine OwnK.alloc ?_ _))) <;> first | omega | (simp; done) | (simp <;> omega))
        · have hn9 := HN.out
          ((repeat (first | (with_reducible exact hn9) | (with_reducible refine OwnN.low ?_ ?_ _) | (with_reducible refine OwnN.alloc ?_ _))) <;> first | omega | (simp; done) | (simp <;> omega))
    · rw [if_neg h4]
      have hn4 : (kd == 4) = false := by rw [beq_eq_false_iff_ne]; exact h4
      clear K1 K2
      go_enter Try.func24, Try.ntmps24; (try simp only [List.append_eq, List.cons_append, List.nil_append])
      go_wp2_with fail
      -- own blocks: w.heap.size:14, w.heap.size + 1:5, w.heap.size + 1 + 1:14
      (go_at_call 14; refine (K3.out _ (by ((with_reducible (repeat (first | exact bR _ _ | refine bS ?_ ?_ _ | refine bA ?_ ?_ _ | refine bD ?_ | refine bT ?_ (by assumption) ?_ | refine bO (by assumption) ?_ ?_))) <;> (first | omega | (simp; done) | (simp <;> omega))))).mono ?_; rintro e w3 ⟨hb_w3, A2, c2, B2, d2, rfl, hk2, hn2⟩; have hz_w3 := hb_w3.size; (try simp at hz_w3); (with_reducible apply cel14 (b := w.heap.size) hb_w3); (focus ((try simp) <;> omega)); (focus omega); (focus (go_simp; try exact rfl)); (focus (go_simp; try exact rfl)); (focus (go_simp; try exact rfl)); (focus (go_simp; try exact rfl)); (focus (go_simp; try exact rfl)); (focus (go_simp; try exact rfl)); (focus (go_simp; try exact rfl)); (focus (go_simp; try exact rfl)); (focus (go_simp; try exact rfl)); (focus (go_simp; try exact rfl)); (focus (go_simp; try exact rfl)); (focus (go_simp; try exact rfl)); (focus (go_simp; try exact rfl)); (focus (go_simp; try exact rfl)); (focus (intro o; go_simp)); intro cc cc cc cc cc cc cc cc cc cc cc cc cc cc fz hl; (with_reducible apply cel5 (b := w.heap.size + 1) hb_w3); (focus ((try simp) <;> omega)); (focus omega); (focus (go_simp; try exact rfl)); (focus (go_simp; try exact rfl)); (focus (go_simp; try exact rfl)); (focus (go_simp; try exact rfl)); (focus (go_simp; try exact rfl)); (focus (intro o; go_simp)); intro cc cc cc cc cc fz hl; (with_reducible apply cel14 (b := w.heap.size + 1 + 1) hb_w3); (focus ((try simp) <;> omega)); (focus omega); (focus (go_simp; try exact rfl)); (focus (go_simp; try exact rfl)); (focus (go_simp; try exact rfl)); (focus (go_simp; try exact rfl)); (focus (go_simp; try exact rfl)); (focus (go_simp; try exact rfl)); (focus (go_simp; try exact rfl)); (focus (go_simp; try exact rfl)); (focus (go_simp; try exact rfl)); (focus (go_simp; try exact rfl)); (focus (go_simp; try exact rfl)); (focus (go_simp; try exact rfl)); (focus (go_simp; try exact rfl)); (focus (go_simp; try exact rfl)); (focus (intro o; go_simp)); intro cc cc cc cc cc cc cc cc cc cc cc cc cc cc fz hl)
      have HK := Lib.hid (OwnK.weaker (base' := w.heap.size + 1 + 1 + 1) hk2 (by (try simp) <;> omega))
      have HN := Lib.hid (OwnN.weaker (base' := w.heap.size + 1 + 1 + 1) hn2 (by (try simp) <;> omega))
      clear hk2 hn2
      simp only [plV]
      go_wp2_with fail
      refine bodyPost_ret (v := .agg #[.int .i64 T3.p1, .int .i64 T3.p2, .int .i64 T3.v1, .int .i64 T3.v2, .int .i64 T3.h1, .int .i64 T3.h2, .int .i64 T3.f1, .int .i64 T3.f2, .int .i64 T3.b1, .int .i64 T3.b2, .slice A2 T3.ks.length c2, .slice B2 T3.ns.length d2, .bool T3.t, .bool T3.d]) (by simp only [results, Try.results24]; go_simp) rfl ⟨?_, ?_⟩
      · ((with_reducible (repeat (first | exact bR _ _ | refine bS ?_ ?_ _ | refine bA ?_ ?_ _ | refine bD ?_ | refine bT ?_ (by assumption) ?_ | refine bO (by assumption) ?_ ?_))) <;> (first | omega | (simp; done) | (simp <;> omega)))
      · refine ⟨A2, c2, B2, d2, rfl, OwnK.weaker (base := w.heap.size + 1 + 1 + 1) ?_ (by omega), OwnN.weaker (base := w.heap.size + 1 + 1 + 1) ?_ (by omega)⟩
        · have hk9 := HK.out
          ((repeat (first | (with_reducible exact hk9) | (with_reducible refine OwnK.low ?_ ?_ _) | (with_reducible refine OwnK.alloc ?_ _))) <;> first | omega | (simp; done) | (simp <;> omega))
        · have hn9 := HN.out
          ((repeat (first | (with_reducible exact hn9) | (with_reducible refine OwnN.low ?_ ?_ _) | (with_reducible refine OwnN.alloc ?_ _))) <;> first | omega | (simp; done) | (simp <;> omega))
end Go.Proofs.Ytklkhnhieihfoaa
