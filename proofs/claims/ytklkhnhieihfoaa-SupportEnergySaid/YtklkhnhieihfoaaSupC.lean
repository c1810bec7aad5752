/- The contracts of support.accepted, Start, budget, Payable, Hold, Impulse. -/
import Derived.Test.YtklkhnhieihfoaaSupB
namespace Go.Proofs.Ytklkhnhieihfoaa
open Go Go.RowKit
set_option linter.unusedVariables false
def fitB (P : Pl) : Bool := validB P.p1 P.p2 P.v1 P.v2 P.h1 P.h2 && withinB P.f1 P.f2 4096 && withinB P.b1 P.b2 262144 && P.ns.all (nearB 2097152)
theorem swithin_one (n a b : Int) (g : Nat) (w : World) (n0 : 0 ≤ n) (n1 : n ≤ 1000000000) (hg : g < w.heap.size) (h0 : w.cell? ⟨g, 0, none⟩ = some (.int .i64 a)) (h1 : w.cell? ⟨g, 1, none⟩ = some (.int .i64 b)) :
    Calls Try.prog 57 #[.int .i64 n, .slice (some ⟨g, 0, none⟩) 1 1] w fun e w' => e = .returned (.bool (withinB a b n)) ∧ Below w.heap.size w w' := by
  have := swithin_any n [(a, b)] (some ⟨g, 0, none⟩) 1 w (by simp) (fun k x hx => by
    rcases k with _ | k
    · simp only [List.getElem?_cons_zero, Option.some.injEq] at hx
      subst hx
      exact ⟨g, 0, rfl, hg, by simpa using h0, by simpa using h1⟩
    · simp at hx) n0 n1
  simpa [nearB] using this
set_option maxRecDepth 100000 in
set_option maxHeartbeats 4000000 in
theorem accepted_any (P : Pl) (v : Value) (w : World) (h : PlAt w v P) (hn : P.ns.length ≤ 1000000) :
    Calls Try.prog 56 #[v] w fun e w' => e = .returned (.bool (fitB P)) ∧ Below w.heap.size w w' := by
  obtain ⟨A, c, B, e, rfl, hA, hB⟩ := h
  obtain ⟨p1, p2, v1, v2, h1, h2, f1, f2, b1, b2, ks, ns, t, d⟩ := P
  simp only [plV, fitB] at *
  have k1 := fun w => valid_any p1 p2 v1 v2 h1 h2 w
  have k2 := fun g w => swithin_one 4096 f1 f2 g w (by omega) (by omega)
  have k3 := fun g w => swithin_one 262144 b1 b2 g w (by omega) (by omega)
  have k4 := fun w' (h : Below w.heap.size w w') => swithin_any 2097152 ns B e w' hn (hB.below h (Nat.le_refl _)) (by omega) (by omega)
  generalize validB p1 p2 v1 v2 h1 h2 = c1 at *
  generalize withinB f1 f2 4096 = c2 at *
  generalize withinB b1 b2 262144 = c3 at *
  generalize ns.all (nearB 2097152) = c4 at *
  have K1 := Lib.hid k1
  have K2 := Lib.hid k2
  have K3 := Lib.hid k3
  have K4 := Lib.hid k4
  clear k1 k2 k3 k4 hA hB
  go_enter Try.func56, Try.ntmps56; (try simp only [List.append_eq, List.cons_append, List.nil_append])
  go_wp2_with fail
  -- own blocks: w.heap.size:14
  (go_at_call 105; refine (K1.out _).mono ?_; rintro e w1 ⟨rfl, hb_w1⟩; have hz_w1 := hb_w1.size; (try simp at hz_w1); (with_reducible apply cel14 (b := w.heap.size) hb_w1); (focus ((try simp) <;> omega)); (focus omega); (focus (go_simp; try exact rfl)); (focus (go_simp; try exact rfl)); (focus (go_simp; try exact rfl)); (focus (go_simp; try exact rfl)); (focus (go_simp; try exact rfl)); (focus (go_simp; try exact rfl)); (focus (go_simp; try exact rfl)); (focus (go_simp; try exact rfl)); (focus (go_simp; try exact rfl)); (focus (go_simp; try exact rfl)); (focus (go_simp; try exact rfl)); (focus (go_simp; try exact rfl)); (focus (go_simp; try exact rfl)); (focus (go_simp; try exact rfl)); (focus (intro o; go_simp)); intro cc cc cc cc cc cc cc cc cc cc cc cc cc cc fz hl)
  cases c1
  · go_wp2_with fail
    go_ret
    exact ⟨rfl, by ((with_reducible (repeat (first | exact bR _ _ | refine bS ?_ ?_ _ | refine bA ?_ ?_ _ | refine bD ?_ | refine bT ?_ (by assumption) ?_ | refine bO (by assumption) ?_ ?_))) <;> (first | omega | (simp; done) | (simp <;> omega)))⟩
  · go_wp2_with fail
    (go_at_call 57; refine (K2.out _ _ (by simp) (by go_simp) (by go_simp)).mono ?_; rintro e w2 ⟨rfl, hb_w2⟩; have hz_w2 := hb_w2.size; (try simp at hz_w2); (with_reducible apply cel14 (b := w.heap.size) hb_w2); (focus ((try simp) <;> omega)); (focus omega); (focus (go_simp; try exact rfl)); (focus (go_simp; try exact rfl)); (focus (go_simp; try exact rfl)); (focus (go_simp; try exact rfl)); (focus (go_simp; try exact rfl)); (focus (go_simp; try exact rfl)); (focus (go_simp; try exact rfl)); (focus (go_simp; try exact rfl)); (focus (go_simp; try exact rfl)); (focus (go_simp; try exact rfl)); (focus (go_simp; try exact rfl)); (focus (go_simp; try exact rfl)); (focus (go_simp; try exact rfl)); (focus (go_simp; try exact rfl)); (focus (intro o; go_simp)); intro cc cc cc cc cc cc cc cc cc cc cc cc cc cc fz hl)
    cases c2
    · go_wp2_with fail
      go_ret
      exact ⟨rfl, by ((with_reducible (repeat (first | exact bR _ _ | refine bS ?_ ?_ _ | refine bA ?_ ?_ _ | refine bD ?_ | refine bT ?_ (by assumption) ?_ | refine bO (by assumption) ?_ ?_))) <;> (first | omega | (simp; done) | (simp <;> omega)))⟩
    · go_wp2_with fail
      (go_at_call 57; refine (K3.out _ _ (by simp) (by go_simp) (by go_simp)).mono ?_; rintro e w3 ⟨rfl, hb_w3⟩; have hz_w3 := hb_w3.size; (try simp at hz_w3); (with_reducible apply cel14 (b := w.heap.size) hb_w3); (focus ((try simp) <;> omega)); (focus omega); (focus (go_simp; try exact rfl)); (focus (go_simp; try exact rfl)); (focus (go_simp; try exact rfl)); (focus (go_simp; try exact rfl)); (focus (go_simp; try exact rfl)); (focus (go_simp; try exact rfl)); (focus (go_simp; try exact rfl)); (focus (go_simp; try exact rfl)); (focus (go_simp; try exact rfl)); (focus (go_simp; try exact rfl)); (focus (go_simp; try exact rfl)); (focus (go_simp; try exact rfl)); (focus (go_simp; try exact rfl)); (focus (go_simp; try exact rfl)); (focus (intro o; go_simp)); intro cc cc cc cc cc cc cc cc cc cc cc cc cc cc fz hl)
      cases c3
      · go_wp2_with fail
        go_ret
        exact ⟨rfl, by ((with_reducible (repeat (first | exact bR _ _ | refine bS ?_ ?_ _ | refine bA ?_ ?_ _ | refine bD ?_ | refine bT ?_ (by assumption) ?_ | refine bO (by assumption) ?_ ?_))) <;> (first | omega | (simp; done) | (simp <;> omega)))⟩
      · go_wp2_with fail
        (go_at_call 57; refine (K4.out _ (by ((with_reducible (repeat (first | exact bR _ _ | refine bS ?_ ?_ _ | refine bA ?_ ?_ _ | refine bD ?_ | refine bT ?_ (by assumption) ?_ | refine bO (by assumption) ?_ ?_))) <;> (first | omega | (simp; done) | (simp <;> omega))))).mono ?_; rintro e w4 ⟨rfl, hb_w4⟩; have hz_w4 := hb_w4.size; (try simp at hz_w4); (with_reducible apply cel14 (b := w.heap.size) hb_w4); (focus ((try simp) <;> omega)); (focus omega); (focus (go_simp; try exact rfl)); (focus (go_simp; try exact rfl)); (focus (go_simp; try exact rfl)); (focus (go_simp; try exact rfl)); (focus (go_simp; try exact rfl)); (focus (go_simp; try exact rfl)); (focus (go_simp; try exact rfl)); (focus (go_simp; try exact rfl)); (focus (go_simp; try exact rfl)); (focus (go_simp; try exact rfl)); (focus (go_simp; try exact rfl)); (focus (go_simp; try exact rfl)); (focus (go_simp; try exact rfl)); (focus (go_simp; try exact rfl)); (focus (intro o; go_simp)); intro cc cc cc cc cc cc cc cc cc cc cc cc cc cc fz hl)
        cases c4
        · go_wp2_with fail
          go_ret
          exact ⟨rfl, by ((with_reducible (repeat (first | exact bR _ _ | refine bS ?_ ?_ _ | refine bA ?_ ?_ _ | refine bD ?_ | refine bT ?_ (by assumption) ?_ | refine bO (by assumption) ?_ ?_))) <;> (first | omega | (simp; done) | (simp <;> omega)))⟩
        · go_wp2_with fail
          go_ret
          exact ⟨rfl, by ((with_reducible (repeat (first | exact bR _ _ | refine bS ?_ ?_ _ | refine bA ?_ ?_ _ | refine bD ?_ | refine bT ?_ (by assumption) ?_ | refine bO (by assumption) ?_ ?_))) <;> (first | omega | (simp; done) | (simp <;> omega)))⟩
def startP (p1 p2 v1 v2 f1 f2 : Int) : Pl := ⟨p1, p2, v1, v2, f1, f2, f1, f2, v1, v2, [], [], false, false⟩
def startR (p1 p2 v1 v2 f1 f2 : Int) : Pl := if fitB (startP p1 p2 v1 v2 f1 f2) = true then startP p1 p2 v1 v2 f1 f2 else zeroPl
theorem plAt_nil (w : World) (P : Pl) (hk : P.ks = []) (hn : P.ns = []) : PlAt w (plV P (.slice none 0 0) (.slice none 0 0)) P :=
  ⟨none, 0, none, 0, by rw [hk, hn]; rfl, fun k x h => by rw [hk] at h; simp at h, by rw [hn]; exact VAt.nil _ _⟩
set_option maxRecDepth 100000 in
set_option maxHeartbeats 4000000 in
theorem start_any (p1 p2 v1 v2 f1 f2 : Int) (w : World) :
    Calls Try.prog 15 #[.agg #[.int .i64 p1, .int .i64 p2], .agg #[.int .i64 v1, .int .i64 v2], .agg #[.int .i64 f1, .int .i64 f2]] w fun e w' => e = .returned (plV (startR p1 p2 v1 v2 f1 f2) (.slice none 0 0) (.slice none 0 0)) ∧ Below w.heap.size w w' := by
  have ha := fun w => accepted_any (startP p1 p2 v1 v2 f1 f2) _ w (plAt_nil w _ rfl rfl) (by simp [startP])
  cases hf : fitB (startP p1 p2 v1 v2 f1 f2)
  · have er : startR p1 p2 v1 v2 f1 f2 = zeroPl := if_neg (by rw [hf]; simp)
    rw [er]
    rw [hf] at ha
    simp only [plV, startP, zeroPl] at *
    have HA := Lib.hid ha
    clear ha hf er
    go_enter Try.func15, Try.ntmps15; (try simp only [List.append_eq, List.cons_append, List.nil_append])
    go_wp2_with fail
    -- own blocks: w.heap.size:2, w.heap.size + 1:2, w.heap.size + 1 + 1:2, w.heap.size + 1 + 1 + 1:14, w.heap.size + 1 + 1 + 1 + 1:14
    (go_at_call 56; refine (HA.out _).mono ?_; rintro e w1 ⟨rfl, hb_w1⟩; have hz_w1 := hb_w1.size; (try simp at hz_w1); (with_reducible apply cel2 (b := w.heap.size) hb_w1); (focus ((try simp) <;> omega)); (focus omega); (focus (go_simp; try exact rfl)); (focus (go_simp; try exact rfl)); (focus (intro o; go_simp)); intro cc cc fz hl; (with_reducible apply cel2 (b := w.heap.size + 1) hb_w1); (focus ((try simp) <;> omega)); (focus omega); (focus (go_simp; try exact rfl)); (focus (go_simp; try exact rfl)); (focus (intro o; go_simp)); intro cc cc fz hl; (with_reducible apply cel2 (b := w.heap.size + 1 + 1) hb_w1); (focus ((try simp) <;> omega)); (focus omega); (focus (go_simp; try exact rfl)); (focus (go_simp; try exact rfl)); (focus (intro o; go_simp)); intro cc cc fz hl; (with_reducible apply cel14 (b := w.heap.size + 1 + 1 + 1) hb_w1); (focus ((try simp) <;> omega)); (focus omega); (focus (go_simp; try exact rfl)); (focus (go_simp; try exact rfl)); (focus (go_simp; try exact rfl)); (focus (go_simp; try exact rfl)); (focus (go_simp; try exact rfl)); (focus (go_simp; try exact rfl)); (focus (go_simp; try exact rfl)); (focus (go_simp; try exact rfl)); (focus (go_simp; try exact rfl)); (focus (go_simp; try exact rfl)); (focus (go_simp; try exact rfl)); (focus (go_simp; try exact rfl)); (focus (go_simp; try exact rfl)); (focus (go_simp; try exact rfl)); (focus (intro o; go_simp)); intro cc cc cc cc cc cc cc cc cc cc cc cc cc cc fz hl; (with_reducible apply cel14 (b := w.heap.size + 1 + 1 + 1 + 1) hb_w1); (focus ((try simp) <;> omega)); (focus omega); (focus (go_simp; try exact rfl)); (focus (go_simp; try exact rfl)); (focus (go_simp; try exact rfl)); (focus (go_simp; try exact rfl)); (focus (go_simp; try exact rfl)); (focus (go_simp; try exact rfl)); (focus (go_simp; try exact rfl)); (focus (go_simp; try exact rfl)); (focus (go_simp; try exact rfl)); (focus (go_simp; try exact rfl)); (focus (go_simp; try exact rfl)); (focus (go_simp; try exact rfl)); (focus (go_simp; try exact rfl)); (focus (go_simp; try exact rfl)); (focus (intro o; go_simp)); intro cc cc cc cc cc cc cc cc cc cc cc cc cc cc fz hl)
    go_wp2_with fail
    refine bodyPost_ret (v := .agg #[.int .i64 0, .int .i64 0, .int .i64 0, .int .i64 0, .int .i64 0, .int .i64 0, .int .i64 0, .int .i64 0, .int .i64 0, .int .i64 0, .slice none 0 0, .slice none 0 0, .bool false, .bool false]) (by simp only [results, Try.results15]; go_simp) rfl ⟨?_, ?_⟩
    · rfl
    · ((with_reducible (repeat (first | exact bR _ _ | refine bS ?_ ?_ _ | refine bA ?_ ?_ _ | refine bD ?_ | refine bT ?_ (by assumption) ?_ | refine bO (by assumption) ?_ ?_))) <;> (first | omega | (simp; done) | (simp <;> omega)))
  · have er : startR p1 p2 v1 v2 f1 f2 = startP p1 p2 v1 v2 f1 f2 := if_pos hf
    rw [er]
    rw [hf] at ha
    simp only [plV, startP] at *
    have HA := Lib.hid ha
    clear ha hf er
    go_enter Try.func15, Try.ntmps15; (try simp only [List.append_eq, List.cons_append, List.nil_append])
    go_wp2_with fail
    -- own blocks: w.heap.size:2, w.heap.size + 1:2, w.heap.size + 1 + 1:2, w.heap.size + 1 + 1 + 1:14, w.heap.size + 1 + 1 + 1 + 1:14
    (go_at_call 56; refine (HA.out _).mono ?_; rintro e w1 ⟨rfl, hb_w1⟩; have hz_w1 := hb_w1.size; (try simp at hz_w1); (with_reducible apply cel2 (b := w.heap.size) hb_w1); (focus ((try simp) <;> omega)); (focus omega); (focus (go_simp; try exact rfl)); (focus (go_simp; try exact rfl)); (focus (intro o; go_simp)); intro cc cc fz hl; (with_reducible apply cel2 (b := w.heap.size + 1) hb_w1); (focus ((try simp) <;> omega)); (focus omega); (focus (go_simp; try exact rfl)); (focus (go_simp; try exact rfl)); (focus (intro o; go_simp)); intro cc cc fz hl; (with_reducible apply cel2 (b := w.heap.size + 1 + 1) hb_w1); (focus ((try simp) <;> omega)); (focus omega); (focus (go_simp; try exact rfl)); (focus (go_simp; try exact rfl)); (focus (intro o; go_simp)); intro cc cc fz hl; (with_reducible apply cel14 (b := w.heap.size + 1 + 1 + 1) hb_w1); (focus ((try simp) <;> omega)); (focus omega); (focus (go_simp; try exact rfl)); (focus (go_simp; try exact rfl)); (focus (go_simp; try exact rfl)); (focus (go_simp; try exact rfl)); (focus (go_simp; try exact rfl)); (focus (go_simp; try exact rfl)); (focus (go_simp; try exact rfl)); (focus (go_simp; try exact rfl)); (focus (go_simp; try exact rfl)); (focus (go_simp; try exact rfl)); (focus (go_simp; try exact rfl)); (focus (go_simp; try exact rfl)); (focus (go_simp; try exact rfl)); (focus (go_simp; try exact rfl)); (focus (intro o; go_simp)); intro cc cc cc cc cc cc cc cc cc cc cc cc cc cc fz hl; (with_reducible apply cel14 (b := w.heap.size + 1 + 1 + 1 + 1) hb_w1); (focus ((try simp) <;> omega)); (focus omega); (focus (go_simp; try exact rfl)); (focus (go_simp; try exact rfl)); (focus (go_simp; try exact rfl)); (focus (go_simp; try exact rfl)); (focus (go_simp; try exact rfl)); (focus (go_simp; try exact rfl)); (focus (go_simp; try exact rfl)); (focus (go_simp; try exact rfl)); (focus (go_simp; try exact rfl)); (focus (go_simp; try exact rfl)); (focus (go_simp; try exact rfl)); (focus (go_simp; try exact rfl)); (focus (go_simp; try exact rfl)); (focus (go_simp; try exact rfl)); (focus (intro o; go_simp)); intro cc cc cc cc cc cc cc cc cc cc cc cc cc cc fz hl)
    go_wp2_with fail
    refine bodyPost_ret (v := .agg #[.int .i64 p1, .int .i64 p2, .int .i64 v1, .int .i64 v2, .int .i64 f1, .int .i64 f2, .int .i64 f1, .int .i64 f2, .int .i64 v1, .int .i64 v2, .slice none 0 0, .slice none 0 0, .bool false, .bool false]) (by simp only [results, Try.results15]; go_simp) rfl ⟨?_, ?_⟩
    · rfl
    · ((with_reducible (repeat (first | exact bR _ _ | refine bS ?_ ?_ _ | refine bA ?_ ?_ _ | refine bD ?_ | refine bT ?_ (by assumption) ?_ | refine bO (by assumption) ?_ ?_))) <;> (first | omega | (simp; done) | (simp <;> omega)))
theorem kept_small (x y : Int) : smallB (keptI x y x) (keptI x y y) = true := by
  unfold keptI
  cases h : smallB x y
  · show smallB 0 0 = true; rfl
  · simpa using h
def budR (P : Pl) : Int := (P.b1 * P.b1 + P.b2 * P.b2) + 4 * (P.f1 * keptI (P.v1 + P.h1) (P.v2 + P.h2) (P.v1 + P.h1) + P.f2 * keptI (P.v1 + P.h1) (P.v2 + P.h2) (P.v2 + P.h2))
/-- What budget needs. -/
def BudOk (P : Pl) : Prop := withinB P.f1 P.f2 4096 = true ∧ withinB P.b1 P.b2 262144 = true ∧ smallB P.v1 P.v2 = true ∧ smallB P.h1 P.h2 = true
theorem within_bd {a b n : Int} (h : withinB a b n = true) : -n ≤ a ∧ a ≤ n ∧ -n ≤ b ∧ b ≤ n := by simpa [withinB] using h
theorem within_mk {a b n : Int} (h : -n ≤ a ∧ a ≤ n ∧ -n ≤ b ∧ b ≤ n) : withinB a b n = true := by simpa [withinB] using h
theorem fit_bud {P : Pl} (h : fitB P = true) : BudOk P := by
  unfold fitB at h
  simp only [Bool.and_eq_true] at h
  obtain ⟨⟨⟨h1, h2⟩, h3⟩, _⟩ := h
  obtain ⟨_, ⟨a, b, c, d⟩, e, f, g, i⟩ := valid_iff h1
  exact ⟨h2, h3, small_of (by omega), small_of (by omega)⟩
theorem bud_bd {P : Pl} (h : BudOk P) : -200000000000000 ≤ budR P ∧ budR P ≤ 200000000000000 := by
  obtain ⟨h1, h2, h3, h4⟩ := h
  obtain ⟨a1, a2, a3, a4⟩ := within_bd h1
  obtain ⟨c1, c2, c3, c4⟩ := within_bd h2
  obtain ⟨e1, e2, e3, e4⟩ := small_bd (kept_small (P.v1 + P.h1) (P.v2 + P.h2))
  have m1 := mul_bd _ _ _ _ c1 c2 c1 c2
  have m2 := mul_bd _ _ _ _ c3 c4 c3 c4
  have m3 := mul_bd _ _ 4096 1073741824 a1 a2 e1 e2
  have m4 := mul_bd _ _ 4096 1073741824 a3 a4 e3 e4
  unfold budR
  omega
set_option maxHeartbeats 2000000 in
theorem budget_any (P : Pl) (v : Value) (w : World) (h : PlAt w v P) (hb : BudOk P) :
    Calls Try.prog 63 #[v] w fun e w' => e = .returned (.int .i64 (budR P)) ∧ Below w.heap.size w w' := by
  have hbd := bud_bd hb
  obtain ⟨A, c, B, e, rfl, hA, hB⟩ := h
  obtain ⟨p1, p2, v1, v2, h1, h2, f1, f2, b1, b2, ks, ns, t, d⟩ := P
  obtain ⟨g1, g2, g3, g4⟩ := hb
  simp only [plV, budR] at *
  obtain ⟨a1, a2, a3, a4⟩ := within_bd g1
  obtain ⟨c1, c2, c3, c4⟩ := within_bd g2
  have hks := kept_small (v1 + h1) (v2 + h2)
  obtain ⟨e1, e2, e3, e4⟩ := small_bd hks
  have k1 := fun w => energy_in b1 b2 w (small_of (by omega))
  have k2 := fun w => add_in v1 v2 h1 h2 w g3 g4
  generalize keptI (v1 + h1) (v2 + h2) (v1 + h1) = X at *
  generalize keptI (v1 + h1) (v2 + h2) (v2 + h2) = Y at *
  have k3 := fun w => dot_in f1 f2 X Y w (small_of (by omega)) hks
  have m1 := mul_bd _ _ _ _ c1 c2 c1 c2
  have m2 := mul_bd _ _ _ _ c3 c4 c3 c4
  have m3 := mul_bd _ _ 4096 1073741824 a1 a2 e1 e2
  have m4 := mul_bd _ _ 4096 1073741824 a3 a4 e3 e4
  have q1 : -200000000000000 ≤ 4 * (f1 * X + f2 * Y) ∧ 4 * (f1 * X + f2 * Y) ≤ 200000000000000 := by omega
  have q2 : -200000000000000 ≤ b1 * b1 + b2 * b2 ∧ b1 * b1 + b2 * b2 ≤ 200000000000000 := by omega
  generalize f1 * X + f2 * Y = D at *
  generalize b1 * b1 + b2 * b2 = E at *
  have K1 := Lib.hid k1
  have K2 := Lib.hid k2
  have K3 := Lib.hid k3
  clear k1 k2 k3 m1 m2 m3 m4 e1 e2 e3 e4 hks g1 g2 g3 g4 hA hB
  go_enter Try.func63, Try.ntmps63; (try simp only [List.append_eq, List.cons_append, List.nil_append])
  go_wp2_with fail
  -- own blocks: w.heap.size:14
  (refine pin_wp (N := _) (Nat.le_refl _) (fun w1 hb_w1 hz_w1 => ?_); (try simp at hz_w1); (with_reducible apply cel14 (b := w.heap.size) hb_w1); (focus ((try simp) <;> omega)); (focus omega); (focus (go_simp; try exact rfl)); (focus (go_simp; try exact rfl)); (focus (go_simp; try exact rfl)); (focus (go_simp; try exact rfl)); (focus (go_simp; try exact rfl)); (focus (go_simp; try exact rfl)); (focus (go_simp; try exact rfl)); (focus (go_simp; try exact rfl)); (focus (go_simp; try exact rfl)); (focus (go_simp; try exact rfl)); (focus (go_simp; try exact rfl)); (focus (go_simp; try exact rfl)); (focus (go_simp; try exact rfl)); (focus (go_simp; try exact rfl)); (focus (intro o; go_simp)); intro cc cc cc cc cc cc cc cc cc cc cc cc cc cc fz hl); refine wp_region_warm (Own w1.heap.size w1) (by kernel_rfl) (by kernel_rfl) (Own.refl (Nat.le_refl _)).drew ?_
  repeat (first | (refine wpWarm_step_off rfl (fun K hK => ?_); (go_simp; refine hK _ ?_; clear hK K)) | (apply wpWarm_step rfl; (focus (intro W' hS; have hcS := hS.cells.1; have hfS := hS.cells.2; go_simp; (first | done | exact rfl | exact ⟨rfl, hS⟩ | (go_at_call 66; exact (K1.out _).mono (fun _ _ h => ⟨h.1, hS.call h.2⟩)) | (go_at_call 113; exact (K2.out _).mono (fun _ _ h => ⟨h.1, hS.call h.2⟩)) | (go_at_call 19; exact (K3.out _).mono (fun _ _ h => ⟨h.1, hS.call h.2⟩)) | (go_simp; exact rfl)))); (intro K hK; go_simp; (try go_bits); refine hK _ ?_; clear hK K)) | (apply wpWarm_step_on rfl; (focus (intro W' hS; have hcS := hS.cells.1; have hfS := hS.cells.2; go_simp; (first | done | exact rfl | exact ⟨rfl, hS⟩ | (go_at_call 66; exact (K1.out _).mono (fun _ _ h => ⟨h.1, hS.call h.2⟩)) | (go_at_call 113; exact (K2.out _).mono (fun _ _ h => ⟨h.1, hS.call h.2⟩)) | (go_at_call 19; exact (K3.out _).mono (fun _ _ h => ⟨h.1, hS.call h.2⟩)) | (go_simp; exact rfl)))); (intro K hK; go_simp; (try go_bits); refine hK _ ?_; clear hK K)))
  (refine wpWarm_nil ?_; intro w2 hO; have hz_w2 := hO.1; have hb_w2 := hO.2; clear hO; (with_reducible apply cel14 (b := w.heap.size) hb_w2); (focus ((try simp) <;> omega)); (focus omega); (focus (go_simp; try exact rfl)); (focus (go_simp; try exact rfl)); (focus (go_simp; try exact rfl)); (focus (go_simp; try exact rfl)); (focus (go_simp; try exact rfl)); (focus (go_simp; try exact rfl)); (focus (go_simp; try exact rfl)); (focus (go_simp; try exact rfl)); (focus (go_simp; try exact rfl)); (focus (go_simp; try exact rfl)); (focus (go_simp; try exact rfl)); (focus (go_simp; try exact rfl)); (focus (go_simp; try exact rfl)); (focus (go_simp; try exact rfl)); (focus (intro o; go_simp)); intro cc cc cc cc cc cc cc cc cc cc cc cc cc cc fz hl)
  go_wp2_with fail
  go_ret
  refine ⟨rfl, ?_⟩
  ((with_reducible (repeat (first | exact bR _ _ | refine bS ?_ ?_ _ | refine bA ?_ ?_ _ | refine bD ?_ | refine bT ?_ (by assumption) ?_ | refine bO (by assumption) ?_ ?_))) <;> (first | omega | (simp; done) | (simp <;> omega)))
end Go.Proofs.Ytklkhnhieihfoaa
