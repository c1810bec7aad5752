/- The contract of support.Press. -/
import Derived.Test.YtklkhnhieihfoaaSupGm
namespace Go.Proofs.Ytklkhnhieihfoaa
open Go Go.RowKit
set_option linter.unusedVariables false
set_option maxRecDepth 100000 in
set_option maxHeartbeats 8000000 in
theorem press_zero (P : Pl) (v : Value) (keys : List Int) (norms : List V2) (kA nA : Option Addr) (kc nc : Nat) (w : World) (h : PlAt w v P) (hnA : VAt w nA norms)
    (hln : P.ns.length ≤ 400) (hl : norms.length ≤ 100) (h0 : ¬ (fitB P = true ∧ norms.all (nearB 2097152) = true)) :
    Calls Try.prog 14 #[v, .slice kA keys.length kc, .slice nA norms.length nc] w (CpOut (pressR P keys norms) w) := by
  have er : pressR P keys norms = zeroPl := by unfold pressR; rw [if_neg h0]
  rw [er]
  have ha := fun w' (hb : Below w.heap.size w w') => accepted_any P v w' (h.below hb (Nat.le_refl _)) (by omega)
  have hwi := fun w' (hb : Below w.heap.size w w') => swithin_any 2097152 norms nA nc w' (by omega) (hnA.below hb (Nat.le_refl _)) (by omega) (by omega)
  generalize fitB P = c1 at *
  generalize norms.all (nearB 2097152) = c2 at *
  obtain ⟨A, c, B, e, rfl, hA, hB⟩ := h
  simp only [plV] at ha ⊢
  have HA := Lib.hid ha
  have HWI := Lib.hid hwi
  have H0 := Lib.hid h0
  generalize keys.length = kn at *
  generalize norms.length = nn at *
  clear ha hwi er hA hB h0 hnA
  go_enter Try.func14, Try.ntmps14; (try simp only [List.append_eq, List.cons_append, List.nil_append])
  go_wp2_with fail
  -- own blocks: w.heap.size:14, w.heap.size + 1:14
  (go_at_call 56; refine (HA.out _ (by ((with_reducible (repeat (first | exact bR _ _ | refine bS ?_ ?_ _ | refine bA ?_ ?_ _ | refine bD ?_ | refine bT ?_ (by assumption) ?_ | refine bO (by assumption) ?_ ?_))) <;> (first | omega | (simp; done) | (simp <;> omega))))).mono ?_; rintro e w1 ⟨rfl, hb_w1⟩; have hz_w1 := hb_w1.size; (try simp at hz_w1); (with_reducible apply cel14 (b := w.heap.size) hb_w1); (focus ((try simp) <;> omega)); (focus omega); (focus (go_simp; try exact rfl)); (focus (go_simp; try exact rfl)); (focus (go_simp; try exact rfl)); (focus (go_simp; try exact rfl)); (focus (go_simp; try exact rfl)); (focus (go_simp; try exact rfl)); (focus (go_simp; try exact rfl)); (focus (go_simp; try exact rfl)); (focus (go_simp; try exact rfl)); (focus (go_simp; try exact rfl)); (focus (go_simp; try exact rfl)); (focus (go_simp; try exact rfl)); (focus (go_simp; try exact rfl)); (focus (go_simp; try exact rfl)); (focus (intro o; go_simp)); intro cc cc cc cc cc cc cc cc cc cc cc cc cc cc fz hl; (with_reducible apply cel14 (b := w.heap.size + 1) hb_w1); (focus ((try simp) <;> omega)); (focus omega); (focus (go_simp; try exact rfl)); (focus (go_simp; try exact rfl)); (focus (go_simp; try exact rfl)); (focus (go_simp; try exact rfl)); (focus (go_simp; try exact rfl)); (focus (go_simp; try exact rfl)); (focus (go_simp; try exact rfl)); (focus (go_simp; try exact rfl)); (focus (go_simp; try exact rfl)); (focus (go_simp; try exact rfl)); (focus (go_simp; try exact rfl)); (focus (go_simp; try exact rfl)); (focus (go_simp; try exact rfl)); (focus (go_simp; try exact rfl)); (focus (intro o; go_simp)); intro cc cc cc cc cc cc cc cc cc cc cc cc cc cc fz hl)
  cases c1
  · go_wp2_with fail
    refine bodyPost_ret (v := .agg #[.int .i64 0, .int .i64 0, .int .i64 0, .int .i64 0, .int .i64 0, .int .i64 0, .int .i64 0, .int .i64 0, .int .i64 0, .int .i64 0, .slice none 0 0, .slice none 0 0, .bool false, .bool false]) (by simp only [results, Try.results14]; go_simp) rfl ⟨?_, ?_⟩
    · ((with_reducible (repeat (first | exact bR _ _ | refine bS ?_ ?_ _ | refine bA ?_ ?_ _ | refine bD ?_ | refine bT ?_ (by assumption) ?_ | refine bO (by assumption) ?_ ?_))) <;> (first | omega | (simp; done) | (simp <;> omega)))
    · exact ⟨none, 0, none, 0, rfl, World.ownsRow_nil _ _ _ _, World.ownsRow_nil _ _ _ _⟩
  · go_wp2_with fail
    (go_at_call 57; refine (HWI.out _ (by ((with_reducible (repeat (first | exact bR _ _ | refine bS ?_ ?_ _ | refine bA ?_ ?_ _ | refine bD ?_ | refine bT ?_ (by assumption) ?_ | refine bO (by assumption) ?_ ?_))) <;> (first | omega | (simp; done) | (simp <;> omega))))).mono ?_; rintro e w2 ⟨rfl, hb_w2⟩; have hz_w2 := hb_w2.size; (try simp at hz_w2); (with_reducible apply cel14 (b := w.heap.size) hb_w2); (focus ((try simp) <;> omega)); (focus omega); (focus (go_simp; try exact rfl)); (focus (go_simp; try exact rfl)); (focus (go_simp; try exact rfl)); (focus (go_simp; try exact rfl)); (focus (go_simp; try exact rfl)); (focus (go_simp; try exact rfl)); (focus (go_simp; try exact rfl)); (focus (go_simp; try exact rfl)); (focus (go_simp; try exact rfl)); (focus (go_simp; try exact rfl)); (focus (go_simp; try exact rfl)); (focus (go_simp; try exact rfl)); (focus (go_simp; try exact rfl)); (focus (go_simp; try exact rfl)); (focus (intro o; go_simp)); intro cc cc cc cc cc cc cc cc cc cc cc cc cc cc fz hl; (with_reducible apply cel14 (b := w.heap.size + 1) hb_w2); (focus ((try simp) <;> omega)); (focus omega); (focus (go_simp; try exact rfl)); (focus (go_simp; try exact rfl)); (focus (go_simp; try exact rfl)); (focus (go_simp; try exact rfl)); (focus (go_simp; try exact rfl)); (focus (go_simp; try exact rfl)); (focus (go_simp; try exact rfl)); (focus (go_simp; try exact rfl)); (focus (go_simp; try exact rfl)); (focus (go_simp; try exact rfl)); (focus (go_simp; try exact rfl)); (focus (go_simp; try exact rfl)); (focus (go_simp; try exact rfl)); (focus (go_simp; try exact rfl)); (focus (intro o; go_simp)); intro cc cc cc cc cc cc cc cc cc cc cc cc cc cc fz hl)
    cases c2
    · go_wp2_with fail
      refine bodyPost_ret (v := .agg #[.int .i64 0, .int .i64 0, .int .i64 0, .int .i64 0, .int .i64 0, .int .i64 0, .int .i64 0, .int .i64 0, .int .i64 0, .int .i64 0, .slice none 0 0, .slice none 0 0, .bool false, .bool false]) (by simp only [results, Try.results14]; go_simp) rfl ⟨?_, ?_⟩
      · ((with_reducible (repeat (first | exact bR _ _ | refine bS ?_ ?_ _ | refine bA ?_ ?_ _ | refine bD ?_ | refine bT ?_ (by assumption) ?_ | refine bO (by assumption) ?_ ?_))) <;> (first | omega | (simp; done) | (simp <;> omega)))
      · exact ⟨none, 0, none, 0, rfl, World.ownsRow_nil _ _ _ _, World.ownsRow_nil _ _ _ _⟩
    · exact absurd ⟨by first | rfl | trivial, by first | rfl | trivial⟩ H0.out
set_option maxRecDepth 100000 in
set_option maxHeartbeats 8000000 in
theorem press_copy (P : Pl) (v : Value) (keys : List Int) (norms : List V2) (kA nA : Option Addr) (kc nc : Nat) (w : World) (h : PlAt w v P) (hnA : VAt w nA norms)
    (hlk : P.ks.length ≤ 400) (hln : P.ns.length ≤ 400) (hle : keys.length ≤ 100) (hl : norms.length ≤ 100) (hf : fitB P = true) (hnn : norms.all (nearB 2097152) = true) (hc0 : P.d = true ∨ keys.length = 0 ∨ keys.length ≠ norms.length) :
    Calls Try.prog 14 #[v, .slice kA keys.length kc, .slice nA norms.length nc] w (CpOut (pressR P keys norms) w) := by
  have er : pressR P keys norms = P := by unfold pressR; rw [if_pos ⟨hf, hnn⟩, if_pos hc0]
  rw [er]
  have ha := fun w' (hb : Below w.heap.size w w') => accepted_any P v w' (h.below hb (Nat.le_refl _)) (by omega)
  have hwi := fun w' (hb : Below w.heap.size w w') => swithin_any 2097152 norms nA nc w' (by omega) (hnA.below hb (Nat.le_refl _)) (by omega) (by omega)
  have hc := fun w' (hb : Below w.heap.size w w') => copied_any P v w' (h.below hb (Nat.le_refl _)) (by omega) (by omega)
  rw [hf] at ha
  rw [hnn] at hwi
  obtain ⟨A, c, B, e, rfl, hA, hB⟩ := h
  obtain ⟨p1, p2, v1, v2, h1, h2, f1, f2, b1, b2, ks, ns, t, d⟩ := P
  simp only [plV] at ha hc hc0 ⊢
  have HA := Lib.hid ha
  have HWI := Lib.hid hwi
  have HC := Lib.hid hc
  have H0 := Lib.hid hc0
  generalize keys.length = kn at *
  generalize norms.length = nn at *
  have k0 : (0 : Int) ≤ (kn : Int) := by omega
  have k1 : (kn : Int) ≤ 100 := by omega
  have k2 : (0 : Int) ≤ (nn : Int) := by omega
  have k3 : (nn : Int) ≤ 100 := by omega
  clear ha hwi er hA hB hc0 hnA hc hf hnn
  go_enter Try.func14, Try.ntmps14; (try simp only [List.append_eq, List.cons_append, List.nil_append])
  go_wp2_with fail
  -- own blocks: w.heap.size:14, w.heap.size + 1:14
  (go_at_call 56; refine (HA.out _ (by ((with_reducible (repeat (first | exact bR _ _ | refine bS ?_ ?_ _ | refine bA ?_ ?_ _ | refine bD ?_ | refine bT ?_ (by assumption) ?_ | refine bO (by assumption) ?_ ?_))) <;> (first | omega | (simp; done) | (simp <;> omega))))).mono ?_; rintro e w1 ⟨rfl, hb_w1⟩; have hz_w1 := hb_w1.size; (try simp at hz_w1); (with_reducible apply cel14 (b := w.heap.size) hb_w1); (focus ((try simp) <;> omega)); (focus omega); (focus (go_simp; try exact rfl)); (focus (go_simp; try exact rfl)); (focus (go_simp; try exact rfl)); (focus (go_simp; try exact rfl)); (focus (go_simp; try exact rfl)); (focus (go_simp; try exact rfl)); (focus (go_simp; try exact rfl)); (focus (go_simp; try exact rfl)); (focus (go_simp; try exact rfl)); (focus (go_simp; try exact rfl)); (focus (go_simp; try exact rfl)); (focus (go_simp; try exact rfl)); (focus (go_simp; try exact rfl)); (focus (go_simp; try exact rfl)); (focus (intro o; go_simp)); intro cc cc cc cc cc cc cc cc cc cc cc cc cc cc fz hl; (with_reducible apply cel14 (b := w.heap.size + 1) hb_w1); (focus ((try simp) <;> omega)); (focus omega); (focus (go_simp; try exact rfl)); (focus (go_simp; try exact rfl)); (focus (go_simp; try exact rfl)); (focus (go_simp; try exact rfl)); (focus (go_simp; try exact rfl)); (focus (go_simp; try exact rfl)); (focus (go_simp; try exact rfl)); (focus (go_simp; try exact rfl)); (focus (go_simp; try exact rfl)); (focus (go_simp; try exact rfl)); (focus (go_simp; try exact rfl)); (focus (go_simp; try exact rfl)); (focus (go_simp; try exact rfl)); (focus (go_simp; try exact rfl)); (focus (intro o; go_simp)); intro cc cc cc cc cc cc cc cc cc cc cc cc cc cc fz hl)
  go_wp2_with fail
  (go_at_call 57; refine (HWI.out _ (by ((with_reducible (repeat (first | exact bR _ _ | refine bS ?_ ?_ _ | refine bA ?_ ?_ _ | refine bD ?_ | refine bT ?_ (by assumption) ?_ | refine bO (by assumption) ?_ ?_))) <;> (first | omega | (simp; done) | (simp <;> omega))))).mono ?_; rintro e w2 ⟨rfl, hb_w2⟩; have hz_w2 := hb_w2.size; (try simp at hz_w2); (with_reducible apply cel14 (b := w.heap.size) hb_w2); (focus ((try simp) <;> omega)); (focus omega); (focus (go_simp; try exact rfl)); (focus (go_simp; try exact rfl)); (focus (go_simp; try exact rfl)); (focus (go_simp; try exact rfl)); (focus (go_simp; try exact rfl)); (focus (go_simp; try exact rfl)); (focus (go_simp; try exact rfl)); (focus (go_simp; try exact rfl)); (focus (go_simp; try exact rfl)); (focus (go_simp; try exact rfl)); (focus (go_simp; try exact rfl)); (focus (go_simp; try exact rfl)); (focus (go_simp; try exact rfl)); (focus (go_simp; try exact rfl)); (focus (intro o; go_simp)); intro cc cc cc cc cc cc cc cc cc cc cc cc cc cc fz hl; (with_reducible apply cel14 (b := w.heap.size + 1) hb_w2); (focus ((try simp) <;> omega)); (focus omega); (focus (go_simp; try exact rfl)); (focus (go_simp; try exact rfl)); (focus (go_simp; try exact rfl)); (focus (go_simp; try exact rfl)); (focus (go_simp; try exact rfl)); (focus (go_simp; try exact rfl)); (focus (go_simp; try exact rfl)); (focus (go_simp; try exact rfl)); (focus (go_simp; try exact rfl)); (focus (go_simp; try exact rfl)); (focus (go_simp; try exact rfl)); (focus (go_simp; try exact rfl)); (focus (go_simp; try exact rfl)); (focus (go_simp; try exact rfl)); (focus (intro o; go_simp)); intro cc cc cc cc cc cc cc cc cc cc cc cc cc cc fz hl)
  go_wp2_with fail
  (go_at_call 58; refine (HC.out _ (by ((with_reducible (repeat (first | exact bR _ _ | refine bS ?_ ?_ _ | refine bA ?_ ?_ _ | refine bD ?_ | refine bT ?_ (by assumption) ?_ | refine bO (by assumption) ?_ ?_))) <;> (first | omega | (simp; done) | (simp <;> omega))))).mono ?_; rintro e w3 ⟨hb_w3, A2, c2, B2, d2, rfl, hk2, hn2⟩; have hz_w3 := hb_w3.size; (try simp at hz_w3); (with_reducible apply cel14 (b := w.heap.size) hb_w3); (focus ((try simp) <;> omega)); (focus omega); (focus (go_simp; try exact rfl)); (focus (go_simp; try exact rfl)); (focus (go_simp; try exact rfl)); (focus (go_simp; try exact rfl)); (focus (go_simp; try exact rfl)); (focus (go_simp; try exact rfl)); (focus (go_simp; try exact rfl)); (focus (go_simp; try exact rfl)); (focus (go_simp; try exact rfl)); (focus (go_simp; try exact rfl)); (focus (go_simp; try exact rfl)); (focus (go_simp; try exact rfl)); (focus (go_simp; try exact rfl)); (focus (go_simp; try exact rfl)); (focus (intro o; go_simp)); intro cc cc cc cc cc cc cc cc cc cc cc cc cc cc fz hl; (with_reducible apply cel14 (b := w.heap.size + 1) hb_w3); (focus ((try simp) <;> omega)); (focus omega); (focus (go_simp; try exact rfl)); (focus (go_simp; try exact rfl)); (focus (go_simp; try exact rfl)); (focus (go_simp; try exact rfl)); (focus (go_simp; try exact rfl)); (focus (go_simp; try exact rfl)); (focus (go_simp; try exact rfl)); (focus (go_simp; try exact rfl)); (focus (go_simp; try exact rfl)); (focus (go_simp; try exact rfl)); (focus (go_simp; try exact rfl)); (focus (go_simp; try exact rfl)); (focus (go_simp; try exact rfl)); (focus (go_simp; try exact rfl)); (focus (intro o; go_simp)); intro cc cc cc cc cc cc cc cc cc cc cc cc cc cc fz hl)
  have HK := Lib.hid hk2
  have HN := Lib.hid hn2
  clear hk2 hn2
  simp only [plV]
  have hkn : d = true ∨ (d = false ∧ (kn : Int) = 0) ∨ (d = false ∧ ¬ (kn : Int) = 0 ∧ ¬ (kn : Int) = (nn : Int)) := by
    have h := H0.out
    cases d
    · rcases h with h | h | h
      · cases h
      · exact .inr (.inl ⟨rfl, by omega⟩)
      · by_cases h1 : kn = 0
        · exact .inr (.inl ⟨rfl, by omega⟩)
        · exact .inr (.inr ⟨rfl, by omega, by omega⟩)
    · exact .inl rfl
  rcases hkn with rfl | ⟨rfl, e0⟩ | ⟨rfl, e0, e1⟩
  · go_wp2_with fail
    refine bodyPost_ret (v := .agg #[.int .i64 p1, .int .i64 p2, .int .i64 v1, .int .i64 v2, .int .i64 h1, .int .i64 h2, .int .i64 f1, .int .i64 f2, .int .i64 b1, .int .i64 b2, .slice A2 ks.length c2, .slice B2 ns.length d2, .bool t, .bool true]) (by simp only [results, Try.results14]; go_simp) rfl ⟨?_, ?_⟩
    · ((with_reducible (repeat (first | exact bR _ _ | refine bS ?_ ?_ _ | refine bA ?_ ?_ _ | refine bD ?_ | refine bT ?_ (by assumption) ?_ | refine bO (by assumption) ?_ ?_))) <;> (first | omega | (simp; done) | (simp <;> omega)))
    · refine ⟨A2, c2, B2, d2, rfl, OwnK.weaker (base := w2.heap.size) (c := c2) (l := ks) ?_ (by omega), OwnN.weaker (base := w2.heap.size) (c := d2) (l := ns) ?_ (by omega)⟩
      · have hk9 := HK.out
        ((repeat (first | (with_reducible exact hk9) | (with_reducible refine OwnK.low ?_ ?_ _) | (with_reducible refine OwnK.alloc ?_ _))) <;> first | omega | (simp; done) | (simp <;> omega))
      · have hn9 := HN.out
        ((repeat (first | (with_reducible exact hn9) | (with_reducible refine OwnN.low ?_ ?_ _) | (with_reducible refine OwnN.alloc ?_ _))) <;> first | omega | (simp; done) | (simp <;> omega))
  · go_wp2_with fail
    refine bodyPost_ret (v := .agg #[.int .i64 p1, .int .i64 p2, .int .i64 v1, .int .i64 v2, .int .i64 h1, .int .i64 h2, .int .i64 f1, .int .i64 f2, .int .i64 b1, .int .i64 b2, .slice A2 ks.length c2, .slice B2 ns.length d2, .bool t, .bool false]) (by simp only [results, Try.results14]; go_simp) rfl ⟨?_, ?_⟩
    · ((with_reducible (repeat (first | exact bR _ _ | refine bS ?_ ?_ _ | refine bA ?_ ?_ _ | refine bD ?_ | refine bT ?_ (by assumption) ?_ | refine bO (by assumption) ?_ ?_))) <;> (first | omega | (simp; done) | (simp <;> omega)))
    · refine ⟨A2, c2, B2, d2, rfl, OwnK.weaker (base := w2.heap.size) (c := c2) (l := ks) ?_ (by omega), OwnN.weaker (base := w2.heap.size) (c := d2) (l := ns) ?_ (by omega)⟩
      · have hk9 := HK.out
        ((repeat (first | (with_reducible exact hk9) | (with_reducible refine OwnK.low ?_ ?_ _) | (with_reducible refine OwnK.alloc ?_ _))) <;> first | omega | (simp; done) | (simp <;> omega))
      · have hn9 := HN.out
        ((repeat (first | (with_reducible exact hn9) | (with_reducible refine OwnN.low ?_ ?_ _) | (with_reducible refine OwnN.alloc ?_ _))) <;> first | omega | (simp; done) | (simp <;> omega))
  · have e4 : ((kn : Int) != (nn : Int)) = true := by simpa using e1
    have e5 : ((kn : Int) == 0) = false := by simpa using e0
    go_wp2_with fail
    refine bodyPost_ret (v := .agg #[.int .i64 p1, .int .i64 p2, .int .i64 v1, .int .i64 v2, .int .i64 h1, .int .i64 h2, .int .i64 f1, .int .i64 f2, .int .i64 b1, .int .i64 b2, .slice A2 ks.length c2, .slice B2 ns.length d2, .bool t, .bool false]) (by simp only [results, Try.results14]; go_simp) rfl ⟨?_, ?_⟩
    · ((with_reducible (repeat (first | exact bR _ _ | refine bS ?_ ?_ _ | refine bA ?_ ?_ _ | refine bD ?_ | refine bT ?_ (by assumption) ?_ | refine bO (by assumption) ?_ ?_))) <;> (first | omega | (simp; done) | (simp <;> omega)))
    · refine ⟨A2, c2, B2, d2, rfl, OwnK.weaker (base := w2.heap.size) (c := c2) (l := ks) ?_ (by omega), OwnN.weaker (base := w2.heap.size) (c := d2) (l := ns) ?_ (by omega)⟩
      · have hk9 := HK.out
        ((repeat (first | (with_reducible exact hk9) | (with_reducible refine OwnK.low ?_ ?_ _) | (with_reducible refine OwnK.alloc ?_ _))) <;> first | omega | (simp; done) | (simp <;> omega))
      · have hn9 := HN.out
        ((repeat (first | (with_reducible exact hn9) | (with_reducible refine OwnN.low ?_ ?_ _) | (with_reducible refine OwnN.alloc ?_ _))) <;> first | omega | (simp; done) | (simp <;> omega))
theorem press_any (P : Pl) (v : Value) (keys : List Int) (norms : List V2) (kA nA : Option Addr) (kc nc : Nat) (w : World) (h : PlAt w v P) (hkA : IAt w kA keys) (hnA : VAt w nA norms)
    (hlk : P.ks.length ≤ 400) (hln : P.ns.length ≤ 400) (hle : keys.length ≤ 100) (hl : norms.length ≤ 100) :
    Calls Try.prog 14 #[v, .slice kA keys.length kc, .slice nA norms.length nc] w (CpOut (pressR P keys norms) w) := by
  by_cases h0 : fitB P = true ∧ norms.all (nearB 2097152) = true
  · by_cases hc : P.d = true ∨ keys.length = 0 ∨ keys.length ≠ norms.length
    · exact press_copy P v keys norms kA nA kc nc w h hnA hlk hln hle hl h0.1 h0.2 hc
    · have hd : P.d = false := by cases hd : P.d; rfl; exact absurd (.inl hd) hc
      exact press_main P v keys norms kA nA kc nc w h hkA hnA hlk hln hle (by omega) (by omega) h0.1 h0.2 hd
  · exact press_zero P v keys norms kA nA kc nc w h hnA hln hl h0
end Go.Proofs.Ytklkhnhieihfoaa
