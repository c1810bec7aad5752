/- The contracts of wide.sum, Add, Sub. -/
import Derived.Test.YtadkcipjcmkoiaaWc
import Derived.Test.YtadkcipjcmkoiaaWcmp
import Derived.Test.YtadkcipjcmkoiaaBigP
namespace Go.Proofs.Ytadkcipjcmkoiaa
open Go Go.RowKit
set_option linter.unusedVariables false
set_option maxHeartbeats 2000000 in
theorem wsum_any (p q : Bool) (A A' : Option Addr) (x y c c' : Nat) (a b : Int) (w : World) (ea : a = sv p x) (eb : b = sv q y) (hn : (canN x).length ≤ 400000) (hn' : (canN y).length ≤ 400000) (hA : LAt w A (canN x)) (hA' : LAt w A' (canN y)) :
    Calls Try.prog 83 #[.bool p, .slice A (canN x).length c, .bool q, .slice A' (canN y).length c'] w (ZOut (a + b) w) := by
  obtain ⟨Z, hZ⟩ : ∃ Z, Z = a + b := ⟨_, rfl⟩
  have hsum : p = q → Z = sv p ((x : Int) + y) := fun h => by subst h; rw [hZ]; exact sv_add ea eb
  have hdif : p ≠ q → Z = sv p ((x : Int) - y) ∧ Z = sv q ((y : Int) - x) := fun h => by rw [hZ]; exact sv_sub h ea eb
  rw [← hZ]
  have HS := Lib.hid hsum
  have HD := Lib.hid hdif
  have HA := Lib.hid hA
  have HA' := Lib.hid hA'
  clear hsum hdif hZ ea eb hA hA'
  by_cases hpq : p = q
  · subst hpq
    have HZ := Lib.hid (HS.out rfl)
    have b0 : (p == p) = true := by simp
    clear HS HD
    go_enter Try.func83, Try.ntmps83; (try simp only [List.append_eq, List.cons_append, List.nil_append])
    go_wp2_with fail
    -- own blocks: w.heap.size:2
    (go_at_call 82; refine (waddl_any A A' (canN x) (canN y) c c' _ (canN_lim _) (canN_lim _) (by omega) (by omega) (HA.out.alloc _) (HA'.out.alloc _)).mono ?_; rintro e w1 ⟨hb_w1, A3, c3, l3, rfl, hc3, hl3, hk3, hm3, hA3⟩; have hz_w1 := hb_w1.size; (try simp at hz_w1); (with_reducible apply cel2 (b := w.heap.size) hb_w1); (focus ((try simp) <;> omega)); (focus omega); (focus (go_simp; try exact rfl)); (focus (go_simp; try exact rfl)); (focus (intro o; go_simp)); intro cc cc fz hl)
    have hmk := fun w' (h : LAt w' A3 l3) => wmade_any p A3 l3 c3 w' hl3 h hc3 (by omega)
    rw [hm3, mv_canN, mv_canN, ← HZ.out] at hmk
    have HMK := Lib.hid hmk
    have HA3 := Lib.hid hA3
    clear hA3 hc3 hl3 hk3 hm3 hmk
    go_wp2_with fail
    (go_at_call 76; refine (HMK.out _ HA3.out).mono ?_; rintro e w2 ⟨hb_w2, v4, rfl, A4, c4, rfl, hc4, hA4⟩; have hz_w2 := hb_w2.size; (try simp at hz_w2); (with_reducible apply cel2 (b := w.heap.size) hb_w2); (focus ((try simp) <;> omega)); (focus omega); (focus (go_simp; try exact rfl)); (focus (go_simp; try exact rfl)); (focus (intro o; go_simp)); intro cc cc fz hl)
    have HC4 := Lib.hid hc4
    have HA4 := Lib.hid hA4
    clear hA4 hc4
    go_wp2_with fail
    refine bodyPost_ret (v := .agg #[.bool (decide (Z < 0)), .slice A4 (canN Z.natAbs).length c4]) (by simp only [results, Try.results83]; go_simp) rfl ⟨?_, ?_⟩
    · ((with_reducible (repeat (first | exact bR _ _ | refine bS ?_ ?_ _ | refine bA ?_ ?_ _ | refine bD ?_ | refine bT ?_ (by assumption) ?_ | refine bO (by assumption) ?_ ?_))) <;> (first | omega | (simp; done) | (simp <;> omega)))
    · exact ⟨_, rfl, A4, c4, rfl, HC4.out, HA4.out.set2 (by assumption) (by assumption) _ _⟩
  · have hs := HD.out hpq
    have b0 : (p == q) = false := by simp [hpq]
    obtain ⟨C, hC⟩ : ∃ C, C = cmpI x y := ⟨_, rfl⟩
    have hcmp := fun w h1 h2 => wcmpl_any A A' x y c c' w (by omega) (by omega) h1 h2
    rw [← hC] at hcmp
    have HCMP := Lib.hid hcmp
    rcases Int.lt_or_le (cmpI x y) 0 with hcm | hcm
    · have hxy : x < y := by unfold cmpI at hcm; split at hcm <;> (try split at hcm) <;> omega
      have HZ := Lib.hid hs.2
      rw [← hC] at hcm
      have hcm' : ¬ (0 ≤ C) := by omega
      have k1 : mv (canN x) ≤ mv (canN y) := by rw [mv_canN, mv_canN]; omega
      have HXY := Lib.hid k1
      have hlen : (canN x).length ≤ (canN y).length := by
        rw [canN_len]
        have := (@canN_len y (canN y).length).1 (Nat.le_refl _)
        omega
      clear hs HS HD hC hpq k1 hcmp
      go_enter Try.func83, Try.ntmps83; (try simp only [List.append_eq, List.cons_append, List.nil_append])
      go_wp2_with fail
      -- own blocks: w.heap.size:2
      (go_at_call 81; refine (HCMP.out _ (HA.out.alloc _) (HA'.out.alloc _)).mono ?_; rintro e w0 ⟨rfl, hb_w0⟩; have hz_w0 := hb_w0.size; (try simp at hz_w0); (with_reducible apply cel2 (b := w.heap.size) hb_w0); (focus ((try simp) <;> omega)); (focus omega); (focus (go_simp; try exact rfl)); (focus (go_simp; try exact rfl)); (focus (intro o; go_simp)); intro cc cc fz hl)
      have HB0 := Lib.hid (show Below w.heap.size w w0 by ((with_reducible (repeat (first | exact bR _ _ | refine bS ?_ ?_ _ | refine bA ?_ ?_ _ | refine bD ?_ | refine bT ?_ (by assumption) ?_ | refine bO (by assumption) ?_ ?_))) <;> (first | omega | (simp; done) | (simp <;> omega))))
      go_wp2_with fail
      (go_at_call 93; refine (wsubl_any A' A (canN y) (canN x) c' c w0 (canN_lim _) (canN_lim _) (by omega) (by omega) HXY.out (HA'.out.below HB0.out) (HA.out.below HB0.out)).mono ?_; rintro e w1 ⟨hb_w1, A3, c3, l3, rfl, hc3, hl3, hk3, hm3, hA3⟩; have hz_w1 := hb_w1.size; (try simp at hz_w1); (with_reducible apply cel2 (b := w.heap.size) hb_w1); (focus ((try simp) <;> omega)); (focus omega); (focus (go_simp; try exact rfl)); (focus (go_simp; try exact rfl)); (focus (intro o; go_simp)); intro cc cc fz hl)
      have hmk := fun w' (h : LAt w' A3 l3) => wmade_any q A3 l3 c3 w' hl3 h hc3 (by omega)
      rw [hm3, mv_canN, mv_canN, ← HZ.out] at hmk
      have HMK := Lib.hid hmk
      have HA3 := Lib.hid hA3
      clear hA3 hc3 hl3 hk3 hm3 hmk
      go_wp2_with fail
      (go_at_call 76; refine (HMK.out _ HA3.out).mono ?_; rintro e w2 ⟨hb_w2, v4, rfl, A4, c4, rfl, hc4, hA4⟩; have hz_w2 := hb_w2.size; (try simp at hz_w2); (with_reducible apply cel2 (b := w.heap.size) hb_w2); (focus ((try simp) <;> omega)); (focus omega); (focus (go_simp; try exact rfl)); (focus (go_simp; try exact rfl)); (focus (intro o; go_simp)); intro cc cc fz hl)
      have HC4 := Lib.hid hc4
      have HA4 := Lib.hid hA4
      clear hA4 hc4
      go_wp2_with fail
      refine bodyPost_ret (v := .agg #[.bool (decide (Z < 0)), .slice A4 (canN Z.natAbs).length c4]) (by simp only [results, Try.results83]; go_simp) rfl ⟨?_, ?_⟩
      · ((with_reducible (repeat (first | exact bR _ _ | refine bS ?_ ?_ _ | refine bA ?_ ?_ _ | refine bD ?_ | refine bT ?_ (by assumption) ?_ | refine bO (by assumption) ?_ ?_))) <;> (first | omega | (simp; done) | (simp <;> omega)))
      · exact ⟨_, rfl, A4, c4, rfl, HC4.out, HA4.out.set2 (by assumption) (by assumption) _ _⟩
    · have hxy : y ≤ x := by unfold cmpI at hcm; split at hcm <;> (try split at hcm) <;> omega
      have HZ := Lib.hid hs.1
      rw [← hC] at hcm
      have k1 : mv (canN y) ≤ mv (canN x) := by rw [mv_canN, mv_canN]; omega
      have HXY := Lib.hid k1
      have hlen : (canN y).length ≤ (canN x).length := by
        rw [canN_len]
        have := (@canN_len x (canN x).length).1 (Nat.le_refl _)
        omega
      clear hs HS HD hC hpq k1 hcmp
      go_enter Try.func83, Try.ntmps83; (try simp only [List.append_eq, List.cons_append, List.nil_append])
      go_wp2_with fail
      -- own blocks: w.heap.size:2
      (go_at_call 81; refine (HCMP.out _ (HA.out.alloc _) (HA'.out.alloc _)).mono ?_; rintro e w0 ⟨rfl, hb_w0⟩; have hz_w0 := hb_w0.size; (try simp at hz_w0); (with_reducible apply cel2 (b := w.heap.size) hb_w0); (focus ((try simp) <;> omega)); (focus omega); (focus (go_simp; try exact rfl)); (focus (go_simp; try exact rfl)); (focus (intro o; go_simp)); intro cc cc fz hl)
      have HB0 := Lib.hid (show Below w.heap.size w w0 by ((with_reducible (repeat (first | exact bR _ _ | refine bS ?_ ?_ _ | refine bA ?_ ?_ _ | refine bD ?_ | refine bT ?_ (by assumption) ?_ | refine bO (by assumption) ?_ ?_))) <;> (first | omega | (simp; done) | (simp <;> omega))))
      go_wp2_with fail
      (go_at_call 93; refine (wsubl_any A A' (canN x) (canN y) c c' w0 (canN_lim _) (canN_lim _) (by omega) (by omega) HXY.out (HA.out.below HB0.out) (HA'.out.below HB0.out)).mono ?_; rintro e w1 ⟨hb_w1, A3, c3, l3, rfl, hc3, hl3, hk3, hm3, hA3⟩; have hz_w1 := hb_w1.size; (try simp at hz_w1); (with_reducible apply cel2 (b := w.heap.size) hb_w1); (focus ((try simp) <;> omega)); (focus omega); (focus (go_simp; try exact rfl)); (focus (go_simp; try exact rfl)); (focus (intro o; go_simp)); intro cc cc fz hl)
      have hmk := fun w' (h : LAt w' A3 l3) => wmade_any p A3 l3 c3 w' hl3 h hc3 (by omega)
      rw [hm3, mv_canN, mv_canN, ← HZ.out] at hmk
      have HMK := Lib.hid hmk
      have HA3 := Lib.hid hA3
      clear hA3 hc3 hl3 hk3 hm3 hmk
      go_wp2_with fail
      (go_at_call 76; refine (HMK.out _ HA3.out).mono ?_; rintro e w2 ⟨hb_w2, v4, rfl, A4, c4, rfl, hc4, hA4⟩; have hz_w2 := hb_w2.size; (try simp at hz_w2); (with_reducible apply cel2 (b := w.heap.size) hb_w2); (focus ((try simp) <;> omega)); (focus omega); (focus (go_simp; try exact rfl)); (focus (go_simp; try exact rfl)); (focus (intro o; go_simp)); intro cc cc fz hl)
      have HC4 := Lib.hid hc4
      have HA4 := Lib.hid hA4
      clear hA4 hc4
      go_wp2_with fail
      refine bodyPost_ret (v := .agg #[.bool (decide (Z < 0)), .slice A4 (canN Z.natAbs).length c4]) (by simp only [results, Try.results83]; go_simp) rfl ⟨?_, ?_⟩
      · ((with_reducible (repeat (first | exact bR _ _ | refine bS ?_ ?_ _ | refine bA ?_ ?_ _ | refine bD ?_ | refine bT ?_ (by assumption) ?_ | refine bO (by assumption) ?_ ?_))) <;> (first | omega | (simp; done) | (simp <;> omega)))
      · exact ⟨_, rfl, A4, c4, rfl, HC4.out, HA4.out.set2 (by assumption) (by assumption) _ _⟩
set_option maxHeartbeats 2000000 in
theorem wadd_any (n : Nat) (u v : Value) (a b : Int) (w : World) (ha : IsZ w u n a) (hb : IsZ w v n b) (hn : n ≤ 400000) :
    Calls Try.prog 63 #[u, v] w (ZOut (a + b) w) := by
  have HA := Lib.hid ha
  have HB := Lib.hid hb
  have la := isZ_len ha
  have lb := isZ_len hb
  obtain ⟨p, A, c, l, rfl⟩ := isZ_val ha
  obtain ⟨p', A', c', l', rfl⟩ := isZ_val hb
  have hsm := fun A A' c c' w => wsum_any (decide (a < 0)) (decide (b < 0)) A A' a.natAbs b.natAbs c c' a b w (sv_natAbs a).1.symm (sv_natAbs b).1.symm (by omega) (by omega)
  have HSM := Lib.hid hsm
  clear ha hb hsm
  go_enter Try.func63, Try.ntmps63; (try simp only [List.append_eq, List.cons_append, List.nil_append])
  go_wp2_with fail
  -- own blocks: w.heap.size:2, w.heap.size + 1:2, w.heap.size + 1 + 1:2
  (go_at_call 77; refine (wlimbs_any n _ a _ (HA.out.below (by ((with_reducible (repeat (first | exact bR _ _ | refine bS ?_ ?_ _ | refine bA ?_ ?_ _ | refine bD ?_ | refine bT ?_ (by assumption) ?_ | refine bO (by assumption) ?_ ?_))) <;> (first | omega | (simp; done) | (simp <;> omega))))) (by omega)).mono ?_; rintro e w1 ⟨hb_w1, A1, c1, rfl, hc1, hA1⟩; have hz_w1 := hb_w1.size; (try simp at hz_w1); (with_reducible apply cel2 (b := w.heap.size) hb_w1); (focus ((try simp) <;> omega)); (focus omega); (focus (go_simp; try exact rfl)); (focus (go_simp; try exact rfl)); (focus (intro o; go_simp)); intro cc cc fz hl; (with_reducible apply cel2 (b := w.heap.size + 1) hb_w1); (focus ((try simp) <;> omega)); (focus omega); (focus (go_simp; try exact rfl)); (focus (go_simp; try exact rfl)); (focus (intro o; go_simp)); intro cc cc fz hl; (with_reducible apply cel2 (b := w.heap.size + 1 + 1) hb_w1); (focus ((try simp) <;> omega)); (focus omega); (focus (go_simp; try exact rfl)); (focus (go_simp; try exact rfl)); (focus (intro o; go_simp)); intro cc cc fz hl)
  have HA1 := Lib.hid hA1
  have HB1 := Lib.hid (show Below w.heap.size w w1 by ((with_reducible (repeat (first | exact bR _ _ | refine bS ?_ ?_ _ | refine bA ?_ ?_ _ | refine bD ?_ | refine bT ?_ (by assumption) ?_ | refine bO (by assumption) ?_ ?_))) <;> (first | omega | (simp; done) | (simp <;> omega))))
  clear hc1 hA1
  go_wp2_with fail
  (go_at_call 77; refine (wlimbs_any n _ b _ (HB.out.below HB1.out) (by omega)).mono ?_; rintro e w2 ⟨hb_w2, A2, c2, rfl, hc2, hA2⟩; have hz_w2 := hb_w2.size; (try simp at hz_w2); (with_reducible apply cel2 (b := w.heap.size) hb_w2); (focus ((try simp) <;> omega)); (focus omega); (focus (go_simp; try exact rfl)); (focus (go_simp; try exact rfl)); (focus (intro o; go_simp)); intro cc cc fz hl; (with_reducible apply cel2 (b := w.heap.size + 1) hb_w2); (focus ((try simp) <;> omega)); (focus omega); (focus (go_simp; try exact rfl)); (focus (go_simp; try exact rfl)); (focus (intro o; go_simp)); intro cc cc fz hl; (with_reducible apply cel2 (b := w.heap.size + 1 + 1) hb_w2); (focus ((try simp) <;> omega)); (focus omega); (focus (go_simp; try exact rfl)); (focus (go_simp; try exact rfl)); (focus (intro o; go_simp)); intro cc cc fz hl)
  have HA2 := Lib.hid hA2
  have HA12 := Lib.hid (HA1.out.below hb_w2)
  clear hc2 hA2
  go_wp2_with fail
  (go_at_call 83; refine (HSM.out A1 A2 c1 c2 w2 HA12.out HA2.out).mono ?_; rintro e w3 ⟨hb_w3, v4, rfl, A4, c4, rfl, hc4, hA4⟩; have hz_w3 := hb_w3.size; (try simp at hz_w3); (with_reducible apply cel2 (b := w.heap.size) hb_w3); (focus ((try simp) <;> omega)); (focus omega); (focus (go_simp; try exact rfl)); (focus (go_simp; try exact rfl)); (focus (intro o; go_simp)); intro cc cc fz hl; (with_reducible apply cel2 (b := w.heap.size + 1) hb_w3); (focus ((try simp) <;> omega)); (focus omega); (focus (go_simp; try exact rfl)); (focus (go_simp; try exact rfl)); (focus (intro o; go_simp)); intro cc cc fz hl; (with_reducible apply cel2 (b := w.heap.size + 1 + 1) hb_w3); (focus ((try simp) <;> omega)); (focus omega); (focus (go_simp; try exact rfl)); (focus (go_simp; try exact rfl)); (focus (intro o; go_simp)); intro cc cc fz hl)
  have HC4 := Lib.hid hc4
  have HA4 := Lib.hid hA4
  clear hA4 hc4
  go_wp2_with fail
  refine bodyPost_ret (v := .agg #[.bool (decide (a + b < 0)), .slice A4 (canN (a + b).natAbs).length c4]) (by simp only [results, Try.results63]; go_simp) rfl ⟨?_, ?_⟩
  · exact HB1.out.trans (by ((with_reducible (repeat (first | exact bR _ _ | refine bS ?_ ?_ _ | refine bA ?_ ?_ _ | refine bD ?_ | refine bT ?_ (by assumption) ?_ | refine bO (by assumption) ?_ ?_))) <;> (first | omega | (simp; done) | (simp <;> omega))))
  · exact ⟨_, rfl, A4, c4, rfl, HC4.out, HA4.out.set2 (by assumption) (by assumption) _ _⟩
set_option maxHeartbeats 2000000 in
theorem wsub_any (n : Nat) (u v : Value) (a b : Int) (w : World) (ha : IsZ w u n a) (hb : IsZ w v n b) (hn : n ≤ 400000) :
    Calls Try.prog 59 #[u, v] w (ZOut (a - b) w) := by
  have HA := Lib.hid ha
  have HB := Lib.hid hb
  have la := isZ_len ha
  have lb := isZ_len hb
  obtain ⟨p, A, c, l, rfl⟩ := isZ_val ha
  obtain ⟨p', A', c', l', rfl⟩ := isZ_val hb
  have hsm := fun A A' c c' w => wsum_any (decide (a < 0)) (!decide (b < 0)) A A' a.natAbs b.natAbs c c' a (-b) w (sv_natAbs a).1.symm (sv_natAbs b).2.1.symm (by omega) (by omega)
  obtain ⟨Z, hZ⟩ : ∃ Z, Z = a - b := ⟨_, rfl⟩
  rw [← Int.sub_eq_add_neg, ← hZ] at hsm
  rw [← hZ]
  have HSM := Lib.hid hsm
  clear ha hb hsm hZ
  go_enter Try.func59, Try.ntmps59; (try simp only [List.append_eq, List.cons_append, List.nil_append])
  go_wp2_with fail
  -- own blocks: w.heap.size:2, w.heap.size + 1:2, w.heap.size + 1 + 1:2
  (go_at_call 77; refine (wlimbs_any n _ a _ (HA.out.below (by ((with_reducible (repeat (first | exact bR _ _ | refine bS ?_ ?_ _ | refine bA ?_ ?_ _ | refine bD ?_ | refine bT ?_ (by assumption) ?_ | refine bO (by assumption) ?_ ?_))) <;> (first | omega | (simp; done) | (simp <;> omega))))) (by omega)).mono ?_; rintro e w1 ⟨hb_w1, A1, c1, rfl, hc1, hA1⟩; have hz_w1 := hb_w1.size; (try simp at hz_w1); (with_reducible apply cel2 (b := w.heap.size) hb_w1); (focus ((try simp) <;> omega)); (focus omega); (focus (go_simp; try exact rfl)); (focus (go_simp; try exact rfl)); (focus (intro o; go_simp)); intro cc cc fz hl; (with_reducible apply cel2 (b := w.heap.size + 1) hb_w1); (focus ((try simp) <;> omega)); (focus omega); (focus (go_simp; try exact rfl)); (focus (go_simp; try exact rfl)); (focus (intro o; go_simp)); intro cc cc fz hl; (with_reducible apply cel2 (b := w.heap.size + 1 + 1) hb_w1); (focus ((try simp) <;> omega)); (focus omega); (focus (go_simp; try exact rfl)); (focus (go_simp; try exact rfl)); (focus (intro o; go_simp)); intro cc cc fz hl)
  have HA1 := Lib.hid hA1
  have HB1 := Lib.hid (show Below w.heap.size w w1 by ((with_reducible (repeat (first | exact bR _ _ | refine bS ?_ ?_ _ | refine bA ?_ ?_ _ | refine bD ?_ | refine bT ?_ (by assumption) ?_ | refine bO (by assumption) ?_ ?_))) <;> (first | omega | (simp; done) | (simp <;> omega))))
  clear hc1 hA1
  go_wp2_with fail
  (go_at_call 77; refine (wlimbs_any n _ b _ (HB.out.below HB1.out) (by omega)).mono ?_; rintro e w2 ⟨hb_w2, A2, c2, rfl, hc2, hA2⟩; have hz_w2 := hb_w2.size; (try simp at hz_w2); (with_reducible apply cel2 (b := w.heap.size) hb_w2); (focus ((try simp) <;> omega)); (focus omega); (focus (go_simp; try exact rfl)); (focus (go_simp; try exact rfl)); (focus (intro o; go_simp)); intro cc cc fz hl; (with_reducible apply cel2 (b := w.heap.size + 1) hb_w2); (focus ((try simp) <;> omega)); (focus omega); (focus (go_simp; try exact rfl)); (focus (go_simp; try exact rfl)); (focus (intro o; go_simp)); intro cc cc fz hl; (with_reducible apply cel2 (b := w.heap.size + 1 + 1) hb_w2); (focus ((try simp) <;> omega)); (focus omega); (focus (go_simp; try exact rfl)); (focus (go_simp; try exact rfl)); (focus (intro o; go_simp)); intro cc cc fz hl)
  have HA2 := Lib.hid hA2
  have HA12 := Lib.hid (HA1.out.below hb_w2)
  obtain ⟨bb, hbb⟩ : ∃ bb, bb = decide (b < 0) := ⟨_, rfl⟩
  rw [← hbb] at HSM ⊢
  clear hc2 hA2 hbb
  go_wp2_with fail
  (go_at_call 83; refine (HSM.out A1 A2 c1 c2 w2 HA12.out HA2.out).mono ?_; rintro e w3 ⟨hb_w3, v4, rfl, A4, c4, rfl, hc4, hA4⟩; have hz_w3 := hb_w3.size; (try simp at hz_w3); (with_reducible apply cel2 (b := w.heap.size) hb_w3); (focus ((try simp) <;> omega)); (focus omega); (focus (go_simp; try exact rfl)); (focus (go_simp; try exact rfl)); (focus (intro o; go_simp)); intro cc cc fz hl; (with_reducible apply cel2 (b := w.heap.size + 1) hb_w3); (focus ((try simp) <;> omega)); (focus omega); (focus (go_simp; try exact rfl)); (focus (go_simp; try exact rfl)); (focus (intro o; go_simp)); intro cc cc fz hl; (with_reducible apply cel2 (b := w.heap.size + 1 + 1) hb_w3); (focus ((try simp) <;> omega)); (focus omega); (focus (go_simp; try exact rfl)); (focus (go_simp; try exact rfl)); (focus (intro o; go_simp)); intro cc cc fz hl)
  have HC4 := Lib.hid hc4
  have HA4 := Lib.hid hA4
  clear hA4 hc4
  go_wp2_with fail
  refine bodyPost_ret (v := .agg #[.bool (decide (Z < 0)), .slice A4 (canN Z.natAbs).length c4]) (by simp only [results, Try.results59]; go_simp) rfl ⟨?_, ?_⟩
  · exact HB1.out.trans (by ((with_reducible (repeat (first | exact bR _ _ | refine bS ?_ ?_ _ | refine bA ?_ ?_ _ | refine bD ?_ | refine bT ?_ (by assumption) ?_ | refine bO (by assumption) ?_ ?_))) <;> (first | omega | (simp; done) | (simp <;> omega))))
  · exact ⟨_, rfl, A4, c4, rfl, HC4.out, HA4.out.set2 (by assumption) (by assumption) _ _⟩
end Go.Proofs.Ytadkcipjcmkoiaa
