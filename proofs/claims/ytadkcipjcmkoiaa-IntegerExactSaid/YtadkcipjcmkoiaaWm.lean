/- The contracts of wide.quoLimbs at any limbs, Quo, gcdUint, asUint, Bits. -/
import Derived.Test.YtadkcipjcmkoiaaWk
import Derived.Test.YtadkcipjcmkoiaaBigQ
namespace Go.Proofs.Ytadkcipjcmkoiaa
open Go Go.RowKit
set_option linter.unusedVariables false
theorem wquol_any (A B : Option Addr) (x y c d : Nat) (w : World) (hn : (canN x).length ≤ 200000) (hn' : (canN y).length ≤ 200000) (hA : LAt w A (canN x)) (hB : LAt w B (canN y)) (hy : y ≠ 0) :
    Calls Try.prog 84 #[.slice A (canN x).length c, .slice B (canN y).length d] w (WDivOut 400000 400000 ((x / y : Nat) : Int) ((x % y : Nat) : Int) w) := by
  rcases Nat.lt_or_ge x y with h | h
  · exact wquol_less A B x y c d w (by omega) (by omega) hA hB h
  · have h0 : (canN y).length ≠ 0 := fun e => hy (canN_len0.1 e)
    by_cases h1 : (canN y).length = 1
    · exact wquol_one A B x y c d w (by omega) hA hB h h1
    · obtain ⟨m, hm⟩ : ∃ m, (canN y).length = m + 2 := ⟨(canN y).length - 2, by omega⟩
      exact wquol_knuth A B x y c d m w hn hA hB h hm
set_option maxRecDepth 100000 in
set_option maxHeartbeats 4000000 in
theorem wquo_any (n : Nat) (u v : Value) (a b : Int) (w : World) (ha : IsZ w u n a) (hb : IsZ w v n b) (hn : n ≤ 200000) (hb0 : b ≠ 0) :
    Calls Try.prog 61 #[u, v] w (DOut (a.tdiv b) (a.tmod b) w) := by
  have HA := Lib.hid ha
  have HB := Lib.hid hb
  have la := isZ_len ha
  have lb := isZ_len hb
  obtain ⟨p, A, c, l, rfl⟩ := isZ_val ha
  obtain ⟨p', A', c', l', rfl⟩ := isZ_val hb
  have hml := fun w' (h : Below w.heap.size w w') => wlimbs_any n _ a w' (HA.out.below h) (by omega)
  have hmr := fun w' (h : Below w.heap.size w w') => wlimbs_any n _ b w' (HB.out.below h) (by omega)
  obtain ⟨t1, t2⟩ := sv_tdiv (sv_natAbs a).1.symm (sv_natAbs b).1.symm
  have hy0 : b.natAbs ≠ 0 := by omega
  obtain ⟨sp, hsp⟩ : ∃ sp, sp = decide (a < 0) := ⟨_, rfl⟩
  obtain ⟨sq, hsq⟩ : ∃ sq, sq = decide (b < 0) := ⟨_, rfl⟩
  obtain ⟨x, hx⟩ : ∃ x, x = a.natAbs := ⟨_, rfl⟩
  obtain ⟨y, hy⟩ : ∃ y, y = b.natAbs := ⟨_, rfl⟩
  unfold LimOut at hml hmr
  rw [← hx, ← hsp] at hml
  rw [← hy, ← hsq] at hmr
  rw [← hx] at la
  rw [← hy] at lb hy0
  rw [← hx, ← hy, ← hsp, ← hsq] at t1
  rw [← hx, ← hy, ← hsp] at t2
  obtain ⟨Q, hQ⟩ : ∃ Q, Q = a.tdiv b := ⟨_, rfl⟩
  obtain ⟨R, hR⟩ : ∃ R, R = a.tmod b := ⟨_, rfl⟩
  rw [← hQ] at t1 ⊢
  rw [← hR] at t2 ⊢
  have HML := Lib.hid hml
  have HMR := Lib.hid hmr
  have HQ := Lib.hid t1
  have HR := Lib.hid t2
  have hdv := fun A B c d w hA hB => wquol_any A B x y c d w (by omega) (by omega) hA hB hy0
  have HDV := Lib.hid hdv
  clear hml hmr t1 t2 hsp hsq hx hy hQ hR ha hb hdv hy0 hb0 HA HB
  go_enter Try.func61, Try.ntmps61; (try simp only [List.append_eq, List.cons_append, List.nil_append])
  go_wp2_with fail
  -- own blocks: w.heap.size:2, w.heap.size + 1:2, w.heap.size + 1 + 1:2, w.heap.size + 1 + 1 + 1:2
  (go_at_call 77; refine (HML.out _ (by ((with_reducible (repeat (first | exact bR _ _ | refine bS ?_ ?_ _ | refine bA ?_ ?_ _ | refine bD ?_ | refine bT ?_ (by assumption) ?_ | refine bO (by assumption) ?_ ?_))) <;> (first | omega | (simp; done) | (simp <;> omega))))).mono ?_; rintro e w1 ⟨hb_w1, A1, c1, rfl, hc1, hA1⟩; have hz_w1 := hb_w1.size; (try simp at hz_w1); (with_reducible apply cel2 (b := w.heap.size) hb_w1); (focus ((try simp) <;> omega)); (focus omega); (focus (go_simp; try exact rfl)); (focus (go_simp; try exact rfl)); (focus (intro o; go_simp)); intro cc cc fz hl; (with_reducible apply cel2 (b := w.heap.size + 1) hb_w1); (focus ((try simp) <;> omega)); (focus omega); (focus (go_simp; try exact rfl)); (focus (go_simp; try exact rfl)); (focus (intro o; go_simp)); intro cc cc fz hl; (with_reducible apply cel2 (b := w.heap.size + 1 + 1) hb_w1); (focus ((try simp) <;> omega)); (focus omega); (focus (go_simp; try exact rfl)); (focus (go_simp; try exact rfl)); (focus (intro o; go_simp)); intro cc cc fz hl; (with_reducible apply cel2 (b := w.heap.size + 1 + 1 + 1) hb_w1); (focus ((try simp) <;> omega)); (focus omega); (focus (go_simp; try exact rfl)); (focus (go_simp; try exact rfl)); (focus (intro o; go_simp)); intro cc cc fz hl)
  have HA1 := Lib.hid hA1
  have HB1 := Lib.hid (show Below w.heap.size w w1 by ((with_reducible (repeat (first | exact bR _ _ | refine bS ?_ ?_ _ | refine bA ?_ ?_ _ | refine bD ?_ | refine bT ?_ (by assumption) ?_ | refine bO (by assumption) ?_ ?_))) <;> (first | omega | (simp; done) | (simp <;> omega))))
  have hz1 : w.heap.size + 1 + 1 + 1 + 1 ≤ w1.heap.size := by omega
  clear hc1 hA1 hb_w1 hz_w1
  go_wp2_with fail
  (go_at_call 77; refine (HMR.out _ HB1.out).mono ?_; rintro e w2 ⟨hb_w2, A2, c2, rfl, hc2, hA2⟩; have hz_w2 := hb_w2.size; (try simp at hz_w2); (with_reducible apply cel2 (b := w.heap.size) hb_w2); (focus ((try simp) <;> omega)); (focus omega); (focus (go_simp; try exact rfl)); (focus (go_simp; try exact rfl)); (focus (intro o; go_simp)); intro cc cc fz hl; (with_reducible apply cel2 (b := w.heap.size + 1) hb_w2); (focus ((try simp) <;> omega)); (focus omega); (focus (go_simp; try exact rfl)); (focus (go_simp; try exact rfl)); (focus (intro o; go_simp)); intro cc cc fz hl; (with_reducible apply cel2 (b := w.heap.size + 1 + 1) hb_w2); (focus ((try simp) <;> omega)); (focus omega); (focus (go_simp; try exact rfl)); (focus (go_simp; try exact rfl)); (focus (intro o; go_simp)); intro cc cc fz hl; (with_reducible apply cel2 (b := w.heap.size + 1 + 1 + 1) hb_w2); (focus ((try simp) <;> omega)); (focus omega); (focus (go_simp; try exact rfl)); (focus (go_simp; try exact rfl)); (focus (intro o; go_simp)); intro cc cc fz hl)
  have HA2 := Lib.hid hA2
  have HA12 := Lib.hid (HA1.out.below hb_w2)
  have HB2 := Lib.hid (HB1.out.trans (hb_w2.mono (by omega)))
  have hz2 : w.heap.size + 1 + 1 + 1 + 1 ≤ w2.heap.size := by omega
  clear hc2 hA2 hb_w2 hz_w2
  go_wp2_with fail
  (go_at_call 84; refine (HDV.out A1 A2 c1 c2 w2 HA12.out HA2.out).mono ?_; rintro e w3 ⟨hb_w3, B1, d1, l1, B2, d2, l2, rfl, hd1, hd2, hl1, hl2, hm1, hm2, hk1, hk2, hA3, hA4⟩; have hz_w3 := hb_w3.size; (try simp at hz_w3); (with_reducible apply cel2 (b := w.heap.size) hb_w3); (focus ((try simp) <;> omega)); (focus omega); (focus (go_simp; try exact rfl)); (focus (go_simp; try exact rfl)); (focus (intro o; go_simp)); intro cc cc fz hl; (with_reducible apply cel2 (b := w.heap.size + 1) hb_w3); (focus ((try simp) <;> omega)); (focus omega); (focus (go_simp; try exact rfl)); (focus (go_simp; try exact rfl)); (focus (intro o; go_simp)); intro cc cc fz hl; (with_reducible apply cel2 (b := w.heap.size + 1 + 1) hb_w3); (focus ((try simp) <;> omega)); (focus omega); (focus (go_simp; try exact rfl)); (focus (go_simp; try exact rfl)); (focus (intro o; go_simp)); intro cc cc fz hl; (with_reducible apply cel2 (b := w.heap.size + 1 + 1 + 1) hb_w3); (focus ((try simp) <;> omega)); (focus omega); (focus (go_simp; try exact rfl)); (focus (go_simp; try exact rfl)); (focus (intro o; go_simp)); intro cc cc fz hl)
  have hmk1 := fun w' (h : LAt w' B1 l1) => wmade_any (sp != sq) B1 l1 d1 w' hl1 h hd1 (by omega)
  have hmk2 := fun w' (h : LAt w' B2 l2) => wmade_any sp B2 l2 d2 w' hl2 h hd2 (by omega)
  rw [hm1, ← HQ.out] at hmk1
  rw [hm2, ← HR.out] at hmk2
  have HK1 := Lib.hid hmk1
  have HK2 := Lib.hid hmk2
  have HA3 := Lib.hid hA3
  have HA4 := Lib.hid hA4
  have HB3 := Lib.hid (HB2.out.trans (hb_w3.mono (by omega)))
  have hz3 : w.heap.size + 1 + 1 + 1 + 1 ≤ w3.heap.size := by omega
  clear hmk1 hmk2 hd1 hd2 hl1 hl2 hm1 hm2 hk1 hk2 hA3 hA4 hb_w3 hz_w3
  go_wp2_with fail
  (go_at_call 76; refine (HK1.out _ HA3.out).mono ?_; rintro e w4 ⟨hb_w4, v4, rfl, A5, c5, rfl, hc5, hA5⟩; have hz_w4 := hb_w4.size; (try simp at hz_w4); (with_reducible apply cel2 (b := w.heap.size) hb_w4); (focus ((try simp) <;> omega)); (focus omega); (focus (go_simp; try exact rfl)); (focus (go_simp; try exact rfl)); (focus (intro o; go_simp)); intro cc cc fz hl; (with_reducible apply cel2 (b := w.heap.size + 1) hb_w4); (focus ((try simp) <;> omega)); (focus omega); (focus (go_simp; try exact rfl)); (focus (go_simp; try exact rfl)); (focus (intro o; go_simp)); intro cc cc fz hl; (with_reducible apply cel2 (b := w.heap.size + 1 + 1) hb_w4); (focus ((try simp) <;> omega)); (focus omega); (focus (go_simp; try exact rfl)); (focus (go_simp; try exact rfl)); (focus (intro o; go_simp)); intro cc cc fz hl; (with_reducible apply cel2 (b := w.heap.size + 1 + 1 + 1) hb_w4); (focus ((try simp) <;> omega)); (focus omega); (focus (go_simp; try exact rfl)); (focus (go_simp; try exact rfl)); (focus (intro o; go_simp)); intro cc cc fz hl)
  have HA44 := Lib.hid (HA4.out.below hb_w4)
  have HA5 := Lib.hid hA5
  have HC5 := Lib.hid hc5
  have HB4 := Lib.hid (HB3.out.trans (hb_w4.mono (by omega)))
  have hz4 : w.heap.size + 1 + 1 + 1 + 1 ≤ w4.heap.size := by omega
  clear hA5 hc5 hb_w4 hz_w4
  go_wp2_with fail
  (go_at_call 76; refine (HK2.out _ HA44.out).mono ?_; rintro e w5 ⟨hb_w5, v5, rfl, A6, c6, rfl, hc6, hA6⟩; have hz_w5 := hb_w5.size; (try simp at hz_w5); (with_reducible apply cel2 (b := w.heap.size) hb_w5); (focus ((try simp) <;> omega)); (focus omega); (focus (go_simp; try exact rfl)); (focus (go_simp; try exact rfl)); (focus (intro o; go_simp)); intro cc cc fz hl; (with_reducible apply cel2 (b := w.heap.size + 1) hb_w5); (focus ((try simp) <;> omega)); (focus omega); (focus (go_simp; try exact rfl)); (focus (go_simp; try exact rfl)); (focus (intro o; go_simp)); intro cc cc fz hl; (with_reducible apply cel2 (b := w.heap.size + 1 + 1) hb_w5); (focus ((try simp) <;> omega)); (focus omega); (focus (go_simp; try exact rfl)); (focus (go_simp; try exact rfl)); (focus (intro o; go_simp)); intro cc cc fz hl; (with_reducible apply cel2 (b := w.heap.size + 1 + 1 + 1) hb_w5); (focus ((try simp) <;> omega)); (focus omega); (focus (go_simp; try exact rfl)); (focus (go_simp; try exact rfl)); (focus (intro o; go_simp)); intro cc cc fz hl)
  have HA55 := Lib.hid (HA5.out.below hb_w5)
  have HA6 := Lib.hid hA6
  have HC6 := Lib.hid hc6
  have HB5 := Lib.hid (HB4.out.trans (hb_w5.mono (by omega)))
  have hz5 : w.heap.size + 1 + 1 + 1 + 1 ≤ w5.heap.size := by omega
  clear hA6 hc6 hb_w5 hz_w5
  have HC1 := Lib.hid (show C2 w5 (w.heap.size + 1 + 1) (.bool false) (.slice none 0 0) from ⟨by assumption, by assumption, by assumption⟩)
  have HC2 := Lib.hid (show C2 w5 (w.heap.size + 1 + 1 + 1) (.bool false) (.slice none 0 0) from ⟨by assumption, by assumption, by assumption⟩)
  go_wp2_with fail
  have e1 : ¬ (w.heap.size + 1 + 1 + 1 = w.heap.size + 1 + 1) := by omega
  have e2 : ¬ (w.heap.size + 1 + 1 = w.heap.size + 1 + 1 + 1) := by omega
  refine bodyPost_ret (v := .tuple #[.agg #[.bool (decide (Q < 0)), .slice A5 (canN Q.natAbs).length c5], .agg #[.bool (decide (R < 0)), .slice A6 (canN R.natAbs).length c6]]) (by simp only [results, Try.results61]; go_simp) rfl ⟨?_, ?_⟩
  · exact (((HB5.out.setCell (by simp <;> omega) _).setCell (by simp <;> omega) _).setCell (by simp <;> omega) _).setCell (by simp <;> omega) _
  · have k1 := HC1.out
    have k2 := (HC2.out.far e1 (.bool (decide (Q < 0))) (.slice A5 (canN Q.natAbs).length c5))
    exact ⟨_, _, rfl, ⟨A5, c5, rfl, HC5.out, (HA55.out.set2 k1.1 k1.2.1 _ _).set2 k2.1 k2.2.1 _ _⟩, ⟨A6, c6, rfl, HC6.out, (HA6.out.set2 k1.1 k1.2.1 _ _).set2 k2.1 k2.2.1 _ _⟩⟩
set_option maxRecDepth 100000 in
set_option maxHeartbeats 1000000 in
theorem wgcduint_any (a b : Int) (w : World) (a0 : 0 ≤ a) (a1 : a < 18446744073709551616) (b0 : 0 ≤ b) (b1 : b < 18446744073709551616) :
    Calls Try.prog 87 #[.int .u64 a, .int .u64 b] w fun e w' => e = .returned (.int .u64 (Nat.gcd a.toNat b.toNat)) ∧ Below w.heap.size w w' := by
  obtain ⟨G, hG⟩ : ∃ G : Int, G = (Nat.gcd a.toNat b.toNat : Nat) := ⟨_, rfl⟩
  rw [← hG]
  have HG := Lib.hid hG
  clear hG
  go_enter Try.func87, Try.ntmps87; (try simp only [List.append_eq, List.cons_append, List.nil_append])
  go_wp2_with fail
  go_loopw [0, 1] (fun va vb wr => ∃ x y : Int, va = .int .u64 x ∧ vb = .int .u64 y ∧ 0 ≤ x ∧ x < 18446744073709551616 ∧ 0 ≤ y ∧ y < 18446744073709551616 ∧ Hid (G = (Nat.gcd x.toNat y.toNat : Nat)) ∧ Below w.heap.size w wr) (fun _ vb _ => (intOf vb).toNat)
  case atStart => exact ⟨a, b, rfl, rfl, a0, a1, b0, b1, HG, Below.refl _ _⟩
  case round =>
    obtain ⟨x, y, rfl, rfl, x0, x1, y0, y1, HXY, hbel⟩ := hrel
    have HB := Lib.hid hbel
    have hz := hbel.size
    clear hbel
    by_cases h0 : y = 0
    · have hg : G = x := by rw [HXY.out, h0, show (0 : Int).toNat = 0 from rfl, Nat.gcd_zero_right]; omega
      have e1 : ¬ (0 : Int) < y := by omega
      subst hg
      clear h0
      go_wp2_with fail
      go_ret
      exact ⟨rfl, HB.out⟩
    · have e1 : (0 : Int) < y := by omega
      have e2 : (y == 0) = false := by rw [beq_eq_false_iff_ne]; omega
      have e3 : ¬ y = 0 := by omega
      obtain ⟨r, hr⟩ : ∃ r, r = x % y := ⟨_, rfl⟩
      have e4 : x.tmod y = r := by rw [hr]; exact Int.tmod_eq_emod_of_nonneg x0
      have e5 : x % y = r := hr.symm
      have r0 : 0 ≤ r := by rw [hr]; exact Int.emod_nonneg _ e3
      have r1 : r < y := by rw [hr]; exact Int.emod_lt_of_pos _ e1
      have HRR := Lib.hid hr
      clear hr h0
      go_wp2_with fail
      refine wp_region_warm (Own wr.heap.size wr) (by kernel_rfl) (by kernel_rfl) (Own.refl (Nat.le_refl _)).drew ?_
      repeat (first | (refine wpWarm_step_off rfl (fun K hK => ?_); (go_simp; refine hK _ ?_; clear hK K)) | (apply wpWarm_step rfl; (focus (intro W' hS; have hcS := hS.cells.1; have hfS := hS.cells.2; go_simp; (first | done | exact rfl | exact ⟨rfl, hS⟩ | (go_simp; exact rfl)))); (intro K hK; go_simp; (try go_bits); refine hK _ ?_; clear hK K)) | (apply wpWarm_step_on rfl; (focus (intro W' hS; have hcS := hS.cells.1; have hfS := hS.cells.2; go_simp; (first | done | exact rfl | exact ⟨rfl, hS⟩ | (go_simp; exact rfl)))); (intro K hK; go_simp; (try go_bits); refine hK _ ?_; clear hK K)))
      refine wpWarm_nil ?_
      intro w4 hO
      have HB4 := Lib.hid (HB.out.trans (hO.2.mono hz))
      clear hO
      go_wp2_with fail
      go_roundw
      case rel =>
        refine ⟨y, r, rfl, rfl, y0, y1, r0, by omega, Lib.hid ?_, HB4.out⟩
        rw [HXY.out, HRR.out, Nat.gcd_comm x.toNat, Nat.gcd_rec, Nat.gcd_comm]
        rw [Int.toNat_emod x0 y0]
      case measure => simp [intOf]; omega
end Go.Proofs.Ytadkcipjcmkoiaa
