/- The contracts of wide.Cmp, Bits. -/
import Derived.Test.YtadkcipjcmkoiaaWd
import Derived.Test.YtadkcipjcmkoiaaWe
import Derived.Test.YtadkcipjcmkoiaaShelf
import Derived.Lib.ItoaNum
namespace Go.Proofs.Ytadkcipjcmkoiaa
open Go Go.RowKit
set_option linter.unusedVariables false
theorem cmp_abs {a b : Int} (h : (a < 0 ∧ b < 0) ∨ (0 ≤ a ∧ 0 ≤ b)) : cmpI a b = if a < 0 then cmpI b.natAbs a.natAbs else cmpI a.natAbs b.natAbs := by
  unfold cmpI
  rcases h with ⟨h1, h2⟩ | ⟨h1, h2⟩
  · rw [if_pos h1]
    repeat' split
    all_goals omega
  · rw [if_neg (show ¬ a < 0 by omega)]
    repeat' split
    all_goals omega
set_option maxHeartbeats 2000000 in
theorem wcmp_any (n : Nat) (u v : Value) (a b : Int) (w : World) (ha : IsZ w u n a) (hb : IsZ w v n b) (hn : n ≤ 400000) :
    Calls Try.prog 55 #[u, v] w fun e w' => e = .returned (.int .i64 (cmpI a b)) ∧ Below w.heap.size w w' := by
  have HA := Lib.hid ha
  have HB := Lib.hid hb
  have la := isZ_len ha
  have lb := isZ_len hb
  obtain ⟨p, A, c, l, rfl⟩ := isZ_val ha
  obtain ⟨p', A', c', l', rfl⟩ := isZ_val hb
  have hml := fun w' (h : Below w.heap.size w w') => wlimbs_any n _ a w' (HA.out.below h) (by omega)
  have hmr := fun w' (h : Below w.heap.size w w') => wlimbs_any n _ b w' (HB.out.below h) (by omega)
  obtain ⟨sp, hsp⟩ : ∃ sp, sp = decide (a < 0) := ⟨_, rfl⟩
  obtain ⟨sq, hsq⟩ : ∃ sq, sq = decide (b < 0) := ⟨_, rfl⟩
  obtain ⟨R, hR⟩ : ∃ R, R = cmpI a b := ⟨_, rfl⟩
  have hc1 : sp = true → sq = false → R = -1 := fun h1 h2 => by
    rw [hsp] at h1; rw [hsq] at h2; rw [hR]
    exact cmpI_lt (by simp at h1 h2; omega)
  have hc2 : sp = false → sq = true → R = 1 := fun h1 h2 => by
    rw [hsp] at h1; rw [hsq] at h2; rw [hR]
    exact cmpI_gt (by simp at h1 h2; omega)
  have hc3 : sp = true → sq = true → R = cmpI b.natAbs a.natAbs := fun h1 h2 => by
    rw [hsp] at h1; rw [hsq] at h2
    simp at h1 h2
    rw [hR, cmp_abs (.inl ⟨h1, h2⟩), if_pos h1]
  have hc4 : sp = false → sq = false → R = cmpI a.natAbs b.natAbs := fun h1 h2 => by
    rw [hsp] at h1; rw [hsq] at h2
    simp at h1 h2
    rw [hR, cmp_abs (.inr ⟨h1, h2⟩), if_neg (by omega)]
  unfold LimOut at hml hmr
  rw [← hsp] at hml
  rw [← hsq] at hmr
  rw [← hR]
  have HML := Lib.hid hml
  have HMR := Lib.hid hmr
  have H1 := Lib.hid hc1
  have H2 := Lib.hid hc2
  have H3 := Lib.hid hc3
  have H4 := Lib.hid hc4
  clear ha hb hml hmr hsp hsq hR hc1 hc2 hc3 hc4
  cases sp <;> cases sq
  · have hr := H4.out rfl rfl
    have hcm := fun A B c d w h1 h2 => wcmpl_any A B a.natAbs b.natAbs c d w (by omega) (by omega) h1 h2
    rw [← hr] at hcm
    have HCM := Lib.hid hcm
    clear hr hcm
    go_enter Try.func55, Try.ntmps55; (try simp only [List.append_eq, List.cons_append, List.nil_append])
    go_wp2_with fail
    -- own blocks: w.heap.size:2, w.heap.size + 1:2
    (go_at_call 77; refine (HML.out _ (by ((with_reducible (repeat (first | exact bR _ _ | refine bS ?_ ?_ _ | refine bA ?_ ?_ _ | refine bD ?_ | refine bT ?_ (by assumption) ?_ | refine bO (by assumption) ?_ ?_))) <;> (first | omega | (simp; done) | (simp <;> omega))))).mono ?_; rintro e w1 ⟨hb_w1, A1, c1, rfl, hc1, hA1⟩; have hz_w1 := hb_w1.size; (try simp at hz_w1); (with_reducible apply cel2 (b := w.heap.size) hb_w1); (focus ((try simp) <;> omega)); (focus omega); (focus (go_simp; try exact rfl)); (focus (go_simp; try exact rfl)); (focus (intro o; go_simp)); intro cc cc fz hl; (with_reducible apply cel2 (b := w.heap.size + 1) hb_w1); (focus ((try simp) <;> omega)); (focus omega); (focus (go_simp; try exact rfl)); (focus (go_simp; try exact rfl)); (focus (intro o; go_simp)); intro cc cc fz hl)
    have HA1 := Lib.hid hA1
    have HB1 := Lib.hid (show Below w.heap.size w w1 by ((with_reducible (repeat (first | exact bR _ _ | refine bS ?_ ?_ _ | refine bA ?_ ?_ _ | refine bD ?_ | refine bT ?_ (by assumption) ?_ | refine bO (by assumption) ?_ ?_))) <;> (first | omega | (simp; done) | (simp <;> omega))))
    clear hc1 hA1
    go_wp2_with fail
    (go_at_call 77; refine (HMR.out _ HB1.out).mono ?_; rintro e w2 ⟨hb_w2, A2, c2, rfl, hc2, hA2⟩; have hz_w2 := hb_w2.size; (try simp at hz_w2); (with_reducible apply cel2 (b := w.heap.size) hb_w2); (focus ((try simp) <;> omega)); (focus omega); (focus (go_simp; try exact rfl)); (focus (go_simp; try exact rfl)); (focus (intro o; go_simp)); intro cc cc fz hl; (with_reducible apply cel2 (b := w.heap.size + 1) hb_w2); (focus ((try simp) <;> omega)); (focus omega); (focus (go_simp; try exact rfl)); (focus (go_simp; try exact rfl)); (focus (intro o; go_simp)); intro cc cc fz hl)
    have HA2 := Lib.hid hA2
    have HA12 := Lib.hid (HA1.out.below hb_w2)
    clear hc2 hA2
    go_wp2_with fail
    (go_at_call 81; refine (HCM.out _ _ _ _ _ HA12.out HA2.out).mono ?_; rintro e w3 ⟨rfl, hb_w3⟩; have hz_w3 := hb_w3.size; (try simp at hz_w3); (with_reducible apply cel2 (b := w.heap.size) hb_w3); (focus ((try simp) <;> omega)); (focus omega); (focus (go_simp; try exact rfl)); (focus (go_simp; try exact rfl)); (focus (intro o; go_simp)); intro cc cc fz hl; (with_reducible apply cel2 (b := w.heap.size + 1) hb_w3); (focus ((try simp) <;> omega)); (focus omega); (focus (go_simp; try exact rfl)); (focus (go_simp; try exact rfl)); (focus (intro o; go_simp)); intro cc cc fz hl)
    go_wp2_with fail
    go_ret
    exact ⟨rfl, HB1.out.trans (by ((with_reducible (repeat (first | exact bR _ _ | refine bS ?_ ?_ _ | refine bA ?_ ?_ _ | refine bD ?_ | refine bT ?_ (by assumption) ?_ | refine bO (by assumption) ?_ ?_))) <;> (first | omega | (simp; done) | (simp <;> omega))))⟩
  · have hr := H2.out rfl rfl
    subst hr
    go_enter Try.func55, Try.ntmps55; (try simp only [List.append_eq, List.cons_append, List.nil_append])
    go_wp2_with fail
    -- own blocks: w.heap.size:2, w.heap.size + 1:2
    (go_at_call 77; refine (HML.out _ (by ((with_reducible (repeat (first | exact bR _ _ | refine bS ?_ ?_ _ | refine bA ?_ ?_ _ | refine bD ?_ | refine bT ?_ (by assumption) ?_ | refine bO (by assumption) ?_ ?_))) <;> (first | omega | (simp; done) | (simp <;> omega))))).mono ?_; rintro e w1 ⟨hb_w1, A1, c1, rfl, hc1, hA1⟩; have hz_w1 := hb_w1.size; (try simp at hz_w1); (with_reducible apply cel2 (b := w.heap.size) hb_w1); (focus ((try simp) <;> omega)); (focus omega); (focus (go_simp; try exact rfl)); (focus (go_simp; try exact rfl)); (focus (intro o; go_simp)); intro cc cc fz hl; (with_reducible apply cel2 (b := w.heap.size + 1) hb_w1); (focus ((try simp) <;> omega)); (focus omega); (focus (go_simp; try exact rfl)); (focus (go_simp; try exact rfl)); (focus (intro o; go_simp)); intro cc cc fz hl)
    have HB1 := Lib.hid (show Below w.heap.size w w1 by ((with_reducible (repeat (first | exact bR _ _ | refine bS ?_ ?_ _ | refine bA ?_ ?_ _ | refine bD ?_ | refine bT ?_ (by assumption) ?_ | refine bO (by assumption) ?_ ?_))) <;> (first | omega | (simp; done) | (simp <;> omega))))
    clear hc1 hA1
    go_wp2_with fail
    (go_at_call 77; refine (HMR.out _ HB1.out).mono ?_; rintro e w2 ⟨hb_w2, A2, c2, rfl, hc2, hA2⟩; have hz_w2 := hb_w2.size; (try simp at hz_w2); (with_reducible apply cel2 (b := w.heap.size) hb_w2); (focus ((try simp) <;> omega)); (focus omega); (focus (go_simp; try exact rfl)); (focus (go_simp; try exact rfl)); (focus (intro o; go_simp)); intro cc cc fz hl; (with_reducible apply cel2 (b := w.heap.size + 1) hb_w2); (focus ((try simp) <;> omega)); (focus omega); (focus (go_simp; try exact rfl)); (focus (go_simp; try exact rfl)); (focus (intro o; go_simp)); intro cc cc fz hl)
    clear hc2 hA2
    go_wp2_with fail
    go_ret
    exact ⟨rfl, HB1.out.trans (by ((with_reducible (repeat (first | exact bR _ _ | refine bS ?_ ?_ _ | refine bA ?_ ?_ _ | refine bD ?_ | refine bT ?_ (by assumption) ?_ | refine bO (by assumption) ?_ ?_))) <;> (first | omega | (simp; done) | (simp <;> omega))))⟩
  · have hr := H1.out rfl rfl
    subst hr
    go_enter Try.func55, Try.ntmps55; (try simp only [List.append_eq, List.cons_append, List.nil_append])
    go_wp2_with fail
    -- own blocks: w.heap.size:2, w.heap.size + 1:2
    (go_at_call 77; refine (HML.out _ (by ((with_reducible (repeat (first | exact bR _ _ | refine bS ?_ ?_ _ | refine bA ?_ ?_ _ | refine bD ?_ | refine bT ?_ (by assumption) ?_ | refine bO (by assumption) ?_ ?_))) <;> (first | omega | (simp; done) | (simp <;> omega))))).mono ?_; rintro e w1 ⟨hb_w1, A1, c1, rfl, hc1, hA1⟩; have hz_w1 := hb_w1.size; (try simp at hz_w1); (with_reducible apply cel2 (b := w.heap.size) hb_w1); (focus ((try simp) <;> omega)); (focus omega); (focus (go_simp; try exact rfl)); (focus (go_simp; try exact rfl)); (focus (intro o; go_simp)); intro cc cc fz hl; (with_reducible apply cel2 (b := w.heap.size + 1) hb_w1); (focus ((try simp) <;> omega)); (focus omega); (focus (go_simp; try exact rfl)); (focus (go_simp; try exact rfl)); (focus (intro o; go_simp)); intro cc cc fz hl)
    have HB1 := Lib.hid (show Below w.heap.size w w1 by ((with_reducible (repeat (first | exact bR _ _ | refine bS ?_ ?_ _ | refine bA ?_ ?_ _ | refine bD ?_ | refine bT ?_ (by assumption) ?_ | refine bO (by assumption) ?_ ?_))) <;> (first | omega | (simp; done) | (simp <;> omega))))
    clear hc1 hA1
    go_wp2_with fail
    (go_at_call 77; refine (HMR.out _ HB1.out).mono ?_; rintro e w2 ⟨hb_w2, A2, c2, rfl, hc2, hA2⟩; have hz_w2 := hb_w2.size; (try simp at hz_w2); (with_reducible apply cel2 (b := w.heap.size) hb_w2); (focus ((try simp) <;> omega)); (focus omega); (focus (go_simp; try exact rfl)); (focus (go_simp; try exact rfl)); (focus (intro o; go_simp)); intro cc cc fz hl; (with_reducible apply cel2 (b := w.heap.size + 1) hb_w2); (focus ((try simp) <;> omega)); (focus omega); (focus (go_simp; try exact rfl)); (focus (go_simp; try exact rfl)); (focus (intro o; go_simp)); intro cc cc fz hl)
    clear hc2 hA2
    go_wp2_with fail
    go_ret
    exact ⟨rfl, HB1.out.trans (by ((with_reducible (repeat (first | exact bR _ _ | refine bS ?_ ?_ _ | refine bA ?_ ?_ _ | refine bD ?_ | refine bT ?_ (by assumption) ?_ | refine bO (by assumption) ?_ ?_))) <;> (first | omega | (simp; done) | (simp <;> omega))))⟩
  · have hr := H3.out rfl rfl
    have hcm := fun A B c d w h1 h2 => wcmpl_any A B b.natAbs a.natAbs c d w (by omega) (by omega) h1 h2
    rw [← hr] at hcm
    have HCM := Lib.hid hcm
    clear hr hcm
    go_enter Try.func55, Try.ntmps55; (try simp only [List.append_eq, List.cons_append, List.nil_append])
    go_wp2_with fail
    -- own blocks: w.heap.size:2, w.heap.size + 1:2
    (go_at_call 77; refine (HML.out _ (by ((with_reducible (repeat (first | exact bR _ _ | refine bS ?_ ?_ _ | refine bA ?_ ?_ _ | refine bD ?_ | refine bT ?_ (by assumption) ?_ | refine bO (by assumption) ?_ ?_))) <;> (first | omega | (simp; done) | (simp <;> omega))))).mono ?_; rintro e w1 ⟨hb_w1, A1, c1, rfl, hc1, hA1⟩; have hz_w1 := hb_w1.size; (try simp at hz_w1); (with_reducible apply cel2 (b := w.heap.size) hb_w1); (focus ((try simp) <;> omega)); (focus omega); (focus (go_simp; try exact rfl)); (focus (go_simp; try exact rfl)); (focus (intro o; go_simp)); intro cc cc fz hl; (with_reducible apply cel2 (b := w.heap.size + 1) hb_w1); (focus ((try simp) <;> omega)); (focus omega); (focus (go_simp; try exact rfl)); (focus (go_simp; try exact rfl)); (focus (intro o; go_simp)); intro cc cc fz hl)
    have HA1 := Lib.hid hA1
    have HB1 := Lib.hid (show Below w.heap.size w w1 by ((with_reducible (repeat (first | exact bR _ _ | refine bS ?_ ?_ _ | refine bA ?_ ?_ _ | refine bD ?_ | refine bT ?_ (by assumption) ?_ | refine bO (by assumption) ?_ ?_))) <;> (first | omega | (simp; done) | (simp <;> omega))))
    clear hc1 hA1
    go_wp2_with fail
    (go_at_call 77; refine (HMR.out _ HB1.out).mono ?_; rintro e w2 ⟨hb_w2, A2, c2, rfl, hc2, hA2⟩; have hz_w2 := hb_w2.size; (try simp at hz_w2); (with_reducible apply cel2 (b := w.heap.size) hb_w2); (focus ((try simp) <;> omega)); (focus omega); (focus (go_simp; try exact rfl)); (focus (go_simp; try exact rfl)); (focus (intro o; go_simp)); intro cc cc fz hl; (with_reducible apply cel2 (b := w.heap.size + 1) hb_w2); (focus ((try simp) <;> omega)); (focus omega); (focus (go_simp; try exact rfl)); (focus (go_simp; try exact rfl)); (focus (intro o; go_simp)); intro cc cc fz hl)
    have HA2 := Lib.hid hA2
    have HA12 := Lib.hid (HA1.out.below hb_w2)
    clear hc2 hA2
    go_wp2_with fail
    (go_at_call 81; refine (HCM.out _ _ _ _ _ HA2.out HA12.out).mono ?_; rintro e w3 ⟨rfl, hb_w3⟩; have hz_w3 := hb_w3.size; (try simp at hz_w3); (with_reducible apply cel2 (b := w.heap.size) hb_w3); (focus ((try simp) <;> omega)); (focus omega); (focus (go_simp; try exact rfl)); (focus (go_simp; try exact rfl)); (focus (intro o; go_simp)); intro cc cc fz hl; (with_reducible apply cel2 (b := w.heap.size + 1) hb_w3); (focus ((try simp) <;> omega)); (focus omega); (focus (go_simp; try exact rfl)); (focus (go_simp; try exact rfl)); (focus (intro o; go_simp)); intro cc cc fz hl)
    go_wp2_with fail
    go_ret
    exact ⟨rfl, HB1.out.trans (by ((with_reducible (repeat (first | exact bR _ _ | refine bS ?_ ?_ _ | refine bA ?_ ?_ _ | refine bD ?_ | refine bT ?_ (by assumption) ?_ | refine bO (by assumption) ?_ ?_))) <;> (first | omega | (simp; done) | (simp <;> omega))))⟩
/-- The number of binary digits. -/
def bitN (n : Nat) : Nat := if n = 0 then 0 else Nat.log2 n + 1
theorem bitN_of {n k : Nat} (h1 : 2 ^ k ≤ n) (h2 : n < 2 ^ (k + 1)) : bitN n = k + 1 := by
  have h0 : n ≠ 0 := by have := Nat.two_pow_pos k; omega
  unfold bitN
  rw [if_neg h0]
  have a := (Nat.le_log2 h0).2 h1
  have b := (Nat.log2_lt h0).2 h2
  omega
theorem bitN_limbs {x m : Nat} {t : Int} (hl : (canN x).length = m + 1) (ht : (canN x)[m]? = some t) : bitN x = 32 * m + Lib.bitLen t.toNat := by
  obtain ⟨t0, t1⟩ := (canN_lim x).get ht
  have tne : t ≠ 0 := canN_last x t (by rw [List.getLast?_eq_getElem?, hl]; exact ht)
  obtain ⟨T, rfl⟩ := Int.eq_ofNat_of_zero_le t0
  rw [Int.toNat_natCast]
  obtain ⟨a, b, c⟩ := Lib.bitLenAux_bounds 64 T (by omega) (by omega)
  have hL : Lib.bitLen T = Lib.bitLenAux 64 T := rfl
  rw [← hL] at a b c
  obtain ⟨L, hLL⟩ : ∃ L, L = Lib.bitLen T := ⟨_, rfl⟩
  rw [← hLL] at a b c ⊢
  have h1 := mv_split (canN x) m (by omega)
  have h2 := mv_drop_succ ht
  rw [List.drop_of_length_le (show (canN x).length ≤ m + 1 by omega), show mv ([] : List Int) = 0 from rfl, Int.mul_zero, Int.add_zero] at h2
  rw [mv_canN, h2] at h1
  have h3 := mv_lt ((canN_lim x).take m)
  rw [List.length_take, Nat.min_eq_left (by omega)] at h3
  have h4 := mv_nonneg ((canN_lim x).take m)
  have e : PB m = ((2 ^ (32 * m) : Nat) : Int) := by rw [Int.natCast_pow]; unfold PB; rw [show (4294967296 : Int) = 2 ^ 32 from rfl, ← Int.pow_mul]; rfl
  rw [e] at h1 h3
  obtain ⟨P, hP⟩ : ∃ P : Nat, P = 2 ^ (32 * m) := ⟨_, rfl⟩
  rw [← hP] at h1 h3
  obtain ⟨lo, hlo⟩ := Int.eq_ofNat_of_zero_le h4
  rw [hlo] at h1 h3
  have hx : x = lo + P * T := by exact_mod_cast h1
  have hlP : lo < P := by exact_mod_cast h3
  have e2 : bitN x = (32 * m + (L - 1)) + 1 := by
    apply bitN_of
    · rw [Nat.pow_add, ← hP, hx]
      have := Nat.mul_le_mul_left P b
      omega
    · rw [show 32 * m + (L - 1) + 1 = 32 * m + L by omega, Nat.pow_add, ← hP, hx]
      have h5 := Nat.mul_le_mul_left P (show T + 1 ≤ 2 ^ L by omega)
      rw [Nat.mul_add] at h5
      omega
  omega
set_option maxHeartbeats 2000000 in
theorem wbits_any (n : Nat) (v : Value) (z : Int) (w : World) (h : IsZ w v n z) (hn : n ≤ 400000) :
    Calls Try.prog 66 #[v] w fun e w' => e = .returned (.int .i64 (bitN z.natAbs)) ∧ Below w.heap.size w w' := by
  have H := Lib.hid h
  have la := isZ_len h
  obtain ⟨p, A, c, l, rfl⟩ := isZ_val h
  have hm := fun w' (h' : Below w.heap.size w w') => wlimbs_any n _ z w' (H.out.below h') (by omega)
  obtain ⟨x, hx⟩ : ∃ x, x = z.natAbs := ⟨_, rfl⟩
  unfold LimOut at hm
  rw [← hx] at hm la ⊢
  by_cases h0 : x = 0
  · have hl0 : canN x = [] := by rw [h0]; exact canN_zero
    have hb : bitN x = 0 := by rw [h0]; rfl
    rw [hb]
    rw [hl0] at hm
    have HM := Lib.hid hm
    clear h hm hx h0 hl0 hb
    go_enter Try.func66, Try.ntmps66; (try simp only [List.append_eq, List.cons_append, List.nil_append])
    go_wp2_with fail
    -- own blocks: w.heap.size:2
    (go_at_call 77; refine (HM.out _ ((Below.refl _ _).alloc (Nat.le_refl _) _)).mono ?_; rintro e w1 ⟨hb_w1, A1, c1, rfl, hc1, hA1⟩; have hz_w1 := hb_w1.size; (try simp at hz_w1); (with_reducible apply cel2 (b := w.heap.size) hb_w1); (focus ((try simp) <;> omega)); (focus omega); (focus (go_simp; try exact rfl)); (focus (go_simp; try exact rfl)); (focus (intro o; go_simp)); intro cc cc fz hl)
    clear hc1 hA1
    simp only [List.length_nil]
    go_wp2_with fail
    go_ret
    exact ⟨rfl, by ((with_reducible (repeat (first | exact bR _ _ | refine bS ?_ ?_ _ | refine bA ?_ ?_ _ | refine bD ?_ | refine bT ?_ (by assumption) ?_ | refine bO (by assumption) ?_ ?_))) <;> (first | omega | (simp; done) | (simp <;> omega)))⟩
  · obtain ⟨m, hml⟩ : ∃ m, (canN x).length = m + 1 := ⟨(canN x).length - 1, by have : (canN x).length ≠ 0 := fun e => h0 (canN_len0.1 e); omega⟩
    obtain ⟨t, ht⟩ : ∃ t, (canN x)[m]? = some t := ⟨(canN x)[m]'(by omega), by simp⟩
    obtain ⟨t0, t1⟩ := (canN_lim x).get ht
    have hb := bitN_limbs hml ht
    obtain ⟨B, hB⟩ : ∃ B, B = Lib.bitLen t.toNat := ⟨_, rfl⟩
    have hbl := fun w => Try.bits_Len32 t w t0 (by omega)
    rw [← hB] at hbl hb
    rw [hb]
    rw [hml] at hm la
    have hB32 : B ≤ 64 := by rw [hB]; exact Lib.bitLen_le _ _ (Nat.le_refl _) (by omega)
    have HM := Lib.hid hm
    have HBL := Lib.hid hbl
    have HT := Lib.hid ht
    clear h hm hx h0 hml hb hB hbl ht
    have e0 : ((((m + 1 : Nat) : Int)) == 0) = false := by rw [beq_eq_false_iff_ne]; omega
    have m0 : (0 : Int) ≤ (m : Int) := by omega
    have m1 : (m : Int) ≤ 400000 := by omega
    go_enter Try.func66, Try.ntmps66; (try simp only [List.append_eq, List.cons_append, List.nil_append])
    go_wp2_with fail
    -- own blocks: w.heap.size:2
    (go_at_call 77; refine (HM.out _ ((Below.refl _ _).alloc (Nat.le_refl _) _)).mono ?_; rintro e w1 ⟨hb_w1, A1, c1, rfl, hc1, hA1⟩; have hz_w1 := hb_w1.size; (try simp at hz_w1); (with_reducible apply cel2 (b := w.heap.size) hb_w1); (focus ((try simp) <;> omega)); (focus omega); (focus (go_simp; try exact rfl)); (focus (go_simp; try exact rfl)); (focus (intro o; go_simp)); intro cc cc fz hl)
    obtain ⟨g, o, rfl, hg, hcell⟩ := hA1 m t HT.out
    clear hc1 hA1
    go_wp2_with fail
    (go_at_call 89; refine (HBL.out _).mono ?_; rintro e w3 ⟨rfl, rfl⟩)
    go_wp2_with fail
    go_ret
    exact ⟨by first | rfl | (congr 2; omega) | (simp; done), by ((with_reducible (repeat (first | exact bR _ _ | refine bS ?_ ?_ _ | refine bA ?_ ?_ _ | refine bD ?_ | refine bT ?_ (by assumption) ?_ | refine bO (by assumption) ?_ ?_))) <;> (first | omega | (simp; done) | (simp <;> omega)))⟩
end Go.Proofs.Ytadkcipjcmkoiaa
