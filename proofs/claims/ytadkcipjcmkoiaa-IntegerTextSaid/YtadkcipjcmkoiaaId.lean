/- The contracts of integer.Gcd, Text, Shift. -/
import Derived.Test.YtadkcipjcmkoiaaIc
namespace Go.Proofs.Ytadkcipjcmkoiaa
open Go Go.RowKit
set_option linter.unusedVariables false
def gcdR (a b : Int) : Int × Int := if lgB a || lgB b then (0, 2) else (((Nat.gcd a.natAbs b.natAbs : Nat) : Int), 0)
theorem eout_nat {G A c} {er : Int} {w w' : World} (hb : Below w.heap.size w w') (hc : (canN G).length ≤ c) (hA : LAt w' A (canN G)) : EOut (G : Int) er w (.returned (.tuple #[.agg #[.bool false, .slice A (canN G).length c], .int .i64 er])) w' := by
  refine ⟨hb, A, c, ?_, by rw [Int.natAbs_natCast]; exact hc, by rw [Int.natAbs_natCast]; exact hA⟩
  rw [Int.natAbs_natCast, dec_nat]
set_option maxHeartbeats 2000000 in
theorem igcd_any (n : Nat) (u v : Value) (a b : Int) (w : World) (ha : IsZ w u n a) (hb : IsZ w v n b) (hn : n ≤ 100000) :
    Calls Try.prog 26 #[u, v] w (EOut (gcdR a b).1 (gcdR a b).2 w) := by
  have HA := Lib.hid ha
  have HB := Lib.hid hb
  obtain ⟨p, A, c, l, rfl⟩ := isZ_val ha
  obtain ⟨p', A', c', l', rfl⟩ := isZ_val hb
  obtain ⟨q, hq⟩ : ∃ q, q = (lgB a || lgB b) := ⟨_, rfl⟩
  have hlo := fun g w' hg h0 h1 h2 h3 (hbb : Below w.heap.size w w') => large_two n g (.bool p) (.slice A l c) (.bool p') (.slice A' l' c') a b w' hg h0 h1 h2 h3 (HA.out.below hbb) (HB.out.below hbb) (by omega)
  rw [← hq] at hlo
  have HLO := Lib.hid hlo
  clear ha hb hlo
  cases hqq : q
  · have e : gcdR a b = (((Nat.gcd a.natAbs b.natAbs : Nat) : Int), 0) := by unfold gcdR; rw [← hq, hqq]; rfl
    have hop := fun w' (hbb : Below w.heap.size w w') => wgcd_any n _ _ a b w' (HA.out.below hbb) (HB.out.below hbb) (by omega)
    obtain ⟨G, hG⟩ : ∃ G, G = Nat.gcd a.natAbs b.natAbs := ⟨_, rfl⟩
    rw [← hG] at hop e
    rw [e]
    have HOP := Lib.hid hop
    subst hqq
    clear hq e hop hG
    go_enter Try.func26, Try.ntmps26; (try simp only [List.append_eq, List.cons_append, List.nil_append])
    go_wp2_with fail
    -- own blocks: w.heap.size:2, w.heap.size + 1:2, w.heap.size + 1 + 1:2
    (go_at_call 51; refine (HLO.out _ _ (by simp) (by go_simp) (by go_simp) (by go_simp) (by go_simp) (by ((with_reducible (repeat (first | exact bR _ _ | refine bS ?_ ?_ _ | refine bA ?_ ?_ _ | refine bD ?_ | refine bT ?_ (by assumption) ?_ | refine bO (by assumption) ?_ ?_))) <;> (first | omega | (simp; done) | (simp <;> omega))))).mono ?_; rintro e w1 ⟨rfl, hb_w1⟩; have hz_w1 := hb_w1.size; (try simp at hz_w1); (with_reducible apply cel2 (b := w.heap.size) hb_w1); (focus ((try simp) <;> omega)); (focus omega); (focus (go_simp; try exact rfl)); (focus (go_simp; try exact rfl)); (focus (intro o; go_simp)); intro cc cc fz hl; (with_reducible apply cel2 (b := w.heap.size + 1) hb_w1); (focus ((try simp) <;> omega)); (focus omega); (focus (go_simp; try exact rfl)); (focus (go_simp; try exact rfl)); (focus (intro o; go_simp)); intro cc cc fz hl; (with_reducible apply cel2 (b := w.heap.size + 1 + 1) hb_w1); (focus ((try simp) <;> omega)); (focus omega); (focus (go_simp; try exact rfl)); (focus (go_simp; try exact rfl)); (focus (intro o; go_simp)); intro cc cc fz hl)
    have HB1 := Lib.hid (show Below w.heap.size w w1 by ((with_reducible (repeat (first | exact bR _ _ | refine bS ?_ ?_ _ | refine bA ?_ ?_ _ | refine bD ?_ | refine bT ?_ (by assumption) ?_ | refine bO (by assumption) ?_ ?_))) <;> (first | omega | (simp; done) | (simp <;> omega))))
    go_wp2_with fail
    (go_at_call 64; refine (HOP.out _ HB1.out).mono ?_; rintro e w2 ⟨hb_w2, A2, c2, rfl, hc2, hA2⟩; have hz_w2 := hb_w2.size; (try simp at hz_w2); (with_reducible apply cel2 (b := w.heap.size) hb_w2); (focus ((try simp) <;> omega)); (focus omega); (focus (go_simp; try exact rfl)); (focus (go_simp; try exact rfl)); (focus (intro o; go_simp)); intro cc cc fz hl; (with_reducible apply cel2 (b := w.heap.size + 1) hb_w2); (focus ((try simp) <;> omega)); (focus omega); (focus (go_simp; try exact rfl)); (focus (go_simp; try exact rfl)); (focus (intro o; go_simp)); intro cc cc fz hl; (with_reducible apply cel2 (b := w.heap.size + 1 + 1) hb_w2); (focus ((try simp) <;> omega)); (focus omega); (focus (go_simp; try exact rfl)); (focus (go_simp; try exact rfl)); (focus (intro o; go_simp)); intro cc cc fz hl)
    have HC2 := Lib.hid hc2
    have HA2 := Lib.hid hA2
    clear hc2 hA2
    go_wp2_with fail
    refine bodyPost_ret (v := .tuple #[.agg #[.bool false, .slice A2 (canN G).length c2], .int .i64 0]) (by simp only [results, Try.results26]; go_simp) rfl (eout_nat (HB1.out.trans ?_) HC2.out (HA2.out.set2 (by assumption) (by assumption) _ _))
    ((with_reducible (repeat (first | exact bR _ _ | refine bS ?_ ?_ _ | refine bA ?_ ?_ _ | refine bD ?_ | refine bT ?_ (by assumption) ?_ | refine bO (by assumption) ?_ ?_))) <;> (first | omega | (simp; done) | (simp <;> omega)))
  · have e : gcdR a b = (0, 2) := by unfold gcdR; rw [← hq, hqq]; rfl
    rw [e]
    subst hqq
    clear hq e
    go_enter Try.func26, Try.ntmps26; (try simp only [List.append_eq, List.cons_append, List.nil_append])
    go_wp2_with fail
    -- own blocks: w.heap.size:2, w.heap.size + 1:2, w.heap.size + 1 + 1:2
    (go_at_call 51; refine (HLO.out _ _ (by simp) (by go_simp) (by go_simp) (by go_simp) (by go_simp) (by ((with_reducible (repeat (first | exact bR _ _ | refine bS ?_ ?_ _ | refine bA ?_ ?_ _ | refine bD ?_ | refine bT ?_ (by assumption) ?_ | refine bO (by assumption) ?_ ?_))) <;> (first | omega | (simp; done) | (simp <;> omega))))).mono ?_; rintro e w1 ⟨rfl, hb_w1⟩; have hz_w1 := hb_w1.size; (try simp at hz_w1); (with_reducible apply cel2 (b := w.heap.size) hb_w1); (focus ((try simp) <;> omega)); (focus omega); (focus (go_simp; try exact rfl)); (focus (go_simp; try exact rfl)); (focus (intro o; go_simp)); intro cc cc fz hl; (with_reducible apply cel2 (b := w.heap.size + 1) hb_w1); (focus ((try simp) <;> omega)); (focus omega); (focus (go_simp; try exact rfl)); (focus (go_simp; try exact rfl)); (focus (intro o; go_simp)); intro cc cc fz hl; (with_reducible apply cel2 (b := w.heap.size + 1 + 1) hb_w1); (focus ((try simp) <;> omega)); (focus omega); (focus (go_simp; try exact rfl)); (focus (go_simp; try exact rfl)); (focus (intro o; go_simp)); intro cc cc fz hl)
    have HB1 := Lib.hid (show Below w.heap.size w w1 by ((with_reducible (repeat (first | exact bR _ _ | refine bS ?_ ?_ _ | refine bA ?_ ?_ _ | refine bD ?_ | refine bT ?_ (by assumption) ?_ | refine bO (by assumption) ?_ ?_))) <;> (first | omega | (simp; done) | (simp <;> omega))))
    go_wp2_with fail
    refine bodyPost_ret (v := .tuple #[.agg #[.bool false, .slice none 0 0], .int .i64 2]) (by simp only [results, Try.results26]; go_simp) rfl (eout_zero ((HB1.out.setCell (by simp <;> omega) _).setCell (by simp <;> omega) _))
def textE (a : Int) : ByteArray × Int := if lgB a then (⟨#[]⟩, 2) else (strOf (textR a), 0)
set_option maxHeartbeats 2000000 in
theorem itext_any (n : Nat) (u : Value) (a : Int) (w : World) (ha : IsZ w u n a) (hn : n ≤ 100000) :
    Calls Try.prog 14 #[u] w fun e w' => e = .returned (.tuple #[.string (textE a).1, .int .i64 (textE a).2]) ∧ Below w.heap.size w w' := by
  have HA := Lib.hid ha
  obtain ⟨p, A, c, l, rfl⟩ := isZ_val ha
  obtain ⟨q, hq⟩ : ∃ q, q = lgB a := ⟨_, rfl⟩
  have hlo := fun g w' hg h0 h1 (hbb : Below w.heap.size w w') => large_one n g (.bool p) (.slice A l c) a w' hg h0 h1 (HA.out.below hbb) (by omega)
  rw [← hq] at hlo
  have HLO := Lib.hid hlo
  clear ha hlo
  cases hqq : q
  · have e : textE a = (strOf (textR a), 0) := by unfold textE; rw [← hq, hqq]; rfl
    have hop := fun w' (hbb : Below w.heap.size w w') => wtext_any n _ a w' (HA.out.below hbb) (by omega)
    obtain ⟨S, hS⟩ : ∃ S, S = strOf (textR a) := ⟨_, rfl⟩
    rw [← hS] at hop e
    rw [e]
    have HOP := Lib.hid hop
    subst hqq
    clear hq e hop hS
    go_enter Try.func14, Try.ntmps14; (try simp only [List.append_eq, List.cons_append, List.nil_append])
    go_wp2_with fail
    -- own blocks: w.heap.size:2
    (go_at_call 51; refine (HLO.out _ _ (by simp) (by go_simp) (by go_simp) (by ((with_reducible (repeat (first | exact bR _ _ | refine bS ?_ ?_ _ | refine bA ?_ ?_ _ | refine bD ?_ | refine bT ?_ (by assumption) ?_ | refine bO (by assumption) ?_ ?_))) <;> (first | omega | (simp; done) | (simp <;> omega))))).mono ?_; rintro e w1 ⟨rfl, hb_w1⟩; have hz_w1 := hb_w1.size; (try simp at hz_w1); (with_reducible apply cel2 (b := w.heap.size) hb_w1); (focus ((try simp) <;> omega)); (focus omega); (focus (go_simp; try exact rfl)); (focus (go_simp; try exact rfl)); (focus (intro o; go_simp)); intro cc cc fz hl)
    have HB1 := Lib.hid (show Below w.heap.size w w1 by ((with_reducible (repeat (first | exact bR _ _ | refine bS ?_ ?_ _ | refine bA ?_ ?_ _ | refine bD ?_ | refine bT ?_ (by assumption) ?_ | refine bO (by assumption) ?_ ?_))) <;> (first | omega | (simp; done) | (simp <;> omega))))
    go_wp2_with fail
    (go_at_call 52; refine (HOP.out _ HB1.out).mono ?_; rintro e w2 ⟨rfl, hb_w2⟩; have hz_w2 := hb_w2.size; (try simp at hz_w2); (with_reducible apply cel2 (b := w.heap.size) hb_w2); (focus ((try simp) <;> omega)); (focus omega); (focus (go_simp; try exact rfl)); (focus (go_simp; try exact rfl)); (focus (intro o; go_simp)); intro cc cc fz hl)
    go_wp2_with fail
    go_ret2
    exact ⟨rfl, HB1.out.trans (by ((with_reducible (repeat (first | exact bR _ _ | refine bS ?_ ?_ _ | refine bA ?_ ?_ _ | refine bD ?_ | refine bT ?_ (by assumption) ?_ | refine bO (by assumption) ?_ ?_))) <;> (first | omega | (simp; done) | (simp <;> omega))))⟩
  · have e : textE a = (⟨#[]⟩, 2) := by unfold textE; rw [← hq, hqq]; rfl
    rw [e]
    subst hqq
    clear hq e
    go_enter Try.func14, Try.ntmps14; (try simp only [List.append_eq, List.cons_append, List.nil_append])
    go_wp2_with fail
    -- own blocks: w.heap.size:2
    (go_at_call 51; refine (HLO.out _ _ (by simp) (by go_simp) (by go_simp) (by ((with_reducible (repeat (first | exact bR _ _ | refine bS ?_ ?_ _ | refine bA ?_ ?_ _ | refine bD ?_ | refine bT ?_ (by assumption) ?_ | refine bO (by assumption) ?_ ?_))) <;> (first | omega | (simp; done) | (simp <;> omega))))).mono ?_; rintro e w1 ⟨rfl, hb_w1⟩; have hz_w1 := hb_w1.size; (try simp at hz_w1); (with_reducible apply cel2 (b := w.heap.size) hb_w1); (focus ((try simp) <;> omega)); (focus omega); (focus (go_simp; try exact rfl)); (focus (go_simp; try exact rfl)); (focus (intro o; go_simp)); intro cc cc fz hl)
    have HB1 := Lib.hid (show Below w.heap.size w w1 by ((with_reducible (repeat (first | exact bR _ _ | refine bS ?_ ?_ _ | refine bA ?_ ?_ _ | refine bD ?_ | refine bT ?_ (by assumption) ?_ | refine bO (by assumption) ?_ ?_))) <;> (first | omega | (simp; done) | (simp <;> omega))))
    go_wp2_with fail
    go_ret2
    exact ⟨rfl, HB1.out⟩
/-- The results of Shift. -/
def shiftR (a n : Int) : Int × Int := if lgB a then (0, 2) else if a = 0 then (0, 0) else if 8192 < n then (0, 2) else if n < 0 then (a / 2 ^ (min (-n) 8192).toNat, 0) else sizedR (a * 2 ^ n.toNat)
theorem pb_pow (wd k : Nat) : PB wd * 2 ^ k = 2 ^ (32 * wd + k) := by
  rw [PB_pow, ← Int.pow_add]
theorem wshl_at (n0 : Nat) (u : Value) (z n : Int) (w : World) (hu : IsZ w u n0 z) (hn0 : n0 ≤ 400000) (h0 : 0 ≤ n) (h1 : n ≤ 8192) :
    Calls Try.prog 58 #[u, .int .i64 n] w (ZOut (z * 2 ^ n.toNat) w) := by
  have h := wshl_any n0 u z (n.toNat / 32) (n.toNat % 32) w hu hn0 (by omega) (by omega)
  rw [pb_pow, show 32 * (n.toNat / 32) + n.toNat % 32 = n.toNat by omega, show (32 * ((n.toNat / 32 : Nat) : Int) + ((n.toNat % 32 : Nat) : Int)) = n by omega] at h
  exact h
theorem wshr_at (n0 : Nat) (u : Value) (z n : Int) (w : World) (hu : IsZ w u n0 z) (hn0 : n0 ≤ 400000) (h0 : 0 ≤ n) (h1 : n ≤ 8192) :
    Calls Try.prog 57 #[u, .int .i64 n] w (ZOut (z / 2 ^ n.toNat) w) := by
  have h := wshr_any n0 u z (n.toNat / 32) (n.toNat % 32) w hu hn0 (by omega) (by omega)
  rw [pb_pow, show 32 * (n.toNat / 32) + n.toNat % 32 = n.toNat by omega, show (32 * ((n.toNat / 32 : Nat) : Int) + ((n.toNat % 32 : Nat) : Int)) = n by omega] at h
  exact h
theorem pow2_lt {k K : Nat} (h : k < K) : (2 : Int) ^ k < 2 ^ K := by
  have h1 : (2 : Nat) ^ k < 2 ^ K := Nat.pow_lt_pow_right (by decide) h
  have h2 := Int.ofNat_lt.2 h1
  rwa [Int.natCast_pow, Int.natCast_pow] at h2
theorem len_shl {a : Int} {n k : Nat} (ha : (canN a.natAbs).length ≤ n) (hk : k ≤ 8192) : (canN (a * 2 ^ k).natAbs).length ≤ n + 257 := by
  refine len_mul ha ?_
  refine canN_len.2 ?_
  have e : ((2 ^ k : Int).natAbs : Int) = 2 ^ k := by
    have : (0 : Int) < 2 ^ k := Int.pow_pos (by decide)
    omega
  rw [e, PB_pow]
  exact pow2_lt (by omega)
set_option maxRecDepth 100000 in
set_option maxHeartbeats 4000000 in
theorem ishift_any (n0 : Nat) (u : Value) (a n : Int) (w : World) (ha : IsZ w u n0 a) (hn0 : n0 ≤ 100000) (h1 : -9223372036854775808 ≤ n) (h2 : n ≤ 9223372036854775807) :
    Calls Try.prog 18 #[u, .int .i64 n] w (EOut (shiftR a n).1 (shiftR a n).2 w) := by
  have HA := Lib.hid ha
  have hla := isZ_len ha
  obtain ⟨p, A, c, l, rfl⟩ := isZ_val ha
  obtain ⟨q, hq⟩ : ∃ q, q = lgB a := ⟨_, rfl⟩
  have hlo := fun g w' hg h0 h1 (hbb : Below w.heap.size w w') => large_one n0 g (.bool p) (.slice A l c) a w' hg h0 h1 (HA.out.below hbb) (by omega)
  rw [← hq] at hlo
  have HLO := Lib.hid hlo
  have hsg := fun w' (hbb : Below w.heap.size w w') => wsign_any n0 _ a w' (HA.out.below hbb) (by omega)
  have hs0 := @sgn0 a
  obtain ⟨s, hs⟩ : ∃ s, s = sgn a := ⟨_, rfl⟩
  rw [← hs] at hsg hs0
  have HSG := Lib.hid hsg
  clear ha hlo hsg hs
  cases hqq : q
  · by_cases ha0 : a = 0
    · have e : shiftR a n = (0, 0) := by unfold shiftR; rw [← hq, hqq, if_pos ha0]; rfl
      rw [decide_eq_true ha0] at hs0
      rw [e]
      subst hqq
      clear hq e ha0
      go_enter Try.func18, Try.ntmps18; (try simp only [List.append_eq, List.cons_append, List.nil_append])
      go_wp2_with fail
      -- own blocks: w.heap.size:2, w.heap.size + 1:2
      (go_at_call 51; refine (HLO.out _ _ (by simp) (by go_simp) (by go_simp) (by ((with_reducible (repeat (first | exact bR _ _ | refine bS ?_ ?_ _ | refine bA ?_ ?_ _ | refine bD ?_ | refine bT ?_ (by assumption) ?_ | refine bO (by assumption) ?_ ?_))) <;> (first | omega | (simp; done) | (simp <;> omega))))).mono ?_; rintro e w1 ⟨rfl, hb_w1⟩; have hz_w1 := hb_w1.size; (try simp at hz_w1); (with_reducible apply cel2 (b := w.heap.size) hb_w1); (focus ((try simp) <;> omega)); (focus omega); (focus (go_simp; try exact rfl)); (focus (go_simp; try exact rfl)); (focus (intro o; go_simp)); intro cc cc fz hl; (with_reducible apply cel2 (b := w.heap.size + 1) hb_w1); (focus ((try simp) <;> omega)); (focus omega); (focus (go_simp; try exact rfl)); (focus (go_simp; try exact rfl)); (focus (intro o; go_simp)); intro cc cc fz hl)
      have HB1 := Lib.hid (show Below w.heap.size w w1 by ((with_reducible (repeat (first | exact bR _ _ | refine bS ?_ ?_ _ | refine bA ?_ ?_ _ | refine bD ?_ | refine bT ?_ (by assumption) ?_ | refine bO (by assumption) ?_ ?_))) <;> (first | omega | (simp; done) | (simp <;> omega))))
      have hz1 : w.heap.size + 1 + 1 ≤ w1.heap.size := by omega
      clear hb_w1 hz_w1
      go_wp2_with fail
      (go_at_call 56; refine (HSG.out _ HB1.out).mono ?_; rintro e w2 ⟨rfl, hb_w2⟩; have hz_w2 := hb_w2.size; (try simp at hz_w2); (with_reducible apply cel2 (b := w.heap.size) hb_w2); (focus ((try simp) <;> omega)); (focus omega); (focus (go_simp; try exact rfl)); (focus (go_simp; try exact rfl)); (focus (intro o; go_simp)); intro cc cc fz hl; (with_reducible apply cel2 (b := w.heap.size + 1) hb_w2); (focus ((try simp) <;> omega)); (focus omega); (focus (go_simp; try exact rfl)); (focus (go_simp; try exact rfl)); (focus (intro o; go_simp)); intro cc cc fz hl)
      have HB2 := Lib.hid (HB1.out.trans (hb_w2.mono (by omega)))
      have hz2 : w.heap.size + 1 + 1 ≤ w2.heap.size := by omega
      clear hb_w2 hz_w2
      go_wp2_with fail
      refine bodyPost_ret (v := .tuple #[.agg #[.bool false, .slice none 0 0], .int .i64 0]) (by simp only [results, Try.results18]; go_simp) rfl (eout_zero ((HB2.out.setCell (by simp <;> omega) _).setCell (by simp <;> omega) _))
    · rw [decide_eq_false ha0] at hs0
      by_cases hbig : 8192 < n
      · have e : shiftR a n = (0, 2) := by unfold shiftR; rw [← hq, hqq, if_neg ha0, if_pos hbig]; rfl
        rw [e]
        subst hqq
        have hnn : ¬ n < -8192 := by omega
        clear hq e ha0
        go_enter Try.func18, Try.ntmps18; (try simp only [List.append_eq, List.cons_append, List.nil_append])
        go_wp2_with fail
        -- own blocks: w.heap.size:2, w.heap.size + 1:2
        (go_at_call 51; refine (HLO.out _ _ (by simp) (by go_simp) (by go_simp) (by ((with_reducible (repeat (first | exact bR _ _ | refine bS ?_ ?_ _ | refine bA ?_ ?_ _ | refine bD ?_ | refine bT ?_ (by assumption) ?_ | refine bO (by assumption) ?_ ?_))) <;> (first | omega | (simp; done) | (simp <;> omega))))).mono ?_; rintro e w1 ⟨rfl, hb_w1⟩; have hz_w1 := hb_w1.size; (try simp at hz_w1); (with_reducible apply cel2 (b := w.heap.size) hb_w1); (focus ((try simp) <;> omega)); (focus omega); (focus (go_simp; try exact rfl)); (focus (go_simp; try exact rfl)); (focus (intro o; go_simp)); intro cc cc fz hl; (with_reducible apply cel2 (b := w.heap.size + 1) hb_w1); (focus ((try simp) <;> omega)); (focus omega); (focus (go_simp; try exact rfl)); (focus (go_simp; try exact rfl)); (focus (intro o; go_simp)); intro cc cc fz hl)
        have HB1 := Lib.hid (show Below w.heap.size w w1 by ((with_reducible (repeat (first | exact bR _ _ | refine bS ?_ ?_ _ | refine bA ?_ ?_ _ | refine bD ?_ | refine bT ?_ (by assumption) ?_ | refine bO (by assumption) ?_ ?_))) <;> (first | omega | (simp; done) | (simp <;> omega))))
        have hz1 : w.heap.size + 1 + 1 ≤ w1.heap.size := by omega
        clear hb_w1 hz_w1
        go_wp2_with fail
        (go_at_call 56; refine (HSG.out _ HB1.out).mono ?_; rintro e w2 ⟨rfl, hb_w2⟩; have hz_w2 := hb_w2.size; (try simp at hz_w2); (with_reducible apply cel2 (b := w.heap.size) hb_w2); (focus ((try simp) <;> omega)); (focus omega); (focus (go_simp; try exact rfl)); (focus (go_simp; try exact rfl)); (focus (intro o; go_simp)); intro cc cc fz hl; (with_reducible apply cel2 (b := w.heap.size + 1) hb_w2); (focus ((try simp) <;> omega)); (focus omega); (focus (go_simp; try exact rfl)); (focus (go_simp; try exact rfl)); (focus (intro o; go_simp)); intro cc cc fz hl)
        have HB2 := Lib.hid (HB1.out.trans (hb_w2.mono (by omega)))
        have hz2 : w.heap.size + 1 + 1 ≤ w2.heap.size := by omega
        clear hb_w2 hz_w2
        go_wp2_with fail
        refine bodyPost_ret (v := .tuple #[.agg #[.bool false, .slice none 0 0], .int .i64 2]) (by simp only [results, Try.results18]; go_simp) rfl (eout_zero ((HB2.out.setCell (by simp <;> omega) _).setCell (by simp <;> omega) _))
      · by_cases hneg : n < 0
        · by_cases hlow : n < -8192
          · have e : shiftR a n = (a / 2 ^ (8192 : Int).toNat, 0) := by
              unfold shiftR; rw [← hq, hqq, if_neg ha0, if_neg hbig, if_pos hneg, Int.min_eq_right (by omega)]; rfl
            have hop := fun w' (hbb : Below w.heap.size w w') => wshr_at n0 _ a 8192 w' (HA.out.below hbb) (by omega) (by omega) (by omega)
            obtain ⟨Z, hZ⟩ : ∃ Z, Z = a / 2 ^ (8192 : Int).toNat := ⟨_, rfl⟩
            rw [← hZ] at hop e
            rw [e]
            subst hqq
            have HOP := Lib.hid hop
            clear hq e ha0 hop hZ
            go_enter Try.func18, Try.ntmps18; (try simp only [List.append_eq, List.cons_append, List.nil_append])
            go_wp2_with fail
            -- own blocks: w.heap.size:2, w.heap.size + 1:2
            (go_at_call 51; refine (HLO.out _ _ (by simp) (by go_simp) (by go_simp) (by ((with_reducible (repeat (first | exact bR _ _ | refine bS ?_ ?_ _ | refine bA ?_ ?_ _ | refine bD ?_ | refine bT ?_ (by assumption) ?_ | refine bO (by assumption) ?_ ?_))) <;> (first | omega | (simp; done) | (simp <;> omega))))).mono ?_; rintro e w1 ⟨rfl, hb_w1⟩; have hz_w1 := hb_w1.size; (try simp at hz_w1); (with_reducible apply cel2 (b := w.heap.size) hb_w1); (focus ((try simp) <;> omega)); (focus omega); (focus (go_simp; try exact rfl)); (focus (go_simp; try exact rfl)); (focus (intro o; go_simp)); intro cc cc fz hl; (with_reducible apply cel2 (b := w.heap.size + 1) hb_w1); (focus ((try simp) <;> omega)); (focus omega); (focus (go_simp; try exact rfl)); (focus (go_simp; try exact rfl)); (focus (intro o; go_simp)); intro cc cc fz hl)
            have HB1 := Lib.hid (show Below w.heap.size w w1 by ((with_reducible (repeat (first | exact bR _ _ | refine bS ?_ ?_ _ | refine bA ?_ ?_ _ | refine bD ?_ | refine bT ?_ (by assumption) ?_ | refine bO (by assumption) ?_ ?_))) <;> (first | omega | (simp; done) | (simp <;> omega))))
            have hz1 : w.heap.size + 1 + 1 ≤ w1.heap.size := by omega
            clear hb_w1 hz_w1
            go_wp2_with fail
            (go_at_call 56; refine (HSG.out _ HB1.out).mono ?_; rintro e w2 ⟨rfl, hb_w2⟩; have hz_w2 := hb_w2.size; (try simp at hz_w2); (with_reducible apply cel2 (b := w.heap.size) hb_w2); (focus ((try simp) <;> omega)); (focus omega); (focus (go_simp; try exact rfl)); (focus (go_simp; try exact rfl)); (focus (intro o; go_simp)); intro cc cc fz hl; (with_reducible apply cel2 (b := w.heap.size + 1) hb_w2); (focus ((try simp) <;> omega)); (focus omega); (focus (go_simp; try exact rfl)); (focus (go_simp; try exact rfl)); (focus (intro o; go_simp)); intro cc cc fz hl)
            have HB2 := Lib.hid (HB1.out.trans (hb_w2.mono (by omega)))
            have hz2 : w.heap.size + 1 + 1 ≤ w2.heap.size := by omega
            clear hb_w2 hz_w2
            go_wp2_with fail
            (go_at_call 57; refine (HOP.out _ HB2.out).mono ?_; rintro e w3 ⟨hb_w3, v3, rfl, A3, c3, rfl, hc3, hA3⟩; have hz_w3 := hb_w3.size; (try simp at hz_w3); (with_reducible apply cel2 (b := w.heap.size) hb_w3); (focus ((try simp) <;> omega)); (focus omega); (focus (go_simp; try exact rfl)); (focus (go_simp; try exact rfl)); (focus (intro o; go_simp)); intro cc cc fz hl; (with_reducible apply cel2 (b := w.heap.size + 1) hb_w3); (focus ((try simp) <;> omega)); (focus omega); (focus (go_simp; try exact rfl)); (focus (go_simp; try exact rfl)); (focus (intro o; go_simp)); intro cc cc fz hl)
            have HC3 := Lib.hid hc3
            have HA3 := Lib.hid hA3
            clear hc3 hA3
            go_wp2_with fail
            refine bodyPost_ret (v := .tuple #[.agg #[.bool (decide (Z < 0)), .slice A3 (canN Z.natAbs).length c3], .int .i64 0]) (by simp only [results, Try.results18]; go_simp) rfl ⟨?_, ?_⟩
            · exact HB2.out.trans (by ((with_reducible (repeat (first | exact bR _ _ | refine bS ?_ ?_ _ | refine bA ?_ ?_ _ | refine bD ?_ | refine bT ?_ (by assumption) ?_ | refine bO (by assumption) ?_ ?_))) <;> (first | omega | (simp; done) | (simp <;> omega))))
            · exact ⟨A3, c3, rfl, HC3.out, HA3.out.set2 (by assumption) (by assumption) _ _⟩
          · have e : shiftR a n = (a / 2 ^ (-n).toNat, 0) := by
              unfold shiftR; rw [← hq, hqq, if_neg ha0, if_neg hbig, if_pos hneg, Int.min_eq_left (by omega)]; rfl
            have hop := fun w' (hbb : Below w.heap.size w w') => wshr_at n0 _ a (-n) w' (HA.out.below hbb) (by omega) (by omega) (by omega)
            obtain ⟨Z, hZ⟩ : ∃ Z, Z = a / 2 ^ (-n).toNat := ⟨_, rfl⟩
            rw [← hZ] at hop e
            rw [e]
            subst hqq
            have HOP := Lib.hid hop
            clear hq e ha0 hop hZ
            go_enter Try.func18, Try.ntmps18; (try simp only [List.append_eq, List.cons_append, List.nil_append])
            go_wp2_with fail
            -- own blocks: w.heap.size:2, w.heap.size + 1:2
            (go_at_call 51; refine (HLO.out _ _ (by simp) (by go_simp) (by go_simp) (by ((with_reducible (repeat (first | exact bR _ _ | refine bS ?_ ?_ _ | refine bA ?_ ?_ _ | refine bD ?_ | refine bT ?_ (by assumption) ?_ | refine bO (by assumption) ?_ ?_))) <;> (first | omega | (simp; done) | (simp <;> omega))))).mono ?_; rintro e w1 ⟨rfl, hb_w1⟩; have hz_w1 := hb_w1.size; (try simp at hz_w1); (with_reducible apply cel2 (b := w.heap.size) hb_w1); (focus ((try simp) <;> omega)); (focus omega); (focus (go_simp; try exact rfl)); (focus (go_simp; try exact rfl)); (focus (intro o; go_simp)); intro cc cc fz hl; (with_reducible apply cel2 (b := w.heap.size + 1) hb_w1); (focus ((try simp) <;> omega)); (focus omega); (focus (go_simp; try exact rfl)); (focus (go_simp; try exact rfl)); (focus (intro o; go_simp)); intro cc cc fz hl)
            have HB1 := Lib.hid (show Below w.heap.size w w1 by ((with_reducible (repeat (first | exact bR _ _ | refine bS ?_ ?_ _ | refine bA ?_ ?_ _ | refine bD ?_ | refine bT ?_ (by assumption) ?_ | refine bO (by assumption) ?_ ?_))) <;> (first | omega | (simp; done) | (simp <;> omega))))
            have hz1 : w.heap.size + 1 + 1 ≤ w1.heap.size := by omega
            clear hb_w1 hz_w1
            go_wp2_with fail
            (go_at_call 56; refine (HSG.out _ HB1.out).mono ?_; rintro e w2 ⟨rfl, hb_w2⟩; have hz_w2 := hb_w2.size; (try simp at hz_w2); (with_reducible apply cel2 (b := w.heap.size) hb_w2); (focus ((try simp) <;> omega)); (focus omega); (focus (go_simp; try exact rfl)); (focus (go_simp; try exact rfl)); (focus (intro o; go_simp)); intro cc cc fz hl; (with_reducible apply cel2 (b := w.heap.size + 1) hb_w2); (focus ((try simp) <;> omega)); (focus omega); (focus (go_simp; try exact rfl)); (focus (go_simp; try exact rfl)); (focus (intro o; go_simp)); intro cc cc fz hl)
            have HB2 := Lib.hid (HB1.out.trans (hb_w2.mono (by omega)))
            have hz2 : w.heap.size + 1 + 1 ≤ w2.heap.size := by omega
            clear hb_w2 hz_w2
            go_wp2_with fail
            (go_at_call 57; refine (HOP.out _ HB2.out).mono ?_; rintro e w3 ⟨hb_w3, v3, rfl, A3, c3, rfl, hc3, hA3⟩; have hz_w3 := hb_w3.size; (try simp at hz_w3); (with_reducible apply cel2 (b := w.heap.size) hb_w3); (focus ((try simp) <;> omega)); (focus omega); (focus (go_simp; try exact rfl)); (focus (go_simp; try exact rfl)); (focus (intro o; go_simp)); intro cc cc fz hl; (with_reducible apply cel2 (b := w.heap.size + 1) hb_w3); (focus ((try simp) <;> omega)); (focus omega); (focus (go_simp; try exact rfl)); (focus (go_simp; try exact rfl)); (focus (intro o; go_simp)); intro cc cc fz hl)
            have HC3 := Lib.hid hc3
            have HA3 := Lib.hid hA3
            clear hc3 hA3
            go_wp2_with fail
            refine bodyPost_ret (v := .tuple #[.agg #[.bool (decide (Z < 0)), .slice A3 (canN Z.natAbs).length c3], .int .i64 0]) (by simp only [results, Try.results18]; go_simp) rfl ⟨?_, ?_⟩
            · exact HB2.out.trans (by ((with_reducible (repeat (first | exact bR _ _ | refine bS ?_ ?_ _ | refine bA ?_ ?_ _ | refine bD ?_ | refine bT ?_ (by assumption) ?_ | refine bO (by assumption) ?_ ?_))) <;> (first | omega | (simp; done) | (simp <;> omega))))
            · exact ⟨A3, c3, rfl, HC3.out, HA3.out.set2 (by assumption) (by assumption) _ _⟩
        · have e : shiftR a n = sizedR (a * 2 ^ n.toNat) := by
            unfold shiftR; rw [← hq, hqq, if_neg ha0, if_neg hbig, if_neg hneg]; rfl
          have hop := fun w' (hbb : Below w.heap.size w w') => wshl_at n0 _ a n w' (HA.out.below hbb) (by omega) (by omega) (by omega)
          have hlen := len_shl (k := n.toNat) hla (by omega)
          obtain ⟨Z, hZ⟩ : ∃ Z, Z = a * 2 ^ n.toNat := ⟨_, rfl⟩
          rw [← hZ] at hop e hlen
          have hsz := fun v w' h => sized_any (n0 + 257) v Z w' h hlen (by omega)
          rw [e]
          obtain ⟨r1, r2, hr⟩ : ∃ r1 r2, sizedR Z = (r1, r2) := ⟨_, _, rfl⟩
          rw [hr] at hsz ⊢
          subst hqq
          have HOP := Lib.hid hop
          have HSZ := Lib.hid hsz
          have hnn : ¬ n < -8192 := by omega
          clear hq e ha0 hop hZ hsz hr hlen
          go_enter Try.func18, Try.ntmps18; (try simp only [List.append_eq, List.cons_append, List.nil_append])
          go_wp2_with fail
          -- own blocks: w.heap.size:2, w.heap.size + 1:2
          (go_at_call 51; refine (HLO.out _ _ (by simp) (by go_simp) (by go_simp) (by ((with_reducible (repeat (first | exact bR _ _ | refine bS ?_ ?_ _ | refine bA ?_ ?_ _ | refine bD ?_ | refine bT ?_ (by assumption) ?_ | refine bO (by assumption) ?_ ?_))) <;> (first | omega | (simp; done) | (simp <;> omega))))).mono ?_; rintro e w1 ⟨rfl, hb_w1⟩; have hz_w1 := hb_w1.size; (try simp at hz_w1); (with_reducible apply cel2 (b := w.heap.size) hb_w1); (focus ((try simp) <;> omega)); (focus omega); (focus (go_simp; try exact rfl)); (focus (go_simp; try exact rfl)); (focus (intro o; go_simp)); intro cc cc fz hl; (with_reducible apply cel2 (b := w.heap.size + 1) hb_w1); (focus ((try simp) <;> omega)); (focus omega); (focus (go_simp; try exact rfl)); (focus (go_simp; try exact rfl)); (focus (intro o; go_simp)); intro cc cc fz hl)
          have HB1 := Lib.hid (show Below w.heap.size w w1 by ((with_reducible (repeat (first | exact bR _ _ | refine bS ?_ ?_ _ | refine bA ?_ ?_ _ | refine bD ?_ | refine bT ?_ (by assumption) ?_ | refine bO (by assumption) ?_ ?_))) <;> (first | omega | (simp; done) | (simp <;> omega))))
          have hz1 : w.heap.size + 1 + 1 ≤ w1.heap.size := by omega
          clear hb_w1 hz_w1
          go_wp2_with fail
          (go_at_call 56; refine (HSG.out _ HB1.out).mono ?_; rintro e w2 ⟨rfl, hb_w2⟩; have hz_w2 := hb_w2.size; (try simp at hz_w2); (with_reducible apply cel2 (b := w.heap.size) hb_w2); (focus ((try simp) <;> omega)); (focus omega); (focus (go_simp; try exact rfl)); (focus (go_simp; try exact rfl)); (focus (intro o; go_simp)); intro cc cc fz hl; (with_reducible apply cel2 (b := w.heap.size + 1) hb_w2); (focus ((try simp) <;> omega)); (focus omega); (focus (go_simp; try exact rfl)); (focus (go_simp; try exact rfl)); (focus (intro o; go_simp)); intro cc cc fz hl)
          have HB2 := Lib.hid (HB1.out.trans (hb_w2.mono (by omega)))
          have hz2 : w.heap.size + 1 + 1 ≤ w2.heap.size := by omega
          clear hb_w2 hz_w2
          go_wp2_with fail
          (go_at_call 58; refine (HOP.out _ HB2.out).mono ?_; rintro e w3 ⟨hb_w3, v3, rfl, hv3⟩; have hz_w3 := hb_w3.size; (try simp at hz_w3); (with_reducible apply cel2 (b := w.heap.size) hb_w3); (focus ((try simp) <;> omega)); (focus omega); (focus (go_simp; try exact rfl)); (focus (go_simp; try exact rfl)); (focus (intro o; go_simp)); intro cc cc fz hl; (with_reducible apply cel2 (b := w.heap.size + 1) hb_w3); (focus ((try simp) <;> omega)); (focus omega); (focus (go_simp; try exact rfl)); (focus (go_simp; try exact rfl)); (focus (intro o; go_simp)); intro cc cc fz hl)
          have HV3 := Lib.hid hv3
          obtain ⟨A3, c3, rfl, _, _⟩ := hv3
          go_wp2_with fail
          (go_at_call 48; refine (HSZ.out _ _ HV3.out).mono ?_; rintro e w4 ⟨hb_w4, A4, c4, rfl, hc4, hA4⟩; have hz_w4 := hb_w4.size; (try simp at hz_w4); (with_reducible apply cel2 (b := w.heap.size) hb_w4); (focus ((try simp) <;> omega)); (focus omega); (focus (go_simp; try exact rfl)); (focus (go_simp; try exact rfl)); (focus (intro o; go_simp)); intro cc cc fz hl; (with_reducible apply cel2 (b := w.heap.size + 1) hb_w4); (focus ((try simp) <;> omega)); (focus omega); (focus (go_simp; try exact rfl)); (focus (go_simp; try exact rfl)); (focus (intro o; go_simp)); intro cc cc fz hl)
          have HC4 := Lib.hid hc4
          have HA4 := Lib.hid hA4
          clear hc4 hA4
          go_wp2_with fail
          refine bodyPost_ret (v := .tuple #[.agg #[.bool (decide (r1 < 0)), .slice A4 (canN r1.natAbs).length c4], .int .i64 r2]) (by simp only [results, Try.results18]; go_simp) rfl ⟨?_, ?_⟩
          · exact HB2.out.trans (by ((with_reducible (repeat (first | exact bR _ _ | refine bS ?_ ?_ _ | refine bA ?_ ?_ _ | refine bD ?_ | refine bT ?_ (by assumption) ?_ | refine bO (by assumption) ?_ ?_))) <;> (first | omega | (simp; done) | (simp <;> omega))))
          · exact ⟨A4, c4, rfl, HC4.out, HA4.out.set2 (by assumption) (by assumption) _ _⟩
  · have e : shiftR a n = (0, 2) := by unfold shiftR; rw [← hq, hqq]; rfl
    rw [e]
    subst hqq
    clear hq e hs0
    go_enter Try.func18, Try.ntmps18; (try simp only [List.append_eq, List.cons_append, List.nil_append])
    go_wp2_with fail
    -- own blocks: w.heap.size:2, w.heap.size + 1:2
    (go_at_call 51; refine (HLO.out _ _ (by simp) (by go_simp) (by go_simp) (by ((with_reducible (repeat (first | exact bR _ _ | refine bS ?_ ?_ _ | refine bA ?_ ?_ _ | refine bD ?_ | refine bT ?_ (by assumption) ?_ | refine bO (by assumption) ?_ ?_))) <;> (first | omega | (simp; done) | (simp <;> omega))))).mono ?_; rintro e w1 ⟨rfl, hb_w1⟩; have hz_w1 := hb_w1.size; (try simp at hz_w1); (with_reducible apply cel2 (b := w.heap.size) hb_w1); (focus ((try simp) <;> omega)); (focus omega); (focus (go_simp; try exact rfl)); (focus (go_simp; try exact rfl)); (focus (intro o; go_simp)); intro cc cc fz hl; (with_reducible apply cel2 (b := w.heap.size + 1) hb_w1); (focus ((try simp) <;> omega)); (focus omega); (focus (go_simp; try exact rfl)); (focus (go_simp; try exact rfl)); (focus (intro o; go_simp)); intro cc cc fz hl)
    have HB1 := Lib.hid (show Below w.heap.size w w1 by ((with_reducible (repeat (first | exact bR _ _ | refine bS ?_ ?_ _ | refine bA ?_ ?_ _ | refine bD ?_ | refine bT ?_ (by assumption) ?_ | refine bO (by assumption) ?_ ?_))) <;> (first | omega | (simp; done) | (simp <;> omega))))
    go_wp2_with fail
    refine bodyPost_ret (v := .tuple #[.agg #[.bool false, .slice none 0 0], .int .i64 2]) (by simp only [results, Try.results18]; go_simp) rfl (eout_zero ((HB1.out.setCell (by simp <;> omega) _).setCell (by simp <;> omega) _))
end Go.Proofs.Ytadkcipjcmkoiaa
