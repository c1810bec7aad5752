/- The contracts of vector.Turn and vector.Root. -/
import Derived.Test.YtklkhnhieihfoaaVecB
namespace Go.Proofs.Ytklkhnhieihfoaa
open Go.RowKit
set_option linter.unusedVariables false
def crossR (a b c d : Int) : Int := if smallB a b = true ∧ smallB c d = true then a * d - b * c else 0
theorem cross_any (a b c d : Int) (w : World) :
    Calls Try.prog 109 #[.agg #[.int .i64 a, .int .i64 b], .agg #[.int .i64 c, .int .i64 d]] w fun e w' => e = .returned (.int .i64 (crossR a b c d)) ∧ Below w.heap.size w w' := by
  unfold crossR
  by_cases h : smallB a b = true ∧ smallB c d = true
  · rw [if_pos h]; exact cross_in a b c d w h.1 h.2
  · rw [if_neg h]; exact cross_bad a b c d w (by cases h1 : smallB a b <;> cases h2 : smallB c d <;> simp_all)
def turnR (v1 v2 n1 n2 : Int) : Int × Int × Bool :=
  if 0 < crossR n1 n2 v1 v2 then ((255 * v1 + 32 * v2).tdiv 257, (255 * v2 - 32 * v1).tdiv 257, true)
  else if crossR n1 n2 v1 v2 < 0 then ((255 * v1 - 32 * v2).tdiv 257, (32 * v1 + 255 * v2).tdiv 257, true)
  else (0, 0, false)
theorem cross_ne {a b c d : Int} (h : crossR a b c d ≠ 0) : smallB a b = true ∧ smallB c d = true := by
  unfold crossR at h
  by_cases h1 : smallB a b = true ∧ smallB c d = true
  · exact h1
  · rw [if_neg h1] at h; exact absurd rfl h
set_option maxRecDepth 100000 in
set_option maxHeartbeats 1000000 in
theorem turn_any (v1 v2 n1 n2 : Int) (w : World) :
    Calls Try.prog 61 #[.agg #[.int .i64 v1, .int .i64 v2], .agg #[.int .i64 n1, .int .i64 n2]] w fun e w' => e = .returned (.tuple #[.agg #[.int .i64 (turnR v1 v2 n1 n2).1, .int .i64 (turnR v1 v2 n1 n2).2.1], .bool (turnR v1 v2 n1 n2).2.2]) ∧ Below w.heap.size w w' := by
  unfold turnR
  have hne := cross_ne (a := n1) (b := n2) (c := v1) (d := v2)
  obtain ⟨C, hC⟩ : ∃ C, C = crossR n1 n2 v1 v2 := ⟨_, rfl⟩
  have hcr := fun w => cross_any n1 n2 v1 v2 w
  rw [← hC] at hne hcr ⊢
  have HC := Lib.hid hcr
  clear hC hcr
  rcases Int.lt_trichotomy C 0 with h | h | h
  · obtain ⟨s1, s2⟩ := hne (by omega)
    obtain ⟨q1, q2, q3, q4⟩ := small_bd s2
    rw [if_neg (by omega), if_pos h]
    have hgt : ¬ (0 < C) := by omega
    go_enter Try.func61, Try.ntmps61; (try simp only [List.append_eq, List.cons_append, List.nil_append])
    go_wp2_with (first | (go_at_call 109; refine (HC.out _).mono ?_; rintro e w1 ⟨rfl, hb1⟩; have hz1 : w.heap.size + 3 ≤ w1.heap.size := (by have h := hb1.size; (try simp at h); omega); have hbb := Below.mono hb1 (B' := w.heap.size + 3) (by (try simp) <;> omega); clear hb1; (with_reducible apply cel2 (b := w.heap.size) hbb); (focus ((try simp) <;> omega)); (focus omega); (focus (go_simp; try exact rfl)); (focus (go_simp; try exact rfl)); (focus (intro o; go_simp)); intro cc cc fz hl; (with_reducible apply cel2 (b := w.heap.size + 1) hbb); (focus ((try simp) <;> omega)); (focus omega); (focus (go_simp; try exact rfl)); (focus (go_simp; try exact rfl)); (focus (intro o; go_simp)); intro cc cc fz hl; (with_reducible apply cel2 (b := w.heap.size + 1 + 1) hbb); (focus ((try simp) <;> omega)); (focus omega); (focus (go_simp; try exact rfl)); (focus (go_simp; try exact rfl)); (focus (intro o; go_simp)); intro cc cc fz hl))
    refine bodyPost_ret (v := .tuple #[.agg #[.int .i64 ((255 * v1 - 32 * v2).tdiv 257), .int .i64 ((32 * v1 + 255 * v2).tdiv 257)], .bool true]) (by simp only [results, Try.results61]; go_simp) rfl ⟨?_, ?_⟩
    · rfl
    · ((with_reducible (repeat (first | exact bR _ _ | refine bS ?_ ?_ _ | refine bA ?_ ?_ _ | refine bD ?_ | refine bT ?_ (by assumption) ?_ | refine bO (by assumption) ?_ ?_))) <;> (first | omega | (simp; done) | (simp <;> omega)))
  · subst h
    rw [if_neg (by omega), if_neg (by omega)]
    go_enter Try.func61, Try.ntmps61; (try simp only [List.append_eq, List.cons_append, List.nil_append])
    go_wp2_with (first | (go_at_call 109; refine (HC.out _).mono ?_; rintro e w1 ⟨rfl, hb1⟩; have hz1 : w.heap.size + 3 ≤ w1.heap.size := (by have h := hb1.size; (try simp at h); omega); have hbb := Below.mono hb1 (B' := w.heap.size + 3) (by (try simp) <;> omega); clear hb1; (with_reducible apply cel2 (b := w.heap.size) hbb); (focus ((try simp) <;> omega)); (focus omega); (focus (go_simp; try exact rfl)); (focus (go_simp; try exact rfl)); (focus (intro o; go_simp)); intro cc cc fz hl; (with_reducible apply cel2 (b := w.heap.size + 1) hbb); (focus ((try simp) <;> omega)); (focus omega); (focus (go_simp; try exact rfl)); (focus (go_simp; try exact rfl)); (focus (intro o; go_simp)); intro cc cc fz hl; (with_reducible apply cel2 (b := w.heap.size + 1 + 1) hbb); (focus ((try simp) <;> omega)); (focus omega); (focus (go_simp; try exact rfl)); (focus (go_simp; try exact rfl)); (focus (intro o; go_simp)); intro cc cc fz hl))
    refine bodyPost_ret (v := .tuple #[.agg #[.int .i64 0, .int .i64 0], .bool false]) (by simp only [results, Try.results61]; go_simp) rfl ⟨?_, ?_⟩
    · rfl
    · ((with_reducible (repeat (first | exact bR _ _ | refine bS ?_ ?_ _ | refine bA ?_ ?_ _ | refine bD ?_ | refine bT ?_ (by assumption) ?_ | refine bO (by assumption) ?_ ?_))) <;> (first | omega | (simp; done) | (simp <;> omega)))
  · obtain ⟨s1, s2⟩ := hne (by omega)
    obtain ⟨q1, q2, q3, q4⟩ := small_bd s2
    rw [if_pos h]
    go_enter Try.func61, Try.ntmps61; (try simp only [List.append_eq, List.cons_append, List.nil_append])
    go_wp2_with (first | (go_at_call 109; refine (HC.out _).mono ?_; rintro e w1 ⟨rfl, hb1⟩; have hz1 : w.heap.size + 3 ≤ w1.heap.size := (by have h := hb1.size; (try simp at h); omega); have hbb := Below.mono hb1 (B' := w.heap.size + 3) (by (try simp) <;> omega); clear hb1; (with_reducible apply cel2 (b := w.heap.size) hbb); (focus ((try simp) <;> omega)); (focus omega); (focus (go_simp; try exact rfl)); (focus (go_simp; try exact rfl)); (focus (intro o; go_simp)); intro cc cc fz hl; (with_reducible apply cel2 (b := w.heap.size + 1) hbb); (focus ((try simp) <;> omega)); (focus omega); (focus (go_simp; try exact rfl)); (focus (go_simp; try exact rfl)); (focus (intro o; go_simp)); intro cc cc fz hl; (with_reducible apply cel2 (b := w.heap.size + 1 + 1) hbb); (focus ((try simp) <;> omega)); (focus omega); (focus (go_simp; try exact rfl)); (focus (go_simp; try exact rfl)); (focus (intro o; go_simp)); intro cc cc fz hl))
    refine bodyPost_ret (v := .tuple #[.agg #[.int .i64 ((255 * v1 + 32 * v2).tdiv 257), .int .i64 ((255 * v2 - 32 * v1).tdiv 257)], .bool true]) (by simp only [results, Try.results61]; go_simp) rfl ⟨?_, ?_⟩
    · rfl
    · ((with_reducible (repeat (first | exact bR _ _ | refine bS ?_ ?_ _ | refine bA ?_ ?_ _ | refine bD ?_ | refine bT ?_ (by assumption) ?_ | refine bO (by assumption) ?_ ?_))) <;> (first | omega | (simp; done) | (simp <;> omega)))
/-- The greatest integer whose square is at most n, bit by bit. -/
def rootAux : Nat → Int → Int → Int
  | 0, _, r => r
  | i + 1, n, r => if (r + 2 ^ i) * (r + 2 ^ i) ≤ n then rootAux i n (r + 2 ^ i) else rootAux i n r
def rootR (n : Int) : Int := if n ≤ 0 then 0 else rootAux 32 n 0
def pw : Nat → Int
  | 0 => 0
  | i + 1 => 2 ^ i
theorem pw_half (i : Nat) : (2 : Int) ^ i / 2 = pw i := by
  cases i with
  | zero => rfl
  | succ i => unfold pw; rw [Int.pow_succ]; exact Int.mul_ediv_cancel _ (by omega)
theorem wraps_i64' (n : Int) (h₀ : 0 ≤ n) (h₁ : n < 2 ^ 63) : IntKind.i64.wrap n = n := by rw [IntKind.wrap_i64]; omega
set_option maxRecDepth 100000 in
set_option maxHeartbeats 1000000 in
theorem root_any (n : Int) (w : World) (n1 : -9223372036854775808 ≤ n) (n2 : n ≤ 9223372036854775807) :
    Calls Try.prog 102 #[.int .i64 n] w fun e w' => e = .returned (.int .i64 (rootR n)) ∧ Below w.heap.size w w' := by
  unfold rootR
  by_cases h0 : n ≤ 0
  · rw [if_pos h0]
    go_enter Try.func102, Try.ntmps102; (try simp only [List.append_eq, List.cons_append, List.nil_append])
    go_wp2_with fail
    go_ret
    exact ⟨rfl, Below.refl _ _⟩
  · rw [if_neg h0]
    obtain ⟨R, hR⟩ : ∃ R, R = rootAux 32 n 0 := ⟨_, rfl⟩
    rw [← hR]
    have HR := Lib.hid hR
    clear hR
    go_enter Try.func102, Try.ntmps102; (try simp only [List.append_eq, List.cons_append, List.nil_append])
    go_wp2_with fail
    go_loop [3, 4] (fun vr vb => ∃ (i : Nat) (r b : Int), i ≤ 32 ∧ vr = .int .i64 r ∧ vb = .int .i64 b ∧ 0 ≤ r ∧ r < 4294967296 ∧ Hid (b = pw i) ∧ Hid (r % 2 ^ i = 0) ∧ Hid (R = rootAux i n r)) (fun vr vb => (intOf vb).toNat)
    case atStart => exact ⟨32, 0, 2147483648, by omega, rfl, rfl, by omega, by omega, Lib.hid (by decide), Lib.hid (by decide), HR⟩
    case round =>
      obtain ⟨i, r, b, hi, rfl, rfl, r0, r1, HB, HM, HA⟩ := hrel
      cases i with
      | zero =>
        have hb : b = 0 := HB.out
        subst hb
        have hr : R = r := HA.out
        subst hr
        go_wp2_with fail
        go_ret
        exact ⟨rfl, Below.refl _ _⟩
      | succ j =>
        have hb : b = 2 ^ j := HB.out
        have b0 : 0 < b := by rw [hb]; exact Int.pow_pos (by omega)
        have b1 : b ≤ 2147483648 := by
          rw [hb]
          have h1 : (2 : Nat) ^ j ≤ 2147483648 := Nat.le_trans (Nat.pow_le_pow_right (by omega) (show j ≤ 31 by omega)) (by decide)
          have h2 : ((2 ^ j : Nat) : Int) ≤ ((2147483648 : Nat) : Int) := Int.ofNat_le.2 h1
          rw [Int.natCast_pow] at h2
          exact h2
        have hor : bits .or .i64 r b = r + b := by
          refine bits_join .i64 63 (by decide) wraps_i64' (j + 1) r b r0 HM.out (by omega) (by omega) ?_ (by omega)
          rw [hb, Int.pow_succ]; omega
        have hhalf : b / 2 = pw j := by rw [hb]; exact pw_half j
        obtain ⟨D, hD⟩ : ∃ D, D = n / (r + b) := ⟨_, rfl⟩
        have hDn : n.tdiv (r + b) = D := by rw [hD]; exact Int.tdiv_eq_ediv_of_nonneg (by omega)
        have hle : r + b ≤ D ↔ (r + b) * (r + b) ≤ n := by rw [hD]; exact Int.le_ediv_iff_mul_le (by omega)
        have D0 : 0 ≤ D := by rw [hD]; exact Int.ediv_nonneg (by omega) (by omega)
        have D1 : D ≤ n := by rw [hD]; exact Int.ediv_le_self _ (by omega)
        have HLE := Lib.hid hle
        have Hb := Lib.hid hb
        obtain ⟨b', hb'⟩ : ∃ b', b' = pw j := ⟨_, rfl⟩
        rw [← hb'] at hhalf
        have Hb' := Lib.hid hb'
        have b2 : 0 ≤ b' ∧ b' < b := by omega
        obtain ⟨b3, b4⟩ := b2
        have hne : ((r + b) == 0) = false := by simp; omega
        have hne' : ¬ (r + b = 0) := by omega
        clear hle hb hb' hD
        by_cases hc : r + b ≤ D
        · have hr2 : R = rootAux j n (r + b) := by rw [HA.out, Hb.out]; exact if_pos (by rw [← Hb.out]; exact HLE.out.1 hc)
          have hm2 : (r + b) % 2 ^ j = 0 := by
            have h1 := HM.out
            have h2 : r % 2 ^ j = 0 := Int.emod_eq_zero_of_dvd (Int.dvd_trans ⟨2, by rw [Int.pow_succ]⟩ (Int.dvd_of_emod_eq_zero h1))
            rw [Hb.out, Int.add_emod, h2, Int.emod_self]; rfl
          have hlt : r + b < 4294967296 := by
            rcases Int.lt_or_le (r + b) 4294967296 with h | h
            · exact h
            · have h1 := HLE.out.1 hc
              have : (4294967296 : Int) * 4294967296 ≤ (r + b) * (r + b) := Int.mul_le_mul h h (by omega) (by omega)
              omega
          have H2 := Lib.hid hr2
          have H3 := Lib.hid hm2
          clear hr2 hm2
          go_wp2_with fail
          go_round
          case rel => exact ⟨j, r + b, b', by omega, by go_num, by go_num, by omega, by omega, Hb', H3, H2⟩
          case measure => simp [intOf]; omega
        · have hr2 : R = rootAux j n r := by rw [HA.out]; exact if_neg (by rw [← Hb.out]; exact fun h => hc (HLE.out.2 h))
          have hm2 : r % 2 ^ j = 0 := Int.emod_eq_zero_of_dvd (Int.dvd_trans ⟨2, by rw [Int.pow_succ]⟩ (Int.dvd_of_emod_eq_zero HM.out))
          have H2 := Lib.hid hr2
          have H3 := Lib.hid hm2
          clear hr2 hm2
          go_wp2_with fail
          go_round
          case rel => exact ⟨j, r, b', by omega, by go_num, by go_num, by omega, by omega, Hb', H3, H2⟩
          case measure => simp [intOf]; omega
end Go.Proofs.Ytklkhnhieihfoaa
