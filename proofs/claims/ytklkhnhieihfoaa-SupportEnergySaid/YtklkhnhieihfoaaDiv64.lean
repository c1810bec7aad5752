/- The contracts of vector.abs and of math/bits.Div64. -/
import Derived.Test.YtklkhnhieihfoaaWarm
import Derived.Test.YtklkhnhieihfoaaProg
import Derived.Test.YtklkhnhieihfoaaShelf
import Derived.Test.YtklkhnhieihfoaaDivP
import Derived.WalkKit
import Derived.WalkSpells
import Derived.WalkLawsBesides
import Derived.Lib.Hide
namespace Go.Proofs.Ytklkhnhieihfoaa
open Go.RowKit
set_option linter.unusedVariables false
set_option maxHeartbeats 400000 in
theorem abs_any (n : Int) (w : World) (h1 : -9223372036854775808 ≤ n) (h2 : n ≤ 9223372036854775807) :
    Calls Try.prog 127 #[.int .i64 n] w fun e w' => e = .returned (.int .u64 (n.natAbs : Int)) ∧ w' = w := by
  by_cases h0 : n < 0
  · have e : (n.natAbs : Int) = IntKind.u64.wrap (-IntKind.u64.wrap n) := by rw [IntKind.wrap_u64, IntKind.wrap_u64]; omega
    rw [e]
    go_enter Try.func127, Try.ntmps127; (try simp only [List.append_eq, List.cons_append, List.nil_append])
    go_wp2_with fail
    go_ret
    exact ⟨rfl, rfl⟩
  · have e : (n.natAbs : Int) = n := by omega
    rw [e]
    go_enter Try.func127, Try.ntmps127; (try simp only [List.append_eq, List.cons_append, List.nil_append])
    go_wp2_with fail
    go_ret
    exact ⟨rfl, rfl⟩
set_option maxHeartbeats 1000000 in
set_option maxRecDepth 100000 in
theorem div64_any (hi lo y : Int) (w : World) (a1 : 0 < hi) (a2 : hi < y) (a3 : 0 ≤ lo) (a4 : lo < 18446744073709551616) (a5 : y < 18446744073709551616) :
    Calls Try.prog 128 #[.int .u64 hi, .int .u64 lo, .int .u64 y] w fun e w' => e = .returned (.tuple #[.int .u64 ((hi * 18446744073709551616 + lo) / y), .int .u64 ((hi * 18446744073709551616 + lo) % y)]) ∧ w' = w := by
  have n0 : (y == 0) = false := by simp; omega
  have n1' : (hi == 0) = false := by simp; omega
  have n2 : ¬ (y ≤ hi) := by omega
  obtain ⟨k, m, Y, n1, n0, H, L, U, Z, d1, d0, S, e1, e2, e3, e4, e5, e6, e7, e8, e9, e10, e11, e12, e13⟩ := shifted a1 a2 a3 a4 a5
  obtain ⟨Q1, hQ1⟩ : ∃ Q, Q = (U * 4294967296 + d1) / Y := ⟨_, rfl⟩
  have D1 : Digit Y n1 n0 U d1 Q1 := ⟨S.hYs, S.n00, S.n01, S.n10, S.n11, S.u0, S.u1, S.d10, S.d11, hQ1⟩
  obtain ⟨R1, hR1⟩ : ∃ R, R = U * 4294967296 + d1 - Q1 * Y := ⟨_, rfl⟩
  obtain ⟨r1, r2⟩ := D1.restb
  rw [← hR1] at r1 r2
  obtain ⟨Q0, hQ0⟩ : ∃ Q, Q = (R1 * 4294967296 + d0) / Y := ⟨_, rfl⟩
  have D0 : Digit Y n1 n0 R1 d0 Q0 := ⟨S.hYs, S.n00, S.n01, S.n10, S.n11, r1, r2, S.d00, S.d01, hQ0⟩
  obtain ⟨f1, f2⟩ := S.result (by omega) hR1 D0
  obtain ⟨V1, hV1⟩ : ∃ V, V = (hi * 18446744073709551616 + lo) / y := ⟨_, rfl⟩
  obtain ⟨V2, hV2⟩ : ∃ V, V = (hi * 18446744073709551616 + lo) % y := ⟨_, rfl⟩
  rw [← hV1] at f1
  rw [← hV2] at f2
  rw [← hV1, ← hV2]
  have HD1 := Lib.hid D1
  have HD0 := Lib.hid D0
  have HF1 := Lib.hid f1
  have HF2 := Lib.hid f2
  have HR1 := Lib.hid hR1
  have bY0 := S.hYs
  have b1 := S.n00
  have b2 := S.n01
  have b3 := S.n10
  have b4 := S.n11
  have b5 := S.u0
  have b6 := S.u1
  have b7 := S.d10
  have b8 := S.d11
  have b9 := S.d00
  have b10 := S.d01
  have b11 : Y < 18446744073709551616 := by omega
  have b12 : (k : Int) < 64 := S.k0
  obtain ⟨q, hq⟩ : ∃ q, q = U / n1 := ⟨_, rfl⟩
  have q0 : 0 ≤ q := by rw [hq]; exact Int.ediv_nonneg b5 (by omega)
  have q2 : q < 18446744073709551616 := by have := Int.ediv_le_self n1 b5; omega
  have hqm := Int.emod_add_mul_ediv U n1
  have hm0 : 0 ≤ U % n1 := Int.emod_nonneg _ (by omega)
  have hm1 : U % n1 < n1 := Int.emod_lt_of_pos _ (by omega)
  obtain ⟨r, hr⟩ : ∃ r, r = U % n1 := ⟨_, rfl⟩
  rw [← hq, ← hr, Int.mul_comm n1] at hqm
  rw [← hr] at hm0 hm1
  have hqr : q * n1 + r = U := by omega
  have hpos : 0 ≤ q * n1 := Int.mul_nonneg q0 (by omega)
  have e14 : IntKind.u64.wrap (U.tdiv n1) = q := by rw [Int.tdiv_eq_ediv_of_nonneg b5, ← hq]; exact wrap_small q0 q2
  have e15 : IntKind.u64.wrap (U - IntKind.u64.wrap (q * n1)) = r := by rw [wrap_small hpos (by omega)]; rw [wrap_small (by omega) (by omega)]; omega
  have HQ := Lib.hid (show Q1 ≤ q by rw [hq]; exact D1.first)
  have HQR := Lib.hid hqr
  have HS := Lib.hid S
  have e16 : IntKind.u64.wrap (IntKind.u64.wrap (IntKind.u64.wrap (U * 4294967296) + d1) - IntKind.u64.wrap (Q1 * Y)) = R1 := by simp only [IntKind.wrap_u64]; omega
  obtain ⟨q', hq'⟩ : ∃ q, q = R1 / n1 := ⟨_, rfl⟩
  have q0' : 0 ≤ q' := by rw [hq']; exact Int.ediv_nonneg r1 (by omega)
  have q2' : q' < 18446744073709551616 := by have := Int.ediv_le_self n1 r1; omega
  have hqm' := Int.emod_add_mul_ediv R1 n1
  have hm0' : 0 ≤ R1 % n1 := Int.emod_nonneg _ (by omega)
  have hm1' : R1 % n1 < n1 := Int.emod_lt_of_pos _ (by omega)
  obtain ⟨r', hr'⟩ : ∃ r, r = R1 % n1 := ⟨_, rfl⟩
  rw [← hq', ← hr', Int.mul_comm n1] at hqm'
  rw [← hr'] at hm0' hm1'
  have hqr' : q' * n1 + r' = R1 := by omega
  have hpos' : 0 ≤ q' * n1 := Int.mul_nonneg q0' (by omega)
  have e17 : IntKind.u64.wrap (R1.tdiv n1) = q' := by rw [Int.tdiv_eq_ediv_of_nonneg r1, ← hq']; exact wrap_small q0' q2'
  have e18 : IntKind.u64.wrap (R1 - IntKind.u64.wrap (q' * n1)) = r' := by rw [wrap_small hpos' (by omega)]; rw [wrap_small (by omega) (by omega)]; omega
  have HQ2 := Lib.hid (show Q0 ≤ q' by rw [hq']; exact D0.first)
  have HQR2 := Lib.hid hqr'
  have w0 := D0.q0
  have w1 := D0.q1
  have w2 := D1.q0
  have w3 := D1.q1
  obtain ⟨x0, x1⟩ := D0.restb
  obtain ⟨R0, hR0⟩ : ∃ R, R = R1 * 4294967296 + d0 - Q0 * Y := ⟨_, rfl⟩
  have e20 : IntKind.u64.wrap (IntKind.u64.wrap (IntKind.u64.wrap (R1 * 4294967296) + d0) - IntKind.u64.wrap (Q0 * Y)) = R0 := by simp only [IntKind.wrap_u64]; omega
  have e21 : R0 / 2 ^ k = V2 := by rw [hR0]; exact f2
  clear x0 x1 hq' hqm' hr' hqr' hpos' hR0
  clear D1 D0 f1 f2 hR1 hq hqm hr hqr hpos S hQ1 hQ0 hV1 hV2 bY0
  have nn1 : (n1 == 0) = false := by simp; omega
  go_enter Try.func128, Try.ntmps128; (try simp only [List.append_eq, List.cons_append, List.nil_append])
  go_wp2_with fail
  (go_at_call 141; refine (Try.bits_LeadingZeros64 _ _ (by omega) (by omega)).mono ?_; rintro e w1 ⟨rfl, rfl⟩)
  go_wp2_with fail
  go_loop [15, 16] (fun vq vr => ∃ q r : Int, vq = .int .u64 q ∧ vr = .int .u64 r ∧ 0 ≤ q ∧ q < 18446744073709551616 ∧ 0 ≤ r ∧ r < 4294967296 ∧ Hid (q * n1 + r = U) ∧ Hid (Q1 ≤ q)) (fun vq _ => (intOf vq).toNat)
  case atStart => exact ⟨q, r, rfl, rfl, by omega, by omega, by omega, by omega, HQR, HQ⟩
  case round =>
    obtain ⟨q, r, rfl, rfl, g1, g2, g3, g4, GR, GQ⟩ := hrel
    have hQ0 := HD1.out.q0
    by_cases hc : 4294967296 ≤ q
    · have hdn := HD1.out.down GR.out (.inl hc)
      have g5 : 0 ≤ q - 1 := by omega
      have g6 : q - 1 < 18446744073709551616 := by omega
      by_cases hb : 4294967296 ≤ r + n1
      · have hqq : q = Q1 + 1 := by have := HD1.out.broke (q := q - 1) (r := r + n1) (by have := GR.out; rw [Int.sub_mul]; omega) hdn hb; omega
        subst hqq
        go_wp2_with fail
        go_loop [18, 16] (fun vq vr => ∃ q r : Int, vq = .int .u64 q ∧ vr = .int .u64 r ∧ 0 ≤ q ∧ q < 18446744073709551616 ∧ 0 ≤ r ∧ r < 4294967296 ∧ Hid (q * n1 + r = R1) ∧ Hid (Q0 ≤ q)) (fun vq _ => (intOf vq).toNat)
        case atStart => exact ⟨q', r', rfl, rfl, by omega, by omega, by omega, by omega, HQR2, HQ2⟩
        case round =>
          obtain ⟨q, r, rfl, rfl, g1, g2, g3, g4, GR, GQ⟩ := hrel
          have hQ0 := HD0.out.q0
          by_cases hc : 4294967296 ≤ q
          · have hdn := HD0.out.down GR.out (.inl hc)
            have g5 : 0 ≤ q - 1 := by omega
            have g6 : q - 1 < 18446744073709551616 := by omega
            by_cases hb : 4294967296 ≤ r + n1
            · have hqq : q = Q0 + 1 := by have := HD0.out.broke (q := q - 1) (r := r + n1) (by have := GR.out; rw [Int.sub_mul]; omega) hdn hb; omega
              subst hqq
              go_wp2_with fail
              go_ret2
              exact ⟨by rw [← HF1.out]; rfl, rfl⟩
            · have HN := Lib.hid (show (q - 1) * n1 + (r + n1) = R1 by have := GR.out; rw [Int.sub_mul]; omega)
              have HDN := Lib.hid hdn
              clear hdn
              go_wp2_with fail
              go_round
              case rel => exact ⟨q - 1, r + n1, by go_num, by go_num, by omega, by omega, by omega, by omega, HN, HDN⟩
              case measure => simp [intOf]; omega
          · obtain ⟨p, hp⟩ : ∃ p, p = q * n0 := ⟨_, rfl⟩
            have p0 : 0 ≤ p := by rw [hp]; exact Int.mul_nonneg g1 b1
            have p1 : p < 18446744073709551616 := by
              have h1 : q * n0 ≤ 4294967295 * n0 := Int.mul_le_mul_of_nonneg_right (by omega) b1
              omega
            have ep : IntKind.u64.wrap (q * n0) = p := by rw [← hp]; exact wrap_small p0 p1
            have HP := Lib.hid hp
            clear hp
            by_cases ht : 4294967296 * r + d0 < p
            · have hdn := HD0.out.down GR.out (.inr (by rw [← HP.out]; exact ht))
              have g5 : 0 ≤ q - 1 := by omega
              have g6 : q - 1 < 18446744073709551616 := by omega
              by_cases hb : 4294967296 ≤ r + n1
              · have hqq : q = Q0 + 1 := by have := HD0.out.broke (q := q - 1) (r := r + n1) (by have := GR.out; rw [Int.sub_mul]; omega) hdn hb; omega
                subst hqq
                go_wp2_with fail
                go_ret2
                exact ⟨by rw [← HF1.out]; rfl, rfl⟩
              · have HN := Lib.hid (show (q - 1) * n1 + (r + n1) = R1 by have := GR.out; rw [Int.sub_mul]; omega)
                have HDN := Lib.hid hdn
                clear hdn
                go_wp2_with fail
                go_round
                case rel => exact ⟨q - 1, r + n1, by go_num, by go_num, by omega, by omega, by omega, by omega, HN, HDN⟩
                case measure => simp [intOf]; omega
            · have hqq : Q0 = q := (HD0.out.stop GR.out GQ.out (by rw [← HP.out]; omega)).symm
              subst hqq
              go_wp2_with fail
              go_ret2
              exact ⟨by rw [← HF1.out]; rfl, rfl⟩
      · have HN := Lib.hid (show (q - 1) * n1 + (r + n1) = U by have := GR.out; rw [Int.sub_mul]; omega)
        have HDN := Lib.hid hdn
        clear hdn
        go_wp2_with fail
        go_round
        case rel => exact ⟨q - 1, r + n1, by go_num, by go_num, by omega, by omega, by omega, by omega, HN, HDN⟩
        case measure => simp [intOf]; omega
    · obtain ⟨p, hp⟩ : ∃ p, p = q * n0 := ⟨_, rfl⟩
      have p0 : 0 ≤ p := by rw [hp]; exact Int.mul_nonneg g1 b1
      have p1 : p < 18446744073709551616 := by
        have h1 : q * n0 ≤ 4294967295 * n0 := Int.mul_le_mul_of_nonneg_right (by omega) b1
        omega
      have ep : IntKind.u64.wrap (q * n0) = p := by rw [← hp]; exact wrap_small p0 p1
      have HP := Lib.hid hp
      clear hp
      by_cases ht : 4294967296 * r + d1 < p
      · have hdn := HD1.out.down GR.out (.inr (by rw [← HP.out]; exact ht))
        have g5 : 0 ≤ q - 1 := by omega
        have g6 : q - 1 < 18446744073709551616 := by omega
        by_cases hb : 4294967296 ≤ r + n1
        · have hqq : q = Q1 + 1 := by have := HD1.out.broke (q := q - 1) (r := r + n1) (by have := GR.out; rw [Int.sub_mul]; omega) hdn hb; omega
          subst hqq
          go_wp2_with fail
          go_loop [18, 16] (fun vq vr => ∃ q r : Int, vq = .int .u64 q ∧ vr = .int .u64 r ∧ 0 ≤ q ∧ q < 18446744073709551616 ∧ 0 ≤ r ∧ r < 4294967296 ∧ Hid (q * n1 + r = R1) ∧ Hid (Q0 ≤ q)) (fun vq _ => (intOf vq).toNat)
          case atStart => exact ⟨q', r', rfl, rfl, by omega, by omega, by omega, by omega, HQR2, HQ2⟩
          case round =>
            obtain ⟨q, r, rfl, rfl, g1, g2, g3, g4, GR, GQ⟩ := hrel
            have hQ0 := HD0.out.q0
            by_cases hc : 4294967296 ≤ q
            · have hdn := HD0.out.down GR.out (.inl hc)
              have g5 : 0 ≤ q - 1 := by omega
              have g6 : q - 1 < 18446744073709551616 := by omega
              by_cases hb : 4294967296 ≤ r + n1
              · have hqq : q = Q0 + 1 := by have := HD0.out.broke (q := q - 1) (r := r + n1) (by have := GR.out; rw [Int.sub_mul]; omega) hdn hb; omega
                subst hqq
                go_wp2_with fail
                go_ret2
                exact ⟨by rw [← HF1.out]; rfl, rfl⟩
              · have HN := Lib.hid (show (q - 1) * n1 + (r + n1) = R1 by have := GR.out; rw [Int.sub_mul]; omega)
                have HDN := Lib.hid hdn
                clear hdn
                go_wp2_with fail
                go_round
                case rel => exact ⟨q - 1, r + n1, by go_num, by go_num, by omega, by omega, by omega, by omega, HN, HDN⟩
                case measure => simp [intOf]; omega
            · obtain ⟨p, hp⟩ : ∃ p, p = q * n0 := ⟨_, rfl⟩
              have p0 : 0 ≤ p := by rw [hp]; exact Int.mul_nonneg g1 b1
              have p1 : p < 18446744073709551616 := by
                have h1 : q * n0 ≤ 4294967295 * n0 := Int.mul_le_mul_of_nonneg_right (by omega) b1
                omega
              have ep : IntKind.u64.wrap (q * n0) = p := by rw [← hp]; exact wrap_small p0 p1
              have HP := Lib.hid hp
              clear hp
              by_cases ht : 4294967296 * r + d0 < p
              · have hdn := HD0.out.down GR.out (.inr (by rw [← HP.out]; exact ht))
                have g5 : 0 ≤ q - 1 := by omega
                have g6 : q - 1 < 18446744073709551616 := by omega
                by_cases hb : 4294967296 ≤ r + n1
                · have hqq : q = Q0 + 1 := by have := HD0.out.broke (q := q - 1) (r := r + n1) (by have := GR.out; rw [Int.sub_mul]; omega) hdn hb; omega
                  subst hqq
                  go_wp2_with fail
                  go_ret2
                  exact ⟨by rw [← HF1.out]; rfl, rfl⟩
                · have HN := Lib.hid (show (q - 1) * n1 + (r + n1) = R1 by have := GR.out; rw [Int.sub_mul]; omega)
                  have HDN := Lib.hid hdn
                  clear hdn
                  go_wp2_with fail
                  go_round
                  case rel => exact ⟨q - 1, r + n1, by go_num, by go_num, by omega, by omega, by omega, by omega, HN, HDN⟩
                  case measure => simp [intOf]; omega
              · have hqq : Q0 = q := (HD0.out.stop GR.out GQ.out (by rw [← HP.out]; omega)).symm
                subst hqq
                go_wp2_with fail
                go_ret2
                exact ⟨by rw [← HF1.out]; rfl, rfl⟩
        · have HN := Lib.hid (show (q - 1) * n1 + (r + n1) = U by have := GR.out; rw [Int.sub_mul]; omega)
          have HDN := Lib.hid hdn
          clear hdn
          go_wp2_with fail
          go_round
          case rel => exact ⟨q - 1, r + n1, by go_num, by go_num, by omega, by omega, by omega, by omega, HN, HDN⟩
          case measure => simp [intOf]; omega
      · have hqq : Q1 = q := (HD1.out.stop GR.out GQ.out (by rw [← HP.out]; omega)).symm
        subst hqq
        go_wp2_with fail
        go_loop [18, 16] (fun vq vr => ∃ q r : Int, vq = .int .u64 q ∧ vr = .int .u64 r ∧ 0 ≤ q ∧ q < 18446744073709551616 ∧ 0 ≤ r ∧ r < 4294967296 ∧ Hid (q * n1 + r = R1) ∧ Hid (Q0 ≤ q)) (fun vq _ => (intOf vq).toNat)
        case atStart => exact ⟨q', r', rfl, rfl, by omega, by omega, by omega, by omega, HQR2, HQ2⟩
        case round =>
          obtain ⟨q, r, rfl, rfl, g1, g2, g3, g4, GR, GQ⟩ := hrel
          have hQ0 := HD0.out.q0
          by_cases hc : 4294967296 ≤ q
          · have hdn := HD0.out.down GR.out (.inl hc)
            have g5 : 0 ≤ q - 1 := by omega
            have g6 : q - 1 < 18446744073709551616 := by omega
            by_cases hb : 4294967296 ≤ r + n1
            · have hqq : q = Q0 + 1 := by have := HD0.out.broke (q := q - 1) (r := r + n1) (by have := GR.out; rw [Int.sub_mul]; omega) hdn hb; omega
              subst hqq
              go_wp2_with fail
              go_ret2
              exact ⟨by rw [← HF1.out]; rfl, rfl⟩
            · have HN := Lib.hid (show (q - 1) * n1 + (r + n1) = R1 by have := GR.out; rw [Int.sub_mul]; omega)
              have HDN := Lib.hid hdn
              clear hdn
              go_wp2_with fail
              go_round
              case rel => exact ⟨q - 1, r + n1, by go_num, by go_num, by omega, by omega, by omega, by omega, HN, HDN⟩
              case measure => simp [intOf]; omega
          · obtain ⟨p, hp⟩ : ∃ p, p = q * n0 := ⟨_, rfl⟩
            have p0 : 0 ≤ p := by rw [hp]; exact Int.mul_nonneg g1 b1
            have p1 : p < 18446744073709551616 := by
              have h1 : q * n0 ≤ 4294967295 * n0 := Int.mul_le_mul_of_nonneg_right (by omega) b1
              omega
            have ep : IntKind.u64.wrap (q * n0) = p := by rw [← hp]; exact wrap_small p0 p1
            have HP := Lib.hid hp
            clear hp
            by_cases ht : 4294967296 * r + d0 < p
            · have hdn := HD0.out.down GR.out (.inr (by rw [← HP.out]; exact ht))
              have g5 : 0 ≤ q - 1 := by omega
              have g6 : q - 1 < 18446744073709551616 := by omega
              by_cases hb : 4294967296 ≤ r + n1
              · have hqq : q = Q0 + 1 := by have := HD0.out.broke (q := q - 1) (r := r + n1) (by have := GR.out; rw [Int.sub_mul]; omega) hdn hb; omega
                subst hqq
                go_wp2_with fail
                go_ret2
                exact ⟨by rw [← HF1.out]; rfl, rfl⟩
              · have HN := Lib.hid (show (q - 1) * n1 + (r + n1) = R1 by have := GR.out; rw [Int.sub_mul]; omega)
                have HDN := Lib.hid hdn
                clear hdn
                go_wp2_with fail
                go_round
                case rel => exact ⟨q - 1, r + n1, by go_num, by go_num, by omega, by omega, by omega, by omega, HN, HDN⟩
                case measure => simp [intOf]; omega
            · have hqq : Q0 = q := (HD0.out.stop GR.out GQ.out (by rw [← HP.out]; omega)).symm
              subst hqq
              go_wp2_with fail
              go_ret2
              exact ⟨by rw [← HF1.out]; rfl, rfl⟩
end Go.Proofs.Ytklkhnhieihfoaa
