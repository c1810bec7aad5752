/- The contracts of pinballref01.Trim, pinballref06.Number, MulDiv. -/
import Derived.Test.YtkoejgpnlncgaaaBigQ
import Derived.Test.YtkoejgpnlncgaaaMulDiv
namespace Go.Proofs.Ytkoejgpnlncgaaa
open Go Go.RowKit
set_option linter.unusedVariables false
set_option maxHeartbeats 1000000 in
theorem trim_any (n : Nat) (v : Value) (z : Int) (w : World) (h : IsZ w v n z) (hn : n ≤ 1000000) :
    Calls Try.prog 95 #[v] w (ZOut z w) := by
  obtain ⟨neg, A, c, l, rfl, hc, hL, hl, hA, rfl⟩ := h
  have hm := fun w hA => make1_any neg A l c w hL hA hc (by omega)
  obtain ⟨Z, hZ⟩ : ∃ Z, Z = sv neg (mv l) := ⟨_, rfl⟩
  rw [← hZ] at hm ⊢
  have HM := Lib.hid hm
  have HA := Lib.hid hA
  clear hm hA hZ
  go_enter Try.func95, Try.ntmps95; (try simp only [List.append_eq, List.cons_append, List.nil_append])
  go_wp2_with fail
  -- own blocks: w.heap.size:2, w.heap.size + 1:2
  (go_at_call 89; refine (HM.out _ ((HA.out.alloc _).alloc _)).mono ?_; rintro e w1 ⟨hb_w1, v1, rfl, hv1⟩; have hz_w1 := hb_w1.size; (try simp at hz_w1); (with_reducible apply cel2 (b := w.heap.size) hb_w1); (focus ((try simp) <;> omega)); (focus omega); (focus (go_simp; try exact rfl)); (focus (go_simp; try exact rfl)); (focus (intro o; go_simp)); intro cc cc fz hl; (with_reducible apply cel2 (b := w.heap.size + 1) hb_w1); (focus ((try simp) <;> omega)); (focus omega); (focus (go_simp; try exact rfl)); (focus (go_simp; try exact rfl)); (focus (intro o; go_simp)); intro cc cc fz hl)
  obtain ⟨A1, c1, rfl, hc1, hA1⟩ := hv1
  have HC := Lib.hid hc1
  have HA1 := Lib.hid hA1
  clear hc1 hA1
  go_wp2_with fail
  refine bodyPost_ret (v := .agg #[.bool (decide (Z < 0)), .slice A1 (canN Z.natAbs).length c1]) (by simp only [results, Try.results95]; go_simp) rfl ⟨?_, ?_⟩
  · ((with_reducible (repeat (first | exact bR _ _ | refine bS ?_ ?_ _ | refine bA ?_ ?_ _ | refine bD ?_ | refine bT ?_ (by assumption) ?_ | refine bO (by assumption) ?_ ?_))) <;> (first | omega | (simp; done) | (simp <;> omega)))
  · exact ⟨_, rfl, A1, c1, rfl, HC.out, HA1.out.set2 (by assumption) (by assumption) _ _⟩
def numR (z : Int) : Int × Bool := if -9223372036854775808 ≤ z ∧ z ≤ 9223372036854775807 then (z, true) else (0, false)
set_option maxRecDepth 100000 in
set_option maxHeartbeats 2000000 in
theorem number_any (n : Nat) (v : Value) (z : Int) (w : World) (h : IsZ w v n z) (hn : n ≤ 1000000) :
    Calls Try.prog 77 #[v] w fun e w' => e = .returned (.tuple #[.int .i64 (numR z).1, .bool (numR z).2]) ∧ Below w.heap.size w w' := by
  have hlen := isZ_len h
  have hZ := Lib.hid h
  obtain ⟨p, A, c, l, rfl⟩ := isZ_val h
  have htr := fun w' (hb : Below w.heap.size w w') => trim_any n _ z w' (hZ.out.below hb) hn
  have HTR := Lib.hid htr
  obtain ⟨r1, r2, hr⟩ : ∃ r1 r2, numR z = (r1, r2) := ⟨_, _, rfl⟩
  rw [hr]
  have HR := Lib.hid hr
  obtain ⟨m, hm⟩ : ∃ m, m = z.natAbs := ⟨_, rfl⟩
  rw [← hm] at hlen
  have HM := Lib.hid hm
  obtain ⟨ln, hln⟩ : ∃ ln, ln = (canN m).length := ⟨_, rfl⟩
  rw [← hln] at hlen
  have HLN := Lib.hid hln
  clear h htr hr hm hln
  go_enter Try.func77, Try.ntmps77; (try simp only [List.append_eq, List.cons_append, List.nil_append])
  go_wp2_with fail
  -- own blocks: w.heap.size:2
  (go_at_call 95; refine (HTR.out _ (by ((with_reducible (repeat (first | exact bR _ _ | refine bS ?_ ?_ _ | refine bA ?_ ?_ _ | refine bD ?_ | refine bT ?_ (by assumption) ?_ | refine bO (by assumption) ?_ ?_))) <;> (first | omega | (simp; done) | (simp <;> omega))))).mono ?_; rintro e w1 ⟨hb_w1, v1, rfl, hv1⟩; have hz_w1 := hb_w1.size; (try simp at hz_w1); (with_reducible apply cel2 (b := w.heap.size) hb_w1); (focus ((try simp) <;> omega)); (focus omega); (focus (go_simp; try exact rfl)); (focus (go_simp; try exact rfl)); (focus (intro o; go_simp)); intro cc cc fz hl)
  obtain ⟨A1, c1, rfl, hc1, hA1⟩ := hv1
  rw [← HM.out] at hc1 hA1 ⊢
  rw [← HLN.out] at hc1 ⊢
  have HA1 := Lib.hid hA1
  have HB1 := Lib.hid (show Below w.heap.size w w1 by ((with_reducible (repeat (first | exact bR _ _ | refine bS ?_ ?_ _ | refine bA ?_ ?_ _ | refine bD ?_ | refine bT ?_ (by assumption) ?_ | refine bO (by assumption) ?_ ?_))) <;> (first | omega | (simp; done) | (simp <;> omega))))
  have hz1 : w.heap.size + 1 ≤ w1.heap.size := by omega
  clear hA1 hb_w1
  obtain ⟨ng, hng⟩ : ∃ ng, ng = decide (z < 0) := ⟨_, rfl⟩
  rw [← hng]
  have HNG := Lib.hid hng
  clear hng
  go_wp2_with fail
  have hlnm : (ln : Int) ≤ 1000000 := by omega
  go_loop [5, 6] (fun vu vi => ∃ (k : Nat) (u : Int), k ≤ ln ∧ vi = .int .i64 ((k : Int) - 1) ∧ vu = .int .u64 u ∧ Hid (ln ≤ 2 → u = mv ((canN m).drop k))) (fun _ vi => (intOf vi + 1).toNat)
  case atStart => exact ⟨ln, 0, Nat.le_refl _, rfl, rfl, Lib.hid (fun _ => by rw [List.drop_of_length_le (by rw [← HLN.out]; exact Nat.le_refl _)]; rfl)⟩
  case round =>
    obtain ⟨k, u, hk, rfl, rfl, HU⟩ := hrel
    rcases k with _ | j
    · by_cases h2 : ln ≤ 2
      · have hu := HU.out h2
        rw [List.drop_zero, mv_canN] at hu
        subst hu
        have hm64 : (m : Int) < 18446744073709551616 := by
          have := (@canN_len m 2).1 (by rw [← HLN.out]; exact h2)
          have e : PB 2 = 18446744073709551616 := by decide
          omega
        have m0 : (0 : Int) ≤ (m : Int) := by omega
        have h3 : ¬ (2 : Int) < (ln : Int) := by omega
        have h3' : decide (2 < ln) = false := by simpa using h2
        have h3'' : ¬ 2 < ln := by omega
        have hr := HR.out
        unfold numR at hr
        have hmz := HM.out
        obtain ⟨M, hM⟩ : ∃ M : Int, M = (m : Int) := ⟨_, rfl⟩
        rw [← hM] at hm64 m0 ⊢
        by_cases hneg : z < 0
        · obtain rfl : ng = true := by rw [HNG.out]; exact decide_eq_true hneg
          by_cases hle : M ≤ 9223372036854775808
          · have hfin : r1 = z ∧ r2 = true := by rw [if_pos (by omega)] at hr; simp only [Prod.mk.injEq] at hr; exact ⟨hr.1.symm, hr.2.symm⟩
            obtain ⟨rfl, rfl⟩ := hfin
            obtain ⟨U, hU⟩ : ∃ U, U = IntKind.u64.wrap (-M) := ⟨_, rfl⟩
            have e2 : IntKind.i64.wrap U = r1 := by rw [hU, IntKind.wrap_u64, IntKind.wrap_i64]; omega
            have e1 := hU.symm
            clear hU hr hmz hM
            go_wp2_with fail
            go_ret2
            exact ⟨rfl, HB1.out.alloc (by omega) _⟩
          · have hle' : ¬ M ≤ 9223372036854775808 := hle
            have hfin : r1 = 0 ∧ r2 = false := by rw [if_neg (by omega)] at hr; simp only [Prod.mk.injEq] at hr; exact ⟨hr.1.symm, hr.2.symm⟩
            obtain ⟨rfl, rfl⟩ := hfin
            clear hr hmz hM
            go_wp2_with fail
            go_ret2
            exact ⟨rfl, HB1.out.alloc (by omega) _⟩
        · obtain rfl : ng = false := by rw [HNG.out]; exact decide_eq_false hneg
          by_cases hle : M < 9223372036854775808
          · have hfin : r1 = z ∧ r2 = true := by rw [if_pos (by omega)] at hr; simp only [Prod.mk.injEq] at hr; exact ⟨hr.1.symm, hr.2.symm⟩
            obtain ⟨rfl, rfl⟩ := hfin
            obtain rfl : M = r1 := by omega
            clear hr hmz hM
            go_wp2_with fail
            go_ret2
            exact ⟨rfl, HB1.out.alloc (by omega) _⟩
          · have hle' : ¬ M < 9223372036854775808 := hle
            have hfin : r1 = 0 ∧ r2 = false := by rw [if_neg (by omega)] at hr; simp only [Prod.mk.injEq] at hr; exact ⟨hr.1.symm, hr.2.symm⟩
            obtain ⟨rfl, rfl⟩ := hfin
            clear hr hmz hM
            go_wp2_with fail
            go_ret2
            exact ⟨rfl, HB1.out.alloc (by omega) _⟩
      · have h3 : (2 : Int) < (ln : Int) := by omega
        have h3'' : 2 < ln := by omega
        have hbig : ¬ (m : Int) < PB 2 := fun h => h2 (by rw [HLN.out]; exact canN_len.2 h)
        have e : PB 2 = 18446744073709551616 := by decide
        have hmz := HM.out
        have hr := HR.out
        unfold numR at hr
        rw [if_neg (by omega)] at hr
        simp only [Prod.mk.injEq] at hr
        obtain ⟨rfl, rfl⟩ := hr
        clear hbig e hmz
        go_wp2_with fail
        go_ret2
        exact ⟨rfl, HB1.out.alloc (by omega) _⟩
    · obtain ⟨x, hx⟩ : ∃ x, (canN m)[j]? = some x := ⟨(canN m)[j]'(by rw [← HLN.out]; omega), by simp⟩
      obtain ⟨x0, x1⟩ := (canN_lim m).get hx
      obtain ⟨g, o, rfl, hg, hcell⟩ := HA1.out j x hx
      have HX := Lib.hid hx
      have i1 : (0 : Int) ≤ (j : Int) := by omega
      have i2 : (j : Int) < (ln : Int) := by omega
      rw [show (((j + 1 : Nat) : Int) - 1) = (j : Int) by omega]
      clear hx
      by_cases h2 : ln ≤ 2
      · have hu := HU.out h2
        have hlt := mv_lt ((canN_lim m).drop (j + 1))
        have hnn := mv_nonneg ((canN_lim m).drop (j + 1))
        rw [← hu] at hlt hnn
        have hu1 : u < 4294967296 := by
          have hl : ((canN m).drop (j + 1)).length ≤ 1 := by rw [List.length_drop, ← HLN.out]; omega
          have e0 : PB 0 = 1 := by decide
          have e1 : PB 1 = 4294967296 := by decide
          have : ((canN m).drop (j + 1)).length = 0 ∨ ((canN m).drop (j + 1)).length = 1 := by omega
          rcases this with h | h
          · rw [h] at hlt; omega
          · rw [h] at hlt; omega
        have hsh : IntKind.u64.wrap (u * 4294967296) = u * 4294967296 := by rw [IntKind.wrap_u64]; omega
        obtain ⟨v, hv⟩ : ∃ v, v = u * 4294967296 + x := ⟨_, rfl⟩
        have hor : bits .or .u64 (u * 4294967296) x = v := by
          rw [hv]
          exact bits_join .u64 64 (by decide) wraps_u64' 32 (u * 4294967296) x (by omega) (Int.mul_emod_left _ _) (by omega) x0 (by omega) (by omega)
        have HV := Lib.hid (show v = mv ((canN m).drop j) by rw [mv_drop_succ HX.out, ← hu, hv]; omega)
        clear hu hlt hnn hv
        go_wp2_with fail
        go_round
        case rel => exact ⟨j, v, by omega, rfl, rfl, Lib.hid (fun _ => HV.out)⟩
        case measure => simp [intOf]
      · go_wp2_with fail
        go_round
        case rel => exact ⟨j, _, by omega, rfl, rfl, Lib.hid (fun h => absurd h h2)⟩
        case measure => simp [intOf]
end Go.Proofs.Ytkoejgpnlncgaaa
