/- The contracts of wide.Of, ofUint, Trim, Neg, Abs, Size, Sign. -/
import Derived.Test.YtkoejgpnlncgaaaWa
import Derived.Test.YtkoejgpnlncgaaaBigT
namespace Go.Proofs.Ytkoejgpnlncgaaa
open Go Go.RowKit
set_option linter.unusedVariables false
theorem wmade_two (neg : Bool) (b : Nat) (x y z : Int) (w : World) (hb : b < w.heap.size) (h0 : w.cell? ⟨b, 0, none⟩ = some (.int .u32 x)) (h1 : w.cell? ⟨b, 1, none⟩ = some (.int .u32 y))
    (x0 : 0 ≤ x) (x1 : x < 4294967296) (y0 : 0 ≤ y) (y1 : y < 4294967296) (hz : z = sv neg (x + 4294967296 * y)) :
    Calls Try.prog 110 #[.bool neg, .slice (some ⟨b, 0, none⟩) 2 2] w (ZOut z w) := by
  have := wmade_any neg (some ⟨b, 0, none⟩) [x, y] 2 w (Lim.cons x0 x1 (Lim.cons y0 y1 Lim.nil)) (lat_two hb h0 h1) (by simp) (by simp)
  rw [mv_two, ← hz] at this
  exact this
set_option maxHeartbeats 1000000 in
theorem wof_any (n : Int) (w : World) (h1 : -9223372036854775808 ≤ n) (h2 : n ≤ 9223372036854775807) :
    Calls Try.prog 102 #[.int .i64 n] w (ZOut n w) := by
  rcases Int.lt_or_le n 0 with h | h
  · have e1 : IntKind.u64.wrap (-IntKind.u64.wrap n) = -n := by rw [IntKind.wrap_u64, IntKind.wrap_u64]; omega
    go_enter Try.func102, Try.ntmps102; (try simp only [List.append_eq, List.cons_append, List.nil_append])
    go_wp2_with fail
    clear e1
    -- own blocks: w.heap.size:2
    (go_at_call 110; refine (wmade_two _ _ (-n % 4294967296) (-n / 4294967296) n _ (by simp) (by go_simp) (by go_simp) (by omega) (by omega) (by omega) (by omega) (by unfold sv; rw [if_pos rfl]; omega)).mono ?_; rintro e w1 ⟨hb_w1, v1, rfl, hv1⟩; have hz_w1 := hb_w1.size; (try simp at hz_w1); (with_reducible apply cel2 (b := w.heap.size) hb_w1); (focus ((try simp) <;> omega)); (focus omega); (focus (go_simp; try exact rfl)); (focus (go_simp; try exact rfl)); (focus (intro o; go_simp)); intro cc cc fz hl)
    obtain ⟨A1, c1, rfl, hc1, hA1⟩ := hv1
    have HC := Lib.hid hc1
    have HA1 := Lib.hid hA1
    clear hc1 hA1
    go_wp2_with fail
    refine bodyPost_ret (v := .agg #[.bool (decide (n < 0)), .slice A1 (canN n.natAbs).length c1]) (by simp only [results, Try.results102]; go_simp) rfl ⟨?_, ?_⟩
    · ((with_reducible (repeat (first | exact bR _ _ | refine bS ?_ ?_ _ | refine bA ?_ ?_ _ | refine bD ?_ | refine bT ?_ (by assumption) ?_ | refine bO (by assumption) ?_ ?_))) <;> (first | omega | (simp; done) | (simp <;> omega)))
    · exact ⟨_, rfl, A1, c1, rfl, HC.out, HA1.out.set2 (by assumption) (by assumption) _ _⟩
  · have hn : ¬ n < 0 := by omega
    go_enter Try.func102, Try.ntmps102; (try simp only [List.append_eq, List.cons_append, List.nil_append])
    go_wp2_with fail
    -- own blocks: w.heap.size:2
    (go_at_call 110; refine (wmade_two _ _ (n % 4294967296) (n / 4294967296) n _ (by simp) (by go_simp) (by go_simp) (by omega) (by omega) (by omega) (by omega) (by unfold sv; rw [if_neg (by simp)]; omega)).mono ?_; rintro e w1 ⟨hb_w1, v1, rfl, hv1⟩; have hz_w1 := hb_w1.size; (try simp at hz_w1); (with_reducible apply cel2 (b := w.heap.size) hb_w1); (focus ((try simp) <;> omega)); (focus omega); (focus (go_simp; try exact rfl)); (focus (go_simp; try exact rfl)); (focus (intro o; go_simp)); intro cc cc fz hl)
    obtain ⟨A1, c1, rfl, hc1, hA1⟩ := hv1
    have HC := Lib.hid hc1
    have HA1 := Lib.hid hA1
    clear hc1 hA1
    go_wp2_with fail
    refine bodyPost_ret (v := .agg #[.bool (decide (n < 0)), .slice A1 (canN n.natAbs).length c1]) (by simp only [results, Try.results102]; go_simp) rfl ⟨?_, ?_⟩
    · ((with_reducible (repeat (first | exact bR _ _ | refine bS ?_ ?_ _ | refine bA ?_ ?_ _ | refine bD ?_ | refine bT ?_ (by assumption) ?_ | refine bO (by assumption) ?_ ?_))) <;> (first | omega | (simp; done) | (simp <;> omega)))
    · exact ⟨_, rfl, A1, c1, rfl, HC.out, HA1.out.set2 (by assumption) (by assumption) _ _⟩

theorem sv_natAbs (z : Int) : sv (decide (z < 0)) (z.natAbs : Int) = z ∧ sv (!decide (z < 0)) (z.natAbs : Int) = -z ∧ sv false (z.natAbs : Int) = z.natAbs := by
  unfold sv
  refine ⟨?_, ?_, ?_⟩
  · split <;> rename_i h <;> simp at h <;> omega
  · split <;> rename_i h <;> simp at h <;> omega
  · simp
set_option maxHeartbeats 1000000 in
theorem wtrim_any (n : Nat) (v : Value) (z : Int) (w : World) (h : IsZ w v n z) (hn : n ≤ 1000000) :
    Calls Try.prog 112 #[v] w (ZOut (z) w) := by
  have H := Lib.hid h
  have hl := isZ_len h
  obtain ⟨p, A, c, l, rfl⟩ := isZ_val h
  have hm := fun A c w' (h' : LAt w' A (canN z.natAbs)) (hc : (canN z.natAbs).length ≤ c) => wmade_any (decide (z < 0)) A (canN z.natAbs) c w' (canN_lim _) h' hc (by omega)
  rw [mv_canN, (sv_natAbs z).1] at hm
  have HM := Lib.hid hm
  clear h hm
  go_enter Try.func112, Try.ntmps112; (try simp only [List.append_eq, List.cons_append, List.nil_append])
  go_wp2_with fail
  -- own blocks: w.heap.size:2, w.heap.size + 1:2
  (go_at_call 114; refine (wlimbs_any n _ z _ ((H.out.below (((Below.refl _ _).alloc (Nat.le_refl _) _).alloc (by simp) _))) hn).mono ?_; rintro e w1 ⟨hb_w1, A1, c1, rfl, hc1, hA1⟩; have hz_w1 := hb_w1.size; (try simp at hz_w1); (with_reducible apply cel2 (b := w.heap.size) hb_w1); (focus ((try simp) <;> omega)); (focus omega); (focus (go_simp; try exact rfl)); (focus (go_simp; try exact rfl)); (focus (intro o; go_simp)); intro cc cc fz hl; (with_reducible apply cel2 (b := w.heap.size + 1) hb_w1); (focus ((try simp) <;> omega)); (focus omega); (focus (go_simp; try exact rfl)); (focus (go_simp; try exact rfl)); (focus (intro o; go_simp)); intro cc cc fz hl)
  have HC1 := Lib.hid hc1
  have HA1 := Lib.hid hA1
  clear hc1 hA1
  go_wp2_with (at_builtin; go_must (refine wpList_append_limbs rfl _ _ rfl w1.heap.size (.slice none 0 0) [] rfl (OwnL.nil _ _) A1 c1 (canN z.natAbs) rfl HA1.out (by simp; omega) (Nat.le_refl _) ?_))
  intro v2 w2 hown hg2
  have hb_w2 : Below w1.heap.size w1 w2 := (Below.refl _ _).grown hg2 (Nat.le_refl _) (by simp [Value.ownBlock])
  have hz_w2 := hb_w2.size
  obtain ⟨A2, c2, rfl, hc2, _, hA2⟩ := lat_of_own hown
  have HC2 := Lib.hid hc2
  have HA2 := Lib.hid hA2
  clear hown hg2 hc2 hA2
  (with_reducible apply cel2 (b := w.heap.size) hb_w2); (focus ((try simp) <;> omega)); (focus omega); (focus (go_simp; try exact rfl)); (focus (go_simp; try exact rfl)); (focus (intro o; go_simp)); intro cc cc fz hl; (with_reducible apply cel2 (b := w.heap.size + 1) hb_w2); (focus ((try simp) <;> omega)); (focus omega); (focus (go_simp; try exact rfl)); (focus (go_simp; try exact rfl)); (focus (intro o; go_simp)); intro cc cc fz hl
  go_wp2_with fail
  (go_at_call 110; refine (HM.out A2 c2 w2 HA2.out HC2.out).mono ?_; rintro e w3 ⟨hb_w3, v3, rfl, hv3⟩; have hz_w3 := hb_w3.size; (try simp at hz_w3); (with_reducible apply cel2 (b := w.heap.size) hb_w3); (focus ((try simp) <;> omega)); (focus omega); (focus (go_simp; try exact rfl)); (focus (go_simp; try exact rfl)); (focus (intro o; go_simp)); intro cc cc fz hl; (with_reducible apply cel2 (b := w.heap.size + 1) hb_w3); (focus ((try simp) <;> omega)); (focus omega); (focus (go_simp; try exact rfl)); (focus (go_simp; try exact rfl)); (focus (intro o; go_simp)); intro cc cc fz hl)
  obtain ⟨A3, c3, rfl, hc3, hA3⟩ := hv3
  have HC3 := Lib.hid hc3
  have HA3 := Lib.hid hA3
  clear hc3 hA3
  go_wp2_with fail
  refine bodyPost_ret (v := .agg #[.bool (decide (z < 0)), .slice A3 (canN z.natAbs).length c3]) (by simp only [results, Try.results112]; go_simp) rfl ⟨?_, ?_⟩
  · ((with_reducible (repeat (first | exact bR _ _ | refine bS ?_ ?_ _ | refine bA ?_ ?_ _ | refine bD ?_ | refine bT ?_ (by assumption) ?_ | refine bO (by assumption) ?_ ?_))) <;> (first | omega | (simp; done) | (simp <;> omega)))
  · exact ⟨_, rfl, A3, c3, rfl, HC3.out, HA3.out.set2 (by assumption) (by assumption) _ _⟩



set_option maxHeartbeats 1000000 in
theorem wsign_any (n : Nat) (v : Value) (z : Int) (w : World) (h : IsZ w v n z) (hn : n ≤ 1000000) :
    Calls Try.prog 113 #[v] w fun e w' => e = .returned (.int .i64 (sgn z)) ∧ Below w.heap.size w w' := by
  have H := Lib.hid h
  have hl := isZ_len h
  obtain ⟨p, A, c, l, rfl⟩ := isZ_val h
  clear h
  have h00 := @canN_len0 z.natAbs
  have hm := fun w' (h' : Below w.heap.size w w') => wlimbs_any n _ z w' (H.out.below h') hn
  have hs : (sgn z = 0 ∧ (canN z.natAbs).length = 0) ∨ (sgn z = -1 ∧ (canN z.natAbs).length ≠ 0 ∧ z < 0) ∨ (sgn z = 1 ∧ (canN z.natAbs).length ≠ 0 ∧ ¬ z < 0) := by
    unfold sgn
    by_cases h0 : z = 0
    · subst h0; exact .inl ⟨rfl, h00.2 rfl⟩
    · have h1 : (canN z.natAbs).length ≠ 0 := fun e => h0 (by have := h00.1 e; omega)
      rw [if_neg h0]
      by_cases h2 : z < 0
      · exact .inr (.inl ⟨if_pos h2, h1, h2⟩)
      · exact .inr (.inr ⟨if_neg h2, h1, h2⟩)
  obtain ⟨S, hS⟩ : ∃ S, S = sgn z := ⟨_, rfl⟩
  rw [← hS] at hs ⊢
  have HM := Lib.hid hm
  clear h00 hm hS
  rcases hs with ⟨rfl, h1⟩ | ⟨rfl, h1, h2⟩ | ⟨rfl, h1, h2⟩
  · have e0 : (((canN z.natAbs).length : Int) == 0) = true := by rw [h1]; rfl
    clear h1
    go_enter Try.func113, Try.ntmps113; (try simp only [List.append_eq, List.cons_append, List.nil_append])
    go_wp2_with fail
    -- own blocks: w.heap.size:2
    (go_at_call 114; refine (HM.out _ ((Below.refl _ _).alloc (Nat.le_refl _) _)).mono ?_; rintro e w1 ⟨hb_w1, A1, c1, rfl, hc1, hA1⟩; have hz_w1 := hb_w1.size; (try simp at hz_w1); (with_reducible apply cel2 (b := w.heap.size) hb_w1); (focus ((try simp) <;> omega)); (focus omega); (focus (go_simp; try exact rfl)); (focus (go_simp; try exact rfl)); (focus (intro o; go_simp)); intro cc cc fz hl)
    clear hc1 hA1
    go_wp2_with fail
    go_ret
    exact ⟨rfl, by ((with_reducible (repeat (first | exact bR _ _ | refine bS ?_ ?_ _ | refine bA ?_ ?_ _ | refine bD ?_ | refine bT ?_ (by assumption) ?_ | refine bO (by assumption) ?_ ?_))) <;> (first | omega | (simp; done) | (simp <;> omega)))⟩
  all_goals
    have e0 : (((canN z.natAbs).length : Int) == 0) = false := by rw [beq_eq_false_iff_ne]; omega
    clear h1
    go_enter Try.func113, Try.ntmps113; (try simp only [List.append_eq, List.cons_append, List.nil_append])
    go_wp2_with fail
    -- own blocks: w.heap.size:2
    (go_at_call 114; refine (HM.out _ ((Below.refl _ _).alloc (Nat.le_refl _) _)).mono ?_; rintro e w1 ⟨hb_w1, A1, c1, rfl, hc1, hA1⟩; have hz_w1 := hb_w1.size; (try simp at hz_w1); (with_reducible apply cel2 (b := w.heap.size) hb_w1); (focus ((try simp) <;> omega)); (focus omega); (focus (go_simp; try exact rfl)); (focus (go_simp; try exact rfl)); (focus (intro o; go_simp)); intro cc cc fz hl)
    clear hc1 hA1
    go_wp2_with fail
    go_ret
    exact ⟨rfl, by ((with_reducible (repeat (first | exact bR _ _ | refine bS ?_ ?_ _ | refine bA ?_ ?_ _ | refine bD ?_ | refine bT ?_ (by assumption) ?_ | refine bO (by assumption) ?_ ?_))) <;> (first | omega | (simp; done) | (simp <;> omega)))⟩
end Go.Proofs.Ytkoejgpnlncgaaa
