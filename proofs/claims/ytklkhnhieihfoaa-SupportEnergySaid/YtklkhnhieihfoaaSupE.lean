/- The contract of support.Finish. -/
import Derived.Test.YtklkhnhieihfoaaSupC
namespace Go.Proofs.Ytklkhnhieihfoaa
open Go Go.RowKit
set_option linter.unusedVariables false
/-- The first of s - 1, .. 0 sixty-fourths of a velocity that costs at most M. -/
def finA (e1 e2 M : Int) : Nat → V2
  | 0 => (0, 0)
  | s + 1 => if (e1 * s).tdiv 64 * (e1 * s).tdiv 64 + (e2 * s).tdiv 64 * (e2 * s).tdiv 64 ≤ M then ((e1 * s).tdiv 64, (e2 * s).tdiv 64) else finA e1 e2 M s
theorem finA_succ (e1 e2 M : Int) (s : Nat) : finA e1 e2 M (s + 1) = if (e1 * s).tdiv 64 * (e1 * s).tdiv 64 + (e2 * s).tdiv 64 * (e2 * s).tdiv 64 ≤ M then ((e1 * s).tdiv 64, (e2 * s).tdiv 64) else finA e1 e2 M s := rfl
def finR (P : Pl) : V2 × V2 := if fitB P = true then (if P.d = true then ((P.p1, P.p2), (0, 0)) else ((P.p1 + P.v1 + P.h1, P.p2 + P.v2 + P.h2), finA (P.v1 + P.h1 * 2) (P.v2 + P.h2 * 2) (budR P) 65)) else ((0, 0), (0, 0))
theorem part_bd {e : Int} {s : Nat} (h1 : -1000000 ≤ e) (h2 : e ≤ 1000000) (hs : s ≤ 64) : (-64000000 ≤ e * s ∧ e * s ≤ 64000000) ∧ (-1000000 ≤ (e * s).tdiv 64 ∧ (e * s).tdiv 64 ≤ 1000000) := by
  have m := mul_bd e s 1000000 64 h1 h2 (by omega) (by omega)
  have t := Int.mul_tdiv_add_tmod (e * s) 64
  have t1 := Int.tmod_lt_of_pos (e * s) (show (0 : Int) < 64 by decide)
  have t2 := Int.lt_tmod_of_pos (e * s) (show (0 : Int) < 64 by decide)
  omega
set_option maxRecDepth 100000 in
set_option maxHeartbeats 8000000 in
theorem finish_any (P : Pl) (v : Value) (w : World) (h : PlAt w v P) (hn : P.ns.length ≤ 1000) :
    Calls Try.prog 18 #[v] w fun e w' => e = .returned (.tuple #[.agg #[.int .i64 (finR P).1.1, .int .i64 (finR P).1.2], .agg #[.int .i64 (finR P).2.1, .int .i64 (finR P).2.2]]) ∧ Below w.heap.size w w' := by
  have ha := fun w' (hb : Below w.heap.size w w') => accepted_any P v w' (h.below hb (Nat.le_refl _)) (by omega)
  cases hf : fitB P
  · have er : finR P = ((0, 0), (0, 0)) := if_neg (by rw [hf]; simp)
    rw [er]
    rw [hf] at ha
    obtain ⟨A, c, B, e, rfl, hA, hB⟩ := h
    simp only [plV] at ha ⊢
    have HA := Lib.hid ha
    clear ha hf er hA hB
    go_enter Try.func18, Try.ntmps18; (try simp only [List.append_eq, List.cons_append, List.nil_append])
    go_wp2_with fail
    -- own blocks: w.heap.size:14, w.heap.size + 1:2, w.heap.size + 1 + 1:2
    (go_at_call 56; refine (HA.out _ (by ((with_reducible (repeat (first | exact bR _ _ | refine bS ?_ ?_ _ | refine bA ?_ ?_ _ | refine bD ?_ | refine bT ?_ (by assumption) ?_ | refine bO (by assumption) ?_ ?_))) <;> (first | omega | (simp; done) | (simp <;> omega))))).mono ?_; rintro e w1 ⟨rfl, hb_w1⟩; have hz_w1 := hb_w1.size; (try simp at hz_w1); (with_reducible apply cel14 (b := w.heap.size) hb_w1); (focus ((try simp) <;> omega)); (focus omega); (focus (go_simp; try exact rfl)); (focus (go_simp; try exact rfl)); (focus (go_simp; try exact rfl)); (focus (go_simp; try exact rfl)); (focus (go_simp; try exact rfl)); (focus (go_simp; try exact rfl)); (focus (go_simp; try exact rfl)); (focus (go_simp; try exact rfl)); (focus (go_simp; try exact rfl)); (focus (go_simp; try exact rfl)); (focus (go_simp; try exact rfl)); (focus (go_simp; try exact rfl)); (focus (go_simp; try exact rfl)); (focus (go_simp; try exact rfl)); (focus (intro o; go_simp)); intro cc cc cc cc cc cc cc cc cc cc cc cc cc cc fz hl; (with_reducible apply cel2 (b := w.heap.size + 1) hb_w1); (focus ((try simp) <;> omega)); (focus omega); (focus (go_simp; try exact rfl)); (focus (go_simp; try exact rfl)); (focus (intro o; go_simp)); intro cc cc fz hl; (with_reducible apply cel2 (b := w.heap.size + 1 + 1) hb_w1); (focus ((try simp) <;> omega)); (focus omega); (focus (go_simp; try exact rfl)); (focus (go_simp; try exact rfl)); (focus (intro o; go_simp)); intro cc cc fz hl)
    go_wp2_with fail
    refine bodyPost_ret (v := .tuple #[.agg #[.int .i64 0, .int .i64 0], .agg #[.int .i64 0, .int .i64 0]]) (by simp only [results, Try.results18]; go_simp) rfl ⟨?_, ?_⟩
    · rfl
    · ((with_reducible (repeat (first | exact bR _ _ | refine bS ?_ ?_ _ | refine bA ?_ ?_ _ | refine bD ?_ | refine bT ?_ (by assumption) ?_ | refine bO (by assumption) ?_ ?_))) <;> (first | omega | (simp; done) | (simp <;> omega)))
  · cases hd : P.d
    · have er : finR P = ((P.p1 + P.v1 + P.h1, P.p2 + P.v2 + P.h2), finA (P.v1 + P.h1 * 2) (P.v2 + P.h2 * 2) (budR P) 65) := by unfold finR; rw [if_pos hf, if_neg (by rw [hd]; simp)]
      rw [er]
      have hbo := fit_bud hf
      have hM := bud_bd hbo
      have hbu := fun w' (hb : Below w.heap.size w w') => budget_any P v w' (h.below hb (Nat.le_refl _)) hbo
      rw [hf] at ha
      have hvd : validB P.p1 P.p2 P.v1 P.v2 P.h1 P.h2 = true := by
        unfold fitB at hf
        simp only [Bool.and_eq_true] at hf
        exact hf.1.1.1
      have hen := fun w => end_in P.p1 P.p2 P.v1 P.v2 P.h1 P.h2 w hvd
      obtain ⟨⟨g1, g2, g3, g4⟩, ⟨g5, g6, g7, g8⟩, g9, g10, g11, g12⟩ := valid_iff hvd
      have r1 : -1000000 ≤ P.v1 + P.h1 * 2 ∧ P.v1 + P.h1 * 2 ≤ 1000000 := by omega
      have r2 : -1000000 ≤ P.v2 + P.h2 * 2 ∧ P.v2 + P.h2 * 2 ≤ 1000000 := by omega
      obtain ⟨A, c, B, e, rfl, hA, hB⟩ := h
      generalize budR P = M at *
      generalize P.v1 + P.h1 * 2 = E1 at *
      generalize P.v2 + P.h2 * 2 = E2 at *
      generalize P.p1 + P.v1 + P.h1 = X1 at *
      generalize P.p2 + P.v2 + P.h2 = X2 at *
      obtain ⟨p1, p2, v1, v2, h1, h2, f1, f2, b1, b2, ks, ns, t, d⟩ := P
      simp only at hd
      subst hd
      simp only [plV] at ha hbu hen ⊢
      have HA := Lib.hid ha
      have HBU := Lib.hid hbu
      have HEN := Lib.hid hen
      have R1 := Lib.hid r1
      have R2 := Lib.hid r2
      obtain ⟨M1, M2⟩ := hM
      clear ha hbu hen hf er hA hB hbo hvd g1 g2 g3 g4 g5 g6 g7 g8 g9 g10 g11 g12 r1 r2
      go_enter Try.func18, Try.ntmps18; (try simp only [List.append_eq, List.cons_append, List.nil_append])
      go_wp2_with fail
      -- own blocks: w.heap.size:14, w.heap.size + 1:2, w.heap.size + 1 + 1:2
      (go_at_call 56; refine (HA.out _ (by ((with_reducible (repeat (first | exact bR _ _ | refine bS ?_ ?_ _ | refine bA ?_ ?_ _ | refine bD ?_ | refine bT ?_ (by assumption) ?_ | refine bO (by assumption) ?_ ?_))) <;> (first | omega | (simp; done) | (simp <;> omega))))).mono ?_; rintro e w1 ⟨rfl, hb_w1⟩; have hz_w1 := hb_w1.size; (try simp at hz_w1); (with_reducible apply cel14 (b := w.heap.size) hb_w1); (focus ((try simp) <;> omega)); (focus omega); (focus (go_simp; try exact rfl)); (focus (go_simp; try exact rfl)); (focus (go_simp; try exact rfl)); (focus (go_simp; try exact rfl)); (focus (go_simp; try exact rfl)); (focus (go_simp; try exact rfl)); (focus (go_simp; try exact rfl)); (focus (go_simp; try exact rfl)); (focus (go_simp; try exact rfl)); (focus (go_simp; try exact rfl)); (focus (go_simp; try exact rfl)); (focus (go_simp; try exact rfl)); (focus (go_simp; try exact rfl)); (focus (go_simp; try exact rfl)); (focus (intro o; go_simp)); intro cc cc cc cc cc cc cc cc cc cc cc cc cc cc fz hl; (with_reducible apply cel2 (b := w.heap.size + 1) hb_w1); (focus ((try simp) <;> omega)); (focus omega); (focus (go_simp; try exact rfl)); (focus (go_simp; try exact rfl)); (focus (intro o; go_simp)); intro cc cc fz hl; (with_reducible apply cel2 (b := w.heap.size + 1 + 1) hb_w1); (focus ((try simp) <;> omega)); (focus omega); (focus (go_simp; try exact rfl)); (focus (go_simp; try exact rfl)); (focus (intro o; go_simp)); intro cc cc fz hl)
      go_wp2_with fail
      (go_at_call 65; refine (HEN.out _).mono ?_; rintro e w2 ⟨rfl, hb_w2⟩; have hz_w2 := hb_w2.size; (try simp at hz_w2); (with_reducible apply cel14 (b := w.heap.size) hb_w2); (focus ((try simp) <;> omega)); (focus omega); (focus (go_simp; try exact rfl)); (focus (go_simp; try exact rfl)); (focus (go_simp; try exact rfl)); (focus (go_simp; try exact rfl)); (focus (go_simp; try exact rfl)); (focus (go_simp; try exact rfl)); (focus (go_simp; try exact rfl)); (focus (go_simp; try exact rfl)); (focus (go_simp; try exact rfl)); (focus (go_simp; try exact rfl)); (focus (go_simp; try exact rfl)); (focus (go_simp; try exact rfl)); (focus (go_simp; try exact rfl)); (focus (go_simp; try exact rfl)); (focus (intro o; go_simp)); intro cc cc cc cc cc cc cc cc cc cc cc cc cc cc fz hl; (with_reducible apply cel2 (b := w.heap.size + 1) hb_w2); (focus ((try simp) <;> omega)); (focus omega); (focus (go_simp; try exact rfl)); (focus (go_simp; try exact rfl)); (focus (intro o; go_simp)); intro cc cc fz hl; (with_reducible apply cel2 (b := w.heap.size + 1 + 1) hb_w2); (focus ((try simp) <;> omega)); (focus omega); (focus (go_simp; try exact rfl)); (focus (go_simp; try exact rfl)); (focus (intro o; go_simp)); intro cc cc fz hl)
      go_wp2_with fail
      -- own blocks besides: w2.heap.size:2
      (go_at_call 63; refine (HBU.out _ (by ((with_reducible (repeat (first | exact bR _ _ | refine bS ?_ ?_ _ | refine bA ?_ ?_ _ | refine bD ?_ | refine bT ?_ (by assumption) ?_ | refine bO (by assumption) ?_ ?_))) <;> (first | omega | (simp; done) | (simp <;> omega))))).mono ?_; rintro e w3 ⟨rfl, hb_w3⟩; have hz_w3 := hb_w3.size; (try simp at hz_w3); (with_reducible apply cel14 (b := w.heap.size) hb_w3); (focus ((try simp) <;> omega)); (focus omega); (focus (go_simp; try exact rfl)); (focus (go_simp; try exact rfl)); (focus (go_simp; try exact rfl)); (focus (go_simp; try exact rfl)); (focus (go_simp; try exact rfl)); (focus (go_simp; try exact rfl)); (focus (go_simp; try exact rfl)); (focus (go_simp; try exact rfl)); (focus (go_simp; try exact rfl)); (focus (go_simp; try exact rfl)); (focus (go_simp; try exact rfl)); (focus (go_simp; try exact rfl)); (focus (go_simp; try exact rfl)); (focus (go_simp; try exact rfl)); (focus (intro o; go_simp)); intro cc cc cc cc cc cc cc cc cc cc cc cc cc cc fz hl; (with_reducible apply cel2 (b := w.heap.size + 1) hb_w3); (focus ((try simp) <;> omega)); (focus omega); (focus (go_simp; try exact rfl)); (focus (go_simp; try exact rfl)); (focus (intro o; go_simp)); intro cc cc fz hl; (with_reducible apply cel2 (b := w.heap.size + 1 + 1) hb_w3); (focus ((try simp) <;> omega)); (focus omega); (focus (go_simp; try exact rfl)); (focus (go_simp; try exact rfl)); (focus (intro o; go_simp)); intro cc cc fz hl; (with_reducible apply cel2 (b := w2.heap.size) hb_w3); (focus ((try simp) <;> omega)); (focus omega); (focus (go_simp; try exact rfl)); (focus (go_simp; try exact rfl)); (focus (intro o; go_simp)); intro cc cc fz hl)
      go_wp2_with fail
      have HB3 := Lib.hid (show Below w.heap.size w w3 by ((with_reducible (repeat (first | exact bR _ _ | refine bS ?_ ?_ _ | refine bA ?_ ?_ _ | refine bD ?_ | refine bT ?_ (by assumption) ?_ | refine bO (by assumption) ?_ ?_))) <;> (first | omega | (simp; done) | (simp <;> omega))))
      clear hb_w1 hb_w2 hb_w3
      go_loopw [6] (fun vi wr => ∃ (s : Nat) (i : Int) (x y : Int), s ≤ 65 ∧ i = (s : Int) - 1 ∧ vi = .int .i64 i ∧ Hid (finA E1 E2 M 65 = finA E1 E2 M s) ∧ Below (w.heap.size + 1 + 1) w3 wr ∧ (∀ o, wr.frozen? ⟨w.heap.size + 1 + 1, o, none⟩ = false) ∧ wr.cell? ⟨w.heap.size + 1 + 1, 0, none⟩ = some (.int .i64 x) ∧ wr.cell? ⟨w.heap.size + 1 + 1, 1, none⟩ = some (.int .i64 y) ∧ (∀ o, wr.frozen? ⟨w2.heap.size, o, none⟩ = false) ∧ wr.cell? ⟨w2.heap.size, 0, none⟩ = some (.int .i64 E1) ∧ wr.cell? ⟨w2.heap.size, 1, none⟩ = some (.int .i64 E2)) (fun vi _ => (intOf vi + 1).toNat)
      case atStart => exact ⟨65, 64, 0, 0, by omega, by omega, rfl, Lib.hid rfl, Below.refl _ _, by assumption, by assumption, by assumption, by assumption, by assumption, by assumption⟩
      case round =>
        obtain ⟨s, i, x, y, hs, hi, rfl, HFI, hb_wr, fzx, cx, cy, fze, ce1, ce2⟩ := hrel
        have hz_wr := hb_wr.size
        have HBR := Lib.hid (show Below w.heap.size w wr from HB3.out.trans (hb_wr.mono (by omega)))
        have HB3R := Lib.hid hb_wr
        -- own blocks: w.heap.size:14, w.heap.size + 1:2
        (with_reducible apply cel14 (b := w.heap.size) hb_wr); (focus ((try simp) <;> omega)); (focus omega); (focus (go_simp; try exact rfl)); (focus (go_simp; try exact rfl)); (focus (go_simp; try exact rfl)); (focus (go_simp; try exact rfl)); (focus (go_simp; try exact rfl)); (focus (go_simp; try exact rfl)); (focus (go_simp; try exact rfl)); (focus (go_simp; try exact rfl)); (focus (go_simp; try exact rfl)); (focus (go_simp; try exact rfl)); (focus (go_simp; try exact rfl)); (focus (go_simp; try exact rfl)); (focus (go_simp; try exact rfl)); (focus (go_simp; try exact rfl)); (focus (intro o; go_simp)); intro cc cc cc cc cc cc cc cc cc cc cc cc cc cc fz hl; (with_reducible apply cel2 (b := w.heap.size + 1) hb_wr); (focus ((try simp) <;> omega)); (focus omega); (focus (go_simp; try exact rfl)); (focus (go_simp; try exact rfl)); (focus (intro o; go_simp)); intro cc cc fz hl
        clear hb_wr
        have hl2 : w2.heap.size < wr.heap.size := by omega
        have hl3 : w.heap.size + 1 + 1 < w2.heap.size := by omega
        rcases s with _ | s
        · obtain rfl : i = -1 := by omega
          clear hi
          go_wp2_with fail
          refine bodyPost_ret (v := .tuple #[.agg #[.int .i64 X1, .int .i64 X2], .agg #[.int .i64 0, .int .i64 0]]) (by simp only [results, Try.results18]; go_simp) rfl ⟨?_, ?_⟩
          · rw [HFI.out]; rfl
          · have hB := HBR.out; clear HBR; ((with_reducible (repeat (first | exact bR _ _ | refine bS ?_ ?_ _ | refine bA ?_ ?_ _ | refine bD ?_ | refine bT ?_ (by assumption) ?_ | refine bO (by assumption) ?_ ?_))) <;> (first | omega | (simp; done) | (simp <;> omega)))
        · obtain rfl : i = (s : Int) := by omega
          have hs6 : s ≤ 64 := by omega
          have i1 : (0 : Int) ≤ (s : Int) := by omega
          obtain ⟨⟨j1, j2⟩, j3, j4⟩ := part_bd R1.out.1 R1.out.2 hs6
          obtain ⟨⟨j5, j6⟩, j7, j8⟩ := part_bd R2.out.1 R2.out.2 hs6
          have hce := fun w => energy_in ((E1 * s).tdiv 64) ((E2 * s).tdiv 64) w (small_of (by omega))
          have hfi := HFI.out
          rw [finA_succ E1 E2 M s] at hfi
          have m1 := mul_bd _ _ _ _ j3 j4 j3 j4
          have m2 := mul_bd _ _ _ _ j7 j8 j7 j8
          generalize hZ1 : (E1 * s).tdiv 64 = Z1 at *
          generalize hZ2 : (E2 * s).tdiv 64 = Z2 at *
          generalize hSQ : Z1 * Z1 + Z2 * Z2 = SQ at *
          have HCE := Lib.hid hce
          have HFI2 := Lib.hid hfi
          clear hce hfi m1 m2 hSQ hi
          go_wp2_with fail
          -- own blocks: w.heap.size:14, w.heap.size + 1:2, w.heap.size + 1 + 1:2, w2.heap.size:2
          (go_at_call 66; refine (HCE.out _).mono ?_; rintro e w5 ⟨rfl, hb_w5⟩; have hz_w5 := hb_w5.size; (try simp at hz_w5); (with_reducible apply cel14 (b := w.heap.size) hb_w5); (focus ((try simp) <;> omega)); (focus omega); (focus (go_simp; try exact rfl)); (focus (go_simp; try exact rfl)); (focus (go_simp; try exact rfl)); (focus (go_simp; try exact rfl)); (focus (go_simp; try exact rfl)); (focus (go_simp; try exact rfl)); (focus (go_simp; try exact rfl)); (focus (go_simp; try exact rfl)); (focus (go_simp; try exact rfl)); (focus (go_simp; try exact rfl)); (focus (go_simp; try exact rfl)); (focus (go_simp; try exact rfl)); (focus (go_simp; try exact rfl)); (focus (go_simp; try exact rfl)); (focus (intro o; go_simp)); intro cc cc cc cc cc cc cc cc cc cc cc cc cc cc fz hl; (with_reducible apply cel2 (b := w.heap.size + 1) hb_w5); (focus ((try simp) <;> omega)); (focus omega); (focus (go_simp; try exact rfl)); (focus (go_simp; try exact rfl)); (focus (intro o; go_simp)); intro cc cc fz hl; (with_reducible apply cel2 (b := w.heap.size + 1 + 1) hb_w5); (focus ((try simp) <;> omega)); (focus omega); (focus (go_simp; try exact rfl)); (focus (go_simp; try exact rfl)); (focus (intro o; go_simp)); intro cc cc fz hl; (with_reducible apply cel2 (b := w2.heap.size) hb_w5); (focus ((try simp) <;> omega)); (focus omega); (focus (go_simp; try exact rfl)); (focus (go_simp; try exact rfl)); (focus (intro o; go_simp)); intro cc cc fz hl)
          by_cases hle : SQ ≤ M
          · have e0 := HFI2.out
            rw [if_pos hle] at e0
            have HE0 := Lib.hid e0
            clear e0
            go_wp2_with fail
            (refine pin_wp (N := _) (Nat.le_refl _) (fun w6 hb_w6 hz_w6 => ?_); (try simp at hz_w6); (with_reducible apply cel14 (b := w.heap.size) hb_w6); (focus ((try simp) <;> omega)); (focus omega); (focus (go_simp; try exact rfl)); (focus (go_simp; try exact rfl)); (focus (go_simp; try exact rfl)); (focus (go_simp; try exact rfl)); (focus (go_simp; try exact rfl)); (focus (go_simp; try exact rfl)); (focus (go_simp; try exact rfl)); (focus (go_simp; try exact rfl)); (focus (go_simp; try exact rfl)); (focus (go_simp; try exact rfl)); (focus (go_simp; try exact rfl)); (focus (go_simp; try exact rfl)); (focus (go_simp; try exact rfl)); (focus (go_simp; try exact rfl)); (focus (intro o; go_simp)); intro cc cc cc cc cc cc cc cc cc cc cc cc cc cc fz hl; (with_reducible apply cel2 (b := w.heap.size + 1) hb_w6); (focus ((try simp) <;> omega)); (focus omega); (focus (go_simp; try exact rfl)); (focus (go_simp; try exact rfl)); (focus (intro o; go_simp)); intro cc cc fz hl; (with_reducible apply cel2 (b := w.heap.size + 1 + 1) hb_w6); (focus ((try simp) <;> omega)); (focus omega); (focus (go_simp; try exact rfl)); (focus (go_simp; try exact rfl)); (focus (intro o; go_simp)); intro cc cc fz hl; (with_reducible apply cel2 (b := w2.heap.size) hb_w6); (focus ((try simp) <;> omega)); (focus omega); (focus (go_simp; try exact rfl)); (focus (go_simp; try exact rfl)); (focus (intro o; go_simp)); intro cc cc fz hl)
            have HB6 := Lib.hid (show Below w.heap.size w w6 from HBR.out.trans (show Below w.heap.size wr w6 by ((with_reducible (repeat (first | exact bR _ _ | refine bS ?_ ?_ _ | refine bA ?_ ?_ _ | refine bD ?_ | refine bT ?_ (by assumption) ?_ | refine bO (by assumption) ?_ ?_))) <;> (first | omega | (simp; done) | (simp <;> omega)))))
            clear hb_w5 hb_w6
            go_region
            all_goals go_wp2_with fail
            all_goals refine bodyPost_ret (v := .tuple #[.agg #[.int .i64 X1, .int .i64 X2], .agg #[.int .i64 Z1, .int .i64 Z2]]) (by simp only [results, Try.results18]; go_simp) rfl ⟨?_, ?_⟩
            all_goals first | (rw [HE0.out]; done) | (rw [HE0.out]; rfl) | (have hB := HB6.out; clear HB6 HBR; ((with_reducible (repeat (first | exact bR _ _ | refine bS ?_ ?_ _ | refine bA ?_ ?_ _ | refine bD ?_ | refine bT ?_ (by assumption) ?_ | refine bO (by assumption) ?_ ?_))) <;> (first | omega | (simp; done) | (simp <;> omega))))
          · have e0 := HFI2.out
            rw [if_neg hle] at e0
            have HF3 := Lib.hid e0
            clear e0
            go_wp2_with fail
            go_roundw
            case rel => exact ⟨s, (s : Int) - 1, Z1, Z2, by omega, rfl, by go_num, HF3, HB3R.out.trans (show Below (w.heap.size + 1 + 1) wr w5 by ((with_reducible (repeat (first | exact bR _ _ | refine bS ?_ ?_ _ | refine bA ?_ ?_ _ | refine bD ?_ | refine bT ?_ (by assumption) ?_ | refine bO (by assumption) ?_ ?_))) <;> (first | omega | (simp; done) | (simp <;> omega)))), by assumption, by assumption, by assumption, by assumption, by assumption, by assumption⟩
            case measure => simp [intOf] <;> omega
    · have er : finR P = ((P.p1, P.p2), (0, 0)) := by unfold finR; rw [if_pos hf, if_pos hd]
      rw [er]
      rw [hf] at ha
      obtain ⟨A, c, B, e, rfl, hA, hB⟩ := h
      obtain ⟨p1, p2, v1, v2, h1, h2, f1, f2, b1, b2, ks, ns, t, d⟩ := P
      simp only at hd
      subst hd
      simp only [plV] at ha ⊢
      have HA := Lib.hid ha
      clear ha hf er hA hB
      go_enter Try.func18, Try.ntmps18; (try simp only [List.append_eq, List.cons_append, List.nil_append])
      go_wp2_with fail
      -- own blocks: w.heap.size:14, w.heap.size + 1:2, w.heap.size + 1 + 1:2
      (go_at_call 56; refine (HA.out _ (by ((with_reducible (repeat (first | exact bR _ _ | refine bS ?_ ?_ _ | refine bA ?_ ?_ _ | refine bD ?_ | refine bT ?_ (by assumption) ?_ | refine bO (by assumption) ?_ ?_))) <;> (first | omega | (simp; done) | (simp <;> omega))))).mono ?_; rintro e w1 ⟨rfl, hb_w1⟩; have hz_w1 := hb_w1.size; (try simp at hz_w1); (with_reducible apply cel14 (b := w.heap.size) hb_w1); (focus ((try simp) <;> omega)); (focus omega); (focus (go_simp; try exact rfl)); (focus (go_simp; try exact rfl)); (focus (go_simp; try exact rfl)); (focus (go_simp; try exact rfl)); (focus (go_simp; try exact rfl)); (focus (go_simp; try exact rfl)); (focus (go_simp; try exact rfl)); (focus (go_simp; try exact rfl)); (focus (go_simp; try exact rfl)); (focus (go_simp; try exact rfl)); (focus (go_simp; try exact rfl)); (focus (go_simp; try exact rfl)); (focus (go_simp; try exact rfl)); (focus (go_simp; try exact rfl)); (focus (intro o; go_simp)); intro cc cc cc cc cc cc cc cc cc cc cc cc cc cc fz hl; (with_reducible apply cel2 (b := w.heap.size + 1) hb_w1); (focus ((try simp) <;> omega)); (focus omega); (focus (go_simp; try exact rfl)); (focus (go_simp; try exact rfl)); (focus (intro o; go_simp)); intro cc cc fz hl; (with_reducible apply cel2 (b := w.heap.size + 1 + 1) hb_w1); (focus ((try simp) <;> omega)); (focus omega); (focus (go_simp; try exact rfl)); (focus (go_simp; try exact rfl)); (focus (intro o; go_simp)); intro cc cc fz hl)
      go_wp2_with fail
      refine bodyPost_ret (v := .tuple #[.agg #[.int .i64 p1, .int .i64 p2], .agg #[.int .i64 0, .int .i64 0]]) (by simp only [results, Try.results18]; go_simp) rfl ⟨?_, ?_⟩
      · rfl
      · ((with_reducible (repeat (first | exact bR _ _ | refine bS ?_ ?_ _ | refine bA ?_ ?_ _ | refine bD ?_ | refine bT ?_ (by assumption) ?_ | refine bO (by assumption) ?_ ?_))) <;> (first | omega | (simp; done) | (simp <;> omega)))
end Go.Proofs.Ytklkhnhieihfoaa
