/- The walk of FlightPlaces. -/
import Derived.Test.YtkoejgpnlncgaaaPlV
namespace Go.Proofs.Ytkoejgpnlncgaaa
open Go Go.RowKit
set_option linter.unusedVariables false
set_option maxRecDepth 100000 in
set_option maxHeartbeats 4000000 in
theorem places_bad (px py vx vy hx hy : Int) (w : World) (h : validB px py vx vy hx hy = false) :
    Calls Try.prog 5 #[.agg #[.int .i64 px, .int .i64 py, .int .i64 vx, .int .i64 vy, .int .i64 hx, .int .i64 hy]] w fun e w' => e = .returned (.bool true) ∧ Below w.heap.size w w' := by
  go_enter Try.func5, Try.ntmps5; (try simp only [List.append_eq, List.cons_append, List.nil_append])
  go_wp2_with fail
  -- own blocks: w.heap.size:6
  (go_at_call 13; refine (awake10_any _).mono ?_; rintro e w1 ⟨rfl, hb_w1⟩; have hz_w1 := hb_w1.size; (try simp at hz_w1); (with_reducible apply cel6 (b := w.heap.size) hb_w1); (focus ((try simp) <;> omega)); (focus omega); (focus (go_simp; try exact rfl)); (focus (go_simp; try exact rfl)); (focus (go_simp; try exact rfl)); (focus (go_simp; try exact rfl)); (focus (go_simp; try exact rfl)); (focus (go_simp; try exact rfl)); (focus (intro o; go_simp)); intro cc cc cc cc cc cc fz hl)
  go_wp2_with fail
  (go_at_call 15; refine (rvalid_any _ _ _ _ _ _ _).mono ?_; rintro e w2 ⟨rfl, hb_w2⟩; have hz_w2 := hb_w2.size; (try simp at hz_w2); (with_reducible apply cel6 (b := w.heap.size) hb_w2); (focus ((try simp) <;> omega)); (focus omega); (focus (go_simp; try exact rfl)); (focus (go_simp; try exact rfl)); (focus (go_simp; try exact rfl)); (focus (go_simp; try exact rfl)); (focus (go_simp; try exact rfl)); (focus (go_simp; try exact rfl)); (focus (intro o; go_simp)); intro cc cc cc cc cc cc fz hl)
  go_wp2_with fail
  (go_at_call 13; refine (awake10_any _).mono ?_; rintro e w3 ⟨rfl, hb_w3⟩; have hz_w3 := hb_w3.size; (try simp at hz_w3); (with_reducible apply cel6 (b := w.heap.size) hb_w3); (focus ((try simp) <;> omega)); (focus omega); (focus (go_simp; try exact rfl)); (focus (go_simp; try exact rfl)); (focus (go_simp; try exact rfl)); (focus (go_simp; try exact rfl)); (focus (go_simp; try exact rfl)); (focus (go_simp; try exact rfl)); (focus (intro o; go_simp)); intro cc cc cc cc cc cc fz hl)
  go_wp2_with fail
  go_ret
  refine ⟨rfl, ?_⟩
  ((with_reducible (repeat (first | exact bR _ _ | refine bS ?_ ?_ _ | refine bA ?_ ?_ _ | refine bD ?_ | refine bT ?_ (by assumption) ?_ | refine bO (by assumption) ?_ ?_))) <;> (first | omega | (simp; done) | (simp <;> omega)))
set_option maxRecDepth 100000 in
set_option maxHeartbeats 40000000 in
theorem places_good (px py vx vy hx hy : Int) (w : World) (h : validB px py vx vy hx hy = true) :
    Calls Try.prog 5 #[.agg #[.int .i64 px, .int .i64 py, .int .i64 vx, .int .i64 vy, .int .i64 hx, .int .i64 hy]] w fun e w' => e = .returned (.bool true) ∧ Below w.heap.size w w' := by
  have hvd := h
  obtain ⟨⟨p1, p2, p3, p4⟩, ⟨v1, v2, v3, v4⟩, h1, h2, h3, h4⟩ := valid_iff h
  have cat : ∀ j W, 0 ≤ j → j ≤ 16 → Calls Try.prog 22 #[.agg #[.int .i64 px, .int .i64 py, .int .i64 vx, .int .i64 vy, .int .i64 hx, .int .i64 hy], .int .i64 j] W fun e w' => e = .returned (.agg #[.int .i64 (place px vx hx j), .int .i64 (place py vy hy j)]) ∧ Below W.heap.size W w' := fun j W j1 j2 => at_in px py vx vy hx hy j W h j1 j2
  have cbox := fun W => box_in px py vx vy hx hy W h
  have cend := fun W => end_in px py vx vy hx hy W h
  have cpol := fun W => polys_in px py vx vy hx hy W h
  have cval := fun W => rvalid_any px py vx vy hx hy W
  rw [hvd] at cval
  have hx0 := place_zero px vx hx
  have hy0 := place_zero py vy hy
  have hx9 := place_end px vx hx
  have hy9 := place_end py vy hy
  obtain ⟨⟨l1, l2⟩, l3, l4⟩ := ex_bd p1 p2 v1 v2 h1 h2
  obtain ⟨⟨l5, l6⟩, l7, l8⟩ := ex_bd p3 p4 v3 v4 h3 h4
  have sx := short3 (a := px) (b := vx) (c := hx) ⟨by omega, by omega⟩ ⟨by omega, by omega⟩ ⟨by omega, by omega⟩
  have sy := short3 (a := py) (b := vy) (c := hy) ⟨by omega, by omega⟩ ⟨by omega, by omega⟩ ⟨by omega, by omega⟩
  have bx : ∀ j, 0 ≤ j → j ≤ 16 → 256 * exLo px vx hx ≤ place px vx hx j ∧ place px vx hx j ≤ 256 * exHi px vx hx := fun j a b => ⟨place_lo a b, place_hi a b⟩
  have by' : ∀ j, 0 ≤ j → j ≤ 16 → 256 * exLo py vy hy ≤ place py vy hy j ∧ place py vy hy j ≤ 256 * exHi py vy hy := fun j a b => ⟨place_lo a b, place_hi a b⟩
  have vx' : ∀ j, hv (trimP [px, vx, hx]) j (trimP [px, vx, hx]).length * 2 ^ (4 * (2 - ((trimP [px, vx, hx]).length - 1))) = place px vx hx j := fun j => hv_place.2
  have vy' : ∀ j, hv (trimP [py, vy, hy]) j (trimP [py, vy, hy]).length * 2 ^ (4 * (2 - ((trimP [py, vy, hy]).length - 1))) = place py vy hy j := fun j => hv_place.2
  generalize exLo px vx hx = L1 at *
  generalize exHi px vx hx = L2 at *
  generalize exLo py vy hy = L3 at *
  generalize exHi py vy hy = L4 at *
  generalize hX : place px vx hx = PX at *
  generalize hY : place py vy hy = PY at *
  generalize trimP [px, vx, hx] = zx at *
  generalize trimP [py, vy, hy] = zy at *
  generalize hE1 : px + vx + hx = E1 at *
  generalize hE2 : py + vy + hy = E2 at *
  generalize vx + hx * 2 = E3 at cend
  generalize vy + hy * 2 = E4 at cend
  have q1 : -8658944 ≤ E1 ∧ E1 ≤ 8658944 := by omega
  have q2 : -8658944 ≤ E2 ∧ E2 ≤ 8658944 := by omega
  have CAT := Lib.hid cat
  have CBOX := Lib.hid cbox
  have CEND := Lib.hid cend
  have CPOL := Lib.hid cpol
  have CVAL := Lib.hid cval
  have BX := Lib.hid bx
  have BY := Lib.hid by'
  have VX := Lib.hid vx'
  have VY := Lib.hid vy'
  have SX := Lib.hid sx
  have SY := Lib.hid sy
  clear cat cbox cend cpol cval bx by' vx' vy' sx sy h hvd hX hY hE1 hE2
  go_enter Try.func5, Try.ntmps5; (try simp only [List.append_eq, List.cons_append, List.nil_append])
  go_wp2_with fail
  -- own blocks: w.heap.size:6
  (go_at_call 13; refine (awake10_any _).mono ?_; rintro e w1 ⟨rfl, hb_w1⟩; have hz_w1 := hb_w1.size; (try simp at hz_w1); (with_reducible apply cel6 (b := w.heap.size) hb_w1); (focus ((try simp) <;> omega)); (focus omega); (focus (go_simp; try exact rfl)); (focus (go_simp; try exact rfl)); (focus (go_simp; try exact rfl)); (focus (go_simp; try exact rfl)); (focus (go_simp; try exact rfl)); (focus (go_simp; try exact rfl)); (focus (intro o; go_simp)); intro cc cc cc cc cc cc fz hl)
  go_wp2_with fail
  (go_at_call 15; refine (CVAL.out _).mono ?_; rintro e w2 ⟨rfl, hb_w2⟩; have hz_w2 := hb_w2.size; (try simp at hz_w2); (with_reducible apply cel6 (b := w.heap.size) hb_w2); (focus ((try simp) <;> omega)); (focus omega); (focus (go_simp; try exact rfl)); (focus (go_simp; try exact rfl)); (focus (go_simp; try exact rfl)); (focus (go_simp; try exact rfl)); (focus (go_simp; try exact rfl)); (focus (go_simp; try exact rfl)); (focus (intro o; go_simp)); intro cc cc cc cc cc cc fz hl)
  go_wp2_with fail
  (go_at_call 20; refine (CBOX.out _).mono ?_; rintro e w3 ⟨rfl, hb_w3⟩; have hz_w3 := hb_w3.size; (try simp at hz_w3); (with_reducible apply cel6 (b := w.heap.size) hb_w3); (focus ((try simp) <;> omega)); (focus omega); (focus (go_simp; try exact rfl)); (focus (go_simp; try exact rfl)); (focus (go_simp; try exact rfl)); (focus (go_simp; try exact rfl)); (focus (go_simp; try exact rfl)); (focus (go_simp; try exact rfl)); (focus (intro o; go_simp)); intro cc cc cc cc cc cc fz hl)
  go_wp2_with fail
  -- own blocks besides: w3.heap.size:2, w3.heap.size + 1:2
  (go_at_call 21; refine (CPOL.out _).mono ?_; rintro e w4 ⟨hb_w4, pvx, pvy, rfl, hu1, hu2⟩; have hz_w4 := hb_w4.size; (try simp at hz_w4); (with_reducible apply cel6 (b := w.heap.size) hb_w4); (focus ((try simp) <;> omega)); (focus omega); (focus (go_simp; try exact rfl)); (focus (go_simp; try exact rfl)); (focus (go_simp; try exact rfl)); (focus (go_simp; try exact rfl)); (focus (go_simp; try exact rfl)); (focus (go_simp; try exact rfl)); (focus (intro o; go_simp)); intro cc cc cc cc cc cc fz hl; (with_reducible apply cel2 (b := w3.heap.size) hb_w4); (focus ((try simp) <;> omega)); (focus omega); (focus (go_simp; try exact rfl)); (focus (go_simp; try exact rfl)); (focus (intro o; go_simp)); intro cc cc fz hl; (with_reducible apply cel2 (b := w3.heap.size + 1) hb_w4); (focus ((try simp) <;> omega)); (focus omega); (focus (go_simp; try exact rfl)); (focus (go_simp; try exact rfl)); (focus (intro o; go_simp)); intro cc cc fz hl)
  have HU1 := Lib.hid hu1
  have HU2 := Lib.hid hu2
  clear hu1 hu2
  go_wp2_with fail
  (go_at_call 14; refine (CEND.out _).mono ?_; rintro e w5 ⟨rfl, hb_w5⟩; have hz_w5 := hb_w5.size; (try simp at hz_w5); (with_reducible apply cel6 (b := w.heap.size) hb_w5); (focus ((try simp) <;> omega)); (focus omega); (focus (go_simp; try exact rfl)); (focus (go_simp; try exact rfl)); (focus (go_simp; try exact rfl)); (focus (go_simp; try exact rfl)); (focus (go_simp; try exact rfl)); (focus (go_simp; try exact rfl)); (focus (intro o; go_simp)); intro cc cc cc cc cc cc fz hl; (with_reducible apply cel2 (b := w3.heap.size) hb_w5); (focus ((try simp) <;> omega)); (focus omega); (focus (go_simp; try exact rfl)); (focus (go_simp; try exact rfl)); (focus (intro o; go_simp)); intro cc cc fz hl; (with_reducible apply cel2 (b := w3.heap.size + 1) hb_w5); (focus ((try simp) <;> omega)); (focus omega); (focus (go_simp; try exact rfl)); (focus (go_simp; try exact rfl)); (focus (intro o; go_simp)); intro cc cc fz hl)
  go_wp2_with fail
  -- own blocks besides: w5.heap.size:2, w5.heap.size + 1:2
  (refine pin_wp (N := _) (Nat.le_refl _) (fun w6 hb_w6 hz_w6 => ?_); (try simp at hz_w6); (with_reducible apply cel6 (b := w.heap.size) hb_w6); (focus ((try simp) <;> omega)); (focus omega); (focus (go_simp; try exact rfl)); (focus (go_simp; try exact rfl)); (focus (go_simp; try exact rfl)); (focus (go_simp; try exact rfl)); (focus (go_simp; try exact rfl)); (focus (go_simp; try exact rfl)); (focus (intro o; go_simp)); intro cc cc cc cc cc cc fz hl; (with_reducible apply cel2 (b := w3.heap.size) hb_w6); (focus ((try simp) <;> omega)); (focus omega); (focus (go_simp; try exact rfl)); (focus (go_simp; try exact rfl)); (focus (intro o; go_simp)); intro cc cc fz hl; (with_reducible apply cel2 (b := w3.heap.size + 1) hb_w6); (focus ((try simp) <;> omega)); (focus omega); (focus (go_simp; try exact rfl)); (focus (go_simp; try exact rfl)); (focus (intro o; go_simp)); intro cc cc fz hl; (with_reducible apply cel2 (b := w5.heap.size) hb_w6); (focus ((try simp) <;> omega)); (focus omega); (focus (go_simp; try exact rfl)); (focus (go_simp; try exact rfl)); (focus (intro o; go_simp)); intro cc cc fz hl; (with_reducible apply cel2 (b := w5.heap.size + 1) hb_w6); (focus ((try simp) <;> omega)); (focus omega); (focus (go_simp; try exact rfl)); (focus (go_simp; try exact rfl)); (focus (intro o; go_simp)); intro cc cc fz hl)
  have HB6 := Lib.hid (show Below w.heap.size w w6 by ((with_reducible (repeat (first | exact bR _ _ | refine bS ?_ ?_ _ | refine bA ?_ ?_ _ | refine bD ?_ | refine bT ?_ (by assumption) ?_ | refine bO (by assumption) ?_ ?_))) <;> (first | omega | (simp; done) | (simp <;> omega))))
  have HB46 := Lib.hid (show Below w4.heap.size w4 w6 by ((with_reducible (repeat (first | exact bR _ _ | refine bS ?_ ?_ _ | refine bA ?_ ?_ _ | refine bD ?_ | refine bT ?_ (by assumption) ?_ | refine bO (by assumption) ?_ ?_))) <;> (first | omega | (simp; done) | (simp <;> omega))))
  clear hb_w6 hb_w5 hb_w4 hb_w3 hb_w2 hb_w1
  go_loopw [9] (fun vi wr => ∃ k : Nat, k ≤ 17 ∧ vi = .int .i64 k ∧ Below w6.heap.size w6 wr) (fun vi _ => 17 - (intOf vi).toNat)
  case atStart => exact ⟨0, by omega, rfl, Below.refl _ _⟩
  case round =>
    obtain ⟨k, hk, rfl, hb_wr⟩ := hrel
    have hz_wr := hb_wr.size
    have HBR := Lib.hid (show Below w.heap.size w wr from HB6.out.trans (hb_wr.mono (by omega)))
    have HB4R := Lib.hid (show Below w4.heap.size w4 wr from HB46.out.trans (hb_wr.mono (by omega)))
    have HB6R := Lib.hid hb_wr
    -- own blocks: w.heap.size:6, w3.heap.size:2, w3.heap.size + 1:2, w5.heap.size:2, w5.heap.size + 1:2
    (with_reducible apply cel6 (b := w.heap.size) hb_wr); (focus ((try simp) <;> omega)); (focus omega); (focus (go_simp; try exact rfl)); (focus (go_simp; try exact rfl)); (focus (go_simp; try exact rfl)); (focus (go_simp; try exact rfl)); (focus (go_simp; try exact rfl)); (focus (go_simp; try exact rfl)); (focus (intro o; go_simp)); intro cc cc cc cc cc cc fz hl; (with_reducible apply cel2 (b := w3.heap.size) hb_wr); (focus ((try simp) <;> omega)); (focus omega); (focus (go_simp; try exact rfl)); (focus (go_simp; try exact rfl)); (focus (intro o; go_simp)); intro cc cc fz hl; (with_reducible apply cel2 (b := w3.heap.size + 1) hb_wr); (focus ((try simp) <;> omega)); (focus omega); (focus (go_simp; try exact rfl)); (focus (go_simp; try exact rfl)); (focus (intro o; go_simp)); intro cc cc fz hl; (with_reducible apply cel2 (b := w5.heap.size) hb_wr); (focus ((try simp) <;> omega)); (focus omega); (focus (go_simp; try exact rfl)); (focus (go_simp; try exact rfl)); (focus (intro o; go_simp)); intro cc cc fz hl; (with_reducible apply cel2 (b := w5.heap.size + 1) hb_wr); (focus ((try simp) <;> omega)); (focus omega); (focus (go_simp; try exact rfl)); (focus (go_simp; try exact rfl)); (focus (intro o; go_simp)); intro cc cc fz hl
    clear hb_wr
    have i1 : (0 : Int) ≤ (k : Int) := by omega
    by_cases hlt : k < 17
    · have i2 : (k : Int) ≤ 16 := by omega
      have hat := fun W => CAT.out k W i1 i2
      obtain ⟨b1, b2⟩ := BX.out k i1 i2
      obtain ⟨b3, b4⟩ := BY.out k i1 i2
      have hvx := fun W h => value_any pvx zx k (PX k) W h SX.out i1 i2 (VX.out k) ⟨by omega, by omega⟩
      have hvy := fun W h => value_any pvy zy k (PY k) W h SY.out i1 i2 (VY.out k) ⟨by omega, by omega⟩
      generalize PX k = Q1 at *
      generalize PY k = Q2 at *
      have HAT := Lib.hid hat
      have HVX := Lib.hid hvx
      have HVY := Lib.hid hvy
      clear hat hvx hvy
      go_wp2_with fail
      -- own blocks: w3.heap.size:2, w3.heap.size + 1:2
      (go_at_call 22; refine (HAT.out _).mono ?_; rintro e w7 ⟨rfl, hb_w7⟩; have hz_w7 := hb_w7.size; (try simp at hz_w7); (with_reducible apply cel2 (b := w3.heap.size) hb_w7); (focus ((try simp) <;> omega)); (focus omega); (focus (go_simp; try exact rfl)); (focus (go_simp; try exact rfl)); (focus (intro o; go_simp)); intro cc cc fz hl; (with_reducible apply cel2 (b := w3.heap.size + 1) hb_w7); (focus ((try simp) <;> omega)); (focus omega); (focus (go_simp; try exact rfl)); (focus (go_simp; try exact rfl)); (focus (intro o; go_simp)); intro cc cc fz hl)
      go_wp2_with fail
      -- own blocks: w7.heap.size:2
      (go_at_call 23; refine (HVX.out _ (HU1.out.below (HB4R.out.trans (show Below w4.heap.size wr _ by ((with_reducible (repeat (first | exact bR _ _ | refine bS ?_ ?_ _ | refine bA ?_ ?_ _ | refine bD ?_ | refine bT ?_ (by assumption) ?_ | refine bO (by assumption) ?_ ?_))) <;> (first | omega | (simp; done) | (simp <;> omega))))))).mono ?_; rintro e w8 ⟨rfl, hb_w8⟩; have hz_w8 := hb_w8.size; (try simp at hz_w8); (with_reducible apply cel2 (b := w7.heap.size) hb_w8); (focus ((try simp) <;> omega)); (focus omega); (focus (go_simp; try exact rfl)); (focus (go_simp; try exact rfl)); (focus (intro o; go_simp)); intro cc cc fz hl)
      go_wp2_with fail
      (go_at_call 23; refine (HVY.out _ (HU2.out.below (HB4R.out.trans (show Below w4.heap.size wr _ by ((with_reducible (repeat (first | exact bR _ _ | refine bS ?_ ?_ _ | refine bA ?_ ?_ _ | refine bD ?_ | refine bT ?_ (by assumption) ?_ | refine bO (by assumption) ?_ ?_))) <;> (first | omega | (simp; done) | (simp <;> omega))))))).mono ?_; rintro e w9 ⟨rfl, hb_w9⟩; have hz_w9 := hb_w9.size; (try simp at hz_w9); (with_reducible apply cel2 (b := w7.heap.size) hb_w9); (focus ((try simp) <;> omega)); (focus omega); (focus (go_simp; try exact rfl)); (focus (go_simp; try exact rfl)); (focus (intro o; go_simp)); intro cc cc fz hl)
      go_wp2_with fail
      go_roundw
      case rel => exact ⟨k + 1, by omega, by go_num, HB6R.out.trans (show Below w6.heap.size wr _ by ((with_reducible (repeat (first | exact bR _ _ | refine bS ?_ ?_ _ | refine bA ?_ ?_ _ | refine bD ?_ | refine bT ?_ (by assumption) ?_ | refine bO (by assumption) ?_ ?_))) <;> (first | omega | (simp; done) | (simp <;> omega))))⟩
      case measure => simp [intOf] <;> omega
    · obtain rfl : k = 17 := by omega
      -- own blocks: w.heap.size:6, w5.heap.size:2
      go_wp2_with fail
      (refine pin_wp (N := _) (Nat.le_refl _) (fun w7 hb_w7 hz_w7 => ?_); (try simp at hz_w7); (with_reducible apply cel6 (b := w.heap.size) hb_w7); (focus ((try simp) <;> omega)); (focus omega); (focus (go_simp; try exact rfl)); (focus (go_simp; try exact rfl)); (focus (go_simp; try exact rfl)); (focus (go_simp; try exact rfl)); (focus (go_simp; try exact rfl)); (focus (go_simp; try exact rfl)); (focus (intro o; go_simp)); intro cc cc cc cc cc cc fz hl; (with_reducible apply cel2 (b := w5.heap.size) hb_w7); (focus ((try simp) <;> omega)); (focus omega); (focus (go_simp; try exact rfl)); (focus (go_simp; try exact rfl)); (focus (intro o; go_simp)); intro cc cc fz hl); refine wp_region_warm (Own w7.heap.size w7) (by kernel_rfl) (by kernel_rfl) (Own.refl (Nat.le_refl _)).drew ?_
      repeat (first | (refine wpWarm_step_off rfl (fun K hK => ?_); (go_simp; refine hK _ ?_; clear hK K)) | (apply wpWarm_step rfl; (focus (intro W' hS; have hcS := hS.cells.1; have hfS := hS.cells.2; go_simp; (first | done | exact rfl | exact ⟨rfl, hS⟩ | (go_at_call 22; exact (CAT.out _ _ (by omega) (by omega)).mono (fun _ _ h => ⟨h.1, hS.call h.2⟩)) | (go_simp; exact rfl)))); (intro K hK; go_simp; (try go_bits); refine hK _ ?_; clear hK K)) | (apply wpWarm_step_on rfl; (focus (intro W' hS; have hcS := hS.cells.1; have hfS := hS.cells.2; go_simp; (first | done | exact rfl | exact ⟨rfl, hS⟩ | (go_at_call 22; exact (CAT.out _ _ (by omega) (by omega)).mono (fun _ _ h => ⟨h.1, hS.call h.2⟩)) | (go_simp; exact rfl)))); (intro K hK; go_simp; (try go_bits); refine hK _ ?_; clear hK K)))
      (refine wpWarm_nil ?_; intro w8 hO; have hz_w8 := hO.1; have hb_w8 := hO.2; clear hO; (with_reducible apply cel6 (b := w.heap.size) hb_w8); (focus ((try simp) <;> omega)); (focus omega); (focus (go_simp; try exact rfl)); (focus (go_simp; try exact rfl)); (focus (go_simp; try exact rfl)); (focus (go_simp; try exact rfl)); (focus (go_simp; try exact rfl)); (focus (go_simp; try exact rfl)); (focus (intro o; go_simp)); intro cc cc cc cc cc cc fz hl; (with_reducible apply cel2 (b := w5.heap.size) hb_w8); (focus ((try simp) <;> omega)); (focus omega); (focus (go_simp; try exact rfl)); (focus (go_simp; try exact rfl)); (focus (intro o; go_simp)); intro cc cc fz hl)
      go_wp2_with fail
      go_ret
      refine ⟨ret_bool ?_, ?_⟩
      · simp [hx0, hy0, hx9, hy9]
      · exact HBR.out.trans (show Below w.heap.size wr _ by ((with_reducible (repeat (first | exact bR _ _ | refine bS ?_ ?_ _ | refine bA ?_ ?_ _ | refine bD ?_ | refine bT ?_ (by assumption) ?_ | refine bO (by assumption) ?_ ?_))) <;> (first | omega | (simp; done) | (simp <;> omega))))
theorem places_any (px py vx vy hx hy : Int) (w : World) :
    Calls Try.prog 5 #[.agg #[.int .i64 px, .int .i64 py, .int .i64 vx, .int .i64 vy, .int .i64 hx, .int .i64 hy]] w fun e w' => e = .returned (.bool true) ∧ Below w.heap.size w w' := by
  cases h : validB px py vx vy hx hy
  · exact places_bad px py vx vy hx hy w h
  · exact places_good px py vx vy hx hy w h
end Go.Proofs.Ytkoejgpnlncgaaa
