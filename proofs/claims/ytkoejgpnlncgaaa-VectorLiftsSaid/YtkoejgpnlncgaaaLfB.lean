/- The contract of pinballref06.Lift. -/
import Derived.Test.YtkoejgpnlncgaaaLfP
import Derived.Deep.LoopGhost
namespace Go.Proofs.Ytkoejgpnlncgaaa
open Go Go.RowKit
set_option linter.unusedVariables false
set_option maxRecDepth 100000 in
set_option maxHeartbeats 40000000 in
theorem rlift_big (x1 x2 : Int) (l : List V2) (A : Option Addr) (c : Nat) (w : World) (hx : smallB x1 x2 = false) :
    Calls Try.prog 35 #[.agg #[.int .i64 x1, .int .i64 x2], .slice A l.length c] w fun e w' => e = .returned (.agg #[.int .i64 0, .int .i64 0]) ∧ Below w.heap.size w w' := by
  have ksm := fun w => rsmall_any x1 x2 w
  rw [hx] at ksm
  have KSM := Lib.hid ksm
  clear ksm hx
  go_enter Try.func35, Try.ntmps35; (try simp only [List.append_eq, List.cons_append, List.nil_append])
  go_wp2_with fail
  -- own blocks: w.heap.size:2, w.heap.size + 1:2
  (go_at_call 36; refine (KSM.out _).mono ?_; rintro e w1 ⟨rfl, hb_w1⟩; have hz_w1 := hb_w1.size; (try simp at hz_w1); (with_reducible apply cel2 (b := w.heap.size) hb_w1); (focus ((try simp) <;> omega)); (focus omega); (focus (go_simp; try exact rfl)); (focus (go_simp; try exact rfl)); (focus (intro o; go_simp)); intro cc cc fz hl; (with_reducible apply cel2 (b := w.heap.size + 1) hb_w1); (focus ((try simp) <;> omega)); (focus omega); (focus (go_simp; try exact rfl)); (focus (go_simp; try exact rfl)); (focus (intro o; go_simp)); intro cc cc fz hl)
  go_wp2_with fail
  refine bodyPost_ret (v := .agg #[.int .i64 0, .int .i64 0]) (by simp only [results, Try.results35]; go_simp) rfl ⟨?_, ?_⟩
  · rfl
  · ((with_reducible (repeat (first | exact bR _ _ | refine bS ?_ ?_ _ | refine bA ?_ ?_ _ | refine bD ?_ | refine bT ?_ (by assumption) ?_ | refine bO (by assumption) ?_ ?_))) <;> (first | omega | (simp; done) | (simp <;> omega)))
set_option maxRecDepth 100000 in
set_option maxHeartbeats 40000000 in
theorem rlift_bad (x1 x2 : Int) (l : List V2) (A : Option Addr) (c : Nat) (w : World) (hl : l.length ≤ 100) (hV : VAt w A l) (hx : smB (x1, x2) = true) (hs : l.all smB = false) :
    Calls Try.prog 35 #[.agg #[.int .i64 x1, .int .i64 x2], .slice A l.length c] w fun e w' => e = .returned (.agg #[.int .i64 0, .int .i64 0]) ∧ Below w.heap.size w w' := by
  have ksm := fun w => rsmall_any x1 x2 w
  rw [show smallB x1 x2 = true from hx] at ksm
  have KSM := Lib.hid ksm
  have HV := Lib.hid hV
  clear ksm hV
  have HS := Lib.hid hs
  clear hs hx
  go_enter Try.func35, Try.ntmps35; (try simp only [List.append_eq, List.cons_append, List.nil_append])
  go_wp2_with fail
  -- own blocks: w.heap.size:2, w.heap.size + 1:2
  (go_at_call 36; refine (KSM.out _).mono ?_; rintro e w1 ⟨rfl, hb_w1⟩; have hz_w1 := hb_w1.size; (try simp at hz_w1); (with_reducible apply cel2 (b := w.heap.size) hb_w1); (focus ((try simp) <;> omega)); (focus omega); (focus (go_simp; try exact rfl)); (focus (go_simp; try exact rfl)); (focus (intro o; go_simp)); intro cc cc fz hl; (with_reducible apply cel2 (b := w.heap.size + 1) hb_w1); (focus ((try simp) <;> omega)); (focus omega); (focus (go_simp; try exact rfl)); (focus (go_simp; try exact rfl)); (focus (intro o; go_simp)); intro cc cc fz hl)
  have HB1 := Lib.hid (show Below w.heap.size w w1 by ((with_reducible (repeat (first | exact bR _ _ | refine bS ?_ ?_ _ | refine bA ?_ ?_ _ | refine bD ?_ | refine bT ?_ (by assumption) ?_ | refine bO (by assumption) ?_ ?_))) <;> (first | omega | (simp; done) | (simp <;> omega))))
  have hz1 : w.heap.size + 1 + 1 ≤ w1.heap.size := by omega
  clear hb_w1
  go_wp2_with fail
  go_loopw [5] (fun t wr => ∃ k : Nat, k ≤ l.length ∧ t = .int .i64 k ∧ Hid ((l.take k).all smB = true) ∧ Below w1.heap.size w1 wr) (fun t _ => l.length - (intOf t).toNat)
  case atStart => exact ⟨0, by omega, rfl, Lib.hid rfl, Below.refl _ _⟩
  case round =>
    obtain ⟨k, hk, rfl, HA, hb_wr⟩ := hrel
    have hz_wr := hb_wr.size
    have HBW := Lib.hid hb_wr
    have HBr := Lib.hid (HB1.out.trans (hb_wr.mono (by omega)))
    have i1 : (0 : Int) ≤ (k : Int) := by omega
    (with_reducible apply cel2 (b := w.heap.size) hb_wr); (focus ((try simp) <;> omega)); (focus omega); (focus (go_simp; try exact rfl)); (focus (go_simp; try exact rfl)); (focus (intro o; go_simp)); intro cc cc fz hl; (with_reducible apply cel2 (b := w.heap.size + 1) hb_wr); (focus ((try simp) <;> omega)); (focus omega); (focus (go_simp; try exact rfl)); (focus (go_simp; try exact rfl)); (focus (intro o; go_simp)); intro cc cc fz hl
    by_cases hlt : k < l.length
    · obtain ⟨⟨a, b⟩, hx'⟩ : ∃ y, l[k]? = some y := ⟨l[k], by simp⟩
      obtain ⟨g, o, rfl, hg, a0, a1⟩ := (HV.out.below HBr.out (Nat.le_refl _)) k _ hx'
      have ks2 := fun w => rsmall_any a b w
      have hall := all_take_succ (p := smB) hx'
      have HL := Lib.hid hall
      have HE := Lib.hid hx'
      have i2 : (k : Int) < (l.length : Int) := by omega
      simp only at a0 a1
      clear hb_wr hx' hall
      cases hs2 : smallB a b
      · rw [hs2] at ks2
        have KS2 := Lib.hid ks2
        have HS2 := Lib.hid hs2
        clear ks2 hs2
        go_wp2_with fail
        (go_at_call 36; refine (KS2.out _).mono ?_; rintro e w2 ⟨rfl, hb_w2⟩; have hz_w2 := hb_w2.size; (try simp at hz_w2); (with_reducible apply cel2 (b := w.heap.size) hb_w2); (focus ((try simp) <;> omega)); (focus omega); (focus (go_simp; try exact rfl)); (focus (go_simp; try exact rfl)); (focus (intro o; go_simp)); intro cc cc fz hl; (with_reducible apply cel2 (b := w.heap.size + 1) hb_w2); (focus ((try simp) <;> omega)); (focus omega); (focus (go_simp; try exact rfl)); (focus (go_simp; try exact rfl)); (focus (intro o; go_simp)); intro cc cc fz hl)
        have HB2 := Lib.hid (HBr.out.trans (hb_w2.mono (by omega)))
        clear hb_w2
        go_wp2_with fail
        refine bodyPost_ret (v := .agg #[.int .i64 0, .int .i64 0]) (by simp only [results, Try.results35]; go_simp) rfl ⟨?_, ?_⟩
        · rfl
        · have hB := HB2.out; ((with_reducible (repeat (first | exact bR _ _ | refine bS ?_ ?_ _ | refine bA ?_ ?_ _ | refine bD ?_ | refine bT ?_ (by assumption) ?_ | refine bO (by assumption) ?_ ?_))) <;> (first | omega | (simp; done) | (simp <;> omega)))
      · rw [hs2] at ks2
        have KS2 := Lib.hid ks2
        have HS2 := Lib.hid (show (l.take (k + 1)).all smB = true by rw [HL.out, HA.out]; exact hs2)
        clear ks2 hs2
        go_wp2_with fail
        (go_at_call 36; refine (KS2.out _).mono ?_; rintro e w2 ⟨rfl, hb_w2⟩; have hz_w2 := hb_w2.size; (try simp at hz_w2); (with_reducible apply cel2 (b := w.heap.size) hb_w2); (focus ((try simp) <;> omega)); (focus omega); (focus (go_simp; try exact rfl)); (focus (go_simp; try exact rfl)); (focus (intro o; go_simp)); intro cc cc fz hl; (with_reducible apply cel2 (b := w.heap.size + 1) hb_w2); (focus ((try simp) <;> omega)); (focus omega); (focus (go_simp; try exact rfl)); (focus (go_simp; try exact rfl)); (focus (intro o; go_simp)); intro cc cc fz hl)
        have HB2 := Lib.hid (HBW.out.trans (hb_w2.mono hz_wr))
        clear hb_w2
        go_wp2_with fail
        go_roundw
        case rel => exact ⟨k + 1, by omega, by go_num, HS2, HB2.out⟩
        case measure => simp [intOf]; omega
    · obtain rfl : k = l.length := by omega
      have j5 : ¬ (l.length : Int) < (l.length : Int) := by omega
      rw [List.take_length] at HA
      clear hb_wr
      exfalso
      have h1 := HA.out
      rw [HS.out] at h1
      cases h1
set_option maxRecDepth 100000 in
set_option maxHeartbeats 40000000 in
theorem rlift_same (x1 x2 : Int) (l : List V2) (A : Option Addr) (c : Nat) (w : World) (hl : l.length ≤ 100) (hV : VAt w A l) (hx : smB (x1, x2) = true) (hs : ∀ n ∈ l, smB n = true) (ha : allowedR (x1, x2) l = true) :
    Calls Try.prog 35 #[.agg #[.int .i64 x1, .int .i64 x2], .slice A l.length c] w fun e w' => e = .returned (.agg #[.int .i64 x1, .int .i64 x2]) ∧ Below w.heap.size w w' := by
  have ksm := fun w => rsmall_any x1 x2 w
  rw [show smallB x1 x2 = true from hx] at ksm
  have KSM := Lib.hid ksm
  have HV := Lib.hid hV
  clear ksm hV
  have kag := fun w' hb => against_any (x1, x2) l A c w' hl (HV.out.below (B := w.heap.size) hb (Nat.le_refl _)) hx hs
  rw [ha] at kag
  simp only [Bool.not_true, Bool.not_false] at kag
  have KAG := Lib.hid kag
  have HS := Lib.hid hs
  clear kag ha
  clear hs hx
  go_enter Try.func35, Try.ntmps35; (try simp only [List.append_eq, List.cons_append, List.nil_append])
  go_wp2_with fail
  -- own blocks: w.heap.size:2, w.heap.size + 1:2
  (go_at_call 36; refine (KSM.out _).mono ?_; rintro e w1 ⟨rfl, hb_w1⟩; have hz_w1 := hb_w1.size; (try simp at hz_w1); (with_reducible apply cel2 (b := w.heap.size) hb_w1); (focus ((try simp) <;> omega)); (focus omega); (focus (go_simp; try exact rfl)); (focus (go_simp; try exact rfl)); (focus (intro o; go_simp)); intro cc cc fz hl; (with_reducible apply cel2 (b := w.heap.size + 1) hb_w1); (focus ((try simp) <;> omega)); (focus omega); (focus (go_simp; try exact rfl)); (focus (go_simp; try exact rfl)); (focus (intro o; go_simp)); intro cc cc fz hl)
  have HB1 := Lib.hid (show Below w.heap.size w w1 by ((with_reducible (repeat (first | exact bR _ _ | refine bS ?_ ?_ _ | refine bA ?_ ?_ _ | refine bD ?_ | refine bT ?_ (by assumption) ?_ | refine bO (by assumption) ?_ ?_))) <;> (first | omega | (simp; done) | (simp <;> omega))))
  have hz1 : w.heap.size + 1 + 1 ≤ w1.heap.size := by omega
  clear hb_w1
  go_wp2_with fail
  go_loopw [5] (fun t wr => ∃ k : Nat, k ≤ l.length ∧ t = .int .i64 k ∧ Hid ((l.take k).all smB = true) ∧ Below w1.heap.size w1 wr) (fun t _ => l.length - (intOf t).toNat)
  case atStart => exact ⟨0, by omega, rfl, Lib.hid rfl, Below.refl _ _⟩
  case round =>
    obtain ⟨k, hk, rfl, HA, hb_wr⟩ := hrel
    have hz_wr := hb_wr.size
    have HBW := Lib.hid hb_wr
    have HBr := Lib.hid (HB1.out.trans (hb_wr.mono (by omega)))
    have i1 : (0 : Int) ≤ (k : Int) := by omega
    (with_reducible apply cel2 (b := w.heap.size) hb_wr); (focus ((try simp) <;> omega)); (focus omega); (focus (go_simp; try exact rfl)); (focus (go_simp; try exact rfl)); (focus (intro o; go_simp)); intro cc cc fz hl; (with_reducible apply cel2 (b := w.heap.size + 1) hb_wr); (focus ((try simp) <;> omega)); (focus omega); (focus (go_simp; try exact rfl)); (focus (go_simp; try exact rfl)); (focus (intro o; go_simp)); intro cc cc fz hl
    by_cases hlt : k < l.length
    · obtain ⟨⟨a, b⟩, hx'⟩ : ∃ y, l[k]? = some y := ⟨l[k], by simp⟩
      obtain ⟨g, o, rfl, hg, a0, a1⟩ := (HV.out.below HBr.out (Nat.le_refl _)) k _ hx'
      have ks2 := fun w => rsmall_any a b w
      have hall := all_take_succ (p := smB) hx'
      have HL := Lib.hid hall
      have HE := Lib.hid hx'
      have i2 : (k : Int) < (l.length : Int) := by omega
      simp only at a0 a1
      clear hb_wr hx' hall
      cases hs2 : smallB a b
      · rw [hs2] at ks2
        have KS2 := Lib.hid ks2
        have HS2 := Lib.hid hs2
        clear ks2 hs2
        exact absurd (HS.out _ (List.mem_of_getElem? HE.out)) (by show ¬ smallB a b = true; rw [HS2.out]; decide)
      · rw [hs2] at ks2
        have KS2 := Lib.hid ks2
        have HS2 := Lib.hid (show (l.take (k + 1)).all smB = true by rw [HL.out, HA.out]; exact hs2)
        clear ks2 hs2
        go_wp2_with fail
        (go_at_call 36; refine (KS2.out _).mono ?_; rintro e w2 ⟨rfl, hb_w2⟩; have hz_w2 := hb_w2.size; (try simp at hz_w2); (with_reducible apply cel2 (b := w.heap.size) hb_w2); (focus ((try simp) <;> omega)); (focus omega); (focus (go_simp; try exact rfl)); (focus (go_simp; try exact rfl)); (focus (intro o; go_simp)); intro cc cc fz hl; (with_reducible apply cel2 (b := w.heap.size + 1) hb_w2); (focus ((try simp) <;> omega)); (focus omega); (focus (go_simp; try exact rfl)); (focus (go_simp; try exact rfl)); (focus (intro o; go_simp)); intro cc cc fz hl)
        have HB2 := Lib.hid (HBW.out.trans (hb_w2.mono hz_wr))
        clear hb_w2
        go_wp2_with fail
        go_roundw
        case rel => exact ⟨k + 1, by omega, by go_num, HS2, HB2.out⟩
        case measure => simp [intOf]; omega
    · obtain rfl : k = l.length := by omega
      have j5 : ¬ (l.length : Int) < (l.length : Int) := by omega
      rw [List.take_length] at HA
      clear hb_wr
      go_wp2_with fail
      (go_at_call 81; refine (KAG.out _ HBr.out).mono ?_; rintro e w3 ⟨rfl, hb_w3⟩; have hz_w3 := hb_w3.size; (try simp at hz_w3); (with_reducible apply cel2 (b := w.heap.size) hb_w3); (focus ((try simp) <;> omega)); (focus omega); (focus (go_simp; try exact rfl)); (focus (go_simp; try exact rfl)); (focus (intro o; go_simp)); intro cc cc fz hl; (with_reducible apply cel2 (b := w.heap.size + 1) hb_w3); (focus ((try simp) <;> omega)); (focus omega); (focus (go_simp; try exact rfl)); (focus (go_simp; try exact rfl)); (focus (intro o; go_simp)); intro cc cc fz hl)
      have HB3 := Lib.hid (HBr.out.trans (hb_w3.mono (by omega)))
      clear hb_w3
      go_wp2_with fail
      refine bodyPost_ret (v := .agg #[.int .i64 x1, .int .i64 x2]) (by simp only [results, Try.results35]; go_simp) rfl ⟨?_, ?_⟩
      · rfl
      · have hB := HB3.out; ((with_reducible (repeat (first | exact bR _ _ | refine bS ?_ ?_ _ | refine bA ?_ ?_ _ | refine bD ?_ | refine bT ?_ (by assumption) ?_ | refine bO (by assumption) ?_ ?_))) <;> (first | omega | (simp; done) | (simp <;> omega)))
set_option maxRecDepth 100000 in
set_option maxHeartbeats 40000000 in
theorem rlift_main (x1 x2 : Int) (l : List V2) (A : Option Addr) (c : Nat) (w : World) (hl : l.length ≤ 100) (hV : VAt w A l) (hx : smB (x1, x2) = true) (hs : ∀ n ∈ l, smB n = true) (ha : allowedR (x1, x2) l = false) :
    Calls Try.prog 35 #[.agg #[.int .i64 x1, .int .i64 x2], .slice A l.length c] w fun e w' => e = .returned (.agg #[.int .i64 (liftR (x1, x2) l).1, .int .i64 (liftR (x1, x2) l).2]) ∧ Below w.heap.size w w' := by
  obtain ⟨q1, q2, q3, q4⟩ := small_bd hx
  simp only at q1 q2 q3 q4
  have hR := ref_lift hx hs (by rw [ha]; decide)
  obtain ⟨R, hRe⟩ : ∃ R, R = liftR (x1, x2) l := ⟨_, rfl⟩
  rw [← hRe] at hR ⊢
  obtain ⟨R1, R2⟩ := R
  have HR := Lib.hid hR
  have HX := Lib.hid hx
  have HLL := Lib.hid hl
  simp only
  clear hR hRe
  have ksm := fun w => rsmall_any x1 x2 w
  rw [show smallB x1 x2 = true from hx] at ksm
  have KSM := Lib.hid ksm
  have HV := Lib.hid hV
  clear ksm hV
  have kag := fun w' hb => against_any (x1, x2) l A c w' hl (HV.out.below (B := w.heap.size) hb (Nat.le_refl _)) hx hs
  rw [ha] at kag
  simp only [Bool.not_true, Bool.not_false] at kag
  have KAG := Lib.hid kag
  have HS := Lib.hid hs
  clear kag ha
  clear hs hx
  go_enter Try.func35, Try.ntmps35; (try simp only [List.append_eq, List.cons_append, List.nil_append])
  go_wp2_with fail
  -- own blocks: w.heap.size:2, w.heap.size + 1:2
  (go_at_call 36; refine (KSM.out _).mono ?_; rintro e w1 ⟨rfl, hb_w1⟩; have hz_w1 := hb_w1.size; (try simp at hz_w1); (with_reducible apply cel2 (b := w.heap.size) hb_w1); (focus ((try simp) <;> omega)); (focus omega); (focus (go_simp; try exact rfl)); (focus (go_simp; try exact rfl)); (focus (intro o; go_simp)); intro cc cc fz hl; (with_reducible apply cel2 (b := w.heap.size + 1) hb_w1); (focus ((try simp) <;> omega)); (focus omega); (focus (go_simp; try exact rfl)); (focus (go_simp; try exact rfl)); (focus (intro o; go_simp)); intro cc cc fz hl)
  have HB1 := Lib.hid (show Below w.heap.size w w1 by ((with_reducible (repeat (first | exact bR _ _ | refine bS ?_ ?_ _ | refine bA ?_ ?_ _ | refine bD ?_ | refine bT ?_ (by assumption) ?_ | refine bO (by assumption) ?_ ?_))) <;> (first | omega | (simp; done) | (simp <;> omega))))
  have hz1 : w.heap.size + 1 + 1 ≤ w1.heap.size := by omega
  clear hb_w1
  go_wp2_with fail
  go_loopw [5] (fun t wr => ∃ k : Nat, k ≤ l.length ∧ t = .int .i64 k ∧ Hid ((l.take k).all smB = true) ∧ Below w1.heap.size w1 wr) (fun t _ => l.length - (intOf t).toNat)
  case atStart => exact ⟨0, by omega, rfl, Lib.hid rfl, Below.refl _ _⟩
  case round =>
    obtain ⟨k, hk, rfl, HA, hb_wr⟩ := hrel
    have hz_wr := hb_wr.size
    have HBW := Lib.hid hb_wr
    have HBr := Lib.hid (HB1.out.trans (hb_wr.mono (by omega)))
    have i1 : (0 : Int) ≤ (k : Int) := by omega
    (with_reducible apply cel2 (b := w.heap.size) hb_wr); (focus ((try simp) <;> omega)); (focus omega); (focus (go_simp; try exact rfl)); (focus (go_simp; try exact rfl)); (focus (intro o; go_simp)); intro cc cc fz hl; (with_reducible apply cel2 (b := w.heap.size + 1) hb_wr); (focus ((try simp) <;> omega)); (focus omega); (focus (go_simp; try exact rfl)); (focus (go_simp; try exact rfl)); (focus (intro o; go_simp)); intro cc cc fz hl
    by_cases hlt : k < l.length
    · obtain ⟨⟨a, b⟩, hx'⟩ : ∃ y, l[k]? = some y := ⟨l[k], by simp⟩
      obtain ⟨g, o, rfl, hg, a0, a1⟩ := (HV.out.below HBr.out (Nat.le_refl _)) k _ hx'
      have ks2 := fun w => rsmall_any a b w
      have hall := all_take_succ (p := smB) hx'
      have HL := Lib.hid hall
      have HE := Lib.hid hx'
      have i2 : (k : Int) < (l.length : Int) := by omega
      simp only at a0 a1
      clear hb_wr hx' hall
      cases hs2 : smallB a b
      · rw [hs2] at ks2
        have KS2 := Lib.hid ks2
        have HS2 := Lib.hid hs2
        clear ks2 hs2
        exact absurd (HS.out _ (List.mem_of_getElem? HE.out)) (by show ¬ smallB a b = true; rw [HS2.out]; decide)
      · rw [hs2] at ks2
        have KS2 := Lib.hid ks2
        have HS2 := Lib.hid (show (l.take (k + 1)).all smB = true by rw [HL.out, HA.out]; exact hs2)
        clear ks2 hs2
        go_wp2_with fail
        (go_at_call 36; refine (KS2.out _).mono ?_; rintro e w2 ⟨rfl, hb_w2⟩; have hz_w2 := hb_w2.size; (try simp at hz_w2); (with_reducible apply cel2 (b := w.heap.size) hb_w2); (focus ((try simp) <;> omega)); (focus omega); (focus (go_simp; try exact rfl)); (focus (go_simp; try exact rfl)); (focus (intro o; go_simp)); intro cc cc fz hl; (with_reducible apply cel2 (b := w.heap.size + 1) hb_w2); (focus ((try simp) <;> omega)); (focus omega); (focus (go_simp; try exact rfl)); (focus (go_simp; try exact rfl)); (focus (intro o; go_simp)); intro cc cc fz hl)
        have HB2 := Lib.hid (HBW.out.trans (hb_w2.mono hz_wr))
        clear hb_w2
        go_wp2_with fail
        go_roundw
        case rel => exact ⟨k + 1, by omega, by go_num, HS2, HB2.out⟩
        case measure => simp [intOf]; omega
    · obtain rfl : k = l.length := by omega
      have j5 : ¬ (l.length : Int) < (l.length : Int) := by omega
      rw [List.take_length] at HA
      clear hb_wr
      go_wp2_with fail
      (go_at_call 81; refine (KAG.out _ HBr.out).mono ?_; rintro e w3 ⟨rfl, hb_w3⟩; have hz_w3 := hb_w3.size; (try simp at hz_w3); (with_reducible apply cel2 (b := w.heap.size) hb_w3); (focus ((try simp) <;> omega)); (focus omega); (focus (go_simp; try exact rfl)); (focus (go_simp; try exact rfl)); (focus (intro o; go_simp)); intro cc cc fz hl; (with_reducible apply cel2 (b := w.heap.size + 1) hb_w3); (focus ((try simp) <;> omega)); (focus omega); (focus (go_simp; try exact rfl)); (focus (go_simp; try exact rfl)); (focus (intro o; go_simp)); intro cc cc fz hl)
      have HB3 := Lib.hid (HBr.out.trans (hb_w3.mono (by omega)))
      have hz3 : w.heap.size + 1 + 1 ≤ w3.heap.size := by omega
      clear hb_w3
      go_wp2_with fail
      go_loopw [6, 7] (fun va vi ws => ∃ (k : Nat) (B : Option Addr) (d : Nat) (bs : List V2), k ≤ l.length ∧ vi = .int .i64 k ∧ va = .slice B bs.length d ∧ OwnN ws w3.heap.size B d bs ∧ Below w3.heap.size w3 ws ∧ Hid (bs = (0, 0) :: negR (x1, x2) (l.take k))) (fun _ vi _ => l.length - (intOf vi).toNat)
      case atStart => exact ⟨0, some ⟨w3.heap.size, 0, none⟩, 1, [(0, 0)], by omega, rfl, rfl, own_new w3 w3.heap.size 23 2 1 #[.int .i64 0, .int .i64 0] (Nat.le_refl _) rfl (by decide), by ((with_reducible (repeat (first | exact bR _ _ | refine bS ?_ ?_ _ | refine bA ?_ ?_ _ | refine bD ?_ | refine bT ?_ (by assumption) ?_ | refine bO (by assumption) ?_ ?_))) <;> (first | omega | (simp; done) | (simp <;> omega))), Lib.hid rfl⟩
      case round =>
        obtain ⟨ws, rfl⟩ : ∃ z, z = wr := ⟨_, rfl⟩
        obtain ⟨k, B, d, bs, hk, rfl, rfl, hown, hb_ws, HBS⟩ := hrel
        have hz_ws := hb_ws.size
        have HO := Lib.hid hown
        have HBW2 := Lib.hid hb_ws
        have HBs := Lib.hid (HB3.out.trans (hb_ws.mono (by omega)))
        have hbl : bs.length ≤ 401 := by
          have h := neg_len (x1, x2) (l.take k)
          rw [List.length_take] at h
          rw [HBS.out, List.length_cons]
          omega
        have i1 : (0 : Int) ≤ (k : Int) := by omega
        -- own blocks: w.heap.size:2, w.heap.size + 1:2
        (with_reducible apply cel2 (b := w.heap.size) hb_ws); (focus ((try simp) <;> omega)); (focus omega); (focus (go_simp; try exact rfl)); (focus (go_simp; try exact rfl)); (focus (intro o; go_simp)); intro cc cc fz hl; (with_reducible apply cel2 (b := w.heap.size + 1) hb_ws); (focus ((try simp) <;> omega)); (focus omega); (focus (go_simp; try exact rfl)); (focus (go_simp; try exact rfl)); (focus (intro o; go_simp)); intro cc cc fz hl
        clear hown
        by_cases hlt : k < l.length
        · obtain ⟨⟨a, b⟩, hx'⟩ : ∃ y, l[k]? = some y := ⟨l[k], by simp⟩
          obtain ⟨g, o, rfl, hg0, _, _⟩ := HV.out k _ hx'
          obtain ⟨g', o', hgo, hg', a0, a1⟩ := (HV.out.below HBs.out (Nat.le_refl _)) k _ hx'
          simp only [Option.some.injEq, Addr.mk.injEq, and_true] at hgo
          obtain ⟨rfl, rfl⟩ := hgo
          have hnk := neg_take (x := (x1, x2)) hx'
          have HE := Lib.hid hx'
          have hsab := HS.out _ (List.mem_of_getElem? hx')
          have kd := fun w => rdot_any x1 x2 a b w
          obtain ⟨E, hE⟩ : ∃ E, E = vd (x1, x2) (a, b) := ⟨_, rfl⟩
          rw [show dotR x1 x2 a b = vd (x1, x2) (a, b) from if_pos ⟨HX.out, hsab⟩, ← hE] at kd
          have hco := fun (h : E < 0) w => corners_any x1 x2 a b w HX.out hsab (by rw [← hE]; exact h)
          obtain ⟨cs, hcs⟩ : ∃ cs, cs = cornersR (x1, x2) (a, b) := ⟨_, rfl⟩
          have hcs4 : cs.length = 4 := by rw [hcs]; rfl
          rw [← hcs, ← hE] at hnk
          rw [← hcs] at hco
          unfold VRout at hco
          rw [hcs4] at hco
          have KD := Lib.hid kd
          have KCO := Lib.hid hco
          have HNK := Lib.hid hnk
          have HC4 := Lib.hid hcs4
          have i2 : (k : Int) < (l.length : Int) := by omega
          have q5 : w.heap.size < w3.heap.size := by omega
          have q6 : w.heap.size + 1 < w3.heap.size := by omega
          have q7 : g < w3.heap.size := by omega
          simp only at a0 a1
          clear hb_ws hx' hnk hsab kd hco hcs hcs4 hE
          by_cases hneg : E < 0
          · have KCO2 := Lib.hid (KCO.out hneg)
            have HN := Lib.hid (show bs ++ cs = (0, 0) :: negR (x1, x2) (l.take (k + 1)) by rw [HNK.out, if_pos hneg, HBS.out]; rfl)
            clear KCO
            go_wp2_with fail
            refine wp_region_warm (Own ws.heap.size ws) (by kernel_rfl) (by kernel_rfl) (Own.refl (Nat.le_refl _)).drew ?_
            repeat (first | (refine wpWarm_step_off rfl (fun K hK => ?_); (go_simp; refine hK _ ?_; clear hK K)) | (apply wpWarm_step rfl; (focus (intro W' hS; have hcS := hS.cells.1; have hfS := hS.cells.2; go_simp; (first | done | exact rfl | exact ⟨rfl, hS⟩ | (go_at_call 51; exact (KD.out _).mono (fun _ _ h => ⟨h.1, hS.call h.2⟩)) | (go_simp; exact rfl)))); (intro K hK; go_simp; (try go_bits); refine hK _ ?_; clear hK K)) | (apply wpWarm_step_on rfl; (focus (intro W' hS; have hcS := hS.cells.1; have hfS := hS.cells.2; go_simp; (first | done | exact rfl | exact ⟨rfl, hS⟩ | (go_at_call 51; exact (KD.out _).mono (fun _ _ h => ⟨h.1, hS.call h.2⟩)) | (go_simp; exact rfl)))); (intro K hK; go_simp; (try go_bits); refine hK _ ?_; clear hK K)))
            refine wpWarm_nil ?_
            intro w5 hO5
            have hb_w5 := hO5.2
            have hz_w5 := hO5.1
            clear hO5
            (with_reducible apply cel2 (b := w.heap.size) hb_w5); (focus ((try simp) <;> omega)); (focus omega); (focus (go_simp; try exact rfl)); (focus (go_simp; try exact rfl)); (focus (intro o; go_simp)); intro cc cc fz hl; (with_reducible apply cel2 (b := w.heap.size + 1) hb_w5); (focus ((try simp) <;> omega)); (focus omega); (focus (go_simp; try exact rfl)); (focus (go_simp; try exact rfl)); (focus (intro o; go_simp)); intro cc cc fz hl
            have b0 : w5.cell? ⟨g, o + k * 2, none⟩ = some (.int .i64 a) := (hb_w5.cell (p := ⟨g, o + k * 2, none⟩) hg').trans a0
            have b1 : w5.cell? ⟨g, o + k * 2 + 1, none⟩ = some (.int .i64 b) := (hb_w5.cell (p := ⟨g, o + k * 2 + 1, none⟩) hg').trans a1
            have HO5 := Lib.hid (HO.out.bel hb_w5 (Nat.le_refl _))
            have HB5 := Lib.hid (HBW2.out.trans (hb_w5.mono (by omega)))
            clear hb_w5 a0 a1
            go_wp2_with fail
            obtain ⟨i0, hi0, hy⟩ := Option.map_eq_some_iff.1 vecInfo
            simp only [Prod.mk.injEq] at hy
            obtain ⟨hy0, hy1, hy2⟩ := hy
            have hc4 := HC4.out
            refine wp_region_floatQ w3.heap.size 9 [] (by omega) (fun W => OwnN W w3.heap.size B d bs) HO5.out (OwnN.cl _ _ _ _) (by kernel_rfl) (by kernel_rfl) ?_
            refine wpQI_start [0, 1, 2, 3, 4, 5] ?_; (iterate 6 (first | (refine wpQI_off (by with_reducible (refine List.getElem?_toArray.trans ?_; (repeat (first | exact List.getElem?_cons_zero | refine List.getElem?_cons_succ.trans ?_)))) (by kernel_rfl) (by exact rfl) (fun K hK => ?_); go_simp; refine hK _ ?_; clear hK K) | ((first | apply wpQI_step (by with_reducible (refine List.getElem?_toArray.trans ?_; (repeat (first | exact List.getElem?_cons_zero | refine List.getElem?_cons_succ.trans ?_)))) (by kernel_rfl) (by exact rfl) | apply wpQI_on (by with_reducible (refine List.getElem?_toArray.trans ?_; (repeat (first | exact List.getElem?_cons_zero | refine List.getElem?_cons_succ.trans ?_)))) (by kernel_rfl) (by exact rfl)); (focus (intro W' hS; have hcS := hS.cells.1; have hfS := hS.cells.2; go_simp; (first | done | exact rfl | exact ⟨rfl, Below.refl _ _⟩ | (go_simp; first | done | exact rfl | exact ⟨rfl, Below.refl _ _⟩)))); intro K hK; go_simp; (try go_bits); refine hK _ ?_; clear hK K))); refine wpQI_nil ?_
            apply wpQ_call (i := 6) (by with_reducible (refine List.getElem?_toArray.trans ?_; (repeat (first | exact List.getElem?_cons_zero | refine List.getElem?_cons_succ.trans ?_)))) (by kernel_rfl) (by exact rfl); intro W hF hS; have hcS := hS.1.cells.1; have hfS := hS.1.cells.2; go_simp; (go_at_call 82; refine (KCO2.out _).mono ?_; rintro e w8 ⟨hb_w8, g8, rfl, hg8, hv8⟩; refine XPost.mk _ (fun W => VR g8 cs W) hb_w8 (hv8) (VR.cl _ _) ?_); clear hb_w8 hcS hfS hS hF
            intro K hK; go_simp; (try go_bits); refine hK _ ?_; clear hK K
            apply wpQ_wild (i := 7) rfl (by kernel_rfl) (by kernel_rfl); intro W hF hS; have hcS := hS.1.cells.1; have hfS := hS.1.cells.2; refine givesW_appG (.tmp 49) (.tmp 55) 44 rfl w3.heap.size 23 i0 _ 2 16 Try.underlying44 hi0 hy0 hy1 hy2 rfl (by decide) (.slice B bs.length d) bs.length (flatV bs) rfl hF.1 ⟨g8, 0, none⟩ 4 4 (flatV cs) rfl (by rw [flatV_len, hc4]) hF.2.2 (flatV_one cs) (by simp [maxLen]; omega) (by omega) hS.1.1 ?_
            intro v7 w9 ho9 hg9 _
            obtain ⟨B', d', rfl⟩ := own_slice ho9
            refine WPost.mk _ (fun W' => OwnN W' w3.heap.size B' d' (bs ++ cs)) [] (ownn_app (by rw [hc4]) ho9) (OwnN.cl _ _ _ _) ⟨Own.grown hS.1 hg9 (fun q hq => (World.ownsRow.lt hF.1 q hq).1), fun p hp => by cases hp⟩ ?_
            clear hS hF ho9 hg9 hcS hfS hv8 hg8
            intro K hK; go_simp; refine hK _ ?_; clear hK K
            refine wpQI_start [8] ?_; (iterate 1 (first | (refine wpQI_off (by with_reducible (refine List.getElem?_toArray.trans ?_; (repeat (first | exact List.getElem?_cons_zero | refine List.getElem?_cons_succ.trans ?_)))) (by kernel_rfl) (by exact rfl) (fun K hK => ?_); go_simp; refine hK _ ?_; clear hK K) | ((first | apply wpQI_step (by with_reducible (refine List.getElem?_toArray.trans ?_; (repeat (first | exact List.getElem?_cons_zero | refine List.getElem?_cons_succ.trans ?_)))) (by kernel_rfl) (by exact rfl) | apply wpQI_on (by with_reducible (refine List.getElem?_toArray.trans ?_; (repeat (first | exact List.getElem?_cons_zero | refine List.getElem?_cons_succ.trans ?_)))) (by kernel_rfl) (by exact rfl)); (focus (intro W' hS; have hcS := hS.cells.1; have hfS := hS.cells.2; go_simp; (first | done | exact rfl | exact ⟨rfl, Below.refl _ _⟩ | (go_simp; first | done | exact rfl | exact ⟨rfl, Below.refl _ _⟩)))); intro K hK; go_simp; (try go_bits); refine hK _ ?_; clear hK K))); refine wpQI_nil ?_
            -- own blocks: 
            refine wpQ_done (by kernel_rfl) ?_
            intro w10 hF_w10 hSG
            have hz_w10 := hSG.1.1
            have hb_w10 := hSG.1.2
            clear hSG
            skip
            (try simp only [List.filterMap_cons, List.filterMap_nil, List.getElem?_cons_succ, List.getElem?_cons_zero])
            have HO10 := Lib.hid (show OwnN w10 w3.heap.size B' d' (bs ++ cs) from hF_w10)
            have HB10 := Lib.hid (HB5.out.trans hb_w10)
            clear hF_w10 hb_w10
            go_wp2_with fail
            go_roundw
            case rel => exact ⟨k + 1, B', d', bs ++ cs, by omega, by go_num, by rw [List.length_append, hc4], HO10.out, HB10.out, HN⟩
            case measure => simp [intOf]; omega
          · have HN := Lib.hid (show bs = (0, 0) :: negR (x1, x2) (l.take (k + 1)) by rw [HNK.out, if_neg hneg, List.append_nil]; exact HBS.out)
            clear KCO
            go_wp2_with fail
            refine wp_region_warm (Own ws.heap.size ws) (by kernel_rfl) (by kernel_rfl) (Own.refl (Nat.le_refl _)).drew ?_
            repeat (first | (refine wpWarm_step_off rfl (fun K hK => ?_); (go_simp; refine hK _ ?_; clear hK K)) | (apply wpWarm_step rfl; (focus (intro W' hS; have hcS := hS.cells.1; have hfS := hS.cells.2; go_simp; (first | done | exact rfl | exact ⟨rfl, hS⟩ | (go_at_call 51; exact (KD.out _).mono (fun _ _ h => ⟨h.1, hS.call h.2⟩)) | (go_simp; exact rfl)))); (intro K hK; go_simp; (try go_bits); refine hK _ ?_; clear hK K)) | (apply wpWarm_step_on rfl; (focus (intro W' hS; have hcS := hS.cells.1; have hfS := hS.cells.2; go_simp; (first | done | exact rfl | exact ⟨rfl, hS⟩ | (go_at_call 51; exact (KD.out _).mono (fun _ _ h => ⟨h.1, hS.call h.2⟩)) | (go_simp; exact rfl)))); (intro K hK; go_simp; (try go_bits); refine hK _ ?_; clear hK K)))
            refine wpWarm_nil ?_
            intro w5 hO5
            have HO5 := Lib.hid (HO.out.bel hO5.2 (Nat.le_refl _))
            have HB5 := Lib.hid (HBW2.out.trans (hO5.2.mono (by omega)))
            clear hO5
            go_wp2_with fail
            go_roundw
            case rel => exact ⟨k + 1, B, d, bs, by omega, by go_num, rfl, HO5.out, HB5.out, HN⟩
            case measure => simp [intOf]; omega
        · obtain rfl : k = l.length := by omega
          have j7 : ¬ (l.length : Int) < (l.length : Int) := by omega
          rw [List.take_length] at HBS
          clear hb_ws
          go_wp2_with fail
          go_loopw [9, 10, 11] (fun vs vi _ wt => ∃ (k : Nat) (b1 b2 : Int) (sv : Bool), k ≤ bs.length ∧ vi = .int .i64 k ∧ vs = .bool sv ∧ Below ws.heap.size ws wt ∧ ws.heap.size + 1 ≤ wt.heap.size ∧ wt.cell? ⟨ws.heap.size, 0, none⟩ = some (.int .i64 b1) ∧ wt.cell? ⟨ws.heap.size, 1, none⟩ = some (.int .i64 b2) ∧ (∀ o, wt.frozen? ⟨ws.heap.size, o, none⟩ = false) ∧
              Hid ((bs.take k).foldl (refS (x1, x2) l) ((0, 0), false) = ((b1, b2), sv))) (fun _ vi _ _ => bs.length - (intOf vi).toNat)
          case atStart => exact ⟨0, 0, 0, false, by omega, rfl, rfl, by ((with_reducible (repeat (first | exact bR _ _ | refine bS ?_ ?_ _ | refine bA ?_ ?_ _ | refine bD ?_ | refine bT ?_ (by assumption) ?_ | refine bO (by assumption) ?_ ?_))) <;> (first | omega | (simp; done) | (simp <;> omega))), by (try simp) <;> omega, by go_simp, by go_simp, by intro o; go_simp, Lib.hid rfl⟩
          case round =>
            obtain ⟨wt, rfl⟩ : ∃ z, z = wr := ⟨_, rfl⟩
            obtain ⟨k, b1, b2, sv, hk, rfl, rfl, hb_wt, hzt, e0, e1, fzb, HK⟩ := hrel
            have hz_wt := hb_wt.size
            have HBt := Lib.hid hb_wt
            have i1 : (0 : Int) ≤ (k : Int) := by omega
            have hlb : ws.heap.size < wt.heap.size ∧ ws.heap.size < wt.heap.size + 1 ∧ ws.heap.size < wt.heap.size + 1 + 1 ∧ ws.heap.size < wt.heap.size + 1 + 1 + 1 := by omega
            have hsm : smB (b1, b2) = true := by have h := @ref_sm (x1, x2) l (bs.take k) ((0, 0), false) (by decide); rw [HK.out] at h; exact h
            obtain ⟨s1, s2, s3, s4⟩ := small_bd hsm
            simp only at s1 s2 s3 s4
            have HSM := Lib.hid hsm
            -- own blocks: w.heap.size:2, w.heap.size + 1:2
            (with_reducible apply cel2 (b := w.heap.size) hb_wt); (focus ((try simp) <;> omega)); (focus omega); (focus (go_simp; try exact rfl)); (focus (go_simp; try exact rfl)); (focus (intro o; go_simp)); intro cc cc fz hl; (with_reducible apply cel2 (b := w.heap.size + 1) hb_wt); (focus ((try simp) <;> omega)); (focus omega); (focus (go_simp; try exact rfl)); (focus (go_simp; try exact rfl)); (focus (intro o; go_simp)); intro cc cc fz hl
            clear hsm
            by_cases hlt : k < bs.length
            · obtain ⟨⟨y1, y2⟩, hy⟩ : ∃ y, bs[k]? = some y := ⟨bs[k], by simp⟩
              obtain ⟨gy, oy, rfl, hgy, y0, y0'⟩ := (HO.out.bel hb_wt (Nat.le_refl _)).vat k _ hy
              have hstep : (bs.take (k + 1)).foldl (refS (x1, x2) l) ((0, 0), false) = refS (x1, x2) l ((b1, b2), sv) (y1, y2) := by rw [ref_take hy, HK.out]
              have HST := Lib.hid hstep
              have i2 : (k : Int) < (bs.length : Int) := by omega
              have ky := fun w => rsmall_any y1 y2 w
              simp only at y0 y0'
              clear hb_wt hy hstep
              cases hys : smallB y1 y2
              · rw [hys] at ky
                have KY := Lib.hid ky
                have HN := Lib.hid (show (bs.take (k + 1)).foldl (refS (x1, x2) l) ((0, 0), false) = ((b1, b2), sv) by rw [HST.out]; exact if_neg (fun h => by have h1 : smallB y1 y2 = true := h.1; rw [hys] at h1; cases h1))
                clear ky hys
                go_wp2_with fail
                -- own blocks: w.heap.size:2, w.heap.size + 1:2, ws.heap.size:2, wt.heap.size:2
                (go_at_call 36; refine (KY.out _).mono ?_; rintro e w12 ⟨rfl, hb_w12⟩; have hz_w12 := hb_w12.size; (try simp at hz_w12); (with_reducible apply cel2 (b := w.heap.size) hb_w12); (focus ((try simp) <;> omega)); (focus omega); (focus (go_simp; try exact rfl)); (focus (go_simp; try exact rfl)); (focus (intro o; go_simp)); intro cc cc fz hl; (with_reducible apply cel2 (b := w.heap.size + 1) hb_w12); (focus ((try simp) <;> omega)); (focus omega); (focus (go_simp; try exact rfl)); (focus (go_simp; try exact rfl)); (focus (intro o; go_simp)); intro cc cc fz hl; (with_reducible apply cel2 (b := ws.heap.size) hb_w12); (focus ((try simp) <;> omega)); (focus omega); (focus (go_simp; try exact rfl)); (focus (go_simp; try exact rfl)); (focus (intro o; go_simp)); intro cc cc fz hl; (with_reducible apply cel2 (b := wt.heap.size) hb_w12); (focus ((try simp) <;> omega)); (focus omega); (focus (go_simp; try exact rfl)); (focus (go_simp; try exact rfl)); (focus (intro o; go_simp)); intro cc cc fz hl)
                have HB12 := Lib.hid (show Below ws.heap.size ws w12 by have hB := HBt.out; ((with_reducible (repeat (first | exact bR _ _ | refine bS ?_ ?_ _ | refine bA ?_ ?_ _ | refine bD ?_ | refine bT ?_ (by assumption) ?_ | refine bO (by assumption) ?_ ?_))) <;> (first | omega | (simp; done) | (simp <;> omega))))
                have hz12 : ws.heap.size + 1 ≤ w12.heap.size := by omega
                clear hb_w12
                go_wp2_with fail
                go_roundw
                case rel => exact ⟨k + 1, b1, b2, sv, by omega, by go_num, rfl, by have hB := HB12.out; ((with_reducible (repeat (first | exact bR _ _ | refine bS ?_ ?_ _ | refine bA ?_ ?_ _ | refine bD ?_ | refine bT ?_ (by assumption) ?_ | refine bO (by assumption) ?_ ?_))) <;> (first | omega | (simp; done) | (simp <;> omega))), by (try simp) <;> omega, by go_simp, by go_simp, by intro o; go_simp, HN⟩
                case measure => simp [intOf]; omega
              · rw [hys] at ky
                have KY := Lib.hid ky
                have hY : smB (y1, y2) = true := hys
                have kay := fun w' hb => against_any (y1, y2) l A c w' HLL.out (HV.out.below (B := w.heap.size) hb (Nat.le_refl _)) hY HS.out
                have kbe := fun w => better_any x1 x2 y1 y2 b1 b2 w HX.out hY HSM.out
                obtain ⟨t1, t2, t3, t4⟩ := small_bd hY
                simp only at t1 t2 t3 t4
                have HY := Lib.hid hY
                clear ky hys hY
                cases hya : allowedR (y1, y2) l
                · rw [hya] at kay
                  simp only [Bool.not_false] at kay
                  have KAY := Lib.hid kay
                  have HN := Lib.hid (show (bs.take (k + 1)).foldl (refS (x1, x2) l) ((0, 0), false) = ((b1, b2), sv) by rw [HST.out]; exact if_neg (fun h => by have h1 := h.2.1; rw [hya] at h1; cases h1))
                  clear kay hya kbe
                  go_wp2_with fail
                  -- own blocks: w.heap.size:2, w.heap.size + 1:2, ws.heap.size:2, wt.heap.size:2
                  (go_at_call 36; refine (KY.out _).mono ?_; rintro e w12 ⟨rfl, hb_w12⟩; have hz_w12 := hb_w12.size; (try simp at hz_w12); (with_reducible apply cel2 (b := w.heap.size) hb_w12); (focus ((try simp) <;> omega)); (focus omega); (focus (go_simp; try exact rfl)); (focus (go_simp; try exact rfl)); (focus (intro o; go_simp)); intro cc cc fz hl; (with_reducible apply cel2 (b := w.heap.size + 1) hb_w12); (focus ((try simp) <;> omega)); (focus omega); (focus (go_simp; try exact rfl)); (focus (go_simp; try exact rfl)); (focus (intro o; go_simp)); intro cc cc fz hl; (with_reducible apply cel2 (b := ws.heap.size) hb_w12); (focus ((try simp) <;> omega)); (focus omega); (focus (go_simp; try exact rfl)); (focus (go_simp; try exact rfl)); (focus (intro o; go_simp)); intro cc cc fz hl; (with_reducible apply cel2 (b := wt.heap.size) hb_w12); (focus ((try simp) <;> omega)); (focus omega); (focus (go_simp; try exact rfl)); (focus (go_simp; try exact rfl)); (focus (intro o; go_simp)); intro cc cc fz hl)
                  have HB12 := Lib.hid (show Below ws.heap.size ws w12 by have hB := HBt.out; ((with_reducible (repeat (first | exact bR _ _ | refine bS ?_ ?_ _ | refine bA ?_ ?_ _ | refine bD ?_ | refine bT ?_ (by assumption) ?_ | refine bO (by assumption) ?_ ?_))) <;> (first | omega | (simp; done) | (simp <;> omega))))
                  have hz12 : ws.heap.size + 1 ≤ w12.heap.size := by omega
                  clear hb_w12
                  go_wp2_with fail
                  (go_at_call 81; refine (KAY.out _ (HBs.out.trans (HB12.out.mono (by omega)))).mono ?_; rintro e w13 ⟨rfl, hb_w13⟩; have hz_w13 := hb_w13.size; (try simp at hz_w13); (with_reducible apply cel2 (b := w.heap.size) hb_w13); (focus ((try simp) <;> omega)); (focus omega); (focus (go_simp; try exact rfl)); (focus (go_simp; try exact rfl)); (focus (intro o; go_simp)); intro cc cc fz hl; (with_reducible apply cel2 (b := w.heap.size + 1) hb_w13); (focus ((try simp) <;> omega)); (focus omega); (focus (go_simp; try exact rfl)); (focus (go_simp; try exact rfl)); (focus (intro o; go_simp)); intro cc cc fz hl; (with_reducible apply cel2 (b := ws.heap.size) hb_w13); (focus ((try simp) <;> omega)); (focus omega); (focus (go_simp; try exact rfl)); (focus (go_simp; try exact rfl)); (focus (intro o; go_simp)); intro cc cc fz hl; (with_reducible apply cel2 (b := wt.heap.size) hb_w13); (focus ((try simp) <;> omega)); (focus omega); (focus (go_simp; try exact rfl)); (focus (go_simp; try exact rfl)); (focus (intro o; go_simp)); intro cc cc fz hl)
                  have HB13 := Lib.hid (HB12.out.trans (hb_w13.mono (by omega)))
                  have hz13 : ws.heap.size + 1 ≤ w13.heap.size := by omega
                  clear hb_w13
                  go_wp2_with fail
                  go_roundw
                  case rel => exact ⟨k + 1, b1, b2, sv, by omega, by go_num, rfl, by have hB := HB13.out; ((with_reducible (repeat (first | exact bR _ _ | refine bS ?_ ?_ _ | refine bA ?_ ?_ _ | refine bD ?_ | refine bT ?_ (by assumption) ?_ | refine bO (by assumption) ?_ ?_))) <;> (first | omega | (simp; done) | (simp <;> omega))), by (try simp) <;> omega, by go_simp, by go_simp, by intro o; go_simp, HN⟩
                  case measure => simp [intOf]; omega
                · rw [hya] at kay
                  simp only [Bool.not_true] at kay
                  have KAY := Lib.hid kay
                  have HYA := Lib.hid hya
                  clear kay hya
                  by_cases heq : y1 = b1 ∧ y2 = b2
                  · obtain ⟨rfl, rfl⟩ := heq
                    have HN := Lib.hid (show (bs.take (k + 1)).foldl (refS (x1, x2) l) ((0, 0), false) = ((y1, y2), sv) by rw [HST.out]; exact if_neg (fun h => h.2.2 rfl))
                    clear kbe
                    go_wp2_with fail
                    -- own blocks: w.heap.size:2, w.heap.size + 1:2, ws.heap.size:2, wt.heap.size:2
                    (go_at_call 36; refine (KY.out _).mono ?_; rintro e w12 ⟨rfl, hb_w12⟩; have hz_w12 := hb_w12.size; (try simp at hz_w12); (with_reducible apply cel2 (b := w.heap.size) hb_w12); (focus ((try simp) <;> omega)); (focus omega); (focus (go_simp; try exact rfl)); (focus (go_simp; try exact rfl)); (focus (intro o; go_simp)); intro cc cc fz hl; (with_reducible apply cel2 (b := w.heap.size + 1) hb_w12); (focus ((try simp) <;> omega)); (focus omega); (focus (go_simp; try exact rfl)); (focus (go_simp; try exact rfl)); (focus (intro o; go_simp)); intro cc cc fz hl; (with_reducible apply cel2 (b := ws.heap.size) hb_w12); (focus ((try simp) <;> omega)); (focus omega); (focus (go_simp; try exact rfl)); (focus (go_simp; try exact rfl)); (focus (intro o; go_simp)); intro cc cc fz hl; (with_reducible apply cel2 (b := wt.heap.size) hb_w12); (focus ((try simp) <;> omega)); (focus omega); (focus (go_simp; try exact rfl)); (focus (go_simp; try exact rfl)); (focus (intro o; go_simp)); intro cc cc fz hl)
                    have HB12 := Lib.hid (show Below ws.heap.size ws w12 by have hB := HBt.out; ((with_reducible (repeat (first | exact bR _ _ | refine bS ?_ ?_ _ | refine bA ?_ ?_ _ | refine bD ?_ | refine bT ?_ (by assumption) ?_ | refine bO (by assumption) ?_ ?_))) <;> (first | omega | (simp; done) | (simp <;> omega))))
                    have hz12 : ws.heap.size + 1 ≤ w12.heap.size := by omega
                    clear hb_w12
                    go_wp2_with fail
                    (go_at_call 81; refine (KAY.out _ (HBs.out.trans (HB12.out.mono (by omega)))).mono ?_; rintro e w13 ⟨rfl, hb_w13⟩; have hz_w13 := hb_w13.size; (try simp at hz_w13); (with_reducible apply cel2 (b := w.heap.size) hb_w13); (focus ((try simp) <;> omega)); (focus omega); (focus (go_simp; try exact rfl)); (focus (go_simp; try exact rfl)); (focus (intro o; go_simp)); intro cc cc fz hl; (with_reducible apply cel2 (b := w.heap.size + 1) hb_w13); (focus ((try simp) <;> omega)); (focus omega); (focus (go_simp; try exact rfl)); (focus (go_simp; try exact rfl)); (focus (intro o; go_simp)); intro cc cc fz hl; (with_reducible apply cel2 (b := ws.heap.size) hb_w13); (focus ((try simp) <;> omega)); (focus omega); (focus (go_simp; try exact rfl)); (focus (go_simp; try exact rfl)); (focus (intro o; go_simp)); intro cc cc fz hl; (with_reducible apply cel2 (b := wt.heap.size) hb_w13); (focus ((try simp) <;> omega)); (focus omega); (focus (go_simp; try exact rfl)); (focus (go_simp; try exact rfl)); (focus (intro o; go_simp)); intro cc cc fz hl)
                    have HB13 := Lib.hid (HB12.out.trans (hb_w13.mono (by omega)))
                    have hz13 : ws.heap.size + 1 ≤ w13.heap.size := by omega
                    clear hb_w13
                    go_wp2_with fail
                    go_roundw
                    case rel => exact ⟨k + 1, y1, y2, sv, by omega, by go_num, rfl, by have hB := HB13.out; ((with_reducible (repeat (first | exact bR _ _ | refine bS ?_ ?_ _ | refine bA ?_ ?_ _ | refine bD ?_ | refine bT ?_ (by assumption) ?_ | refine bO (by assumption) ?_ ?_))) <;> (first | omega | (simp; done) | (simp <;> omega))), by (try simp) <;> omega, by go_simp, by go_simp, by intro o; go_simp, HN⟩
                    case measure => simp [intOf]; omega
                  · have hne : ¬ (y1, y2) = (b1, b2) := fun h => heq ⟨congrArg Prod.fst h, congrArg Prod.snd h⟩
                    have hres : refS (x1, x2) l ((b1, b2), sv) (y1, y2) = if betR (x1, x2) (y1, y2) (b1, b2) = 1 then ((y1, y2), false) else if betR (x1, x2) (y1, y2) (b1, b2) = 0 then ((b1, b2), true) else ((b1, b2), sv) := if_pos ⟨HY.out, HYA.out, hne⟩
                    have hbb := (@bet_one (x1, x2) (y1, y2) (b1, b2)).2.2
                    obtain ⟨be, hbe⟩ : ∃ be, be = betR (x1, x2) (y1, y2) (b1, b2) := ⟨_, rfl⟩
                    rw [← hbe] at hres kbe hbb
                    have HRS := Lib.hid hres
                    have KBE := Lib.hid kbe
                    have h4 : (¬ y1 = b1) ∨ (y1 = b1 ∧ ¬ y2 = b2) := by omega
                    have h5 : be = 1 ∨ be = 0 ∨ be = -1 := by omega
                    clear kbe hres hne heq hbe hbb
                    rcases h4 with h4 | ⟨rfl, h4⟩
                    · rcases h5 with rfl | rfl | rfl
                      · have HN := Lib.hid (show (bs.take (k + 1)).foldl (refS (x1, x2) l) ((0, 0), false) = ((y1, y2), false) by rw [HST.out, HRS.out]; exact if_pos rfl)
                        go_wp2_with fail
                        -- own blocks: w.heap.size:2, w.heap.size + 1:2, ws.heap.size:2, wt.heap.size:2
                        (go_at_call 36; refine (KY.out _).mono ?_; rintro e w12 ⟨rfl, hb_w12⟩; have hz_w12 := hb_w12.size; (try simp at hz_w12); (with_reducible apply cel2 (b := w.heap.size) hb_w12); (focus ((try simp) <;> omega)); (focus omega); (focus (go_simp; try exact rfl)); (focus (go_simp; try exact rfl)); (focus (intro o; go_simp)); intro cc cc fz hl; (with_reducible apply cel2 (b := w.heap.size + 1) hb_w12); (focus ((try simp) <;> omega)); (focus omega); (focus (go_simp; try exact rfl)); (focus (go_simp; try exact rfl)); (focus (intro o; go_simp)); intro cc cc fz hl; (with_reducible apply cel2 (b := ws.heap.size) hb_w12); (focus ((try simp) <;> omega)); (focus omega); (focus (go_simp; try exact rfl)); (focus (go_simp; try exact rfl)); (focus (intro o; go_simp)); intro cc cc fz hl; (with_reducible apply cel2 (b := wt.heap.size) hb_w12); (focus ((try simp) <;> omega)); (focus omega); (focus (go_simp; try exact rfl)); (focus (go_simp; try exact rfl)); (focus (intro o; go_simp)); intro cc cc fz hl)
                        have HB12 := Lib.hid (show Below ws.heap.size ws w12 by have hB := HBt.out; ((with_reducible (repeat (first | exact bR _ _ | refine bS ?_ ?_ _ | refine bA ?_ ?_ _ | refine bD ?_ | refine bT ?_ (by assumption) ?_ | refine bO (by assumption) ?_ ?_))) <;> (first | omega | (simp; done) | (simp <;> omega))))
                        have hz12 : ws.heap.size + 1 ≤ w12.heap.size := by omega
                        clear hb_w12
                        go_wp2_with fail
                        (go_at_call 81; refine (KAY.out _ (HBs.out.trans (HB12.out.mono (by omega)))).mono ?_; rintro e w13 ⟨rfl, hb_w13⟩; have hz_w13 := hb_w13.size; (try simp at hz_w13); (with_reducible apply cel2 (b := w.heap.size) hb_w13); (focus ((try simp) <;> omega)); (focus omega); (focus (go_simp; try exact rfl)); (focus (go_simp; try exact rfl)); (focus (intro o; go_simp)); intro cc cc fz hl; (with_reducible apply cel2 (b := w.heap.size + 1) hb_w13); (focus ((try simp) <;> omega)); (focus omega); (focus (go_simp; try exact rfl)); (focus (go_simp; try exact rfl)); (focus (intro o; go_simp)); intro cc cc fz hl; (with_reducible apply cel2 (b := ws.heap.size) hb_w13); (focus ((try simp) <;> omega)); (focus omega); (focus (go_simp; try exact rfl)); (focus (go_simp; try exact rfl)); (focus (intro o; go_simp)); intro cc cc fz hl; (with_reducible apply cel2 (b := wt.heap.size) hb_w13); (focus ((try simp) <;> omega)); (focus omega); (focus (go_simp; try exact rfl)); (focus (go_simp; try exact rfl)); (focus (intro o; go_simp)); intro cc cc fz hl)
                        have HB13 := Lib.hid (HB12.out.trans (hb_w13.mono (by omega)))
                        have hz13 : ws.heap.size + 1 ≤ w13.heap.size := by omega
                        clear hb_w13
                        go_wp2_with fail
                        (go_at_call 83; refine (KBE.out _).mono ?_; rintro e w14 ⟨rfl, hb_w14⟩; have hz_w14 := hb_w14.size; (try simp at hz_w14); (with_reducible apply cel2 (b := w.heap.size) hb_w14); (focus ((try simp) <;> omega)); (focus omega); (focus (go_simp; try exact rfl)); (focus (go_simp; try exact rfl)); (focus (intro o; go_simp)); intro cc cc fz hl; (with_reducible apply cel2 (b := w.heap.size + 1) hb_w14); (focus ((try simp) <;> omega)); (focus omega); (focus (go_simp; try exact rfl)); (focus (go_simp; try exact rfl)); (focus (intro o; go_simp)); intro cc cc fz hl; (with_reducible apply cel2 (b := ws.heap.size) hb_w14); (focus ((try simp) <;> omega)); (focus omega); (focus (go_simp; try exact rfl)); (focus (go_simp; try exact rfl)); (focus (intro o; go_simp)); intro cc cc fz hl; (with_reducible apply cel2 (b := wt.heap.size) hb_w14); (focus ((try simp) <;> omega)); (focus omega); (focus (go_simp; try exact rfl)); (focus (go_simp; try exact rfl)); (focus (intro o; go_simp)); intro cc cc fz hl)
                        have HB14 := Lib.hid (HB13.out.trans (hb_w14.mono (by omega)))
                        have hz14 : ws.heap.size + 1 ≤ w14.heap.size := by omega
                        clear hb_w14
                        go_wp2_with fail
                        go_roundw
                        case rel => exact ⟨k + 1, y1, y2, false, by omega, by go_num, rfl, by have hB := HB14.out; ((with_reducible (repeat (first | exact bR _ _ | refine bS ?_ ?_ _ | refine bA ?_ ?_ _ | refine bD ?_ | refine bT ?_ (by assumption) ?_ | refine bO (by assumption) ?_ ?_))) <;> (first | omega | (simp; done) | (simp <;> omega))), by (try simp) <;> omega, by go_simp, by go_simp, by intro o; go_simp, HN⟩
                        case measure => simp [intOf]; omega
                      · have HN := Lib.hid (show (bs.take (k + 1)).foldl (refS (x1, x2) l) ((0, 0), false) = ((b1, b2), true) by rw [HST.out, HRS.out]; exact (if_neg (by decide)).trans (if_pos rfl))
                        go_wp2_with fail
                        -- own blocks: w.heap.size:2, w.heap.size + 1:2, ws.heap.size:2, wt.heap.size:2
                        (go_at_call 36; refine (KY.out _).mono ?_; rintro e w12 ⟨rfl, hb_w12⟩; have hz_w12 := hb_w12.size; (try simp at hz_w12); (with_reducible apply cel2 (b := w.heap.size) hb_w12); (focus ((try simp) <;> omega)); (focus omega); (focus (go_simp; try exact rfl)); (focus (go_simp; try exact rfl)); (focus (intro o; go_simp)); intro cc cc fz hl; (with_reducible apply cel2 (b := w.heap.size + 1) hb_w12); (focus ((try simp) <;> omega)); (focus omega); (focus (go_simp; try exact rfl)); (focus (go_simp; try exact rfl)); (focus (intro o; go_simp)); intro cc cc fz hl; (with_reducible apply cel2 (b := ws.heap.size) hb_w12); (focus ((try simp) <;> omega)); (focus omega); (focus (go_simp; try exact rfl)); (focus (go_simp; try exact rfl)); (focus (intro o; go_simp)); intro cc cc fz hl; (with_reducible apply cel2 (b := wt.heap.size) hb_w12); (focus ((try simp) <;> omega)); (focus omega); (focus (go_simp; try exact rfl)); (focus (go_simp; try exact rfl)); (focus (intro o; go_simp)); intro cc cc fz hl)
                        have HB12 := Lib.hid (show Below ws.heap.size ws w12 by have hB := HBt.out; ((with_reducible (repeat (first | exact bR _ _ | refine bS ?_ ?_ _ | refine bA ?_ ?_ _ | refine bD ?_ | refine bT ?_ (by assumption) ?_ | refine bO (by assumption) ?_ ?_))) <;> (first | omega | (simp; done) | (simp <;> omega))))
                        have hz12 : ws.heap.size + 1 ≤ w12.heap.size := by omega
                        clear hb_w12
                        go_wp2_with fail
                        (go_at_call 81; refine (KAY.out _ (HBs.out.trans (HB12.out.mono (by omega)))).mono ?_; rintro e w13 ⟨rfl, hb_w13⟩; have hz_w13 := hb_w13.size; (try simp at hz_w13); (with_reducible apply cel2 (b := w.heap.size) hb_w13); (focus ((try simp) <;> omega)); (focus omega); (focus (go_simp; try exact rfl)); (focus (go_simp; try exact rfl)); (focus (intro o; go_simp)); intro cc cc fz hl; (with_reducible apply cel2 (b := w.heap.size + 1) hb_w13); (focus ((try simp) <;> omega)); (focus omega); (focus (go_simp; try exact rfl)); (focus (go_simp; try exact rfl)); (focus (intro o; go_simp)); intro cc cc fz hl; (with_reducible apply cel2 (b := ws.heap.size) hb_w13); (focus ((try simp) <;> omega)); (focus omega); (focus (go_simp; try exact rfl)); (focus (go_simp; try exact rfl)); (focus (intro o; go_simp)); intro cc cc fz hl; (with_reducible apply cel2 (b := wt.heap.size) hb_w13); (focus ((try simp) <;> omega)); (focus omega); (focus (go_simp; try exact rfl)); (focus (go_simp; try exact rfl)); (focus (intro o; go_simp)); intro cc cc fz hl)
                        have HB13 := Lib.hid (HB12.out.trans (hb_w13.mono (by omega)))
                        have hz13 : ws.heap.size + 1 ≤ w13.heap.size := by omega
                        clear hb_w13
                        go_wp2_with fail
                        (go_at_call 83; refine (KBE.out _).mono ?_; rintro e w14 ⟨rfl, hb_w14⟩; have hz_w14 := hb_w14.size; (try simp at hz_w14); (with_reducible apply cel2 (b := w.heap.size) hb_w14); (focus ((try simp) <;> omega)); (focus omega); (focus (go_simp; try exact rfl)); (focus (go_simp; try exact rfl)); (focus (intro o; go_simp)); intro cc cc fz hl; (with_reducible apply cel2 (b := w.heap.size + 1) hb_w14); (focus ((try simp) <;> omega)); (focus omega); (focus (go_simp; try exact rfl)); (focus (go_simp; try exact rfl)); (focus (intro o; go_simp)); intro cc cc fz hl; (with_reducible apply cel2 (b := ws.heap.size) hb_w14); (focus ((try simp) <;> omega)); (focus omega); (focus (go_simp; try exact rfl)); (focus (go_simp; try exact rfl)); (focus (intro o; go_simp)); intro cc cc fz hl; (with_reducible apply cel2 (b := wt.heap.size) hb_w14); (focus ((try simp) <;> omega)); (focus omega); (focus (go_simp; try exact rfl)); (focus (go_simp; try exact rfl)); (focus (intro o; go_simp)); intro cc cc fz hl)
                        have HB14 := Lib.hid (HB13.out.trans (hb_w14.mono (by omega)))
                        have hz14 : ws.heap.size + 1 ≤ w14.heap.size := by omega
                        clear hb_w14
                        go_wp2_with fail
                        go_roundw
                        case rel => exact ⟨k + 1, b1, b2, true, by omega, by go_num, rfl, by have hB := HB14.out; ((with_reducible (repeat (first | exact bR _ _ | refine bS ?_ ?_ _ | refine bA ?_ ?_ _ | refine bD ?_ | refine bT ?_ (by assumption) ?_ | refine bO (by assumption) ?_ ?_))) <;> (first | omega | (simp; done) | (simp <;> omega))), by (try simp) <;> omega, by go_simp, by go_simp, by intro o; go_simp, HN⟩
                        case measure => simp [intOf]; omega
                      · have HN := Lib.hid (show (bs.take (k + 1)).foldl (refS (x1, x2) l) ((0, 0), false) = ((b1, b2), sv) by rw [HST.out, HRS.out]; exact (if_neg (by decide)).trans (if_neg (by decide)))
                        go_wp2_with fail
                        -- own blocks: w.heap.size:2, w.heap.size + 1:2, ws.heap.size:2, wt.heap.size:2
                        (go_at_call 36; refine (KY.out _).mono ?_; rintro e w12 ⟨rfl, hb_w12⟩; have hz_w12 := hb_w12.size; (try simp at hz_w12); (with_reducible apply cel2 (b := w.heap.size) hb_w12); (focus ((try simp) <;> omega)); (focus omega); (focus (go_simp; try exact rfl)); (focus (go_simp; try exact rfl)); (focus (intro o; go_simp)); intro cc cc fz hl; (with_reducible apply cel2 (b := w.heap.size + 1) hb_w12); (focus ((try simp) <;> omega)); (focus omega); (focus (go_simp; try exact rfl)); (focus (go_simp; try exact rfl)); (focus (intro o; go_simp)); intro cc cc fz hl; (with_reducible apply cel2 (b := ws.heap.size) hb_w12); (focus ((try simp) <;> omega)); (focus omega); (focus (go_simp; try exact rfl)); (focus (go_simp; try exact rfl)); (focus (intro o; go_simp)); intro cc cc fz hl; (with_reducible apply cel2 (b := wt.heap.size) hb_w12); (focus ((try simp) <;> omega)); (focus omega); (focus (go_simp; try exact rfl)); (focus (go_simp; try exact rfl)); (focus (intro o; go_simp)); intro cc cc fz hl)
                        have HB12 := Lib.hid (show Below ws.heap.size ws w12 by have hB := HBt.out; ((with_reducible (repeat (first | exact bR _ _ | refine bS ?_ ?_ _ | refine bA ?_ ?_ _ | refine bD ?_ | refine bT ?_ (by assumption) ?_ | refine bO (by assumption) ?_ ?_))) <;> (first | omega | (simp; done) | (simp <;> omega))))
                        have hz12 : ws.heap.size + 1 ≤ w12.heap.size := by omega
                        clear hb_w12
                        go_wp2_with fail
                        (go_at_call 81; refine (KAY.out _ (HBs.out.trans (HB12.out.mono (by omega)))).mono ?_; rintro e w13 ⟨rfl, hb_w13⟩; have hz_w13 := hb_w13.size; (try simp at hz_w13); (with_reducible apply cel2 (b := w.heap.size) hb_w13); (focus ((try simp) <;> omega)); (focus omega); (focus (go_simp; try exact rfl)); (focus (go_simp; try exact rfl)); (focus (intro o; go_simp)); intro cc cc fz hl; (with_reducible apply cel2 (b := w.heap.size + 1) hb_w13); (focus ((try simp) <;> omega)); (focus omega); (focus (go_simp; try exact rfl)); (focus (go_simp; try exact rfl)); (focus (intro o; go_simp)); intro cc cc fz hl; (with_reducible apply cel2 (b := ws.heap.size) hb_w13); (focus ((try simp) <;> omega)); (focus omega); (focus (go_simp; try exact rfl)); (focus (go_simp; try exact rfl)); (focus (intro o; go_simp)); intro cc cc fz hl; (with_reducible apply cel2 (b := wt.heap.size) hb_w13); (focus ((try simp) <;> omega)); (focus omega); (focus (go_simp; try exact rfl)); (focus (go_simp; try exact rfl)); (focus (intro o; go_simp)); intro cc cc fz hl)
                        have HB13 := Lib.hid (HB12.out.trans (hb_w13.mono (by omega)))
                        have hz13 : ws.heap.size + 1 ≤ w13.heap.size := by omega
                        clear hb_w13
                        go_wp2_with fail
                        (go_at_call 83; refine (KBE.out _).mono ?_; rintro e w14 ⟨rfl, hb_w14⟩; have hz_w14 := hb_w14.size; (try simp at hz_w14); (with_reducible apply cel2 (b := w.heap.size) hb_w14); (focus ((try simp) <;> omega)); (focus omega); (focus (go_simp; try exact rfl)); (focus (go_simp; try exact rfl)); (focus (intro o; go_simp)); intro cc cc fz hl; (with_reducible apply cel2 (b := w.heap.size + 1) hb_w14); (focus ((try simp) <;> omega)); (focus omega); (focus (go_simp; try exact rfl)); (focus (go_simp; try exact rfl)); (focus (intro o; go_simp)); intro cc cc fz hl; (with_reducible apply cel2 (b := ws.heap.size) hb_w14); (focus ((try simp) <;> omega)); (focus omega); (focus (go_simp; try exact rfl)); (focus (go_simp; try exact rfl)); (focus (intro o; go_simp)); intro cc cc fz hl; (with_reducible apply cel2 (b := wt.heap.size) hb_w14); (focus ((try simp) <;> omega)); (focus omega); (focus (go_simp; try exact rfl)); (focus (go_simp; try exact rfl)); (focus (intro o; go_simp)); intro cc cc fz hl)
                        have HB14 := Lib.hid (HB13.out.trans (hb_w14.mono (by omega)))
                        have hz14 : ws.heap.size + 1 ≤ w14.heap.size := by omega
                        clear hb_w14
                        go_wp2_with fail
                        go_roundw
                        case rel => exact ⟨k + 1, b1, b2, sv, by omega, by go_num, rfl, by have hB := HB14.out; ((with_reducible (repeat (first | exact bR _ _ | refine bS ?_ ?_ _ | refine bA ?_ ?_ _ | refine bD ?_ | refine bT ?_ (by assumption) ?_ | refine bO (by assumption) ?_ ?_))) <;> (first | omega | (simp; done) | (simp <;> omega))), by (try simp) <;> omega, by go_simp, by go_simp, by intro o; go_simp, HN⟩
                        case measure => simp [intOf]; omega
                    · rcases h5 with rfl | rfl | rfl
                      · have HN := Lib.hid (show (bs.take (k + 1)).foldl (refS (x1, x2) l) ((0, 0), false) = ((y1, y2), false) by rw [HST.out, HRS.out]; exact if_pos rfl)
                        go_wp2_with fail
                        -- own blocks: w.heap.size:2, w.heap.size + 1:2, ws.heap.size:2, wt.heap.size:2
                        (go_at_call 36; refine (KY.out _).mono ?_; rintro e w12 ⟨rfl, hb_w12⟩; have hz_w12 := hb_w12.size; (try simp at hz_w12); (with_reducible apply cel2 (b := w.heap.size) hb_w12); (focus ((try simp) <;> omega)); (focus omega); (focus (go_simp; try exact rfl)); (focus (go_simp; try exact rfl)); (focus (intro o; go_simp)); intro cc cc fz hl; (with_reducible apply cel2 (b := w.heap.size + 1) hb_w12); (focus ((try simp) <;> omega)); (focus omega); (focus (go_simp; try exact rfl)); (focus (go_simp; try exact rfl)); (focus (intro o; go_simp)); intro cc cc fz hl; (with_reducible apply cel2 (b := ws.heap.size) hb_w12); (focus ((try simp) <;> omega)); (focus omega); (focus (go_simp; try exact rfl)); (focus (go_simp; try exact rfl)); (focus (intro o; go_simp)); intro cc cc fz hl; (with_reducible apply cel2 (b := wt.heap.size) hb_w12); (focus ((try simp) <;> omega)); (focus omega); (focus (go_simp; try exact rfl)); (focus (go_simp; try exact rfl)); (focus (intro o; go_simp)); intro cc cc fz hl)
                        have HB12 := Lib.hid (show Below ws.heap.size ws w12 by have hB := HBt.out; ((with_reducible (repeat (first | exact bR _ _ | refine bS ?_ ?_ _ | refine bA ?_ ?_ _ | refine bD ?_ | refine bT ?_ (by assumption) ?_ | refine bO (by assumption) ?_ ?_))) <;> (first | omega | (simp; done) | (simp <;> omega))))
                        have hz12 : ws.heap.size + 1 ≤ w12.heap.size := by omega
                        clear hb_w12
                        go_wp2_with fail
                        (go_at_call 81; refine (KAY.out _ (HBs.out.trans (HB12.out.mono (by omega)))).mono ?_; rintro e w13 ⟨rfl, hb_w13⟩; have hz_w13 := hb_w13.size; (try simp at hz_w13); (with_reducible apply cel2 (b := w.heap.size) hb_w13); (focus ((try simp) <;> omega)); (focus omega); (focus (go_simp; try exact rfl)); (focus (go_simp; try exact rfl)); (focus (intro o; go_simp)); intro cc cc fz hl; (with_reducible apply cel2 (b := w.heap.size + 1) hb_w13); (focus ((try simp) <;> omega)); (focus omega); (focus (go_simp; try exact rfl)); (focus (go_simp; try exact rfl)); (focus (intro o; go_simp)); intro cc cc fz hl; (with_reducible apply cel2 (b := ws.heap.size) hb_w13); (focus ((try simp) <;> omega)); (focus omega); (focus (go_simp; try exact rfl)); (focus (go_simp; try exact rfl)); (focus (intro o; go_simp)); intro cc cc fz hl; (with_reducible apply cel2 (b := wt.heap.size) hb_w13); (focus ((try simp) <;> omega)); (focus omega); (focus (go_simp; try exact rfl)); (focus (go_simp; try exact rfl)); (focus (intro o; go_simp)); intro cc cc fz hl)
                        have HB13 := Lib.hid (HB12.out.trans (hb_w13.mono (by omega)))
                        have hz13 : ws.heap.size + 1 ≤ w13.heap.size := by omega
                        clear hb_w13
                        go_wp2_with fail
                        (go_at_call 83; refine (KBE.out _).mono ?_; rintro e w14 ⟨rfl, hb_w14⟩; have hz_w14 := hb_w14.size; (try simp at hz_w14); (with_reducible apply cel2 (b := w.heap.size) hb_w14); (focus ((try simp) <;> omega)); (focus omega); (focus (go_simp; try exact rfl)); (focus (go_simp; try exact rfl)); (focus (intro o; go_simp)); intro cc cc fz hl; (with_reducible apply cel2 (b := w.heap.size + 1) hb_w14); (focus ((try simp) <;> omega)); (focus omega); (focus (go_simp; try exact rfl)); (focus (go_simp; try exact rfl)); (focus (intro o; go_simp)); intro cc cc fz hl; (with_reducible apply cel2 (b := ws.heap.size) hb_w14); (focus ((try simp) <;> omega)); (focus omega); (focus (go_simp; try exact rfl)); (focus (go_simp; try exact rfl)); (focus (intro o; go_simp)); intro cc cc fz hl; (with_reducible apply cel2 (b := wt.heap.size) hb_w14); (focus ((try simp) <;> omega)); (focus omega); (focus (go_simp; try exact rfl)); (focus (go_simp; try exact rfl)); (focus (intro o; go_simp)); intro cc cc fz hl)
                        have HB14 := Lib.hid (HB13.out.trans (hb_w14.mono (by omega)))
                        have hz14 : ws.heap.size + 1 ≤ w14.heap.size := by omega
                        clear hb_w14
                        go_wp2_with fail
                        go_roundw
                        case rel => exact ⟨k + 1, y1, y2, false, by omega, by go_num, rfl, by have hB := HB14.out; ((with_reducible (repeat (first | exact bR _ _ | refine bS ?_ ?_ _ | refine bA ?_ ?_ _ | refine bD ?_ | refine bT ?_ (by assumption) ?_ | refine bO (by assumption) ?_ ?_))) <;> (first | omega | (simp; done) | (simp <;> omega))), by (try simp) <;> omega, by go_simp, by go_simp, by intro o; go_simp, HN⟩
                        case measure => simp [intOf]; omega
                      · have HN := Lib.hid (show (bs.take (k + 1)).foldl (refS (x1, x2) l) ((0, 0), false) = ((y1, b2), true) by rw [HST.out, HRS.out]; exact (if_neg (by decide)).trans (if_pos rfl))
                        go_wp2_with fail
                        -- own blocks: w.heap.size:2, w.heap.size + 1:2, ws.heap.size:2, wt.heap.size:2
                        (go_at_call 36; refine (KY.out _).mono ?_; rintro e w12 ⟨rfl, hb_w12⟩; have hz_w12 := hb_w12.size; (try simp at hz_w12); (with_reducible apply cel2 (b := w.heap.size) hb_w12); (focus ((try simp) <;> omega)); (focus omega); (focus (go_simp; try exact rfl)); (focus (go_simp; try exact rfl)); (focus (intro o; go_simp)); intro cc cc fz hl; (with_reducible apply cel2 (b := w.heap.size + 1) hb_w12); (focus ((try simp) <;> omega)); (focus omega); (focus (go_simp; try exact rfl)); (focus (go_simp; try exact rfl)); (focus (intro o; go_simp)); intro cc cc fz hl; (with_reducible apply cel2 (b := ws.heap.size) hb_w12); (focus ((try simp) <;> omega)); (focus omega); (focus (go_simp; try exact rfl)); (focus (go_simp; try exact rfl)); (focus (intro o; go_simp)); intro cc cc fz hl; (with_reducible apply cel2 (b := wt.heap.size) hb_w12); (focus ((try simp) <;> omega)); (focus omega); (focus (go_simp; try exact rfl)); (focus (go_simp; try exact rfl)); (focus (intro o; go_simp)); intro cc cc fz hl)
                        have HB12 := Lib.hid (show Below ws.heap.size ws w12 by have hB := HBt.out; ((with_reducible (repeat (first | exact bR _ _ | refine bS ?_ ?_ _ | refine bA ?_ ?_ _ | refine bD ?_ | refine bT ?_ (by assumption) ?_ | refine bO (by assumption) ?_ ?_))) <;> (first | omega | (simp; done) | (simp <;> omega))))
                        have hz12 : ws.heap.size + 1 ≤ w12.heap.size := by omega
                        clear hb_w12
                        go_wp2_with fail
                        (go_at_call 81; refine (KAY.out _ (HBs.out.trans (HB12.out.mono (by omega)))).mono ?_; rintro e w13 ⟨rfl, hb_w13⟩; have hz_w13 := hb_w13.size; (try simp at hz_w13); (with_reducible apply cel2 (b := w.heap.size) hb_w13); (focus ((try simp) <;> omega)); (focus omega); (focus (go_simp; try exact rfl)); (focus (go_simp; try exact rfl)); (focus (intro o; go_simp)); intro cc cc fz hl; (with_reducible apply cel2 (b := w.heap.size + 1) hb_w13); (focus ((try simp) <;> omega)); (focus omega); (focus (go_simp; try exact rfl)); (focus (go_simp; try exact rfl)); (focus (intro o; go_simp)); intro cc cc fz hl; (with_reducible apply cel2 (b := ws.heap.size) hb_w13); (focus ((try simp) <;> omega)); (focus omega); (focus (go_simp; try exact rfl)); (focus (go_simp; try exact rfl)); (focus (intro o; go_simp)); intro cc cc fz hl; (with_reducible apply cel2 (b := wt.heap.size) hb_w13); (focus ((try simp) <;> omega)); (focus omega); (focus (go_simp; try exact rfl)); (focus (go_simp; try exact rfl)); (focus (intro o; go_simp)); intro cc cc fz hl)
                        have HB13 := Lib.hid (HB12.out.trans (hb_w13.mono (by omega)))
                        have hz13 : ws.heap.size + 1 ≤ w13.heap.size := by omega
                        clear hb_w13
                        go_wp2_with fail
                        (go_at_call 83; refine (KBE.out _).mono ?_; rintro e w14 ⟨rfl, hb_w14⟩; have hz_w14 := hb_w14.size; (try simp at hz_w14); (with_reducible apply cel2 (b := w.heap.size) hb_w14); (focus ((try simp) <;> omega)); (focus omega); (focus (go_simp; try exact rfl)); (focus (go_simp; try exact rfl)); (focus (intro o; go_simp)); intro cc cc fz hl; (with_reducible apply cel2 (b := w.heap.size + 1) hb_w14); (focus ((try simp) <;> omega)); (focus omega); (focus (go_simp; try exact rfl)); (focus (go_simp; try exact rfl)); (focus (intro o; go_simp)); intro cc cc fz hl; (with_reducible apply cel2 (b := ws.heap.size) hb_w14); (focus ((try simp) <;> omega)); (focus omega); (focus (go_simp; try exact rfl)); (focus (go_simp; try exact rfl)); (focus (intro o; go_simp)); intro cc cc fz hl; (with_reducible apply cel2 (b := wt.heap.size) hb_w14); (focus ((try simp) <;> omega)); (focus omega); (focus (go_simp; try exact rfl)); (focus (go_simp; try exact rfl)); (focus (intro o; go_simp)); intro cc cc fz hl)
                        have HB14 := Lib.hid (HB13.out.trans (hb_w14.mono (by omega)))
                        have hz14 : ws.heap.size + 1 ≤ w14.heap.size := by omega
                        clear hb_w14
                        go_wp2_with fail
                        go_roundw
                        case rel => exact ⟨k + 1, y1, b2, true, by omega, by go_num, rfl, by have hB := HB14.out; ((with_reducible (repeat (first | exact bR _ _ | refine bS ?_ ?_ _ | refine bA ?_ ?_ _ | refine bD ?_ | refine bT ?_ (by assumption) ?_ | refine bO (by assumption) ?_ ?_))) <;> (first | omega | (simp; done) | (simp <;> omega))), by (try simp) <;> omega, by go_simp, by go_simp, by intro o; go_simp, HN⟩
                        case measure => simp [intOf]; omega
                      · have HN := Lib.hid (show (bs.take (k + 1)).foldl (refS (x1, x2) l) ((0, 0), false) = ((y1, b2), sv) by rw [HST.out, HRS.out]; exact (if_neg (by decide)).trans (if_neg (by decide)))
                        go_wp2_with fail
                        -- own blocks: w.heap.size:2, w.heap.size + 1:2, ws.heap.size:2, wt.heap.size:2
                        (go_at_call 36; refine (KY.out _).mono ?_; rintro e w12 ⟨rfl, hb_w12⟩; have hz_w12 := hb_w12.size; (try simp at hz_w12); (with_reducible apply cel2 (b := w.heap.size) hb_w12); (focus ((try simp) <;> omega)); (focus omega); (focus (go_simp; try exact rfl)); (focus (go_simp; try exact rfl)); (focus (intro o; go_simp)); intro cc cc fz hl; (with_reducible apply cel2 (b := w.heap.size + 1) hb_w12); (focus ((try simp) <;> omega)); (focus omega); (focus (go_simp; try exact rfl)); (focus (go_simp; try exact rfl)); (focus (intro o; go_simp)); intro cc cc fz hl; (with_reducible apply cel2 (b := ws.heap.size) hb_w12); (focus ((try simp) <;> omega)); (focus omega); (focus (go_simp; try exact rfl)); (focus (go_simp; try exact rfl)); (focus (intro o; go_simp)); intro cc cc fz hl; (with_reducible apply cel2 (b := wt.heap.size) hb_w12); (focus ((try simp) <;> omega)); (focus omega); (focus (go_simp; try exact rfl)); (focus (go_simp; try exact rfl)); (focus (intro o; go_simp)); intro cc cc fz hl)
                        have HB12 := Lib.hid (show Below ws.heap.size ws w12 by have hB := HBt.out; ((with_reducible (repeat (first | exact bR _ _ | refine bS ?_ ?_ _ | refine bA ?_ ?_ _ | refine bD ?_ | refine bT ?_ (by assumption) ?_ | refine bO (by assumption) ?_ ?_))) <;> (first | omega | (simp; done) | (simp <;> omega))))
                        have hz12 : ws.heap.size + 1 ≤ w12.heap.size := by omega
                        clear hb_w12
                        go_wp2_with fail
                        (go_at_call 81; refine (KAY.out _ (HBs.out.trans (HB12.out.mono (by omega)))).mono ?_; rintro e w13 ⟨rfl, hb_w13⟩; have hz_w13 := hb_w13.size; (try simp at hz_w13); (with_reducible apply cel2 (b := w.heap.size) hb_w13); (focus ((try simp) <;> omega)); (focus omega); (focus (go_simp; try exact rfl)); (focus (go_simp; try exact rfl)); (focus (intro o; go_simp)); intro cc cc fz hl; (with_reducible apply cel2 (b := w.heap.size + 1) hb_w13); (focus ((try simp) <;> omega)); (focus omega); (focus (go_simp; try exact rfl)); (focus (go_simp; try exact rfl)); (focus (intro o; go_simp)); intro cc cc fz hl; (with_reducible apply cel2 (b := ws.heap.size) hb_w13); (focus ((try simp) <;> omega)); (focus omega); (focus (go_simp; try exact rfl)); (focus (go_simp; try exact rfl)); (focus (intro o; go_simp)); intro cc cc fz hl; (with_reducible apply cel2 (b := wt.heap.size) hb_w13); (focus ((try simp) <;> omega)); (focus omega); (focus (go_simp; try exact rfl)); (focus (go_simp; try exact rfl)); (focus (intro o; go_simp)); intro cc cc fz hl)
                        have HB13 := Lib.hid (HB12.out.trans (hb_w13.mono (by omega)))
                        have hz13 : ws.heap.size + 1 ≤ w13.heap.size := by omega
                        clear hb_w13
                        go_wp2_with fail
                        (go_at_call 83; refine (KBE.out _).mono ?_; rintro e w14 ⟨rfl, hb_w14⟩; have hz_w14 := hb_w14.size; (try simp at hz_w14); (with_reducible apply cel2 (b := w.heap.size) hb_w14); (focus ((try simp) <;> omega)); (focus omega); (focus (go_simp; try exact rfl)); (focus (go_simp; try exact rfl)); (focus (intro o; go_simp)); intro cc cc fz hl; (with_reducible apply cel2 (b := w.heap.size + 1) hb_w14); (focus ((try simp) <;> omega)); (focus omega); (focus (go_simp; try exact rfl)); (focus (go_simp; try exact rfl)); (focus (intro o; go_simp)); intro cc cc fz hl; (with_reducible apply cel2 (b := ws.heap.size) hb_w14); (focus ((try simp) <;> omega)); (focus omega); (focus (go_simp; try exact rfl)); (focus (go_simp; try exact rfl)); (focus (intro o; go_simp)); intro cc cc fz hl; (with_reducible apply cel2 (b := wt.heap.size) hb_w14); (focus ((try simp) <;> omega)); (focus omega); (focus (go_simp; try exact rfl)); (focus (go_simp; try exact rfl)); (focus (intro o; go_simp)); intro cc cc fz hl)
                        have HB14 := Lib.hid (HB13.out.trans (hb_w14.mono (by omega)))
                        have hz14 : ws.heap.size + 1 ≤ w14.heap.size := by omega
                        clear hb_w14
                        go_wp2_with fail
                        go_roundw
                        case rel => exact ⟨k + 1, y1, b2, sv, by omega, by go_num, rfl, by have hB := HB14.out; ((with_reducible (repeat (first | exact bR _ _ | refine bS ?_ ?_ _ | refine bA ?_ ?_ _ | refine bD ?_ | refine bT ?_ (by assumption) ?_ | refine bO (by assumption) ?_ ?_))) <;> (first | omega | (simp; done) | (simp <;> omega))), by (try simp) <;> omega, by go_simp, by go_simp, by intro o; go_simp, HN⟩
                        case measure => simp [intOf]; omega
            · obtain rfl : k = bs.length := by omega
              have j6 : ¬ (bs.length : Int) < (bs.length : Int) := by omega
              have hfin := HK.out
              rw [List.take_length] at hfin
              have hr := HR.out
              rw [← HBS.out, hfin] at hr
              simp only at hr
              clear hb_wt hfin
              cases sv
              · rw [if_neg (by decide)] at hr
                obtain rfl : R1 = b1 := congrArg Prod.fst hr
                obtain rfl : R2 = b2 := congrArg Prod.snd hr
                clear hr
                go_wp2_with fail
                refine bodyPost_ret (v := .agg #[.int .i64 R1, .int .i64 R2]) (by simp only [results, Try.results35]; go_simp) rfl ⟨?_, ?_⟩
                · rfl
                · have hB := HBt.out; have hB2 := HBs.out; have hB3 := hB2.trans (hB.mono (by omega)); clear hB hB2; ((with_reducible (repeat (first | exact bR _ _ | refine bS ?_ ?_ _ | refine bA ?_ ?_ _ | refine bD ?_ | refine bT ?_ (by assumption) ?_ | refine bO (by assumption) ?_ ?_))) <;> (first | omega | (simp; done) | (simp <;> omega)))
              · rw [if_pos rfl] at hr
                obtain rfl : R1 = 0 := congrArg Prod.fst hr
                obtain rfl : R2 = 0 := congrArg Prod.snd hr
                clear hr
                go_wp2_with fail
                refine bodyPost_ret (v := .agg #[.int .i64 0, .int .i64 0]) (by simp only [results, Try.results35]; go_simp) rfl ⟨?_, ?_⟩
                · rfl
                · have hB := HBt.out; have hB2 := HBs.out; have hB3 := hB2.trans (hB.mono (by omega)); clear hB hB2; ((with_reducible (repeat (first | exact bR _ _ | refine bS ?_ ?_ _ | refine bA ?_ ?_ _ | refine bD ?_ | refine bT ?_ (by assumption) ?_ | refine bO (by assumption) ?_ ?_))) <;> (first | omega | (simp; done) | (simp <;> omega)))
/-- The reference's Lift is Lift. -/
theorem rlift_any (x1 x2 : Int) (l : List V2) (A : Option Addr) (c : Nat) (w : World) (hl : l.length ≤ 100) (hV : VAt w A l) :
    Calls Try.prog 35 #[.agg #[.int .i64 x1, .int .i64 x2], .slice A l.length c] w fun e w' => e = .returned (.agg #[.int .i64 (liftR (x1, x2) l).1, .int .i64 (liftR (x1, x2) l).2]) ∧ Below w.heap.size w w' := by
  cases hx : smB (x1, x2)
  · have e : liftR (x1, x2) l = (0, 0) := by unfold liftR; exact if_pos hx
    rw [e]; exact rlift_big x1 x2 l A c w hx
  · cases hs : l.all smB
    · have e : liftR (x1, x2) l = (0, 0) := by unfold liftR; rw [if_neg (by rw [hx]; decide)]; exact if_pos hs
      rw [e]; exact rlift_bad x1 x2 l A c w hl hV hx hs
    · rw [List.all_eq_true] at hs
      cases ha : allowedR (x1, x2) l
      · exact rlift_main x1 x2 l A c w hl hV hx hs ha
      · rw [lift_same hx hs ha]; exact rlift_same x1 x2 l A c w hl hV hx hs ha
end Go.Proofs.Ytkoejgpnlncgaaa
