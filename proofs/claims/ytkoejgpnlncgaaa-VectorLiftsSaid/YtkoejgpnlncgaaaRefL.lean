/- The contracts of pinballref06.against, floor, corners, square, better, Lift. -/
import Derived.Test.YtkoejgpnlncgaaaBigR
import Derived.Test.YtkoejgpnlncgaaaSafeW
import Derived.Test.YtkoejgpnlncgaaaVecE
namespace Go.Proofs.Ytkoejgpnlncgaaa
open Go Go.RowKit
set_option linter.unusedVariables false
theorem floor_eq {a b : Int} (hb : 0 < b) : a / b = if a.tmod b < 0 then a.tdiv b - 1 else a.tdiv b := by
  have h1 := Int.mul_tdiv_add_tmod a b
  have h2 := Int.tmod_lt_of_pos a hb
  have h3 := Int.lt_tmod_of_pos a hb
  split
  · have e : b * (a.tdiv b - 1) = b * a.tdiv b - b := by grind
    exact ((Int.ediv_emod_unique (r := a.tmod b + b) hb).2 ⟨by omega, by omega, by omega⟩).1
  · exact ((Int.ediv_emod_unique (r := a.tmod b) hb).2 ⟨by omega, by omega, by omega⟩).1
set_option maxRecDepth 100000 in
set_option maxHeartbeats 1000000 in
theorem against_any (y : V2) (l : List V2) (A : Option Addr) (c : Nat) (w : World) (hl : l.length ≤ 100) (hV : VAt w A l) (hy : smB y = true) (hs : ∀ n ∈ l, smB n = true) :
    Calls Try.prog 81 #[.agg #[.int .i64 y.1, .int .i64 y.2], .slice A l.length c] w fun e w' => e = .returned (.bool (!allowedR y l)) ∧ Below w.heap.size w w' := by
  have HV := Lib.hid hV
  have HS := Lib.hid hs
  obtain ⟨y1, y2⟩ := y
  obtain ⟨q1, q2, q3, q4⟩ := small_bd hy
  have HY := Lib.hid hy
  clear hV hs hy
  obtain ⟨R, hR⟩ : ∃ R, R = allowedR (y1, y2) l := ⟨_, rfl⟩
  rw [← hR]
  have HR := Lib.hid hR
  clear hR
  go_enter Try.func81, Try.ntmps81; (try simp only [List.append_eq, List.cons_append, List.nil_append])
  go_wp2_with fail
  -- own blocks: w.heap.size:2
  (refine pin_wp (N := _) (Nat.le_refl _) (fun w1 hb_w1 hz_w1 => ?_); (try simp at hz_w1); (with_reducible apply cel2 (b := w.heap.size) hb_w1); (focus ((try simp) <;> omega)); (focus omega); (focus (go_simp; try exact rfl)); (focus (go_simp; try exact rfl)); (focus (intro o; go_simp)); intro cc cc fz hl)
  have HB0 := Lib.hid (((Below.refl w.heap.size w).alloc (Nat.le_refl _) _).trans (hb_w1.mono (by simp)))
  clear hb_w1
  go_loopw [5] (fun t wr => ∃ k : Nat, k ≤ l.length ∧ t = .int .i64 k ∧ Hid (allowedR (y1, y2) (l.take k) = true) ∧ Below w1.heap.size w1 wr) (fun t _ => l.length - (intOf t).toNat)
  case atStart => exact ⟨0, by omega, rfl, Lib.hid rfl, Below.refl _ _⟩
  case round =>
    obtain ⟨k, hk, rfl, HA, hb_wr⟩ := hrel
    have hz_wr := hb_wr.size
    have HB := Lib.hid (HB0.out.trans (hb_wr.mono (by omega)))
    have HBW := Lib.hid hb_wr
    have i1 : (0 : Int) ≤ (k : Int) := by omega
    (with_reducible apply cel2 (b := w.heap.size) hb_wr); (focus ((try simp) <;> omega)); (focus omega); (focus (go_simp; try exact rfl)); (focus (go_simp; try exact rfl)); (focus (intro o; go_simp)); intro cc cc fz hl
    by_cases hlt : k < l.length
    · obtain ⟨⟨a, b⟩, hx⟩ : ∃ x, l[k]? = some x := ⟨l[k], by simp⟩
      obtain ⟨g, o, rfl, hg, a0, a1⟩ := (HV.out.below HB.out (Nat.le_refl _)) k _ hx
      have hdot := fun w => rdot_any y1 y2 a b w
      have ed : dotR y1 y2 a b = vd (y1, y2) (a, b) := if_pos ⟨HY.out, HS.out _ (List.mem_of_getElem? hx)⟩
      obtain ⟨E, hE⟩ : ∃ E, E = vd (y1, y2) (a, b) := ⟨_, rfl⟩
      rw [ed, ← hE] at hdot
      have HD := Lib.hid hdot
      have hall := all_take_succ (p := fun n => decide (0 ≤ vd (y1, y2) n)) hx
      have hal2 : allowedR (y1, y2) (l.take (k + 1)) = decide (0 ≤ E) := by
        have h1 := HA.out
        unfold allowedR at h1 ⊢
        rw [hall, h1, Bool.true_and, hE]
      have HN := Lib.hid hal2
      have HX := Lib.hid hx
      have HE := Lib.hid hE
      have i2 : (k : Int) < (l.length : Int) := by omega
      simp only at a0 a1
      clear hb_wr hx hall hal2 hdot ed hE
      by_cases hneg : E < 0
      · have hfin : R = false := by
          rw [HR.out]
          unfold allowedR
          rw [List.all_eq_false]
          refine ⟨(a, b), List.mem_of_getElem? HX.out, ?_⟩
          rw [decide_eq_true_eq, ← HE.out]; omega
        subst hfin
        go_wp2_with fail
        refine wp_region_warm (Own wr.heap.size wr) (by kernel_rfl) (by kernel_rfl) (Own.refl (Nat.le_refl _)).drew ?_
        repeat (first | (refine wpWarm_step_off rfl (fun K hK => ?_); (go_simp; refine hK _ ?_; clear hK K)) | (apply wpWarm_step rfl; (focus (intro W' hS; have hcS := hS.cells.1; have hfS := hS.cells.2; go_simp; (first | done | exact rfl | exact ⟨rfl, hS⟩ | (go_at_call 51; exact (HD.out _).mono (fun _ _ h => ⟨h.1, hS.call h.2⟩)) | (go_simp; exact rfl)))); (intro K hK; go_simp; (try go_bits); refine hK _ ?_; clear hK K)) | (apply wpWarm_step_on rfl; (focus (intro W' hS; have hcS := hS.cells.1; have hfS := hS.cells.2; go_simp; (first | done | exact rfl | exact ⟨rfl, hS⟩ | (go_at_call 51; exact (HD.out _).mono (fun _ _ h => ⟨h.1, hS.call h.2⟩)) | (go_simp; exact rfl)))); (intro K hK; go_simp; (try go_bits); refine hK _ ?_; clear hK K)))
        refine wpWarm_nil ?_
        intro w7 hO7
        have HB7 := Lib.hid (HB.out.trans (hO7.2.mono (by have := HB.out.size; omega)))
        clear hO7
        go_wp2_with fail
        go_ret
        exact ⟨rfl, HB7.out⟩
      · have HN2 := Lib.hid (show allowedR (y1, y2) (l.take (k + 1)) = true by rw [HN.out]; exact decide_eq_true (by omega))
        go_wp2_with fail
        refine wp_region_warm (Own wr.heap.size wr) (by kernel_rfl) (by kernel_rfl) (Own.refl (Nat.le_refl _)).drew ?_
        repeat (first | (refine wpWarm_step_off rfl (fun K hK => ?_); (go_simp; refine hK _ ?_; clear hK K)) | (apply wpWarm_step rfl; (focus (intro W' hS; have hcS := hS.cells.1; have hfS := hS.cells.2; go_simp; (first | done | exact rfl | exact ⟨rfl, hS⟩ | (go_at_call 51; exact (HD.out _).mono (fun _ _ h => ⟨h.1, hS.call h.2⟩)) | (go_simp; exact rfl)))); (intro K hK; go_simp; (try go_bits); refine hK _ ?_; clear hK K)) | (apply wpWarm_step_on rfl; (focus (intro W' hS; have hcS := hS.cells.1; have hfS := hS.cells.2; go_simp; (first | done | exact rfl | exact ⟨rfl, hS⟩ | (go_at_call 51; exact (HD.out _).mono (fun _ _ h => ⟨h.1, hS.call h.2⟩)) | (go_simp; exact rfl)))); (intro K hK; go_simp; (try go_bits); refine hK _ ?_; clear hK K)))
        refine wpWarm_nil ?_
        intro w7 hO7
        have HB7 := Lib.hid (HBW.out.trans (hO7.2.mono hz_wr))
        clear hO7
        go_wp2_with fail
        go_roundw
        case rel => exact ⟨k + 1, by omega, by go_num, HN2, HB7.out⟩
        case measure => simp [intOf]; omega
    · obtain rfl : k = l.length := by omega
      have hfin : R = true := by rw [HR.out]; have := HA.out; rwa [List.take_length] at this
      subst hfin
      clear hb_wr
      go_wp2_with fail
      go_ret
      exact ⟨rfl, HB.out⟩
end Go.Proofs.Ytkoejgpnlncgaaa
