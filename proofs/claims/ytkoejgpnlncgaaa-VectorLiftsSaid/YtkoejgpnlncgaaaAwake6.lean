/- The contract of pinballlaw06.awake: it returns true.  -/
import Derived.Test.YtkoejgpnlncgaaaLiftW
namespace Go.Proofs.Ytkoejgpnlncgaaa
open Go.RowKit
set_option linter.unusedVariables false
theorem lift_a : liftR (3, -4) [(0, 1)] = (3, 0) := by decide
theorem lift_b : liftR (0, -5) [(1, 2)] = (2, -1) := by decide
theorem turn_a : turnR 257 0 0 1 = (255, 32, true) := by decide
theorem mul_a : mulDivR 1099511627776 1099511627776 (-1125899906842624) = (-1073741824, true) := by decide
theorem root_a : rootR 99 = 9 := by decide
theorem vs_one (w : World) (B g : Nat) (a b : Int) (h0 : w.cell? ⟨g, 0, none⟩ = some (.int .i64 a)) (h1 : w.cell? ⟨g, 1, none⟩ = some (.int .i64 b)) : VsAt w g 0 [(a, b)] := by
  intro k x hx
  have hk := (List.getElem?_eq_some_iff.1 hx).1
  simp at hk
  subst hk
  simp at hx
  subst hx
  exact ⟨h0, h1⟩
set_option maxRecDepth 100000 in
set_option maxHeartbeats 1000000 in
theorem awake06_any (w : World) :
    Calls Try.prog 31 #[] w fun e w' => e = .returned (.bool true) ∧ Below w.heap.size w w' := by
  have ht := fun w => turn_any 257 0 0 1 w
  rw [turn_a] at ht
  have hm := fun w => muldiv_any 1099511627776 1099511627776 (-1125899906842624) w (by omega) (by omega) (by omega) (by omega) (by omega) (by omega)
  rw [mul_a] at hm
  have hr := fun w => root_any 99 w (by omega) (by omega)
  rw [root_a] at hr
  have HT := Lib.hid ht
  have HM := Lib.hid hm
  have HRT := Lib.hid hr
  clear ht hm hr
  go_enter Try.func31, Try.ntmps31; (try simp only [List.append_eq, List.cons_append, List.nil_append])
  go_wp2_with fail
  -- own blocks: w.heap.size:2
  (go_at_call 40; refine (HT.out _).mono ?_; rintro e w1 ⟨rfl, hb_w1⟩; have hz_w1 := hb_w1.size; (try simp at hz_w1); (with_reducible apply cel2 (b := w.heap.size) hb_w1); (focus ((try simp) <;> omega)); (focus omega); (focus (go_simp; try exact rfl)); (focus (go_simp; try exact rfl)); (focus (intro o; go_simp)); intro cc cc fz hl)
  have HB1 := Lib.hid (show Below w.heap.size w w1 from ((Below.refl w.heap.size w).alloc (Nat.le_refl _) _).trans (hb_w1.mono (by simp)))
  clear hb_w1
  go_wp2_with fail
  -- own blocks: w.heap.size:2, w1.heap.size:2
  (go_at_call 32; refine (HM.out _).mono ?_; rintro e w2 ⟨rfl, hb_w2⟩; have hz_w2 := hb_w2.size; (try simp at hz_w2); (with_reducible apply cel2 (b := w.heap.size) hb_w2); (focus ((try simp) <;> omega)); (focus omega); (focus (go_simp; try exact rfl)); (focus (go_simp; try exact rfl)); (focus (intro o; go_simp)); intro cc cc fz hl; (with_reducible apply cel2 (b := w1.heap.size) hb_w2); (focus ((try simp) <;> omega)); (focus omega); (focus (go_simp; try exact rfl)); (focus (go_simp; try exact rfl)); (focus (intro o; go_simp)); intro cc cc fz hl)
  have HB2 := Lib.hid (show Below w.heap.size w w2 from (HB1.out.alloc (by omega) _).trans (hb_w2.mono (by simp; omega)))
  clear hb_w2
  go_wp2_with fail
  have hv1 := vs_one w2 0 w.heap.size 0 1 (by assumption) (by assumption)
  have hl1 := lift_some (3, -4) [(0, 1)] w.heap.size 0 1 w2 (by decide) (by decide) (by omega) hv1 (by decide)
  rw [lift_a] at hl1
  have HL1 := Lib.hid hl1
  clear hv1 hl1
  (go_at_call 34; refine (HL1.out).mono ?_; rintro e w3 ⟨rfl, hb_w3⟩; have hz_w3 := hb_w3.size; (try simp at hz_w3); (with_reducible apply cel2 (b := w.heap.size) hb_w3); (focus ((try simp) <;> omega)); (focus omega); (focus (go_simp; try exact rfl)); (focus (go_simp; try exact rfl)); (focus (intro o; go_simp)); intro cc cc fz hl; (with_reducible apply cel2 (b := w1.heap.size) hb_w3); (focus ((try simp) <;> omega)); (focus omega); (focus (go_simp; try exact rfl)); (focus (go_simp; try exact rfl)); (focus (intro o; go_simp)); intro cc cc fz hl)
  have HB3 := Lib.hid (HB2.out.trans (hb_w3.mono (by omega)))
  clear hb_w3
  go_wp2_with fail
  have hv2 := vs_one (w3.alloc (.cells #[.int .i64 1, .int .i64 2] 23)) 0 w3.heap.size 1 2 (by go_simp) (by go_simp)
  have hl2 := lift_some (0, -5) [(1, 2)] w3.heap.size 0 1 _ (by decide) (by decide) (by simp) hv2 (by decide)
  rw [lift_b] at hl2
  have HL2 := Lib.hid hl2
  clear hv2 hl2
  (go_at_call 34; refine (HL2.out).mono ?_; rintro e w4 ⟨rfl, hb_w4⟩; have hz_w4 := hb_w4.size; (try simp at hz_w4); (with_reducible apply cel2 (b := w.heap.size) hb_w4); (focus ((try simp) <;> omega)); (focus omega); (focus (go_simp; try exact rfl)); (focus (go_simp; try exact rfl)); (focus (intro o; go_simp)); intro cc cc fz hl; (with_reducible apply cel2 (b := w1.heap.size) hb_w4); (focus ((try simp) <;> omega)); (focus omega); (focus (go_simp; try exact rfl)); (focus (go_simp; try exact rfl)); (focus (intro o; go_simp)); intro cc cc fz hl)
  have HB4 := Lib.hid (show Below w.heap.size w w4 from (HB3.out.alloc (by omega) _).trans (hb_w4.mono (by simp; omega)))
  clear hb_w4
  go_wp2_with fail
  (go_at_call 44; refine (HRT.out _).mono ?_; rintro e w5 ⟨rfl, hb5⟩)
  go_wp2_with fail
  go_ret
  exact ⟨rfl, HB4.out.trans (hb5.mono (by omega))⟩
end Go.Proofs.Ytkoejgpnlncgaaa
