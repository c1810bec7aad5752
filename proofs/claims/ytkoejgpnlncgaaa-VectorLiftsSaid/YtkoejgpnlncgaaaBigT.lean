/- The contracts of pinballref01.Minus, Times. -/
import Derived.Test.YtkoejgpnlncgaaaBigP
namespace Go.Proofs.Ytkoejgpnlncgaaa
open Go Go.RowKit
set_option linter.unusedVariables false
theorem IsC.zl {w : World} {v : Value} {z : Int} (h : IsC w v z) {n : Nat} (hn : (canN z.natAbs).length ≤ n) : IsZ w v n z := h.z n (canN_len.1 hn)
theorem isZ_len {w : World} {v : Value} {n : Nat} {z : Int} (h : IsZ w v n z) : (canN z.natAbs).length ≤ n := by
  obtain ⟨_, _, _, _, _, _, _, _, _, _, _, h⟩ := isZ_open h; exact h
theorem isZ_val {w : World} {v : Value} {n : Nat} {z : Int} (h : IsZ w v n z) : ∃ neg A c l, v = .agg #[.bool neg, .slice A l c] := by
  obtain ⟨neg, A, c, l, h, _⟩ := h; exact ⟨neg, A, c, l.length, h⟩
set_option maxRecDepth 100000 in
set_option maxHeartbeats 4000000 in
theorem minus_any (n : Nat) (u v : Value) (a b : Int) (w : World) (ha : IsZ w u n a) (hb : IsZ w v n b) (hn : n ≤ 400000) :
    Calls Try.prog 97 #[u, v] w (ZOut (a - b) w) := by
  have hlb := isZ_len hb
  have HA := Lib.hid ha
  have HB := Lib.hid hb
  obtain ⟨p, A, c, l, rfl⟩ := isZ_val ha
  obtain ⟨q, A', c', l', rfl⟩ := isZ_val hb
  have e : a - b = a + -b := by omega
  rw [e]
  have hnb : (canN (-b).natAbs).length ≤ n := by rw [Int.natAbs_neg]; exact hlb
  obtain ⟨B, hB⟩ : ∃ B, B = -b := ⟨_, rfl⟩
  have hneg := fun w' (h : Below w.heap.size w w') => neg_any n _ b w' (HB.out.below h) (by omega)
  rw [← hB] at hnb hneg ⊢
  have HN := Lib.hid hneg
  clear ha hb e hB hneg hlb
  go_enter Try.func97, Try.ntmps97; (try simp only [List.append_eq, List.cons_append, List.nil_append])
  go_wp2_with fail
  -- own blocks: w.heap.size:2, w.heap.size + 1:2, w.heap.size + 1 + 1:2
  have HB0 := Lib.hid (show Below w.heap.size w (((w.alloc (.cells #[.bool p, .slice A l c] 65)).alloc (.cells #[.bool q, .slice A' l' c'] 65)).alloc (.cells #[.bool false, .slice none 0 0] 65)) by ((with_reducible (repeat (first | exact bR _ _ | refine bS ?_ ?_ _ | refine bA ?_ ?_ _ | refine bD ?_ | refine bT ?_ (by assumption) ?_ | refine bO (by assumption) ?_ ?_))) <;> (first | omega | (simp; done) | (simp <;> omega))))
  (refine pin_wp (N := _) (Nat.le_refl _) (fun w1 hb_w1 hz_w1 => ?_); (try simp at hz_w1); (with_reducible apply cel2 (b := w.heap.size) hb_w1); (focus ((try simp) <;> omega)); (focus omega); (focus (go_simp; try exact rfl)); (focus (go_simp; try exact rfl)); (focus (intro o; go_simp)); intro cc cc fz hl; (with_reducible apply cel2 (b := w.heap.size + 1) hb_w1); (focus ((try simp) <;> omega)); (focus omega); (focus (go_simp; try exact rfl)); (focus (go_simp; try exact rfl)); (focus (intro o; go_simp)); intro cc cc fz hl; (with_reducible apply cel2 (b := w.heap.size + 1 + 1) hb_w1); (focus ((try simp) <;> omega)); (focus omega); (focus (go_simp; try exact rfl)); (focus (go_simp; try exact rfl)); (focus (intro o; go_simp)); intro cc cc fz hl); refine wp_region_float w1.heap.size 4 (Nat.le_refl _) (fun _ => True) trivial Cl.tt (by kernel_rfl) (by simp) ?_
  have HB1 := Lib.hid (HB0.out.trans (hb_w1.mono (by simp <;> omega)))
  clear hb_w1
  refine wpI_start [0, 1] ?_; (iterate 2 (first | (refine wpI_off rfl (by kernel_rfl) rfl (fun K hK => ?_); go_simp; refine hK _ ?_; clear hK K) | ((first | apply wpI_step rfl (by kernel_rfl) rfl | apply wpI_on rfl (by kernel_rfl) rfl); (focus (intro W' hS; have hcS := hS.cells.1; have hfS := hS.cells.2; go_simp; (first | done | exact rfl | exact ⟨rfl, Below.refl _ _⟩ | (go_simp; first | done | exact rfl | exact ⟨rfl, Below.refl _ _⟩)))); intro K hK; go_simp; (try go_bits); refine hK _ ?_; clear hK K))); refine wpI_nil ?_
  apply wpF_call (i := 2) rfl (by kernel_rfl) (by kernel_rfl); intro W hF hS; have hcS := hS.1.cells.1; have hfS := hS.1.cells.2; go_simp; (go_at_call 99; refine (HN.out _ (HB1.out.trans (hS.1.2.mono (by omega)))).mono ?_; rintro e w2 ⟨hb_w2, v1, rfl, hv1⟩; refine XPost.mk _ (fun W => IsC W v1 B) hb_w2 (hv1) (IsC.cl _ _) ?_); clear hb_w2 hcS hfS hS hF
  intro K hK; go_simp; (try go_bits); refine hK _ ?_; clear hK K
  clear hv1
  apply wpF_call (i := 3) rfl (by kernel_rfl) (by kernel_rfl); intro W hF hS; have hcS := hS.1.cells.1; have hfS := hS.1.cells.2; go_simp; (go_at_call 88; refine (plus_any n _ _ a B W (HA.out.below (HB1.out.trans (hS.1.2.mono (by omega)))) (hF.zl hnb) hn).mono ?_; rintro e w3 ⟨hb_w3, v4, rfl, A4, c4, rfl, hc4, hA4⟩; refine XPost.mk _ (fun W => LAt W A4 (canN (a + B).natAbs)) hb_w3 (hA4) (LAt.cl _ _) ?_); clear hb_w3 hcS hfS hS hF
  intro K hK; go_simp; (try go_bits); refine hK _ ?_; clear hK K
  have HC4 := Lib.hid hc4
  clear hA4 hc4
  refine wpF_done (by kernel_rfl) ?_
  intro w5 hF_w5 hSG
  have hz_w5 := hSG.1.1
  have hb_w5 := hSG.1.2
  clear hSG
  (with_reducible apply cel2 (b := w.heap.size) hb_w5); (focus ((try simp) <;> omega)); (focus omega); (focus (go_simp; try exact rfl)); (focus (go_simp; try exact rfl)); (focus (intro o; go_simp)); intro cc cc fz hl; (with_reducible apply cel2 (b := w.heap.size + 1) hb_w5); (focus ((try simp) <;> omega)); (focus omega); (focus (go_simp; try exact rfl)); (focus (go_simp; try exact rfl)); (focus (intro o; go_simp)); intro cc cc fz hl; (with_reducible apply cel2 (b := w.heap.size + 1 + 1) hb_w5); (focus ((try simp) <;> omega)); (focus omega); (focus (go_simp; try exact rfl)); (focus (go_simp; try exact rfl)); (focus (intro o; go_simp)); intro cc cc fz hl
  (try simp only [List.drop_succ_cons, List.drop_zero])
  have HB5 := Lib.hid (HB1.out.trans (hb_w5.mono (by omega)))
  have HL5 := Lib.hid hF_w5.2
  clear hb_w5 hF_w5
  go_wp2_with fail
  refine bodyPost_ret (v := .agg #[.bool (decide (a + B < 0)), .slice A4 (canN (a + B).natAbs).length c4]) (by simp only [results, Try.results97]; go_simp) rfl ⟨?_, ?_⟩
  · exact (HB5.out.setCell (by simp <;> omega) _).setCell (by simp <;> omega) _
  · exact ⟨_, rfl, A4, c4, rfl, HC4.out, HL5.out.set2 (by assumption) (by assumption) _ _⟩
end Go.Proofs.Ytkoejgpnlncgaaa
