/- The contract of pinballref01.Times. -/
import Derived.Test.YtkoejgpnlncgaaaBigT
namespace Go.Proofs.Ytkoejgpnlncgaaa
open Go Go.RowKit
set_option linter.unusedVariables false
set_option maxRecDepth 100000 in
set_option maxHeartbeats 4000000 in
theorem times_any (n : Nat) (u v : Value) (a b : Int) (w : World) (ha : IsZ w u n a) (hb : IsZ w v n b) (hn : n ≤ 400000) :
    Calls Try.prog 76 #[u, v] w (ZOut (a * b) w) := by
  obtain ⟨p, A, c, l, rfl, hc, hL, hl, hAt, ea, ma, ca⟩ := isZ_open ha
  obtain ⟨q, A', c', l', rfl, hc', hL', hl', hAt', eb, mb, cb⟩ := isZ_open hb
  have hma := fun w' (h : Below w.heap.size w w') => mag_any A l c w' hL (hAt.below h) hc (by omega)
  have hmb := fun w' (h : Below w.heap.size w w') => mag_any A' l' c' w' hL' (hAt'.below h) hc' (by omega)
  rw [ma] at hma
  rw [mb] at hmb
  obtain ⟨x, hx⟩ : ∃ x, x = a.natAbs := ⟨_, rfl⟩
  obtain ⟨y, hy⟩ : ∃ y, y = b.natAbs := ⟨_, rfl⟩
  rw [← hx] at hma ca ea
  rw [← hy] at hmb cb eb
  obtain ⟨Z, hZ⟩ : ∃ Z, Z = a * b := ⟨_, rfl⟩
  have hz : Z = sv (p != q) ((x : Int) * y) := by rw [hZ]; exact sv_mul ea eb
  rw [← hZ]
  have HMA := Lib.hid hma
  have HMB := Lib.hid hmb
  have HZ := Lib.hid hz
  clear hma hmb hz ma mb hx hy hZ ea eb hAt hAt' hL hL' ha hb
  obtain ⟨s, hs⟩ : ∃ s, s = (p != q) := ⟨_, rfl⟩
  rw [← hs] at HZ
  replace hs : (!(p == q)) = s := by rw [hs]; cases p <;> cases q <;> rfl
  go_enter Try.func76, Try.ntmps76; (try simp only [List.append_eq, List.cons_append, List.nil_append])
  go_wp2_with fail
  -- own blocks: w.heap.size:2, w.heap.size + 1:2, w.heap.size + 1 + 1:2
  have HB0 := Lib.hid (show Below w.heap.size w (((w.alloc (.cells #[.bool p, .slice A l.length c] 65)).alloc (.cells #[.bool q, .slice A' l'.length c'] 65)).alloc (.cells #[.bool false, .slice none 0 0] 65)) by ((with_reducible (repeat (first | exact bR _ _ | refine bS ?_ ?_ _ | refine bA ?_ ?_ _ | refine bD ?_ | refine bT ?_ (by assumption) ?_ | refine bO (by assumption) ?_ ?_))) <;> (first | omega | (simp; done) | (simp <;> omega))))
  (refine pin_wp (N := _) (Nat.le_refl _) (fun w1 hb_w1 hz_w1 => ?_); (try simp at hz_w1); (with_reducible apply cel2 (b := w.heap.size) hb_w1); (focus ((try simp) <;> omega)); (focus omega); (focus (go_simp; try exact rfl)); (focus (go_simp; try exact rfl)); (focus (intro o; go_simp)); intro cc cc fz hl; (with_reducible apply cel2 (b := w.heap.size + 1) hb_w1); (focus ((try simp) <;> omega)); (focus omega); (focus (go_simp; try exact rfl)); (focus (go_simp; try exact rfl)); (focus (intro o; go_simp)); intro cc cc fz hl; (with_reducible apply cel2 (b := w.heap.size + 1 + 1) hb_w1); (focus ((try simp) <;> omega)); (focus omega); (focus (go_simp; try exact rfl)); (focus (go_simp; try exact rfl)); (focus (intro o; go_simp)); intro cc cc fz hl); refine wp_region_float w1.heap.size 13 (Nat.le_refl _) (fun _ => True) trivial Cl.tt (by kernel_rfl) (by simp) ?_
  have HB1 := Lib.hid (HB0.out.trans (hb_w1.mono (by simp <;> omega)))
  clear hb_w1
  refine wpI_start [0, 1, 2, 3, 4, 5, 6] ?_; (iterate 7 (first | (refine wpI_off rfl (by kernel_rfl) rfl (fun K hK => ?_); go_simp; refine hK _ ?_; clear hK K) | ((first | apply wpI_step rfl (by kernel_rfl) rfl | apply wpI_on rfl (by kernel_rfl) rfl); (focus (intro W' hS; have hcS := hS.cells.1; have hfS := hS.cells.2; go_simp; (first | done | exact rfl | exact ⟨rfl, Below.refl _ _⟩ | (go_simp; first | done | exact rfl | exact ⟨rfl, Below.refl _ _⟩)))); intro K hK; go_simp; (try go_bits); refine hK _ ?_; clear hK K))); refine wpI_nil ?_
  refine wpI_start [8, 9] ?_; (iterate 2 (first | (refine wpI_off rfl (by kernel_rfl) rfl (fun K hK => ?_); go_simp; refine hK _ ?_; clear hK K) | ((first | apply wpI_step rfl (by kernel_rfl) rfl | apply wpI_on rfl (by kernel_rfl) rfl); (focus (intro W' hS; have hcS := hS.cells.1; have hfS := hS.cells.2; go_simp; (first | done | exact rfl | exact ⟨rfl, Below.refl _ _⟩ | (go_simp; first | done | exact rfl | exact ⟨rfl, Below.refl _ _⟩)))); intro K hK; go_simp; (try go_bits); refine hK _ ?_; clear hK K))); refine wpI_nil ?_
  apply wpF_call (i := 7) rfl (by kernel_rfl) (by kernel_rfl); intro W hF hS; have hcS := hS.1.cells.1; have hfS := hS.1.cells.2; go_simp; (go_at_call 90; refine (HMA.out _ (HB1.out.trans (hS.1.2.mono (by omega)))).mono ?_; rintro e w4 ⟨hb_w4, A1, c1, rfl, hc1, hA1⟩; refine XPost.mk _ (fun W => LAt W A1 (canN x)) hb_w4 (hA1) (LAt.cl _ _) ?_); clear hb_w4 hcS hfS hS hF
  intro K hK; go_simp; (try go_bits); refine hK _ ?_; clear hK K
  have HC1 := Lib.hid hc1
  clear hA1 hc1
  apply wpF_call (i := 10) rfl (by kernel_rfl) (by kernel_rfl); intro W hF hS; have hcS := hS.1.cells.1; have hfS := hS.1.cells.2; go_simp; (go_at_call 90; refine (HMB.out _ (HB1.out.trans (hS.1.2.mono (by omega)))).mono ?_; rintro e w5 ⟨hb_w5, A2, c2, rfl, hc2, hA2⟩; refine XPost.mk _ (fun W => LAt W A2 (canN y)) hb_w5 (hA2) (LAt.cl _ _) ?_); clear hb_w5 hcS hfS hS hF
  intro K hK; go_simp; (try go_bits); refine hK _ ?_; clear hK K
  have HC2 := Lib.hid hc2
  clear hA2 hc2
  apply wpF_call (i := 11) rfl (by kernel_rfl) (by kernel_rfl); intro W hF hS; have hcS := hS.1.cells.1; have hfS := hS.1.cells.2; go_simp; (go_at_call 94; refine (mulmag_any A1 A2 (canN x) (canN y) c1 c2 W (canN_lim _) (canN_lim _) (by omega) (by omega) hF.1 hF.2).mono ?_; rintro e w9 ⟨hb_w9, A3, c3, l3, rfl, hc3, hl3, hk3, hm3, hA3⟩; refine XPost.mk _ (fun W => LAt W A3 l3) hb_w9 (hA3) (LAt.cl _ _) ?_); clear hb_w9 hcS hfS hS hF
  intro K hK; go_simp; (try go_bits); refine hK _ ?_; clear hK K
  have hmk := fun w' (h : LAt w' A3 l3) => make1_any s A3 l3 c3 w' hl3 h hc3 (by omega)
  rw [hm3, mv_canN, mv_canN, ← HZ.out] at hmk
  have HMK := Lib.hid hmk
  clear hA3 hc3 hl3 hk3 hm3 hmk
  apply wpF_call (i := 12) rfl (by kernel_rfl) (by kernel_rfl); intro W hF hS; have hcS := hS.1.cells.1; have hfS := hS.1.cells.2; go_simp; (go_at_call 89; refine (HMK.out _ hF.2).mono ?_; rintro e w10 ⟨hb_w10, v4, rfl, A4, c4, rfl, hc4, hA4⟩; refine XPost.mk _ (fun W => LAt W A4 (canN Z.natAbs)) hb_w10 (hA4) (LAt.cl _ _) ?_); clear hb_w10 hcS hfS hS hF
  intro K hK; go_simp; (try go_bits); refine hK _ ?_; clear hK K
  have HC4 := Lib.hid hc4
  clear hA4 hc4
  refine wpF_done (by kernel_rfl) ?_
  intro w11 hF_w11 hSG
  have hz_w11 := hSG.1.1
  have hb_w11 := hSG.1.2
  clear hSG
  (with_reducible apply cel2 (b := w.heap.size) hb_w11); (focus ((try simp) <;> omega)); (focus omega); (focus (go_simp; try exact rfl)); (focus (go_simp; try exact rfl)); (focus (intro o; go_simp)); intro cc cc fz hl; (with_reducible apply cel2 (b := w.heap.size + 1) hb_w11); (focus ((try simp) <;> omega)); (focus omega); (focus (go_simp; try exact rfl)); (focus (go_simp; try exact rfl)); (focus (intro o; go_simp)); intro cc cc fz hl; (with_reducible apply cel2 (b := w.heap.size + 1 + 1) hb_w11); (focus ((try simp) <;> omega)); (focus omega); (focus (go_simp; try exact rfl)); (focus (go_simp; try exact rfl)); (focus (intro o; go_simp)); intro cc cc fz hl
  (try simp only [List.drop_succ_cons, List.drop_zero])
  have HB11 := Lib.hid (HB1.out.trans (hb_w11.mono (by omega)))
  have HL5 := Lib.hid hF_w11.2
  clear hb_w11 hF_w11
  go_wp2_with fail
  refine bodyPost_ret (v := .agg #[.bool (decide (Z < 0)), .slice A4 (canN Z.natAbs).length c4]) (by simp only [results, Try.results76]; go_simp) rfl ⟨?_, ?_⟩
  · exact (HB11.out.setCell (by simp <;> omega) _).setCell (by simp <;> omega) _
  · exact ⟨_, rfl, A4, c4, rfl, HC4.out, HL5.out.set2 (by assumption) (by assumption) _ _⟩
end Go.Proofs.Ytkoejgpnlncgaaa
