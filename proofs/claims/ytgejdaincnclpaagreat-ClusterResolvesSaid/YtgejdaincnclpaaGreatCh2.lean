/- Merged texts: BigP BigT BigU BigX BigUp BigDn BigDv Knuth BigK BigL (what no proof of the claim needs is left out). -/
import Derived.Test.YtgejdaincnclpaaGreatCh1
import Derived.Lib.EndianBits
import Derived.Lib.ItoaNum
namespace Go.Proofs.YtgejdaincnclpaaGreat
open Go Go.RowKit
set_option linter.unusedVariables false
theorem isZ_open {w : World} {v : Value} {n : Nat} {z : Int} (h : IsZ w v n z) : ∃ neg A c l, v = .agg #[.bool neg, .slice A l.length c] ∧ l.length ≤ c ∧ Lim l ∧ l.length ≤ n ∧ LAt w A l ∧ z = sv neg (z.natAbs : Int) ∧ (mv l).toNat = z.natAbs ∧ (canN z.natAbs).length ≤ n := by
 obtain ⟨neg, A, c, l, h1, h2, h3, h4, h5, h6⟩ := h
 have h7 := (sv_neg_mk neg l h3).2
 have h8 := canN_len_le h3
 have h0 := mv_nonneg h3
 refine ⟨neg, A, c, l, h1, h2, h3, h4, h5, ?_, by rw [h6, h7], by rw [h6, h7]; omega⟩
 rw [h6, h7]
 rw [Int.toNat_of_nonneg h0]
theorem sv_add {p : Bool} {a b x y : Int} (ha : a = sv p x) (hb : b = sv p y) : a + b = sv p (x + y) := by rw [ha, hb]; cases p <;> simp [sv] <;> omega
theorem sv_sub {p q : Bool} {a b x y : Int} (hpq : p ≠ q) (ha : a = sv p x) (hb : b = sv q y) : a + b = sv p (x - y) ∧ a + b = sv q (y - x) := by
 cases p <;> cases q <;> simp_all [sv] <;> omega
theorem sv_mul {p q : Bool} {a b x y : Int} (ha : a = sv p x) (hb : b = sv q y) : a * b = sv (p != q) (x * y) := by
 cases p <;> cases q <;> simp_all [sv, Int.neg_mul, Int.mul_neg]
set_option maxRecDepth 100000 in
set_option maxHeartbeats 4000000 in
theorem plus_any (n : Nat) (u v : Value) (a b : Int) (w : World) (ha : IsZ w u n a) (hb : IsZ w v n b) (hn : n ≤ 400000) :
  Calls Tryz.prog 39 #[u, v] w (ZOut (a + b) w) := by
 obtain ⟨p, A, c, l, rfl, hc, hL, hl, hAt, ea, ma, ca⟩ := isZ_open ha
 obtain ⟨q, A', c', l', rfl, hc', hL', hl', hAt', eb, mb, cb⟩ := isZ_open hb
 have hma := fun w' (h : Below w.heap.size w w') => mag_any A l c w' hL (hAt.below h) hc (by omega)
 have hmb := fun w' (h : Below w.heap.size w w') => mag_any A' l' c' w' hL' (hAt'.below h) hc' (by omega)
 rw [ma] at hma
 rw [mb] at hmb
 obtain ⟨x, hx⟩ : ∃ x, x = a.natAbs := ⟨_, rfl⟩
 obtain ⟨y, hy⟩ : ∃ y, y = b.natAbs := ⟨_, rfl⟩
 rw [← hx] at hma ca ea
 rw [← hy] at hmb cb eb
 obtain ⟨Z, hZ⟩ : ∃ Z, Z = a + b := ⟨_, rfl⟩
 have hsum : p = q → Z = sv p ((x : Int) + y) := fun h => by subst h; rw [hZ]; exact sv_add ea eb
 have hdif : p ≠ q → Z = sv p ((x : Int) - y) ∧ Z = sv q ((y : Int) - x) := fun h => by rw [hZ]; exact sv_sub h ea eb
 rw [← hZ]
 have HMA := hQ0 hma
 have HMB := hQ0 hmb
 have HS := hQ0 hsum
 have HD := hQ0 hdif
 clear hma hmb hsum hdif ma mb hx hy hZ ea eb hAt hAt' hL hL' ha hb
 have fin : ∀ (w' : World) (g : Nat) (A1 : Option Addr) (c1 : Nat), True := fun _ _ _ _ => trivial
 by_cases hpq : p = q
 · subst hpq
   have hs := HS.out rfl
   have HZ := hQ0 hs
   have b0 : (p == p) = true := by simp
   clear hs HS HD
   go_enter Tryz.func39, Tryz.ntmps39; (try simp only [List.append_eq, List.cons_append, List.nil_append])
   go_wp2_with fail
   have HB0 := hQ0 (show Below w.heap.size w (((w.alloc (.cells #[.bool p, .slice A l.length c] 44)).alloc (.cells #[.bool p, .slice A' l'.length c'] 44)).alloc (.cells #[.bool false, .slice none 0 0] 44)) by ((with_reducible (repeat (first | exact bR _ _ | apply bS | apply bA | apply bD | refine bT ?_ (by assumption) ?_ | refine bO (by assumption) ?_ ?_))) <;> (first | omega | (simp <;> omega))))
   (refine pin_wp (N := _) (Nat.le_refl _) (fun w1 hb_w1 hz_w1 => ?_); (try simp at hz_w1); (with_reducible apply cal2 (b := w.heap.size) hb_w1); (focus (go_simp; try exact ⟨rfl, rfl⟩)); intro cc cc fz hl; (with_reducible apply cal2 (b := w.heap.size + 1) hb_w1); (focus (go_simp; try exact ⟨rfl, rfl⟩)); intro cc cc fz hl; (with_reducible apply cal2 (b := w.heap.size + 1 + 1) hb_w1); (focus (go_simp; try exact ⟨rfl, rfl⟩)); intro cc cc fz hl); refine wp_region_float w1.heap.size 8 (Nat.le_refl _) (fun _ => True) trivial Cl.tt (by kernel_rfl) (by simp) ?_
   have HB1 := hQ0 (HB0.out.trans (hb_w1.mono (by simp <;> omega)))
   refine wpI_start [0, 1] ?_; (iterate 2 (first | (apply wpI_step rfl (by kernel_rfl) rfl; (focus (intro W' hS; have hcS := hS.cells; go_simp; (iterate 2 (first | done | exact rfl | exact bB _ | go_simp)))); intro K hK; go_simp; (try go_bits); refine hK _ ?_; clear hK K))); refine wpI_nil ?_
   refine wpI_start [3, 4] ?_; (iterate 2 (first | (apply wpI_step rfl (by kernel_rfl) rfl; (focus (intro W' hS; have hcS := hS.cells; go_simp; (iterate 2 (first | done | exact rfl | exact bB _ | go_simp)))); intro K hK; go_simp; (try go_bits); refine hK _ ?_; clear hK K))); refine wpI_nil ?_
   apply wpF_call (i := 2) rfl (by kernel_rfl) (by kernel_rfl); intro W hF hS; have hcS := hS.1.cells; go_simp; (go_at_call 70; refine (HMA.out _ (HB1.out.trans (hS.1.2.mono (by omega)))).mono ?_; rintro e w4 ⟨hb_w4, A1, c1, rfl, hc1, hA1⟩; refine XPost.mk _ (fun W => LAt W A1 (canN x)) hb_w4 (hA1) (LAt.cl _ _) ?_); clear hb_w4 hcS hS hF
   intro K hK; go_simp; (try go_bits); refine hK _ ?_; clear hK K
   have HC1 := hQ0 hc1
   clear hA1 hc1
   apply wpF_call (i := 5) rfl (by kernel_rfl) (by kernel_rfl); intro W hF hS; have hcS := hS.1.cells; go_simp; (go_at_call 70; refine (HMB.out _ (HB1.out.trans (hS.1.2.mono (by omega)))).mono ?_; rintro e w5 ⟨hb_w5, A2, c2, rfl, hc2, hA2⟩; refine XPost.mk _ (fun W => LAt W A2 (canN y)) hb_w5 (hA2) (LAt.cl _ _) ?_); clear hb_w5 hcS hS hF
   intro K hK; go_simp; (try go_bits); refine hK _ ?_; clear hK K
   have HC2 := hQ0 hc2
   clear hA2 hc2
   refine wpI_start [6, 7] ?_; (iterate 2 (first | (apply wpI_step rfl (by kernel_rfl) rfl; (focus (intro W' hS; have hcS := hS.cells; go_simp; (iterate 2 (first | done | exact rfl | exact bB _ | go_simp)))); intro K hK; go_simp; (try go_bits); refine hK _ ?_; clear hK K))); refine wpI_nil ?_
   refine wpF_done (by kernel_rfl) ?_
   intro w7 hF_w7 hSG
   have hz_w7 := hSG.1.1
   have hb_w7 := hSG.1.2
   clear hSG
   (with_reducible apply cel2 (b := w.heap.size) hb_w7); ((try simp) <;> omega); omega; (iterate 2 (focus (go_simp; try exact rfl))); (intro o; go_simp); intro cc cc fz hl; (with_reducible apply cel2 (b := w.heap.size + 1) hb_w7); ((try simp) <;> omega); omega; (iterate 2 (focus (go_simp; try exact rfl))); (intro o; go_simp); intro cc cc fz hl; (with_reducible apply cel2 (b := w.heap.size + 1 + 1) hb_w7); ((try simp) <;> omega); omega; (iterate 2 (focus (go_simp; try exact rfl))); (intro o; go_simp); intro cc cc fz hl
   (try simp only [List.drop_succ_cons, List.drop_zero])
   have HB7 := hQ0 (HB1.out.trans (hb_w7.mono (by omega)))
   have HL1 := hQ0 hF_w7.1
   have HL2 := hQ0 hF_w7.2
   clear hb_w1 hb_w7 hF_w7
   go_wp2_with fail
   (refine pin_wp (N := _) (Nat.le_refl _) (fun w8 hb_w8 hz_w8 => ?_); (try simp at hz_w8); (with_reducible apply cal2 (b := w.heap.size) hb_w8); (focus (go_simp; try exact ⟨rfl, rfl⟩)); intro cc cc fz hl; (with_reducible apply cal2 (b := w.heap.size + 1) hb_w8); (focus (go_simp; try exact ⟨rfl, rfl⟩)); intro cc cc fz hl; (with_reducible apply cal2 (b := w.heap.size + 1 + 1) hb_w8); (focus (go_simp; try exact ⟨rfl, rfl⟩)); intro cc cc fz hl); refine wp_region_float w8.heap.size 6 (Nat.le_refl _) (fun _ => True) trivial Cl.tt (by kernel_rfl) (by simp) ?_
   have HB8 := hQ0 (HB7.out.trans (hb_w8.mono (by omega)))
   have HL3 := hQ0 (HL1.out.below hb_w8)
   have HL4 := hQ0 (HL2.out.below hb_w8)
   clear hb_w8
   refine wpI_start [0, 1, 2, 3] ?_; (iterate 4 (first | (apply wpI_step rfl (by kernel_rfl) rfl; (focus (intro W' hS; have hcS := hS.cells; go_simp; (iterate 2 (first | done | exact rfl | exact bB _ | go_simp)))); intro K hK; go_simp; (try go_bits); refine hK _ ?_; clear hK K))); refine wpI_nil ?_
   apply wpF_call (i := 4) rfl (by kernel_rfl) (by kernel_rfl); intro W hF hS; have hcS := hS.1.cells; go_simp; (go_at_call 72; refine (addmag_any A1 A2 (canN x) (canN y) c1 c2 W (canN_lim _) (canN_lim _) (by omega) (by omega) (HL3.out.own hS.1 (Nat.le_refl _)) (HL4.out.own hS.1 (Nat.le_refl _))).mono ?_; rintro e w9 ⟨hb_w9, A3, c3, l3, rfl, hc3, hl3, hk3, hm3, hA3⟩; refine XPost.mk _ (fun W => LAt W A3 l3) hb_w9 (hA3) (LAt.cl _ _) ?_); clear hb_w9 hcS hS hF
   intro K hK; go_simp; (try go_bits); refine hK _ ?_; clear hK K
   have hmk := fun w' (h : LAt w' A3 l3) => make1_any p A3 l3 c3 w' hl3 h hc3 (by omega)
   rw [hm3, mv_canN, mv_canN, ← HZ.out] at hmk
   have HMK := hQ0 hmk
   clear hA3 hc3 hl3 hk3 hm3 hmk
   apply wpF_call (i := 5) rfl (by kernel_rfl) (by kernel_rfl); intro W hF hS; have hcS := hS.1.cells; go_simp; (go_at_call 71; refine (HMK.out _ hF).mono ?_; rintro e w10 ⟨hb_w10, v4, rfl, A4, c4, rfl, hc4, hA4⟩; refine XPost.mk _ (fun W => LAt W A4 (canN Z.natAbs)) hb_w10 (hA4) (LAt.cl _ _) ?_); clear hb_w10 hcS hS hF
   intro K hK; go_simp; (try go_bits); refine hK _ ?_; clear hK K
   have HC4 := hQ0 hc4
   clear hA4 hc4
   refine wpF_done (by kernel_rfl) ?_
   intro w11 hF_w11 hSG
   have hz_w11 := hSG.1.1
   have hb_w11 := hSG.1.2
   clear hSG
   (with_reducible apply cel2 (b := w.heap.size) hb_w11); ((try simp) <;> omega); omega; (iterate 2 (focus (go_simp; try exact rfl))); (intro o; go_simp); intro cc cc fz hl; (with_reducible apply cel2 (b := w.heap.size + 1) hb_w11); ((try simp) <;> omega); omega; (iterate 2 (focus (go_simp; try exact rfl))); (intro o; go_simp); intro cc cc fz hl; (with_reducible apply cel2 (b := w.heap.size + 1 + 1) hb_w11); ((try simp) <;> omega); omega; (iterate 2 (focus (go_simp; try exact rfl))); (intro o; go_simp); intro cc cc fz hl
   (try simp only [List.drop_succ_cons, List.drop_zero])
   have HB11 := hQ0 (HB8.out.trans (hb_w11.mono (by omega)))
   have HL5 := hQ0 hF_w11.2
   clear hb_w11 hF_w11
   go_wp2_with fail
   refine bodyPost_ret (v := .agg #[.bool (decide (Z < 0)), .slice A4 (canN Z.natAbs).length c4]) (by simp only [results, Tryz.results39]; go_simp) rfl ⟨?_, ?_⟩
   · exact (HB11.out.setCell (by simp <;> omega) _).setCell (by simp <;> omega) _
   · exact ⟨_, rfl, A4, c4, rfl, HC4.out, HL5.out.set2 (by assumption) (by assumption) _ _⟩
 · have hs := HD.out hpq
   have b0 : (p == q) = false := by simp [hpq]
   rcases Int.lt_or_le (cmpI x y) 0 with hcm | hcm
   · have hxy : x < y := by unfold cmpI at hcm; split at hcm <;> (try split at hcm) <;> omega
     have HZ := hQ0 hs.2
     obtain ⟨C, hC⟩ : ∃ C, C = cmpI x y := ⟨_, rfl⟩
     rw [← hC] at hcm
     have HCC := hQ0 hC
     have hcm' : ¬ (0 ≤ C) := by omega
     have k1 : mv (canN x) ≤ mv (canN y) := by rw [mv_canN, mv_canN]; omega
     have HXY := hQ0 k1
     have hlen : (canN x).length ≤ (canN y).length := by
      rw [canN_len]
      have := (@canN_len y (canN y).length).1 (Nat.le_refl _)
      omega
     clear hs HS HD hC hpq k1
     go_enter Tryz.func39, Tryz.ntmps39; (try simp only [List.append_eq, List.cons_append, List.nil_append])
     go_wp2_with fail
     have HB0 := hQ0 (show Below w.heap.size w (((w.alloc (.cells #[.bool p, .slice A l.length c] 44)).alloc (.cells #[.bool q, .slice A' l'.length c'] 44)).alloc (.cells #[.bool false, .slice none 0 0] 44)) by ((with_reducible (repeat (first | exact bR _ _ | apply bS | apply bA | apply bD | refine bT ?_ (by assumption) ?_ | refine bO (by assumption) ?_ ?_))) <;> (first | omega | (simp <;> omega))))
     (refine pin_wp (N := _) (Nat.le_refl _) (fun w1 hb_w1 hz_w1 => ?_); (try simp at hz_w1); (with_reducible apply cal2 (b := w.heap.size) hb_w1); (focus (go_simp; try exact ⟨rfl, rfl⟩)); intro cc cc fz hl; (with_reducible apply cal2 (b := w.heap.size + 1) hb_w1); (focus (go_simp; try exact ⟨rfl, rfl⟩)); intro cc cc fz hl; (with_reducible apply cal2 (b := w.heap.size + 1 + 1) hb_w1); (focus (go_simp; try exact ⟨rfl, rfl⟩)); intro cc cc fz hl); refine wp_region_float w1.heap.size 8 (Nat.le_refl _) (fun _ => True) trivial Cl.tt (by kernel_rfl) (by simp) ?_
     have HB1 := hQ0 (HB0.out.trans (hb_w1.mono (by simp <;> omega)))
     refine wpI_start [0, 1] ?_; (iterate 2 (first | (apply wpI_step rfl (by kernel_rfl) rfl; (focus (intro W' hS; have hcS := hS.cells; go_simp; (iterate 2 (first | done | exact rfl | exact bB _ | go_simp)))); intro K hK; go_simp; (try go_bits); refine hK _ ?_; clear hK K))); refine wpI_nil ?_
     refine wpI_start [3, 4] ?_; (iterate 2 (first | (apply wpI_step rfl (by kernel_rfl) rfl; (focus (intro W' hS; have hcS := hS.cells; go_simp; (iterate 2 (first | done | exact rfl | exact bB _ | go_simp)))); intro K hK; go_simp; (try go_bits); refine hK _ ?_; clear hK K))); refine wpI_nil ?_
     apply wpF_call (i := 2) rfl (by kernel_rfl) (by kernel_rfl); intro W hF hS; have hcS := hS.1.cells; go_simp; (go_at_call 70; refine (HMA.out _ (HB1.out.trans (hS.1.2.mono (by omega)))).mono ?_; rintro e w4 ⟨hb_w4, A1, c1, rfl, hc1, hA1⟩; refine XPost.mk _ (fun W => LAt W A1 (canN x)) hb_w4 (hA1) (LAt.cl _ _) ?_); clear hb_w4 hcS hS hF
     intro K hK; go_simp; (try go_bits); refine hK _ ?_; clear hK K
     have HC1 := hQ0 hc1
     clear hA1 hc1
     apply wpF_call (i := 5) rfl (by kernel_rfl) (by kernel_rfl); intro W hF hS; have hcS := hS.1.cells; go_simp; (go_at_call 70; refine (HMB.out _ (HB1.out.trans (hS.1.2.mono (by omega)))).mono ?_; rintro e w5 ⟨hb_w5, A2, c2, rfl, hc2, hA2⟩; refine XPost.mk _ (fun W => LAt W A2 (canN y)) hb_w5 (hA2) (LAt.cl _ _) ?_); clear hb_w5 hcS hS hF
     intro K hK; go_simp; (try go_bits); refine hK _ ?_; clear hK K
     have HC2 := hQ0 hc2
     clear hA2 hc2
     refine wpI_start [6, 7] ?_; (iterate 2 (first | (apply wpI_step rfl (by kernel_rfl) rfl; (focus (intro W' hS; have hcS := hS.cells; go_simp; (iterate 2 (first | done | exact rfl | exact bB _ | go_simp)))); intro K hK; go_simp; (try go_bits); refine hK _ ?_; clear hK K))); refine wpI_nil ?_
     refine wpF_done (by kernel_rfl) ?_
     intro w7 hF_w7 hSG
     have hz_w7 := hSG.1.1
     have hb_w7 := hSG.1.2
     clear hSG
     (with_reducible apply cel2 (b := w.heap.size) hb_w7); ((try simp) <;> omega); omega; (iterate 2 (focus (go_simp; try exact rfl))); (intro o; go_simp); intro cc cc fz hl; (with_reducible apply cel2 (b := w.heap.size + 1) hb_w7); ((try simp) <;> omega); omega; (iterate 2 (focus (go_simp; try exact rfl))); (intro o; go_simp); intro cc cc fz hl; (with_reducible apply cel2 (b := w.heap.size + 1 + 1) hb_w7); ((try simp) <;> omega); omega; (iterate 2 (focus (go_simp; try exact rfl))); (intro o; go_simp); intro cc cc fz hl
     (try simp only [List.drop_succ_cons, List.drop_zero])
     have HB7 := hQ0 (HB1.out.trans (hb_w7.mono (by omega)))
     have HL1 := hQ0 hF_w7.1
     have HL2 := hQ0 hF_w7.2
     clear hb_w1 hb_w7 hF_w7
     go_wp2_with fail
     (go_at_call 73; refine (cmpmag_any A1 A2 x y c1 c2 _ (by omega) (by omega) HL1.out HL2.out).mono ?_; rintro e w75 ⟨rfl, hb_w75⟩; have hz_w75 := hb_w75.size)
     rw [← HCC.out]
     (with_reducible apply cal2 (b := w.heap.size) hb_w75); (focus (go_simp; try exact ⟨rfl, rfl⟩)); intro cc cc fz hl; (with_reducible apply cal2 (b := w.heap.size + 1) hb_w75); (focus (go_simp; try exact ⟨rfl, rfl⟩)); intro cc cc fz hl; (with_reducible apply cal2 (b := w.heap.size + 1 + 1) hb_w75); (focus (go_simp; try exact ⟨rfl, rfl⟩)); intro cc cc fz hl
     have HB7 := hQ0 (HB7.out.trans (hb_w75.mono (by omega)))
     have HL1 := hQ0 (HL1.out.below hb_w75)
     have HL2 := hQ0 (HL2.out.below hb_w75)
     clear hb_w75
     go_wp2_with fail
     (refine pin_wp (N := _) (Nat.le_refl _) (fun w8 hb_w8 hz_w8 => ?_); (try simp at hz_w8); (with_reducible apply cal2 (b := w.heap.size) hb_w8); (focus (go_simp; try exact ⟨rfl, rfl⟩)); intro cc cc fz hl; (with_reducible apply cal2 (b := w.heap.size + 1) hb_w8); (focus (go_simp; try exact ⟨rfl, rfl⟩)); intro cc cc fz hl; (with_reducible apply cal2 (b := w.heap.size + 1 + 1) hb_w8); (focus (go_simp; try exact ⟨rfl, rfl⟩)); intro cc cc fz hl); refine wp_region_float w8.heap.size 6 (Nat.le_refl _) (fun _ => True) trivial Cl.tt (by kernel_rfl) (by simp) ?_
     have HB8 := hQ0 (HB7.out.trans (hb_w8.mono (by omega)))
     have HL3 := hQ0 (HL1.out.below hb_w8)
     have HL4 := hQ0 (HL2.out.below hb_w8)
     clear hb_w8
     refine wpI_start [0, 1, 2, 3] ?_; (iterate 4 (first | (apply wpI_step rfl (by kernel_rfl) rfl; (focus (intro W' hS; have hcS := hS.cells; go_simp; (iterate 2 (first | done | exact rfl | exact bB _ | go_simp)))); intro K hK; go_simp; (try go_bits); refine hK _ ?_; clear hK K))); refine wpI_nil ?_
     apply wpF_call (i := 4) rfl (by kernel_rfl) (by kernel_rfl); intro W hF hS; have hcS := hS.1.cells; go_simp; (go_at_call 74; refine (submag_any A2 A1 (canN y) (canN x) c2 c1 W (canN_lim _) (canN_lim _) (by omega) (by omega) HXY.out (HL4.out.own hS.1 (Nat.le_refl _)) (HL3.out.own hS.1 (Nat.le_refl _))).mono ?_; rintro e w9 ⟨hb_w9, A3, c3, l3, rfl, hc3, hl3, hk3, hm3, hA3⟩; refine XPost.mk _ (fun W => LAt W A3 l3) hb_w9 (hA3) (LAt.cl _ _) ?_); clear hb_w9 hcS hS hF
     intro K hK; go_simp; (try go_bits); refine hK _ ?_; clear hK K
     have hmk := fun w' (h : LAt w' A3 l3) => make1_any q A3 l3 c3 w' hl3 h hc3 (by omega)
     rw [hm3, mv_canN, mv_canN, ← HZ.out] at hmk
     have HMK := hQ0 hmk
     clear hA3 hc3 hl3 hk3 hm3 hmk
     apply wpF_call (i := 5) rfl (by kernel_rfl) (by kernel_rfl); intro W hF hS; have hcS := hS.1.cells; go_simp; (go_at_call 71; refine (HMK.out _ hF).mono ?_; rintro e w10 ⟨hb_w10, v4, rfl, A4, c4, rfl, hc4, hA4⟩; refine XPost.mk _ (fun W => LAt W A4 (canN Z.natAbs)) hb_w10 (hA4) (LAt.cl _ _) ?_); clear hb_w10 hcS hS hF
     intro K hK; go_simp; (try go_bits); refine hK _ ?_; clear hK K
     have HC4 := hQ0 hc4
     clear hA4 hc4
     refine wpF_done (by kernel_rfl) ?_
     intro w11 hF_w11 hSG
     have hz_w11 := hSG.1.1
     have hb_w11 := hSG.1.2
     clear hSG
     (with_reducible apply cel2 (b := w.heap.size) hb_w11); ((try simp) <;> omega); omega; (iterate 2 (focus (go_simp; try exact rfl))); (intro o; go_simp); intro cc cc fz hl; (with_reducible apply cel2 (b := w.heap.size + 1) hb_w11); ((try simp) <;> omega); omega; (iterate 2 (focus (go_simp; try exact rfl))); (intro o; go_simp); intro cc cc fz hl; (with_reducible apply cel2 (b := w.heap.size + 1 + 1) hb_w11); ((try simp) <;> omega); omega; (iterate 2 (focus (go_simp; try exact rfl))); (intro o; go_simp); intro cc cc fz hl
     (try simp only [List.drop_succ_cons, List.drop_zero])
     have HB11 := hQ0 (HB8.out.trans (hb_w11.mono (by omega)))
     have HL5 := hQ0 hF_w11.2
     clear hb_w11 hF_w11
     go_wp2_with fail
     refine bodyPost_ret (v := .agg #[.bool (decide (Z < 0)), .slice A4 (canN Z.natAbs).length c4]) (by simp only [results, Tryz.results39]; go_simp) rfl ⟨?_, ?_⟩
     · exact (HB11.out.setCell (by simp <;> omega) _).setCell (by simp <;> omega) _
     · exact ⟨_, rfl, A4, c4, rfl, HC4.out, HL5.out.set2 (by assumption) (by assumption) _ _⟩
   · have hxy : y ≤ x := by unfold cmpI at hcm; split at hcm <;> (try split at hcm) <;> omega
     have HZ := hQ0 hs.1
     obtain ⟨C, hC⟩ : ∃ C, C = cmpI x y := ⟨_, rfl⟩
     rw [← hC] at hcm
     have HCC := hQ0 hC
     have k1 : mv (canN y) ≤ mv (canN x) := by rw [mv_canN, mv_canN]; omega
     have HXY := hQ0 k1
     have hlen : (canN y).length ≤ (canN x).length := by
      rw [canN_len]
      have := (@canN_len x (canN x).length).1 (Nat.le_refl _)
      omega
     clear hs HS HD hC hpq k1
     go_enter Tryz.func39, Tryz.ntmps39; (try simp only [List.append_eq, List.cons_append, List.nil_append])
     go_wp2_with fail
     have HB0 := hQ0 (show Below w.heap.size w (((w.alloc (.cells #[.bool p, .slice A l.length c] 44)).alloc (.cells #[.bool q, .slice A' l'.length c'] 44)).alloc (.cells #[.bool false, .slice none 0 0] 44)) by ((with_reducible (repeat (first | exact bR _ _ | apply bS | apply bA | apply bD | refine bT ?_ (by assumption) ?_ | refine bO (by assumption) ?_ ?_))) <;> (first | omega | (simp <;> omega))))
     (refine pin_wp (N := _) (Nat.le_refl _) (fun w1 hb_w1 hz_w1 => ?_); (try simp at hz_w1); (with_reducible apply cal2 (b := w.heap.size) hb_w1); (focus (go_simp; try exact ⟨rfl, rfl⟩)); intro cc cc fz hl; (with_reducible apply cal2 (b := w.heap.size + 1) hb_w1); (focus (go_simp; try exact ⟨rfl, rfl⟩)); intro cc cc fz hl; (with_reducible apply cal2 (b := w.heap.size + 1 + 1) hb_w1); (focus (go_simp; try exact ⟨rfl, rfl⟩)); intro cc cc fz hl); refine wp_region_float w1.heap.size 8 (Nat.le_refl _) (fun _ => True) trivial Cl.tt (by kernel_rfl) (by simp) ?_
     have HB1 := hQ0 (HB0.out.trans (hb_w1.mono (by simp <;> omega)))
     refine wpI_start [0, 1] ?_; (iterate 2 (first | (apply wpI_step rfl (by kernel_rfl) rfl; (focus (intro W' hS; have hcS := hS.cells; go_simp; (iterate 2 (first | done | exact rfl | exact bB _ | go_simp)))); intro K hK; go_simp; (try go_bits); refine hK _ ?_; clear hK K))); refine wpI_nil ?_
     refine wpI_start [3, 4] ?_; (iterate 2 (first | (apply wpI_step rfl (by kernel_rfl) rfl; (focus (intro W' hS; have hcS := hS.cells; go_simp; (iterate 2 (first | done | exact rfl | exact bB _ | go_simp)))); intro K hK; go_simp; (try go_bits); refine hK _ ?_; clear hK K))); refine wpI_nil ?_
     apply wpF_call (i := 2) rfl (by kernel_rfl) (by kernel_rfl); intro W hF hS; have hcS := hS.1.cells; go_simp; (go_at_call 70; refine (HMA.out _ (HB1.out.trans (hS.1.2.mono (by omega)))).mono ?_; rintro e w4 ⟨hb_w4, A1, c1, rfl, hc1, hA1⟩; refine XPost.mk _ (fun W => LAt W A1 (canN x)) hb_w4 (hA1) (LAt.cl _ _) ?_); clear hb_w4 hcS hS hF
     intro K hK; go_simp; (try go_bits); refine hK _ ?_; clear hK K
     have HC1 := hQ0 hc1
     clear hA1 hc1
     apply wpF_call (i := 5) rfl (by kernel_rfl) (by kernel_rfl); intro W hF hS; have hcS := hS.1.cells; go_simp; (go_at_call 70; refine (HMB.out _ (HB1.out.trans (hS.1.2.mono (by omega)))).mono ?_; rintro e w5 ⟨hb_w5, A2, c2, rfl, hc2, hA2⟩; refine XPost.mk _ (fun W => LAt W A2 (canN y)) hb_w5 (hA2) (LAt.cl _ _) ?_); clear hb_w5 hcS hS hF
     intro K hK; go_simp; (try go_bits); refine hK _ ?_; clear hK K
     have HC2 := hQ0 hc2
     clear hA2 hc2
     refine wpI_start [6, 7] ?_; (iterate 2 (first | (apply wpI_step rfl (by kernel_rfl) rfl; (focus (intro W' hS; have hcS := hS.cells; go_simp; (iterate 2 (first | done | exact rfl | exact bB _ | go_simp)))); intro K hK; go_simp; (try go_bits); refine hK _ ?_; clear hK K))); refine wpI_nil ?_
     refine wpF_done (by kernel_rfl) ?_
     intro w7 hF_w7 hSG
     have hz_w7 := hSG.1.1
     have hb_w7 := hSG.1.2
     clear hSG
     (with_reducible apply cel2 (b := w.heap.size) hb_w7); ((try simp) <;> omega); omega; (iterate 2 (focus (go_simp; try exact rfl))); (intro o; go_simp); intro cc cc fz hl; (with_reducible apply cel2 (b := w.heap.size + 1) hb_w7); ((try simp) <;> omega); omega; (iterate 2 (focus (go_simp; try exact rfl))); (intro o; go_simp); intro cc cc fz hl; (with_reducible apply cel2 (b := w.heap.size + 1 + 1) hb_w7); ((try simp) <;> omega); omega; (iterate 2 (focus (go_simp; try exact rfl))); (intro o; go_simp); intro cc cc fz hl
     (try simp only [List.drop_succ_cons, List.drop_zero])
     have HB7 := hQ0 (HB1.out.trans (hb_w7.mono (by omega)))
     have HL1 := hQ0 hF_w7.1
     have HL2 := hQ0 hF_w7.2
     clear hb_w1 hb_w7 hF_w7
     go_wp2_with fail
     (go_at_call 73; refine (cmpmag_any A1 A2 x y c1 c2 _ (by omega) (by omega) HL1.out HL2.out).mono ?_; rintro e w75 ⟨rfl, hb_w75⟩; have hz_w75 := hb_w75.size)
     rw [← HCC.out]
     (with_reducible apply cal2 (b := w.heap.size) hb_w75); (focus (go_simp; try exact ⟨rfl, rfl⟩)); intro cc cc fz hl; (with_reducible apply cal2 (b := w.heap.size + 1) hb_w75); (focus (go_simp; try exact ⟨rfl, rfl⟩)); intro cc cc fz hl; (with_reducible apply cal2 (b := w.heap.size + 1 + 1) hb_w75); (focus (go_simp; try exact ⟨rfl, rfl⟩)); intro cc cc fz hl
     have HB7 := hQ0 (HB7.out.trans (hb_w75.mono (by omega)))
     have HL1 := hQ0 (HL1.out.below hb_w75)
     have HL2 := hQ0 (HL2.out.below hb_w75)
     clear hb_w75
     go_wp2_with fail
     (refine pin_wp (N := _) (Nat.le_refl _) (fun w8 hb_w8 hz_w8 => ?_); (try simp at hz_w8); (with_reducible apply cal2 (b := w.heap.size) hb_w8); (focus (go_simp; try exact ⟨rfl, rfl⟩)); intro cc cc fz hl; (with_reducible apply cal2 (b := w.heap.size + 1) hb_w8); (focus (go_simp; try exact ⟨rfl, rfl⟩)); intro cc cc fz hl; (with_reducible apply cal2 (b := w.heap.size + 1 + 1) hb_w8); (focus (go_simp; try exact ⟨rfl, rfl⟩)); intro cc cc fz hl); refine wp_region_float w8.heap.size 6 (Nat.le_refl _) (fun _ => True) trivial Cl.tt (by kernel_rfl) (by simp) ?_
     have HB8 := hQ0 (HB7.out.trans (hb_w8.mono (by omega)))
     have HL3 := hQ0 (HL1.out.below hb_w8)
     have HL4 := hQ0 (HL2.out.below hb_w8)
     clear hb_w8
     refine wpI_start [0, 1, 2, 3] ?_; (iterate 4 (first | (apply wpI_step rfl (by kernel_rfl) rfl; (focus (intro W' hS; have hcS := hS.cells; go_simp; (iterate 2 (first | done | exact rfl | exact bB _ | go_simp)))); intro K hK; go_simp; (try go_bits); refine hK _ ?_; clear hK K))); refine wpI_nil ?_
     apply wpF_call (i := 4) rfl (by kernel_rfl) (by kernel_rfl); intro W hF hS; have hcS := hS.1.cells; go_simp; (go_at_call 74; refine (submag_any A1 A2 (canN x) (canN y) c1 c2 W (canN_lim _) (canN_lim _) (by omega) (by omega) HXY.out (HL3.out.own hS.1 (Nat.le_refl _)) (HL4.out.own hS.1 (Nat.le_refl _))).mono ?_; rintro e w9 ⟨hb_w9, A3, c3, l3, rfl, hc3, hl3, hk3, hm3, hA3⟩; refine XPost.mk _ (fun W => LAt W A3 l3) hb_w9 (hA3) (LAt.cl _ _) ?_); clear hb_w9 hcS hS hF
     intro K hK; go_simp; (try go_bits); refine hK _ ?_; clear hK K
     have hmk := fun w' (h : LAt w' A3 l3) => make1_any p A3 l3 c3 w' hl3 h hc3 (by omega)
     rw [hm3, mv_canN, mv_canN, ← HZ.out] at hmk
     have HMK := hQ0 hmk
     clear hA3 hc3 hl3 hk3 hm3 hmk
     apply wpF_call (i := 5) rfl (by kernel_rfl) (by kernel_rfl); intro W hF hS; have hcS := hS.1.cells; go_simp; (go_at_call 71; refine (HMK.out _ hF).mono ?_; rintro e w10 ⟨hb_w10, v4, rfl, A4, c4, rfl, hc4, hA4⟩; refine XPost.mk _ (fun W => LAt W A4 (canN Z.natAbs)) hb_w10 (hA4) (LAt.cl _ _) ?_); clear hb_w10 hcS hS hF
     intro K hK; go_simp; (try go_bits); refine hK _ ?_; clear hK K
     have HC4 := hQ0 hc4
     clear hA4 hc4
     refine wpF_done (by kernel_rfl) ?_
     intro w11 hF_w11 hSG
     have hz_w11 := hSG.1.1
     have hb_w11 := hSG.1.2
     clear hSG
     (with_reducible apply cel2 (b := w.heap.size) hb_w11); ((try simp) <;> omega); omega; (iterate 2 (focus (go_simp; try exact rfl))); (intro o; go_simp); intro cc cc fz hl; (with_reducible apply cel2 (b := w.heap.size + 1) hb_w11); ((try simp) <;> omega); omega; (iterate 2 (focus (go_simp; try exact rfl))); (intro o; go_simp); intro cc cc fz hl; (with_reducible apply cel2 (b := w.heap.size + 1 + 1) hb_w11); ((try simp) <;> omega); omega; (iterate 2 (focus (go_simp; try exact rfl))); (intro o; go_simp); intro cc cc fz hl
     (try simp only [List.drop_succ_cons, List.drop_zero])
     have HB11 := hQ0 (HB8.out.trans (hb_w11.mono (by omega)))
     have HL5 := hQ0 hF_w11.2
     clear hb_w11 hF_w11
     go_wp2_with fail
     refine bodyPost_ret (v := .agg #[.bool (decide (Z < 0)), .slice A4 (canN Z.natAbs).length c4]) (by simp only [results, Tryz.results39]; go_simp) rfl ⟨?_, ?_⟩
     · exact (HB11.out.setCell (by simp <;> omega) _).setCell (by simp <;> omega) _
     · exact ⟨_, rfl, A4, c4, rfl, HC4.out, HL5.out.set2 (by assumption) (by assumption) _ _⟩
theorem IsC.zl {w : World} {v : Value} {z : Int} (h : IsC w v z) {n : Nat} (hn : (canN z.natAbs).length ≤ n) : IsZ w v n z := h.z n (canN_len.1 hn)
theorem isZ_len {w : World} {v : Value} {n : Nat} {z : Int} (h : IsZ w v n z) : (canN z.natAbs).length ≤ n := by
 obtain ⟨_, _, _, _, _, _, _, _, _, _, _, h⟩ := isZ_open h; exact h
theorem isZ_val {w : World} {v : Value} {n : Nat} {z : Int} (h : IsZ w v n z) : ∃ neg A c l, v = .agg #[.bool neg, .slice A l c] := by
 obtain ⟨neg, A, c, l, h, _⟩ := h; exact ⟨neg, A, c, l.length, h⟩
set_option maxRecDepth 100000 in
set_option maxHeartbeats 4000000 in
theorem minus_any (n : Nat) (u v : Value) (a b : Int) (w : World) (ha : IsZ w u n a) (hb : IsZ w v n b) (hn : n ≤ 400000) :
  Calls Tryz.prog 76 #[u, v] w (ZOut (a - b) w) := by
 have hlb := isZ_len hb
 have HA := hQ0 ha
 have HB := hQ0 hb
 obtain ⟨p, A, c, l, rfl⟩ := isZ_val ha
 obtain ⟨q, A', c', l', rfl⟩ := isZ_val hb
 have e : a - b = a + -b := by omega
 rw [e]
 have hnb : (canN (-b).natAbs).length ≤ n := by rw [Int.natAbs_neg]; exact hlb
 obtain ⟨B, hB⟩ : ∃ B, B = -b := ⟨_, rfl⟩
 have hneg := fun w' (h : Below w.heap.size w w') => neg_any n _ b w' (HB.out.below h) (by omega)
 rw [← hB] at hnb hneg ⊢
 have HN := hQ0 hneg
 clear ha hb e hB hneg hlb
 go_enter Tryz.func76, Tryz.ntmps76; (try simp only [List.append_eq, List.cons_append, List.nil_append])
 go_wp2_with fail
 have HB0 := hQ0 (show Below w.heap.size w (((w.alloc (.cells #[.bool p, .slice A l c] 44)).alloc (.cells #[.bool q, .slice A' l' c'] 44)).alloc (.cells #[.bool false, .slice none 0 0] 44)) by ((with_reducible (repeat (first | exact bR _ _ | apply bS | apply bA | apply bD | refine bT ?_ (by assumption) ?_ | refine bO (by assumption) ?_ ?_))) <;> (first | omega | (simp <;> omega))))
 (refine pin_wp (N := _) (Nat.le_refl _) (fun w1 hb_w1 hz_w1 => ?_); (try simp at hz_w1); (with_reducible apply cal2 (b := w.heap.size) hb_w1); (focus (go_simp; try exact ⟨rfl, rfl⟩)); intro cc cc fz hl; (with_reducible apply cal2 (b := w.heap.size + 1) hb_w1); (focus (go_simp; try exact ⟨rfl, rfl⟩)); intro cc cc fz hl; (with_reducible apply cal2 (b := w.heap.size + 1 + 1) hb_w1); (focus (go_simp; try exact ⟨rfl, rfl⟩)); intro cc cc fz hl); refine wp_region_float w1.heap.size 4 (Nat.le_refl _) (fun _ => True) trivial Cl.tt (by kernel_rfl) (by simp) ?_
 have HB1 := hQ0 (HB0.out.trans (hb_w1.mono (by simp <;> omega)))
 clear hb_w1
 refine wpI_start [0, 1] ?_; (iterate 2 (first | (apply wpI_step rfl (by kernel_rfl) rfl; (focus (intro W' hS; have hcS := hS.cells; go_simp; (iterate 2 (first | done | exact rfl | exact bB _ | go_simp)))); intro K hK; go_simp; (try go_bits); refine hK _ ?_; clear hK K))); refine wpI_nil ?_
 apply wpF_call (i := 2) rfl (by kernel_rfl) (by kernel_rfl); intro W hF hS; have hcS := hS.1.cells; go_simp; (go_at_call 107; refine (HN.out _ (HB1.out.trans (hS.1.2.mono (by omega)))).mono ?_; rintro e w2 ⟨hb_w2, v1, rfl, hv1⟩; refine XPost.mk _ (fun W => IsC W v1 B) hb_w2 (hv1) (IsC.cl _ _) ?_); clear hb_w2 hcS hS hF
 intro K hK; go_simp; (try go_bits); refine hK _ ?_; clear hK K
 clear hv1
 apply wpF_call (i := 3) rfl (by kernel_rfl) (by kernel_rfl); intro W hF hS; have hcS := hS.1.cells; go_simp; (go_at_call 39; refine (plus_any n _ _ a B W (HA.out.below (HB1.out.trans (hS.1.2.mono (by omega)))) (hF.zl hnb) hn).mono ?_; rintro e w3 ⟨hb_w3, v4, rfl, A4, c4, rfl, hc4, hA4⟩; refine XPost.mk _ (fun W => LAt W A4 (canN (a + B).natAbs)) hb_w3 (hA4) (LAt.cl _ _) ?_); clear hb_w3 hcS hS hF
 intro K hK; go_simp; (try go_bits); refine hK _ ?_; clear hK K
 have HC4 := hQ0 hc4
 clear hA4 hc4
 refine wpF_done (by kernel_rfl) ?_
 intro w5 hF_w5 hSG
 have hz_w5 := hSG.1.1
 have hb_w5 := hSG.1.2
 clear hSG
 (with_reducible apply cel2 (b := w.heap.size) hb_w5); ((try simp) <;> omega); omega; (iterate 2 (focus (go_simp; try exact rfl))); (intro o; go_simp); intro cc cc fz hl; (with_reducible apply cel2 (b := w.heap.size + 1) hb_w5); ((try simp) <;> omega); omega; (iterate 2 (focus (go_simp; try exact rfl))); (intro o; go_simp); intro cc cc fz hl; (with_reducible apply cel2 (b := w.heap.size + 1 + 1) hb_w5); ((try simp) <;> omega); omega; (iterate 2 (focus (go_simp; try exact rfl))); (intro o; go_simp); intro cc cc fz hl
 (try simp only [List.drop_succ_cons, List.drop_zero])
 have HB5 := hQ0 (HB1.out.trans (hb_w5.mono (by omega)))
 have HL5 := hQ0 hF_w5.2
 clear hb_w5 hF_w5
 go_wp2_with fail
 refine bodyPost_ret (v := .agg #[.bool (decide (a + B < 0)), .slice A4 (canN (a + B).natAbs).length c4]) (by simp only [results, Tryz.results76]; go_simp) rfl ⟨?_, ?_⟩
 · exact (HB5.out.setCell (by simp <;> omega) _).setCell (by simp <;> omega) _
 · exact ⟨_, rfl, A4, c4, rfl, HC4.out, HL5.out.set2 (by assumption) (by assumption) _ _⟩
set_option maxRecDepth 100000 in
set_option maxHeartbeats 4000000 in
theorem times_any (n : Nat) (u v : Value) (a b : Int) (w : World) (ha : IsZ w u n a) (hb : IsZ w v n b) (hn : n ≤ 400000) :
  Calls Tryz.prog 40 #[u, v] w (ZOut (a * b) w) := by
 obtain ⟨p, A, c, l, rfl, hc, hL, hl, hAt, ea, ma, ca⟩ := isZ_open ha
 obtain ⟨q, A', c', l', rfl, hc', hL', hl', hAt', eb, mb, cb⟩ := isZ_open hb
 have hma := fun w' (h : Below w.heap.size w w') => mag_any A l c w' hL (hAt.below h) hc (by omega)
 have hmb := fun w' (h : Below w.heap.size w w') => mag_any A' l' c' w' hL' (hAt'.below h) hc' (by omega)
 rw [ma] at hma
 rw [mb] at hmb
 obtain ⟨x, hx⟩ : ∃ x, x = a.natAbs := ⟨_, rfl⟩
 obtain ⟨y, hy⟩ : ∃ y, y = b.natAbs := ⟨_, rfl⟩
 rw [← hx] at hma ca ea
 rw [← hy] at hmb cb eb
 obtain ⟨Z, hZ⟩ : ∃ Z, Z = a * b := ⟨_, rfl⟩
 have hz : Z = sv (p != q) ((x : Int) * y) := by rw [hZ]; exact sv_mul ea eb
 rw [← hZ]
 have HMA := hQ0 hma
 have HMB := hQ0 hmb
 have HZ := hQ0 hz
 clear hma hmb hz ma mb hx hy hZ ea eb hAt hAt' hL hL' ha hb
 obtain ⟨s, hs⟩ : ∃ s, s = (p != q) := ⟨_, rfl⟩
 rw [← hs] at HZ
 replace hs : (!(p == q)) = s := by rw [hs]; cases p <;> cases q <;> rfl
 go_enter Tryz.func40, Tryz.ntmps40; (try simp only [List.append_eq, List.cons_append, List.nil_append])
 go_wp2_with fail
 have HB0 := hQ0 (show Below w.heap.size w (((w.alloc (.cells #[.bool p, .slice A l.length c] 44)).alloc (.cells #[.bool q, .slice A' l'.length c'] 44)).alloc (.cells #[.bool false, .slice none 0 0] 44)) by ((with_reducible (repeat (first | exact bR _ _ | apply bS | apply bA | apply bD | refine bT ?_ (by assumption) ?_ | refine bO (by assumption) ?_ ?_))) <;> (first | omega | (simp <;> omega))))
 (refine pin_wp (N := _) (Nat.le_refl _) (fun w1 hb_w1 hz_w1 => ?_); (try simp at hz_w1); (with_reducible apply cal2 (b := w.heap.size) hb_w1); (focus (go_simp; try exact ⟨rfl, rfl⟩)); intro cc cc fz hl; (with_reducible apply cal2 (b := w.heap.size + 1) hb_w1); (focus (go_simp; try exact ⟨rfl, rfl⟩)); intro cc cc fz hl; (with_reducible apply cal2 (b := w.heap.size + 1 + 1) hb_w1); (focus (go_simp; try exact ⟨rfl, rfl⟩)); intro cc cc fz hl); refine wp_region_float w1.heap.size 13 (Nat.le_refl _) (fun _ => True) trivial Cl.tt (by kernel_rfl) (by simp) ?_
 have HB1 := hQ0 (HB0.out.trans (hb_w1.mono (by simp <;> omega)))
 clear hb_w1
 refine wpI_start [0, 1, 2, 3, 4, 5, 6] ?_; (iterate 7 (first | (apply wpI_step rfl (by kernel_rfl) rfl; (focus (intro W' hS; have hcS := hS.cells; go_simp; (iterate 2 (first | done | exact rfl | exact bB _ | go_simp)))); intro K hK; go_simp; (try go_bits); refine hK _ ?_; clear hK K))); refine wpI_nil ?_
 refine wpI_start [8, 9] ?_; (iterate 2 (first | (apply wpI_step rfl (by kernel_rfl) rfl; (focus (intro W' hS; have hcS := hS.cells; go_simp; (iterate 2 (first | done | exact rfl | exact bB _ | go_simp)))); intro K hK; go_simp; (try go_bits); refine hK _ ?_; clear hK K))); refine wpI_nil ?_
 apply wpF_call (i := 7) rfl (by kernel_rfl) (by kernel_rfl); intro W hF hS; have hcS := hS.1.cells; go_simp; (go_at_call 70; refine (HMA.out _ (HB1.out.trans (hS.1.2.mono (by omega)))).mono ?_; rintro e w4 ⟨hb_w4, A1, c1, rfl, hc1, hA1⟩; refine XPost.mk _ (fun W => LAt W A1 (canN x)) hb_w4 (hA1) (LAt.cl _ _) ?_); clear hb_w4 hcS hS hF
 intro K hK; go_simp; (try go_bits); refine hK _ ?_; clear hK K
 have HC1 := hQ0 hc1
 clear hA1 hc1
 apply wpF_call (i := 10) rfl (by kernel_rfl) (by kernel_rfl); intro W hF hS; have hcS := hS.1.cells; go_simp; (go_at_call 70; refine (HMB.out _ (HB1.out.trans (hS.1.2.mono (by omega)))).mono ?_; rintro e w5 ⟨hb_w5, A2, c2, rfl, hc2, hA2⟩; refine XPost.mk _ (fun W => LAt W A2 (canN y)) hb_w5 (hA2) (LAt.cl _ _) ?_); clear hb_w5 hcS hS hF
 intro K hK; go_simp; (try go_bits); refine hK _ ?_; clear hK K
 have HC2 := hQ0 hc2
 clear hA2 hc2
 apply wpF_call (i := 11) rfl (by kernel_rfl) (by kernel_rfl); intro W hF hS; have hcS := hS.1.cells; go_simp; (go_at_call 75; refine (mulmag_any A1 A2 (canN x) (canN y) c1 c2 W (canN_lim _) (canN_lim _) (by omega) (by omega) hF.1 hF.2).mono ?_; rintro e w9 ⟨hb_w9, A3, c3, l3, rfl, hc3, hl3, hk3, hm3, hA3⟩; refine XPost.mk _ (fun W => LAt W A3 l3) hb_w9 (hA3) (LAt.cl _ _) ?_); clear hb_w9 hcS hS hF
 intro K hK; go_simp; (try go_bits); refine hK _ ?_; clear hK K
 have hmk := fun w' (h : LAt w' A3 l3) => make1_any s A3 l3 c3 w' hl3 h hc3 (by omega)
 rw [hm3, mv_canN, mv_canN, ← HZ.out] at hmk
 have HMK := hQ0 hmk
 clear hA3 hc3 hl3 hk3 hm3 hmk
 apply wpF_call (i := 12) rfl (by kernel_rfl) (by kernel_rfl); intro W hF hS; have hcS := hS.1.cells; go_simp; (go_at_call 71; refine (HMK.out _ hF.2).mono ?_; rintro e w10 ⟨hb_w10, v4, rfl, A4, c4, rfl, hc4, hA4⟩; refine XPost.mk _ (fun W => LAt W A4 (canN Z.natAbs)) hb_w10 (hA4) (LAt.cl _ _) ?_); clear hb_w10 hcS hS hF
 intro K hK; go_simp; (try go_bits); refine hK _ ?_; clear hK K
 have HC4 := hQ0 hc4
 clear hA4 hc4
 refine wpF_done (by kernel_rfl) ?_
 intro w11 hF_w11 hSG
 have hz_w11 := hSG.1.1
 have hb_w11 := hSG.1.2
 clear hSG
 (with_reducible apply cel2 (b := w.heap.size) hb_w11); ((try simp) <;> omega); omega; (iterate 2 (focus (go_simp; try exact rfl))); (intro o; go_simp); intro cc cc fz hl; (with_reducible apply cel2 (b := w.heap.size + 1) hb_w11); ((try simp) <;> omega); omega; (iterate 2 (focus (go_simp; try exact rfl))); (intro o; go_simp); intro cc cc fz hl; (with_reducible apply cel2 (b := w.heap.size + 1 + 1) hb_w11); ((try simp) <;> omega); omega; (iterate 2 (focus (go_simp; try exact rfl))); (intro o; go_simp); intro cc cc fz hl
 (try simp only [List.drop_succ_cons, List.drop_zero])
 have HB11 := hQ0 (HB1.out.trans (hb_w11.mono (by omega)))
 have HL5 := hQ0 hF_w11.2
 clear hb_w11 hF_w11
 go_wp2_with fail
 refine bodyPost_ret (v := .agg #[.bool (decide (Z < 0)), .slice A4 (canN Z.natAbs).length c4]) (by simp only [results, Tryz.results40]; go_simp) rfl ⟨?_, ?_⟩
 · exact (HB11.out.setCell (by simp <;> omega) _).setCell (by simp <;> omega) _
 · exact ⟨_, rfl, A4, c4, rfl, HC4.out, HL5.out.set2 (by assumption) (by assumption) _ _⟩
theorem OwnL.addr {w : World} {base : Nat} {A : Option Addr} {n c : Nat} {l : List Int} (h : OwnL w base (.slice A n c) l) : ∀ g o, A = some ⟨g, o, none⟩ → base ≤ g ∧ g < w.heap.size := by
 intro g o hA
 rcases h.2 with ⟨hv, _⟩ | ⟨g', cap, cur, hv, hb, hh, _⟩
 · rw [hA] at hv; injection hv with hv; cases hv
 · rw [hA] at hv
   have e : (some ⟨g, o, none⟩ : Option Addr) = some ⟨g', 0, none⟩ := by injection hv
   simp only [Option.some.injEq, Addr.mk.injEq] at e
   obtain ⟨rfl, _, _⟩ := e
   exact ⟨hb, (Array.getElem?_eq_some_iff.1 hh).1⟩
theorem givesW_append {N : Nat} {W0 W : World} {o : Oper} {a : Act} {K : Value → (World → Prop) → List (Nat × Obj) → Prop} (s x : Operand)
  (ho : o.op = .call { callee := .builtin .append, args := #[s, x], argTypes := #[42, 42] })
  (base : Nat) (v : Value) (xs : List Int) (hs : a.eval s = v) (hown : OwnL W base v xs)
  (A : Option Addr) (c : Nat) (l : List Int) (hx : a.eval x = .slice A l.length c) (hA : LAt W A l) (h63 : xs.length + l.length ≤ 1000000000) (hbase : base ≤ W.heap.size)
  (h : ∀ v' w', OwnL w' base v' (xs ++ l) → W.grownBy w' v.ownBlock → (v'.ownBlock = v.ownBlock ∨ v'.ownBlock = some W.heap.size) → WPost N W0 K (.returned v') w') : givesW Tryz.prog N W0 K ((execOp a.eval o).run Tryz.prog W) := by
 obtain ⟨v', w', hrun, h2, h3, h5⟩ := run_append_limbs W base o.type v _ _ hown A c l hA (by unfold maxLen; omega) (by omega) hbase
 unfold execOp
 simp only [ho, resolve, invoke, builtin, Sem.run_bind, Sem.run_pure, Result.andThen_ok, List.map_toArray, List.map_cons, List.map_nil, hs, hx, hrun]
 exact h v' w' (by unfold OwnL; rw [List.length_append, List.map_append]; exact h2) h3 h5
theorem madeCells_list (W : Nat) : (madeCells #[Value.int .u32 0] W).toList = (List.replicate W 0).map (Value.int .u32) := by
 apply List.ext_getElem?
 intro i
 simp [madeCells, Nat.mod_one]
 rcases Nat.lt_or_ge i W with h | h
 · simp [h]
 · simp [Nat.not_lt.2 h]
theorem OwnL.made {w : World} {base : Nat} (W : Nat) (hb : base ≤ w.heap.size) (hW : W ≤ 1000000000) : OwnL (w.alloc (.cells (madeCells #[.int .u32 0] W) 107)) base (.slice (some ⟨w.heap.size, 0, none⟩) W W) (List.replicate W 0) := by
 have h2 : (madeCells #[Value.int .u32 0] W).size = W * 1 := by rw [size_madeCells, Nat.mul_one]
 refine ⟨by simp, .inr ⟨w.heap.size, W, madeCells #[.int .u32 0] W, by simp, hb, heap_alloc_new w _, by simp, by unfold maxLen; omega, h2, ?_⟩⟩
 rw [List.length_replicate, Nat.mul_one, List.take_of_length_le (by rw [Array.length_toList, size_madeCells]; exact Nat.le_refl _)]
 exact madeCells_list W
theorem pow2_bd {k : Nat} (h : k ≤ 31) : 1 ≤ (2 : Int) ^ k ∧ (2 : Int) ^ k ≤ 2147483648 := by
 have h1 : (2 : Nat) ^ k ≤ 2147483648 := Nat.le_trans (Nat.pow_le_pow_right (by omega) h) (by decide)
 have h2 : 1 ≤ (2 : Nat) ^ k := Nat.one_le_two_pow
 have e : ((2 ^ k : Nat) : Int) = (2 : Int) ^ k := by rw [Int.natCast_pow]; rfl
 omega
theorem wraps_u64' (n : Int) (h₀ : 0 ≤ n) (h₁ : n < 2 ^ 64) : IntKind.u64.wrap n = n := by rw [IntKind.wrap_u64]; omega
theorem up_word {x cc P : Int} {k : Nat} (hk : k ≤ 31) (hP : P = 2 ^ k) (x0 : 0 ≤ x) (x1 : x < 4294967296) (c0 : 0 ≤ cc) (c1 : cc < P) :
  IntKind.u64.wrap (x * 2 ^ k) = x * P ∧ bits .or .u64 (x * P) cc = x * P + cc ∧ 0 ≤ x * P + cc ∧ x * P + cc < 18446744073709551616 ∧ (x * P + cc) / 4294967296 < P ∧ 0 ≤ x * P ∧ min k 64 = k := by
 obtain ⟨p0, p1⟩ := pow2_bd hk
 rw [← hP] at p0 p1 ⊢
 have m1 : x * P ≤ 4294967295 * P := Int.mul_le_mul_of_nonneg_right (by omega) (by omega)
 have m0 : 0 ≤ x * P := Int.mul_nonneg x0 (by omega)
 refine ⟨by rw [IntKind.wrap_u64]; omega, ?_, by omega, by omega, by omega, m0, by omega⟩
 refine bits_join .u64 64 (by decide) wraps_u64' k (x * P) cc m0 ?_ (by omega) c0 (by rw [← hP]; exact c1) (by omega)
 rw [hP]
 exact Int.mul_emod_left _ _
theorem up_step {m out : List Int} {W i : Nat} {P cc x s : Int} (ho : out.length = W + i) (h : mv out + PB (W + i) * cc = PB W * (mv (m.take i) * P)) (hx : m[i]? = some x) (hs : s = x * P + cc) :
  mv (out ++ [s % 4294967296]) + PB (W + (i + 1)) * (s / 4294967296) = PB W * (mv (m.take (i + 1)) * P) := by
 rw [mv_snoc, ho, ← Nat.add_assoc, PB_succ, mv_take_succ hx]
 have e : s = s % 4294967296 + 4294967296 * (s / 4294967296) := by omega
 obtain ⟨S, hS⟩ : ∃ S, S = s % 4294967296 := ⟨_, rfl⟩
 obtain ⟨T, hT⟩ : ∃ T, T = s / 4294967296 := ⟨_, rfl⟩
 rw [← hS, ← hT] at e
 rw [← hS, ← hT]
 have e1 : S = x * P + cc - 4294967296 * T := by omega
 have e2 : PB (W + i) = PB W * PB i := PB_add _ _
 rw [e2] at h ⊢
 rw [e1]
 grind
set_option maxRecDepth 100000 in
set_option maxHeartbeats 1000000 in
theorem up_own (n : Nat) (u : Value) (a : Int) (wd k : Nat) (w : World) (ha : IsZ w u n a) (hn : n ≤ 400000) (hk : k ≤ 31) (hW : wd ≤ 400000) :
  Calls Tryz.prog 108 #[u, .int .i64 (32 * (wd : Int) + (k : Int))] w (ZOwn (a * (PB wd * 2 ^ k)) w) := by
 obtain ⟨p, A, c, l, rfl, hc, hL, hl, hAt, ea, ma, ca⟩ := isZ_open ha
 have hma := fun w' (h : Below w.heap.size w w') => mag_own A l c w' hL (hAt.below h) hc (by omega)
 rw [ma] at hma
 obtain ⟨x, hx⟩ : ∃ x, x = a.natAbs := ⟨_, rfl⟩
 rw [← hx] at hma ca ea
 obtain ⟨P, hP⟩ : ∃ P : Int, P = 2 ^ k := ⟨_, rfl⟩
 obtain ⟨Z, hZ⟩ : ∃ Z, Z = a * (PB wd * 2 ^ k) := ⟨_, rfl⟩
 have hz : Z = sv p (PB wd * ((x : Int) * P)) := by
  rw [hZ, ea, hP]
  unfold sv
  split <;> grind
 rw [← hZ]
 obtain ⟨N, hN⟩ : ∃ N : Int, N = 32 * (wd : Int) + (k : Int) := ⟨_, rfl⟩
 rw [← hN]
 have n0 : 0 ≤ N := by omega
 have n1 : N ≤ 100000000 := by omega
 have nq : N / 32 = (wd : Int) := by omega
 have nr : N % 32 = (k : Int) := by omega
 have k0 : (0 : Int) ≤ (k : Int) := by omega
 have k1 : (k : Int) ≤ 31 := by omega
 have hmk := fun w => run_make_row' (P := Tryz.prog) 42 107 (.int .u32 0) 4 Tryz.underlying42 limbInfo rfl .i64 .i64 wd (by omega) (by omega) w
 have HMA := hQ0 hma
 have HZ := hQ0 hz
 have HP := hQ0 hP
 clear hma hz ma hx hZ ea hAt hL ha hP hN
 go_enter Tryz.func108, Tryz.ntmps108; (try simp only [List.append_eq, List.cons_append, List.nil_append])
 go_wp2_with fail
 clear hmk nq nr
 have HOW := hQ0 (show OwnL (((w.alloc (.cells #[.bool p, .slice A l.length c] 44)).alloc (.cells #[.bool false, .slice none 0 0] 44)).alloc (.cells (madeCells #[.int .u32 0] wd) 107)) (w.heap.size + 1 + 1) (.slice (some ⟨w.heap.size + 1 + 1, 0, none⟩) wd wd) (List.replicate wd 0) from by
  have h := OwnL.made (w := (w.alloc (.cells #[.bool p, .slice A l.length c] 44)).alloc (.cells #[.bool false, .slice none 0 0] 44)) (base := w.heap.size + 1 + 1) wd (by simp) (by omega)
  simpa using h)
 have HB0 := hQ0 (show Below w.heap.size w (((w.alloc (.cells #[.bool p, .slice A l.length c] 44)).alloc (.cells #[.bool false, .slice none 0 0] 44)).alloc (.cells (madeCells #[.int .u32 0] wd) 107)) by ((with_reducible (repeat (first | exact bR _ _ | apply bS | apply bA | apply bD | refine bT ?_ (by assumption) ?_ | refine bO (by assumption) ?_ ?_))) <;> (first | omega | (simp <;> omega))))
 (go_at_call 70; refine (HMA.out _ HB0.out).mono ?_; rintro e w4 ⟨hb_w4, A1, c1, rfl, hc1, hA1⟩; have hz_w4 := hb_w4.size; (try simp at hz_w4); (with_reducible apply cal2 (b := w.heap.size) hb_w4); (focus (go_simp; try exact ⟨rfl, rfl⟩)); intro cc cc fz hl; (with_reducible apply cal2 (b := w.heap.size + 1) hb_w4); (focus (go_simp; try exact ⟨rfl, rfl⟩)); intro cc cc fz hl)
 have HOW4 := hQ0 (HOW.out.below hb_w4)
 have HB4 := hQ0 (HB0.out.trans (hb_w4.mono (by simp <;> omega)))
 have HAG := hQ0 (show ∀ g o, A1 = some ⟨g, o, none⟩ → w.heap.size + 1 + 1 + 1 ≤ g ∧ g < w4.heap.size from by simpa using hA1.addr)
 have HA1 := hQ0 hA1.lat
 have HC1 := hQ0 hc1
 have hz4 : w.heap.size + 1 + 1 + 1 ≤ w4.heap.size := by simpa using hb_w4.size
 clear hb_w4 hA1 hc1 HOW HB0
 have cx : (canN x).length ≤ 400000 := by omega
 go_wp2_with fail
 go_loopw [5, 6, 9, 10] (fun v vc vi _ wr => ∃ (i : Nat) (cy : Int) (out : List Int), i ≤ (canN x).length ∧ vi = .int .i64 i ∧ vc = .int .u32 cy ∧ 0 ≤ cy ∧ cy < 2147483648 ∧ OwnL wr (w.heap.size + 1 + 1) v out ∧ Hid (cy < P ∧ Lim out ∧ out.length = wd + i ∧ mv out + PB (wd + i) * cy = PB wd * (mv ((canN x).take i) * P)) ∧ w4.heap.size ≤ wr.heap.size ∧ Below (w.heap.size + 1 + 1) w4 wr ∧ LAt wr A1 (canN x) ∧ Hid (∀ g, v.ownBlock = some g → g = w.heap.size + 1 + 1 ∨ w4.heap.size ≤ g)) (fun _ _ vi _ _ => ((canN x).length - (intOf vi).toNat))
 case atStart => exact ⟨0, 0, List.replicate wd 0, by omega, rfl, rfl, by omega, by omega, HOW4.out, hQ0 ⟨by have := (pow2_bd hk).1; rw [HP.out]; omega, Lim.replicate wd, by simp, by rw [mv_replicate]; simp [mv]⟩, Nat.le_refl _, Below.refl _ _, HA1.out, hQ0 (fun g hg => by simp [Value.ownBlock] at hg; omega)⟩
 case round =>
  obtain ⟨i, cy, out, hi, rfl, rfl, c0, c1', hown, HO, hsz, hbel, hlat, HG⟩ := hrel
  have i1 : (0 : Int) ≤ (i : Int) := by omega
  have i3 : (i : Int) ≤ 400000 := by omega
  have HBE := hQ0 hbel
  have HOW := hQ0 hown
  have HLA := hQ0 hlat
  clear hbel hown hlat
  by_cases hil : i < (canN x).length
  · obtain ⟨y, hy⟩ : ∃ y, (canN x)[i]? = some y := ⟨(canN x)[i], by simp⟩
    obtain ⟨g, o, rfl, hg, hcell⟩ := HLA.out i y hy
    obtain ⟨y0, y1⟩ := (canN_lim x).get hy
    obtain ⟨q1, q2, q3, q4, q5, q6, q7⟩ := up_word (x := y) (cc := cy) hk HP.out y0 y1 c0 HO.out.1
    obtain ⟨S, hS⟩ : ∃ S, S = y * P + cy := ⟨_, rfl⟩
    have HST := hQ0 (up_step HO.out.2.2.1 HO.out.2.2.2 hy hS)
    rw [← hS] at q2 q3 q4 q5
    have q8 : S / 4294967296 < 2147483648 := by have := (pow2_bd hk).2; rw [← HP.out] at this; omega
    have q9 : 0 ≤ S / 4294967296 := by omega
    have Q5 := hQ0 q5
    have j1 : (i : Int) < ((canN x).length : Int) := by omega
    have HY := hQ0 hy
    have hol : out.length ≤ 800000 := by have := HO.out.2.2.1; omega
    clear hy hS q5
    go_wp2_with (at_builtin; go_must (refine wpList_append_limbs2 rfl _ _ rfl (w.heap.size + 1 + 1) _ out rfl (HOW.out.alloc _) (some ⟨wr.heap.size, 0, none⟩) 1 [S % 4294967296] rfl (lat_one (by simp) (by go_simp)) (by simp; omega) (by simp; omega) ?_))
    intro v1 w1 hown1 hg1 hat1
    have HB1 := hQ0 ((HBE.out.alloc (by omega) _).grown hg1 (by simp; omega) HOW.out.fresh)
    have hag := HAG.out g o rfl
    have HL1 := hQ0 ((HLA.out.alloc _).grown hg1 (fun g' o' he hh => by
     have h1 := HAG.out g' o' he
     rcases HG.out g' hh.symm with h2 | h2 <;> omega))
    have hsz1 : w4.heap.size ≤ w1.heap.size := by have := hg1.size; simp at this; omega
    have HG1 := hQ0 (show ∀ g, v1.ownBlock = some g → g = w.heap.size + 1 + 1 ∨ w4.heap.size ≤ g from fun g' hh => by
     rcases hat1 with h1 | h1
     · rw [h1] at hh; exact HG.out g' hh
     · rw [h1] at hh; simp at hh; omega)
    have HO1 := hQ0 hown1
    clear hg1 hown1 hat1 hag
    go_wp2_with fail
    go_roundw
    case rel => exact ⟨i + 1, S / 4294967296, out ++ [S % 4294967296], by omega, by go_num, rfl, q9, q8, HO1.out, hQ0 ⟨Q5.out, HO.out.2.1.snoc (by omega) (by omega), by rw [List.length_append, HO.out.2.2.1]; rfl, HST.out⟩, hsz1, HB1.out, HL1.out, HG1⟩
    case measure => simp [intOf]; omega
  · obtain rfl : i = (canN x).length := by omega
    have HF := hQ0 (show sv p (mv (out ++ [cy])) = Z by
     have h := HO.out.2.2.2
     rw [List.take_length, mv_canN] at h
     rw [mv_snoc, HO.out.2.2.1, h, HZ.out])
    have hlm := hQ0 (HO.out.2.1.snoc (x := cy) c0 (by omega))
    have hol : out.length ≤ 800000 := by have := HO.out.2.2.1; omega
    have hb_wr := HBE.out
    (with_reducible apply cel2 (b := w.heap.size) hb_wr); ((try simp) <;> omega); omega; (iterate 2 (focus (go_simp; try exact rfl))); (intro o; go_simp); intro cc cc fz hl; (with_reducible apply cel2 (b := w.heap.size + 1) hb_wr); ((try simp) <;> omega); omega; (iterate 2 (focus (go_simp; try exact rfl))); (intro o; go_simp); intro cc cc fz hl
    clear hb_wr
    go_wp2_with fail
    refine wp_region_float (w.heap.size + 1 + 1) 7 (by omega) (fun W => OwnL W (w.heap.size + 1 + 1) _ out) (HOW.out) (OwnL.cl _ _ _) (by kernel_rfl) (by simp) ?_
    refine wpI_start [0, 1, 2, 3] ?_; (iterate 4 (first | (apply wpI_step rfl (by kernel_rfl) rfl; (focus (intro W' hS; have hcS := hS.cells; go_simp; (iterate 2 (first | done | exact rfl | exact bB _ | go_simp)))); intro K hK; go_simp; (try go_bits); refine hK _ ?_; clear hK K))); refine wpI_nil ?_
    apply wpF_wild (i := 4) rfl (by kernel_rfl) (by kernel_rfl); intro W hF hS; have hcS := hS.1.cells; go_simp
    refine WPost.mk _ (fun W' => OwnL W' (w.heap.size + 1 + 1) _ out ∧ LAt W' (some ⟨W.heap.size, 0, none⟩) [cy]) [] ⟨hF.alloc _, lat_one (by simp) (by go_simp)⟩ ((OwnL.cl _ _ _).and (LAt.cl _ _)) ⟨hS.1.alloc _, fun p hp => by cases hp⟩ ?_
    obtain ⟨g4, hg4⟩ : ∃ g4, g4 = W.heap.size := ⟨_, rfl⟩
    rw [← hg4]
    clear hcS hS hF hg4
    intro K hK; go_simp; refine hK _ ?_; clear hK K
    apply wpF_wild (i := 5) rfl (by kernel_rfl) (by kernel_rfl); intro W hF hS; have hcS := hS.1.cells; skip
    refine givesW_append _ _ rfl (w.heap.size + 1 + 1) _ out rfl hF.1 (some ⟨g4, 0, none⟩) 1 [cy] rfl hF.2 (by simp; omega) hS.1.1 ?_
    intro v' w' hown' hg' _
    obtain ⟨A5, c5, rfl, hc5, _, _⟩ := lat_of_own hown'
    refine WPost.mk _ (fun W' => OwnL W' (w.heap.size + 1 + 1) (.slice A5 (out ++ [cy]).length c5) (out ++ [cy])) [] hown' (OwnL.cl _ _ _) ⟨⟨Nat.le_trans hS.1.1 hg'.size, (hS.1.2).grown hg' hS.1.1 hF.1.fresh⟩, fun p hp => by cases hp⟩ ?_
    clear hcS hS hF hown' hg'
    have HC5 := hQ0 hc5
    clear hc5
    intro K hK; go_simp; refine hK _ ?_; clear hK K
    have hmk := fun w' (h : LAt w' A5 (out ++ [cy])) => make1_own p A5 (out ++ [cy]) c5 w' hlm.out h HC5.out (by rw [List.length_append]; simp; omega)
    rw [HF.out, show (out ++ [cy]).length = out.length + 1 by simp] at hmk
    have HMK := hQ0 hmk
    clear hmk
    apply wpF_call (i := 6) rfl (by kernel_rfl) (by kernel_rfl); intro W hF hS; have hcS := hS.1.cells; go_simp; (go_at_call 71; refine (HMK.out _ hF.lat).mono ?_; rintro e w10 ⟨hb_w10, A6, c6, rfl, hc6, hO6⟩; refine XPost.mk _ (fun W' => OwnL W' (w.heap.size + 1 + 1) (.slice A6 (canN Z.natAbs).length c6) (canN Z.natAbs)) hb_w10 (hO6.weak hS.1.1) (OwnL.cl _ _ _) ?_); clear hb_w10 hcS hS hF
    intro K hK; go_simp; (try go_bits); refine hK _ ?_; clear hK K
    have HC6 := hQ0 hc6
    clear hc6 hO6
    refine wpF_done (by kernel_rfl) ?_
    intro w11 hF11 hSG
    have hb_w11 := HBE.out.trans hSG.1.2
    have hz_w11 : w.heap.size + 1 + 1 ≤ w11.heap.size := hSG.1.1
    (with_reducible apply cel2 (b := w.heap.size) hb_w11); ((try simp) <;> omega); omega; (iterate 2 (focus (go_simp; try exact rfl))); (intro o; go_simp); intro cc cc fz hl; (with_reducible apply cel2 (b := w.heap.size + 1) hb_w11); ((try simp) <;> omega); omega; (iterate 2 (focus (go_simp; try exact rfl))); (intro o; go_simp); intro cc cc fz hl
    have HB11 := hQ0 (HB4.out.trans (hb_w11.mono (by omega)))
    have HO11 := hQ0 hF11.2
    clear hb_w11 hF11 hSG
    (try simp only [List.drop_succ_cons, List.drop_zero])
    go_wp2_with fail
    refine bodyPost_ret (v := .agg #[.bool (decide (Z < 0)), .slice A6 (canN Z.natAbs).length c6]) (by simp only [results, Tryz.results108]; go_simp) rfl ⟨?_, ?_⟩
    · exact (HB11.out.setCell (by simp <;> omega) _).setCell (by simp <;> omega) _
    · exact ⟨A6, c6, rfl, HC6.out, ((HO11.out.setCell (by simp) _).setCell (by simp) _).weak (by omega)⟩
theorem pow2_split {k : Nat} (h : k ≤ 31) : ∃ Q : Int, 1 ≤ Q ∧ 4294967296 = 2 ^ k * Q := by
 refine ⟨2 ^ (32 - k), ?_, ?_⟩
 · have h : (0 : Int) < 2 ^ (32 - k) := Int.pow_pos (by decide)
   omega
 · rw [← Int.pow_add, show k + (32 - k) = 32 by omega]; rfl
theorem down_digit {x y T T2 P Q : Int} (hP : 1 ≤ P) (hQ : 1 ≤ Q) (hB : 4294967296 = P * Q) (x0 : 0 ≤ x) (x1 : x < 4294967296) (y0 : 0 ≤ y) (hT : T = y + 4294967296 * T2) :
  (x + 4294967296 * T) / P = ((x + 4294967296 * y) / P) % 4294967296 + 4294967296 * (T / P) := by
 have e1 : (x + 4294967296 * T) / P = x / P + Q * T := by rw [hB, Int.mul_assoc]; exact Int.add_mul_ediv_left _ _ (by omega)
 have e2 : (x + 4294967296 * y) / P = x / P + Q * y := by rw [hB, Int.mul_assoc]; exact Int.add_mul_ediv_left _ _ (by omega)
 have e3 : T / P = y / P + Q * T2 := by rw [hT, hB, Int.mul_assoc]; exact Int.add_mul_ediv_left _ _ (by omega)
 rw [e1, e2, e3]
 obtain ⟨q, hq⟩ : ∃ q, q = y / P := ⟨_, rfl⟩
 obtain ⟨r, hr⟩ : ∃ r, r = y % P := ⟨_, rfl⟩
 obtain ⟨a, ha⟩ : ∃ a, a = x / P := ⟨_, rfl⟩
 have r0 : 0 ≤ r := by rw [hr]; exact Int.emod_nonneg _ (by omega)
 have r1 : r < P := by rw [hr]; exact Int.emod_lt_of_pos _ (by omega)
 have a0 : 0 ≤ a := by rw [ha]; exact Int.ediv_nonneg x0 (by omega)
 have a1 : a < Q := by
  rw [ha]
  exact Int.ediv_lt_of_lt_mul (by omega) (by rw [Int.mul_comm]; omega)
 have hy : y = P * q + r := by rw [hq, hr]; exact (Int.mul_ediv_add_emod _ _).symm
 rw [← ha, ← hq]
 have f1 : Q * y = 4294967296 * q + Q * r := by rw [hy, hB]; grind
 have f2 : Q * r ≤ Q * (P - 1) := Int.mul_le_mul_of_nonneg_left (by omega) (by omega)
 have f3 : Q * (P - 1) = 4294967296 - Q := by rw [hB]; grind
 have f4 : 0 ≤ Q * r := Int.mul_nonneg (by omega) r0
 have f5 : Q * T = Q * y + 4294967296 * (Q * T2) := by rw [hT]; grind
 have f6 : (a + Q * y) % 4294967296 = a + Q * r := by
  rw [f1]
  omega
 rw [f6, f5, f1]
 omega
theorem down_step {m out : List Int} {i j : Nat} {P x y Y : Int} {k : Nat} (hk : k ≤ 31) (hP : P = 2 ^ k) (hm : Lim m) (ho : out.length = j) (h : mv out + PB j * (mv (m.drop i) / P) = Y) (hx : m[i]? = some x) (hy : (m[i + 1]?).getD 0 = y) :
  mv (out ++ [((x + 4294967296 * y) / P) % 4294967296]) + PB (j + 1) * (mv (m.drop (i + 1)) / P) = Y := by
 obtain ⟨Q, hQ, hB⟩ := pow2_split hk
 obtain ⟨p0, p1⟩ := pow2_bd hk
 rw [← hP] at hB p0 p1
 obtain ⟨x0, x1⟩ := hm.get hx
 have hT : ∃ T2, mv (m.drop (i + 1)) = y + 4294967296 * T2 ∧ 0 ≤ y := by
  rcases Nat.lt_or_ge (i + 1) m.length with hl | hl
  · have h1 : m[i + 1]? = some m[i + 1] := List.getElem?_eq_getElem hl
    refine ⟨mv (m.drop (i + 1 + 1)), ?_, ?_⟩
    · rw [mv_drop_succ h1, ← hy, h1]; rfl
    · rw [← hy, h1]; exact (hm.get h1).1
  · rw [List.drop_of_length_le hl]
    rw [List.getElem?_eq_none hl] at hy
    have : y = 0 := hy.symm
    exact ⟨0, by rw [this]; rfl, by omega⟩
 obtain ⟨T2, hT, y0⟩ := hT
 have hd := down_digit p0 hQ hB x0 x1 y0 hT
 rw [mv_drop_succ hx, hd] at h
 rw [mv_snoc, ho, PB_succ, ← h]
 grind
theorem down_word {x y P : Int} {k : Nat} (hk : k ≤ 31) (hP : P = 2 ^ k) (x0 : 0 ≤ x) (x1 : x < 4294967296) (y0 : 0 ≤ y) (y1 : y < 4294967296) :
  IntKind.u64.wrap (y * 4294967296) = y * 4294967296 ∧ bits .or .u64 x (y * 4294967296) = x + 4294967296 * y ∧ 0 ≤ x + 4294967296 * y ∧ x + 4294967296 * y < 18446744073709551616 := by
 refine ⟨by rw [IntKind.wrap_u64]; omega, ?_, by omega, by omega⟩
 have := bits_join_low .u64 64 (by decide) wraps_u64' 32 x (y * 4294967296) x0 (by omega) (by omega) (by omega) (Int.mul_emod_left _ _) (by omega)
 rw [this]
 omega
theorem lost_iff {m : List Int} {wd k : Nat} {P D x : Int} (hk : k ≤ 31) (hP : P = 2 ^ k) (hD : D = PB wd * P) (hm : Lim m) (hw : wd < m.length) (hx : m[wd]? = some x) :
  mv m % D = 0 ↔ mv (m.take wd) = 0 ∧ x % P = 0 := by
 obtain ⟨Q, hQ, hB⟩ := pow2_split hk
 obtain ⟨p0, p1⟩ := pow2_bd hk
 rw [← hP] at hB p0 p1
 have a1 := mv_split m wd (by omega)
 have a2 := mv_drop_succ hx
 have b0 := mv_nonneg (hm.take wd)
 have b1 := mv_lt (hm.take wd)
 rw [List.length_take, Nat.min_eq_left (by omega)] at b1
 have q := PB_pos wd
 obtain ⟨Y, hY⟩ : ∃ Y, Y = mv (m.drop wd) := ⟨_, rfl⟩
 obtain ⟨L, hL⟩ : ∃ L, L = mv (m.take wd) := ⟨_, rfl⟩
 have hYx : Y % P = x % P := by
  rw [hY, a2, hB, Int.mul_assoc, Int.add_mul_emod_self_left]
 rw [← hL, ← hY] at a1
 rw [← hL] at b0 b1 ⊢
 have hDp : 0 < D := by rw [hD]; exact Int.mul_pos q (by omega)
 have e : mv m % D = L + PB wd * (Y % P) := by
  have h1 : Y = P * (Y / P) + Y % P := (Int.mul_ediv_add_emod _ _).symm
  have h2 : mv m = (L + PB wd * (Y % P)) + D * (Y / P) := by
   rw [a1, hD]
   conv => lhs; rw [h1]
   grind
  rw [h2, Int.add_mul_emod_self_left]
  have r0 := Int.emod_nonneg Y (show P ≠ 0 by omega)
  have r1 := Int.emod_lt_of_pos Y (show 0 < P by omega)
  have h3 : PB wd * (Y % P) ≤ PB wd * (P - 1) := Int.mul_le_mul_of_nonneg_left (by omega) (by omega)
  have h4 : PB wd * (P - 1) = D - PB wd := by rw [hD]; grind
  have h5 : 0 ≤ PB wd * (Y % P) := Int.mul_nonneg (by omega) r0
  exact Int.emod_eq_of_lt (by omega) (by omega)
 rw [e, ← hYx]
 have r0 := Int.emod_nonneg Y (show P ≠ 0 by omega)
 have h5 : 0 ≤ PB wd * (Y % P) := Int.mul_nonneg (by omega) r0
 constructor
 · intro h
   have h6 : L = 0 := by omega
   have h7 : PB wd * (Y % P) = 0 := by omega
   refine ⟨h6, ?_⟩
   rcases Int.mul_eq_zero.1 h7 with h8 | h8
   · omega
   · exact h8
 · rintro ⟨h6, h7⟩
   rw [h6, h7]; simp
theorem down_quo {m : List Int} {wd : Nat} {P D : Int} (p0 : 1 ≤ P) (hD : D = PB wd * P) (hm : Lim m) : mv m / D = mv (m.drop wd) / P := by
 have q := PB_pos wd
 rcases Nat.lt_or_ge m.length wd with h | h
 · rw [List.drop_of_length_le (by omega)]
   have h1 := mv_lt hm
   have h2 := PB_mono (show m.length ≤ wd by omega)
   have h3 := Int.mul_le_mul_of_nonneg_left p0 (Int.le_of_lt q)
   rw [Int.ediv_eq_zero_of_lt (mv_nonneg hm) (by rw [hD]; omega)]
   show 0 = 0 / P
   rw [Int.zero_ediv]
 · have a1 := mv_split m wd h
   have b0 := mv_nonneg (hm.take wd)
   have b1 := mv_lt (hm.take wd)
   rw [List.length_take, Nat.min_eq_left h] at b1
   rw [hD, ← Int.ediv_ediv_of_nonneg (by omega), a1, Int.add_mul_ediv_left _ _ (by omega), Int.ediv_eq_zero_of_lt b0 b1, Int.zero_add]
theorem canN_word {n : Nat} (h : n < 18446744073709551616) : (canN n).length ≤ 2 := by
 rw [canN_len]
 have : PB 2 = 18446744073709551616 := by decide
 omega
theorem canN_mono {a b : Nat} (h : a ≤ b) : (canN a).length ≤ (canN b).length := by
 rw [canN_len]
 have := (@canN_len b (canN b).length).1 (Nat.le_refl _)
 omega
theorem floor_neg {x D : Int} (hD : 0 < D) : (-x) / D = -(x / D) - (if x % D = 0 then 0 else 1) := by
 have h1 : x = D * (x / D) + x % D := (Int.mul_ediv_add_emod _ _).symm
 obtain ⟨q, hq⟩ : ∃ q, q = x / D := ⟨_, rfl⟩
 obtain ⟨r, hr⟩ : ∃ r, r = x % D := ⟨_, rfl⟩
 have r0 : 0 ≤ r := by rw [hr]; exact Int.emod_nonneg _ (by omega)
 have r1 : r < D := by rw [hr]; exact Int.emod_lt_of_pos _ hD
 rw [← hq, ← hr] at h1 ⊢
 by_cases h : r = 0
 · rw [if_pos h]
   have : -x = D * (-q) := by rw [h1, h]; grind
   rw [this, Int.mul_ediv_cancel_left _ (by omega)]
   omega
 · rw [if_neg h]
   have : -x = (D - r) + D * (-q - 1) := by rw [h1]; grind
   rw [this, Int.add_mul_ediv_left _ _ (by omega), Int.ediv_eq_zero_of_lt (by omega) (by omega)]
   omega
set_option maxRecDepth 100000 in
set_option maxHeartbeats 1000000 in
theorem down_any (n : Nat) (u : Value) (a : Int) (wd k : Nat) (w : World) (ha : IsZ w u n a) (hn : n ≤ 400000) (hk : k ≤ 31) (hW : wd ≤ 400000) :
  Calls Tryz.prog 109 #[u, .int .i64 (32 * (wd : Int) + (k : Int))] w (ZOut (a / (PB wd * 2 ^ k)) w) := by
 obtain ⟨p, A, c, l, rfl, hc, hL, hl, hAt, ea, ma, ca⟩ := isZ_open ha
 have hma := fun w' (h : Below w.heap.size w w') => mag_any A l c w' hL (hAt.below h) hc (by omega)
 rw [ma] at hma
 obtain ⟨x, hx⟩ : ∃ x, x = a.natAbs := ⟨_, rfl⟩
 rw [← hx] at hma ca ea
 obtain ⟨P, hP⟩ : ∃ P : Int, P = 2 ^ k := ⟨_, rfl⟩
 rw [← hP]
 obtain ⟨D, hD⟩ : ∃ D, D = PB wd * P := ⟨_, rfl⟩
 rw [← hD]
 obtain ⟨p0, p1⟩ := pow2_bd hk
 rw [← hP] at p0 p1
 obtain ⟨Z, hZ⟩ : ∃ Z, Z = a / D := ⟨_, rfl⟩
 have hDp : 0 < D := by rw [hD]; exact Int.mul_pos (PB_pos _) (by omega)
 have hz : Z = if p = true then (-((x : Int) / D) - (if (x : Int) % D = 0 then 0 else 1)) else (x : Int) / D := by
  rw [hZ, ea]
  unfold sv
  split
  · exact floor_neg hDp
  · rfl
 rw [← hZ]
 obtain ⟨N, hN⟩ : ∃ N : Int, N = 32 * (wd : Int) + (k : Int) := ⟨_, rfl⟩
 rw [← hN]
 have n0 : 0 ≤ N := by omega
 have n1 : N ≤ 100000000 := by omega
 have nq : N / 32 = (wd : Int) := by omega
 have nr : N % 32 = (k : Int) := by omega
 have k0 : (0 : Int) ≤ (k : Int) := by omega
 have k1 : (k : Int) ≤ 31 := by omega
 have w0' : (0 : Int) ≤ (wd : Int) := by omega
 have w1' : (wd : Int) ≤ 400000 := by omega
 have HMA := hQ0 hma
 have HZ := hQ0 hz
 have HP := hQ0 hP
 have HD := hQ0 hD
 clear hma hz ma hx hZ ea hAt hL ha hP hN hD
 go_enter Tryz.func109, Tryz.ntmps109; (try simp only [List.append_eq, List.cons_append, List.nil_append])
 go_wp2_with fail
 have HB0 := hQ0 (show Below w.heap.size w ((w.alloc (.cells #[.bool p, .slice A l.length c] 44)).alloc (.cells #[.bool false, .slice none 0 0] 44)) by ((with_reducible (repeat (first | exact bR _ _ | apply bS | apply bA | apply bD | refine bT ?_ (by assumption) ?_ | refine bO (by assumption) ?_ ?_))) <;> (first | omega | (simp <;> omega))))
 (go_at_call 70; refine (HMA.out _ HB0.out).mono ?_; rintro e w4 ⟨hb_w4, A1, c1, rfl, hc1, hA1⟩; have hz_w4 := hb_w4.size; (try simp at hz_w4); (with_reducible apply cal2 (b := w.heap.size) hb_w4); (focus (go_simp; try exact ⟨rfl, rfl⟩)); intro cc cc fz hl; (with_reducible apply cal2 (b := w.heap.size + 1) hb_w4); (focus (go_simp; try exact ⟨rfl, rfl⟩)); intro cc cc fz hl)
 have HB4 := hQ0 (HB0.out.trans (hb_w4.mono (by simp <;> omega)))
 have HA1 := hQ0 hA1
 have HC1 := hQ0 hc1
 obtain ⟨m, hm⟩ : ∃ m, m = canN x := ⟨_, rfl⟩
 have HM := hQ0 hm
 have cx : m.length ≤ 400000 := by rw [hm]; omega
 rw [← hm] at HA1 HC1 ⊢
 clear hb_w4 hA1 hc1 HB0 hm
 have HLM := hQ0 (show Lim m by rw [HM.out]; exact canN_lim _)
 go_wp2_with fail
 go_loop [7, 8] (fun vl vi => ∃ (i : Nat) (lb : Bool), i ≤ m.length ∧ i ≤ wd ∧ vi = .int .i64 i ∧ vl = .bool lb ∧ Hid (lb = decide (mv (m.take i) ≠ 0))) (fun _ vi => (m.length - (intOf vi).toNat))
 case atStart => exact ⟨0, false, by omega, by omega, rfl, rfl, hQ0 rfl⟩
 case round =>
  obtain ⟨i, lb, hi, hi2, rfl, rfl, HLB⟩ := hrel
  have i1 : (0 : Int) ≤ (i : Int) := by omega
  have i3 : (i : Int) ≤ 400000 := by omega
  by_cases hil : i < m.length ∧ i < wd
  · obtain ⟨hil, hiw⟩ := hil
    obtain ⟨y, hy⟩ : ∃ y, m[i]? = some y := ⟨m[i], by simp⟩
    obtain ⟨g, o, rfl, hg, hcell⟩ := HA1.out i y hy
    obtain ⟨y0, y1⟩ := HLM.out.get hy
    have j1 : (i : Int) < (m.length : Int) := by omega
    have j2 : (i : Int) < (wd : Int) := by omega
    have HST := hQ0 (show decide (mv (m.take (i + 1)) ≠ 0) = (lb || (y != 0)) by
     have h1 := mv_take_succ hy
     have h2 := mv_nonneg (HLM.out.take i)
     have q := PB_pos i
     have h3 : 0 ≤ PB i * y := Int.mul_nonneg (by omega) y0
     rw [HLB.out, Bool.eq_iff_iff]
     simp only [decide_eq_true_eq, Bool.or_eq_true, bne_iff_ne]
     by_cases hy0 : y = 0
     · subst hy0; rw [h1]; simp
     · have : PB i * y ≠ 0 := fun e => by rcases Int.mul_eq_zero.1 e with h | h <;> omega
       constructor
       · intro _; exact .inr hy0
       · intro _; omega)
    clear hy
    cases lb
    · go_wp2_with fail
      go_round
      case rel => exact ⟨i + 1, (y != 0), by omega, by omega, by go_num, rfl, hQ0 (by rw [HST.out]; rfl)⟩
      case measure => simp [intOf]; omega
    · go_wp2_with fail
      go_round
      case rel => exact ⟨i + 1, true, by omega, by omega, by go_num, rfl, hQ0 (by rw [HST.out]; rfl)⟩
      case measure => simp [intOf]; omega
  · have HLO := hQ0 (show lb = decide (mv (m.take wd) ≠ 0) by
     rcases Nat.lt_or_ge i m.length with h | h
     · have : i = wd := by omega
       rw [← this]; exact HLB.out
     · have h1 := HLB.out
       rw [List.take_of_length_le (by omega)] at h1
       rw [List.take_of_length_le (by omega)]
       exact h1)
    have hpk := HP.out.symm
    rcases Nat.lt_or_ge i m.length with hl1 | hl1
    · have j1 : (i : Int) < (m.length : Int) := by omega
      have j2 : ¬ (i : Int) < (wd : Int) := by omega
      have hwl : wd < m.length := by omega
      clear hpk
      go_wp2_with fail
      clear hil HLB
      go_loopw [6, 10, 11] (fun v vi _ wr => ∃ (ii j : Nat) (out : List Int), (ii ≤ m.length ∨ j = 0) ∧ ii ≤ 800000 ∧ j ≤ 400000 ∧ vi = .int .i64 ii ∧ OwnL wr w4.heap.size v out ∧ Hid (ii = wd + j ∧ out.length = j ∧ Lim out ∧ mv out + PB j * (mv (m.drop ii) / P) = (x : Int) / D) ∧ Below w4.heap.size w4 wr) (fun _ vi _ _ => (m.length - (intOf vi).toNat))
      case atStart => exact ⟨wd, 0, [], .inr rfl, by omega, by omega, rfl, OwnL.nil _ _, hQ0 ⟨by omega, rfl, Lim.nil, by
       have h := down_quo p0 HD.out HLM.out
       rw [HM.out, mv_canN] at h
       rw [h, HM.out]; simp [mv, PB_zero]⟩, Below.refl _ _⟩
      case round =>
       obtain ⟨ii, j, out, hij, hi8, hj4, rfl, hown, HO, hbel⟩ := hrel
       have HBE := hQ0 hbel
       have HOW := hQ0 hown
       have hsz := hbel.size
       have hla : LAt wr A1 m := HA1.out.below hbel
       have HLA := hQ0 hla
       clear hbel hown hla
       have i1 : (0 : Int) ≤ (ii : Int) := by omega
       have i3 : (ii : Int) ≤ 800000 := by omega
       by_cases hil : ii < m.length
       · obtain ⟨y, hy⟩ : ∃ y, m[ii]? = some y := ⟨m[ii], by simp⟩
         obtain ⟨g, o, rfl, hg, hcell⟩ := HLA.out ii y hy
         obtain ⟨y0, y1⟩ := HLM.out.get hy
         have j1 : (ii : Int) < (m.length : Int) := by omega
         have HY := hQ0 hy
         have hol : out.length ≤ 400000 := by have := HO.out.2.1; omega
         have hmin : min k 64 = k := by omega
         have hpk := HP.out.symm
         clear hy
         by_cases hil2 : ii + 1 < m.length
         · obtain ⟨y2, hy2⟩ : ∃ y2, m[ii + 1]? = some y2 := ⟨m[ii + 1], by simp⟩
           obtain ⟨g', o', he, hg', hcell2⟩ := HLA.out (ii + 1) y2 hy2
           simp only [Option.some.injEq, Addr.mk.injEq] at he
           obtain ⟨rfl, rfl, _⟩ := he
           obtain ⟨z0, z1⟩ := HLM.out.get hy2
           have j2 : (ii : Int) + 1 < (m.length : Int) := by omega
           have HST := hQ0 (down_step hk HP.out HLM.out HO.out.2.1 HO.out.2.2.2 HY.out (getD_some hy2))
           obtain ⟨q1, q2, q3, q4⟩ := down_word hk HP.out y0 y1 z0 z1
           obtain ⟨S, hS⟩ : ∃ S, S = y + 4294967296 * y2 := ⟨_, rfl⟩
           rw [← hS] at q2 q3 q4
           have hSS := HST.out
           rw [← hS] at hSS
           have HST := hQ0 hSS
           clear hS hy2 hSS
           have q5 : 0 ≤ S / P := Int.ediv_nonneg q3 (by omega)
           have q6 : S / P ≤ S := Int.ediv_le_self _ q3
           go_wp2_with (at_builtin; go_must (refine wpList_append_limbs rfl _ _ rfl w4.heap.size _ out rfl (HOW.out.alloc _) (some ⟨wr.heap.size, 0, none⟩) 1 [S / P % 4294967296] rfl (lat_one (by simp) (by go_simp)) (by simp; omega) (by simp; omega) ?_))
           intro v1 w1 hown1 hg1
           have HB1 := hQ0 ((HBE.out.alloc (by omega) _).grown hg1 (by simp; omega) HOW.out.fresh)
           have HO1 := hQ0 hown1
           clear hg1 hown1 hmin hpk
           go_wp2_with fail
           go_roundw
           case rel => exact ⟨ii + 1, j + 1, out ++ [S / P % 4294967296], .inl (by omega), by omega, by have := HO.out.1; omega, by go_num, HO1.out, hQ0 ⟨by have := HO.out.1; omega, by rw [List.length_append, HO.out.2.1]; rfl, HO.out.2.2.1.snoc (by omega) (by omega), HST.out⟩, HB1.out⟩
           case measure => simp [intOf]; omega
         · have j2 : ¬ (ii : Int) + 1 < (m.length : Int) := by omega
           have hST := down_step hk HP.out HLM.out HO.out.2.1 HO.out.2.2.2 HY.out (getD_none (by omega))
           rw [Int.mul_zero, Int.add_zero] at hST
           have HST := hQ0 hST
           clear hST
           have q5 : 0 ≤ y / P := Int.ediv_nonneg y0 (by omega)
           have q6 : y / P ≤ y := Int.ediv_le_self _ y0
           have q7 : y / P % 4294967296 = y / P := by omega
           have hST := HST.out
           rw [q7] at hST
           have HST := hQ0 hST
           clear q7 hST
           go_wp2_with (at_builtin; go_must (refine wpList_append_limbs rfl _ _ rfl w4.heap.size _ out rfl (HOW.out.alloc _) (some ⟨wr.heap.size, 0, none⟩) 1 [y / P] rfl (lat_one (by simp) (by go_simp)) (by simp; omega) (by simp; omega) ?_))
           intro v1 w1 hown1 hg1
           have HB1 := hQ0 ((HBE.out.alloc (by omega) _).grown hg1 (by simp; omega) HOW.out.fresh)
           have HO1 := hQ0 hown1
           clear hg1 hown1 hmin hpk
           go_wp2_with fail
           go_roundw
           case rel => exact ⟨ii + 1, j + 1, out ++ [y / P], .inl (by omega), by omega, by have := HO.out.1; omega, by go_num, HO1.out, hQ0 ⟨by have := HO.out.1; omega, by rw [List.length_append, HO.out.2.1]; rfl, HO.out.2.2.1.snoc (by omega) (by omega), HST.out⟩, HB1.out⟩
           case measure => simp [intOf]; omega
       · have j1 : ¬ (ii : Int) < (m.length : Int) := by omega
         have HF := hQ0 (show mv out = (x : Int) / D by
          have h := HO.out.2.2.2
          rw [List.drop_of_length_le (by omega)] at h
          have : mv ([] : List Int) / P = 0 := Int.zero_ediv _
          rw [this] at h
          omega)
         obtain ⟨z, hzz⟩ : ∃ z, m[wd]? = some z := ⟨m[wd]'(by omega), by simp⟩
         obtain ⟨g, o, rfl, hg, hcell⟩ := HLA.out wd z hzz
         obtain ⟨z0, z1⟩ := HLM.out.get hzz
         have j3 : (wd : Int) < (m.length : Int) := by omega
         have hmin : min k 64 = k := by omega
         have hpk := HP.out.symm
         have HLI := hQ0 (lost_iff hk HP.out HD.out HLM.out (by omega) hzz)
         clear hzz
         cases lb
         · obtain ⟨lf, hlf⟩ : ∃ lf, lf = (bits BinOp.and IntKind.u32 z (P - 1) != 0) := ⟨_, rfl⟩
           have HLF := hQ0 (show lf = decide ((x : Int) % D ≠ 0) by
            have h1 : bits .and .u32 z (P - 1) = z % P := by
             rw [HP.out]
             exact bits_mask .u32 32 (by decide) (fun n h₀ h₁ => by rw [IntKind.wrap_u32]; omega) k (by omega) z z0 (by omega)
            have h2 := HLI.out
            rw [HM.out, mv_canN, ← HM.out] at h2
            have h3 := HLO.out
            rw [hlf, h1, Bool.eq_iff_iff]
            simp only [bne_iff_ne, decide_eq_true_eq]
            have h4 : mv (m.take wd) = 0 := by simpa using h3
            constructor
            · intro g e; exact g (h2.1 e).2
            · intro g e; exact g (h2.2 ⟨h4, e⟩))
           replace hlf := hlf.symm
           obtain ⟨A5, c5, rfl, hc5, _, hA5⟩ := lat_of_own HOW.out
           have HC5 := hQ0 hc5
           have HLO5 := hQ0 hA5
           have hol : out.length ≤ 400000 := by have := HO.out.2.1; omega
           have hb_wr := HBE.out
           (with_reducible apply cel2 (b := w.heap.size) hb_wr); ((try simp) <;> omega); omega; (iterate 2 (focus (go_simp; try exact rfl))); (intro o; go_simp); intro cc cc fz hl; (with_reducible apply cel2 (b := w.heap.size + 1) hb_wr); ((try simp) <;> omega); omega; (iterate 2 (focus (go_simp; try exact rfl))); (intro o; go_simp); intro cc cc fz hl
           have HBW := hQ0 (HB4.out.trans (hb_wr.mono (by have := HB4.out.size; omega)))
           have hz4 := HB4.out.size
           clear hb_wr hc5 hA5
           cases p
           · have HZE := hQ0 (show Z = sv false ((x : Int) / D) by
              have hz := HZ.out
              simp only [reduceIte, Bool.false_eq_true] at hz
              rw [hz]; rfl)
             have hmk := fun w' (h : LAt w' A5 out) => make1_any false A5 out c5 w' HO.out.2.2.1 h HC5.out (by omega)
             obtain ⟨q, hq⟩ : ∃ q, q = sv false ((x : Int) / D) := ⟨_, rfl⟩
             rw [HF.out, ← hq] at hmk
             have HMK := hQ0 hmk
             have HQ0 := hQ0 hq
             clear hmk hq
             go_wp2_with fail
             (go_at_call 71; refine (HMK.out _ HLO5.out).mono ?_; rintro e w5 ⟨hb_w5, v5, rfl, A6, c6, rfl, hc6, hA6⟩; have hz_w5 := hb_w5.size; (try simp at hz_w5); (with_reducible apply cal2 (b := w.heap.size) hb_w5); (focus (go_simp; try exact ⟨rfl, rfl⟩)); intro cc cc fz hl; (with_reducible apply cal2 (b := w.heap.size + 1) hb_w5); (focus (go_simp; try exact ⟨rfl, rfl⟩)); intro cc cc fz hl)
             have HB5 := hQ0 (HBW.out.trans (hb_w5.mono (by omega)))
             have HC6 := hQ0 hc6
             have HA6 := hQ0 hA6
             clear hb_w5 hc6 hA6
             cases lf
             all_goals
              go_wp2_with fail
              refine bodyPost_ret (v := .agg #[.bool (decide (q < 0)), .slice A6 (canN q.natAbs).length c6]) (by simp only [results, Tryz.results109]; go_simp) rfl ⟨?_, ?_⟩
              · exact ((HB5.out.setCell (by simp <;> omega) _).setCell (by simp <;> omega) _).alloc (by simp [World.setCell]; omega) _
              · rw [HZE.out, ← HQ0.out]
                exact ⟨_, rfl, A6, c6, rfl, HC6.out, (HA6.out.set2 (by assumption) (by assumption) _ _).alloc _⟩
           · have hmk := fun w' (h : LAt w' A5 out) => make1_any true A5 out c5 w' HO.out.2.2.1 h HC5.out (by omega)
             obtain ⟨q, hq⟩ : ∃ q, q = sv true ((x : Int) / D) := ⟨_, rfl⟩
             rw [HF.out, ← hq] at hmk
             have HMK := hQ0 hmk
             have HQ0 := hQ0 hq
             clear hmk hq
             go_wp2_with fail
             (go_at_call 71; refine (HMK.out _ HLO5.out).mono ?_; rintro e w5 ⟨hb_w5, v5, rfl, A6, c6, rfl, hc6, hA6⟩; have hz_w5 := hb_w5.size; (try simp at hz_w5); (with_reducible apply cal2 (b := w.heap.size) hb_w5); (focus (go_simp; try exact ⟨rfl, rfl⟩)); intro cc cc fz hl; (with_reducible apply cal2 (b := w.heap.size + 1) hb_w5); (focus (go_simp; try exact ⟨rfl, rfl⟩)); intro cc cc fz hl)
             have HB5 := hQ0 (HBW.out.trans (hb_w5.mono (by omega)))
             have HC6 := hQ0 hc6
             have HA6 := hQ0 hA6
             clear hb_w5 hc6 hA6
             cases lf
             · have HZE := hQ0 (show Z = sv true ((x : Int) / D) by
                have h := HLF.out
                have hz := HZ.out
                simp only [reduceIte] at hz
                rw [hz, if_pos (by simpa using h)]
                unfold sv
                rw [if_pos rfl]
                omega)
               go_wp2_with fail
               refine bodyPost_ret (v := .agg #[.bool (decide (q < 0)), .slice A6 (canN q.natAbs).length c6]) (by simp only [results, Tryz.results109]; go_simp) rfl ⟨?_, ?_⟩
               · exact ((HB5.out.setCell (by simp <;> omega) _).setCell (by simp <;> omega) _).alloc (by simp [World.setCell]; omega) _
               · rw [HZE.out, ← HQ0.out]
                 exact ⟨_, rfl, A6, c6, rfl, HC6.out, (HA6.out.set2 (by assumption) (by assumption) _ _).alloc _⟩
             · have HZE := hQ0 (show Z = -((x : Int) / D) - 1 by
                have h := HLF.out
                have hz := HZ.out
                simp only [reduceIte] at hz
                rw [hz, if_neg (by simpa using h)])
               have HQ := hQ0 (show Z = q - 1 by rw [HZE.out, HQ0.out]; rfl)
               have HRC := hQ0 (show IsC w5 (.agg #[.bool (decide (q < 0)), .slice A6 (canN q.natAbs).length c6]) q from ⟨A6, c6, rfl, HC6.out, HA6.out⟩)
               have HQL := hQ0 (show (canN q.natAbs).length ≤ 400000 by
                have h1 : q.natAbs ≤ x := by
                 rw [HQ0.out]
                 have h2 := Int.ediv_le_self D (show (0 : Int) ≤ (x : Int) by omega)
                 have h3 : 0 ≤ (x : Int) / D := Int.ediv_nonneg (by omega) (by omega)
                 unfold sv
                 rw [if_pos rfl]
                 omega
                have := canN_mono h1
                omega)
               go_wp2_with fail
               have HR5 := hQ0 (HRC.out.below ((Below.refl w5.heap.size w5).alloc (Nat.le_refl _) (.cells #[.bool (decide (q < 0)), .slice A6 (canN q.natAbs).length c6] 44)))
               have HB5' := hQ0 (HB5.out.alloc (by omega) (.cells #[.bool (decide (q < 0)), .slice A6 (canN q.natAbs).length c6] 44))
               (refine pin_wp (N := _) (Nat.le_refl _) (fun w6 hb_w6 hz_w6 => ?_); (try simp at hz_w6); (with_reducible apply cal2 (b := w.heap.size) hb_w6); (focus (go_simp; try exact ⟨rfl, rfl⟩)); intro cc cc fz hl; (with_reducible apply cal2 (b := w.heap.size + 1) hb_w6); (focus (go_simp; try exact ⟨rfl, rfl⟩)); intro cc cc fz hl; (with_reducible apply cal2 (b := w5.heap.size) hb_w6); (focus (go_simp; try exact ⟨rfl, rfl⟩)); intro cc cc fz hl); refine wp_region_float w6.heap.size 3 (Nat.le_refl _) (fun _ => True) trivial Cl.tt (by kernel_rfl) (by simp) ?_
               have HR6 := hQ0 (HR5.out.below hb_w6)
               have HB6 := hQ0 (HB5'.out.trans (hb_w6.mono (by simp <;> omega)))
               clear hb_w6
               refine wpI_start [0] ?_; (iterate 1 (first | (apply wpI_step rfl (by kernel_rfl) rfl; (focus (intro W' hS; have hcS := hS.cells; go_simp; (iterate 2 (first | done | exact rfl | exact bB _ | go_simp)))); intro K hK; go_simp; (try go_bits); refine hK _ ?_; clear hK K))); refine wpI_nil ?_
               apply wpF_call (i := 1) rfl (by kernel_rfl) (by kernel_rfl); intro W hF hS; have hcS := hS.1.cells; go_simp; (go_at_call 44; refine (of_any 1 _ (by omega) (by omega)).mono ?_; rintro e w7 ⟨hb_w7, v7, rfl, hv7⟩; refine XPost.mk _ (fun W => IsC W v7 1) hb_w7 (hv7) (IsC.cl _ _) ?_); clear hb_w7 hcS hS hF
               intro K hK; go_simp; (try go_bits); refine hK _ ?_; clear hK K
               clear hv7
               apply wpF_call (i := 2) rfl (by kernel_rfl) (by kernel_rfl); intro W hF hS; have hcS := hS.1.cells; go_simp; (go_at_call 76; refine (minus_any 400000 _ _ q 1 W ((HR6.out.below hS.1.2).zl HQL.out) (hF.zl (Nat.le_trans (canN_word (by decide)) (by decide))) (by omega)).mono ?_; rintro e w8 ⟨hb_w8, v8, rfl, A8, c8, rfl, hc8, hA8⟩; refine XPost.mk _ (fun W => LAt W A8 (canN (q - 1).natAbs)) hb_w8 (hA8) (LAt.cl _ _) ?_); clear hb_w8 hcS hS hF
               intro K hK; go_simp; (try go_bits); refine hK _ ?_; clear hK K
               have HC8 := hQ0 hc8
               clear hA8 hc8
               refine wpF_done (by kernel_rfl) ?_
               intro w9 hF_w9 hSG
               have hz_w9 := hSG.1.1
               have hb_w9 := hSG.1.2
               clear hSG
               (with_reducible apply cel2 (b := w.heap.size) hb_w9); ((try simp) <;> omega); omega; (iterate 2 (focus (go_simp; try exact rfl))); (intro o; go_simp); intro cc cc fz hl; (with_reducible apply cel2 (b := w.heap.size + 1) hb_w9); ((try simp) <;> omega); omega; (iterate 2 (focus (go_simp; try exact rfl))); (intro o; go_simp); intro cc cc fz hl; (with_reducible apply cel2 (b := w5.heap.size) hb_w9); ((try simp) <;> omega); omega; (iterate 2 (focus (go_simp; try exact rfl))); (intro o; go_simp); intro cc cc fz hl
               (try simp only [List.drop_succ_cons, List.drop_zero])
               have HB9 := hQ0 (HB6.out.trans (hb_w9.mono (by omega)))
               have HL9 := hQ0 hF_w9.2
               clear hb_w9 hF_w9
               go_wp2_with fail
               refine bodyPost_ret (v := .agg #[.bool (decide (q - 1 < 0)), .slice A8 (canN (q - 1).natAbs).length c8]) (by simp only [results, Tryz.results109]; go_simp) rfl ⟨?_, ?_⟩
               · exact (HB9.out.setCell (by simp <;> omega) _).setCell (by simp <;> omega) _
               · rw [HQ.out]
                 exact ⟨_, rfl, A8, c8, rfl, HC8.out, HL9.out.set2 (by assumption) (by assumption) _ _⟩
         · have HLF := hQ0 (show true = decide ((x : Int) % D ≠ 0) by
            have h2 := HLI.out
            rw [HM.out, mv_canN, ← HM.out] at h2
            have h3 := HLO.out
            symm
            rw [decide_eq_true_eq]
            intro e
            have h4 := (h2.1 e).1
            simp [h4] at h3)
           obtain ⟨A5, c5, rfl, hc5, _, hA5⟩ := lat_of_own HOW.out
           have HC5 := hQ0 hc5
           have HLO5 := hQ0 hA5
           have hol : out.length ≤ 400000 := by have := HO.out.2.1; omega
           have hb_wr := HBE.out
           (with_reducible apply cel2 (b := w.heap.size) hb_wr); ((try simp) <;> omega); omega; (iterate 2 (focus (go_simp; try exact rfl))); (intro o; go_simp); intro cc cc fz hl; (with_reducible apply cel2 (b := w.heap.size + 1) hb_wr); ((try simp) <;> omega); omega; (iterate 2 (focus (go_simp; try exact rfl))); (intro o; go_simp); intro cc cc fz hl
           have HBW := hQ0 (HB4.out.trans (hb_wr.mono (by have := HB4.out.size; omega)))
           have hz4 := HB4.out.size
           clear hb_wr hc5 hA5
           cases p
           · have HZE := hQ0 (show Z = sv false ((x : Int) / D) by
              have hz := HZ.out
              simp only [reduceIte, Bool.false_eq_true] at hz
              rw [hz]; rfl)
             have hmk := fun w' (h : LAt w' A5 out) => make1_any false A5 out c5 w' HO.out.2.2.1 h HC5.out (by omega)
             obtain ⟨q, hq⟩ : ∃ q, q = sv false ((x : Int) / D) := ⟨_, rfl⟩
             rw [HF.out, ← hq] at hmk
             have HMK := hQ0 hmk
             have HQ0 := hQ0 hq
             clear hmk hq
             go_wp2_with fail
             (go_at_call 71; refine (HMK.out _ HLO5.out).mono ?_; rintro e w5 ⟨hb_w5, v5, rfl, A6, c6, rfl, hc6, hA6⟩; have hz_w5 := hb_w5.size; (try simp at hz_w5); (with_reducible apply cal2 (b := w.heap.size) hb_w5); (focus (go_simp; try exact ⟨rfl, rfl⟩)); intro cc cc fz hl; (with_reducible apply cal2 (b := w.heap.size + 1) hb_w5); (focus (go_simp; try exact ⟨rfl, rfl⟩)); intro cc cc fz hl)
             have HB5 := hQ0 (HBW.out.trans (hb_w5.mono (by omega)))
             have HC6 := hQ0 hc6
             have HA6 := hQ0 hA6
             clear hb_w5 hc6 hA6
             go_wp2_with fail
             refine bodyPost_ret (v := .agg #[.bool (decide (q < 0)), .slice A6 (canN q.natAbs).length c6]) (by simp only [results, Tryz.results109]; go_simp) rfl ⟨?_, ?_⟩
             · exact ((HB5.out.setCell (by simp <;> omega) _).setCell (by simp <;> omega) _).alloc (by simp [World.setCell]; omega) _
             · rw [HZE.out, ← HQ0.out]
               exact ⟨_, rfl, A6, c6, rfl, HC6.out, (HA6.out.set2 (by assumption) (by assumption) _ _).alloc _⟩
           · have hmk := fun w' (h : LAt w' A5 out) => make1_any true A5 out c5 w' HO.out.2.2.1 h HC5.out (by omega)
             obtain ⟨q, hq⟩ : ∃ q, q = sv true ((x : Int) / D) := ⟨_, rfl⟩
             rw [HF.out, ← hq] at hmk
             have HMK := hQ0 hmk
             have HQ0 := hQ0 hq
             clear hmk hq
             go_wp2_with fail
             (go_at_call 71; refine (HMK.out _ HLO5.out).mono ?_; rintro e w5 ⟨hb_w5, v5, rfl, A6, c6, rfl, hc6, hA6⟩; have hz_w5 := hb_w5.size; (try simp at hz_w5); (with_reducible apply cal2 (b := w.heap.size) hb_w5); (focus (go_simp; try exact ⟨rfl, rfl⟩)); intro cc cc fz hl; (with_reducible apply cal2 (b := w.heap.size + 1) hb_w5); (focus (go_simp; try exact ⟨rfl, rfl⟩)); intro cc cc fz hl)
             have HB5 := hQ0 (HBW.out.trans (hb_w5.mono (by omega)))
             have HC6 := hQ0 hc6
             have HA6 := hQ0 hA6
             clear hb_w5 hc6 hA6
             have HZE := hQ0 (show Z = -((x : Int) / D) - 1 by
              have h := HLF.out
              have hz := HZ.out
              simp only [reduceIte] at hz
              rw [hz, if_neg (by simpa using h)])
             have HQ := hQ0 (show Z = q - 1 by rw [HZE.out, HQ0.out]; rfl)
             have HRC := hQ0 (show IsC w5 (.agg #[.bool (decide (q < 0)), .slice A6 (canN q.natAbs).length c6]) q from ⟨A6, c6, rfl, HC6.out, HA6.out⟩)
             have HQL := hQ0 (show (canN q.natAbs).length ≤ 400000 by
              have h1 : q.natAbs ≤ x := by
               rw [HQ0.out]
               have h2 := Int.ediv_le_self D (show (0 : Int) ≤ (x : Int) by omega)
               have h3 : 0 ≤ (x : Int) / D := Int.ediv_nonneg (by omega) (by omega)
               unfold sv
               rw [if_pos rfl]
               omega
              have := canN_mono h1
              omega)
             go_wp2_with fail
             have HR5 := hQ0 (HRC.out.below ((Below.refl w5.heap.size w5).alloc (Nat.le_refl _) (.cells #[.bool (decide (q < 0)), .slice A6 (canN q.natAbs).length c6] 44)))
             have HB5' := hQ0 (HB5.out.alloc (by omega) (.cells #[.bool (decide (q < 0)), .slice A6 (canN q.natAbs).length c6] 44))
             (refine pin_wp (N := _) (Nat.le_refl _) (fun w6 hb_w6 hz_w6 => ?_); (try simp at hz_w6); (with_reducible apply cal2 (b := w.heap.size) hb_w6); (focus (go_simp; try exact ⟨rfl, rfl⟩)); intro cc cc fz hl; (with_reducible apply cal2 (b := w.heap.size + 1) hb_w6); (focus (go_simp; try exact ⟨rfl, rfl⟩)); intro cc cc fz hl; (with_reducible apply cal2 (b := w5.heap.size) hb_w6); (focus (go_simp; try exact ⟨rfl, rfl⟩)); intro cc cc fz hl); refine wp_region_float w6.heap.size 3 (Nat.le_refl _) (fun _ => True) trivial Cl.tt (by kernel_rfl) (by simp) ?_
             have HR6 := hQ0 (HR5.out.below hb_w6)
             have HB6 := hQ0 (HB5'.out.trans (hb_w6.mono (by simp <;> omega)))
             clear hb_w6
             refine wpI_start [0] ?_; (iterate 1 (first | (apply wpI_step rfl (by kernel_rfl) rfl; (focus (intro W' hS; have hcS := hS.cells; go_simp; (iterate 2 (first | done | exact rfl | exact bB _ | go_simp)))); intro K hK; go_simp; (try go_bits); refine hK _ ?_; clear hK K))); refine wpI_nil ?_
             apply wpF_call (i := 1) rfl (by kernel_rfl) (by kernel_rfl); intro W hF hS; have hcS := hS.1.cells; go_simp; (go_at_call 44; refine (of_any 1 _ (by omega) (by omega)).mono ?_; rintro e w7 ⟨hb_w7, v7, rfl, hv7⟩; refine XPost.mk _ (fun W => IsC W v7 1) hb_w7 (hv7) (IsC.cl _ _) ?_); clear hb_w7 hcS hS hF
             intro K hK; go_simp; (try go_bits); refine hK _ ?_; clear hK K
             clear hv7
             apply wpF_call (i := 2) rfl (by kernel_rfl) (by kernel_rfl); intro W hF hS; have hcS := hS.1.cells; go_simp; (go_at_call 76; refine (minus_any 400000 _ _ q 1 W ((HR6.out.below hS.1.2).zl HQL.out) (hF.zl (Nat.le_trans (canN_word (by decide)) (by decide))) (by omega)).mono ?_; rintro e w8 ⟨hb_w8, v8, rfl, A8, c8, rfl, hc8, hA8⟩; refine XPost.mk _ (fun W => LAt W A8 (canN (q - 1).natAbs)) hb_w8 (hA8) (LAt.cl _ _) ?_); clear hb_w8 hcS hS hF
             intro K hK; go_simp; (try go_bits); refine hK _ ?_; clear hK K
             have HC8 := hQ0 hc8
             clear hA8 hc8
             refine wpF_done (by kernel_rfl) ?_
             intro w9 hF_w9 hSG
             have hz_w9 := hSG.1.1
             have hb_w9 := hSG.1.2
             clear hSG
             (with_reducible apply cel2 (b := w.heap.size) hb_w9); ((try simp) <;> omega); omega; (iterate 2 (focus (go_simp; try exact rfl))); (intro o; go_simp); intro cc cc fz hl; (with_reducible apply cel2 (b := w.heap.size + 1) hb_w9); ((try simp) <;> omega); omega; (iterate 2 (focus (go_simp; try exact rfl))); (intro o; go_simp); intro cc cc fz hl; (with_reducible apply cel2 (b := w5.heap.size) hb_w9); ((try simp) <;> omega); omega; (iterate 2 (focus (go_simp; try exact rfl))); (intro o; go_simp); intro cc cc fz hl
             (try simp only [List.drop_succ_cons, List.drop_zero])
             have HB9 := hQ0 (HB6.out.trans (hb_w9.mono (by omega)))
             have HL9 := hQ0 hF_w9.2
             clear hb_w9 hF_w9
             go_wp2_with fail
             refine bodyPost_ret (v := .agg #[.bool (decide (q - 1 < 0)), .slice A8 (canN (q - 1).natAbs).length c8]) (by simp only [results, Tryz.results109]; go_simp) rfl ⟨?_, ?_⟩
             · exact (HB9.out.setCell (by simp <;> omega) _).setCell (by simp <;> omega) _
             · rw [HQ.out]
               exact ⟨_, rfl, A8, c8, rfl, HC8.out, HL9.out.set2 (by assumption) (by assumption) _ _⟩
    · have j1 : ¬ (i : Int) < (m.length : Int) := by omega
      have hwl : m.length ≤ wd := by omega
      clear hpk
      go_wp2_with fail
      clear hil HLB
      go_loopw [6, 10, 11] (fun v vi _ wr => ∃ (ii j : Nat) (out : List Int), (ii ≤ m.length ∨ j = 0) ∧ ii ≤ 800000 ∧ j ≤ 400000 ∧ vi = .int .i64 ii ∧ OwnL wr w4.heap.size v out ∧ Hid (ii = wd + j ∧ out.length = j ∧ Lim out ∧ mv out + PB j * (mv (m.drop ii) / P) = (x : Int) / D) ∧ Below w4.heap.size w4 wr) (fun _ vi _ _ => (m.length - (intOf vi).toNat))
      case atStart => exact ⟨wd, 0, [], .inr rfl, by omega, by omega, rfl, OwnL.nil _ _, hQ0 ⟨by omega, rfl, Lim.nil, by
       have h := down_quo p0 HD.out HLM.out
       rw [HM.out, mv_canN] at h
       rw [h, HM.out]; simp [mv, PB_zero]⟩, Below.refl _ _⟩
      case round =>
       obtain ⟨ii, j, out, hij, hi8, hj4, rfl, hown, HO, hbel⟩ := hrel
       have HBE := hQ0 hbel
       have HOW := hQ0 hown
       have hsz := hbel.size
       have hla : LAt wr A1 m := HA1.out.below hbel
       have HLA := hQ0 hla
       clear hbel hown hla
       have i1 : (0 : Int) ≤ (ii : Int) := by omega
       have i3 : (ii : Int) ≤ 800000 := by omega
       by_cases hil : ii < m.length
       · exact absurd hil (by have := HO.out.1; omega)
       · have j1 : ¬ (ii : Int) < (m.length : Int) := by omega
         have HF := hQ0 (show mv out = (x : Int) / D by
          have h := HO.out.2.2.2
          rw [List.drop_of_length_le (by omega)] at h
          have : mv ([] : List Int) / P = 0 := Int.zero_ediv _
          rw [this] at h
          omega)
         have j3 : ¬ (wd : Int) < (m.length : Int) := by omega
         have HLF := hQ0 (show lb = decide ((x : Int) % D ≠ 0) by
          have h3 := HLO.out
          rw [List.take_of_length_le (by omega), HM.out, mv_canN] at h3
          rw [h3]
          have h1 : (x : Int) % D = x := by
           refine Int.emod_eq_of_lt (by omega) ?_
           have h5 := mv_lt HLM.out
           rw [HM.out, mv_canN, ← HM.out] at h5
           have h6 := PB_mono hwl
           have h7 := Int.mul_le_mul_of_nonneg_left p0 (Int.le_of_lt (PB_pos wd))
           rw [HD.out]
           omega
          rw [h1])
         obtain ⟨A5, c5, rfl, hc5, _, hA5⟩ := lat_of_own HOW.out
         have HC5 := hQ0 hc5
         have HLO5 := hQ0 hA5
         have hol : out.length ≤ 400000 := by have := HO.out.2.1; omega
         have hb_wr := HBE.out
         (with_reducible apply cel2 (b := w.heap.size) hb_wr); ((try simp) <;> omega); omega; (iterate 2 (focus (go_simp; try exact rfl))); (intro o; go_simp); intro cc cc fz hl; (with_reducible apply cel2 (b := w.heap.size + 1) hb_wr); ((try simp) <;> omega); omega; (iterate 2 (focus (go_simp; try exact rfl))); (intro o; go_simp); intro cc cc fz hl
         have HBW := hQ0 (HB4.out.trans (hb_wr.mono (by have := HB4.out.size; omega)))
         have hz4 := HB4.out.size
         clear hb_wr hc5 hA5
         cases p
         · have HZE := hQ0 (show Z = sv false ((x : Int) / D) by
            have hz := HZ.out
            simp only [reduceIte, Bool.false_eq_true] at hz
            rw [hz]; rfl)
           have hmk := fun w' (h : LAt w' A5 out) => make1_any false A5 out c5 w' HO.out.2.2.1 h HC5.out (by omega)
           obtain ⟨q, hq⟩ : ∃ q, q = sv false ((x : Int) / D) := ⟨_, rfl⟩
           rw [HF.out, ← hq] at hmk
           have HMK := hQ0 hmk
           have HQ0 := hQ0 hq
           clear hmk hq
           go_wp2_with fail
           (go_at_call 71; refine (HMK.out _ HLO5.out).mono ?_; rintro e w5 ⟨hb_w5, v5, rfl, A6, c6, rfl, hc6, hA6⟩; have hz_w5 := hb_w5.size; (try simp at hz_w5); (with_reducible apply cal2 (b := w.heap.size) hb_w5); (focus (go_simp; try exact ⟨rfl, rfl⟩)); intro cc cc fz hl; (with_reducible apply cal2 (b := w.heap.size + 1) hb_w5); (focus (go_simp; try exact ⟨rfl, rfl⟩)); intro cc cc fz hl)
           have HB5 := hQ0 (HBW.out.trans (hb_w5.mono (by omega)))
           have HC6 := hQ0 hc6
           have HA6 := hQ0 hA6
           clear hb_w5 hc6 hA6
           cases lb
           all_goals
            go_wp2_with fail
            refine bodyPost_ret (v := .agg #[.bool (decide (q < 0)), .slice A6 (canN q.natAbs).length c6]) (by simp only [results, Tryz.results109]; go_simp) rfl ⟨?_, ?_⟩
            · exact ((HB5.out.setCell (by simp <;> omega) _).setCell (by simp <;> omega) _).alloc (by simp [World.setCell]; omega) _
            · rw [HZE.out, ← HQ0.out]
              exact ⟨_, rfl, A6, c6, rfl, HC6.out, (HA6.out.set2 (by assumption) (by assumption) _ _).alloc _⟩
         · have hmk := fun w' (h : LAt w' A5 out) => make1_any true A5 out c5 w' HO.out.2.2.1 h HC5.out (by omega)
           obtain ⟨q, hq⟩ : ∃ q, q = sv true ((x : Int) / D) := ⟨_, rfl⟩
           rw [HF.out, ← hq] at hmk
           have HMK := hQ0 hmk
           have HQ0 := hQ0 hq
           clear hmk hq
           go_wp2_with fail
           (go_at_call 71; refine (HMK.out _ HLO5.out).mono ?_; rintro e w5 ⟨hb_w5, v5, rfl, A6, c6, rfl, hc6, hA6⟩; have hz_w5 := hb_w5.size; (try simp at hz_w5); (with_reducible apply cal2 (b := w.heap.size) hb_w5); (focus (go_simp; try exact ⟨rfl, rfl⟩)); intro cc cc fz hl; (with_reducible apply cal2 (b := w.heap.size + 1) hb_w5); (focus (go_simp; try exact ⟨rfl, rfl⟩)); intro cc cc fz hl)
           have HB5 := hQ0 (HBW.out.trans (hb_w5.mono (by omega)))
           have HC6 := hQ0 hc6
           have HA6 := hQ0 hA6
           clear hb_w5 hc6 hA6
           cases lb
           · have HZE := hQ0 (show Z = sv true ((x : Int) / D) by
              have h := HLF.out
              have hz := HZ.out
              simp only [reduceIte] at hz
              rw [hz, if_pos (by simpa using h)]
              unfold sv
              rw [if_pos rfl]
              omega)
             go_wp2_with fail
             refine bodyPost_ret (v := .agg #[.bool (decide (q < 0)), .slice A6 (canN q.natAbs).length c6]) (by simp only [results, Tryz.results109]; go_simp) rfl ⟨?_, ?_⟩
             · exact ((HB5.out.setCell (by simp <;> omega) _).setCell (by simp <;> omega) _).alloc (by simp [World.setCell]; omega) _
             · rw [HZE.out, ← HQ0.out]
               exact ⟨_, rfl, A6, c6, rfl, HC6.out, (HA6.out.set2 (by assumption) (by assumption) _ _).alloc _⟩
           · have HZE := hQ0 (show Z = -((x : Int) / D) - 1 by
              have h := HLF.out
              have hz := HZ.out
              simp only [reduceIte] at hz
              rw [hz, if_neg (by simpa using h)])
             have HQ := hQ0 (show Z = q - 1 by rw [HZE.out, HQ0.out]; rfl)
             have HRC := hQ0 (show IsC w5 (.agg #[.bool (decide (q < 0)), .slice A6 (canN q.natAbs).length c6]) q from ⟨A6, c6, rfl, HC6.out, HA6.out⟩)
             have HQL := hQ0 (show (canN q.natAbs).length ≤ 400000 by
              have h1 : q.natAbs ≤ x := by
               rw [HQ0.out]
               have h2 := Int.ediv_le_self D (show (0 : Int) ≤ (x : Int) by omega)
               have h3 : 0 ≤ (x : Int) / D := Int.ediv_nonneg (by omega) (by omega)
               unfold sv
               rw [if_pos rfl]
               omega
              have := canN_mono h1
              omega)
             go_wp2_with fail
             have HR5 := hQ0 (HRC.out.below ((Below.refl w5.heap.size w5).alloc (Nat.le_refl _) (.cells #[.bool (decide (q < 0)), .slice A6 (canN q.natAbs).length c6] 44)))
             have HB5' := hQ0 (HB5.out.alloc (by omega) (.cells #[.bool (decide (q < 0)), .slice A6 (canN q.natAbs).length c6] 44))
             (refine pin_wp (N := _) (Nat.le_refl _) (fun w6 hb_w6 hz_w6 => ?_); (try simp at hz_w6); (with_reducible apply cal2 (b := w.heap.size) hb_w6); (focus (go_simp; try exact ⟨rfl, rfl⟩)); intro cc cc fz hl; (with_reducible apply cal2 (b := w.heap.size + 1) hb_w6); (focus (go_simp; try exact ⟨rfl, rfl⟩)); intro cc cc fz hl; (with_reducible apply cal2 (b := w5.heap.size) hb_w6); (focus (go_simp; try exact ⟨rfl, rfl⟩)); intro cc cc fz hl); refine wp_region_float w6.heap.size 3 (Nat.le_refl _) (fun _ => True) trivial Cl.tt (by kernel_rfl) (by simp) ?_
             have HR6 := hQ0 (HR5.out.below hb_w6)
             have HB6 := hQ0 (HB5'.out.trans (hb_w6.mono (by simp <;> omega)))
             clear hb_w6
             refine wpI_start [0] ?_; (iterate 1 (first | (apply wpI_step rfl (by kernel_rfl) rfl; (focus (intro W' hS; have hcS := hS.cells; go_simp; (iterate 2 (first | done | exact rfl | exact bB _ | go_simp)))); intro K hK; go_simp; (try go_bits); refine hK _ ?_; clear hK K))); refine wpI_nil ?_
             apply wpF_call (i := 1) rfl (by kernel_rfl) (by kernel_rfl); intro W hF hS; have hcS := hS.1.cells; go_simp; (go_at_call 44; refine (of_any 1 _ (by omega) (by omega)).mono ?_; rintro e w7 ⟨hb_w7, v7, rfl, hv7⟩; refine XPost.mk _ (fun W => IsC W v7 1) hb_w7 (hv7) (IsC.cl _ _) ?_); clear hb_w7 hcS hS hF
             intro K hK; go_simp; (try go_bits); refine hK _ ?_; clear hK K
             clear hv7
             apply wpF_call (i := 2) rfl (by kernel_rfl) (by kernel_rfl); intro W hF hS; have hcS := hS.1.cells; go_simp; (go_at_call 76; refine (minus_any 400000 _ _ q 1 W ((HR6.out.below hS.1.2).zl HQL.out) (hF.zl (Nat.le_trans (canN_word (by decide)) (by decide))) (by omega)).mono ?_; rintro e w8 ⟨hb_w8, v8, rfl, A8, c8, rfl, hc8, hA8⟩; refine XPost.mk _ (fun W => LAt W A8 (canN (q - 1).natAbs)) hb_w8 (hA8) (LAt.cl _ _) ?_); clear hb_w8 hcS hS hF
             intro K hK; go_simp; (try go_bits); refine hK _ ?_; clear hK K
             have HC8 := hQ0 hc8
             clear hA8 hc8
             refine wpF_done (by kernel_rfl) ?_
             intro w9 hF_w9 hSG
             have hz_w9 := hSG.1.1
             have hb_w9 := hSG.1.2
             clear hSG
             (with_reducible apply cel2 (b := w.heap.size) hb_w9); ((try simp) <;> omega); omega; (iterate 2 (focus (go_simp; try exact rfl))); (intro o; go_simp); intro cc cc fz hl; (with_reducible apply cel2 (b := w.heap.size + 1) hb_w9); ((try simp) <;> omega); omega; (iterate 2 (focus (go_simp; try exact rfl))); (intro o; go_simp); intro cc cc fz hl; (with_reducible apply cel2 (b := w5.heap.size) hb_w9); ((try simp) <;> omega); omega; (iterate 2 (focus (go_simp; try exact rfl))); (intro o; go_simp); intro cc cc fz hl
             (try simp only [List.drop_succ_cons, List.drop_zero])
             have HB9 := hQ0 (HB6.out.trans (hb_w9.mono (by omega)))
             have HL9 := hQ0 hF_w9.2
             clear hb_w9 hF_w9
             go_wp2_with fail
             refine bodyPost_ret (v := .agg #[.bool (decide (q - 1 < 0)), .slice A8 (canN (q - 1).natAbs).length c8]) (by simp only [results, Tryz.results109]; go_simp) rfl ⟨?_, ?_⟩
             · exact (HB9.out.setCell (by simp <;> omega) _).setCell (by simp <;> omega) _
             · rw [HQ.out]
               exact ⟨_, rfl, A8, c8, rfl, HC8.out, HL9.out.set2 (by assumption) (by assumption) _ _⟩
def DivOut (q r : Nat) (w : World) (e : Ending) (w' : World) : Prop := Below w.heap.size w w' ∧ ∃ A1 c1 A2 c2, e = .returned (.tuple #[.slice A1 (canN q).length c1, .slice A2 (canN r).length c2]) ∧ (canN q).length ≤ c1 ∧ (canN r).length ≤ c2 ∧ LAt w' A1 (canN q) ∧ LAt w' A2 (canN r)
set_option maxRecDepth 100000 in
set_option maxHeartbeats 1000000 in
theorem divmag_less (A B : Option Addr) (x y c d : Nat) (w : World) (hn : (canN x).length ≤ 400000) (hn' : (canN y).length ≤ 400000) (hA : LAt w A (canN x)) (hB : LAt w B (canN y)) (hc : (canN x).length ≤ c) (hxy : x < y) :
  Calls Tryz.prog 79 #[.slice A (canN x).length c, .slice B (canN y).length d] w (DivOut (x / y) (x % y) w) := by
 have hcm := fun w' h h' => cmpmag_any A B x y c d w' (by omega) (by omega) h h'
 rw [cmpI_lt (show (x : Int) < (y : Int) by omega)] at hcm
 have HCM := hQ0 hcm
 have HA := hQ0 hA
 have HB := hQ0 hB
 clear hcm hA hB
 rw [Nat.div_eq_of_lt hxy, Nat.mod_eq_of_lt hxy]
 go_enter Tryz.func79, Tryz.ntmps79; (try simp only [List.append_eq, List.cons_append, List.nil_append])
 go_wp2_with fail
 (go_at_call 73; refine (HCM.out _ HA.out HB.out).mono ?_; rintro e w1 ⟨rfl, hb_w1⟩; have hz_w1 := hb_w1.size; (try simp at hz_w1); skip)
 have HB1 := hQ0 hb_w1
 clear hb_w1
 go_wp2_with fail
 go_ret2
 exact ⟨HB1.out, none, 0, A, c, by rw [canN_zero]; rfl, by rw [canN_zero]; exact Nat.le_refl _, hc, by rw [canN_zero]; exact LAt.nil _ _, HA.out.below HB1.out⟩
theorem one_step {a out : List Int} {j : Nat} {y r q r' z v : Int} (h : mv (a.drop (j + 1)) = mv (out.drop (j + 1)) * y + r) (hz : a[j]? = some z) (hj : j < out.length) (hv : v = r * 4294967296 + z) (hq : v = y * q + r') :
  mv (a.drop j) = mv ((out.set j q).drop j) * y + r' := by
 have h1 : (out.set j q)[j]? = some q := by simp [hj]
 rw [mv_drop_succ hz, mv_drop_succ h1, List.drop_set_of_lt (by omega), h]
 grind
set_option maxRecDepth 100000 in
set_option maxHeartbeats 1000000 in
theorem divmag_one (A B : Option Addr) (x y c d : Nat) (w : World) (hn : (canN x).length ≤ 400000) (hA : LAt w A (canN x)) (hB : LAt w B (canN y)) (hxy : y ≤ x) (hy1 : (canN y).length = 1) :
  Calls Tryz.prog 79 #[.slice A (canN x).length c, .slice B (canN y).length d] w (DivOut (x / y) (x % y) w) := by
 have hcm := fun w' h h' => cmpmag_any A B x y c d w' (by omega) (by omega) h h'
 obtain ⟨cm, hcc⟩ : ∃ cm, cm = cmpI x y := ⟨_, rfl⟩
 have cm0 : 0 ≤ cm := by rw [hcc]; unfold cmpI; rw [if_neg (by omega)]; split <;> omega
 rw [← hcc] at hcm
 obtain ⟨a, ha⟩ : ∃ a, a = canN x := ⟨_, rfl⟩
 have hLa : Lim a := by rw [ha]; exact canN_lim x
 have hva : mv a = x := by rw [ha]; exact mv_canN x
 obtain ⟨b, hb⟩ : ∃ b, canN y = [b] := by
  match h : canN y, hy1 with
  | [b], _ => exact ⟨b, rfl⟩
 have hyb : (y : Int) = b := by have := mv_canN y; rw [hb, mv_one] at this; omega
 have hb1 : b < 4294967296 := by have := (canN_lim y) b (by rw [hb]; simp); omega
 have hb0 : 0 < b := by
  have := canN_last y b (by rw [hb]; rfl)
  have := (canN_lim y) b (by rw [hb]; simp)
  omega
 rw [hb, ← ha] at hcm
 rw [hb] at hB
 rw [← ha] at hA hn
 rw [hb, ← ha]
 have hmk := fun w => run_make_row' (P := Tryz.prog) 42 107 (.int .u32 0) 4 Tryz.underlying42 limbInfo rfl .i64 .i64 a.length (by omega) (by omega) w
 have HCM := hQ0 hcm
 have HA := hQ0 hA
 have HB := hQ0 hB
 have HVA := hQ0 hva
 have HYB := hQ0 hyb
 have HLA := hQ0 hLa
 clear hcm hA hB hcc ha hva hyb hLa hb hy1
 go_enter Tryz.func79, Tryz.ntmps79; (try simp only [List.append_eq, List.cons_append, List.nil_append])
 go_wp2_with fail
 (go_at_call 73; refine (HCM.out _ HA.out HB.out).mono ?_; rintro e w1 ⟨rfl, hb_w1⟩; have hz_w1 := hb_w1.size; (try simp at hz_w1); skip)
 have HB1 := hQ0 hb_w1
 clear hb_w1
 go_wp2_with fail
 clear hmk
 go_loopw [7, 8] (fun vr vi wr => ∃ (k : Nat) (r : Int) (out : List Int), k ≤ a.length ∧ vi = .int .i64 ((k : Int) - 1) ∧ vr = .int .u64 r ∧ 0 ≤ r ∧ r < b ∧ RowL wr w1.heap.size out ∧ Hid (out.length = a.length ∧ Lim out ∧ mv (a.drop k) = mv (out.drop k) * b + r) ∧ Below w1.heap.size w1 wr) (fun _ vi _ => (intOf vi + 1).toNat)
 case atStart => exact ⟨a.length, 0, List.replicate a.length 0, by omega, rfl, rfl, by omega, by omega, RowL.made w1 a.length, hQ0 ⟨by simp, Lim.replicate _, by rw [List.drop_length, List.drop_of_length_le (by simp)]; simp [mv]⟩, (Below.refl _ _).alloc (Nat.le_refl _) _⟩
 case round =>
  obtain ⟨k, r, out, hk, rfl, rfl, r0, r1, hrow, HO, hbel⟩ := hrel
  have HBW := hQ0 (HB1.out.trans (hbel.mono (HB1.out.size)))
  have HBE := hQ0 hbel
  have HR := hQ0 hrow
  have hsz := hbel.size
  have hlt := hrow.lt
  clear hbel hrow
  rcases k with _ | j
  · have hfin := HO.out.2.2
    rw [List.drop_zero, List.drop_zero, HVA.out, ← HYB.out] at hfin
    have hm0 := mv_nonneg HO.out.2.1
    have hyp : 0 < y := by have := HYB.out; omega
    obtain ⟨R, rfl⟩ := Int.eq_ofNat_of_zero_le r0
    have hQ : (mv out).toNat = x / y ∧ R = x % y := by
     obtain ⟨Q, hQ⟩ := Int.eq_ofNat_of_zero_le hm0
     rw [hQ] at hfin ⊢
     have h1 : x = y * Q + R := by
      have : (x : Int) = ((y * Q + R : Nat) : Int) := by rw [hfin, Int.natCast_add, Int.natCast_mul, Int.mul_comm]
      exact_mod_cast this
     have h2 : R < y := by have := HYB.out; omega
     rw [Int.toNat_natCast, h1]
     rw [Nat.mul_add_div hyp, Nat.div_eq_of_lt h2, Nat.mul_add_mod, Nat.mod_eq_of_lt h2]
     simp
    have hlim1 : Lim [(R : Int)] := Lim.cons (by omega) (by omega) Lim.nil
    have hmg := fun w' h => mag_any (some ⟨w1.heap.size, 0, none⟩) out a.length w' HO.out.2.1 h (by have := HO.out.1; omega) (by have := HO.out.1; omega)
    rw [HO.out.1, hQ.1] at hmg
    have hmr := fun w' B' h => mag_any (some ⟨B', 0, none⟩) [(R : Int)] 1 w' hlim1 h (by simp) (by simp)
    rw [mv_one, Int.toNat_natCast, hQ.2, ← hQ.2] at hmr
    have HMG := hQ0 hmg
    have HRQ := hQ0 hQ.2
    clear hmg hfin hm0
    rw [HRQ.out] at hmr
    have e1 : (R : Int) = ((x % y : Nat) : Int) := by rw [HRQ.out]
    obtain ⟨S, hS⟩ : ∃ S : Nat, S = x % y := ⟨_, rfl⟩
    rw [← hS] at hmr hQ
    obtain rfl : R = S := hQ.2
    have HSQ := hQ0 hS.symm
    have HMR := hQ0 hmr
    have hb2 : (R : Int) < 4294967296 := by omega
    have hlr := HR.out.lat
    have HLR := hQ0 hlr
    clear hmr hQ e1 hlr hlim1 hS HRQ hyp
    go_wp2_with fail
    (go_at_call 70; refine (HMG.out _ HLR.out).mono ?_; rintro e w2 ⟨hb_w2, A1, c1, rfl, hc1, hA1⟩)
    have hz2 := hb_w2.size
    have HB2 := hQ0 (HBW.out.trans (hb_w2.mono (by have := HB1.out.size; omega)))
    have HA1 := hQ0 hA1
    have HC1 := hQ0 hc1
    have l2 : w1.heap.size < w2.heap.size := by omega
    clear hb_w2 hA1 hc1
    go_wp2_with fail
    (go_at_call 70; refine (HMR.out _ w2.heap.size (lat_one (by simp) (by go_simp))).mono ?_; rintro e w3 ⟨hb_w3, A2, c2, rfl, hc2, hA2⟩)
    have HB3 := hQ0 ((HB2.out.alloc (by have := HB2.out.size; omega) _).trans (hb_w3.mono (by have := HB2.out.size; simp; omega)))
    have HA1' := hQ0 ((HA1.out.alloc (.cells #[.int .u32 (R : Int)] 107)).below hb_w3)
    have HA2 := hQ0 hA2
    have HC2 := hQ0 hc2
    clear hb_w3 hA2 hc2
    go_wp2_with fail
    go_ret2
    rw [HSQ.out]
    exact ⟨HB3.out, A1, c1, A2, c2, rfl, HC1.out, HC2.out, HA1'.out, HA2.out⟩
  · obtain ⟨z, hz⟩ : ∃ z, a[j]? = some z := ⟨a[j], by simp⟩
    obtain ⟨g, o, rfl, hg, hc1⟩ := HA.out.below HBW.out j z hz
    obtain ⟨g', o', rfl, hg', hc2⟩ := HB.out.below HBW.out 0 b rfl
    rw [Nat.add_zero] at hc2
    have hgb : g' < w1.heap.size := by
     obtain ⟨g2, o2, he, hg2, _⟩ := HB.out.below HB1.out 0 b rfl
     simp only [Option.some.injEq, Addr.mk.injEq] at he
     omega
    have hgn : ¬ g' = w1.heap.size := by omega
    have hgn' : ¬ w1.heap.size = g' := by omega
    obtain ⟨z0, z1⟩ := HLA.out.get hz
    have HZ := hQ0 hz
    have hjo : j < out.length := by have := HO.out.1; omega
    have hc3 := HR.out.cell (List.getElem?_eq_getElem hjo)
    have hfz := HR.out.frozen
    have i1 : (0 : Int) ≤ (j : Int) := by omega
    have i2 : (j : Int) < (a.length : Int) := by omega
    have i3 : (a.length : Int) ≤ 400000 := by omega
    obtain ⟨v, hv⟩ : ∃ v, v = r * 4294967296 + z := ⟨_, rfl⟩
    have hsh : IntKind.u64.wrap (r * 4294967296) = r * 4294967296 := by rw [IntKind.wrap_u64]; omega
    have hor : bits .or .u64 (r * 4294967296) z = v := by
     rw [hv]
     exact bits_join .u64 64 (by decide) wraps_u64' 32 (r * 4294967296) z (by omega) (Int.mul_emod_left _ _) (by omega) z0 (by omega) (by omega)
    have v0 : 0 ≤ v := by omega
    have v1 : v < 18446744073709551616 := by omega
    obtain ⟨q, hq⟩ : ∃ q, q = v / b := ⟨_, rfl⟩
    obtain ⟨s, hs⟩ : ∃ s, s = v % b := ⟨_, rfl⟩
    have q0 : 0 ≤ q := by rw [hq]; exact Int.ediv_nonneg v0 (by omega)
    have q1 : q < 4294967296 := by
     rw [hq]
     refine Int.ediv_lt_of_lt_mul (by omega) ?_
     have : (r + 1) * 4294967296 ≤ b * 4294967296 := Int.mul_le_mul_of_nonneg_right (by omega) (by omega)
     rw [hv]; omega
    have s0 : 0 ≤ s := by rw [hs]; exact Int.emod_nonneg _ (by omega)
    have s1 : s < b := by rw [hs]; exact Int.emod_lt_of_pos _ hb0
    have hqs : v = b * q + s := by rw [hq, hs]; exact (Int.mul_ediv_add_emod _ _).symm
    have HST := hQ0 (one_step (q := q) (r' := s) HO.out.2.2 HZ.out hjo hv hqs)
    have e1 : v.tdiv b = q := by rw [hq]; exact Int.tdiv_eq_ediv_of_nonneg v0
    have e2 : v.tmod b = s := by rw [hs]; exact Int.tmod_eq_emod_of_nonneg v0
    have e3 : IntKind.u64.wrap (v.tdiv b) = q := by rw [e1]; exact wraps_u64' q q0 (by omega)
    have n0 : (b == 0) = false := by rw [beq_eq_false_iff_ne]; omega
    have n1 : ¬ b = 0 := by omega
    have HV := hQ0 hv
    have hq' := hq.symm
    have hs' := hs.symm
    clear hv hq hs hqs hz
    go_wp2_with fail
    go_roundw
    case rel => exact ⟨j, s, out.set j q, by omega, rfl, rfl, s0, s1, HR.out.set _ _, hQ0 ⟨by rw [List.length_set]; exact HO.out.1, HO.out.2.1.set _ q0 q1, HST.out⟩, HBE.out.setCell (Nat.le_refl _) _⟩
    case measure => simp [intOf]
end Go.Proofs.YtgejdaincnclpaaGreat
namespace Go.Proofs.YtgejdaincnclpaaGreat
set_option linter.unusedVariables false
structure Guess (p vl ul top next u0 u1 u2 g r : Int) : Prop where
  num : g * top + r = u2 * 4294967296 + u1
  r0 : 0 ≤ r
  g0 : 0 ≤ g
  up : ul + p * (u0 + 4294967296 * (u1 + 4294967296 * u2)) < (g + 1) * (vl + p * (next + 4294967296 * top))
theorem guess_start {p vl ul top next u0 u1 u2 : Int} (hp : 0 < p) (v0 : 0 ≤ vl) (n0 : 0 ≤ next) (ul1 : ul < p) (a1 : u0 < 4294967296) (t0 : 0 < top) (b0 : 0 ≤ u1) (c0 : 0 ≤ u2) :
  Guess p vl ul top next u0 u1 u2 ((u2 * 4294967296 + u1) / top) ((u2 * 4294967296 + u1) % top) := by
 have hn : 0 ≤ u2 * 4294967296 + u1 := by omega
 refine ⟨by rw [Int.mul_comm]; exact Int.mul_ediv_add_emod _ _, Int.emod_nonneg _ (by omega), Int.ediv_nonneg hn (by omega), ?_⟩
 obtain ⟨g, hg⟩ : ∃ g, g = (u2 * 4294967296 + u1) / top := ⟨_, rfl⟩
 obtain ⟨r, hr⟩ : ∃ r, r = (u2 * 4294967296 + u1) % top := ⟨_, rfl⟩
 have e : g * top + r = u2 * 4294967296 + u1 := by rw [hg, hr, Int.mul_comm]; exact Int.mul_ediv_add_emod _ _
 have r1 : r < top := by rw [hr]; exact Int.emod_lt_of_pos _ t0
 have g0 : 0 ≤ g := by rw [hg]; exact Int.ediv_nonneg hn (by omega)
 rw [← hg]
 have h1 : (g + 1) * top = g * top + top := by grind
 have h2 : p * (u0 + 4294967296 * (u1 + 4294967296 * u2)) + p ≤ p * (4294967296 * ((g + 1) * top)) := by
  have q : p * (u0 + 4294967296 * (u1 + 4294967296 * u2) + 1) ≤ p * (4294967296 * ((g + 1) * top)) := Int.mul_le_mul_of_nonneg_left (by omega) (by omega)
  rw [Int.mul_add, Int.mul_one] at q
  exact q
 have h3 : (g + 1) * (vl + p * (next + 4294967296 * top)) = (g + 1) * vl + p * ((g + 1) * next) + p * (4294967296 * ((g + 1) * top)) := by grind
 have h4 : 0 ≤ (g + 1) * vl := Int.mul_nonneg (by omega) v0
 have h5 : 0 ≤ p * ((g + 1) * next) := Int.mul_nonneg (by omega) (Int.mul_nonneg (by omega) n0)
 omega
theorem guess_less {p vl ul top next u0 u1 u2 g r : Int} (h : Guess p vl ul top next u0 u1 u2 g r) (hp : 0 < p) (v0 : 0 ≤ vl) (t0 : 0 < top) (g1 : 1 ≤ g)
  (hU : ul + p * (u0 + 4294967296 * (u1 + 4294967296 * u2)) < g * (vl + p * (next + 4294967296 * top))) : Guess p vl ul top next u0 u1 u2 (g - 1) (r + top) := by
 have e : (g - 1) * top = g * top - top := by grind
 refine ⟨by have := h.num; omega, by have := h.r0; omega, by omega, ?_⟩
 rw [Int.sub_add_cancel]
 exact hU
theorem guess_big {p vl ul top next u0 u1 u2 g : Int} (hp : 0 < p) (v0 : 0 ≤ vl) (n0 : 0 ≤ next) (t0 : 0 < top) (hg : 4294967296 ≤ g)
  (hB : ul + p * (u0 + 4294967296 * (u1 + 4294967296 * u2)) < 4294967296 * (vl + p * (next + 4294967296 * top))) :
  ul + p * (u0 + 4294967296 * (u1 + 4294967296 * u2)) < g * (vl + p * (next + 4294967296 * top)) := by
 have hV : 0 ≤ vl + p * (next + 4294967296 * top) := by
  have := Int.mul_nonneg (Int.le_of_lt hp) (show 0 ≤ next + 4294967296 * top by omega)
  omega
 have := Int.mul_le_mul_of_nonneg_right hg hV
 omega
theorem guess_next {p vl ul top next u0 u1 u2 g r : Int} (h : Guess p vl ul top next u0 u1 u2 g r) (hp : 0 < p) (v0 : 0 ≤ vl) (ul1 : ul < p) (hg : r * 4294967296 + u0 < g * next) :
  ul + p * (u0 + 4294967296 * (u1 + 4294967296 * u2)) < g * (vl + p * (next + 4294967296 * top)) := by
 have h1 := h.num
 have h2 : p * (u0 + 4294967296 * (u1 + 4294967296 * u2)) + p ≤ p * (g * next + 4294967296 * (g * top)) := by
  have q : p * (u0 + 4294967296 * (u1 + 4294967296 * u2) + 1) ≤ p * (g * next + 4294967296 * (g * top)) := Int.mul_le_mul_of_nonneg_left (by omega) (by omega)
  rw [Int.mul_add, Int.mul_one] at q
  exact q
 have h3 : g * (vl + p * (next + 4294967296 * top)) = g * vl + p * (g * next + 4294967296 * (g * top)) := by grind
 have h4 : 0 ≤ g * vl := Int.mul_nonneg h.g0 v0
 omega
theorem guess_done {p vl ul top next u0 u1 u2 g r : Int} (h : Guess p vl ul top next u0 u1 u2 g r) (hp : 0 < p) (v0 : 0 ≤ vl) (vl1 : vl < p) (u00 : 0 ≤ ul) (n0 : 0 ≤ next) (t1 : 1 ≤ top) (g1 : g < 4294967296) (hg : g * next ≤ r * 4294967296 + u0) :
  -(vl + p * (next + 4294967296 * top)) ≤ ul + p * (u0 + 4294967296 * (u1 + 4294967296 * u2)) - g * (vl + p * (next + 4294967296 * top)) ∧
  ul + p * (u0 + 4294967296 * (u1 + 4294967296 * u2)) - g * (vl + p * (next + 4294967296 * top)) < vl + p * (next + 4294967296 * top) := by
 have h1 := h.num
 have h2 : p * (g * next + 4294967296 * (g * top)) ≤ p * (u0 + 4294967296 * (u1 + 4294967296 * u2)) := Int.mul_le_mul_of_nonneg_left (by omega) (by omega)
 have h3 : g * (vl + p * (next + 4294967296 * top)) = g * vl + p * (g * next + 4294967296 * (g * top)) := by grind
 have h4 : g * vl ≤ 4294967296 * p := by
  have a1 := Int.mul_le_mul_of_nonneg_right (show g ≤ 4294967296 by omega) v0
  have a2 := Int.mul_le_mul_of_nonneg_left (show vl ≤ p by omega) (show (0 : Int) ≤ 4294967296 by omega)
  omega
 have h5 : 4294967296 * p ≤ p * (next + 4294967296 * top) := by
  rw [Int.mul_comm]
  exact Int.mul_le_mul_of_nonneg_left (by omega) (by omega)
 have h6 := h.up
 have h7 : (g + 1) * (vl + p * (next + 4294967296 * top)) = g * (vl + p * (next + 4294967296 * top)) + (vl + p * (next + 4294967296 * top)) := by grind
 omega
theorem guess_rest {p vl ul top next u0 u1 u2 g r : Int} (h : Guess p vl ul top next u0 u1 u2 g r) (n1 : next < 4294967296) (n0 : 0 ≤ next) (u00 : 0 ≤ u0) (b1 : u1 < 4294967296) (t0 : 0 < top) (ht : u2 ≤ top) (hr : 4294967296 ≤ r) :
  g < 4294967296 ∧ g * next ≤ r * 4294967296 + u0 := by
 have h1 := h.num
 have h2 : g < 4294967296 := by
  rcases Int.lt_or_le g 4294967296 with h3 | h3
  · exact h3
  · have := Int.mul_le_mul_of_nonneg_right h3 (Int.le_of_lt t0)
    omega
 refine ⟨h2, ?_⟩
 have h3 : g * next ≤ 4294967296 * 4294967296 := Int.mul_le_mul (by omega) (by omega) n0 (by omega)
 omega
theorem lead_le {p vl ul top next u0 u1 u2 : Int} (hp : 0 < p) (vl1 : vl < p) (n1 : next < 4294967296) (u00 : 0 ≤ ul) (a0 : 0 ≤ u0) (b0 : 0 ≤ u1)
  (hB : ul + p * (u0 + 4294967296 * (u1 + 4294967296 * u2)) < 4294967296 * (vl + p * (next + 4294967296 * top))) : u2 ≤ top := by
 rcases Int.lt_or_le top u2 with h | h
 · exfalso
   have h1 : p * (4294967296 * 4294967296 * (top + 1)) ≤ p * (u0 + 4294967296 * (u1 + 4294967296 * u2)) := Int.mul_le_mul_of_nonneg_left (by omega) (by omega)
   have h2 : p * (next + 4294967296 * top) + p ≤ p * (4294967296 * (top + 1)) := by
    have q : p * (next + 4294967296 * top + 1) ≤ p * (4294967296 * (top + 1)) := Int.mul_le_mul_of_nonneg_left (by omega) (by omega)
    rw [Int.mul_add, Int.mul_one] at q
    exact q
   have h3 : p * (4294967296 * 4294967296 * (top + 1)) = 4294967296 * (p * (4294967296 * (top + 1))) := by grind
   omega
 · exact h
theorem msub_step {L v : List Int} {j i : Nat} {R g cc bo z x s d : Int} (h : mv L = R - g * (PB j * mv (v.take i)) + PB (j + i) * (cc + bo)) (hz : L[j + i]? = some z) (hx : v[i]? = some x) (hs : s = cc + g * x)
  (hd : d % 4294967296 - 4294967296 * (d / 9223372036854775808) = z - s % 4294967296 - bo) :
  mv (L.set (j + i) (d % 4294967296)) = R - g * (PB j * mv (v.take (i + 1))) + PB (j + (i + 1)) * (s / 4294967296 + d / 9223372036854775808) := by
 rw [mv_set hz, mv_take_succ hx, ← Nat.add_assoc, PB_succ, h, PB_add]
 have e : s = s % 4294967296 + 4294967296 * (s / 4294967296) := by omega
 obtain ⟨S, hS⟩ : ∃ S, S = s % 4294967296 := ⟨_, rfl⟩
 obtain ⟨T, hT⟩ : ∃ T, T = s / 4294967296 := ⟨_, rfl⟩
 obtain ⟨D, hD⟩ : ∃ D, D = d % 4294967296 := ⟨_, rfl⟩
 obtain ⟨E, hE⟩ : ∃ E, E = d / 9223372036854775808 := ⟨_, rfl⟩
 rw [← hS, ← hT] at e
 rw [← hD, ← hE, ← hS] at hd
 rw [← hT, ← hD, ← hE]
 have e1 : D = z - S - bo + 4294967296 * E := by omega
 have e2 : cc = S + 4294967296 * T - g * x := by omega
 rw [e1, e2]
 grind
theorem msub_top {L v : List Int} {j n : Nat} {R g cc bo z d V lo U : Int} (hL : Lim L) (hv : Lim v) (hn : v.length = n) (hV : V = mv v) (h : mv L = R - g * (PB j * V) + PB (j + n) * (cc + bo)) (hz : L[j + n]? = some z) (hup : mv (L.drop (j + n + 1)) = 0)
  (hR : R = lo + PB j * U) (lo0 : 0 ≤ lo) (lo1 : lo < PB j) (d1 : -V ≤ U - g * V) (d2 : U - g * V < V) :
  (z - cc - bo = 0 ∧ 0 ≤ U - g * V) ∨ (z - cc - bo = -1 ∧ U - g * V < 0) := by
 have hlt : j + n < L.length := (List.getElem?_eq_some_iff.1 hz).1
 have a1 := mv_split L (j + n) (by omega)
 have a2 := mv_drop_succ hz
 rw [hup] at a2
 have b1 := mv_lt (hL.take (j + n))
 have b2 := mv_nonneg (hL.take (j + n))
 rw [List.length_take, Nat.min_eq_left (by omega)] at b1
 have c1 := mv_lt hv
 rw [hn, ← hV] at c1
 have pj := PB_pos j
 have pn := PB_pos n
 obtain ⟨X, hX⟩ : ∃ X, X = U - g * V := ⟨_, rfl⟩
 obtain ⟨D, hD⟩ : ∃ D, D = z - cc - bo := ⟨_, rfl⟩
 obtain ⟨M, hM⟩ : ∃ M, M = mv (L.take (j + n)) := ⟨_, rfl⟩
 rw [← hX] at d1 d2
 rw [← hM] at a1 b1 b2
 rw [← hD, ← hX]
 have key : M = lo + PB j * X - PB (j + n) * D := by
  have e1 : mv (L.drop (j + n)) = z := by omega
  rw [e1] at a1
  have e2 : PB j * X = PB j * U - g * (PB j * V) := by rw [hX]; grind
  have e3 : PB (j + n) * D = PB (j + n) * z - PB (j + n) * (cc + bo) := by rw [hD]; grind
  omega
 rw [PB_add] at key b1
 have f1 : PB j * X ≤ PB j * (V - 1) := Int.mul_le_mul_of_nonneg_left (by omega) (by omega)
 have f2 : PB j * V ≤ PB j * PB n := Int.mul_le_mul_of_nonneg_left (by omega) (by omega)
 have f3 : PB j * (V - 1) = PB j * V - PB j := by grind
 have f4 : PB j * (-V) ≤ PB j * X := Int.mul_le_mul_of_nonneg_left (by omega) (by omega)
 have f5 : PB j * (-V) = -(PB j * V) := by grind
 have q := PB_pos (j + n)
 rw [PB_add] at q
 have g1 : D ≤ 0 := by
  rcases Int.lt_or_le 0 D with hh | hh
  · have := Int.mul_le_mul_of_nonneg_left (show 1 ≤ D by omega) (Int.le_of_lt q)
    omega
  · exact hh
 have g2 : -1 ≤ D := by
  rcases Int.lt_or_le D (-1) with hh | hh
  · have := Int.mul_le_mul_of_nonneg_left (show D ≤ -2 by omega) (Int.le_of_lt q)
    omega
  · exact hh
 have hD' : D = 0 ∨ D = -1 := by omega
 rcases hD' with hh | hh
 · left
   refine ⟨hh, ?_⟩
   rw [hh] at key
   rcases Int.lt_or_le X 0 with h0 | h0
   · have := Int.mul_le_mul_of_nonneg_left (show X ≤ -1 by omega) (Int.le_of_lt pj)
     omega
   · exact h0
 · right
   refine ⟨hh, ?_⟩
   rw [hh] at key
   rcases Int.lt_or_le X 0 with h0 | h0
   · exact h0
   · have := Int.mul_nonneg (Int.le_of_lt pj) h0
     omega
theorem addb_step {L v : List Int} {j i : Nat} {R c z x s : Int} (h : mv L + PB (j + i) * c = R + PB j * mv (v.take i)) (hz : L[j + i]? = some z) (hx : v[i]? = some x) (hs : s = c + (z + x)) :
  mv (L.set (j + i) (s % 4294967296)) + PB (j + (i + 1)) * (s / 4294967296) = R + PB j * mv (v.take (i + 1)) := by
 rw [mv_set hz, mv_take_succ hx, ← Nat.add_assoc, PB_succ]
 have e : s = s % 4294967296 + 4294967296 * (s / 4294967296) := by omega
 obtain ⟨S, hS⟩ : ∃ S, S = s % 4294967296 := ⟨_, rfl⟩
 obtain ⟨T, hT⟩ : ∃ T, T = s / 4294967296 := ⟨_, rfl⟩
 rw [← hS, ← hT] at e
 rw [← hS, ← hT]
 have e1 : S = c + z + x - 4294967296 * T := by omega
 have e2 : PB (j + i) = PB j * PB i := PB_add _ _
 rw [e2] at h ⊢
 rw [e1]
 grind
theorem addb_done {L v : List Int} {j n : Nat} {R c V X : Int} (hL : Lim L) (hv : Lim v) (hn : v.length = n) (hV : V = mv v) (hz : L[j + n]? = some 4294967295) (hup : mv (L.drop (j + n + 1)) = 0)
  (h : mv L + PB (j + n) * c = X + PB (j + n + 1)) (c0 : 0 ≤ c) (c1 : c ≤ 1) (x0 : 0 ≤ X) :
  c = 1 ∧ mv (L.set (j + n) 0) = X := by
 have hlt : j + n < L.length := (List.getElem?_eq_some_iff.1 hz).1
 have a1 := mv_split L (j + n) (by omega)
 have a2 := mv_drop_succ hz
 rw [hup] at a2
 have b1 := mv_lt (hL.take (j + n))
 rw [List.length_take, Nat.min_eq_left (by omega)] at b1
 rw [PB_succ] at h
 have e1 : mv (L.drop (j + n)) = 4294967295 := by omega
 rw [e1] at a1
 have hc : c = 0 ∨ c = 1 := by omega
 rcases hc with rfl | rfl
 · exfalso; omega
 · refine ⟨rfl, ?_⟩
   rw [mv_set hz]
   omega
theorem piece_top {L : List Int} {k : Nat} {z W : Int} (hL : Lim L) (hz : L[k]? = some z) (h : mv L < PB (k + 1)) : mv (L.drop (k + 1)) = 0 := by
 have hlt : k < L.length := (List.getElem?_eq_some_iff.1 hz).1
 have a1 := mv_split L (k + 1) (by omega)
 have b2 := mv_nonneg (hL.take (k + 1))
 have b3 := mv_nonneg (hL.drop (k + 1))
 have q := PB_pos (k + 1)
 rcases Int.lt_or_le 0 (mv (L.drop (k + 1))) with hh | hh
 · have := Int.mul_le_mul_of_nonneg_left (show 1 ≤ mv (L.drop (k + 1)) by omega) (Int.le_of_lt q)
   omega
 · omega
end Go.Proofs.YtgejdaincnclpaaGreat
namespace Go.Proofs.YtgejdaincnclpaaGreat
open Go Go.RowKit
set_option linter.unusedVariables false
theorem norm_shift {t : Int} (t0 : 0 < t) (t1 : t < 4294967296) : ∃ S : Nat, S ≤ 31 ∧ 2147483648 ≤ t * 2 ^ S ∧ t * 2 ^ S < 4294967296 ∧ ∀ s, s < S → t * 2 ^ s < 2147483648 := by
 have key : ∀ (f : Nat) (t : Int), 0 < t → t < 4294967296 → 2147483648 ≤ t * 2 ^ f → ∃ S : Nat, S ≤ f ∧ 2147483648 ≤ t * 2 ^ S ∧ t * 2 ^ S < 4294967296 ∧ ∀ s, s < S → t * 2 ^ s < 2147483648 := by
  intro f
  induction f with
  | zero => intro t h0 h1 h2; exact ⟨0, Nat.le_refl _, h2, by simpa using h1, fun s hs => by omega⟩
  | succ f ih =>
   intro t h0 h1 h2
   rcases Int.lt_or_le t 2147483648 with h | h
   · obtain ⟨S, a, b, c, d⟩ := ih (2 * t) (by omega) (by omega) (by rw [Int.pow_succ] at h2; grind)
     refine ⟨S + 1, by omega, by rw [Int.pow_succ]; grind, by rw [Int.pow_succ]; grind, fun s hs => ?_⟩
     cases s with
     | zero => simpa using h
     | succ s => have := d s (by omega); rw [Int.pow_succ]; grind
   · exact ⟨0, by omega, by simpa using h, by simpa using h1, fun s hs => by omega⟩
 have e31 : (2 : Int) ^ 31 = 2147483648 := by decide
 obtain ⟨S, a, b, c, d⟩ := key 31 t t0 t1 (by rw [e31]; omega)
 exact ⟨S, a, b, c, d⟩
theorem top_bit {z : Int} (z0 : 0 ≤ z) (z1 : z < 4294967296) : bits .and .u32 z 2147483648 = if z < 2147483648 then 0 else 2147483648 := by
 obtain ⟨a, rfl⟩ := Int.eq_ofNat_of_zero_le z0
 have h := (bits_nat .u32 32 (by decide) (fun n h₀ h₁ => by rw [IntKind.wrap_u32]; omega) a 2147483648 (by omega) (by decide)).1
 have e : ((2147483648 : Nat) : Int) = 2147483648 := rfl
 rw [e] at h
 rw [h]
 have h2 : a &&& 2147483648 = if a < 2147483648 then 0 else 2147483648 := by
  have e : (2147483648 : Nat) = 2 ^ 31 := by decide
  split
  · apply Nat.eq_of_testBit_eq
    intro i
    rw [e, Nat.testBit_and, Nat.testBit_two_pow, Nat.zero_testBit]
    by_cases hi : 31 = i
    · subst hi
      rw [Nat.testBit_lt_two_pow (by omega)]; rfl
    · simp [hi]
  · apply Nat.eq_of_testBit_eq
    intro i
    rw [e, Nat.testBit_and, Nat.testBit_two_pow]
    by_cases hi : 31 = i
    · subst hi
      rw [Nat.testBit_eq_decide_div_mod_eq]
      have : a / 2 ^ 31 = 1 := by omega
      simp [this]
    · simp [hi]
 rw [h2]
 split <;> split <;> omega
theorem top_lt {L p t P : Int} (b0 : 0 ≤ L) (b1 : L < p) (hP : 0 < P) (h : (t + 1) * P ≤ 4294967296) : L * P + p * (t * P) < 4294967296 * p := by
 have d1 : L * P ≤ (p - 1) * P := Int.mul_le_mul_of_nonneg_right (by omega) (by omega)
 have d3 : p * ((t + 1) * P) ≤ p * 4294967296 := Int.mul_le_mul_of_nonneg_left h (by omega)
 have d4 : p * ((t + 1) * P) = p * (t * P) + p * P := by grind
 have d5 : (p - 1) * P = p * P - P := by grind
 omega
theorem div_v {y n : Nat} {S : Nat} {t : Int} (hn : (canN y).length = n + 2) (ht : (canN y)[n + 1]? = some t) (hS1 : 2147483648 ≤ t * 2 ^ S) (hS2 : t * 2 ^ S < 4294967296) :
  ∃ V : Nat, ((V : Int) = (y : Int) * 2 ^ S) ∧ (canN V).length = n + 2 ∧ (∀ top, (canN V)[n + 1]? = some top → 2147483648 ≤ top) ∧ 2147483648 * PB (n + 1) ≤ V := by
 have hP : 0 < (2 : Int) ^ S := Int.pow_pos (by decide)
 obtain ⟨P, hPe⟩ : ∃ P : Int, P = 2 ^ S := ⟨_, rfl⟩
 rw [← hPe] at hP hS1 hS2
 have a1 := mv_split (canN y) (n + 1) (by omega)
 have a2 := mv_drop_succ ht
 rw [List.drop_of_length_le (show (canN y).length ≤ n + 1 + 1 by omega), show mv ([] : List Int) = 0 from rfl, Int.mul_zero, Int.add_zero] at a2
 have a4 := mv_canN y
 have b0 := mv_nonneg ((canN_lim y).take (n + 1))
 have b1 := mv_lt ((canN_lim y).take (n + 1))
 rw [List.length_take, Nat.min_eq_left (by omega)] at b1
 have q := PB_pos (n + 1)
 have e1 : (y : Int) = mv ((canN y).take (n + 1)) + PB (n + 1) * t := by rw [← a4, a1, a2]
 obtain ⟨L, hL⟩ : ∃ L, L = mv ((canN y).take (n + 1)) := ⟨_, rfl⟩
 rw [← hL] at e1 b0 b1
 have c1 : (y : Int) * P = L * P + PB (n + 1) * (t * P) := by rw [e1]; grind
 have c2 : 0 ≤ L * P := Int.mul_nonneg b0 (by omega)
 have c3 : PB (n + 1) * 2147483648 ≤ PB (n + 1) * (t * P) := Int.mul_le_mul_of_nonneg_left hS1 (by omega)
 have c4 : (y : Int) * P < PB (n + 2) := by
  have d2 : (t + 1) * P ≤ 4294967296 := by
   have : (t * P) % P = 0 := Int.mul_emod_left _ _
   obtain ⟨Q, hQ, hB⟩ : ∃ Q : Int, 1 ≤ Q ∧ 4294967296 = P * Q := by
    have hs : S ≤ 31 := by
     rcases Nat.lt_or_ge 31 S with h | h
     · exfalso
       have h1 : (2 : Int) ^ 32 ≤ 2 ^ S := by
        have : (2 : Nat) ^ 32 ≤ 2 ^ S := Nat.pow_le_pow_right (by omega) (by omega)
        have e : ((2 ^ S : Nat) : Int) = (2 : Int) ^ S := by rw [Int.natCast_pow]; rfl
        have e' : ((2 ^ 32 : Nat) : Int) = (2 : Int) ^ 32 := by rw [Int.natCast_pow]; rfl
        omega
       rw [← hPe] at h1
       have ht1 : 1 ≤ t := by
        rcases Int.lt_or_le t 1 with g | g
        · have : t * P ≤ 0 := Int.mul_nonpos_of_nonpos_of_nonneg (by omega) (by omega)
          omega
        · exact g
       have := Int.mul_le_mul_of_nonneg_right ht1 (show 0 ≤ P by omega)
       have e2 : (2 : Int) ^ 32 = 4294967296 := by decide
       omega
     · exact h
    rw [hPe]; exact pow2_split hs
   have h3 : t < Q := by
    rcases Int.lt_or_le t Q with g | g
    · exact g
    · have := Int.mul_le_mul_of_nonneg_right g (show 0 ≤ P by omega)
      rw [Int.mul_comm Q P, ← hB] at this
      omega
   have := Int.mul_le_mul_of_nonneg_right (show t + 1 ≤ Q by omega) (show 0 ≤ P by omega)
   rw [Int.mul_comm Q P, ← hB] at this
   exact this
  rw [c1, show PB (n + 2) = 4294967296 * PB (n + 1) from PB_succ (n + 1)]
  exact top_lt b0 b1 hP d2
 obtain ⟨V, hV⟩ := Int.eq_ofNat_of_zero_le (show 0 ≤ (y : Int) * P by omega)
 refine ⟨V, by rw [← hPe]; omega, ?_, ?_, by omega⟩
 · have h1 : (canN V).length ≤ n + 2 := canN_len.2 (by omega)
   have h2 : ¬ (canN V).length ≤ n + 1 := fun h => by have := canN_len.1 h; omega
   omega
 · intro top htop
   have h1 : (canN V).length ≤ n + 2 := canN_len.2 (by omega)
   have hlt := (List.getElem?_eq_some_iff.1 htop).1
   have a1 := mv_split (canN V) (n + 1) (by omega)
   have a2 := mv_drop_succ htop
   rw [List.drop_of_length_le (show (canN V).length ≤ n + 1 + 1 by omega), show mv ([] : List Int) = 0 from rfl, Int.mul_zero, Int.add_zero] at a2
   have b1 := mv_lt ((canN_lim V).take (n + 1))
   rw [List.length_take, Nat.min_eq_left (by omega)] at b1
   have a4 := mv_canN V
   rcases Int.lt_or_le top 2147483648 with g | g
   · exfalso
     rw [a2] at a1
     have := Int.mul_le_mul_of_nonneg_left (show top ≤ 2147483647 by omega) (Int.le_of_lt q)
     omega
   · exact g
theorem div_u {x y la : Nat} {S n : Nat} {V : Int} (hla : (canN x).length = la) (hS : S ≤ 31) (hn : n + 2 ≤ la) (hV : 2147483648 * PB (n + 1) ≤ V) :
  ∃ X : Nat, ((X : Int) = (x : Int) * 2 ^ S) ∧ ((canN X ++ [0, 0]).take (la + 1)).length = la + 1 ∧ mv ((canN X ++ [0, 0]).take (la + 1)) = X ∧ (X : Int) < PB (la + 1 - (n + 2)) * V ∧ la ≤ (canN X).length ∧ (canN X).length ≤ la + 1 := by
 obtain ⟨p0, p1⟩ := pow2_bd hS
 obtain ⟨P, hPe⟩ : ∃ P : Int, P = 2 ^ S := ⟨_, rfl⟩
 rw [← hPe] at p0 p1 ⊢
 have hx := (@canN_len x la).1 (by omega)
 obtain ⟨X, hX⟩ := Int.eq_ofNat_of_zero_le (show 0 ≤ (x : Int) * P from Int.mul_nonneg (by omega) (by omega))
 have q := PB_pos la
 have h1 : (x : Int) * P ≤ (PB la - 1) * P := Int.mul_le_mul_of_nonneg_right (by omega) (by omega)
 have h2 : (PB la - 1) * P = PB la * P - P := by grind
 have h3 : PB la * P ≤ PB la * 2147483648 := Int.mul_le_mul_of_nonneg_left p1 (by omega)
 have h4 := PB_succ la
 have hl1 : (canN X).length ≤ la + 1 := canN_len.2 (by omega)
 have hl2 : la ≤ (canN X).length := by
  have hxX : x ≤ X := by
   have := Int.mul_le_mul_of_nonneg_left p0 (show (0 : Int) ≤ (x : Int) by omega)
   omega
  have := canN_mono hxX
  omega
 have hm : mv (canN X ++ [0, 0]) = X := by rw [mv_append, mv_canN, mv_two]; omega
 refine ⟨X, hX.symm, by rw [List.length_take, List.length_append]; simp; omega, ?_, ?_, hl2, hl1⟩
 · rw [mv_take_of_zero, hm]
   intro k z hz hk
   rw [List.getElem?_append_right (by omega)] at hz
   have hk2 := (List.getElem?_eq_some_iff.1 hz).1
   simp at hk2
   have : k - (canN X).length = 0 ∨ k - (canN X).length = 1 := by omega
   rcases this with e | e
   · rw [e] at hz; simpa using hz.symm
   · rw [e] at hz; simpa using hz.symm
 · have e : PB la = PB (la + 1 - (n + 2)) * PB (n + 1) := by rw [← PB_add]; congr 1; omega
   have := Int.mul_le_mul_of_nonneg_left hV (Int.le_of_lt (PB_pos (la + 1 - (n + 2))))
   have e2 : PB (la + 1 - (n + 2)) * (2147483648 * PB (n + 1)) = PB la * 2147483648 := by rw [e]; grind
   omega
theorem window3 {L : List Int} {j m : Nat} {u0 u1 u2 : Int} (h0 : L[j + m]? = some u0) (h1 : L[j + m + 1]? = some u1) (h2 : L[j + m + 2]? = some u2) (hup : mv (L.drop (j + m + 3)) = 0) :
  mv (L.drop j) = mv ((L.drop j).take m) + PB m * (u0 + 4294967296 * (u1 + 4294967296 * u2)) := by
 have hlt := (List.getElem?_eq_some_iff.1 h2).1
 have a1 := mv_split (L.drop j) m (by rw [List.length_drop]; omega)
 rw [List.drop_drop] at a1
 have a2 := mv_drop_succ h0
 have a3 := mv_drop_succ h1
 have a4 := mv_drop_succ h2
 rw [hup, Int.mul_zero, Int.add_zero] at a4
 rw [a1, a2, a3, a4]
theorem window2 {V : List Int} {m : Nat} {next top : Int} (hl : V.length = m + 2) (h0 : V[m]? = some next) (h1 : V[m + 1]? = some top) :
  mv V = mv (V.take m) + PB m * (next + 4294967296 * top) := by
 have a1 := mv_split V m (by omega)
 have a2 := mv_drop_succ h0
 have a3 := mv_drop_succ h1
 rw [List.drop_of_length_le (show V.length ≤ m + 1 + 1 by omega), show mv ([] : List Int) = 0 from rfl, Int.mul_zero, Int.add_zero] at a3
 rw [a1, a2, a3]
theorem round_facts {ul vl : List Int} {j m : Nat} {V : Int} (hul : Lim ul) (hv : Lim vl) (hvl : vl.length = m + 2) (hV : mv vl = V) (htop : ∀ top, vl[m + 1]? = some top → 2147483648 ≤ top) (hlen : j + m + 2 < ul.length) (hR : mv ul < PB (j + 1) * V) :
  ∃ u0 u1 u2 top next p lo wl wu, ul[j + m]? = some u0 ∧ ul[j + m + 1]? = some u1 ∧ ul[j + m + 2]? = some u2 ∧ vl[m]? = some next ∧ vl[m + 1]? = some top ∧
   0 ≤ u0 ∧ u0 < 4294967296 ∧ 0 ≤ u1 ∧ u1 < 4294967296 ∧ 0 ≤ u2 ∧ u2 < 4294967296 ∧ 0 ≤ next ∧ next < 4294967296 ∧ 2147483648 ≤ top ∧ top < 4294967296 ∧ 0 < p ∧ 0 ≤ wl ∧ wl < p ∧ 0 ≤ wu ∧ wu < p ∧
   V = wl + p * (next + 4294967296 * top) ∧ mv (ul.drop j) = wu + p * (u0 + 4294967296 * (u1 + 4294967296 * u2)) ∧
   wu + p * (u0 + 4294967296 * (u1 + 4294967296 * u2)) < 4294967296 * (wl + p * (next + 4294967296 * top)) ∧
   mv ul = lo + PB j * mv (ul.drop j) ∧ 0 ≤ lo ∧ lo < PB j ∧ mv (ul.drop (j + m + 3)) = 0 := by
 have h0 : ul[j + m]? = some (ul[j + m]'(by omega)) := List.getElem?_eq_getElem (by omega)
 have h1 : ul[j + m + 1]? = some (ul[j + m + 1]'(by omega)) := List.getElem?_eq_getElem (by omega)
 have h2 : ul[j + m + 2]? = some (ul[j + m + 2]'(by omega)) := List.getElem?_eq_getElem (by omega)
 have h3 : vl[m]? = some (vl[m]'(by omega)) := List.getElem?_eq_getElem (by omega)
 have h4 : vl[m + 1]? = some (vl[m + 1]'(by omega)) := List.getElem?_eq_getElem (by omega)
 have pj := PB_pos j
 have hVlt := mv_lt hv
 rw [hvl, hV] at hVlt
 have hup : mv (ul.drop (j + m + 3)) = 0 := by
  refine piece_top (z := ul[j + m + 2]'(by omega)) (W := 0) hul h2 ?_
  have e : PB (j + m + 2 + 1) = PB (j + 1) * PB (m + 2) := by rw [← PB_add]; congr 1; omega
  rw [e]
  have := Int.mul_le_mul_of_nonneg_left (show V ≤ PB (m + 2) by omega) (Int.le_of_lt (PB_pos (j + 1)))
  omega
 have a1 := mv_split ul j (by omega)
 have b1 := mv_lt (hul.take j)
 rw [List.length_take, Nat.min_eq_left (by omega)] at b1
 have b0 := mv_nonneg (hul.take j)
 have w3 := window3 h0 h1 h2 hup
 have w2 := window2 hvl h3 h4
 have c1 := mv_lt ((hul.drop j).take m)
 rw [List.length_take, List.length_drop, Nat.min_eq_left (by omega)] at c1
 have c2 := mv_lt (hv.take m)
 rw [List.length_take, Nat.min_eq_left (by omega)] at c2
 obtain ⟨U, hU⟩ : ∃ U, U = mv (ul.drop j) := ⟨_, rfl⟩
 have hUB : U < 4294967296 * V := by
  rcases Int.lt_or_le U (4294967296 * V) with g | g
  · exact g
  · exfalso
    have := Int.mul_le_mul_of_nonneg_left g (Int.le_of_lt pj)
    rw [← hU] at a1
    rw [PB_succ] at hR
    have e : PB j * (4294967296 * V) = 4294967296 * PB j * V := by grind
    omega
 rw [hV] at w2
 refine ⟨_, _, _, _, _, PB m, mv (ul.take j), mv (vl.take m), mv ((ul.drop j).take m), h0, h1, h2, h3, h4, (hul.get h0).1, (hul.get h0).2, (hul.get h1).1, (hul.get h1).2, (hul.get h2).1, (hul.get h2).2, (hv.get h3).1, (hv.get h3).2, htop _ h4, (hv.get h4).2, PB_pos m, mv_nonneg (hv.take m), c2, mv_nonneg ((hul.drop j).take m), c1, w2, w3, ?_, a1, b0, b1, hup⟩
 rw [← w3, ← w2, ← hU]
 exact hUB
theorem top_zero {L : List Int} {j n : Nat} {R g cc bo z V lo U : Int} (h : mv L = R - g * (PB j * V) + PB (j + n) * (cc + bo)) (hz : L[j + n]? = some z) (hR : R = lo + PB j * U) (lo1 : lo < PB j) (d2 : U - g * V < V) (e : z - cc - bo = 0) :
  mv (L.set (j + n) 0) = R - g * (PB j * V) ∧ mv (L.set (j + n) 0) < PB j * V := by
 have h1 := mv_set hz 0
 have e1 : mv (L.set (j + n) 0) = R - g * (PB j * V) := by
  rw [h1, h, show cc + bo = z by omega]
  grind
 refine ⟨e1, ?_⟩
 rw [e1, hR]
 have q := PB_pos j
 have h2 : PB j * (U - g * V) ≤ PB j * (V - 1) := Int.mul_le_mul_of_nonneg_left (by omega) (by omega)
 have h3 : PB j * (U - g * V) = PB j * U - g * (PB j * V) := by grind
 have h4 : PB j * (V - 1) = PB j * V - PB j := by grind
 omega
theorem top_neg {L : List Int} {j n : Nat} {R g cc bo z V : Int} (h : mv L = R - g * (PB j * V) + PB (j + n) * (cc + bo)) (hz : L[j + n]? = some z) (e : z - cc - bo = -1) :
  mv (L.set (j + n) 4294967295) + PB j * V = (R - (g - 1) * (PB j * V)) + PB (j + n + 1) := by
 rw [mv_set hz, h, PB_succ, show z = cc + bo - 1 by omega]
 grind
theorem back_lim {R g V lo U : Int} {j : Nat} (hR : R = lo + PB j * U) (lo0 : 0 ≤ lo) (lo1 : lo < PB j) (d1 : -V ≤ U - g * V) (d2 : U - g * V < 0) : 0 ≤ R - (g - 1) * (PB j * V) ∧ R - (g - 1) * (PB j * V) < PB j * V := by
 have q := PB_pos j
 have h2 : PB j * (U - g * V) ≤ PB j * (-1) := Int.mul_le_mul_of_nonneg_left (by omega) (by omega)
 have h3 : PB j * (-V) ≤ PB j * (U - g * V) := Int.mul_le_mul_of_nonneg_left (by omega) (by omega)
 have h4 : PB j * (U - g * V) = PB j * U - g * (PB j * V) := by grind
 have h5 : (g - 1) * (PB j * V) = g * (PB j * V) - PB j * V := by grind
 have h6 : PB j * (-V) = -(PB j * V) := by grind
 omega
theorem quot_step {ul L ql : List Int} {j : Nat} {X g V : Int} (h : X = mv ul + mv ql * V) (hq : ql[j]? = some 0) (hL : mv L = mv ul - g * (PB j * V)) : X = mv L + mv (ql.set j g) * V := by
 rw [h, hL, mv_set hq]
 grind
theorem quot_end {ul ql : List Int} {x y X V S : Nat} (hu : Lim ul) (hql : Lim ql) (hX : (X : Int) = mv ul + mv ql * (V : Int)) (hlt : mv ul < PB 0 * (V : Int)) (eX : (X : Int) = (x : Int) * 2 ^ S) (eV : (V : Int) = (y : Int) * 2 ^ S) (y0 : 0 < y) :
  (mv ql).toNat = x / y ∧ mv ul / 2 ^ S = ((x % y : Nat) : Int) := by
 have P0 : (0 : Int) < 2 ^ S := Int.pow_pos (by decide)
 obtain ⟨P, hP⟩ : ∃ P : Int, P = 2 ^ S := ⟨_, rfl⟩
 rw [← hP] at P0 eX eV ⊢
 have u0 := mv_nonneg hu
 have q0 := mv_nonneg hql
 rw [PB_zero, Int.one_mul] at hlt
 obtain ⟨q, hq⟩ := Int.eq_ofNat_of_zero_le q0
 have V0 : (0 : Int) < V := by omega
 rw [hq] at hX
 have hd := Nat.div_add_mod x y
 have e1 : (x : Int) = (y : Int) * ((x / y : Nat) : Int) + ((x % y : Nat) : Int) := by
  rw [← Int.natCast_mul, ← Int.natCast_add, hd]
 have hm : x % y < y := Nat.mod_lt _ y0
 generalize x / y = k at e1 ⊢
 generalize x % y = r at e1 hm ⊢
 have e2 : mv ul + (q : Int) * V = (k : Int) * V + (r : Int) * P := by rw [← hX, eX, e1, eV]; grind
 have r1 : (r : Int) * P < V := by rw [eV]; exact Int.mul_lt_mul_of_pos_right (by omega) P0
 have r0 : 0 ≤ (r : Int) * P := Int.mul_nonneg (by omega) (by omega)
 have hqk : (q : Int) = k := by
  rcases Int.lt_trichotomy (q : Int) (k : Int) with g | g | g
  · have := Int.mul_le_mul_of_nonneg_right (show (q : Int) + 1 ≤ k by omega) (Int.le_of_lt V0)
    rw [Int.add_mul, Int.one_mul] at this
    omega
  · exact g
  · have := Int.mul_le_mul_of_nonneg_right (show (k : Int) + 1 ≤ q by omega) (Int.le_of_lt V0)
    rw [Int.add_mul, Int.one_mul] at this
    omega
 refine ⟨by rw [hq]; omega, ?_⟩
 rw [hqk] at e2
 rw [show mv ul = (r : Int) * P by omega]
 exact Int.mul_ediv_cancel _ (by omega)
theorem drop_set_same {L M : List Int} {k : Nat} (v : Int) (h : L.drop k = M.drop k) : (L.set k v).drop (k + 1) = M.drop (k + 1) := by
 rw [List.drop_set_of_lt (by omega), ← List.drop_drop, h, List.drop_drop]
theorem get_of_drop {L M : List Int} {k : Nat} (h : L.drop k = M.drop k) : L[k]? = M[k]? := by
 have h1 : (L.drop k)[0]? = (M.drop k)[0]? := by rw [h]
 rw [List.getElem?_drop, List.getElem?_drop] at h1
 exact h1
theorem mv_drop_of {L M : List Int} {k i : Nat} (h : L.drop k = M.drop k) (hi : k ≤ i) : mv (L.drop i) = mv (M.drop i) := by
 have e : i = k + (i - k) := by omega
 rw [e, ← List.drop_drop, ← List.drop_drop, h]
end Go.Proofs.YtgejdaincnclpaaGreat
