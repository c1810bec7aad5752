/- The contracts of pinballref01.Plus, Minus, Times. -/
import Derived.Test.YtkoejgpnlncgaaaBigMul
namespace Go.Proofs.Ytkoejgpnlncgaaa
open Go Go.RowKit
set_option linter.unusedVariables false
theorem isZ_open {w : World} {v : Value} {n : Nat} {z : Int} (h : IsZ w v n z) : ∃ neg A c l, v = .agg #[.bool neg, .slice A l.length c] ∧ l.length ≤ c ∧ Lim l ∧ l.length ≤ n ∧ LAt w A l ∧ z = sv neg (z.natAbs : Int) ∧ (mv l).toNat = z.natAbs ∧ (canN z.natAbs).length ≤ n := by
  obtain ⟨neg, A, c, l, h1, h2, h3, h4, h5, h6⟩ := h
  have h7 := (sv_neg_mk neg l h3).2
  have h8 := canN_len_le h3
  have h0 := mv_nonneg h3
  refine ⟨neg, A, c, l, h1, h2, h3, h4, h5, ?_, by rw [h6, h7], by rw [h6, h7]; omega⟩
  rw [h6, h7]
  rw [Int.toNat_of_nonneg h0]
theorem sv_add {p : Bool} {a b x y : Int} (ha : a = sv p x) (hb : b = sv p y) : a + b = sv p (x + y) := by rw [ha, hb]; cases p <;> simp [sv] <;> omega
theorem sv_sub {p q : Bool} {a b x y : Int} (hpq : p ≠ q) (ha : a = sv p x) (hb : b = sv q y) : a + b = sv p (x - y) ∧ a + b = sv q (y - x) := by
  cases p <;> cases q <;> simp_all [sv] <;> omega
theorem sv_mul {p q : Bool} {a b x y : Int} (ha : a = sv p x) (hb : b = sv q y) : a * b = sv (p != q) (x * y) := by
  cases p <;> cases q <;> simp_all [sv, Int.neg_mul, Int.mul_neg]
set_option maxRecDepth 100000 in
set_option maxHeartbeats 4000000 in
theorem plus_any (n : Nat) (u v : Value) (a b : Int) (w : World) (ha : IsZ w u n a) (hb : IsZ w v n b) (hn : n ≤ 400000) :
    Calls Try.prog 88 #[u, v] w (ZOut (a + b) w) := by
  obtain ⟨p, A, c, l, rfl, hc, hL, hl, hAt, ea, ma, ca⟩ := isZ_open ha
  obtain ⟨q, A', c', l', rfl, hc', hL', hl', hAt', eb, mb, cb⟩ := isZ_open hb
  have hma := fun w' (h : Below w.heap.size w w') => mag_any A l c w' hL (hAt.below h) hc (by omega)
  have hmb := fun w' (h : Below w.heap.size w w') => mag_any A' l' c' w' hL' (hAt'.below h) hc' (by omega)
  rw [ma] at hma
  rw [mb] at hmb
  obtain ⟨x, hx⟩ : ∃ x, x = a.natAbs := ⟨_, rfl⟩
  obtain ⟨y, hy⟩ : ∃ y, y = b.natAbs := ⟨_, rfl⟩
  rw [← hx] at hma ca ea
  rw [← hy] at hmb cb eb
  obtain ⟨Z, hZ⟩ : ∃ Z, Z = a + b := ⟨_, rfl⟩
  have hsum : p = q → Z = sv p ((x : Int) + y) := fun h => by subst h; rw [hZ]; exact sv_add ea eb
  have hdif : p ≠ q → Z = sv p ((x : Int) - y) ∧ Z = sv q ((y : Int) - x) := fun h => by rw [hZ]; exact sv_sub h ea eb
  rw [← hZ]
  have HMA := Lib.hid hma
  have HMB := Lib.hid hmb
  have HS := Lib.hid hsum
  have HD := Lib.hid hdif
  clear hma hmb hsum hdif ma mb hx hy hZ ea eb hAt hAt' hL hL' ha hb
  have fin : ∀ (w' : World) (g : Nat) (A1 : Option Addr) (c1 : Nat), True := fun _ _ _ _ => trivial
  by_cases hpq : p = q
  · subst hpq
    have hs := HS.out rfl
    have HZ := Lib.hid hs
    have b0 : (p == p) = true := by simp
    clear hs HS HD
    go_enter Try.func88, Try.ntmps88; (try simp only [List.append_eq, List.cons_append, List.nil_append])
    go_wp2_with fail
    -- own blocks: w.heap.size:2, w.heap.size + 1:2, w.heap.size + 1 + 1:2
    have HB0 := Lib.hid (show Below w.heap.size w (((w.alloc (.cells #[.bool p, .slice A l.length c] 65)).alloc (.cells #[.bool p, .slice A' l'.length c'] 65)).alloc (.cells #[.bool false, .slice none 0 0] 65)) by ((with_reducible (repeat (first | exact bR _ _ | refine bS ?_ ?_ _ | refine bA ?_ ?_ _ | refine bD ?_ | refine bT ?_ (by assumption) ?_ | refine bO (by assumption) ?_ ?_))) <;> (first | omega | (simp; done) | (simp <;> omega))))
    (refine pin_wp (N := _) (Nat.le_refl _) (fun w1 hb_w1 hz_w1 => ?_); (try simp at hz_w1); (with_reducible apply cel2 (b := w.heap.size) hb_w1); (focus ((try simp) <;> omega)); (focus omega); (focus (go_simp; try exact rfl)); (focus (go_simp; try exact rfl)); (focus (intro o; go_simp)); intro cc cc fz hl; (with_reducible apply cel2 (b := w.heap.size + 1) hb_w1); (focus ((try simp) <;> omega)); (focus omega); (focus (go_simp; try exact rfl)); (focus (go_simp; try exact rfl)); (focus (intro o; go_simp)); intro cc cc fz hl; (with_reducible apply cel2 (b := w.heap.size + 1 + 1) hb_w1); (focus ((try simp) <;> omega)); (focus omega); (focus (go_simp; try exact rfl)); (focus (go_simp; try exact rfl)); (focus (intro o; go_simp)); intro cc cc fz hl); refine wp_region_float w1.heap.size 8 (Nat.le_refl _) (fun _ => True) trivial Cl.tt (by kernel_rfl) (by simp) ?_
    have HB1 := Lib.hid (HB0.out.trans (hb_w1.mono (by simp <;> omega)))
    refine wpI_start [0, 1] ?_; (iterate 2 (first | (refine wpI_off rfl (by kernel_rfl) rfl (fun K hK => ?_); go_simp; refine hK _ ?_; clear hK K) | ((first | apply wpI_step rfl (by kernel_rfl) rfl | apply wpI_on rfl (by kernel_rfl) rfl); (focus (intro W' hS; have hcS := hS.cells.1; have hfS := hS.cells.2; go_simp; (first | done | exact rfl | exact ⟨rfl, Below.refl _ _⟩ | (go_simp; first | done | exact rfl | exact ⟨rfl, Below.refl _ _⟩)))); intro K hK; go_simp; (try go_bits); refine hK _ ?_; clear hK K))); refine wpI_nil ?_
    refine wpI_start [3, 4] ?_; (iterate 2 (first | (refine wpI_off rfl (by kernel_rfl) rfl (fun K hK => ?_); go_simp; refine hK _ ?_; clear hK K) | ((first | apply wpI_step rfl (by kernel_rfl) rfl | apply wpI_on rfl (by kernel_rfl) rfl); (focus (intro W' hS; have hcS := hS.cells.1; have hfS := hS.cells.2; go_simp; (first | done | exact rfl | exact ⟨rfl, Below.refl _ _⟩ | (go_simp; first | done | exact rfl | exact ⟨rfl, Below.refl _ _⟩)))); intro K hK; go_simp; (try go_bits); refine hK _ ?_; clear hK K))); refine wpI_nil ?_
    apply wpF_call (i := 2) rfl (by kernel_rfl) (by kernel_rfl); intro W hF hS; have hcS := hS.1.cells.1; have hfS := hS.1.cells.2; go_simp; (go_at_call 90; refine (HMA.out _ (HB1.out.trans (hS.1.2.mono (by omega)))).mono ?_; rintro e w4 ⟨hb_w4, A1, c1, rfl, hc1, hA1⟩; refine XPost.mk _ (fun W => LAt W A1 (canN x)) hb_w4 (hA1) (LAt.cl _ _) ?_); clear hb_w4 hcS hfS hS hF
    intro K hK; go_simp; (try go_bits); refine hK _ ?_; clear hK K
    have HC1 := Lib.hid hc1
    clear hA1 hc1
    apply wpF_call (i := 5) rfl (by kernel_rfl) (by kernel_rfl); intro W hF hS; have hcS := hS.1.cells.1; have hfS := hS.1.cells.2; go_simp; (go_at_call 90; refine (HMB.out _ (HB1.out.trans (hS.1.2.mono (by omega)))).mono ?_; rintro e w5 ⟨hb_w5, A2, c2, rfl, hc2, hA2⟩; refine XPost.mk _ (fun W => LAt W A2 (canN y)) hb_w5 (hA2) (LAt.cl _ _) ?_); clear hb_w5 hcS hfS hS hF
    intro K hK; go_simp; (try go_bits); refine hK _ ?_; clear hK K
    have HC2 := Lib.hid hc2
    clear hA2 hc2
    refine wpI_start [6, 7] ?_; (iterate 2 (first | (refine wpI_off rfl (by kernel_rfl) rfl (fun K hK => ?_); go_simp; refine hK _ ?_; clear hK K) | ((first | apply wpI_step rfl (by kernel_rfl) rfl | apply wpI_on rfl (by kernel_rfl) rfl); (focus (intro W' hS; have hcS := hS.cells.1; have hfS := hS.cells.2; go_simp; (first | done | exact rfl | exact ⟨rfl, Below.refl _ _⟩ | (go_simp; first | done | exact rfl | exact ⟨rfl, Below.refl _ _⟩)))); intro K hK; go_simp; (try go_bits); refine hK _ ?_; clear hK K))); refine wpI_nil ?_
    refine wpF_done (by kernel_rfl) ?_
    intro w7 hF_w7 hSG
    have hz_w7 := hSG.1.1
    have hb_w7 := hSG.1.2
    clear hSG
    (with_reducible apply cel2 (b := w.heap.size) hb_w7); (focus ((try simp) <;> omega)); (focus omega); (focus (go_simp; try exact rfl)); (focus (go_simp; try exact rfl)); (focus (intro o; go_simp)); intro cc cc fz hl; (with_reducible apply cel2 (b := w.heap.size + 1) hb_w7); (focus ((try simp) <;> omega)); (focus omega); (focus (go_simp; try exact rfl)); (focus (go_simp; try exact rfl)); (focus (intro o; go_simp)); intro cc cc fz hl; (with_reducible apply cel2 (b := w.heap.size + 1 + 1) hb_w7); (focus ((try simp) <;> omega)); (focus omega); (focus (go_simp; try exact rfl)); (focus (go_simp; try exact rfl)); (focus (intro o; go_simp)); intro cc cc fz hl
    (try simp only [List.drop_succ_cons, List.drop_zero])
    have HB7 := Lib.hid (HB1.out.trans (hb_w7.mono (by omega)))
    have HL1 := Lib.hid hF_w7.1
    have HL2 := Lib.hid hF_w7.2
    clear hb_w1 hb_w7 hF_w7
    go_wp2_with fail
    (refine pin_wp (N := _) (Nat.le_refl _) (fun w8 hb_w8 hz_w8 => ?_); (try simp at hz_w8); (with_reducible apply cel2 (b := w.heap.size) hb_w8); (focus ((try simp) <;> omega)); (focus omega); (focus (go_simp; try exact rfl)); (focus (go_simp; try exact rfl)); (focus (intro o; go_simp)); intro cc cc fz hl; (with_reducible apply cel2 (b := w.heap.size + 1) hb_w8); (focus ((try simp) <;> omega)); (focus omega); (focus (go_simp; try exact rfl)); (focus (go_simp; try exact rfl)); (focus (intro o; go_simp)); intro cc cc fz hl; (with_reducible apply cel2 (b := w.heap.size + 1 + 1) hb_w8); (focus ((try simp) <;> omega)); (focus omega); (focus (go_simp; try exact rfl)); (focus (go_simp; try exact rfl)); (focus (intro o; go_simp)); intro cc cc fz hl); refine wp_region_float w8.heap.size 6 (Nat.le_refl _) (fun _ => True) trivial Cl.tt (by kernel_rfl) (by simp) ?_
    have HB8 := Lib.hid (HB7.out.trans (hb_w8.mono (by omega)))
    have HL3 := Lib.hid (HL1.out.below hb_w8)
    have HL4 := Lib.hid (HL2.out.below hb_w8)
    clear hb_w8
    refine wpI_start [0, 1, 2, 3] ?_; (iterate 4 (first | (refine wpI_off rfl (by kernel_rfl) rfl (fun K hK => ?_); go_simp; refine hK _ ?_; clear hK K) | ((first | apply wpI_step rfl (by kernel_rfl) rfl | apply wpI_on rfl (by kernel_rfl) rfl); (focus (intro W' hS; have hcS := hS.cells.1; have hfS := hS.cells.2; go_simp; (first | done | exact rfl | exact ⟨rfl, Below.refl _ _⟩ | (go_simp; first | done | exact rfl | exact ⟨rfl, Below.refl _ _⟩)))); intro K hK; go_simp; (try go_bits); refine hK _ ?_; clear hK K))); refine wpI_nil ?_
    apply wpF_call (i := 4) rfl (by kernel_rfl) (by kernel_rfl); intro W hF hS; have hcS := hS.1.cells.1; have hfS := hS.1.cells.2; go_simp; (go_at_call 105; refine (addmag_any A1 A2 (canN x) (canN y) c1 c2 W (canN_lim _) (canN_lim _) (by omega) (by omega) (HL3.out.own hS.1 (Nat.le_refl _)) (HL4.out.own hS.1 (Nat.le_refl _))).mono ?_; rintro e w9 ⟨hb_w9, A3, c3, l3, rfl, hc3, hl3, hk3, hm3, hA3⟩; refine XPost.mk _ (fun W => LAt W A3 l3) hb_w9 (hA3) (LAt.cl _ _) ?_); clear hb_w9 hcS hfS hS hF
    intro K hK; go_simp; (try go_bits); refine hK _ ?_; clear hK K
    have hmk := fun w' (h : LAt w' A3 l3) => make1_any p A3 l3 c3 w' hl3 h hc3 (by omega)
    rw [hm3, mv_canN, mv_canN, ← HZ.out] at hmk
    have HMK := Lib.hid hmk
    clear hA3 hc3 hl3 hk3 hm3 hmk
    apply wpF_call (i := 5) rfl (by kernel_rfl) (by kernel_rfl); intro W hF hS; have hcS := hS.1.cells.1; have hfS := hS.1.cells.2; go_simp; (go_at_call 89; refine (HMK.out _ hF).mono ?_; rintro e w10 ⟨hb_w10, v4, rfl, A4, c4, rfl, hc4, hA4⟩; refine XPost.mk _ (fun W => LAt W A4 (canN Z.natAbs)) hb_w10 (hA4) (LAt.cl _ _) ?_); clear hb_w10 hcS hfS hS hF
    intro K hK; go_simp; (try go_bits); refine hK _ ?_; clear hK K
    have HC4 := Lib.hid hc4
    clear hA4 hc4
    refine wpF_done (by kernel_rfl) ?_
    intro w11 hF_w11 hSG
    have hz_w11 := hSG.1.1
    have hb_w11 := hSG.1.2
    clear hSG
    (with_reducible apply cel2 (b := w.heap.size) hb_w11); (focus ((try simp) <;> omega)); (focus omega); (focus (go_simp; try exact rfl)); (focus (go_simp; try exact rfl)); (focus (intro o; go_simp)); intro cc cc fz hl; (with_reducible apply cel2 (b := w.heap.size + 1) hb_w11); (focus ((try simp) <;> omega)); (focus omega); (focus (go_simp; try exact rfl)); (focus (go_simp; try exact rfl)); (focus (intro o; go_simp)); intro cc cc fz hl; (with_reducible apply cel2 (b := w.heap.size + 1 + 1) hb_w11); (focus ((try simp) <;> omega)); (focus omega); (focus (go_simp; try exact rfl)); (focus (go_simp; try exact rfl)); (focus (intro o; go_simp)); intro cc cc fz hl
    (try simp only [List.drop_succ_cons, List.drop_zero])
    have HB11 := Lib.hid (HB8.out.trans (hb_w11.mono (by omega)))
    have HL5 := Lib.hid hF_w11.2
    clear hb_w11 hF_w11
    go_wp2_with fail
    refine bodyPost_ret (v := .agg #[.bool (decide (Z < 0)), .slice A4 (canN Z.natAbs).length c4]) (by simp only [results, Try.results88]; go_simp) rfl ⟨?_, ?_⟩
    · exact (HB11.out.setCell (by simp <;> omega) _).setCell (by simp <;> omega) _
    · exact ⟨_, rfl, A4, c4, rfl, HC4.out, HL5.out.set2 (by assumption) (by assumption) _ _⟩
  · have hs := HD.out hpq
    have b0 : (p == q) = false := by simp [hpq]
    rcases Int.lt_or_le (cmpI x y) 0 with hcm | hcm
    · have hxy : x < y := by unfold cmpI at hcm; split at hcm <;> (try split at hcm) <;> omega
      have HZ := Lib.hid hs.2
      obtain ⟨C, hC⟩ : ∃ C, C = cmpI x y := ⟨_, rfl⟩
      rw [← hC] at hcm
      have HCC := Lib.hid hC
      have hcm' : ¬ (0 ≤ C) := by omega
      have k1 : mv (canN x) ≤ mv (canN y) := by rw [mv_canN, mv_canN]; omega
      have HXY := Lib.hid k1
      have hlen : (canN x).length ≤ (canN y).length := by
        rw [canN_len]
        have := (@canN_len y (canN y).length).1 (Nat.le_refl _)
        omega
      clear hs HS HD hC hpq k1
      go_enter Try.func88, Try.ntmps88; (try simp only [List.append_eq, List.cons_append, List.nil_append])
      go_wp2_with fail
      -- own blocks: w.heap.size:2, w.heap.size + 1:2, w.heap.size + 1 + 1:2
      have HB0 := Lib.hid (show Below w.heap.size w (((w.alloc (.cells #[.bool p, .slice A l.length c] 65)).alloc (.cells #[.bool q, .slice A' l'.length c'] 65)).alloc (.cells #[.bool false, .slice none 0 0] 65)) by ((with_reducible (repeat (first | exact bR _ _ | refine bS ?_ ?_ _ | refine bA ?_ ?_ _ | refine bD ?_ | refine bT ?_ (by assumption) ?_ | refine bO (by assumption) ?_ ?_))) <;> (first | omega | (simp; done) | (simp <;> omega))))
      (refine pin_wp (N := _) (Nat.le_refl _) (fun w1 hb_w1 hz_w1 => ?_); (try simp at hz_w1); (with_reducible apply cel2 (b := w.heap.size) hb_w1); (focus ((try simp) <;> omega)); (focus omega); (focus (go_simp; try exact rfl)); (focus (go_simp; try exact rfl)); (focus (intro o; go_simp)); intro cc cc fz hl; (with_reducible apply cel2 (b := w.heap.size + 1) hb_w1); (focus ((try simp) <;> omega)); (focus omega); (focus (go_simp; try exact rfl)); (focus (go_simp; try exact rfl)); (focus (intro o; go_simp)); intro cc cc fz hl; (with_reducible apply cel2 (b := w.heap.size + 1 + 1) hb_w1); (focus ((try simp) <;> omega)); (focus omega); (focus (go_simp; try exact rfl)); (focus (go_simp; try exact rfl)); (focus (intro o; go_simp)); intro cc cc fz hl); refine wp_region_float w1.heap.size 8 (Nat.le_refl _) (fun _ => True) trivial Cl.tt (by kernel_rfl) (by simp) ?_
      have HB1 := Lib.hid (HB0.out.trans (hb_w1.mono (by simp <;> omega)))
      refine wpI_start [0, 1] ?_; (iterate 2 (first | (refine wpI_off rfl (by kernel_rfl) rfl (fun K hK => ?_); go_simp; refine hK _ ?_; clear hK K) | ((first | apply wpI_step rfl (by kernel_rfl) rfl | apply wpI_on rfl (by kernel_rfl) rfl); (focus (intro W' hS; have hcS := hS.cells.1; have hfS := hS.cells.2; go_simp; (first | done | exact rfl | exact ⟨rfl, Below.refl _ _⟩ | (go_simp; first | done | exact rfl | exact ⟨rfl, Below.refl _ _⟩)))); intro K hK; go_simp; (try go_bits); refine hK _ ?_; clear hK K))); refine wpI_nil ?_
      refine wpI_start [3, 4] ?_; (iterate 2 (first | (refine wpI_off rfl (by kernel_rfl) rfl (fun K hK => ?_); go_simp; refine hK _ ?_; clear hK K) | ((first | apply wpI_step rfl (by kernel_rfl) rfl | apply wpI_on rfl (by kernel_rfl) rfl); (focus (intro W' hS; have hcS := hS.cells.1; have hfS := hS.cells.2; go_simp; (first | done | exact rfl | exact ⟨rfl, Below.refl _ _⟩ | (go_simp; first | done | exact rfl | exact ⟨rfl, Below.refl _ _⟩)))); intro K hK; go_simp; (try go_bits); refine hK _ ?_; clear hK K))); refine wpI_nil ?_
      apply wpF_call (i := 2) rfl (by kernel_rfl) (by kernel_rfl); intro W hF hS; have hcS := hS.1.cells.1; have hfS := hS.1.cells.2; go_simp; (go_at_call 90; refine (HMA.out _ (HB1.out.trans (hS.1.2.mono (by omega)))).mono ?_; rintro e w4 ⟨hb_w4, A1, c1, rfl, hc1, hA1⟩; refine XPost.mk _ (fun W => LAt W A1 (canN x)) hb_w4 (hA1) (LAt.cl _ _) ?_); clear hb_w4 hcS hfS hS hF
      intro K hK; go_simp; (try go_bits); refine hK _ ?_; clear hK K
      have HC1 := Lib.hid hc1
      clear hA1 hc1
      apply wpF_call (i := 5) rfl (by kernel_rfl) (by kernel_rfl); intro W hF hS; have hcS := hS.1.cells.1; have hfS := hS.1.cells.2; go_simp; (go_at_call 90; refine (HMB.out _ (HB1.out.trans (hS.1.2.mono (by omega)))).mono ?_; rintro e w5 ⟨hb_w5, A2, c2, rfl, hc2, hA2⟩; refine XPost.mk _ (fun W => LAt W A2 (canN y)) hb_w5 (hA2) (LAt.cl _ _) ?_); clear hb_w5 hcS hfS hS hF
      intro K hK; go_simp; (try go_bits); refine hK _ ?_; clear hK K
      have HC2 := Lib.hid hc2
      clear hA2 hc2
      refine wpI_start [6, 7] ?_; (iterate 2 (first | (refine wpI_off rfl (by kernel_rfl) rfl (fun K hK => ?_); go_simp; refine hK _ ?_; clear hK K) | ((first | apply wpI_step rfl (by kernel_rfl) rfl | apply wpI_on rfl (by kernel_rfl) rfl); (focus (intro W' hS; have hcS := hS.cells.1; have hfS := hS.cells.2; go_simp; (first | done | exact rfl | exact ⟨rfl, Below.refl _ _⟩ | (go_simp; first | done | exact rfl | exact ⟨rfl, Below.refl _ _⟩)))); intro K hK; go_simp; (try go_bits); refine hK _ ?_; clear hK K))); refine wpI_nil ?_
      refine wpF_done (by kernel_rfl) ?_
      intro w7 hF_w7 hSG
      have hz_w7 := hSG.1.1
      have hb_w7 := hSG.1.2
      clear hSG
      (with_reducible apply cel2 (b := w.heap.size) hb_w7); (focus ((try simp) <;> omega)); (focus omega); (focus (go_simp; try exact rfl)); (focus (go_simp; try exact rfl)); (focus (intro o; go_simp)); intro cc cc fz hl; (with_reducible apply cel2 (b := w.heap.size + 1) hb_w7); (focus ((try simp) <;> omega)); (focus omega); (focus (go_simp; try exact rfl)); (focus (go_simp; try exact rfl)); (focus (intro o; go_simp)); intro cc cc fz hl; (with_reducible apply cel2 (b := w.heap.size + 1 + 1) hb_w7); (focus ((try simp) <;> omega)); (focus omega); (focus (go_simp; try exact rfl)); (focus (go_simp; try exact rfl)); (focus (intro o; go_simp)); intro cc cc fz hl
      (try simp only [List.drop_succ_cons, List.drop_zero])
      have HB7 := Lib.hid (HB1.out.trans (hb_w7.mono (by omega)))
      have HL1 := Lib.hid hF_w7.1
      have HL2 := Lib.hid hF_w7.2
      clear hb_w1 hb_w7 hF_w7
      go_wp2_with fail
      (go_at_call 106; refine (cmpmag_any A1 A2 x y c1 c2 _ (by omega) (by omega) HL1.out HL2.out).mono ?_; rintro e w75 ⟨rfl, hb_w75⟩; have hz_w75 := hb_w75.size)
      rw [← HCC.out]
      (with_reducible apply cel2 (b := w.heap.size) hb_w75); (focus ((try simp) <;> omega)); (focus omega); (focus (go_simp; try exact rfl)); (focus (go_simp; try exact rfl)); (focus (intro o; go_simp)); intro cc cc fz hl; (with_reducible apply cel2 (b := w.heap.size + 1) hb_w75); (focus ((try simp) <;> omega)); (focus omega); (focus (go_simp; try exact rfl)); (focus (go_simp; try exact rfl)); (focus (intro o; go_simp)); intro cc cc fz hl; (with_reducible apply cel2 (b := w.heap.size + 1 + 1) hb_w75); (focus ((try simp) <;> omega)); (focus omega); (focus (go_simp; try exact rfl)); (focus (go_simp; try exact rfl)); (focus (intro o; go_simp)); intro cc cc fz hl
      have HB7 := Lib.hid (HB7.out.trans (hb_w75.mono (by omega)))
      have HL1 := Lib.hid (HL1.out.below hb_w75)
      have HL2 := Lib.hid (HL2.out.below hb_w75)
      clear hb_w75
      go_wp2_with fail
      (refine pin_wp (N := _) (Nat.le_refl _) (fun w8 hb_w8 hz_w8 => ?_); (try simp at hz_w8); (with_reducible apply cel2 (b := w.heap.size) hb_w8); (focus ((try simp) <;> omega)); (focus omega); (focus (go_simp; try exact rfl)); (focus (go_simp; try exact rfl)); (focus (intro o; go_simp)); intro cc cc fz hl; (with_reducible apply cel2 (b := w.heap.size + 1) hb_w8); (focus ((try simp) <;> omega)); (focus omega); (focus (go_simp; try exact rfl)); (focus (go_simp; try exact rfl)); (focus (intro o; go_simp)); intro cc cc fz hl; (with_reducible apply cel2 (b := w.heap.size + 1 + 1) hb_w8); (focus ((try simp) <;> omega)); (focus omega); (focus (go_simp; try exact rfl)); (focus (go_simp; try exact rfl)); (focus (intro o; go_simp)); intro cc cc fz hl); refine wp_region_float w8.heap.size 6 (Nat.le_refl _) (fun _ => True) trivial Cl.tt (by kernel_rfl) (by simp) ?_
      have HB8 := Lib.hid (HB7.out.trans (hb_w8.mono (by omega)))
      have HL3 := Lib.hid (HL1.out.below hb_w8)
      have HL4 := Lib.hid (HL2.out.below hb_w8)
      clear hb_w8
      refine wpI_start [0, 1, 2, 3] ?_; (iterate 4 (first | (refine wpI_off rfl (by kernel_rfl) rfl (fun K hK => ?_); go_simp; refine hK _ ?_; clear hK K) | ((first | apply wpI_step rfl (by kernel_rfl) rfl | apply wpI_on rfl (by kernel_rfl) rfl); (focus (intro W' hS; have hcS := hS.cells.1; have hfS := hS.cells.2; go_simp; (first | done | exact rfl | exact ⟨rfl, Below.refl _ _⟩ | (go_simp; first | done | exact rfl | exact ⟨rfl, Below.refl _ _⟩)))); intro K hK; go_simp; (try go_bits); refine hK _ ?_; clear hK K))); refine wpI_nil ?_
      apply wpF_call (i := 4) rfl (by kernel_rfl) (by kernel_rfl); intro W hF hS; have hcS := hS.1.cells.1; have hfS := hS.1.cells.2; go_simp; (go_at_call 107; refine (submag_any A2 A1 (canN y) (canN x) c2 c1 W (canN_lim _) (canN_lim _) (by omega) (by omega) HXY.out (HL4.out.own hS.1 (Nat.le_refl _)) (HL3.out.own hS.1 (Nat.le_refl _))).mono ?_; rintro e w9 ⟨hb_w9, A3, c3, l3, rfl, hc3, hl3, hk3, hm3, hA3⟩; refine XPost.mk _ (fun W => LAt W A3 l3) hb_w9 (hA3) (LAt.cl _ _) ?_); clear hb_w9 hcS hfS hS hF
      intro K hK; go_simp; (try go_bits); refine hK _ ?_; clear hK K
      have hmk := fun w' (h : LAt w' A3 l3) => make1_any q A3 l3 c3 w' hl3 h hc3 (by omega)
      rw [hm3, mv_canN, mv_canN, ← HZ.out] at hmk
      have HMK := Lib.hid hmk
      clear hA3 hc3 hl3 hk3 hm3 hmk
      apply wpF_call (i := 5) rfl (by kernel_rfl) (by kernel_rfl); intro W hF hS; have hcS := hS.1.cells.1; have hfS := hS.1.cells.2; go_simp; (go_at_call 89; refine (HMK.out _ hF).mono ?_; rintro e w10 ⟨hb_w10, v4, rfl, A4, c4, rfl, hc4, hA4⟩; refine XPost.mk _ (fun W => LAt W A4 (canN Z.natAbs)) hb_w10 (hA4) (LAt.cl _ _) ?_); clear hb_w10 hcS hfS hS hF
      intro K hK; go_simp; (try go_bits); refine hK _ ?_; clear hK K
      have HC4 := Lib.hid hc4
      clear hA4 hc4
      refine wpF_done (by kernel_rfl) ?_
      intro w11 hF_w11 hSG
      have hz_w11 := hSG.1.1
      have hb_w11 := hSG.1.2
      clear hSG
      (with_reducible apply cel2 (b := w.heap.size) hb_w11); (focus ((try simp) <;> omega)); (focus omega); (focus (go_simp; try exact rfl)); (focus (go_simp; try exact rfl)); (focus (intro o; go_simp)); intro cc cc fz hl; (with_reducible apply cel2 (b := w.heap.size + 1) hb_w11); (focus ((try simp) <;> omega)); (focus omega); (focus (go_simp; try exact rfl)); (focus (go_simp; try exact rfl)); (focus (intro o; go_simp)); intro cc cc fz hl; (with_reducible apply cel2 (b := w.heap.size + 1 + 1) hb_w11); (focus ((try simp) <;> omega)); (focus omega); (focus (go_simp; try exact rfl)); (focus (go_simp; try exact rfl)); (focus (intro o; go_simp)); intro cc cc fz hl
      (try simp only [List.drop_succ_cons, List.drop_zero])
      have HB11 := Lib.hid (HB8.out.trans (hb_w11.mono (by omega)))
      have HL5 := Lib.hid hF_w11.2
      clear hb_w11 hF_w11
      go_wp2_with fail
      refine bodyPost_ret (v := .agg #[.bool (decide (Z < 0)), .slice A4 (canN Z.natAbs).length c4]) (by simp only [results, Try.results88]; go_simp) rfl ⟨?_, ?_⟩
      · exact (HB11.out.setCell (by simp <;> omega) _).setCell (by simp <;> omega) _
      · exact ⟨_, rfl, A4, c4, rfl, HC4.out, HL5.out.set2 (by assumption) (by assumption) _ _⟩
    · have hxy : y ≤ x := by unfold cmpI at hcm; split at hcm <;> (try split at hcm) <;> omega
      have HZ := Lib.hid hs.1
      obtain ⟨C, hC⟩ : ∃ C, C = cmpI x y := ⟨_, rfl⟩
      rw [← hC] at hcm
      have HCC := Lib.hid hC
      have k1 : mv (canN y) ≤ mv (canN x) := by rw [mv_canN, mv_canN]; omega
      have HXY := Lib.hid k1
      have hlen : (canN y).length ≤ (canN x).length := by
        rw [canN_len]
        have := (@canN_len x (canN x).length).1 (Nat.le_refl _)
        omega
      clear hs HS HD hC hpq k1
      go_enter Try.func88, Try.ntmps88; (try simp only [List.append_eq, List.cons_append, List.nil_append])
      go_wp2_with fail
      -- own blocks: w.heap.size:2, w.heap.size + 1:2, w.heap.size + 1 + 1:2
      have HB0 := Lib.hid (show Below w.heap.size w (((w.alloc (.cells #[.bool p, .slice A l.length c] 65)).alloc (.cells #[.bool q, .slice A' l'.length c'] 65)).alloc (.cells #[.bool false, .slice none 0 0] 65)) by ((with_reducible (repeat (first | exact bR _ _ | refine bS ?_ ?_ _ | refine bA ?_ ?_ _ | refine bD ?_ | refine bT ?_ (by assumption) ?_ | refine bO (by assumption) ?_ ?_))) <;> (first | omega | (simp; done) | (simp <;> omega))))
      (refine pin_wp (N := _) (Nat.le_refl _) (fun w1 hb_w1 hz_w1 => ?_); (try simp at hz_w1); (with_reducible apply cel2 (b := w.heap.size) hb_w1); (focus ((try simp) <;> omega)); (focus omega); (focus (go_simp; try exact rfl)); (focus (go_simp; try exact rfl)); (focus (intro o; go_simp)); intro cc cc fz hl; (with_reducible apply cel2 (b := w.heap.size + 1) hb_w1); (focus ((try simp) <;> omega)); (focus omega); (focus (go_simp; try exact rfl)); (focus (go_simp; try exact rfl)); (focus (intro o; go_simp)); intro cc cc fz hl; (with_reducible apply cel2 (b := w.heap.size + 1 + 1) hb_w1); (focus ((try simp) <;> omega)); (focus omega); (focus (go_simp; try exact rfl)); (focus (go_simp; try exact rfl)); (focus (intro o; go_simp)); intro cc cc fz hl); refine wp_region_float w1.heap.size 8 (Nat.le_refl _) (fun _ => True) trivial Cl.tt (by kernel_rfl) (by simp) ?_
      have HB1 := Lib.hid (HB0.out.trans (hb_w1.mono (by simp <;> omega)))
      refine wpI_start [0, 1] ?_; (iterate 2 (first | (refine wpI_off rfl (by kernel_rfl) rfl (fun K hK => ?_); go_simp; refine hK _ ?_; clear hK K) | ((first | apply wpI_step rfl (by kernel_rfl) rfl | apply wpI_on rfl (by kernel_rfl) rfl); (focus (intro W' hS; have hcS := hS.cells.1; have hfS := hS.cells.2; go_simp; (first | done | exact rfl | exact ⟨rfl, Below.refl _ _⟩ | (go_simp; first | done | exact rfl | exact ⟨rfl, Below.refl _ _⟩)))); intro K hK; go_simp; (try go_bits); refine hK _ ?_; clear hK K))); refine wpI_nil ?_
      refine wpI_start [3, 4] ?_; (iterate 2 (first | (refine wpI_off rfl (by kernel_rfl) rfl (fun K hK => ?_); go_simp; refine hK _ ?_; clear hK K) | ((first | apply wpI_step rfl (by kernel_rfl) rfl | apply wpI_on rfl (by kernel_rfl) rfl); (focus (intro W' hS; have hcS := hS.cells.1; have hfS := hS.cells.2; go_simp; (first | done | exact rfl | exact ⟨rfl, Below.refl _ _⟩ | (go_simp; first | done | exact rfl | exact ⟨rfl, Below.refl _ _⟩)))); intro K hK; go_simp; (try go_bits); refine hK _ ?_; clear hK K))); refine wpI_nil ?_
      apply wpF_call (i := 2) rfl (by kernel_rfl) (by kernel_rfl); intro W hF hS; have hcS := hS.1.cells.1; have hfS := hS.1.cells.2; go_simp; (go_at_call 90; refine (HMA.out _ (HB1.out.trans (hS.1.2.mono (by omega)))).mono ?_; rintro e w4 ⟨hb_w4, A1, c1, rfl, hc1, hA1⟩; refine XPost.mk _ (fun W => LAt W A1 (canN x)) hb_w4 (hA1) (LAt.cl _ _) ?_); clear hb_w4 hcS hfS hS hF
      intro K hK; go_simp; (try go_bits); refine hK _ ?_; clear hK K
      have HC1 := Lib.hid hc1
      clear hA1 hc1
      apply wpF_call (i := 5) rfl (by kernel_rfl) (by kernel_rfl); intro W hF hS; have hcS := hS.1.cells.1; have hfS := hS.1.cells.2; go_simp; (go_at_call 90; refine (HMB.out _ (HB1.out.trans (hS.1.2.mono (by omega)))).mono ?_; rintro e w5 ⟨hb_w5, A2, c2, rfl, hc2, hA2⟩; refine XPost.mk _ (fun W => LAt W A2 (canN y)) hb_w5 (hA2) (LAt.cl _ _) ?_); clear hb_w5 hcS hfS hS hF
      intro K hK; go_simp; (try go_bits); refine hK _ ?_; clear hK K
      have HC2 := Lib.hid hc2
      clear hA2 hc2
      refine wpI_start [6, 7] ?_; (iterate 2 (first | (refine wpI_off rfl (by kernel_rfl) rfl (fun K hK => ?_); go_simp; refine hK _ ?_; clear hK K) | ((first | apply wpI_step rfl (by kernel_rfl) rfl | apply wpI_on rfl (by kernel_rfl) rfl); (focus (intro W' hS; have hcS := hS.cells.1; have hfS := hS.cells.2; go_simp; (first | done | exact rfl | exact ⟨rfl, Below.refl _ _⟩ | (go_simp; first | done | exact rfl | exact ⟨rfl, Below.refl _ _⟩)))); intro K hK; go_simp; (try go_bits); refine hK _ ?_; clear hK K))); refine wpI_nil ?_
      refine wpF_done (by kernel_rfl) ?_
      intro w7 hF_w7 hSG
      have hz_w7 := hSG.1.1
      have hb_w7 := hSG.1.2
      clear hSG
      (with_reducible apply cel2 (b := w.heap.size) hb_w7); (focus ((try simp) <;> omega)); (focus omega); (focus (go_simp; try exact rfl)); (focus (go_simp; try exact rfl)); (focus (intro o; go_simp)); intro cc cc fz hl; (with_reducible apply cel2 (b := w.heap.size + 1) hb_w7); (focus ((try simp) <;> omega)); (focus omega); (focus (go_simp; try exact rfl)); (focus (go_simp; try exact rfl)); (focus (intro o; go_simp)); intro cc cc fz hl; (with_reducible apply cel2 (b := w.heap.size + 1 + 1) hb_w7); (focus ((try simp) <;> omega)); (focus omega); (focus (go_simp; try exact rfl)); (focus (go_simp; try exact rfl)); (focus (intro o; go_simp)); intro cc cc fz hl
      (try simp only [List.drop_succ_cons, List.drop_zero])
      have HB7 := Lib.hid (HB1.out.trans (hb_w7.mono (by omega)))
      have HL1 := Lib.hid hF_w7.1
      have HL2 := Lib.hid hF_w7.2
      clear hb_w1 hb_w7 hF_w7
      go_wp2_with fail
      (go_at_call 106; refine (cmpmag_any A1 A2 x y c1 c2 _ (by omega) (by omega) HL1.out HL2.out).mono ?_; rintro e w75 ⟨rfl, hb_w75⟩; have hz_w75 := hb_w75.size)
      rw [← HCC.out]
      (with_reducible apply cel2 (b := w.heap.size) hb_w75); (focus ((try simp) <;> omega)); (focus omega); (focus (go_simp; try exact rfl)); (focus (go_simp; try exact rfl)); (focus (intro o; go_simp)); intro cc cc fz hl; (with_reducible apply cel2 (b := w.heap.size + 1) hb_w75); (focus ((try simp) <;> omega)); (focus omega); (focus (go_simp; try exact rfl)); (focus (go_simp; try exact rfl)); (focus (intro o; go_simp)); intro cc cc fz hl; (with_reducible apply cel2 (b := w.heap.size + 1 + 1) hb_w75); (focus ((try simp) <;> omega)); (focus omega); (focus (go_simp; try exact rfl)); (focus (go_simp; try exact rfl)); (focus (intro o; go_simp)); intro cc cc fz hl
      have HB7 := Lib.hid (HB7.out.trans (hb_w75.mono (by omega)))
      have HL1 := Lib.hid (HL1.out.below hb_w75)
      have HL2 := Lib.hid (HL2.out.below hb_w75)
      clear hb_w75
      go_wp2_with fail
      (refine pin_wp (N := _) (Nat.le_refl _) (fun w8 hb_w8 hz_w8 => ?_); (try simp at hz_w8); (with_reducible apply cel2 (b := w.heap.size) hb_w8); (focus ((try simp) <;> omega)); (focus omega); (focus (go_simp; try exact rfl)); (focus (go_simp; try exact rfl)); (focus (intro o; go_simp)); intro cc cc fz hl; (with_reducible apply cel2 (b := w.heap.size + 1) hb_w8); (focus ((try simp) <;> omega)); (focus omega); (focus (go_simp; try exact rfl)); (focus (go_simp; try exact rfl)); (focus (intro o; go_simp)); intro cc cc fz hl; (with_reducible apply cel2 (b := w.heap.size + 1 + 1) hb_w8); (focus ((try simp) <;> omega)); (focus omega); (focus (go_simp; try exact rfl)); (focus (go_simp; try exact rfl)); (focus (intro o; go_simp)); intro cc cc fz hl); refine wp_region_float w8.heap.size 6 (Nat.le_refl _) (fun _ => True) trivial Cl.tt (by kernel_rfl) (by simp) ?_
      have HB8 := Lib.hid (HB7.out.trans (hb_w8.mono (by omega)))
      have HL3 := Lib.hid (HL1.out.below hb_w8)
      have HL4 := Lib.hid (HL2.out.below hb_w8)
      clear hb_w8
      refine wpI_start [0, 1, 2, 3] ?_; (iterate 4 (first | (refine wpI_off rfl (by kernel_rfl) rfl (fun K hK => ?_); go_simp; refine hK _ ?_; clear hK K) | ((first | apply wpI_step rfl (by kernel_rfl) rfl | apply wpI_on rfl (by kernel_rfl) rfl); (focus (intro W' hS; have hcS := hS.cells.1; have hfS := hS.cells.2; go_simp; (first | done | exact rfl | exact ⟨rfl, Below.refl _ _⟩ | (go_simp; first | done | exact rfl | exact ⟨rfl, Below.refl _ _⟩)))); intro K hK; go_simp; (try go_bits); refine hK _ ?_; clear hK K))); refine wpI_nil ?_
      apply wpF_call (i := 4) rfl (by kernel_rfl) (by kernel_rfl); intro W hF hS; have hcS := hS.1.cells.1; have hfS := hS.1.cells.2; go_simp; (go_at_call 107; refine (submag_any A1 A2 (canN x) (canN y) c1 c2 W (canN_lim _) (canN_lim _) (by omega) (by omega) HXY.out (HL3.out.own hS.1 (Nat.le_refl _)) (HL4.out.own hS.1 (Nat.le_refl _))).mono ?_; rintro e w9 ⟨hb_w9, A3, c3, l3, rfl, hc3, hl3, hk3, hm3, hA3⟩; refine XPost.mk _ (fun W => LAt W A3 l3) hb_w9 (hA3) (LAt.cl _ _) ?_); clear hb_w9 hcS hfS hS hF
      intro K hK; go_simp; (try go_bits); refine hK _ ?_; clear hK K
      have hmk := fun w' (h : LAt w' A3 l3) => make1_any p A3 l3 c3 w' hl3 h hc3 (by omega)
      rw [hm3, mv_canN, mv_canN, ← HZ.out] at hmk
      have HMK := Lib.hid hmk
      clear hA3 hc3 hl3 hk3 hm3 hmk
      apply wpF_call (i := 5) rfl (by kernel_rfl) (by kernel_rfl); intro W hF hS; have hcS := hS.1.cells.1; have hfS := hS.1.cells.2; go_simp; (go_at_call 89; refine (HMK.out _ hF).mono ?_; rintro e w10 ⟨hb_w10, v4, rfl, A4, c4, rfl, hc4, hA4⟩; refine XPost.mk _ (fun W => LAt W A4 (canN Z.natAbs)) hb_w10 (hA4) (LAt.cl _ _) ?_); clear hb_w10 hcS hfS hS hF
      intro K hK; go_simp; (try go_bits); refine hK _ ?_; clear hK K
      have HC4 := Lib.hid hc4
      clear hA4 hc4
      refine wpF_done (by kernel_rfl) ?_
      intro w11 hF_w11 hSG
      have hz_w11 := hSG.1.1
      have hb_w11 := hSG.1.2
      clear hSG
      (with_reducible apply cel2 (b := w.heap.size) hb_w11); (focus ((try simp) <;> omega)); (focus omega); (focus (go_simp; try exact rfl)); (focus (go_simp; try exact rfl)); (focus (intro o; go_simp)); intro cc cc fz hl; (with_reducible apply cel2 (b := w.heap.size + 1) hb_w11); (focus ((try simp) <;> omega)); (focus omega); (focus (go_simp; try exact rfl)); (focus (go_simp; try exact rfl)); (focus (intro o; go_simp)); intro cc cc fz hl; (with_reducible apply cel2 (b := w.heap.size + 1 + 1) hb_w11); (focus ((try simp) <;> omega)); (focus omega); (focus (go_simp; try exact rfl)); (focus (go_simp; try exact rfl)); (focus (intro o; go_simp)); intro cc cc fz hl
      (try simp only [List.drop_succ_cons, List.drop_zero])
      have HB11 := Lib.hid (HB8.out.trans (hb_w11.mono (by omega)))
      have HL5 := Lib.hid hF_w11.2
      clear hb_w11 hF_w11
      go_wp2_with fail
      refine bodyPost_ret (v := .agg #[.bool (decide (Z < 0)), .slice A4 (canN Z.natAbs).length c4]) (by simp only [results, Try.results88]; go_simp) rfl ⟨?_, ?_⟩
      · exact (HB11.out.setCell (by simp <;> omega) _).setCell (by simp <;> omega) _
      · exact ⟨_, rfl, A4, c4, rfl, HC4.out, HL5.out.set2 (by assumption) (by assumption) _ _⟩
end Go.Proofs.Ytkoejgpnlncgaaa
