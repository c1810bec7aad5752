/- The contracts of pinballref01.divMag at any limbs, and of Div. -/
import Derived.Test.YtkoejgpnlncgaaaBigKn
import Derived.Test.YtkoejgpnlncgaaaBigU
namespace Go.Proofs.Ytkoejgpnlncgaaa
open Go Go.RowKit
set_option linter.unusedVariables false
theorem divmag_any (A B : Option Addr) (x y c d : Nat) (w : World) (hn : (canN x).length ≤ 200000) (hn' : (canN y).length ≤ 200000) (hA : LAt w A (canN x)) (hB : LAt w B (canN y)) (hc : (canN x).length ≤ c) (hd : (canN y).length ≤ d) (hy : y ≠ 0) :
    Calls Try.prog 93 #[.slice A (canN x).length c, .slice B (canN y).length d] w (DivOut (x / y) (x % y) w) := by
  rcases Nat.lt_or_ge x y with h | h
  · have := divmag_less A B x y c d w (by omega) (by omega) hA hB hc h
    exact this
  · have h0 : (canN y).length ≠ 0 := fun e => hy (canN_len0.1 e)
    by_cases h1 : (canN y).length = 1
    · exact divmag_one A B x y c d w (by omega) hA hB h h1
    · obtain ⟨m, hm⟩ : ∃ m, (canN y).length = m + 2 := ⟨(canN y).length - 2, by omega⟩
      exact divmag_knuth A B x y c d m w hn hA hB hc hd h hm
theorem sv_tdiv {a b : Int} {p q : Bool} {x y : Nat} (ea : a = sv p x) (eb : b = sv q y) : a.tdiv b = sv (p != q) ((x / y : Nat) : Int) ∧ a.tmod b = sv p ((x % y : Nat) : Int) := by
  have h1 : (x : Int).tdiv (y : Int) = ((x / y : Nat) : Int) := rfl
  have h2 : (x : Int).tmod (y : Int) = ((x % y : Nat) : Int) := rfl
  subst ea
  subst eb
  cases p <;> cases q <;> simp only [sv, Bool.false_eq_true, if_false, if_true, Int.neg_tdiv, Int.tdiv_neg, Int.neg_neg, Int.neg_tmod, Int.tmod_neg, h1, h2] <;> exact ⟨rfl, trivial⟩
def DOut (q r : Int) (w : World) (e : Ending) (w' : World) : Prop := Below w.heap.size w w' ∧ ∃ u v, e = .returned (.tuple #[u, v]) ∧ IsC w' u q ∧ IsC w' v r
/-- A block of an integer: its two cells, which may be written. -/
def C2 (W : World) (b : Nat) (u v : Value) : Prop := W.cell? ⟨b, 0, none⟩ = some u ∧ W.cell? ⟨b, 1, none⟩ = some v ∧ ∀ o, W.frozen? ⟨b, o, none⟩ = false
theorem C2.lt {W : World} {b : Nat} {u v : Value} (h : C2 W b u v) : b < W.heap.size := by simpa using World.block_lt_of_cell? W _ h.1
theorem C2.cl (b : Nat) (u v : Value) : Cl (fun W => C2 W b u v) := fun W W' h hb => by
  have hl := h.lt
  exact ⟨by rw [hb.cell (by simpa using hl)]; exact h.1, by rw [hb.cell (by simpa using hl)]; exact h.2.1, fun o => by rw [hb.frozen (by simpa using hl)]; exact h.2.2 o⟩
theorem C2.set {W : World} {b : Nat} {u v : Value} (h : C2 W b u v) (x y : Value) : C2 ((W.setCell ⟨b, 0, none⟩ x).setCell ⟨b, 1, none⟩ y) b x y := by
  have h1 : (W.setCell ⟨b, 0, none⟩ x).cell? ⟨b, 1, none⟩ = some v := by rw [World.cell?_setCell_other W _ _ _ (by simp)]; exact h.2.1
  refine ⟨?_, World.cell?_setCell_same _ _ _ h1, fun o => ?_⟩
  · rw [World.cell?_setCell_other _ _ _ _ (by simp)]
    exact World.cell?_setCell_same W _ _ h.1
  · rw [World.frozen?_setCell, World.frozen?_setCell]; exact h.2.2 o
theorem C2.far {W : World} {b b' : Nat} {u v : Value} (h : C2 W b u v) (hn : b ≠ b') (x y : Value) : C2 ((W.setCell ⟨b', 0, none⟩ x).setCell ⟨b', 1, none⟩ y) b u v := by
  refine ⟨?_, ?_, fun o => ?_⟩
  · rw [World.cell?_setCell_other _ _ _ _ (by simp <;> omega), World.cell?_setCell_other _ _ _ _ (by simp <;> omega)]; exact h.1
  · rw [World.cell?_setCell_other _ _ _ _ (by simp <;> omega), World.cell?_setCell_other _ _ _ _ (by simp <;> omega)]; exact h.2.1
  · rw [World.frozen?_setCell, World.frozen?_setCell]; exact h.2.2 o
set_option maxRecDepth 100000 in
set_option maxHeartbeats 4000000 in
theorem div_any (n : Nat) (u v : Value) (a b : Int) (w : World) (ha : IsZ w u n a) (hb : IsZ w v n b) (hn : n ≤ 200000) (hb0 : b ≠ 0) :
    Calls Try.prog 75 #[u, v] w (DOut (a.tdiv b) (a.tmod b) w) := by
  obtain ⟨p, A, c, l, rfl, hc, hL, hl, hAt, ea, ma, ca⟩ := isZ_open ha
  obtain ⟨q, A', c', l', rfl, hc', hL', hl', hAt', eb, mb, cb⟩ := isZ_open hb
  have hma := fun w' (h : Below w.heap.size w w') => mag_any A l c w' hL (hAt.below h) hc (by omega)
  have hmb := fun w' (h : Below w.heap.size w w') => mag_any A' l' c' w' hL' (hAt'.below h) hc' (by omega)
  rw [ma] at hma
  rw [mb] at hmb
  have hy0 : b.natAbs ≠ 0 := by omega
  obtain ⟨x, hx⟩ : ∃ x, x = a.natAbs := ⟨_, rfl⟩
  obtain ⟨y, hy⟩ : ∃ y, y = b.natAbs := ⟨_, rfl⟩
  rw [← hx] at hma ca ea
  rw [← hy] at hmb cb eb hy0
  obtain ⟨t1, t2⟩ := sv_tdiv ea eb
  obtain ⟨Q, hQ⟩ : ∃ Q, Q = a.tdiv b := ⟨_, rfl⟩
  obtain ⟨R, hR⟩ : ∃ R, R = a.tmod b := ⟨_, rfl⟩
  rw [← hQ] at t1 ⊢
  rw [← hR] at t2 ⊢
  have HMA := Lib.hid hma
  have HMB := Lib.hid hmb
  have HQ := Lib.hid t1
  have HR := Lib.hid t2
  clear hma hmb t1 t2 ma mb hx hy hQ hR ea eb hAt hAt' hL hL' ha hb hb0
  obtain ⟨s, hs⟩ : ∃ s, s = (p != q) := ⟨_, rfl⟩
  rw [← hs] at HQ
  replace hs : (!(p == q)) = s := by rw [hs]; cases p <;> cases q <;> rfl
  have hdv := fun A B c d w hA hB h1 h2 => divmag_any A B x y c d w (by omega) (by omega) hA hB h1 h2 hy0
  have HDV := Lib.hid hdv
  clear hdv hy0
  go_enter Try.func75, Try.ntmps75; (try simp only [List.append_eq, List.cons_append, List.nil_append])
  go_wp2_with fail
  -- own blocks: w.heap.size:2, w.heap.size + 1:2, w.heap.size + 1 + 1:2, w.heap.size + 1 + 1 + 1:2
  have HB0 := Lib.hid (show Below w.heap.size w ((((w.alloc (.cells #[.bool p, .slice A l.length c] 65)).alloc (.cells #[.bool q, .slice A' l'.length c'] 65)).alloc (.cells #[.bool false, .slice none 0 0] 65)).alloc (.cells #[.bool false, .slice none 0 0] 65)) by ((with_reducible (repeat (first | exact bR _ _ | refine bS ?_ ?_ _ | refine bA ?_ ?_ _ | refine bD ?_ | refine bT ?_ (by assumption) ?_ | refine bO (by assumption) ?_ ?_))) <;> (first | omega | (simp; done) | (simp <;> omega))))
  (refine pin_wp (N := _) (Nat.le_refl _) (fun w1 hb_w1 hz_w1 => ?_); (try simp at hz_w1); (with_reducible apply cel2 (b := w.heap.size) hb_w1); (focus ((try simp) <;> omega)); (focus omega); (focus (go_simp; try exact rfl)); (focus (go_simp; try exact rfl)); (focus (intro o; go_simp)); intro cc cc fz hl; (with_reducible apply cel2 (b := w.heap.size + 1) hb_w1); (focus ((try simp) <;> omega)); (focus omega); (focus (go_simp; try exact rfl)); (focus (go_simp; try exact rfl)); (focus (intro o; go_simp)); intro cc cc fz hl; (with_reducible apply cel2 (b := w.heap.size + 1 + 1) hb_w1); (focus ((try simp) <;> omega)); (focus omega); (focus (go_simp; try exact rfl)); (focus (go_simp; try exact rfl)); (focus (intro o; go_simp)); intro cc cc fz hl; (with_reducible apply cel2 (b := w.heap.size + 1 + 1 + 1) hb_w1); (focus ((try simp) <;> omega)); (focus omega); (focus (go_simp; try exact rfl)); (focus (go_simp; try exact rfl)); (focus (intro o; go_simp)); intro cc cc fz hl); refine wp_region_float w1.heap.size 12 (Nat.le_refl _) (fun _ => True) trivial Cl.tt (by kernel_rfl) (by simp) ?_
  have HB1 := Lib.hid (HB0.out.trans (hb_w1.mono (by simp <;> omega)))
  clear hb_w1
  refine wpI_start [0, 1] ?_; (iterate 2 (first | (refine wpI_off rfl (by kernel_rfl) rfl (fun K hK => ?_); go_simp; refine hK _ ?_; clear hK K) | ((first | apply wpI_step rfl (by kernel_rfl) rfl | apply wpI_on rfl (by kernel_rfl) rfl); (focus (intro W' hS; have hcS := hS.cells.1; have hfS := hS.cells.2; go_simp; (first | done | exact rfl | exact ⟨rfl, Below.refl _ _⟩ | (go_simp; first | done | exact rfl | exact ⟨rfl, Below.refl _ _⟩)))); intro K hK; go_simp; (try go_bits); refine hK _ ?_; clear hK K))); refine wpI_nil ?_
  refine wpI_start [3, 4] ?_; (iterate 2 (first | (refine wpI_off rfl (by kernel_rfl) rfl (fun K hK => ?_); go_simp; refine hK _ ?_; clear hK K) | ((first | apply wpI_step rfl (by kernel_rfl) rfl | apply wpI_on rfl (by kernel_rfl) rfl); (focus (intro W' hS; have hcS := hS.cells.1; have hfS := hS.cells.2; go_simp; (first | done | exact rfl | exact ⟨rfl, Below.refl _ _⟩ | (go_simp; first | done | exact rfl | exact ⟨rfl, Below.refl _ _⟩)))); intro K hK; go_simp; (try go_bits); refine hK _ ?_; clear hK K))); refine wpI_nil ?_
  apply wpF_call (i := 2) rfl (by kernel_rfl) (by kernel_rfl); intro W hF hS; have hcS := hS.1.cells.1; have hfS := hS.1.cells.2; go_simp; (go_at_call 90; refine (HMA.out _ (HB1.out.trans (hS.1.2.mono (by omega)))).mono ?_; rintro e w4 ⟨hb_w4, A1, c1, rfl, hc1, hA1⟩; refine XPost.mk _ (fun W => LAt W A1 (canN x)) hb_w4 (hA1) (LAt.cl _ _) ?_); clear hb_w4 hcS hfS hS hF
  intro K hK; go_simp; (try go_bits); refine hK _ ?_; clear hK K
  have HC1 := Lib.hid hc1
  clear hA1 hc1
  apply wpF_call (i := 5) rfl (by kernel_rfl) (by kernel_rfl); intro W hF hS; have hcS := hS.1.cells.1; have hfS := hS.1.cells.2; go_simp; (go_at_call 90; refine (HMB.out _ (HB1.out.trans (hS.1.2.mono (by omega)))).mono ?_; rintro e w5 ⟨hb_w5, A2, c2, rfl, hc2, hA2⟩; refine XPost.mk _ (fun W => LAt W A2 (canN y)) hb_w5 (hA2) (LAt.cl _ _) ?_); clear hb_w5 hcS hfS hS hF
  intro K hK; go_simp; (try go_bits); refine hK _ ?_; clear hK K
  have HC2 := Lib.hid hc2
  clear hA2 hc2
  apply wpF_call (i := 6) rfl (by kernel_rfl) (by kernel_rfl); intro W hF hS; have hcS := hS.1.cells.1; have hfS := hS.1.cells.2; go_simp; (go_at_call 93; refine (HDV.out A1 A2 c1 c2 W hF.1 hF.2 HC1.out HC2.out).mono ?_; rintro e w9 ⟨hb_w9, A3, c3, A4, c4, rfl, hc3, hc4, hA3, hA4⟩; refine XPost.mk _ (fun W => LAt W A3 (canN (x / y)) ∧ LAt W A4 (canN (x % y))) hb_w9 (⟨hA3, hA4⟩) (Cl.and (LAt.cl _ _) (LAt.cl _ _)) ?_); clear hb_w9 hcS hfS hS hF
  intro K hK; go_simp; (try go_bits); refine hK _ ?_; clear hK K
  have HC3 := Lib.hid hc3
  have HC4 := Lib.hid hc4
  clear hA3 hA4 hc3 hc4
  refine wpI_start [7, 8, 9, 10, 11] ?_; (iterate 5 (first | (refine wpI_off rfl (by kernel_rfl) rfl (fun K hK => ?_); go_simp; refine hK _ ?_; clear hK K) | ((first | apply wpI_step rfl (by kernel_rfl) rfl | apply wpI_on rfl (by kernel_rfl) rfl); (focus (intro W' hS; have hcS := hS.cells.1; have hfS := hS.cells.2; go_simp; (first | done | exact rfl | exact ⟨rfl, Below.refl _ _⟩ | (go_simp; first | done | exact rfl | exact ⟨rfl, Below.refl _ _⟩)))); intro K hK; go_simp; (try go_bits); refine hK _ ?_; clear hK K))); refine wpI_nil ?_
  refine wpF_done (by kernel_rfl) ?_
  intro w10 hF_w10 hSG
  have hz_w10 := hSG.1.1
  have hb_w10 := hSG.1.2
  clear hSG
  (with_reducible apply cel2 (b := w.heap.size) hb_w10); (focus ((try simp) <;> omega)); (focus omega); (focus (go_simp; try exact rfl)); (focus (go_simp; try exact rfl)); (focus (intro o; go_simp)); intro cc cc fz hl; (with_reducible apply cel2 (b := w.heap.size + 1) hb_w10); (focus ((try simp) <;> omega)); (focus omega); (focus (go_simp; try exact rfl)); (focus (go_simp; try exact rfl)); (focus (intro o; go_simp)); intro cc cc fz hl; (with_reducible apply cel2 (b := w.heap.size + 1 + 1) hb_w10); (focus ((try simp) <;> omega)); (focus omega); (focus (go_simp; try exact rfl)); (focus (go_simp; try exact rfl)); (focus (intro o; go_simp)); intro cc cc fz hl; (with_reducible apply cel2 (b := w.heap.size + 1 + 1 + 1) hb_w10); (focus ((try simp) <;> omega)); (focus omega); (focus (go_simp; try exact rfl)); (focus (go_simp; try exact rfl)); (focus (intro o; go_simp)); intro cc cc fz hl
  (try simp only [List.drop_succ_cons, List.drop_zero])
  have HB10 := Lib.hid (HB1.out.trans (hb_w10.mono (by omega)))
  have HF10 := Lib.hid hF_w10.2
  clear hF_w10 hb_w10
  have dq1 := Nat.div_le_self x y
  have dr1 := Nat.mod_le x y
  have hl3 : (canN (x / y)).length ≤ 200000 := Nat.le_trans (canN_mono dq1) (by omega)
  have hl4 : (canN (x % y)).length ≤ 200000 := Nat.le_trans (canN_mono dr1) (by omega)
  have hmq := fun w' h => make1_any s A3 (canN (x / y)) c3 w' (canN_lim _) h HC3.out (by omega)
  have hmr := fun w' h => make1_any p A4 (canN (x % y)) c4 w' (canN_lim _) h HC4.out (by omega)
  rw [mv_canN, ← HQ.out] at hmq
  rw [mv_canN, ← HR.out] at hmr
  have HMQ := Lib.hid hmq
  have HMR := Lib.hid hmr
  clear hmq hmr dq1 dr1
  go_wp2_with fail
  refine wp_region_float (w.heap.size + 1 + 1) 13 (by omega) (fun W => LAt W A3 (canN (x / y)) ∧ LAt W A4 (canN (x % y)) ∧ C2 W (w.heap.size + 1 + 1) (.bool false) (.slice none 0 0) ∧ C2 W (w.heap.size + 1 + 1 + 1) (.bool false) (.slice none 0 0)) (⟨HF10.out.1, HF10.out.2, ⟨by assumption, by assumption, by assumption⟩, ⟨by assumption, by assumption, by assumption⟩⟩) ((LAt.cl _ _).and ((LAt.cl _ _).and ((C2.cl _ _ _).and (C2.cl _ _ _)))) (by kernel_rfl) (by simp) ?_
  refine wpI_start [0, 1, 2, 3, 4, 5] ?_; (iterate 6 (first | (refine wpI_off rfl (by kernel_rfl) rfl (fun K hK => ?_); go_simp; refine hK _ ?_; clear hK K) | ((first | apply wpI_step rfl (by kernel_rfl) rfl | apply wpI_on rfl (by kernel_rfl) rfl); (focus (intro W' hS; have hcS := hS.cells.1; have hfS := hS.cells.2; go_simp; (first | done | exact rfl | exact ⟨rfl, Below.refl _ _⟩ | (go_simp; first | done | exact rfl | exact ⟨rfl, Below.refl _ _⟩)))); intro K hK; go_simp; (try go_bits); refine hK _ ?_; clear hK K))); refine wpI_nil ?_
  refine wpI_start [7, 8, 9] ?_; (iterate 3 (first | (refine wpI_off rfl (by kernel_rfl) rfl (fun K hK => ?_); go_simp; refine hK _ ?_; clear hK K) | ((first | apply wpI_step rfl (by kernel_rfl) rfl | apply wpI_on rfl (by kernel_rfl) rfl); (focus (intro W' hS; have hcS := hS.cells.1; have hfS := hS.cells.2; go_simp; (first | done | exact rfl | exact ⟨rfl, Below.refl _ _⟩ | (go_simp; first | done | exact rfl | exact ⟨rfl, Below.refl _ _⟩)))); intro K hK; go_simp; (try go_bits); refine hK _ ?_; clear hK K))); refine wpI_nil ?_
  apply wpF_call (i := 6) rfl (by kernel_rfl) (by kernel_rfl); intro W hF hS; have hcS := hS.1.cells.1; have hfS := hS.1.cells.2; go_simp; (go_at_call 89; refine (HMQ.out _ hF.1).mono ?_; rintro e w12 ⟨hb_w12, v5, rfl, A5, c5, rfl, hc5, hA5⟩; refine XPost.mk _ (fun W => LAt W A5 (canN Q.natAbs)) hb_w12 (hA5) (LAt.cl _ _) ?_); clear hb_w12 hcS hfS hS hF
  intro K hK; go_simp; (try go_bits); refine hK _ ?_; clear hK K
  have HC5 := Lib.hid hc5
  clear hA5 hc5
  apply wpF_call (i := 10) rfl (by kernel_rfl) (by kernel_rfl); intro W hF hS; have hcS := hS.1.cells.1; have hfS := hS.1.cells.2; go_simp; (go_at_call 89; refine (HMR.out _ hF.1.2.1).mono ?_; rintro e w13 ⟨hb_w13, v6, rfl, A6, c6, rfl, hc6, hA6⟩; refine XPost.mk _ (fun W => LAt W A6 (canN R.natAbs)) hb_w13 (hA6) (LAt.cl _ _) ?_); clear hb_w13 hcS hfS hS hF
  intro K hK; go_simp; (try go_bits); refine hK _ ?_; clear hK K
  have HC6 := Lib.hid hc6
  clear hA6 hc6
  apply wpF_wild (i := 11) rfl (by kernel_rfl) (by kernel_rfl); intro W hF hS; have hcS := hS.1.cells.1; have hfS := hS.1.cells.2; have k0 := hF.1.1.2.2.1.1; have k1 := hF.1.1.2.2.1.2.1; have k2 := hF.1.1.2.2.1.2.2; have k3 := hF.1.1.2.2.1.lt; go_simp
  refine WPost.mk _ (fun W' => LAt W' A5 (canN Q.natAbs) ∧ LAt W' A6 (canN R.natAbs) ∧ C2 W' (w.heap.size + 1 + 1) (.bool (decide (Q < 0))) (.slice A5 (canN Q.natAbs).length c5) ∧ C2 W' (w.heap.size + 1 + 1 + 1) (.bool false) (.slice none 0 0)) [] ⟨hF.1.2.set2 k0 k1 _ _, LAt.set2 hF.2 k0 k1 _ _, hF.1.1.2.2.1.set _ _, hF.1.1.2.2.2.far (by omega) _ _⟩ ((LAt.cl _ _).and ((LAt.cl _ _).and ((C2.cl _ _ _).and (C2.cl _ _ _)))) ⟨(hS.1.setCell (by simp) _).setCell (by simp) _, fun p hp => by cases hp⟩ ?_
  clear k0 k1 k2 k3 hcS hfS hS hF
  intro K hK; go_simp; refine hK _ ?_; clear hK K
  apply wpF_wild (i := 12) rfl (by kernel_rfl) (by kernel_rfl); intro W hF hS; have hcS := hS.1.cells.1; have hfS := hS.1.cells.2; have k0 := hF.2.2.2.1; have k1 := hF.2.2.2.2.1; have k2 := hF.2.2.2.2.2; have k3 := hF.2.2.2.lt; go_simp
  refine WPost.mk _ (fun W' => LAt W' A5 (canN Q.natAbs) ∧ LAt W' A6 (canN R.natAbs) ∧ C2 W' (w.heap.size + 1 + 1) (.bool (decide (Q < 0))) (.slice A5 (canN Q.natAbs).length c5) ∧ C2 W' (w.heap.size + 1 + 1 + 1) (.bool (decide (R < 0))) (.slice A6 (canN R.natAbs).length c6)) [] ⟨hF.1.set2 k0 k1 _ _, hF.2.1.set2 k0 k1 _ _, hF.2.2.1.far (by omega) _ _, hF.2.2.2.set _ _⟩ ((LAt.cl _ _).and ((LAt.cl _ _).and ((C2.cl _ _ _).and (C2.cl _ _ _)))) ⟨(hS.1.setCell (by simp <;> omega) _).setCell (by simp <;> omega) _, fun p hp => by cases hp⟩ ?_
  clear k0 k1 k2 k3 hcS hfS hS hF
  intro K hK; go_simp; refine hK _ ?_; clear hK K
  refine wpF_done (by kernel_rfl) ?_
  intro w14 hF14 hSG
  have HB14 := Lib.hid (HB10.out.trans (hSG.1.2.mono (by omega)))
  have HF14 := Lib.hid hF14
  have r0 := hF14.2.2.1.1
  have r1 := hF14.2.2.1.2.1
  have r2 := hF14.2.2.2.1
  have r3 := hF14.2.2.2.2.1
  have r4 := hF14.2.2.1.lt
  have r5 := hF14.2.2.2.lt
  clear hF14 hSG
  (try simp only [List.drop_succ_cons, List.drop_zero])
  go_wp2_with fail
  refine bodyPost_ret (v := .tuple #[.agg #[.bool (decide (Q < 0)), .slice A5 (canN Q.natAbs).length c5], .agg #[.bool (decide (R < 0)), .slice A6 (canN R.natAbs).length c6]]) (by simp only [results, Try.results75]; go_simp) rfl ⟨?_, ?_⟩
  · exact HB14.out
  · exact ⟨_, _, rfl, ⟨A5, c5, rfl, HC5.out, HF14.out.1⟩, ⟨A6, c6, rfl, HC6.out, HF14.out.2.1⟩⟩
end Go.Proofs.Ytkoejgpnlncgaaa
