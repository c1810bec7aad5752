/- Merged texts: RcC Lears Leps Lefs. -/
import Derived.Test.YtbpcjpiaimdpnaaGreatDoorCk15
import Derived.Deep.Cut
set_option linter.unusedSimpArgs false
set_option linter.unusedVariables false
namespace Go.Proofs.YtbpcjpiaimdpnaaGreatDoor
open Go Go.RowKit
set_option linter.unusedVariables false
def circR (x : Ac) : Int := if (!decide (rootR x.n1 * rootR x.n1 = x.n1) || !decide (x.n1 = x.n2) || decide (262144 < rootR x.n1) || decide (x.tn ≤ 0)) = true then 0 else rootR x.n1
set_option maxRecDepth 100000 in
set_option maxHeartbeats 8000000 in
theorem rcircle_any (x : Ac) (w : World) (hp : x.pB = true) : Calls Tryz.prog 84 #[x.v] w fun e w' => e = .returned (.int .i64 (circR x)) ∧ Below w.heap.size w w' := by
 obtain ⟨nm, lv, c1, c2, s1, s2, e1, e2, rs, gr, mn, sw⟩ := x
 simp only [Ac.pB, Bool.and_eq_true] at hp
 obtain ⟨hc, hs, he⟩ := hp
 obtain ⟨c1a, c1b, c2a, c2b⟩ := nearV_bd hc
 obtain ⟨s1a, s1b, s2a, s2b⟩ := nearV_bd hs
 obtain ⟨e1a, e1b, e2a, e2b⟩ := nearV_bd he
 simp only at *
 unfold circR Ac.n1 Ac.n2 Ac.tn Ac.v
 simp only
 obtain ⟨p, hp⟩ : ∃ p, p = s1 - c1 := ⟨_, rfl⟩
 obtain ⟨q, hq⟩ : ∃ p, p = s2 - c2 := ⟨_, rfl⟩
 obtain ⟨u, hu⟩ : ∃ p, p = e1 - c1 := ⟨_, rfl⟩
 obtain ⟨v, hv⟩ : ∃ p, p = e2 - c2 := ⟨_, rfl⟩
 rw [← hp, ← hq, ← hu, ← hv]
 have hpq : smallB p q = true := small_of (by omega)
 have huv : smallB u v = true := small_of (by omega)
 have m1 := (mul_bd p p 2097152 2097152 (by omega) (by omega) (by omega) (by omega))
 have m2 := (mul_bd q q 2097152 2097152 (by omega) (by omega) (by omega) (by omega))
 have z1 : 0 ≤ p * p := by rw [← Int.natAbs_mul_self]; exact Int.natCast_nonneg _
 have z2 : 0 ≤ q * q := by rw [← Int.natAbs_mul_self]; exact Int.natCast_nonneg _
 obtain ⟨N, hN⟩ : ∃ y, y = p * p + q * q := ⟨_, rfl⟩
 obtain ⟨M, hM⟩ : ∃ y, y = u * u + v * v := ⟨_, rfl⟩
 obtain ⟨T, hT⟩ : ∃ y, y = p * v - q * u := ⟨_, rfl⟩
 obtain ⟨R, hR⟩ : ∃ y, y = rootR N := ⟨_, rfl⟩
 have hRq : 0 ≤ R ∧ R * R ≤ N := by rw [hR]; exact rootR_sq (by omega)
 have hRb : R ≤ 4194304 := by
  rcases Int.lt_or_le 4194304 R with h | h
  · have : (4194305 : Int) * 4194305 ≤ R * R := Int.mul_le_mul h h (by omega) (by omega)
    omega
  · exact h
 obtain ⟨Q, hQ⟩ : ∃ Q, Q = R * R := ⟨_, rfl⟩
 rw [← hQ] at hRq
 obtain ⟨q0, q1⟩ := hRq
 obtain ⟨m1a, m1b⟩ := m1
 obtain ⟨m2a, m2b⟩ := m2
 have Q0 : 0 ≤ Q := by rw [hQ]; exact Int.mul_nonneg q0 q0
 have K1 := hQ0 (fun w => rsub_sm s1 s2 c1 c2 w (small_of (by omega)) (small_of (by omega)) (by rw [← hp, ← hq]; exact hpq))
 have K2 := hQ0 (fun w => rsub_sm e1 e2 c1 c2 w (small_of (by omega)) (small_of (by omega)) (by rw [← hu, ← hv]; exact huv))
 have K3 := hQ0 (fun w => rdot_sm p q p q w hpq hpq)
 have K4 := hQ0 (fun w => rdot_sm u v u v w huv huv)
 have K5 := hQ0 (fun w => rcross_sm p q u v w hpq huv)
 have K6 := hQ0 (fun w => rroot_any N w (by omega) (by omega))
 rw [← hp, ← hq] at K1
 rw [← hu, ← hv] at K2
 rw [← hN] at K3
 rw [← hM] at K4
 rw [← hT] at K5
 rw [← hR] at K6
 rw [← hN, ← hM, ← hT, ← hR, ← hQ]
 have N1 : N ≤ 8796093022208 := by omega
 have HC := hQ0 hc
 have HS := hQ0 hs
 have HE := hQ0 he
 clear hc hs he hp hq hu hv hN hM hT hR m1a m1b m2a m2b z1 z2 hpq huv
 obtain ⟨ZZ, hZZ⟩ : ∃ z, z = (!decide (Q = N) || !decide (N = M) || decide (262144 < R) || decide (T ≤ 0)) := ⟨_, rfl⟩
 rw [← hZZ]
 have HZZ := hQ0 hZZ
 clear hZZ
 have eQ : IntKind.i64.wrap (R * R) = Q := by rw [← hQ, IntKind.wrap_i64]; omega
 have HQ := hQ0 hQ
 clear hQ
 go_enter Tryz.func84, Tryz.ntmps84; (try simp only [List.append_eq, List.cons_append, List.nil_append])
 go_upto_region 1 with (fail)
 (refine pin_eqT (fun w0 hE_w1 => ?_))
 have hX0 : BoxAt w0 w.heap.size [.string nm, .int .i64 lv, .int .i64 c1, .int .i64 c2, .int .i64 s1, .int .i64 s2, .int .i64 e1, .int .i64 e2, .int .i64 rs, .int .i64 gr, .int .i64 mn, .int .i64 sw] := by rw [hE_w1]; exact BoxAt.new _ _ _
 have hBn0 : Below w.heap.size w w0 := by rw [hE_w1]; ((with_reducible (repeat (first | exact bR _ _ | apply bS | apply bA | apply bD | refine bT ?_ (by assumption) ?_ | refine bO (by assumption) ?_ ?_))) <;> (first | omega | (simp <;> omega)))
 clear hE_w1
 have x2 := hX0.c 2 _ rfl; have x3 := hX0.c 3 _ rfl; have x4 := hX0.c 4 _ rfl; have x5 := hX0.c 5 _ rfl; have x6 := hX0.c 6 _ rfl; have x7 := hX0.c 7 _ rfl
 go_upto_region 3 with (first | (have hq_ := hn2; go_at_call 35; refine (rnear_any e1 e2 1048576 _ (by decide) (by decide)).mono ?_; rintro e wn3 ⟨rfl, hn3⟩; have hX3 := (hX2).below hn3 (hX2).lt; have x2 := hX3.c 2 _ rfl; have x3 := hX3.c 3 _ rfl; have x4 := hX3.c 4 _ rfl; have x5 := hX3.c 5 _ rfl; have x6 := hX3.c 6 _ rfl; have x7 := hX3.c 7 _ rfl; have hBn3 := (hBn2).trans (hn3.mono (hBn2).size); rw [HE.out]) | (have hq_ := hn1; go_at_call 35; refine (rnear_any s1 s2 1048576 _ (by decide) (by decide)).mono ?_; rintro e wn2 ⟨rfl, hn2⟩; have hX2 := (hX1).below hn2 (hX1).lt; have x2 := hX2.c 2 _ rfl; have x3 := hX2.c 3 _ rfl; have x4 := hX2.c 4 _ rfl; have x5 := hX2.c 5 _ rfl; have x6 := hX2.c 6 _ rfl; have x7 := hX2.c 7 _ rfl; have hBn2 := (hBn1).trans (hn2.mono (hBn1).size); rw [HS.out]) | (go_at_call 35; refine (rnear_any c1 c2 1048576 _ (by decide) (by decide)).mono ?_; rintro e wn1 ⟨rfl, hn1⟩; have hX1 := (hX0).below hn1 (hX0).lt; have x2 := hX1.c 2 _ rfl; have x3 := hX1.c 3 _ rfl; have x4 := hX1.c 4 _ rfl; have x5 := hX1.c 5 _ rfl; have x6 := hX1.c 6 _ rfl; have x7 := hX1.c 7 _ rfl; have hBn1 := (hBn0).trans (hn1.mono (hBn0).size); rw [HC.out]))
 (refine pin_eqT (fun w1 hE_w1 => ?_))
 have hX : BoxAt w1 w.heap.size [.string nm, .int .i64 lv, .int .i64 c1, .int .i64 c2, .int .i64 s1, .int .i64 s2, .int .i64 e1, .int .i64 e2, .int .i64 rs, .int .i64 gr, .int .i64 mn, .int .i64 sw] := by rw [hE_w1]; exact hX3
 have hb_w1 : Below w.heap.size w w1 := by rw [hE_w1]; exact hBn3
 have hz_w1 := hb_w1.size
 clear hE_w1 hX0 hX1 hX2 hX3 hBn0 hBn1 hBn2 hBn3 hn1 hn2 hn3 x2 x3 x4 x5 x6 x7
 have x2 := hX.c 2 _ rfl
 have x3 := hX.c 3 _ rfl
 have x4 := hX.c 4 _ rfl
 have x5 := hX.c 5 _ rfl
 have x6 := hX.c 6 _ rfl
 have x7 := hX.c 7 _ rfl
 have hl1 := hX.lt
 refine wp_region_floatQ w1.heap.size 12 [12, 13] (Nat.le_refl _) (fun _ => True) trivial Cl.tt (by kernel_rfl) (by kernel_rfl) ?_
 refine wpQI_start [0, 1, 2, 3] ?_; (iterate 4 (first | (apply wpQI_step (zA rfl) (by kernel_rfl) (by exact rfl); (focus (intro W' hS; have hcS := hS.cells; go_simp; (iterate 2 (first | done | exact rfl | exact bB _ | go_simp)))); intro K hK; go_simp; (try go_bits); refine hK _ ?_; clear hK K))); refine wpQI_nil ?_
 refine wpQI_start [4] ?_; (iterate 1 (first | (apply wpQI_step (zA rfl) (by kernel_rfl) (by exact rfl); (focus (intro W' hS; have hcS := hS.cells; go_simp; (first | done | exact rfl | exact ⟨rfl, Below.refl _ _⟩ | (go_at_call 148; exact (K1.out _).mono (fun _ _ h => ⟨h.1, h.2⟩)) | (go_simp; first | done | exact rfl | exact ⟨rfl, Below.refl _ _⟩)))); intro K hK; go_simp; (try go_bits); refine hK _ ?_; clear hK K))); refine wpQI_nil ?_
 refine wpQI_start [5, 6, 7, 8] ?_; (iterate 4 (first | (apply wpQI_step (zA rfl) (by kernel_rfl) (by exact rfl); (focus (intro W' hS; have hcS := hS.cells; go_simp; (iterate 2 (first | done | exact rfl | exact bB _ | go_simp)))); intro K hK; go_simp; (try go_bits); refine hK _ ?_; clear hK K))); refine wpQI_nil ?_
 refine wpQI_start [9] ?_; (iterate 1 (first | (apply wpQI_step (zA rfl) (by kernel_rfl) (by exact rfl); (focus (intro W' hS; have hcS := hS.cells; go_simp; (first | done | exact rfl | exact ⟨rfl, Below.refl _ _⟩ | (go_at_call 148; exact (K2.out _).mono (fun _ _ h => ⟨h.1, h.2⟩)) | (go_simp; first | done | exact rfl | exact ⟨rfl, Below.refl _ _⟩)))); intro K hK; go_simp; (try go_bits); refine hK _ ?_; clear hK K))); refine wpQI_nil ?_
 apply wpQ_fresh (i := 10) LInv.std (zA rfl) (by kernel_rfl) (fun g => Value.pointer (some ⟨g, 0, none⟩)) (by exact rfl); (focus (intro W; go_simp; first | done | exact rfl | exact ⟨rfl, rfl⟩))
 intro g_s hN_s hG_s K hK
 go_simp; refine hK _ ?_; clear hK K
 apply wpQ_fresh (i := 11) LInv.std (zA rfl) (by kernel_rfl) (fun g => Value.pointer (some ⟨g, 0, none⟩)) (by exact rfl); (focus (intro W; go_simp; first | done | exact rfl | exact ⟨rfl, rfl⟩))
 intro g_e hN_e hG_e K hK
 go_simp; refine hK _ ?_; clear hK K
 have hne : g_s ≠ g_e := by have h_ := hG_e _ (List.mem_cons_self ..); simpa using h_
 refine wpQ_done (by kernel_rfl) ?_
 intro w2 hF_w2 hSG
 have hz_w2 := hSG.1.1
 have hb_w2 := hSG.1.2
 have hB_e := (hSG.2 _ (List.mem_cons_self ..)).2; simp only at hB_e; have hl_e := (hSG.size (List.mem_cons_self ..)); simp only at hl_e
 have cc := cell_of_row w2 g_e 0 _ _ _ hB_e; simp only [List.getElem?_toArray, List.getElem?_cons_zero] at cc
 have cc := cell_of_row w2 g_e 1 _ _ _ hB_e; simp only [List.getElem?_toArray, List.getElem?_cons_zero, List.getElem?_cons_succ] at cc
 have fz : (∀ o, w2.frozen? ⟨g_e, o, none⟩ = false) := (fun o => frozen_of_row w2 g_e o _ _ hB_e); have HH_e := hQ0 hB_e; clear hB_e
 have hB_s := (hSG.2 _ (List.mem_cons_of_mem _ (List.mem_cons_self ..))).2; simp only at hB_s; have hl_s := (hSG.size (List.mem_cons_of_mem _ (List.mem_cons_self ..))); simp only at hl_s
 have cc := cell_of_row w2 g_s 0 _ _ _ hB_s; simp only [List.getElem?_toArray, List.getElem?_cons_zero] at cc
 have cc := cell_of_row w2 g_s 1 _ _ _ hB_s; simp only [List.getElem?_toArray, List.getElem?_cons_zero, List.getElem?_cons_succ] at cc
 have fz : (∀ o, w2.frozen? ⟨g_s, o, none⟩ = false) := (fun o => frozen_of_row w2 g_s o _ _ hB_s); have HH_s := hQ0 hB_s; clear hB_s
 clear hSG
 skip
 (try simp only [List.filterMap_cons, List.filterMap_nil, List.getElem?_cons_succ, List.getElem?_cons_zero])
 go_upto_region 4 with (fail)
 (refine pin_eqT (fun w3 hE_w3 => ?_))
 have hS3 : BoxAt w3 g_s [.int .i64 p, .int .i64 q] := ⟨by intro j u_ hj; match j, hj with
  | 0, hj => cases hj; rw [hE_w3]; go_simp
  | 1, hj => cases hj; rw [hE_w3]; go_simp
  | j + 2, hj => simp at hj, by intro o; rw [hE_w3]; go_simp, by rw [hE_w3]; simpa using hl_s⟩
 have hE3 : BoxAt w3 g_e [.int .i64 u, .int .i64 v] := ⟨by intro j u_ hj; match j, hj with
  | 0, hj => cases hj; rw [hE_w3]; go_simp
  | 1, hj => cases hj; rw [hE_w3]; go_simp
  | j + 2, hj => simp at hj, by intro o; rw [hE_w3]; go_simp, by rw [hE_w3]; simpa using hl_e⟩
 have hBB : Below w.heap.size w w3 := by rw [hE_w3]; have := hN_s; have := hN_e; exact ((((hb_w1.trans (hb_w2.mono hz_w1)).setCell (p := ⟨g_s, 0, none⟩) (by simp; omega) _).setCell (p := ⟨g_s, 1, none⟩) (by simp; omega) _).setCell (p := ⟨g_e, 0, none⟩) (by simp; omega) _).setCell (p := ⟨g_e, 1, none⟩) (by simp; omega) _
 clear hE_w3
 have cs0 := hS3.c 0 _ rfl
 have cs1 := hS3.c 1 _ rfl
 go_upto_region 6 with (first | (go_at_call 149; refine (K3.out _).mono ?_; rintro e w4 ⟨rfl, hb4⟩) | (have hq_ := hb4; go_at_call 150; refine (K6.out _).mono ?_; rintro e w5 ⟨rfl, hb5⟩))
 (refine pin_eqT (fun w6 hE_w6 => ?_))
 have hB45 : Below w3.heap.size w3 w6 := by rw [hE_w6]; exact hb4.trans (hb5.mono hb4.size)
 have HS6 : Hid (BoxAt w6 g_s [.int .i64 p, .int .i64 q]) := hQ0 (hS3.below hB45 hS3.lt)
 have HE6 : Hid (BoxAt w6 g_e [.int .i64 u, .int .i64 v]) := hQ0 (hE3.below hB45 hE3.lt)
 have HBB : Hid (Below w.heap.size w w6) := hQ0 (hBB.trans (hB45.mono hBB.size))
 clear hE_w6 hBB hS3 hE3 hb4 hb5 hB45 cs0 cs1
 obtain ⟨b0, hb0⟩ : ∃ b, b = (!decide (Q = N)) := ⟨_, rfl⟩
 have HHb0 := hQ0 hb0
 clear hb0
 obtain ⟨b1, hb1⟩ : ∃ b, b = (!decide (N = M)) := ⟨_, rfl⟩
 have HHb1 := hQ0 hb1
 clear hb1
 obtain ⟨b2, hb2⟩ : ∃ b, b = (decide (262144 < R)) := ⟨_, rfl⟩
 have HHb2 := hQ0 hb2
 clear hb2
 obtain ⟨b3, hb3⟩ : ∃ b, b = (decide (T ≤ 0)) := ⟨_, rfl⟩
 have HHb3 := hQ0 hb3
 clear hb3
 refine wp_region_lit ?_
 have hS_ : Below w6.heap.size w6 w6 := Below.refl _ _
 iterate 2 (apply wpL_maybe true (by exact rfl); (case h => intro _; have hcW_ := (bcellW hS_).1; go_simp; try exact rfl); intro K hK; go_simp; apply hK; clear hK K)
 apply wpL_maybe true (by exact rfl) (.int .i64 Q)
 (case h => intro _; have hcW_ := (bcellW hS_).1; go_simp; first | done | (rw [eQ]))
 intro K hK; go_simp; apply hK; clear hK K
 apply wpL_maybe true (by exact rfl)
 (case h => intro _; have hcW_ := (bcellW hS_).1; go_simp; try exact rfl)
 intro K hK; go_simp; apply hK; clear hK K
 apply wpL_maybe true (by exact rfl) (.bool b0)
 (case h => intro _; have hcW_ := (bcellW hS_).1; go_simp; rw [HHb0.out]; first | done | exact rfl | simp)
 intro K hK; go_simp; apply hK; clear hK K
 apply wpL_maybe true (by exact rfl)
 (case h => intro _; have hcW_ := (bcellW hS_).1; go_simp; try exact rfl)
 intro K hK; go_simp; apply hK; clear hK K
 apply wpL_maybe (!b0) (by clear hS_; cases b0 <;> rfl)
 (case h => intro hc_; obtain rfl : b0 = false := (by simpa using hc_); (try simp only [Bool.not_false, opt_true]); have hcW_ := (bcellW hS_).1; go_simp; try exact rfl)
 intro K hK; go_simp; apply hK; clear hK K
 apply wpL_maybe (!b0) (by clear hS_; cases b0 <;> rfl)
 (case h => intro hc_; obtain rfl : b0 = false := (by simpa using hc_); (try simp only [Bool.not_false, opt_true]); have hY_ := (HE6.out).below hS_ (HE6.out.lt); have y0_ := hY_.c 0 (.int .i64 u) (rfl); have y1_ := hY_.c 1 (.int .i64 v) (rfl); go_simp; try exact rfl)
 intro K hK; go_simp; apply hK; clear hK K
 apply wpL_maybe (!b0) (by clear hS_; cases b0 <;> rfl)
 (case h => intro hc_; obtain rfl : b0 = false := (by simpa using hc_); (try simp only [Bool.not_false, opt_true]); have hY_ := (HE6.out).below hS_ (HE6.out.lt); have y0_ := hY_.c 0 (.int .i64 u) (rfl); have y1_ := hY_.c 1 (.int .i64 v) (rfl); go_simp; try exact rfl)
 intro K hK; go_simp; apply hK; clear hK K
 refine wpL_callm (S := Below w6.heap.size w6)  (!b0) (by clear hS_; cases b0 <;> rfl) (.int .i64 M) ?_ hS_ ?_
 · intro hc_; obtain rfl : b0 = false := (by simpa using hc_); intro N_ hN_; generalize hA_ : Act.mk _ _ = A_ at hN_ ⊢; (have v45_ := evA hA_ 45; simp only [getL64, getL8, getL1, getL0, opt_true, Bool.not_false] at v45_); (have v46_ := evA hA_ 46; simp only [getL64, getL8, getL1, getL0, opt_true, Bool.not_false] at v46_); clear hA_; have vc_ := acC A_; have vf_ := acF A_; generalize Act.eval A_ = ev_ at vc_ vf_ v45_ v46_ ⊢; go_simp; go_at_call 149; refine (K4.out _).mono ?_; rintro e w9 ⟨rfl, hb9⟩; exact hN_ _ (hS_.trans (hb9.mono hS_.size))
 intro K hK w_ hS2_; go_simp; apply hK; clear hK K hS_; have hS_ := hS2_; clear hS2_
 apply wpL_maybe (!b0) (by clear hS_; cases b0 <;> rfl) (.bool b1)
 (case h => intro hc_; obtain rfl : b0 = false := (by simpa using hc_); (try simp only [Bool.not_false, opt_true]); have hcW_ := (bcellW hS_).1; go_simp; rw [HHb1.out]; first | done | exact rfl | simp)
 intro K hK; go_simp; apply hK; clear hK K
 obtain ⟨d6_1, hd6_1⟩ : ∃ b_, b_ = (b0 || b1) := ⟨_, rfl⟩
 apply wpL_maybe true (by exact rfl) (.bool d6_1) (by intro _; rw [hd6_1]; cases b0 <;> (go_simp; try exact rfl))
 have Hd6_1 := hQ0 hd6_1; clear hd6_1
 intro K hK; go_simp; apply hK; clear hK K
 apply wpL_maybe true (by exact rfl)
 (case h => intro _; have hcW_ := (bcellW hS_).1; go_simp; try exact rfl)
 intro K hK; go_simp; apply hK; clear hK K
 apply wpL_maybe (!d6_1) (by clear hS_; cases d6_1 <;> rfl)
 (case h => intro hc_; obtain rfl : d6_1 = false := (by simpa using hc_); (try simp only [Bool.not_false, opt_true]); have hcW_ := (bcellW hS_).1; go_simp; try exact rfl)
 intro K hK; go_simp; apply hK; clear hK K
 apply wpL_maybe (!d6_1) (by clear hS_; cases d6_1 <;> rfl) (.bool b2)
 (case h => intro hc_; obtain rfl : d6_1 = false := (by simpa using hc_); (try simp only [Bool.not_false, opt_true]); have hcW_ := (bcellW hS_).1; go_simp; rw [HHb2.out]; first | done | exact rfl | simp)
 intro K hK; go_simp; apply hK; clear hK K
 obtain ⟨d6_2, hd6_2⟩ : ∃ b_, b_ = (d6_1 || b2) := ⟨_, rfl⟩
 apply wpL_maybe true (by exact rfl) (.bool d6_2) (by intro _; rw [hd6_2]; cases d6_1 <;> (go_simp; try exact rfl))
 have Hd6_2 := hQ0 hd6_2; clear hd6_2
 intro K hK; go_simp; apply hK; clear hK K
 apply wpL_maybe true (by exact rfl)
 (case h => intro _; have hcW_ := (bcellW hS_).1; go_simp; try exact rfl)
 intro K hK; go_simp; apply hK; clear hK K
 apply wpL_maybe (!d6_2) (by clear hS_; cases d6_2 <;> rfl)
 (case h => intro hc_; obtain rfl : d6_2 = false := (by simpa using hc_); (try simp only [Bool.not_false, opt_true]); have hY_ := (HS6.out).below hS_ (HS6.out.lt); have y0_ := hY_.c 0 (.int .i64 p) (rfl); have y1_ := hY_.c 1 (.int .i64 q) (rfl); go_simp; try exact rfl)
 intro K hK; go_simp; apply hK; clear hK K
 apply wpL_maybe (!d6_2) (by clear hS_; cases d6_2 <;> rfl)
 (case h => intro hc_; obtain rfl : d6_2 = false := (by simpa using hc_); (try simp only [Bool.not_false, opt_true]); have hY_ := (HE6.out).below hS_ (HE6.out.lt); have y0_ := hY_.c 0 (.int .i64 u) (rfl); have y1_ := hY_.c 1 (.int .i64 v) (rfl); go_simp; try exact rfl)
 intro K hK; go_simp; apply hK; clear hK K
 refine wpL_callm (S := Below w6.heap.size w6)  (!d6_2) (by clear hS_; cases d6_2 <;> rfl) (.int .i64 T) ?_ hS_ ?_
 · intro hc_; obtain rfl : d6_2 = false := (by simpa using hc_); intro N_ hN_; generalize hA_ : Act.mk _ _ = A_ at hN_ ⊢; (have v55_ := evA hA_ 55; simp only [getL64, getL8, getL1, getL0, opt_true, Bool.not_false] at v55_); (have v56_ := evA hA_ 56; simp only [getL64, getL8, getL1, getL0, opt_true, Bool.not_false] at v56_); clear hA_; have vc_ := acC A_; have vf_ := acF A_; generalize Act.eval A_ = ev_ at vc_ vf_ v55_ v56_ ⊢; go_simp; go_at_call 151; refine (K5.out _).mono ?_; rintro e w9 ⟨rfl, hb9⟩; exact hN_ _ (hS_.trans (hb9.mono hS_.size))
 intro K hK w_ hS2_; go_simp; apply hK; clear hK K hS_; have hS_ := hS2_; clear hS2_
 apply wpL_maybe (!d6_2) (by clear hS_; cases d6_2 <;> rfl) (.bool b3)
 (case h => intro hc_; obtain rfl : d6_2 = false := (by simpa using hc_); (try simp only [Bool.not_false, opt_true]); have hcW_ := (bcellW hS_).1; go_simp; rw [HHb3.out]; first | done | exact rfl | simp)
 intro K hK; go_simp; apply hK; clear hK K
 obtain ⟨d6_3, hd6_3⟩ : ∃ b_, b_ = (d6_2 || b3) := ⟨_, rfl⟩
 apply wpL_maybe true (by exact rfl) (.bool d6_3) (by intro _; rw [hd6_3]; cases d6_2 <;> (go_simp; try exact rfl))
 have Hd6_3 := hQ0 hd6_3; clear hd6_3
 intro K hK; go_simp; apply hK; clear hK K
 refine wpList_nil ?_
 (try go_simp)
 have hr_ : d6_3 = ZZ := by
  rw [HZZ.out]
  simp only [Hd6_3.out, Hd6_2.out, Hd6_1.out, HHb0.out, HHb1.out, HHb2.out, HHb3.out]
 have HR_ := hQ0 hr_
 clear hr_
 cases d6_3
 · obtain rfl : ZZ = false := HR_.out.symm
   go_wp2_with fail
   go_ret
   exact ⟨rfl, HBB.out.trans (hS_.mono HBB.out.size)⟩
 · obtain rfl : ZZ = true := HR_.out.symm
   go_wp2_with fail
   go_ret
   exact ⟨rfl, HBB.out.trans (hS_.mono HBB.out.size)⟩
attribute [local go_sem ↓] evalL getL64 setL64
attribute [local go_sem ↓] getL8 setL8
attribute [local go_sem ↓] getL1 getL0
theorem circ_round (x : Ac) (rad : Int) (h : 0 ≤ rad) : decide (2 * rad < circR x) = roundB x rad := by
 unfold circR roundB
 generalize rootR x.n1 = r
 rw [show decide (262144 < r) = !decide (r ≤ 262144) by rw [← decide_not]; congr 1; exact propext (by omega), show decide (x.tn ≤ 0) = !decide (0 < x.tn) by rw [← decide_not]; congr 1; exact propext (by omega)]
 generalize decide (r * r = x.n1) = b1
 generalize decide (x.n1 = x.n2) = b2
 generalize decide (r ≤ 262144) = b3
 generalize decide (0 < x.tn) = b4
 cases b1 <;> cases b2 <;> cases b3 <;> cases b4 <;> first | rfl | (simp; done) | (simp; omega)
set_option maxRecDepth 100000 in
set_option maxHeartbeats 8000000 in
theorem le_ars (w wr : World) (base : Nat) (A A0 : Option Addr) (c c0 : Nat) (l : List Ac) (L0 : List El) (TC : List Value) (rad : Int) (df : List Deferred) (F : List Value) (hF : F.length = 266) (f1 : F[1]? = some (.pointer (some ⟨w.heap.size, 0, none⟩))) (f3 : F[3]? = some (.slice A0 L0.length c0)) (f7 : F[7]? = some (.int .i64 0))
  (hTC : TC[9]? = some (.slice A l.length c)) (hT0 : TC[0]? = some (.int .i64 rad)) (r0 : 0 ≤ rad) (r1 : rad ≤ 32768) (hA : RowsAt 12 Ac.cells w A l) (hl : l.length ≤ 1000) (hL : L0.length ≤ 100000) (hwb : w.heap.size < base) (hb : Below w.heap.size w wr) (hbs : base ≤ wr.heap.size) (hT : BoxAt wr w.heap.size TC) (hX : ElOwn wr base A0 c0 L0) (R : Act → World → Prop)
  (hR : ∀ (F' : List Value) (w' : World) (A' : Option Addr) (c' : Nat), F'.length = 266 → F'[1]? = F[1]? → F'[2]? = F[2]? → F'[3]? = some (.slice A' (L0 ++ l.map (Ac.el rad)).length c') → Below w.heap.size w w' → base ≤ w'.heap.size → BoxAt w' w.heap.size TC → ElOwn w' base A' c' (L0 ++ l.map (Ac.el rad)) → R ⟨F'.toArray, df⟩ w') :
  (blkOf 2 Tryz.f36).wp Tryz.prog (AtEnd R) ⟨F.toArray, df⟩ wr := by
 obtain ⟨s, rfl⟩ := fr266_ex F hF
 have e1 : s 1 = .pointer (some ⟨w.heap.size, 0, none⟩) := Option.some.inj f1
 have e3 : s 3 = .slice A0 L0.length c0 := Option.some.inj f3
 have e7 : s 7 = .int .i64 0 := Option.some.inj f7
 unfold fr266
 rw [e1, e3, e7]
 have HE1 := hQ0 e1
 clear hF e1 f1 e3 f3 e7 f7
 have HA := hQ0 hA
 have HR := hQ0 hR
 have HLl := hQ0 hL
 have HT := hQ0 hT
 have HX := hQ0 hX
 have HB := hQ0 hb
 have HTC := hQ0 hTC
 have HT0 := hQ0 hT0
 clear hT0
 clear hA hR hL hT hX hb hTC
 conv in (blkOf _ _) => whnf
 go_wp2_with fail
 go_loopg [3, 7] (l.length + 1) (fun gk t3 tt wr => ∃ (k : Nat) (A1 : Option Addr) (c1 : Nat), k ≤ l.length ∧ l.length - k < gk ∧ t3 = .slice A1 (L0 ++ (l.take k).map (Ac.el rad)).length c1 ∧ tt = .int .i64 k ∧ base ≤ wr.heap.size ∧ Hid (Below w.heap.size w wr ∧ BoxAt wr w.heap.size TC ∧ ElOwn wr base A1 c1 (L0 ++ (l.take k).map (Ac.el rad))))
 case atStart => exact ⟨0, A0, c0, by omega, by omega, by simp, rfl, hbs, hQ0 ⟨HB.out, HT.out, by simpa using HX.out⟩⟩
 case round =>
  obtain ⟨wq, rfl⟩ : ∃ z, z = wr := ⟨_, rfl⟩
  clear HB HT HX hbs
  obtain ⟨k, A1, c1_, hk, hkk, rfl, rfl, hbs, HJ⟩ := hrel
  have hz_wq := HJ.out.1.size
  obtain ⟨L, hL⟩ : ∃ L : List El, L = L0 ++ (l.take k).map (Ac.el rad) := ⟨_, rfl⟩
  rw [← hL] at HJ ⊢
  have HL := hQ0 hL
  clear hL
  have tq := HJ.out.2.1.c 9 _ HTC.out
  have hltT := HJ.out.2.1.lt
  by_cases hlt : k < l.length
  · obtain ⟨x, hx⟩ : ∃ x, l[k]? = some x := ⟨l[k], by simp⟩
    obtain ⟨g, o, rfl, hg, c0, c1, c2, c3, c4, c5, c6, c7, c8, c9, c10, c11⟩ := Ac.get (HA.out.below HJ.out.1 (Nat.le_refl _)) hx
    have i1 : (k : Int) < (l.length : Int) := by omega
    have HXX := hQ0 hx
    clear hx
    go_upto_region 12 with (fail)
    (refine pin_eqT (fun w3 hE_w3 => ?_))
    obtain ⟨gb, hgb⟩ : ∃ z, z = wq.heap.size := ⟨_, rfl⟩
    rw [← hgb]
    have HX3 : Hid (BoxAt w3 gb x.cells) := hQ0 (by rw [hE_w3, hgb]; exact BoxAt.new _ _ _)
    have HJ3 : Hid (Below w.heap.size w w3 ∧ BoxAt w3 w.heap.size TC ∧ ElOwn w3 base A1 c1_ L) := hQ0 (by
     rw [hE_w3]
     exact ⟨HJ.out.1.alloc hz_wq _, HJ.out.2.1.alloc _, own_below HJ.out.2.2 ((Below.refl _ _).alloc (Nat.le_refl _) _) (Nat.le_refl _)⟩)
    have hz3 : wq.heap.size < w3.heap.size := by rw [hE_w3]; simp
    clear hgb hE_w3 c0 c1 c2 c3 c4 c5 c6 c7 c8 c9 c10 c11 hg tq hltT
    obtain ⟨p0, hp0⟩ : ∃ b, b = (in1 0 3 x.lv) := ⟨_, rfl⟩
    have HHp0 := hQ0 hp0
    clear hp0
    obtain ⟨p1, hp1⟩ : ∃ b, b = (nearV 1048576 ⟨x.c1, x.c2⟩) := ⟨_, rfl⟩
    have HHp1 := hQ0 hp1
    clear hp1
    obtain ⟨p2, hp2⟩ : ∃ b, b = (nearV 1048576 ⟨x.s1, x.s2⟩) := ⟨_, rfl⟩
    have HHp2 := hQ0 hp2
    clear hp2
    obtain ⟨p3, hp3⟩ : ∃ b, b = (nearV 1048576 ⟨x.e1, x.e2⟩) := ⟨_, rfl⟩
    have HHp3 := hQ0 hp3
    clear hp3
    obtain ⟨p4, hp4⟩ : ∃ b, b = (in1 0 15 x.rs) := ⟨_, rfl⟩
    have HHp4 := hQ0 hp4
    clear hp4
    obtain ⟨p5, hp5⟩ : ∃ b, b = (in1 0 15 x.gr) := ⟨_, rfl⟩
    have HHp5 := hQ0 hp5
    clear hp5
    obtain ⟨p6, hp6⟩ : ∃ b, b = (in1 0 16384 x.mn) := ⟨_, rfl⟩
    have HHp6 := hQ0 hp6
    clear hp6
    obtain ⟨p7, hp7⟩ : ∃ b, b = (in1 (-1) 63 x.sw) := ⟨_, rfl⟩
    have HHp7 := hQ0 hp7
    clear hp7
    refine wp_region_lit ?_
    have hS_ : Below w3.heap.size w3 w3 := Below.refl _ _
    iterate 2 (apply wpL_maybe true (by exact rfl); (case h => intro _; have hcW_ := (bcellW hS_).1; have hY_ := (HX3.out).below hS_ (HX3.out.lt); have y0_ := hY_.c 1 (.int .i64 x.lv) (rfl); go_simp; try exact rfl); intro K hK; go_simp; apply hK; clear hK K)
    refine wpL_callm (S := Below w3.heap.size w3)  true (by exact rfl) (.bool p0) ?_ hS_ ?_
    · intro _; intro N_ hN_; generalize hA_ : Act.mk _ _ = A_ at hN_ ⊢; (have v101_ := evA hA_ 101; simp only [getL64, getL8, getL1, getL0, opt_true, Bool.not_false] at v101_); clear hA_; have vc_ := acC A_; have vf_ := acF A_; generalize Act.eval A_ = ev_ at vc_ vf_ v101_ ⊢; go_simp; go_at_call 34; refine (rin_any _ _ _ _).mono ?_; rintro e w9 ⟨rfl, hb9⟩; rw [← HHp0.out]; exact hN_ _ (hS_.trans (hb9.mono hS_.size))
    intro K hK w_ hS2_; go_simp; apply hK; clear hK K hS_; have hS_ := hS2_; clear hS2_
    apply wpL_maybe true (by exact rfl)
    (case h => intro _; have hcW_ := (bcellW hS_).1; go_simp; try exact rfl)
    intro K hK; go_simp; apply hK; clear hK K
    apply wpL_maybe p0 (by clear hS_; cases p0 <;> rfl)
    (case h => intro hc_; obtain rfl : p0 = true := hc_; (try simp only [opt_true]); have hcW_ := (bcellW hS_).1; go_simp; try exact rfl)
    intro K hK; go_simp; apply hK; clear hK K
    apply wpL_maybe p0 (by clear hS_; cases p0 <;> rfl)
    (case h => intro hc_; obtain rfl : p0 = true := hc_; (try simp only [opt_true]); have hY_ := (HX3.out).below hS_ (HX3.out.lt); have y0_ := hY_.c 2 (.int .i64 x.c1) (rfl); have y1_ := hY_.c 3 (.int .i64 x.c2) (rfl); go_simp; try exact rfl)
    intro K hK; go_simp; apply hK; clear hK K
    refine wpL_callm (S := Below w3.heap.size w3)  p0 (by clear hS_; cases p0 <;> rfl) (.bool p1) ?_ hS_ ?_
    · intro hc_; obtain rfl : p0 = true := hc_; intro N_ hN_; generalize hA_ : Act.mk _ _ = A_ at hN_ ⊢; (have v105_ := evA hA_ 105; simp only [getL64, getL8, getL1, getL0, opt_true, Bool.not_false] at v105_); clear hA_; have vc_ := acC A_; have vf_ := acF A_; generalize Act.eval A_ = ev_ at vc_ vf_ v105_ ⊢; go_simp; go_at_call 35; refine (rnear_any _ _ _ _ (by decide) (by decide)).mono ?_; rintro e w9 ⟨rfl, hb9⟩; rw [← HHp1.out]; exact hN_ _ (hS_.trans (hb9.mono hS_.size))
    intro K hK w_ hS2_; go_simp; apply hK; clear hK K hS_; have hS_ := hS2_; clear hS2_
    obtain ⟨d12_1, hd12_1⟩ : ∃ b_, b_ = (p0 && p1) := ⟨_, rfl⟩
    apply wpL_maybe true (by exact rfl) (.bool d12_1) (by intro _; rw [hd12_1]; cases p0 <;> (go_simp; try exact rfl))
    have Hd12_1 := hQ0 hd12_1; clear hd12_1
    intro K hK; go_simp; apply hK; clear hK K
    apply wpL_maybe true (by exact rfl)
    (case h => intro _; have hcW_ := (bcellW hS_).1; go_simp; try exact rfl)
    intro K hK; go_simp; apply hK; clear hK K
    apply wpL_maybe d12_1 (by clear hS_; cases d12_1 <;> rfl)
    (case h => intro hc_; obtain rfl : d12_1 = true := hc_; (try simp only [opt_true]); have hcW_ := (bcellW hS_).1; go_simp; try exact rfl)
    intro K hK; go_simp; apply hK; clear hK K
    apply wpL_maybe d12_1 (by clear hS_; cases d12_1 <;> rfl)
    (case h => intro hc_; obtain rfl : d12_1 = true := hc_; (try simp only [opt_true]); have hY_ := (HX3.out).below hS_ (HX3.out.lt); have y0_ := hY_.c 4 (.int .i64 x.s1) (rfl); have y1_ := hY_.c 5 (.int .i64 x.s2) (rfl); go_simp; try exact rfl)
    intro K hK; go_simp; apply hK; clear hK K
    refine wpL_callm (S := Below w3.heap.size w3)  d12_1 (by clear hS_; cases d12_1 <;> rfl) (.bool p2) ?_ hS_ ?_
    · intro hc_; obtain rfl : d12_1 = true := hc_; intro N_ hN_; generalize hA_ : Act.mk _ _ = A_ at hN_ ⊢; (have v110_ := evA hA_ 110; simp only [getL64, getL8, getL1, getL0, opt_true, Bool.not_false] at v110_); clear hA_; have vc_ := acC A_; have vf_ := acF A_; generalize Act.eval A_ = ev_ at vc_ vf_ v110_ ⊢; go_simp; go_at_call 35; refine (rnear_any _ _ _ _ (by decide) (by decide)).mono ?_; rintro e w9 ⟨rfl, hb9⟩; rw [← HHp2.out]; exact hN_ _ (hS_.trans (hb9.mono hS_.size))
    intro K hK w_ hS2_; go_simp; apply hK; clear hK K hS_; have hS_ := hS2_; clear hS2_
    obtain ⟨d12_2, hd12_2⟩ : ∃ b_, b_ = (d12_1 && p2) := ⟨_, rfl⟩
    apply wpL_maybe true (by exact rfl) (.bool d12_2) (by intro _; rw [hd12_2]; cases d12_1 <;> (go_simp; try exact rfl))
    have Hd12_2 := hQ0 hd12_2; clear hd12_2
    intro K hK; go_simp; apply hK; clear hK K
    apply wpL_maybe true (by exact rfl)
    (case h => intro _; have hcW_ := (bcellW hS_).1; go_simp; try exact rfl)
    intro K hK; go_simp; apply hK; clear hK K
    apply wpL_maybe d12_2 (by clear hS_; cases d12_2 <;> rfl)
    (case h => intro hc_; obtain rfl : d12_2 = true := hc_; (try simp only [opt_true]); have hcW_ := (bcellW hS_).1; go_simp; try exact rfl)
    intro K hK; go_simp; apply hK; clear hK K
    apply wpL_maybe d12_2 (by clear hS_; cases d12_2 <;> rfl)
    (case h => intro hc_; obtain rfl : d12_2 = true := hc_; (try simp only [opt_true]); have hY_ := (HX3.out).below hS_ (HX3.out.lt); have y0_ := hY_.c 6 (.int .i64 x.e1) (rfl); have y1_ := hY_.c 7 (.int .i64 x.e2) (rfl); go_simp; try exact rfl)
    intro K hK; go_simp; apply hK; clear hK K
    refine wpL_callm (S := Below w3.heap.size w3)  d12_2 (by clear hS_; cases d12_2 <;> rfl) (.bool p3) ?_ hS_ ?_
    · intro hc_; obtain rfl : d12_2 = true := hc_; intro N_ hN_; generalize hA_ : Act.mk _ _ = A_ at hN_ ⊢; (have v115_ := evA hA_ 115; simp only [getL64, getL8, getL1, getL0, opt_true, Bool.not_false] at v115_); clear hA_; have vc_ := acC A_; have vf_ := acF A_; generalize Act.eval A_ = ev_ at vc_ vf_ v115_ ⊢; go_simp; go_at_call 35; refine (rnear_any _ _ _ _ (by decide) (by decide)).mono ?_; rintro e w9 ⟨rfl, hb9⟩; rw [← HHp3.out]; exact hN_ _ (hS_.trans (hb9.mono hS_.size))
    intro K hK w_ hS2_; go_simp; apply hK; clear hK K hS_; have hS_ := hS2_; clear hS2_
    obtain ⟨d12_3, hd12_3⟩ : ∃ b_, b_ = (d12_2 && p3) := ⟨_, rfl⟩
    apply wpL_maybe true (by exact rfl) (.bool d12_3) (by intro _; rw [hd12_3]; cases d12_2 <;> (go_simp; try exact rfl))
    have Hd12_3 := hQ0 hd12_3; clear hd12_3
    intro K hK; go_simp; apply hK; clear hK K
    apply wpL_maybe true (by exact rfl)
    (case h => intro _; have hcW_ := (bcellW hS_).1; go_simp; try exact rfl)
    intro K hK; go_simp; apply hK; clear hK K
    apply wpL_maybe d12_3 (by clear hS_; cases d12_3 <;> rfl)
    (case h => intro hc_; obtain rfl : d12_3 = true := hc_; (try simp only [opt_true]); have hcW_ := (bcellW hS_).1; go_simp; try exact rfl)
    intro K hK; go_simp; apply hK; clear hK K
    apply wpL_maybe d12_3 (by clear hS_; cases d12_3 <;> rfl)
    (case h => intro hc_; obtain rfl : d12_3 = true := hc_; (try simp only [opt_true]); have hY_ := (HX3.out).below hS_ (HX3.out.lt); have y0_ := hY_.c 8 (.int .i64 x.rs) (rfl); go_simp; try exact rfl)
    intro K hK; go_simp; apply hK; clear hK K
    refine wpL_callm (S := Below w3.heap.size w3)  d12_3 (by clear hS_; cases d12_3 <;> rfl) (.bool p4) ?_ hS_ ?_
    · intro hc_; obtain rfl : d12_3 = true := hc_; intro N_ hN_; generalize hA_ : Act.mk _ _ = A_ at hN_ ⊢; (have v120_ := evA hA_ 120; simp only [getL64, getL8, getL1, getL0, opt_true, Bool.not_false] at v120_); clear hA_; have vc_ := acC A_; have vf_ := acF A_; generalize Act.eval A_ = ev_ at vc_ vf_ v120_ ⊢; go_simp; go_at_call 34; refine (rin_any _ _ _ _).mono ?_; rintro e w9 ⟨rfl, hb9⟩; rw [← HHp4.out]; exact hN_ _ (hS_.trans (hb9.mono hS_.size))
    intro K hK w_ hS2_; go_simp; apply hK; clear hK K hS_; have hS_ := hS2_; clear hS2_
    obtain ⟨d12_4, hd12_4⟩ : ∃ b_, b_ = (d12_3 && p4) := ⟨_, rfl⟩
    apply wpL_maybe true (by exact rfl) (.bool d12_4) (by intro _; rw [hd12_4]; cases d12_3 <;> (go_simp; try exact rfl))
    have Hd12_4 := hQ0 hd12_4; clear hd12_4
    intro K hK; go_simp; apply hK; clear hK K
    apply wpL_maybe true (by exact rfl)
    (case h => intro _; have hcW_ := (bcellW hS_).1; go_simp; try exact rfl)
    intro K hK; go_simp; apply hK; clear hK K
    apply wpL_maybe d12_4 (by clear hS_; cases d12_4 <;> rfl)
    (case h => intro hc_; obtain rfl : d12_4 = true := hc_; (try simp only [opt_true]); have hcW_ := (bcellW hS_).1; go_simp; try exact rfl)
    intro K hK; go_simp; apply hK; clear hK K
    apply wpL_maybe d12_4 (by clear hS_; cases d12_4 <;> rfl)
    (case h => intro hc_; obtain rfl : d12_4 = true := hc_; (try simp only [opt_true]); have hY_ := (HX3.out).below hS_ (HX3.out.lt); have y0_ := hY_.c 9 (.int .i64 x.gr) (rfl); go_simp; try exact rfl)
    intro K hK; go_simp; apply hK; clear hK K
    refine wpL_callm (S := Below w3.heap.size w3)  d12_4 (by clear hS_; cases d12_4 <;> rfl) (.bool p5) ?_ hS_ ?_
    · intro hc_; obtain rfl : d12_4 = true := hc_; intro N_ hN_; generalize hA_ : Act.mk _ _ = A_ at hN_ ⊢; (have v125_ := evA hA_ 125; simp only [getL64, getL8, getL1, getL0, opt_true, Bool.not_false] at v125_); clear hA_; have vc_ := acC A_; have vf_ := acF A_; generalize Act.eval A_ = ev_ at vc_ vf_ v125_ ⊢; go_simp; go_at_call 34; refine (rin_any _ _ _ _).mono ?_; rintro e w9 ⟨rfl, hb9⟩; rw [← HHp5.out]; exact hN_ _ (hS_.trans (hb9.mono hS_.size))
    intro K hK w_ hS2_; go_simp; apply hK; clear hK K hS_; have hS_ := hS2_; clear hS2_
    obtain ⟨d12_5, hd12_5⟩ : ∃ b_, b_ = (d12_4 && p5) := ⟨_, rfl⟩
    apply wpL_maybe true (by exact rfl) (.bool d12_5) (by intro _; rw [hd12_5]; cases d12_4 <;> (go_simp; try exact rfl))
    have Hd12_5 := hQ0 hd12_5; clear hd12_5
    intro K hK; go_simp; apply hK; clear hK K
    apply wpL_maybe true (by exact rfl)
    (case h => intro _; have hcW_ := (bcellW hS_).1; go_simp; try exact rfl)
    intro K hK; go_simp; apply hK; clear hK K
    apply wpL_maybe d12_5 (by clear hS_; cases d12_5 <;> rfl)
    (case h => intro hc_; obtain rfl : d12_5 = true := hc_; (try simp only [opt_true]); have hcW_ := (bcellW hS_).1; go_simp; try exact rfl)
    intro K hK; go_simp; apply hK; clear hK K
    apply wpL_maybe d12_5 (by clear hS_; cases d12_5 <;> rfl)
    (case h => intro hc_; obtain rfl : d12_5 = true := hc_; (try simp only [opt_true]); have hY_ := (HX3.out).below hS_ (HX3.out.lt); have y0_ := hY_.c 10 (.int .i64 x.mn) (rfl); go_simp; try exact rfl)
    intro K hK; go_simp; apply hK; clear hK K
    refine wpL_callm (S := Below w3.heap.size w3)  d12_5 (by clear hS_; cases d12_5 <;> rfl) (.bool p6) ?_ hS_ ?_
    · intro hc_; obtain rfl : d12_5 = true := hc_; intro N_ hN_; generalize hA_ : Act.mk _ _ = A_ at hN_ ⊢; (have v130_ := evA hA_ 130; simp only [getL64, getL8, getL1, getL0, opt_true, Bool.not_false] at v130_); clear hA_; have vc_ := acC A_; have vf_ := acF A_; generalize Act.eval A_ = ev_ at vc_ vf_ v130_ ⊢; go_simp; go_at_call 34; refine (rin_any _ _ _ _).mono ?_; rintro e w9 ⟨rfl, hb9⟩; rw [← HHp6.out]; exact hN_ _ (hS_.trans (hb9.mono hS_.size))
    intro K hK w_ hS2_; go_simp; apply hK; clear hK K hS_; have hS_ := hS2_; clear hS2_
    obtain ⟨d12_6, hd12_6⟩ : ∃ b_, b_ = (d12_5 && p6) := ⟨_, rfl⟩
    apply wpL_maybe true (by exact rfl) (.bool d12_6) (by intro _; rw [hd12_6]; cases d12_5 <;> (go_simp; try exact rfl))
    have Hd12_6 := hQ0 hd12_6; clear hd12_6
    intro K hK; go_simp; apply hK; clear hK K
    apply wpL_maybe true (by exact rfl)
    (case h => intro _; have hcW_ := (bcellW hS_).1; go_simp; try exact rfl)
    intro K hK; go_simp; apply hK; clear hK K
    apply wpL_maybe d12_6 (by clear hS_; cases d12_6 <;> rfl)
    (case h => intro hc_; obtain rfl : d12_6 = true := hc_; (try simp only [opt_true]); have hcW_ := (bcellW hS_).1; go_simp; try exact rfl)
    intro K hK; go_simp; apply hK; clear hK K
    apply wpL_maybe d12_6 (by clear hS_; cases d12_6 <;> rfl)
    (case h => intro hc_; obtain rfl : d12_6 = true := hc_; (try simp only [opt_true]); have hY_ := (HX3.out).below hS_ (HX3.out.lt); have y0_ := hY_.c 11 (.int .i64 x.sw) (rfl); go_simp; try exact rfl)
    intro K hK; go_simp; apply hK; clear hK K
    refine wpL_callm (S := Below w3.heap.size w3)  d12_6 (by clear hS_; cases d12_6 <;> rfl) (.bool p7) ?_ hS_ ?_
    · intro hc_; obtain rfl : d12_6 = true := hc_; intro N_ hN_; generalize hA_ : Act.mk _ _ = A_ at hN_ ⊢; (have v135_ := evA hA_ 135; simp only [getL64, getL8, getL1, getL0, opt_true, Bool.not_false] at v135_); clear hA_; have vc_ := acC A_; have vf_ := acF A_; generalize Act.eval A_ = ev_ at vc_ vf_ v135_ ⊢; go_simp; go_at_call 34; refine (rin_any _ _ _ _).mono ?_; rintro e w9 ⟨rfl, hb9⟩; rw [← HHp7.out]; exact hN_ _ (hS_.trans (hb9.mono hS_.size))
    intro K hK w_ hS2_; go_simp; apply hK; clear hK K hS_; have hS_ := hS2_; clear hS2_
    obtain ⟨d12_7, hd12_7⟩ : ∃ b_, b_ = (d12_6 && p7) := ⟨_, rfl⟩
    apply wpL_maybe true (by exact rfl) (.bool d12_7) (by intro _; rw [hd12_7]; cases d12_6 <;> (go_simp; try exact rfl))
    have Hd12_7 := hQ0 hd12_7; clear hd12_7
    intro K hK; go_simp; apply hK; clear hK K
    apply wpL_maybe true (by exact rfl)
    (case h => intro _; have hcW_ := (bcellW hS_).1; go_simp; try exact rfl)
    intro K hK; go_simp; apply hK; clear hK K
    refine wpList_nil ?_
    (try go_simp)
    obtain ⟨w4, rfl⟩ : ∃ z, z = w_ := ⟨_, rfl⟩
    have HF : Hid (d12_7 = x.fB) := hQ0 (by
     simp only [Hd12_7.out, Hd12_6.out, Hd12_5.out, Hd12_4.out, Hd12_3.out, Hd12_2.out, Hd12_1.out, HHp0.out, HHp1.out, HHp2.out, HHp3.out, HHp4.out, HHp5.out, HHp6.out, HHp7.out]
     first | rfl | (simp only [Ac.fB, Ac.pB]; first | ac_rfl | (simp only [Bool.and_assoc]; done)))
    have HX4 := hQ0 (HX3.out.below hS_ HX3.out.lt)
    have HJ4 : Hid (Below w.heap.size w w4 ∧ BoxAt w4 w.heap.size TC ∧ ElOwn w4 base A1 c1_ L) := hQ0 ⟨HJ3.out.1.trans (hS_.mono (by omega)), HJ3.out.2.1.below hS_ (by omega), own_below HJ3.out.2.2 hS_ (Nat.le_refl _)⟩
    have hz4 : wq.heap.size < w4.heap.size := Nat.lt_of_lt_of_le hz3 hS_.size
    clear hS_ HX3 HJ3 hz3
    have HPB : Hid (d12_7 = true → x.pB = true) := hQ0 (fun h => by rw [HF.out] at h; simp only [Ac.fB, Bool.and_eq_true] at h; exact h.1.1.1.2)
    go_upto_region 13 with (fail)
    obtain ⟨C, hC⟩ : ∃ z, z = circR x := ⟨_, rfl⟩
    have HC := hQ0 hC
    clear hC
    have e2 : IntKind.i64.wrap (2 * rad) = 2 * rad := by rw [IntKind.wrap_i64]; omega
    obtain ⟨s0, hs0⟩ : ∃ b, b = (decide (2 * rad < C)) := ⟨_, rfl⟩
    have HHs0 := hQ0 hs0
    clear hs0
    have hS_ : (Below w4.heap.size w4) w4.drew := (Below.refl _ _).drew
    refine wp_region_Y (Below w4.heap.size w4) 15 [15, 16] (by kernel_rfl) (by kernel_rfl) (by kernel_rfl) (by kernel_rfl) (fun _ _ _ _ _ h => h) hS_ ?_
    generalize w4.drew = wd_ at hS_  ⊢
    iterate 6 (apply wpY_seq 15 rfl (by kernel_rfl) true (by exact rfl); (case h => intro _ W_ hW_; have hcW_ := (bcellW hW_).1; have hY_ := (HX4.out).below hW_ (HX4.out.lt); have y0_ := hY_.c 0 (.string x.nm) (rfl); go_simp; try exact rfl); intro K hK; go_simp; apply hK; clear hK K)
    apply wpY_maybe (i := 6) rfl (by kernel_rfl) d12_7 (by clear hS_; cases d12_7 <;> rfl)
    (case h => intro hc_; obtain rfl : d12_7 = true := hc_; intro W_ hW_; have hY_ := (HX4.out).below hW_ (HX4.out.lt); have y0_ := hY_.c 0 (.string x.nm) (rfl); have y1_ := hY_.c 1 (.int .i64 x.lv) (rfl); have y2_ := hY_.c 2 (.int .i64 x.c1) (rfl); have y3_ := hY_.c 3 (.int .i64 x.c2) (rfl); have y4_ := hY_.c 4 (.int .i64 x.s1) (rfl); have y5_ := hY_.c 5 (.int .i64 x.s2) (rfl); have y6_ := hY_.c 6 (.int .i64 x.e1) (rfl); have y7_ := hY_.c 7 (.int .i64 x.e2) (rfl); have y8_ := hY_.c 8 (.int .i64 x.rs) (rfl); have y9_ := hY_.c 9 (.int .i64 x.gr) (rfl); have y10_ := hY_.c 10 (.int .i64 x.mn) (rfl); have y11_ := hY_.c 11 (.int .i64 x.sw) (rfl); go_simp; try exact rfl)
    intro K hK; go_simp; apply hK; clear hK K
    apply wpY_maybe (i := 8) rfl (by kernel_rfl) d12_7 (by clear hS_; cases d12_7 <;> rfl)
    (case h => intro hc_; obtain rfl : d12_7 = true := hc_; intro W_ hW_; have hcW_ := (bcellW hW_).1; go_simp; try exact rfl)
    intro K hK; go_simp; apply hK; clear hK K
    apply wpY_maybe (i := 9) rfl (by kernel_rfl) d12_7 (by clear hS_; cases d12_7 <;> rfl)
    (case h => intro hc_; obtain rfl : d12_7 = true := hc_; intro W_ hW_; have hY_ := (HJ4.out.2.1).below hW_ (HJ4.out.2.1.lt); have y0_ := hY_.c 0 (.int .i64 rad) (HT0.out); go_simp; try exact rfl)
    intro K hK; go_simp; apply hK; clear hK K
    apply wpY_maybe (i := 10) rfl (by kernel_rfl) d12_7 (by clear hS_; cases d12_7 <;> rfl) (.int .i64 (2 * rad))
    (case h => intro hc_; obtain rfl : d12_7 = true := hc_; intro W_ hW_; have hcW_ := (bcellW hW_).1; go_simp; first | done | (rw [e2]) | exact rfl)
    intro K hK; go_simp; apply hK; clear hK K
    refine wpY_callm (i := 7) rfl (by kernel_rfl) d12_7 (by clear hS_; cases d12_7 <;> rfl) (.int .i64 C) ?_ ?_
    · intro hc_; obtain rfl : d12_7 = true := hc_; intro N_ hN_; generalize hA_ : Act.mk _ _ = A_ at hN_ ⊢; (have v144_ := evA hA_ 144; simp only [getL64, getL8, getL1, getL0, opt_true, Bool.not_false] at v144_); clear hA_; have vc_ := acC A_; have vf_ := acF A_; generalize Act.eval A_ = ev_ at vc_ vf_ v144_ ⊢; go_simp; go_at_call 84; refine (rcircle_any x _ (HPB.out rfl)).mono ?_; rintro e w9 ⟨rfl, hb9⟩; rw [← HC.out]; exact hN_ _ (hS_.trans (hb9.mono hS_.size))
    intro K hK w_ hS2_; go_simp; apply hK; clear hK K hS_; have hS_ := hS2_; clear hS2_
    apply wpY_maybe (i := 11) rfl (by kernel_rfl) d12_7 (by clear hS_; cases d12_7 <;> rfl) (.bool s0)
    (case h => intro hc_; obtain rfl : d12_7 = true := hc_; intro W_ hW_; have hcW_ := (bcellW hW_).1; go_simp; rw [HHs0.out]; first | done | exact rfl | simp)
    intro K hK; go_simp; apply hK; clear hK K
    obtain ⟨d13_1, hd13_1⟩ : ∃ b_, b_ = (d12_7 && s0) := ⟨_, rfl⟩
    apply wpY_maybe (i := 12) rfl (by kernel_rfl) true (by exact rfl) (.bool d13_1) (by intro _ W_ hW_; rw [hd13_1]; cases d12_7 <;> (go_simp; try exact rfl))
    have Hd13_1 := hQ0 hd13_1; clear hd13_1
    intro K hK; go_simp; apply hK; clear hK K
    apply wpY_maybe (i := 13) rfl (by kernel_rfl) true (by exact rfl)
    (case h => intro _ W_ hW_; have hcW_ := (bcellW hW_).1; go_simp; try exact rfl)
    intro K hK; go_simp; apply hK; clear hK K
    obtain ⟨wf_, rfl⟩ : ∃ z, z = w_ := ⟨_, rfl⟩
    apply wpY_freshm (i := 14) rfl (by kernel_rfl) true (by exact rfl)
    (case h => intro _; generalize hev_ : Act.eval _ = ev_; (have v151_ := evE hev_ 151; simp only [getL64, getL8, getL1, getL0, opt_true, Bool.not_false] at v151_); have vc_ := evC hev_; clear hev_; go_simp; first | done | exact rfl | exact ⟨rfl, rfl⟩); (case hS' => exact (hS_).alloc (hS_).size _)
    intro K hK w_ hS2_ hw0_; have hw_ := hQ0 hw0_; clear hw0_; go_simp; apply hK; clear hK K hS_; have hS_ := hS2_; clear hS2_
    refine wpY_nil (by kernel_rfl) ?_
    (try simp only [List.filterMap_cons, List.filterMap_nil, List.getElem?_cons_succ, List.getElem?_cons_zero])
    (try go_simp)
    have hE_ := hw_.out rfl
    have HEL : Hid ((Ac.el rad) x = ⟨x.nm, d12_7, d13_1⟩) := hQ0 (by
     have h1 : d12_7 = x.fB := HF.out
     have h2 : d13_1 = ((Ac.el rad) x).fm := by rw [Hd13_1.out, HHs0.out, HC.out, circ_round x rad r0]; show _ = (x.fB && roundB x rad); rw [← HF.out]
     rw [h1, h2]
     rfl)
    have hR_ : BoxAt w_ wf_.heap.size [.string x.nm, .bool d12_7, .bool d13_1] := by rw [hE_]; exact BoxAt.new wf_ [.string x.nm, .bool d12_7, .bool d13_1] _
    have HJ5 : Hid (Below w.heap.size w w_ ∧ BoxAt w_ w.heap.size TC ∧ ElOwn w_ base A1 c1_ L) := hQ0 ⟨HJ4.out.1.trans (hS_.mono (by have := HJ4.out.1.size; omega)), HJ4.out.2.1.below hS_ HJ4.out.2.1.lt, own_below HJ4.out.2.2 hS_ (Nat.le_refl _)⟩
    have hbs5 : base ≤ w_.heap.size := by have := hS_.size; omega
    have HLL : Hid (L.length ≤ 1000000) := hQ0 (by rw [HL.out, List.length_append, List.length_map, List.length_take]; have := HLl.out; omega)
    refine wpList_append_one rfl (.tmp 138) (.tmp 152) 88 91 _ 3 _ rfl Tryz.underlying88 infEl rfl (by decide) (by decide) base (.slice A1 L.length c1_) L.length (L.flatMap El.cells) [.string x.nm, .bool d12_7, .bool d13_1] (by go_simp; try exact rfl) HJ5.out.2.2 wf_.heap.size 1 (by go_simp; try exact rfl) rfl hR_.c (by simp [Value.oneCell']) HLL.out hbs5 ?_
    intro v7 w7 ho7 hg7 _
    obtain ⟨A2, c2, rfl⟩ := own_sl ho7
    have hfr : ∀ j, (Value.slice A1 L.length c1_).ownBlock = some j → base ≤ j := fun j hj => (World.ownsRow.lt HJ5.out.2.2 j hj).1
    have hX7 : ElOwn w7 base A2 c2 (L ++ [(Ac.el rad) x]) := ElOwn.snoc (by rw [HEL.out]; exact ho7)
    have hE : L ++ [(Ac.el rad) x] = L0 ++ (l.take (k + 1)).map (Ac.el rad) := by rw [HL.out]; exact el_snoc (Ac.el rad) HXX.out L0
    rw [hE] at hX7
    have hn7 : L.length + 1 = (L0 ++ (l.take (k + 1)).map (Ac.el rad)).length := by rw [← hE]; simp
    have HN7 := hQ0 hn7
    have HJ7 : Hid (Below w.heap.size w w7 ∧ BoxAt w7 w.heap.size TC ∧ ElOwn w7 base A2 c2 (L0 ++ (l.take (k + 1)).map (Ac.el rad))) := hQ0 ⟨HJ5.out.1.trans (below_grown hg7 (fun j hj => by have := hfr j hj; omega) HJ5.out.1.size), boxAt_grown HJ5.out.2.1 hg7 (fun j hj e => by have := hfr j hj; omega), hX7⟩
    have hbs7 : base ≤ w7.heap.size := Nat.le_trans hbs5 hg7.size
    clear hX7 hfr hE ho7 hg7 hn7 hR_ hE_ hS_
    go_simp
    refine wpList_plain rfl fun K hK => ?_; go_simp; apply hK; clear hK K
    refine wpList_nil ?_
    (try go_simp)
    go_wp2_with fail
    go_roundg (l.length - (k + 1) + 1)
    case measure => omega
    case rel => exact ⟨k + 1, A2, c2, by omega, by omega, by rw [← HN7.out], by go_num, hbs7, HJ7⟩
  · obtain rfl : k = l.length := by omega
    go_wp2_with fail
    show R _ _
    have hj := HJ.out
    have hL2 : L = L0 ++ l.map (Ac.el rad) := by rw [HL.out, List.take_length]
    rw [hL2] at hj ⊢
    exact HR.out _ _ A1 c1_ rfl (congrArg some HE1.out.symm) rfl rfl hj.1 hbs hj.2.1 hj.2.2
attribute [local go_sem ↓] evalL getL64 setL64
attribute [local go_sem ↓] getL8 setL8
attribute [local go_sem ↓] getL1 getL0
set_option maxRecDepth 100000 in
set_option maxHeartbeats 8000000 in
theorem le_ps (w wr : World) (base : Nat) (A A0 : Option Addr) (c c0 : Nat) (l : List Ps) (L0 : List El) (TC : List Value) (df : List Deferred) (F : List Value) (hF : F.length = 266) (f1 : F[1]? = some (.pointer (some ⟨w.heap.size, 0, none⟩))) (f3 : F[3]? = some (.slice A0 L0.length c0)) (f10 : F[10]? = some (.int .i64 0))
  (hTC : TC[10]? = some (.slice A l.length c)) (hA : RowsAt 11 Ps.cells w A l) (hl : l.length ≤ 1000) (hL : L0.length ≤ 100000) (hwb : w.heap.size < base) (hb : Below w.heap.size w wr) (hbs : base ≤ wr.heap.size) (hT : BoxAt wr w.heap.size TC) (hX : ElOwn wr base A0 c0 L0) (R : Act → World → Prop)
  (hR : ∀ (F' : List Value) (w' : World) (A' : Option Addr) (c' : Nat), F'.length = 266 → F'[1]? = F[1]? → F'[2]? = F[2]? → F'[3]? = some (.slice A' (L0 ++ l.map Ps.el).length c') → Below w.heap.size w w' → base ≤ w'.heap.size → BoxAt w' w.heap.size TC → ElOwn w' base A' c' (L0 ++ l.map Ps.el) → R ⟨F'.toArray, df⟩ w') :
  (blkOf 4 Tryz.f36).wp Tryz.prog (AtEnd R) ⟨F.toArray, df⟩ wr := by
 obtain ⟨s, rfl⟩ := fr266_ex F hF
 have e1 : s 1 = .pointer (some ⟨w.heap.size, 0, none⟩) := Option.some.inj f1
 have e3 : s 3 = .slice A0 L0.length c0 := Option.some.inj f3
 have e10 : s 10 = .int .i64 0 := Option.some.inj f10
 unfold fr266
 rw [e1, e3, e10]
 have HE1 := hQ0 e1
 clear hF e1 f1 e3 f3 e10 f10
 have HA := hQ0 hA
 have HR := hQ0 hR
 have HLl := hQ0 hL
 have HT := hQ0 hT
 have HX := hQ0 hX
 have HB := hQ0 hb
 have HTC := hQ0 hTC
 clear hA hR hL hT hX hb hTC
 conv in (blkOf _ _) => whnf
 go_wp2_with fail
 go_loopg [3, 10] (l.length + 1) (fun gk t3 tt wr => ∃ (k : Nat) (A1 : Option Addr) (c1 : Nat), k ≤ l.length ∧ l.length - k < gk ∧ t3 = .slice A1 (L0 ++ (l.take k).map Ps.el).length c1 ∧ tt = .int .i64 k ∧ base ≤ wr.heap.size ∧ Hid (Below w.heap.size w wr ∧ BoxAt wr w.heap.size TC ∧ ElOwn wr base A1 c1 (L0 ++ (l.take k).map Ps.el)))
 case atStart => exact ⟨0, A0, c0, by omega, by omega, by simp, rfl, hbs, hQ0 ⟨HB.out, HT.out, by simpa using HX.out⟩⟩
 case round =>
  obtain ⟨wq, rfl⟩ : ∃ z, z = wr := ⟨_, rfl⟩
  clear HB HT HX hbs
  obtain ⟨k, A1, c1_, hk, hkk, rfl, rfl, hbs, HJ⟩ := hrel
  have hz_wq := HJ.out.1.size
  obtain ⟨L, hL⟩ : ∃ L : List El, L = L0 ++ (l.take k).map Ps.el := ⟨_, rfl⟩
  rw [← hL] at HJ ⊢
  have HL := hQ0 hL
  clear hL
  have tq := HJ.out.2.1.c 10 _ HTC.out
  have hltT := HJ.out.2.1.lt
  by_cases hlt : k < l.length
  · obtain ⟨x, hx⟩ : ∃ x, l[k]? = some x := ⟨l[k], by simp⟩
    obtain ⟨g, o, rfl, hg, c0, c1, c2, c3, c4, c5, c6, c7, c8, c9, c10⟩ := Ps.get (HA.out.below HJ.out.1 (Nat.le_refl _)) hx
    have i1 : (k : Int) < (l.length : Int) := by omega
    have HXX := hQ0 hx
    clear hx
    go_upto_region 18 with (fail)
    (refine pin_eqT (fun w3 hE_w3 => ?_))
    obtain ⟨gb, hgb⟩ : ∃ z, z = wq.heap.size := ⟨_, rfl⟩
    rw [← hgb]
    have HX3 : Hid (BoxAt w3 gb x.cells) := hQ0 (by rw [hE_w3, hgb]; exact BoxAt.new _ _ _)
    have HJ3 : Hid (Below w.heap.size w w3 ∧ BoxAt w3 w.heap.size TC ∧ ElOwn w3 base A1 c1_ L) := hQ0 (by
     rw [hE_w3]
     exact ⟨HJ.out.1.alloc hz_wq _, HJ.out.2.1.alloc _, own_below HJ.out.2.2 ((Below.refl _ _).alloc (Nat.le_refl _) _) (Nat.le_refl _)⟩)
    have hz3 : wq.heap.size < w3.heap.size := by rw [hE_w3]; simp
    clear hgb hE_w3 c0 c1 c2 c3 c4 c5 c6 c7 c8 c9 c10 hg tq hltT
    have y0 := HX3.out.c 0 _ rfl
    have y1 := HX3.out.c 1 _ rfl
    have y2 := HX3.out.c 2 _ rfl
    have y3 := HX3.out.c 3 _ rfl
    have y4 := HX3.out.c 4 _ rfl
    have y5 := HX3.out.c 5 _ rfl
    have y6 := HX3.out.c 6 _ rfl
    have y7 := HX3.out.c 7 _ rfl
    have y8 := HX3.out.c 8 _ rfl
    have y9 := HX3.out.c 9 _ rfl
    have y10 := HX3.out.c 10 _ rfl
    have lt_ := HX3.out.lt
    obtain ⟨d_, hd_⟩ : ∃ b, b = ((((((((in1 0 3 x.lv && nearV 1048576 ⟨x.c1, x.c2⟩) && in1 0 262144 x.sz) && in1 0 15 x.rs) && in1 0 15 x.gr) && in1 0 16384 x.kk) && in1 0 16384 x.mn) && in1 (-1) 31 x.cl) && in1 (-1) 63 x.sw) := ⟨_, rfl⟩
    have HF : Hid (d_ = x.fB) := hQ0 (by rw [hd_]; first | rfl | (simp only [Ps.fB]; first | ac_rfl | (simp only [Bool.and_assoc]; done)))
    have hb3 := Below.refl w3.heap.size w3
    revert hd_
    cases h0 : in1 0 3 x.lv
    rotate_left
    cases h1 : nearV 1048576 ⟨x.c1, x.c2⟩
    rotate_left
    cases h2 : in1 0 262144 x.sz
    rotate_left
    cases h3 : in1 0 15 x.rs
    rotate_left
    cases h4 : in1 0 15 x.gr
    rotate_left
    cases h5 : in1 0 16384 x.kk
    rotate_left
    cases h6 : in1 0 16384 x.mn
    rotate_left
    cases h7 : in1 (-1) 31 x.cl
    rotate_left
    cases h8 : in1 (-1) 63 x.sw
    rotate_left
    all_goals (
     intro hd_
     simp only [Bool.and_true, Bool.true_and, Bool.and_false, Bool.false_and] at hd_
     have HD := hQ0 hd_
     clear hd_
     go_upto_region 19 with (first | (go_at_call 34; refine (rin_any _ _ _ _).mono ?_; rintro e w9 ⟨rfl, hb9⟩; replace hb3 := hb3.trans (hb9.mono hb3.size); replace HX3 := hQ0 (HX3.out.below hb9 HX3.out.lt); clear hb9 lt_ y0 y1 y2 y3 y4 y5 y6 y7 y8 y9 y10; have y0 := HX3.out.c 0 _ rfl; have y1 := HX3.out.c 1 _ rfl; have y2 := HX3.out.c 2 _ rfl; have y3 := HX3.out.c 3 _ rfl; have y4 := HX3.out.c 4 _ rfl; have y5 := HX3.out.c 5 _ rfl; have y6 := HX3.out.c 6 _ rfl; have y7 := HX3.out.c 7 _ rfl; have y8 := HX3.out.c 8 _ rfl; have y9 := HX3.out.c 9 _ rfl; have y10 := HX3.out.c 10 _ rfl; have lt_ := HX3.out.lt) | (go_at_call 35; refine (rnear_any _ _ _ _ (by decide) (by decide)).mono ?_; rintro e w9 ⟨rfl, hb9⟩; replace hb3 := hb3.trans (hb9.mono hb3.size); replace HX3 := hQ0 (HX3.out.below hb9 HX3.out.lt); clear hb9 lt_ y0 y1 y2 y3 y4 y5 y6 y7 y8 y9 y10; have y0 := HX3.out.c 0 _ rfl; have y1 := HX3.out.c 1 _ rfl; have y2 := HX3.out.c 2 _ rfl; have y3 := HX3.out.c 3 _ rfl; have y4 := HX3.out.c 4 _ rfl; have y5 := HX3.out.c 5 _ rfl; have y6 := HX3.out.c 6 _ rfl; have y7 := HX3.out.c 7 _ rfl; have y8 := HX3.out.c 8 _ rfl; have y9 := HX3.out.c 9 _ rfl; have y10 := HX3.out.c 10 _ rfl; have lt_ := HX3.out.lt))
     obtain ⟨w4, rfl⟩ : ∃ z, z = w9 := ⟨_, rfl⟩
     clear lt_ y0 y1 y2 y3 y4 y5 y6 y7 y8 y9 y10
     clear h0
     have HX4 := HX3
     have HJ4 : Hid (Below w.heap.size w w4 ∧ BoxAt w4 w.heap.size TC ∧ ElOwn w4 base A1 c1_ L) := hQ0 ⟨HJ3.out.1.trans (hb3.mono (by omega)), HJ3.out.2.1.below hb3 (by omega), own_below HJ3.out.2.2 hb3 (Nat.le_refl _)⟩
     have hz4 : wq.heap.size < w4.heap.size := Nat.lt_of_lt_of_le hz3 hb3.size
     clear hb3 HX3 HJ3 hz3
     refine wp_region_lit ?_
     have hS_ : Below w4.heap.size w4 w4 := Below.refl _ _
     iterate 3 (apply wpL_maybe true (by exact rfl); (case h => intro _; have hcW_ := (bcellW hS_).1; have hY_ := (HX4.out).below hS_ (HX4.out.lt); have y0_ := hY_.c 0 (.string x.nm) (rfl); go_simp; try exact rfl); intro K hK; go_simp; apply hK; clear hK K)
     apply wpL_maybe true (by exact rfl) (.bool d_)
     (case h => intro _; have hcW_ := (bcellW hS_).1; go_simp; first | done | exact rfl | (rw [HD.out]))
     intro K hK; go_simp; apply hK; clear hK K
     apply wpL_maybe true (by exact rfl)
     (case h => intro _; have hcW_ := (bcellW hS_).1; go_simp; try exact rfl)
     intro K hK; go_simp; apply hK; clear hK K
     apply wpL_freshm (S := Below w4.heap.size w4)  true (by exact rfl)
     (case h => intro _; generalize hev_ : Act.eval _ = ev_; (have v213_ := evE hev_ 213; simp only [getL64, getL8, getL1, getL0, opt_true, Bool.not_false] at v213_); have vc_ := evC hev_; clear hev_; go_simp; first | done | exact rfl | exact ⟨rfl, rfl⟩); (case hS => exact hS_); (case hS' => exact (hS_).alloc (hS_).size _)
     intro K hK w_ hS2_ hw0_; have hw_ := hQ0 hw0_; clear hw0_; go_simp; apply hK; clear hK K hS_; have hS_ := hS2_; clear hS2_
     (try go_simp)
     have hE_ := hw_.out rfl
     have HEL : Hid (Ps.el x = ⟨x.nm, d_, true⟩) := hQ0 (by
      have h1 : d_ = x.fB := HF.out
      have h2 : true = (Ps.el x).fm := rfl
      rw [h1, h2]
      rfl)
     have hR_ : BoxAt w_ w4.heap.size [.string x.nm, .bool d_, .bool true] := by rw [hE_]; exact BoxAt.new w4 [.string x.nm, .bool d_, .bool true] _
     have HJ5 : Hid (Below w.heap.size w w_ ∧ BoxAt w_ w.heap.size TC ∧ ElOwn w_ base A1 c1_ L) := hQ0 ⟨HJ4.out.1.trans (hS_.mono (by have := HJ4.out.1.size; omega)), HJ4.out.2.1.below hS_ HJ4.out.2.1.lt, own_below HJ4.out.2.2 hS_ (Nat.le_refl _)⟩
     have hbs5 : base ≤ w_.heap.size := by have := hS_.size; omega
     have HLL : Hid (L.length ≤ 1000000) := hQ0 (by rw [HL.out, List.length_append, List.length_map, List.length_take]; have := HLl.out; omega)
     refine wpList_append_one rfl (.tmp 209) (.tmp 214) 88 91 _ 3 _ rfl Tryz.underlying88 infEl rfl (by decide) (by decide) base (.slice A1 L.length c1_) L.length (L.flatMap El.cells) [.string x.nm, .bool d_, .bool true] (by go_simp; try exact rfl) HJ5.out.2.2 w4.heap.size 1 (by go_simp; try exact rfl) rfl hR_.c (by simp [Value.oneCell']) HLL.out hbs5 ?_
     intro v7 w7 ho7 hg7 _
     obtain ⟨A2, c2, rfl⟩ := own_sl ho7
     have hfr : ∀ j, (Value.slice A1 L.length c1_).ownBlock = some j → base ≤ j := fun j hj => (World.ownsRow.lt HJ5.out.2.2 j hj).1
     have hX7 : ElOwn w7 base A2 c2 (L ++ [Ps.el x]) := ElOwn.snoc (by rw [HEL.out]; exact ho7)
     have hE : L ++ [Ps.el x] = L0 ++ (l.take (k + 1)).map Ps.el := by rw [HL.out]; exact el_snoc Ps.el HXX.out L0
     rw [hE] at hX7
     have hn7 : L.length + 1 = (L0 ++ (l.take (k + 1)).map Ps.el).length := by rw [← hE]; simp
     have HN7 := hQ0 hn7
     have HJ7 : Hid (Below w.heap.size w w7 ∧ BoxAt w7 w.heap.size TC ∧ ElOwn w7 base A2 c2 (L0 ++ (l.take (k + 1)).map Ps.el)) := hQ0 ⟨HJ5.out.1.trans (below_grown hg7 (fun j hj => by have := hfr j hj; omega) HJ5.out.1.size), boxAt_grown HJ5.out.2.1 hg7 (fun j hj e => by have := hfr j hj; omega), hX7⟩
     have hbs7 : base ≤ w7.heap.size := Nat.le_trans hbs5 hg7.size
     clear hX7 hfr hE ho7 hg7 hn7 hR_ hE_ hS_
     go_simp
     refine wpList_plain rfl fun K hK => ?_; go_simp; apply hK; clear hK K
     refine wpList_nil ?_
     (try go_simp)
     go_wp2_with fail
     go_roundg (l.length - (k + 1) + 1)
     case measure => omega
     case rel => exact ⟨k + 1, A2, c2, by omega, by omega, by rw [← HN7.out], by go_num, hbs7, HJ7⟩)
  · obtain rfl : k = l.length := by omega
    go_wp2_with fail
    show R _ _
    have hj := HJ.out
    have hL2 : L = L0 ++ l.map Ps.el := by rw [HL.out, List.take_length]
    rw [hL2] at hj ⊢
    exact HR.out _ _ A1 c1_ rfl (congrArg some HE1.out.symm) rfl rfl hj.1 hbs hj.2.1 hj.2.2
attribute [local go_sem ↓] evalL getL64 setL64
attribute [local go_sem ↓] getL8 setL8
attribute [local go_sem ↓] getL1 getL0
set_option maxRecDepth 100000 in
set_option maxHeartbeats 8000000 in
theorem le_fs (w wr : World) (base : Nat) (A A0 : Option Addr) (c c0 : Nat) (l : List Fl) (L0 : List El) (TC : List Value) (df : List Deferred) (F : List Value) (hF : F.length = 266) (f1 : F[1]? = some (.pointer (some ⟨w.heap.size, 0, none⟩))) (f3 : F[3]? = some (.slice A0 L0.length c0)) (f13 : F[13]? = some (.int .i64 0))
  (hTC : TC[11]? = some (.slice A l.length c)) (hA : RowsAt 15 Fl.cells w A l) (hl : l.length ≤ 1000) (hL : L0.length ≤ 100000) (hwb : w.heap.size < base) (hb : Below w.heap.size w wr) (hbs : base ≤ wr.heap.size) (hT : BoxAt wr w.heap.size TC) (hX : ElOwn wr base A0 c0 L0) (R : Act → World → Prop)
  (hR : ∀ (F' : List Value) (w' : World) (A' : Option Addr) (c' : Nat), F'.length = 266 → F'[1]? = F[1]? → F'[2]? = F[2]? → F'[3]? = some (.slice A' (L0 ++ l.map Fl.el).length c') → Below w.heap.size w w' → base ≤ w'.heap.size → BoxAt w' w.heap.size TC → ElOwn w' base A' c' (L0 ++ l.map Fl.el) → R ⟨F'.toArray, df⟩ w') :
  (blkOf 6 Tryz.f36).wp Tryz.prog (AtEnd R) ⟨F.toArray, df⟩ wr := by
 obtain ⟨s, rfl⟩ := fr266_ex F hF
 have e1 : s 1 = .pointer (some ⟨w.heap.size, 0, none⟩) := Option.some.inj f1
 have e3 : s 3 = .slice A0 L0.length c0 := Option.some.inj f3
 have e13 : s 13 = .int .i64 0 := Option.some.inj f13
 unfold fr266
 rw [e1, e3, e13]
 have HE1 := hQ0 e1
 clear hF e1 f1 e3 f3 e13 f13
 have HA := hQ0 hA
 have HR := hQ0 hR
 have HLl := hQ0 hL
 have HT := hQ0 hT
 have HX := hQ0 hX
 have HB := hQ0 hb
 have HTC := hQ0 hTC
 clear hA hR hL hT hX hb hTC
 conv in (blkOf _ _) => whnf
 go_wp2_with fail
 go_loopg [3, 13] (l.length + 1) (fun gk t3 tt wr => ∃ (k : Nat) (A1 : Option Addr) (c1 : Nat), k ≤ l.length ∧ l.length - k < gk ∧ t3 = .slice A1 (L0 ++ (l.take k).map Fl.el).length c1 ∧ tt = .int .i64 k ∧ base ≤ wr.heap.size ∧ Hid (Below w.heap.size w wr ∧ BoxAt wr w.heap.size TC ∧ ElOwn wr base A1 c1 (L0 ++ (l.take k).map Fl.el)))
 case atStart => exact ⟨0, A0, c0, by omega, by omega, by simp, rfl, hbs, hQ0 ⟨HB.out, HT.out, by simpa using HX.out⟩⟩
 case round =>
  obtain ⟨wq, rfl⟩ : ∃ z, z = wr := ⟨_, rfl⟩
  clear HB HT HX hbs
  obtain ⟨k, A1, c1_, hk, hkk, rfl, rfl, hbs, HJ⟩ := hrel
  have hz_wq := HJ.out.1.size
  obtain ⟨L, hL⟩ : ∃ L : List El, L = L0 ++ (l.take k).map Fl.el := ⟨_, rfl⟩
  rw [← hL] at HJ ⊢
  have HL := hQ0 hL
  clear hL
  have tq := HJ.out.2.1.c 11 _ HTC.out
  have hltT := HJ.out.2.1.lt
  by_cases hlt : k < l.length
  · obtain ⟨x, hx⟩ : ∃ x, l[k]? = some x := ⟨l[k], by simp⟩
    obtain ⟨g, o, rfl, hg, c0, c1, c2, c3, c4, c5, c6, c7, c8, c9, c10, c11, c12, c13, c14⟩ := Fl.get (HA.out.below HJ.out.1 (Nat.le_refl _)) hx
    have i1 : (k : Int) < (l.length : Int) := by omega
    have HXX := hQ0 hx
    clear hx
    go_upto_region 24 with (fail)
    (refine pin_eqT (fun w3 hE_w3 => ?_))
    obtain ⟨gb, hgb⟩ : ∃ z, z = wq.heap.size := ⟨_, rfl⟩
    rw [← hgb]
    have HX3 : Hid (BoxAt w3 gb x.cells) := hQ0 (by rw [hE_w3, hgb]; exact BoxAt.new _ _ _)
    have HJ3 : Hid (Below w.heap.size w w3 ∧ BoxAt w3 w.heap.size TC ∧ ElOwn w3 base A1 c1_ L) := hQ0 (by
     rw [hE_w3]
     exact ⟨HJ.out.1.alloc hz_wq _, HJ.out.2.1.alloc _, own_below HJ.out.2.2 ((Below.refl _ _).alloc (Nat.le_refl _) _) (Nat.le_refl _)⟩)
    have hz3 : wq.heap.size < w3.heap.size := by rw [hE_w3]; simp
    clear hgb hE_w3 c0 c1 c2 c3 c4 c5 c6 c7 c8 c9 c10 c11 c12 c13 c14 hg tq hltT
    have y0 := HX3.out.c 0 _ rfl
    have y1 := HX3.out.c 1 _ rfl
    have y2 := HX3.out.c 2 _ rfl
    have y3 := HX3.out.c 3 _ rfl
    have y4 := HX3.out.c 4 _ rfl
    have y5 := HX3.out.c 5 _ rfl
    have y6 := HX3.out.c 6 _ rfl
    have y7 := HX3.out.c 7 _ rfl
    have y8 := HX3.out.c 8 _ rfl
    have y9 := HX3.out.c 9 _ rfl
    have y10 := HX3.out.c 10 _ rfl
    have y11 := HX3.out.c 11 _ rfl
    have y12 := HX3.out.c 12 _ rfl
    have y13 := HX3.out.c 13 _ rfl
    have y14 := HX3.out.c 14 _ rfl
    have lt_ := HX3.out.lt
    obtain ⟨d_, hd_⟩ : ∃ b, b = (((((in1 0 3 x.lv && x.mvB) && in1 0 15 x.rs) && in1 0 15 x.gr) && in1 (-1) 31 x.cl) && in1 (-1) 63 x.sw) := ⟨_, rfl⟩
    have HF : Hid (d_ = x.fB) := hQ0 (by rw [hd_]; first | rfl | (simp only [Fl.fB, Fl.gB, Fl.mvB]; first | ac_rfl | (simp only [Bool.and_assoc]; done)))
    have hb3 := Below.refl w3.heap.size w3
    revert hd_
    cases h0 : in1 0 3 x.lv
    rotate_left
    cases h1 : x.mvB
    rotate_left
    cases h2 : in1 0 15 x.rs
    rotate_left
    cases h3 : in1 0 15 x.gr
    rotate_left
    cases h4 : in1 (-1) 31 x.cl
    rotate_left
    cases h5 : in1 (-1) 63 x.sw
    rotate_left
    all_goals (as_aux_lemma =>
     intro hd_
     simp only [Bool.and_true, Bool.true_and, Bool.and_false, Bool.false_and] at hd_
     have HD := hQ0 hd_
     clear hd_
     go_upto_region 25 with (first | (go_at_call 34; refine (rin_any _ _ _ _).mono ?_; rintro e w9 ⟨rfl, hb9⟩; replace hb3 := hb3.trans (hb9.mono hb3.size); replace HX3 := hQ0 (HX3.out.below hb9 HX3.out.lt); clear hb9 lt_ y0 y1 y2 y3 y4 y5 y6 y7 y8 y9 y10 y11 y12 y13 y14; have y0 := HX3.out.c 0 _ rfl; have y1 := HX3.out.c 1 _ rfl; have y2 := HX3.out.c 2 _ rfl; have y3 := HX3.out.c 3 _ rfl; have y4 := HX3.out.c 4 _ rfl; have y5 := HX3.out.c 5 _ rfl; have y6 := HX3.out.c 6 _ rfl; have y7 := HX3.out.c 7 _ rfl; have y8 := HX3.out.c 8 _ rfl; have y9 := HX3.out.c 9 _ rfl; have y10 := HX3.out.c 10 _ rfl; have y11 := HX3.out.c 11 _ rfl; have y12 := HX3.out.c 12 _ rfl; have y13 := HX3.out.c 13 _ rfl; have y14 := HX3.out.c 14 _ rfl; have lt_ := HX3.out.lt) | (go_at_call 85; refine (rflips_any x _).mono ?_; rintro e w9 ⟨rfl, hb9⟩; replace hb3 := hb3.trans (hb9.mono hb3.size); replace HX3 := hQ0 (HX3.out.below hb9 HX3.out.lt); clear hb9 lt_ y0 y1 y2 y3 y4 y5 y6 y7 y8 y9 y10 y11 y12 y13 y14; have y0 := HX3.out.c 0 _ rfl; have y1 := HX3.out.c 1 _ rfl; have y2 := HX3.out.c 2 _ rfl; have y3 := HX3.out.c 3 _ rfl; have y4 := HX3.out.c 4 _ rfl; have y5 := HX3.out.c 5 _ rfl; have y6 := HX3.out.c 6 _ rfl; have y7 := HX3.out.c 7 _ rfl; have y8 := HX3.out.c 8 _ rfl; have y9 := HX3.out.c 9 _ rfl; have y10 := HX3.out.c 10 _ rfl; have y11 := HX3.out.c 11 _ rfl; have y12 := HX3.out.c 12 _ rfl; have y13 := HX3.out.c 13 _ rfl; have y14 := HX3.out.c 14 _ rfl; have lt_ := HX3.out.lt))
     obtain ⟨w4, rfl⟩ : ∃ z, z = w9 := ⟨_, rfl⟩
     clear lt_ y0 y1 y2 y3 y4 y5 y6 y7 y8 y9 y10 y11 y12 y13 y14
     clear h0
     have HX4 := HX3
     have HJ4 : Hid (Below w.heap.size w w4 ∧ BoxAt w4 w.heap.size TC ∧ ElOwn w4 base A1 c1_ L) := hQ0 ⟨HJ3.out.1.trans (hb3.mono (by omega)), HJ3.out.2.1.below hb3 (by omega), own_below HJ3.out.2.2 hb3 (Nat.le_refl _)⟩
     have hz4 : wq.heap.size < w4.heap.size := Nat.lt_of_lt_of_le hz3 hb3.size
     clear hb3 HX3 HJ3 hz3
     refine wp_region_lit ?_
     have hS_ : Below w4.heap.size w4 w4 := Below.refl _ _
     iterate 3 (apply wpL_maybe true (by exact rfl); (case h => intro _; have hcW_ := (bcellW hS_).1; have hY_ := (HX4.out).below hS_ (HX4.out.lt); have y0_ := hY_.c 0 (.string x.nm) (rfl); go_simp; try exact rfl); intro K hK; go_simp; apply hK; clear hK K)
     apply wpL_maybe true (by exact rfl) (.bool d_)
     (case h => intro _; have hcW_ := (bcellW hS_).1; go_simp; first | done | exact rfl | (rw [HD.out]))
     intro K hK; go_simp; apply hK; clear hK K
     apply wpL_maybe true (by exact rfl)
     (case h => intro _; have hcW_ := (bcellW hS_).1; go_simp; try exact rfl)
     intro K hK; go_simp; apply hK; clear hK K
     apply wpL_freshm (S := Below w4.heap.size w4)  true (by exact rfl)
     (case h => intro _; generalize hev_ : Act.eval _ = ev_; (have v259_ := evE hev_ 259; simp only [getL64, getL8, getL1, getL0, opt_true, Bool.not_false] at v259_); have vc_ := evC hev_; clear hev_; go_simp; first | done | exact rfl | exact ⟨rfl, rfl⟩); (case hS => exact hS_); (case hS' => exact (hS_).alloc (hS_).size _)
     intro K hK w_ hS2_ hw0_; have hw_ := hQ0 hw0_; clear hw0_; go_simp; apply hK; clear hK K hS_; have hS_ := hS2_; clear hS2_
     (try go_simp)
     have hE_ := hw_.out rfl
     have HEL : Hid (Fl.el x = ⟨x.nm, d_, true⟩) := hQ0 (by
      have h1 : d_ = x.fB := HF.out
      have h2 : true = (Fl.el x).fm := rfl
      rw [h1, h2]
      rfl)
     have hR_ : BoxAt w_ w4.heap.size [.string x.nm, .bool d_, .bool true] := by rw [hE_]; exact BoxAt.new w4 [.string x.nm, .bool d_, .bool true] _
     have HJ5 : Hid (Below w.heap.size w w_ ∧ BoxAt w_ w.heap.size TC ∧ ElOwn w_ base A1 c1_ L) := hQ0 ⟨HJ4.out.1.trans (hS_.mono (by have := HJ4.out.1.size; omega)), HJ4.out.2.1.below hS_ HJ4.out.2.1.lt, own_below HJ4.out.2.2 hS_ (Nat.le_refl _)⟩
     have hbs5 : base ≤ w_.heap.size := by have := hS_.size; omega
     have HLL : Hid (L.length ≤ 1000000) := hQ0 (by rw [HL.out, List.length_append, List.length_map, List.length_take]; have := HLl.out; omega)
     refine wpList_append_one rfl (.tmp 255) (.tmp 260) 88 91 _ 3 _ rfl Tryz.underlying88 infEl rfl (by decide) (by decide) base (.slice A1 L.length c1_) L.length (L.flatMap El.cells) [.string x.nm, .bool d_, .bool true] (by go_simp; try exact rfl) HJ5.out.2.2 w4.heap.size 1 (by go_simp; try exact rfl) rfl hR_.c (by simp [Value.oneCell']) HLL.out hbs5 ?_
     intro v7 w7 ho7 hg7 _
     obtain ⟨A2, c2, rfl⟩ := own_sl ho7
     have hfr : ∀ j, (Value.slice A1 L.length c1_).ownBlock = some j → base ≤ j := fun j hj => (World.ownsRow.lt HJ5.out.2.2 j hj).1
     have hX7 : ElOwn w7 base A2 c2 (L ++ [Fl.el x]) := ElOwn.snoc (by rw [HEL.out]; exact ho7)
     have hE : L ++ [Fl.el x] = L0 ++ (l.take (k + 1)).map Fl.el := by rw [HL.out]; exact el_snoc Fl.el HXX.out L0
     rw [hE] at hX7
     have hn7 : L.length + 1 = (L0 ++ (l.take (k + 1)).map Fl.el).length := by rw [← hE]; simp
     have HN7 := hQ0 hn7
     have HJ7 : Hid (Below w.heap.size w w7 ∧ BoxAt w7 w.heap.size TC ∧ ElOwn w7 base A2 c2 (L0 ++ (l.take (k + 1)).map Fl.el)) := hQ0 ⟨HJ5.out.1.trans (below_grown hg7 (fun j hj => by have := hfr j hj; omega) HJ5.out.1.size), boxAt_grown HJ5.out.2.1 hg7 (fun j hj e => by have := hfr j hj; omega), hX7⟩
     have hbs7 : base ≤ w7.heap.size := Nat.le_trans hbs5 hg7.size
     clear hX7 hfr hE ho7 hg7 hn7 hR_ hE_ hS_
     go_simp
     refine wpList_plain rfl fun K hK => ?_; go_simp; apply hK; clear hK K
     refine wpList_nil ?_
     (try go_simp)
     go_wp2_with fail
     go_roundg (l.length - (k + 1) + 1)
     case measure => omega
     case rel => exact ⟨k + 1, A2, c2, by omega, by omega, by rw [← HN7.out], by go_num, hbs7, HJ7⟩)
  · obtain rfl : k = l.length := by omega
    go_wp2_with fail
    show R _ _
    have hj := HJ.out
    have hL2 : L = L0 ++ l.map Fl.el := by rw [HL.out, List.take_length]
    rw [hL2] at hj ⊢
    exact HR.out _ _ A1 c1_ rfl (congrArg some HE1.out.symm) rfl rfl hj.1 hbs hj.2.1 hj.2.2
end Go.Proofs.YtbpcjpiaimdpnaaGreatDoor
