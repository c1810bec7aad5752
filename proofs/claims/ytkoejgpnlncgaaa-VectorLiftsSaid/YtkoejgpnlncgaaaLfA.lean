/- The contracts of pinballref06.corners, square, better. -/
import Derived.Test.YtkoejgpnlncgaaaRefL
import Derived.Test.YtkoejgpnlncgaaaZk
namespace Go.Proofs.Ytkoejgpnlncgaaa
open Go Go.RowKit
set_option linter.unusedVariables false
/-- A row of vectors at the beginning of a block. -/
def VR (g : Nat) (l : List V2) (W : World) : Prop := g < W.heap.size ∧ ∀ j u, (flatV l)[j]? = some u → W.cell? ((⟨g, 0, none⟩ : Addr).add j) = some u
theorem add_block (g j : Nat) : ((⟨g, 0, none⟩ : Addr).add j).block = g := by unfold Addr.add; split <;> rfl
theorem VR.cl (g : Nat) (l : List V2) : Cl (VR g l) := fun W W' h hb => ⟨Nat.lt_of_lt_of_le h.1 hb.size, fun j u hu => (hb.cell (p := (⟨g, 0, none⟩ : Addr).add j) (by rw [add_block]; exact h.1)).trans (h.2 j u hu)⟩
def VRout (l : List V2) (w : World) (e : Ending) (w' : World) : Prop := Below w.heap.size w w' ∧ ∃ g, e = .returned (.slice (some ⟨g, 0, none⟩) l.length l.length) ∧ w.heap.size ≤ g ∧ VR g l w'
theorem numR_in {q : Int} (h : -4611686018427387904 ≤ q ∧ q ≤ 4611686018427387904) : (numR q).1 = q := by
  unfold numR
  rw [if_pos (by omega)]
theorem quo_bd {a d : Int} (hd : 0 < d) (h1 : -(4611686018427387904 * d) ≤ a) (h2 : a ≤ 4611686018427387904 * d) : -4611686018427387904 ≤ a / d ∧ a / d ≤ 4611686018427387904 :=
  ⟨Int.le_ediv_of_mul_le hd (by omega), Int.ediv_le_of_le_mul hd (by omega)⟩
theorem comp_le (a : Int) : -(a * a) ≤ a ∧ a ≤ a * a := by
  have s1 : a * a = (a.natAbs : Int) * (a.natAbs : Int) := by rw [← Int.natCast_mul]; exact Int.natAbs_mul_self.symm
  rw [s1]
  rcases Nat.eq_zero_or_pos a.natAbs with h | h
  · rw [h]; simp; omega
  · have := Int.mul_le_mul_of_nonneg_right (show (1 : Int) ≤ (a.natAbs : Int) by omega) (show (0 : Int) ≤ (a.natAbs : Int) by omega); omega
theorem vd_pos {x n : V2} (h : vd x n < 0) : 0 < vd n n := by
  have h1 := comp_le n.1
  have h2 := comp_le n.2
  have s1 : 0 ≤ n.1 * n.1 := by rcases Int.le_total 0 n.1 with h | h; exact Int.mul_nonneg h h; exact Int.mul_nonneg_of_nonpos_of_nonpos h h
  have s2 : 0 ≤ n.2 * n.2 := by rcases Int.le_total 0 n.2 with h | h; exact Int.mul_nonneg h h; exact Int.mul_nonneg_of_nonpos_of_nonpos h h
  unfold vd at *
  rcases Int.lt_or_le 0 (n.1 * n.1 + n.2 * n.2) with g | g
  · exact g
  · exfalso
    have e1 : n.1 = 0 := by omega
    have e2 : n.2 = 0 := by omega
    rw [e1, e2] at h
    simp at h
set_option maxRecDepth 100000 in
set_option maxHeartbeats 20000000 in
theorem floor_any (u v : Value) (a b : Int) (w : World) (ha : IsC w u a) (hb : IsC w v b) (la : (canN a.natAbs).length ≤ 100) (lb : (canN b.natAbs).length ≤ 100) (hb0 : 0 < b) :
    Calls Try.prog 98 #[u, v] w fun e w' => e = .returned (.int .i64 (numR (a / b)).1) ∧ Below w.heap.size w w' := by
  have ha' := ha
  have hb' := hb
  obtain ⟨sp, Ap, np, cp, rfl⟩ := ha.val
  obtain ⟨sq, Aq, nq, cq, rfl⟩ := hb.val
  have hfe := @floor_eq a b hb0
  have hqa : (a.tdiv b).natAbs ≤ a.natAbs := by rw [Int.natAbs_tdiv]; exact Nat.div_le_self _ _
  have hra : (a.tmod b).natAbs ≤ a.natAbs := by rw [Int.natAbs_tmod]; exact Nat.mod_le _ _
  have lq := Nat.le_trans (canN_mono hqa) la
  have lr := Nat.le_trans (canN_mono hra) la
  have k1 := fun u v w h1 h2 => div_any 100 u v a b w h1 h2 (by omega) (by omega)
  rw [hfe]
  generalize a.tdiv b = Q at *
  generalize a.tmod b = R at *
  have k2 := fun v w h => sign_any 100 v R w h (by omega)
  obtain ⟨U, hU⟩ : ∃ U : Int, U = 1 := ⟨_, rfl⟩
  have k3 := fun w => ((by have := of_any 1 w (by omega) (by omega); rw [hU]; exact this) : Calls Try.prog 67 #[.int .i64 1] w (ZOut U w))
  have lu : (canN U.natAbs).length ≤ 100 := by rw [hU]; exact len_up (len_wd (by omega) (by omega)) (by omega)
  have k4 := fun u v w h1 h2 => minus_any 100 u v Q U w h1 h2 (by omega)
  have lq1 := len_sub lq lu
  have k5 := fun v w h => number_any (100 + 1) v (Q - U) w h (by omega)
  have k6 := fun v w h => number_any 100 v Q w h (by omega)
  have hneg : (sgn R < 0 ↔ R < 0) ∧ -1 ≤ sgn R ∧ sgn R ≤ 1 := by unfold sgn; split <;> (try split) <;> omega
  obtain ⟨hneg, hs1, hs2⟩ := hneg
  generalize sgn R = sg at *
  generalize hQ1 : Q - U = Q1 at *
  by_cases hr : R < 0
  · rw [if_pos hr, ← hU, hQ1]
    have hsg := hneg.2 hr
    generalize (numR Q1).1 = f at *
    generalize (numR Q1).2 = f2 at *
    have K1 := Lib.hid k1
    have K2 := Lib.hid k2
    have K3 := Lib.hid k3
    have K4 := Lib.hid k4
    have K5 := Lib.hid k5
    have HA := Lib.hid ha'
    have HB := Lib.hid hb'
    have LA := Lib.hid la
    have LB := Lib.hid lb
    have LQ := Lib.hid lq
    have LR := Lib.hid lr
    have LU := Lib.hid lu
    have LQ1 := Lib.hid lq1
    clear k1 k2 k3 k4 k5 k6 ha hb ha' hb' la lb lq lr lu lq1 hfe hqa hra hb0 hneg hr hU hQ1
    -- names on
    go_enter Try.func98, Try.ntmps98; (try simp only [List.append_eq, List.cons_append, List.nil_append])
    go_wp2_with fail
    -- own blocks: 
    (go_at_call 75; refine (K1.out _ _ _ ((show IsC _ (.agg #[.bool sp, .slice Ap np cp]) (a) by ((repeat (first | (with_reducible exact HA.out) | (with_reducible refine IsC.al ?_ _) | (with_reducible apply IsC.st1))) <;> (first | (with_reducible assumption) | (intro _ e; cases e; done) | (go_simp; first | done | exact rfl)))).zl LA.out) ((show IsC _ (.agg #[.bool sq, .slice Aq nq cq]) (b) by ((repeat (first | (with_reducible exact HB.out) | (with_reducible refine IsC.al ?_ _) | (with_reducible apply IsC.st1))) <;> (first | (with_reducible assumption) | (intro _ e; cases e; done) | (go_simp; first | done | exact rfl)))).zl LB.out)).mono ?_; rintro e w4 ⟨hb_w4, u4, v4, rfl, hu4, hv4⟩; have hz_w4 := hb_w4.size; (try simp at hz_w4); skip)
    obtain ⟨s4u, A4u, n4u, c4u, rfl⟩ := IsC.val hu4
    obtain ⟨s4, A4, n4, c4, rfl⟩ := IsC.val hv4
    clear HA
    clear HB
    have HB4 := Lib.hid (show Below w.heap.size w w4 by ((with_reducible (repeat (first | exact bR _ _ | refine bS ?_ ?_ _ | refine bA ?_ ?_ _ | refine bD ?_ | refine bT ?_ (by assumption) ?_ | refine bO (by assumption) ?_ ?_))) <;> (first | omega | (simp; done) | (simp <;> omega))))
    have hz4 : w.heap.size + 1 + 1 ≤ w4.heap.size := by omega
    clear hb_w4
    skip
    have H4u := Lib.hid (show IsC w4 (.agg #[.bool s4u, .slice A4u n4u c4u]) (Q) from hu4)
    clear hu4
    have H4 := Lib.hid (show IsC w4 (.agg #[.bool s4, .slice A4 n4 c4]) (R) from hv4)
    clear hv4
    go_wp2_with fail
    -- own blocks: w4.heap.size:2
    (go_at_call 104; refine (K2.out _ _ ((show IsC _ (.agg #[.bool s4, .slice A4 n4 c4]) (R) by ((repeat (first | (with_reducible exact H4.out) | (with_reducible refine IsC.al ?_ _) | (with_reducible apply IsC.st1))) <;> (first | (with_reducible assumption) | (intro _ e; cases e; done) | (go_simp; first | done | exact rfl)))).zl LR.out)).mono ?_; rintro e w5 ⟨rfl, hb_w5⟩; have hz_w5 := hb_w5.size; (try simp at hz_w5); (with_reducible apply cel2 (b := w4.heap.size) hb_w5); (focus ((try simp) <;> omega)); (focus omega); (focus (go_simp; try exact rfl)); (focus (go_simp; try exact rfl)); (focus (intro o; go_simp)); intro c_w5_0_0 c_w5_0_1 fz_w5_0 hl_w5_0)
    clear H4
    replace H4u := Lib.hid (IsC.below (v := .agg #[.bool s4u, .slice A4u n4u c4u]) (z := Q) (by ((repeat (first | (with_reducible exact H4u.out) | (with_reducible refine IsC.al ?_ _) | (with_reducible apply IsC.st1))) <;> (first | (with_reducible assumption) | (intro _ e; cases e; done) | (go_simp; first | done | exact rfl)))) hb_w5)
    have HB5 := Lib.hid (show Below w.heap.size w w5 by have hB := HB4.out; ((with_reducible (repeat (first | exact bR _ _ | refine bS ?_ ?_ _ | refine bA ?_ ?_ _ | refine bD ?_ | refine bT ?_ (by assumption) ?_ | refine bO (by assumption) ?_ ?_))) <;> (first | omega | (simp; done) | (simp <;> omega))))
    have hz5 : w.heap.size + 1 + 1 ≤ w5.heap.size := by omega
    clear hb_w5
    skip
    go_wp2_with fail
    -- own blocks: w4.heap.size:2
    (refine pin_wp (N := _) (Nat.le_refl _) (fun w6 hb_w6 hz_w6 => ?_); (try simp at hz_w6); (with_reducible apply cel2 (b := w4.heap.size) hb_w6); (focus ((try simp) <;> omega)); (focus omega); (focus (go_simp; try exact rfl)); (focus (go_simp; try exact rfl)); (focus (intro o; go_simp)); intro c_w6_0_0 c_w6_0_1 fz_w6_0 hl_w6_0); refine wp_q (fun Q_ HQ_ => ?_); refine wp_region_floatQ w6.heap.size 3 [3] (Nat.le_refl _) (fun _ => True) trivial Cl.tt (by kernel_rfl) (by kernel_rfl) ?_
    replace H4u := Lib.hid (IsC.below (v := .agg #[.bool s4u, .slice A4u n4u c4u]) (z := Q) (by ((repeat (first | (with_reducible exact H4u.out) | (with_reducible refine IsC.al ?_ _) | (with_reducible apply IsC.st1))) <;> (first | (with_reducible assumption) | (intro _ e; cases e; done) | (go_simp; first | done | exact rfl)))) hb_w6)
    have HB6 := Lib.hid (show Below w.heap.size w w6 by have hB := HB5.out; ((with_reducible (repeat (first | exact bR _ _ | refine bS ?_ ?_ _ | refine bA ?_ ?_ _ | refine bD ?_ | refine bT ?_ (by assumption) ?_ | refine bO (by assumption) ?_ ?_))) <;> (first | omega | (simp; done) | (simp <;> omega))))
    have hz6 : w.heap.size + 1 + 1 ≤ w6.heap.size := by omega
    clear hb_w6
    clear c_w5_0_0 c_w5_0_1 fz_w5_0 hl_w5_0
    refine wpQI_start [0] ?_; (iterate 1 (first | (refine wpQI_off (by with_reducible (refine List.getElem?_toArray.trans ?_; (repeat (first | exact List.getElem?_cons_zero | refine List.getElem?_cons_succ.trans ?_)))) (by kernel_rfl) (by exact rfl) (fun K hK => ?_); go_simp; refine hK _ ?_; clear hK K) | ((first | apply wpQI_step (by with_reducible (refine List.getElem?_toArray.trans ?_; (repeat (first | exact List.getElem?_cons_zero | refine List.getElem?_cons_succ.trans ?_)))) (by kernel_rfl) (by exact rfl) | apply wpQI_on (by with_reducible (refine List.getElem?_toArray.trans ?_; (repeat (first | exact List.getElem?_cons_zero | refine List.getElem?_cons_succ.trans ?_)))) (by kernel_rfl) (by exact rfl)); (focus (intro W' hS; have hcS := hS.cells.1; have hfS := hS.cells.2; go_simp; (first | done | exact rfl | exact ⟨rfl, Below.refl _ _⟩ | (go_simp; first | done | exact rfl | exact ⟨rfl, Below.refl _ _⟩)))); intro K hK; go_simp; (try go_bits); refine hK _ ?_; clear hK K))); refine wpQI_nil ?_
    apply wpQ_call (i := 1) (by with_reducible (refine List.getElem?_toArray.trans ?_; (repeat (first | exact List.getElem?_cons_zero | refine List.getElem?_cons_succ.trans ?_)))) (by kernel_rfl) (by exact rfl); intro W hF hS; have hcS := hS.1.cells.1; have hfS := hS.1.cells.2; go_simp; (go_at_call 67; refine (K3.out _).mono ?_; rintro e w7 ⟨hb_w7, v7, rfl, hv7⟩; refine XPost.mk _ (fun W => IsC W v7 (U)) hb_w7 (hv7) (IsC.cl _ _) ?_); clear hb_w7 hcS hfS hS hF
    intro K hK; go_simp; (try go_bits); refine hK _ ?_; clear hK K
    obtain ⟨s7, A7, n7, c7, rfl⟩ := IsC.val hv7
    clear hv7
    apply wpQ_call (i := 2) (by with_reducible (refine List.getElem?_toArray.trans ?_; (repeat (first | exact List.getElem?_cons_zero | refine List.getElem?_cons_succ.trans ?_)))) (by kernel_rfl) (by exact rfl); intro W hF hS; have hcS := hS.1.cells.1; have hfS := hS.1.cells.2; go_simp; (go_at_call 97; refine (K4.out _ _ _ ((H4u.out.below hS.1.2).zl LQ.out) (hF.zl LU.out)).mono ?_; rintro e w8 ⟨hb_w8, v8, rfl, hv8⟩; refine XPost.mk _ (fun W => IsC W v8 (Q1)) hb_w8 (hv8) (IsC.cl _ _) ?_); clear hb_w8 hcS hfS hS hF
    intro K hK; go_simp; (try go_bits); refine hK _ ?_; clear hK K
    obtain ⟨s8, A8, n8, c8, rfl⟩ := IsC.val hv8
    clear hv8
    refine wpQ_done (by kernel_rfl) ?_
    intro w9 hF_w9 hSG
    have hz_w9 := hSG.1.1
    have hb_w9 := hSG.1.2
    clear hSG
    (with_reducible apply cel2 (b := w4.heap.size) hb_w9); (focus ((try simp) <;> omega)); (focus omega); (focus (go_simp; try exact rfl)); (focus (go_simp; try exact rfl)); (focus (intro o; go_simp)); intro c_w9_0_0 c_w9_0_1 fz_w9_0 hl_w9_0
    (try simp only [List.filterMap_cons, List.filterMap_nil, List.getElem?_cons_succ, List.getElem?_cons_zero])
    replace H4u := Lib.hid (H4u.out.below hb_w9)
    have H7 := Lib.hid (show IsC w9 (.agg #[.bool s7, .slice A7 n7 c7]) (U) from hF_w9.1)
    have H8 := Lib.hid (show IsC w9 (.agg #[.bool s8, .slice A8 n8 c8]) (Q1) from hF_w9.2)
    have HB9 := Lib.hid (HB6.out.trans (hb_w9.mono (by have := HB6.out.size; omega)))
    have hz9 : w.heap.size + 1 + 1 ≤ w9.heap.size := by omega
    clear hF_w9 hb_w9
    clear c_w6_0_0 c_w6_0_1 fz_w6_0 hl_w6_0
    go_wp2_with fail
    refine HQ_.out _ _ _ ?_
    clear HQ_ Q_
    go_wp2_with fail
    -- own blocks: 
    (go_at_call 77; refine (K5.out _ _ ((show IsC _ (.agg #[.bool s8, .slice A8 n8 c8]) (Q1) by ((repeat (first | (with_reducible exact H8.out) | (with_reducible refine IsC.al ?_ _) | (with_reducible apply IsC.st1))) <;> (first | (with_reducible assumption) | (intro _ e; cases e; done) | (go_simp; first | done | exact rfl)))).zl LQ1.out)).mono ?_; rintro e w10 ⟨rfl, hb_w10⟩; have hz_w10 := hb_w10.size; (try simp at hz_w10); skip)
    clear H4u
    clear H7
    clear H8
    have HB10 := Lib.hid (show Below w.heap.size w w10 by have hB := HB9.out; ((with_reducible (repeat (first | exact bR _ _ | refine bS ?_ ?_ _ | refine bA ?_ ?_ _ | refine bD ?_ | refine bT ?_ (by assumption) ?_ | refine bO (by assumption) ?_ ?_))) <;> (first | omega | (simp; done) | (simp <;> omega))))
    have hz10 : w.heap.size + 1 + 1 ≤ w10.heap.size := by omega
    clear hb_w10
    clear c_w9_0_0 c_w9_0_1 fz_w9_0 hl_w9_0
    go_wp2_with fail
    -- own blocks: 
    refine bodyPost_ret (v := .int .i64 f) (by simp only [results, Try.results98]; go_simp) rfl ⟨?_, ?_⟩
    · rfl
    · have hB := HB10.out; ((with_reducible (repeat (first | exact bR _ _ | refine bS ?_ ?_ _ | refine bA ?_ ?_ _ | refine bD ?_ | refine bT ?_ (by assumption) ?_ | refine bO (by assumption) ?_ ?_))) <;> (first | omega | (simp; done) | (simp <;> omega)))
  · rw [if_neg hr]
    have hsg : ¬ sg < 0 := fun h => hr (hneg.1 h)
    generalize (numR Q).1 = f at *
    generalize (numR Q).2 = f2 at *
    have K1 := Lib.hid k1
    have K2 := Lib.hid k2
    have K6 := Lib.hid k6
    have HA := Lib.hid ha'
    have HB := Lib.hid hb'
    have LA := Lib.hid la
    have LB := Lib.hid lb
    have LQ := Lib.hid lq
    have LR := Lib.hid lr
    clear k1 k2 k3 k4 k5 k6 ha hb ha' hb' la lb lq lr lu lq1 hfe hqa hra hb0 hneg hr hU hQ1
    -- names on
    go_enter Try.func98, Try.ntmps98; (try simp only [List.append_eq, List.cons_append, List.nil_append])
    go_wp2_with fail
    -- own blocks: 
    (go_at_call 75; refine (K1.out _ _ _ ((show IsC _ (.agg #[.bool sp, .slice Ap np cp]) (a) by ((repeat (first | (with_reducible exact HA.out) | (with_reducible refine IsC.al ?_ _) | (with_reducible apply IsC.st1))) <;> (first | (with_reducible assumption) | (intro _ e; cases e; done) | (go_simp; first | done | exact rfl)))).zl LA.out) ((show IsC _ (.agg #[.bool sq, .slice Aq nq cq]) (b) by ((repeat (first | (with_reducible exact HB.out) | (with_reducible refine IsC.al ?_ _) | (with_reducible apply IsC.st1))) <;> (first | (with_reducible assumption) | (intro _ e; cases e; done) | (go_simp; first | done | exact rfl)))).zl LB.out)).mono ?_; rintro e w4 ⟨hb_w4, u4, v4, rfl, hu4, hv4⟩; have hz_w4 := hb_w4.size; (try simp at hz_w4); skip)
    obtain ⟨s4u, A4u, n4u, c4u, rfl⟩ := IsC.val hu4
    obtain ⟨s4, A4, n4, c4, rfl⟩ := IsC.val hv4
    clear HA
    clear HB
    have HB4 := Lib.hid (show Below w.heap.size w w4 by ((with_reducible (repeat (first | exact bR _ _ | refine bS ?_ ?_ _ | refine bA ?_ ?_ _ | refine bD ?_ | refine bT ?_ (by assumption) ?_ | refine bO (by assumption) ?_ ?_))) <;> (first | omega | (simp; done) | (simp <;> omega))))
    have hz4 : w.heap.size + 1 + 1 ≤ w4.heap.size := by omega
    clear hb_w4
    skip
    have H4u := Lib.hid (show IsC w4 (.agg #[.bool s4u, .slice A4u n4u c4u]) (Q) from hu4)
    clear hu4
    have H4 := Lib.hid (show IsC w4 (.agg #[.bool s4, .slice A4 n4 c4]) (R) from hv4)
    clear hv4
    go_wp2_with fail
    -- own blocks: w4.heap.size:2
    (go_at_call 104; refine (K2.out _ _ ((show IsC _ (.agg #[.bool s4, .slice A4 n4 c4]) (R) by ((repeat (first | (with_reducible exact H4.out) | (with_reducible refine IsC.al ?_ _) | (with_reducible apply IsC.st1))) <;> (first | (with_reducible assumption) | (intro _ e; cases e; done) | (go_simp; first | done | exact rfl)))).zl LR.out)).mono ?_; rintro e w5 ⟨rfl, hb_w5⟩; have hz_w5 := hb_w5.size; (try simp at hz_w5); (with_reducible apply cel2 (b := w4.heap.size) hb_w5); (focus ((try simp) <;> omega)); (focus omega); (focus (go_simp; try exact rfl)); (focus (go_simp; try exact rfl)); (focus (intro o; go_simp)); intro c_w5_0_0 c_w5_0_1 fz_w5_0 hl_w5_0)
    clear H4
    replace H4u := Lib.hid (IsC.below (v := .agg #[.bool s4u, .slice A4u n4u c4u]) (z := Q) (by ((repeat (first | (with_reducible exact H4u.out) | (with_reducible refine IsC.al ?_ _) | (with_reducible apply IsC.st1))) <;> (first | (with_reducible assumption) | (intro _ e; cases e; done) | (go_simp; first | done | exact rfl)))) hb_w5)
    have HB5 := Lib.hid (show Below w.heap.size w w5 by have hB := HB4.out; ((with_reducible (repeat (first | exact bR _ _ | refine bS ?_ ?_ _ | refine bA ?_ ?_ _ | refine bD ?_ | refine bT ?_ (by assumption) ?_ | refine bO (by assumption) ?_ ?_))) <;> (first | omega | (simp; done) | (simp <;> omega))))
    have hz5 : w.heap.size + 1 + 1 ≤ w5.heap.size := by omega
    clear hb_w5
    skip
    go_wp2_with fail
    -- own blocks: 
    (go_at_call 77; refine (K6.out _ _ ((show IsC _ (.agg #[.bool s4u, .slice A4u n4u c4u]) (Q) by ((repeat (first | (with_reducible exact H4u.out) | (with_reducible refine IsC.al ?_ _) | (with_reducible apply IsC.st1))) <;> (first | (with_reducible assumption) | (intro _ e; cases e; done) | (go_simp; first | done | exact rfl)))).zl LQ.out)).mono ?_; rintro e w6 ⟨rfl, hb_w6⟩; have hz_w6 := hb_w6.size; (try simp at hz_w6); skip)
    clear H4u
    have HB6 := Lib.hid (show Below w.heap.size w w6 by have hB := HB5.out; ((with_reducible (repeat (first | exact bR _ _ | refine bS ?_ ?_ _ | refine bA ?_ ?_ _ | refine bD ?_ | refine bT ?_ (by assumption) ?_ | refine bO (by assumption) ?_ ?_))) <;> (first | omega | (simp; done) | (simp <;> omega))))
    have hz6 : w.heap.size + 1 + 1 ≤ w6.heap.size := by omega
    clear hb_w6
    clear c_w5_0_0 c_w5_0_1 fz_w5_0 hl_w5_0
    go_wp2_with fail
    -- own blocks: 
    refine bodyPost_ret (v := .int .i64 f) (by simp only [results, Try.results98]; go_simp) rfl ⟨?_, ?_⟩
    · rfl
    · have hB := HB6.out; ((with_reducible (repeat (first | exact bR _ _ | refine bS ?_ ?_ _ | refine bA ?_ ?_ _ | refine bD ?_ | refine bT ?_ (by assumption) ?_ | refine bO (by assumption) ?_ ?_))) <;> (first | omega | (simp; done) | (simp <;> omega)))
set_option maxRecDepth 100000 in
set_option maxHeartbeats 20000000 in
theorem corners_any (x1 x2 n1 n2 : Int) (w : World) (hx : smB (x1, x2) = true) (hn : smB (n1, n2) = true) (hneg : vd (x1, x2) (n1, n2) < 0) :
    Calls Try.prog 82 #[.agg #[.int .i64 x1, .int .i64 x2], .agg #[.int .i64 n1, .int .i64 n2]] w (VRout (cornersR (x1, x2) (n1, n2)) w) := by
  obtain ⟨q1, q2, q3, q4⟩ := small_bd hx
  obtain ⟨r1, r2, r3, r4⟩ := small_bd hn
  simp only at q1 q2 q3 q4 r1 r2 r3 r4
  have hpos := vd_pos hneg
  have hDb := vd_bd hn hn
  have hEb := vd_bd hx hn
  have k1 := fun w => rdot_any n1 n2 n1 n2 w
  rw [show dotR n1 n2 n1 n2 = vd (n1, n2) (n1, n2) from if_pos ⟨hn, hn⟩] at k1
  have k3 := fun w => rdot_any x1 x2 n1 n2 w
  rw [show dotR x1 x2 n1 n2 = vd (x1, x2) (n1, n2) from if_pos ⟨hx, hn⟩] at k3
  obtain ⟨C, hC⟩ : ∃ C, C = n1 * x2 - n2 * x1 := ⟨_, rfl⟩
  obtain ⟨m1, m2⟩ := mul_bd n1 x2 1073741824 1073741824 (by omega) (by omega) (by omega) (by omega)
  obtain ⟨m3, m4⟩ := mul_bd n2 x1 1073741824 1073741824 (by omega) (by omega) (by omega) (by omega)
  have cb : -2305843009213693952 ≤ C ∧ C ≤ 2305843009213693952 := by omega
  have g1 := comp_le n1
  have g2 := comp_le n2
  have s1 : 0 ≤ n1 * n1 := by omega
  have s2 : 0 ≤ n2 * n2 := by omega
  have hDD : vd (n1, n2) (n1, n2) = n1 * n1 + n2 * n2 := rfl
  have idA : x1 * vd (n1, n2) (n1, n2) - vd (x1, x2) (n1, n2) * n1 = -C * n2 := by unfold vd; rw [hC]; grind
  have idB : x2 * vd (n1, n2) (n1, n2) - vd (x1, x2) (n1, n2) * n2 = C * n1 := by unfold vd; rw [hC]; grind
  have hco : cornersR (x1, x2) (n1, n2) = [(-C * n2 / vd (n1, n2) (n1, n2), C * n1 / vd (n1, n2) (n1, n2)), (-C * n2 / vd (n1, n2) (n1, n2), -(-(C * n1) / vd (n1, n2) (n1, n2))), (-(-(-C * n2) / vd (n1, n2) (n1, n2)), C * n1 / vd (n1, n2) (n1, n2)), (-(-(-C * n2) / vd (n1, n2) (n1, n2)), -(-(C * n1) / vd (n1, n2) (n1, n2)))] := by unfold cornersR; rw [hC]
  rw [hco]
  clear hco
  generalize vd (n1, n2) (n1, n2) = D at *
  generalize vd (x1, x2) (n1, n2) = E at *
  obtain ⟨a1, a2⟩ := mul_bd (-C) n2 2305843009213693952 D (by omega) (by omega) (by omega) (by omega)
  obtain ⟨b1, b2⟩ := mul_bd C n1 2305843009213693952 D (by omega) (by omega) (by omega) (by omega)
  have k2 := fun w => of_any D w (by omega) (by omega)
  have k4 := fun w => of_any E w (by omega) (by omega)
  have k5 := fun w => of_any x1 w (by omega) (by omega)
  have k7 := fun w => of_any n1 w (by omega) (by omega)
  have k10 := fun w => of_any x2 w (by omega) (by omega)
  have k12 := fun w => of_any n2 w (by omega) (by omega)
  have ld := len_up (len_wd (z := D) (by omega) (by omega)) (show _ ≤ 100 by omega)
  have le := len_up (len_wd (z := E) (by omega) (by omega)) (show _ ≤ 100 by omega)
  have l1 := len_up (len_wd (z := x1) (by omega) (by omega)) (show _ ≤ 100 by omega)
  have l2 := len_up (len_wd (z := x2) (by omega) (by omega)) (show _ ≤ 100 by omega)
  have l3 := len_up (len_wd (z := n1) (by omega) (by omega)) (show _ ≤ 100 by omega)
  have l4 := len_up (len_wd (z := n2) (by omega) (by omega)) (show _ ≤ 100 by omega)
  have l5 := len_up (len_mul (len_wd (z := x1) (by omega) (by omega)) (len_wd (z := D) (by omega) (by omega))) (show _ ≤ 100 by omega)
  have l6 := len_up (len_mul (len_wd (z := x2) (by omega) (by omega)) (len_wd (z := D) (by omega) (by omega))) (show _ ≤ 100 by omega)
  have l7 := len_up (len_mul (len_wd (z := E) (by omega) (by omega)) (len_wd (z := n1) (by omega) (by omega))) (show _ ≤ 100 by omega)
  have l8 := len_up (len_mul (len_wd (z := E) (by omega) (by omega)) (len_wd (z := n2) (by omega) (by omega))) (show _ ≤ 100 by omega)
  have k6 := fun u v w h1 h2 => times_any 100 u v x1 D w h1 h2 (by omega)
  have k8 := fun u v w h1 h2 => times_any 100 u v E n1 w h1 h2 (by omega)
  have k9 := fun u v w h1 h2 => minus_any 100 u v (x1 * D) (E * n1) w h1 h2 (by omega)
  have k11 := fun u v w h1 h2 => times_any 100 u v x2 D w h1 h2 (by omega)
  have k13 := fun u v w h1 h2 => times_any 100 u v E n2 w h1 h2 (by omega)
  have k14 := fun u v w h1 h2 => minus_any 100 u v (x2 * D) (E * n2) w h1 h2 (by omega)
  rw [idA] at k9
  rw [idB] at k14
  have la := len_up (len_mul (x := -C) (y := n2) (len_wd (by omega) (by omega)) (len_wd (by omega) (by omega))) (show _ ≤ 100 by omega)
  have lb := len_up (len_mul (x := C) (y := n1) (len_wd (by omega) (by omega)) (len_wd (by omega) (by omega))) (show _ ≤ 100 by omega)
  have la2 := len_neg la
  have lb2 := len_neg lb
  have d1 := quo_bd (a := -C * n2) hpos (by omega) (by omega)
  have d2 := quo_bd (a := C * n1) hpos (by omega) (by omega)
  have d3 := quo_bd (a := -(-C * n2)) hpos (by omega) (by omega)
  have d4 := quo_bd (a := -(C * n1)) hpos (by omega) (by omega)
  have k15 := fun u v w h1 h2 => floor_any u v (-C * n2) D w h1 h2 la ld hpos
  have k16 := fun u v w h1 h2 => floor_any u v (C * n1) D w h1 h2 lb ld hpos
  have k17 := fun v w h => neg_any 100 v (-C * n2) w h (by omega)
  have k18 := fun u v w h1 h2 => floor_any u v (-(-C * n2)) D w h1 h2 la2 ld hpos
  have k19 := fun v w h => neg_any 100 v (C * n1) w h (by omega)
  have k20 := fun u v w h1 h2 => floor_any u v (-(C * n1)) D w h1 h2 lb2 ld hpos
  rw [numR_in d1] at k15
  rw [numR_in d2] at k16
  rw [numR_in d3] at k18
  rw [numR_in d4] at k20
  generalize -C * n2 / D = lx at *
  generalize C * n1 / D = ly at *
  generalize -(-C * n2) / D = hx' at *
  generalize -(C * n1) / D = hy' at *
  generalize -(-C * n2) = A2 at *
  generalize -(C * n1) = B2 at *
  generalize -C * n2 = A at *
  generalize C * n1 = B at *
  generalize x1 * D = X1 at *
  generalize x2 * D = X2 at *
  generalize E * n1 = Y1 at *
  generalize E * n2 = Y2 at *
  obtain ⟨d1a, d1b⟩ := d1
  obtain ⟨d2a, d2b⟩ := d2
  obtain ⟨d3a, d3b⟩ := d3
  obtain ⟨d4a, d4b⟩ := d4
  have K1 := Lib.hid k1
  have K2 := Lib.hid k2
  have K3 := Lib.hid k3
  have K4 := Lib.hid k4
  have K5 := Lib.hid k5
  have K6 := Lib.hid k6
  have K7 := Lib.hid k7
  have K8 := Lib.hid k8
  have K9 := Lib.hid k9
  have K10 := Lib.hid k10
  have K11 := Lib.hid k11
  have K12 := Lib.hid k12
  have K13 := Lib.hid k13
  have K14 := Lib.hid k14
  have K15 := Lib.hid k15
  have K16 := Lib.hid k16
  have K17 := Lib.hid k17
  have K18 := Lib.hid k18
  have K19 := Lib.hid k19
  have K20 := Lib.hid k20
  have LD := Lib.hid ld
  have LE := Lib.hid le
  have L1 := Lib.hid l1
  have L2 := Lib.hid l2
  have L3 := Lib.hid l3
  have L4 := Lib.hid l4
  have L5 := Lib.hid l5
  have L6 := Lib.hid l6
  have L7 := Lib.hid l7
  have L8 := Lib.hid l8
  have LA := Lib.hid la
  have LB := Lib.hid lb
  have LA2 := Lib.hid la2
  have LB2 := Lib.hid lb2
  clear k1 k2 k3 k4 k5 k6 k7 k8 k9 k10 k11 k12 k13 k14 k15 k16 k17 k18 k19 k20 ld le l1 l2 l3 l4 l5 l6 l7 l8 la lb la2 lb2 idA idB hDD hDb hEb hC cb m1 m2 m3 m4 g1 g2 s1 s2 a1 a2 b1 b2 hneg hpos hx hn
  -- names on
  go_enter Try.func82, Try.ntmps82; (try simp only [List.append_eq, List.cons_append, List.nil_append])
  go_wp2_with fail
  -- own blocks: w.heap.size:2, w.heap.size + 1:2
  (go_at_call 51; refine (K1.out _).mono ?_; rintro e w101 ⟨rfl, hb_w101⟩; have hz_w101 := hb_w101.size; (try simp at hz_w101); (with_reducible apply cel2 (b := w.heap.size) hb_w101); (focus ((try simp) <;> omega)); (focus omega); (focus (go_simp; try exact rfl)); (focus (go_simp; try exact rfl)); (focus (intro o; go_simp)); intro c_w101_0_0 c_w101_0_1 fz_w101_0 hl_w101_0; (with_reducible apply cel2 (b := w.heap.size + 1) hb_w101); (focus ((try simp) <;> omega)); (focus omega); (focus (go_simp; try exact rfl)); (focus (go_simp; try exact rfl)); (focus (intro o; go_simp)); intro c_w101_1_0 c_w101_1_1 fz_w101_1 hl_w101_1)
  have HB101 := Lib.hid (show Below w.heap.size w w101 by ((with_reducible (repeat (first | exact bR _ _ | refine bS ?_ ?_ _ | refine bA ?_ ?_ _ | refine bD ?_ | refine bT ?_ (by assumption) ?_ | refine bO (by assumption) ?_ ?_))) <;> (first | omega | (simp; done) | (simp <;> omega))))
  have hz101 : w.heap.size + 1 + 1 ≤ w101.heap.size := by omega
  clear hb_w101
  skip
  go_wp2_with fail
  -- own blocks: w.heap.size:2, w.heap.size + 1:2
  (go_at_call 67; refine (K2.out _).mono ?_; rintro e w102 ⟨hb_w102, v102, rfl, hv102⟩; have hz_w102 := hb_w102.size; (try simp at hz_w102); (with_reducible apply cel2 (b := w.heap.size) hb_w102); (focus ((try simp) <;> omega)); (focus omega); (focus (go_simp; try exact rfl)); (focus (go_simp; try exact rfl)); (focus (intro o; go_simp)); intro c_w102_0_0 c_w102_0_1 fz_w102_0 hl_w102_0; (with_reducible apply cel2 (b := w.heap.size + 1) hb_w102); (focus ((try simp) <;> omega)); (focus omega); (focus (go_simp; try exact rfl)); (focus (go_simp; try exact rfl)); (focus (intro o; go_simp)); intro c_w102_1_0 c_w102_1_1 fz_w102_1 hl_w102_1)
  obtain ⟨s102, A102, n102, c102, rfl⟩ := IsC.val hv102
  have HB102 := Lib.hid (show Below w.heap.size w w102 by have hB := HB101.out; ((with_reducible (repeat (first | exact bR _ _ | refine bS ?_ ?_ _ | refine bA ?_ ?_ _ | refine bD ?_ | refine bT ?_ (by assumption) ?_ | refine bO (by assumption) ?_ ?_))) <;> (first | omega | (simp; done) | (simp <;> omega))))
  have hz102 : w.heap.size + 1 + 1 ≤ w102.heap.size := by omega
  clear hb_w102
  clear c_w101_0_0 c_w101_0_1 fz_w101_0 hl_w101_0 c_w101_1_0 c_w101_1_1 fz_w101_1 hl_w101_1
  have H102 := Lib.hid (show IsC w102 (.agg #[.bool s102, .slice A102 n102 c102]) (D) from hv102)
  clear hv102
  go_wp2_with fail
  -- own blocks: w.heap.size:2, w.heap.size + 1:2, w102.heap.size:2
  (go_at_call 51; refine (K3.out _).mono ?_; rintro e w103 ⟨rfl, hb_w103⟩; have hz_w103 := hb_w103.size; (try simp at hz_w103); (with_reducible apply cel2 (b := w.heap.size) hb_w103); (focus ((try simp) <;> omega)); (focus omega); (focus (go_simp; try exact rfl)); (focus (go_simp; try exact rfl)); (focus (intro o; go_simp)); intro c_w103_0_0 c_w103_0_1 fz_w103_0 hl_w103_0; (with_reducible apply cel2 (b := w.heap.size + 1) hb_w103); (focus ((try simp) <;> omega)); (focus omega); (focus (go_simp; try exact rfl)); (focus (go_simp; try exact rfl)); (focus (intro o; go_simp)); intro c_w103_1_0 c_w103_1_1 fz_w103_1 hl_w103_1; (with_reducible apply cel2 (b := w102.heap.size) hb_w103); (focus ((try simp) <;> omega)); (focus omega); (focus (go_simp; try exact rfl)); (focus (go_simp; try exact rfl)); (focus (intro o; go_simp)); intro c_w103_2_0 c_w103_2_1 fz_w103_2 hl_w103_2)
  replace H102 := Lib.hid (IsC.below (v := .agg #[.bool s102, .slice A102 n102 c102]) (z := D) (by ((repeat (first | (with_reducible exact H102.out) | (with_reducible refine IsC.al ?_ _) | (with_reducible apply IsC.st1))) <;> (first | (with_reducible assumption) | (intro _ e; cases e; done) | (go_simp; first | done | exact rfl)))) hb_w103)
  have HB103 := Lib.hid (show Below w.heap.size w w103 by have hB := HB102.out; ((with_reducible (repeat (first | exact bR _ _ | refine bS ?_ ?_ _ | refine bA ?_ ?_ _ | refine bD ?_ | refine bT ?_ (by assumption) ?_ | refine bO (by assumption) ?_ ?_))) <;> (first | omega | (simp; done) | (simp <;> omega))))
  have hz103 : w.heap.size + 1 + 1 ≤ w103.heap.size := by omega
  clear hb_w103
  clear c_w102_0_0 c_w102_0_1 fz_w102_0 hl_w102_0 c_w102_1_0 c_w102_1_1 fz_w102_1 hl_w102_1
  go_wp2_with fail
  -- own blocks: w.heap.size:2, w.heap.size + 1:2, w102.heap.size:2
  (go_at_call 67; refine (K4.out _).mono ?_; rintro e w104 ⟨hb_w104, v104, rfl, hv104⟩; have hz_w104 := hb_w104.size; (try simp at hz_w104); (with_reducible apply cel2 (b := w.heap.size) hb_w104); (focus ((try simp) <;> omega)); (focus omega); (focus (go_simp; try exact rfl)); (focus (go_simp; try exact rfl)); (focus (intro o; go_simp)); intro c_w104_0_0 c_w104_0_1 fz_w104_0 hl_w104_0; (with_reducible apply cel2 (b := w.heap.size + 1) hb_w104); (focus ((try simp) <;> omega)); (focus omega); (focus (go_simp; try exact rfl)); (focus (go_simp; try exact rfl)); (focus (intro o; go_simp)); intro c_w104_1_0 c_w104_1_1 fz_w104_1 hl_w104_1; (with_reducible apply cel2 (b := w102.heap.size) hb_w104); (focus ((try simp) <;> omega)); (focus omega); (focus (go_simp; try exact rfl)); (focus (go_simp; try exact rfl)); (focus (intro o; go_simp)); intro c_w104_2_0 c_w104_2_1 fz_w104_2 hl_w104_2)
  obtain ⟨s104, A104, n104, c104, rfl⟩ := IsC.val hv104
  replace H102 := Lib.hid (IsC.below (v := .agg #[.bool s102, .slice A102 n102 c102]) (z := D) (by ((repeat (first | (with_reducible exact H102.out) | (with_reducible refine IsC.al ?_ _) | (with_reducible apply IsC.st1))) <;> (first | (with_reducible assumption) | (intro _ e; cases e; done) | (go_simp; first | done | exact rfl)))) hb_w104)
  have HB104 := Lib.hid (show Below w.heap.size w w104 by have hB := HB103.out; ((with_reducible (repeat (first | exact bR _ _ | refine bS ?_ ?_ _ | refine bA ?_ ?_ _ | refine bD ?_ | refine bT ?_ (by assumption) ?_ | refine bO (by assumption) ?_ ?_))) <;> (first | omega | (simp; done) | (simp <;> omega))))
  have hz104 : w.heap.size + 1 + 1 ≤ w104.heap.size := by omega
  clear hb_w104
  clear c_w103_0_0 c_w103_0_1 fz_w103_0 hl_w103_0 c_w103_1_0 c_w103_1_1 fz_w103_1 hl_w103_1 c_w103_2_0 c_w103_2_1 fz_w103_2 hl_w103_2
  have H104 := Lib.hid (show IsC w104 (.agg #[.bool s104, .slice A104 n104 c104]) (E) from hv104)
  clear hv104
  go_wp2_with fail
  -- own blocks: w.heap.size:2, w.heap.size + 1:2, w102.heap.size:2, w104.heap.size:2
  (refine pin_wp (N := _) (Nat.le_refl _) (fun w105 hb_w105 hz_w105 => ?_); (try simp at hz_w105); (with_reducible apply cel2 (b := w.heap.size) hb_w105); (focus ((try simp) <;> omega)); (focus omega); (focus (go_simp; try exact rfl)); (focus (go_simp; try exact rfl)); (focus (intro o; go_simp)); intro c_w105_0_0 c_w105_0_1 fz_w105_0 hl_w105_0; (with_reducible apply cel2 (b := w.heap.size + 1) hb_w105); (focus ((try simp) <;> omega)); (focus omega); (focus (go_simp; try exact rfl)); (focus (go_simp; try exact rfl)); (focus (intro o; go_simp)); intro c_w105_1_0 c_w105_1_1 fz_w105_1 hl_w105_1; (with_reducible apply cel2 (b := w102.heap.size) hb_w105); (focus ((try simp) <;> omega)); (focus omega); (focus (go_simp; try exact rfl)); (focus (go_simp; try exact rfl)); (focus (intro o; go_simp)); intro c_w105_2_0 c_w105_2_1 fz_w105_2 hl_w105_2; (with_reducible apply cel2 (b := w104.heap.size) hb_w105); (focus ((try simp) <;> omega)); (focus omega); (focus (go_simp; try exact rfl)); (focus (go_simp; try exact rfl)); (focus (intro o; go_simp)); intro c_w105_3_0 c_w105_3_1 fz_w105_3 hl_w105_3); refine wp_q (fun Q_ HQ_ => ?_); refine wp_region_floatQ w105.heap.size 12 [12] (Nat.le_refl _) (fun _ => True) trivial Cl.tt (by kernel_rfl) (by kernel_rfl) ?_
  replace H102 := Lib.hid (IsC.below (v := .agg #[.bool s102, .slice A102 n102 c102]) (z := D) (by ((repeat (first | (with_reducible exact H102.out) | (with_reducible refine IsC.al ?_ _) | (with_reducible apply IsC.st1))) <;> (first | (with_reducible assumption) | (intro _ e; cases e; done) | (go_simp; first | done | exact rfl)))) hb_w105)
  replace H104 := Lib.hid (IsC.below (v := .agg #[.bool s104, .slice A104 n104 c104]) (z := E) (by ((repeat (first | (with_reducible exact H104.out) | (with_reducible refine IsC.al ?_ _) | (with_reducible apply IsC.st1))) <;> (first | (with_reducible assumption) | (intro _ e; cases e; done) | (go_simp; first | done | exact rfl)))) hb_w105)
  have HB105 := Lib.hid (show Below w.heap.size w w105 by have hB := HB104.out; ((with_reducible (repeat (first | exact bR _ _ | refine bS ?_ ?_ _ | refine bA ?_ ?_ _ | refine bD ?_ | refine bT ?_ (by assumption) ?_ | refine bO (by assumption) ?_ ?_))) <;> (first | omega | (simp; done) | (simp <;> omega))))
  have hz105 : w.heap.size + 1 + 1 ≤ w105.heap.size := by omega
  clear hb_w105
  clear c_w104_0_0 c_w104_0_1 fz_w104_0 hl_w104_0 c_w104_1_0 c_w104_1_1 fz_w104_1 hl_w104_1 c_w104_2_0 c_w104_2_1 fz_w104_2 hl_w104_2
  refine wpQI_start [0, 1] ?_; (iterate 2 (first | (refine wpQI_off (by with_reducible (refine List.getElem?_toArray.trans ?_; (repeat (first | exact List.getElem?_cons_zero | refine List.getElem?_cons_succ.trans ?_)))) (by kernel_rfl) (by exact rfl) (fun K hK => ?_); go_simp; refine hK _ ?_; clear hK K) | ((first | apply wpQI_step (by with_reducible (refine List.getElem?_toArray.trans ?_; (repeat (first | exact List.getElem?_cons_zero | refine List.getElem?_cons_succ.trans ?_)))) (by kernel_rfl) (by exact rfl) | apply wpQI_on (by with_reducible (refine List.getElem?_toArray.trans ?_; (repeat (first | exact List.getElem?_cons_zero | refine List.getElem?_cons_succ.trans ?_)))) (by kernel_rfl) (by exact rfl)); (focus (intro W' hS; have hcS := hS.cells.1; have hfS := hS.cells.2; go_simp; (first | done | exact rfl | exact ⟨rfl, Below.refl _ _⟩ | (go_simp; first | done | exact rfl | exact ⟨rfl, Below.refl _ _⟩)))); intro K hK; go_simp; (try go_bits); refine hK _ ?_; clear hK K))); refine wpQI_nil ?_
  refine wpQI_start [3] ?_; (iterate 1 (first | (refine wpQI_off (by with_reducible (refine List.getElem?_toArray.trans ?_; (repeat (first | exact List.getElem?_cons_zero | refine List.getElem?_cons_succ.trans ?_)))) (by kernel_rfl) (by exact rfl) (fun K hK => ?_); go_simp; refine hK _ ?_; clear hK K) | ((first | apply wpQI_step (by with_reducible (refine List.getElem?_toArray.trans ?_; (repeat (first | exact List.getElem?_cons_zero | refine List.getElem?_cons_succ.trans ?_)))) (by kernel_rfl) (by exact rfl) | apply wpQI_on (by with_reducible (refine List.getElem?_toArray.trans ?_; (repeat (first | exact List.getElem?_cons_zero | refine List.getElem?_cons_succ.trans ?_)))) (by kernel_rfl) (by exact rfl)); (focus (intro W' hS; have hcS := hS.cells.1; have hfS := hS.cells.2; go_simp; (first | done | exact rfl | exact ⟨rfl, Below.refl _ _⟩ | (go_simp; first | done | exact rfl | exact ⟨rfl, Below.refl _ _⟩)))); intro K hK; go_simp; (try go_bits); refine hK _ ?_; clear hK K))); refine wpQI_nil ?_
  refine wpQI_start [5, 6, 7] ?_; (iterate 3 (first | (refine wpQI_off (by with_reducible (refine List.getElem?_toArray.trans ?_; (repeat (first | exact List.getElem?_cons_zero | refine List.getElem?_cons_succ.trans ?_)))) (by kernel_rfl) (by exact rfl) (fun K hK => ?_); go_simp; refine hK _ ?_; clear hK K) | ((first | apply wpQI_step (by with_reducible (refine List.getElem?_toArray.trans ?_; (repeat (first | exact List.getElem?_cons_zero | refine List.getElem?_cons_succ.trans ?_)))) (by kernel_rfl) (by exact rfl) | apply wpQI_on (by with_reducible (refine List.getElem?_toArray.trans ?_; (repeat (first | exact List.getElem?_cons_zero | refine List.getElem?_cons_succ.trans ?_)))) (by kernel_rfl) (by exact rfl)); (focus (intro W' hS; have hcS := hS.cells.1; have hfS := hS.cells.2; go_simp; (first | done | exact rfl | exact ⟨rfl, Below.refl _ _⟩ | (go_simp; first | done | exact rfl | exact ⟨rfl, Below.refl _ _⟩)))); intro K hK; go_simp; (try go_bits); refine hK _ ?_; clear hK K))); refine wpQI_nil ?_
  apply wpQ_call (i := 2) (by with_reducible (refine List.getElem?_toArray.trans ?_; (repeat (first | exact List.getElem?_cons_zero | refine List.getElem?_cons_succ.trans ?_)))) (by kernel_rfl) (by exact rfl); intro W hF hS; have hcS := hS.1.cells.1; have hfS := hS.1.cells.2; go_simp; (go_at_call 67; refine (K5.out _).mono ?_; rintro e w106 ⟨hb_w106, v106, rfl, hv106⟩; refine XPost.mk _ (fun W => IsC W v106 (x1)) hb_w106 (hv106) (IsC.cl _ _) ?_); clear hb_w106 hcS hfS hS hF
  intro K hK; go_simp; (try go_bits); refine hK _ ?_; clear hK K
  obtain ⟨s106, A106, n106, c106, rfl⟩ := IsC.val hv106
  clear hv106
  apply wpQ_call (i := 4) (by with_reducible (refine List.getElem?_toArray.trans ?_; (repeat (first | exact List.getElem?_cons_zero | refine List.getElem?_cons_succ.trans ?_)))) (by kernel_rfl) (by exact rfl); intro W hF hS; have hcS := hS.1.cells.1; have hfS := hS.1.cells.2; go_simp; (go_at_call 76; refine (K6.out _ _ _ (hF.zl L1.out) ((H102.out.below hS.1.2).zl LD.out)).mono ?_; rintro e w107 ⟨hb_w107, v107, rfl, hv107⟩; refine XPost.mk _ (fun W => IsC W v107 (X1)) hb_w107 (hv107) (IsC.cl _ _) ?_); clear hb_w107 hcS hfS hS hF
  intro K hK; go_simp; (try go_bits); refine hK _ ?_; clear hK K
  obtain ⟨s107, A107, n107, c107, rfl⟩ := IsC.val hv107
  clear hv107
  apply wpQ_call (i := 8) (by with_reducible (refine List.getElem?_toArray.trans ?_; (repeat (first | exact List.getElem?_cons_zero | refine List.getElem?_cons_succ.trans ?_)))) (by kernel_rfl) (by exact rfl); intro W hF hS; have hcS := hS.1.cells.1; have hfS := hS.1.cells.2; go_simp; (go_at_call 67; refine (K7.out _).mono ?_; rintro e w108 ⟨hb_w108, v108, rfl, hv108⟩; refine XPost.mk _ (fun W => IsC W v108 (n1)) hb_w108 (hv108) (IsC.cl _ _) ?_); clear hb_w108 hcS hfS hS hF
  intro K hK; go_simp; (try go_bits); refine hK _ ?_; clear hK K
  obtain ⟨s108, A108, n108, c108, rfl⟩ := IsC.val hv108
  clear hv108
  apply wpQ_call (i := 9) (by with_reducible (refine List.getElem?_toArray.trans ?_; (repeat (first | exact List.getElem?_cons_zero | refine List.getElem?_cons_succ.trans ?_)))) (by kernel_rfl) (by exact rfl); intro W hF hS; have hcS := hS.1.cells.1; have hfS := hS.1.cells.2; go_simp; (go_at_call 76; refine (K8.out _ _ _ ((H104.out.below hS.1.2).zl LE.out) (hF.2.zl L3.out)).mono ?_; rintro e w109 ⟨hb_w109, v109, rfl, hv109⟩; refine XPost.mk _ (fun W => IsC W v109 (Y1)) hb_w109 (hv109) (IsC.cl _ _) ?_); clear hb_w109 hcS hfS hS hF
  intro K hK; go_simp; (try go_bits); refine hK _ ?_; clear hK K
  obtain ⟨s109, A109, n109, c109, rfl⟩ := IsC.val hv109
  clear hv109
  apply wpQ_call (i := 10) (by with_reducible (refine List.getElem?_toArray.trans ?_; (repeat (first | exact List.getElem?_cons_zero | refine List.getElem?_cons_succ.trans ?_)))) (by kernel_rfl) (by exact rfl); intro W hF hS; have hcS := hS.1.cells.1; have hfS := hS.1.cells.2; go_simp; (go_at_call 97; refine (K9.out _ _ _ (hF.1.1.2.zl L5.out) (hF.2.zl L7.out)).mono ?_; rintro e w110 ⟨hb_w110, v110, rfl, hv110⟩; refine XPost.mk _ (fun W => IsC W v110 (A)) hb_w110 (hv110) (IsC.cl _ _) ?_); clear hb_w110 hcS hfS hS hF
  intro K hK; go_simp; (try go_bits); refine hK _ ?_; clear hK K
  obtain ⟨s110, A110, n110, c110, rfl⟩ := IsC.val hv110
  clear hv110
  apply wpQ_fresh (i := 11) LInv.std (by with_reducible (refine List.getElem?_toArray.trans ?_; (repeat (first | exact List.getElem?_cons_zero | refine List.getElem?_cons_succ.trans ?_)))) (by kernel_rfl) (fun g => Value.pointer (some ⟨g, 0, none⟩)) (by exact rfl); (focus (intro W; go_simp; first | done | exact rfl | exact ⟨rfl, rfl⟩))
  intro g_r3_11 hN_r3_11 hG_r3_11 K hK
  go_simp; refine hK _ ?_; clear hK K
  have hne : w.heap.size ≠ g_r3_11 := by have := hN_r3_11; omega
  have hne := Ne.symm hne
  have hne : w.heap.size + 1 ≠ g_r3_11 := by have := hN_r3_11; omega
  have hne := Ne.symm hne
  have hne : w102.heap.size ≠ g_r3_11 := by have := hN_r3_11; omega
  have hne := Ne.symm hne
  have hne : w104.heap.size ≠ g_r3_11 := by have := hN_r3_11; omega
  have hne := Ne.symm hne
  refine wpQ_done (by kernel_rfl) ?_
  intro w111 hF_w111 hSG
  have hz_w111 := hSG.1.1
  have hb_w111 := hSG.1.2
  have hB_r3_11 := (hSG.2 _ (List.mem_cons_self ..)).2; simp only at hB_r3_11; have hl_r3_11 := (hSG.size (List.mem_cons_self ..)); simp only at hl_r3_11
  have c_w111_r3_11_0 := cell_of_row w111 g_r3_11 0 _ _ _ hB_r3_11; simp only [List.getElem?_toArray, List.getElem?_cons_zero] at c_w111_r3_11_0
  have c_w111_r3_11_1 := cell_of_row w111 g_r3_11 1 _ _ _ hB_r3_11; simp only [List.getElem?_toArray, List.getElem?_cons_zero, List.getElem?_cons_succ] at c_w111_r3_11_1
  have fz_w111_r3_11 : (∀ o, w111.frozen? ⟨g_r3_11, o, none⟩ = false) := (fun o => frozen_of_row w111 g_r3_11 o _ _ hB_r3_11); have HH_r3_11 := Lib.hid hB_r3_11; clear hB_r3_11
  clear hSG
  (with_reducible apply cel2 (b := w.heap.size) hb_w111); (focus ((try simp) <;> omega)); (focus omega); (focus (go_simp; try exact rfl)); (focus (go_simp; try exact rfl)); (focus (intro o; go_simp)); intro c_w111_0_0 c_w111_0_1 fz_w111_0 hl_w111_0; (with_reducible apply cel2 (b := w.heap.size + 1) hb_w111); (focus ((try simp) <;> omega)); (focus omega); (focus (go_simp; try exact rfl)); (focus (go_simp; try exact rfl)); (focus (intro o; go_simp)); intro c_w111_1_0 c_w111_1_1 fz_w111_1 hl_w111_1; (with_reducible apply cel2 (b := w102.heap.size) hb_w111); (focus ((try simp) <;> omega)); (focus omega); (focus (go_simp; try exact rfl)); (focus (go_simp; try exact rfl)); (focus (intro o; go_simp)); intro c_w111_2_0 c_w111_2_1 fz_w111_2 hl_w111_2; (with_reducible apply cel2 (b := w104.heap.size) hb_w111); (focus ((try simp) <;> omega)); (focus omega); (focus (go_simp; try exact rfl)); (focus (go_simp; try exact rfl)); (focus (intro o; go_simp)); intro c_w111_3_0 c_w111_3_1 fz_w111_3 hl_w111_3
  (try simp only [List.filterMap_cons, List.filterMap_nil, List.getElem?_cons_succ, List.getElem?_cons_zero])
  replace H102 := Lib.hid (H102.out.below hb_w111)
  replace H104 := Lib.hid (H104.out.below hb_w111)
  have H106 := Lib.hid (show IsC w111 (.agg #[.bool s106, .slice A106 n106 c106]) (x1) from hF_w111.1.1.1.1)
  have H107 := Lib.hid (show IsC w111 (.agg #[.bool s107, .slice A107 n107 c107]) (X1) from hF_w111.1.1.1.2)
  have H108 := Lib.hid (show IsC w111 (.agg #[.bool s108, .slice A108 n108 c108]) (n1) from hF_w111.1.1.2)
  have H109 := Lib.hid (show IsC w111 (.agg #[.bool s109, .slice A109 n109 c109]) (Y1) from hF_w111.1.2)
  have H110 := Lib.hid (show IsC w111 (.agg #[.bool s110, .slice A110 n110 c110]) (A) from hF_w111.2)
  have HB111 := Lib.hid (HB105.out.trans (hb_w111.mono (by have := HB105.out.size; omega)))
  have hz111 : w.heap.size + 1 + 1 ≤ w111.heap.size := by omega
  have hn_r3_11 : w.heap.size + 1 + 1 ≤ g_r3_11 := by have := hN_r3_11; omega
  clear hF_w111 hb_w111 HH_r3_11 hG_r3_11 hN_r3_11
  clear c_w105_0_0 c_w105_0_1 fz_w105_0 hl_w105_0 c_w105_1_0 c_w105_1_1 fz_w105_1 hl_w105_1 c_w105_2_0 c_w105_2_1 fz_w105_2 hl_w105_2 c_w105_3_0 c_w105_3_1 fz_w105_3 hl_w105_3
  go_wp2_with fail
  refine HQ_.out _ _ _ ?_
  clear HQ_ Q_
  go_wp2_with fail
  -- own blocks: w.heap.size:2, w.heap.size + 1:2, w102.heap.size:2, w104.heap.size:2, g_r3_11:2
  (refine pin_wp (N := _) (Nat.le_refl _) (fun w112 hb_w112 hz_w112 => ?_); (try simp at hz_w112); (with_reducible apply cel2 (b := w.heap.size) hb_w112); (focus ((try simp) <;> omega)); (focus omega); (focus (go_simp; try exact rfl)); (focus (go_simp; try exact rfl)); (focus (intro o; go_simp)); intro c_w112_0_0 c_w112_0_1 fz_w112_0 hl_w112_0; (with_reducible apply cel2 (b := w.heap.size + 1) hb_w112); (focus ((try simp) <;> omega)); (focus omega); (focus (go_simp; try exact rfl)); (focus (go_simp; try exact rfl)); (focus (intro o; go_simp)); intro c_w112_1_0 c_w112_1_1 fz_w112_1 hl_w112_1; (with_reducible apply cel2 (b := w102.heap.size) hb_w112); (focus ((try simp) <;> omega)); (focus omega); (focus (go_simp; try exact rfl)); (focus (go_simp; try exact rfl)); (focus (intro o; go_simp)); intro c_w112_2_0 c_w112_2_1 fz_w112_2 hl_w112_2; (with_reducible apply cel2 (b := w104.heap.size) hb_w112); (focus ((try simp) <;> omega)); (focus omega); (focus (go_simp; try exact rfl)); (focus (go_simp; try exact rfl)); (focus (intro o; go_simp)); intro c_w112_3_0 c_w112_3_1 fz_w112_3 hl_w112_3; (with_reducible apply cel2 (b := g_r3_11) hb_w112); (focus ((try simp) <;> omega)); (focus omega); (focus (go_simp; try exact rfl)); (focus (go_simp; try exact rfl)); (focus (intro o; go_simp)); intro c_w112_4_0 c_w112_4_1 fz_w112_4 hl_w112_4); refine wp_q (fun Q_ HQ_ => ?_); refine wp_region_floatQ w112.heap.size 12 [12] (Nat.le_refl _) (fun _ => True) trivial Cl.tt (by kernel_rfl) (by kernel_rfl) ?_
  clear H106
  clear H107
  clear H108
  clear H109
  replace H102 := Lib.hid (IsC.below (v := .agg #[.bool s102, .slice A102 n102 c102]) (z := D) (by ((repeat (first | (with_reducible exact H102.out) | (with_reducible refine IsC.al ?_ _) | (with_reducible apply IsC.st1))) <;> (first | (with_reducible assumption) | (intro _ e; cases e; done) | (go_simp; first | done | exact rfl)))) hb_w112)
  replace H104 := Lib.hid (IsC.below (v := .agg #[.bool s104, .slice A104 n104 c104]) (z := E) (by ((repeat (first | (with_reducible exact H104.out) | (with_reducible refine IsC.al ?_ _) | (with_reducible apply IsC.st1))) <;> (first | (with_reducible assumption) | (intro _ e; cases e; done) | (go_simp; first | done | exact rfl)))) hb_w112)
  replace H110 := Lib.hid (IsC.below (v := .agg #[.bool s110, .slice A110 n110 c110]) (z := A) (by ((repeat (first | (with_reducible exact H110.out) | (with_reducible refine IsC.al ?_ _) | (with_reducible apply IsC.st1))) <;> (first | (with_reducible assumption) | (intro _ e; cases e; done) | (go_simp; first | done | exact rfl)))) hb_w112)
  have HB112 := Lib.hid (show Below w.heap.size w w112 by have hB := HB111.out; ((with_reducible (repeat (first | exact bR _ _ | refine bS ?_ ?_ _ | refine bA ?_ ?_ _ | refine bD ?_ | refine bT ?_ (by assumption) ?_ | refine bO (by assumption) ?_ ?_))) <;> (first | omega | (simp; done) | (simp <;> omega))))
  have hz112 : w.heap.size + 1 + 1 ≤ w112.heap.size := by omega
  clear hb_w112
  clear c_w111_r3_11_0 c_w111_r3_11_1 fz_w111_r3_11 c_w111_0_0 c_w111_0_1 fz_w111_0 hl_w111_0 c_w111_1_0 c_w111_1_1 fz_w111_1 hl_w111_1 c_w111_2_0 c_w111_2_1 fz_w111_2 hl_w111_2 c_w111_3_0 c_w111_3_1 fz_w111_3 hl_w111_3
  refine wpQI_start [0, 1] ?_; (iterate 2 (first | (refine wpQI_off (by with_reducible (refine List.getElem?_toArray.trans ?_; (repeat (first | exact List.getElem?_cons_zero | refine List.getElem?_cons_succ.trans ?_)))) (by kernel_rfl) (by exact rfl) (fun K hK => ?_); go_simp; refine hK _ ?_; clear hK K) | ((first | apply wpQI_step (by with_reducible (refine List.getElem?_toArray.trans ?_; (repeat (first | exact List.getElem?_cons_zero | refine List.getElem?_cons_succ.trans ?_)))) (by kernel_rfl) (by exact rfl) | apply wpQI_on (by with_reducible (refine List.getElem?_toArray.trans ?_; (repeat (first | exact List.getElem?_cons_zero | refine List.getElem?_cons_succ.trans ?_)))) (by kernel_rfl) (by exact rfl)); (focus (intro W' hS; have hcS := hS.cells.1; have hfS := hS.cells.2; go_simp; (first | done | exact rfl | exact ⟨rfl, Below.refl _ _⟩ | (go_simp; first | done | exact rfl | exact ⟨rfl, Below.refl _ _⟩)))); intro K hK; go_simp; (try go_bits); refine hK _ ?_; clear hK K))); refine wpQI_nil ?_
  refine wpQI_start [3] ?_; (iterate 1 (first | (refine wpQI_off (by with_reducible (refine List.getElem?_toArray.trans ?_; (repeat (first | exact List.getElem?_cons_zero | refine List.getElem?_cons_succ.trans ?_)))) (by kernel_rfl) (by exact rfl) (fun K hK => ?_); go_simp; refine hK _ ?_; clear hK K) | ((first | apply wpQI_step (by with_reducible (refine List.getElem?_toArray.trans ?_; (repeat (first | exact List.getElem?_cons_zero | refine List.getElem?_cons_succ.trans ?_)))) (by kernel_rfl) (by exact rfl) | apply wpQI_on (by with_reducible (refine List.getElem?_toArray.trans ?_; (repeat (first | exact List.getElem?_cons_zero | refine List.getElem?_cons_succ.trans ?_)))) (by kernel_rfl) (by exact rfl)); (focus (intro W' hS; have hcS := hS.cells.1; have hfS := hS.cells.2; go_simp; (first | done | exact rfl | exact ⟨rfl, Below.refl _ _⟩ | (go_simp; first | done | exact rfl | exact ⟨rfl, Below.refl _ _⟩)))); intro K hK; go_simp; (try go_bits); refine hK _ ?_; clear hK K))); refine wpQI_nil ?_
  refine wpQI_start [5, 6, 7] ?_; (iterate 3 (first | (refine wpQI_off (by with_reducible (refine List.getElem?_toArray.trans ?_; (repeat (first | exact List.getElem?_cons_zero | refine List.getElem?_cons_succ.trans ?_)))) (by kernel_rfl) (by exact rfl) (fun K hK => ?_); go_simp; refine hK _ ?_; clear hK K) | ((first | apply wpQI_step (by with_reducible (refine List.getElem?_toArray.trans ?_; (repeat (first | exact List.getElem?_cons_zero | refine List.getElem?_cons_succ.trans ?_)))) (by kernel_rfl) (by exact rfl) | apply wpQI_on (by with_reducible (refine List.getElem?_toArray.trans ?_; (repeat (first | exact List.getElem?_cons_zero | refine List.getElem?_cons_succ.trans ?_)))) (by kernel_rfl) (by exact rfl)); (focus (intro W' hS; have hcS := hS.cells.1; have hfS := hS.cells.2; go_simp; (first | done | exact rfl | exact ⟨rfl, Below.refl _ _⟩ | (go_simp; first | done | exact rfl | exact ⟨rfl, Below.refl _ _⟩)))); intro K hK; go_simp; (try go_bits); refine hK _ ?_; clear hK K))); refine wpQI_nil ?_
  apply wpQ_call (i := 2) (by with_reducible (refine List.getElem?_toArray.trans ?_; (repeat (first | exact List.getElem?_cons_zero | refine List.getElem?_cons_succ.trans ?_)))) (by kernel_rfl) (by exact rfl); intro W hF hS; have hcS := hS.1.cells.1; have hfS := hS.1.cells.2; go_simp; (go_at_call 67; refine (K10.out _).mono ?_; rintro e w113 ⟨hb_w113, v113, rfl, hv113⟩; refine XPost.mk _ (fun W => IsC W v113 (x2)) hb_w113 (hv113) (IsC.cl _ _) ?_); clear hb_w113 hcS hfS hS hF
  intro K hK; go_simp; (try go_bits); refine hK _ ?_; clear hK K
  obtain ⟨s113, A113, n113, c113, rfl⟩ := IsC.val hv113
  clear hv113
  apply wpQ_call (i := 4) (by with_reducible (refine List.getElem?_toArray.trans ?_; (repeat (first | exact List.getElem?_cons_zero | refine List.getElem?_cons_succ.trans ?_)))) (by kernel_rfl) (by exact rfl); intro W hF hS; have hcS := hS.1.cells.1; have hfS := hS.1.cells.2; go_simp; (go_at_call 76; refine (K11.out _ _ _ (hF.zl L2.out) ((H102.out.below hS.1.2).zl LD.out)).mono ?_; rintro e w114 ⟨hb_w114, v114, rfl, hv114⟩; refine XPost.mk _ (fun W => IsC W v114 (X2)) hb_w114 (hv114) (IsC.cl _ _) ?_); clear hb_w114 hcS hfS hS hF
  intro K hK; go_simp; (try go_bits); refine hK _ ?_; clear hK K
  obtain ⟨s114, A114, n114, c114, rfl⟩ := IsC.val hv114
  clear hv114
  apply wpQ_call (i := 8) (by with_reducible (refine List.getElem?_toArray.trans ?_; (repeat (first | exact List.getElem?_cons_zero | refine List.getElem?_cons_succ.trans ?_)))) (by kernel_rfl) (by exact rfl); intro W hF hS; have hcS := hS.1.cells.1; have hfS := hS.1.cells.2; go_simp; (go_at_call 67; refine (K12.out _).mono ?_; rintro e w115 ⟨hb_w115, v115, rfl, hv115⟩; refine XPost.mk _ (fun W => IsC W v115 (n2)) hb_w115 (hv115) (IsC.cl _ _) ?_); clear hb_w115 hcS hfS hS hF
  intro K hK; go_simp; (try go_bits); refine hK _ ?_; clear hK K
  obtain ⟨s115, A115, n115, c115, rfl⟩ := IsC.val hv115
  clear hv115
  apply wpQ_call (i := 9) (by with_reducible (refine List.getElem?_toArray.trans ?_; (repeat (first | exact List.getElem?_cons_zero | refine List.getElem?_cons_succ.trans ?_)))) (by kernel_rfl) (by exact rfl); intro W hF hS; have hcS := hS.1.cells.1; have hfS := hS.1.cells.2; go_simp; (go_at_call 76; refine (K13.out _ _ _ ((H104.out.below hS.1.2).zl LE.out) (hF.2.zl L4.out)).mono ?_; rintro e w116 ⟨hb_w116, v116, rfl, hv116⟩; refine XPost.mk _ (fun W => IsC W v116 (Y2)) hb_w116 (hv116) (IsC.cl _ _) ?_); clear hb_w116 hcS hfS hS hF
  intro K hK; go_simp; (try go_bits); refine hK _ ?_; clear hK K
  obtain ⟨s116, A116, n116, c116, rfl⟩ := IsC.val hv116
  clear hv116
  apply wpQ_call (i := 10) (by with_reducible (refine List.getElem?_toArray.trans ?_; (repeat (first | exact List.getElem?_cons_zero | refine List.getElem?_cons_succ.trans ?_)))) (by kernel_rfl) (by exact rfl); intro W hF hS; have hcS := hS.1.cells.1; have hfS := hS.1.cells.2; go_simp; (go_at_call 97; refine (K14.out _ _ _ (hF.1.1.2.zl L6.out) (hF.2.zl L8.out)).mono ?_; rintro e w117 ⟨hb_w117, v117, rfl, hv117⟩; refine XPost.mk _ (fun W => IsC W v117 (B)) hb_w117 (hv117) (IsC.cl _ _) ?_); clear hb_w117 hcS hfS hS hF
  intro K hK; go_simp; (try go_bits); refine hK _ ?_; clear hK K
  obtain ⟨s117, A117, n117, c117, rfl⟩ := IsC.val hv117
  clear hv117
  apply wpQ_fresh (i := 11) LInv.std (by with_reducible (refine List.getElem?_toArray.trans ?_; (repeat (first | exact List.getElem?_cons_zero | refine List.getElem?_cons_succ.trans ?_)))) (by kernel_rfl) (fun g => Value.pointer (some ⟨g, 0, none⟩)) (by exact rfl); (focus (intro W; go_simp; first | done | exact rfl | exact ⟨rfl, rfl⟩))
  intro g_r4_11 hN_r4_11 hG_r4_11 K hK
  go_simp; refine hK _ ?_; clear hK K
  have hne : w.heap.size ≠ g_r4_11 := by have := hN_r4_11; omega
  have hne := Ne.symm hne
  have hne : w.heap.size + 1 ≠ g_r4_11 := by have := hN_r4_11; omega
  have hne := Ne.symm hne
  have hne : w102.heap.size ≠ g_r4_11 := by have := hN_r4_11; omega
  have hne := Ne.symm hne
  have hne : w104.heap.size ≠ g_r4_11 := by have := hN_r4_11; omega
  have hne := Ne.symm hne
  have hne : g_r3_11 ≠ g_r4_11 := by have := hN_r4_11; omega
  have hne := Ne.symm hne
  refine wpQ_done (by kernel_rfl) ?_
  intro w118 hF_w118 hSG
  have hz_w118 := hSG.1.1
  have hb_w118 := hSG.1.2
  have hB_r4_11 := (hSG.2 _ (List.mem_cons_self ..)).2; simp only at hB_r4_11; have hl_r4_11 := (hSG.size (List.mem_cons_self ..)); simp only at hl_r4_11
  have c_w118_r4_11_0 := cell_of_row w118 g_r4_11 0 _ _ _ hB_r4_11; simp only [List.getElem?_toArray, List.getElem?_cons_zero] at c_w118_r4_11_0
  have c_w118_r4_11_1 := cell_of_row w118 g_r4_11 1 _ _ _ hB_r4_11; simp only [List.getElem?_toArray, List.getElem?_cons_zero, List.getElem?_cons_succ] at c_w118_r4_11_1
  have fz_w118_r4_11 : (∀ o, w118.frozen? ⟨g_r4_11, o, none⟩ = false) := (fun o => frozen_of_row w118 g_r4_11 o _ _ hB_r4_11); have HH_r4_11 := Lib.hid hB_r4_11; clear hB_r4_11
  clear hSG
  (with_reducible apply cel2 (b := w.heap.size) hb_w118); (focus ((try simp) <;> omega)); (focus omega); (focus (go_simp; try exact rfl)); (focus (go_simp; try exact rfl)); (focus (intro o; go_simp)); intro c_w118_0_0 c_w118_0_1 fz_w118_0 hl_w118_0; (with_reducible apply cel2 (b := w.heap.size + 1) hb_w118); (focus ((try simp) <;> omega)); (focus omega); (focus (go_simp; try exact rfl)); (focus (go_simp; try exact rfl)); (focus (intro o; go_simp)); intro c_w118_1_0 c_w118_1_1 fz_w118_1 hl_w118_1; (with_reducible apply cel2 (b := w102.heap.size) hb_w118); (focus ((try simp) <;> omega)); (focus omega); (focus (go_simp; try exact rfl)); (focus (go_simp; try exact rfl)); (focus (intro o; go_simp)); intro c_w118_2_0 c_w118_2_1 fz_w118_2 hl_w118_2; (with_reducible apply cel2 (b := w104.heap.size) hb_w118); (focus ((try simp) <;> omega)); (focus omega); (focus (go_simp; try exact rfl)); (focus (go_simp; try exact rfl)); (focus (intro o; go_simp)); intro c_w118_3_0 c_w118_3_1 fz_w118_3 hl_w118_3; (with_reducible apply cel2 (b := g_r3_11) hb_w118); (focus ((try simp) <;> omega)); (focus omega); (focus (go_simp; try exact rfl)); (focus (go_simp; try exact rfl)); (focus (intro o; go_simp)); intro c_w118_4_0 c_w118_4_1 fz_w118_4 hl_w118_4
  (try simp only [List.filterMap_cons, List.filterMap_nil, List.getElem?_cons_succ, List.getElem?_cons_zero])
  clear H104
  replace H102 := Lib.hid (H102.out.below hb_w118)
  replace H110 := Lib.hid (H110.out.below hb_w118)
  have H113 := Lib.hid (show IsC w118 (.agg #[.bool s113, .slice A113 n113 c113]) (x2) from hF_w118.1.1.1.1)
  have H114 := Lib.hid (show IsC w118 (.agg #[.bool s114, .slice A114 n114 c114]) (X2) from hF_w118.1.1.1.2)
  have H115 := Lib.hid (show IsC w118 (.agg #[.bool s115, .slice A115 n115 c115]) (n2) from hF_w118.1.1.2)
  have H116 := Lib.hid (show IsC w118 (.agg #[.bool s116, .slice A116 n116 c116]) (Y2) from hF_w118.1.2)
  have H117 := Lib.hid (show IsC w118 (.agg #[.bool s117, .slice A117 n117 c117]) (B) from hF_w118.2)
  have HB118 := Lib.hid (HB112.out.trans (hb_w118.mono (by have := HB112.out.size; omega)))
  have hz118 : w.heap.size + 1 + 1 ≤ w118.heap.size := by omega
  have hn_r4_11 : w.heap.size + 1 + 1 ≤ g_r4_11 := by have := hN_r4_11; omega
  clear hF_w118 hb_w118 HH_r4_11 hG_r4_11 hN_r4_11
  clear c_w112_0_0 c_w112_0_1 fz_w112_0 hl_w112_0 c_w112_1_0 c_w112_1_1 fz_w112_1 hl_w112_1 c_w112_2_0 c_w112_2_1 fz_w112_2 hl_w112_2 c_w112_3_0 c_w112_3_1 fz_w112_3 hl_w112_3 c_w112_4_0 c_w112_4_1 fz_w112_4 hl_w112_4
  go_wp2_with fail
  refine HQ_.out _ _ _ ?_
  clear HQ_ Q_
  go_wp2_with fail
  -- own blocks: w102.heap.size:2, g_r3_11:2, g_r4_11:2
  (refine pin_wp (N := _) (Nat.le_refl _) (fun w119 hb_w119 hz_w119 => ?_); (try simp at hz_w119); (with_reducible apply cel2 (b := w102.heap.size) hb_w119); (focus ((try simp) <;> omega)); (focus omega); (focus (go_simp; try exact rfl)); (focus (go_simp; try exact rfl)); (focus (intro o; go_simp)); intro c_w119_0_0 c_w119_0_1 fz_w119_0 hl_w119_0; (with_reducible apply cel2 (b := g_r3_11) hb_w119); (focus ((try simp) <;> omega)); (focus omega); (focus (go_simp; try exact rfl)); (focus (go_simp; try exact rfl)); (focus (intro o; go_simp)); intro c_w119_1_0 c_w119_1_1 fz_w119_1 hl_w119_1; (with_reducible apply cel2 (b := g_r4_11) hb_w119); (focus ((try simp) <;> omega)); (focus omega); (focus (go_simp; try exact rfl)); (focus (go_simp; try exact rfl)); (focus (intro o; go_simp)); intro c_w119_2_0 c_w119_2_1 fz_w119_2 hl_w119_2); refine wp_q (fun Q_ HQ_ => ?_); refine wp_region_floatQ w119.heap.size 8 [] (Nat.le_refl _) (fun _ => True) trivial Cl.tt (by kernel_rfl) (by kernel_rfl) ?_
  clear H113
  clear H114
  clear H115
  clear H116
  replace H102 := Lib.hid (IsC.below (v := .agg #[.bool s102, .slice A102 n102 c102]) (z := D) (by ((repeat (first | (with_reducible exact H102.out) | (with_reducible refine IsC.al ?_ _) | (with_reducible apply IsC.st1))) <;> (first | (with_reducible assumption) | (intro _ e; cases e; done) | (go_simp; first | done | exact rfl)))) hb_w119)
  replace H110 := Lib.hid (IsC.below (v := .agg #[.bool s110, .slice A110 n110 c110]) (z := A) (by ((repeat (first | (with_reducible exact H110.out) | (with_reducible refine IsC.al ?_ _) | (with_reducible apply IsC.st1))) <;> (first | (with_reducible assumption) | (intro _ e; cases e; done) | (go_simp; first | done | exact rfl)))) hb_w119)
  replace H117 := Lib.hid (IsC.below (v := .agg #[.bool s117, .slice A117 n117 c117]) (z := B) (by ((repeat (first | (with_reducible exact H117.out) | (with_reducible refine IsC.al ?_ _) | (with_reducible apply IsC.st1))) <;> (first | (with_reducible assumption) | (intro _ e; cases e; done) | (go_simp; first | done | exact rfl)))) hb_w119)
  have HB119 := Lib.hid (show Below w.heap.size w w119 by have hB := HB118.out; ((with_reducible (repeat (first | exact bR _ _ | refine bS ?_ ?_ _ | refine bA ?_ ?_ _ | refine bD ?_ | refine bT ?_ (by assumption) ?_ | refine bO (by assumption) ?_ ?_))) <;> (first | omega | (simp; done) | (simp <;> omega))))
  have hz119 : w.heap.size + 1 + 1 ≤ w119.heap.size := by omega
  clear hb_w119
  clear c_w118_r4_11_0 c_w118_r4_11_1 fz_w118_r4_11 c_w118_0_0 c_w118_0_1 fz_w118_0 hl_w118_0 c_w118_1_0 c_w118_1_1 fz_w118_1 hl_w118_1 c_w118_2_0 c_w118_2_1 fz_w118_2 hl_w118_2 c_w118_3_0 c_w118_3_1 fz_w118_3 hl_w118_3 c_w118_4_0 c_w118_4_1 fz_w118_4 hl_w118_4
  refine wpQI_start [0, 1] ?_; (iterate 2 (first | (refine wpQI_off (by with_reducible (refine List.getElem?_toArray.trans ?_; (repeat (first | exact List.getElem?_cons_zero | refine List.getElem?_cons_succ.trans ?_)))) (by kernel_rfl) (by exact rfl) (fun K hK => ?_); go_simp; refine hK _ ?_; clear hK K) | ((first | apply wpQI_step (by with_reducible (refine List.getElem?_toArray.trans ?_; (repeat (first | exact List.getElem?_cons_zero | refine List.getElem?_cons_succ.trans ?_)))) (by kernel_rfl) (by exact rfl) | apply wpQI_on (by with_reducible (refine List.getElem?_toArray.trans ?_; (repeat (first | exact List.getElem?_cons_zero | refine List.getElem?_cons_succ.trans ?_)))) (by kernel_rfl) (by exact rfl)); (focus (intro W' hS; have hcS := hS.cells.1; have hfS := hS.cells.2; go_simp; (first | done | exact rfl | exact ⟨rfl, Below.refl _ _⟩ | (go_simp; first | done | exact rfl | exact ⟨rfl, Below.refl _ _⟩)))); intro K hK; go_simp; (try go_bits); refine hK _ ?_; clear hK K))); refine wpQI_nil ?_
  refine wpQI_start [3, 4] ?_; (iterate 2 (first | (refine wpQI_off (by with_reducible (refine List.getElem?_toArray.trans ?_; (repeat (first | exact List.getElem?_cons_zero | refine List.getElem?_cons_succ.trans ?_)))) (by kernel_rfl) (by exact rfl) (fun K hK => ?_); go_simp; refine hK _ ?_; clear hK K) | ((first | apply wpQI_step (by with_reducible (refine List.getElem?_toArray.trans ?_; (repeat (first | exact List.getElem?_cons_zero | refine List.getElem?_cons_succ.trans ?_)))) (by kernel_rfl) (by exact rfl) | apply wpQI_on (by with_reducible (refine List.getElem?_toArray.trans ?_; (repeat (first | exact List.getElem?_cons_zero | refine List.getElem?_cons_succ.trans ?_)))) (by kernel_rfl) (by exact rfl)); (focus (intro W' hS; have hcS := hS.cells.1; have hfS := hS.cells.2; go_simp; (first | done | exact rfl | exact ⟨rfl, Below.refl _ _⟩ | (go_simp; first | done | exact rfl | exact ⟨rfl, Below.refl _ _⟩)))); intro K hK; go_simp; (try go_bits); refine hK _ ?_; clear hK K))); refine wpQI_nil ?_
  apply wpQ_call (i := 2) (by with_reducible (refine List.getElem?_toArray.trans ?_; (repeat (first | exact List.getElem?_cons_zero | refine List.getElem?_cons_succ.trans ?_)))) (by kernel_rfl) (by exact rfl); intro W hF hS; have hcS := hS.1.cells.1; have hfS := hS.1.cells.2; go_simp; (go_at_call 98; refine (K15.out _ _ _ ((H110.out.below hS.1.2)) ((H102.out.below hS.1.2))).mono ?_; rintro e w120 ⟨rfl, hb_w120⟩; refine XPost.mk _ (fun _ => True) hb_w120 (trivial) (Cl.tt) ?_); clear hb_w120 hcS hfS hS hF
  intro K hK; go_simp; (try go_bits); refine hK _ ?_; clear hK K
  apply wpQ_call (i := 5) (by with_reducible (refine List.getElem?_toArray.trans ?_; (repeat (first | exact List.getElem?_cons_zero | refine List.getElem?_cons_succ.trans ?_)))) (by kernel_rfl) (by exact rfl); intro W hF hS; have hcS := hS.1.cells.1; have hfS := hS.1.cells.2; go_simp; (go_at_call 98; refine (K16.out _ _ _ ((H117.out.below hS.1.2)) ((H102.out.below hS.1.2))).mono ?_; rintro e w121 ⟨rfl, hb_w121⟩; refine XPost.mk _ (fun _ => True) hb_w121 (trivial) (Cl.tt) ?_); clear hb_w121 hcS hfS hS hF
  intro K hK; go_simp; (try go_bits); refine hK _ ?_; clear hK K
  refine wpQI_start [6, 7] ?_; (iterate 2 (first | (refine wpQI_off (by with_reducible (refine List.getElem?_toArray.trans ?_; (repeat (first | exact List.getElem?_cons_zero | refine List.getElem?_cons_succ.trans ?_)))) (by kernel_rfl) (by exact rfl) (fun K hK => ?_); go_simp; refine hK _ ?_; clear hK K) | ((first | apply wpQI_step (by with_reducible (refine List.getElem?_toArray.trans ?_; (repeat (first | exact List.getElem?_cons_zero | refine List.getElem?_cons_succ.trans ?_)))) (by kernel_rfl) (by exact rfl) | apply wpQI_on (by with_reducible (refine List.getElem?_toArray.trans ?_; (repeat (first | exact List.getElem?_cons_zero | refine List.getElem?_cons_succ.trans ?_)))) (by kernel_rfl) (by exact rfl)); (focus (intro W' hS; have hcS := hS.cells.1; have hfS := hS.cells.2; go_simp; (first | done | exact rfl | exact ⟨rfl, Below.refl _ _⟩ | (go_simp; first | done | exact rfl | exact ⟨rfl, Below.refl _ _⟩)))); intro K hK; go_simp; (try go_bits); refine hK _ ?_; clear hK K))); refine wpQI_nil ?_
  refine wpQ_done (by kernel_rfl) ?_
  intro w122 hF_w122 hSG
  have hz_w122 := hSG.1.1
  have hb_w122 := hSG.1.2
  clear hSG
  (with_reducible apply cel2 (b := w102.heap.size) hb_w122); (focus ((try simp) <;> omega)); (focus omega); (focus (go_simp; try exact rfl)); (focus (go_simp; try exact rfl)); (focus (intro o; go_simp)); intro c_w122_0_0 c_w122_0_1 fz_w122_0 hl_w122_0; (with_reducible apply cel2 (b := g_r3_11) hb_w122); (focus ((try simp) <;> omega)); (focus omega); (focus (go_simp; try exact rfl)); (focus (go_simp; try exact rfl)); (focus (intro o; go_simp)); intro c_w122_1_0 c_w122_1_1 fz_w122_1 hl_w122_1; (with_reducible apply cel2 (b := g_r4_11) hb_w122); (focus ((try simp) <;> omega)); (focus omega); (focus (go_simp; try exact rfl)); (focus (go_simp; try exact rfl)); (focus (intro o; go_simp)); intro c_w122_2_0 c_w122_2_1 fz_w122_2 hl_w122_2
  (try simp only [List.filterMap_nil])
  replace H102 := Lib.hid (H102.out.below hb_w122)
  replace H110 := Lib.hid (H110.out.below hb_w122)
  replace H117 := Lib.hid (H117.out.below hb_w122)
  have HB122 := Lib.hid (HB119.out.trans (hb_w122.mono (by have := HB119.out.size; omega)))
  have hz122 : w.heap.size + 1 + 1 ≤ w122.heap.size := by omega
  clear hF_w122 hb_w122
  clear c_w119_0_0 c_w119_0_1 fz_w119_0 hl_w119_0 c_w119_1_0 c_w119_1_1 fz_w119_1 hl_w119_1 c_w119_2_0 c_w119_2_1 fz_w119_2 hl_w119_2
  go_wp2_with fail
  refine HQ_.out _ _ _ ?_
  clear HQ_ Q_
  go_wp2_with fail
  -- own blocks: w102.heap.size:2, g_r3_11:2, g_r4_11:2
  (refine pin_wp (N := _) (Nat.le_refl _) (fun w123 hb_w123 hz_w123 => ?_); (try simp at hz_w123); (with_reducible apply cel2 (b := w102.heap.size) hb_w123); (focus ((try simp) <;> omega)); (focus omega); (focus (go_simp; try exact rfl)); (focus (go_simp; try exact rfl)); (focus (intro o; go_simp)); intro c_w123_0_0 c_w123_0_1 fz_w123_0 hl_w123_0; (with_reducible apply cel2 (b := g_r3_11) hb_w123); (focus ((try simp) <;> omega)); (focus omega); (focus (go_simp; try exact rfl)); (focus (go_simp; try exact rfl)); (focus (intro o; go_simp)); intro c_w123_1_0 c_w123_1_1 fz_w123_1 hl_w123_1; (with_reducible apply cel2 (b := g_r4_11) hb_w123); (focus ((try simp) <;> omega)); (focus omega); (focus (go_simp; try exact rfl)); (focus (go_simp; try exact rfl)); (focus (intro o; go_simp)); intro c_w123_2_0 c_w123_2_1 fz_w123_2 hl_w123_2); refine wp_q (fun Q_ HQ_ => ?_); refine wp_region_floatQ w123.heap.size 12 [] (Nat.le_refl _) (fun _ => True) trivial Cl.tt (by kernel_rfl) (by kernel_rfl) ?_
  replace H102 := Lib.hid (IsC.below (v := .agg #[.bool s102, .slice A102 n102 c102]) (z := D) (by ((repeat (first | (with_reducible exact H102.out) | (with_reducible refine IsC.al ?_ _) | (with_reducible apply IsC.st1))) <;> (first | (with_reducible assumption) | (intro _ e; cases e; done) | (go_simp; first | done | exact rfl)))) hb_w123)
  replace H110 := Lib.hid (IsC.below (v := .agg #[.bool s110, .slice A110 n110 c110]) (z := A) (by ((repeat (first | (with_reducible exact H110.out) | (with_reducible refine IsC.al ?_ _) | (with_reducible apply IsC.st1))) <;> (first | (with_reducible assumption) | (intro _ e; cases e; done) | (go_simp; first | done | exact rfl)))) hb_w123)
  replace H117 := Lib.hid (IsC.below (v := .agg #[.bool s117, .slice A117 n117 c117]) (z := B) (by ((repeat (first | (with_reducible exact H117.out) | (with_reducible refine IsC.al ?_ _) | (with_reducible apply IsC.st1))) <;> (first | (with_reducible assumption) | (intro _ e; cases e; done) | (go_simp; first | done | exact rfl)))) hb_w123)
  have HB123 := Lib.hid (show Below w.heap.size w w123 by have hB := HB122.out; ((with_reducible (repeat (first | exact bR _ _ | refine bS ?_ ?_ _ | refine bA ?_ ?_ _ | refine bD ?_ | refine bT ?_ (by assumption) ?_ | refine bO (by assumption) ?_ ?_))) <;> (first | omega | (simp; done) | (simp <;> omega))))
  have hz123 : w.heap.size + 1 + 1 ≤ w123.heap.size := by omega
  clear hb_w123
  clear c_w122_0_0 c_w122_0_1 fz_w122_0 hl_w122_0 c_w122_1_0 c_w122_1_1 fz_w122_1 hl_w122_1 c_w122_2_0 c_w122_2_1 fz_w122_2 hl_w122_2
  refine wpQI_start [0] ?_; (iterate 1 (first | (refine wpQI_off (by with_reducible (refine List.getElem?_toArray.trans ?_; (repeat (first | exact List.getElem?_cons_zero | refine List.getElem?_cons_succ.trans ?_)))) (by kernel_rfl) (by exact rfl) (fun K hK => ?_); go_simp; refine hK _ ?_; clear hK K) | ((first | apply wpQI_step (by with_reducible (refine List.getElem?_toArray.trans ?_; (repeat (first | exact List.getElem?_cons_zero | refine List.getElem?_cons_succ.trans ?_)))) (by kernel_rfl) (by exact rfl) | apply wpQI_on (by with_reducible (refine List.getElem?_toArray.trans ?_; (repeat (first | exact List.getElem?_cons_zero | refine List.getElem?_cons_succ.trans ?_)))) (by kernel_rfl) (by exact rfl)); (focus (intro W' hS; have hcS := hS.cells.1; have hfS := hS.cells.2; go_simp; (first | done | exact rfl | exact ⟨rfl, Below.refl _ _⟩ | (go_simp; first | done | exact rfl | exact ⟨rfl, Below.refl _ _⟩)))); intro K hK; go_simp; (try go_bits); refine hK _ ?_; clear hK K))); refine wpQI_nil ?_
  refine wpQI_start [2] ?_; (iterate 1 (first | (refine wpQI_off (by with_reducible (refine List.getElem?_toArray.trans ?_; (repeat (first | exact List.getElem?_cons_zero | refine List.getElem?_cons_succ.trans ?_)))) (by kernel_rfl) (by exact rfl) (fun K hK => ?_); go_simp; refine hK _ ?_; clear hK K) | ((first | apply wpQI_step (by with_reducible (refine List.getElem?_toArray.trans ?_; (repeat (first | exact List.getElem?_cons_zero | refine List.getElem?_cons_succ.trans ?_)))) (by kernel_rfl) (by exact rfl) | apply wpQI_on (by with_reducible (refine List.getElem?_toArray.trans ?_; (repeat (first | exact List.getElem?_cons_zero | refine List.getElem?_cons_succ.trans ?_)))) (by kernel_rfl) (by exact rfl)); (focus (intro W' hS; have hcS := hS.cells.1; have hfS := hS.cells.2; go_simp; (first | done | exact rfl | exact ⟨rfl, Below.refl _ _⟩ | (go_simp; first | done | exact rfl | exact ⟨rfl, Below.refl _ _⟩)))); intro K hK; go_simp; (try go_bits); refine hK _ ?_; clear hK K))); refine wpQI_nil ?_
  refine wpQI_start [5] ?_; (iterate 1 (first | (refine wpQI_off (by with_reducible (refine List.getElem?_toArray.trans ?_; (repeat (first | exact List.getElem?_cons_zero | refine List.getElem?_cons_succ.trans ?_)))) (by kernel_rfl) (by exact rfl) (fun K hK => ?_); go_simp; refine hK _ ?_; clear hK K) | ((first | apply wpQI_step (by with_reducible (refine List.getElem?_toArray.trans ?_; (repeat (first | exact List.getElem?_cons_zero | refine List.getElem?_cons_succ.trans ?_)))) (by kernel_rfl) (by exact rfl) | apply wpQI_on (by with_reducible (refine List.getElem?_toArray.trans ?_; (repeat (first | exact List.getElem?_cons_zero | refine List.getElem?_cons_succ.trans ?_)))) (by kernel_rfl) (by exact rfl)); (focus (intro W' hS; have hcS := hS.cells.1; have hfS := hS.cells.2; go_simp; (first | done | exact rfl | exact ⟨rfl, Below.refl _ _⟩ | (go_simp; first | done | exact rfl | exact ⟨rfl, Below.refl _ _⟩)))); intro K hK; go_simp; (try go_bits); refine hK _ ?_; clear hK K))); refine wpQI_nil ?_
  refine wpQI_start [7] ?_; (iterate 1 (first | (refine wpQI_off (by with_reducible (refine List.getElem?_toArray.trans ?_; (repeat (first | exact List.getElem?_cons_zero | refine List.getElem?_cons_succ.trans ?_)))) (by kernel_rfl) (by exact rfl) (fun K hK => ?_); go_simp; refine hK _ ?_; clear hK K) | ((first | apply wpQI_step (by with_reducible (refine List.getElem?_toArray.trans ?_; (repeat (first | exact List.getElem?_cons_zero | refine List.getElem?_cons_succ.trans ?_)))) (by kernel_rfl) (by exact rfl) | apply wpQI_on (by with_reducible (refine List.getElem?_toArray.trans ?_; (repeat (first | exact List.getElem?_cons_zero | refine List.getElem?_cons_succ.trans ?_)))) (by kernel_rfl) (by exact rfl)); (focus (intro W' hS; have hcS := hS.cells.1; have hfS := hS.cells.2; go_simp; (first | done | exact rfl | exact ⟨rfl, Below.refl _ _⟩ | (go_simp; first | done | exact rfl | exact ⟨rfl, Below.refl _ _⟩)))); intro K hK; go_simp; (try go_bits); refine hK _ ?_; clear hK K))); refine wpQI_nil ?_
  apply wpQ_call (i := 1) (by with_reducible (refine List.getElem?_toArray.trans ?_; (repeat (first | exact List.getElem?_cons_zero | refine List.getElem?_cons_succ.trans ?_)))) (by kernel_rfl) (by exact rfl); intro W hF hS; have hcS := hS.1.cells.1; have hfS := hS.1.cells.2; go_simp; (go_at_call 99; refine (K17.out _ _ ((H110.out.below hS.1.2).zl LA.out)).mono ?_; rintro e w124 ⟨hb_w124, v124, rfl, hv124⟩; refine XPost.mk _ (fun W => IsC W v124 (A2)) hb_w124 (hv124) (IsC.cl _ _) ?_); clear hb_w124 hcS hfS hS hF
  intro K hK; go_simp; (try go_bits); refine hK _ ?_; clear hK K
  obtain ⟨s124, A124, n124, c124, rfl⟩ := IsC.val hv124
  clear hv124
  apply wpQ_call (i := 3) (by with_reducible (refine List.getElem?_toArray.trans ?_; (repeat (first | exact List.getElem?_cons_zero | refine List.getElem?_cons_succ.trans ?_)))) (by kernel_rfl) (by exact rfl); intro W hF hS; have hcS := hS.1.cells.1; have hfS := hS.1.cells.2; go_simp; (go_at_call 98; refine (K18.out _ _ _ (hF) ((H102.out.below hS.1.2))).mono ?_; rintro e w125 ⟨rfl, hb_w125⟩; refine XPost.mk _ (fun _ => True) hb_w125 (trivial) (Cl.tt) ?_); clear hb_w125 hcS hfS hS hF
  intro K hK; go_simp; (try go_bits); refine hK _ ?_; clear hK K
  refine wpQI_start [4] ?_; (iterate 1 (first | (refine wpQI_off (by with_reducible (refine List.getElem?_toArray.trans ?_; (repeat (first | exact List.getElem?_cons_zero | refine List.getElem?_cons_succ.trans ?_)))) (by kernel_rfl) (by exact rfl) (fun K hK => ?_); go_simp; refine hK _ ?_; clear hK K) | ((first | apply wpQI_step (by with_reducible (refine List.getElem?_toArray.trans ?_; (repeat (first | exact List.getElem?_cons_zero | refine List.getElem?_cons_succ.trans ?_)))) (by kernel_rfl) (by exact rfl) | apply wpQI_on (by with_reducible (refine List.getElem?_toArray.trans ?_; (repeat (first | exact List.getElem?_cons_zero | refine List.getElem?_cons_succ.trans ?_)))) (by kernel_rfl) (by exact rfl)); (focus (intro W' hS; have hcS := hS.cells.1; have hfS := hS.cells.2; go_simp; (first | done | exact rfl | exact ⟨rfl, Below.refl _ _⟩ | (go_simp; first | done | exact rfl | exact ⟨rfl, Below.refl _ _⟩)))); intro K hK; go_simp; (try go_bits); refine hK _ ?_; clear hK K))); refine wpQI_nil ?_
  apply wpQ_call (i := 6) (by with_reducible (refine List.getElem?_toArray.trans ?_; (repeat (first | exact List.getElem?_cons_zero | refine List.getElem?_cons_succ.trans ?_)))) (by kernel_rfl) (by exact rfl); intro W hF hS; have hcS := hS.1.cells.1; have hfS := hS.1.cells.2; go_simp; (go_at_call 99; refine (K19.out _ _ ((H117.out.below hS.1.2).zl LB.out)).mono ?_; rintro e w126 ⟨hb_w126, v126, rfl, hv126⟩; refine XPost.mk _ (fun W => IsC W v126 (B2)) hb_w126 (hv126) (IsC.cl _ _) ?_); clear hb_w126 hcS hfS hS hF
  intro K hK; go_simp; (try go_bits); refine hK _ ?_; clear hK K
  obtain ⟨s126, A126, n126, c126, rfl⟩ := IsC.val hv126
  clear hv126
  apply wpQ_call (i := 8) (by with_reducible (refine List.getElem?_toArray.trans ?_; (repeat (first | exact List.getElem?_cons_zero | refine List.getElem?_cons_succ.trans ?_)))) (by kernel_rfl) (by exact rfl); intro W hF hS; have hcS := hS.1.cells.1; have hfS := hS.1.cells.2; go_simp; (go_at_call 98; refine (K20.out _ _ _ (hF.2) ((H102.out.below hS.1.2))).mono ?_; rintro e w127 ⟨rfl, hb_w127⟩; refine XPost.mk _ (fun _ => True) hb_w127 (trivial) (Cl.tt) ?_); clear hb_w127 hcS hfS hS hF
  intro K hK; go_simp; (try go_bits); refine hK _ ?_; clear hK K
  refine wpQI_start [9, 10, 11] ?_; (iterate 3 (first | (refine wpQI_off (by with_reducible (refine List.getElem?_toArray.trans ?_; (repeat (first | exact List.getElem?_cons_zero | refine List.getElem?_cons_succ.trans ?_)))) (by kernel_rfl) (by exact rfl) (fun K hK => ?_); go_simp; refine hK _ ?_; clear hK K) | ((first | apply wpQI_step (by with_reducible (refine List.getElem?_toArray.trans ?_; (repeat (first | exact List.getElem?_cons_zero | refine List.getElem?_cons_succ.trans ?_)))) (by kernel_rfl) (by exact rfl) | apply wpQI_on (by with_reducible (refine List.getElem?_toArray.trans ?_; (repeat (first | exact List.getElem?_cons_zero | refine List.getElem?_cons_succ.trans ?_)))) (by kernel_rfl) (by exact rfl)); (focus (intro W' hS; have hcS := hS.cells.1; have hfS := hS.cells.2; go_simp; (first | done | exact rfl | exact ⟨rfl, Below.refl _ _⟩ | (go_simp; first | done | exact rfl | exact ⟨rfl, Below.refl _ _⟩)))); intro K hK; go_simp; (try go_bits); refine hK _ ?_; clear hK K))); refine wpQI_nil ?_
  refine wpQ_done (by kernel_rfl) ?_
  intro w128 hF_w128 hSG
  have hz_w128 := hSG.1.1
  have hb_w128 := hSG.1.2
  clear hSG
  (with_reducible apply cel2 (b := w102.heap.size) hb_w128); (focus ((try simp) <;> omega)); (focus omega); (focus (go_simp; try exact rfl)); (focus (go_simp; try exact rfl)); (focus (intro o; go_simp)); intro c_w128_0_0 c_w128_0_1 fz_w128_0 hl_w128_0; (with_reducible apply cel2 (b := g_r3_11) hb_w128); (focus ((try simp) <;> omega)); (focus omega); (focus (go_simp; try exact rfl)); (focus (go_simp; try exact rfl)); (focus (intro o; go_simp)); intro c_w128_1_0 c_w128_1_1 fz_w128_1 hl_w128_1; (with_reducible apply cel2 (b := g_r4_11) hb_w128); (focus ((try simp) <;> omega)); (focus omega); (focus (go_simp; try exact rfl)); (focus (go_simp; try exact rfl)); (focus (intro o; go_simp)); intro c_w128_2_0 c_w128_2_1 fz_w128_2 hl_w128_2
  (try simp only [List.filterMap_nil])
  clear H102
  clear H110
  clear H117
  have H124 := Lib.hid (show IsC w128 (.agg #[.bool s124, .slice A124 n124 c124]) (A2) from hF_w128.1.1)
  have H126 := Lib.hid (show IsC w128 (.agg #[.bool s126, .slice A126 n126 c126]) (B2) from hF_w128.1.2)
  have HB128 := Lib.hid (HB123.out.trans (hb_w128.mono (by have := HB123.out.size; omega)))
  have hz128 : w.heap.size + 1 + 1 ≤ w128.heap.size := by omega
  clear hF_w128 hb_w128
  clear c_w123_0_0 c_w123_0_1 fz_w123_0 hl_w123_0 c_w123_1_0 c_w123_1_1 fz_w123_1 hl_w123_1 c_w123_2_0 c_w123_2_1 fz_w123_2 hl_w123_2
  go_wp2_with fail
  refine HQ_.out _ _ _ ?_
  clear HQ_ Q_
  go_wp2_with fail
  -- own blocks: 
  refine bodyPost_ret (v := .slice (some ⟨w128.heap.size, 0, none⟩) 4 4) (by simp only [results, Try.results82]; go_simp) rfl ⟨?_, ?_⟩
  · have hB := HB128.out; ((with_reducible (repeat (first | exact bR _ _ | refine bS ?_ ?_ _ | refine bA ?_ ?_ _ | refine bD ?_ | refine bT ?_ (by assumption) ?_ | refine bO (by assumption) ?_ ?_))) <;> (first | omega | (simp; done) | (simp <;> omega)))
  · refine ⟨w128.heap.size, rfl, by have := HB128.out.size; omega, by simp, ?_⟩
    intro j u hj
    refine cells_new (flatV [(lx, ly), (lx, -hy'), (-hx', ly), (-hx', -hy')]) _ _ rfl j u hj
set_option maxRecDepth 100000 in
set_option maxHeartbeats 20000000 in
theorem rsquare_any (a1 a2 b1 b2 : Int) (w : World) (ha1 : -2147483648 ≤ a1 ∧ a1 ≤ 2147483648) (ha2 : -2147483648 ≤ a2 ∧ a2 ≤ 2147483648) (hb1 : -2147483648 ≤ b1 ∧ b1 ≤ 2147483648) (hb2 : -2147483648 ≤ b2 ∧ b2 ≤ 2147483648) :
    Calls Try.prog 101 #[.agg #[.int .i64 a1, .int .i64 a2], .agg #[.int .i64 b1, .int .i64 b2]] w (ZOut (sqI (a1 - b1) (a2 - b2)) w) := by
  unfold sqI
  obtain ⟨p, hp⟩ : ∃ p, p = a1 - b1 := ⟨_, rfl⟩
  obtain ⟨q, hq⟩ : ∃ q, q = a2 - b2 := ⟨_, rfl⟩
  have k1 := fun w => of_any p w (by omega) (by omega)
  have k2 := fun w => of_any q w (by omega) (by omega)
  have l1 := len_up (len_wd (z := p) (by omega) (by omega)) (show _ ≤ 100 by omega)
  have l2 := len_up (len_wd (z := q) (by omega) (by omega)) (show _ ≤ 100 by omega)
  have l3 := len_up (len_mul (x := p) (y := p) (len_wd (by omega) (by omega)) (len_wd (by omega) (by omega))) (show _ ≤ 100 by omega)
  have l4 := len_up (len_mul (x := q) (y := q) (len_wd (by omega) (by omega)) (len_wd (by omega) (by omega))) (show _ ≤ 100 by omega)
  have k3 := fun u v w h1 h2 => times_any 100 u v p p w h1 h2 (by omega)
  have k4 := fun u v w h1 h2 => times_any 100 u v q q w h1 h2 (by omega)
  have k5 := fun u v w h1 h2 => plus_any 100 u v (p * p) (q * q) w h1 h2 (by omega)
  rw [← hp, ← hq]
  generalize p * p = P at *
  generalize q * q = Q at *
  generalize P + Q = S at *
  have hp' := hp.symm
  have hq' := hq.symm
  have K1 := Lib.hid k1
  have K2 := Lib.hid k2
  have K3 := Lib.hid k3
  have K4 := Lib.hid k4
  have K5 := Lib.hid k5
  have L1 := Lib.hid l1
  have L2 := Lib.hid l2
  have L3 := Lib.hid l3
  have L4 := Lib.hid l4
  clear k1 k2 k3 k4 k5 l1 l2 l3 l4 hp hq
  -- names on
  go_enter Try.func101, Try.ntmps101; (try simp only [List.append_eq, List.cons_append, List.nil_append])
  go_wp2_with fail
  -- own blocks: w.heap.size:2, w.heap.size + 1:2, w.heap.size + 1 + 1:2
  (refine pin_wp (N := _) (Nat.le_refl _) (fun w101 hb_w101 hz_w101 => ?_); (try simp at hz_w101); (with_reducible apply cel2 (b := w.heap.size) hb_w101); (focus ((try simp) <;> omega)); (focus omega); (focus (go_simp; try exact rfl)); (focus (go_simp; try exact rfl)); (focus (intro o; go_simp)); intro c_w101_0_0 c_w101_0_1 fz_w101_0 hl_w101_0; (with_reducible apply cel2 (b := w.heap.size + 1) hb_w101); (focus ((try simp) <;> omega)); (focus omega); (focus (go_simp; try exact rfl)); (focus (go_simp; try exact rfl)); (focus (intro o; go_simp)); intro c_w101_1_0 c_w101_1_1 fz_w101_1 hl_w101_1; (with_reducible apply cel2 (b := w.heap.size + 1 + 1) hb_w101); (focus ((try simp) <;> omega)); (focus omega); (focus (go_simp; try exact rfl)); (focus (go_simp; try exact rfl)); (focus (intro o; go_simp)); intro c_w101_2_0 c_w101_2_1 fz_w101_2 hl_w101_2); refine wp_q (fun Q_ HQ_ => ?_); refine wp_region_floatQ w101.heap.size 15 [15] (Nat.le_refl _) (fun _ => True) trivial Cl.tt (by kernel_rfl) (by kernel_rfl) ?_
  have HB101 := Lib.hid (show Below w.heap.size w w101 by ((with_reducible (repeat (first | exact bR _ _ | refine bS ?_ ?_ _ | refine bA ?_ ?_ _ | refine bD ?_ | refine bT ?_ (by assumption) ?_ | refine bO (by assumption) ?_ ?_))) <;> (first | omega | (simp; done) | (simp <;> omega))))
  have hz101 : w.heap.size + 1 + 1 + 1 ≤ w101.heap.size := by omega
  clear hb_w101
  skip
  refine wpQI_start [0, 1, 2, 3, 4] ?_; (iterate 5 (first | (refine wpQI_off (by with_reducible (refine List.getElem?_toArray.trans ?_; (repeat (first | exact List.getElem?_cons_zero | refine List.getElem?_cons_succ.trans ?_)))) (by kernel_rfl) (by exact rfl) (fun K hK => ?_); go_simp; refine hK _ ?_; clear hK K) | ((first | apply wpQI_step (by with_reducible (refine List.getElem?_toArray.trans ?_; (repeat (first | exact List.getElem?_cons_zero | refine List.getElem?_cons_succ.trans ?_)))) (by kernel_rfl) (by exact rfl) | apply wpQI_on (by with_reducible (refine List.getElem?_toArray.trans ?_; (repeat (first | exact List.getElem?_cons_zero | refine List.getElem?_cons_succ.trans ?_)))) (by kernel_rfl) (by exact rfl)); (focus (intro W' hS; have hcS := hS.cells.1; have hfS := hS.cells.2; go_simp; (first | done | exact rfl | exact ⟨rfl, Below.refl _ _⟩ | (go_simp; first | done | exact rfl | exact ⟨rfl, Below.refl _ _⟩)))); intro K hK; go_simp; (try go_bits); refine hK _ ?_; clear hK K))); refine wpQI_nil ?_
  refine wpQI_start [6, 7, 8, 9, 10] ?_; (iterate 5 (first | (refine wpQI_off (by with_reducible (refine List.getElem?_toArray.trans ?_; (repeat (first | exact List.getElem?_cons_zero | refine List.getElem?_cons_succ.trans ?_)))) (by kernel_rfl) (by exact rfl) (fun K hK => ?_); go_simp; refine hK _ ?_; clear hK K) | ((first | apply wpQI_step (by with_reducible (refine List.getElem?_toArray.trans ?_; (repeat (first | exact List.getElem?_cons_zero | refine List.getElem?_cons_succ.trans ?_)))) (by kernel_rfl) (by exact rfl) | apply wpQI_on (by with_reducible (refine List.getElem?_toArray.trans ?_; (repeat (first | exact List.getElem?_cons_zero | refine List.getElem?_cons_succ.trans ?_)))) (by kernel_rfl) (by exact rfl)); (focus (intro W' hS; have hcS := hS.cells.1; have hfS := hS.cells.2; go_simp; (first | done | exact rfl | exact ⟨rfl, Below.refl _ _⟩ | (go_simp; first | done | exact rfl | exact ⟨rfl, Below.refl _ _⟩)))); intro K hK; go_simp; (try go_bits); refine hK _ ?_; clear hK K))); refine wpQI_nil ?_
  apply wpQ_call (i := 5) (by with_reducible (refine List.getElem?_toArray.trans ?_; (repeat (first | exact List.getElem?_cons_zero | refine List.getElem?_cons_succ.trans ?_)))) (by kernel_rfl) (by exact rfl); intro W hF hS; have hcS := hS.1.cells.1; have hfS := hS.1.cells.2; go_simp; (go_at_call 67; refine (K1.out _).mono ?_; rintro e w102 ⟨hb_w102, v102, rfl, hv102⟩; refine XPost.mk _ (fun W => IsC W v102 (p)) hb_w102 (hv102) (IsC.cl _ _) ?_); clear hb_w102 hcS hfS hS hF
  intro K hK; go_simp; (try go_bits); refine hK _ ?_; clear hK K
  obtain ⟨s102, A102, n102, c102, rfl⟩ := IsC.val hv102
  clear hv102
  apply wpQ_call (i := 11) (by with_reducible (refine List.getElem?_toArray.trans ?_; (repeat (first | exact List.getElem?_cons_zero | refine List.getElem?_cons_succ.trans ?_)))) (by kernel_rfl) (by exact rfl); intro W hF hS; have hcS := hS.1.cells.1; have hfS := hS.1.cells.2; go_simp; (go_at_call 67; refine (K2.out _).mono ?_; rintro e w103 ⟨hb_w103, v103, rfl, hv103⟩; refine XPost.mk _ (fun W => IsC W v103 (q)) hb_w103 (hv103) (IsC.cl _ _) ?_); clear hb_w103 hcS hfS hS hF
  intro K hK; go_simp; (try go_bits); refine hK _ ?_; clear hK K
  obtain ⟨s103, A103, n103, c103, rfl⟩ := IsC.val hv103
  clear hv103
  apply wpQ_fresh (i := 13) LInv.std (by with_reducible (refine List.getElem?_toArray.trans ?_; (repeat (first | exact List.getElem?_cons_zero | refine List.getElem?_cons_succ.trans ?_)))) (by kernel_rfl) (fun g => Value.pointer (some ⟨g, 0, none⟩)) (by exact rfl); (focus (intro W; go_simp; first | done | exact rfl | exact ⟨rfl, rfl⟩))
  intro g_r1_13 hN_r1_13 hG_r1_13 K hK
  go_simp; refine hK _ ?_; clear hK K
  apply wpQ_fresh (i := 12) LInv.std (by with_reducible (refine List.getElem?_toArray.trans ?_; (repeat (first | exact List.getElem?_cons_zero | refine List.getElem?_cons_succ.trans ?_)))) (by kernel_rfl) (fun g => Value.pointer (some ⟨g, 0, none⟩)) (by exact rfl); (focus (intro W; go_simp; first | done | exact rfl | exact ⟨rfl, rfl⟩))
  intro g_r1_12 hN_r1_12 hG_r1_12 K hK
  go_simp; refine hK _ ?_; clear hK K
  have hne_r1_13_r1_12 : g_r1_13 ≠ g_r1_12 := hG_r1_12 _ (List.mem_cons_self ..)
  have hne_r1_12_r1_13 : g_r1_12 ≠ g_r1_13 := Ne.symm hne_r1_13_r1_12
  have hne : w.heap.size ≠ g_r1_13 := by have := hN_r1_13; omega
  have hne := Ne.symm hne
  have hne : w.heap.size ≠ g_r1_12 := by have := hN_r1_12; omega
  have hne := Ne.symm hne
  have hne : w.heap.size + 1 ≠ g_r1_13 := by have := hN_r1_13; omega
  have hne := Ne.symm hne
  have hne : w.heap.size + 1 ≠ g_r1_12 := by have := hN_r1_12; omega
  have hne := Ne.symm hne
  have hne : w.heap.size + 1 + 1 ≠ g_r1_13 := by have := hN_r1_13; omega
  have hne := Ne.symm hne
  have hne : w.heap.size + 1 + 1 ≠ g_r1_12 := by have := hN_r1_12; omega
  have hne := Ne.symm hne
  apply wpQ_wild (i := 14) rfl (by kernel_rfl) (by kernel_rfl); intro W hF hS; have hcS := hS.1.cells.1; have hfS := hS.1.cells.2; have hb0 := (hS.2 _ (List.mem_cons_self ..)).2; simp only at hb0; have fz : (∀ o, W.frozen? ⟨g_r1_12, o, none⟩ = false) := (fun o => frozen_of_row W g_r1_12 o _ _ hb0); have cc0 := cell_of_row W g_r1_12 0 _ _ _ hb0; simp only [List.getElem?_toArray, List.getElem?_cons_zero] at cc0; have cc1 := cell_of_row W g_r1_12 1 _ _ _ hb0; simp only [List.getElem?_toArray, List.getElem?_cons_zero, List.getElem?_cons_succ] at cc1; go_simp
  have hP := ((hS.put hG_r1_12 0 (.bool s102)).put hG_r1_12 1 (.slice A102 n102 c102))
  simp only [List.setIfInBounds_toArray, List.set_cons_zero, List.set_cons_succ] at hP
  refine WPost.mk _ (fun W => IsC W (.agg #[.bool s102, .slice A102 n102 c102]) (p) ∧ IsC W (.agg #[.bool s103, .slice A103 n103 c103]) (q)) _ ⟨(by ((repeat (first | (with_reducible exact hF.1) | (with_reducible apply IsC.st1))) <;> (first | (with_reducible assumption) | (intro _ e; cases e; done) | (go_simp; first | done | exact rfl)))), (by ((repeat (first | (with_reducible exact hF.2) | (with_reducible apply IsC.st1))) <;> (first | (with_reducible assumption) | (intro _ e; cases e; done) | (go_simp; first | done | exact rfl))))⟩ (Cl.and (IsC.cl _ _) (IsC.cl _ _)) hP ?_
  clear hP fz hb0 cc0 cc1 hcS hfS hS hF
  intro K hK; go_simp; refine hK _ ?_; clear hK K
  refine wpQ_done (by kernel_rfl) ?_
  intro w104 hF_w104 hSG
  have hz_w104 := hSG.1.1
  have hb_w104 := hSG.1.2
  have hB_r1_12 := (hSG.2 _ (List.mem_cons_self ..)).2; simp only at hB_r1_12; have hl_r1_12 := (hSG.size (List.mem_cons_self ..)); simp only at hl_r1_12
  have c_w104_r1_12_0 := cell_of_row w104 g_r1_12 0 _ _ _ hB_r1_12; simp only [List.getElem?_toArray, List.getElem?_cons_zero] at c_w104_r1_12_0
  have c_w104_r1_12_1 := cell_of_row w104 g_r1_12 1 _ _ _ hB_r1_12; simp only [List.getElem?_toArray, List.getElem?_cons_zero, List.getElem?_cons_succ] at c_w104_r1_12_1
  have fz_w104_r1_12 : (∀ o, w104.frozen? ⟨g_r1_12, o, none⟩ = false) := (fun o => frozen_of_row w104 g_r1_12 o _ _ hB_r1_12); have HH_r1_12 := Lib.hid hB_r1_12; clear hB_r1_12
  have hB_r1_13 := (hSG.2 _ (List.mem_cons_of_mem _ (List.mem_cons_self ..))).2; simp only at hB_r1_13; have hl_r1_13 := (hSG.size (List.mem_cons_of_mem _ (List.mem_cons_self ..))); simp only at hl_r1_13
  have c_w104_r1_13_0 := cell_of_row w104 g_r1_13 0 _ _ _ hB_r1_13; simp only [List.getElem?_toArray, List.getElem?_cons_zero] at c_w104_r1_13_0
  have c_w104_r1_13_1 := cell_of_row w104 g_r1_13 1 _ _ _ hB_r1_13; simp only [List.getElem?_toArray, List.getElem?_cons_zero, List.getElem?_cons_succ] at c_w104_r1_13_1
  have fz_w104_r1_13 : (∀ o, w104.frozen? ⟨g_r1_13, o, none⟩ = false) := (fun o => frozen_of_row w104 g_r1_13 o _ _ hB_r1_13); have HH_r1_13 := Lib.hid hB_r1_13; clear hB_r1_13
  clear hSG
  (with_reducible apply cel2 (b := w.heap.size) hb_w104); (focus ((try simp) <;> omega)); (focus omega); (focus (go_simp; try exact rfl)); (focus (go_simp; try exact rfl)); (focus (intro o; go_simp)); intro c_w104_0_0 c_w104_0_1 fz_w104_0 hl_w104_0; (with_reducible apply cel2 (b := w.heap.size + 1) hb_w104); (focus ((try simp) <;> omega)); (focus omega); (focus (go_simp; try exact rfl)); (focus (go_simp; try exact rfl)); (focus (intro o; go_simp)); intro c_w104_1_0 c_w104_1_1 fz_w104_1 hl_w104_1; (with_reducible apply cel2 (b := w.heap.size + 1 + 1) hb_w104); (focus ((try simp) <;> omega)); (focus omega); (focus (go_simp; try exact rfl)); (focus (go_simp; try exact rfl)); (focus (intro o; go_simp)); intro c_w104_2_0 c_w104_2_1 fz_w104_2 hl_w104_2
  (try simp only [List.filterMap_cons, List.filterMap_nil, List.getElem?_cons_succ, List.getElem?_cons_zero])
  have H102 := Lib.hid (show IsC w104 (.agg #[.bool s102, .slice A102 n102 c102]) (p) from hF_w104.1)
  have H103 := Lib.hid (show IsC w104 (.agg #[.bool s103, .slice A103 n103 c103]) (q) from hF_w104.2)
  have HB104 := Lib.hid (HB101.out.trans (hb_w104.mono (by have := HB101.out.size; omega)))
  have hz104 : w.heap.size + 1 + 1 + 1 ≤ w104.heap.size := by omega
  have hn_r1_13 : w.heap.size + 1 + 1 + 1 ≤ g_r1_13 := by have := hN_r1_13; omega
  have hn_r1_12 : w.heap.size + 1 + 1 + 1 ≤ g_r1_12 := by have := hN_r1_12; omega
  clear hF_w104 hb_w104 HH_r1_13 hG_r1_13 hN_r1_13 HH_r1_12 hG_r1_12 hN_r1_12
  clear c_w101_0_0 c_w101_0_1 fz_w101_0 hl_w101_0 c_w101_1_0 c_w101_1_1 fz_w101_1 hl_w101_1 c_w101_2_0 c_w101_2_1 fz_w101_2 hl_w101_2
  go_wp2_with fail
  refine HQ_.out _ _ _ ?_
  clear HQ_ Q_
  go_wp2_with fail
  -- own blocks: w.heap.size + 1 + 1:2, g_r1_13:2, g_r1_12:2
  (refine pin_wp (N := _) (Nat.le_refl _) (fun w105 hb_w105 hz_w105 => ?_); (try simp at hz_w105); (with_reducible apply cel2 (b := w.heap.size + 1 + 1) hb_w105); (focus ((try simp) <;> omega)); (focus omega); (focus (go_simp; try exact rfl)); (focus (go_simp; try exact rfl)); (focus (intro o; go_simp)); intro c_w105_0_0 c_w105_0_1 fz_w105_0 hl_w105_0; (with_reducible apply cel2 (b := g_r1_13) hb_w105); (focus ((try simp) <;> omega)); (focus omega); (focus (go_simp; try exact rfl)); (focus (go_simp; try exact rfl)); (focus (intro o; go_simp)); intro c_w105_1_0 c_w105_1_1 fz_w105_1 hl_w105_1; (with_reducible apply cel2 (b := g_r1_12) hb_w105); (focus ((try simp) <;> omega)); (focus omega); (focus (go_simp; try exact rfl)); (focus (go_simp; try exact rfl)); (focus (intro o; go_simp)); intro c_w105_2_0 c_w105_2_1 fz_w105_2 hl_w105_2); refine wp_q (fun Q_ HQ_ => ?_); refine wp_region_floatQ w105.heap.size 7 [7] (Nat.le_refl _) (fun _ => True) trivial Cl.tt (by kernel_rfl) (by kernel_rfl) ?_
  replace H102 := Lib.hid (IsC.below (v := .agg #[.bool s102, .slice A102 n102 c102]) (z := p) (by ((repeat (first | (with_reducible exact H102.out) | (with_reducible refine IsC.al ?_ _) | (with_reducible apply IsC.st1))) <;> (first | (with_reducible assumption) | (intro _ e; cases e; done) | (go_simp; first | done | exact rfl)))) hb_w105)
  replace H103 := Lib.hid (IsC.below (v := .agg #[.bool s103, .slice A103 n103 c103]) (z := q) (by ((repeat (first | (with_reducible exact H103.out) | (with_reducible refine IsC.al ?_ _) | (with_reducible apply IsC.st1))) <;> (first | (with_reducible assumption) | (intro _ e; cases e; done) | (go_simp; first | done | exact rfl)))) hb_w105)
  have HB105 := Lib.hid (show Below w.heap.size w w105 by have hB := HB104.out; ((with_reducible (repeat (first | exact bR _ _ | refine bS ?_ ?_ _ | refine bA ?_ ?_ _ | refine bD ?_ | refine bT ?_ (by assumption) ?_ | refine bO (by assumption) ?_ ?_))) <;> (first | omega | (simp; done) | (simp <;> omega))))
  have hz105 : w.heap.size + 1 + 1 + 1 ≤ w105.heap.size := by omega
  clear hb_w105
  clear c_w104_r1_12_0 c_w104_r1_12_1 fz_w104_r1_12 c_w104_r1_13_0 c_w104_r1_13_1 fz_w104_r1_13 c_w104_0_0 c_w104_0_1 fz_w104_0 hl_w104_0 c_w104_1_0 c_w104_1_1 fz_w104_1 hl_w104_1 c_w104_2_0 c_w104_2_1 fz_w104_2 hl_w104_2
  refine wpQI_start [0, 1] ?_; (iterate 2 (first | (refine wpQI_off (by with_reducible (refine List.getElem?_toArray.trans ?_; (repeat (first | exact List.getElem?_cons_zero | refine List.getElem?_cons_succ.trans ?_)))) (by kernel_rfl) (by exact rfl) (fun K hK => ?_); go_simp; refine hK _ ?_; clear hK K) | ((first | apply wpQI_step (by with_reducible (refine List.getElem?_toArray.trans ?_; (repeat (first | exact List.getElem?_cons_zero | refine List.getElem?_cons_succ.trans ?_)))) (by kernel_rfl) (by exact rfl) | apply wpQI_on (by with_reducible (refine List.getElem?_toArray.trans ?_; (repeat (first | exact List.getElem?_cons_zero | refine List.getElem?_cons_succ.trans ?_)))) (by kernel_rfl) (by exact rfl)); (focus (intro W' hS; have hcS := hS.cells.1; have hfS := hS.cells.2; go_simp; (first | done | exact rfl | exact ⟨rfl, Below.refl _ _⟩ | (go_simp; first | done | exact rfl | exact ⟨rfl, Below.refl _ _⟩)))); intro K hK; go_simp; (try go_bits); refine hK _ ?_; clear hK K))); refine wpQI_nil ?_
  refine wpQI_start [3, 4] ?_; (iterate 2 (first | (refine wpQI_off (by with_reducible (refine List.getElem?_toArray.trans ?_; (repeat (first | exact List.getElem?_cons_zero | refine List.getElem?_cons_succ.trans ?_)))) (by kernel_rfl) (by exact rfl) (fun K hK => ?_); go_simp; refine hK _ ?_; clear hK K) | ((first | apply wpQI_step (by with_reducible (refine List.getElem?_toArray.trans ?_; (repeat (first | exact List.getElem?_cons_zero | refine List.getElem?_cons_succ.trans ?_)))) (by kernel_rfl) (by exact rfl) | apply wpQI_on (by with_reducible (refine List.getElem?_toArray.trans ?_; (repeat (first | exact List.getElem?_cons_zero | refine List.getElem?_cons_succ.trans ?_)))) (by kernel_rfl) (by exact rfl)); (focus (intro W' hS; have hcS := hS.cells.1; have hfS := hS.cells.2; go_simp; (first | done | exact rfl | exact ⟨rfl, Below.refl _ _⟩ | (go_simp; first | done | exact rfl | exact ⟨rfl, Below.refl _ _⟩)))); intro K hK; go_simp; (try go_bits); refine hK _ ?_; clear hK K))); refine wpQI_nil ?_
  apply wpQ_call (i := 2) (by with_reducible (refine List.getElem?_toArray.trans ?_; (repeat (first | exact List.getElem?_cons_zero | refine List.getElem?_cons_succ.trans ?_)))) (by kernel_rfl) (by exact rfl); intro W hF hS; have hcS := hS.1.cells.1; have hfS := hS.1.cells.2; go_simp; (go_at_call 76; refine (K3.out _ _ _ ((H102.out.below hS.1.2).zl L1.out) ((H102.out.below hS.1.2).zl L1.out)).mono ?_; rintro e w106 ⟨hb_w106, v106, rfl, hv106⟩; refine XPost.mk _ (fun W => IsC W v106 (P)) hb_w106 (hv106) (IsC.cl _ _) ?_); clear hb_w106 hcS hfS hS hF
  intro K hK; go_simp; (try go_bits); refine hK _ ?_; clear hK K
  obtain ⟨s106, A106, n106, c106, rfl⟩ := IsC.val hv106
  clear hv106
  apply wpQ_call (i := 5) (by with_reducible (refine List.getElem?_toArray.trans ?_; (repeat (first | exact List.getElem?_cons_zero | refine List.getElem?_cons_succ.trans ?_)))) (by kernel_rfl) (by exact rfl); intro W hF hS; have hcS := hS.1.cells.1; have hfS := hS.1.cells.2; go_simp; (go_at_call 76; refine (K4.out _ _ _ ((H103.out.below hS.1.2).zl L2.out) ((H103.out.below hS.1.2).zl L2.out)).mono ?_; rintro e w107 ⟨hb_w107, v107, rfl, hv107⟩; refine XPost.mk _ (fun W => IsC W v107 (Q)) hb_w107 (hv107) (IsC.cl _ _) ?_); clear hb_w107 hcS hfS hS hF
  intro K hK; go_simp; (try go_bits); refine hK _ ?_; clear hK K
  obtain ⟨s107, A107, n107, c107, rfl⟩ := IsC.val hv107
  clear hv107
  apply wpQ_call (i := 6) (by with_reducible (refine List.getElem?_toArray.trans ?_; (repeat (first | exact List.getElem?_cons_zero | refine List.getElem?_cons_succ.trans ?_)))) (by kernel_rfl) (by exact rfl); intro W hF hS; have hcS := hS.1.cells.1; have hfS := hS.1.cells.2; go_simp; (go_at_call 88; refine (K5.out _ _ _ (hF.1.zl L3.out) (hF.2.zl L4.out)).mono ?_; rintro e w108 ⟨hb_w108, v108, rfl, hv108⟩; refine XPost.mk _ (fun W => IsC W v108 (S)) hb_w108 (hv108) (IsC.cl _ _) ?_); clear hb_w108 hcS hfS hS hF
  intro K hK; go_simp; (try go_bits); refine hK _ ?_; clear hK K
  obtain ⟨s108, A108, n108, c108, rfl⟩ := IsC.val hv108
  clear hv108
  refine wpQ_done (by kernel_rfl) ?_
  intro w109 hF_w109 hSG
  have hz_w109 := hSG.1.1
  have hb_w109 := hSG.1.2
  clear hSG
  (with_reducible apply cel2 (b := w.heap.size + 1 + 1) hb_w109); (focus ((try simp) <;> omega)); (focus omega); (focus (go_simp; try exact rfl)); (focus (go_simp; try exact rfl)); (focus (intro o; go_simp)); intro c_w109_0_0 c_w109_0_1 fz_w109_0 hl_w109_0; (with_reducible apply cel2 (b := g_r1_13) hb_w109); (focus ((try simp) <;> omega)); (focus omega); (focus (go_simp; try exact rfl)); (focus (go_simp; try exact rfl)); (focus (intro o; go_simp)); intro c_w109_1_0 c_w109_1_1 fz_w109_1 hl_w109_1; (with_reducible apply cel2 (b := g_r1_12) hb_w109); (focus ((try simp) <;> omega)); (focus omega); (focus (go_simp; try exact rfl)); (focus (go_simp; try exact rfl)); (focus (intro o; go_simp)); intro c_w109_2_0 c_w109_2_1 fz_w109_2 hl_w109_2
  (try simp only [List.filterMap_cons, List.filterMap_nil, List.getElem?_cons_succ, List.getElem?_cons_zero])
  clear H102
  clear H103
  have H106 := Lib.hid (show IsC w109 (.agg #[.bool s106, .slice A106 n106 c106]) (P) from hF_w109.1.1)
  have H107 := Lib.hid (show IsC w109 (.agg #[.bool s107, .slice A107 n107 c107]) (Q) from hF_w109.1.2)
  have H108 := Lib.hid (show IsC w109 (.agg #[.bool s108, .slice A108 n108 c108]) (S) from hF_w109.2)
  have HB109 := Lib.hid (HB105.out.trans (hb_w109.mono (by have := HB105.out.size; omega)))
  have hz109 : w.heap.size + 1 + 1 + 1 ≤ w109.heap.size := by omega
  clear hF_w109 hb_w109
  clear c_w105_0_0 c_w105_0_1 fz_w105_0 hl_w105_0 c_w105_1_0 c_w105_1_1 fz_w105_1 hl_w105_1 c_w105_2_0 c_w105_2_1 fz_w105_2 hl_w105_2
  go_wp2_with fail
  refine HQ_.out _ _ _ ?_
  clear HQ_ Q_
  go_wp2_with fail
  -- own blocks: w.heap.size + 1 + 1:2
  refine bodyPost_ret (v := .agg #[.bool s108, .slice A108 n108 c108]) (by simp only [results, Try.results101]; go_simp) rfl ⟨?_, ?_⟩
  · have hB := HB109.out; ((with_reducible (repeat (first | exact bR _ _ | refine bS ?_ ?_ _ | refine bA ?_ ?_ _ | refine bD ?_ | refine bT ?_ (by assumption) ?_ | refine bO (by assumption) ?_ ?_))) <;> (first | omega | (simp; done) | (simp <;> omega)))
  · exact ⟨_, rfl, (by ((repeat (first | (with_reducible exact H108.out) | (with_reducible refine IsC.al ?_ _) | (with_reducible apply IsC.st1))) <;> (first | (with_reducible assumption) | (intro _ e; cases e; done) | (go_simp; first | done | exact rfl))))⟩
def betR (x y z : V2) : Int := if cmpI (kA x z) (kA x y) = 0 then cmpI (kC z) (kC y) else cmpI (kA x z) (kA x y)
theorem kA_len {x c : V2} (hx : smB x = true) (hc : smB c = true) : (canN (kA x c).natAbs).length ≤ 100 := by
  obtain ⟨q1, q2, q3, q4⟩ := small_bd hx
  obtain ⟨r1, r2, r3, r4⟩ := small_bd hc
  unfold kA sqI
  exact len_up (len_add (len_mul (x := c.1 - x.1) (y := c.1 - x.1) (len_wd (by omega) (by omega)) (len_wd (by omega) (by omega))) (len_mul (x := c.2 - x.2) (y := c.2 - x.2) (len_wd (by omega) (by omega)) (len_wd (by omega) (by omega)))) (by omega)
theorem kC_len {c : V2} (hc : smB c = true) : (canN (kC c).natAbs).length ≤ 100 := by
  obtain ⟨r1, r2, r3, r4⟩ := small_bd hc
  unfold kC sqI
  exact len_up (len_add (len_mul (x := c.1) (y := c.1) (len_wd (by omega) (by omega)) (len_wd (by omega) (by omega))) (len_mul (x := c.2) (y := c.2) (len_wd (by omega) (by omega)) (len_wd (by omega) (by omega)))) (by omega)
set_option maxRecDepth 100000 in
set_option maxHeartbeats 20000000 in
theorem better_any (x1 x2 y1 y2 z1 z2 : Int) (w : World) (hx : smB (x1, x2) = true) (hy : smB (y1, y2) = true) (hz : smB (z1, z2) = true) :
    Calls Try.prog 83 #[.agg #[.int .i64 x1, .int .i64 x2], .agg #[.int .i64 y1, .int .i64 y2], .agg #[.int .i64 z1, .int .i64 z2]] w fun e w' => e = .returned (.int .i64 (betR (x1, x2) (y1, y2) (z1, z2))) ∧ Below w.heap.size w w' := by
  obtain ⟨p1, p2, p3, p4⟩ := small_bd hx
  obtain ⟨q1, q2, q3, q4⟩ := small_bd hy
  obtain ⟨r1, r2, r3, r4⟩ := small_bd hz
  simp only at p1 p2 p3 p4 q1 q2 q3 q4 r1 r2 r3 r4
  have k1 := fun w => rsquare_any z1 z2 x1 x2 w (by omega) (by omega) (by omega) (by omega)
  have k2 := fun w => rsquare_any y1 y2 x1 x2 w (by omega) (by omega) (by omega) (by omega)
  have k4 := fun w => rsquare_any z1 z2 0 0 w (by omega) (by omega) (by omega) (by omega)
  have k5 := fun w => rsquare_any y1 y2 0 0 w (by omega) (by omega) (by omega) (by omega)
  rw [Int.sub_zero, Int.sub_zero] at k4 k5
  have l1 := kA_len hx hz
  have l2 := kA_len hx hy
  have l3 := kC_len hz
  have l4 := kC_len hy
  have k3 := fun u v w h1 h2 => cmp_any 100 u v (kA (x1, x2) (z1, z2)) (kA (x1, x2) (y1, y2)) w h1 h2 (by omega)
  have k6 := fun u v w h1 h2 => cmp_any 100 u v (kC (z1, z2)) (kC (y1, y2)) w h1 h2 (by omega)
  unfold betR
  have b1 := cmpI_bd (kA (x1, x2) (z1, z2)) (kA (x1, x2) (y1, y2))
  generalize cmpI (kA (x1, x2) (z1, z2)) (kA (x1, x2) (y1, y2)) = c1 at *
  generalize cmpI (kC (z1, z2)) (kC (y1, y2)) = c2 at *
  unfold kA at l1 l2 k3
  unfold kC at l3 l4 k6
  simp only at l1 l2 l3 l4 k3 k6
  generalize sqI (z1 - x1) (z2 - x2) = S1 at *
  generalize sqI (y1 - x1) (y2 - x2) = S2 at *
  generalize sqI z1 z2 = S3 at *
  generalize sqI y1 y2 = S4 at *
  have K1 := Lib.hid k1
  have K2 := Lib.hid k2
  have K3 := Lib.hid k3
  have K4 := Lib.hid k4
  have K5 := Lib.hid k5
  have K6 := Lib.hid k6
  have L1 := Lib.hid l1
  have L2 := Lib.hid l2
  have L3 := Lib.hid l3
  have L4 := Lib.hid l4
  clear k1 k2 k3 k4 k5 k6 l1 l2 l3 l4 hx hy hz
  obtain ⟨b1a, b1b⟩ := b1
  by_cases hc : c1 = 0
  · rw [if_pos hc]
    subst hc
    -- names on
    go_enter Try.func83, Try.ntmps83; (try simp only [List.append_eq, List.cons_append, List.nil_append])
    go_wp2_with fail
    -- own blocks: w.heap.size:2, w.heap.size + 1:2, w.heap.size + 1 + 1:2
    (refine pin_wp (N := _) (Nat.le_refl _) (fun w101 hb_w101 hz_w101 => ?_); (try simp at hz_w101); (with_reducible apply cel2 (b := w.heap.size) hb_w101); (focus ((try simp) <;> omega)); (focus omega); (focus (go_simp; try exact rfl)); (focus (go_simp; try exact rfl)); (focus (intro o; go_simp)); intro c_w101_0_0 c_w101_0_1 fz_w101_0 hl_w101_0; (with_reducible apply cel2 (b := w.heap.size + 1) hb_w101); (focus ((try simp) <;> omega)); (focus omega); (focus (go_simp; try exact rfl)); (focus (go_simp; try exact rfl)); (focus (intro o; go_simp)); intro c_w101_1_0 c_w101_1_1 fz_w101_1 hl_w101_1; (with_reducible apply cel2 (b := w.heap.size + 1 + 1) hb_w101); (focus ((try simp) <;> omega)); (focus omega); (focus (go_simp; try exact rfl)); (focus (go_simp; try exact rfl)); (focus (intro o; go_simp)); intro c_w101_2_0 c_w101_2_1 fz_w101_2 hl_w101_2); refine wp_q (fun Q_ HQ_ => ?_); refine wp_region_floatQ w101.heap.size 8 [] (Nat.le_refl _) (fun _ => True) trivial Cl.tt (by kernel_rfl) (by kernel_rfl) ?_
    have HB101 := Lib.hid (show Below w.heap.size w w101 by ((with_reducible (repeat (first | exact bR _ _ | refine bS ?_ ?_ _ | refine bA ?_ ?_ _ | refine bD ?_ | refine bT ?_ (by assumption) ?_ | refine bO (by assumption) ?_ ?_))) <;> (first | omega | (simp; done) | (simp <;> omega))))
    have hz101 : w.heap.size + 1 + 1 + 1 ≤ w101.heap.size := by omega
    clear hb_w101
    skip
    refine wpQI_start [0, 1] ?_; (iterate 2 (first | (refine wpQI_off (by with_reducible (refine List.getElem?_toArray.trans ?_; (repeat (first | exact List.getElem?_cons_zero | refine List.getElem?_cons_succ.trans ?_)))) (by kernel_rfl) (by exact rfl) (fun K hK => ?_); go_simp; refine hK _ ?_; clear hK K) | ((first | apply wpQI_step (by with_reducible (refine List.getElem?_toArray.trans ?_; (repeat (first | exact List.getElem?_cons_zero | refine List.getElem?_cons_succ.trans ?_)))) (by kernel_rfl) (by exact rfl) | apply wpQI_on (by with_reducible (refine List.getElem?_toArray.trans ?_; (repeat (first | exact List.getElem?_cons_zero | refine List.getElem?_cons_succ.trans ?_)))) (by kernel_rfl) (by exact rfl)); (focus (intro W' hS; have hcS := hS.cells.1; have hfS := hS.cells.2; go_simp; (first | done | exact rfl | exact ⟨rfl, Below.refl _ _⟩ | (go_simp; first | done | exact rfl | exact ⟨rfl, Below.refl _ _⟩)))); intro K hK; go_simp; (try go_bits); refine hK _ ?_; clear hK K))); refine wpQI_nil ?_
    refine wpQI_start [3, 4] ?_; (iterate 2 (first | (refine wpQI_off (by with_reducible (refine List.getElem?_toArray.trans ?_; (repeat (first | exact List.getElem?_cons_zero | refine List.getElem?_cons_succ.trans ?_)))) (by kernel_rfl) (by exact rfl) (fun K hK => ?_); go_simp; refine hK _ ?_; clear hK K) | ((first | apply wpQI_step (by with_reducible (refine List.getElem?_toArray.trans ?_; (repeat (first | exact List.getElem?_cons_zero | refine List.getElem?_cons_succ.trans ?_)))) (by kernel_rfl) (by exact rfl) | apply wpQI_on (by with_reducible (refine List.getElem?_toArray.trans ?_; (repeat (first | exact List.getElem?_cons_zero | refine List.getElem?_cons_succ.trans ?_)))) (by kernel_rfl) (by exact rfl)); (focus (intro W' hS; have hcS := hS.cells.1; have hfS := hS.cells.2; go_simp; (first | done | exact rfl | exact ⟨rfl, Below.refl _ _⟩ | (go_simp; first | done | exact rfl | exact ⟨rfl, Below.refl _ _⟩)))); intro K hK; go_simp; (try go_bits); refine hK _ ?_; clear hK K))); refine wpQI_nil ?_
    apply wpQ_call (i := 2) (by with_reducible (refine List.getElem?_toArray.trans ?_; (repeat (first | exact List.getElem?_cons_zero | refine List.getElem?_cons_succ.trans ?_)))) (by kernel_rfl) (by exact rfl); intro W hF hS; have hcS := hS.1.cells.1; have hfS := hS.1.cells.2; go_simp; (go_at_call 101; refine (K1.out _).mono ?_; rintro e w102 ⟨hb_w102, v102, rfl, hv102⟩; refine XPost.mk _ (fun W => IsC W v102 (S1)) hb_w102 (hv102) (IsC.cl _ _) ?_); clear hb_w102 hcS hfS hS hF
    intro K hK; go_simp; (try go_bits); refine hK _ ?_; clear hK K
    obtain ⟨s102, A102, n102, c102, rfl⟩ := IsC.val hv102
    clear hv102
    apply wpQ_call (i := 5) (by with_reducible (refine List.getElem?_toArray.trans ?_; (repeat (first | exact List.getElem?_cons_zero | refine List.getElem?_cons_succ.trans ?_)))) (by kernel_rfl) (by exact rfl); intro W hF hS; have hcS := hS.1.cells.1; have hfS := hS.1.cells.2; go_simp; (go_at_call 101; refine (K2.out _).mono ?_; rintro e w103 ⟨hb_w103, v103, rfl, hv103⟩; refine XPost.mk _ (fun W => IsC W v103 (S2)) hb_w103 (hv103) (IsC.cl _ _) ?_); clear hb_w103 hcS hfS hS hF
    intro K hK; go_simp; (try go_bits); refine hK _ ?_; clear hK K
    obtain ⟨s103, A103, n103, c103, rfl⟩ := IsC.val hv103
    clear hv103
    apply wpQ_call (i := 6) (by with_reducible (refine List.getElem?_toArray.trans ?_; (repeat (first | exact List.getElem?_cons_zero | refine List.getElem?_cons_succ.trans ?_)))) (by kernel_rfl) (by exact rfl); intro W hF hS; have hcS := hS.1.cells.1; have hfS := hS.1.cells.2; go_simp; (go_at_call 100; refine (K3.out _ _ _ (hF.1.zl L1.out) (hF.2.zl L2.out)).mono ?_; rintro e w104 ⟨rfl, hb_w104⟩; refine XPost.mk _ (fun _ => True) hb_w104 (trivial) (Cl.tt) ?_); clear hb_w104 hcS hfS hS hF
    intro K hK; go_simp; (try go_bits); refine hK _ ?_; clear hK K
    refine wpQI_start [7] ?_; (iterate 1 (first | (refine wpQI_off (by with_reducible (refine List.getElem?_toArray.trans ?_; (repeat (first | exact List.getElem?_cons_zero | refine List.getElem?_cons_succ.trans ?_)))) (by kernel_rfl) (by exact rfl) (fun K hK => ?_); go_simp; refine hK _ ?_; clear hK K) | ((first | apply wpQI_step (by with_reducible (refine List.getElem?_toArray.trans ?_; (repeat (first | exact List.getElem?_cons_zero | refine List.getElem?_cons_succ.trans ?_)))) (by kernel_rfl) (by exact rfl) | apply wpQI_on (by with_reducible (refine List.getElem?_toArray.trans ?_; (repeat (first | exact List.getElem?_cons_zero | refine List.getElem?_cons_succ.trans ?_)))) (by kernel_rfl) (by exact rfl)); (focus (intro W' hS; have hcS := hS.cells.1; have hfS := hS.cells.2; go_simp; (first | done | exact rfl | exact ⟨rfl, Below.refl _ _⟩ | (go_simp; first | done | exact rfl | exact ⟨rfl, Below.refl _ _⟩)))); intro K hK; go_simp; (try go_bits); refine hK _ ?_; clear hK K))); refine wpQI_nil ?_
    refine wpQ_done (by kernel_rfl) ?_
    intro w105 hF_w105 hSG
    have hz_w105 := hSG.1.1
    have hb_w105 := hSG.1.2
    clear hSG
    (with_reducible apply cel2 (b := w.heap.size) hb_w105); (focus ((try simp) <;> omega)); (focus omega); (focus (go_simp; try exact rfl)); (focus (go_simp; try exact rfl)); (focus (intro o; go_simp)); intro c_w105_0_0 c_w105_0_1 fz_w105_0 hl_w105_0; (with_reducible apply cel2 (b := w.heap.size + 1) hb_w105); (focus ((try simp) <;> omega)); (focus omega); (focus (go_simp; try exact rfl)); (focus (go_simp; try exact rfl)); (focus (intro o; go_simp)); intro c_w105_1_0 c_w105_1_1 fz_w105_1 hl_w105_1; (with_reducible apply cel2 (b := w.heap.size + 1 + 1) hb_w105); (focus ((try simp) <;> omega)); (focus omega); (focus (go_simp; try exact rfl)); (focus (go_simp; try exact rfl)); (focus (intro o; go_simp)); intro c_w105_2_0 c_w105_2_1 fz_w105_2 hl_w105_2
    (try simp only [List.filterMap_nil])
    have H102 := Lib.hid (show IsC w105 (.agg #[.bool s102, .slice A102 n102 c102]) (S1) from hF_w105.1.1)
    have H103 := Lib.hid (show IsC w105 (.agg #[.bool s103, .slice A103 n103 c103]) (S2) from hF_w105.1.2)
    have HB105 := Lib.hid (HB101.out.trans (hb_w105.mono (by have := HB101.out.size; omega)))
    have hz105 : w.heap.size + 1 + 1 + 1 ≤ w105.heap.size := by omega
    clear hF_w105 hb_w105
    clear c_w101_0_0 c_w101_0_1 fz_w101_0 hl_w101_0 c_w101_1_0 c_w101_1_1 fz_w101_1 hl_w101_1 c_w101_2_0 c_w101_2_1 fz_w101_2 hl_w101_2
    go_wp2_with fail
    refine HQ_.out _ _ _ ?_
    clear HQ_ Q_
    go_wp2_with fail
    -- own blocks: w.heap.size + 1:2, w.heap.size + 1 + 1:2
    (refine pin_wp (N := _) (Nat.le_refl _) (fun w106 hb_w106 hz_w106 => ?_); (try simp at hz_w106); (with_reducible apply cel2 (b := w.heap.size + 1) hb_w106); (focus ((try simp) <;> omega)); (focus omega); (focus (go_simp; try exact rfl)); (focus (go_simp; try exact rfl)); (focus (intro o; go_simp)); intro c_w106_0_0 c_w106_0_1 fz_w106_0 hl_w106_0; (with_reducible apply cel2 (b := w.heap.size + 1 + 1) hb_w106); (focus ((try simp) <;> omega)); (focus omega); (focus (go_simp; try exact rfl)); (focus (go_simp; try exact rfl)); (focus (intro o; go_simp)); intro c_w106_1_0 c_w106_1_1 fz_w106_1 hl_w106_1); refine wp_q (fun Q_ HQ_ => ?_); refine wp_region_floatQ w106.heap.size 8 [] (Nat.le_refl _) (fun _ => True) trivial Cl.tt (by kernel_rfl) (by kernel_rfl) ?_
    clear H102
    clear H103
    have HB106 := Lib.hid (show Below w.heap.size w w106 by have hB := HB105.out; ((with_reducible (repeat (first | exact bR _ _ | refine bS ?_ ?_ _ | refine bA ?_ ?_ _ | refine bD ?_ | refine bT ?_ (by assumption) ?_ | refine bO (by assumption) ?_ ?_))) <;> (first | omega | (simp; done) | (simp <;> omega))))
    have hz106 : w.heap.size + 1 + 1 + 1 ≤ w106.heap.size := by omega
    clear hb_w106
    clear c_w105_0_0 c_w105_0_1 fz_w105_0 hl_w105_0 c_w105_1_0 c_w105_1_1 fz_w105_1 hl_w105_1 c_w105_2_0 c_w105_2_1 fz_w105_2 hl_w105_2
    refine wpQI_start [0, 1] ?_; (iterate 2 (first | (refine wpQI_off (by with_reducible (refine List.getElem?_toArray.trans ?_; (repeat (first | exact List.getElem?_cons_zero | refine List.getElem?_cons_succ.trans ?_)))) (by kernel_rfl) (by exact rfl) (fun K hK => ?_); go_simp; refine hK _ ?_; clear hK K) | ((first | apply wpQI_step (by with_reducible (refine List.getElem?_toArray.trans ?_; (repeat (first | exact List.getElem?_cons_zero | refine List.getElem?_cons_succ.trans ?_)))) (by kernel_rfl) (by exact rfl) | apply wpQI_on (by with_reducible (refine List.getElem?_toArray.trans ?_; (repeat (first | exact List.getElem?_cons_zero | refine List.getElem?_cons_succ.trans ?_)))) (by kernel_rfl) (by exact rfl)); (focus (intro W' hS; have hcS := hS.cells.1; have hfS := hS.cells.2; go_simp; (first | done | exact rfl | exact ⟨rfl, Below.refl _ _⟩ | (go_simp; first | done | exact rfl | exact ⟨rfl, Below.refl _ _⟩)))); intro K hK; go_simp; (try go_bits); refine hK _ ?_; clear hK K))); refine wpQI_nil ?_
    refine wpQI_start [3, 4] ?_; (iterate 2 (first | (refine wpQI_off (by with_reducible (refine List.getElem?_toArray.trans ?_; (repeat (first | exact List.getElem?_cons_zero | refine List.getElem?_cons_succ.trans ?_)))) (by kernel_rfl) (by exact rfl) (fun K hK => ?_); go_simp; refine hK _ ?_; clear hK K) | ((first | apply wpQI_step (by with_reducible (refine List.getElem?_toArray.trans ?_; (repeat (first | exact List.getElem?_cons_zero | refine List.getElem?_cons_succ.trans ?_)))) (by kernel_rfl) (by exact rfl) | apply wpQI_on (by with_reducible (refine List.getElem?_toArray.trans ?_; (repeat (first | exact List.getElem?_cons_zero | refine List.getElem?_cons_succ.trans ?_)))) (by kernel_rfl) (by exact rfl)); (focus (intro W' hS; have hcS := hS.cells.1; have hfS := hS.cells.2; go_simp; (first | done | exact rfl | exact ⟨rfl, Below.refl _ _⟩ | (go_simp; first | done | exact rfl | exact ⟨rfl, Below.refl _ _⟩)))); intro K hK; go_simp; (try go_bits); refine hK _ ?_; clear hK K))); refine wpQI_nil ?_
    apply wpQ_call (i := 2) (by with_reducible (refine List.getElem?_toArray.trans ?_; (repeat (first | exact List.getElem?_cons_zero | refine List.getElem?_cons_succ.trans ?_)))) (by kernel_rfl) (by exact rfl); intro W hF hS; have hcS := hS.1.cells.1; have hfS := hS.1.cells.2; go_simp; (go_at_call 101; refine (K4.out _).mono ?_; rintro e w107 ⟨hb_w107, v107, rfl, hv107⟩; refine XPost.mk _ (fun W => IsC W v107 (S3)) hb_w107 (hv107) (IsC.cl _ _) ?_); clear hb_w107 hcS hfS hS hF
    intro K hK; go_simp; (try go_bits); refine hK _ ?_; clear hK K
    obtain ⟨s107, A107, n107, c107, rfl⟩ := IsC.val hv107
    clear hv107
    apply wpQ_call (i := 5) (by with_reducible (refine List.getElem?_toArray.trans ?_; (repeat (first | exact List.getElem?_cons_zero | refine List.getElem?_cons_succ.trans ?_)))) (by kernel_rfl) (by exact rfl); intro W hF hS; have hcS := hS.1.cells.1; have hfS := hS.1.cells.2; go_simp; (go_at_call 101; refine (K5.out _).mono ?_; rintro e w108 ⟨hb_w108, v108, rfl, hv108⟩; refine XPost.mk _ (fun W => IsC W v108 (S4)) hb_w108 (hv108) (IsC.cl _ _) ?_); clear hb_w108 hcS hfS hS hF
    intro K hK; go_simp; (try go_bits); refine hK _ ?_; clear hK K
    obtain ⟨s108, A108, n108, c108, rfl⟩ := IsC.val hv108
    clear hv108
    apply wpQ_call (i := 6) (by with_reducible (refine List.getElem?_toArray.trans ?_; (repeat (first | exact List.getElem?_cons_zero | refine List.getElem?_cons_succ.trans ?_)))) (by kernel_rfl) (by exact rfl); intro W hF hS; have hcS := hS.1.cells.1; have hfS := hS.1.cells.2; go_simp; (go_at_call 100; refine (K6.out _ _ _ (hF.1.zl L3.out) (hF.2.zl L4.out)).mono ?_; rintro e w109 ⟨rfl, hb_w109⟩; refine XPost.mk _ (fun _ => True) hb_w109 (trivial) (Cl.tt) ?_); clear hb_w109 hcS hfS hS hF
    intro K hK; go_simp; (try go_bits); refine hK _ ?_; clear hK K
    refine wpQI_start [7] ?_; (iterate 1 (first | (refine wpQI_off (by with_reducible (refine List.getElem?_toArray.trans ?_; (repeat (first | exact List.getElem?_cons_zero | refine List.getElem?_cons_succ.trans ?_)))) (by kernel_rfl) (by exact rfl) (fun K hK => ?_); go_simp; refine hK _ ?_; clear hK K) | ((first | apply wpQI_step (by with_reducible (refine List.getElem?_toArray.trans ?_; (repeat (first | exact List.getElem?_cons_zero | refine List.getElem?_cons_succ.trans ?_)))) (by kernel_rfl) (by exact rfl) | apply wpQI_on (by with_reducible (refine List.getElem?_toArray.trans ?_; (repeat (first | exact List.getElem?_cons_zero | refine List.getElem?_cons_succ.trans ?_)))) (by kernel_rfl) (by exact rfl)); (focus (intro W' hS; have hcS := hS.cells.1; have hfS := hS.cells.2; go_simp; (first | done | exact rfl | exact ⟨rfl, Below.refl _ _⟩ | (go_simp; first | done | exact rfl | exact ⟨rfl, Below.refl _ _⟩)))); intro K hK; go_simp; (try go_bits); refine hK _ ?_; clear hK K))); refine wpQI_nil ?_
    refine wpQ_done (by kernel_rfl) ?_
    intro w110 hF_w110 hSG
    have hz_w110 := hSG.1.1
    have hb_w110 := hSG.1.2
    clear hSG
    (with_reducible apply cel2 (b := w.heap.size + 1) hb_w110); (focus ((try simp) <;> omega)); (focus omega); (focus (go_simp; try exact rfl)); (focus (go_simp; try exact rfl)); (focus (intro o; go_simp)); intro c_w110_0_0 c_w110_0_1 fz_w110_0 hl_w110_0; (with_reducible apply cel2 (b := w.heap.size + 1 + 1) hb_w110); (focus ((try simp) <;> omega)); (focus omega); (focus (go_simp; try exact rfl)); (focus (go_simp; try exact rfl)); (focus (intro o; go_simp)); intro c_w110_1_0 c_w110_1_1 fz_w110_1 hl_w110_1
    (try simp only [List.filterMap_nil])
    have H107 := Lib.hid (show IsC w110 (.agg #[.bool s107, .slice A107 n107 c107]) (S3) from hF_w110.1.1)
    have H108 := Lib.hid (show IsC w110 (.agg #[.bool s108, .slice A108 n108 c108]) (S4) from hF_w110.1.2)
    have HB110 := Lib.hid (HB106.out.trans (hb_w110.mono (by have := HB106.out.size; omega)))
    have hz110 : w.heap.size + 1 + 1 + 1 ≤ w110.heap.size := by omega
    clear hF_w110 hb_w110
    clear c_w106_0_0 c_w106_0_1 fz_w106_0 hl_w106_0 c_w106_1_0 c_w106_1_1 fz_w106_1 hl_w106_1
    go_wp2_with fail
    refine HQ_.out _ _ _ ?_
    clear HQ_ Q_
    go_wp2_with fail
    -- own blocks: 
    refine bodyPost_ret (v := .int .i64 c2) (by simp only [results, Try.results83]; go_simp) rfl ⟨?_, ?_⟩
    · rfl
    · have hB := HB110.out; ((with_reducible (repeat (first | exact bR _ _ | refine bS ?_ ?_ _ | refine bA ?_ ?_ _ | refine bD ?_ | refine bT ?_ (by assumption) ?_ | refine bO (by assumption) ?_ ?_))) <;> (first | omega | (simp; done) | (simp <;> omega)))
  · rw [if_neg hc]
    have hne : (c1 == 0) = false := by rw [beq_eq_false_iff_ne]; exact hc
    -- names on
    go_enter Try.func83, Try.ntmps83; (try simp only [List.append_eq, List.cons_append, List.nil_append])
    go_wp2_with fail
    -- own blocks: w.heap.size:2, w.heap.size + 1:2, w.heap.size + 1 + 1:2
    (refine pin_wp (N := _) (Nat.le_refl _) (fun w101 hb_w101 hz_w101 => ?_); (try simp at hz_w101); (with_reducible apply cel2 (b := w.heap.size) hb_w101); (focus ((try simp) <;> omega)); (focus omega); (focus (go_simp; try exact rfl)); (focus (go_simp; try exact rfl)); (focus (intro o; go_simp)); intro c_w101_0_0 c_w101_0_1 fz_w101_0 hl_w101_0; (with_reducible apply cel2 (b := w.heap.size + 1) hb_w101); (focus ((try simp) <;> omega)); (focus omega); (focus (go_simp; try exact rfl)); (focus (go_simp; try exact rfl)); (focus (intro o; go_simp)); intro c_w101_1_0 c_w101_1_1 fz_w101_1 hl_w101_1; (with_reducible apply cel2 (b := w.heap.size + 1 + 1) hb_w101); (focus ((try simp) <;> omega)); (focus omega); (focus (go_simp; try exact rfl)); (focus (go_simp; try exact rfl)); (focus (intro o; go_simp)); intro c_w101_2_0 c_w101_2_1 fz_w101_2 hl_w101_2); refine wp_q (fun Q_ HQ_ => ?_); refine wp_region_floatQ w101.heap.size 8 [] (Nat.le_refl _) (fun _ => True) trivial Cl.tt (by kernel_rfl) (by kernel_rfl) ?_
    have HB101 := Lib.hid (show Below w.heap.size w w101 by ((with_reducible (repeat (first | exact bR _ _ | refine bS ?_ ?_ _ | refine bA ?_ ?_ _ | refine bD ?_ | refine bT ?_ (by assumption) ?_ | refine bO (by assumption) ?_ ?_))) <;> (first | omega | (simp; done) | (simp <;> omega))))
    have hz101 : w.heap.size + 1 + 1 + 1 ≤ w101.heap.size := by omega
    clear hb_w101
    skip
    refine wpQI_start [0, 1] ?_; (iterate 2 (first | (refine wpQI_off (by with_reducible (refine List.getElem?_toArray.trans ?_; (repeat (first | exact List.getElem?_cons_zero | refine List.getElem?_cons_succ.trans ?_)))) (by kernel_rfl) (by exact rfl) (fun K hK => ?_); go_simp; refine hK _ ?_; clear hK K) | ((first | apply wpQI_step (by with_reducible (refine List.getElem?_toArray.trans ?_; (repeat (first | exact List.getElem?_cons_zero | refine List.getElem?_cons_succ.trans ?_)))) (by kernel_rfl) (by exact rfl) | apply wpQI_on (by with_reducible (refine List.getElem?_toArray.trans ?_; (repeat (first | exact List.getElem?_cons_zero | refine List.getElem?_cons_succ.trans ?_)))) (by kernel_rfl) (by exact rfl)); (focus (intro W' hS; have hcS := hS.cells.1; have hfS := hS.cells.2; go_simp; (first | done | exact rfl | exact ⟨rfl, Below.refl _ _⟩ | (go_simp; first | done | exact rfl | exact ⟨rfl, Below.refl _ _⟩)))); intro K hK; go_simp; (try go_bits); refine hK _ ?_; clear hK K))); refine wpQI_nil ?_
    refine wpQI_start [3, 4] ?_; (iterate 2 (first | (refine wpQI_off (by with_reducible (refine List.getElem?_toArray.trans ?_; (repeat (first | exact List.getElem?_cons_zero | refine List.getElem?_cons_succ.trans ?_)))) (by kernel_rfl) (by exact rfl) (fun K hK => ?_); go_simp; refine hK _ ?_; clear hK K) | ((first | apply wpQI_step (by with_reducible (refine List.getElem?_toArray.trans ?_; (repeat (first | exact List.getElem?_cons_zero | refine List.getElem?_cons_succ.trans ?_)))) (by kernel_rfl) (by exact rfl) | apply wpQI_on (by with_reducible (refine List.getElem?_toArray.trans ?_; (repeat (first | exact List.getElem?_cons_zero | refine List.getElem?_cons_succ.trans ?_)))) (by kernel_rfl) (by exact rfl)); (focus (intro W' hS; have hcS := hS.cells.1; have hfS := hS.cells.2; go_simp; (first | done | exact rfl | exact ⟨rfl, Below.refl _ _⟩ | (go_simp; first | done | exact rfl | exact ⟨rfl, Below.refl _ _⟩)))); intro K hK; go_simp; (try go_bits); refine hK _ ?_; clear hK K))); refine wpQI_nil ?_
    apply wpQ_call (i := 2) (by with_reducible (refine List.getElem?_toArray.trans ?_; (repeat (first | exact List.getElem?_cons_zero | refine List.getElem?_cons_succ.trans ?_)))) (by kernel_rfl) (by exact rfl); intro W hF hS; have hcS := hS.1.cells.1; have hfS := hS.1.cells.2; go_simp; (go_at_call 101; refine (K1.out _).mono ?_; rintro e w102 ⟨hb_w102, v102, rfl, hv102⟩; refine XPost.mk _ (fun W => IsC W v102 (S1)) hb_w102 (hv102) (IsC.cl _ _) ?_); clear hb_w102 hcS hfS hS hF
    intro K hK; go_simp; (try go_bits); refine hK _ ?_; clear hK K
    obtain ⟨s102, A102, n102, c102, rfl⟩ := IsC.val hv102
    clear hv102
    apply wpQ_call (i := 5) (by with_reducible (refine List.getElem?_toArray.trans ?_; (repeat (first | exact List.getElem?_cons_zero | refine List.getElem?_cons_succ.trans ?_)))) (by kernel_rfl) (by exact rfl); intro W hF hS; have hcS := hS.1.cells.1; have hfS := hS.1.cells.2; go_simp; (go_at_call 101; refine (K2.out _).mono ?_; rintro e w103 ⟨hb_w103, v103, rfl, hv103⟩; refine XPost.mk _ (fun W => IsC W v103 (S2)) hb_w103 (hv103) (IsC.cl _ _) ?_); clear hb_w103 hcS hfS hS hF
    intro K hK; go_simp; (try go_bits); refine hK _ ?_; clear hK K
    obtain ⟨s103, A103, n103, c103, rfl⟩ := IsC.val hv103
    clear hv103
    apply wpQ_call (i := 6) (by with_reducible (refine List.getElem?_toArray.trans ?_; (repeat (first | exact List.getElem?_cons_zero | refine List.getElem?_cons_succ.trans ?_)))) (by kernel_rfl) (by exact rfl); intro W hF hS; have hcS := hS.1.cells.1; have hfS := hS.1.cells.2; go_simp; (go_at_call 100; refine (K3.out _ _ _ (hF.1.zl L1.out) (hF.2.zl L2.out)).mono ?_; rintro e w104 ⟨rfl, hb_w104⟩; refine XPost.mk _ (fun _ => True) hb_w104 (trivial) (Cl.tt) ?_); clear hb_w104 hcS hfS hS hF
    intro K hK; go_simp; (try go_bits); refine hK _ ?_; clear hK K
    refine wpQI_start [7] ?_; (iterate 1 (first | (refine wpQI_off (by with_reducible (refine List.getElem?_toArray.trans ?_; (repeat (first | exact List.getElem?_cons_zero | refine List.getElem?_cons_succ.trans ?_)))) (by kernel_rfl) (by exact rfl) (fun K hK => ?_); go_simp; refine hK _ ?_; clear hK K) | ((first | apply wpQI_step (by with_reducible (refine List.getElem?_toArray.trans ?_; (repeat (first | exact List.getElem?_cons_zero | refine List.getElem?_cons_succ.trans ?_)))) (by kernel_rfl) (by exact rfl) | apply wpQI_on (by with_reducible (refine List.getElem?_toArray.trans ?_; (repeat (first | exact List.getElem?_cons_zero | refine List.getElem?_cons_succ.trans ?_)))) (by kernel_rfl) (by exact rfl)); (focus (intro W' hS; have hcS := hS.cells.1; have hfS := hS.cells.2; go_simp; (first | done | exact rfl | exact ⟨rfl, Below.refl _ _⟩ | (go_simp; first | done | exact rfl | exact ⟨rfl, Below.refl _ _⟩)))); intro K hK; go_simp; (try go_bits); refine hK _ ?_; clear hK K))); refine wpQI_nil ?_
    refine wpQ_done (by kernel_rfl) ?_
    intro w105 hF_w105 hSG
    have hz_w105 := hSG.1.1
    have hb_w105 := hSG.1.2
    clear hSG
    (with_reducible apply cel2 (b := w.heap.size) hb_w105); (focus ((try simp) <;> omega)); (focus omega); (focus (go_simp; try exact rfl)); (focus (go_simp; try exact rfl)); (focus (intro o; go_simp)); intro c_w105_0_0 c_w105_0_1 fz_w105_0 hl_w105_0; (with_reducible apply cel2 (b := w.heap.size + 1) hb_w105); (focus ((try simp) <;> omega)); (focus omega); (focus (go_simp; try exact rfl)); (focus (go_simp; try exact rfl)); (focus (intro o; go_simp)); intro c_w105_1_0 c_w105_1_1 fz_w105_1 hl_w105_1; (with_reducible apply cel2 (b := w.heap.size + 1 + 1) hb_w105); (focus ((try simp) <;> omega)); (focus omega); (focus (go_simp; try exact rfl)); (focus (go_simp; try exact rfl)); (focus (intro o; go_simp)); intro c_w105_2_0 c_w105_2_1 fz_w105_2 hl_w105_2
    (try simp only [List.filterMap_nil])
    have H102 := Lib.hid (show IsC w105 (.agg #[.bool s102, .slice A102 n102 c102]) (S1) from hF_w105.1.1)
    have H103 := Lib.hid (show IsC w105 (.agg #[.bool s103, .slice A103 n103 c103]) (S2) from hF_w105.1.2)
    have HB105 := Lib.hid (HB101.out.trans (hb_w105.mono (by have := HB101.out.size; omega)))
    have hz105 : w.heap.size + 1 + 1 + 1 ≤ w105.heap.size := by omega
    clear hF_w105 hb_w105
    clear c_w101_0_0 c_w101_0_1 fz_w101_0 hl_w101_0 c_w101_1_0 c_w101_1_1 fz_w101_1 hl_w101_1 c_w101_2_0 c_w101_2_1 fz_w101_2 hl_w101_2
    go_wp2_with fail
    refine HQ_.out _ _ _ ?_
    clear HQ_ Q_
    go_wp2_with fail
    -- own blocks: 
    refine bodyPost_ret (v := .int .i64 c1) (by simp only [results, Try.results83]; go_simp) rfl ⟨?_, ?_⟩
    · rfl
    · have hB := HB105.out; ((with_reducible (repeat (first | exact bR _ _ | refine bS ?_ ?_ _ | refine bA ?_ ?_ _ | refine bD ?_ | refine bT ?_ (by assumption) ?_ | refine bO (by assumption) ?_ ?_))) <;> (first | omega | (simp; done) | (simp <;> omega)))
end Go.Proofs.Ytkoejgpnlncgaaa
