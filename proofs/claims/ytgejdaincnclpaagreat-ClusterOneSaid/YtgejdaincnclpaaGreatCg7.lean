/- Merged texts: RsF RsI RsP BigR ClF (what no proof of the claim needs is left out). -/
import Derived.Test.YtgejdaincnclpaaGreatCg6
namespace Go.Proofs.YtgejdaincnclpaaGreat
open Go Go.RowKit
set_option linter.unusedVariables false
attribute [local go_sem] makeFunc_run
def pairX (v n m c rest sgn : Int) : Int := 32 * v * m + sgn * (16 + rest) * n * c
structure SmP (v n m c rest sgn : Int) : Prop where
  v : -4194304 ≤ v ∧ v ≤ 4194304
  n : -4194304 ≤ n ∧ n ≤ 4194304
  m : -17592186044416 ≤ m ∧ m ≤ 17592186044416
  c : -17592186044416 ≤ c ∧ c ≤ 17592186044416
  rest : 0 ≤ rest ∧ rest ≤ 15
  sgn : -1 ≤ sgn ∧ sgn ≤ 1
theorem SmP.parts {v n m c rest sgn : Int} (h : SmP v n m c rest sgn) : (-31 ≤ sgn * (16 + rest) ∧ sgn * (16 + rest) ≤ 31) ∧ (-130023424 ≤ sgn * (16 + rest) * n ∧ sgn * (16 + rest) * n ≤ 130023424) ∧
    (-2361183241434822606848 ≤ 32 * v * m ∧ 32 * v * m ≤ 2361183241434822606848) ∧ (-2361183241434822606848 ≤ sgn * (16 + rest) * n * c ∧ sgn * (16 + rest) * n * c ≤ 2361183241434822606848) := by
  obtain ⟨hv, hn, hm, hc, hr, hg⟩ := h
  have m1 := mulB sgn (16 + rest) 1 31 hg (by omega)
  have m2 := mulB (sgn * (16 + rest)) n 31 4194304 (by omega) hn
  have m3 := mulB (32 * v) m 134217728 17592186044416 (by omega) hm
  have m4 := mulB (sgn * (16 + rest) * n) c 134217728 17592186044416 (by omega) hc
  omega
theorem SmP.len {v n m c rest sgn : Int} (h : SmP v n m c rest sgn) : (canN (pairX v n m c rest sgn).natAbs).length ≤ 10 := by
  obtain ⟨_, _, a, b⟩ := h.parts
  unfold pairX
  exact canN_bd (B := 18446744073709551616 * 18446744073709551616) (by omega) (by omega) (by decide)
set_option maxRecDepth 100000 in
set_option maxHeartbeats 20000000 in
theorem pair1_any (v n m c rest sgn : Int) (b1 b2 b3 : Nat) (w : World) (hs : SmP v n m c rest sgn)
    (g1 : w.cell? ⟨b1, 0, none⟩ = some (.int .i64 m)) (g2 : w.cell? ⟨b2, 0, none⟩ = some (.int .i64 rest)) (g3 : w.cell? ⟨b3, 0, none⟩ = some (.int .i64 c)) :
    Calls Tryz.prog 86 #[.int .i64 v, .int .i64 n, .int .i64 sgn, .pointer (some ⟨b1, 0, none⟩), .pointer (some ⟨b2, 0, none⟩), .pointer (some ⟨b3, 0, none⟩)] w (ZOut (pairX v n m c rest sgn) w) := by
  have z1 : b1 < w.heap.size := by simpa using World.block_lt_of_cell? w _ g1
  have z2 : b2 < w.heap.size := by simpa using World.block_lt_of_cell? w _ g2
  have z3 : b3 < w.heap.size := by simpa using World.block_lt_of_cell? w _ g3
  obtain ⟨⟨p1, p2⟩, ⟨p3, p4⟩, p5, p6⟩ := hs.parts
  have hlen := hs.len
  obtain ⟨⟨v1, v2⟩, ⟨n1, n2⟩, ⟨m1, m2⟩, ⟨c1, c2⟩, ⟨r1, r2⟩, ⟨e1, e2⟩⟩ := hs
  have k1 := fun w => wof_any (32 * v) w (by omega) (by omega)
  have k2 := fun w => wof_any m w (by omega) (by omega)
  have k4 := fun w => wof_any (sgn * (16 + rest) * n) w (by omega) (by omega)
  have k5 := fun w => wof_any c w (by omega) (by omega)
  have l1 := len_wd (z := 32 * v) (by omega) (by omega)
  have l2 := len_wd (z := m) (by omega) (by omega)
  have l4 := len_wd (z := sgn * (16 + rest) * n) (by omega) (by omega)
  have l5 := len_wd (z := c) (by omega) (by omega)
  have l3 : (canN (32 * v * m).natAbs).length ≤ 10 := canN_bd (B := 18446744073709551616 * 18446744073709551616) (by omega) (by omega) (by decide)
  have l6 : (canN (sgn * (16 + rest) * n * c).natAbs).length ≤ 10 := canN_bd (B := 18446744073709551616 * 18446744073709551616) (by omega) (by omega) (by decide)
  have K1 := Lib.hid k1
  have K4 := Lib.hid k4
  clear k1 k4
  obtain ⟨P, hP⟩ : ∃ P, P = 32 * v := ⟨_, rfl⟩
  obtain ⟨Q, hQ⟩ : ∃ Q, Q = sgn * (16 + rest) * n := ⟨_, rfl⟩
  unfold pairX at hlen ⊢
  rw [← hP] at l1 l3 hlen ⊢
  rw [← hQ] at l4 l6 hlen ⊢
  have kk1 := fun w => (K1.out w).mono (fun _ _ (h : ZOut (32 * v) w _ _) => (show ZOut P w _ _ by rw [hP]; exact h))
  have kk4 := fun w => (K4.out w).mono (fun _ _ (h : ZOut (sgn * (16 + rest) * n) w _ _) => (show ZOut Q w _ _ by rw [hQ]; exact h))
  replace K1 := Lib.hid kk1
  replace K4 := Lib.hid kk4
  clear hP hQ kk1 kk4
  have k3 := fun x y w h1 h2 => wmul_any 10 x y P m w h1 h2 (by omega)
  have k6 := fun x y w h1 h2 => wmul_any 10 x y Q c w h1 h2 (by omega)
  have k7 := fun x y w h1 h2 => wadd_any 10 x y (P * m) (Q * c) w h1 h2 (by omega)
  generalize P * m = Z3 at *
  generalize Q * c = Z6 at *
  generalize Z3 + Z6 = Z at *
  have K2 := Lib.hid k2
  have K3 := Lib.hid k3
  have K5 := Lib.hid k5
  have K6 := Lib.hid k6
  have K7 := Lib.hid k7
  have L1 := Lib.hid l1
  have L2 := Lib.hid l2
  have L3 := Lib.hid l3
  have L4 := Lib.hid l4
  have L5 := Lib.hid l5
  have L6 := Lib.hid l6
  have G1 := Lib.hid g1
  have G2 := Lib.hid g2
  have G3 := Lib.hid g3
  clear k2 k3 k5 k6 k7 l1 l2 l3 l4 l5 l6 p5 p6 hlen
  go_enter Tryz.func86, Tryz.ntmps86; (try simp only [List.append_eq, List.cons_append, List.nil_append])
  go_wp2_with fail
  (refine pin_wp (N := _) (Nat.le_refl _) (fun w2 hb_w2 hz_w2 => ?_); (try simp at hz_w2); (with_reducible apply cel2 (b := w.heap.size) hb_w2); (focus ((try simp) <;> omega)); (focus omega); (iterate 2 (focus (go_simp; try exact rfl))); (focus (intro o; go_simp)); intro c_w2_0_0 c_w2_0_1 fz_w2_0 hl_w2_0); refine wp_q (fun Q_ HQ_ => ?_); refine wp_region_floatQ w2.heap.size 17 [17] (Nat.le_refl _) (fun _ => True) trivial Cl.tt (by kernel_rfl) (by kernel_rfl) ?_
  have HB2 := Lib.hid (show Below w.heap.size w w2 by ((with_reducible (repeat (first | exact bR _ _ | refine bS ?_ ?_ _ | refine bA ?_ ?_ _ | refine bD ?_ | refine bT ?_ (by assumption) ?_ | refine bO (by assumption) ?_ ?_))) <;> (first | omega | (simp <;> omega))))
  have hz2 : w.heap.size + 1 ≤ w2.heap.size := by omega
  clear hb_w2
  skip
  have f1 : w2.cell? ⟨b1, 0, none⟩ = some (.int .i64 m) := (HB2.out.cell (p := ⟨b1, 0, none⟩) z1).trans G1.out
  have y1 : b1 < w2.heap.size := by omega
  have f2 : w2.cell? ⟨b2, 0, none⟩ = some (.int .i64 rest) := (HB2.out.cell (p := ⟨b2, 0, none⟩) z2).trans G2.out
  have y2 : b2 < w2.heap.size := by omega
  have f3 : w2.cell? ⟨b3, 0, none⟩ = some (.int .i64 c) := (HB2.out.cell (p := ⟨b3, 0, none⟩) z3).trans G3.out
  have y3 : b3 < w2.heap.size := by omega
  clear g1 g2 g3
  refine wpQI_start [0, 1] ?_; (iterate 2 (first | (apply wpQI_step (by with_reducible (refine zA ?_; (repeat (first | exact zB | refine zC ?_)))) (by kernel_rfl) (by exact rfl); (focus (intro W' hS; have hcS := hS.cells.1; have hfS := hS.cells.2; go_simp; (first | done | exact rfl | exact bB _ | (go_simp; first | done | exact rfl | exact bB _)))); intro K hK; go_simp; (try go_bits); refine hK _ ?_; clear hK K))); refine wpQI_nil ?_
  refine wpQI_start [3] ?_; (iterate 1 (first | (apply wpQI_step (by with_reducible (refine zA ?_; (repeat (first | exact zB | refine zC ?_)))) (by kernel_rfl) (by exact rfl); (focus (intro W' hS; have hcS := hS.cells.1; have hfS := hS.cells.2; go_simp; (first | done | exact rfl | exact bB _ | (go_simp; first | done | exact rfl | exact bB _)))); intro K hK; go_simp; (try go_bits); refine hK _ ?_; clear hK K))); refine wpQI_nil ?_
  refine wpQI_start [6, 7, 8, 9, 10, 11] ?_; (iterate 6 (first | (apply wpQI_step (by with_reducible (refine zA ?_; (repeat (first | exact zB | refine zC ?_)))) (by kernel_rfl) (by exact rfl); (focus (intro W' hS; have hcS := hS.cells.1; have hfS := hS.cells.2; go_simp; (first | done | exact rfl | exact bB _ | (go_simp; first | done | exact rfl | exact bB _)))); intro K hK; go_simp; (try go_bits); refine hK _ ?_; clear hK K))); refine wpQI_nil ?_
  refine wpQI_start [13] ?_; (iterate 1 (first | (apply wpQI_step (by with_reducible (refine zA ?_; (repeat (first | exact zB | refine zC ?_)))) (by kernel_rfl) (by exact rfl); (focus (intro W' hS; have hcS := hS.cells.1; have hfS := hS.cells.2; go_simp; (first | done | exact rfl | exact bB _ | (go_simp; first | done | exact rfl | exact bB _)))); intro K hK; go_simp; (try go_bits); refine hK _ ?_; clear hK K))); refine wpQI_nil ?_
  apply wpQ_call (i := 2) (by with_reducible (refine zA ?_; (repeat (first | exact zB | refine zC ?_)))) (by kernel_rfl) (by exact rfl); intro W hF hS; have hcS := hS.1.cells.1; have hfS := hS.1.cells.2; go_simp; (go_at_call 57; refine (K1.out _).mono ?_; rintro e w3 ⟨hb_w3, v3, rfl, hv3⟩; refine XPost.mk _ (fun W => IsC W v3 (P)) hb_w3 (hv3) (IsC.cl _ _) ?_); clear hb_w3 hcS hfS hS hF
  intro K hK; go_simp; (try go_bits); refine hK _ ?_; clear hK K
  obtain ⟨s3, A3, n3, c3, rfl⟩ := IsC.val hv3
  clear hv3
  apply wpQ_call (i := 4) (by with_reducible (refine zA ?_; (repeat (first | exact zB | refine zC ?_)))) (by kernel_rfl) (by exact rfl); intro W hF hS; have hcS := hS.1.cells.1; have hfS := hS.1.cells.2; go_simp; (go_at_call 57; refine (K2.out _).mono ?_; rintro e w4 ⟨hb_w4, v4, rfl, hv4⟩; refine XPost.mk _ (fun W => IsC W v4 (m)) hb_w4 (hv4) (IsC.cl _ _) ?_); clear hb_w4 hcS hfS hS hF
  intro K hK; go_simp; (try go_bits); refine hK _ ?_; clear hK K
  obtain ⟨s4, A4, n4, c4, rfl⟩ := IsC.val hv4
  clear hv4
  apply wpQ_call (i := 5) (by with_reducible (refine zA ?_; (repeat (first | exact zB | refine zC ?_)))) (by kernel_rfl) (by exact rfl); intro W hF hS; have hcS := hS.1.cells.1; have hfS := hS.1.cells.2; go_simp; (go_at_call 56; refine (K3.out _ _ _ (hF.1.zl L1.out) (hF.2.zl L2.out)).mono ?_; rintro e w5 ⟨hb_w5, v5, rfl, hv5⟩; refine XPost.mk _ (fun W => IsC W v5 (Z3)) hb_w5 (hv5) (IsC.cl _ _) ?_); clear hb_w5 hcS hfS hS hF
  intro K hK; go_simp; (try go_bits); refine hK _ ?_; clear hK K
  obtain ⟨s5, A5, n5, c5, rfl⟩ := IsC.val hv5
  clear hv5
  apply wpQ_call (i := 12) (by with_reducible (refine zA ?_; (repeat (first | exact zB | refine zC ?_)))) (by kernel_rfl) (by exact rfl); intro W hF hS; have hcS := hS.1.cells.1; have hfS := hS.1.cells.2; go_simp; (go_at_call 57; refine (K4.out _).mono ?_; rintro e w6 ⟨hb_w6, v6, rfl, hv6⟩; refine XPost.mk _ (fun W => IsC W v6 (Q)) hb_w6 (hv6) (IsC.cl _ _) ?_); clear hb_w6 hcS hfS hS hF
  intro K hK; go_simp; (try go_bits); refine hK _ ?_; clear hK K
  obtain ⟨s6, A6, n6, c6, rfl⟩ := IsC.val hv6
  clear hv6
  apply wpQ_call (i := 14) (by with_reducible (refine zA ?_; (repeat (first | exact zB | refine zC ?_)))) (by kernel_rfl) (by exact rfl); intro W hF hS; have hcS := hS.1.cells.1; have hfS := hS.1.cells.2; go_simp; (go_at_call 57; refine (K5.out _).mono ?_; rintro e w7 ⟨hb_w7, v7, rfl, hv7⟩; refine XPost.mk _ (fun W => IsC W v7 (c)) hb_w7 (hv7) (IsC.cl _ _) ?_); clear hb_w7 hcS hfS hS hF
  intro K hK; go_simp; (try go_bits); refine hK _ ?_; clear hK K
  obtain ⟨s7, A7, n7, c7, rfl⟩ := IsC.val hv7
  clear hv7
  apply wpQ_call (i := 15) (by with_reducible (refine zA ?_; (repeat (first | exact zB | refine zC ?_)))) (by kernel_rfl) (by exact rfl); intro W hF hS; have hcS := hS.1.cells.1; have hfS := hS.1.cells.2; go_simp; (go_at_call 56; refine (K6.out _ _ _ (hF.1.2.zl L4.out) (hF.2.zl L5.out)).mono ?_; rintro e w8 ⟨hb_w8, v8, rfl, hv8⟩; refine XPost.mk _ (fun W => IsC W v8 (Z6)) hb_w8 (hv8) (IsC.cl _ _) ?_); clear hb_w8 hcS hfS hS hF
  intro K hK; go_simp; (try go_bits); refine hK _ ?_; clear hK K
  obtain ⟨s8, A8, n8, c8, rfl⟩ := IsC.val hv8
  clear hv8
  apply wpQ_call (i := 16) (by with_reducible (refine zA ?_; (repeat (first | exact zB | refine zC ?_)))) (by kernel_rfl) (by exact rfl); intro W hF hS; have hcS := hS.1.cells.1; have hfS := hS.1.cells.2; go_simp; (go_at_call 55; refine (K7.out _ _ _ (hF.1.1.1.2.zl L3.out) (hF.2.zl L6.out)).mono ?_; rintro e w9 ⟨hb_w9, v9, rfl, hv9⟩; refine XPost.mk _ (fun W => IsC W v9 (Z)) hb_w9 (hv9) (IsC.cl _ _) ?_); clear hb_w9 hcS hfS hS hF
  intro K hK; go_simp; (try go_bits); refine hK _ ?_; clear hK K
  obtain ⟨s9, A9, n9, c9, rfl⟩ := IsC.val hv9
  clear hv9
  refine wpQ_done (by kernel_rfl) ?_
  intro w10 hF_w10 hSG
  have hz_w10 := hSG.1.1
  have hb_w10 := hSG.1.2
  clear hSG
  (with_reducible apply cel2 (b := w.heap.size) hb_w10); (focus ((try simp) <;> omega)); (focus omega); (iterate 2 (focus (go_simp; try exact rfl))); (focus (intro o; go_simp)); intro c_w10_0_0 c_w10_0_1 fz_w10_0 hl_w10_0
  (try simp only [List.filterMap_cons, List.filterMap_nil, List.getElem?_cons_succ, List.getElem?_cons_zero])
  have H3 := Lib.hid (show IsC w10 (.agg #[.bool s3, .slice A3 n3 c3]) (P) from hF_w10.1.1.1.1.1.1)
  have H4 := Lib.hid (show IsC w10 (.agg #[.bool s4, .slice A4 n4 c4]) (m) from hF_w10.1.1.1.1.1.2)
  have H5 := Lib.hid (show IsC w10 (.agg #[.bool s5, .slice A5 n5 c5]) (Z3) from hF_w10.1.1.1.1.2)
  have H6 := Lib.hid (show IsC w10 (.agg #[.bool s6, .slice A6 n6 c6]) (Q) from hF_w10.1.1.1.2)
  have H7 := Lib.hid (show IsC w10 (.agg #[.bool s7, .slice A7 n7 c7]) (c) from hF_w10.1.1.2)
  have H8 := Lib.hid (show IsC w10 (.agg #[.bool s8, .slice A8 n8 c8]) (Z6) from hF_w10.1.2)
  have H9 := Lib.hid (show IsC w10 (.agg #[.bool s9, .slice A9 n9 c9]) (Z) from hF_w10.2)
  have HB10 := Lib.hid (HB2.out.trans (hb_w10.mono (by have := HB2.out.size; omega)))
  have hz10 : w.heap.size + 1 ≤ w10.heap.size := by omega
  clear hF_w10 hb_w10
  clear c_w2_0_0 c_w2_0_1 fz_w2_0 hl_w2_0
  go_wp2_with fail
  refine HQ_.out _ _ _ ?_
  clear HQ_ Q_
  go_wp2_with fail
  refine bodyPost_ret (v := .agg #[.bool s9, .slice A9 n9 c9]) (by simp only [results, Tryz.results86]; go_simp) rfl ⟨?_, ?_⟩
  · have hB := HB10.out; ((with_reducible (repeat (first | exact bR _ _ | refine bS ?_ ?_ _ | refine bA ?_ ?_ _ | refine bD ?_ | refine bT ?_ (by assumption) ?_ | refine bO (by assumption) ?_ ?_))) <;> (first | omega | (simp <;> omega)))
  · exact ⟨_, rfl, (by ((repeat (first | (with_reducible exact H9.out) | (with_reducible refine IsC.al ?_ _) | (with_reducible apply IsC.st1))) <;> (first | (with_reducible assumption) | (intro _ e; cases e; done) | (go_simp; first | done | exact rfl))))⟩
theorem sp1 {v1 v2 w1 w2 n1 n2 rest x n sgn : Int} (h : permB v1 v2 w1 w2 n1 n2 = true) (hr : sixB rest = true) (hx : -1048576 ≤ x ∧ x ≤ 1048576) (hn : -2097152 ≤ n ∧ n ≤ 2097152) (hs : -1 ≤ sgn ∧ sgn ≤ 1) : SmP x n (n1 * n1 + n2 * n2) ((v1 - w1) * n1 + (v2 - w2) * n2) rest sgn := by
  obtain ⟨a, b, c⟩ := perm_bd h
  obtain ⟨d, e, f⟩ := perm_prod h
  simp only [sixB, decide_eq_true_eq] at hr
  exact ⟨by omega, by omega, by omega, by omega, by omega, by omega⟩
def pairR (v1 v2 w1 w2 n1 n2 rest : Int) : (Int × Int × Int) × (Int × Int × Int) :=
  if permB v1 v2 w1 w2 n1 n2 = true ∧ sixB rest = true then
    if apprB v1 v2 w1 w2 n1 n2 = true then
      (lowR (pairX v1 n1 (n1 * n1 + n2 * n2) ((v1 - w1) * n1 + (v2 - w2) * n2) rest (-1)) (pairX v2 n2 (n1 * n1 + n2 * n2) ((v1 - w1) * n1 + (v2 - w2) * n2) rest (-1)) (32 * (n1 * n1 + n2 * n2)),
       lowR (pairX w1 n1 (n1 * n1 + n2 * n2) ((v1 - w1) * n1 + (v2 - w2) * n2) rest 1) (pairX w2 n2 (n1 * n1 + n2 * n2) ((v1 - w1) * n1 + (v2 - w2) * n2) rest 1) (32 * (n1 * n1 + n2 * n2)))
    else ((v1, v2, 1), (w1, w2, 1))
  else ((0, 0, 0), (0, 0, 0))
def POut2 (R : (Int × Int × Int) × (Int × Int × Int)) (w : World) (e : Ending) (w' : World) : Prop := RROut R.1.1 R.1.2.1 R.1.2.2 R.2.1 R.2.2.1 R.2.2.2 w e w'
set_option maxRecDepth 100000 in
set_option maxHeartbeats 20000000 in
theorem pair_bad (v1 v2 w1 w2 n1 n2 rest : Int) (w : World) (h : ¬ (permB v1 v2 w1 w2 n1 n2 = true ∧ sixB rest = true)) :
    Calls Tryz.prog 53 #[.agg #[.int .i64 v1, .int .i64 v2], .agg #[.int .i64 w1, .int .i64 w2], .agg #[.int .i64 n1, .int .i64 n2], .int .i64 rest] w (RROut 0 0 0 0 0 0 w) := by
  have k1 := fun w => permitted_any v1 v2 w1 w2 n1 n2 w
  have k2 := fun g w => sixteenths_one rest g w
  generalize permB v1 v2 w1 w2 n1 n2 = c1 at *
  generalize sixB rest = c2 at *
  have H := Lib.hid h
  have K1 := Lib.hid k1
  have K2 := Lib.hid k2
  clear k1 k2 h
  go_enter Tryz.func53, Tryz.ntmps53; (try simp only [List.append_eq, List.cons_append, List.nil_append])
  go_wp2_with fail
  (go_at_call 50; refine (K1.out _).mono ?_; rintro e w1 ⟨rfl, hb_w1⟩; have hz_w1 := hb_w1.size; (try simp at hz_w1); (with_reducible apply cel2 (b := w.heap.size) hb_w1); (focus ((try simp) <;> omega)); (focus omega); (iterate 2 (focus (go_simp; try exact rfl))); (focus (intro o; go_simp)); intro c_w1_0_0 c_w1_0_1 fz_w1_0 hl_w1_0; (with_reducible apply cel2 (b := w.heap.size + 1) hb_w1); (focus ((try simp) <;> omega)); (focus omega); (iterate 2 (focus (go_simp; try exact rfl))); (focus (intro o; go_simp)); intro c_w1_1_0 c_w1_1_1 fz_w1_1 hl_w1_1; (with_reducible apply cel2 (b := w.heap.size + 1 + 1) hb_w1); (focus ((try simp) <;> omega)); (focus omega); (iterate 2 (focus (go_simp; try exact rfl))); (focus (intro o; go_simp)); intro c_w1_2_0 c_w1_2_1 fz_w1_2 hl_w1_2; (with_reducible apply cel1 (b := w.heap.size + 1 + 1 + 1) hb_w1); (focus ((try simp) <;> omega)); (focus omega); (focus (go_simp; try exact rfl)); (focus (intro o; go_simp)); intro c_w1_3_0 fz_w1_3 hl_w1_3; (with_reducible apply cel6 (b := w.heap.size + 1 + 1 + 1 + 1) hb_w1); (focus ((try simp) <;> omega)); (focus omega); (iterate 6 (focus (go_simp; try exact rfl))); (focus (intro o; go_simp)); intro c_w1_4_0 c_w1_4_1 c_w1_4_2 c_w1_4_3 c_w1_4_4 c_w1_4_5 fz_w1_4 hl_w1_4; (with_reducible apply cel6 (b := w.heap.size + 1 + 1 + 1 + 1 + 1) hb_w1); (focus ((try simp) <;> omega)); (focus omega); (iterate 6 (focus (go_simp; try exact rfl))); (focus (intro o; go_simp)); intro c_w1_5_0 c_w1_5_1 c_w1_5_2 c_w1_5_3 c_w1_5_4 c_w1_5_5 fz_w1_5 hl_w1_5)
  cases c1
  · go_wp2_with fail
    refine bodyPost_ret (v := .tuple #[.agg #[.bool false, .slice none 0 0, .bool false, .slice none 0 0, .bool false, .slice none 0 0], .agg #[.bool false, .slice none 0 0, .bool false, .slice none 0 0, .bool false, .slice none 0 0]]) (by simp only [results, Tryz.results53]; go_simp) rfl ⟨?_, ?_⟩
    · ((with_reducible (repeat (first | exact bR _ _ | refine bS ?_ ?_ _ | refine bA ?_ ?_ _ | refine bD ?_ | refine bT ?_ (by assumption) ?_ | refine bO (by assumption) ?_ ?_))) <;> (first | omega | (simp <;> omega)))
    · exact ⟨_, _, rfl, RAt.zero _, RAt.zero _⟩
  · go_wp2_with fail
    (go_at_call 84; refine (K2.out _ _ (by simp) (by go_simp)).mono ?_; rintro e w2 ⟨rfl, hb_w2⟩; have hz_w2 := hb_w2.size; (try simp at hz_w2); (with_reducible apply cel2 (b := w.heap.size) hb_w2); (focus ((try simp) <;> omega)); (focus omega); (iterate 2 (focus (go_simp; try exact rfl))); (focus (intro o; go_simp)); intro c_w2_0_0 c_w2_0_1 fz_w2_0 hl_w2_0; (with_reducible apply cel2 (b := w.heap.size + 1) hb_w2); (focus ((try simp) <;> omega)); (focus omega); (iterate 2 (focus (go_simp; try exact rfl))); (focus (intro o; go_simp)); intro c_w2_1_0 c_w2_1_1 fz_w2_1 hl_w2_1; (with_reducible apply cel2 (b := w.heap.size + 1 + 1) hb_w2); (focus ((try simp) <;> omega)); (focus omega); (iterate 2 (focus (go_simp; try exact rfl))); (focus (intro o; go_simp)); intro c_w2_2_0 c_w2_2_1 fz_w2_2 hl_w2_2; (with_reducible apply cel1 (b := w.heap.size + 1 + 1 + 1) hb_w2); (focus ((try simp) <;> omega)); (focus omega); (focus (go_simp; try exact rfl)); (focus (intro o; go_simp)); intro c_w2_3_0 fz_w2_3 hl_w2_3; (with_reducible apply cel6 (b := w.heap.size + 1 + 1 + 1 + 1) hb_w2); (focus ((try simp) <;> omega)); (focus omega); (iterate 6 (focus (go_simp; try exact rfl))); (focus (intro o; go_simp)); intro c_w2_4_0 c_w2_4_1 c_w2_4_2 c_w2_4_3 c_w2_4_4 c_w2_4_5 fz_w2_4 hl_w2_4; (with_reducible apply cel6 (b := w.heap.size + 1 + 1 + 1 + 1 + 1) hb_w2); (focus ((try simp) <;> omega)); (focus omega); (iterate 6 (focus (go_simp; try exact rfl))); (focus (intro o; go_simp)); intro c_w2_5_0 c_w2_5_1 c_w2_5_2 c_w2_5_3 c_w2_5_4 c_w2_5_5 fz_w2_5 hl_w2_5)
    cases c2
    · go_wp2_with fail
      refine bodyPost_ret (v := .tuple #[.agg #[.bool false, .slice none 0 0, .bool false, .slice none 0 0, .bool false, .slice none 0 0], .agg #[.bool false, .slice none 0 0, .bool false, .slice none 0 0, .bool false, .slice none 0 0]]) (by simp only [results, Tryz.results53]; go_simp) rfl ⟨?_, ?_⟩
      · ((with_reducible (repeat (first | exact bR _ _ | refine bS ?_ ?_ _ | refine bA ?_ ?_ _ | refine bD ?_ | refine bT ?_ (by assumption) ?_ | refine bO (by assumption) ?_ ?_))) <;> (first | omega | (simp <;> omega)))
      · exact ⟨_, _, rfl, RAt.zero _, RAt.zero _⟩
    · exact absurd (by simp) H.out
set_option maxRecDepth 100000 in
set_option maxHeartbeats 20000000 in
theorem pair_away (v1 v2 w1 w2 n1 n2 rest : Int) (w : World) (h : permB v1 v2 w1 w2 n1 n2 = true) (hr : sixB rest = true) (ha : apprB v1 v2 w1 w2 n1 n2 = false) :
    Calls Tryz.prog 53 #[.agg #[.int .i64 v1, .int .i64 v2], .agg #[.int .i64 w1, .int .i64 w2], .agg #[.int .i64 n1, .int .i64 n2], .int .i64 rest] w (RROut v1 v2 1 w1 w2 1 w) := by
  obtain ⟨bv, bw, _⟩ := perm_bd h
  have k1 := fun w => permitted_any v1 v2 w1 w2 n1 n2 w
  have k2 := fun g w => sixteenths_one rest g w
  have k3 := fun w => approaches_any v1 v2 w1 w2 n1 n2 w
  rw [h] at k1
  rw [hr] at k2
  rw [ha] at k3
  have k4 := fun w => whole_any v1 v2 w (by omega) (by omega)
  have k5 := fun w => whole_any w1 w2 w (by omega) (by omega)
  have K1 := Lib.hid k1
  have K2 := Lib.hid k2
  have K3 := Lib.hid k3
  have K4 := Lib.hid k4
  have K5 := Lib.hid k5
  clear k1 k2 k3 k4 k5 h hr ha bv bw
  go_enter Tryz.func53, Tryz.ntmps53; (try simp only [List.append_eq, List.cons_append, List.nil_append])
  go_wp2_with fail
  (go_at_call 50; refine (K1.out _).mono ?_; rintro e w101 ⟨rfl, hb_w101⟩; have hz_w101 := hb_w101.size; (try simp at hz_w101); (with_reducible apply cel2 (b := w.heap.size) hb_w101); (focus ((try simp) <;> omega)); (focus omega); (iterate 2 (focus (go_simp; try exact rfl))); (focus (intro o; go_simp)); intro c_w101_0_0 c_w101_0_1 fz_w101_0 hl_w101_0; (with_reducible apply cel2 (b := w.heap.size + 1) hb_w101); (focus ((try simp) <;> omega)); (focus omega); (iterate 2 (focus (go_simp; try exact rfl))); (focus (intro o; go_simp)); intro c_w101_1_0 c_w101_1_1 fz_w101_1 hl_w101_1; (with_reducible apply cel2 (b := w.heap.size + 1 + 1) hb_w101); (focus ((try simp) <;> omega)); (focus omega); (iterate 2 (focus (go_simp; try exact rfl))); (focus (intro o; go_simp)); intro c_w101_2_0 c_w101_2_1 fz_w101_2 hl_w101_2; (with_reducible apply cel1 (b := w.heap.size + 1 + 1 + 1) hb_w101); (focus ((try simp) <;> omega)); (focus omega); (focus (go_simp; try exact rfl)); (focus (intro o; go_simp)); intro c_w101_3_0 fz_w101_3 hl_w101_3; (with_reducible apply cel6 (b := w.heap.size + 1 + 1 + 1 + 1) hb_w101); (focus ((try simp) <;> omega)); (focus omega); (iterate 6 (focus (go_simp; try exact rfl))); (focus (intro o; go_simp)); intro c_w101_4_0 c_w101_4_1 c_w101_4_2 c_w101_4_3 c_w101_4_4 c_w101_4_5 fz_w101_4 hl_w101_4; (with_reducible apply cel6 (b := w.heap.size + 1 + 1 + 1 + 1 + 1) hb_w101); (focus ((try simp) <;> omega)); (focus omega); (iterate 6 (focus (go_simp; try exact rfl))); (focus (intro o; go_simp)); intro c_w101_5_0 c_w101_5_1 c_w101_5_2 c_w101_5_3 c_w101_5_4 c_w101_5_5 fz_w101_5 hl_w101_5)
  have HB101 := Lib.hid (show Below w.heap.size w w101 by ((with_reducible (repeat (first | exact bR _ _ | refine bS ?_ ?_ _ | refine bA ?_ ?_ _ | refine bD ?_ | refine bT ?_ (by assumption) ?_ | refine bO (by assumption) ?_ ?_))) <;> (first | omega | (simp <;> omega))))
  have hz101 : w.heap.size + 1 + 1 + 1 + 1 + 1 + 1 ≤ w101.heap.size := by omega
  clear hb_w101
  skip
  go_wp2_with fail
  (go_at_call 84; refine (K2.out _ _ (by simp) (by go_simp)).mono ?_; rintro e w102 ⟨rfl, hb_w102⟩; have hz_w102 := hb_w102.size; (try simp at hz_w102); (with_reducible apply cel2 (b := w.heap.size) hb_w102); (focus ((try simp) <;> omega)); (focus omega); (iterate 2 (focus (go_simp; try exact rfl))); (focus (intro o; go_simp)); intro c_w102_0_0 c_w102_0_1 fz_w102_0 hl_w102_0; (with_reducible apply cel2 (b := w.heap.size + 1) hb_w102); (focus ((try simp) <;> omega)); (focus omega); (iterate 2 (focus (go_simp; try exact rfl))); (focus (intro o; go_simp)); intro c_w102_1_0 c_w102_1_1 fz_w102_1 hl_w102_1; (with_reducible apply cel2 (b := w.heap.size + 1 + 1) hb_w102); (focus ((try simp) <;> omega)); (focus omega); (iterate 2 (focus (go_simp; try exact rfl))); (focus (intro o; go_simp)); intro c_w102_2_0 c_w102_2_1 fz_w102_2 hl_w102_2; (with_reducible apply cel6 (b := w.heap.size + 1 + 1 + 1 + 1) hb_w102); (focus ((try simp) <;> omega)); (focus omega); (iterate 6 (focus (go_simp; try exact rfl))); (focus (intro o; go_simp)); intro c_w102_3_0 c_w102_3_1 c_w102_3_2 c_w102_3_3 c_w102_3_4 c_w102_3_5 fz_w102_3 hl_w102_3; (with_reducible apply cel6 (b := w.heap.size + 1 + 1 + 1 + 1 + 1) hb_w102); (focus ((try simp) <;> omega)); (focus omega); (iterate 6 (focus (go_simp; try exact rfl))); (focus (intro o; go_simp)); intro c_w102_4_0 c_w102_4_1 c_w102_4_2 c_w102_4_3 c_w102_4_4 c_w102_4_5 fz_w102_4 hl_w102_4)
  have HB102 := Lib.hid (show Below w.heap.size w w102 by have hB := HB101.out; ((with_reducible (repeat (first | exact bR _ _ | refine bS ?_ ?_ _ | refine bA ?_ ?_ _ | refine bD ?_ | refine bT ?_ (by assumption) ?_ | refine bO (by assumption) ?_ ?_))) <;> (first | omega | (simp <;> omega))))
  have hz102 : w.heap.size + 1 + 1 + 1 + 1 + 1 + 1 ≤ w102.heap.size := by omega
  clear hb_w102
  clear c_w101_0_0 c_w101_0_1 fz_w101_0 hl_w101_0 c_w101_1_0 c_w101_1_1 fz_w101_1 hl_w101_1 c_w101_2_0 c_w101_2_1 fz_w101_2 hl_w101_2 c_w101_3_0 fz_w101_3 hl_w101_3 c_w101_4_0 c_w101_4_1 c_w101_4_2 c_w101_4_3 c_w101_4_4 c_w101_4_5 fz_w101_4 hl_w101_4 c_w101_5_0 c_w101_5_1 c_w101_5_2 c_w101_5_3 c_w101_5_4 c_w101_5_5 fz_w101_5 hl_w101_5
  go_wp2_with fail
  (go_at_call 21; refine (K3.out _).mono ?_; rintro e w103 ⟨rfl, hb_w103⟩; have hz_w103 := hb_w103.size; (try simp at hz_w103); (with_reducible apply cel2 (b := w.heap.size) hb_w103); (focus ((try simp) <;> omega)); (focus omega); (iterate 2 (focus (go_simp; try exact rfl))); (focus (intro o; go_simp)); intro c_w103_0_0 c_w103_0_1 fz_w103_0 hl_w103_0; (with_reducible apply cel2 (b := w.heap.size + 1) hb_w103); (focus ((try simp) <;> omega)); (focus omega); (iterate 2 (focus (go_simp; try exact rfl))); (focus (intro o; go_simp)); intro c_w103_1_0 c_w103_1_1 fz_w103_1 hl_w103_1; (with_reducible apply cel6 (b := w.heap.size + 1 + 1 + 1 + 1) hb_w103); (focus ((try simp) <;> omega)); (focus omega); (iterate 6 (focus (go_simp; try exact rfl))); (focus (intro o; go_simp)); intro c_w103_2_0 c_w103_2_1 c_w103_2_2 c_w103_2_3 c_w103_2_4 c_w103_2_5 fz_w103_2 hl_w103_2; (with_reducible apply cel6 (b := w.heap.size + 1 + 1 + 1 + 1 + 1) hb_w103); (focus ((try simp) <;> omega)); (focus omega); (iterate 6 (focus (go_simp; try exact rfl))); (focus (intro o; go_simp)); intro c_w103_3_0 c_w103_3_1 c_w103_3_2 c_w103_3_3 c_w103_3_4 c_w103_3_5 fz_w103_3 hl_w103_3)
  have HB103 := Lib.hid (show Below w.heap.size w w103 by have hB := HB102.out; ((with_reducible (repeat (first | exact bR _ _ | refine bS ?_ ?_ _ | refine bA ?_ ?_ _ | refine bD ?_ | refine bT ?_ (by assumption) ?_ | refine bO (by assumption) ?_ ?_))) <;> (first | omega | (simp <;> omega))))
  have hz103 : w.heap.size + 1 + 1 + 1 + 1 + 1 + 1 ≤ w103.heap.size := by omega
  clear hb_w103
  clear c_w102_0_0 c_w102_0_1 fz_w102_0 hl_w102_0 c_w102_1_0 c_w102_1_1 fz_w102_1 hl_w102_1 c_w102_2_0 c_w102_2_1 fz_w102_2 hl_w102_2 c_w102_3_0 c_w102_3_1 c_w102_3_2 c_w102_3_3 c_w102_3_4 c_w102_3_5 fz_w102_3 hl_w102_3 c_w102_4_0 c_w102_4_1 c_w102_4_2 c_w102_4_3 c_w102_4_4 c_w102_4_5 fz_w102_4 hl_w102_4
  go_wp2_with fail
  (refine pin_wp (N := _) (Nat.le_refl _) (fun w104 hb_w104 hz_w104 => ?_); (try simp at hz_w104); (with_reducible apply cel2 (b := w.heap.size) hb_w104); (focus ((try simp) <;> omega)); (focus omega); (iterate 2 (focus (go_simp; try exact rfl))); (focus (intro o; go_simp)); intro c_w104_0_0 c_w104_0_1 fz_w104_0 hl_w104_0; (with_reducible apply cel2 (b := w.heap.size + 1) hb_w104); (focus ((try simp) <;> omega)); (focus omega); (iterate 2 (focus (go_simp; try exact rfl))); (focus (intro o; go_simp)); intro c_w104_1_0 c_w104_1_1 fz_w104_1 hl_w104_1; (with_reducible apply cel6 (b := w.heap.size + 1 + 1 + 1 + 1) hb_w104); (focus ((try simp) <;> omega)); (focus omega); (iterate 6 (focus (go_simp; try exact rfl))); (focus (intro o; go_simp)); intro c_w104_2_0 c_w104_2_1 c_w104_2_2 c_w104_2_3 c_w104_2_4 c_w104_2_5 fz_w104_2 hl_w104_2; (with_reducible apply cel6 (b := w.heap.size + 1 + 1 + 1 + 1 + 1) hb_w104); (focus ((try simp) <;> omega)); (focus omega); (iterate 6 (focus (go_simp; try exact rfl))); (focus (intro o; go_simp)); intro c_w104_3_0 c_w104_3_1 c_w104_3_2 c_w104_3_3 c_w104_3_4 c_w104_3_5 fz_w104_3 hl_w104_3); refine wp_q (fun Q_ HQ_ => ?_); refine wp_region_floatQ w104.heap.size 4 [4, 5] (Nat.le_refl _) (fun _ => True) trivial Cl.tt (by kernel_rfl) (by kernel_rfl) ?_
  have HB104 := Lib.hid (show Below w.heap.size w w104 by have hB := HB103.out; ((with_reducible (repeat (first | exact bR _ _ | refine bS ?_ ?_ _ | refine bA ?_ ?_ _ | refine bD ?_ | refine bT ?_ (by assumption) ?_ | refine bO (by assumption) ?_ ?_))) <;> (first | omega | (simp <;> omega))))
  have hz104 : w.heap.size + 1 + 1 + 1 + 1 + 1 + 1 ≤ w104.heap.size := by omega
  clear hb_w104
  clear c_w103_0_0 c_w103_0_1 fz_w103_0 hl_w103_0 c_w103_1_0 c_w103_1_1 fz_w103_1 hl_w103_1 c_w103_2_0 c_w103_2_1 c_w103_2_2 c_w103_2_3 c_w103_2_4 c_w103_2_5 fz_w103_2 hl_w103_2 c_w103_3_0 c_w103_3_1 c_w103_3_2 c_w103_3_3 c_w103_3_4 c_w103_3_5 fz_w103_3 hl_w103_3
  refine wpQI_start [0] ?_; (iterate 1 (first | (apply wpQI_step (by with_reducible (refine zA ?_; (repeat (first | exact zB | refine zC ?_)))) (by kernel_rfl) (by exact rfl); (focus (intro W' hS; have hcS := hS.cells.1; have hfS := hS.cells.2; go_simp; (first | done | exact rfl | exact bB _ | (go_simp; first | done | exact rfl | exact bB _)))); intro K hK; go_simp; (try go_bits); refine hK _ ?_; clear hK K))); refine wpQI_nil ?_
  refine wpQI_start [2] ?_; (iterate 1 (first | (apply wpQI_step (by with_reducible (refine zA ?_; (repeat (first | exact zB | refine zC ?_)))) (by kernel_rfl) (by exact rfl); (focus (intro W' hS; have hcS := hS.cells.1; have hfS := hS.cells.2; go_simp; (first | done | exact rfl | exact bB _ | (go_simp; first | done | exact rfl | exact bB _)))); intro K hK; go_simp; (try go_bits); refine hK _ ?_; clear hK K))); refine wpQI_nil ?_
  apply wpQ_call (i := 1) (by with_reducible (refine zA ?_; (repeat (first | exact zB | refine zC ?_)))) (by kernel_rfl) (by exact rfl); intro W hF hS; have hcS := hS.1.cells.1; have hfS := hS.1.cells.2; go_simp; (go_at_call 85; refine (K4.out _).mono ?_; rintro e w105 ⟨hb_w105, v105, rfl, hv105⟩; refine XPost.mk _ (fun W => RAt W v105 (v1) (v2) (1)) hb_w105 (hv105) (RAt.cl _ _ _ _) ?_); clear hb_w105 hcS hfS hS hF
  intro K hK; go_simp; (try go_bits); refine hK _ ?_; clear hK K
  obtain ⟨s105x, A105x, n105x, c105x, s105y, A105y, n105y, c105y, s105d, A105d, n105d, c105d, rfl⟩ := RAt.val hv105
  clear hv105
  apply wpQ_call (i := 3) (by with_reducible (refine zA ?_; (repeat (first | exact zB | refine zC ?_)))) (by kernel_rfl) (by exact rfl); intro W hF hS; have hcS := hS.1.cells.1; have hfS := hS.1.cells.2; go_simp; (go_at_call 85; refine (K5.out _).mono ?_; rintro e w106 ⟨hb_w106, v106, rfl, hv106⟩; refine XPost.mk _ (fun W => RAt W v106 (w1) (w2) (1)) hb_w106 (hv106) (RAt.cl _ _ _ _) ?_); clear hb_w106 hcS hfS hS hF
  intro K hK; go_simp; (try go_bits); refine hK _ ?_; clear hK K
  obtain ⟨s106x, A106x, n106x, c106x, s106y, A106y, n106y, c106y, s106d, A106d, n106d, c106d, rfl⟩ := RAt.val hv106
  clear hv106
  refine wpQ_done (by kernel_rfl) ?_
  intro w107 hF_w107 hSG
  have hz_w107 := hSG.1.1
  have hb_w107 := hSG.1.2
  clear hSG
  (with_reducible apply cel2 (b := w.heap.size) hb_w107); (focus ((try simp) <;> omega)); (focus omega); (iterate 2 (focus (go_simp; try exact rfl))); (focus (intro o; go_simp)); intro c_w107_0_0 c_w107_0_1 fz_w107_0 hl_w107_0; (with_reducible apply cel2 (b := w.heap.size + 1) hb_w107); (focus ((try simp) <;> omega)); (focus omega); (iterate 2 (focus (go_simp; try exact rfl))); (focus (intro o; go_simp)); intro c_w107_1_0 c_w107_1_1 fz_w107_1 hl_w107_1; (with_reducible apply cel6 (b := w.heap.size + 1 + 1 + 1 + 1) hb_w107); (focus ((try simp) <;> omega)); (focus omega); (iterate 6 (focus (go_simp; try exact rfl))); (focus (intro o; go_simp)); intro c_w107_2_0 c_w107_2_1 c_w107_2_2 c_w107_2_3 c_w107_2_4 c_w107_2_5 fz_w107_2 hl_w107_2; (with_reducible apply cel6 (b := w.heap.size + 1 + 1 + 1 + 1 + 1) hb_w107); (focus ((try simp) <;> omega)); (focus omega); (iterate 6 (focus (go_simp; try exact rfl))); (focus (intro o; go_simp)); intro c_w107_3_0 c_w107_3_1 c_w107_3_2 c_w107_3_3 c_w107_3_4 c_w107_3_5 fz_w107_3 hl_w107_3
  (try simp only [List.filterMap_cons, List.filterMap_nil, List.getElem?_cons_succ, List.getElem?_cons_zero])
  have H105 := Lib.hid (show RAt w107 (.agg #[.bool s105x, .slice A105x n105x c105x, .bool s105y, .slice A105y n105y c105y, .bool s105d, .slice A105d n105d c105d]) (v1) (v2) (1) from hF_w107.1)
  have H106 := Lib.hid (show RAt w107 (.agg #[.bool s106x, .slice A106x n106x c106x, .bool s106y, .slice A106y n106y c106y, .bool s106d, .slice A106d n106d c106d]) (w1) (w2) (1) from hF_w107.2)
  have HB107 := Lib.hid (HB104.out.trans (hb_w107.mono (by have := HB104.out.size; omega)))
  have hz107 : w.heap.size + 1 + 1 + 1 + 1 + 1 + 1 ≤ w107.heap.size := by omega
  clear hF_w107 hb_w107
  clear c_w104_0_0 c_w104_0_1 fz_w104_0 hl_w104_0 c_w104_1_0 c_w104_1_1 fz_w104_1 hl_w104_1 c_w104_2_0 c_w104_2_1 c_w104_2_2 c_w104_2_3 c_w104_2_4 c_w104_2_5 fz_w104_2 hl_w104_2 c_w104_3_0 c_w104_3_1 c_w104_3_2 c_w104_3_3 c_w104_3_4 c_w104_3_5 fz_w104_3 hl_w104_3
  go_wp2_with fail
  refine HQ_.out _ _ _ ?_
  clear HQ_ Q_
  go_wp2_with fail
  refine bodyPost_ret (v := .tuple #[.agg #[.bool s105x, .slice A105x n105x c105x, .bool s105y, .slice A105y n105y c105y, .bool s105d, .slice A105d n105d c105d], .agg #[.bool s106x, .slice A106x n106x c106x, .bool s106y, .slice A106y n106y c106y, .bool s106d, .slice A106d n106d c106d]]) (by simp only [results, Tryz.results53]; go_simp) rfl ⟨?_, ?_⟩
  · have hB := HB107.out; ((with_reducible (repeat (first | exact bR _ _ | refine bS ?_ ?_ _ | refine bA ?_ ?_ _ | refine bD ?_ | refine bT ?_ (by assumption) ?_ | refine bO (by assumption) ?_ ?_))) <;> (first | omega | (simp <;> omega)))
  · exact ⟨_, _, rfl, (by ((repeat (first | (with_reducible exact H105.out) | (with_reducible refine RAt.al ?_ _) | (with_reducible apply RAt.st1))) <;> (first | (with_reducible assumption) | (intro _ e; cases e; done) | (go_simp; first | done | exact rfl)))), (by ((repeat (first | (with_reducible exact H106.out) | (with_reducible refine RAt.al ?_ _) | (with_reducible apply RAt.st1))) <;> (first | (with_reducible assumption) | (intro _ e; cases e; done) | (go_simp; first | done | exact rfl))))⟩
set_option maxRecDepth 100000 in
set_option maxHeartbeats 20000000 in
theorem pair_on (v1 v2 w1 w2 n1 n2 rest : Int) (w : World) (h : permB v1 v2 w1 w2 n1 n2 = true) (hr : sixB rest = true) (ha : apprB v1 v2 w1 w2 n1 n2 = true) :
    Calls Tryz.prog 53 #[.agg #[.int .i64 v1, .int .i64 v2], .agg #[.int .i64 w1, .int .i64 w2], .agg #[.int .i64 n1, .int .i64 n2], .int .i64 rest] w (POut2 ((lowR (pairX v1 n1 (n1 * n1 + n2 * n2) ((v1 - w1) * n1 + (v2 - w2) * n2) rest (-1)) (pairX v2 n2 (n1 * n1 + n2 * n2) ((v1 - w1) * n1 + (v2 - w2) * n2) rest (-1)) (32 * (n1 * n1 + n2 * n2))), (lowR (pairX w1 n1 (n1 * n1 + n2 * n2) ((v1 - w1) * n1 + (v2 - w2) * n2) rest 1) (pairX w2 n2 (n1 * n1 + n2 * n2) ((v1 - w1) * n1 + (v2 - w2) * n2) rest 1) (32 * (n1 * n1 + n2 * n2)))) w) := by
  obtain ⟨bv, bw, bn⟩ := perm_bd h
  obtain ⟨e1, e2, e3⟩ := perm_vals h
  obtain ⟨⟨p1, p2⟩, p3, p4⟩ := perm_prod h
  obtain ⟨_, _, q3⟩ := appr_bd ha
  have t1 := sp1 (x := v1) (n := n1) (sgn := -1) h hr (by omega) (by omega) (by omega)
  have t2 := sp1 (x := v2) (n := n2) (sgn := -1) h hr (by omega) (by omega) (by omega)
  have t3 := sp1 (x := w1) (n := n1) (sgn := 1) h hr (by omega) (by omega) (by omega)
  have t4 := sp1 (x := w2) (n := n2) (sgn := 1) h hr (by omega) (by omega) (by omega)
  have k1 := fun w => permitted_any v1 v2 w1 w2 n1 n2 w
  have k2 := fun g w => sixteenths_one rest g w
  have k3 := fun w => approaches_any v1 v2 w1 w2 n1 n2 w
  rw [h] at k1
  rw [hr] at k2
  rw [ha] at k3
  have k4 := fun w => vsub_any v1 v2 w1 w2 w
  have k5 := fun w => vdot_any (v1 - w1) (v2 - w2) n1 n2 w
  have k6 := fun w => vdot_any n1 n2 n1 n2 w
  rw [e1] at k4
  rw [e2] at k5
  rw [e3] at k6
  generalize (v1 - w1) * n1 + (v2 - w2) * n2 = C at *
  generalize n1 * n1 + n2 * n2 = M at *
  have k7 := fun w => wof_any (32 * M) w (by omega) (by omega)
  have k8 := fun b1 b2 b3 w g1 g2 g3 => pair1_any v1 n1 M C rest (-1) b1 b2 b3 w t1 g1 g2 g3
  have k9 := fun b1 b2 b3 w g1 g2 g3 => pair1_any v2 n2 M C rest (-1) b1 b2 b3 w t2 g1 g2 g3
  have k11 := fun b1 b2 b3 w g1 g2 g3 => pair1_any w1 n1 M C rest 1 b1 b2 b3 w t3 g1 g2 g3
  have k12 := fun b1 b2 b3 w g1 g2 g3 => pair1_any w2 n2 M C rest 1 b1 b2 b3 w t4 g1 g2 g3
  have l1 := t1.len
  have l2 := t2.len
  have l3 := t3.len
  have l4 := t4.len
  have l5 := len_wd (z := 32 * M) (by omega) (by omega)
  generalize pairX v1 n1 M C rest (-1) = X1 at *
  generalize pairX v2 n2 M C rest (-1) = X2 at *
  generalize pairX w1 n1 M C rest 1 = Y1 at *
  generalize pairX w2 n2 M C rest 1 = Y2 at *
  have k10 := fun v w hv => lowest_any X1 X2 (32 * M) v w hv (by omega) (by omega) (by omega) (by omega)
  have k13 := fun v w hv => lowest_any Y1 Y2 (32 * M) v w hv (by omega) (by omega) (by omega) (by omega)
  unfold POut2 lowR
  generalize X1.tdiv (lowG X1 X2 (32 * M)) = P1 at *
  generalize X2.tdiv (lowG X1 X2 (32 * M)) = P2 at *
  generalize (32 * M).tdiv (lowG X1 X2 (32 * M)) = P3 at *
  generalize Y1.tdiv (lowG Y1 Y2 (32 * M)) = Q1 at *
  generalize Y2.tdiv (lowG Y1 Y2 (32 * M)) = Q2 at *
  generalize (32 * M).tdiv (lowG Y1 Y2 (32 * M)) = Q3 at *
  have K1 := Lib.hid k1
  have K2 := Lib.hid k2
  have K3 := Lib.hid k3
  have K4 := Lib.hid k4
  have K5 := Lib.hid k5
  have K6 := Lib.hid k6
  have K7 := Lib.hid k7
  have K8 := Lib.hid k8
  have K9 := Lib.hid k9
  have K10 := Lib.hid k10
  have K11 := Lib.hid k11
  have K12 := Lib.hid k12
  have K13 := Lib.hid k13
  obtain ⟨bv1, bv2, bv3, bv4⟩ := bv
  obtain ⟨bw1, bw2, bw3, bw4⟩ := bw
  clear k1 k2 k3 k4 k5 k6 k7 k8 k9 k10 k11 k12 k13 h hr ha e1 e2 e3 t1 t2 t3 t4 l1 l2 l3 l4 l5
  simp only
  go_enter Tryz.func53, Tryz.ntmps53; (try simp only [List.append_eq, List.cons_append, List.nil_append])
  go_wp2_with fail
  (go_at_call 50; refine (K1.out _).mono ?_; rintro e w101 ⟨rfl, hb_w101⟩; have hz_w101 := hb_w101.size; (try simp at hz_w101); (with_reducible apply cel2 (b := w.heap.size) hb_w101); (focus ((try simp) <;> omega)); (focus omega); (iterate 2 (focus (go_simp; try exact rfl))); (focus (intro o; go_simp)); intro c_w101_0_0 c_w101_0_1 fz_w101_0 hl_w101_0; (with_reducible apply cel2 (b := w.heap.size + 1) hb_w101); (focus ((try simp) <;> omega)); (focus omega); (iterate 2 (focus (go_simp; try exact rfl))); (focus (intro o; go_simp)); intro c_w101_1_0 c_w101_1_1 fz_w101_1 hl_w101_1; (with_reducible apply cel2 (b := w.heap.size + 1 + 1) hb_w101); (focus ((try simp) <;> omega)); (focus omega); (iterate 2 (focus (go_simp; try exact rfl))); (focus (intro o; go_simp)); intro c_w101_2_0 c_w101_2_1 fz_w101_2 hl_w101_2; (with_reducible apply cel1 (b := w.heap.size + 1 + 1 + 1) hb_w101); (focus ((try simp) <;> omega)); (focus omega); (focus (go_simp; try exact rfl)); (focus (intro o; go_simp)); intro c_w101_3_0 fz_w101_3 hl_w101_3; (with_reducible apply cel6 (b := w.heap.size + 1 + 1 + 1 + 1) hb_w101); (focus ((try simp) <;> omega)); (focus omega); (iterate 6 (focus (go_simp; try exact rfl))); (focus (intro o; go_simp)); intro c_w101_4_0 c_w101_4_1 c_w101_4_2 c_w101_4_3 c_w101_4_4 c_w101_4_5 fz_w101_4 hl_w101_4; (with_reducible apply cel6 (b := w.heap.size + 1 + 1 + 1 + 1 + 1) hb_w101); (focus ((try simp) <;> omega)); (focus omega); (iterate 6 (focus (go_simp; try exact rfl))); (focus (intro o; go_simp)); intro c_w101_5_0 c_w101_5_1 c_w101_5_2 c_w101_5_3 c_w101_5_4 c_w101_5_5 fz_w101_5 hl_w101_5)
  have HB101 := Lib.hid (show Below w.heap.size w w101 by ((with_reducible (repeat (first | exact bR _ _ | refine bS ?_ ?_ _ | refine bA ?_ ?_ _ | refine bD ?_ | refine bT ?_ (by assumption) ?_ | refine bO (by assumption) ?_ ?_))) <;> (first | omega | (simp <;> omega))))
  have hz101 : w.heap.size + 1 + 1 + 1 + 1 + 1 + 1 ≤ w101.heap.size := by omega
  clear hb_w101
  skip
  go_wp2_with fail
  (go_at_call 84; refine (K2.out _ _ (by simp) (by go_simp)).mono ?_; rintro e w102 ⟨rfl, hb_w102⟩; have hz_w102 := hb_w102.size; (try simp at hz_w102); (with_reducible apply cel2 (b := w.heap.size) hb_w102); (focus ((try simp) <;> omega)); (focus omega); (iterate 2 (focus (go_simp; try exact rfl))); (focus (intro o; go_simp)); intro c_w102_0_0 c_w102_0_1 fz_w102_0 hl_w102_0; (with_reducible apply cel2 (b := w.heap.size + 1) hb_w102); (focus ((try simp) <;> omega)); (focus omega); (iterate 2 (focus (go_simp; try exact rfl))); (focus (intro o; go_simp)); intro c_w102_1_0 c_w102_1_1 fz_w102_1 hl_w102_1; (with_reducible apply cel2 (b := w.heap.size + 1 + 1) hb_w102); (focus ((try simp) <;> omega)); (focus omega); (iterate 2 (focus (go_simp; try exact rfl))); (focus (intro o; go_simp)); intro c_w102_2_0 c_w102_2_1 fz_w102_2 hl_w102_2; (with_reducible apply cel1 (b := w.heap.size + 1 + 1 + 1) hb_w102); (focus ((try simp) <;> omega)); (focus omega); (focus (go_simp; try exact rfl)); (focus (intro o; go_simp)); intro c_w102_3_0 fz_w102_3 hl_w102_3; (with_reducible apply cel6 (b := w.heap.size + 1 + 1 + 1 + 1) hb_w102); (focus ((try simp) <;> omega)); (focus omega); (iterate 6 (focus (go_simp; try exact rfl))); (focus (intro o; go_simp)); intro c_w102_4_0 c_w102_4_1 c_w102_4_2 c_w102_4_3 c_w102_4_4 c_w102_4_5 fz_w102_4 hl_w102_4; (with_reducible apply cel6 (b := w.heap.size + 1 + 1 + 1 + 1 + 1) hb_w102); (focus ((try simp) <;> omega)); (focus omega); (iterate 6 (focus (go_simp; try exact rfl))); (focus (intro o; go_simp)); intro c_w102_5_0 c_w102_5_1 c_w102_5_2 c_w102_5_3 c_w102_5_4 c_w102_5_5 fz_w102_5 hl_w102_5)
  have HB102 := Lib.hid (show Below w.heap.size w w102 by have hB := HB101.out; ((with_reducible (repeat (first | exact bR _ _ | refine bS ?_ ?_ _ | refine bA ?_ ?_ _ | refine bD ?_ | refine bT ?_ (by assumption) ?_ | refine bO (by assumption) ?_ ?_))) <;> (first | omega | (simp <;> omega))))
  have hz102 : w.heap.size + 1 + 1 + 1 + 1 + 1 + 1 ≤ w102.heap.size := by omega
  clear hb_w102
  clear c_w101_0_0 c_w101_0_1 fz_w101_0 hl_w101_0 c_w101_1_0 c_w101_1_1 fz_w101_1 hl_w101_1 c_w101_2_0 c_w101_2_1 fz_w101_2 hl_w101_2 c_w101_3_0 fz_w101_3 hl_w101_3 c_w101_4_0 c_w101_4_1 c_w101_4_2 c_w101_4_3 c_w101_4_4 c_w101_4_5 fz_w101_4 hl_w101_4 c_w101_5_0 c_w101_5_1 c_w101_5_2 c_w101_5_3 c_w101_5_4 c_w101_5_5 fz_w101_5 hl_w101_5
  go_wp2_with fail
  (go_at_call 21; refine (K3.out _).mono ?_; rintro e w103 ⟨rfl, hb_w103⟩; have hz_w103 := hb_w103.size; (try simp at hz_w103); (with_reducible apply cel2 (b := w.heap.size) hb_w103); (focus ((try simp) <;> omega)); (focus omega); (iterate 2 (focus (go_simp; try exact rfl))); (focus (intro o; go_simp)); intro c_w103_0_0 c_w103_0_1 fz_w103_0 hl_w103_0; (with_reducible apply cel2 (b := w.heap.size + 1) hb_w103); (focus ((try simp) <;> omega)); (focus omega); (iterate 2 (focus (go_simp; try exact rfl))); (focus (intro o; go_simp)); intro c_w103_1_0 c_w103_1_1 fz_w103_1 hl_w103_1; (with_reducible apply cel2 (b := w.heap.size + 1 + 1) hb_w103); (focus ((try simp) <;> omega)); (focus omega); (iterate 2 (focus (go_simp; try exact rfl))); (focus (intro o; go_simp)); intro c_w103_2_0 c_w103_2_1 fz_w103_2 hl_w103_2; (with_reducible apply cel1 (b := w.heap.size + 1 + 1 + 1) hb_w103); (focus ((try simp) <;> omega)); (focus omega); (focus (go_simp; try exact rfl)); (focus (intro o; go_simp)); intro c_w103_3_0 fz_w103_3 hl_w103_3; (with_reducible apply cel6 (b := w.heap.size + 1 + 1 + 1 + 1) hb_w103); (focus ((try simp) <;> omega)); (focus omega); (iterate 6 (focus (go_simp; try exact rfl))); (focus (intro o; go_simp)); intro c_w103_4_0 c_w103_4_1 c_w103_4_2 c_w103_4_3 c_w103_4_4 c_w103_4_5 fz_w103_4 hl_w103_4; (with_reducible apply cel6 (b := w.heap.size + 1 + 1 + 1 + 1 + 1) hb_w103); (focus ((try simp) <;> omega)); (focus omega); (iterate 6 (focus (go_simp; try exact rfl))); (focus (intro o; go_simp)); intro c_w103_5_0 c_w103_5_1 c_w103_5_2 c_w103_5_3 c_w103_5_4 c_w103_5_5 fz_w103_5 hl_w103_5)
  have HB103 := Lib.hid (show Below w.heap.size w w103 by have hB := HB102.out; ((with_reducible (repeat (first | exact bR _ _ | refine bS ?_ ?_ _ | refine bA ?_ ?_ _ | refine bD ?_ | refine bT ?_ (by assumption) ?_ | refine bO (by assumption) ?_ ?_))) <;> (first | omega | (simp <;> omega))))
  have hz103 : w.heap.size + 1 + 1 + 1 + 1 + 1 + 1 ≤ w103.heap.size := by omega
  clear hb_w103
  clear c_w102_0_0 c_w102_0_1 fz_w102_0 hl_w102_0 c_w102_1_0 c_w102_1_1 fz_w102_1 hl_w102_1 c_w102_2_0 c_w102_2_1 fz_w102_2 hl_w102_2 c_w102_3_0 fz_w102_3 hl_w102_3 c_w102_4_0 c_w102_4_1 c_w102_4_2 c_w102_4_3 c_w102_4_4 c_w102_4_5 fz_w102_4 hl_w102_4 c_w102_5_0 c_w102_5_1 c_w102_5_2 c_w102_5_3 c_w102_5_4 c_w102_5_5 fz_w102_5 hl_w102_5
  go_wp2_with fail
  (refine pin_wp (N := _) (Nat.le_refl _) (fun w104 hb_w104 hz_w104 => ?_); (try simp at hz_w104); (with_reducible apply cel2 (b := w.heap.size) hb_w104); (focus ((try simp) <;> omega)); (focus omega); (iterate 2 (focus (go_simp; try exact rfl))); (focus (intro o; go_simp)); intro c_w104_0_0 c_w104_0_1 fz_w104_0 hl_w104_0; (with_reducible apply cel2 (b := w.heap.size + 1) hb_w104); (focus ((try simp) <;> omega)); (focus omega); (iterate 2 (focus (go_simp; try exact rfl))); (focus (intro o; go_simp)); intro c_w104_1_0 c_w104_1_1 fz_w104_1 hl_w104_1; (with_reducible apply cel2 (b := w.heap.size + 1 + 1) hb_w104); (focus ((try simp) <;> omega)); (focus omega); (iterate 2 (focus (go_simp; try exact rfl))); (focus (intro o; go_simp)); intro c_w104_2_0 c_w104_2_1 fz_w104_2 hl_w104_2; (with_reducible apply cel1 (b := w.heap.size + 1 + 1 + 1) hb_w104); (focus ((try simp) <;> omega)); (focus omega); (focus (go_simp; try exact rfl)); (focus (intro o; go_simp)); intro c_w104_3_0 fz_w104_3 hl_w104_3; (with_reducible apply cel6 (b := w.heap.size + 1 + 1 + 1 + 1) hb_w104); (focus ((try simp) <;> omega)); (focus omega); (iterate 6 (focus (go_simp; try exact rfl))); (focus (intro o; go_simp)); intro c_w104_4_0 c_w104_4_1 c_w104_4_2 c_w104_4_3 c_w104_4_4 c_w104_4_5 fz_w104_4 hl_w104_4; (with_reducible apply cel6 (b := w.heap.size + 1 + 1 + 1 + 1 + 1) hb_w104); (focus ((try simp) <;> omega)); (focus omega); (iterate 6 (focus (go_simp; try exact rfl))); (focus (intro o; go_simp)); intro c_w104_5_0 c_w104_5_1 c_w104_5_2 c_w104_5_3 c_w104_5_4 c_w104_5_5 fz_w104_5 hl_w104_5); refine wp_q (fun Q_ HQ_ => ?_); refine wp_region_floatQ w104.heap.size 10 [10, 11] (Nat.le_refl _) (fun _ => True) trivial Cl.tt (by kernel_rfl) (by kernel_rfl) ?_
  have HB104 := Lib.hid (show Below w.heap.size w w104 by have hB := HB103.out; ((with_reducible (repeat (first | exact bR _ _ | refine bS ?_ ?_ _ | refine bA ?_ ?_ _ | refine bD ?_ | refine bT ?_ (by assumption) ?_ | refine bO (by assumption) ?_ ?_))) <;> (first | omega | (simp <;> omega))))
  have hz104 : w.heap.size + 1 + 1 + 1 + 1 + 1 + 1 ≤ w104.heap.size := by omega
  clear hb_w104
  clear c_w103_0_0 c_w103_0_1 fz_w103_0 hl_w103_0 c_w103_1_0 c_w103_1_1 fz_w103_1 hl_w103_1 c_w103_2_0 c_w103_2_1 fz_w103_2 hl_w103_2 c_w103_3_0 fz_w103_3 hl_w103_3 c_w103_4_0 c_w103_4_1 c_w103_4_2 c_w103_4_3 c_w103_4_4 c_w103_4_5 fz_w103_4 hl_w103_4 c_w103_5_0 c_w103_5_1 c_w103_5_2 c_w103_5_3 c_w103_5_4 c_w103_5_5 fz_w103_5 hl_w103_5
  refine wpQI_start [0, 1] ?_; (iterate 2 (first | (apply wpQI_step (by with_reducible (refine zA ?_; (repeat (first | exact zB | refine zC ?_)))) (by kernel_rfl) (by exact rfl); (focus (intro W' hS; have hcS := hS.cells.1; have hfS := hS.cells.2; go_simp; (first | done | exact rfl | exact bB _ | (go_simp; first | done | exact rfl | exact bB _)))); intro K hK; go_simp; (try go_bits); refine hK _ ?_; clear hK K))); refine wpQI_nil ?_
  refine wpQI_start [3] ?_; (iterate 1 (first | (apply wpQI_step (by with_reducible (refine zA ?_; (repeat (first | exact zB | refine zC ?_)))) (by kernel_rfl) (by exact rfl); (focus (intro W' hS; have hcS := hS.cells.1; have hfS := hS.cells.2; go_simp; (first | done | exact rfl | exact bB _ | (go_simp; first | done | exact rfl | exact bB _)))); intro K hK; go_simp; (try go_bits); refine hK _ ?_; clear hK K))); refine wpQI_nil ?_
  refine wpQI_start [5, 6] ?_; (iterate 2 (first | (apply wpQI_step (by with_reducible (refine zA ?_; (repeat (first | exact zB | refine zC ?_)))) (by kernel_rfl) (by exact rfl); (focus (intro W' hS; have hcS := hS.cells.1; have hfS := hS.cells.2; go_simp; (first | done | exact rfl | exact bB _ | (go_simp; first | done | exact rfl | exact bB _)))); intro K hK; go_simp; (try go_bits); refine hK _ ?_; clear hK K))); refine wpQI_nil ?_
  refine wpQI_start [2] ?_; (iterate 1 (first | (apply wpQI_step (by with_reducible (refine zA ?_; (repeat (first | exact zB | refine zC ?_)))) (by kernel_rfl) (by exact rfl); (focus (intro W' hS; have hcS := hS.cells.1; have hfS := hS.cells.2; go_simp; (first | done | exact rfl | exact ⟨rfl, Below.refl _ _⟩ | (go_at_call 52; exact (K4.out _).mono (fun _ _ h => ⟨h.1, h.2⟩)) | (go_simp; first | done | exact rfl | exact ⟨rfl, Below.refl _ _⟩)))); intro K hK; go_simp; (try go_bits); refine hK _ ?_; clear hK K))); refine wpQI_nil ?_
  refine wpQI_start [4] ?_; (iterate 1 (first | (apply wpQI_step (by with_reducible (refine zA ?_; (repeat (first | exact zB | refine zC ?_)))) (by kernel_rfl) (by exact rfl); (focus (intro W' hS; have hcS := hS.cells.1; have hfS := hS.cells.2; go_simp; (first | done | exact rfl | exact ⟨rfl, Below.refl _ _⟩ | (go_at_call 51; exact (K5.out _).mono (fun _ _ h => ⟨h.1, h.2⟩)) | (go_simp; first | done | exact rfl | exact ⟨rfl, Below.refl _ _⟩)))); intro K hK; go_simp; (try go_bits); refine hK _ ?_; clear hK K))); refine wpQI_nil ?_
  refine wpQI_start [7] ?_; (iterate 1 (first | (apply wpQI_step (by with_reducible (refine zA ?_; (repeat (first | exact zB | refine zC ?_)))) (by kernel_rfl) (by exact rfl); (focus (intro W' hS; have hcS := hS.cells.1; have hfS := hS.cells.2; go_simp; (first | done | exact rfl | exact ⟨rfl, Below.refl _ _⟩ | (go_at_call 51; exact (K6.out _).mono (fun _ _ h => ⟨h.1, h.2⟩)) | (go_simp; first | done | exact rfl | exact ⟨rfl, Below.refl _ _⟩)))); intro K hK; go_simp; (try go_bits); refine hK _ ?_; clear hK K))); refine wpQI_nil ?_
  apply wpQ_fresh (i := 8) LInv.std (by with_reducible (refine zA ?_; (repeat (first | exact zB | refine zC ?_)))) (by kernel_rfl) (fun g => Value.pointer (some ⟨g, 0, none⟩)) (by exact rfl); (focus (intro W; go_simp; first | done | exact rfl | exact ⟨rfl, rfl⟩))
  intro g_r5_8 hN_r5_8 hG_r5_8 K hK
  go_simp; refine hK _ ?_; clear hK K
  apply wpQ_fresh (i := 9) LInv.std (by with_reducible (refine zA ?_; (repeat (first | exact zB | refine zC ?_)))) (by kernel_rfl) (fun g => Value.pointer (some ⟨g, 0, none⟩)) (by exact rfl); (focus (intro W; go_simp; first | done | exact rfl | exact ⟨rfl, rfl⟩))
  intro g_r5_9 hN_r5_9 hG_r5_9 K hK
  go_simp; refine hK _ ?_; clear hK K
  have hne_r5_8_r5_9 : g_r5_8 ≠ g_r5_9 := hG_r5_9 _ (List.mem_cons_self ..)
  have hne_r5_9_r5_8 : g_r5_9 ≠ g_r5_8 := Ne.symm hne_r5_8_r5_9
  have hne : w.heap.size ≠ g_r5_8 := by have := hN_r5_8; omega
  have hne := Ne.symm hne
  have hne : w.heap.size ≠ g_r5_9 := by have := hN_r5_9; omega
  have hne := Ne.symm hne
  have hne : w.heap.size + 1 ≠ g_r5_8 := by have := hN_r5_8; omega
  have hne := Ne.symm hne
  have hne : w.heap.size + 1 ≠ g_r5_9 := by have := hN_r5_9; omega
  have hne := Ne.symm hne
  have hne : w.heap.size + 1 + 1 ≠ g_r5_8 := by have := hN_r5_8; omega
  have hne := Ne.symm hne
  have hne : w.heap.size + 1 + 1 ≠ g_r5_9 := by have := hN_r5_9; omega
  have hne := Ne.symm hne
  have hne : w.heap.size + 1 + 1 + 1 ≠ g_r5_8 := by have := hN_r5_8; omega
  have hne := Ne.symm hne
  have hne : w.heap.size + 1 + 1 + 1 ≠ g_r5_9 := by have := hN_r5_9; omega
  have hne := Ne.symm hne
  have hne : w.heap.size + 1 + 1 + 1 + 1 ≠ g_r5_8 := by have := hN_r5_8; omega
  have hne := Ne.symm hne
  have hne : w.heap.size + 1 + 1 + 1 + 1 ≠ g_r5_9 := by have := hN_r5_9; omega
  have hne := Ne.symm hne
  have hne : w.heap.size + 1 + 1 + 1 + 1 + 1 ≠ g_r5_8 := by have := hN_r5_8; omega
  have hne := Ne.symm hne
  have hne : w.heap.size + 1 + 1 + 1 + 1 + 1 ≠ g_r5_9 := by have := hN_r5_9; omega
  have hne := Ne.symm hne
  refine wpQ_done (by kernel_rfl) ?_
  intro w105 hF_w105 hSG
  have hz_w105 := hSG.1.1
  have hb_w105 := hSG.1.2
  have hB_r5_9 := (hSG.2 _ (List.mem_cons_self ..)).2; simp only at hB_r5_9; have hl_r5_9 := (hSG.size (List.mem_cons_self ..)); simp only at hl_r5_9
  have c_w105_r5_9_0 := cell_of_row w105 g_r5_9 0 _ _ _ hB_r5_9; simp only [List.getElem?_toArray, List.getElem?_cons_zero] at c_w105_r5_9_0
  have fz_w105_r5_9 : (∀ o, w105.frozen? ⟨g_r5_9, o, none⟩ = false) := (fun o => frozen_of_row w105 g_r5_9 o _ _ hB_r5_9); have HH_r5_9 := Lib.hid hB_r5_9; clear hB_r5_9
  have hB_r5_8 := (hSG.2 _ (List.mem_cons_of_mem _ (List.mem_cons_self ..))).2; simp only at hB_r5_8; have hl_r5_8 := (hSG.size (List.mem_cons_of_mem _ (List.mem_cons_self ..))); simp only at hl_r5_8
  have c_w105_r5_8_0 := cell_of_row w105 g_r5_8 0 _ _ _ hB_r5_8; simp only [List.getElem?_toArray, List.getElem?_cons_zero] at c_w105_r5_8_0
  have fz_w105_r5_8 : (∀ o, w105.frozen? ⟨g_r5_8, o, none⟩ = false) := (fun o => frozen_of_row w105 g_r5_8 o _ _ hB_r5_8); have HH_r5_8 := Lib.hid hB_r5_8; clear hB_r5_8
  clear hSG
  (with_reducible apply cel2 (b := w.heap.size) hb_w105); (focus ((try simp) <;> omega)); (focus omega); (iterate 2 (focus (go_simp; try exact rfl))); (focus (intro o; go_simp)); intro c_w105_0_0 c_w105_0_1 fz_w105_0 hl_w105_0; (with_reducible apply cel2 (b := w.heap.size + 1) hb_w105); (focus ((try simp) <;> omega)); (focus omega); (iterate 2 (focus (go_simp; try exact rfl))); (focus (intro o; go_simp)); intro c_w105_1_0 c_w105_1_1 fz_w105_1 hl_w105_1; (with_reducible apply cel2 (b := w.heap.size + 1 + 1) hb_w105); (focus ((try simp) <;> omega)); (focus omega); (iterate 2 (focus (go_simp; try exact rfl))); (focus (intro o; go_simp)); intro c_w105_2_0 c_w105_2_1 fz_w105_2 hl_w105_2; (with_reducible apply cel1 (b := w.heap.size + 1 + 1 + 1) hb_w105); (focus ((try simp) <;> omega)); (focus omega); (focus (go_simp; try exact rfl)); (focus (intro o; go_simp)); intro c_w105_3_0 fz_w105_3 hl_w105_3; (with_reducible apply cel6 (b := w.heap.size + 1 + 1 + 1 + 1) hb_w105); (focus ((try simp) <;> omega)); (focus omega); (iterate 6 (focus (go_simp; try exact rfl))); (focus (intro o; go_simp)); intro c_w105_4_0 c_w105_4_1 c_w105_4_2 c_w105_4_3 c_w105_4_4 c_w105_4_5 fz_w105_4 hl_w105_4; (with_reducible apply cel6 (b := w.heap.size + 1 + 1 + 1 + 1 + 1) hb_w105); (focus ((try simp) <;> omega)); (focus omega); (iterate 6 (focus (go_simp; try exact rfl))); (focus (intro o; go_simp)); intro c_w105_5_0 c_w105_5_1 c_w105_5_2 c_w105_5_3 c_w105_5_4 c_w105_5_5 fz_w105_5 hl_w105_5
  (try simp only [List.filterMap_cons, List.filterMap_nil, List.getElem?_cons_succ, List.getElem?_cons_zero])
  have HB105 := Lib.hid (HB104.out.trans (hb_w105.mono (by have := HB104.out.size; omega)))
  have hz105 : w.heap.size + 1 + 1 + 1 + 1 + 1 + 1 ≤ w105.heap.size := by omega
  have hn_r5_8 : w.heap.size + 1 + 1 + 1 + 1 + 1 + 1 ≤ g_r5_8 := by have := hN_r5_8; omega
  have hn_r5_9 : w.heap.size + 1 + 1 + 1 + 1 + 1 + 1 ≤ g_r5_9 := by have := hN_r5_9; omega
  clear hF_w105 hb_w105 HH_r5_8 hG_r5_8 hN_r5_8 HH_r5_9 hG_r5_9 hN_r5_9
  clear c_w104_0_0 c_w104_0_1 fz_w104_0 hl_w104_0 c_w104_1_0 c_w104_1_1 fz_w104_1 hl_w104_1 c_w104_2_0 c_w104_2_1 fz_w104_2 hl_w104_2 c_w104_3_0 fz_w104_3 hl_w104_3 c_w104_4_0 c_w104_4_1 c_w104_4_2 c_w104_4_3 c_w104_4_4 c_w104_4_5 fz_w104_4 hl_w104_4 c_w104_5_0 c_w104_5_1 c_w104_5_2 c_w104_5_3 c_w104_5_4 c_w104_5_5 fz_w104_5 hl_w104_5
  go_wp2_with fail
  refine HQ_.out _ _ _ ?_
  clear HQ_ Q_
  go_wp2_with fail
  (go_at_call 57; refine (K7.out _).mono ?_; rintro e w106 ⟨hb_w106, v106, rfl, hv106⟩; have hz_w106 := hb_w106.size; (try simp at hz_w106); (with_reducible apply cel2 (b := w.heap.size) hb_w106); (focus ((try simp) <;> omega)); (focus omega); (iterate 2 (focus (go_simp; try exact rfl))); (focus (intro o; go_simp)); intro c_w106_0_0 c_w106_0_1 fz_w106_0 hl_w106_0; (with_reducible apply cel2 (b := w.heap.size + 1) hb_w106); (focus ((try simp) <;> omega)); (focus omega); (iterate 2 (focus (go_simp; try exact rfl))); (focus (intro o; go_simp)); intro c_w106_1_0 c_w106_1_1 fz_w106_1 hl_w106_1; (with_reducible apply cel2 (b := w.heap.size + 1 + 1) hb_w106); (focus ((try simp) <;> omega)); (focus omega); (iterate 2 (focus (go_simp; try exact rfl))); (focus (intro o; go_simp)); intro c_w106_2_0 c_w106_2_1 fz_w106_2 hl_w106_2; (with_reducible apply cel1 (b := w.heap.size + 1 + 1 + 1) hb_w106); (focus ((try simp) <;> omega)); (focus omega); (focus (go_simp; try exact rfl)); (focus (intro o; go_simp)); intro c_w106_3_0 fz_w106_3 hl_w106_3; (with_reducible apply cel6 (b := w.heap.size + 1 + 1 + 1 + 1) hb_w106); (focus ((try simp) <;> omega)); (focus omega); (iterate 6 (focus (go_simp; try exact rfl))); (focus (intro o; go_simp)); intro c_w106_4_0 c_w106_4_1 c_w106_4_2 c_w106_4_3 c_w106_4_4 c_w106_4_5 fz_w106_4 hl_w106_4; (with_reducible apply cel6 (b := w.heap.size + 1 + 1 + 1 + 1 + 1) hb_w106); (focus ((try simp) <;> omega)); (focus omega); (iterate 6 (focus (go_simp; try exact rfl))); (focus (intro o; go_simp)); intro c_w106_5_0 c_w106_5_1 c_w106_5_2 c_w106_5_3 c_w106_5_4 c_w106_5_5 fz_w106_5 hl_w106_5; (with_reducible apply cel1 (b := g_r5_8) hb_w106); (focus ((try simp) <;> omega)); (focus omega); (focus (go_simp; try exact rfl)); (focus (intro o; go_simp)); intro c_w106_6_0 fz_w106_6 hl_w106_6; (with_reducible apply cel1 (b := g_r5_9) hb_w106); (focus ((try simp) <;> omega)); (focus omega); (focus (go_simp; try exact rfl)); (focus (intro o; go_simp)); intro c_w106_7_0 fz_w106_7 hl_w106_7)
  obtain ⟨s106, A106, n106, c106, rfl⟩ := IsC.val hv106
  have HB106 := Lib.hid (show Below w.heap.size w w106 by have hB := HB105.out; ((with_reducible (repeat (first | exact bR _ _ | refine bS ?_ ?_ _ | refine bA ?_ ?_ _ | refine bD ?_ | refine bT ?_ (by assumption) ?_ | refine bO (by assumption) ?_ ?_))) <;> (first | omega | (simp <;> omega))))
  have hz106 : w.heap.size + 1 + 1 + 1 + 1 + 1 + 1 ≤ w106.heap.size := by omega
  clear hb_w106
  clear c_w105_r5_9_0 fz_w105_r5_9 c_w105_r5_8_0 fz_w105_r5_8 c_w105_0_0 c_w105_0_1 fz_w105_0 hl_w105_0 c_w105_1_0 c_w105_1_1 fz_w105_1 hl_w105_1 c_w105_2_0 c_w105_2_1 fz_w105_2 hl_w105_2 c_w105_3_0 fz_w105_3 hl_w105_3 c_w105_4_0 c_w105_4_1 c_w105_4_2 c_w105_4_3 c_w105_4_4 c_w105_4_5 fz_w105_4 hl_w105_4 c_w105_5_0 c_w105_5_1 c_w105_5_2 c_w105_5_3 c_w105_5_4 c_w105_5_5 fz_w105_5 hl_w105_5
  have H106 := Lib.hid (show IsC w106 (.agg #[.bool s106, .slice A106 n106 c106]) ((32 * M)) from hv106)
  clear hv106
  go_wp2_with fail
  (refine pin_wp (N := _) (Nat.le_refl _) (fun w107 hb_w107 hz_w107 => ?_); (try simp at hz_w107); (with_reducible apply cel2 (b := w.heap.size) hb_w107); (focus ((try simp) <;> omega)); (focus omega); (iterate 2 (focus (go_simp; try exact rfl))); (focus (intro o; go_simp)); intro c_w107_0_0 c_w107_0_1 fz_w107_0 hl_w107_0; (with_reducible apply cel2 (b := w.heap.size + 1) hb_w107); (focus ((try simp) <;> omega)); (focus omega); (iterate 2 (focus (go_simp; try exact rfl))); (focus (intro o; go_simp)); intro c_w107_1_0 c_w107_1_1 fz_w107_1 hl_w107_1; (with_reducible apply cel2 (b := w.heap.size + 1 + 1) hb_w107); (focus ((try simp) <;> omega)); (focus omega); (iterate 2 (focus (go_simp; try exact rfl))); (focus (intro o; go_simp)); intro c_w107_2_0 c_w107_2_1 fz_w107_2 hl_w107_2; (with_reducible apply cel1 (b := w.heap.size + 1 + 1 + 1) hb_w107); (focus ((try simp) <;> omega)); (focus omega); (focus (go_simp; try exact rfl)); (focus (intro o; go_simp)); intro c_w107_3_0 fz_w107_3 hl_w107_3; (with_reducible apply cel6 (b := w.heap.size + 1 + 1 + 1 + 1) hb_w107); (focus ((try simp) <;> omega)); (focus omega); (iterate 6 (focus (go_simp; try exact rfl))); (focus (intro o; go_simp)); intro c_w107_4_0 c_w107_4_1 c_w107_4_2 c_w107_4_3 c_w107_4_4 c_w107_4_5 fz_w107_4 hl_w107_4; (with_reducible apply cel6 (b := w.heap.size + 1 + 1 + 1 + 1 + 1) hb_w107); (focus ((try simp) <;> omega)); (focus omega); (iterate 6 (focus (go_simp; try exact rfl))); (focus (intro o; go_simp)); intro c_w107_5_0 c_w107_5_1 c_w107_5_2 c_w107_5_3 c_w107_5_4 c_w107_5_5 fz_w107_5 hl_w107_5; (with_reducible apply cel1 (b := g_r5_8) hb_w107); (focus ((try simp) <;> omega)); (focus omega); (focus (go_simp; try exact rfl)); (focus (intro o; go_simp)); intro c_w107_6_0 fz_w107_6 hl_w107_6; (with_reducible apply cel1 (b := g_r5_9) hb_w107); (focus ((try simp) <;> omega)); (focus omega); (focus (go_simp; try exact rfl)); (focus (intro o; go_simp)); intro c_w107_7_0 fz_w107_7 hl_w107_7; (with_reducible apply cel2 (b := w106.heap.size) hb_w107); (focus ((try simp) <;> omega)); (focus omega); (iterate 2 (focus (go_simp; try exact rfl))); (focus (intro o; go_simp)); intro c_w107_8_0 c_w107_8_1 fz_w107_8 hl_w107_8); refine wp_q (fun Q_ HQ_ => ?_); refine wp_region_floatQ w107.heap.size 30 [30, 31] (Nat.le_refl _) (fun _ => True) trivial Cl.tt (by kernel_rfl) (by kernel_rfl) ?_
  replace H106 := Lib.hid (IsC.below (v := .agg #[.bool s106, .slice A106 n106 c106]) (z := (32 * M)) (by ((repeat (first | (with_reducible exact H106.out) | (with_reducible refine IsC.al ?_ _) | (with_reducible apply IsC.st1))) <;> (first | (with_reducible assumption) | (intro _ e; cases e; done) | (go_simp; first | done | exact rfl)))) hb_w107)
  have HB107 := Lib.hid (show Below w.heap.size w w107 by have hB := HB106.out; ((with_reducible (repeat (first | exact bR _ _ | refine bS ?_ ?_ _ | refine bA ?_ ?_ _ | refine bD ?_ | refine bT ?_ (by assumption) ?_ | refine bO (by assumption) ?_ ?_))) <;> (first | omega | (simp <;> omega))))
  have hz107 : w.heap.size + 1 + 1 + 1 + 1 + 1 + 1 ≤ w107.heap.size := by omega
  clear hb_w107
  clear c_w106_0_0 c_w106_0_1 fz_w106_0 hl_w106_0 c_w106_1_0 c_w106_1_1 fz_w106_1 hl_w106_1 c_w106_2_0 c_w106_2_1 fz_w106_2 hl_w106_2 c_w106_3_0 fz_w106_3 hl_w106_3 c_w106_4_0 c_w106_4_1 c_w106_4_2 c_w106_4_3 c_w106_4_4 c_w106_4_5 fz_w106_4 hl_w106_4 c_w106_5_0 c_w106_5_1 c_w106_5_2 c_w106_5_3 c_w106_5_4 c_w106_5_5 fz_w106_5 hl_w106_5 c_w106_6_0 fz_w106_6 hl_w106_6 c_w106_7_0 fz_w106_7 hl_w106_7
  refine wpQI_start [0, 1, 2, 3, 4] ?_; (iterate 5 (first | (apply wpQI_step (by with_reducible (refine zA ?_; (repeat (first | exact zB | refine zC ?_)))) (by kernel_rfl) (by exact rfl); (focus (intro W' hS; have hcS := hS.cells.1; have hfS := hS.cells.2; go_simp; (first | done | exact rfl | exact bB _ | (go_simp; first | done | exact rfl | exact bB _)))); intro K hK; go_simp; (try go_bits); refine hK _ ?_; clear hK K))); refine wpQI_nil ?_
  refine wpQI_start [6, 7, 8, 9, 10] ?_; (iterate 5 (first | (apply wpQI_step (by with_reducible (refine zA ?_; (repeat (first | exact zB | refine zC ?_)))) (by kernel_rfl) (by exact rfl); (focus (intro W' hS; have hcS := hS.cells.1; have hfS := hS.cells.2; go_simp; (first | done | exact rfl | exact bB _ | (go_simp; first | done | exact rfl | exact bB _)))); intro K hK; go_simp; (try go_bits); refine hK _ ?_; clear hK K))); refine wpQI_nil ?_
  refine wpQI_start [12] ?_; (iterate 1 (first | (apply wpQI_step (by with_reducible (refine zA ?_; (repeat (first | exact zB | refine zC ?_)))) (by kernel_rfl) (by exact rfl); (focus (intro W' hS; have hcS := hS.cells.1; have hfS := hS.cells.2; go_simp; (first | done | exact rfl | exact bB _ | (go_simp; first | done | exact rfl | exact bB _)))); intro K hK; go_simp; (try go_bits); refine hK _ ?_; clear hK K))); refine wpQI_nil ?_
  refine wpQI_start [15, 16, 17, 18, 19] ?_; (iterate 5 (first | (apply wpQI_step (by with_reducible (refine zA ?_; (repeat (first | exact zB | refine zC ?_)))) (by kernel_rfl) (by exact rfl); (focus (intro W' hS; have hcS := hS.cells.1; have hfS := hS.cells.2; go_simp; (first | done | exact rfl | exact bB _ | (go_simp; first | done | exact rfl | exact bB _)))); intro K hK; go_simp; (try go_bits); refine hK _ ?_; clear hK K))); refine wpQI_nil ?_
  refine wpQI_start [21, 22, 23, 24, 25] ?_; (iterate 5 (first | (apply wpQI_step (by with_reducible (refine zA ?_; (repeat (first | exact zB | refine zC ?_)))) (by kernel_rfl) (by exact rfl); (focus (intro W' hS; have hcS := hS.cells.1; have hfS := hS.cells.2; go_simp; (first | done | exact rfl | exact bB _ | (go_simp; first | done | exact rfl | exact bB _)))); intro K hK; go_simp; (try go_bits); refine hK _ ?_; clear hK K))); refine wpQI_nil ?_
  refine wpQI_start [27] ?_; (iterate 1 (first | (apply wpQI_step (by with_reducible (refine zA ?_; (repeat (first | exact zB | refine zC ?_)))) (by kernel_rfl) (by exact rfl); (focus (intro W' hS; have hcS := hS.cells.1; have hfS := hS.cells.2; go_simp; (first | done | exact rfl | exact bB _ | (go_simp; first | done | exact rfl | exact bB _)))); intro K hK; go_simp; (try go_bits); refine hK _ ?_; clear hK K))); refine wpQI_nil ?_
  apply wpQ_call (i := 5) (by with_reducible (refine zA ?_; (repeat (first | exact zB | refine zC ?_)))) (by kernel_rfl) (by exact rfl); intro W hF hS; have hcS := hS.1.cells.1; have hfS := hS.1.cells.2; go_simp; (go_at_call 86; refine (K8.out _ _ _ _ (by go_simp) (by go_simp) (by go_simp)).mono ?_; rintro e w108 ⟨hb_w108, v108, rfl, hv108⟩; refine XPost.mk _ (fun W => IsC W v108 (X1)) hb_w108 (hv108) (IsC.cl _ _) ?_); clear hb_w108 hcS hfS hS hF
  intro K hK; go_simp; (try go_bits); refine hK _ ?_; clear hK K
  obtain ⟨s108, A108, n108, c108, rfl⟩ := IsC.val hv108
  clear hv108
  apply wpQ_call (i := 11) (by with_reducible (refine zA ?_; (repeat (first | exact zB | refine zC ?_)))) (by kernel_rfl) (by exact rfl); intro W hF hS; have hcS := hS.1.cells.1; have hfS := hS.1.cells.2; go_simp; (go_at_call 86; refine (K9.out _ _ _ _ (by go_simp) (by go_simp) (by go_simp)).mono ?_; rintro e w109 ⟨hb_w109, v109, rfl, hv109⟩; refine XPost.mk _ (fun W => IsC W v109 (X2)) hb_w109 (hv109) (IsC.cl _ _) ?_); clear hb_w109 hcS hfS hS hF
  intro K hK; go_simp; (try go_bits); refine hK _ ?_; clear hK K
  obtain ⟨s109, A109, n109, c109, rfl⟩ := IsC.val hv109
  clear hv109
  refine wpQI_start [13] ?_; (iterate 1 (first | (apply wpQI_step (by with_reducible (refine zA ?_; (repeat (first | exact zB | refine zC ?_)))) (by kernel_rfl) (by exact rfl); (focus (intro W' hS; have hcS := hS.cells.1; have hfS := hS.cells.2; go_simp; (first | done | exact rfl | exact bB _ | (go_simp; first | done | exact rfl | exact bB _)))); intro K hK; go_simp; (try go_bits); refine hK _ ?_; clear hK K))); refine wpQI_nil ?_
  apply wpQ_call (i := 14) (by with_reducible (refine zA ?_; (repeat (first | exact zB | refine zC ?_)))) (by kernel_rfl) (by exact rfl); intro W hF hS; have hcS := hS.1.cells.1; have hfS := hS.1.cells.2; go_simp; (go_at_call 59; refine (K10.out _ _ (⟨_, _, _, _, _, _, _, _, _, _, _, _, rfl, hF.1, hF.2, (H106.out.below hS.1.2)⟩)).mono ?_; rintro e w110 ⟨hb_w110, v110, rfl, hv110⟩; refine XPost.mk _ (fun W => RAt W v110 (P1) (P2) (P3)) hb_w110 (hv110) (RAt.cl _ _ _ _) ?_); clear hb_w110 hcS hfS hS hF
  intro K hK; go_simp; (try go_bits); refine hK _ ?_; clear hK K
  obtain ⟨s110x, A110x, n110x, c110x, s110y, A110y, n110y, c110y, s110d, A110d, n110d, c110d, rfl⟩ := RAt.val hv110
  clear hv110
  apply wpQ_call (i := 20) (by with_reducible (refine zA ?_; (repeat (first | exact zB | refine zC ?_)))) (by kernel_rfl) (by exact rfl); intro W hF hS; have hcS := hS.1.cells.1; have hfS := hS.1.cells.2; go_simp; (go_at_call 86; refine (K11.out _ _ _ _ (by go_simp) (by go_simp) (by go_simp)).mono ?_; rintro e w111 ⟨hb_w111, v111, rfl, hv111⟩; refine XPost.mk _ (fun W => IsC W v111 (Y1)) hb_w111 (hv111) (IsC.cl _ _) ?_); clear hb_w111 hcS hfS hS hF
  intro K hK; go_simp; (try go_bits); refine hK _ ?_; clear hK K
  obtain ⟨s111, A111, n111, c111, rfl⟩ := IsC.val hv111
  clear hv111
  apply wpQ_call (i := 26) (by with_reducible (refine zA ?_; (repeat (first | exact zB | refine zC ?_)))) (by kernel_rfl) (by exact rfl); intro W hF hS; have hcS := hS.1.cells.1; have hfS := hS.1.cells.2; go_simp; (go_at_call 86; refine (K12.out _ _ _ _ (by go_simp) (by go_simp) (by go_simp)).mono ?_; rintro e w112 ⟨hb_w112, v112, rfl, hv112⟩; refine XPost.mk _ (fun W => IsC W v112 (Y2)) hb_w112 (hv112) (IsC.cl _ _) ?_); clear hb_w112 hcS hfS hS hF
  intro K hK; go_simp; (try go_bits); refine hK _ ?_; clear hK K
  obtain ⟨s112, A112, n112, c112, rfl⟩ := IsC.val hv112
  clear hv112
  refine wpQI_start [28] ?_; (iterate 1 (first | (apply wpQI_step (by with_reducible (refine zA ?_; (repeat (first | exact zB | refine zC ?_)))) (by kernel_rfl) (by exact rfl); (focus (intro W' hS; have hcS := hS.cells.1; have hfS := hS.cells.2; go_simp; (first | done | exact rfl | exact bB _ | (go_simp; first | done | exact rfl | exact bB _)))); intro K hK; go_simp; (try go_bits); refine hK _ ?_; clear hK K))); refine wpQI_nil ?_
  apply wpQ_call (i := 29) (by with_reducible (refine zA ?_; (repeat (first | exact zB | refine zC ?_)))) (by kernel_rfl) (by exact rfl); intro W hF hS; have hcS := hS.1.cells.1; have hfS := hS.1.cells.2; go_simp; (go_at_call 59; refine (K13.out _ _ (⟨_, _, _, _, _, _, _, _, _, _, _, _, rfl, hF.1.2, hF.2, (H106.out.below hS.1.2)⟩)).mono ?_; rintro e w113 ⟨hb_w113, v113, rfl, hv113⟩; refine XPost.mk _ (fun W => RAt W v113 (Q1) (Q2) (Q3)) hb_w113 (hv113) (RAt.cl _ _ _ _) ?_); clear hb_w113 hcS hfS hS hF
  intro K hK; go_simp; (try go_bits); refine hK _ ?_; clear hK K
  obtain ⟨s113x, A113x, n113x, c113x, s113y, A113y, n113y, c113y, s113d, A113d, n113d, c113d, rfl⟩ := RAt.val hv113
  clear hv113
  refine wpQ_done (by kernel_rfl) ?_
  intro w114 hF_w114 hSG
  have hz_w114 := hSG.1.1
  have hb_w114 := hSG.1.2
  clear hSG
  (with_reducible apply cel2 (b := w.heap.size) hb_w114); (focus ((try simp) <;> omega)); (focus omega); (iterate 2 (focus (go_simp; try exact rfl))); (focus (intro o; go_simp)); intro c_w114_0_0 c_w114_0_1 fz_w114_0 hl_w114_0; (with_reducible apply cel2 (b := w.heap.size + 1) hb_w114); (focus ((try simp) <;> omega)); (focus omega); (iterate 2 (focus (go_simp; try exact rfl))); (focus (intro o; go_simp)); intro c_w114_1_0 c_w114_1_1 fz_w114_1 hl_w114_1; (with_reducible apply cel2 (b := w.heap.size + 1 + 1) hb_w114); (focus ((try simp) <;> omega)); (focus omega); (iterate 2 (focus (go_simp; try exact rfl))); (focus (intro o; go_simp)); intro c_w114_2_0 c_w114_2_1 fz_w114_2 hl_w114_2; (with_reducible apply cel1 (b := w.heap.size + 1 + 1 + 1) hb_w114); (focus ((try simp) <;> omega)); (focus omega); (focus (go_simp; try exact rfl)); (focus (intro o; go_simp)); intro c_w114_3_0 fz_w114_3 hl_w114_3; (with_reducible apply cel6 (b := w.heap.size + 1 + 1 + 1 + 1) hb_w114); (focus ((try simp) <;> omega)); (focus omega); (iterate 6 (focus (go_simp; try exact rfl))); (focus (intro o; go_simp)); intro c_w114_4_0 c_w114_4_1 c_w114_4_2 c_w114_4_3 c_w114_4_4 c_w114_4_5 fz_w114_4 hl_w114_4; (with_reducible apply cel6 (b := w.heap.size + 1 + 1 + 1 + 1 + 1) hb_w114); (focus ((try simp) <;> omega)); (focus omega); (iterate 6 (focus (go_simp; try exact rfl))); (focus (intro o; go_simp)); intro c_w114_5_0 c_w114_5_1 c_w114_5_2 c_w114_5_3 c_w114_5_4 c_w114_5_5 fz_w114_5 hl_w114_5; (with_reducible apply cel1 (b := g_r5_8) hb_w114); (focus ((try simp) <;> omega)); (focus omega); (focus (go_simp; try exact rfl)); (focus (intro o; go_simp)); intro c_w114_6_0 fz_w114_6 hl_w114_6; (with_reducible apply cel1 (b := g_r5_9) hb_w114); (focus ((try simp) <;> omega)); (focus omega); (focus (go_simp; try exact rfl)); (focus (intro o; go_simp)); intro c_w114_7_0 fz_w114_7 hl_w114_7; (with_reducible apply cel2 (b := w106.heap.size) hb_w114); (focus ((try simp) <;> omega)); (focus omega); (iterate 2 (focus (go_simp; try exact rfl))); (focus (intro o; go_simp)); intro c_w114_8_0 c_w114_8_1 fz_w114_8 hl_w114_8
  (try simp only [List.filterMap_cons, List.filterMap_nil, List.getElem?_cons_succ, List.getElem?_cons_zero])
  clear H106
  have H108 := Lib.hid (show IsC w114 (.agg #[.bool s108, .slice A108 n108 c108]) (X1) from hF_w114.1.1.1.1.1)
  have H109 := Lib.hid (show IsC w114 (.agg #[.bool s109, .slice A109 n109 c109]) (X2) from hF_w114.1.1.1.1.2)
  have H110 := Lib.hid (show RAt w114 (.agg #[.bool s110x, .slice A110x n110x c110x, .bool s110y, .slice A110y n110y c110y, .bool s110d, .slice A110d n110d c110d]) (P1) (P2) (P3) from hF_w114.1.1.1.2)
  have H111 := Lib.hid (show IsC w114 (.agg #[.bool s111, .slice A111 n111 c111]) (Y1) from hF_w114.1.1.2)
  have H112 := Lib.hid (show IsC w114 (.agg #[.bool s112, .slice A112 n112 c112]) (Y2) from hF_w114.1.2)
  have H113 := Lib.hid (show RAt w114 (.agg #[.bool s113x, .slice A113x n113x c113x, .bool s113y, .slice A113y n113y c113y, .bool s113d, .slice A113d n113d c113d]) (Q1) (Q2) (Q3) from hF_w114.2)
  have HB114 := Lib.hid (HB107.out.trans (hb_w114.mono (by have := HB107.out.size; omega)))
  have hz114 : w.heap.size + 1 + 1 + 1 + 1 + 1 + 1 ≤ w114.heap.size := by omega
  clear hF_w114 hb_w114
  clear c_w107_0_0 c_w107_0_1 fz_w107_0 hl_w107_0 c_w107_1_0 c_w107_1_1 fz_w107_1 hl_w107_1 c_w107_2_0 c_w107_2_1 fz_w107_2 hl_w107_2 c_w107_3_0 fz_w107_3 hl_w107_3 c_w107_4_0 c_w107_4_1 c_w107_4_2 c_w107_4_3 c_w107_4_4 c_w107_4_5 fz_w107_4 hl_w107_4 c_w107_5_0 c_w107_5_1 c_w107_5_2 c_w107_5_3 c_w107_5_4 c_w107_5_5 fz_w107_5 hl_w107_5 c_w107_6_0 fz_w107_6 hl_w107_6 c_w107_7_0 fz_w107_7 hl_w107_7 c_w107_8_0 c_w107_8_1 fz_w107_8 hl_w107_8
  go_wp2_with fail
  refine HQ_.out _ _ _ ?_
  clear HQ_ Q_
  go_wp2_with fail
  refine bodyPost_ret (v := .tuple #[.agg #[.bool s110x, .slice A110x n110x c110x, .bool s110y, .slice A110y n110y c110y, .bool s110d, .slice A110d n110d c110d], .agg #[.bool s113x, .slice A113x n113x c113x, .bool s113y, .slice A113y n113y c113y, .bool s113d, .slice A113d n113d c113d]]) (by simp only [results, Tryz.results53]; go_simp) rfl ⟨?_, ?_⟩
  · have hB := HB114.out; ((with_reducible (repeat (first | exact bR _ _ | refine bS ?_ ?_ _ | refine bA ?_ ?_ _ | refine bD ?_ | refine bT ?_ (by assumption) ?_ | refine bO (by assumption) ?_ ?_))) <;> (first | omega | (simp <;> omega)))
  · exact ⟨_, _, rfl, (by ((repeat (first | (with_reducible exact H110.out) | (with_reducible refine RAt.al ?_ _) | (with_reducible apply RAt.st1))) <;> (first | (with_reducible assumption) | (intro _ e; cases e; done) | (go_simp; first | done | exact rfl)))), (by ((repeat (first | (with_reducible exact H113.out) | (with_reducible refine RAt.al ?_ _) | (with_reducible apply RAt.st1))) <;> (first | (with_reducible assumption) | (intro _ e; cases e; done) | (go_simp; first | done | exact rfl))))⟩
theorem within_bd2 {a b n : Int} (h : withinB a b n = true) : -n ≤ a ∧ a ≤ n ∧ -n ≤ b ∧ b ≤ n := by simpa [withinB] using h
theorem lowG_pos (x y d : Int) (hd : 0 < d) : (0 : Int) < lowG x y d := by
  unfold lowG
  have : 0 < Nat.gcd (Nat.gcd x.natAbs y.natAbs) d.natAbs := Nat.gcd_pos_of_pos_right _ (by omega)
  omega
theorem lowG_dvd (x y d : Int) : (lowG x y d : Int) ∣ x ∧ (lowG x y d : Int) ∣ y ∧ (lowG x y d : Int) ∣ d := by
  unfold lowG
  have h1 : Nat.gcd (Nat.gcd x.natAbs y.natAbs) d.natAbs ∣ Nat.gcd x.natAbs y.natAbs := Nat.gcd_dvd_left _ _
  exact ⟨Int.ofNat_dvd_left.2 (Nat.dvd_trans h1 (Nat.gcd_dvd_left _ _)), Int.ofNat_dvd_left.2 (Nat.dvd_trans h1 (Nat.gcd_dvd_right _ _)), Int.ofNat_dvd_left.2 (Nat.gcd_dvd_right _ _)⟩
theorem lowR_mul (x y d : Int) (hd : 0 < d) : ∃ G : Int, 0 < G ∧ x = G * (lowR x y d).1 ∧ y = G * (lowR x y d).2.1 ∧ d = G * (lowR x y d).2.2 ∧ 0 < (lowR x y d).2.2 := by
  obtain ⟨h1, h2, h3⟩ := lowG_dvd x y d
  have hp := lowG_pos x y d hd
  have e3 : d = (lowG x y d : Int) * (lowR x y d).2.2 := (Int.mul_tdiv_cancel' h3).symm
  refine ⟨lowG x y d, hp, (Int.mul_tdiv_cancel' h1).symm, (Int.mul_tdiv_cancel' h2).symm, e3, ?_⟩
  rcases Int.lt_or_le 0 (lowR x y d).2.2 with h | h
  · exact h
  · have := Int.mul_le_mul_of_nonneg_left h (Int.le_of_lt hp)
    rw [Int.mul_zero, ← e3] at this
    omega
theorem sq_nn (x : Int) : 0 ≤ x * x := by
  rcases Int.le_total 0 x with h | h
  · exact Int.mul_nonneg h h
  · exact Int.mul_nonneg_of_nonpos_of_nonpos h h
theorem sq_le {t B : Int} (hB : 0 ≤ B) (h : t * t ≤ B * B) : -B ≤ t ∧ t ≤ B := by
  constructor
  · rcases Int.lt_or_le t (-B) with g | g
    · exfalso
      have : (B + 1) * (B + 1) ≤ (-t) * (-t) := Int.mul_le_mul (by omega) (by omega) (by omega) (by omega)
      rw [Int.neg_mul_neg] at this
      have e : (B + 1) * (B + 1) = B * B + 2 * B + 1 := by grind
      omega
    · exact g
  · rcases Int.lt_or_le B t with g | g
    · exfalso
      have : (B + 1) * (B + 1) ≤ t * t := Int.mul_le_mul (by omega) (by omega) (by omega) (by omega)
      have e : (B + 1) * (B + 1) = B * B + 2 * B + 1 := by grind
      omega
    · exact g
def Leq (r : Int × Int × Int) (n : Int) : Prop := r.1 * r.1 + r.2.1 * r.2.1 ≤ r.2.2 * r.2.2 * n
theorem leq_low {x y d n : Int} (hd : 0 < d) (h : x * x + y * y ≤ d * d * n) : Leq (lowR x y d) n := by
  obtain ⟨G, hG, e1, e2, e3, hd'⟩ := lowR_mul x y d hd
  unfold Leq
  generalize (lowR x y d).1 = x' at *
  generalize (lowR x y d).2.1 = y' at *
  generalize (lowR x y d).2.2 = d' at *
  subst e1 e2 e3
  have h2 : G * G * (x' * x' + y' * y') ≤ G * G * (d' * d' * n) := by
    have a : G * G * (x' * x' + y' * y') = G * x' * (G * x') + G * y' * (G * y') := by grind
    have b : G * G * (d' * d' * n) = G * d' * (G * d') * n := by grind
    rw [a, b]; exact h
  exact Int.le_of_mul_le_mul_left h2 (Int.mul_pos hG hG)
theorem rel_leq (u1 u2 n1 n2 e g : Int) (he : 0 ≤ e ∧ e ≤ 15) (hg : 0 ≤ g ∧ g ≤ 15) :
    ((16 - g) * u1 * (n1 * n1 + n2 * n2) - (16 + e - g) * n1 * (u1 * n1 + u2 * n2)) * ((16 - g) * u1 * (n1 * n1 + n2 * n2) - (16 + e - g) * n1 * (u1 * n1 + u2 * n2)) +
    ((16 - g) * u2 * (n1 * n1 + n2 * n2) - (16 + e - g) * n2 * (u1 * n1 + u2 * n2)) * ((16 - g) * u2 * (n1 * n1 + n2 * n2) - (16 + e - g) * n2 * (u1 * n1 + u2 * n2)) ≤
    (16 * (n1 * n1 + n2 * n2)) * (16 * (n1 * n1 + n2 * n2)) * (u1 * u1 + u2 * u2) := by
  have m0 : 0 ≤ n1 * n1 + n2 * n2 := by have := sq_nn n1; have := sq_nn n2; omega
  have s0 := sq_nn (u1 * n2 - u2 * n1)
  have c0 := sq_nn (u1 * n1 + u2 * n2)
  have id1 : ((16 - g) * u1 * (n1 * n1 + n2 * n2) - (16 + e - g) * n1 * (u1 * n1 + u2 * n2)) * ((16 - g) * u1 * (n1 * n1 + n2 * n2) - (16 + e - g) * n1 * (u1 * n1 + u2 * n2)) +
    ((16 - g) * u2 * (n1 * n1 + n2 * n2) - (16 + e - g) * n2 * (u1 * n1 + u2 * n2)) * ((16 - g) * u2 * (n1 * n1 + n2 * n2) - (16 + e - g) * n2 * (u1 * n1 + u2 * n2)) =
    (16 - g) * (16 - g) * ((n1 * n1 + n2 * n2) * ((u1 * n2 - u2 * n1) * (u1 * n2 - u2 * n1))) + e * e * ((n1 * n1 + n2 * n2) * ((u1 * n1 + u2 * n2) * (u1 * n1 + u2 * n2))) := by grind
  have id2 : (16 * (n1 * n1 + n2 * n2)) * (16 * (n1 * n1 + n2 * n2)) * (u1 * u1 + u2 * u2) =
    256 * ((n1 * n1 + n2 * n2) * ((u1 * n2 - u2 * n1) * (u1 * n2 - u2 * n1))) + 256 * ((n1 * n1 + n2 * n2) * ((u1 * n1 + u2 * n2) * (u1 * n1 + u2 * n2))) := by grind
  rw [id1, id2]
  have a := Int.mul_le_mul_of_nonneg_right (show (16 - g) * (16 - g) ≤ 256 from Int.mul_le_mul (a := 16 - g) (c := 16) (b := 16 - g) (d := 16) (by omega) (by omega) (by omega) (by omega)) (Int.mul_nonneg m0 s0)
  have b := Int.mul_le_mul_of_nonneg_right (show e * e ≤ 256 from Int.mul_le_mul (a := e) (c := 16) (b := e) (d := 16) (by omega) (by omega) (by omega) (by omega)) (Int.mul_nonneg m0 c0)
  omega
theorem statR_on {v1 v2 w1 w2 n1 n2 e g : Int} (ha : apprB v1 v2 w1 w2 n1 n2 = true) (he : sixB e = true) (hg : sixB g = true) :
    statR v1 v2 w1 w2 n1 n2 e g = lowR (statX v1 (v1 - w1) n1 (n1 * n1 + n2 * n2) ((v1 - w1) * n1 + (v2 - w2) * n2) e g) (statX v2 (v2 - w2) n2 (n1 * n1 + n2 * n2) ((v1 - w1) * n1 + (v2 - w2) * n2) e g) (16 * (n1 * n1 + n2 * n2)) := by
  unfold statR
  rw [if_pos ⟨(appr_bd ha).1, by rw [he, hg]; rfl⟩, if_pos ha]
theorem statR_off {v1 v2 w1 w2 n1 n2 e g : Int} (hp : permB v1 v2 w1 w2 n1 n2 = true) (ha : apprB v1 v2 w1 w2 n1 n2 = false) (he : sixB e = true) (hg : sixB g = true) :
    statR v1 v2 w1 w2 n1 n2 e g = (v1, v2, 1) := by
  unfold statR
  rw [if_pos ⟨hp, by rw [he, hg]; rfl⟩, if_neg (by rw [ha]; decide)]
theorem pairR_on {v1 v2 w1 w2 n1 n2 e : Int} (ha : apprB v1 v2 w1 w2 n1 n2 = true) (he : sixB e = true) :
    pairR v1 v2 w1 w2 n1 n2 e = (lowR (pairX v1 n1 (n1 * n1 + n2 * n2) ((v1 - w1) * n1 + (v2 - w2) * n2) e (-1)) (pairX v2 n2 (n1 * n1 + n2 * n2) ((v1 - w1) * n1 + (v2 - w2) * n2) e (-1)) (32 * (n1 * n1 + n2 * n2)),
       lowR (pairX w1 n1 (n1 * n1 + n2 * n2) ((v1 - w1) * n1 + (v2 - w2) * n2) e 1) (pairX w2 n2 (n1 * n1 + n2 * n2) ((v1 - w1) * n1 + (v2 - w2) * n2) e 1) (32 * (n1 * n1 + n2 * n2))) := by
  unfold pairR
  rw [if_pos ⟨(appr_bd ha).1, he⟩, if_pos ha]
theorem pairR_off {v1 v2 w1 w2 n1 n2 e : Int} (hp : permB v1 v2 w1 w2 n1 n2 = true) (ha : apprB v1 v2 w1 w2 n1 n2 = false) (he : sixB e = true) :
    pairR v1 v2 w1 w2 n1 n2 e = ((v1, v2, 1), (w1, w2, 1)) := by
  unfold pairR
  rw [if_pos ⟨hp, he⟩, if_neg (by rw [ha]; decide)]
structure Lens (r : Int × Int × Int) : Prop where
  x : (canN r.1.natAbs).length ≤ 10
  y : (canN r.2.1.natAbs).length ≤ 10
  d : (canN r.2.2.natAbs).length ≤ 10
theorem lens_vec {a b : Int} (ha : -1048576 ≤ a ∧ a ≤ 1048576) (hb : -1048576 ≤ b ∧ b ≤ 1048576) : Lens (a, b, 1) := ⟨len_wd (by simp only; omega) (by simp only; omega), len_wd (by simp only; omega) (by simp only; omega), len_wd (by simp only; omega) (by simp only; omega)⟩
theorem lens_zero : Lens (0, 0, 0) := ⟨len_wd (by decide) (by decide), len_wd (by decide) (by decide), len_wd (by decide) (by decide)⟩
theorem stat_lens (v1 v2 w1 w2 n1 n2 e g : Int) : Lens (statR v1 v2 w1 w2 n1 n2 e g) ∧ (permB v1 v2 w1 w2 n1 n2 = true → sixB e = true → sixB g = true → 0 < (statR v1 v2 w1 w2 n1 n2 e g).2.2) := by
  by_cases h : permB v1 v2 w1 w2 n1 n2 = true ∧ (sixB e && sixB g) = true
  · obtain ⟨hp, h2⟩ := h
    rw [Bool.and_eq_true] at h2
    obtain ⟨he, hg⟩ := h2
    cases ha : apprB v1 v2 w1 w2 n1 n2
    · rw [statR_off hp ha he hg]
      obtain ⟨bv, _, _⟩ := perm_bd hp
      exact ⟨lens_vec (by omega) (by omega), fun _ _ _ => Int.zero_lt_one⟩
    · rw [statR_on ha he hg]
      obtain ⟨_, _, q⟩ := appr_bd ha
      obtain ⟨_, p3, p4⟩ := perm_prod hp
      obtain ⟨a, b, c, d⟩ := lowR_bd (n := 10) (d := 16 * (n1 * n1 + n2 * n2)) (by omega) (sm1 hp he hg).len (sm2 hp he hg).len (len_wd (by omega) (by omega))
      exact ⟨⟨b, c, d⟩, fun _ _ _ => a⟩
  · have : statR v1 v2 w1 w2 n1 n2 e g = (0, 0, 0) := by unfold statR; exact if_neg h
    rw [this]
    exact ⟨lens_zero, fun a b c => absurd ⟨a, by rw [b, c]; rfl⟩ h⟩
theorem pair_lens (v1 v2 w1 w2 n1 n2 e : Int) : (Lens (pairR v1 v2 w1 w2 n1 n2 e).1 ∧ Lens (pairR v1 v2 w1 w2 n1 n2 e).2) ∧ (permB v1 v2 w1 w2 n1 n2 = true → sixB e = true → 0 < (pairR v1 v2 w1 w2 n1 n2 e).1.2.2 ∧ 0 < (pairR v1 v2 w1 w2 n1 n2 e).2.2.2) := by
  by_cases h : permB v1 v2 w1 w2 n1 n2 = true ∧ sixB e = true
  · obtain ⟨hp, he⟩ := h
    obtain ⟨bv, bw, bn⟩ := perm_bd hp
    cases ha : apprB v1 v2 w1 w2 n1 n2
    · rw [pairR_off hp ha he]
      exact ⟨⟨lens_vec (by omega) (by omega), lens_vec (by omega) (by omega)⟩, fun _ _ => ⟨Int.zero_lt_one, Int.zero_lt_one⟩⟩
    · rw [pairR_on ha he]
      obtain ⟨_, _, q⟩ := appr_bd ha
      obtain ⟨_, p3, p4⟩ := perm_prod hp
      have ld := len_wd (z := 32 * (n1 * n1 + n2 * n2)) (by omega) (by omega)
      obtain ⟨a, b, c, d⟩ := lowR_bd (n := 10) (d := 32 * (n1 * n1 + n2 * n2)) (by omega) (sp1 (x := v1) (n := n1) (sgn := -1) hp he (by omega) (by omega) (by omega)).len (sp1 (x := v2) (n := n2) (sgn := -1) hp he (by omega) (by omega) (by omega)).len ld
      obtain ⟨a', b', c', d'⟩ := lowR_bd (n := 10) (d := 32 * (n1 * n1 + n2 * n2)) (by omega) (sp1 (x := w1) (n := n1) (sgn := 1) hp he (by omega) (by omega) (by omega)).len (sp1 (x := w2) (n := n2) (sgn := 1) hp he (by omega) (by omega) (by omega)).len ld
      exact ⟨⟨⟨b, c, d⟩, ⟨b', c', d'⟩⟩, fun _ _ => ⟨a, a'⟩⟩
  · have : pairR v1 v2 w1 w2 n1 n2 e = ((0, 0, 0), (0, 0, 0)) := by unfold pairR; exact if_neg h
    rw [this]
    exact ⟨⟨lens_zero, lens_zero⟩, fun a b => absurd ⟨a, b⟩ h⟩
theorem Lens.val {r : Int × Int × Int} (h : Lens r) (hd : 0 < r.2.2) : Val r := ⟨hd, by have := h.x; omega, by have := h.y; omega, by have := h.d; omega⟩
theorem stat_rel {v1 v2 w1 w2 n1 n2 e g : Int} (hp : permB v1 v2 w1 w2 n1 n2 = true) (he : sixB e = true) (hg : sixB g = true) :
    Leq (sumR (statR v1 v2 w1 w2 n1 n2 e g) (-w1, -w2, 1)) ((v1 - w1) * (v1 - w1) + (v2 - w2) * (v2 - w2)) := by
  unfold sumR
  cases ha : apprB v1 v2 w1 w2 n1 n2
  · rw [statR_off hp ha he hg]
    refine leq_low (by simp only; omega) ?_
    simp only
    apply Int.le_of_eq
    grind
  · rw [statR_on ha he hg]
    obtain ⟨_, _, q⟩ := appr_bd ha
    simp only [sixB, decide_eq_true_eq] at he hg
    have hrel := rel_leq (v1 - w1) (v2 - w2) n1 n2 e g he hg
    obtain ⟨G, hG, e1, e2, e3, hd⟩ := lowR_mul (statX v1 (v1 - w1) n1 (n1 * n1 + n2 * n2) ((v1 - w1) * n1 + (v2 - w2) * n2) e g) (statX v2 (v2 - w2) n2 (n1 * n1 + n2 * n2) ((v1 - w1) * n1 + (v2 - w2) * n2) e g) (16 * (n1 * n1 + n2 * n2)) (by omega)
    generalize hL : lowR (statX v1 (v1 - w1) n1 (n1 * n1 + n2 * n2) ((v1 - w1) * n1 + (v2 - w2) * n2) e g) (statX v2 (v2 - w2) n2 (n1 * n1 + n2 * n2) ((v1 - w1) * n1 + (v2 - w2) * n2) e g) (16 * (n1 * n1 + n2 * n2)) = L at *
    obtain ⟨x, y, d⟩ := L
    simp only at e1 e2 e3 hd ⊢
    refine leq_low (by omega) ?_
    have h2 : G * G * ((x * 1 + -w1 * d) * (x * 1 + -w1 * d) + (y * 1 + -w2 * d) * (y * 1 + -w2 * d)) ≤ G * G * (d * 1 * (d * 1) * ((v1 - w1) * (v1 - w1) + (v2 - w2) * (v2 - w2))) := by
      have r1 : G * (x * 1 + -w1 * d) = (16 - g) * (v1 - w1) * (n1 * n1 + n2 * n2) - (16 + e - g) * n1 * ((v1 - w1) * n1 + (v2 - w2) * n2) := by
        have : G * (x * 1 + -w1 * d) = G * x - w1 * (G * d) := by grind
        rw [this, ← e1, ← e3]; unfold statX; grind
      have r2 : G * (y * 1 + -w2 * d) = (16 - g) * (v2 - w2) * (n1 * n1 + n2 * n2) - (16 + e - g) * n2 * ((v1 - w1) * n1 + (v2 - w2) * n2) := by
        have : G * (y * 1 + -w2 * d) = G * y - w2 * (G * d) := by grind
        rw [this, ← e2, ← e3]; unfold statX; grind
      have a : G * G * ((x * 1 + -w1 * d) * (x * 1 + -w1 * d) + (y * 1 + -w2 * d) * (y * 1 + -w2 * d)) = G * (x * 1 + -w1 * d) * (G * (x * 1 + -w1 * d)) + G * (y * 1 + -w2 * d) * (G * (y * 1 + -w2 * d)) := by grind
      have b : G * G * (d * 1 * (d * 1) * ((v1 - w1) * (v1 - w1) + (v2 - w2) * (v2 - w2))) = G * d * (G * d) * ((v1 - w1) * (v1 - w1) + (v2 - w2) * (v2 - w2)) := by grind
      rw [a, b, r1, r2, ← e3]
      exact hrel
    exact Int.le_of_mul_le_mul_left h2 (Int.mul_pos hG hG)
theorem pair_leq {v1 v2 w1 w2 n1 n2 e : Int} (hp : permB v1 v2 w1 w2 n1 n2 = true) (he : sixB e = true) :
    ((pairR v1 v2 w1 w2 n1 n2 e).1.1 * (pairR v1 v2 w1 w2 n1 n2 e).1.1 + (pairR v1 v2 w1 w2 n1 n2 e).1.2.1 * (pairR v1 v2 w1 w2 n1 n2 e).1.2.1) * ((pairR v1 v2 w1 w2 n1 n2 e).2.2.2 * (pairR v1 v2 w1 w2 n1 n2 e).2.2.2) +
    ((pairR v1 v2 w1 w2 n1 n2 e).2.1 * (pairR v1 v2 w1 w2 n1 n2 e).2.1 + (pairR v1 v2 w1 w2 n1 n2 e).2.2.1 * (pairR v1 v2 w1 w2 n1 n2 e).2.2.1) * ((pairR v1 v2 w1 w2 n1 n2 e).1.2.2 * (pairR v1 v2 w1 w2 n1 n2 e).1.2.2) ≤
    ((pairR v1 v2 w1 w2 n1 n2 e).1.2.2 * (pairR v1 v2 w1 w2 n1 n2 e).1.2.2) * ((pairR v1 v2 w1 w2 n1 n2 e).2.2.2 * (pairR v1 v2 w1 w2 n1 n2 e).2.2.2) * (v1 * v1 + v2 * v2 + (w1 * w1 + w2 * w2)) := by
  cases ha : apprB v1 v2 w1 w2 n1 n2
  · rw [pairR_off hp ha he]
    simp only
    omega
  · rw [pairR_on ha he]
    obtain ⟨_, _, q⟩ := appr_bd ha
    simp only [sixB, decide_eq_true_eq] at he
    generalize hC : (v1 - w1) * n1 + (v2 - w2) * n2 = C at *
    generalize hM : n1 * n1 + n2 * n2 = M at *
    obtain ⟨G, hG, e1, e2, e3, hd⟩ := lowR_mul (pairX v1 n1 M C e (-1)) (pairX v2 n2 M C e (-1)) (32 * M) (by omega)
    obtain ⟨H, hH, f1, f2, f3, hd'⟩ := lowR_mul (pairX w1 n1 M C e 1) (pairX w2 n2 M C e 1) (32 * M) (by omega)
    have hcore : (pairX v1 n1 M C e (-1)) * (pairX v1 n1 M C e (-1)) + (pairX v2 n2 M C e (-1)) * (pairX v2 n2 M C e (-1)) + ((pairX w1 n1 M C e 1) * (pairX w1 n1 M C e 1) + (pairX w2 n2 M C e 1) * (pairX w2 n2 M C e 1)) ≤ (32 * M) * (32 * M) * (v1 * v1 + v2 * v2 + (w1 * w1 + w2 * w2)) := by
      have id : (pairX v1 n1 M C e (-1)) * (pairX v1 n1 M C e (-1)) + (pairX v2 n2 M C e (-1)) * (pairX v2 n2 M C e (-1)) + ((pairX w1 n1 M C e 1) * (pairX w1 n1 M C e 1) + (pairX w2 n2 M C e 1) * (pairX w2 n2 M C e 1)) = (32 * M) * (32 * M) * (v1 * v1 + v2 * v2 + (w1 * w1 + w2 * w2)) - 2 * ((16 + e) * ((16 - e) * (M * (C * C)))) := by
        unfold pairX
        rw [← hC, ← hM]
        grind
      have : 0 ≤ (16 + e) * ((16 - e) * (M * (C * C))) := Int.mul_nonneg (by omega) (Int.mul_nonneg (by omega) (Int.mul_nonneg (by omega) (sq_nn C)))
      omega
    generalize (lowR (pairX v1 n1 M C e (-1)) (pairX v2 n2 M C e (-1)) (32 * M)) = p at *
    generalize (lowR (pairX w1 n1 M C e 1) (pairX w2 n2 M C e 1) (32 * M)) = r at *
    obtain ⟨x, y, d⟩ := p
    obtain ⟨x', y', d'⟩ := r
    simp only at *
    rw [e1, e2, f1, f2] at hcore
    have hD : 32 * M * (32 * M) = G * d * (G * d) := by rw [← e3]
    have hD' : H * d' * (H * d') = G * d * (G * d) := by rw [← e3, ← f3]
    have hN := hcore
    rw [hD] at hN
    generalize v1 * v1 + v2 * v2 + (w1 * w1 + w2 * w2) = N at *
    have hpos : 0 < G * G * (H * H) := Int.mul_pos (Int.mul_pos hG hG) (Int.mul_pos hH hH)
    refine Int.le_of_mul_le_mul_left ?_ hpos
    have a1 : G * G * (H * H) * ((x * x + y * y) * (d' * d') + (x' * x' + y' * y') * (d * d)) = (G * x * (G * x) + G * y * (G * y)) * (H * d' * (H * d')) + (H * x' * (H * x') + H * y' * (H * y')) * (G * d * (G * d)) := by grind
    have a2 : G * G * (H * H) * (d * d * (d' * d') * N) = (G * d * (G * d)) * ((H * d' * (H * d')) * N) := by grind
    rw [a1, a2, hD']
    have := Int.mul_le_mul_of_nonneg_left hN (sq_nn (G * d))
    have a3 : (G * x * (G * x) + G * y * (G * y)) * (G * d * (G * d)) + (H * x' * (H * x') + H * y' * (H * y')) * (G * d * (G * d)) = G * d * (G * d) * (G * x * (G * x) + G * y * (G * y) + (H * x' * (H * x') + H * y' * (H * y'))) := by grind
    rw [a3]
    exact this
set_option maxHeartbeats 1000000 in
theorem trim_any (n : Nat) (v : Value) (z : Int) (w : World) (h : IsZ w v n z) (hn : n ≤ 1000000) :
    Calls Tryz.prog 80 #[v] w (ZOut z w) := by
  obtain ⟨neg, A, c, l, rfl, hc, hL, hl, hA, rfl⟩ := h
  have hm := fun w hA => make1_any neg A l c w hL hA hc (by omega)
  obtain ⟨Z, hZ⟩ : ∃ Z, Z = sv neg (mv l) := ⟨_, rfl⟩
  rw [← hZ] at hm ⊢
  have HM := Lib.hid hm
  have HA := Lib.hid hA
  clear hm hA hZ
  go_enter Tryz.func80, Tryz.ntmps80; (try simp only [List.append_eq, List.cons_append, List.nil_append])
  go_wp2_with fail
  (go_at_call 71; refine (HM.out _ ((HA.out.alloc _).alloc _)).mono ?_; rintro e w1 ⟨hb_w1, v1, rfl, hv1⟩; have hz_w1 := hb_w1.size; (try simp at hz_w1); (with_reducible apply cel2 (b := w.heap.size) hb_w1); (focus ((try simp) <;> omega)); (focus omega); (iterate 2 (focus (go_simp; try exact rfl))); (focus (intro o; go_simp)); intro cc cc fz hl; (with_reducible apply cel2 (b := w.heap.size + 1) hb_w1); (focus ((try simp) <;> omega)); (focus omega); (iterate 2 (focus (go_simp; try exact rfl))); (focus (intro o; go_simp)); intro cc cc fz hl)
  obtain ⟨A1, c1, rfl, hc1, hA1⟩ := hv1
  have HC := Lib.hid hc1
  have HA1 := Lib.hid hA1
  clear hc1 hA1
  go_wp2_with fail
  refine bodyPost_ret (v := .agg #[.bool (decide (Z < 0)), .slice A1 (canN Z.natAbs).length c1]) (by simp only [results, Tryz.results80]; go_simp) rfl ⟨?_, ?_⟩
  · ((with_reducible (repeat (first | exact bR _ _ | refine bS ?_ ?_ _ | refine bA ?_ ?_ _ | refine bD ?_ | refine bT ?_ (by assumption) ?_ | refine bO (by assumption) ?_ ?_))) <;> (first | omega | (simp <;> omega)))
  · exact ⟨_, rfl, A1, c1, rfl, HC.out, HA1.out.set2 (by assumption) (by assumption) _ _⟩
def numR (z : Int) : Int × Bool := if -9223372036854775808 ≤ z ∧ z ≤ 9223372036854775807 then (z, true) else (0, false)
set_option maxRecDepth 100000 in
set_option maxHeartbeats 2000000 in
theorem number_any (n : Nat) (v : Value) (z : Int) (w : World) (h : IsZ w v n z) (hn : n ≤ 1000000) :
    Calls Tryz.prog 47 #[v] w fun e w' => e = .returned (.tuple #[.int .i64 (numR z).1, .bool (numR z).2]) ∧ Below w.heap.size w w' := by
  have hlen := isZ_len h
  have hZ := Lib.hid h
  obtain ⟨p, A, c, l, rfl⟩ := isZ_val h
  have htr := fun w' (hb : Below w.heap.size w w') => trim_any n _ z w' (hZ.out.below hb) hn
  have HTR := Lib.hid htr
  obtain ⟨r1, r2, hr⟩ : ∃ r1 r2, numR z = (r1, r2) := ⟨_, _, rfl⟩
  rw [hr]
  have HR := Lib.hid hr
  obtain ⟨m, hm⟩ : ∃ m, m = z.natAbs := ⟨_, rfl⟩
  rw [← hm] at hlen
  have HM := Lib.hid hm
  obtain ⟨ln, hln⟩ : ∃ ln, ln = (canN m).length := ⟨_, rfl⟩
  rw [← hln] at hlen
  have HLN := Lib.hid hln
  clear h htr hr hm hln
  go_enter Tryz.func47, Tryz.ntmps47; (try simp only [List.append_eq, List.cons_append, List.nil_append])
  go_wp2_with fail
  (go_at_call 80; refine (HTR.out _ (by ((with_reducible (repeat (first | exact bR _ _ | refine bS ?_ ?_ _ | refine bA ?_ ?_ _ | refine bD ?_ | refine bT ?_ (by assumption) ?_ | refine bO (by assumption) ?_ ?_))) <;> (first | omega | (simp <;> omega))))).mono ?_; rintro e w1 ⟨hb_w1, v1, rfl, hv1⟩; have hz_w1 := hb_w1.size; (try simp at hz_w1); (with_reducible apply cel2 (b := w.heap.size) hb_w1); (focus ((try simp) <;> omega)); (focus omega); (iterate 2 (focus (go_simp; try exact rfl))); (focus (intro o; go_simp)); intro cc cc fz hl)
  obtain ⟨A1, c1, rfl, hc1, hA1⟩ := hv1
  rw [← HM.out] at hc1 hA1 ⊢
  rw [← HLN.out] at hc1 ⊢
  have HA1 := Lib.hid hA1
  have HB1 := Lib.hid (show Below w.heap.size w w1 by ((with_reducible (repeat (first | exact bR _ _ | refine bS ?_ ?_ _ | refine bA ?_ ?_ _ | refine bD ?_ | refine bT ?_ (by assumption) ?_ | refine bO (by assumption) ?_ ?_))) <;> (first | omega | (simp <;> omega))))
  have hz1 : w.heap.size + 1 ≤ w1.heap.size := by omega
  clear hA1 hb_w1
  obtain ⟨ng, hng⟩ : ∃ ng, ng = decide (z < 0) := ⟨_, rfl⟩
  rw [← hng]
  have HNG := Lib.hid hng
  clear hng
  go_wp2_with fail
  have hlnm : (ln : Int) ≤ 1000000 := by omega
  go_loop [5, 6] (fun vu vi => ∃ (k : Nat) (u : Int), k ≤ ln ∧ vi = .int .i64 ((k : Int) - 1) ∧ vu = .int .u64 u ∧ Hid (ln ≤ 2 → u = mv ((canN m).drop k))) (fun _ vi => (intOf vi + 1).toNat)
  case atStart => exact ⟨ln, 0, Nat.le_refl _, rfl, rfl, Lib.hid (fun _ => by rw [List.drop_of_length_le (by rw [← HLN.out]; exact Nat.le_refl _)]; rfl)⟩
  case round =>
    obtain ⟨k, u, hk, rfl, rfl, HU⟩ := hrel
    rcases k with _ | j
    · by_cases h2 : ln ≤ 2
      · have hu := HU.out h2
        rw [List.drop_zero, mv_canN] at hu
        subst hu
        have hm64 : (m : Int) < 18446744073709551616 := by
          have := (@canN_len m 2).1 (by rw [← HLN.out]; exact h2)
          have e : PB 2 = 18446744073709551616 := by decide
          omega
        have m0 : (0 : Int) ≤ (m : Int) := by omega
        have h3 : ¬ (2 : Int) < (ln : Int) := by omega
        have h3' : decide (2 < ln) = false := by simpa using h2
        have h3'' : ¬ 2 < ln := by omega
        have hr := HR.out
        unfold numR at hr
        have hmz := HM.out
        obtain ⟨M, hM⟩ : ∃ M : Int, M = (m : Int) := ⟨_, rfl⟩
        rw [← hM] at hm64 m0 ⊢
        by_cases hneg : z < 0
        · obtain rfl : ng = true := by rw [HNG.out]; exact decide_eq_true hneg
          by_cases hle : M ≤ 9223372036854775808
          · have hfin : r1 = z ∧ r2 = true := by rw [if_pos (by omega)] at hr; simp only [Prod.mk.injEq] at hr; exact ⟨hr.1.symm, hr.2.symm⟩
            obtain ⟨rfl, rfl⟩ := hfin
            obtain ⟨U, hU⟩ : ∃ U, U = IntKind.u64.wrap (-M) := ⟨_, rfl⟩
            have e2 : IntKind.i64.wrap U = r1 := by rw [hU, IntKind.wrap_u64, IntKind.wrap_i64]; omega
            have e1 := hU.symm
            clear hU hr hmz hM
            go_wp2_with fail
            go_ret2
            exact ⟨rfl, HB1.out.alloc (by omega) _⟩
          · have hle' : ¬ M ≤ 9223372036854775808 := hle
            have hfin : r1 = 0 ∧ r2 = false := by rw [if_neg (by omega)] at hr; simp only [Prod.mk.injEq] at hr; exact ⟨hr.1.symm, hr.2.symm⟩
            obtain ⟨rfl, rfl⟩ := hfin
            clear hr hmz hM
            go_wp2_with fail
            go_ret2
            exact ⟨rfl, HB1.out.alloc (by omega) _⟩
        · obtain rfl : ng = false := by rw [HNG.out]; exact decide_eq_false hneg
          by_cases hle : M < 9223372036854775808
          · have hfin : r1 = z ∧ r2 = true := by rw [if_pos (by omega)] at hr; simp only [Prod.mk.injEq] at hr; exact ⟨hr.1.symm, hr.2.symm⟩
            obtain ⟨rfl, rfl⟩ := hfin
            obtain rfl : M = r1 := by omega
            clear hr hmz hM
            go_wp2_with fail
            go_ret2
            exact ⟨rfl, HB1.out.alloc (by omega) _⟩
          · have hle' : ¬ M < 9223372036854775808 := hle
            have hfin : r1 = 0 ∧ r2 = false := by rw [if_neg (by omega)] at hr; simp only [Prod.mk.injEq] at hr; exact ⟨hr.1.symm, hr.2.symm⟩
            obtain ⟨rfl, rfl⟩ := hfin
            clear hr hmz hM
            go_wp2_with fail
            go_ret2
            exact ⟨rfl, HB1.out.alloc (by omega) _⟩
      · have h3 : (2 : Int) < (ln : Int) := by omega
        have h3'' : 2 < ln := by omega
        have hbig : ¬ (m : Int) < PB 2 := fun h => h2 (by rw [HLN.out]; exact canN_len.2 h)
        have e : PB 2 = 18446744073709551616 := by decide
        have hmz := HM.out
        have hr := HR.out
        unfold numR at hr
        rw [if_neg (by omega)] at hr
        simp only [Prod.mk.injEq] at hr
        obtain ⟨rfl, rfl⟩ := hr
        clear hbig e hmz
        go_wp2_with fail
        go_ret2
        exact ⟨rfl, HB1.out.alloc (by omega) _⟩
    · obtain ⟨x, hx⟩ : ∃ x, (canN m)[j]? = some x := ⟨(canN m)[j]'(by rw [← HLN.out]; omega), by simp⟩
      obtain ⟨x0, x1⟩ := (canN_lim m).get hx
      obtain ⟨g, o, rfl, hg, hcell⟩ := HA1.out j x hx
      have HX := Lib.hid hx
      have i1 : (0 : Int) ≤ (j : Int) := by omega
      have i2 : (j : Int) < (ln : Int) := by omega
      rw [show (((j + 1 : Nat) : Int) - 1) = (j : Int) by omega]
      clear hx
      by_cases h2 : ln ≤ 2
      · have hu := HU.out h2
        have hlt := mv_lt ((canN_lim m).drop (j + 1))
        have hnn := mv_nonneg ((canN_lim m).drop (j + 1))
        rw [← hu] at hlt hnn
        have hu1 : u < 4294967296 := by
          have hl : ((canN m).drop (j + 1)).length ≤ 1 := by rw [List.length_drop, ← HLN.out]; omega
          have e0 : PB 0 = 1 := by decide
          have e1 : PB 1 = 4294967296 := by decide
          have : ((canN m).drop (j + 1)).length = 0 ∨ ((canN m).drop (j + 1)).length = 1 := by omega
          rcases this with h | h
          · rw [h] at hlt; omega
          · rw [h] at hlt; omega
        have hsh : IntKind.u64.wrap (u * 4294967296) = u * 4294967296 := by rw [IntKind.wrap_u64]; omega
        obtain ⟨v, hv⟩ : ∃ v, v = u * 4294967296 + x := ⟨_, rfl⟩
        have hor : bits .or .u64 (u * 4294967296) x = v := by
          rw [hv]
          exact bits_join .u64 64 (by decide) wraps_u64' 32 (u * 4294967296) x (by omega) (Int.mul_emod_left _ _) (by omega) x0 (by omega) (by omega)
        have HV := Lib.hid (show v = mv ((canN m).drop j) by rw [mv_drop_succ HX.out, ← hu, hv]; omega)
        clear hu hlt hnn hv
        go_wp2_with fail
        go_round
        case rel => exact ⟨j, v, by omega, rfl, rfl, Lib.hid (fun _ => HV.out)⟩
        case measure => simp [intOf]
      · go_wp2_with fail
        go_round
        case rel => exact ⟨j, _, by omega, rfl, rfl, Lib.hid (fun h => absurd h h2)⟩
        case measure => simp [intOf]
set_option maxRecDepth 100000 in
set_option maxHeartbeats 2000000 in
theorem rbits_any (n : Nat) (v : Value) (z : Int) (w : World) (h : IsZ w v n z) (hn : n ≤ 400000) :
    Calls Tryz.prog 78 #[v] w fun e w' => e = .returned (.int .i64 (bitN z.natAbs)) ∧ Below w.heap.size w w' := by
  obtain ⟨p, A, c, l, rfl, hc, hL, hl, hAt, ea, ma, ca⟩ := isZ_open h
  have hma := fun w' (h : Below w.heap.size w w') => mag_any A l c w' hL (hAt.below h) hc (by omega)
  rw [ma] at hma
  obtain ⟨x, hx⟩ : ∃ x, x = z.natAbs := ⟨_, rfl⟩
  rw [← hx] at hma ca ⊢
  obtain ⟨ln, hln⟩ : ∃ q, q = l.length := ⟨_, rfl⟩
  rw [← hln] at hma ⊢
  have HMA := Lib.hid hma
  clear hma hAt ea ma h hx hc hL hl hln
  have HC := Lib.hid ca
  go_enter Tryz.func78, Tryz.ntmps78; (try simp only [List.append_eq, List.cons_append, List.nil_append])
  go_wp2_with fail
  (go_at_call 70; refine (HMA.out _ (by ((with_reducible (repeat (first | exact bR _ _ | refine bS ?_ ?_ _ | refine bA ?_ ?_ _ | refine bD ?_ | refine bT ?_ (by assumption) ?_ | refine bO (by assumption) ?_ ?_))) <;> (first | omega | (simp <;> omega))))).mono ?_; rintro e w1 ⟨hb_w1, A1, c1, rfl, hc1, hA1⟩; have hz_w1 := hb_w1.size; (try simp at hz_w1); (with_reducible apply cel2 (b := w.heap.size) hb_w1); (focus ((try simp) <;> omega)); (focus omega); (iterate 2 (focus (go_simp; try exact rfl))); (focus (intro o; go_simp)); intro cc cc fz hl)
  have HB1 := Lib.hid (show Below w.heap.size w w1 by ((with_reducible (repeat (first | exact bR _ _ | refine bS ?_ ?_ _ | refine bA ?_ ?_ _ | refine bD ?_ | refine bT ?_ (by assumption) ?_ | refine bO (by assumption) ?_ ?_))) <;> (first | omega | (simp <;> omega))))
  clear hb_w1
  by_cases h0 : x = 0
  · subst h0
    clear hA1 HC ca
    rw [canN_zero]
    simp only [List.length_nil]
    go_wp2_with fail
    go_ret
    exact ⟨rfl, HB1.out⟩
  · have hl0 : (canN x).length ≠ 0 := fun e => h0 (canN_len0.1 e)
    obtain ⟨m, hm⟩ : ∃ m, (canN x).length = m + 1 := ⟨(canN x).length - 1, by omega⟩
    obtain ⟨t, ht⟩ : ∃ t, (canN x)[m]? = some t := ⟨(canN x)[m], by simp⟩
    have hbt := bitN_limbs hm ht
    obtain ⟨t0, t1⟩ := (canN_lim x).get ht
    obtain ⟨g, o, rfl, hg, hcell⟩ := hA1 m t ht
    rw [hm]
    obtain ⟨tn, rfl⟩ : ∃ tn : Nat, t = tn := ⟨t.toNat, by omega⟩
    rw [Int.toNat_natCast] at hbt
    have HBT := Lib.hid hbt
    have hm1 : (m : Int) + 1 ≤ 400000 := by omega
    have HT := Lib.hid (show tn < 4294967296 from by omega)
    have t2 : (tn : Int) < 4294967296 := t1
    obtain ⟨xi, hxi⟩ : ∃ xi : Int, xi = (tn : Int) := ⟨_, rfl⟩
    rw [← hxi] at hcell t2
    have HXI := Lib.hid hxi
    have x00 : 0 ≤ xi := by omega
    have c10 : (m : Int) + 1 ≤ (c1 : Int) := by omega
    have e0 : (((m + 1 : Nat) : Int) == 0) = false := by rw [beq_eq_false_iff_ne]; omega
    have e1 : (((m : Int) + 1) == 0) = false := by rw [beq_eq_false_iff_ne]; omega
    clear ca hbt ht hl0 h0 hA1 HC hc1 t0 t1 hxi hm
    go_wp2_with fail
    go_loop [4, 5] (fun vn vx => ∃ (n' : Nat) (x : Int), vn = .int .i64 n' ∧ vx = .int .u32 x ∧ 0 ≤ x ∧ x < 4294967296 ∧ n' ≤ 13000000 ∧ Hid (n' + Lib.bitLen x.toNat = 32 * m + Lib.bitLen tn)) (fun _ vx => (intOf vx).toNat)
    case atStart =>
      refine ⟨32 * m, xi, by go_num, rfl, x00, t2, by omega, Lib.hid ?_⟩
      rw [show xi.toNat = tn by have := HXI.out; omega]
    case round =>
      obtain ⟨n', x, rfl, rfl, x0, x1, hn', HI⟩ := hrel
      have n0 : (0 : Int) ≤ (n' : Int) := by omega
      have n1 : (n' : Int) ≤ 13000000 := by omega
      by_cases hx : 0 < x
      · have hlen : Lib.bitLen x.toNat ≤ 32 := Lib.bitLen_le _ 32 (by decide) (by omega)
        have hhf := Lib.bitLen_half x.toNat (by omega) (by omega)
        have HST := Lib.hid (show (n' + 1) + Lib.bitLen (x / 2).toNat = 32 * m + Lib.bitLen tn by
          have h1 := HI.out
          rw [hhf] at h1
          rw [show (x / 2).toNat = x.toNat / 2 by omega]
          omega)
        have hB : Lib.bitLen tn ≤ 32 := Lib.bitLen_le _ 32 (by decide) (by have := HT.out; omega)
        have hnn : n' + 1 ≤ 13000000 := by have := HST.out; omega
        clear hlen hhf hB
        go_wp2_with fail
        go_round
        case rel => exact ⟨n' + 1, x / 2, by go_num, by go_num, by omega, by omega, hnn, HST⟩
        case measure => simp [intOf]; omega
      · have hx0 : x = 0 := by omega
        have HF := Lib.hid (show n' = 32 * m + Lib.bitLen tn by
          have h1 := HI.out
          rw [hx0] at h1
          have : Lib.bitLen (0 : Int).toNat = 0 := rfl
          omega)
        clear hx0
        go_wp2_with fail
        go_ret
        refine ⟨?_, HB1.out⟩
        rw [HF.out, HBT.out]
        rfl
set_option maxHeartbeats 400000 in
theorem rnear_any2 (x y n : Int) (w : World) (h0 : 0 ≤ n) (h1 : n ≤ 2000000000) :
    Calls Tryz.prog 48 #[.agg #[.int .i64 x, .int .i64 y], .int .i64 n] w fun e w' => e = .returned (.bool (withinB x y n)) ∧ Below w.heap.size w w' := by
  go_enter Tryz.func48, Tryz.ntmps48; (try simp only [List.append_eq, List.cons_append, List.nil_append])
  go_wp2
  all_goals
    go_ret
    refine ⟨ret_bool (bool_iff ?_), (Below.refl _ _).alloc (Nat.le_refl _) _⟩
    simp only [withinB, decide_eq_true_eq, Bool.false_eq_true, false_iff]; omega
theorem bits_len {z : Int} (h : (canN z.natAbs).length ≤ 32) : bitN z.natAbs ≤ 1024 := by
  rcases hl : (canN z.natAbs).length with _ | m
  · rw [canN_len0.1 hl]; decide
  · obtain ⟨t, ht⟩ : ∃ t, (canN z.natAbs)[m]? = some t := ⟨(canN z.natAbs)[m], by simp⟩
    rw [bitN_limbs hl ht]
    obtain ⟨t0, t1⟩ := (canN_lim z.natAbs).get ht
    have : Lib.bitLen t.toNat ≤ 32 := Lib.bitLen_le _ 32 (by decide) (by omega)
    omega
structure UOk (k : Nat) (S : Int × Int × Int) (X Y D : Int) : Prop where
  d : 0 < D
  lx : (canN X.natAbs).length ≤ 33 * k + 1
  ly : (canN Y.natAbs).length ≤ 33 * k + 1
  ld : (canN D.natAbs).length ≤ 33 * k + 1
  s : 0 < S.2.2
  g : ∃ G : Int, 0 < G ∧ X = G * S.1 ∧ Y = G * S.2.1 ∧ D = G * S.2.2
theorem UOk.zero : UOk 0 (0, 0, 1) 0 0 1 := ⟨by decide, SumOk.zero.lx, SumOk.zero.ly, SumOk.zero.ld, by decide, 1, by decide, rfl, rfl, rfl⟩
theorem UOk.step {k : Nat} {S : Int × Int × Int} {X Y D x y d : Int} (h : UOk k S X Y D) (hr : Val (x, y, d)) : UOk (k + 1) (sumR S (x, y, d)) (X * d + x * D) (Y * d + y * D) (D * d) := by
  obtain ⟨hd, lx, ly, ld, hs, G, hG, e1, e2, e3⟩ := h
  obtain ⟨d2, lx2, ly2, ld2⟩ := hr
  simp only at d2 lx2 ly2 ld2
  have a := len_add (a := 33 * k + 1 + 32) (len_mul lx ld2) (len_up (len_mul lx2 ld) (by omega))
  have b := len_add (a := 33 * k + 1 + 32) (len_mul ly ld2) (len_up (len_mul ly2 ld) (by omega))
  have c := len_mul ld ld2
  unfold sumR
  obtain ⟨H, hH, f1, f2, f3, hd'⟩ := lowR_mul (S.1 * d + x * S.2.2) (S.2.1 * d + y * S.2.2) (S.2.2 * d) (Int.mul_pos hs d2)
  simp only
  generalize lowR (S.1 * d + x * S.2.2) (S.2.1 * d + y * S.2.2) (S.2.2 * d) = L at *
  refine ⟨Int.mul_pos hd d2, len_up a (by omega), len_up b (by omega), len_up c (by omega), hd', G * H, Int.mul_pos hG hH, ?_, ?_, ?_⟩
  · rw [Int.mul_assoc, ← f1, e1, e3]; grind
  · rw [Int.mul_assoc, ← f2, e2, e3]; grind
  · rw [Int.mul_assoc, ← f3, e3]; grind
theorem UOk.mean {k : Nat} {S : Int × Int × Int} {X Y D n : Int} (h : UOk k S X Y D) : X.tdiv (D * n) = S.1.tdiv (S.2.2 * n) ∧ Y.tdiv (D * n) = S.2.1.tdiv (S.2.2 * n) := by
  obtain ⟨_, _, _, _, _, G, hG, e1, e2, e3⟩ := h
  rw [e1, e2, e3, Int.mul_assoc]
  exact ⟨Int.mul_tdiv_mul_of_pos _ _ hG, Int.mul_tdiv_mul_of_pos _ _ hG⟩
set_option maxRecDepth 100000 in
set_option maxHeartbeats 20000000 in
theorem fit_yes (x y d : Int) (v : Value) (w : World) (hu : RAt w v x y d) (hv : Val (x, y, d)) :
    Calls Tryz.prog 45 #[v] w fun e w' => e = .returned (.bool true) ∧ Below w.heap.size w w' := by
  have h0 := hu
  obtain ⟨spx, Apx, npx, cpx, spy, Apy, npy, cpy, spd, Apd, npd, cpd, rfl⟩ := hu.val
  obtain ⟨hd, lx, ly, ld⟩ := hv
  simp only at hd lx ly ld
  have hs : sgn d = 1 := by unfold sgn; rw [if_neg (by omega), if_neg (by omega)]
  have k1 := fun v w h => sign_any 32 v d w h (by omega)
  rw [hs] at k1
  obtain ⟨p, hp⟩ : ∃ p : Int, p = (bitN x.natAbs : Int) := ⟨_, rfl⟩
  obtain ⟨q, hq⟩ : ∃ q : Int, q = (bitN y.natAbs : Int) := ⟨_, rfl⟩
  obtain ⟨r, hr⟩ : ∃ r : Int, r = (bitN d.natAbs : Int) := ⟨_, rfl⟩
  have k2 := fun v w h => rbits_any 32 v x w h (by omega)
  have k3 := fun v w h => rbits_any 32 v y w h (by omega)
  have k4 := fun v w h => rbits_any 32 v d w h (by omega)
  rw [← hp] at k2
  rw [← hq] at k3
  rw [← hr] at k4
  have p2 : p ≤ 1024 := by have := bits_len lx; omega
  have q2 : q ≤ 1024 := by have := bits_len ly; omega
  have r2 : r ≤ 1024 := by have := bits_len ld; omega
  have K1 := Lib.hid k1
  have K2 := Lib.hid k2
  have K3 := Lib.hid k3
  have K4 := Lib.hid k4
  have H0 := Lib.hid h0
  have LX := Lib.hid lx
  have LY := Lib.hid ly
  have LD := Lib.hid ld
  clear k1 k2 k3 k4 h0 hu lx ly ld hd hs hp hq hr
  go_enter Tryz.func45, Tryz.ntmps45; (try simp only [List.append_eq, List.cons_append, List.nil_append])
  go_wp2_with fail
  (go_at_call 77; refine (K1.out _ _ ((RAt.pd (show RAt _ (.agg #[.bool spx, .slice Apx npx cpx, .bool spy, .slice Apy npy cpy, .bool spd, .slice Apd npd cpd]) (x) (y) (d) by ((repeat (first | (with_reducible exact H0.out) | (with_reducible refine RAt.al ?_ _) | (with_reducible apply RAt.st1))) <;> (first | (with_reducible assumption) | (intro _ e; cases e; done) | (go_simp; first | done | exact rfl))))).zl LD.out)).mono ?_; rintro e w4 ⟨rfl, hb_w4⟩; have hz_w4 := hb_w4.size; (try simp at hz_w4); (with_reducible apply cel6 (b := w.heap.size) hb_w4); (focus ((try simp) <;> omega)); (focus omega); (iterate 6 (focus (go_simp; try exact rfl))); (focus (intro o; go_simp)); intro c_w4_0_0 c_w4_0_1 c_w4_0_2 c_w4_0_3 c_w4_0_4 c_w4_0_5 fz_w4_0 hl_w4_0)
  replace H0 := Lib.hid (RAt.below (v := .agg #[.bool spx, .slice Apx npx cpx, .bool spy, .slice Apy npy cpy, .bool spd, .slice Apd npd cpd]) (x := x) (y := y) (d := d) (by ((repeat (first | (with_reducible exact H0.out) | (with_reducible refine RAt.al ?_ _) | (with_reducible apply RAt.st1))) <;> (first | (with_reducible assumption) | (intro _ e; cases e; done) | (go_simp; first | done | exact rfl)))) hb_w4)
  have HB4 := Lib.hid (show Below w.heap.size w w4 by ((with_reducible (repeat (first | exact bR _ _ | refine bS ?_ ?_ _ | refine bA ?_ ?_ _ | refine bD ?_ | refine bT ?_ (by assumption) ?_ | refine bO (by assumption) ?_ ?_))) <;> (first | omega | (simp <;> omega))))
  have hz4 : w.heap.size + 1 ≤ w4.heap.size := by omega
  clear hb_w4
  skip
  go_wp2_with fail
  (go_at_call 78; refine (K2.out _ _ ((RAt.px (show RAt _ (.agg #[.bool spx, .slice Apx npx cpx, .bool spy, .slice Apy npy cpy, .bool spd, .slice Apd npd cpd]) (x) (y) (d) by ((repeat (first | (with_reducible exact H0.out) | (with_reducible refine RAt.al ?_ _) | (with_reducible apply RAt.st1))) <;> (first | (with_reducible assumption) | (intro _ e; cases e; done) | (go_simp; first | done | exact rfl))))).zl LX.out)).mono ?_; rintro e w5 ⟨rfl, hb_w5⟩; have hz_w5 := hb_w5.size; (try simp at hz_w5); (with_reducible apply cel6 (b := w.heap.size) hb_w5); (focus ((try simp) <;> omega)); (focus omega); (iterate 6 (focus (go_simp; try exact rfl))); (focus (intro o; go_simp)); intro c_w5_0_0 c_w5_0_1 c_w5_0_2 c_w5_0_3 c_w5_0_4 c_w5_0_5 fz_w5_0 hl_w5_0)
  replace H0 := Lib.hid (RAt.below (v := .agg #[.bool spx, .slice Apx npx cpx, .bool spy, .slice Apy npy cpy, .bool spd, .slice Apd npd cpd]) (x := x) (y := y) (d := d) (by ((repeat (first | (with_reducible exact H0.out) | (with_reducible refine RAt.al ?_ _) | (with_reducible apply RAt.st1))) <;> (first | (with_reducible assumption) | (intro _ e; cases e; done) | (go_simp; first | done | exact rfl)))) hb_w5)
  have HB5 := Lib.hid (show Below w.heap.size w w5 by have hB := HB4.out; ((with_reducible (repeat (first | exact bR _ _ | refine bS ?_ ?_ _ | refine bA ?_ ?_ _ | refine bD ?_ | refine bT ?_ (by assumption) ?_ | refine bO (by assumption) ?_ ?_))) <;> (first | omega | (simp <;> omega))))
  have hz5 : w.heap.size + 1 ≤ w5.heap.size := by omega
  clear hb_w5
  clear c_w4_0_0 c_w4_0_1 c_w4_0_2 c_w4_0_3 c_w4_0_4 c_w4_0_5 fz_w4_0 hl_w4_0
  go_wp2_with fail
  (go_at_call 78; refine (K3.out _ _ ((RAt.py (show RAt _ (.agg #[.bool spx, .slice Apx npx cpx, .bool spy, .slice Apy npy cpy, .bool spd, .slice Apd npd cpd]) (x) (y) (d) by ((repeat (first | (with_reducible exact H0.out) | (with_reducible refine RAt.al ?_ _) | (with_reducible apply RAt.st1))) <;> (first | (with_reducible assumption) | (intro _ e; cases e; done) | (go_simp; first | done | exact rfl))))).zl LY.out)).mono ?_; rintro e w6 ⟨rfl, hb_w6⟩; have hz_w6 := hb_w6.size; (try simp at hz_w6); (with_reducible apply cel6 (b := w.heap.size) hb_w6); (focus ((try simp) <;> omega)); (focus omega); (iterate 6 (focus (go_simp; try exact rfl))); (focus (intro o; go_simp)); intro c_w6_0_0 c_w6_0_1 c_w6_0_2 c_w6_0_3 c_w6_0_4 c_w6_0_5 fz_w6_0 hl_w6_0)
  replace H0 := Lib.hid (RAt.below (v := .agg #[.bool spx, .slice Apx npx cpx, .bool spy, .slice Apy npy cpy, .bool spd, .slice Apd npd cpd]) (x := x) (y := y) (d := d) (by ((repeat (first | (with_reducible exact H0.out) | (with_reducible refine RAt.al ?_ _) | (with_reducible apply RAt.st1))) <;> (first | (with_reducible assumption) | (intro _ e; cases e; done) | (go_simp; first | done | exact rfl)))) hb_w6)
  have HB6 := Lib.hid (show Below w.heap.size w w6 by have hB := HB5.out; ((with_reducible (repeat (first | exact bR _ _ | refine bS ?_ ?_ _ | refine bA ?_ ?_ _ | refine bD ?_ | refine bT ?_ (by assumption) ?_ | refine bO (by assumption) ?_ ?_))) <;> (first | omega | (simp <;> omega))))
  have hz6 : w.heap.size + 1 ≤ w6.heap.size := by omega
  clear hb_w6
  clear c_w5_0_0 c_w5_0_1 c_w5_0_2 c_w5_0_3 c_w5_0_4 c_w5_0_5 fz_w5_0 hl_w5_0
  go_wp2_with fail
  (go_at_call 78; refine (K4.out _ _ ((RAt.pd (show RAt _ (.agg #[.bool spx, .slice Apx npx cpx, .bool spy, .slice Apy npy cpy, .bool spd, .slice Apd npd cpd]) (x) (y) (d) by ((repeat (first | (with_reducible exact H0.out) | (with_reducible refine RAt.al ?_ _) | (with_reducible apply RAt.st1))) <;> (first | (with_reducible assumption) | (intro _ e; cases e; done) | (go_simp; first | done | exact rfl))))).zl LD.out)).mono ?_; rintro e w7 ⟨rfl, hb_w7⟩; have hz_w7 := hb_w7.size; (try simp at hz_w7); skip)
  clear H0
  have HB7 := Lib.hid (show Below w.heap.size w w7 by have hB := HB6.out; ((with_reducible (repeat (first | exact bR _ _ | refine bS ?_ ?_ _ | refine bA ?_ ?_ _ | refine bD ?_ | refine bT ?_ (by assumption) ?_ | refine bO (by assumption) ?_ ?_))) <;> (first | omega | (simp <;> omega))))
  have hz7 : w.heap.size + 1 ≤ w7.heap.size := by omega
  clear hb_w7
  clear c_w6_0_0 c_w6_0_1 c_w6_0_2 c_w6_0_3 c_w6_0_4 c_w6_0_5 fz_w6_0 hl_w6_0
  go_wp2_with fail
  refine bodyPost_ret (v := .bool true) (by simp only [results, Tryz.results45]; go_simp) rfl ⟨?_, ?_⟩
  · rfl
  · have hB := HB7.out; ((with_reducible (repeat (first | exact bR _ _ | refine bS ?_ ?_ _ | refine bA ?_ ?_ _ | refine bD ?_ | refine bT ?_ (by assumption) ?_ | refine bO (by assumption) ?_ ?_))) <;> (first | omega | (simp <;> omega)))
set_option maxRecDepth 100000 in
set_option maxHeartbeats 20000000 in
theorem rmean_ok (l : List (Int × Int × Int)) (A : Option Addr) (c : Nat) (w : World) (hl1 : 1 ≤ l.length) (hl : l.length ≤ 16) (hV : RsAt w A l) (hok : ∀ r ∈ l, Val r) (hm : withinB (meanR l).1 (meanR l).2 1073741824 = true) :
    Calls Tryz.prog 17 #[.slice A l.length c] w fun e w' => e = .returned (.tuple #[.agg #[.int .i64 (meanR l).1, .int .i64 (meanR l).2], .bool true]) ∧ Below w.heap.size w w' := by
  have HV := Lib.hid hV
  have HO := Lib.hid hok
  obtain ⟨U, hU⟩ : ∃ U : Int, U = 1 := ⟨_, rfl⟩
  have ko2 := fun w => ((by have := of_any 1 w (by omega) (by omega); rw [hU]; exact this) : Calls Tryz.prog 44 #[.int .i64 1] w (ZOut U w))
  have KO := Lib.hid ko2
  have HU := Lib.hid hU
  obtain ⟨x, hm1⟩ : ∃ x, x = (meanR l).1 := ⟨_, rfl⟩
  obtain ⟨y, hm2⟩ : ∃ y, y = (meanR l).2 := ⟨_, rfl⟩
  rw [← hm1, ← hm2] at hm ⊢
  have HM := Lib.hid hm
  have HM1 := Lib.hid hm1
  have HM2 := Lib.hid hm2
  have n1 : ((l.length : Int) == 0) = false := by rw [beq_eq_false_iff_ne]; omega
  have n2 : (l.length : Int) ≤ 16 := by omega
  clear hV hok ko2 hU hm hm1 hm2
  go_enter Tryz.func17, Tryz.ntmps17; (try simp only [List.append_eq, List.cons_append, List.nil_append])
  go_wp2_with fail
  (go_at_call 44; refine (KO.out _).mono ?_; rintro e w101 ⟨hb_w101, v1, rfl, hv1⟩; have hz_w101 := hb_w101.size; (try simp at hz_w101); (with_reducible apply cel2 (b := w.heap.size) hb_w101); (focus ((try simp) <;> omega)); (focus omega); (iterate 2 (focus (go_simp; try exact rfl))); (focus (intro o; go_simp)); intro c_w101_0_0 c_w101_0_1 fz_w101_0 hl_w101_0)
  obtain ⟨s1, A1, n1', c1, rfl⟩ := IsC.val hv1
  have HI1 := Lib.hid hv1
  have HB101 := Lib.hid (show Below w.heap.size w w101 by ((with_reducible (repeat (first | exact bR _ _ | refine bS ?_ ?_ _ | refine bA ?_ ?_ _ | refine bD ?_ | refine bT ?_ (by assumption) ?_ | refine bO (by assumption) ?_ ?_))) <;> (first | omega | (simp <;> omega))))
  have hz101 : w.heap.size + 1 ≤ w101.heap.size := by omega
  clear hb_w101 hv1
  go_wp2_with fail
  go_loopw [7] (fun vi wr => ∃ (k : Nat) (X Y D : Int) (sX : Bool) (AX : Option Addr) (nX cX : Nat) (sY : Bool) (AY : Option Addr) (nY cY : Nat) (sD : Bool) (AD : Option Addr) (nD cD : Nat),
      k ≤ l.length ∧ vi = .int .i64 k ∧ Below w101.heap.size w101 wr ∧ wr.cell? ⟨w101.heap.size, 0, none⟩ = some (.bool sX) ∧ wr.cell? ⟨w101.heap.size, 1, none⟩ = some (.slice AX nX cX) ∧ (∀ o, wr.frozen? ⟨w101.heap.size, o, none⟩ = false) ∧ wr.cell? ⟨w101.heap.size + 1, 0, none⟩ = some (.bool sY) ∧ wr.cell? ⟨w101.heap.size + 1, 1, none⟩ = some (.slice AY nY cY) ∧ (∀ o, wr.frozen? ⟨w101.heap.size + 1, o, none⟩ = false) ∧ wr.cell? ⟨w101.heap.size + 1 + 1, 0, none⟩ = some (.bool sD) ∧ wr.cell? ⟨w101.heap.size + 1 + 1, 1, none⟩ = some (.slice AD nD cD) ∧ (∀ o, wr.frozen? ⟨w101.heap.size + 1 + 1, o, none⟩ = false) ∧ w101.heap.size + 3 ≤ wr.heap.size ∧
      IsC wr (.agg #[.bool sX, .slice AX nX cX]) X ∧ IsC wr (.agg #[.bool sY, .slice AY nY cY]) Y ∧ IsC wr (.agg #[.bool sD, .slice AD nD cD]) D ∧ Hid (UOk k (meanS (l.take k)) X Y D)) (fun vi _ => l.length - (intOf vi).toNat)
  case atStart =>
    have hu : U = 1 := HU.out
    have h1 := HI1.out
    rw [hu] at h1
    exact ⟨0, 0, 0, 1, false, none, 0, 0, false, none, 0, 0, s1, A1, n1', c1, by omega, rfl, by ((with_reducible (repeat (first | exact bR _ _ | refine bS ?_ ?_ _ | refine bA ?_ ?_ _ | refine bD ?_ | refine bT ?_ (by assumption) ?_ | refine bO (by assumption) ?_ ?_))) <;> (first | omega | (simp <;> omega))), by go_simp, by go_simp, by intro o; go_simp, by go_simp, by go_simp, by intro o; go_simp, by go_simp, by go_simp, by intro o; go_simp, by (try simp) <;> omega, isC_zero _, isC_zero _, h1.below (by ((with_reducible (repeat (first | exact bR _ _ | refine bS ?_ ?_ _ | refine bA ?_ ?_ _ | refine bD ?_ | refine bT ?_ (by assumption) ?_ | refine bO (by assumption) ?_ ?_))) <;> (first | omega | (simp <;> omega)))), Lib.hid UOk.zero⟩
  case round =>
    obtain ⟨k, X, Y, D, sX, AX, nX, cX, sY, AY, nY, cY, sD, AD, nD, cD, hk, rfl, hb_wr, cx0, cx1, cxf, cy0, cy1, cyf, cd0, cd1, cdf, hzS, hX, hY, hD, HN⟩ := hrel
    have HX := Lib.hid hX
    have HY := Lib.hid hY
    have HD := Lib.hid hD
    have HBR := Lib.hid hb_wr
    have hz_wr := hb_wr.size
    have hlS : w101.heap.size < wr.heap.size ∧ w101.heap.size + 1 < wr.heap.size ∧ w101.heap.size + 1 + 1 < wr.heap.size ∧ w101.heap.size < wr.heap.size + 1 ∧ w101.heap.size + 1 < wr.heap.size + 1 ∧ w101.heap.size + 1 + 1 < wr.heap.size + 1 := by omega
    have hzR : w.heap.size + 1 ≤ wr.heap.size := by omega
    (with_reducible apply cel2 (b := w.heap.size) hb_wr); (focus ((try simp) <;> omega)); (focus omega); (iterate 2 (focus (go_simp; try exact rfl))); (focus (intro o; go_simp)); intro c_wr_0_0 c_wr_0_1 fz_wr_0 hl_wr_0
    clear hb_wr hX hY hD
    clear c_w101_0_0 c_w101_0_1 fz_w101_0 hl_w101_0
    have i1 : (0 : Int) ≤ (k : Int) := by omega
    obtain ⟨hsd, hsx, hsy, hsl, _, _⟩ := HN.out
    have hk16 : 33 * k + 1 ≤ 600 := by omega
    have LX := Lib.hid (len_up hsx hk16)
    have LY := Lib.hid (len_up hsy hk16)
    have LD := Lib.hid (len_up hsl hk16)
    by_cases hlt : k < l.length
    · obtain ⟨⟨x, y, d⟩, hx⟩ : ∃ x, l[k]? = some x := ⟨l[k], by simp⟩
      obtain ⟨g, o, rfl, hg, sEx, AEx, nEx, cEx, sEy, AEy, nEy, cEy, sEd, AEd, nEd, cEd, e0, e1, e2, e3, e4, e5, hE⟩ := HV.out k _ hx
      have HBW := Lib.hid (HB101.out.trans (HBR.out.mono (by have := HB101.out.size; omega)))
      have C0 := Lib.hid e0
      have C1 := Lib.hid e1
      have C2 := Lib.hid e2
      have C3 := Lib.hid e3
      have C4 := Lib.hid e4
      have C5 := Lib.hid e5
      replace e0 := (HBW.out.cell (p := ⟨g, o + k * 6, none⟩) hg).trans C0.out
      replace e1 := (HBW.out.cell (p := ⟨g, o + k * 6 + 1, none⟩) hg).trans C1.out
      replace e2 := (HBW.out.cell (p := ⟨g, o + k * 6 + 2, none⟩) hg).trans C2.out
      replace e3 := (HBW.out.cell (p := ⟨g, o + k * 6 + 3, none⟩) hg).trans C3.out
      replace e4 := (HBW.out.cell (p := ⟨g, o + k * 6 + 4, none⟩) hg).trans C4.out
      replace e5 := (HBW.out.cell (p := ⟨g, o + k * 6 + 5, none⟩) hg).trans C5.out
      have hgr : g < wr.heap.size := by have := HBW.out.size; omega
      have hval := HO.out _ (List.mem_of_getElem? hx)
      have hN2 : UOk (k + 1) (meanS (l.take (k + 1))) (X * d + x * D) (Y * d + y * D) (D * d) := by rw [meanS_take hx]; exact HN.out.step hval
      have HE := Lib.hid (hE.below HBW.out)
      simp only at hE
      have i2 : (k : Int) < (l.length : Int) := by omega
      have kv := fun v w h => fit_yes x y d v w h hval
      obtain ⟨hd, hlx, hly, hld⟩ := hval
      simp only at hd hlx hly hld
      have Lx := Lib.hid (len_up hlx (show 32 ≤ 600 by omega))
      have Ly := Lib.hid (len_up hly (show 32 ≤ 600 by omega))
      have Ld := Lib.hid (len_up hld (show 32 ≤ 600 by omega))
      have l1 := len_mul LX.out Ld.out
      have l2 := len_mul Lx.out LD.out
      have l4 := len_mul LY.out Ld.out
      have l5 := len_mul Ly.out LD.out
      have k1 := fun u v w h1 h2 => times_any 600 u v X d w h1 h2 (by omega)
      have k2 := fun u v w h1 h2 => times_any 600 u v x D w h1 h2 (by omega)
      have k3 := fun u v w h1 h2 => plus_any (600 + 600) u v (X * d) (x * D) w h1 h2 (by omega)
      have k4 := fun u v w h1 h2 => times_any 600 u v Y d w h1 h2 (by omega)
      have k5 := fun u v w h1 h2 => times_any 600 u v y D w h1 h2 (by omega)
      have k6 := fun u v w h1 h2 => plus_any (600 + 600) u v (Y * d) (y * D) w h1 h2 (by omega)
      have k7 := fun u v w h1 h2 => times_any 600 u v D d w h1 h2 (by omega)
      generalize X * d = P1 at *
      generalize x * D = P2 at *
      generalize Y * d = Q1 at *
      generalize y * D = Q2 at *
      generalize P1 + P2 = P at *
      generalize Q1 + Q2 = Q at *
      generalize D * d = E1 at *
      have HN2 := Lib.hid hN2
      have KF := Lib.hid kv
      have K1 := Lib.hid k1
      have K2 := Lib.hid k2
      have K3 := Lib.hid k3
      have K4 := Lib.hid k4
      have K5 := Lib.hid k5
      have K6 := Lib.hid k6
      have K7 := Lib.hid k7
      have L1 := Lib.hid l1
      have L2 := Lib.hid l2
      have L4 := Lib.hid l4
      have L5 := Lib.hid l5
      clear kv k1 k2 k3 k4 k5 k6 k7 l1 l2 l4 l5 hN2 hE hx hsd hsx hsy hsl hd hlx hly hld
      go_wp2_with fail
      (go_at_call 45; refine (KF.out _ _ ((show RAt _ (.agg #[.bool sEx, .slice AEx nEx cEx, .bool sEy, .slice AEy nEy cEy, .bool sEd, .slice AEd nEd cEd]) (x) (y) (d) by ((repeat (first | (with_reducible exact HE.out) | (with_reducible refine RAt.al ?_ _) | (with_reducible apply RAt.st1))) <;> (first | (with_reducible assumption) | (intro _ e; cases e; done) | (go_simp; first | done | exact rfl)))))).mono ?_; rintro e w201 ⟨rfl, hb_w201⟩; have hz_w201 := hb_w201.size; (try simp at hz_w201); (with_reducible apply cel2 (b := w.heap.size) hb_w201); (focus ((try simp) <;> omega)); (focus omega); (iterate 2 (focus (go_simp; try exact rfl))); (focus (intro o; go_simp)); intro c_w201_0_0 c_w201_0_1 fz_w201_0 hl_w201_0; (with_reducible apply cel2 (b := w101.heap.size) hb_w201); (focus ((try simp) <;> omega)); (focus omega); (iterate 2 (focus (go_simp; try exact rfl))); (focus (intro o; go_simp)); intro c_w201_1_0 c_w201_1_1 fz_w201_1 hl_w201_1; (with_reducible apply cel2 (b := w101.heap.size + 1) hb_w201); (focus ((try simp) <;> omega)); (focus omega); (iterate 2 (focus (go_simp; try exact rfl))); (focus (intro o; go_simp)); intro c_w201_2_0 c_w201_2_1 fz_w201_2 hl_w201_2; (with_reducible apply cel2 (b := w101.heap.size + 1 + 1) hb_w201); (focus ((try simp) <;> omega)); (focus omega); (iterate 2 (focus (go_simp; try exact rfl))); (focus (intro o; go_simp)); intro c_w201_3_0 c_w201_3_1 fz_w201_3 hl_w201_3)
      replace HX := Lib.hid (IsC.below (v := .agg #[.bool sX, .slice AX nX cX]) (z := X) (by ((repeat (first | (with_reducible exact HX.out) | (with_reducible refine IsC.al ?_ _) | (with_reducible apply IsC.st1))) <;> (first | (with_reducible assumption) | (intro _ e; cases e; done) | (go_simp; first | done | exact rfl)))) hb_w201)
      replace HY := Lib.hid (IsC.below (v := .agg #[.bool sY, .slice AY nY cY]) (z := Y) (by ((repeat (first | (with_reducible exact HY.out) | (with_reducible refine IsC.al ?_ _) | (with_reducible apply IsC.st1))) <;> (first | (with_reducible assumption) | (intro _ e; cases e; done) | (go_simp; first | done | exact rfl)))) hb_w201)
      replace HD := Lib.hid (IsC.below (v := .agg #[.bool sD, .slice AD nD cD]) (z := D) (by ((repeat (first | (with_reducible exact HD.out) | (with_reducible refine IsC.al ?_ _) | (with_reducible apply IsC.st1))) <;> (first | (with_reducible assumption) | (intro _ e; cases e; done) | (go_simp; first | done | exact rfl)))) hb_w201)
      replace HE := Lib.hid (RAt.below (v := .agg #[.bool sEx, .slice AEx nEx cEx, .bool sEy, .slice AEy nEy cEy, .bool sEd, .slice AEd nEd cEd]) (x := x) (y := y) (d := d) (by ((repeat (first | (with_reducible exact HE.out) | (with_reducible refine RAt.al ?_ _) | (with_reducible apply RAt.st1))) <;> (first | (with_reducible assumption) | (intro _ e; cases e; done) | (go_simp; first | done | exact rfl)))) hb_w201)
      have HB201 := Lib.hid (show Below w101.heap.size w101 w201 by have hB := HBR.out; ((with_reducible (repeat (first | exact bR _ _ | refine bS ?_ ?_ _ | refine bA ?_ ?_ _ | refine bD ?_ | refine bT ?_ (by assumption) ?_ | refine bO (by assumption) ?_ ?_))) <;> (first | omega | (simp <;> omega))))
      have hz201 : w.heap.size + 1 ≤ w201.heap.size := by omega
      clear hb_w201
      skip
      have HBW := Lib.hid (HB101.out.trans (HB201.out.mono (by have := HB101.out.size; omega)))
      replace e0 := (HBW.out.cell (p := ⟨g, o + k * 6, none⟩) hg).trans C0.out
      replace e1 := (HBW.out.cell (p := ⟨g, o + k * 6 + 1, none⟩) hg).trans C1.out
      replace e2 := (HBW.out.cell (p := ⟨g, o + k * 6 + 2, none⟩) hg).trans C2.out
      replace e3 := (HBW.out.cell (p := ⟨g, o + k * 6 + 3, none⟩) hg).trans C3.out
      replace e4 := (HBW.out.cell (p := ⟨g, o + k * 6 + 4, none⟩) hg).trans C4.out
      replace e5 := (HBW.out.cell (p := ⟨g, o + k * 6 + 5, none⟩) hg).trans C5.out
      have hgw : g < w201.heap.size := by have := HBW.out.size; omega
      go_wp2_with fail
      (refine pin_wp (N := _) (Nat.le_refl _) (fun w202 hb_w202 hz_w202 => ?_); (try simp at hz_w202); (with_reducible apply cel2 (b := w.heap.size) hb_w202); (focus ((try simp) <;> omega)); (focus omega); (iterate 2 (focus (go_simp; try exact rfl))); (focus (intro o; go_simp)); intro c_w202_0_0 c_w202_0_1 fz_w202_0 hl_w202_0; (with_reducible apply cel2 (b := w101.heap.size) hb_w202); (focus ((try simp) <;> omega)); (focus omega); (iterate 2 (focus (go_simp; try exact rfl))); (focus (intro o; go_simp)); intro c_w202_1_0 c_w202_1_1 fz_w202_1 hl_w202_1; (with_reducible apply cel2 (b := w101.heap.size + 1) hb_w202); (focus ((try simp) <;> omega)); (focus omega); (iterate 2 (focus (go_simp; try exact rfl))); (focus (intro o; go_simp)); intro c_w202_2_0 c_w202_2_1 fz_w202_2 hl_w202_2; (with_reducible apply cel2 (b := w101.heap.size + 1 + 1) hb_w202); (focus ((try simp) <;> omega)); (focus omega); (iterate 2 (focus (go_simp; try exact rfl))); (focus (intro o; go_simp)); intro c_w202_3_0 c_w202_3_1 fz_w202_3 hl_w202_3); refine wp_q (fun Q_ HQ_ => ?_); refine wp_region_floatQ w202.heap.size 15 [15] (Nat.le_refl _) (fun _ => True) trivial Cl.tt (by kernel_rfl) (by kernel_rfl) ?_
      replace HX := Lib.hid (IsC.below (v := .agg #[.bool sX, .slice AX nX cX]) (z := X) (by ((repeat (first | (with_reducible exact HX.out) | (with_reducible refine IsC.al ?_ _) | (with_reducible apply IsC.st1))) <;> (first | (with_reducible assumption) | (intro _ e; cases e; done) | (go_simp; first | done | exact rfl)))) hb_w202)
      replace HY := Lib.hid (IsC.below (v := .agg #[.bool sY, .slice AY nY cY]) (z := Y) (by ((repeat (first | (with_reducible exact HY.out) | (with_reducible refine IsC.al ?_ _) | (with_reducible apply IsC.st1))) <;> (first | (with_reducible assumption) | (intro _ e; cases e; done) | (go_simp; first | done | exact rfl)))) hb_w202)
      replace HD := Lib.hid (IsC.below (v := .agg #[.bool sD, .slice AD nD cD]) (z := D) (by ((repeat (first | (with_reducible exact HD.out) | (with_reducible refine IsC.al ?_ _) | (with_reducible apply IsC.st1))) <;> (first | (with_reducible assumption) | (intro _ e; cases e; done) | (go_simp; first | done | exact rfl)))) hb_w202)
      replace HE := Lib.hid (RAt.below (v := .agg #[.bool sEx, .slice AEx nEx cEx, .bool sEy, .slice AEy nEy cEy, .bool sEd, .slice AEd nEd cEd]) (x := x) (y := y) (d := d) (by ((repeat (first | (with_reducible exact HE.out) | (with_reducible refine RAt.al ?_ _) | (with_reducible apply RAt.st1))) <;> (first | (with_reducible assumption) | (intro _ e; cases e; done) | (go_simp; first | done | exact rfl)))) hb_w202)
      have HB202 := Lib.hid (show Below w101.heap.size w101 w202 by have hB := HB201.out; ((with_reducible (repeat (first | exact bR _ _ | refine bS ?_ ?_ _ | refine bA ?_ ?_ _ | refine bD ?_ | refine bT ?_ (by assumption) ?_ | refine bO (by assumption) ?_ ?_))) <;> (first | omega | (simp <;> omega))))
      have hz202 : w.heap.size + 1 ≤ w202.heap.size := by omega
      clear hb_w202
      clear c_w201_0_0 c_w201_0_1 fz_w201_0 hl_w201_0 c_w201_1_0 c_w201_1_1 fz_w201_1 hl_w201_1 c_w201_2_0 c_w201_2_1 fz_w201_2 hl_w201_2 c_w201_3_0 c_w201_3_1 fz_w201_3 hl_w201_3
      have HBW := Lib.hid (HB101.out.trans (HB202.out.mono (by have := HB101.out.size; omega)))
      replace e0 := (HBW.out.cell (p := ⟨g, o + k * 6, none⟩) hg).trans C0.out
      replace e1 := (HBW.out.cell (p := ⟨g, o + k * 6 + 1, none⟩) hg).trans C1.out
      replace e2 := (HBW.out.cell (p := ⟨g, o + k * 6 + 2, none⟩) hg).trans C2.out
      replace e3 := (HBW.out.cell (p := ⟨g, o + k * 6 + 3, none⟩) hg).trans C3.out
      replace e4 := (HBW.out.cell (p := ⟨g, o + k * 6 + 4, none⟩) hg).trans C4.out
      replace e5 := (HBW.out.cell (p := ⟨g, o + k * 6 + 5, none⟩) hg).trans C5.out
      have hgw : g < w202.heap.size := by have := HBW.out.size; omega
      refine wpQI_start [0, 1, 2, 3, 4, 5] ?_; (iterate 6 (first | (apply wpQI_step (by with_reducible (refine zA ?_; (repeat (first | exact zB | refine zC ?_)))) (by kernel_rfl) (by exact rfl); (focus (intro W' hS; have hcS := hS.cells.1; have hfS := hS.cells.2; go_simp; (first | done | exact rfl | exact bB _ | (go_simp; first | done | exact rfl | exact bB _)))); intro K hK; go_simp; (try go_bits); refine hK _ ?_; clear hK K))); refine wpQI_nil ?_
      refine wpQI_start [7, 8, 9, 10, 11, 12] ?_; (iterate 6 (first | (apply wpQI_step (by with_reducible (refine zA ?_; (repeat (first | exact zB | refine zC ?_)))) (by kernel_rfl) (by exact rfl); (focus (intro W' hS; have hcS := hS.cells.1; have hfS := hS.cells.2; go_simp; (first | done | exact rfl | exact bB _ | (go_simp; first | done | exact rfl | exact bB _)))); intro K hK; go_simp; (try go_bits); refine hK _ ?_; clear hK K))); refine wpQI_nil ?_
      apply wpQ_call (i := 6) (by with_reducible (refine zA ?_; (repeat (first | exact zB | refine zC ?_)))) (by kernel_rfl) (by exact rfl); intro W hF hS; have hcS := hS.1.cells.1; have hfS := hS.1.cells.2; go_simp; (go_at_call 40; refine (K1.out _ _ _ ((HX.out.below hS.1.2).zl LX.out) ((RAt.pd (HE.out.below hS.1.2)).zl Ld.out)).mono ?_; rintro e w203 ⟨hb_w203, v203, rfl, hv203⟩; refine XPost.mk _ (fun W => IsC W v203 (P1)) hb_w203 (hv203) (IsC.cl _ _) ?_); clear hb_w203 hcS hfS hS hF
      intro K hK; go_simp; (try go_bits); refine hK _ ?_; clear hK K
      obtain ⟨s203, A203, n203, c203, rfl⟩ := IsC.val hv203
      clear hv203
      apply wpQ_call (i := 13) (by with_reducible (refine zA ?_; (repeat (first | exact zB | refine zC ?_)))) (by kernel_rfl) (by exact rfl); intro W hF hS; have hcS := hS.1.cells.1; have hfS := hS.1.cells.2; go_simp; (go_at_call 40; refine (K2.out _ _ _ ((RAt.px (HE.out.below hS.1.2)).zl Lx.out) ((HD.out.below hS.1.2).zl LD.out)).mono ?_; rintro e w204 ⟨hb_w204, v204, rfl, hv204⟩; refine XPost.mk _ (fun W => IsC W v204 (P2)) hb_w204 (hv204) (IsC.cl _ _) ?_); clear hb_w204 hcS hfS hS hF
      intro K hK; go_simp; (try go_bits); refine hK _ ?_; clear hK K
      obtain ⟨s204, A204, n204, c204, rfl⟩ := IsC.val hv204
      clear hv204
      apply wpQ_call (i := 14) (by with_reducible (refine zA ?_; (repeat (first | exact zB | refine zC ?_)))) (by kernel_rfl) (by exact rfl); intro W hF hS; have hcS := hS.1.cells.1; have hfS := hS.1.cells.2; go_simp; (go_at_call 39; refine (K3.out _ _ _ (hF.1.zl L1.out) (hF.2.zl L2.out)).mono ?_; rintro e w205 ⟨hb_w205, v205, rfl, hv205⟩; refine XPost.mk _ (fun W => IsC W v205 (P)) hb_w205 (hv205) (IsC.cl _ _) ?_); clear hb_w205 hcS hfS hS hF
      intro K hK; go_simp; (try go_bits); refine hK _ ?_; clear hK K
      obtain ⟨s205, A205, n205, c205, rfl⟩ := IsC.val hv205
      clear hv205
      refine wpQ_done (by kernel_rfl) ?_
      intro w206 hF_w206 hSG
      have hz_w206 := hSG.1.1
      have hb_w206 := hSG.1.2
      clear hSG
      (with_reducible apply cel2 (b := w.heap.size) hb_w206); (focus ((try simp) <;> omega)); (focus omega); (iterate 2 (focus (go_simp; try exact rfl))); (focus (intro o; go_simp)); intro c_w206_0_0 c_w206_0_1 fz_w206_0 hl_w206_0; (with_reducible apply cel2 (b := w101.heap.size) hb_w206); (focus ((try simp) <;> omega)); (focus omega); (iterate 2 (focus (go_simp; try exact rfl))); (focus (intro o; go_simp)); intro c_w206_1_0 c_w206_1_1 fz_w206_1 hl_w206_1; (with_reducible apply cel2 (b := w101.heap.size + 1) hb_w206); (focus ((try simp) <;> omega)); (focus omega); (iterate 2 (focus (go_simp; try exact rfl))); (focus (intro o; go_simp)); intro c_w206_2_0 c_w206_2_1 fz_w206_2 hl_w206_2; (with_reducible apply cel2 (b := w101.heap.size + 1 + 1) hb_w206); (focus ((try simp) <;> omega)); (focus omega); (iterate 2 (focus (go_simp; try exact rfl))); (focus (intro o; go_simp)); intro c_w206_3_0 c_w206_3_1 fz_w206_3 hl_w206_3
      (try simp only [List.filterMap_cons, List.filterMap_nil, List.getElem?_cons_succ, List.getElem?_cons_zero])
      replace HX := Lib.hid (HX.out.below hb_w206)
      replace HY := Lib.hid (HY.out.below hb_w206)
      replace HD := Lib.hid (HD.out.below hb_w206)
      replace HE := Lib.hid (HE.out.below hb_w206)
      have H203 := Lib.hid (show IsC w206 (.agg #[.bool s203, .slice A203 n203 c203]) (P1) from hF_w206.1.1)
      have H204 := Lib.hid (show IsC w206 (.agg #[.bool s204, .slice A204 n204 c204]) (P2) from hF_w206.1.2)
      have H205 := Lib.hid (show IsC w206 (.agg #[.bool s205, .slice A205 n205 c205]) (P) from hF_w206.2)
      have HB206 := Lib.hid (HB202.out.trans (hb_w206.mono (by have := HB202.out.size; omega)))
      have hz206 : w.heap.size + 1 ≤ w206.heap.size := by omega
      clear hF_w206 hb_w206
      clear c_w202_0_0 c_w202_0_1 fz_w202_0 hl_w202_0 c_w202_1_0 c_w202_1_1 fz_w202_1 hl_w202_1 c_w202_2_0 c_w202_2_1 fz_w202_2 hl_w202_2 c_w202_3_0 c_w202_3_1 fz_w202_3 hl_w202_3
      go_wp2_with fail
      refine HQ_.out _ _ _ ?_
      clear HQ_ Q_
      go_wp2_with fail
      (refine pin_wp (N := _) (Nat.le_refl _) (fun w207 hb_w207 hz_w207 => ?_); (try simp at hz_w207); (with_reducible apply cel2 (b := w.heap.size) hb_w207); (focus ((try simp) <;> omega)); (focus omega); (iterate 2 (focus (go_simp; try exact rfl))); (focus (intro o; go_simp)); intro c_w207_0_0 c_w207_0_1 fz_w207_0 hl_w207_0; (with_reducible apply cel2 (b := w101.heap.size) hb_w207); (focus ((try simp) <;> omega)); (focus omega); (iterate 2 (focus (go_simp; try exact rfl))); (focus (intro o; go_simp)); intro c_w207_1_0 c_w207_1_1 fz_w207_1 hl_w207_1; (with_reducible apply cel2 (b := w101.heap.size + 1) hb_w207); (focus ((try simp) <;> omega)); (focus omega); (iterate 2 (focus (go_simp; try exact rfl))); (focus (intro o; go_simp)); intro c_w207_2_0 c_w207_2_1 fz_w207_2 hl_w207_2; (with_reducible apply cel2 (b := w101.heap.size + 1 + 1) hb_w207); (focus ((try simp) <;> omega)); (focus omega); (iterate 2 (focus (go_simp; try exact rfl))); (focus (intro o; go_simp)); intro c_w207_3_0 c_w207_3_1 fz_w207_3 hl_w207_3); refine wp_q (fun Q_ HQ_ => ?_); refine wp_region_floatQ w207.heap.size 15 [15] (Nat.le_refl _) (fun _ => True) trivial Cl.tt (by kernel_rfl) (by kernel_rfl) ?_
      clear HX
      clear H203
      clear H204
      replace HY := Lib.hid (IsC.below (v := .agg #[.bool sY, .slice AY nY cY]) (z := Y) (by ((repeat (first | (with_reducible exact HY.out) | (with_reducible refine IsC.al ?_ _) | (with_reducible apply IsC.st1))) <;> (first | (with_reducible assumption) | (intro _ e; cases e; done) | (go_simp; first | done | exact rfl)))) hb_w207)
      replace HD := Lib.hid (IsC.below (v := .agg #[.bool sD, .slice AD nD cD]) (z := D) (by ((repeat (first | (with_reducible exact HD.out) | (with_reducible refine IsC.al ?_ _) | (with_reducible apply IsC.st1))) <;> (first | (with_reducible assumption) | (intro _ e; cases e; done) | (go_simp; first | done | exact rfl)))) hb_w207)
      replace HE := Lib.hid (RAt.below (v := .agg #[.bool sEx, .slice AEx nEx cEx, .bool sEy, .slice AEy nEy cEy, .bool sEd, .slice AEd nEd cEd]) (x := x) (y := y) (d := d) (by ((repeat (first | (with_reducible exact HE.out) | (with_reducible refine RAt.al ?_ _) | (with_reducible apply RAt.st1))) <;> (first | (with_reducible assumption) | (intro _ e; cases e; done) | (go_simp; first | done | exact rfl)))) hb_w207)
      replace H205 := Lib.hid (IsC.below (v := .agg #[.bool s205, .slice A205 n205 c205]) (z := P) (by ((repeat (first | (with_reducible exact H205.out) | (with_reducible refine IsC.al ?_ _) | (with_reducible apply IsC.st1))) <;> (first | (with_reducible assumption) | (intro _ e; cases e; done) | (go_simp; first | done | exact rfl)))) hb_w207)
      have HB207 := Lib.hid (show Below w101.heap.size w101 w207 by have hB := HB206.out; ((with_reducible (repeat (first | exact bR _ _ | refine bS ?_ ?_ _ | refine bA ?_ ?_ _ | refine bD ?_ | refine bT ?_ (by assumption) ?_ | refine bO (by assumption) ?_ ?_))) <;> (first | omega | (simp <;> omega))))
      have hz207 : w.heap.size + 1 ≤ w207.heap.size := by omega
      clear hb_w207
      clear c_w206_0_0 c_w206_0_1 fz_w206_0 hl_w206_0 c_w206_1_0 c_w206_1_1 fz_w206_1 hl_w206_1 c_w206_2_0 c_w206_2_1 fz_w206_2 hl_w206_2 c_w206_3_0 c_w206_3_1 fz_w206_3 hl_w206_3
      have HBW := Lib.hid (HB101.out.trans (HB207.out.mono (by have := HB101.out.size; omega)))
      replace e0 := (HBW.out.cell (p := ⟨g, o + k * 6, none⟩) hg).trans C0.out
      replace e1 := (HBW.out.cell (p := ⟨g, o + k * 6 + 1, none⟩) hg).trans C1.out
      replace e2 := (HBW.out.cell (p := ⟨g, o + k * 6 + 2, none⟩) hg).trans C2.out
      replace e3 := (HBW.out.cell (p := ⟨g, o + k * 6 + 3, none⟩) hg).trans C3.out
      replace e4 := (HBW.out.cell (p := ⟨g, o + k * 6 + 4, none⟩) hg).trans C4.out
      replace e5 := (HBW.out.cell (p := ⟨g, o + k * 6 + 5, none⟩) hg).trans C5.out
      have hgw : g < w207.heap.size := by have := HBW.out.size; omega
      refine wpQI_start [0, 1, 2, 3, 4, 5] ?_; (iterate 6 (first | (apply wpQI_step (by with_reducible (refine zA ?_; (repeat (first | exact zB | refine zC ?_)))) (by kernel_rfl) (by exact rfl); (focus (intro W' hS; have hcS := hS.cells.1; have hfS := hS.cells.2; go_simp; (first | done | exact rfl | exact bB _ | (go_simp; first | done | exact rfl | exact bB _)))); intro K hK; go_simp; (try go_bits); refine hK _ ?_; clear hK K))); refine wpQI_nil ?_
      refine wpQI_start [7, 8, 9, 10, 11, 12] ?_; (iterate 6 (first | (apply wpQI_step (by with_reducible (refine zA ?_; (repeat (first | exact zB | refine zC ?_)))) (by kernel_rfl) (by exact rfl); (focus (intro W' hS; have hcS := hS.cells.1; have hfS := hS.cells.2; go_simp; (first | done | exact rfl | exact bB _ | (go_simp; first | done | exact rfl | exact bB _)))); intro K hK; go_simp; (try go_bits); refine hK _ ?_; clear hK K))); refine wpQI_nil ?_
      apply wpQ_call (i := 6) (by with_reducible (refine zA ?_; (repeat (first | exact zB | refine zC ?_)))) (by kernel_rfl) (by exact rfl); intro W hF hS; have hcS := hS.1.cells.1; have hfS := hS.1.cells.2; go_simp; (go_at_call 40; refine (K4.out _ _ _ ((HY.out.below hS.1.2).zl LY.out) ((RAt.pd (HE.out.below hS.1.2)).zl Ld.out)).mono ?_; rintro e w208 ⟨hb_w208, v208, rfl, hv208⟩; refine XPost.mk _ (fun W => IsC W v208 (Q1)) hb_w208 (hv208) (IsC.cl _ _) ?_); clear hb_w208 hcS hfS hS hF
      intro K hK; go_simp; (try go_bits); refine hK _ ?_; clear hK K
      obtain ⟨s208, A208, n208, c208, rfl⟩ := IsC.val hv208
      clear hv208
      apply wpQ_call (i := 13) (by with_reducible (refine zA ?_; (repeat (first | exact zB | refine zC ?_)))) (by kernel_rfl) (by exact rfl); intro W hF hS; have hcS := hS.1.cells.1; have hfS := hS.1.cells.2; go_simp; (go_at_call 40; refine (K5.out _ _ _ ((RAt.py (HE.out.below hS.1.2)).zl Ly.out) ((HD.out.below hS.1.2).zl LD.out)).mono ?_; rintro e w209 ⟨hb_w209, v209, rfl, hv209⟩; refine XPost.mk _ (fun W => IsC W v209 (Q2)) hb_w209 (hv209) (IsC.cl _ _) ?_); clear hb_w209 hcS hfS hS hF
      intro K hK; go_simp; (try go_bits); refine hK _ ?_; clear hK K
      obtain ⟨s209, A209, n209, c209, rfl⟩ := IsC.val hv209
      clear hv209
      apply wpQ_call (i := 14) (by with_reducible (refine zA ?_; (repeat (first | exact zB | refine zC ?_)))) (by kernel_rfl) (by exact rfl); intro W hF hS; have hcS := hS.1.cells.1; have hfS := hS.1.cells.2; go_simp; (go_at_call 39; refine (K6.out _ _ _ (hF.1.zl L4.out) (hF.2.zl L5.out)).mono ?_; rintro e w210 ⟨hb_w210, v210, rfl, hv210⟩; refine XPost.mk _ (fun W => IsC W v210 (Q)) hb_w210 (hv210) (IsC.cl _ _) ?_); clear hb_w210 hcS hfS hS hF
      intro K hK; go_simp; (try go_bits); refine hK _ ?_; clear hK K
      obtain ⟨s210, A210, n210, c210, rfl⟩ := IsC.val hv210
      clear hv210
      refine wpQ_done (by kernel_rfl) ?_
      intro w211 hF_w211 hSG
      have hz_w211 := hSG.1.1
      have hb_w211 := hSG.1.2
      clear hSG
      (with_reducible apply cel2 (b := w.heap.size) hb_w211); (focus ((try simp) <;> omega)); (focus omega); (iterate 2 (focus (go_simp; try exact rfl))); (focus (intro o; go_simp)); intro c_w211_0_0 c_w211_0_1 fz_w211_0 hl_w211_0; (with_reducible apply cel2 (b := w101.heap.size) hb_w211); (focus ((try simp) <;> omega)); (focus omega); (iterate 2 (focus (go_simp; try exact rfl))); (focus (intro o; go_simp)); intro c_w211_1_0 c_w211_1_1 fz_w211_1 hl_w211_1; (with_reducible apply cel2 (b := w101.heap.size + 1) hb_w211); (focus ((try simp) <;> omega)); (focus omega); (iterate 2 (focus (go_simp; try exact rfl))); (focus (intro o; go_simp)); intro c_w211_2_0 c_w211_2_1 fz_w211_2 hl_w211_2; (with_reducible apply cel2 (b := w101.heap.size + 1 + 1) hb_w211); (focus ((try simp) <;> omega)); (focus omega); (iterate 2 (focus (go_simp; try exact rfl))); (focus (intro o; go_simp)); intro c_w211_3_0 c_w211_3_1 fz_w211_3 hl_w211_3
      (try simp only [List.filterMap_cons, List.filterMap_nil, List.getElem?_cons_succ, List.getElem?_cons_zero])
      replace HY := Lib.hid (HY.out.below hb_w211)
      replace HD := Lib.hid (HD.out.below hb_w211)
      replace HE := Lib.hid (HE.out.below hb_w211)
      replace H205 := Lib.hid (H205.out.below hb_w211)
      have H208 := Lib.hid (show IsC w211 (.agg #[.bool s208, .slice A208 n208 c208]) (Q1) from hF_w211.1.1)
      have H209 := Lib.hid (show IsC w211 (.agg #[.bool s209, .slice A209 n209 c209]) (Q2) from hF_w211.1.2)
      have H210 := Lib.hid (show IsC w211 (.agg #[.bool s210, .slice A210 n210 c210]) (Q) from hF_w211.2)
      have HB211 := Lib.hid (HB207.out.trans (hb_w211.mono (by have := HB207.out.size; omega)))
      have hz211 : w.heap.size + 1 ≤ w211.heap.size := by omega
      clear hF_w211 hb_w211
      clear c_w207_0_0 c_w207_0_1 fz_w207_0 hl_w207_0 c_w207_1_0 c_w207_1_1 fz_w207_1 hl_w207_1 c_w207_2_0 c_w207_2_1 fz_w207_2 hl_w207_2 c_w207_3_0 c_w207_3_1 fz_w207_3 hl_w207_3
      go_wp2_with fail
      refine HQ_.out _ _ _ ?_
      clear HQ_ Q_
      go_wp2_with fail
      (refine pin_wp (N := _) (Nat.le_refl _) (fun w212 hb_w212 hz_w212 => ?_); (try simp at hz_w212); (with_reducible apply cel2 (b := w.heap.size) hb_w212); (focus ((try simp) <;> omega)); (focus omega); (iterate 2 (focus (go_simp; try exact rfl))); (focus (intro o; go_simp)); intro c_w212_0_0 c_w212_0_1 fz_w212_0 hl_w212_0; (with_reducible apply cel2 (b := w101.heap.size) hb_w212); (focus ((try simp) <;> omega)); (focus omega); (iterate 2 (focus (go_simp; try exact rfl))); (focus (intro o; go_simp)); intro c_w212_1_0 c_w212_1_1 fz_w212_1 hl_w212_1; (with_reducible apply cel2 (b := w101.heap.size + 1) hb_w212); (focus ((try simp) <;> omega)); (focus omega); (iterate 2 (focus (go_simp; try exact rfl))); (focus (intro o; go_simp)); intro c_w212_2_0 c_w212_2_1 fz_w212_2 hl_w212_2; (with_reducible apply cel2 (b := w101.heap.size + 1 + 1) hb_w212); (focus ((try simp) <;> omega)); (focus omega); (iterate 2 (focus (go_simp; try exact rfl))); (focus (intro o; go_simp)); intro c_w212_3_0 c_w212_3_1 fz_w212_3 hl_w212_3); refine wp_q (fun Q_ HQ_ => ?_); refine wp_region_floatQ w212.heap.size 7 [7] (Nat.le_refl _) (fun _ => True) trivial Cl.tt (by kernel_rfl) (by kernel_rfl) ?_
      clear HY
      clear H208
      clear H209
      replace HD := Lib.hid (IsC.below (v := .agg #[.bool sD, .slice AD nD cD]) (z := D) (by ((repeat (first | (with_reducible exact HD.out) | (with_reducible refine IsC.al ?_ _) | (with_reducible apply IsC.st1))) <;> (first | (with_reducible assumption) | (intro _ e; cases e; done) | (go_simp; first | done | exact rfl)))) hb_w212)
      replace HE := Lib.hid (RAt.below (v := .agg #[.bool sEx, .slice AEx nEx cEx, .bool sEy, .slice AEy nEy cEy, .bool sEd, .slice AEd nEd cEd]) (x := x) (y := y) (d := d) (by ((repeat (first | (with_reducible exact HE.out) | (with_reducible refine RAt.al ?_ _) | (with_reducible apply RAt.st1))) <;> (first | (with_reducible assumption) | (intro _ e; cases e; done) | (go_simp; first | done | exact rfl)))) hb_w212)
      replace H205 := Lib.hid (IsC.below (v := .agg #[.bool s205, .slice A205 n205 c205]) (z := P) (by ((repeat (first | (with_reducible exact H205.out) | (with_reducible refine IsC.al ?_ _) | (with_reducible apply IsC.st1))) <;> (first | (with_reducible assumption) | (intro _ e; cases e; done) | (go_simp; first | done | exact rfl)))) hb_w212)
      replace H210 := Lib.hid (IsC.below (v := .agg #[.bool s210, .slice A210 n210 c210]) (z := Q) (by ((repeat (first | (with_reducible exact H210.out) | (with_reducible refine IsC.al ?_ _) | (with_reducible apply IsC.st1))) <;> (first | (with_reducible assumption) | (intro _ e; cases e; done) | (go_simp; first | done | exact rfl)))) hb_w212)
      have HB212 := Lib.hid (show Below w101.heap.size w101 w212 by have hB := HB211.out; ((with_reducible (repeat (first | exact bR _ _ | refine bS ?_ ?_ _ | refine bA ?_ ?_ _ | refine bD ?_ | refine bT ?_ (by assumption) ?_ | refine bO (by assumption) ?_ ?_))) <;> (first | omega | (simp <;> omega))))
      have hz212 : w.heap.size + 1 ≤ w212.heap.size := by omega
      clear hb_w212
      clear c_w211_0_0 c_w211_0_1 fz_w211_0 hl_w211_0 c_w211_1_0 c_w211_1_1 fz_w211_1 hl_w211_1 c_w211_2_0 c_w211_2_1 fz_w211_2 hl_w211_2 c_w211_3_0 c_w211_3_1 fz_w211_3 hl_w211_3
      have HBW := Lib.hid (HB101.out.trans (HB212.out.mono (by have := HB101.out.size; omega)))
      replace e0 := (HBW.out.cell (p := ⟨g, o + k * 6, none⟩) hg).trans C0.out
      replace e1 := (HBW.out.cell (p := ⟨g, o + k * 6 + 1, none⟩) hg).trans C1.out
      replace e2 := (HBW.out.cell (p := ⟨g, o + k * 6 + 2, none⟩) hg).trans C2.out
      replace e3 := (HBW.out.cell (p := ⟨g, o + k * 6 + 3, none⟩) hg).trans C3.out
      replace e4 := (HBW.out.cell (p := ⟨g, o + k * 6 + 4, none⟩) hg).trans C4.out
      replace e5 := (HBW.out.cell (p := ⟨g, o + k * 6 + 5, none⟩) hg).trans C5.out
      have hgw : g < w212.heap.size := by have := HBW.out.size; omega
      refine wpQI_start [0, 1, 2, 3, 4, 5] ?_; (iterate 6 (first | (apply wpQI_step (by with_reducible (refine zA ?_; (repeat (first | exact zB | refine zC ?_)))) (by kernel_rfl) (by exact rfl); (focus (intro W' hS; have hcS := hS.cells.1; have hfS := hS.cells.2; go_simp; (first | done | exact rfl | exact bB _ | (go_simp; first | done | exact rfl | exact bB _)))); intro K hK; go_simp; (try go_bits); refine hK _ ?_; clear hK K))); refine wpQI_nil ?_
      apply wpQ_call (i := 6) (by with_reducible (refine zA ?_; (repeat (first | exact zB | refine zC ?_)))) (by kernel_rfl) (by exact rfl); intro W hF hS; have hcS := hS.1.cells.1; have hfS := hS.1.cells.2; go_simp; (go_at_call 40; refine (K7.out _ _ _ ((HD.out.below hS.1.2).zl LD.out) ((RAt.pd (HE.out.below hS.1.2)).zl Ld.out)).mono ?_; rintro e w213 ⟨hb_w213, v213, rfl, hv213⟩; refine XPost.mk _ (fun W => IsC W v213 (E1)) hb_w213 (hv213) (IsC.cl _ _) ?_); clear hb_w213 hcS hfS hS hF
      intro K hK; go_simp; (try go_bits); refine hK _ ?_; clear hK K
      obtain ⟨s213, A213, n213, c213, rfl⟩ := IsC.val hv213
      clear hv213
      refine wpQ_done (by kernel_rfl) ?_
      intro w214 hF_w214 hSG
      have hz_w214 := hSG.1.1
      have hb_w214 := hSG.1.2
      clear hSG
      (with_reducible apply cel2 (b := w.heap.size) hb_w214); (focus ((try simp) <;> omega)); (focus omega); (iterate 2 (focus (go_simp; try exact rfl))); (focus (intro o; go_simp)); intro c_w214_0_0 c_w214_0_1 fz_w214_0 hl_w214_0; (with_reducible apply cel2 (b := w101.heap.size) hb_w214); (focus ((try simp) <;> omega)); (focus omega); (iterate 2 (focus (go_simp; try exact rfl))); (focus (intro o; go_simp)); intro c_w214_1_0 c_w214_1_1 fz_w214_1 hl_w214_1; (with_reducible apply cel2 (b := w101.heap.size + 1) hb_w214); (focus ((try simp) <;> omega)); (focus omega); (iterate 2 (focus (go_simp; try exact rfl))); (focus (intro o; go_simp)); intro c_w214_2_0 c_w214_2_1 fz_w214_2 hl_w214_2; (with_reducible apply cel2 (b := w101.heap.size + 1 + 1) hb_w214); (focus ((try simp) <;> omega)); (focus omega); (iterate 2 (focus (go_simp; try exact rfl))); (focus (intro o; go_simp)); intro c_w214_3_0 c_w214_3_1 fz_w214_3 hl_w214_3
      (try simp only [List.filterMap_cons, List.filterMap_nil, List.getElem?_cons_succ, List.getElem?_cons_zero])
      replace HD := Lib.hid (HD.out.below hb_w214)
      replace HE := Lib.hid (HE.out.below hb_w214)
      replace H205 := Lib.hid (H205.out.below hb_w214)
      replace H210 := Lib.hid (H210.out.below hb_w214)
      have H213 := Lib.hid (show IsC w214 (.agg #[.bool s213, .slice A213 n213 c213]) (E1) from hF_w214)
      have HB214 := Lib.hid (HB212.out.trans (hb_w214.mono (by have := HB212.out.size; omega)))
      have hz214 : w.heap.size + 1 ≤ w214.heap.size := by omega
      clear hF_w214 hb_w214
      clear c_w212_0_0 c_w212_0_1 fz_w212_0 hl_w212_0 c_w212_1_0 c_w212_1_1 fz_w212_1 hl_w212_1 c_w212_2_0 c_w212_2_1 fz_w212_2 hl_w212_2 c_w212_3_0 c_w212_3_1 fz_w212_3 hl_w212_3
      go_wp2_with fail
      refine HQ_.out _ _ _ ?_
      clear HQ_ Q_
      go_wp2_with fail
      go_roundw
      case rel => exact ⟨k + 1, P, Q, E1, s205, A205, n205, c205, s210, A210, n210, c210, s213, A213, n213, c213, by omega, by go_num, by have hB := HB214.out; ((with_reducible (repeat (first | exact bR _ _ | refine bS ?_ ?_ _ | refine bA ?_ ?_ _ | refine bD ?_ | refine bT ?_ (by assumption) ?_ | refine bO (by assumption) ?_ ?_))) <;> (first | omega | (simp <;> omega))), by go_simp, by go_simp, by intro o; go_simp, by go_simp, by go_simp, by intro o; go_simp, by go_simp, by go_simp, by intro o; go_simp, by (try simp) <;> omega, (by ((repeat (first | (with_reducible exact H205.out) | (with_reducible refine IsC.al ?_ _) | (with_reducible apply IsC.st1))) <;> (first | (with_reducible assumption) | (intro _ e; cases e; done) | (go_simp; first | done | exact rfl)))), (by ((repeat (first | (with_reducible exact H210.out) | (with_reducible refine IsC.al ?_ _) | (with_reducible apply IsC.st1))) <;> (first | (with_reducible assumption) | (intro _ e; cases e; done) | (go_simp; first | done | exact rfl)))), (by ((repeat (first | (with_reducible exact H213.out) | (with_reducible refine IsC.al ?_ _) | (with_reducible apply IsC.st1))) <;> (first | (with_reducible assumption) | (intro _ e; cases e; done) | (go_simp; first | done | exact rfl)))), HN2⟩
      case measure => simp [intOf]; omega
    · obtain rfl : k = l.length := by omega
      rw [List.take_length] at HN
      obtain ⟨e1, e2⟩ := HN.out.mean (n := (l.length : Int))
      have e1 : x = X.tdiv (D * (l.length : Int)) := by rw [HM1.out]; exact e1.symm
      have e2 : y = Y.tdiv (D * (l.length : Int)) := by rw [HM2.out]; exact e2.symm
      obtain ⟨n, hn⟩ : ∃ n : Int, n = (l.length : Int) := ⟨_, rfl⟩
      rw [← hn] at e1 e2
      have hn' := hn.symm
      have hdn : D * n ≠ 0 := Int.ne_of_gt (Int.mul_pos hsd (by omega))
      have hw := HM.out
      simp only [withinB, decide_eq_true_eq] at hw
      have k1 := fun w => of_any n w (by omega) (by omega)
      have ln := len_up (len_wd (z := n) (by omega) (by omega)) (show _ ≤ 600 by omega)
      have ldn := len_mul LD.out ln
      have k2 := fun u v w h1 h2 => times_any 600 u v D n w h1 h2 (by omega)
      have k3 := fun u v w h1 h2 => div_any (600 + 600) u v X (D * n) w h1 h2 (by omega) hdn
      have k4 := fun u v w h1 h2 => div_any (600 + 600) u v Y (D * n) w h1 h2 (by omega) hdn
      rw [← e1] at k3
      rw [← e2] at k4
      replace LX := Lib.hid (len_up LX.out (show 600 ≤ 600 + 600 by omega))
      replace LY := Lib.hid (len_up LY.out (show 600 ≤ 600 + 600 by omega))
      have lx := len_wd (z := x) (by omega) (by omega)
      have ly := len_wd (z := y) (by omega) (by omega)
      have k5 := fun v w h => number_any 10 v x w h (by omega)
      have k6 := fun v w h => number_any 10 v y w h (by omega)
      rw [show numR x = (x, true) by unfold numR; rw [if_pos (by omega)]] at k5
      rw [show numR y = (y, true) by unfold numR; rw [if_pos (by omega)]] at k6
      have k7 := fun w => rnear_any2 x y 1073741824 w (by omega) (by omega)
      rw [HM.out] at k7
      have nb1 : n ≤ 16 := by omega
      have nb0 : 0 ≤ n := by omega
      have d1 : ¬ (l.length : Int) < (l.length : Int) := by omega
      generalize X.tmod (D * n) = x2 at *
      generalize Y.tmod (D * n) = y2 at *
      generalize D * n = DN at *
      have Ln := Lib.hid ln
      have LDN := Lib.hid ldn
      have Lx := Lib.hid lx
      have Ly := Lib.hid ly
      have K1 := Lib.hid k1
      have K2 := Lib.hid k2
      have K3 := Lib.hid k3
      have K4 := Lib.hid k4
      have K5 := Lib.hid k5
      have K6 := Lib.hid k6
      have K7 := Lib.hid k7
      clear k1 k2 k3 k4 k5 k6 k7 ln ldn lx ly e1 e2 hdn hn hsd hsx hsy hsl
      go_wp2_with fail
      (refine pin_wp (N := _) (Nat.le_refl _) (fun w301 hb_w301 hz_w301 => ?_); (try simp at hz_w301); (with_reducible apply cel2 (b := w.heap.size) hb_w301); (focus ((try simp) <;> omega)); (focus omega); (iterate 2 (focus (go_simp; try exact rfl))); (focus (intro o; go_simp)); intro c_w301_0_0 c_w301_0_1 fz_w301_0 hl_w301_0; (with_reducible apply cel2 (b := w101.heap.size) hb_w301); (focus ((try simp) <;> omega)); (focus omega); (iterate 2 (focus (go_simp; try exact rfl))); (focus (intro o; go_simp)); intro c_w301_1_0 c_w301_1_1 fz_w301_1 hl_w301_1; (with_reducible apply cel2 (b := w101.heap.size + 1) hb_w301); (focus ((try simp) <;> omega)); (focus omega); (iterate 2 (focus (go_simp; try exact rfl))); (focus (intro o; go_simp)); intro c_w301_2_0 c_w301_2_1 fz_w301_2 hl_w301_2; (with_reducible apply cel2 (b := w101.heap.size + 1 + 1) hb_w301); (focus ((try simp) <;> omega)); (focus omega); (iterate 2 (focus (go_simp; try exact rfl))); (focus (intro o; go_simp)); intro c_w301_3_0 c_w301_3_1 fz_w301_3 hl_w301_3); refine wp_q (fun Q_ HQ_ => ?_); refine wp_region_floatQ w301.heap.size 5 [5] (Nat.le_refl _) (fun _ => True) trivial Cl.tt (by kernel_rfl) (by kernel_rfl) ?_
      replace HX := Lib.hid (IsC.below (v := .agg #[.bool sX, .slice AX nX cX]) (z := X) (by ((repeat (first | (with_reducible exact HX.out) | (with_reducible refine IsC.al ?_ _) | (with_reducible apply IsC.st1))) <;> (first | (with_reducible assumption) | (intro _ e; cases e; done) | (go_simp; first | done | exact rfl)))) hb_w301)
      replace HY := Lib.hid (IsC.below (v := .agg #[.bool sY, .slice AY nY cY]) (z := Y) (by ((repeat (first | (with_reducible exact HY.out) | (with_reducible refine IsC.al ?_ _) | (with_reducible apply IsC.st1))) <;> (first | (with_reducible assumption) | (intro _ e; cases e; done) | (go_simp; first | done | exact rfl)))) hb_w301)
      replace HD := Lib.hid (IsC.below (v := .agg #[.bool sD, .slice AD nD cD]) (z := D) (by ((repeat (first | (with_reducible exact HD.out) | (with_reducible refine IsC.al ?_ _) | (with_reducible apply IsC.st1))) <;> (first | (with_reducible assumption) | (intro _ e; cases e; done) | (go_simp; first | done | exact rfl)))) hb_w301)
      have HB301 := Lib.hid (show Below w101.heap.size w101 w301 by have hB := HBR.out; ((with_reducible (repeat (first | exact bR _ _ | refine bS ?_ ?_ _ | refine bA ?_ ?_ _ | refine bD ?_ | refine bT ?_ (by assumption) ?_ | refine bO (by assumption) ?_ ?_))) <;> (first | omega | (simp <;> omega))))
      have hz301 : w.heap.size + 1 ≤ w301.heap.size := by omega
      clear hb_w301
      skip
      refine wpQI_start [0, 1, 2] ?_; (iterate 3 (first | (apply wpQI_step (by with_reducible (refine zA ?_; (repeat (first | exact zB | refine zC ?_)))) (by kernel_rfl) (by exact rfl); (focus (intro W' hS; have hcS := hS.cells.1; have hfS := hS.cells.2; go_simp; (first | done | exact rfl | exact bB _ | (go_simp; first | done | exact rfl | exact bB _)))); intro K hK; go_simp; (try go_bits); refine hK _ ?_; clear hK K))); refine wpQI_nil ?_
      apply wpQ_call (i := 3) (by with_reducible (refine zA ?_; (repeat (first | exact zB | refine zC ?_)))) (by kernel_rfl) (by exact rfl); intro W hF hS; have hcS := hS.1.cells.1; have hfS := hS.1.cells.2; go_simp; (go_at_call 44; refine (K1.out _).mono ?_; rintro e w302 ⟨hb_w302, v302, rfl, hv302⟩; refine XPost.mk _ (fun W => IsC W v302 (n)) hb_w302 (hv302) (IsC.cl _ _) ?_); clear hb_w302 hcS hfS hS hF
      intro K hK; go_simp; (try go_bits); refine hK _ ?_; clear hK K
      obtain ⟨s302, A302, n302, c302, rfl⟩ := IsC.val hv302
      clear hv302
      apply wpQ_call (i := 4) (by with_reducible (refine zA ?_; (repeat (first | exact zB | refine zC ?_)))) (by kernel_rfl) (by exact rfl); intro W hF hS; have hcS := hS.1.cells.1; have hfS := hS.1.cells.2; go_simp; (go_at_call 40; refine (K2.out _ _ _ ((HD.out.below hS.1.2).zl LD.out) (hF.zl Ln.out)).mono ?_; rintro e w303 ⟨hb_w303, v303, rfl, hv303⟩; refine XPost.mk _ (fun W => IsC W v303 (DN)) hb_w303 (hv303) (IsC.cl _ _) ?_); clear hb_w303 hcS hfS hS hF
      intro K hK; go_simp; (try go_bits); refine hK _ ?_; clear hK K
      obtain ⟨s303, A303, n303, c303, rfl⟩ := IsC.val hv303
      clear hv303
      refine wpQ_done (by kernel_rfl) ?_
      intro w304 hF_w304 hSG
      have hz_w304 := hSG.1.1
      have hb_w304 := hSG.1.2
      clear hSG
      (with_reducible apply cel2 (b := w.heap.size) hb_w304); (focus ((try simp) <;> omega)); (focus omega); (iterate 2 (focus (go_simp; try exact rfl))); (focus (intro o; go_simp)); intro c_w304_0_0 c_w304_0_1 fz_w304_0 hl_w304_0; (with_reducible apply cel2 (b := w101.heap.size) hb_w304); (focus ((try simp) <;> omega)); (focus omega); (iterate 2 (focus (go_simp; try exact rfl))); (focus (intro o; go_simp)); intro c_w304_1_0 c_w304_1_1 fz_w304_1 hl_w304_1; (with_reducible apply cel2 (b := w101.heap.size + 1) hb_w304); (focus ((try simp) <;> omega)); (focus omega); (iterate 2 (focus (go_simp; try exact rfl))); (focus (intro o; go_simp)); intro c_w304_2_0 c_w304_2_1 fz_w304_2 hl_w304_2; (with_reducible apply cel2 (b := w101.heap.size + 1 + 1) hb_w304); (focus ((try simp) <;> omega)); (focus omega); (iterate 2 (focus (go_simp; try exact rfl))); (focus (intro o; go_simp)); intro c_w304_3_0 c_w304_3_1 fz_w304_3 hl_w304_3
      (try simp only [List.filterMap_cons, List.filterMap_nil, List.getElem?_cons_succ, List.getElem?_cons_zero])
      replace HX := Lib.hid (HX.out.below hb_w304)
      replace HY := Lib.hid (HY.out.below hb_w304)
      replace HD := Lib.hid (HD.out.below hb_w304)
      have H302 := Lib.hid (show IsC w304 (.agg #[.bool s302, .slice A302 n302 c302]) (n) from hF_w304.1)
      have H303 := Lib.hid (show IsC w304 (.agg #[.bool s303, .slice A303 n303 c303]) (DN) from hF_w304.2)
      have HB304 := Lib.hid (HB301.out.trans (hb_w304.mono (by have := HB301.out.size; omega)))
      have hz304 : w.heap.size + 1 ≤ w304.heap.size := by omega
      clear hF_w304 hb_w304
      clear c_w301_0_0 c_w301_0_1 fz_w301_0 hl_w301_0 c_w301_1_0 c_w301_1_1 fz_w301_1 hl_w301_1 c_w301_2_0 c_w301_2_1 fz_w301_2 hl_w301_2 c_w301_3_0 c_w301_3_1 fz_w301_3 hl_w301_3
      go_wp2_with fail
      refine HQ_.out _ _ _ ?_
      clear HQ_ Q_
      go_wp2_with fail
      (go_at_call 46; refine (K3.out _ _ _ ((show IsC _ (.agg #[.bool sX, .slice AX nX cX]) (X) by ((repeat (first | (with_reducible exact HX.out) | (with_reducible refine IsC.al ?_ _) | (with_reducible apply IsC.st1))) <;> (first | (with_reducible assumption) | (intro _ e; cases e; done) | (go_simp; first | done | exact rfl)))).zl LX.out) ((show IsC _ (.agg #[.bool s303, .slice A303 n303 c303]) (DN) by ((repeat (first | (with_reducible exact H303.out) | (with_reducible refine IsC.al ?_ _) | (with_reducible apply IsC.st1))) <;> (first | (with_reducible assumption) | (intro _ e; cases e; done) | (go_simp; first | done | exact rfl)))).zl LDN.out)).mono ?_; rintro e w305 ⟨hb_w305, u305, v305, rfl, hu305, hv305⟩; have hz_w305 := hb_w305.size; (try simp at hz_w305); (with_reducible apply cel2 (b := w.heap.size) hb_w305); (focus ((try simp) <;> omega)); (focus omega); (iterate 2 (focus (go_simp; try exact rfl))); (focus (intro o; go_simp)); intro c_w305_0_0 c_w305_0_1 fz_w305_0 hl_w305_0; (with_reducible apply cel2 (b := w101.heap.size) hb_w305); (focus ((try simp) <;> omega)); (focus omega); (iterate 2 (focus (go_simp; try exact rfl))); (focus (intro o; go_simp)); intro c_w305_1_0 c_w305_1_1 fz_w305_1 hl_w305_1; (with_reducible apply cel2 (b := w101.heap.size + 1) hb_w305); (focus ((try simp) <;> omega)); (focus omega); (iterate 2 (focus (go_simp; try exact rfl))); (focus (intro o; go_simp)); intro c_w305_2_0 c_w305_2_1 fz_w305_2 hl_w305_2; (with_reducible apply cel2 (b := w101.heap.size + 1 + 1) hb_w305); (focus ((try simp) <;> omega)); (focus omega); (iterate 2 (focus (go_simp; try exact rfl))); (focus (intro o; go_simp)); intro c_w305_3_0 c_w305_3_1 fz_w305_3 hl_w305_3)
      obtain ⟨s305u, A305u, n305u, c305u, rfl⟩ := IsC.val hu305
      obtain ⟨s305, A305, n305, c305, rfl⟩ := IsC.val hv305
      clear HX
      clear HD
      clear H302
      replace HY := Lib.hid (IsC.below (v := .agg #[.bool sY, .slice AY nY cY]) (z := Y) (by ((repeat (first | (with_reducible exact HY.out) | (with_reducible refine IsC.al ?_ _) | (with_reducible apply IsC.st1))) <;> (first | (with_reducible assumption) | (intro _ e; cases e; done) | (go_simp; first | done | exact rfl)))) hb_w305)
      replace H303 := Lib.hid (IsC.below (v := .agg #[.bool s303, .slice A303 n303 c303]) (z := DN) (by ((repeat (first | (with_reducible exact H303.out) | (with_reducible refine IsC.al ?_ _) | (with_reducible apply IsC.st1))) <;> (first | (with_reducible assumption) | (intro _ e; cases e; done) | (go_simp; first | done | exact rfl)))) hb_w305)
      have HB305 := Lib.hid (show Below w101.heap.size w101 w305 by have hB := HB304.out; ((with_reducible (repeat (first | exact bR _ _ | refine bS ?_ ?_ _ | refine bA ?_ ?_ _ | refine bD ?_ | refine bT ?_ (by assumption) ?_ | refine bO (by assumption) ?_ ?_))) <;> (first | omega | (simp <;> omega))))
      have hz305 : w.heap.size + 1 ≤ w305.heap.size := by omega
      clear hb_w305
      clear c_w304_0_0 c_w304_0_1 fz_w304_0 hl_w304_0 c_w304_1_0 c_w304_1_1 fz_w304_1 hl_w304_1 c_w304_2_0 c_w304_2_1 fz_w304_2 hl_w304_2 c_w304_3_0 c_w304_3_1 fz_w304_3 hl_w304_3
      have H305u := Lib.hid (show IsC w305 (.agg #[.bool s305u, .slice A305u n305u c305u]) (x) from hu305)
      clear hu305
      have H305 := Lib.hid (show IsC w305 (.agg #[.bool s305, .slice A305 n305 c305]) (x2) from hv305)
      clear hv305
      go_wp2_with fail
      (go_at_call 46; refine (K4.out _ _ _ ((show IsC _ (.agg #[.bool sY, .slice AY nY cY]) (Y) by ((repeat (first | (with_reducible exact HY.out) | (with_reducible refine IsC.al ?_ _) | (with_reducible apply IsC.st1))) <;> (first | (with_reducible assumption) | (intro _ e; cases e; done) | (go_simp; first | done | exact rfl)))).zl LY.out) ((show IsC _ (.agg #[.bool s303, .slice A303 n303 c303]) (DN) by ((repeat (first | (with_reducible exact H303.out) | (with_reducible refine IsC.al ?_ _) | (with_reducible apply IsC.st1))) <;> (first | (with_reducible assumption) | (intro _ e; cases e; done) | (go_simp; first | done | exact rfl)))).zl LDN.out)).mono ?_; rintro e w306 ⟨hb_w306, u306, v306, rfl, hu306, hv306⟩; have hz_w306 := hb_w306.size; (try simp at hz_w306); (with_reducible apply cel2 (b := w.heap.size) hb_w306); (focus ((try simp) <;> omega)); (focus omega); (iterate 2 (focus (go_simp; try exact rfl))); (focus (intro o; go_simp)); intro c_w306_0_0 c_w306_0_1 fz_w306_0 hl_w306_0; (with_reducible apply cel2 (b := w101.heap.size) hb_w306); (focus ((try simp) <;> omega)); (focus omega); (iterate 2 (focus (go_simp; try exact rfl))); (focus (intro o; go_simp)); intro c_w306_1_0 c_w306_1_1 fz_w306_1 hl_w306_1; (with_reducible apply cel2 (b := w101.heap.size + 1) hb_w306); (focus ((try simp) <;> omega)); (focus omega); (iterate 2 (focus (go_simp; try exact rfl))); (focus (intro o; go_simp)); intro c_w306_2_0 c_w306_2_1 fz_w306_2 hl_w306_2; (with_reducible apply cel2 (b := w101.heap.size + 1 + 1) hb_w306); (focus ((try simp) <;> omega)); (focus omega); (iterate 2 (focus (go_simp; try exact rfl))); (focus (intro o; go_simp)); intro c_w306_3_0 c_w306_3_1 fz_w306_3 hl_w306_3; (with_reducible apply cel2 (b := w305.heap.size) hb_w306); (focus ((try simp) <;> omega)); (focus omega); (iterate 2 (focus (go_simp; try exact rfl))); (focus (intro o; go_simp)); intro c_w306_4_0 c_w306_4_1 fz_w306_4 hl_w306_4)
      obtain ⟨s306u, A306u, n306u, c306u, rfl⟩ := IsC.val hu306
      obtain ⟨s306, A306, n306, c306, rfl⟩ := IsC.val hv306
      clear HY
      clear H303
      clear H305
      replace H305u := Lib.hid (IsC.below (v := .agg #[.bool s305u, .slice A305u n305u c305u]) (z := x) (by ((repeat (first | (with_reducible exact H305u.out) | (with_reducible refine IsC.al ?_ _) | (with_reducible apply IsC.st1))) <;> (first | (with_reducible assumption) | (intro _ e; cases e; done) | (go_simp; first | done | exact rfl)))) hb_w306)
      have HB306 := Lib.hid (show Below w101.heap.size w101 w306 by have hB := HB305.out; ((with_reducible (repeat (first | exact bR _ _ | refine bS ?_ ?_ _ | refine bA ?_ ?_ _ | refine bD ?_ | refine bT ?_ (by assumption) ?_ | refine bO (by assumption) ?_ ?_))) <;> (first | omega | (simp <;> omega))))
      have hz306 : w.heap.size + 1 ≤ w306.heap.size := by omega
      clear hb_w306
      clear c_w305_0_0 c_w305_0_1 fz_w305_0 hl_w305_0 c_w305_1_0 c_w305_1_1 fz_w305_1 hl_w305_1 c_w305_2_0 c_w305_2_1 fz_w305_2 hl_w305_2 c_w305_3_0 c_w305_3_1 fz_w305_3 hl_w305_3
      have H306u := Lib.hid (show IsC w306 (.agg #[.bool s306u, .slice A306u n306u c306u]) (y) from hu306)
      clear hu306
      have H306 := Lib.hid (show IsC w306 (.agg #[.bool s306, .slice A306 n306 c306]) (y2) from hv306)
      clear hv306
      go_wp2_with fail
      (go_at_call 47; refine (K5.out _ _ ((show IsC _ (.agg #[.bool s305u, .slice A305u n305u c305u]) (x) by ((repeat (first | (with_reducible exact H305u.out) | (with_reducible refine IsC.al ?_ _) | (with_reducible apply IsC.st1))) <;> (first | (with_reducible assumption) | (intro _ e; cases e; done) | (go_simp; first | done | exact rfl)))).zl Lx.out)).mono ?_; rintro e w307 ⟨rfl, hb_w307⟩; have hz_w307 := hb_w307.size; (try simp at hz_w307); (with_reducible apply cel2 (b := w.heap.size) hb_w307); (focus ((try simp) <;> omega)); (focus omega); (iterate 2 (focus (go_simp; try exact rfl))); (focus (intro o; go_simp)); intro c_w307_0_0 c_w307_0_1 fz_w307_0 hl_w307_0; (with_reducible apply cel2 (b := w101.heap.size) hb_w307); (focus ((try simp) <;> omega)); (focus omega); (iterate 2 (focus (go_simp; try exact rfl))); (focus (intro o; go_simp)); intro c_w307_1_0 c_w307_1_1 fz_w307_1 hl_w307_1; (with_reducible apply cel2 (b := w101.heap.size + 1) hb_w307); (focus ((try simp) <;> omega)); (focus omega); (iterate 2 (focus (go_simp; try exact rfl))); (focus (intro o; go_simp)); intro c_w307_2_0 c_w307_2_1 fz_w307_2 hl_w307_2; (with_reducible apply cel2 (b := w101.heap.size + 1 + 1) hb_w307); (focus ((try simp) <;> omega)); (focus omega); (iterate 2 (focus (go_simp; try exact rfl))); (focus (intro o; go_simp)); intro c_w307_3_0 c_w307_3_1 fz_w307_3 hl_w307_3; (with_reducible apply cel2 (b := w306.heap.size) hb_w307); (focus ((try simp) <;> omega)); (focus omega); (iterate 2 (focus (go_simp; try exact rfl))); (focus (intro o; go_simp)); intro c_w307_4_0 c_w307_4_1 fz_w307_4 hl_w307_4)
      clear H305u
      clear H306
      replace H306u := Lib.hid (IsC.below (v := .agg #[.bool s306u, .slice A306u n306u c306u]) (z := y) (by ((repeat (first | (with_reducible exact H306u.out) | (with_reducible refine IsC.al ?_ _) | (with_reducible apply IsC.st1))) <;> (first | (with_reducible assumption) | (intro _ e; cases e; done) | (go_simp; first | done | exact rfl)))) hb_w307)
      have HB307 := Lib.hid (show Below w101.heap.size w101 w307 by have hB := HB306.out; ((with_reducible (repeat (first | exact bR _ _ | refine bS ?_ ?_ _ | refine bA ?_ ?_ _ | refine bD ?_ | refine bT ?_ (by assumption) ?_ | refine bO (by assumption) ?_ ?_))) <;> (first | omega | (simp <;> omega))))
      have hz307 : w.heap.size + 1 ≤ w307.heap.size := by omega
      clear hb_w307
      clear c_w306_0_0 c_w306_0_1 fz_w306_0 hl_w306_0 c_w306_1_0 c_w306_1_1 fz_w306_1 hl_w306_1 c_w306_2_0 c_w306_2_1 fz_w306_2 hl_w306_2 c_w306_3_0 c_w306_3_1 fz_w306_3 hl_w306_3 c_w306_4_0 c_w306_4_1 fz_w306_4 hl_w306_4
      go_wp2_with fail
      (go_at_call 47; refine (K6.out _ _ ((show IsC _ (.agg #[.bool s306u, .slice A306u n306u c306u]) (y) by ((repeat (first | (with_reducible exact H306u.out) | (with_reducible refine IsC.al ?_ _) | (with_reducible apply IsC.st1))) <;> (first | (with_reducible assumption) | (intro _ e; cases e; done) | (go_simp; first | done | exact rfl)))).zl Ly.out)).mono ?_; rintro e w308 ⟨rfl, hb_w308⟩; have hz_w308 := hb_w308.size; (try simp at hz_w308); (with_reducible apply cel2 (b := w.heap.size) hb_w308); (focus ((try simp) <;> omega)); (focus omega); (iterate 2 (focus (go_simp; try exact rfl))); (focus (intro o; go_simp)); intro c_w308_0_0 c_w308_0_1 fz_w308_0 hl_w308_0; (with_reducible apply cel2 (b := w101.heap.size) hb_w308); (focus ((try simp) <;> omega)); (focus omega); (iterate 2 (focus (go_simp; try exact rfl))); (focus (intro o; go_simp)); intro c_w308_1_0 c_w308_1_1 fz_w308_1 hl_w308_1; (with_reducible apply cel2 (b := w101.heap.size + 1) hb_w308); (focus ((try simp) <;> omega)); (focus omega); (iterate 2 (focus (go_simp; try exact rfl))); (focus (intro o; go_simp)); intro c_w308_2_0 c_w308_2_1 fz_w308_2 hl_w308_2; (with_reducible apply cel2 (b := w101.heap.size + 1 + 1) hb_w308); (focus ((try simp) <;> omega)); (focus omega); (iterate 2 (focus (go_simp; try exact rfl))); (focus (intro o; go_simp)); intro c_w308_3_0 c_w308_3_1 fz_w308_3 hl_w308_3)
      clear H306u
      have HB308 := Lib.hid (show Below w101.heap.size w101 w308 by have hB := HB307.out; ((with_reducible (repeat (first | exact bR _ _ | refine bS ?_ ?_ _ | refine bA ?_ ?_ _ | refine bD ?_ | refine bT ?_ (by assumption) ?_ | refine bO (by assumption) ?_ ?_))) <;> (first | omega | (simp <;> omega))))
      have hz308 : w.heap.size + 1 ≤ w308.heap.size := by omega
      clear hb_w308
      clear c_w307_0_0 c_w307_0_1 fz_w307_0 hl_w307_0 c_w307_1_0 c_w307_1_1 fz_w307_1 hl_w307_1 c_w307_2_0 c_w307_2_1 fz_w307_2 hl_w307_2 c_w307_3_0 c_w307_3_1 fz_w307_3 hl_w307_3 c_w307_4_0 c_w307_4_1 fz_w307_4 hl_w307_4
      go_wp2_with fail
      (go_at_call 48; refine (K7.out _).mono ?_; rintro e w309 ⟨rfl, hb_w309⟩; have hz_w309 := hb_w309.size; (try simp at hz_w309); (with_reducible apply cel2 (b := w.heap.size) hb_w309); (focus ((try simp) <;> omega)); (focus omega); (iterate 2 (focus (go_simp; try exact rfl))); (focus (intro o; go_simp)); intro c_w309_0_0 c_w309_0_1 fz_w309_0 hl_w309_0; (with_reducible apply cel2 (b := w101.heap.size) hb_w309); (focus ((try simp) <;> omega)); (focus omega); (iterate 2 (focus (go_simp; try exact rfl))); (focus (intro o; go_simp)); intro c_w309_1_0 c_w309_1_1 fz_w309_1 hl_w309_1; (with_reducible apply cel2 (b := w101.heap.size + 1) hb_w309); (focus ((try simp) <;> omega)); (focus omega); (iterate 2 (focus (go_simp; try exact rfl))); (focus (intro o; go_simp)); intro c_w309_2_0 c_w309_2_1 fz_w309_2 hl_w309_2; (with_reducible apply cel2 (b := w101.heap.size + 1 + 1) hb_w309); (focus ((try simp) <;> omega)); (focus omega); (iterate 2 (focus (go_simp; try exact rfl))); (focus (intro o; go_simp)); intro c_w309_3_0 c_w309_3_1 fz_w309_3 hl_w309_3)
      have HB309 := Lib.hid (show Below w101.heap.size w101 w309 by have hB := HB308.out; ((with_reducible (repeat (first | exact bR _ _ | refine bS ?_ ?_ _ | refine bA ?_ ?_ _ | refine bD ?_ | refine bT ?_ (by assumption) ?_ | refine bO (by assumption) ?_ ?_))) <;> (first | omega | (simp <;> omega))))
      have hz309 : w.heap.size + 1 ≤ w309.heap.size := by omega
      clear hb_w309
      clear c_w308_0_0 c_w308_0_1 fz_w308_0 hl_w308_0 c_w308_1_0 c_w308_1_1 fz_w308_1 hl_w308_1 c_w308_2_0 c_w308_2_1 fz_w308_2 hl_w308_2 c_w308_3_0 c_w308_3_1 fz_w308_3 hl_w308_3
      go_wp2_with fail
      refine bodyPost_ret (v := .tuple #[.agg #[.int .i64 x, .int .i64 y], .bool true]) (by simp only [results, Tryz.results17]; go_simp) rfl ⟨?_, ?_⟩
      · rfl
      · have hB := HB101.out; have hB2 := HB309.out; ((with_reducible (repeat (first | exact bR _ _ | refine bS ?_ ?_ _ | refine bA ?_ ?_ _ | refine bD ?_ | refine bT ?_ (by assumption) ?_ | refine bO (by assumption) ?_ ?_))) <;> (first | omega | (simp <;> omega)))
end Go.Proofs.YtgejdaincnclpaaGreat
