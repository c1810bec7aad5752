/- Merged texts: RsF VecH RsI RsJ Wint Wj RsW RsK (what no proof of the claim needs is left out). -/
import Derived.Test.YtgejdaincnclpaaCb3
import Derived.Deep.LoopGhost
import Derived.Lib.Hide
import Derived.Test.YtgejdaincnclpaaShelf
import Derived.Lib.ItoaNum
namespace Go.Proofs.Ytgejdaincnclpaa
open Go Go.RowKit
set_option linter.unusedVariables false
attribute [local go_sem] makeFunc_run
def pairX (v n m c rest sgn : Int) : Int := 32 * v * m + sgn * (16 + rest) * n * c
structure SmP (v n m c rest sgn : Int) : Prop where
  v : -4194304 ≤ v ∧ v ≤ 4194304
  n : -4194304 ≤ n ∧ n ≤ 4194304
  m : -17592186044416 ≤ m ∧ m ≤ 17592186044416
  c : -17592186044416 ≤ c ∧ c ≤ 17592186044416
  rest : 0 ≤ rest ∧ rest ≤ 15
  sgn : -1 ≤ sgn ∧ sgn ≤ 1
theorem SmP.parts {v n m c rest sgn : Int} (h : SmP v n m c rest sgn) : (-31 ≤ sgn * (16 + rest) ∧ sgn * (16 + rest) ≤ 31) ∧ (-130023424 ≤ sgn * (16 + rest) * n ∧ sgn * (16 + rest) * n ≤ 130023424) ∧
    (-2361183241434822606848 ≤ 32 * v * m ∧ 32 * v * m ≤ 2361183241434822606848) ∧ (-2361183241434822606848 ≤ sgn * (16 + rest) * n * c ∧ sgn * (16 + rest) * n * c ≤ 2361183241434822606848) := by
  obtain ⟨hv, hn, hm, hc, hr, hg⟩ := h
  have m1 := mulB sgn (16 + rest) 1 31 hg (by omega)
  have m2 := mulB (sgn * (16 + rest)) n 31 4194304 (by omega) hn
  have m3 := mulB (32 * v) m 134217728 17592186044416 (by omega) hm
  have m4 := mulB (sgn * (16 + rest) * n) c 134217728 17592186044416 (by omega) hc
  omega
theorem SmP.len {v n m c rest sgn : Int} (h : SmP v n m c rest sgn) : (canN (pairX v n m c rest sgn).natAbs).length ≤ 10 := by
  obtain ⟨_, _, a, b⟩ := h.parts
  unfold pairX
  exact canN_bd (B := 18446744073709551616 * 18446744073709551616) (by omega) (by omega) (by decide)
set_option maxRecDepth 100000 in
set_option maxHeartbeats 20000000 in
theorem pair1_any (v n m c rest sgn : Int) (b1 b2 b3 : Nat) (w : World) (hs : SmP v n m c rest sgn)
    (g1 : w.cell? ⟨b1, 0, none⟩ = some (.int .i64 m)) (g2 : w.cell? ⟨b2, 0, none⟩ = some (.int .i64 rest)) (g3 : w.cell? ⟨b3, 0, none⟩ = some (.int .i64 c)) :
    Calls Try.prog 61 #[.int .i64 v, .int .i64 n, .int .i64 sgn, .pointer (some ⟨b1, 0, none⟩), .pointer (some ⟨b2, 0, none⟩), .pointer (some ⟨b3, 0, none⟩)] w (ZOut (pairX v n m c rest sgn) w) := by
  have z1 : b1 < w.heap.size := by simpa using World.block_lt_of_cell? w _ g1
  have z2 : b2 < w.heap.size := by simpa using World.block_lt_of_cell? w _ g2
  have z3 : b3 < w.heap.size := by simpa using World.block_lt_of_cell? w _ g3
  obtain ⟨⟨p1, p2⟩, ⟨p3, p4⟩, p5, p6⟩ := hs.parts
  have hlen := hs.len
  obtain ⟨⟨v1, v2⟩, ⟨n1, n2⟩, ⟨m1, m2⟩, ⟨c1, c2⟩, ⟨r1, r2⟩, ⟨e1, e2⟩⟩ := hs
  have k1 := fun w => wof_any (32 * v) w (by omega) (by omega)
  have k2 := fun w => wof_any m w (by omega) (by omega)
  have k4 := fun w => wof_any (sgn * (16 + rest) * n) w (by omega) (by omega)
  have k5 := fun w => wof_any c w (by omega) (by omega)
  have l1 := len_wd (z := 32 * v) (by omega) (by omega)
  have l2 := len_wd (z := m) (by omega) (by omega)
  have l4 := len_wd (z := sgn * (16 + rest) * n) (by omega) (by omega)
  have l5 := len_wd (z := c) (by omega) (by omega)
  have l3 : (canN (32 * v * m).natAbs).length ≤ 10 := canN_bd (B := 18446744073709551616 * 18446744073709551616) (by omega) (by omega) (by decide)
  have l6 : (canN (sgn * (16 + rest) * n * c).natAbs).length ≤ 10 := canN_bd (B := 18446744073709551616 * 18446744073709551616) (by omega) (by omega) (by decide)
  have K1 := Lib.hid k1
  have K4 := Lib.hid k4
  clear k1 k4
  obtain ⟨P, hP⟩ : ∃ P, P = 32 * v := ⟨_, rfl⟩
  obtain ⟨Q, hQ⟩ : ∃ Q, Q = sgn * (16 + rest) * n := ⟨_, rfl⟩
  unfold pairX at hlen ⊢
  rw [← hP] at l1 l3 hlen ⊢
  rw [← hQ] at l4 l6 hlen ⊢
  have kk1 := fun w => (K1.out w).mono (fun _ _ (h : ZOut (32 * v) w _ _) => (show ZOut P w _ _ by rw [hP]; exact h))
  have kk4 := fun w => (K4.out w).mono (fun _ _ (h : ZOut (sgn * (16 + rest) * n) w _ _) => (show ZOut Q w _ _ by rw [hQ]; exact h))
  replace K1 := Lib.hid kk1
  replace K4 := Lib.hid kk4
  clear hP hQ kk1 kk4
  have k3 := fun x y w h1 h2 => wmul_any 10 x y P m w h1 h2 (by omega)
  have k6 := fun x y w h1 h2 => wmul_any 10 x y Q c w h1 h2 (by omega)
  have k7 := fun x y w h1 h2 => wadd_any 10 x y (P * m) (Q * c) w h1 h2 (by omega)
  generalize P * m = Z3 at *
  generalize Q * c = Z6 at *
  generalize Z3 + Z6 = Z at *
  have K2 := Lib.hid k2
  have K3 := Lib.hid k3
  have K5 := Lib.hid k5
  have K6 := Lib.hid k6
  have K7 := Lib.hid k7
  have L1 := Lib.hid l1
  have L2 := Lib.hid l2
  have L3 := Lib.hid l3
  have L4 := Lib.hid l4
  have L5 := Lib.hid l5
  have L6 := Lib.hid l6
  have G1 := Lib.hid g1
  have G2 := Lib.hid g2
  have G3 := Lib.hid g3
  clear k2 k3 k5 k6 k7 l1 l2 l3 l4 l5 l6 p5 p6 hlen
  -- names on
  go_enter Try.func61, Try.ntmps61; (try simp only [List.append_eq, List.cons_append, List.nil_append])
  go_wp2_with fail
  -- own blocks: w.heap.size:2
  (refine pin_wp (N := _) (Nat.le_refl _) (fun w2 hb_w2 hz_w2 => ?_); (try simp at hz_w2); (with_reducible apply cel2 (b := w.heap.size) hb_w2); (focus ((try simp) <;> omega)); (focus omega); (focus (go_simp; try exact rfl)); (focus (go_simp; try exact rfl)); (focus (intro o; go_simp)); intro c_w2_0_0 c_w2_0_1 fz_w2_0 hl_w2_0); refine wp_q (fun Q_ HQ_ => ?_); refine wp_region_floatQ w2.heap.size 17 [17] (Nat.le_refl _) (fun _ => True) trivial Cl.tt (by kernel_rfl) (by kernel_rfl) ?_
  have HB2 := Lib.hid (show Below w.heap.size w w2 by ((with_reducible (repeat (first | exact bR _ _ | refine bS ?_ ?_ _ | refine bA ?_ ?_ _ | refine bD ?_ | refine bT ?_ (by assumption) ?_ | refine bO (by assumption) ?_ ?_))) <;> (first | omega | (simp; done) | (simp <;> omega))))
  have hz2 : w.heap.size + 1 ≤ w2.heap.size := by omega
  clear hb_w2
  skip
  have f1 : w2.cell? ⟨b1, 0, none⟩ = some (.int .i64 m) := (HB2.out.cell (p := ⟨b1, 0, none⟩) z1).trans G1.out
  have y1 : b1 < w2.heap.size := by omega
  have f2 : w2.cell? ⟨b2, 0, none⟩ = some (.int .i64 rest) := (HB2.out.cell (p := ⟨b2, 0, none⟩) z2).trans G2.out
  have y2 : b2 < w2.heap.size := by omega
  have f3 : w2.cell? ⟨b3, 0, none⟩ = some (.int .i64 c) := (HB2.out.cell (p := ⟨b3, 0, none⟩) z3).trans G3.out
  have y3 : b3 < w2.heap.size := by omega
  clear g1 g2 g3
  refine wpQI_start [0, 1] ?_; (iterate 2 (first | (refine wpQI_off (by with_reducible (refine List.getElem?_toArray.trans ?_; (repeat (first | exact List.getElem?_cons_zero | refine List.getElem?_cons_succ.trans ?_)))) (by kernel_rfl) (by exact rfl) (fun K hK => ?_); go_simp; refine hK _ ?_; clear hK K) | ((first | apply wpQI_step (by with_reducible (refine List.getElem?_toArray.trans ?_; (repeat (first | exact List.getElem?_cons_zero | refine List.getElem?_cons_succ.trans ?_)))) (by kernel_rfl) (by exact rfl) | apply wpQI_on (by with_reducible (refine List.getElem?_toArray.trans ?_; (repeat (first | exact List.getElem?_cons_zero | refine List.getElem?_cons_succ.trans ?_)))) (by kernel_rfl) (by exact rfl)); (focus (intro W' hS; have hcS := hS.cells.1; have hfS := hS.cells.2; go_simp; (first | done | exact rfl | exact ⟨rfl, Below.refl _ _⟩ | (go_simp; first | done | exact rfl | exact ⟨rfl, Below.refl _ _⟩)))); intro K hK; go_simp; (try go_bits); refine hK _ ?_; clear hK K))); refine wpQI_nil ?_
  refine wpQI_start [3] ?_; (iterate 1 (first | (refine wpQI_off (by with_reducible (refine List.getElem?_toArray.trans ?_; (repeat (first | exact List.getElem?_cons_zero | refine List.getElem?_cons_succ.trans ?_)))) (by kernel_rfl) (by exact rfl) (fun K hK => ?_); go_simp; refine hK _ ?_; clear hK K) | ((first | apply wpQI_step (by with_reducible (refine List.getElem?_toArray.trans ?_; (repeat (first | exact List.getElem?_cons_zero | refine List.getElem?_cons_succ.trans ?_)))) (by kernel_rfl) (by exact rfl) | apply wpQI_on (by with_reducible (refine List.getElem?_toArray.trans ?_; (repeat (first | exact List.getElem?_cons_zero | refine List.getElem?_cons_succ.trans ?_)))) (by kernel_rfl) (by exact rfl)); (focus (intro W' hS; have hcS := hS.cells.1; have hfS := hS.cells.2; go_simp; (first | done | exact rfl | exact ⟨rfl, Below.refl _ _⟩ | (go_simp; first | done | exact rfl | exact ⟨rfl, Below.refl _ _⟩)))); intro K hK; go_simp; (try go_bits); refine hK _ ?_; clear hK K))); refine wpQI_nil ?_
  refine wpQI_start [6, 7, 8, 9, 10, 11] ?_; (iterate 6 (first | (refine wpQI_off (by with_reducible (refine List.getElem?_toArray.trans ?_; (repeat (first | exact List.getElem?_cons_zero | refine List.getElem?_cons_succ.trans ?_)))) (by kernel_rfl) (by exact rfl) (fun K hK => ?_); go_simp; refine hK _ ?_; clear hK K) | ((first | apply wpQI_step (by with_reducible (refine List.getElem?_toArray.trans ?_; (repeat (first | exact List.getElem?_cons_zero | refine List.getElem?_cons_succ.trans ?_)))) (by kernel_rfl) (by exact rfl) | apply wpQI_on (by with_reducible (refine List.getElem?_toArray.trans ?_; (repeat (first | exact List.getElem?_cons_zero | refine List.getElem?_cons_succ.trans ?_)))) (by kernel_rfl) (by exact rfl)); (focus (intro W' hS; have hcS := hS.cells.1; have hfS := hS.cells.2; go_simp; (first | done | exact rfl | exact ⟨rfl, Below.refl _ _⟩ | (go_simp; first | done | exact rfl | exact ⟨rfl, Below.refl _ _⟩)))); intro K hK; go_simp; (try go_bits); refine hK _ ?_; clear hK K))); refine wpQI_nil ?_
  refine wpQI_start [13] ?_; (iterate 1 (first | (refine wpQI_off (by with_reducible (refine List.getElem?_toArray.trans ?_; (repeat (first | exact List.getElem?_cons_zero | refine List.getElem?_cons_succ.trans ?_)))) (by kernel_rfl) (by exact rfl) (fun K hK => ?_); go_simp; refine hK _ ?_; clear hK K) | ((first | apply wpQI_step (by with_reducible (refine List.getElem?_toArray.trans ?_; (repeat (first | exact List.getElem?_cons_zero | refine List.getElem?_cons_succ.trans ?_)))) (by kernel_rfl) (by exact rfl) | apply wpQI_on (by with_reducible (refine List.getElem?_toArray.trans ?_; (repeat (first | exact List.getElem?_cons_zero | refine List.getElem?_cons_succ.trans ?_)))) (by kernel_rfl) (by exact rfl)); (focus (intro W' hS; have hcS := hS.cells.1; have hfS := hS.cells.2; go_simp; (first | done | exact rfl | exact ⟨rfl, Below.refl _ _⟩ | (go_simp; first | done | exact rfl | exact ⟨rfl, Below.refl _ _⟩)))); intro K hK; go_simp; (try go_bits); refine hK _ ?_; clear hK K))); refine wpQI_nil ?_
  apply wpQ_call (i := 2) (by with_reducible (refine List.getElem?_toArray.trans ?_; (repeat (first | exact List.getElem?_cons_zero | refine List.getElem?_cons_succ.trans ?_)))) (by kernel_rfl) (by exact rfl); intro W hF hS; have hcS := hS.1.cells.1; have hfS := hS.1.cells.2; go_simp; (go_at_call 41; refine (K1.out _).mono ?_; rintro e w3 ⟨hb_w3, v3, rfl, hv3⟩; refine XPost.mk _ (fun W => IsC W v3 (P)) hb_w3 (hv3) (IsC.cl _ _) ?_); clear hb_w3 hcS hfS hS hF
  intro K hK; go_simp; (try go_bits); refine hK _ ?_; clear hK K
  obtain ⟨s3, A3, n3, c3, rfl⟩ := IsC.val hv3
  clear hv3
  apply wpQ_call (i := 4) (by with_reducible (refine List.getElem?_toArray.trans ?_; (repeat (first | exact List.getElem?_cons_zero | refine List.getElem?_cons_succ.trans ?_)))) (by kernel_rfl) (by exact rfl); intro W hF hS; have hcS := hS.1.cells.1; have hfS := hS.1.cells.2; go_simp; (go_at_call 41; refine (K2.out _).mono ?_; rintro e w4 ⟨hb_w4, v4, rfl, hv4⟩; refine XPost.mk _ (fun W => IsC W v4 (m)) hb_w4 (hv4) (IsC.cl _ _) ?_); clear hb_w4 hcS hfS hS hF
  intro K hK; go_simp; (try go_bits); refine hK _ ?_; clear hK K
  obtain ⟨s4, A4, n4, c4, rfl⟩ := IsC.val hv4
  clear hv4
  apply wpQ_call (i := 5) (by with_reducible (refine List.getElem?_toArray.trans ?_; (repeat (first | exact List.getElem?_cons_zero | refine List.getElem?_cons_succ.trans ?_)))) (by kernel_rfl) (by exact rfl); intro W hF hS; have hcS := hS.1.cells.1; have hfS := hS.1.cells.2; go_simp; (go_at_call 40; refine (K3.out _ _ _ (hF.1.zl L1.out) (hF.2.zl L2.out)).mono ?_; rintro e w5 ⟨hb_w5, v5, rfl, hv5⟩; refine XPost.mk _ (fun W => IsC W v5 (Z3)) hb_w5 (hv5) (IsC.cl _ _) ?_); clear hb_w5 hcS hfS hS hF
  intro K hK; go_simp; (try go_bits); refine hK _ ?_; clear hK K
  obtain ⟨s5, A5, n5, c5, rfl⟩ := IsC.val hv5
  clear hv5
  apply wpQ_call (i := 12) (by with_reducible (refine List.getElem?_toArray.trans ?_; (repeat (first | exact List.getElem?_cons_zero | refine List.getElem?_cons_succ.trans ?_)))) (by kernel_rfl) (by exact rfl); intro W hF hS; have hcS := hS.1.cells.1; have hfS := hS.1.cells.2; go_simp; (go_at_call 41; refine (K4.out _).mono ?_; rintro e w6 ⟨hb_w6, v6, rfl, hv6⟩; refine XPost.mk _ (fun W => IsC W v6 (Q)) hb_w6 (hv6) (IsC.cl _ _) ?_); clear hb_w6 hcS hfS hS hF
  intro K hK; go_simp; (try go_bits); refine hK _ ?_; clear hK K
  obtain ⟨s6, A6, n6, c6, rfl⟩ := IsC.val hv6
  clear hv6
  apply wpQ_call (i := 14) (by with_reducible (refine List.getElem?_toArray.trans ?_; (repeat (first | exact List.getElem?_cons_zero | refine List.getElem?_cons_succ.trans ?_)))) (by kernel_rfl) (by exact rfl); intro W hF hS; have hcS := hS.1.cells.1; have hfS := hS.1.cells.2; go_simp; (go_at_call 41; refine (K5.out _).mono ?_; rintro e w7 ⟨hb_w7, v7, rfl, hv7⟩; refine XPost.mk _ (fun W => IsC W v7 (c)) hb_w7 (hv7) (IsC.cl _ _) ?_); clear hb_w7 hcS hfS hS hF
  intro K hK; go_simp; (try go_bits); refine hK _ ?_; clear hK K
  obtain ⟨s7, A7, n7, c7, rfl⟩ := IsC.val hv7
  clear hv7
  apply wpQ_call (i := 15) (by with_reducible (refine List.getElem?_toArray.trans ?_; (repeat (first | exact List.getElem?_cons_zero | refine List.getElem?_cons_succ.trans ?_)))) (by kernel_rfl) (by exact rfl); intro W hF hS; have hcS := hS.1.cells.1; have hfS := hS.1.cells.2; go_simp; (go_at_call 40; refine (K6.out _ _ _ (hF.1.2.zl L4.out) (hF.2.zl L5.out)).mono ?_; rintro e w8 ⟨hb_w8, v8, rfl, hv8⟩; refine XPost.mk _ (fun W => IsC W v8 (Z6)) hb_w8 (hv8) (IsC.cl _ _) ?_); clear hb_w8 hcS hfS hS hF
  intro K hK; go_simp; (try go_bits); refine hK _ ?_; clear hK K
  obtain ⟨s8, A8, n8, c8, rfl⟩ := IsC.val hv8
  clear hv8
  apply wpQ_call (i := 16) (by with_reducible (refine List.getElem?_toArray.trans ?_; (repeat (first | exact List.getElem?_cons_zero | refine List.getElem?_cons_succ.trans ?_)))) (by kernel_rfl) (by exact rfl); intro W hF hS; have hcS := hS.1.cells.1; have hfS := hS.1.cells.2; go_simp; (go_at_call 39; refine (K7.out _ _ _ (hF.1.1.1.2.zl L3.out) (hF.2.zl L6.out)).mono ?_; rintro e w9 ⟨hb_w9, v9, rfl, hv9⟩; refine XPost.mk _ (fun W => IsC W v9 (Z)) hb_w9 (hv9) (IsC.cl _ _) ?_); clear hb_w9 hcS hfS hS hF
  intro K hK; go_simp; (try go_bits); refine hK _ ?_; clear hK K
  obtain ⟨s9, A9, n9, c9, rfl⟩ := IsC.val hv9
  clear hv9
  refine wpQ_done (by kernel_rfl) ?_
  intro w10 hF_w10 hSG
  have hz_w10 := hSG.1.1
  have hb_w10 := hSG.1.2
  clear hSG
  (with_reducible apply cel2 (b := w.heap.size) hb_w10); (focus ((try simp) <;> omega)); (focus omega); (focus (go_simp; try exact rfl)); (focus (go_simp; try exact rfl)); (focus (intro o; go_simp)); intro c_w10_0_0 c_w10_0_1 fz_w10_0 hl_w10_0
  (try simp only [List.filterMap_cons, List.filterMap_nil, List.getElem?_cons_succ, List.getElem?_cons_zero])
  have H3 := Lib.hid (show IsC w10 (.agg #[.bool s3, .slice A3 n3 c3]) (P) from hF_w10.1.1.1.1.1.1)
  have H4 := Lib.hid (show IsC w10 (.agg #[.bool s4, .slice A4 n4 c4]) (m) from hF_w10.1.1.1.1.1.2)
  have H5 := Lib.hid (show IsC w10 (.agg #[.bool s5, .slice A5 n5 c5]) (Z3) from hF_w10.1.1.1.1.2)
  have H6 := Lib.hid (show IsC w10 (.agg #[.bool s6, .slice A6 n6 c6]) (Q) from hF_w10.1.1.1.2)
  have H7 := Lib.hid (show IsC w10 (.agg #[.bool s7, .slice A7 n7 c7]) (c) from hF_w10.1.1.2)
  have H8 := Lib.hid (show IsC w10 (.agg #[.bool s8, .slice A8 n8 c8]) (Z6) from hF_w10.1.2)
  have H9 := Lib.hid (show IsC w10 (.agg #[.bool s9, .slice A9 n9 c9]) (Z) from hF_w10.2)
  have HB10 := Lib.hid (HB2.out.trans (hb_w10.mono (by have := HB2.out.size; omega)))
  have hz10 : w.heap.size + 1 ≤ w10.heap.size := by omega
  clear hF_w10 hb_w10
  clear c_w2_0_0 c_w2_0_1 fz_w2_0 hl_w2_0
  go_wp2_with fail
  refine HQ_.out _ _ _ ?_
  clear HQ_ Q_
  go_wp2_with fail
  -- own blocks: w.heap.size:2
  refine bodyPost_ret (v := .agg #[.bool s9, .slice A9 n9 c9]) (by simp only [results, Try.results61]; go_simp) rfl ⟨?_, ?_⟩
  · have hB := HB10.out; ((with_reducible (repeat (first | exact bR _ _ | refine bS ?_ ?_ _ | refine bA ?_ ?_ _ | refine bD ?_ | refine bT ?_ (by assumption) ?_ | refine bO (by assumption) ?_ ?_))) <;> (first | omega | (simp; done) | (simp <;> omega)))
  · exact ⟨_, rfl, (by ((repeat (first | (with_reducible exact H9.out) | (with_reducible refine IsC.al ?_ _) | (with_reducible apply IsC.st1))) <;> (first | (with_reducible assumption) | (intro _ e; cases e; done) | (go_simp; first | done | exact rfl))))⟩
theorem sp1 {v1 v2 w1 w2 n1 n2 rest x n sgn : Int} (h : permB v1 v2 w1 w2 n1 n2 = true) (hr : sixB rest = true) (hx : -1048576 ≤ x ∧ x ≤ 1048576) (hn : -2097152 ≤ n ∧ n ≤ 2097152) (hs : -1 ≤ sgn ∧ sgn ≤ 1) : SmP x n (n1 * n1 + n2 * n2) ((v1 - w1) * n1 + (v2 - w2) * n2) rest sgn := by
  obtain ⟨a, b, c⟩ := perm_bd h
  obtain ⟨d, e, f⟩ := perm_prod h
  simp only [sixB, decide_eq_true_eq] at hr
  exact ⟨by omega, by omega, by omega, by omega, by omega, by omega⟩
def pairR (v1 v2 w1 w2 n1 n2 rest : Int) : (Int × Int × Int) × (Int × Int × Int) :=
  if permB v1 v2 w1 w2 n1 n2 = true ∧ sixB rest = true then
    if apprB v1 v2 w1 w2 n1 n2 = true then
      (lowR (pairX v1 n1 (n1 * n1 + n2 * n2) ((v1 - w1) * n1 + (v2 - w2) * n2) rest (-1)) (pairX v2 n2 (n1 * n1 + n2 * n2) ((v1 - w1) * n1 + (v2 - w2) * n2) rest (-1)) (32 * (n1 * n1 + n2 * n2)),
       lowR (pairX w1 n1 (n1 * n1 + n2 * n2) ((v1 - w1) * n1 + (v2 - w2) * n2) rest 1) (pairX w2 n2 (n1 * n1 + n2 * n2) ((v1 - w1) * n1 + (v2 - w2) * n2) rest 1) (32 * (n1 * n1 + n2 * n2)))
    else ((v1, v2, 1), (w1, w2, 1))
  else ((0, 0, 0), (0, 0, 0))
def POut2 (R : (Int × Int × Int) × (Int × Int × Int)) (w : World) (e : Ending) (w' : World) : Prop := RROut R.1.1 R.1.2.1 R.1.2.2 R.2.1 R.2.2.1 R.2.2.2 w e w'
set_option maxRecDepth 100000 in
set_option maxHeartbeats 20000000 in
theorem pair_bad (v1 v2 w1 w2 n1 n2 rest : Int) (w : World) (h : ¬ (permB v1 v2 w1 w2 n1 n2 = true ∧ sixB rest = true)) :
    Calls Try.prog 37 #[.agg #[.int .i64 v1, .int .i64 v2], .agg #[.int .i64 w1, .int .i64 w2], .agg #[.int .i64 n1, .int .i64 n2], .int .i64 rest] w (RROut 0 0 0 0 0 0 w) := by
  have k1 := fun w => permitted_any v1 v2 w1 w2 n1 n2 w
  have k2 := fun g w => sixteenths_one rest g w
  generalize permB v1 v2 w1 w2 n1 n2 = c1 at *
  generalize sixB rest = c2 at *
  have H := Lib.hid h
  have K1 := Lib.hid k1
  have K2 := Lib.hid k2
  clear k1 k2 h
  go_enter Try.func37, Try.ntmps37; (try simp only [List.append_eq, List.cons_append, List.nil_append])
  go_wp2_with fail
  -- own blocks: w.heap.size:2, w.heap.size + 1:2, w.heap.size + 1 + 1:2, w.heap.size + 1 + 1 + 1:1, w.heap.size + 1 + 1 + 1 + 1:6, w.heap.size + 1 + 1 + 1 + 1 + 1:6
  (go_at_call 35; refine (K1.out _).mono ?_; rintro e w1 ⟨rfl, hb_w1⟩; have hz_w1 := hb_w1.size; (try simp at hz_w1); (with_reducible apply cel2 (b := w.heap.size) hb_w1); (focus ((try simp) <;> omega)); (focus omega); (focus (go_simp; try exact rfl)); (focus (go_simp; try exact rfl)); (focus (intro o; go_simp)); intro c_w1_0_0 c_w1_0_1 fz_w1_0 hl_w1_0; (with_reducible apply cel2 (b := w.heap.size + 1) hb_w1); (focus ((try simp) <;> omega)); (focus omega); (focus (go_simp; try exact rfl)); (focus (go_simp; try exact rfl)); (focus (intro o; go_simp)); intro c_w1_1_0 c_w1_1_1 fz_w1_1 hl_w1_1; (with_reducible apply cel2 (b := w.heap.size + 1 + 1) hb_w1); (focus ((try simp) <;> omega)); (focus omega); (focus (go_simp; try exact rfl)); (focus (go_simp; try exact rfl)); (focus (intro o; go_simp)); intro c_w1_2_0 c_w1_2_1 fz_w1_2 hl_w1_2; (with_reducible apply cel1 (b := w.heap.size + 1 + 1 + 1) hb_w1); (focus ((try simp) <;> omega)); (focus omega); (focus (go_simp; try exact rfl)); (focus (intro o; go_simp)); intro c_w1_3_0 fz_w1_3 hl_w1_3; (with_reducible apply cel6 (b := w.heap.size + 1 + 1 + 1 + 1) hb_w1); (focus ((try simp) <;> omega)); (focus omega); (focus (go_simp; try exact rfl)); (focus (go_simp; try exact rfl)); (focus (go_simp; try exact rfl)); (focus (go_simp; try exact rfl)); (focus (go_simp; try exact rfl)); (focus (go_simp; try exact rfl)); (focus (intro o; go_simp)); intro c_w1_4_0 c_w1_4_1 c_w1_4_2 c_w1_4_3 c_w1_4_4 c_w1_4_5 fz_w1_4 hl_w1_4; (with_reducible apply cel6 (b := w.heap.size + 1 + 1 + 1 + 1 + 1) hb_w1); (focus ((try simp) <;> omega)); (focus omega); (focus (go_simp; try exact rfl)); (focus (go_simp; try exact rfl)); (focus (go_simp; try exact rfl)); (focus (go_simp; try exact rfl)); (focus (go_simp; try exact rfl)); (focus (go_simp; try exact rfl)); (focus (intro o; go_simp)); intro c_w1_5_0 c_w1_5_1 c_w1_5_2 c_w1_5_3 c_w1_5_4 c_w1_5_5 fz_w1_5 hl_w1_5)
  cases c1
  · go_wp2_with fail
    refine bodyPost_ret (v := .tuple #[.agg #[.bool false, .slice none 0 0, .bool false, .slice none 0 0, .bool false, .slice none 0 0], .agg #[.bool false, .slice none 0 0, .bool false, .slice none 0 0, .bool false, .slice none 0 0]]) (by simp only [results, Try.results37]; go_simp) rfl ⟨?_, ?_⟩
    · ((with_reducible (repeat (first | exact bR _ _ | refine bS ?_ ?_ _ | refine bA ?_ ?_ _ | refine bD ?_ | refine bT ?_ (by assumption) ?_ | refine bO (by assumption) ?_ ?_))) <;> (first | omega | (simp; done) | (simp <;> omega)))
    · exact ⟨_, _, rfl, RAt.zero _, RAt.zero _⟩
  · go_wp2_with fail
    (go_at_call 59; refine (K2.out _ _ (by simp) (by go_simp)).mono ?_; rintro e w2 ⟨rfl, hb_w2⟩; have hz_w2 := hb_w2.size; (try simp at hz_w2); (with_reducible apply cel2 (b := w.heap.size) hb_w2); (focus ((try simp) <;> omega)); (focus omega); (focus (go_simp; try exact rfl)); (focus (go_simp; try exact rfl)); (focus (intro o; go_simp)); intro c_w2_0_0 c_w2_0_1 fz_w2_0 hl_w2_0; (with_reducible apply cel2 (b := w.heap.size + 1) hb_w2); (focus ((try simp) <;> omega)); (focus omega); (focus (go_simp; try exact rfl)); (focus (go_simp; try exact rfl)); (focus (intro o; go_simp)); intro c_w2_1_0 c_w2_1_1 fz_w2_1 hl_w2_1; (with_reducible apply cel2 (b := w.heap.size + 1 + 1) hb_w2); (focus ((try simp) <;> omega)); (focus omega); (focus (go_simp; try exact rfl)); (focus (go_simp; try exact rfl)); (focus (intro o; go_simp)); intro c_w2_2_0 c_w2_2_1 fz_w2_2 hl_w2_2; (with_reducible apply cel1 (b := w.heap.size + 1 + 1 + 1) hb_w2); (focus ((try simp) <;> omega)); (focus omega); (focus (go_simp; try exact rfl)); (focus (intro o; go_simp)); intro c_w2_3_0 fz_w2_3 hl_w2_3; (with_reducible apply cel6 (b := w.heap.size + 1 + 1 + 1 + 1) hb_w2); (focus ((try simp) <;> omega)); (focus omega); (focus (go_simp; try exact rfl)); (focus (go_simp; try exact rfl)); (focus (go_simp; try exact rfl)); (focus (go_simp; try exact rfl)); (focus (go_simp; try exact rfl)); (focus (go_simp; try exact rfl)); (focus (intro o; go_simp)); intro c_w2_4_0 c_w2_4_1 c_w2_4_2 c_w2_4_3 c_w2_4_4 c_w2_4_5 fz_w2_4 hl_w2_4; (with_reducible apply cel6 (b := w.heap.size + 1 + 1 + 1 + 1 + 1) hb_w2); (focus ((try simp) <;> omega)); (focus omega); (focus (go_simp; try exact rfl)); (focus (go_simp; try exact rfl)); (focus (go_simp; try exact rfl)); (focus (go_simp; try exact rfl)); (focus (go_simp; try exact rfl)); (focus (go_simp; try exact rfl)); (focus (intro o; go_simp)); intro c_w2_5_0 c_w2_5_1 c_w2_5_2 c_w2_5_3 c_w2_5_4 c_w2_5_5 fz_w2_5 hl_w2_5)
    cases c2
    · go_wp2_with fail
      refine bodyPost_ret (v := .tuple #[.agg #[.bool false, .slice none 0 0, .bool false, .slice none 0 0, .bool false, .slice none 0 0], .agg #[.bool false, .slice none 0 0, .bool false, .slice none 0 0, .bool false, .slice none 0 0]]) (by simp only [results, Try.results37]; go_simp) rfl ⟨?_, ?_⟩
      · ((with_reducible (repeat (first | exact bR _ _ | refine bS ?_ ?_ _ | refine bA ?_ ?_ _ | refine bD ?_ | refine bT ?_ (by assumption) ?_ | refine bO (by assumption) ?_ ?_))) <;> (first | omega | (simp; done) | (simp <;> omega)))
      · exact ⟨_, _, rfl, RAt.zero _, RAt.zero _⟩
    · exact absurd (by simp) H.out
set_option maxRecDepth 100000 in
set_option maxHeartbeats 20000000 in
theorem pair_away (v1 v2 w1 w2 n1 n2 rest : Int) (w : World) (h : permB v1 v2 w1 w2 n1 n2 = true) (hr : sixB rest = true) (ha : apprB v1 v2 w1 w2 n1 n2 = false) :
    Calls Try.prog 37 #[.agg #[.int .i64 v1, .int .i64 v2], .agg #[.int .i64 w1, .int .i64 w2], .agg #[.int .i64 n1, .int .i64 n2], .int .i64 rest] w (RROut v1 v2 1 w1 w2 1 w) := by
  obtain ⟨bv, bw, _⟩ := perm_bd h
  have k1 := fun w => permitted_any v1 v2 w1 w2 n1 n2 w
  have k2 := fun g w => sixteenths_one rest g w
  have k3 := fun w => approaches_any v1 v2 w1 w2 n1 n2 w
  rw [h] at k1
  rw [hr] at k2
  rw [ha] at k3
  have k4 := fun w => whole_any v1 v2 w (by omega) (by omega)
  have k5 := fun w => whole_any w1 w2 w (by omega) (by omega)
  have K1 := Lib.hid k1
  have K2 := Lib.hid k2
  have K3 := Lib.hid k3
  have K4 := Lib.hid k4
  have K5 := Lib.hid k5
  clear k1 k2 k3 k4 k5 h hr ha bv bw
  -- names on
  go_enter Try.func37, Try.ntmps37; (try simp only [List.append_eq, List.cons_append, List.nil_append])
  go_wp2_with fail
  -- own blocks: w.heap.size:2, w.heap.size + 1:2, w.heap.size + 1 + 1:2, w.heap.size + 1 + 1 + 1:1, w.heap.size + 1 + 1 + 1 + 1:6, w.heap.size + 1 + 1 + 1 + 1 + 1:6
  (go_at_call 35; refine (K1.out _).mono ?_; rintro e w101 ⟨rfl, hb_w101⟩; have hz_w101 := hb_w101.size; (try simp at hz_w101); (with_reducible apply cel2 (b := w.heap.size) hb_w101); (focus ((try simp) <;> omega)); (focus omega); (focus (go_simp; try exact rfl)); (focus (go_simp; try exact rfl)); (focus (intro o; go_simp)); intro c_w101_0_0 c_w101_0_1 fz_w101_0 hl_w101_0; (with_reducible apply cel2 (b := w.heap.size + 1) hb_w101); (focus ((try simp) <;> omega)); (focus omega); (focus (go_simp; try exact rfl)); (focus (go_simp; try exact rfl)); (focus (intro o; go_simp)); intro c_w101_1_0 c_w101_1_1 fz_w101_1 hl_w101_1; (with_reducible apply cel2 (b := w.heap.size + 1 + 1) hb_w101); (focus ((try simp) <;> omega)); (focus omega); (focus (go_simp; try exact rfl)); (focus (go_simp; try exact rfl)); (focus (intro o; go_simp)); intro c_w101_2_0 c_w101_2_1 fz_w101_2 hl_w101_2; (with_reducible apply cel1 (b := w.heap.size + 1 + 1 + 1) hb_w101); (focus ((try simp) <;> omega)); (focus omega); (focus (go_simp; try exact rfl)); (focus (intro o; go_simp)); intro c_w101_3_0 fz_w101_3 hl_w101_3; (with_reducible apply cel6 (b := w.heap.size + 1 + 1 + 1 + 1) hb_w101); (focus ((try simp) <;> omega)); (focus omega); (focus (go_simp; try exact rfl)); (focus (go_simp; try exact rfl)); (focus (go_simp; try exact rfl)); (focus (go_simp; try exact rfl)); (focus (go_simp; try exact rfl)); (focus (go_simp; try exact rfl)); (focus (intro o; go_simp)); intro c_w101_4_0 c_w101_4_1 c_w101_4_2 c_w101_4_3 c_w101_4_4 c_w101_4_5 fz_w101_4 hl_w101_4; (with_reducible apply cel6 (b := w.heap.size + 1 + 1 + 1 + 1 + 1) hb_w101); (focus ((try simp) <;> omega)); (focus omega); (focus (go_simp; try exact rfl)); (focus (go_simp; try exact rfl)); (focus (go_simp; try exact rfl)); (focus (go_simp; try exact rfl)); (focus (go_simp; try exact rfl)); (focus (go_simp; try exact rfl)); (focus (intro o; go_simp)); intro c_w101_5_0 c_w101_5_1 c_w101_5_2 c_w101_5_3 c_w101_5_4 c_w101_5_5 fz_w101_5 hl_w101_5)
  have HB101 := Lib.hid (show Below w.heap.size w w101 by ((with_reducible (repeat (first | exact bR _ _ | refine bS ?_ ?_ _ | refine bA ?_ ?_ _ | refine bD ?_ | refine bT ?_ (by assumption) ?_ | refine bO (by assumption) ?_ ?_))) <;> (first | omega | (simp; done) | (simp <;> omega))))
  have hz101 : w.heap.size + 1 + 1 + 1 + 1 + 1 + 1 ≤ w101.heap.size := by omega
  clear hb_w101
  skip
  go_wp2_with fail
  -- own blocks: w.heap.size:2, w.heap.size + 1:2, w.heap.size + 1 + 1:2, w.heap.size + 1 + 1 + 1 + 1:6, w.heap.size + 1 + 1 + 1 + 1 + 1:6
  (go_at_call 59; refine (K2.out _ _ (by simp) (by go_simp)).mono ?_; rintro e w102 ⟨rfl, hb_w102⟩; have hz_w102 := hb_w102.size; (try simp at hz_w102); (with_reducible apply cel2 (b := w.heap.size) hb_w102); (focus ((try simp) <;> omega)); (focus omega); (focus (go_simp; try exact rfl)); (focus (go_simp; try exact rfl)); (focus (intro o; go_simp)); intro c_w102_0_0 c_w102_0_1 fz_w102_0 hl_w102_0; (with_reducible apply cel2 (b := w.heap.size + 1) hb_w102); (focus ((try simp) <;> omega)); (focus omega); (focus (go_simp; try exact rfl)); (focus (go_simp; try exact rfl)); (focus (intro o; go_simp)); intro c_w102_1_0 c_w102_1_1 fz_w102_1 hl_w102_1; (with_reducible apply cel2 (b := w.heap.size + 1 + 1) hb_w102); (focus ((try simp) <;> omega)); (focus omega); (focus (go_simp; try exact rfl)); (focus (go_simp; try exact rfl)); (focus (intro o; go_simp)); intro c_w102_2_0 c_w102_2_1 fz_w102_2 hl_w102_2; (with_reducible apply cel6 (b := w.heap.size + 1 + 1 + 1 + 1) hb_w102); (focus ((try simp) <;> omega)); (focus omega); (focus (go_simp; try exact rfl)); (focus (go_simp; try exact rfl)); (focus (go_simp; try exact rfl)); (focus (go_simp; try exact rfl)); (focus (go_simp; try exact rfl)); (focus (go_simp; try exact rfl)); (focus (intro o; go_simp)); intro c_w102_3_0 c_w102_3_1 c_w102_3_2 c_w102_3_3 c_w102_3_4 c_w102_3_5 fz_w102_3 hl_w102_3; (with_reducible apply cel6 (b := w.heap.size + 1 + 1 + 1 + 1 + 1) hb_w102); (focus ((try simp) <;> omega)); (focus omega); (focus (go_simp; try exact rfl)); (focus (go_simp; try exact rfl)); (focus (go_simp; try exact rfl)); (focus (go_simp; try exact rfl)); (focus (go_simp; try exact rfl)); (focus (go_simp; try exact rfl)); (focus (intro o; go_simp)); intro c_w102_4_0 c_w102_4_1 c_w102_4_2 c_w102_4_3 c_w102_4_4 c_w102_4_5 fz_w102_4 hl_w102_4)
  have HB102 := Lib.hid (show Below w.heap.size w w102 by have hB := HB101.out; ((with_reducible (repeat (first | exact bR _ _ | refine bS ?_ ?_ _ | refine bA ?_ ?_ _ | refine bD ?_ | refine bT ?_ (by assumption) ?_ | refine bO (by assumption) ?_ ?_))) <;> (first | omega | (simp; done) | (simp <;> omega))))
  have hz102 : w.heap.size + 1 + 1 + 1 + 1 + 1 + 1 ≤ w102.heap.size := by omega
  clear hb_w102
  clear c_w101_0_0 c_w101_0_1 fz_w101_0 hl_w101_0 c_w101_1_0 c_w101_1_1 fz_w101_1 hl_w101_1 c_w101_2_0 c_w101_2_1 fz_w101_2 hl_w101_2 c_w101_3_0 fz_w101_3 hl_w101_3 c_w101_4_0 c_w101_4_1 c_w101_4_2 c_w101_4_3 c_w101_4_4 c_w101_4_5 fz_w101_4 hl_w101_4 c_w101_5_0 c_w101_5_1 c_w101_5_2 c_w101_5_3 c_w101_5_4 c_w101_5_5 fz_w101_5 hl_w101_5
  go_wp2_with fail
  -- own blocks: w.heap.size:2, w.heap.size + 1:2, w.heap.size + 1 + 1 + 1 + 1:6, w.heap.size + 1 + 1 + 1 + 1 + 1:6
  (go_at_call 22; refine (K3.out _).mono ?_; rintro e w103 ⟨rfl, hb_w103⟩; have hz_w103 := hb_w103.size; (try simp at hz_w103); (with_reducible apply cel2 (b := w.heap.size) hb_w103); (focus ((try simp) <;> omega)); (focus omega); (focus (go_simp; try exact rfl)); (focus (go_simp; try exact rfl)); (focus (intro o; go_simp)); intro c_w103_0_0 c_w103_0_1 fz_w103_0 hl_w103_0; (with_reducible apply cel2 (b := w.heap.size + 1) hb_w103); (focus ((try simp) <;> omega)); (focus omega); (focus (go_simp; try exact rfl)); (focus (go_simp; try exact rfl)); (focus (intro o; go_simp)); intro c_w103_1_0 c_w103_1_1 fz_w103_1 hl_w103_1; (with_reducible apply cel6 (b := w.heap.size + 1 + 1 + 1 + 1) hb_w103); (focus ((try simp) <;> omega)); (focus omega); (focus (go_simp; try exact rfl)); (focus (go_simp; try exact rfl)); (focus (go_simp; try exact rfl)); (focus (go_simp; try exact rfl)); (focus (go_simp; try exact rfl)); (focus (go_simp; try exact rfl)); (focus (intro o; go_simp)); intro c_w103_2_0 c_w103_2_1 c_w103_2_2 c_w103_2_3 c_w103_2_4 c_w103_2_5 fz_w103_2 hl_w103_2; (with_reducible apply cel6 (b := w.heap.size + 1 + 1 + 1 + 1 + 1) hb_w103); (focus ((try simp) <;> omega)); (focus omega); (focus (go_simp; try exact rfl)); (focus (go_simp; try exact rfl)); (focus (go_simp; try exact rfl)); (focus (go_simp; try exact rfl)); (focus (go_simp; try exact rfl)); (focus (go_simp; try exact rfl)); (focus (intro o; go_simp)); intro c_w103_3_0 c_w103_3_1 c_w103_3_2 c_w103_3_3 c_w103_3_4 c_w103_3_5 fz_w103_3 hl_w103_3)
  have HB103 := Lib.hid (show Below w.heap.size w w103 by have hB := HB102.out; ((with_reducible (repeat (first | exact bR _ _ | refine bS ?_ ?_ _ | refine bA ?_ ?_ _ | refine bD ?_ | refine bT ?_ (by assumption) ?_ | refine bO (by assumption) ?_ ?_))) <;> (first | omega | (simp; done) | (simp <;> omega))))
  have hz103 : w.heap.size + 1 + 1 + 1 + 1 + 1 + 1 ≤ w103.heap.size := by omega
  clear hb_w103
  clear c_w102_0_0 c_w102_0_1 fz_w102_0 hl_w102_0 c_w102_1_0 c_w102_1_1 fz_w102_1 hl_w102_1 c_w102_2_0 c_w102_2_1 fz_w102_2 hl_w102_2 c_w102_3_0 c_w102_3_1 c_w102_3_2 c_w102_3_3 c_w102_3_4 c_w102_3_5 fz_w102_3 hl_w102_3 c_w102_4_0 c_w102_4_1 c_w102_4_2 c_w102_4_3 c_w102_4_4 c_w102_4_5 fz_w102_4 hl_w102_4
  go_wp2_with fail
  -- own blocks: w.heap.size:2, w.heap.size + 1:2, w.heap.size + 1 + 1 + 1 + 1:6, w.heap.size + 1 + 1 + 1 + 1 + 1:6
  (refine pin_wp (N := _) (Nat.le_refl _) (fun w104 hb_w104 hz_w104 => ?_); (try simp at hz_w104); (with_reducible apply cel2 (b := w.heap.size) hb_w104); (focus ((try simp) <;> omega)); (focus omega); (focus (go_simp; try exact rfl)); (focus (go_simp; try exact rfl)); (focus (intro o; go_simp)); intro c_w104_0_0 c_w104_0_1 fz_w104_0 hl_w104_0; (with_reducible apply cel2 (b := w.heap.size + 1) hb_w104); (focus ((try simp) <;> omega)); (focus omega); (focus (go_simp; try exact rfl)); (focus (go_simp; try exact rfl)); (focus (intro o; go_simp)); intro c_w104_1_0 c_w104_1_1 fz_w104_1 hl_w104_1; (with_reducible apply cel6 (b := w.heap.size + 1 + 1 + 1 + 1) hb_w104); (focus ((try simp) <;> omega)); (focus omega); (focus (go_simp; try exact rfl)); (focus (go_simp; try exact rfl)); (focus (go_simp; try exact rfl)); (focus (go_simp; try exact rfl)); (focus (go_simp; try exact rfl)); (focus (go_simp; try exact rfl)); (focus (intro o; go_simp)); intro c_w104_2_0 c_w104_2_1 c_w104_2_2 c_w104_2_3 c_w104_2_4 c_w104_2_5 fz_w104_2 hl_w104_2; (with_reducible apply cel6 (b := w.heap.size + 1 + 1 + 1 + 1 + 1) hb_w104); (focus ((try simp) <;> omega)); (focus omega); (focus (go_simp; try exact rfl)); (focus (go_simp; try exact rfl)); (focus (go_simp; try exact rfl)); (focus (go_simp; try exact rfl)); (focus (go_simp; try exact rfl)); (focus (go_simp; try exact rfl)); (focus (intro o; go_simp)); intro c_w104_3_0 c_w104_3_1 c_w104_3_2 c_w104_3_3 c_w104_3_4 c_w104_3_5 fz_w104_3 hl_w104_3); refine wp_q (fun Q_ HQ_ => ?_); refine wp_region_floatQ w104.heap.size 4 [4, 5] (Nat.le_refl _) (fun _ => True) trivial Cl.tt (by kernel_rfl) (by kernel_rfl) ?_
  have HB104 := Lib.hid (show Below w.heap.size w w104 by have hB := HB103.out; ((with_reducible (repeat (first | exact bR _ _ | refine bS ?_ ?_ _ | refine bA ?_ ?_ _ | refine bD ?_ | refine bT ?_ (by assumption) ?_ | refine bO (by assumption) ?_ ?_))) <;> (first | omega | (simp; done) | (simp <;> omega))))
  have hz104 : w.heap.size + 1 + 1 + 1 + 1 + 1 + 1 ≤ w104.heap.size := by omega
  clear hb_w104
  clear c_w103_0_0 c_w103_0_1 fz_w103_0 hl_w103_0 c_w103_1_0 c_w103_1_1 fz_w103_1 hl_w103_1 c_w103_2_0 c_w103_2_1 c_w103_2_2 c_w103_2_3 c_w103_2_4 c_w103_2_5 fz_w103_2 hl_w103_2 c_w103_3_0 c_w103_3_1 c_w103_3_2 c_w103_3_3 c_w103_3_4 c_w103_3_5 fz_w103_3 hl_w103_3
  refine wpQI_start [0] ?_; (iterate 1 (first | (refine wpQI_off (by with_reducible (refine List.getElem?_toArray.trans ?_; (repeat (first | exact List.getElem?_cons_zero | refine List.getElem?_cons_succ.trans ?_)))) (by kernel_rfl) (by exact rfl) (fun K hK => ?_); go_simp; refine hK _ ?_; clear hK K) | ((first | apply wpQI_step (by with_reducible (refine List.getElem?_toArray.trans ?_; (repeat (first | exact List.getElem?_cons_zero | refine List.getElem?_cons_succ.trans ?_)))) (by kernel_rfl) (by exact rfl) | apply wpQI_on (by with_reducible (refine List.getElem?_toArray.trans ?_; (repeat (first | exact List.getElem?_cons_zero | refine List.getElem?_cons_succ.trans ?_)))) (by kernel_rfl) (by exact rfl)); (focus (intro W' hS; have hcS := hS.cells.1; have hfS := hS.cells.2; go_simp; (first | done | exact rfl | exact ⟨rfl, Below.refl _ _⟩ | (go_simp; first | done | exact rfl | exact ⟨rfl, Below.refl _ _⟩)))); intro K hK; go_simp; (try go_bits); refine hK _ ?_; clear hK K))); refine wpQI_nil ?_
  refine wpQI_start [2] ?_; (iterate 1 (first | (refine wpQI_off (by with_reducible (refine List.getElem?_toArray.trans ?_; (repeat (first | exact List.getElem?_cons_zero | refine List.getElem?_cons_succ.trans ?_)))) (by kernel_rfl) (by exact rfl) (fun K hK => ?_); go_simp; refine hK _ ?_; clear hK K) | ((first | apply wpQI_step (by with_reducible (refine List.getElem?_toArray.trans ?_; (repeat (first | exact List.getElem?_cons_zero | refine List.getElem?_cons_succ.trans ?_)))) (by kernel_rfl) (by exact rfl) | apply wpQI_on (by with_reducible (refine List.getElem?_toArray.trans ?_; (repeat (first | exact List.getElem?_cons_zero | refine List.getElem?_cons_succ.trans ?_)))) (by kernel_rfl) (by exact rfl)); (focus (intro W' hS; have hcS := hS.cells.1; have hfS := hS.cells.2; go_simp; (first | done | exact rfl | exact ⟨rfl, Below.refl _ _⟩ | (go_simp; first | done | exact rfl | exact ⟨rfl, Below.refl _ _⟩)))); intro K hK; go_simp; (try go_bits); refine hK _ ?_; clear hK K))); refine wpQI_nil ?_
  apply wpQ_call (i := 1) (by with_reducible (refine List.getElem?_toArray.trans ?_; (repeat (first | exact List.getElem?_cons_zero | refine List.getElem?_cons_succ.trans ?_)))) (by kernel_rfl) (by exact rfl); intro W hF hS; have hcS := hS.1.cells.1; have hfS := hS.1.cells.2; go_simp; (go_at_call 60; refine (K4.out _).mono ?_; rintro e w105 ⟨hb_w105, v105, rfl, hv105⟩; refine XPost.mk _ (fun W => RAt W v105 (v1) (v2) (1)) hb_w105 (hv105) (RAt.cl _ _ _ _) ?_); clear hb_w105 hcS hfS hS hF
  intro K hK; go_simp; (try go_bits); refine hK _ ?_; clear hK K
  obtain ⟨s105x, A105x, n105x, c105x, s105y, A105y, n105y, c105y, s105d, A105d, n105d, c105d, rfl⟩ := RAt.val hv105
  clear hv105
  apply wpQ_call (i := 3) (by with_reducible (refine List.getElem?_toArray.trans ?_; (repeat (first | exact List.getElem?_cons_zero | refine List.getElem?_cons_succ.trans ?_)))) (by kernel_rfl) (by exact rfl); intro W hF hS; have hcS := hS.1.cells.1; have hfS := hS.1.cells.2; go_simp; (go_at_call 60; refine (K5.out _).mono ?_; rintro e w106 ⟨hb_w106, v106, rfl, hv106⟩; refine XPost.mk _ (fun W => RAt W v106 (w1) (w2) (1)) hb_w106 (hv106) (RAt.cl _ _ _ _) ?_); clear hb_w106 hcS hfS hS hF
  intro K hK; go_simp; (try go_bits); refine hK _ ?_; clear hK K
  obtain ⟨s106x, A106x, n106x, c106x, s106y, A106y, n106y, c106y, s106d, A106d, n106d, c106d, rfl⟩ := RAt.val hv106
  clear hv106
  refine wpQ_done (by kernel_rfl) ?_
  intro w107 hF_w107 hSG
  have hz_w107 := hSG.1.1
  have hb_w107 := hSG.1.2
  clear hSG
  (with_reducible apply cel2 (b := w.heap.size) hb_w107); (focus ((try simp) <;> omega)); (focus omega); (focus (go_simp; try exact rfl)); (focus (go_simp; try exact rfl)); (focus (intro o; go_simp)); intro c_w107_0_0 c_w107_0_1 fz_w107_0 hl_w107_0; (with_reducible apply cel2 (b := w.heap.size + 1) hb_w107); (focus ((try simp) <;> omega)); (focus omega); (focus (go_simp; try exact rfl)); (focus (go_simp; try exact rfl)); (focus (intro o; go_simp)); intro c_w107_1_0 c_w107_1_1 fz_w107_1 hl_w107_1; (with_reducible apply cel6 (b := w.heap.size + 1 + 1 + 1 + 1) hb_w107); (focus ((try simp) <;> omega)); (focus omega); (focus (go_simp; try exact rfl)); (focus (go_simp; try exact rfl)); (focus (go_simp; try exact rfl)); (focus (go_simp; try exact rfl)); (focus (go_simp; try exact rfl)); (focus (go_simp; try exact rfl)); (focus (intro o; go_simp)); intro c_w107_2_0 c_w107_2_1 c_w107_2_2 c_w107_2_3 c_w107_2_4 c_w107_2_5 fz_w107_2 hl_w107_2; (with_reducible apply cel6 (b := w.heap.size + 1 + 1 + 1 + 1 + 1) hb_w107); (focus ((try simp) <;> omega)); (focus omega); (focus (go_simp; try exact rfl)); (focus (go_simp; try exact rfl)); (focus (go_simp; try exact rfl)); (focus (go_simp; try exact rfl)); (focus (go_simp; try exact rfl)); (focus (go_simp; try exact rfl)); (focus (intro o; go_simp)); intro c_w107_3_0 c_w107_3_1 c_w107_3_2 c_w107_3_3 c_w107_3_4 c_w107_3_5 fz_w107_3 hl_w107_3
  (try simp only [List.filterMap_cons, List.filterMap_nil, List.getElem?_cons_succ, List.getElem?_cons_zero])
  have H105 := Lib.hid (show RAt w107 (.agg #[.bool s105x, .slice A105x n105x c105x, .bool s105y, .slice A105y n105y c105y, .bool s105d, .slice A105d n105d c105d]) (v1) (v2) (1) from hF_w107.1)
  have H106 := Lib.hid (show RAt w107 (.agg #[.bool s106x, .slice A106x n106x c106x, .bool s106y, .slice A106y n106y c106y, .bool s106d, .slice A106d n106d c106d]) (w1) (w2) (1) from hF_w107.2)
  have HB107 := Lib.hid (HB104.out.trans (hb_w107.mono (by have := HB104.out.size; omega)))
  have hz107 : w.heap.size + 1 + 1 + 1 + 1 + 1 + 1 ≤ w107.heap.size := by omega
  clear hF_w107 hb_w107
  clear c_w104_0_0 c_w104_0_1 fz_w104_0 hl_w104_0 c_w104_1_0 c_w104_1_1 fz_w104_1 hl_w104_1 c_w104_2_0 c_w104_2_1 c_w104_2_2 c_w104_2_3 c_w104_2_4 c_w104_2_5 fz_w104_2 hl_w104_2 c_w104_3_0 c_w104_3_1 c_w104_3_2 c_w104_3_3 c_w104_3_4 c_w104_3_5 fz_w104_3 hl_w104_3
  go_wp2_with fail
  refine HQ_.out _ _ _ ?_
  clear HQ_ Q_
  go_wp2_with fail
  -- own blocks: w.heap.size + 1 + 1 + 1 + 1:6, w.heap.size + 1 + 1 + 1 + 1 + 1:6
  refine bodyPost_ret (v := .tuple #[.agg #[.bool s105x, .slice A105x n105x c105x, .bool s105y, .slice A105y n105y c105y, .bool s105d, .slice A105d n105d c105d], .agg #[.bool s106x, .slice A106x n106x c106x, .bool s106y, .slice A106y n106y c106y, .bool s106d, .slice A106d n106d c106d]]) (by simp only [results, Try.results37]; go_simp) rfl ⟨?_, ?_⟩
  · have hB := HB107.out; ((with_reducible (repeat (first | exact bR _ _ | refine bS ?_ ?_ _ | refine bA ?_ ?_ _ | refine bD ?_ | refine bT ?_ (by assumption) ?_ | refine bO (by assumption) ?_ ?_))) <;> (first | omega | (simp; done) | (simp <;> omega)))
  · exact ⟨_, _, rfl, (by ((repeat (first | (with_reducible exact H105.out) | (with_reducible refine RAt.al ?_ _) | (with_reducible apply RAt.st1))) <;> (first | (with_reducible assumption) | (intro _ e; cases e; done) | (go_simp; first | done | exact rfl)))), (by ((repeat (first | (with_reducible exact H106.out) | (with_reducible refine RAt.al ?_ _) | (with_reducible apply RAt.st1))) <;> (first | (with_reducible assumption) | (intro _ e; cases e; done) | (go_simp; first | done | exact rfl))))⟩
set_option maxRecDepth 100000 in
set_option maxHeartbeats 20000000 in
theorem pair_on (v1 v2 w1 w2 n1 n2 rest : Int) (w : World) (h : permB v1 v2 w1 w2 n1 n2 = true) (hr : sixB rest = true) (ha : apprB v1 v2 w1 w2 n1 n2 = true) :
    Calls Try.prog 37 #[.agg #[.int .i64 v1, .int .i64 v2], .agg #[.int .i64 w1, .int .i64 w2], .agg #[.int .i64 n1, .int .i64 n2], .int .i64 rest] w (POut2 ((lowR (pairX v1 n1 (n1 * n1 + n2 * n2) ((v1 - w1) * n1 + (v2 - w2) * n2) rest (-1)) (pairX v2 n2 (n1 * n1 + n2 * n2) ((v1 - w1) * n1 + (v2 - w2) * n2) rest (-1)) (32 * (n1 * n1 + n2 * n2))), (lowR (pairX w1 n1 (n1 * n1 + n2 * n2) ((v1 - w1) * n1 + (v2 - w2) * n2) rest 1) (pairX w2 n2 (n1 * n1 + n2 * n2) ((v1 - w1) * n1 + (v2 - w2) * n2) rest 1) (32 * (n1 * n1 + n2 * n2)))) w) := by
  obtain ⟨bv, bw, bn⟩ := perm_bd h
  obtain ⟨e1, e2, e3⟩ := perm_vals h
  obtain ⟨⟨p1, p2⟩, p3, p4⟩ := perm_prod h
  obtain ⟨_, _, q3⟩ := appr_bd ha
  have t1 := sp1 (x := v1) (n := n1) (sgn := -1) h hr (by omega) (by omega) (by omega)
  have t2 := sp1 (x := v2) (n := n2) (sgn := -1) h hr (by omega) (by omega) (by omega)
  have t3 := sp1 (x := w1) (n := n1) (sgn := 1) h hr (by omega) (by omega) (by omega)
  have t4 := sp1 (x := w2) (n := n2) (sgn := 1) h hr (by omega) (by omega) (by omega)
  have k1 := fun w => permitted_any v1 v2 w1 w2 n1 n2 w
  have k2 := fun g w => sixteenths_one rest g w
  have k3 := fun w => approaches_any v1 v2 w1 w2 n1 n2 w
  rw [h] at k1
  rw [hr] at k2
  rw [ha] at k3
  have k4 := fun w => vsub_any v1 v2 w1 w2 w
  have k5 := fun w => vdot_any (v1 - w1) (v2 - w2) n1 n2 w
  have k6 := fun w => vdot_any n1 n2 n1 n2 w
  rw [e1] at k4
  rw [e2] at k5
  rw [e3] at k6
  generalize (v1 - w1) * n1 + (v2 - w2) * n2 = C at *
  generalize n1 * n1 + n2 * n2 = M at *
  have k7 := fun w => wof_any (32 * M) w (by omega) (by omega)
  have k8 := fun b1 b2 b3 w g1 g2 g3 => pair1_any v1 n1 M C rest (-1) b1 b2 b3 w t1 g1 g2 g3
  have k9 := fun b1 b2 b3 w g1 g2 g3 => pair1_any v2 n2 M C rest (-1) b1 b2 b3 w t2 g1 g2 g3
  have k11 := fun b1 b2 b3 w g1 g2 g3 => pair1_any w1 n1 M C rest 1 b1 b2 b3 w t3 g1 g2 g3
  have k12 := fun b1 b2 b3 w g1 g2 g3 => pair1_any w2 n2 M C rest 1 b1 b2 b3 w t4 g1 g2 g3
  have l1 := t1.len
  have l2 := t2.len
  have l3 := t3.len
  have l4 := t4.len
  have l5 := len_wd (z := 32 * M) (by omega) (by omega)
  generalize pairX v1 n1 M C rest (-1) = X1 at *
  generalize pairX v2 n2 M C rest (-1) = X2 at *
  generalize pairX w1 n1 M C rest 1 = Y1 at *
  generalize pairX w2 n2 M C rest 1 = Y2 at *
  have k10 := fun v w hv => lowest_any X1 X2 (32 * M) v w hv (by omega) (by omega) (by omega) (by omega)
  have k13 := fun v w hv => lowest_any Y1 Y2 (32 * M) v w hv (by omega) (by omega) (by omega) (by omega)
  unfold POut2 lowR
  generalize X1.tdiv (lowG X1 X2 (32 * M)) = P1 at *
  generalize X2.tdiv (lowG X1 X2 (32 * M)) = P2 at *
  generalize (32 * M).tdiv (lowG X1 X2 (32 * M)) = P3 at *
  generalize Y1.tdiv (lowG Y1 Y2 (32 * M)) = Q1 at *
  generalize Y2.tdiv (lowG Y1 Y2 (32 * M)) = Q2 at *
  generalize (32 * M).tdiv (lowG Y1 Y2 (32 * M)) = Q3 at *
  have K1 := Lib.hid k1
  have K2 := Lib.hid k2
  have K3 := Lib.hid k3
  have K4 := Lib.hid k4
  have K5 := Lib.hid k5
  have K6 := Lib.hid k6
  have K7 := Lib.hid k7
  have K8 := Lib.hid k8
  have K9 := Lib.hid k9
  have K10 := Lib.hid k10
  have K11 := Lib.hid k11
  have K12 := Lib.hid k12
  have K13 := Lib.hid k13
  obtain ⟨bv1, bv2, bv3, bv4⟩ := bv
  obtain ⟨bw1, bw2, bw3, bw4⟩ := bw
  clear k1 k2 k3 k4 k5 k6 k7 k8 k9 k10 k11 k12 k13 h hr ha e1 e2 e3 t1 t2 t3 t4 l1 l2 l3 l4 l5
  simp only
  -- names on
  go_enter Try.func37, Try.ntmps37; (try simp only [List.append_eq, List.cons_append, List.nil_append])
  go_wp2_with fail
  -- own blocks: w.heap.size:2, w.heap.size + 1:2, w.heap.size + 1 + 1:2, w.heap.size + 1 + 1 + 1:1, w.heap.size + 1 + 1 + 1 + 1:6, w.heap.size + 1 + 1 + 1 + 1 + 1:6
  (go_at_call 35; refine (K1.out _).mono ?_; rintro e w101 ⟨rfl, hb_w101⟩; have hz_w101 := hb_w101.size; (try simp at hz_w101); (with_reducible apply cel2 (b := w.heap.size) hb_w101); (focus ((try simp) <;> omega)); (focus omega); (focus (go_simp; try exact rfl)); (focus (go_simp; try exact rfl)); (focus (intro o; go_simp)); intro c_w101_0_0 c_w101_0_1 fz_w101_0 hl_w101_0; (with_reducible apply cel2 (b := w.heap.size + 1) hb_w101); (focus ((try simp) <;> omega)); (focus omega); (focus (go_simp; try exact rfl)); (focus (go_simp; try exact rfl)); (focus (intro o; go_simp)); intro c_w101_1_0 c_w101_1_1 fz_w101_1 hl_w101_1; (with_reducible apply cel2 (b := w.heap.size + 1 + 1) hb_w101); (focus ((try simp) <;> omega)); (focus omega); (focus (go_simp; try exact rfl)); (focus (go_simp; try exact rfl)); (focus (intro o; go_simp)); intro c_w101_2_0 c_w101_2_1 fz_w101_2 hl_w101_2; (with_reducible apply cel1 (b := w.heap.size + 1 + 1 + 1) hb_w101); (focus ((try simp) <;> omega)); (focus omega); (focus (go_simp; try exact rfl)); (focus (intro o; go_simp)); intro c_w101_3_0 fz_w101_3 hl_w101_3; (with_reducible apply cel6 (b := w.heap.size + 1 + 1 + 1 + 1) hb_w101); (focus ((try simp) <;> omega)); (focus omega); (focus (go_simp; try exact rfl)); (focus (go_simp; try exact rfl)); (focus (go_simp; try exact rfl)); (focus (go_simp; try exact rfl)); (focus (go_simp; try exact rfl)); (focus (go_simp; try exact rfl)); (focus (intro o; go_simp)); intro c_w101_4_0 c_w101_4_1 c_w101_4_2 c_w101_4_3 c_w101_4_4 c_w101_4_5 fz_w101_4 hl_w101_4; (with_reducible apply cel6 (b := w.heap.size + 1 + 1 + 1 + 1 + 1) hb_w101); (focus ((try simp) <;> omega)); (focus omega); (focus (go_simp; try exact rfl)); (focus (go_simp; try exact rfl)); (focus (go_simp; try exact rfl)); (focus (go_simp; try exact rfl)); (focus (go_simp; try exact rfl)); (focus (go_simp; try exact rfl)); (focus (intro o; go_simp)); intro c_w101_5_0 c_w101_5_1 c_w101_5_2 c_w101_5_3 c_w101_5_4 c_w101_5_5 fz_w101_5 hl_w101_5)
  have HB101 := Lib.hid (show Below w.heap.size w w101 by ((with_reducible (repeat (first | exact bR _ _ | refine bS ?_ ?_ _ | refine bA ?_ ?_ _ | refine bD ?_ | refine bT ?_ (by assumption) ?_ | refine bO (by assumption) ?_ ?_))) <;> (first | omega | (simp; done) | (simp <;> omega))))
  have hz101 : w.heap.size + 1 + 1 + 1 + 1 + 1 + 1 ≤ w101.heap.size := by omega
  clear hb_w101
  skip
  go_wp2_with fail
  -- own blocks: w.heap.size:2, w.heap.size + 1:2, w.heap.size + 1 + 1:2, w.heap.size + 1 + 1 + 1:1, w.heap.size + 1 + 1 + 1 + 1:6, w.heap.size + 1 + 1 + 1 + 1 + 1:6
  (go_at_call 59; refine (K2.out _ _ (by simp) (by go_simp)).mono ?_; rintro e w102 ⟨rfl, hb_w102⟩; have hz_w102 := hb_w102.size; (try simp at hz_w102); (with_reducible apply cel2 (b := w.heap.size) hb_w102); (focus ((try simp) <;> omega)); (focus omega); (focus (go_simp; try exact rfl)); (focus (go_simp; try exact rfl)); (focus (intro o; go_simp)); intro c_w102_0_0 c_w102_0_1 fz_w102_0 hl_w102_0; (with_reducible apply cel2 (b := w.heap.size + 1) hb_w102); (focus ((try simp) <;> omega)); (focus omega); (focus (go_simp; try exact rfl)); (focus (go_simp; try exact rfl)); (focus (intro o; go_simp)); intro c_w102_1_0 c_w102_1_1 fz_w102_1 hl_w102_1; (with_reducible apply cel2 (b := w.heap.size + 1 + 1) hb_w102); (focus ((try simp) <;> omega)); (focus omega); (focus (go_simp; try exact rfl)); (focus (go_simp; try exact rfl)); (focus (intro o; go_simp)); intro c_w102_2_0 c_w102_2_1 fz_w102_2 hl_w102_2; (with_reducible apply cel1 (b := w.heap.size + 1 + 1 + 1) hb_w102); (focus ((try simp) <;> omega)); (focus omega); (focus (go_simp; try exact rfl)); (focus (intro o; go_simp)); intro c_w102_3_0 fz_w102_3 hl_w102_3; (with_reducible apply cel6 (b := w.heap.size + 1 + 1 + 1 + 1) hb_w102); (focus ((try simp) <;> omega)); (focus omega); (focus (go_simp; try exact rfl)); (focus (go_simp; try exact rfl)); (focus (go_simp; try exact rfl)); (focus (go_simp; try exact rfl)); (focus (go_simp; try exact rfl)); (focus (go_simp; try exact rfl)); (focus (intro o; go_simp)); intro c_w102_4_0 c_w102_4_1 c_w102_4_2 c_w102_4_3 c_w102_4_4 c_w102_4_5 fz_w102_4 hl_w102_4; (with_reducible apply cel6 (b := w.heap.size + 1 + 1 + 1 + 1 + 1) hb_w102); (focus ((try simp) <;> omega)); (focus omega); (focus (go_simp; try exact rfl)); (focus (go_simp; try exact rfl)); (focus (go_simp; try exact rfl)); (focus (go_simp; try exact rfl)); (focus (go_simp; try exact rfl)); (focus (go_simp; try exact rfl)); (focus (intro o; go_simp)); intro c_w102_5_0 c_w102_5_1 c_w102_5_2 c_w102_5_3 c_w102_5_4 c_w102_5_5 fz_w102_5 hl_w102_5)
  have HB102 := Lib.hid (show Below w.heap.size w w102 by have hB := HB101.out; ((with_reducible (repeat (first | exact bR _ _ | refine bS ?_ ?_ _ | refine bA ?_ ?_ _ | refine bD ?_ | refine bT ?_ (by assumption) ?_ | refine bO (by assumption) ?_ ?_))) <;> (first | omega | (simp; done) | (simp <;> omega))))
  have hz102 : w.heap.size + 1 + 1 + 1 + 1 + 1 + 1 ≤ w102.heap.size := by omega
  clear hb_w102
  clear c_w101_0_0 c_w101_0_1 fz_w101_0 hl_w101_0 c_w101_1_0 c_w101_1_1 fz_w101_1 hl_w101_1 c_w101_2_0 c_w101_2_1 fz_w101_2 hl_w101_2 c_w101_3_0 fz_w101_3 hl_w101_3 c_w101_4_0 c_w101_4_1 c_w101_4_2 c_w101_4_3 c_w101_4_4 c_w101_4_5 fz_w101_4 hl_w101_4 c_w101_5_0 c_w101_5_1 c_w101_5_2 c_w101_5_3 c_w101_5_4 c_w101_5_5 fz_w101_5 hl_w101_5
  go_wp2_with fail
  -- own blocks: w.heap.size:2, w.heap.size + 1:2, w.heap.size + 1 + 1:2, w.heap.size + 1 + 1 + 1:1, w.heap.size + 1 + 1 + 1 + 1:6, w.heap.size + 1 + 1 + 1 + 1 + 1:6
  (go_at_call 22; refine (K3.out _).mono ?_; rintro e w103 ⟨rfl, hb_w103⟩; have hz_w103 := hb_w103.size; (try simp at hz_w103); (with_reducible apply cel2 (b := w.heap.size) hb_w103); (focus ((try simp) <;> omega)); (focus omega); (focus (go_simp; try exact rfl)); (focus (go_simp; try exact rfl)); (focus (intro o; go_simp)); intro c_w103_0_0 c_w103_0_1 fz_w103_0 hl_w103_0; (with_reducible apply cel2 (b := w.heap.size + 1) hb_w103); (focus ((try simp) <;> omega)); (focus omega); (focus (go_simp; try exact rfl)); (focus (go_simp; try exact rfl)); (focus (intro o; go_simp)); intro c_w103_1_0 c_w103_1_1 fz_w103_1 hl_w103_1; (with_reducible apply cel2 (b := w.heap.size + 1 + 1) hb_w103); (focus ((try simp) <;> omega)); (focus omega); (focus (go_simp; try exact rfl)); (focus (go_simp; try exact rfl)); (focus (intro o; go_simp)); intro c_w103_2_0 c_w103_2_1 fz_w103_2 hl_w103_2; (with_reducible apply cel1 (b := w.heap.size + 1 + 1 + 1) hb_w103); (focus ((try simp) <;> omega)); (focus omega); (focus (go_simp; try exact rfl)); (focus (intro o; go_simp)); intro c_w103_3_0 fz_w103_3 hl_w103_3; (with_reducible apply cel6 (b := w.heap.size + 1 + 1 + 1 + 1) hb_w103); (focus ((try simp) <;> omega)); (focus omega); (focus (go_simp; try exact rfl)); (focus (go_simp; try exact rfl)); (focus (go_simp; try exact rfl)); (focus (go_simp; try exact rfl)); (focus (go_simp; try exact rfl)); (focus (go_simp; try exact rfl)); (focus (intro o; go_simp)); intro c_w103_4_0 c_w103_4_1 c_w103_4_2 c_w103_4_3 c_w103_4_4 c_w103_4_5 fz_w103_4 hl_w103_4; (with_reducible apply cel6 (b := w.heap.size + 1 + 1 + 1 + 1 + 1) hb_w103); (focus ((try simp) <;> omega)); (focus omega); (focus (go_simp; try exact rfl)); (focus (go_simp; try exact rfl)); (focus (go_simp; try exact rfl)); (focus (go_simp; try exact rfl)); (focus (go_simp; try exact rfl)); (focus (go_simp; try exact rfl)); (focus (intro o; go_simp)); intro c_w103_5_0 c_w103_5_1 c_w103_5_2 c_w103_5_3 c_w103_5_4 c_w103_5_5 fz_w103_5 hl_w103_5)
  have HB103 := Lib.hid (show Below w.heap.size w w103 by have hB := HB102.out; ((with_reducible (repeat (first | exact bR _ _ | refine bS ?_ ?_ _ | refine bA ?_ ?_ _ | refine bD ?_ | refine bT ?_ (by assumption) ?_ | refine bO (by assumption) ?_ ?_))) <;> (first | omega | (simp; done) | (simp <;> omega))))
  have hz103 : w.heap.size + 1 + 1 + 1 + 1 + 1 + 1 ≤ w103.heap.size := by omega
  clear hb_w103
  clear c_w102_0_0 c_w102_0_1 fz_w102_0 hl_w102_0 c_w102_1_0 c_w102_1_1 fz_w102_1 hl_w102_1 c_w102_2_0 c_w102_2_1 fz_w102_2 hl_w102_2 c_w102_3_0 fz_w102_3 hl_w102_3 c_w102_4_0 c_w102_4_1 c_w102_4_2 c_w102_4_3 c_w102_4_4 c_w102_4_5 fz_w102_4 hl_w102_4 c_w102_5_0 c_w102_5_1 c_w102_5_2 c_w102_5_3 c_w102_5_4 c_w102_5_5 fz_w102_5 hl_w102_5
  go_wp2_with fail
  -- own blocks: w.heap.size:2, w.heap.size + 1:2, w.heap.size + 1 + 1:2, w.heap.size + 1 + 1 + 1:1, w.heap.size + 1 + 1 + 1 + 1:6, w.heap.size + 1 + 1 + 1 + 1 + 1:6
  (refine pin_wp (N := _) (Nat.le_refl _) (fun w104 hb_w104 hz_w104 => ?_); (try simp at hz_w104); (with_reducible apply cel2 (b := w.heap.size) hb_w104); (focus ((try simp) <;> omega)); (focus omega); (focus (go_simp; try exact rfl)); (focus (go_simp; try exact rfl)); (focus (intro o; go_simp)); intro c_w104_0_0 c_w104_0_1 fz_w104_0 hl_w104_0; (with_reducible apply cel2 (b := w.heap.size + 1) hb_w104); (focus ((try simp) <;> omega)); (focus omega); (focus (go_simp; try exact rfl)); (focus (go_simp; try exact rfl)); (focus (intro o; go_simp)); intro c_w104_1_0 c_w104_1_1 fz_w104_1 hl_w104_1; (with_reducible apply cel2 (b := w.heap.size + 1 + 1) hb_w104); (focus ((try simp) <;> omega)); (focus omega); (focus (go_simp; try exact rfl)); (focus (go_simp; try exact rfl)); (focus (intro o; go_simp)); intro c_w104_2_0 c_w104_2_1 fz_w104_2 hl_w104_2; (with_reducible apply cel1 (b := w.heap.size + 1 + 1 + 1) hb_w104); (focus ((try simp) <;> omega)); (focus omega); (focus (go_simp; try exact rfl)); (focus (intro o; go_simp)); intro c_w104_3_0 fz_w104_3 hl_w104_3; (with_reducible apply cel6 (b := w.heap.size + 1 + 1 + 1 + 1) hb_w104); (focus ((try simp) <;> omega)); (focus omega); (focus (go_simp; try exact rfl)); (focus (go_simp; try exact rfl)); (focus (go_simp; try exact rfl)); (focus (go_simp; try exact rfl)); (focus (go_simp; try exact rfl)); (focus (go_simp; try exact rfl)); (focus (intro o; go_simp)); intro c_w104_4_0 c_w104_4_1 c_w104_4_2 c_w104_4_3 c_w104_4_4 c_w104_4_5 fz_w104_4 hl_w104_4; (with_reducible apply cel6 (b := w.heap.size + 1 + 1 + 1 + 1 + 1) hb_w104); (focus ((try simp) <;> omega)); (focus omega); (focus (go_simp; try exact rfl)); (focus (go_simp; try exact rfl)); (focus (go_simp; try exact rfl)); (focus (go_simp; try exact rfl)); (focus (go_simp; try exact rfl)); (focus (go_simp; try exact rfl)); (focus (intro o; go_simp)); intro c_w104_5_0 c_w104_5_1 c_w104_5_2 c_w104_5_3 c_w104_5_4 c_w104_5_5 fz_w104_5 hl_w104_5); refine wp_q (fun Q_ HQ_ => ?_); refine wp_region_floatQ w104.heap.size 10 [10, 11] (Nat.le_refl _) (fun _ => True) trivial Cl.tt (by kernel_rfl) (by kernel_rfl) ?_
  have HB104 := Lib.hid (show Below w.heap.size w w104 by have hB := HB103.out; ((with_reducible (repeat (first | exact bR _ _ | refine bS ?_ ?_ _ | refine bA ?_ ?_ _ | refine bD ?_ | refine bT ?_ (by assumption) ?_ | refine bO (by assumption) ?_ ?_))) <;> (first | omega | (simp; done) | (simp <;> omega))))
  have hz104 : w.heap.size + 1 + 1 + 1 + 1 + 1 + 1 ≤ w104.heap.size := by omega
  clear hb_w104
  clear c_w103_0_0 c_w103_0_1 fz_w103_0 hl_w103_0 c_w103_1_0 c_w103_1_1 fz_w103_1 hl_w103_1 c_w103_2_0 c_w103_2_1 fz_w103_2 hl_w103_2 c_w103_3_0 fz_w103_3 hl_w103_3 c_w103_4_0 c_w103_4_1 c_w103_4_2 c_w103_4_3 c_w103_4_4 c_w103_4_5 fz_w103_4 hl_w103_4 c_w103_5_0 c_w103_5_1 c_w103_5_2 c_w103_5_3 c_w103_5_4 c_w103_5_5 fz_w103_5 hl_w103_5
  refine wpQI_start [0, 1] ?_; (iterate 2 (first | (refine wpQI_off (by with_reducible (refine List.getElem?_toArray.trans ?_; (repeat (first | exact List.getElem?_cons_zero | refine List.getElem?_cons_succ.trans ?_)))) (by kernel_rfl) (by exact rfl) (fun K hK => ?_); go_simp; refine hK _ ?_; clear hK K) | ((first | apply wpQI_step (by with_reducible (refine List.getElem?_toArray.trans ?_; (repeat (first | exact List.getElem?_cons_zero | refine List.getElem?_cons_succ.trans ?_)))) (by kernel_rfl) (by exact rfl) | apply wpQI_on (by with_reducible (refine List.getElem?_toArray.trans ?_; (repeat (first | exact List.getElem?_cons_zero | refine List.getElem?_cons_succ.trans ?_)))) (by kernel_rfl) (by exact rfl)); (focus (intro W' hS; have hcS := hS.cells.1; have hfS := hS.cells.2; go_simp; (first | done | exact rfl | exact ⟨rfl, Below.refl _ _⟩ | (go_simp; first | done | exact rfl | exact ⟨rfl, Below.refl _ _⟩)))); intro K hK; go_simp; (try go_bits); refine hK _ ?_; clear hK K))); refine wpQI_nil ?_
  refine wpQI_start [3] ?_; (iterate 1 (first | (refine wpQI_off (by with_reducible (refine List.getElem?_toArray.trans ?_; (repeat (first | exact List.getElem?_cons_zero | refine List.getElem?_cons_succ.trans ?_)))) (by kernel_rfl) (by exact rfl) (fun K hK => ?_); go_simp; refine hK _ ?_; clear hK K) | ((first | apply wpQI_step (by with_reducible (refine List.getElem?_toArray.trans ?_; (repeat (first | exact List.getElem?_cons_zero | refine List.getElem?_cons_succ.trans ?_)))) (by kernel_rfl) (by exact rfl) | apply wpQI_on (by with_reducible (refine List.getElem?_toArray.trans ?_; (repeat (first | exact List.getElem?_cons_zero | refine List.getElem?_cons_succ.trans ?_)))) (by kernel_rfl) (by exact rfl)); (focus (intro W' hS; have hcS := hS.cells.1; have hfS := hS.cells.2; go_simp; (first | done | exact rfl | exact ⟨rfl, Below.refl _ _⟩ | (go_simp; first | done | exact rfl | exact ⟨rfl, Below.refl _ _⟩)))); intro K hK; go_simp; (try go_bits); refine hK _ ?_; clear hK K))); refine wpQI_nil ?_
  refine wpQI_start [5, 6] ?_; (iterate 2 (first | (refine wpQI_off (by with_reducible (refine List.getElem?_toArray.trans ?_; (repeat (first | exact List.getElem?_cons_zero | refine List.getElem?_cons_succ.trans ?_)))) (by kernel_rfl) (by exact rfl) (fun K hK => ?_); go_simp; refine hK _ ?_; clear hK K) | ((first | apply wpQI_step (by with_reducible (refine List.getElem?_toArray.trans ?_; (repeat (first | exact List.getElem?_cons_zero | refine List.getElem?_cons_succ.trans ?_)))) (by kernel_rfl) (by exact rfl) | apply wpQI_on (by with_reducible (refine List.getElem?_toArray.trans ?_; (repeat (first | exact List.getElem?_cons_zero | refine List.getElem?_cons_succ.trans ?_)))) (by kernel_rfl) (by exact rfl)); (focus (intro W' hS; have hcS := hS.cells.1; have hfS := hS.cells.2; go_simp; (first | done | exact rfl | exact ⟨rfl, Below.refl _ _⟩ | (go_simp; first | done | exact rfl | exact ⟨rfl, Below.refl _ _⟩)))); intro K hK; go_simp; (try go_bits); refine hK _ ?_; clear hK K))); refine wpQI_nil ?_
  refine wpQI_start [2] ?_; (iterate 1 (first | (refine wpQI_off (by with_reducible (refine List.getElem?_toArray.trans ?_; (repeat (first | exact List.getElem?_cons_zero | refine List.getElem?_cons_succ.trans ?_)))) (by kernel_rfl) (by exact rfl) (fun K hK => ?_); go_simp; refine hK _ ?_; clear hK K) | ((first | apply wpQI_step (by with_reducible (refine List.getElem?_toArray.trans ?_; (repeat (first | exact List.getElem?_cons_zero | refine List.getElem?_cons_succ.trans ?_)))) (by kernel_rfl) (by exact rfl) | apply wpQI_on (by with_reducible (refine List.getElem?_toArray.trans ?_; (repeat (first | exact List.getElem?_cons_zero | refine List.getElem?_cons_succ.trans ?_)))) (by kernel_rfl) (by exact rfl)); (focus (intro W' hS; have hcS := hS.cells.1; have hfS := hS.cells.2; go_simp; (first | done | exact rfl | exact ⟨rfl, Below.refl _ _⟩ | (go_at_call 36; exact (K4.out _).mono (fun _ _ h => ⟨h.1, h.2⟩)) | (go_simp; first | done | exact rfl | exact ⟨rfl, Below.refl _ _⟩)))); intro K hK; go_simp; (try go_bits); refine hK _ ?_; clear hK K))); refine wpQI_nil ?_
  refine wpQI_start [4] ?_; (iterate 1 (first | (refine wpQI_off (by with_reducible (refine List.getElem?_toArray.trans ?_; (repeat (first | exact List.getElem?_cons_zero | refine List.getElem?_cons_succ.trans ?_)))) (by kernel_rfl) (by exact rfl) (fun K hK => ?_); go_simp; refine hK _ ?_; clear hK K) | ((first | apply wpQI_step (by with_reducible (refine List.getElem?_toArray.trans ?_; (repeat (first | exact List.getElem?_cons_zero | refine List.getElem?_cons_succ.trans ?_)))) (by kernel_rfl) (by exact rfl) | apply wpQI_on (by with_reducible (refine List.getElem?_toArray.trans ?_; (repeat (first | exact List.getElem?_cons_zero | refine List.getElem?_cons_succ.trans ?_)))) (by kernel_rfl) (by exact rfl)); (focus (intro W' hS; have hcS := hS.cells.1; have hfS := hS.cells.2; go_simp; (first | done | exact rfl | exact ⟨rfl, Below.refl _ _⟩ | (go_at_call 11; exact (K5.out _).mono (fun _ _ h => ⟨h.1, h.2⟩)) | (go_simp; first | done | exact rfl | exact ⟨rfl, Below.refl _ _⟩)))); intro K hK; go_simp; (try go_bits); refine hK _ ?_; clear hK K))); refine wpQI_nil ?_
  refine wpQI_start [7] ?_; (iterate 1 (first | (refine wpQI_off (by with_reducible (refine List.getElem?_toArray.trans ?_; (repeat (first | exact List.getElem?_cons_zero | refine List.getElem?_cons_succ.trans ?_)))) (by kernel_rfl) (by exact rfl) (fun K hK => ?_); go_simp; refine hK _ ?_; clear hK K) | ((first | apply wpQI_step (by with_reducible (refine List.getElem?_toArray.trans ?_; (repeat (first | exact List.getElem?_cons_zero | refine List.getElem?_cons_succ.trans ?_)))) (by kernel_rfl) (by exact rfl) | apply wpQI_on (by with_reducible (refine List.getElem?_toArray.trans ?_; (repeat (first | exact List.getElem?_cons_zero | refine List.getElem?_cons_succ.trans ?_)))) (by kernel_rfl) (by exact rfl)); (focus (intro W' hS; have hcS := hS.cells.1; have hfS := hS.cells.2; go_simp; (first | done | exact rfl | exact ⟨rfl, Below.refl _ _⟩ | (go_at_call 11; exact (K6.out _).mono (fun _ _ h => ⟨h.1, h.2⟩)) | (go_simp; first | done | exact rfl | exact ⟨rfl, Below.refl _ _⟩)))); intro K hK; go_simp; (try go_bits); refine hK _ ?_; clear hK K))); refine wpQI_nil ?_
  apply wpQ_fresh (i := 8) LInv.std (by with_reducible (refine List.getElem?_toArray.trans ?_; (repeat (first | exact List.getElem?_cons_zero | refine List.getElem?_cons_succ.trans ?_)))) (by kernel_rfl) (fun g => Value.pointer (some ⟨g, 0, none⟩)) (by exact rfl); (focus (intro W; go_simp; first | done | exact rfl | exact ⟨rfl, rfl⟩))
  intro g_r5_8 hN_r5_8 hG_r5_8 K hK
  go_simp; refine hK _ ?_; clear hK K
  apply wpQ_fresh (i := 9) LInv.std (by with_reducible (refine List.getElem?_toArray.trans ?_; (repeat (first | exact List.getElem?_cons_zero | refine List.getElem?_cons_succ.trans ?_)))) (by kernel_rfl) (fun g => Value.pointer (some ⟨g, 0, none⟩)) (by exact rfl); (focus (intro W; go_simp; first | done | exact rfl | exact ⟨rfl, rfl⟩))
  intro g_r5_9 hN_r5_9 hG_r5_9 K hK
  go_simp; refine hK _ ?_; clear hK K
  have hne_r5_8_r5_9 : g_r5_8 ≠ g_r5_9 := hG_r5_9 _ (List.mem_cons_self ..)
  have hne_r5_9_r5_8 : g_r5_9 ≠ g_r5_8 := Ne.symm hne_r5_8_r5_9
  have hne : w.heap.size ≠ g_r5_8 := by have := hN_r5_8; omega
  have hne := Ne.symm hne
  have hne : w.heap.size ≠ g_r5_9 := by have := hN_r5_9; omega
  have hne := Ne.symm hne
  have hne : w.heap.size + 1 ≠ g_r5_8 := by have := hN_r5_8; omega
  have hne := Ne.symm hne
  have hne : w.heap.size + 1 ≠ g_r5_9 := by have := hN_r5_9; omega
  have hne := Ne.symm hne
  have hne : w.heap.size + 1 + 1 ≠ g_r5_8 := by have := hN_r5_8; omega
  have hne := Ne.symm hne
  have hne : w.heap.size + 1 + 1 ≠ g_r5_9 := by have := hN_r5_9; omega
  have hne := Ne.symm hne
  have hne : w.heap.size + 1 + 1 + 1 ≠ g_r5_8 := by have := hN_r5_8; omega
  have hne := Ne.symm hne
  have hne : w.heap.size + 1 + 1 + 1 ≠ g_r5_9 := by have := hN_r5_9; omega
  have hne := Ne.symm hne
  have hne : w.heap.size + 1 + 1 + 1 + 1 ≠ g_r5_8 := by have := hN_r5_8; omega
  have hne := Ne.symm hne
  have hne : w.heap.size + 1 + 1 + 1 + 1 ≠ g_r5_9 := by have := hN_r5_9; omega
  have hne := Ne.symm hne
  have hne : w.heap.size + 1 + 1 + 1 + 1 + 1 ≠ g_r5_8 := by have := hN_r5_8; omega
  have hne := Ne.symm hne
  have hne : w.heap.size + 1 + 1 + 1 + 1 + 1 ≠ g_r5_9 := by have := hN_r5_9; omega
  have hne := Ne.symm hne
  refine wpQ_done (by kernel_rfl) ?_
  intro w105 hF_w105 hSG
  have hz_w105 := hSG.1.1
  have hb_w105 := hSG.1.2
  have hB_r5_9 := (hSG.2 _ (List.mem_cons_self ..)).2; simp only at hB_r5_9; have hl_r5_9 := (hSG.size (List.mem_cons_self ..)); simp only at hl_r5_9
  have c_w105_r5_9_0 := cell_of_row w105 g_r5_9 0 _ _ _ hB_r5_9; simp only [List.getElem?_toArray, List.getElem?_cons_zero] at c_w105_r5_9_0
  have fz_w105_r5_9 : (∀ o, w105.frozen? ⟨g_r5_9, o, none⟩ = false) := (fun o => frozen_of_row w105 g_r5_9 o _ _ hB_r5_9); have HH_r5_9 := Lib.hid hB_r5_9; clear hB_r5_9
  have hB_r5_8 := (hSG.2 _ (List.mem_cons_of_mem _ (List.mem_cons_self ..))).2; simp only at hB_r5_8; have hl_r5_8 := (hSG.size (List.mem_cons_of_mem _ (List.mem_cons_self ..))); simp only at hl_r5_8
  have c_w105_r5_8_0 := cell_of_row w105 g_r5_8 0 _ _ _ hB_r5_8; simp only [List.getElem?_toArray, List.getElem?_cons_zero] at c_w105_r5_8_0
  have fz_w105_r5_8 : (∀ o, w105.frozen? ⟨g_r5_8, o, none⟩ = false) := (fun o => frozen_of_row w105 g_r5_8 o _ _ hB_r5_8); have HH_r5_8 := Lib.hid hB_r5_8; clear hB_r5_8
  clear hSG
  (with_reducible apply cel2 (b := w.heap.size) hb_w105); (focus ((try simp) <;> omega)); (focus omega); (focus (go_simp; try exact rfl)); (focus (go_simp; try exact rfl)); (focus (intro o; go_simp)); intro c_w105_0_0 c_w105_0_1 fz_w105_0 hl_w105_0; (with_reducible apply cel2 (b := w.heap.size + 1) hb_w105); (focus ((try simp) <;> omega)); (focus omega); (focus (go_simp; try exact rfl)); (focus (go_simp; try exact rfl)); (focus (intro o; go_simp)); intro c_w105_1_0 c_w105_1_1 fz_w105_1 hl_w105_1; (with_reducible apply cel2 (b := w.heap.size + 1 + 1) hb_w105); (focus ((try simp) <;> omega)); (focus omega); (focus (go_simp; try exact rfl)); (focus (go_simp; try exact rfl)); (focus (intro o; go_simp)); intro c_w105_2_0 c_w105_2_1 fz_w105_2 hl_w105_2; (with_reducible apply cel1 (b := w.heap.size + 1 + 1 + 1) hb_w105); (focus ((try simp) <;> omega)); (focus omega); (focus (go_simp; try exact rfl)); (focus (intro o; go_simp)); intro c_w105_3_0 fz_w105_3 hl_w105_3; (with_reducible apply cel6 (b := w.heap.size + 1 + 1 + 1 + 1) hb_w105); (focus ((try simp) <;> omega)); (focus omega); (focus (go_simp; try exact rfl)); (focus (go_simp; try exact rfl)); (focus (go_simp; try exact rfl)); (focus (go_simp; try exact rfl)); (focus (go_simp; try exact rfl)); (focus (go_simp; try exact rfl)); (focus (intro o; go_simp)); intro c_w105_4_0 c_w105_4_1 c_w105_4_2 c_w105_4_3 c_w105_4_4 c_w105_4_5 fz_w105_4 hl_w105_4; (with_reducible apply cel6 (b := w.heap.size + 1 + 1 + 1 + 1 + 1) hb_w105); (focus ((try simp) <;> omega)); (focus omega); (focus (go_simp; try exact rfl)); (focus (go_simp; try exact rfl)); (focus (go_simp; try exact rfl)); (focus (go_simp; try exact rfl)); (focus (go_simp; try exact rfl)); (focus (go_simp; try exact rfl)); (focus (intro o; go_simp)); intro c_w105_5_0 c_w105_5_1 c_w105_5_2 c_w105_5_3 c_w105_5_4 c_w105_5_5 fz_w105_5 hl_w105_5
  (try simp only [List.filterMap_cons, List.filterMap_nil, List.getElem?_cons_succ, List.getElem?_cons_zero])
  have HB105 := Lib.hid (HB104.out.trans (hb_w105.mono (by have := HB104.out.size; omega)))
  have hz105 : w.heap.size + 1 + 1 + 1 + 1 + 1 + 1 ≤ w105.heap.size := by omega
  have hn_r5_8 : w.heap.size + 1 + 1 + 1 + 1 + 1 + 1 ≤ g_r5_8 := by have := hN_r5_8; omega
  have hn_r5_9 : w.heap.size + 1 + 1 + 1 + 1 + 1 + 1 ≤ g_r5_9 := by have := hN_r5_9; omega
  clear hF_w105 hb_w105 HH_r5_8 hG_r5_8 hN_r5_8 HH_r5_9 hG_r5_9 hN_r5_9
  clear c_w104_0_0 c_w104_0_1 fz_w104_0 hl_w104_0 c_w104_1_0 c_w104_1_1 fz_w104_1 hl_w104_1 c_w104_2_0 c_w104_2_1 fz_w104_2 hl_w104_2 c_w104_3_0 fz_w104_3 hl_w104_3 c_w104_4_0 c_w104_4_1 c_w104_4_2 c_w104_4_3 c_w104_4_4 c_w104_4_5 fz_w104_4 hl_w104_4 c_w104_5_0 c_w104_5_1 c_w104_5_2 c_w104_5_3 c_w104_5_4 c_w104_5_5 fz_w104_5 hl_w104_5
  go_wp2_with fail
  refine HQ_.out _ _ _ ?_
  clear HQ_ Q_
  go_wp2_with fail
  -- own blocks: w.heap.size:2, w.heap.size + 1:2, w.heap.size + 1 + 1:2, w.heap.size + 1 + 1 + 1:1, w.heap.size + 1 + 1 + 1 + 1:6, w.heap.size + 1 + 1 + 1 + 1 + 1:6, g_r5_8:1, g_r5_9:1
  (go_at_call 41; refine (K7.out _).mono ?_; rintro e w106 ⟨hb_w106, v106, rfl, hv106⟩; have hz_w106 := hb_w106.size; (try simp at hz_w106); (with_reducible apply cel2 (b := w.heap.size) hb_w106); (focus ((try simp) <;> omega)); (focus omega); (focus (go_simp; try exact rfl)); (focus (go_simp; try exact rfl)); (focus (intro o; go_simp)); intro c_w106_0_0 c_w106_0_1 fz_w106_0 hl_w106_0; (with_reducible apply cel2 (b := w.heap.size + 1) hb_w106); (focus ((try simp) <;> omega)); (focus omega); (focus (go_simp; try exact rfl)); (focus (go_simp; try exact rfl)); (focus (intro o; go_simp)); intro c_w106_1_0 c_w106_1_1 fz_w106_1 hl_w106_1; (with_reducible apply cel2 (b := w.heap.size + 1 + 1) hb_w106); (focus ((try simp) <;> omega)); (focus omega); (focus (go_simp; try exact rfl)); (focus (go_simp; try exact rfl)); (focus (intro o; go_simp)); intro c_w106_2_0 c_w106_2_1 fz_w106_2 hl_w106_2; (with_reducible apply cel1 (b := w.heap.size + 1 + 1 + 1) hb_w106); (focus ((try simp) <;> omega)); (focus omega); (focus (go_simp; try exact rfl)); (focus (intro o; go_simp)); intro c_w106_3_0 fz_w106_3 hl_w106_3; (with_reducible apply cel6 (b := w.heap.size + 1 + 1 + 1 + 1) hb_w106); (focus ((try simp) <;> omega)); (focus omega); (focus (go_simp; try exact rfl)); (focus (go_simp; try exact rfl)); (focus (go_simp; try exact rfl)); (focus (go_simp; try exact rfl)); (focus (go_simp; try exact rfl)); (focus (go_simp; try exact rfl)); (focus (intro o; go_simp)); intro c_w106_4_0 c_w106_4_1 c_w106_4_2 c_w106_4_3 c_w106_4_4 c_w106_4_5 fz_w106_4 hl_w106_4; (with_reducible apply cel6 (b := w.heap.size + 1 + 1 + 1 + 1 + 1) hb_w106); (focus ((try simp) <;> omega)); (focus omega); (focus (go_simp; try exact rfl)); (focus (go_simp; try exact rfl)); (focus (go_simp; try exact rfl)); (focus (go_simp; try exact rfl)); (focus (go_simp; try exact rfl)); (focus (go_simp; try exact rfl)); (focus (intro o; go_simp)); intro c_w106_5_0 c_w106_5_1 c_w106_5_2 c_w106_5_3 c_w106_5_4 c_w106_5_5 fz_w106_5 hl_w106_5; (with_reducible apply cel1 (b := g_r5_8) hb_w106); (focus ((try simp) <;> omega)); (focus omega); (focus (go_simp; try exact rfl)); (focus (intro o; go_simp)); intro c_w106_6_0 fz_w106_6 hl_w106_6; (with_reducible apply cel1 (b := g_r5_9) hb_w106); (focus ((try simp) <;> omega)); (focus omega); (focus (go_simp; try exact rfl)); (focus (intro o; go_simp)); intro c_w106_7_0 fz_w106_7 hl_w106_7)
  obtain ⟨s106, A106, n106, c106, rfl⟩ := IsC.val hv106
  have HB106 := Lib.hid (show Below w.heap.size w w106 by have hB := HB105.out; ((with_reducible (repeat (first | exact bR _ _ | refine bS ?_ ?_ _ | refine bA ?_ ?_ _ | refine bD ?_ | refine bT ?_ (by assumption) ?_ | refine bO (by assumption) ?_ ?_))) <;> (first | omega | (simp; done) | (simp <;> omega))))
  have hz106 : w.heap.size + 1 + 1 + 1 + 1 + 1 + 1 ≤ w106.heap.size := by omega
  clear hb_w106
  clear c_w105_r5_9_0 fz_w105_r5_9 c_w105_r5_8_0 fz_w105_r5_8 c_w105_0_0 c_w105_0_1 fz_w105_0 hl_w105_0 c_w105_1_0 c_w105_1_1 fz_w105_1 hl_w105_1 c_w105_2_0 c_w105_2_1 fz_w105_2 hl_w105_2 c_w105_3_0 fz_w105_3 hl_w105_3 c_w105_4_0 c_w105_4_1 c_w105_4_2 c_w105_4_3 c_w105_4_4 c_w105_4_5 fz_w105_4 hl_w105_4 c_w105_5_0 c_w105_5_1 c_w105_5_2 c_w105_5_3 c_w105_5_4 c_w105_5_5 fz_w105_5 hl_w105_5
  have H106 := Lib.hid (show IsC w106 (.agg #[.bool s106, .slice A106 n106 c106]) ((32 * M)) from hv106)
  clear hv106
  go_wp2_with fail
  -- own blocks: w.heap.size:2, w.heap.size + 1:2, w.heap.size + 1 + 1:2, w.heap.size + 1 + 1 + 1:1, w.heap.size + 1 + 1 + 1 + 1:6, w.heap.size + 1 + 1 + 1 + 1 + 1:6, g_r5_8:1, g_r5_9:1, w106.heap.size:2
  (refine pin_wp (N := _) (Nat.le_refl _) (fun w107 hb_w107 hz_w107 => ?_); (try simp at hz_w107); (with_reducible apply cel2 (b := w.heap.size) hb_w107); (focus ((try simp) <;> omega)); (focus omega); (focus (go_simp; try exact rfl)); (focus (go_simp; try exact rfl)); (focus (intro o; go_simp)); intro c_w107_0_0 c_w107_0_1 fz_w107_0 hl_w107_0; (with_reducible apply cel2 (b := w.heap.size + 1) hb_w107); (focus ((try simp) <;> omega)); (focus omega); (focus (go_simp; try exact rfl)); (focus (go_simp; try exact rfl)); (focus (intro o; go_simp)); intro c_w107_1_0 c_w107_1_1 fz_w107_1 hl_w107_1; (with_reducible apply cel2 (b := w.heap.size + 1 + 1) hb_w107); (focus ((try simp) <;> omega)); (focus omega); (focus (go_simp; try exact rfl)); (focus (go_simp; try exact rfl)); (focus (intro o; go_simp)); intro c_w107_2_0 c_w107_2_1 fz_w107_2 hl_w107_2; (with_reducible apply cel1 (b := w.heap.size + 1 + 1 + 1) hb_w107); (focus ((try simp) <;> omega)); (focus omega); (focus (go_simp; try exact rfl)); (focus (intro o; go_simp)); intro c_w107_3_0 fz_w107_3 hl_w107_3; (with_reducible apply cel6 (b := w.heap.size + 1 + 1 + 1 + 1) hb_w107); (focus ((try simp) <;> omega)); (focus omega); (focus (go_simp; try exact rfl)); (focus (go_simp; try exact rfl)); (focus (go_simp; try exact rfl)); (focus (go_simp; try exact rfl)); (focus (go_simp; try exact rfl)); (focus (go_simp; try exact rfl)); (focus (intro o; go_simp)); intro c_w107_4_0 c_w107_4_1 c_w107_4_2 c_w107_4_3 c_w107_4_4 c_w107_4_5 fz_w107_4 hl_w107_4; (with_reducible apply cel6 (b := w.heap.size + 1 + 1 + 1 + 1 + 1) hb_w107); (focus ((try simp) <;> omega)); (focus omega); (focus (go_simp; try exact rfl)); (focus (go_simp; try exact rfl)); (focus (go_simp; try exact rfl)); (focus (go_simp; try exact rfl)); (focus (go_simp; try exact rfl)); (focus (go_simp; try exact rfl)); (focus (intro o; go_simp)); intro c_w107_5_0 c_w107_5_1 c_w107_5_2 c_w107_5_3 c_w107_5_4 c_w107_5_5 fz_w107_5 hl_w107_5; (with_reducible apply cel1 (b := g_r5_8) hb_w107); (focus ((try simp) <;> omega)); (focus omega); (focus (go_simp; try exact rfl)); (focus (intro o; go_simp)); intro c_w107_6_0 fz_w107_6 hl_w107_6; (with_reducible apply cel1 (b := g_r5_9) hb_w107); (focus ((try simp) <;> omega)); (focus omega); (focus (go_simp; try exact rfl)); (focus (intro o; go_simp)); intro c_w107_7_0 fz_w107_7 hl_w107_7; (with_reducible apply cel2 (b := w106.heap.size) hb_w107); (focus ((try simp) <;> omega)); (focus omega); (focus (go_simp; try exact rfl)); (focus (go_simp; try exact rfl)); (focus (intro o; go_simp)); intro c_w107_8_0 c_w107_8_1 fz_w107_8 hl_w107_8); refine wp_q (fun Q_ HQ_ => ?_); refine wp_region_floatQ w107.heap.size 30 [30, 31] (Nat.le_refl _) (fun _ => True) trivial Cl.tt (by kernel_rfl) (by kernel_rfl) ?_
  replace H106 := Lib.hid (IsC.below (v := .agg #[.bool s106, .slice A106 n106 c106]) (z := (32 * M)) (by ((repeat (first | (with_reducible exact H106.out) | (with_reducible refine IsC.al ?_ _) | (with_reducible apply IsC.st1))) <;> (first | (with_reducible assumption) | (intro _ e; cases e; done) | (go_simp; first | done | exact rfl)))) hb_w107)
  have HB107 := Lib.hid (show Below w.heap.size w w107 by have hB := HB106.out; ((with_reducible (repeat (first | exact bR _ _ | refine bS ?_ ?_ _ | refine bA ?_ ?_ _ | refine bD ?_ | refine bT ?_ (by assumption) ?_ | refine bO (by assumption) ?_ ?_))) <;> (first | omega | (simp; done) | (simp <;> omega))))
  have hz107 : w.heap.size + 1 + 1 + 1 + 1 + 1 + 1 ≤ w107.heap.size := by omega
  clear hb_w107
  clear c_w106_0_0 c_w106_0_1 fz_w106_0 hl_w106_0 c_w106_1_0 c_w106_1_1 fz_w106_1 hl_w106_1 c_w106_2_0 c_w106_2_1 fz_w106_2 hl_w106_2 c_w106_3_0 fz_w106_3 hl_w106_3 c_w106_4_0 c_w106_4_1 c_w106_4_2 c_w106_4_3 c_w106_4_4 c_w106_4_5 fz_w106_4 hl_w106_4 c_w106_5_0 c_w106_5_1 c_w106_5_2 c_w106_5_3 c_w106_5_4 c_w106_5_5 fz_w106_5 hl_w106_5 c_w106_6_0 fz_w106_6 hl_w106_6 c_w106_7_0 fz_w106_7 hl_w106_7
  refine wpQI_start [0, 1, 2, 3, 4] ?_; (iterate 5 (first | (refine wpQI_off (by with_reducible (refine List.getElem?_toArray.trans ?_; (repeat (first | exact List.getElem?_cons_zero | refine List.getElem?_cons_succ.trans ?_)))) (by kernel_rfl) (by exact rfl) (fun K hK => ?_); go_simp; refine hK _ ?_; clear hK K) | ((first | apply wpQI_step (by with_reducible (refine List.getElem?_toArray.trans ?_; (repeat (first | exact List.getElem?_cons_zero | refine List.getElem?_cons_succ.trans ?_)))) (by kernel_rfl) (by exact rfl) | apply wpQI_on (by with_reducible (refine List.getElem?_toArray.trans ?_; (repeat (first | exact List.getElem?_cons_zero | refine List.getElem?_cons_succ.trans ?_)))) (by kernel_rfl) (by exact rfl)); (focus (intro W' hS; have hcS := hS.cells.1; have hfS := hS.cells.2; go_simp; (first | done | exact rfl | exact ⟨rfl, Below.refl _ _⟩ | (go_simp; first | done | exact rfl | exact ⟨rfl, Below.refl _ _⟩)))); intro K hK; go_simp; (try go_bits); refine hK _ ?_; clear hK K))); refine wpQI_nil ?_
  refine wpQI_start [6, 7, 8, 9, 10] ?_; (iterate 5 (first | (refine wpQI_off (by with_reducible (refine List.getElem?_toArray.trans ?_; (repeat (first | exact List.getElem?_cons_zero | refine List.getElem?_cons_succ.trans ?_)))) (by kernel_rfl) (by exact rfl) (fun K hK => ?_); go_simp; refine hK _ ?_; clear hK K) | ((first | apply wpQI_step (by with_reducible (refine List.getElem?_toArray.trans ?_; (repeat (first | exact List.getElem?_cons_zero | refine List.getElem?_cons_succ.trans ?_)))) (by kernel_rfl) (by exact rfl) | apply wpQI_on (by with_reducible (refine List.getElem?_toArray.trans ?_; (repeat (first | exact List.getElem?_cons_zero | refine List.getElem?_cons_succ.trans ?_)))) (by kernel_rfl) (by exact rfl)); (focus (intro W' hS; have hcS := hS.cells.1; have hfS := hS.cells.2; go_simp; (first | done | exact rfl | exact ⟨rfl, Below.refl _ _⟩ | (go_simp; first | done | exact rfl | exact ⟨rfl, Below.refl _ _⟩)))); intro K hK; go_simp; (try go_bits); refine hK _ ?_; clear hK K))); refine wpQI_nil ?_
  refine wpQI_start [12] ?_; (iterate 1 (first | (refine wpQI_off (by with_reducible (refine List.getElem?_toArray.trans ?_; (repeat (first | exact List.getElem?_cons_zero | refine List.getElem?_cons_succ.trans ?_)))) (by kernel_rfl) (by exact rfl) (fun K hK => ?_); go_simp; refine hK _ ?_; clear hK K) | ((first | apply wpQI_step (by with_reducible (refine List.getElem?_toArray.trans ?_; (repeat (first | exact List.getElem?_cons_zero | refine List.getElem?_cons_succ.trans ?_)))) (by kernel_rfl) (by exact rfl) | apply wpQI_on (by with_reducible (refine List.getElem?_toArray.trans ?_; (repeat (first | exact List.getElem?_cons_zero | refine List.getElem?_cons_succ.trans ?_)))) (by kernel_rfl) (by exact rfl)); (focus (intro W' hS; have hcS := hS.cells.1; have hfS := hS.cells.2; go_simp; (first | done | exact rfl | exact ⟨rfl, Below.refl _ _⟩ | (go_simp; first | done | exact rfl | exact ⟨rfl, Below.refl _ _⟩)))); intro K hK; go_simp; (try go_bits); refine hK _ ?_; clear hK K))); refine wpQI_nil ?_
  refine wpQI_start [15, 16, 17, 18, 19] ?_; (iterate 5 (first | (refine wpQI_off (by with_reducible (refine List.getElem?_toArray.trans ?_; (repeat (first | exact List.getElem?_cons_zero | refine List.getElem?_cons_succ.trans ?_)))) (by kernel_rfl) (by exact rfl) (fun K hK => ?_); go_simp; refine hK _ ?_; clear hK K) | ((first | apply wpQI_step (by with_reducible (refine List.getElem?_toArray.trans ?_; (repeat (first | exact List.getElem?_cons_zero | refine List.getElem?_cons_succ.trans ?_)))) (by kernel_rfl) (by exact rfl) | apply wpQI_on (by with_reducible (refine List.getElem?_toArray.trans ?_; (repeat (first | exact List.getElem?_cons_zero | refine List.getElem?_cons_succ.trans ?_)))) (by kernel_rfl) (by exact rfl)); (focus (intro W' hS; have hcS := hS.cells.1; have hfS := hS.cells.2; go_simp; (first | done | exact rfl | exact ⟨rfl, Below.refl _ _⟩ | (go_simp; first | done | exact rfl | exact ⟨rfl, Below.refl _ _⟩)))); intro K hK; go_simp; (try go_bits); refine hK _ ?_; clear hK K))); refine wpQI_nil ?_
  refine wpQI_start [21, 22, 23, 24, 25] ?_; (iterate 5 (first | (refine wpQI_off (by with_reducible (refine List.getElem?_toArray.trans ?_; (repeat (first | exact List.getElem?_cons_zero | refine List.getElem?_cons_succ.trans ?_)))) (by kernel_rfl) (by exact rfl) (fun K hK => ?_); go_simp; refine hK _ ?_; clear hK K) | ((first | apply wpQI_step (by with_reducible (refine List.getElem?_toArray.trans ?_; (repeat (first | exact List.getElem?_cons_zero | refine List.getElem?_cons_succ.trans ?_)))) (by kernel_rfl) (by exact rfl) | apply wpQI_on (by with_reducible (refine List.getElem?_toArray.trans ?_; (repeat (first | exact List.getElem?_cons_zero | refine List.getElem?_cons_succ.trans ?_)))) (by kernel_rfl) (by exact rfl)); (focus (intro W' hS; have hcS := hS.cells.1; have hfS := hS.cells.2; go_simp; (first | done | exact rfl | exact ⟨rfl, Below.refl _ _⟩ | (go_simp; first | done | exact rfl | exact ⟨rfl, Below.refl _ _⟩)))); intro K hK; go_simp; (try go_bits); refine hK _ ?_; clear hK K))); refine wpQI_nil ?_
  refine wpQI_start [27] ?_; (iterate 1 (first | (refine wpQI_off (by with_reducible (refine List.getElem?_toArray.trans ?_; (repeat (first | exact List.getElem?_cons_zero | refine List.getElem?_cons_succ.trans ?_)))) (by kernel_rfl) (by exact rfl) (fun K hK => ?_); go_simp; refine hK _ ?_; clear hK K) | ((first | apply wpQI_step (by with_reducible (refine List.getElem?_toArray.trans ?_; (repeat (first | exact List.getElem?_cons_zero | refine List.getElem?_cons_succ.trans ?_)))) (by kernel_rfl) (by exact rfl) | apply wpQI_on (by with_reducible (refine List.getElem?_toArray.trans ?_; (repeat (first | exact List.getElem?_cons_zero | refine List.getElem?_cons_succ.trans ?_)))) (by kernel_rfl) (by exact rfl)); (focus (intro W' hS; have hcS := hS.cells.1; have hfS := hS.cells.2; go_simp; (first | done | exact rfl | exact ⟨rfl, Below.refl _ _⟩ | (go_simp; first | done | exact rfl | exact ⟨rfl, Below.refl _ _⟩)))); intro K hK; go_simp; (try go_bits); refine hK _ ?_; clear hK K))); refine wpQI_nil ?_
  apply wpQ_call (i := 5) (by with_reducible (refine List.getElem?_toArray.trans ?_; (repeat (first | exact List.getElem?_cons_zero | refine List.getElem?_cons_succ.trans ?_)))) (by kernel_rfl) (by exact rfl); intro W hF hS; have hcS := hS.1.cells.1; have hfS := hS.1.cells.2; go_simp; (go_at_call 61; refine (K8.out _ _ _ _ (by go_simp) (by go_simp) (by go_simp)).mono ?_; rintro e w108 ⟨hb_w108, v108, rfl, hv108⟩; refine XPost.mk _ (fun W => IsC W v108 (X1)) hb_w108 (hv108) (IsC.cl _ _) ?_); clear hb_w108 hcS hfS hS hF
  intro K hK; go_simp; (try go_bits); refine hK _ ?_; clear hK K
  obtain ⟨s108, A108, n108, c108, rfl⟩ := IsC.val hv108
  clear hv108
  apply wpQ_call (i := 11) (by with_reducible (refine List.getElem?_toArray.trans ?_; (repeat (first | exact List.getElem?_cons_zero | refine List.getElem?_cons_succ.trans ?_)))) (by kernel_rfl) (by exact rfl); intro W hF hS; have hcS := hS.1.cells.1; have hfS := hS.1.cells.2; go_simp; (go_at_call 61; refine (K9.out _ _ _ _ (by go_simp) (by go_simp) (by go_simp)).mono ?_; rintro e w109 ⟨hb_w109, v109, rfl, hv109⟩; refine XPost.mk _ (fun W => IsC W v109 (X2)) hb_w109 (hv109) (IsC.cl _ _) ?_); clear hb_w109 hcS hfS hS hF
  intro K hK; go_simp; (try go_bits); refine hK _ ?_; clear hK K
  obtain ⟨s109, A109, n109, c109, rfl⟩ := IsC.val hv109
  clear hv109
  refine wpQI_start [13] ?_; (iterate 1 (first | (refine wpQI_off (by with_reducible (refine List.getElem?_toArray.trans ?_; (repeat (first | exact List.getElem?_cons_zero | refine List.getElem?_cons_succ.trans ?_)))) (by kernel_rfl) (by exact rfl) (fun K hK => ?_); go_simp; refine hK _ ?_; clear hK K) | ((first | apply wpQI_step (by with_reducible (refine List.getElem?_toArray.trans ?_; (repeat (first | exact List.getElem?_cons_zero | refine List.getElem?_cons_succ.trans ?_)))) (by kernel_rfl) (by exact rfl) | apply wpQI_on (by with_reducible (refine List.getElem?_toArray.trans ?_; (repeat (first | exact List.getElem?_cons_zero | refine List.getElem?_cons_succ.trans ?_)))) (by kernel_rfl) (by exact rfl)); (focus (intro W' hS; have hcS := hS.cells.1; have hfS := hS.cells.2; go_simp; (first | done | exact rfl | exact ⟨rfl, Below.refl _ _⟩ | (go_simp; first | done | exact rfl | exact ⟨rfl, Below.refl _ _⟩)))); intro K hK; go_simp; (try go_bits); refine hK _ ?_; clear hK K))); refine wpQI_nil ?_
  apply wpQ_call (i := 14) (by with_reducible (refine List.getElem?_toArray.trans ?_; (repeat (first | exact List.getElem?_cons_zero | refine List.getElem?_cons_succ.trans ?_)))) (by kernel_rfl) (by exact rfl); intro W hF hS; have hcS := hS.1.cells.1; have hfS := hS.1.cells.2; go_simp; (go_at_call 43; refine (K10.out _ _ (⟨_, _, _, _, _, _, _, _, _, _, _, _, rfl, hF.1, hF.2, (H106.out.below hS.1.2)⟩)).mono ?_; rintro e w110 ⟨hb_w110, v110, rfl, hv110⟩; refine XPost.mk _ (fun W => RAt W v110 (P1) (P2) (P3)) hb_w110 (hv110) (RAt.cl _ _ _ _) ?_); clear hb_w110 hcS hfS hS hF
  intro K hK; go_simp; (try go_bits); refine hK _ ?_; clear hK K
  obtain ⟨s110x, A110x, n110x, c110x, s110y, A110y, n110y, c110y, s110d, A110d, n110d, c110d, rfl⟩ := RAt.val hv110
  clear hv110
  apply wpQ_call (i := 20) (by with_reducible (refine List.getElem?_toArray.trans ?_; (repeat (first | exact List.getElem?_cons_zero | refine List.getElem?_cons_succ.trans ?_)))) (by kernel_rfl) (by exact rfl); intro W hF hS; have hcS := hS.1.cells.1; have hfS := hS.1.cells.2; go_simp; (go_at_call 61; refine (K11.out _ _ _ _ (by go_simp) (by go_simp) (by go_simp)).mono ?_; rintro e w111 ⟨hb_w111, v111, rfl, hv111⟩; refine XPost.mk _ (fun W => IsC W v111 (Y1)) hb_w111 (hv111) (IsC.cl _ _) ?_); clear hb_w111 hcS hfS hS hF
  intro K hK; go_simp; (try go_bits); refine hK _ ?_; clear hK K
  obtain ⟨s111, A111, n111, c111, rfl⟩ := IsC.val hv111
  clear hv111
  apply wpQ_call (i := 26) (by with_reducible (refine List.getElem?_toArray.trans ?_; (repeat (first | exact List.getElem?_cons_zero | refine List.getElem?_cons_succ.trans ?_)))) (by kernel_rfl) (by exact rfl); intro W hF hS; have hcS := hS.1.cells.1; have hfS := hS.1.cells.2; go_simp; (go_at_call 61; refine (K12.out _ _ _ _ (by go_simp) (by go_simp) (by go_simp)).mono ?_; rintro e w112 ⟨hb_w112, v112, rfl, hv112⟩; refine XPost.mk _ (fun W => IsC W v112 (Y2)) hb_w112 (hv112) (IsC.cl _ _) ?_); clear hb_w112 hcS hfS hS hF
  intro K hK; go_simp; (try go_bits); refine hK _ ?_; clear hK K
  obtain ⟨s112, A112, n112, c112, rfl⟩ := IsC.val hv112
  clear hv112
  refine wpQI_start [28] ?_; (iterate 1 (first | (refine wpQI_off (by with_reducible (refine List.getElem?_toArray.trans ?_; (repeat (first | exact List.getElem?_cons_zero | refine List.getElem?_cons_succ.trans ?_)))) (by kernel_rfl) (by exact rfl) (fun K hK => ?_); go_simp; refine hK _ ?_; clear hK K) | ((first | apply wpQI_step (by with_reducible (refine List.getElem?_toArray.trans ?_; (repeat (first | exact List.getElem?_cons_zero | refine List.getElem?_cons_succ.trans ?_)))) (by kernel_rfl) (by exact rfl) | apply wpQI_on (by with_reducible (refine List.getElem?_toArray.trans ?_; (repeat (first | exact List.getElem?_cons_zero | refine List.getElem?_cons_succ.trans ?_)))) (by kernel_rfl) (by exact rfl)); (focus (intro W' hS; have hcS := hS.cells.1; have hfS := hS.cells.2; go_simp; (first | done | exact rfl | exact ⟨rfl, Below.refl _ _⟩ | (go_simp; first | done | exact rfl | exact ⟨rfl, Below.refl _ _⟩)))); intro K hK; go_simp; (try go_bits); refine hK _ ?_; clear hK K))); refine wpQI_nil ?_
  apply wpQ_call (i := 29) (by with_reducible (refine List.getElem?_toArray.trans ?_; (repeat (first | exact List.getElem?_cons_zero | refine List.getElem?_cons_succ.trans ?_)))) (by kernel_rfl) (by exact rfl); intro W hF hS; have hcS := hS.1.cells.1; have hfS := hS.1.cells.2; go_simp; (go_at_call 43; refine (K13.out _ _ (⟨_, _, _, _, _, _, _, _, _, _, _, _, rfl, hF.1.2, hF.2, (H106.out.below hS.1.2)⟩)).mono ?_; rintro e w113 ⟨hb_w113, v113, rfl, hv113⟩; refine XPost.mk _ (fun W => RAt W v113 (Q1) (Q2) (Q3)) hb_w113 (hv113) (RAt.cl _ _ _ _) ?_); clear hb_w113 hcS hfS hS hF
  intro K hK; go_simp; (try go_bits); refine hK _ ?_; clear hK K
  obtain ⟨s113x, A113x, n113x, c113x, s113y, A113y, n113y, c113y, s113d, A113d, n113d, c113d, rfl⟩ := RAt.val hv113
  clear hv113
  refine wpQ_done (by kernel_rfl) ?_
  intro w114 hF_w114 hSG
  have hz_w114 := hSG.1.1
  have hb_w114 := hSG.1.2
  clear hSG
  (with_reducible apply cel2 (b := w.heap.size) hb_w114); (focus ((try simp) <;> omega)); (focus omega); (focus (go_simp; try exact rfl)); (focus (go_simp; try exact rfl)); (focus (intro o; go_simp)); intro c_w114_0_0 c_w114_0_1 fz_w114_0 hl_w114_0; (with_reducible apply cel2 (b := w.heap.size + 1) hb_w114); (focus ((try simp) <;> omega)); (focus omega); (focus (go_simp; try exact rfl)); (focus (go_simp; try exact rfl)); (focus (intro o; go_simp)); intro c_w114_1_0 c_w114_1_1 fz_w114_1 hl_w114_1; (with_reducible apply cel2 (b := w.heap.size + 1 + 1) hb_w114); (focus ((try simp) <;> omega)); (focus omega); (focus (go_simp; try exact rfl)); (focus (go_simp; try exact rfl)); (focus (intro o; go_simp)); intro c_w114_2_0 c_w114_2_1 fz_w114_2 hl_w114_2; (with_reducible apply cel1 (b := w.heap.size + 1 + 1 + 1) hb_w114); (focus ((try simp) <;> omega)); (focus omega); (focus (go_simp; try exact rfl)); (focus (intro o; go_simp)); intro c_w114_3_0 fz_w114_3 hl_w114_3; (with_reducible apply cel6 (b := w.heap.size + 1 + 1 + 1 + 1) hb_w114); (focus ((try simp) <;> omega)); (focus omega); (focus (go_simp; try exact rfl)); (focus (go_simp; try exact rfl)); (focus (go_simp; try exact rfl)); (focus (go_simp; try exact rfl)); (focus (go_simp; try exact rfl)); (focus (go_simp; try exact rfl)); (focus (intro o; go_simp)); intro c_w114_4_0 c_w114_4_1 c_w114_4_2 c_w114_4_3 c_w114_4_4 c_w114_4_5 fz_w114_4 hl_w114_4; (with_reducible apply cel6 (b := w.heap.size + 1 + 1 + 1 + 1 + 1) hb_w114); (focus ((try simp) <;> omega)); (focus omega); (focus (go_simp; try exact rfl)); (focus (go_simp; try exact rfl)); (focus (go_simp; try exact rfl)); (focus (go_simp; try exact rfl)); (focus (go_simp; try exact rfl)); (focus (go_simp; try exact rfl)); (focus (intro o; go_simp)); intro c_w114_5_0 c_w114_5_1 c_w114_5_2 c_w114_5_3 c_w114_5_4 c_w114_5_5 fz_w114_5 hl_w114_5; (with_reducible apply cel1 (b := g_r5_8) hb_w114); (focus ((try simp) <;> omega)); (focus omega); (focus (go_simp; try exact rfl)); (focus (intro o; go_simp)); intro c_w114_6_0 fz_w114_6 hl_w114_6; (with_reducible apply cel1 (b := g_r5_9) hb_w114); (focus ((try simp) <;> omega)); (focus omega); (focus (go_simp; try exact rfl)); (focus (intro o; go_simp)); intro c_w114_7_0 fz_w114_7 hl_w114_7; (with_reducible apply cel2 (b := w106.heap.size) hb_w114); (focus ((try simp) <;> omega)); (focus omega); (focus (go_simp; try exact rfl)); (focus (go_simp; try exact rfl)); (focus (intro o; go_simp)); intro c_w114_8_0 c_w114_8_1 fz_w114_8 hl_w114_8
  (try simp only [List.filterMap_cons, List.filterMap_nil, List.getElem?_cons_succ, List.getElem?_cons_zero])
  clear H106
  have H108 := Lib.hid (show IsC w114 (.agg #[.bool s108, .slice A108 n108 c108]) (X1) from hF_w114.1.1.1.1.1)
  have H109 := Lib.hid (show IsC w114 (.agg #[.bool s109, .slice A109 n109 c109]) (X2) from hF_w114.1.1.1.1.2)
  have H110 := Lib.hid (show RAt w114 (.agg #[.bool s110x, .slice A110x n110x c110x, .bool s110y, .slice A110y n110y c110y, .bool s110d, .slice A110d n110d c110d]) (P1) (P2) (P3) from hF_w114.1.1.1.2)
  have H111 := Lib.hid (show IsC w114 (.agg #[.bool s111, .slice A111 n111 c111]) (Y1) from hF_w114.1.1.2)
  have H112 := Lib.hid (show IsC w114 (.agg #[.bool s112, .slice A112 n112 c112]) (Y2) from hF_w114.1.2)
  have H113 := Lib.hid (show RAt w114 (.agg #[.bool s113x, .slice A113x n113x c113x, .bool s113y, .slice A113y n113y c113y, .bool s113d, .slice A113d n113d c113d]) (Q1) (Q2) (Q3) from hF_w114.2)
  have HB114 := Lib.hid (HB107.out.trans (hb_w114.mono (by have := HB107.out.size; omega)))
  have hz114 : w.heap.size + 1 + 1 + 1 + 1 + 1 + 1 ≤ w114.heap.size := by omega
  clear hF_w114 hb_w114
  clear c_w107_0_0 c_w107_0_1 fz_w107_0 hl_w107_0 c_w107_1_0 c_w107_1_1 fz_w107_1 hl_w107_1 c_w107_2_0 c_w107_2_1 fz_w107_2 hl_w107_2 c_w107_3_0 fz_w107_3 hl_w107_3 c_w107_4_0 c_w107_4_1 c_w107_4_2 c_w107_4_3 c_w107_4_4 c_w107_4_5 fz_w107_4 hl_w107_4 c_w107_5_0 c_w107_5_1 c_w107_5_2 c_w107_5_3 c_w107_5_4 c_w107_5_5 fz_w107_5 hl_w107_5 c_w107_6_0 fz_w107_6 hl_w107_6 c_w107_7_0 fz_w107_7 hl_w107_7 c_w107_8_0 c_w107_8_1 fz_w107_8 hl_w107_8
  go_wp2_with fail
  refine HQ_.out _ _ _ ?_
  clear HQ_ Q_
  go_wp2_with fail
  -- own blocks: w.heap.size + 1 + 1 + 1:1, w.heap.size + 1 + 1 + 1 + 1:6, w.heap.size + 1 + 1 + 1 + 1 + 1:6, g_r5_8:1, g_r5_9:1
  refine bodyPost_ret (v := .tuple #[.agg #[.bool s110x, .slice A110x n110x c110x, .bool s110y, .slice A110y n110y c110y, .bool s110d, .slice A110d n110d c110d], .agg #[.bool s113x, .slice A113x n113x c113x, .bool s113y, .slice A113y n113y c113y, .bool s113d, .slice A113d n113d c113d]]) (by simp only [results, Try.results37]; go_simp) rfl ⟨?_, ?_⟩
  · have hB := HB114.out; ((with_reducible (repeat (first | exact bR _ _ | refine bS ?_ ?_ _ | refine bA ?_ ?_ _ | refine bD ?_ | refine bT ?_ (by assumption) ?_ | refine bO (by assumption) ?_ ?_))) <;> (first | omega | (simp; done) | (simp <;> omega)))
  · exact ⟨_, _, rfl, (by ((repeat (first | (with_reducible exact H110.out) | (with_reducible refine RAt.al ?_ _) | (with_reducible apply RAt.st1))) <;> (first | (with_reducible assumption) | (intro _ e; cases e; done) | (go_simp; first | done | exact rfl)))), (by ((repeat (first | (with_reducible exact H113.out) | (with_reducible refine RAt.al ?_ _) | (with_reducible apply RAt.st1))) <;> (first | (with_reducible assumption) | (intro _ e; cases e; done) | (go_simp; first | done | exact rfl))))⟩
end Go.Proofs.Ytgejdaincnclpaa
namespace Go.Proofs.Ytgejdaincnclpaa
open Go.RowKit
set_option linter.unusedVariables false
theorem run_max_ints4 (w : World) (ts : Array TypeId) (t : TypeId) (x y z u : Int) : (Builtin.max_ ts t #[.int .i64 x, .int .i64 y, .int .i64 z, .int .i64 u]).run Try.prog w = .ok (.int .i64 (max (max (max x y) z) u)) w := by
  have e : ∀ a b : Int, (if b > a then b else a) = max a b := fun a b => by split <;> omega
  simp [Builtin.max_, Builtin.max2, List.foldlM, e]
attribute [local go_sem] run_max_ints4
end Go.Proofs.Ytgejdaincnclpaa
namespace Go.Proofs.Ytgejdaincnclpaa
open Go Go.RowKit
set_option linter.unusedVariables false
theorem within_bd2 {a b n : Int} (h : withinB a b n = true) : -n ≤ a ∧ a ≤ n ∧ -n ≤ b ∧ b ≤ n := by simpa [withinB] using h
end Go.Proofs.Ytgejdaincnclpaa
namespace Go.Proofs.Ytgejdaincnclpaa
open Go Go.RowKit
set_option linter.unusedVariables false
theorem len_mul {x y : Int} {a b : Nat} (hx : (canN x.natAbs).length ≤ a) (hy : (canN y.natAbs).length ≤ b) : (canN (x * y).natAbs).length ≤ a + b := by
  rw [canN_len] at *
  rw [Int.natAbs_mul, Int.natCast_mul, PB_add]
  exact Int.lt_of_le_of_lt (Int.mul_le_mul_of_nonneg_left (Int.le_of_lt hy) (Int.natCast_nonneg _)) (Int.mul_lt_mul_of_pos_right hx (PB_pos b))
theorem len_up {z : Int} {a b : Nat} (h : (canN z.natAbs).length ≤ a) (hab : a ≤ b) : (canN z.natAbs).length ≤ b := Nat.le_trans h hab
theorem len_add {x y : Int} {a : Nat} (hx : (canN x.natAbs).length ≤ a) (hy : (canN y.natAbs).length ≤ a) : (canN (x + y).natAbs).length ≤ a + 1 := by
  rw [canN_len] at *
  have h1 := PB_add a 1
  have h2 : PB 1 = 4294967296 := by decide
  have h3 := PB_pos a
  rw [h1, h2]
  have := Int.natAbs_add_le x y
  omega
def sumR (a b : Int × Int × Int) : Int × Int × Int := lowR (a.1 * b.2.2 + b.1 * a.2.2) (a.2.1 * b.2.2 + b.2.1 * a.2.2) (a.2.2 * b.2.2)
end Go.Proofs.Ytgejdaincnclpaa
namespace Go.Proofs.Ytgejdaincnclpaa
open Go Go.RowKit
set_option linter.unusedVariables false
set_option maxRecDepth 100000 in
set_option maxHeartbeats 2000000 in
theorem wint_any (z : Int) (v : Value) (w : World) (h : IsC w v z) (h1 : -2147483648 < z) (h2 : z < 2147483648) :
    Calls Try.prog 46 #[v] w fun e w' => e = .returned (.int .i64 z) ∧ Below w.heap.size w w' := by
  have hlen : (canN z.natAbs).length ≤ 1 := canN_len.2 (by have : PB 1 = 4294967296 := by decide
                                                           omega)
  have hz := h.zl hlen
  have H := Lib.hid hz
  obtain ⟨p, A, c, l, rfl⟩ := isZ_val hz
  have hm := fun w' (h' : Below w.heap.size w w') => wlimbs_any 1 _ z w' (H.out.below h') (by omega)
  have hsv : z = if z < 0 then -(mv (canN z.natAbs)) else mv (canN z.natAbs) := by rw [mv_canN]; split <;> omega
  have hL := canN_lim z.natAbs
  have hmv := mv_canN z.natAbs
  obtain ⟨l, hl⟩ : ∃ l, l = canN z.natAbs := ⟨_, rfl⟩
  unfold LimOut at hm
  rw [← hl] at hm hsv hL hmv hlen
  have hx : ∀ x : Int, l[0]? = some x → x = (z.natAbs : Int) := fun x hx => by
    rcases l with _ | ⟨a, _ | ⟨b, l⟩⟩
    · simp at hx
    · simp only [List.getElem?_cons_zero, Option.some.injEq] at hx
      subst hx
      simp only [mv] at hmv
      omega
    · simp at hlen
  have h0 : l.length = 0 → mv l = 0 := fun h => by rw [List.length_eq_zero_iff.1 h]; rfl
  have h3 : l.length = 1 → mv l = (z.natAbs : Int) := fun _ => hmv
  have HM := Lib.hid hm
  have HSV := Lib.hid hsv
  have HX := Lib.hid hx
  have H0 := Lib.hid h0
  have H3 := Lib.hid h3
  clear h hz hm hsv hL hmv hl hx h0 h3 H
  by_cases hneg : z < 0
  all_goals
    have hb : decide (z < 0) = decide (z < 0) := rfl
    go_enter Try.func46, Try.ntmps46; (try simp only [List.append_eq, List.cons_append, List.nil_append])
    go_wp2_with fail
    -- own blocks: w.heap.size:2
    (go_at_call 64; refine (HM.out _ ((Below.refl _ _).alloc (Nat.le_refl _) _)).mono ?_; rintro e w1 ⟨hb_w1, A1, c1, rfl, hc1, hA1⟩; have hz_w1 := hb_w1.size; (try simp at hz_w1); (with_reducible apply cel2 (b := w.heap.size) hb_w1); (focus ((try simp) <;> omega)); (focus omega); (focus (go_simp; try exact rfl)); (focus (go_simp; try exact rfl)); (focus (intro o; go_simp)); intro cc cc fz hl)
    have HA := Lib.hid hA1
    have HB1 := Lib.hid (show Below w.heap.size w w1 by ((with_reducible (repeat (first | exact bR _ _ | refine bS ?_ ?_ _ | refine bA ?_ ?_ _ | refine bD ?_ | refine bT ?_ (by assumption) ?_ | refine bO (by assumption) ?_ ?_))) <;> (first | omega | (simp; done) | (simp <;> omega))))
    clear hc1 hA1 hb hb_w1
    go_wp2_with fail
    go_loop [5, 6, 7, 15] (fun vn _ _ vi => ∃ (k : Nat) (n : Int), k ≤ l.length ∧ vi = .int .i64 k ∧ vn = .int .i64 n ∧ Hid (n = mv (l.take k))) (fun _ _ _ vi => l.length - (intOf vi).toNat)
    case atStart => exact ⟨0, 0, by omega, rfl, rfl, Lib.hid (by simp [mv])⟩
    case round =>
      obtain ⟨k, n, hk, rfl, rfl, HN⟩ := hrel
      have i1 : (0 : Int) ≤ (k : Int) := by omega
      by_cases hkl : k < l.length
      · obtain rfl : k = 0 := by omega
        obtain ⟨x, hx⟩ : ∃ x, l[0]? = some x := ⟨l[0], by simp⟩
        obtain ⟨g, o, rfl, hg, hcell⟩ := HA.out 0 x hx
        have hxz := HX.out x hx
        have hn : n = 0 := HN.out
        subst hn
        have x0 : 0 ≤ x := by omega
        have x1 : x < 9223372036854775808 := by omega
        have HST := Lib.hid (show x = mv (l.take (0 + 1)) by rw [mv_take_succ hx]; simp [mv, PB])
        have j1 : (0 : Int) < (l.length : Int) := by omega
        have hor : bits .or .i64 0 x = x := by
          have := bits_join_low .i64 63 (by decide) wraps_i64' 0 0 x (by omega) (by simp) (by omega) x0 (by simp [Int.emod_one]) (by omega)
          rwa [Int.zero_add] at this
        simp only [Nat.add_zero] at hcell
        clear hx hxz
        go_wp2_with fail
        go_round
        case rel => exact ⟨1, x, by omega, by go_num, rfl, HST⟩
        case measure => simp [intOf]; omega
      · obtain rfl : k = l.length := by omega
        have hf : n = mv l := by rw [HN.out, List.take_length]
        have hsz := HSV.out
        have hn0 : n = if z < 0 then -z else z := by split <;> rename_i g <;> (first | rw [if_pos g] at hsz | rw [if_neg g] at hsz) <;> omega
        have j5 : ¬ (l.length : Int) < (l.length : Int) := by omega
        first
          | (rw [if_pos (show z < 0 by omega)] at hn0; subst hn0; clear hf hsz
             have e1 : - -z = z := Int.neg_neg z
             go_wp2_with fail
             go_ret
             exact ⟨rfl, HB1.out⟩)
          | (rw [if_neg (show ¬ z < 0 by omega)] at hn0; subst hn0; clear hf hsz
             go_wp2_with fail
             go_ret
             exact ⟨rfl, HB1.out⟩)
end Go.Proofs.Ytgejdaincnclpaa
namespace Go.Proofs.Ytgejdaincnclpaa
open Go Go.RowKit
set_option linter.unusedVariables false
/-- The number of binary digits. -/
def bitN (n : Nat) : Nat := if n = 0 then 0 else Nat.log2 n + 1
theorem bitN_of {n k : Nat} (h1 : 2 ^ k ≤ n) (h2 : n < 2 ^ (k + 1)) : bitN n = k + 1 := by
  have h0 : n ≠ 0 := by have := Nat.two_pow_pos k; omega
  unfold bitN
  rw [if_neg h0]
  have a := (Nat.le_log2 h0).2 h1
  have b := (Nat.log2_lt h0).2 h2
  omega
theorem bitN_limbs {x m : Nat} {t : Int} (hl : (canN x).length = m + 1) (ht : (canN x)[m]? = some t) : bitN x = 32 * m + Lib.bitLen t.toNat := by
  obtain ⟨t0, t1⟩ := (canN_lim x).get ht
  have tne : t ≠ 0 := canN_last x t (by rw [List.getLast?_eq_getElem?, hl]; exact ht)
  obtain ⟨T, rfl⟩ := Int.eq_ofNat_of_zero_le t0
  rw [Int.toNat_natCast]
  obtain ⟨a, b, c⟩ := Lib.bitLenAux_bounds 64 T (by omega) (by omega)
  have hL : Lib.bitLen T = Lib.bitLenAux 64 T := rfl
  rw [← hL] at a b c
  obtain ⟨L, hLL⟩ : ∃ L, L = Lib.bitLen T := ⟨_, rfl⟩
  rw [← hLL] at a b c ⊢
  have h1 := mv_split (canN x) m (by omega)
  have h2 := mv_drop_succ ht
  rw [List.drop_of_length_le (show (canN x).length ≤ m + 1 by omega), show mv ([] : List Int) = 0 from rfl, Int.mul_zero, Int.add_zero] at h2
  rw [mv_canN, h2] at h1
  have h3 := mv_lt ((canN_lim x).take m)
  rw [List.length_take, Nat.min_eq_left (by omega)] at h3
  have h4 := mv_nonneg ((canN_lim x).take m)
  have e : PB m = ((2 ^ (32 * m) : Nat) : Int) := by rw [Int.natCast_pow]; unfold PB; rw [show (4294967296 : Int) = 2 ^ 32 from rfl, ← Int.pow_mul]; rfl
  rw [e] at h1 h3
  obtain ⟨P, hP⟩ : ∃ P : Nat, P = 2 ^ (32 * m) := ⟨_, rfl⟩
  rw [← hP] at h1 h3
  obtain ⟨lo, hlo⟩ := Int.eq_ofNat_of_zero_le h4
  rw [hlo] at h1 h3
  have hx : x = lo + P * T := by exact_mod_cast h1
  have hlP : lo < P := by exact_mod_cast h3
  have e2 : bitN x = (32 * m + (L - 1)) + 1 := by
    apply bitN_of
    · rw [Nat.pow_add, ← hP, hx]
      have := Nat.mul_le_mul_left P b
      omega
    · rw [show 32 * m + (L - 1) + 1 = 32 * m + L by omega, Nat.pow_add, ← hP, hx]
      have h5 := Nat.mul_le_mul_left P (show T + 1 ≤ 2 ^ L by omega)
      rw [Nat.mul_add] at h5
      omega
  omega
set_option maxHeartbeats 2000000 in
theorem wbits_any (n : Nat) (v : Value) (z : Int) (w : World) (h : IsZ w v n z) (hn : n ≤ 400000) :
    Calls Try.prog 45 #[v] w fun e w' => e = .returned (.int .i64 (bitN z.natAbs)) ∧ Below w.heap.size w w' := by
  have H := Lib.hid h
  have la := isZ_len h
  obtain ⟨p, A, c, l, rfl⟩ := isZ_val h
  have hm := fun w' (h' : Below w.heap.size w w') => wlimbs_any n _ z w' (H.out.below h') (by omega)
  obtain ⟨x, hx⟩ : ∃ x, x = z.natAbs := ⟨_, rfl⟩
  unfold LimOut at hm
  rw [← hx] at hm la ⊢
  by_cases h0 : x = 0
  · have hl0 : canN x = [] := by rw [h0]; exact canN_zero
    have hb : bitN x = 0 := by rw [h0]; rfl
    rw [hb]
    rw [hl0] at hm
    have HM := Lib.hid hm
    clear h hm hx h0 hl0 hb
    go_enter Try.func45, Try.ntmps45; (try simp only [List.append_eq, List.cons_append, List.nil_append])
    go_wp2_with fail
    -- own blocks: w.heap.size:2
    (go_at_call 64; refine (HM.out _ ((Below.refl _ _).alloc (Nat.le_refl _) _)).mono ?_; rintro e w1 ⟨hb_w1, A1, c1, rfl, hc1, hA1⟩; have hz_w1 := hb_w1.size; (try simp at hz_w1); (with_reducible apply cel2 (b := w.heap.size) hb_w1); (focus ((try simp) <;> omega)); (focus omega); (focus (go_simp; try exact rfl)); (focus (go_simp; try exact rfl)); (focus (intro o; go_simp)); intro cc cc fz hl)
    clear hc1 hA1
    simp only [List.length_nil]
    go_wp2_with fail
    go_ret
    exact ⟨rfl, by ((with_reducible (repeat (first | exact bR _ _ | refine bS ?_ ?_ _ | refine bA ?_ ?_ _ | refine bD ?_ | refine bT ?_ (by assumption) ?_ | refine bO (by assumption) ?_ ?_))) <;> (first | omega | (simp; done) | (simp <;> omega)))⟩
  · obtain ⟨m, hml⟩ : ∃ m, (canN x).length = m + 1 := ⟨(canN x).length - 1, by have : (canN x).length ≠ 0 := fun e => h0 (canN_len0.1 e); omega⟩
    obtain ⟨t, ht⟩ : ∃ t, (canN x)[m]? = some t := ⟨(canN x)[m]'(by omega), by simp⟩
    obtain ⟨t0, t1⟩ := (canN_lim x).get ht
    have hb := bitN_limbs hml ht
    obtain ⟨B, hB⟩ : ∃ B, B = Lib.bitLen t.toNat := ⟨_, rfl⟩
    have hbl := fun w => Try.bits_Len32 t w t0 (by omega)
    rw [← hB] at hbl hb
    rw [hb]
    rw [hml] at hm la
    have hB32 : B ≤ 64 := by rw [hB]; exact Lib.bitLen_le _ _ (Nat.le_refl _) (by omega)
    have HM := Lib.hid hm
    have HBL := Lib.hid hbl
    have HT := Lib.hid ht
    clear h hm hx h0 hml hb hB hbl ht
    have e0 : ((((m + 1 : Nat) : Int)) == 0) = false := by rw [beq_eq_false_iff_ne]; omega
    have m0 : (0 : Int) ≤ (m : Int) := by omega
    have m1 : (m : Int) ≤ 400000 := by omega
    go_enter Try.func45, Try.ntmps45; (try simp only [List.append_eq, List.cons_append, List.nil_append])
    go_wp2_with fail
    -- own blocks: w.heap.size:2
    (go_at_call 64; refine (HM.out _ ((Below.refl _ _).alloc (Nat.le_refl _) _)).mono ?_; rintro e w1 ⟨hb_w1, A1, c1, rfl, hc1, hA1⟩; have hz_w1 := hb_w1.size; (try simp at hz_w1); (with_reducible apply cel2 (b := w.heap.size) hb_w1); (focus ((try simp) <;> omega)); (focus omega); (focus (go_simp; try exact rfl)); (focus (go_simp; try exact rfl)); (focus (intro o; go_simp)); intro cc cc fz hl)
    obtain ⟨g, o, rfl, hg, hcell⟩ := hA1 m t HT.out
    clear hc1 hA1
    go_wp2_with fail
    (go_at_call 57; refine (HBL.out _).mono ?_; rintro e w3 ⟨rfl, rfl⟩)
    go_wp2_with fail
    go_ret
    exact ⟨by first | rfl | (congr 2; omega) | (simp; done), by ((with_reducible (repeat (first | exact bR _ _ | refine bS ?_ ?_ _ | refine bA ?_ ?_ _ | refine bD ?_ | refine bT ?_ (by assumption) ?_ | refine bO (by assumption) ?_ ?_))) <;> (first | omega | (simp; done) | (simp <;> omega)))⟩
end Go.Proofs.Ytgejdaincnclpaa
namespace Go.Proofs.Ytgejdaincnclpaa
open Go Go.RowKit
set_option linter.unusedVariables false
set_option maxHeartbeats 2000000 in
theorem rwithin_wide (n : Int) (l : List V2) (A : Option Addr) (c : Nat) (w : World) (hl : l.length ≤ 1000000) (hV : VAt w A l) (n0 : 0 ≤ n) (n1 : n ≤ 2000000000) :
    Calls Try.prog 47 #[.int .i64 n, .slice A l.length c] w fun e w' => e = .returned (.bool (l.all (nearB n))) ∧ Below w.heap.size w w' := by
  have HV := Lib.hid hV
  obtain ⟨R, hR⟩ : ∃ R, R = l.all (nearB n) := ⟨_, rfl⟩
  rw [← hR]
  have HR := Lib.hid hR
  clear hV hR
  go_enter Try.func47, Try.ntmps47; (try simp only [List.append_eq, List.cons_append, List.nil_append])
  go_wp2_with fail
  go_loopw [9] (fun t wr => ∃ k : Nat, k ≤ l.length ∧ t = .int .i64 k ∧ Hid ((l.take k).all (nearB n) = true) ∧ Below w.heap.size w wr) (fun t _ => l.length - (intOf t).toNat)
  case atStart => exact ⟨0, by omega, rfl, Lib.hid rfl, Below.refl _ _⟩
  case round =>
    obtain ⟨k, hk, rfl, HA, hb_wr⟩ := hrel
    have hz_wr := hb_wr.size
    have HB := Lib.hid hb_wr
    have i1 : (0 : Int) ≤ (k : Int) := by omega
    by_cases hlt : k < l.length
    · obtain ⟨⟨a, b⟩, hx⟩ : ∃ x, l[k]? = some x := ⟨l[k], by simp⟩
      obtain ⟨g, o, rfl, hg, a0, a1⟩ := (HV.out.below HB.out (Nat.le_refl _)) k _ hx
      have hall := all_take_succ (p := nearB n) hx
      have HX := Lib.hid hx
      have HN := Lib.hid hall
      have i2 : (k : Int) < (l.length : Int) := by omega
      simp only at a0 a1
      clear hb_wr hx hall
      by_cases hin : -n ≤ a ∧ a ≤ n ∧ -n ≤ b ∧ b ≤ n
      · obtain ⟨j1, j2, j3, j4⟩ := hin
        have HN2 := Lib.hid (show (l.take (k + 1)).all (nearB n) = true by rw [HN.out, HA.out]; simp [nearB, withinB]; omega)
        go_wp2_with fail
        go_roundw
        case rel => exact ⟨k + 1, by omega, by go_num, HN2, HB.out.trans (show Below w.heap.size wr _ by ((with_reducible (repeat (first | exact bR _ _ | refine bS ?_ ?_ _ | refine bA ?_ ?_ _ | refine bD ?_ | refine bT ?_ (by assumption) ?_ | refine bO (by assumption) ?_ ?_))) <;> (first | omega | (simp; done) | (simp <;> omega))))⟩
        case measure => simp [intOf]; omega
      · have hfin : R = false := by
          rw [HR.out, List.all_eq_false]
          exact ⟨(a, b), List.mem_of_getElem? HX.out, by simp only [nearB, withinB, decide_eq_true_eq]; exact hin⟩
        subst hfin
        have h4 : a < -n ∨ (-n ≤ a ∧ n < a) ∨ (-n ≤ a ∧ a ≤ n ∧ b < -n) ∨ (-n ≤ a ∧ a ≤ n ∧ -n ≤ b ∧ n < b) := by omega
        clear hin
        rcases h4 with h4 | ⟨h4, h5⟩ | ⟨h4, h5, h6⟩ | ⟨h4, h5, h6, h7⟩
        all_goals
          go_wp2_with fail
          go_ret
          exact ⟨rfl, HB.out.trans (show Below w.heap.size wr _ by ((with_reducible (repeat (first | exact bR _ _ | refine bS ?_ ?_ _ | refine bA ?_ ?_ _ | refine bD ?_ | refine bT ?_ (by assumption) ?_ | refine bO (by assumption) ?_ ?_))) <;> (first | omega | (simp; done) | (simp <;> omega))))⟩
    · obtain rfl : k = l.length := by omega
      have hfin : R = true := by rw [HR.out]; have := HA.out; rwa [List.take_length] at this
      subst hfin
      clear hb_wr
      go_wp2_with fail
      go_ret
      exact ⟨rfl, HB.out⟩
theorem rwithin_one2 (n a b : Int) (g : Nat) (w : World) (n0 : 0 ≤ n) (n1 : n ≤ 2000000000) (hg : g < w.heap.size) (h0 : w.cell? ⟨g, 0, none⟩ = some (.int .i64 a)) (h1 : w.cell? ⟨g, 1, none⟩ = some (.int .i64 b)) :
    Calls Try.prog 47 #[.int .i64 n, .slice (some ⟨g, 0, none⟩) 1 1] w fun e w' => e = .returned (.bool (withinB a b n)) ∧ Below w.heap.size w w' := by
  have := rwithin_wide n [(a, b)] (some ⟨g, 0, none⟩) 1 w (by simp) (fun k x hx => by
    rcases k with _ | k
    · simp only [List.getElem?_cons_zero, Option.some.injEq] at hx
      subst hx
      exact ⟨g, 0, rfl, hg, by simpa using h0, by simpa using h1⟩
    · simp at hx) n0 n1
  simpa [nearB] using this
end Go.Proofs.Ytgejdaincnclpaa
namespace Go.Proofs.Ytgejdaincnclpaa
open Go Go.RowKit
set_option linter.unusedVariables false
theorem bitN_le {n k : Nat} (h : n < 2 ^ k) : bitN n ≤ k := by
  unfold bitN
  split
  · omega
  · rename_i h0
    have := (Nat.log2_lt h0).2 h
    omega
/-- A Ratio that Trunc takes. -/
structure Val (r : Int × Int × Int) : Prop where
  d : 0 < r.2.2
  lx : (canN r.1.natAbs).length ≤ 32
  ly : (canN r.2.1.natAbs).length ≤ 32
  ld : (canN r.2.2.natAbs).length ≤ 32
/-- An address leads to Ratios. -/
def RsAt (w : World) (A : Option Addr) (l : List (Int × Int × Int)) : Prop := ∀ k r, l[k]? = some r → ∃ g o, A = some ⟨g, o, none⟩ ∧ g < w.heap.size ∧ ∃ s1 A1 n1 c1 s2 A2 n2 c2 s3 A3 n3 c3,
  w.cell? ⟨g, o + k * 6, none⟩ = some (.bool s1) ∧ w.cell? ⟨g, o + k * 6 + 1, none⟩ = some (.slice A1 n1 c1) ∧ w.cell? ⟨g, o + k * 6 + 2, none⟩ = some (.bool s2) ∧ w.cell? ⟨g, o + k * 6 + 3, none⟩ = some (.slice A2 n2 c2) ∧ w.cell? ⟨g, o + k * 6 + 4, none⟩ = some (.bool s3) ∧ w.cell? ⟨g, o + k * 6 + 5, none⟩ = some (.slice A3 n3 c3) ∧
  RAt w (.agg #[.bool s1, .slice A1 n1 c1, .bool s2, .slice A2 n2 c2, .bool s3, .slice A3 n3 c3]) r.1 r.2.1 r.2.2
theorem RsAt.below {w w1 : World} {A : Option Addr} {l : List (Int × Int × Int)} (h : RsAt w A l) (hb : Below w.heap.size w w1) : RsAt w1 A l := by
  intro k r hr
  obtain ⟨g, o, h1, h2, s1, A1, n1, c1, s2, A2, n2, c2, s3, A3, n3, c3, e0, e1, e2, e3, e4, e5, hR⟩ := h k r hr
  refine ⟨g, o, h1, Nat.lt_of_lt_of_le h2 hb.size, s1, A1, n1, c1, s2, A2, n2, c2, s3, A3, n3, c3, ?_, ?_, ?_, ?_, ?_, ?_, hR.below hb⟩ <;> (rw [hb.cell h2]; assumption)
theorem lowR_bd {x y d : Int} {n : Nat} (hd : 0 < d) (lx : (canN x.natAbs).length ≤ n) (ly : (canN y.natAbs).length ≤ n) (ld : (canN d.natAbs).length ≤ n) :
    0 < (lowR x y d).2.2 ∧ (canN (lowR x y d).1.natAbs).length ≤ n ∧ (canN (lowR x y d).2.1.natAbs).length ≤ n ∧ (canN (lowR x y d).2.2.natAbs).length ≤ n := by
  have key : ∀ z g : Int, (canN z.natAbs).length ≤ n → (canN (z.tdiv g).natAbs).length ≤ n := fun z g h => Nat.le_trans (canN_mono (Int.natAbs_tdiv_le_natAbs z g)) h
  refine ⟨?_, key _ _ lx, key _ _ ly, key _ _ ld⟩
  unfold lowR lowG
  simp only
  have h1 : (Nat.gcd (Nat.gcd x.natAbs y.natAbs) d.natAbs : Int) ∣ d := by
    have : (Nat.gcd (Nat.gcd x.natAbs y.natAbs) d.natAbs) ∣ d.natAbs := Nat.gcd_dvd_right _ _
    exact Int.ofNat_dvd_left.2 this
  have h2 : 0 < (Nat.gcd (Nat.gcd x.natAbs y.natAbs) d.natAbs : Int) := by
    have : 0 < Nat.gcd (Nat.gcd x.natAbs y.natAbs) d.natAbs := Nat.gcd_pos_of_pos_right _ (by omega)
    omega
  rw [Int.tdiv_eq_ediv_of_nonneg (by omega)]
  exact Int.ediv_pos_of_pos_of_dvd hd (by omega) h1
def meanS (l : List (Int × Int × Int)) : Int × Int × Int := l.foldl sumR (0, 0, 1)
def meanR (l : List (Int × Int × Int)) : Int × Int := ((meanS l).1.tdiv ((meanS l).2.2 * l.length), (meanS l).2.1.tdiv ((meanS l).2.2 * l.length))
theorem meanS_take {l : List (Int × Int × Int)} {k : Nat} {r : Int × Int × Int} (h : l[k]? = some r) : meanS (l.take (k + 1)) = sumR (meanS (l.take k)) r := by
  unfold meanS
  rw [List.take_add_one, h, List.foldl_append]
  rfl
/-- What the loop holds: a sum of k Ratios. -/
structure SumOk (k : Nat) (s : Int × Int × Int) : Prop where
  d : 0 < s.2.2
  lx : (canN s.1.natAbs).length ≤ 33 * k + 1
  ly : (canN s.2.1.natAbs).length ≤ 33 * k + 1
  ld : (canN s.2.2.natAbs).length ≤ 33 * k + 1
theorem SumOk.zero : SumOk 0 (0, 0, 1) := ⟨by decide, by rw [show ((0, 0, 1) : Int × Int × Int).1.natAbs = 0 from rfl, canN_zero]; decide, by rw [show ((0, 0, 1) : Int × Int × Int).2.1.natAbs = 0 from rfl, canN_zero]; decide, canN_len.2 (by decide)⟩
theorem SumOk.step {k : Nat} {s r : Int × Int × Int} (h : SumOk k s) (hr : Val r) : SumOk (k + 1) (sumR s r) := by
  obtain ⟨d, lx, ly, ld⟩ := h
  obtain ⟨d2, lx2, ly2, ld2⟩ := hr
  have a := len_add (a := 33 * k + 1 + 32) (len_mul lx ld2) (len_up (len_mul lx2 ld) (by omega))
  have b := len_add (a := 33 * k + 1 + 32) (len_mul ly ld2) (len_up (len_mul ly2 ld) (by omega))
  have c := len_mul ld ld2
  obtain ⟨h1, h2, h3, h4⟩ := lowR_bd (n := 33 * (k + 1) + 1) (Int.mul_pos d d2) (len_up a (by omega)) (len_up b (by omega)) (len_up c (by omega))
  exact ⟨h1, h2, h3, h4⟩
set_option maxRecDepth 100000 in
set_option maxHeartbeats 20000000 in
theorem valid_yes (x y d : Int) (v : Value) (w : World) (hu : RAt w v x y d) (hv : Val (x, y, d)) :
    Calls Try.prog 42 #[v] w fun e w' => e = .returned (.bool true) ∧ Below w.heap.size w w' := by
  have h0 := hu
  obtain ⟨spx, Apx, npx, cpx, spy, Apy, npy, cpy, spd, Apd, npd, cpd, rfl⟩ := hu.val
  obtain ⟨hd, lx, ly, ld⟩ := hv
  simp only at hd lx ly ld
  have hs : sgn d = 1 := by unfold sgn; rw [if_neg (by omega), if_neg (by omega)]
  have k1 := fun v w h => wsign_any 32 v d w h (by omega)
  rw [hs] at k1
  obtain ⟨p, hp⟩ : ∃ p : Int, p = ((canN x.natAbs).length : Int) := ⟨_, rfl⟩
  obtain ⟨q, hq⟩ : ∃ q : Int, q = ((canN y.natAbs).length : Int) := ⟨_, rfl⟩
  obtain ⟨r, hr⟩ : ∃ r : Int, r = ((canN d.natAbs).length : Int) := ⟨_, rfl⟩
  have k2 := fun v w h => wsize_any 32 v x w h (by omega)
  have k3 := fun v w h => wsize_any 32 v y w h (by omega)
  have k4 := fun v w h => wsize_any 32 v d w h (by omega)
  rw [← hp] at k2
  rw [← hq] at k3
  rw [← hr] at k4
  have p1 : 0 ≤ p := by omega
  have p2 : p ≤ 32 := by omega
  have q1 : 0 ≤ q := by omega
  have q2 : q ≤ 32 := by omega
  have r1 : 0 ≤ r := by omega
  have r2 : r ≤ 32 := by omega
  have K1 := Lib.hid k1
  have K2 := Lib.hid k2
  have K3 := Lib.hid k3
  have K4 := Lib.hid k4
  have H0 := Lib.hid h0
  have LX := Lib.hid lx
  have LY := Lib.hid ly
  have LD := Lib.hid ld
  clear k1 k2 k3 k4 h0 hu lx ly ld hd hs hp hq hr
  have hcase : (p < q ∧ r ≤ q) ∨ (p < q ∧ ¬ r ≤ q) ∨ (¬ p < q ∧ r ≤ p) ∨ (¬ p < q ∧ ¬ r ≤ p) := by omega
  rcases hcase with ⟨g1, g2⟩ | ⟨g1, g2⟩ | ⟨g1, g2⟩ | ⟨g1, g2⟩
  all_goals
    -- names on
    go_enter Try.func42, Try.ntmps42; (try simp only [List.append_eq, List.cons_append, List.nil_append])
    go_wp2_with fail
    -- own blocks: w.heap.size:6
    (refine pin_wp (N := _) (Nat.le_refl _) (fun w4 hb_w4 hz_w4 => ?_); (try simp at hz_w4); (with_reducible apply cel6 (b := w.heap.size) hb_w4); (focus ((try simp) <;> omega)); (focus omega); (focus (go_simp; try exact rfl)); (focus (go_simp; try exact rfl)); (focus (go_simp; try exact rfl)); (focus (go_simp; try exact rfl)); (focus (go_simp; try exact rfl)); (focus (go_simp; try exact rfl)); (focus (intro o; go_simp)); intro c_w4_0_0 c_w4_0_1 c_w4_0_2 c_w4_0_3 c_w4_0_4 c_w4_0_5 fz_w4_0 hl_w4_0); refine wp_q (fun Q_ HQ_ => ?_); refine wp_region_floatQ w4.heap.size 18 [] (Nat.le_refl _) (fun _ => True) trivial Cl.tt (by kernel_rfl) (by kernel_rfl) ?_
    replace H0 := Lib.hid (RAt.below (v := .agg #[.bool spx, .slice Apx npx cpx, .bool spy, .slice Apy npy cpy, .bool spd, .slice Apd npd cpd]) (x := x) (y := y) (d := d) (by ((repeat (first | (with_reducible exact H0.out) | (with_reducible refine RAt.al ?_ _) | (with_reducible apply RAt.st1))) <;> (first | (with_reducible assumption) | (intro _ e; cases e; done) | (go_simp; first | done | exact rfl)))) hb_w4)
    have HB4 := Lib.hid (show Below w.heap.size w w4 by ((with_reducible (repeat (first | exact bR _ _ | refine bS ?_ ?_ _ | refine bA ?_ ?_ _ | refine bD ?_ | refine bT ?_ (by assumption) ?_ | refine bO (by assumption) ?_ ?_))) <;> (first | omega | (simp; done) | (simp <;> omega))))
    have hz4 : w.heap.size + 1 ≤ w4.heap.size := by omega
    clear hb_w4
    skip
    refine wpQI_start [0, 1] ?_; (iterate 2 (first | (refine wpQI_off (by with_reducible (refine List.getElem?_toArray.trans ?_; (repeat (first | exact List.getElem?_cons_zero | refine List.getElem?_cons_succ.trans ?_)))) (by kernel_rfl) (by exact rfl) (fun K hK => ?_); go_simp; refine hK _ ?_; clear hK K) | ((first | apply wpQI_step (by with_reducible (refine List.getElem?_toArray.trans ?_; (repeat (first | exact List.getElem?_cons_zero | refine List.getElem?_cons_succ.trans ?_)))) (by kernel_rfl) (by exact rfl) | apply wpQI_on (by with_reducible (refine List.getElem?_toArray.trans ?_; (repeat (first | exact List.getElem?_cons_zero | refine List.getElem?_cons_succ.trans ?_)))) (by kernel_rfl) (by exact rfl)); (focus (intro W' hS; have hcS := hS.cells.1; have hfS := hS.cells.2; go_simp; (first | done | exact rfl | exact ⟨rfl, Below.refl _ _⟩ | (go_simp; first | done | exact rfl | exact ⟨rfl, Below.refl _ _⟩)))); intro K hK; go_simp; (try go_bits); refine hK _ ?_; clear hK K))); refine wpQI_nil ?_
    apply wpQ_call (i := 2) (by with_reducible (refine List.getElem?_toArray.trans ?_; (repeat (first | exact List.getElem?_cons_zero | refine List.getElem?_cons_succ.trans ?_)))) (by kernel_rfl) (by exact rfl); intro W hF hS; have hcS := hS.1.cells.1; have hfS := hS.1.cells.2; go_simp; (go_at_call 67; refine (K1.out _ _ ((RAt.pd (H0.out.below hS.1.2)).zl LD.out)).mono ?_; rintro e w5 ⟨rfl, hb_w5⟩; refine XPost.mk _ (fun _ => True) hb_w5 (trivial) (Cl.tt) ?_); clear hb_w5 hcS hfS hS hF
    intro K hK; go_simp; (try go_bits); refine hK _ ?_; clear hK K
    refine wpQI_start [3, 4, 5, 6] ?_; (iterate 4 (first | (refine wpQI_off (by with_reducible (refine List.getElem?_toArray.trans ?_; (repeat (first | exact List.getElem?_cons_zero | refine List.getElem?_cons_succ.trans ?_)))) (by kernel_rfl) (by exact rfl) (fun K hK => ?_); go_simp; refine hK _ ?_; clear hK K) | ((first | apply wpQI_step (by with_reducible (refine List.getElem?_toArray.trans ?_; (repeat (first | exact List.getElem?_cons_zero | refine List.getElem?_cons_succ.trans ?_)))) (by kernel_rfl) (by exact rfl) | apply wpQI_on (by with_reducible (refine List.getElem?_toArray.trans ?_; (repeat (first | exact List.getElem?_cons_zero | refine List.getElem?_cons_succ.trans ?_)))) (by kernel_rfl) (by exact rfl)); (focus (intro W' hS; have hcS := hS.cells.1; have hfS := hS.cells.2; go_simp; (first | done | exact rfl | exact ⟨rfl, Below.refl _ _⟩ | (go_simp; first | done | exact rfl | exact ⟨rfl, Below.refl _ _⟩)))); intro K hK; go_simp; (try go_bits); refine hK _ ?_; clear hK K))); refine wpQI_nil ?_
    refine wpQI_start [8, 9] ?_; (iterate 2 (first | (refine wpQI_off (by with_reducible (refine List.getElem?_toArray.trans ?_; (repeat (first | exact List.getElem?_cons_zero | refine List.getElem?_cons_succ.trans ?_)))) (by kernel_rfl) (by exact rfl) (fun K hK => ?_); go_simp; refine hK _ ?_; clear hK K) | ((first | apply wpQI_step (by with_reducible (refine List.getElem?_toArray.trans ?_; (repeat (first | exact List.getElem?_cons_zero | refine List.getElem?_cons_succ.trans ?_)))) (by kernel_rfl) (by exact rfl) | apply wpQI_on (by with_reducible (refine List.getElem?_toArray.trans ?_; (repeat (first | exact List.getElem?_cons_zero | refine List.getElem?_cons_succ.trans ?_)))) (by kernel_rfl) (by exact rfl)); (focus (intro W' hS; have hcS := hS.cells.1; have hfS := hS.cells.2; go_simp; (first | done | exact rfl | exact ⟨rfl, Below.refl _ _⟩ | (go_simp; first | done | exact rfl | exact ⟨rfl, Below.refl _ _⟩)))); intro K hK; go_simp; (try go_bits); refine hK _ ?_; clear hK K))); refine wpQI_nil ?_
    refine wpQI_start [11, 12] ?_; (iterate 2 (first | (refine wpQI_off (by with_reducible (refine List.getElem?_toArray.trans ?_; (repeat (first | exact List.getElem?_cons_zero | refine List.getElem?_cons_succ.trans ?_)))) (by kernel_rfl) (by exact rfl) (fun K hK => ?_); go_simp; refine hK _ ?_; clear hK K) | ((first | apply wpQI_step (by with_reducible (refine List.getElem?_toArray.trans ?_; (repeat (first | exact List.getElem?_cons_zero | refine List.getElem?_cons_succ.trans ?_)))) (by kernel_rfl) (by exact rfl) | apply wpQI_on (by with_reducible (refine List.getElem?_toArray.trans ?_; (repeat (first | exact List.getElem?_cons_zero | refine List.getElem?_cons_succ.trans ?_)))) (by kernel_rfl) (by exact rfl)); (focus (intro W' hS; have hcS := hS.cells.1; have hfS := hS.cells.2; go_simp; (first | done | exact rfl | exact ⟨rfl, Below.refl _ _⟩ | (go_simp; first | done | exact rfl | exact ⟨rfl, Below.refl _ _⟩)))); intro K hK; go_simp; (try go_bits); refine hK _ ?_; clear hK K))); refine wpQI_nil ?_
    apply wpQ_call (i := 7) (by with_reducible (refine List.getElem?_toArray.trans ?_; (repeat (first | exact List.getElem?_cons_zero | refine List.getElem?_cons_succ.trans ?_)))) (by kernel_rfl) (by exact rfl); intro W hF hS; have hcS := hS.1.cells.1; have hfS := hS.1.cells.2; go_simp; (go_at_call 68; refine (K2.out _ _ ((RAt.px (H0.out.below hS.1.2)).zl LX.out)).mono ?_; rintro e w6 ⟨rfl, hb_w6⟩; refine XPost.mk _ (fun _ => True) hb_w6 (trivial) (Cl.tt) ?_); clear hb_w6 hcS hfS hS hF
    intro K hK; go_simp; (try go_bits); refine hK _ ?_; clear hK K
    apply wpQ_call (i := 10) (by with_reducible (refine List.getElem?_toArray.trans ?_; (repeat (first | exact List.getElem?_cons_zero | refine List.getElem?_cons_succ.trans ?_)))) (by kernel_rfl) (by exact rfl); intro W hF hS; have hcS := hS.1.cells.1; have hfS := hS.1.cells.2; go_simp; (go_at_call 68; refine (K3.out _ _ ((RAt.py (H0.out.below hS.1.2)).zl LY.out)).mono ?_; rintro e w7 ⟨rfl, hb_w7⟩; refine XPost.mk _ (fun _ => True) hb_w7 (trivial) (Cl.tt) ?_); clear hb_w7 hcS hfS hS hF
    intro K hK; go_simp; (try go_bits); refine hK _ ?_; clear hK K
    apply wpQ_call (i := 13) (by with_reducible (refine List.getElem?_toArray.trans ?_; (repeat (first | exact List.getElem?_cons_zero | refine List.getElem?_cons_succ.trans ?_)))) (by kernel_rfl) (by exact rfl); intro W hF hS; have hcS := hS.1.cells.1; have hfS := hS.1.cells.2; go_simp; (go_at_call 68; refine (K4.out _ _ ((RAt.pd (H0.out.below hS.1.2)).zl LD.out)).mono ?_; rintro e w8 ⟨rfl, hb_w8⟩; refine XPost.mk _ (fun _ => True) hb_w8 (trivial) (Cl.tt) ?_); clear hb_w8 hcS hfS hS hF
    intro K hK; go_simp; (try go_bits); refine hK _ ?_; clear hK K
    refine wpQI_start [14, 15, 16, 17] ?_; (iterate 4 (first | (refine wpQI_off (by with_reducible (refine List.getElem?_toArray.trans ?_; (repeat (first | exact List.getElem?_cons_zero | refine List.getElem?_cons_succ.trans ?_)))) (by kernel_rfl) (by exact rfl) (fun K hK => ?_); go_simp; refine hK _ ?_; clear hK K) | ((first | apply wpQI_step (by with_reducible (refine List.getElem?_toArray.trans ?_; (repeat (first | exact List.getElem?_cons_zero | refine List.getElem?_cons_succ.trans ?_)))) (by kernel_rfl) (by exact rfl) | apply wpQI_on (by with_reducible (refine List.getElem?_toArray.trans ?_; (repeat (first | exact List.getElem?_cons_zero | refine List.getElem?_cons_succ.trans ?_)))) (by kernel_rfl) (by exact rfl)); (focus (intro W' hS; have hcS := hS.cells.1; have hfS := hS.cells.2; go_simp; (first | done | exact rfl | exact ⟨rfl, Below.refl _ _⟩ | (go_simp; first | done | exact rfl | exact ⟨rfl, Below.refl _ _⟩)))); intro K hK; go_simp; (try go_bits); refine hK _ ?_; clear hK K))); refine wpQI_nil ?_
    refine wpQ_done (by kernel_rfl) ?_
    intro w9 hF_w9 hSG
    have hz_w9 := hSG.1.1
    have hb_w9 := hSG.1.2
    clear hSG
    (with_reducible apply cel6 (b := w.heap.size) hb_w9); (focus ((try simp) <;> omega)); (focus omega); (focus (go_simp; try exact rfl)); (focus (go_simp; try exact rfl)); (focus (go_simp; try exact rfl)); (focus (go_simp; try exact rfl)); (focus (go_simp; try exact rfl)); (focus (go_simp; try exact rfl)); (focus (intro o; go_simp)); intro c_w9_0_0 c_w9_0_1 c_w9_0_2 c_w9_0_3 c_w9_0_4 c_w9_0_5 fz_w9_0 hl_w9_0
    (try simp only [List.filterMap_nil])
    clear H0
    have HB9 := Lib.hid (HB4.out.trans (hb_w9.mono (by have := HB4.out.size; omega)))
    have hz9 : w.heap.size + 1 ≤ w9.heap.size := by omega
    clear hF_w9 hb_w9
    clear c_w4_0_0 c_w4_0_1 c_w4_0_2 c_w4_0_3 c_w4_0_4 c_w4_0_5 fz_w4_0 hl_w4_0
    go_wp2_with fail
    refine HQ_.out _ _ _ ?_
    clear HQ_ Q_
    go_wp2_with fail
    -- own blocks: 
    refine bodyPost_ret (v := .bool true) (by simp only [results, Try.results42]; go_simp) rfl ⟨?_, ?_⟩
    · rfl
    · have hB := HB9.out; ((with_reducible (repeat (first | exact bR _ _ | refine bS ?_ ?_ _ | refine bA ?_ ?_ _ | refine bD ?_ | refine bT ?_ (by assumption) ?_ | refine bO (by assumption) ?_ ?_))) <;> (first | omega | (simp; done) | (simp <;> omega)))
set_option maxRecDepth 100000 in
set_option maxHeartbeats 20000000 in
theorem trunc_ok (l : List (Int × Int × Int)) (A : Option Addr) (c : Nat) (w : World) (hl1 : 1 ≤ l.length) (hl : l.length ≤ 16) (hV : RsAt w A l) (hok : ∀ r ∈ l, Val r) (hm : withinB (meanR l).1 (meanR l).2 1073741824 = true) :
    Calls Try.prog 26 #[.slice A l.length c] w fun e w' => e = .returned (.tuple #[.agg #[.int .i64 (meanR l).1, .int .i64 (meanR l).2], .bool true]) ∧ Below w.heap.size w w' := by
  have HV := Lib.hid hV
  have HO := Lib.hid hok
  have ko := fun w => wof_any 1 w (by omega) (by omega)
  obtain ⟨U, hU⟩ : ∃ U : Int, U = 1 := ⟨_, rfl⟩
  have ko2 := fun w => ((by have := wof_any 1 w (by omega) (by omega); rw [hU]; exact this) : Calls Try.prog 41 #[.int .i64 1] w (ZOut U w))
  have KO := Lib.hid ko2
  have HU := Lib.hid hU
  obtain ⟨x, hm1⟩ : ∃ x, x = (meanR l).1 := ⟨_, rfl⟩
  obtain ⟨y, hm2⟩ : ∃ y, y = (meanR l).2 := ⟨_, rfl⟩
  rw [← hm1, ← hm2] at hm ⊢
  have HM := Lib.hid hm
  have HM1 := Lib.hid hm1
  have HM2 := Lib.hid hm2
  have n1 : ((l.length : Int) == 0) = false := by rw [beq_eq_false_iff_ne]; omega
  have n2 : (l.length : Int) ≤ 16 := by omega
  clear hV hok ko ko2 hU hm hm1 hm2
  -- names on
  go_enter Try.func26, Try.ntmps26; (try simp only [List.append_eq, List.cons_append, List.nil_append])
  go_wp2_with fail
  -- own blocks: w.heap.size:2
  (go_at_call 41; refine (KO.out _).mono ?_; rintro e w101 ⟨hb_w101, v1, rfl, hv1⟩; have hz_w101 := hb_w101.size; (try simp at hz_w101); (with_reducible apply cel2 (b := w.heap.size) hb_w101); (focus ((try simp) <;> omega)); (focus omega); (focus (go_simp; try exact rfl)); (focus (go_simp; try exact rfl)); (focus (intro o; go_simp)); intro c_w101_0_0 c_w101_0_1 fz_w101_0 hl_w101_0)
  obtain ⟨s1, A1, n1', c1, rfl⟩ := IsC.val hv1
  have HI1 := Lib.hid hv1
  have HB101 := Lib.hid (show Below w.heap.size w w101 by ((with_reducible (repeat (first | exact bR _ _ | refine bS ?_ ?_ _ | refine bA ?_ ?_ _ | refine bD ?_ | refine bT ?_ (by assumption) ?_ | refine bO (by assumption) ?_ ?_))) <;> (first | omega | (simp; done) | (simp <;> omega))))
  have hz101 : w.heap.size + 1 ≤ w101.heap.size := by omega
  clear hb_w101 hv1
  go_wp2_with fail
  go_loopw [6, 26] (fun _ vi wr => ∃ (k : Nat) (X Y D : Int) (sSx : Bool) (ASx : Option Addr) (nSx cSx : Nat) (sSy : Bool) (ASy : Option Addr) (nSy cSy : Nat) (sSd : Bool) (ASd : Option Addr) (nSd cSd : Nat),
      k ≤ l.length ∧ vi = .int .i64 k ∧ Below w101.heap.size w101 wr ∧ wr.cell? ⟨w101.heap.size, 0, none⟩ = some (.bool sSx) ∧ wr.cell? ⟨w101.heap.size, 1, none⟩ = some (.slice ASx nSx cSx) ∧ wr.cell? ⟨w101.heap.size, 2, none⟩ = some (.bool sSy) ∧ wr.cell? ⟨w101.heap.size, 3, none⟩ = some (.slice ASy nSy cSy) ∧ wr.cell? ⟨w101.heap.size, 4, none⟩ = some (.bool sSd) ∧ wr.cell? ⟨w101.heap.size, 5, none⟩ = some (.slice ASd nSd cSd) ∧ (∀ o, wr.frozen? ⟨w101.heap.size, o, none⟩ = false) ∧ w101.heap.size + 1 ≤ wr.heap.size ∧
      RAt wr (.agg #[.bool sSx, .slice ASx nSx cSx, .bool sSy, .slice ASy nSy cSy, .bool sSd, .slice ASd nSd cSd]) X Y D ∧ Hid ((X, Y, D) = meanS (l.take k) ∧ SumOk k (X, Y, D))) (fun _ vi _ => l.length - (intOf vi).toNat)
  case atStart =>
    have hu : U = 1 := HU.out
    refine ⟨0, 0, 0, 1, false, none, 0, 0, false, none, 0, 0, s1, A1, n1', c1, by omega, rfl, by ((with_reducible (repeat (first | exact bR _ _ | refine bS ?_ ?_ _ | refine bA ?_ ?_ _ | refine bD ?_ | refine bT ?_ (by assumption) ?_ | refine bO (by assumption) ?_ ?_))) <;> (first | omega | (simp; done) | (simp <;> omega))), by go_simp, by go_simp, by go_simp, by go_simp, by go_simp, by go_simp, by intro o; go_simp, by (try simp) <;> omega, ?_, Lib.hid ⟨rfl, SumOk.zero⟩⟩
    have h1 := HI1.out
    rw [hu] at h1
    exact ⟨_, _, _, _, _, _, _, _, _, _, _, _, rfl, isC_zero _, isC_zero _, h1.below (by ((with_reducible (repeat (first | exact bR _ _ | refine bS ?_ ?_ _ | refine bA ?_ ?_ _ | refine bD ?_ | refine bT ?_ (by assumption) ?_ | refine bO (by assumption) ?_ ?_))) <;> (first | omega | (simp; done) | (simp <;> omega))))⟩
  case round =>
    obtain ⟨k, X, Y, D, sSx, ASx, nSx, cSx, sSy, ASy, nSy, cSy, sSd, ASd, nSd, cSd, hk, rfl, hb_wr, c0, c1_, c2, c3, c4, c5, fzS, hzS, hS, HN⟩ := hrel
    have HS := Lib.hid hS
    have HBR := Lib.hid hb_wr
    have hz_wr := hb_wr.size
    have hlS : w101.heap.size < wr.heap.size ∧ w101.heap.size < wr.heap.size + 1 ∧ w101.heap.size < wr.heap.size + 1 + 1 ∧ w101.heap.size < wr.heap.size + 1 + 1 + 1 := by omega
    have hzR : w.heap.size + 1 ≤ wr.heap.size := by omega
    -- own blocks: w.heap.size:2
    (with_reducible apply cel2 (b := w.heap.size) hb_wr); (focus ((try simp) <;> omega)); (focus omega); (focus (go_simp; try exact rfl)); (focus (go_simp; try exact rfl)); (focus (intro o; go_simp)); intro c_wr_0_0 c_wr_0_1 fz_wr_0 hl_wr_0
    clear hb_wr hS
    clear c_w101_0_0 c_w101_0_1 fz_w101_0 hl_w101_0
    have i1 : (0 : Int) ≤ (k : Int) := by omega
    obtain ⟨hsd, hsx, hsy, hsl⟩ := HN.out.2
    simp only at hsd hsx hsy hsl
    have hk16 : 33 * k + 1 ≤ 600 := by omega
    have LX := Lib.hid (len_up hsx hk16)
    have LY := Lib.hid (len_up hsy hk16)
    have LD := Lib.hid (len_up hsl hk16)
    by_cases hlt : k < l.length
    · obtain ⟨⟨x, y, d⟩, hx⟩ : ∃ x, l[k]? = some x := ⟨l[k], by simp⟩
      obtain ⟨g, o, rfl, hg, sEx, AEx, nEx, cEx, sEy, AEy, nEy, cEy, sEd, AEd, nEd, cEd, e0, e1, e2, e3, e4, e5, hE⟩ := (HV.out.below (HB101.out.trans (HBR.out.mono (by omega)))) k _ hx
      have hval := HO.out _ (List.mem_of_getElem? hx)
      have HX := Lib.hid hx
      have hN2 : (sumR (X, Y, D) (x, y, d)) = meanS (l.take (k + 1)) ∧ SumOk (k + 1) (sumR (X, Y, D) (x, y, d)) := ⟨by rw [meanS_take hx, ← HN.out.1], HN.out.2.step hval⟩
      have HE := Lib.hid hE
      simp only at hE
      have i2 : (k : Int) < (l.length : Int) := by omega
      have kv := fun v w h => valid_yes x y d v w h hval
      obtain ⟨hd, hlx, hly, hld⟩ := hval
      simp only at hd hlx hly hld
      have Lx := Lib.hid (len_up hlx (show 32 ≤ 600 by omega))
      have Ly := Lib.hid (len_up hly (show 32 ≤ 600 by omega))
      have Ld := Lib.hid (len_up hld (show 32 ≤ 600 by omega))
      have l1 := len_mul LX.out Ld.out
      have l2 := len_mul Lx.out LD.out
      have l3 := len_add l1 l2
      have l4 := len_mul LY.out Ld.out
      have l5 := len_mul Ly.out LD.out
      have l6 := len_add l4 l5
      have l7 := len_mul LD.out Ld.out
      have hdd : D * d ≠ 0 := Int.ne_of_gt (Int.mul_pos hsd hd)
      have k1 := fun u v w h1 h2 => wmul_any 600 u v X d w h1 h2 (by omega)
      have k2 := fun u v w h1 h2 => wmul_any 600 u v x D w h1 h2 (by omega)
      have k3 := fun u v w h1 h2 => wadd_any (600 + 600) u v (X * d) (x * D) w h1 h2 (by omega)
      have k4 := fun u v w h1 h2 => wmul_any 600 u v Y d w h1 h2 (by omega)
      have k5 := fun u v w h1 h2 => wmul_any 600 u v y D w h1 h2 (by omega)
      have k6 := fun u v w h1 h2 => wadd_any (600 + 600) u v (Y * d) (y * D) w h1 h2 (by omega)
      have k7 := fun u v w h1 h2 => wmul_any 600 u v D d w h1 h2 (by omega)
      have k8 := fun v w h => lowest_any (X * d + x * D) (Y * d + y * D) (D * d) v w h hdd (by omega) (by omega) (by omega)
      unfold sumR lowR at hN2
      simp only at hN2
      generalize (X * d + x * D).tdiv (lowG (X * d + x * D) (Y * d + y * D) (D * d)) = R1 at *
      generalize (Y * d + y * D).tdiv (lowG (X * d + x * D) (Y * d + y * D) (D * d)) = R2 at *
      generalize (D * d).tdiv (lowG (X * d + x * D) (Y * d + y * D) (D * d)) = R3 at *
      generalize X * d = P1 at *
      generalize x * D = P2 at *
      generalize Y * d = Q1 at *
      generalize y * D = Q2 at *
      generalize P1 + P2 = P at *
      generalize Q1 + Q2 = Q at *
      generalize D * d = E1 at *
      have HN2 := Lib.hid hN2
      have KV := Lib.hid kv
      have K1 := Lib.hid k1
      have K2 := Lib.hid k2
      have K3 := Lib.hid k3
      have K4 := Lib.hid k4
      have K5 := Lib.hid k5
      have K6 := Lib.hid k6
      have K7 := Lib.hid k7
      have K8 := Lib.hid k8
      have L1 := Lib.hid l1
      have L2 := Lib.hid l2
      have L4 := Lib.hid l4
      have L5 := Lib.hid l5
      clear kv k1 k2 k3 k4 k5 k6 k7 k8 l1 l2 l3 l4 l5 l6 l7 hN2 hE hx hdd hsd hsx hsy hsl hd hlx hly hld HX
      -- names on
      go_wp2_with fail
      -- own blocks: w.heap.size:2, w101.heap.size:6, wr.heap.size:6
      (go_at_call 42; refine (KV.out _ _ ((show RAt _ (.agg #[.bool sEx, .slice AEx nEx cEx, .bool sEy, .slice AEy nEy cEy, .bool sEd, .slice AEd nEd cEd]) (x) (y) (d) by ((repeat (first | (with_reducible exact HE.out) | (with_reducible refine RAt.al ?_ _) | (with_reducible apply RAt.st1))) <;> (first | (with_reducible assumption) | (intro _ e; cases e; done) | (go_simp; first | done | exact rfl)))))).mono ?_; rintro e w201 ⟨rfl, hb_w201⟩; have hz_w201 := hb_w201.size; (try simp at hz_w201); (with_reducible apply cel2 (b := w.heap.size) hb_w201); (focus ((try simp) <;> omega)); (focus omega); (focus (go_simp; try exact rfl)); (focus (go_simp; try exact rfl)); (focus (intro o; go_simp)); intro c_w201_0_0 c_w201_0_1 fz_w201_0 hl_w201_0; (with_reducible apply cel6 (b := w101.heap.size) hb_w201); (focus ((try simp) <;> omega)); (focus omega); (focus (go_simp; try exact rfl)); (focus (go_simp; try exact rfl)); (focus (go_simp; try exact rfl)); (focus (go_simp; try exact rfl)); (focus (go_simp; try exact rfl)); (focus (go_simp; try exact rfl)); (focus (intro o; go_simp)); intro c_w201_1_0 c_w201_1_1 c_w201_1_2 c_w201_1_3 c_w201_1_4 c_w201_1_5 fz_w201_1 hl_w201_1; (with_reducible apply cel6 (b := wr.heap.size) hb_w201); (focus ((try simp) <;> omega)); (focus omega); (focus (go_simp; try exact rfl)); (focus (go_simp; try exact rfl)); (focus (go_simp; try exact rfl)); (focus (go_simp; try exact rfl)); (focus (go_simp; try exact rfl)); (focus (go_simp; try exact rfl)); (focus (intro o; go_simp)); intro c_w201_2_0 c_w201_2_1 c_w201_2_2 c_w201_2_3 c_w201_2_4 c_w201_2_5 fz_w201_2 hl_w201_2)
      replace HS := Lib.hid (RAt.below (v := .agg #[.bool sSx, .slice ASx nSx cSx, .bool sSy, .slice ASy nSy cSy, .bool sSd, .slice ASd nSd cSd]) (x := X) (y := Y) (d := D) (by ((repeat (first | (with_reducible exact HS.out) | (with_reducible refine RAt.al ?_ _) | (with_reducible apply RAt.st1))) <;> (first | (with_reducible assumption) | (intro _ e; cases e; done) | (go_simp; first | done | exact rfl)))) hb_w201)
      replace HE := Lib.hid (RAt.below (v := .agg #[.bool sEx, .slice AEx nEx cEx, .bool sEy, .slice AEy nEy cEy, .bool sEd, .slice AEd nEd cEd]) (x := x) (y := y) (d := d) (by ((repeat (first | (with_reducible exact HE.out) | (with_reducible refine RAt.al ?_ _) | (with_reducible apply RAt.st1))) <;> (first | (with_reducible assumption) | (intro _ e; cases e; done) | (go_simp; first | done | exact rfl)))) hb_w201)
      have HB201 := Lib.hid (show Below w101.heap.size w101 w201 by have hB := HBR.out; ((with_reducible (repeat (first | exact bR _ _ | refine bS ?_ ?_ _ | refine bA ?_ ?_ _ | refine bD ?_ | refine bT ?_ (by assumption) ?_ | refine bO (by assumption) ?_ ?_))) <;> (first | omega | (simp; done) | (simp <;> omega))))
      have hz201 : w.heap.size + 1 ≤ w201.heap.size := by omega
      clear hb_w201
      skip
      go_wp2_with fail
      -- own blocks: w.heap.size:2, w101.heap.size:6, wr.heap.size:6
      (refine pin_wp (N := _) (Nat.le_refl _) (fun w202 hb_w202 hz_w202 => ?_); (try simp at hz_w202); (with_reducible apply cel2 (b := w.heap.size) hb_w202); (focus ((try simp) <;> omega)); (focus omega); (focus (go_simp; try exact rfl)); (focus (go_simp; try exact rfl)); (focus (intro o; go_simp)); intro c_w202_0_0 c_w202_0_1 fz_w202_0 hl_w202_0; (with_reducible apply cel6 (b := w101.heap.size) hb_w202); (focus ((try simp) <;> omega)); (focus omega); (focus (go_simp; try exact rfl)); (focus (go_simp; try exact rfl)); (focus (go_simp; try exact rfl)); (focus (go_simp; try exact rfl)); (focus (go_simp; try exact rfl)); (focus (go_simp; try exact rfl)); (focus (intro o; go_simp)); intro c_w202_1_0 c_w202_1_1 c_w202_1_2 c_w202_1_3 c_w202_1_4 c_w202_1_5 fz_w202_1 hl_w202_1; (with_reducible apply cel6 (b := wr.heap.size) hb_w202); (focus ((try simp) <;> omega)); (focus omega); (focus (go_simp; try exact rfl)); (focus (go_simp; try exact rfl)); (focus (go_simp; try exact rfl)); (focus (go_simp; try exact rfl)); (focus (go_simp; try exact rfl)); (focus (go_simp; try exact rfl)); (focus (intro o; go_simp)); intro c_w202_2_0 c_w202_2_1 c_w202_2_2 c_w202_2_3 c_w202_2_4 c_w202_2_5 fz_w202_2 hl_w202_2); refine wp_q (fun Q_ HQ_ => ?_); refine wp_region_floatQ w202.heap.size 29 [29] (Nat.le_refl _) (fun _ => True) trivial Cl.tt (by kernel_rfl) (by kernel_rfl) ?_
      replace HS := Lib.hid (RAt.below (v := .agg #[.bool sSx, .slice ASx nSx cSx, .bool sSy, .slice ASy nSy cSy, .bool sSd, .slice ASd nSd cSd]) (x := X) (y := Y) (d := D) (by ((repeat (first | (with_reducible exact HS.out) | (with_reducible refine RAt.al ?_ _) | (with_reducible apply RAt.st1))) <;> (first | (with_reducible assumption) | (intro _ e; cases e; done) | (go_simp; first | done | exact rfl)))) hb_w202)
      replace HE := Lib.hid (RAt.below (v := .agg #[.bool sEx, .slice AEx nEx cEx, .bool sEy, .slice AEy nEy cEy, .bool sEd, .slice AEd nEd cEd]) (x := x) (y := y) (d := d) (by ((repeat (first | (with_reducible exact HE.out) | (with_reducible refine RAt.al ?_ _) | (with_reducible apply RAt.st1))) <;> (first | (with_reducible assumption) | (intro _ e; cases e; done) | (go_simp; first | done | exact rfl)))) hb_w202)
      have HB202 := Lib.hid (show Below w101.heap.size w101 w202 by have hB := HB201.out; ((with_reducible (repeat (first | exact bR _ _ | refine bS ?_ ?_ _ | refine bA ?_ ?_ _ | refine bD ?_ | refine bT ?_ (by assumption) ?_ | refine bO (by assumption) ?_ ?_))) <;> (first | omega | (simp; done) | (simp <;> omega))))
      have hz202 : w.heap.size + 1 ≤ w202.heap.size := by omega
      clear hb_w202
      clear c_w201_0_0 c_w201_0_1 fz_w201_0 hl_w201_0 c_w201_1_0 c_w201_1_1 c_w201_1_2 c_w201_1_3 c_w201_1_4 c_w201_1_5 fz_w201_1 hl_w201_1 c_w201_2_0 c_w201_2_1 c_w201_2_2 c_w201_2_3 c_w201_2_4 c_w201_2_5 fz_w201_2 hl_w201_2
      refine wpQI_start [0, 1, 2, 3] ?_; (iterate 4 (first | (refine wpQI_off (by with_reducible (refine List.getElem?_toArray.trans ?_; (repeat (first | exact List.getElem?_cons_zero | refine List.getElem?_cons_succ.trans ?_)))) (by kernel_rfl) (by exact rfl) (fun K hK => ?_); go_simp; refine hK _ ?_; clear hK K) | ((first | apply wpQI_step (by with_reducible (refine List.getElem?_toArray.trans ?_; (repeat (first | exact List.getElem?_cons_zero | refine List.getElem?_cons_succ.trans ?_)))) (by kernel_rfl) (by exact rfl) | apply wpQI_on (by with_reducible (refine List.getElem?_toArray.trans ?_; (repeat (first | exact List.getElem?_cons_zero | refine List.getElem?_cons_succ.trans ?_)))) (by kernel_rfl) (by exact rfl)); (focus (intro W' hS; have hcS := hS.cells.1; have hfS := hS.cells.2; go_simp; (first | done | exact rfl | exact ⟨rfl, Below.refl _ _⟩ | (go_simp; first | done | exact rfl | exact ⟨rfl, Below.refl _ _⟩)))); intro K hK; go_simp; (try go_bits); refine hK _ ?_; clear hK K))); refine wpQI_nil ?_
      refine wpQI_start [5, 6, 7, 8] ?_; (iterate 4 (first | (refine wpQI_off (by with_reducible (refine List.getElem?_toArray.trans ?_; (repeat (first | exact List.getElem?_cons_zero | refine List.getElem?_cons_succ.trans ?_)))) (by kernel_rfl) (by exact rfl) (fun K hK => ?_); go_simp; refine hK _ ?_; clear hK K) | ((first | apply wpQI_step (by with_reducible (refine List.getElem?_toArray.trans ?_; (repeat (first | exact List.getElem?_cons_zero | refine List.getElem?_cons_succ.trans ?_)))) (by kernel_rfl) (by exact rfl) | apply wpQI_on (by with_reducible (refine List.getElem?_toArray.trans ?_; (repeat (first | exact List.getElem?_cons_zero | refine List.getElem?_cons_succ.trans ?_)))) (by kernel_rfl) (by exact rfl)); (focus (intro W' hS; have hcS := hS.cells.1; have hfS := hS.cells.2; go_simp; (first | done | exact rfl | exact ⟨rfl, Below.refl _ _⟩ | (go_simp; first | done | exact rfl | exact ⟨rfl, Below.refl _ _⟩)))); intro K hK; go_simp; (try go_bits); refine hK _ ?_; clear hK K))); refine wpQI_nil ?_
      refine wpQI_start [11, 12, 13, 14] ?_; (iterate 4 (first | (refine wpQI_off (by with_reducible (refine List.getElem?_toArray.trans ?_; (repeat (first | exact List.getElem?_cons_zero | refine List.getElem?_cons_succ.trans ?_)))) (by kernel_rfl) (by exact rfl) (fun K hK => ?_); go_simp; refine hK _ ?_; clear hK K) | ((first | apply wpQI_step (by with_reducible (refine List.getElem?_toArray.trans ?_; (repeat (first | exact List.getElem?_cons_zero | refine List.getElem?_cons_succ.trans ?_)))) (by kernel_rfl) (by exact rfl) | apply wpQI_on (by with_reducible (refine List.getElem?_toArray.trans ?_; (repeat (first | exact List.getElem?_cons_zero | refine List.getElem?_cons_succ.trans ?_)))) (by kernel_rfl) (by exact rfl)); (focus (intro W' hS; have hcS := hS.cells.1; have hfS := hS.cells.2; go_simp; (first | done | exact rfl | exact ⟨rfl, Below.refl _ _⟩ | (go_simp; first | done | exact rfl | exact ⟨rfl, Below.refl _ _⟩)))); intro K hK; go_simp; (try go_bits); refine hK _ ?_; clear hK K))); refine wpQI_nil ?_
      refine wpQI_start [16, 17, 18, 19] ?_; (iterate 4 (first | (refine wpQI_off (by with_reducible (refine List.getElem?_toArray.trans ?_; (repeat (first | exact List.getElem?_cons_zero | refine List.getElem?_cons_succ.trans ?_)))) (by kernel_rfl) (by exact rfl) (fun K hK => ?_); go_simp; refine hK _ ?_; clear hK K) | ((first | apply wpQI_step (by with_reducible (refine List.getElem?_toArray.trans ?_; (repeat (first | exact List.getElem?_cons_zero | refine List.getElem?_cons_succ.trans ?_)))) (by kernel_rfl) (by exact rfl) | apply wpQI_on (by with_reducible (refine List.getElem?_toArray.trans ?_; (repeat (first | exact List.getElem?_cons_zero | refine List.getElem?_cons_succ.trans ?_)))) (by kernel_rfl) (by exact rfl)); (focus (intro W' hS; have hcS := hS.cells.1; have hfS := hS.cells.2; go_simp; (first | done | exact rfl | exact ⟨rfl, Below.refl _ _⟩ | (go_simp; first | done | exact rfl | exact ⟨rfl, Below.refl _ _⟩)))); intro K hK; go_simp; (try go_bits); refine hK _ ?_; clear hK K))); refine wpQI_nil ?_
      refine wpQI_start [22, 23, 24, 25] ?_; (iterate 4 (first | (refine wpQI_off (by with_reducible (refine List.getElem?_toArray.trans ?_; (repeat (first | exact List.getElem?_cons_zero | refine List.getElem?_cons_succ.trans ?_)))) (by kernel_rfl) (by exact rfl) (fun K hK => ?_); go_simp; refine hK _ ?_; clear hK K) | ((first | apply wpQI_step (by with_reducible (refine List.getElem?_toArray.trans ?_; (repeat (first | exact List.getElem?_cons_zero | refine List.getElem?_cons_succ.trans ?_)))) (by kernel_rfl) (by exact rfl) | apply wpQI_on (by with_reducible (refine List.getElem?_toArray.trans ?_; (repeat (first | exact List.getElem?_cons_zero | refine List.getElem?_cons_succ.trans ?_)))) (by kernel_rfl) (by exact rfl)); (focus (intro W' hS; have hcS := hS.cells.1; have hfS := hS.cells.2; go_simp; (first | done | exact rfl | exact ⟨rfl, Below.refl _ _⟩ | (go_simp; first | done | exact rfl | exact ⟨rfl, Below.refl _ _⟩)))); intro K hK; go_simp; (try go_bits); refine hK _ ?_; clear hK K))); refine wpQI_nil ?_
      apply wpQ_call (i := 4) (by with_reducible (refine List.getElem?_toArray.trans ?_; (repeat (first | exact List.getElem?_cons_zero | refine List.getElem?_cons_succ.trans ?_)))) (by kernel_rfl) (by exact rfl); intro W hF hS; have hcS := hS.1.cells.1; have hfS := hS.1.cells.2; go_simp; (go_at_call 40; refine (K1.out _ _ _ ((RAt.px (HS.out.below hS.1.2)).zl LX.out) ((RAt.pd (HE.out.below hS.1.2)).zl Ld.out)).mono ?_; rintro e w203 ⟨hb_w203, v203, rfl, hv203⟩; refine XPost.mk _ (fun W => IsC W v203 (P1)) hb_w203 (hv203) (IsC.cl _ _) ?_); clear hb_w203 hcS hfS hS hF
      intro K hK; go_simp; (try go_bits); refine hK _ ?_; clear hK K
      obtain ⟨s203, A203, n203, c203, rfl⟩ := IsC.val hv203
      clear hv203
      apply wpQ_call (i := 9) (by with_reducible (refine List.getElem?_toArray.trans ?_; (repeat (first | exact List.getElem?_cons_zero | refine List.getElem?_cons_succ.trans ?_)))) (by kernel_rfl) (by exact rfl); intro W hF hS; have hcS := hS.1.cells.1; have hfS := hS.1.cells.2; go_simp; (go_at_call 40; refine (K2.out _ _ _ ((RAt.px (HE.out.below hS.1.2)).zl Lx.out) ((RAt.pd (HS.out.below hS.1.2)).zl LD.out)).mono ?_; rintro e w204 ⟨hb_w204, v204, rfl, hv204⟩; refine XPost.mk _ (fun W => IsC W v204 (P2)) hb_w204 (hv204) (IsC.cl _ _) ?_); clear hb_w204 hcS hfS hS hF
      intro K hK; go_simp; (try go_bits); refine hK _ ?_; clear hK K
      obtain ⟨s204, A204, n204, c204, rfl⟩ := IsC.val hv204
      clear hv204
      apply wpQ_call (i := 10) (by with_reducible (refine List.getElem?_toArray.trans ?_; (repeat (first | exact List.getElem?_cons_zero | refine List.getElem?_cons_succ.trans ?_)))) (by kernel_rfl) (by exact rfl); intro W hF hS; have hcS := hS.1.cells.1; have hfS := hS.1.cells.2; go_simp; (go_at_call 39; refine (K3.out _ _ _ (hF.1.zl L1.out) (hF.2.zl L2.out)).mono ?_; rintro e w205 ⟨hb_w205, v205, rfl, hv205⟩; refine XPost.mk _ (fun W => IsC W v205 (P)) hb_w205 (hv205) (IsC.cl _ _) ?_); clear hb_w205 hcS hfS hS hF
      intro K hK; go_simp; (try go_bits); refine hK _ ?_; clear hK K
      obtain ⟨s205, A205, n205, c205, rfl⟩ := IsC.val hv205
      clear hv205
      apply wpQ_call (i := 15) (by with_reducible (refine List.getElem?_toArray.trans ?_; (repeat (first | exact List.getElem?_cons_zero | refine List.getElem?_cons_succ.trans ?_)))) (by kernel_rfl) (by exact rfl); intro W hF hS; have hcS := hS.1.cells.1; have hfS := hS.1.cells.2; go_simp; (go_at_call 40; refine (K4.out _ _ _ ((RAt.py (HS.out.below hS.1.2)).zl LY.out) ((RAt.pd (HE.out.below hS.1.2)).zl Ld.out)).mono ?_; rintro e w206 ⟨hb_w206, v206, rfl, hv206⟩; refine XPost.mk _ (fun W => IsC W v206 (Q1)) hb_w206 (hv206) (IsC.cl _ _) ?_); clear hb_w206 hcS hfS hS hF
      intro K hK; go_simp; (try go_bits); refine hK _ ?_; clear hK K
      obtain ⟨s206, A206, n206, c206, rfl⟩ := IsC.val hv206
      clear hv206
      apply wpQ_call (i := 20) (by with_reducible (refine List.getElem?_toArray.trans ?_; (repeat (first | exact List.getElem?_cons_zero | refine List.getElem?_cons_succ.trans ?_)))) (by kernel_rfl) (by exact rfl); intro W hF hS; have hcS := hS.1.cells.1; have hfS := hS.1.cells.2; go_simp; (go_at_call 40; refine (K5.out _ _ _ ((RAt.py (HE.out.below hS.1.2)).zl Ly.out) ((RAt.pd (HS.out.below hS.1.2)).zl LD.out)).mono ?_; rintro e w207 ⟨hb_w207, v207, rfl, hv207⟩; refine XPost.mk _ (fun W => IsC W v207 (Q2)) hb_w207 (hv207) (IsC.cl _ _) ?_); clear hb_w207 hcS hfS hS hF
      intro K hK; go_simp; (try go_bits); refine hK _ ?_; clear hK K
      obtain ⟨s207, A207, n207, c207, rfl⟩ := IsC.val hv207
      clear hv207
      apply wpQ_call (i := 21) (by with_reducible (refine List.getElem?_toArray.trans ?_; (repeat (first | exact List.getElem?_cons_zero | refine List.getElem?_cons_succ.trans ?_)))) (by kernel_rfl) (by exact rfl); intro W hF hS; have hcS := hS.1.cells.1; have hfS := hS.1.cells.2; go_simp; (go_at_call 39; refine (K6.out _ _ _ (hF.1.2.zl L4.out) (hF.2.zl L5.out)).mono ?_; rintro e w208 ⟨hb_w208, v208, rfl, hv208⟩; refine XPost.mk _ (fun W => IsC W v208 (Q)) hb_w208 (hv208) (IsC.cl _ _) ?_); clear hb_w208 hcS hfS hS hF
      intro K hK; go_simp; (try go_bits); refine hK _ ?_; clear hK K
      obtain ⟨s208, A208, n208, c208, rfl⟩ := IsC.val hv208
      clear hv208
      apply wpQ_call (i := 26) (by with_reducible (refine List.getElem?_toArray.trans ?_; (repeat (first | exact List.getElem?_cons_zero | refine List.getElem?_cons_succ.trans ?_)))) (by kernel_rfl) (by exact rfl); intro W hF hS; have hcS := hS.1.cells.1; have hfS := hS.1.cells.2; go_simp; (go_at_call 40; refine (K7.out _ _ _ ((RAt.pd (HS.out.below hS.1.2)).zl LD.out) ((RAt.pd (HE.out.below hS.1.2)).zl Ld.out)).mono ?_; rintro e w209 ⟨hb_w209, v209, rfl, hv209⟩; refine XPost.mk _ (fun W => IsC W v209 (E1)) hb_w209 (hv209) (IsC.cl _ _) ?_); clear hb_w209 hcS hfS hS hF
      intro K hK; go_simp; (try go_bits); refine hK _ ?_; clear hK K
      obtain ⟨s209, A209, n209, c209, rfl⟩ := IsC.val hv209
      clear hv209
      refine wpQI_start [27] ?_; (iterate 1 (first | (refine wpQI_off (by with_reducible (refine List.getElem?_toArray.trans ?_; (repeat (first | exact List.getElem?_cons_zero | refine List.getElem?_cons_succ.trans ?_)))) (by kernel_rfl) (by exact rfl) (fun K hK => ?_); go_simp; refine hK _ ?_; clear hK K) | ((first | apply wpQI_step (by with_reducible (refine List.getElem?_toArray.trans ?_; (repeat (first | exact List.getElem?_cons_zero | refine List.getElem?_cons_succ.trans ?_)))) (by kernel_rfl) (by exact rfl) | apply wpQI_on (by with_reducible (refine List.getElem?_toArray.trans ?_; (repeat (first | exact List.getElem?_cons_zero | refine List.getElem?_cons_succ.trans ?_)))) (by kernel_rfl) (by exact rfl)); (focus (intro W' hS; have hcS := hS.cells.1; have hfS := hS.cells.2; go_simp; (first | done | exact rfl | exact ⟨rfl, Below.refl _ _⟩ | (go_simp; first | done | exact rfl | exact ⟨rfl, Below.refl _ _⟩)))); intro K hK; go_simp; (try go_bits); refine hK _ ?_; clear hK K))); refine wpQI_nil ?_
      apply wpQ_call (i := 28) (by with_reducible (refine List.getElem?_toArray.trans ?_; (repeat (first | exact List.getElem?_cons_zero | refine List.getElem?_cons_succ.trans ?_)))) (by kernel_rfl) (by exact rfl); intro W hF hS; have hcS := hS.1.cells.1; have hfS := hS.1.cells.2; go_simp; (go_at_call 43; refine (K8.out _ _ (⟨_, _, _, _, _, _, _, _, _, _, _, _, rfl, hF.1.1.1.1.2, hF.1.2, hF.2⟩)).mono ?_; rintro e w210 ⟨hb_w210, v210, rfl, hv210⟩; refine XPost.mk _ (fun W => RAt W v210 (R1) (R2) (R3)) hb_w210 (hv210) (RAt.cl _ _ _ _) ?_); clear hb_w210 hcS hfS hS hF
      intro K hK; go_simp; (try go_bits); refine hK _ ?_; clear hK K
      obtain ⟨s210x, A210x, n210x, c210x, s210y, A210y, n210y, c210y, s210d, A210d, n210d, c210d, rfl⟩ := RAt.val hv210
      clear hv210
      refine wpQ_done (by kernel_rfl) ?_
      intro w211 hF_w211 hSG
      have hz_w211 := hSG.1.1
      have hb_w211 := hSG.1.2
      clear hSG
      (with_reducible apply cel2 (b := w.heap.size) hb_w211); (focus ((try simp) <;> omega)); (focus omega); (focus (go_simp; try exact rfl)); (focus (go_simp; try exact rfl)); (focus (intro o; go_simp)); intro c_w211_0_0 c_w211_0_1 fz_w211_0 hl_w211_0; (with_reducible apply cel6 (b := w101.heap.size) hb_w211); (focus ((try simp) <;> omega)); (focus omega); (focus (go_simp; try exact rfl)); (focus (go_simp; try exact rfl)); (focus (go_simp; try exact rfl)); (focus (go_simp; try exact rfl)); (focus (go_simp; try exact rfl)); (focus (go_simp; try exact rfl)); (focus (intro o; go_simp)); intro c_w211_1_0 c_w211_1_1 c_w211_1_2 c_w211_1_3 c_w211_1_4 c_w211_1_5 fz_w211_1 hl_w211_1; (with_reducible apply cel6 (b := wr.heap.size) hb_w211); (focus ((try simp) <;> omega)); (focus omega); (focus (go_simp; try exact rfl)); (focus (go_simp; try exact rfl)); (focus (go_simp; try exact rfl)); (focus (go_simp; try exact rfl)); (focus (go_simp; try exact rfl)); (focus (go_simp; try exact rfl)); (focus (intro o; go_simp)); intro c_w211_2_0 c_w211_2_1 c_w211_2_2 c_w211_2_3 c_w211_2_4 c_w211_2_5 fz_w211_2 hl_w211_2
      (try simp only [List.filterMap_cons, List.filterMap_nil, List.getElem?_cons_succ, List.getElem?_cons_zero])
      clear HE
      replace HS := Lib.hid (HS.out.below hb_w211)
      have H203 := Lib.hid (show IsC w211 (.agg #[.bool s203, .slice A203 n203 c203]) (P1) from hF_w211.1.1.1.1.1.1.1)
      have H204 := Lib.hid (show IsC w211 (.agg #[.bool s204, .slice A204 n204 c204]) (P2) from hF_w211.1.1.1.1.1.1.2)
      have H205 := Lib.hid (show IsC w211 (.agg #[.bool s205, .slice A205 n205 c205]) (P) from hF_w211.1.1.1.1.1.2)
      have H206 := Lib.hid (show IsC w211 (.agg #[.bool s206, .slice A206 n206 c206]) (Q1) from hF_w211.1.1.1.1.2)
      have H207 := Lib.hid (show IsC w211 (.agg #[.bool s207, .slice A207 n207 c207]) (Q2) from hF_w211.1.1.1.2)
      have H208 := Lib.hid (show IsC w211 (.agg #[.bool s208, .slice A208 n208 c208]) (Q) from hF_w211.1.1.2)
      have H209 := Lib.hid (show IsC w211 (.agg #[.bool s209, .slice A209 n209 c209]) (E1) from hF_w211.1.2)
      have H210 := Lib.hid (show RAt w211 (.agg #[.bool s210x, .slice A210x n210x c210x, .bool s210y, .slice A210y n210y c210y, .bool s210d, .slice A210d n210d c210d]) (R1) (R2) (R3) from hF_w211.2)
      have HB211 := Lib.hid (HB202.out.trans (hb_w211.mono (by have := HB202.out.size; omega)))
      have hz211 : w.heap.size + 1 ≤ w211.heap.size := by omega
      clear hF_w211 hb_w211
      clear c_w202_0_0 c_w202_0_1 fz_w202_0 hl_w202_0 c_w202_1_0 c_w202_1_1 c_w202_1_2 c_w202_1_3 c_w202_1_4 c_w202_1_5 fz_w202_1 hl_w202_1 c_w202_2_0 c_w202_2_1 c_w202_2_2 c_w202_2_3 c_w202_2_4 c_w202_2_5 fz_w202_2 hl_w202_2
      go_wp2_with fail
      refine HQ_.out _ _ _ ?_
      clear HQ_ Q_
      go_wp2_with fail
      go_roundw
      case rel => exact ⟨k + 1, R1, R2, R3, s210x, A210x, n210x, c210x, s210y, A210y, n210y, c210y, s210d, A210d, n210d, c210d, by omega, by go_num, by have hB := HB211.out; ((with_reducible (repeat (first | exact bR _ _ | refine bS ?_ ?_ _ | refine bA ?_ ?_ _ | refine bD ?_ | refine bT ?_ (by assumption) ?_ | refine bO (by assumption) ?_ ?_))) <;> (first | omega | (simp; done) | (simp <;> omega))), by go_simp, by go_simp, by go_simp, by go_simp, by go_simp, by go_simp, by intro o; go_simp, by (try simp) <;> omega, (by ((repeat (first | (with_reducible exact H210.out) | (with_reducible refine RAt.al ?_ _) | (with_reducible apply RAt.st1))) <;> (first | (with_reducible assumption) | (intro _ e; cases e; done) | (go_simp; first | done | exact rfl)))), HN2⟩
      case measure => simp [intOf]; omega
    · obtain rfl : k = l.length := by omega
      rw [List.take_length] at HN
      obtain ⟨hXY, _⟩ := HN.out
      have e1 : x = X.tdiv (D * (l.length : Int)) := by rw [HM1.out]; unfold meanR; rw [← hXY]
      have e2 : y = Y.tdiv (D * (l.length : Int)) := by rw [HM2.out]; unfold meanR; rw [← hXY]
      obtain ⟨n, hn⟩ : ∃ n : Int, n = (l.length : Int) := ⟨_, rfl⟩
      rw [← hn] at e1 e2
      have hn' := hn.symm
      have hdn : D * n ≠ 0 := Int.ne_of_gt (Int.mul_pos hsd (by omega))
      have hw := HM.out
      simp only [withinB, decide_eq_true_eq] at hw
      have b1 : bitN x.natAbs ≤ 31 := bitN_le (by omega)
      have b2 : bitN y.natAbs ≤ 31 := bitN_le (by omega)
      have k1 := fun w => wof_any n w (by omega) (by omega)
      have ln := len_up (len_wd (z := n) (by omega) (by omega)) (show _ ≤ 600 by omega)
      have ldn := len_mul LD.out ln
      have k2 := fun u v w h1 h2 => wmul_any 600 u v D n w h1 h2 (by omega)
      have k3 := fun u v w h1 h2 => wquo_any (600 + 600) u v X (D * n) w h1 h2 (by omega) hdn
      have k4 := fun u v w h1 h2 => wquo_any (600 + 600) u v Y (D * n) w h1 h2 (by omega) hdn
      rw [← e1] at k3
      rw [← e2] at k4
      replace LX := Lib.hid (len_up LX.out (show 600 ≤ 600 + 600 by omega))
      replace LY := Lib.hid (len_up LY.out (show 600 ≤ 600 + 600 by omega))
      have lx := len_wd (z := x) (by omega) (by omega)
      have ly := len_wd (z := y) (by omega) (by omega)
      have k5 := fun v w h => wbits_any 10 v x w h (by omega)
      have k6 := fun v w h => wbits_any 10 v y w h (by omega)
      have k7 := fun v w h => wint_any x v w h (by omega) (by omega)
      have k8 := fun v w h => wint_any y v w h (by omega) (by omega)
      have k9 := fun g w => rwithin_one2 1073741824 x y g w (by omega) (by omega)
      rw [HM.out] at k9
      obtain ⟨B1, hB1⟩ : ∃ B1 : Int, B1 = (bitN x.natAbs : Int) := ⟨_, rfl⟩
      obtain ⟨B2, hB2⟩ : ∃ B2 : Int, B2 = (bitN y.natAbs : Int) := ⟨_, rfl⟩
      rw [← hB1] at k5
      rw [← hB2] at k6
      have b1' : ¬ 31 < B1 := by omega
      have b2' : ¬ 31 < B2 := by omega
      have nb1 : n ≤ 16 := by omega
      have nb0 : 0 ≤ n := by omega
      have d1 : ¬ (l.length : Int) < (l.length : Int) := by omega
      generalize X.tmod (D * n) = x2 at *
      generalize Y.tmod (D * n) = y2 at *
      generalize D * n = DN at *
      have Ln := Lib.hid ln
      have LDN := Lib.hid ldn
      have Lx := Lib.hid lx
      have Ly := Lib.hid ly
      have K1 := Lib.hid k1
      have K2 := Lib.hid k2
      have K3 := Lib.hid k3
      have K4 := Lib.hid k4
      have K5 := Lib.hid k5
      have K6 := Lib.hid k6
      have K7 := Lib.hid k7
      have K8 := Lib.hid k8
      have K9 := Lib.hid k9
      clear k1 k2 k3 k4 k5 k6 k7 k8 k9 ln ldn lx ly hXY e1 e2 hdn hn b1 b2 hB1 hB2 hsd hsx hsy hsl
      -- names on
      go_wp2_with fail
      -- own blocks: w.heap.size:2, w101.heap.size:6
      (refine pin_wp (N := _) (Nat.le_refl _) (fun w301 hb_w301 hz_w301 => ?_); (try simp at hz_w301); (with_reducible apply cel2 (b := w.heap.size) hb_w301); (focus ((try simp) <;> omega)); (focus omega); (focus (go_simp; try exact rfl)); (focus (go_simp; try exact rfl)); (focus (intro o; go_simp)); intro c_w301_0_0 c_w301_0_1 fz_w301_0 hl_w301_0; (with_reducible apply cel6 (b := w101.heap.size) hb_w301); (focus ((try simp) <;> omega)); (focus omega); (focus (go_simp; try exact rfl)); (focus (go_simp; try exact rfl)); (focus (go_simp; try exact rfl)); (focus (go_simp; try exact rfl)); (focus (go_simp; try exact rfl)); (focus (go_simp; try exact rfl)); (focus (intro o; go_simp)); intro c_w301_1_0 c_w301_1_1 c_w301_1_2 c_w301_1_3 c_w301_1_4 c_w301_1_5 fz_w301_1 hl_w301_1); refine wp_q (fun Q_ HQ_ => ?_); refine wp_region_floatQ w301.heap.size 7 [7] (Nat.le_refl _) (fun _ => True) trivial Cl.tt (by kernel_rfl) (by kernel_rfl) ?_
      replace HS := Lib.hid (RAt.below (v := .agg #[.bool sSx, .slice ASx nSx cSx, .bool sSy, .slice ASy nSy cSy, .bool sSd, .slice ASd nSd cSd]) (x := X) (y := Y) (d := D) (by ((repeat (first | (with_reducible exact HS.out) | (with_reducible refine RAt.al ?_ _) | (with_reducible apply RAt.st1))) <;> (first | (with_reducible assumption) | (intro _ e; cases e; done) | (go_simp; first | done | exact rfl)))) hb_w301)
      have HB301 := Lib.hid (show Below w101.heap.size w101 w301 by have hB := HBR.out; ((with_reducible (repeat (first | exact bR _ _ | refine bS ?_ ?_ _ | refine bA ?_ ?_ _ | refine bD ?_ | refine bT ?_ (by assumption) ?_ | refine bO (by assumption) ?_ ?_))) <;> (first | omega | (simp; done) | (simp <;> omega))))
      have hz301 : w.heap.size + 1 ≤ w301.heap.size := by omega
      clear hb_w301
      skip
      refine wpQI_start [0, 1, 2, 3] ?_; (iterate 4 (first | (refine wpQI_off (by with_reducible (refine List.getElem?_toArray.trans ?_; (repeat (first | exact List.getElem?_cons_zero | refine List.getElem?_cons_succ.trans ?_)))) (by kernel_rfl) (by exact rfl) (fun K hK => ?_); go_simp; refine hK _ ?_; clear hK K) | ((first | apply wpQI_step (by with_reducible (refine List.getElem?_toArray.trans ?_; (repeat (first | exact List.getElem?_cons_zero | refine List.getElem?_cons_succ.trans ?_)))) (by kernel_rfl) (by exact rfl) | apply wpQI_on (by with_reducible (refine List.getElem?_toArray.trans ?_; (repeat (first | exact List.getElem?_cons_zero | refine List.getElem?_cons_succ.trans ?_)))) (by kernel_rfl) (by exact rfl)); (focus (intro W' hS; have hcS := hS.cells.1; have hfS := hS.cells.2; go_simp; (first | done | exact rfl | exact ⟨rfl, Below.refl _ _⟩ | (go_simp; first | done | exact rfl | exact ⟨rfl, Below.refl _ _⟩)))); intro K hK; go_simp; (try go_bits); refine hK _ ?_; clear hK K))); refine wpQI_nil ?_
      apply wpQ_call (i := 4) (by with_reducible (refine List.getElem?_toArray.trans ?_; (repeat (first | exact List.getElem?_cons_zero | refine List.getElem?_cons_succ.trans ?_)))) (by kernel_rfl) (by exact rfl); intro W hF hS; have hcS := hS.1.cells.1; have hfS := hS.1.cells.2; go_simp; (go_at_call 41; refine (K1.out _).mono ?_; rintro e w302 ⟨hb_w302, v302, rfl, hv302⟩; refine XPost.mk _ (fun W => IsC W v302 (n)) hb_w302 (hv302) (IsC.cl _ _) ?_); clear hb_w302 hcS hfS hS hF
      intro K hK; go_simp; (try go_bits); refine hK _ ?_; clear hK K
      obtain ⟨s302, A302, n302, c302, rfl⟩ := IsC.val hv302
      clear hv302
      apply wpQ_call (i := 5) (by with_reducible (refine List.getElem?_toArray.trans ?_; (repeat (first | exact List.getElem?_cons_zero | refine List.getElem?_cons_succ.trans ?_)))) (by kernel_rfl) (by exact rfl); intro W hF hS; have hcS := hS.1.cells.1; have hfS := hS.1.cells.2; go_simp; (go_at_call 40; refine (K2.out _ _ _ ((RAt.pd (HS.out.below hS.1.2)).zl LD.out) (hF.zl Ln.out)).mono ?_; rintro e w303 ⟨hb_w303, v303, rfl, hv303⟩; refine XPost.mk _ (fun W => IsC W v303 (DN)) hb_w303 (hv303) (IsC.cl _ _) ?_); clear hb_w303 hcS hfS hS hF
      intro K hK; go_simp; (try go_bits); refine hK _ ?_; clear hK K
      obtain ⟨s303, A303, n303, c303, rfl⟩ := IsC.val hv303
      clear hv303
      apply wpQ_fresh (i := 6) LInv.std (by with_reducible (refine List.getElem?_toArray.trans ?_; (repeat (first | exact List.getElem?_cons_zero | refine List.getElem?_cons_succ.trans ?_)))) (by kernel_rfl) (fun g => Value.pointer (some ⟨g, 0, none⟩)) (by exact rfl); (focus (intro W; go_simp; first | done | exact rfl | exact ⟨rfl, rfl⟩))
      intro g_r11_6 hN_r11_6 hG_r11_6 K hK
      go_simp; refine hK _ ?_; clear hK K
      have hne : w.heap.size ≠ g_r11_6 := by have := hN_r11_6; omega
      have hne := Ne.symm hne
      have hne : w101.heap.size ≠ g_r11_6 := by have := hN_r11_6; omega
      have hne := Ne.symm hne
      refine wpQ_done (by kernel_rfl) ?_
      intro w304 hF_w304 hSG
      have hz_w304 := hSG.1.1
      have hb_w304 := hSG.1.2
      have hB_r11_6 := (hSG.2 _ (List.mem_cons_self ..)).2; simp only at hB_r11_6; have hl_r11_6 := (hSG.size (List.mem_cons_self ..)); simp only at hl_r11_6
      have c_w304_r11_6_0 := cell_of_row w304 g_r11_6 0 _ _ _ hB_r11_6; simp only [List.getElem?_toArray, List.getElem?_cons_zero] at c_w304_r11_6_0
      have c_w304_r11_6_1 := cell_of_row w304 g_r11_6 1 _ _ _ hB_r11_6; simp only [List.getElem?_toArray, List.getElem?_cons_zero, List.getElem?_cons_succ] at c_w304_r11_6_1
      have fz_w304_r11_6 : (∀ o, w304.frozen? ⟨g_r11_6, o, none⟩ = false) := (fun o => frozen_of_row w304 g_r11_6 o _ _ hB_r11_6); have HH_r11_6 := Lib.hid hB_r11_6; clear hB_r11_6
      clear hSG
      (with_reducible apply cel2 (b := w.heap.size) hb_w304); (focus ((try simp) <;> omega)); (focus omega); (focus (go_simp; try exact rfl)); (focus (go_simp; try exact rfl)); (focus (intro o; go_simp)); intro c_w304_0_0 c_w304_0_1 fz_w304_0 hl_w304_0; (with_reducible apply cel6 (b := w101.heap.size) hb_w304); (focus ((try simp) <;> omega)); (focus omega); (focus (go_simp; try exact rfl)); (focus (go_simp; try exact rfl)); (focus (go_simp; try exact rfl)); (focus (go_simp; try exact rfl)); (focus (go_simp; try exact rfl)); (focus (go_simp; try exact rfl)); (focus (intro o; go_simp)); intro c_w304_1_0 c_w304_1_1 c_w304_1_2 c_w304_1_3 c_w304_1_4 c_w304_1_5 fz_w304_1 hl_w304_1
      (try simp only [List.filterMap_cons, List.filterMap_nil, List.getElem?_cons_succ, List.getElem?_cons_zero])
      replace HS := Lib.hid (HS.out.below hb_w304)
      have H302 := Lib.hid (show IsC w304 (.agg #[.bool s302, .slice A302 n302 c302]) (n) from hF_w304.1)
      have H303 := Lib.hid (show IsC w304 (.agg #[.bool s303, .slice A303 n303 c303]) (DN) from hF_w304.2)
      have HB304 := Lib.hid (HB301.out.trans (hb_w304.mono (by have := HB301.out.size; omega)))
      have hz304 : w.heap.size + 1 ≤ w304.heap.size := by omega
      have hn_r11_6 : w.heap.size + 1 ≤ g_r11_6 := by have := hN_r11_6; omega
      have hnb_r11_6 : w101.heap.size ≤ g_r11_6 := by have := hN_r11_6; omega
      clear hF_w304 hb_w304 HH_r11_6 hG_r11_6 hN_r11_6
      clear c_w301_0_0 c_w301_0_1 fz_w301_0 hl_w301_0 c_w301_1_0 c_w301_1_1 c_w301_1_2 c_w301_1_3 c_w301_1_4 c_w301_1_5 fz_w301_1 hl_w301_1
      go_wp2_with fail
      refine HQ_.out _ _ _ ?_
      clear HQ_ Q_
      go_wp2_with fail
      -- own blocks: w.heap.size:2, w101.heap.size:6, g_r11_6:2
      (go_at_call 44; refine (K3.out _ _ _ ((RAt.px (show RAt _ (.agg #[.bool sSx, .slice ASx nSx cSx, .bool sSy, .slice ASy nSy cSy, .bool sSd, .slice ASd nSd cSd]) (X) (Y) (D) by ((repeat (first | (with_reducible exact HS.out) | (with_reducible refine RAt.al ?_ _) | (with_reducible apply RAt.st1))) <;> (first | (with_reducible assumption) | (intro _ e; cases e; done) | (go_simp; first | done | exact rfl))))).zl LX.out) ((show IsC _ (.agg #[.bool s303, .slice A303 n303 c303]) (DN) by ((repeat (first | (with_reducible exact H303.out) | (with_reducible refine IsC.al ?_ _) | (with_reducible apply IsC.st1))) <;> (first | (with_reducible assumption) | (intro _ e; cases e; done) | (go_simp; first | done | exact rfl)))).zl LDN.out)).mono ?_; rintro e w305 ⟨hb_w305, u305, v305, rfl, hu305, hv305⟩; have hz_w305 := hb_w305.size; (try simp at hz_w305); (with_reducible apply cel2 (b := w.heap.size) hb_w305); (focus ((try simp) <;> omega)); (focus omega); (focus (go_simp; try exact rfl)); (focus (go_simp; try exact rfl)); (focus (intro o; go_simp)); intro c_w305_0_0 c_w305_0_1 fz_w305_0 hl_w305_0; (with_reducible apply cel6 (b := w101.heap.size) hb_w305); (focus ((try simp) <;> omega)); (focus omega); (focus (go_simp; try exact rfl)); (focus (go_simp; try exact rfl)); (focus (go_simp; try exact rfl)); (focus (go_simp; try exact rfl)); (focus (go_simp; try exact rfl)); (focus (go_simp; try exact rfl)); (focus (intro o; go_simp)); intro c_w305_1_0 c_w305_1_1 c_w305_1_2 c_w305_1_3 c_w305_1_4 c_w305_1_5 fz_w305_1 hl_w305_1; (with_reducible apply cel2 (b := g_r11_6) hb_w305); (focus ((try simp) <;> omega)); (focus omega); (focus (go_simp; try exact rfl)); (focus (go_simp; try exact rfl)); (focus (intro o; go_simp)); intro c_w305_2_0 c_w305_2_1 fz_w305_2 hl_w305_2)
      obtain ⟨s305u, A305u, n305u, c305u, rfl⟩ := IsC.val hu305
      obtain ⟨s305, A305, n305, c305, rfl⟩ := IsC.val hv305
      clear H302
      replace HS := Lib.hid (RAt.below (v := .agg #[.bool sSx, .slice ASx nSx cSx, .bool sSy, .slice ASy nSy cSy, .bool sSd, .slice ASd nSd cSd]) (x := X) (y := Y) (d := D) (by ((repeat (first | (with_reducible exact HS.out) | (with_reducible refine RAt.al ?_ _) | (with_reducible apply RAt.st1))) <;> (first | (with_reducible assumption) | (intro _ e; cases e; done) | (go_simp; first | done | exact rfl)))) hb_w305)
      replace H303 := Lib.hid (IsC.below (v := .agg #[.bool s303, .slice A303 n303 c303]) (z := DN) (by ((repeat (first | (with_reducible exact H303.out) | (with_reducible refine IsC.al ?_ _) | (with_reducible apply IsC.st1))) <;> (first | (with_reducible assumption) | (intro _ e; cases e; done) | (go_simp; first | done | exact rfl)))) hb_w305)
      have HB305 := Lib.hid (show Below w101.heap.size w101 w305 by have hB := HB304.out; ((with_reducible (repeat (first | exact bR _ _ | refine bS ?_ ?_ _ | refine bA ?_ ?_ _ | refine bD ?_ | refine bT ?_ (by assumption) ?_ | refine bO (by assumption) ?_ ?_))) <;> (first | omega | (simp; done) | (simp <;> omega))))
      have hz305 : w.heap.size + 1 ≤ w305.heap.size := by omega
      clear hb_w305
      clear c_w304_r11_6_0 c_w304_r11_6_1 fz_w304_r11_6 c_w304_0_0 c_w304_0_1 fz_w304_0 hl_w304_0 c_w304_1_0 c_w304_1_1 c_w304_1_2 c_w304_1_3 c_w304_1_4 c_w304_1_5 fz_w304_1 hl_w304_1
      have H305u := Lib.hid (show IsC w305 (.agg #[.bool s305u, .slice A305u n305u c305u]) (x) from hu305)
      clear hu305
      have H305 := Lib.hid (show IsC w305 (.agg #[.bool s305, .slice A305 n305 c305]) (x2) from hv305)
      clear hv305
      go_wp2_with fail
      -- own blocks: w.heap.size:2, w101.heap.size:6, w305.heap.size:2
      (go_at_call 44; refine (K4.out _ _ _ ((RAt.py (show RAt _ (.agg #[.bool sSx, .slice ASx nSx cSx, .bool sSy, .slice ASy nSy cSy, .bool sSd, .slice ASd nSd cSd]) (X) (Y) (D) by ((repeat (first | (with_reducible exact HS.out) | (with_reducible refine RAt.al ?_ _) | (with_reducible apply RAt.st1))) <;> (first | (with_reducible assumption) | (intro _ e; cases e; done) | (go_simp; first | done | exact rfl))))).zl LY.out) ((show IsC _ (.agg #[.bool s303, .slice A303 n303 c303]) (DN) by ((repeat (first | (with_reducible exact H303.out) | (with_reducible refine IsC.al ?_ _) | (with_reducible apply IsC.st1))) <;> (first | (with_reducible assumption) | (intro _ e; cases e; done) | (go_simp; first | done | exact rfl)))).zl LDN.out)).mono ?_; rintro e w306 ⟨hb_w306, u306, v306, rfl, hu306, hv306⟩; have hz_w306 := hb_w306.size; (try simp at hz_w306); (with_reducible apply cel2 (b := w.heap.size) hb_w306); (focus ((try simp) <;> omega)); (focus omega); (focus (go_simp; try exact rfl)); (focus (go_simp; try exact rfl)); (focus (intro o; go_simp)); intro c_w306_0_0 c_w306_0_1 fz_w306_0 hl_w306_0; (with_reducible apply cel6 (b := w101.heap.size) hb_w306); (focus ((try simp) <;> omega)); (focus omega); (focus (go_simp; try exact rfl)); (focus (go_simp; try exact rfl)); (focus (go_simp; try exact rfl)); (focus (go_simp; try exact rfl)); (focus (go_simp; try exact rfl)); (focus (go_simp; try exact rfl)); (focus (intro o; go_simp)); intro c_w306_1_0 c_w306_1_1 c_w306_1_2 c_w306_1_3 c_w306_1_4 c_w306_1_5 fz_w306_1 hl_w306_1; (with_reducible apply cel2 (b := w305.heap.size) hb_w306); (focus ((try simp) <;> omega)); (focus omega); (focus (go_simp; try exact rfl)); (focus (go_simp; try exact rfl)); (focus (intro o; go_simp)); intro c_w306_2_0 c_w306_2_1 fz_w306_2 hl_w306_2)
      obtain ⟨s306u, A306u, n306u, c306u, rfl⟩ := IsC.val hu306
      obtain ⟨s306, A306, n306, c306, rfl⟩ := IsC.val hv306
      clear HS
      clear H303
      clear H305
      replace H305u := Lib.hid (IsC.below (v := .agg #[.bool s305u, .slice A305u n305u c305u]) (z := x) (by ((repeat (first | (with_reducible exact H305u.out) | (with_reducible refine IsC.al ?_ _) | (with_reducible apply IsC.st1))) <;> (first | (with_reducible assumption) | (intro _ e; cases e; done) | (go_simp; first | done | exact rfl)))) hb_w306)
      have HB306 := Lib.hid (show Below w101.heap.size w101 w306 by have hB := HB305.out; ((with_reducible (repeat (first | exact bR _ _ | refine bS ?_ ?_ _ | refine bA ?_ ?_ _ | refine bD ?_ | refine bT ?_ (by assumption) ?_ | refine bO (by assumption) ?_ ?_))) <;> (first | omega | (simp; done) | (simp <;> omega))))
      have hz306 : w.heap.size + 1 ≤ w306.heap.size := by omega
      clear hb_w306
      clear c_w305_0_0 c_w305_0_1 fz_w305_0 hl_w305_0 c_w305_1_0 c_w305_1_1 c_w305_1_2 c_w305_1_3 c_w305_1_4 c_w305_1_5 fz_w305_1 hl_w305_1 c_w305_2_0 c_w305_2_1 fz_w305_2 hl_w305_2
      have H306u := Lib.hid (show IsC w306 (.agg #[.bool s306u, .slice A306u n306u c306u]) (y) from hu306)
      clear hu306
      have H306 := Lib.hid (show IsC w306 (.agg #[.bool s306, .slice A306 n306 c306]) (y2) from hv306)
      clear hv306
      go_wp2_with fail
      -- own blocks: w.heap.size:2, w101.heap.size:6, w305.heap.size:2, w306.heap.size:2
      (go_at_call 45; refine (K5.out _ _ ((show IsC _ (.agg #[.bool s305u, .slice A305u n305u c305u]) (x) by ((repeat (first | (with_reducible exact H305u.out) | (with_reducible refine IsC.al ?_ _) | (with_reducible apply IsC.st1))) <;> (first | (with_reducible assumption) | (intro _ e; cases e; done) | (go_simp; first | done | exact rfl)))).zl Lx.out)).mono ?_; rintro e w307 ⟨rfl, hb_w307⟩; have hz_w307 := hb_w307.size; (try simp at hz_w307); (with_reducible apply cel2 (b := w.heap.size) hb_w307); (focus ((try simp) <;> omega)); (focus omega); (focus (go_simp; try exact rfl)); (focus (go_simp; try exact rfl)); (focus (intro o; go_simp)); intro c_w307_0_0 c_w307_0_1 fz_w307_0 hl_w307_0; (with_reducible apply cel6 (b := w101.heap.size) hb_w307); (focus ((try simp) <;> omega)); (focus omega); (focus (go_simp; try exact rfl)); (focus (go_simp; try exact rfl)); (focus (go_simp; try exact rfl)); (focus (go_simp; try exact rfl)); (focus (go_simp; try exact rfl)); (focus (go_simp; try exact rfl)); (focus (intro o; go_simp)); intro c_w307_1_0 c_w307_1_1 c_w307_1_2 c_w307_1_3 c_w307_1_4 c_w307_1_5 fz_w307_1 hl_w307_1; (with_reducible apply cel2 (b := w305.heap.size) hb_w307); (focus ((try simp) <;> omega)); (focus omega); (focus (go_simp; try exact rfl)); (focus (go_simp; try exact rfl)); (focus (intro o; go_simp)); intro c_w307_2_0 c_w307_2_1 fz_w307_2 hl_w307_2; (with_reducible apply cel2 (b := w306.heap.size) hb_w307); (focus ((try simp) <;> omega)); (focus omega); (focus (go_simp; try exact rfl)); (focus (go_simp; try exact rfl)); (focus (intro o; go_simp)); intro c_w307_3_0 c_w307_3_1 fz_w307_3 hl_w307_3)
      clear H306
      replace H305u := Lib.hid (IsC.below (v := .agg #[.bool s305u, .slice A305u n305u c305u]) (z := x) (by ((repeat (first | (with_reducible exact H305u.out) | (with_reducible refine IsC.al ?_ _) | (with_reducible apply IsC.st1))) <;> (first | (with_reducible assumption) | (intro _ e; cases e; done) | (go_simp; first | done | exact rfl)))) hb_w307)
      replace H306u := Lib.hid (IsC.below (v := .agg #[.bool s306u, .slice A306u n306u c306u]) (z := y) (by ((repeat (first | (with_reducible exact H306u.out) | (with_reducible refine IsC.al ?_ _) | (with_reducible apply IsC.st1))) <;> (first | (with_reducible assumption) | (intro _ e; cases e; done) | (go_simp; first | done | exact rfl)))) hb_w307)
      have HB307 := Lib.hid (show Below w101.heap.size w101 w307 by have hB := HB306.out; ((with_reducible (repeat (first | exact bR _ _ | refine bS ?_ ?_ _ | refine bA ?_ ?_ _ | refine bD ?_ | refine bT ?_ (by assumption) ?_ | refine bO (by assumption) ?_ ?_))) <;> (first | omega | (simp; done) | (simp <;> omega))))
      have hz307 : w.heap.size + 1 ≤ w307.heap.size := by omega
      clear hb_w307
      clear c_w306_0_0 c_w306_0_1 fz_w306_0 hl_w306_0 c_w306_1_0 c_w306_1_1 c_w306_1_2 c_w306_1_3 c_w306_1_4 c_w306_1_5 fz_w306_1 hl_w306_1 c_w306_2_0 c_w306_2_1 fz_w306_2 hl_w306_2
      go_wp2_with fail
      -- own blocks: w.heap.size:2, w101.heap.size:6, w305.heap.size:2, w306.heap.size:2
      (go_at_call 45; refine (K6.out _ _ ((show IsC _ (.agg #[.bool s306u, .slice A306u n306u c306u]) (y) by ((repeat (first | (with_reducible exact H306u.out) | (with_reducible refine IsC.al ?_ _) | (with_reducible apply IsC.st1))) <;> (first | (with_reducible assumption) | (intro _ e; cases e; done) | (go_simp; first | done | exact rfl)))).zl Ly.out)).mono ?_; rintro e w308 ⟨rfl, hb_w308⟩; have hz_w308 := hb_w308.size; (try simp at hz_w308); (with_reducible apply cel2 (b := w.heap.size) hb_w308); (focus ((try simp) <;> omega)); (focus omega); (focus (go_simp; try exact rfl)); (focus (go_simp; try exact rfl)); (focus (intro o; go_simp)); intro c_w308_0_0 c_w308_0_1 fz_w308_0 hl_w308_0; (with_reducible apply cel6 (b := w101.heap.size) hb_w308); (focus ((try simp) <;> omega)); (focus omega); (focus (go_simp; try exact rfl)); (focus (go_simp; try exact rfl)); (focus (go_simp; try exact rfl)); (focus (go_simp; try exact rfl)); (focus (go_simp; try exact rfl)); (focus (go_simp; try exact rfl)); (focus (intro o; go_simp)); intro c_w308_1_0 c_w308_1_1 c_w308_1_2 c_w308_1_3 c_w308_1_4 c_w308_1_5 fz_w308_1 hl_w308_1; (with_reducible apply cel2 (b := w305.heap.size) hb_w308); (focus ((try simp) <;> omega)); (focus omega); (focus (go_simp; try exact rfl)); (focus (go_simp; try exact rfl)); (focus (intro o; go_simp)); intro c_w308_2_0 c_w308_2_1 fz_w308_2 hl_w308_2; (with_reducible apply cel2 (b := w306.heap.size) hb_w308); (focus ((try simp) <;> omega)); (focus omega); (focus (go_simp; try exact rfl)); (focus (go_simp; try exact rfl)); (focus (intro o; go_simp)); intro c_w308_3_0 c_w308_3_1 fz_w308_3 hl_w308_3)
      replace H305u := Lib.hid (IsC.below (v := .agg #[.bool s305u, .slice A305u n305u c305u]) (z := x) (by ((repeat (first | (with_reducible exact H305u.out) | (with_reducible refine IsC.al ?_ _) | (with_reducible apply IsC.st1))) <;> (first | (with_reducible assumption) | (intro _ e; cases e; done) | (go_simp; first | done | exact rfl)))) hb_w308)
      replace H306u := Lib.hid (IsC.below (v := .agg #[.bool s306u, .slice A306u n306u c306u]) (z := y) (by ((repeat (first | (with_reducible exact H306u.out) | (with_reducible refine IsC.al ?_ _) | (with_reducible apply IsC.st1))) <;> (first | (with_reducible assumption) | (intro _ e; cases e; done) | (go_simp; first | done | exact rfl)))) hb_w308)
      have HB308 := Lib.hid (show Below w101.heap.size w101 w308 by have hB := HB307.out; ((with_reducible (repeat (first | exact bR _ _ | refine bS ?_ ?_ _ | refine bA ?_ ?_ _ | refine bD ?_ | refine bT ?_ (by assumption) ?_ | refine bO (by assumption) ?_ ?_))) <;> (first | omega | (simp; done) | (simp <;> omega))))
      have hz308 : w.heap.size + 1 ≤ w308.heap.size := by omega
      clear hb_w308
      clear c_w307_0_0 c_w307_0_1 fz_w307_0 hl_w307_0 c_w307_1_0 c_w307_1_1 c_w307_1_2 c_w307_1_3 c_w307_1_4 c_w307_1_5 fz_w307_1 hl_w307_1 c_w307_2_0 c_w307_2_1 fz_w307_2 hl_w307_2 c_w307_3_0 c_w307_3_1 fz_w307_3 hl_w307_3
      go_wp2_with fail
      -- own blocks: w.heap.size:2, w101.heap.size:6, w305.heap.size:2, w306.heap.size:2
      (refine pin_wp (N := _) (Nat.le_refl _) (fun w309 hb_w309 hz_w309 => ?_); (try simp at hz_w309); (with_reducible apply cel2 (b := w.heap.size) hb_w309); (focus ((try simp) <;> omega)); (focus omega); (focus (go_simp; try exact rfl)); (focus (go_simp; try exact rfl)); (focus (intro o; go_simp)); intro c_w309_0_0 c_w309_0_1 fz_w309_0 hl_w309_0; (with_reducible apply cel6 (b := w101.heap.size) hb_w309); (focus ((try simp) <;> omega)); (focus omega); (focus (go_simp; try exact rfl)); (focus (go_simp; try exact rfl)); (focus (go_simp; try exact rfl)); (focus (go_simp; try exact rfl)); (focus (go_simp; try exact rfl)); (focus (go_simp; try exact rfl)); (focus (intro o; go_simp)); intro c_w309_1_0 c_w309_1_1 c_w309_1_2 c_w309_1_3 c_w309_1_4 c_w309_1_5 fz_w309_1 hl_w309_1; (with_reducible apply cel2 (b := w305.heap.size) hb_w309); (focus ((try simp) <;> omega)); (focus omega); (focus (go_simp; try exact rfl)); (focus (go_simp; try exact rfl)); (focus (intro o; go_simp)); intro c_w309_2_0 c_w309_2_1 fz_w309_2 hl_w309_2; (with_reducible apply cel2 (b := w306.heap.size) hb_w309); (focus ((try simp) <;> omega)); (focus omega); (focus (go_simp; try exact rfl)); (focus (go_simp; try exact rfl)); (focus (intro o; go_simp)); intro c_w309_3_0 c_w309_3_1 fz_w309_3 hl_w309_3); refine wp_q (fun Q_ HQ_ => ?_); refine wp_region_floatQ w309.heap.size 6 [6] (Nat.le_refl _) (fun _ => True) trivial Cl.tt (by kernel_rfl) (by kernel_rfl) ?_
      replace H305u := Lib.hid (IsC.below (v := .agg #[.bool s305u, .slice A305u n305u c305u]) (z := x) (by ((repeat (first | (with_reducible exact H305u.out) | (with_reducible refine IsC.al ?_ _) | (with_reducible apply IsC.st1))) <;> (first | (with_reducible assumption) | (intro _ e; cases e; done) | (go_simp; first | done | exact rfl)))) hb_w309)
      replace H306u := Lib.hid (IsC.below (v := .agg #[.bool s306u, .slice A306u n306u c306u]) (z := y) (by ((repeat (first | (with_reducible exact H306u.out) | (with_reducible refine IsC.al ?_ _) | (with_reducible apply IsC.st1))) <;> (first | (with_reducible assumption) | (intro _ e; cases e; done) | (go_simp; first | done | exact rfl)))) hb_w309)
      have HB309 := Lib.hid (show Below w101.heap.size w101 w309 by have hB := HB308.out; ((with_reducible (repeat (first | exact bR _ _ | refine bS ?_ ?_ _ | refine bA ?_ ?_ _ | refine bD ?_ | refine bT ?_ (by assumption) ?_ | refine bO (by assumption) ?_ ?_))) <;> (first | omega | (simp; done) | (simp <;> omega))))
      have hz309 : w.heap.size + 1 ≤ w309.heap.size := by omega
      clear hb_w309
      clear c_w308_0_0 c_w308_0_1 fz_w308_0 hl_w308_0 c_w308_1_0 c_w308_1_1 c_w308_1_2 c_w308_1_3 c_w308_1_4 c_w308_1_5 fz_w308_1 hl_w308_1 c_w308_2_0 c_w308_2_1 fz_w308_2 hl_w308_2 c_w308_3_0 c_w308_3_1 fz_w308_3 hl_w308_3
      refine wpQI_start [0] ?_; (iterate 1 (first | (refine wpQI_off (by with_reducible (refine List.getElem?_toArray.trans ?_; (repeat (first | exact List.getElem?_cons_zero | refine List.getElem?_cons_succ.trans ?_)))) (by kernel_rfl) (by exact rfl) (fun K hK => ?_); go_simp; refine hK _ ?_; clear hK K) | ((first | apply wpQI_step (by with_reducible (refine List.getElem?_toArray.trans ?_; (repeat (first | exact List.getElem?_cons_zero | refine List.getElem?_cons_succ.trans ?_)))) (by kernel_rfl) (by exact rfl) | apply wpQI_on (by with_reducible (refine List.getElem?_toArray.trans ?_; (repeat (first | exact List.getElem?_cons_zero | refine List.getElem?_cons_succ.trans ?_)))) (by kernel_rfl) (by exact rfl)); (focus (intro W' hS; have hcS := hS.cells.1; have hfS := hS.cells.2; go_simp; (first | done | exact rfl | exact ⟨rfl, Below.refl _ _⟩ | (go_simp; first | done | exact rfl | exact ⟨rfl, Below.refl _ _⟩)))); intro K hK; go_simp; (try go_bits); refine hK _ ?_; clear hK K))); refine wpQI_nil ?_
      refine wpQI_start [2] ?_; (iterate 1 (first | (refine wpQI_off (by with_reducible (refine List.getElem?_toArray.trans ?_; (repeat (first | exact List.getElem?_cons_zero | refine List.getElem?_cons_succ.trans ?_)))) (by kernel_rfl) (by exact rfl) (fun K hK => ?_); go_simp; refine hK _ ?_; clear hK K) | ((first | apply wpQI_step (by with_reducible (refine List.getElem?_toArray.trans ?_; (repeat (first | exact List.getElem?_cons_zero | refine List.getElem?_cons_succ.trans ?_)))) (by kernel_rfl) (by exact rfl) | apply wpQI_on (by with_reducible (refine List.getElem?_toArray.trans ?_; (repeat (first | exact List.getElem?_cons_zero | refine List.getElem?_cons_succ.trans ?_)))) (by kernel_rfl) (by exact rfl)); (focus (intro W' hS; have hcS := hS.cells.1; have hfS := hS.cells.2; go_simp; (first | done | exact rfl | exact ⟨rfl, Below.refl _ _⟩ | (go_simp; first | done | exact rfl | exact ⟨rfl, Below.refl _ _⟩)))); intro K hK; go_simp; (try go_bits); refine hK _ ?_; clear hK K))); refine wpQI_nil ?_
      apply wpQ_call (i := 1) (by with_reducible (refine List.getElem?_toArray.trans ?_; (repeat (first | exact List.getElem?_cons_zero | refine List.getElem?_cons_succ.trans ?_)))) (by kernel_rfl) (by exact rfl); intro W hF hS; have hcS := hS.1.cells.1; have hfS := hS.1.cells.2; go_simp; (go_at_call 46; refine (K7.out _ _ ((H305u.out.below hS.1.2))).mono ?_; rintro e w310 ⟨rfl, hb_w310⟩; refine XPost.mk _ (fun _ => True) hb_w310 (trivial) (Cl.tt) ?_); clear hb_w310 hcS hfS hS hF
      intro K hK; go_simp; (try go_bits); refine hK _ ?_; clear hK K
      apply wpQ_call (i := 3) (by with_reducible (refine List.getElem?_toArray.trans ?_; (repeat (first | exact List.getElem?_cons_zero | refine List.getElem?_cons_succ.trans ?_)))) (by kernel_rfl) (by exact rfl); intro W hF hS; have hcS := hS.1.cells.1; have hfS := hS.1.cells.2; go_simp; (go_at_call 46; refine (K8.out _ _ ((H306u.out.below hS.1.2))).mono ?_; rintro e w311 ⟨rfl, hb_w311⟩; refine XPost.mk _ (fun _ => True) hb_w311 (trivial) (Cl.tt) ?_); clear hb_w311 hcS hfS hS hF
      intro K hK; go_simp; (try go_bits); refine hK _ ?_; clear hK K
      refine wpQI_start [4] ?_; (iterate 1 (first | (refine wpQI_off (by with_reducible (refine List.getElem?_toArray.trans ?_; (repeat (first | exact List.getElem?_cons_zero | refine List.getElem?_cons_succ.trans ?_)))) (by kernel_rfl) (by exact rfl) (fun K hK => ?_); go_simp; refine hK _ ?_; clear hK K) | ((first | apply wpQI_step (by with_reducible (refine List.getElem?_toArray.trans ?_; (repeat (first | exact List.getElem?_cons_zero | refine List.getElem?_cons_succ.trans ?_)))) (by kernel_rfl) (by exact rfl) | apply wpQI_on (by with_reducible (refine List.getElem?_toArray.trans ?_; (repeat (first | exact List.getElem?_cons_zero | refine List.getElem?_cons_succ.trans ?_)))) (by kernel_rfl) (by exact rfl)); (focus (intro W' hS; have hcS := hS.cells.1; have hfS := hS.cells.2; go_simp; (first | done | exact rfl | exact ⟨rfl, Below.refl _ _⟩ | (go_simp; first | done | exact rfl | exact ⟨rfl, Below.refl _ _⟩)))); intro K hK; go_simp; (try go_bits); refine hK _ ?_; clear hK K))); refine wpQI_nil ?_
      apply wpQ_fresh (i := 5) LInv.std (by with_reducible (refine List.getElem?_toArray.trans ?_; (repeat (first | exact List.getElem?_cons_zero | refine List.getElem?_cons_succ.trans ?_)))) (by kernel_rfl) (fun g => Value.pointer (some ⟨g, 0, none⟩)) (by exact rfl); (focus (intro W; go_simp; first | done | exact rfl | exact ⟨rfl, rfl⟩))
      intro g_r16_5 hN_r16_5 hG_r16_5 K hK
      go_simp; refine hK _ ?_; clear hK K
      have hne : w.heap.size ≠ g_r16_5 := by have := hN_r16_5; omega
      have hne := Ne.symm hne
      have hne : w101.heap.size ≠ g_r16_5 := by have := hN_r16_5; omega
      have hne := Ne.symm hne
      have hne : g_r11_6 ≠ g_r16_5 := by have := hN_r16_5; omega
      have hne := Ne.symm hne
      have hne : w305.heap.size ≠ g_r16_5 := by have := hN_r16_5; omega
      have hne := Ne.symm hne
      have hne : w305.heap.size + 1 ≠ g_r16_5 := by have := hN_r16_5; omega
      have hne := Ne.symm hne
      have hne : w306.heap.size ≠ g_r16_5 := by have := hN_r16_5; omega
      have hne := Ne.symm hne
      have hne : w306.heap.size + 1 ≠ g_r16_5 := by have := hN_r16_5; omega
      have hne := Ne.symm hne
      refine wpQ_done (by kernel_rfl) ?_
      intro w312 hF_w312 hSG
      have hz_w312 := hSG.1.1
      have hb_w312 := hSG.1.2
      have hB_r16_5 := (hSG.2 _ (List.mem_cons_self ..)).2; simp only at hB_r16_5; have hl_r16_5 := (hSG.size (List.mem_cons_self ..)); simp only at hl_r16_5
      have c_w312_r16_5_0 := cell_of_row w312 g_r16_5 0 _ _ _ hB_r16_5; simp only [List.getElem?_toArray, List.getElem?_cons_zero] at c_w312_r16_5_0
      have c_w312_r16_5_1 := cell_of_row w312 g_r16_5 1 _ _ _ hB_r16_5; simp only [List.getElem?_toArray, List.getElem?_cons_zero, List.getElem?_cons_succ] at c_w312_r16_5_1
      have fz_w312_r16_5 : (∀ o, w312.frozen? ⟨g_r16_5, o, none⟩ = false) := (fun o => frozen_of_row w312 g_r16_5 o _ _ hB_r16_5); have HH_r16_5 := Lib.hid hB_r16_5; clear hB_r16_5
      clear hSG
      (with_reducible apply cel2 (b := w.heap.size) hb_w312); (focus ((try simp) <;> omega)); (focus omega); (focus (go_simp; try exact rfl)); (focus (go_simp; try exact rfl)); (focus (intro o; go_simp)); intro c_w312_0_0 c_w312_0_1 fz_w312_0 hl_w312_0; (with_reducible apply cel6 (b := w101.heap.size) hb_w312); (focus ((try simp) <;> omega)); (focus omega); (focus (go_simp; try exact rfl)); (focus (go_simp; try exact rfl)); (focus (go_simp; try exact rfl)); (focus (go_simp; try exact rfl)); (focus (go_simp; try exact rfl)); (focus (go_simp; try exact rfl)); (focus (intro o; go_simp)); intro c_w312_1_0 c_w312_1_1 c_w312_1_2 c_w312_1_3 c_w312_1_4 c_w312_1_5 fz_w312_1 hl_w312_1; (with_reducible apply cel2 (b := w305.heap.size) hb_w312); (focus ((try simp) <;> omega)); (focus omega); (focus (go_simp; try exact rfl)); (focus (go_simp; try exact rfl)); (focus (intro o; go_simp)); intro c_w312_2_0 c_w312_2_1 fz_w312_2 hl_w312_2; (with_reducible apply cel2 (b := w306.heap.size) hb_w312); (focus ((try simp) <;> omega)); (focus omega); (focus (go_simp; try exact rfl)); (focus (go_simp; try exact rfl)); (focus (intro o; go_simp)); intro c_w312_3_0 c_w312_3_1 fz_w312_3 hl_w312_3
      (try simp only [List.filterMap_cons, List.filterMap_nil, List.getElem?_cons_succ, List.getElem?_cons_zero])
      clear H305u
      clear H306u
      have HB312 := Lib.hid (HB309.out.trans (hb_w312.mono (by have := HB309.out.size; omega)))
      have hz312 : w.heap.size + 1 ≤ w312.heap.size := by omega
      have hn_r16_5 : w.heap.size + 1 ≤ g_r16_5 := by have := hN_r16_5; omega
      have hnb_r16_5 : w101.heap.size ≤ g_r16_5 := by have := hN_r16_5; omega
      clear hF_w312 hb_w312 HH_r16_5 hG_r16_5 hN_r16_5
      clear c_w309_0_0 c_w309_0_1 fz_w309_0 hl_w309_0 c_w309_1_0 c_w309_1_1 c_w309_1_2 c_w309_1_3 c_w309_1_4 c_w309_1_5 fz_w309_1 hl_w309_1 c_w309_2_0 c_w309_2_1 fz_w309_2 hl_w309_2 c_w309_3_0 c_w309_3_1 fz_w309_3 hl_w309_3
      go_wp2_with fail
      refine HQ_.out _ _ _ ?_
      clear HQ_ Q_
      go_wp2_with fail
      -- own blocks: w.heap.size:2, w101.heap.size:6, g_r16_5:2
      (go_at_call 47; refine (K9.out _ _ (by simp <;> omega) (by go_simp) (by go_simp)).mono ?_; rintro e w313 ⟨rfl, hb_w313⟩; have hz_w313 := hb_w313.size; (try simp at hz_w313); (with_reducible apply cel2 (b := w.heap.size) hb_w313); (focus ((try simp) <;> omega)); (focus omega); (focus (go_simp; try exact rfl)); (focus (go_simp; try exact rfl)); (focus (intro o; go_simp)); intro c_w313_0_0 c_w313_0_1 fz_w313_0 hl_w313_0; (with_reducible apply cel6 (b := w101.heap.size) hb_w313); (focus ((try simp) <;> omega)); (focus omega); (focus (go_simp; try exact rfl)); (focus (go_simp; try exact rfl)); (focus (go_simp; try exact rfl)); (focus (go_simp; try exact rfl)); (focus (go_simp; try exact rfl)); (focus (go_simp; try exact rfl)); (focus (intro o; go_simp)); intro c_w313_1_0 c_w313_1_1 c_w313_1_2 c_w313_1_3 c_w313_1_4 c_w313_1_5 fz_w313_1 hl_w313_1; (with_reducible apply cel2 (b := g_r16_5) hb_w313); (focus ((try simp) <;> omega)); (focus omega); (focus (go_simp; try exact rfl)); (focus (go_simp; try exact rfl)); (focus (intro o; go_simp)); intro c_w313_2_0 c_w313_2_1 fz_w313_2 hl_w313_2)
      have HB313 := Lib.hid (show Below w101.heap.size w101 w313 by have hB := HB312.out; ((with_reducible (repeat (first | exact bR _ _ | refine bS ?_ ?_ _ | refine bA ?_ ?_ _ | refine bD ?_ | refine bT ?_ (by assumption) ?_ | refine bO (by assumption) ?_ ?_))) <;> (first | omega | (simp; done) | (simp <;> omega))))
      have hz313 : w.heap.size + 1 ≤ w313.heap.size := by omega
      clear hb_w313
      clear c_w312_r16_5_0 c_w312_r16_5_1 fz_w312_r16_5 c_w312_0_0 c_w312_0_1 fz_w312_0 hl_w312_0 c_w312_1_0 c_w312_1_1 c_w312_1_2 c_w312_1_3 c_w312_1_4 c_w312_1_5 fz_w312_1 hl_w312_1 c_w312_2_0 c_w312_2_1 fz_w312_2 hl_w312_2 c_w312_3_0 c_w312_3_1 fz_w312_3 hl_w312_3
      go_wp2_with fail
      -- own blocks: w.heap.size:2, w101.heap.size:6
      refine bodyPost_ret (v := .tuple #[.agg #[.int .i64 x, .int .i64 y], .bool true]) (by simp only [results, Try.results26]; go_simp) rfl ⟨?_, ?_⟩
      · rfl
      · have hB := HB101.out; have hB2 := HB313.out; ((with_reducible (repeat (first | exact bR _ _ | refine bS ?_ ?_ _ | refine bA ?_ ?_ _ | refine bD ?_ | refine bT ?_ (by assumption) ?_ | refine bO (by assumption) ?_ ?_))) <;> (first | omega | (simp; done) | (simp <;> omega)))
end Go.Proofs.Ytgejdaincnclpaa
