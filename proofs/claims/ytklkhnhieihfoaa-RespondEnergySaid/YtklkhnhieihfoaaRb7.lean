/- Merged texts: RsF RsG RsH RsM VecH RsI RsP Open OpenV RsN (what no proof of the claim needs is left out). -/
import Derived.Test.YtklkhnhieihfoaaRb6
import Derived.Deep.LoopGhost
import Derived.Lib.Hide
import Derived.ProofKit
import Derived.OpenShut
import Derived.ChangeOld
import Derived.Below
import Derived.Carry
import Derived.Test.YtklkhnhieihfoaaProg
import Derived.KernelRfl
namespace Go.Proofs.Ytklkhnhieihfoaa
open Go Go.RowKit
set_option linter.unusedVariables false
attribute [local go_sem] makeFunc_run
def pairX (v n m c rest sgn : Int) : Int := 32 * v * m + sgn * (16 + rest) * n * c
structure SmP (v n m c rest sgn : Int) : Prop where
  v : -4194304 ≤ v ∧ v ≤ 4194304
  n : -4194304 ≤ n ∧ n ≤ 4194304
  m : -17592186044416 ≤ m ∧ m ≤ 17592186044416
  c : -17592186044416 ≤ c ∧ c ≤ 17592186044416
  rest : 0 ≤ rest ∧ rest ≤ 15
  sgn : -1 ≤ sgn ∧ sgn ≤ 1
theorem SmP.parts {v n m c rest sgn : Int} (h : SmP v n m c rest sgn) : (-31 ≤ sgn * (16 + rest) ∧ sgn * (16 + rest) ≤ 31) ∧ (-130023424 ≤ sgn * (16 + rest) * n ∧ sgn * (16 + rest) * n ≤ 130023424) ∧
    (-2361183241434822606848 ≤ 32 * v * m ∧ 32 * v * m ≤ 2361183241434822606848) ∧ (-2361183241434822606848 ≤ sgn * (16 + rest) * n * c ∧ sgn * (16 + rest) * n * c ≤ 2361183241434822606848) := by
  obtain ⟨hv, hn, hm, hc, hr, hg⟩ := h
  have m1 := mulB sgn (16 + rest) 1 31 hg (by omega)
  have m2 := mulB (sgn * (16 + rest)) n 31 4194304 (by omega) hn
  have m3 := mulB (32 * v) m 134217728 17592186044416 (by omega) hm
  have m4 := mulB (sgn * (16 + rest) * n) c 134217728 17592186044416 (by omega) hc
  omega
theorem SmP.len {v n m c rest sgn : Int} (h : SmP v n m c rest sgn) : (canN (pairX v n m c rest sgn).natAbs).length ≤ 10 := by
  obtain ⟨_, _, a, b⟩ := h.parts
  unfold pairX
  exact canN_bd (B := 18446744073709551616 * 18446744073709551616) (by omega) (by omega) (by decide)
set_option maxRecDepth 100000 in
set_option maxHeartbeats 20000000 in
theorem pair1_any (v n m c rest sgn : Int) (b1 b2 b3 : Nat) (w : World) (hs : SmP v n m c rest sgn)
    (g1 : w.cell? ⟨b1, 0, none⟩ = some (.int .i64 m)) (g2 : w.cell? ⟨b2, 0, none⟩ = some (.int .i64 rest)) (g3 : w.cell? ⟨b3, 0, none⟩ = some (.int .i64 c)) :
    Calls Try.prog 93 #[.int .i64 v, .int .i64 n, .int .i64 sgn, .pointer (some ⟨b1, 0, none⟩), .pointer (some ⟨b2, 0, none⟩), .pointer (some ⟨b3, 0, none⟩)] w (ZOut (pairX v n m c rest sgn) w) := by
  have z1 : b1 < w.heap.size := by simpa using World.block_lt_of_cell? w _ g1
  have z2 : b2 < w.heap.size := by simpa using World.block_lt_of_cell? w _ g2
  have z3 : b3 < w.heap.size := by simpa using World.block_lt_of_cell? w _ g3
  obtain ⟨⟨p1, p2⟩, ⟨p3, p4⟩, p5, p6⟩ := hs.parts
  have hlen := hs.len
  obtain ⟨⟨v1, v2⟩, ⟨n1, n2⟩, ⟨m1, m2⟩, ⟨c1, c2⟩, ⟨r1, r2⟩, ⟨e1, e2⟩⟩ := hs
  have k1 := fun w => wof_any (32 * v) w (by omega) (by omega)
  have k2 := fun w => wof_any m w (by omega) (by omega)
  have k4 := fun w => wof_any (sgn * (16 + rest) * n) w (by omega) (by omega)
  have k5 := fun w => wof_any c w (by omega) (by omega)
  have l1 := len_wd (z := 32 * v) (by omega) (by omega)
  have l2 := len_wd (z := m) (by omega) (by omega)
  have l4 := len_wd (z := sgn * (16 + rest) * n) (by omega) (by omega)
  have l5 := len_wd (z := c) (by omega) (by omega)
  have l3 : (canN (32 * v * m).natAbs).length ≤ 10 := canN_bd (B := 18446744073709551616 * 18446744073709551616) (by omega) (by omega) (by decide)
  have l6 : (canN (sgn * (16 + rest) * n * c).natAbs).length ≤ 10 := canN_bd (B := 18446744073709551616 * 18446744073709551616) (by omega) (by omega) (by decide)
  have K1 := Lib.hid k1
  have K4 := Lib.hid k4
  clear k1 k4
  obtain ⟨P, hP⟩ : ∃ P, P = 32 * v := ⟨_, rfl⟩
  obtain ⟨Q, hQ⟩ : ∃ Q, Q = sgn * (16 + rest) * n := ⟨_, rfl⟩
  unfold pairX at hlen ⊢
  rw [← hP] at l1 l3 hlen ⊢
  rw [← hQ] at l4 l6 hlen ⊢
  have kk1 := fun w => (K1.out w).mono (fun _ _ (h : ZOut (32 * v) w _ _) => (show ZOut P w _ _ by rw [hP]; exact h))
  have kk4 := fun w => (K4.out w).mono (fun _ _ (h : ZOut (sgn * (16 + rest) * n) w _ _) => (show ZOut Q w _ _ by rw [hQ]; exact h))
  replace K1 := Lib.hid kk1
  replace K4 := Lib.hid kk4
  clear hP hQ kk1 kk4
  have k3 := fun x y w h1 h2 => wmul_any 10 x y P m w h1 h2 (by omega)
  have k6 := fun x y w h1 h2 => wmul_any 10 x y Q c w h1 h2 (by omega)
  have k7 := fun x y w h1 h2 => wadd_any 10 x y (P * m) (Q * c) w h1 h2 (by omega)
  generalize P * m = Z3 at *
  generalize Q * c = Z6 at *
  generalize Z3 + Z6 = Z at *
  have K2 := Lib.hid k2
  have K3 := Lib.hid k3
  have K5 := Lib.hid k5
  have K6 := Lib.hid k6
  have K7 := Lib.hid k7
  have L1 := Lib.hid l1
  have L2 := Lib.hid l2
  have L3 := Lib.hid l3
  have L4 := Lib.hid l4
  have L5 := Lib.hid l5
  have L6 := Lib.hid l6
  have G1 := Lib.hid g1
  have G2 := Lib.hid g2
  have G3 := Lib.hid g3
  clear k2 k3 k5 k6 k7 l1 l2 l3 l4 l5 l6 p5 p6 hlen
  -- names on
  go_enter Try.func93, Try.ntmps93; (try simp only [List.append_eq, List.cons_append, List.nil_append])
  go_wp2_with fail
  -- own blocks: w.heap.size:2
  (refine pin_wp (N := _) (Nat.le_refl _) (fun w2 hb_w2 hz_w2 => ?_); (try simp at hz_w2); (with_reducible apply cel2 (b := w.heap.size) hb_w2); (focus ((try simp) <;> omega)); (focus omega); (focus (go_simp; try exact rfl)); (focus (go_simp; try exact rfl)); (focus (intro o; go_simp)); intro c_w2_0_0 c_w2_0_1 fz_w2_0 hl_w2_0); refine wp_q (fun Q_ HQ_ => ?_); refine wp_region_floatQ w2.heap.size 17 [17] (Nat.le_refl _) (fun _ => True) trivial Cl.tt (by kernel_rfl) (by kernel_rfl) ?_
  have HB2 := Lib.hid (show Below w.heap.size w w2 by ((with_reducible (repeat (first | exact bR _ _ | refine bS ?_ ?_ _ | refine bA ?_ ?_ _ | refine bD ?_ | refine bT ?_ (by assumption) ?_ | refine bO (by assumption) ?_ ?_))) <;> (first | omega | (simp; done) | (simp <;> omega))))
  have hz2 : w.heap.size + 1 ≤ w2.heap.size := by omega
  clear hb_w2
  skip
  have f1 : w2.cell? ⟨b1, 0, none⟩ = some (.int .i64 m) := (HB2.out.cell (p := ⟨b1, 0, none⟩) z1).trans G1.out
  have y1 : b1 < w2.heap.size := by omega
  have f2 : w2.cell? ⟨b2, 0, none⟩ = some (.int .i64 rest) := (HB2.out.cell (p := ⟨b2, 0, none⟩) z2).trans G2.out
  have y2 : b2 < w2.heap.size := by omega
  have f3 : w2.cell? ⟨b3, 0, none⟩ = some (.int .i64 c) := (HB2.out.cell (p := ⟨b3, 0, none⟩) z3).trans G3.out
  have y3 : b3 < w2.heap.size := by omega
  clear g1 g2 g3
  refine wpQI_start [0, 1] ?_; (iterate 2 (first | (refine wpQI_off (by with_reducible (refine List.getElem?_toArray.trans ?_; (repeat (first | exact List.getElem?_cons_zero | refine List.getElem?_cons_succ.trans ?_)))) (by kernel_rfl) (by exact rfl) (fun K hK => ?_); go_simp; refine hK _ ?_; clear hK K) | ((first | apply wpQI_step (by with_reducible (refine List.getElem?_toArray.trans ?_; (repeat (first | exact List.getElem?_cons_zero | refine List.getElem?_cons_succ.trans ?_)))) (by kernel_rfl) (by exact rfl) | apply wpQI_on (by with_reducible (refine List.getElem?_toArray.trans ?_; (repeat (first | exact List.getElem?_cons_zero | refine List.getElem?_cons_succ.trans ?_)))) (by kernel_rfl) (by exact rfl)); (focus (intro W' hS; have hcS := hS.cells.1; have hfS := hS.cells.2; go_simp; (first | done | exact rfl | exact ⟨rfl, Below.refl _ _⟩ | (go_simp; first | done | exact rfl | exact ⟨rfl, Below.refl _ _⟩)))); intro K hK; go_simp; (try go_bits); refine hK _ ?_; clear hK K))); refine wpQI_nil ?_
  refine wpQI_start [3] ?_; (iterate 1 (first | (refine wpQI_off (by with_reducible (refine List.getElem?_toArray.trans ?_; (repeat (first | exact List.getElem?_cons_zero | refine List.getElem?_cons_succ.trans ?_)))) (by kernel_rfl) (by exact rfl) (fun K hK => ?_); go_simp; refine hK _ ?_; clear hK K) | ((first | apply wpQI_step (by with_reducible (refine List.getElem?_toArray.trans ?_; (repeat (first | exact List.getElem?_cons_zero | refine List.getElem?_cons_succ.trans ?_)))) (by kernel_rfl) (by exact rfl) | apply wpQI_on (by with_reducible (refine List.getElem?_toArray.trans ?_; (repeat (first | exact List.getElem?_cons_zero | refine List.getElem?_cons_succ.trans ?_)))) (by kernel_rfl) (by exact rfl)); (focus (intro W' hS; have hcS := hS.cells.1; have hfS := hS.cells.2; go_simp; (first | done | exact rfl | exact ⟨rfl, Below.refl _ _⟩ | (go_simp; first | done | exact rfl | exact ⟨rfl, Below.refl _ _⟩)))); intro K hK; go_simp; (try go_bits); refine hK _ ?_; clear hK K))); refine wpQI_nil ?_
  refine wpQI_start [6, 7, 8, 9, 10, 11] ?_; (iterate 6 (first | (refine wpQI_off (by with_reducible (refine List.getElem?_toArray.trans ?_; (repeat (first | exact List.getElem?_cons_zero | refine List.getElem?_cons_succ.trans ?_)))) (by kernel_rfl) (by exact rfl) (fun K hK => ?_); go_simp; refine hK _ ?_; clear hK K) | ((first | apply wpQI_step (by with_reducible (refine List.getElem?_toArray.trans ?_; (repeat (first | exact List.getElem?_cons_zero | refine List.getElem?_cons_succ.trans ?_)))) (by kernel_rfl) (by exact rfl) | apply wpQI_on (by with_reducible (refine List.getElem?_toArray.trans ?_; (repeat (first | exact List.getElem?_cons_zero | refine List.getElem?_cons_succ.trans ?_)))) (by kernel_rfl) (by exact rfl)); (focus (intro W' hS; have hcS := hS.cells.1; have hfS := hS.cells.2; go_simp; (first | done | exact rfl | exact ⟨rfl, Below.refl _ _⟩ | (go_simp; first | done | exact rfl | exact ⟨rfl, Below.refl _ _⟩)))); intro K hK; go_simp; (try go_bits); refine hK _ ?_; clear hK K))); refine wpQI_nil ?_
  refine wpQI_start [13] ?_; (iterate 1 (first | (refine wpQI_off (by with_reducible (refine List.getElem?_toArray.trans ?_; (repeat (first | exact List.getElem?_cons_zero | refine List.getElem?_cons_succ.trans ?_)))) (by kernel_rfl) (by exact rfl) (fun K hK => ?_); go_simp; refine hK _ ?_; clear hK K) | ((first | apply wpQI_step (by with_reducible (refine List.getElem?_toArray.trans ?_; (repeat (first | exact List.getElem?_cons_zero | refine List.getElem?_cons_succ.trans ?_)))) (by kernel_rfl) (by exact rfl) | apply wpQI_on (by with_reducible (refine List.getElem?_toArray.trans ?_; (repeat (first | exact List.getElem?_cons_zero | refine List.getElem?_cons_succ.trans ?_)))) (by kernel_rfl) (by exact rfl)); (focus (intro W' hS; have hcS := hS.cells.1; have hfS := hS.cells.2; go_simp; (first | done | exact rfl | exact ⟨rfl, Below.refl _ _⟩ | (go_simp; first | done | exact rfl | exact ⟨rfl, Below.refl _ _⟩)))); intro K hK; go_simp; (try go_bits); refine hK _ ?_; clear hK K))); refine wpQI_nil ?_
  apply wpQ_call (i := 2) (by with_reducible (refine List.getElem?_toArray.trans ?_; (repeat (first | exact List.getElem?_cons_zero | refine List.getElem?_cons_succ.trans ?_)))) (by kernel_rfl) (by exact rfl); intro W hF hS; have hcS := hS.1.cells.1; have hfS := hS.1.cells.2; go_simp; (go_at_call 79; refine (K1.out _).mono ?_; rintro e w3 ⟨hb_w3, v3, rfl, hv3⟩; refine XPost.mk _ (fun W => IsC W v3 (P)) hb_w3 (hv3) (IsC.cl _ _) ?_); clear hb_w3 hcS hfS hS hF
  intro K hK; go_simp; (try go_bits); refine hK _ ?_; clear hK K
  obtain ⟨s3, A3, n3, c3, rfl⟩ := IsC.val hv3
  clear hv3
  apply wpQ_call (i := 4) (by with_reducible (refine List.getElem?_toArray.trans ?_; (repeat (first | exact List.getElem?_cons_zero | refine List.getElem?_cons_succ.trans ?_)))) (by kernel_rfl) (by exact rfl); intro W hF hS; have hcS := hS.1.cells.1; have hfS := hS.1.cells.2; go_simp; (go_at_call 79; refine (K2.out _).mono ?_; rintro e w4 ⟨hb_w4, v4, rfl, hv4⟩; refine XPost.mk _ (fun W => IsC W v4 (m)) hb_w4 (hv4) (IsC.cl _ _) ?_); clear hb_w4 hcS hfS hS hF
  intro K hK; go_simp; (try go_bits); refine hK _ ?_; clear hK K
  obtain ⟨s4, A4, n4, c4, rfl⟩ := IsC.val hv4
  clear hv4
  apply wpQ_call (i := 5) (by with_reducible (refine List.getElem?_toArray.trans ?_; (repeat (first | exact List.getElem?_cons_zero | refine List.getElem?_cons_succ.trans ?_)))) (by kernel_rfl) (by exact rfl); intro W hF hS; have hcS := hS.1.cells.1; have hfS := hS.1.cells.2; go_simp; (go_at_call 78; refine (K3.out _ _ _ (hF.1.zl L1.out) (hF.2.zl L2.out)).mono ?_; rintro e w5 ⟨hb_w5, v5, rfl, hv5⟩; refine XPost.mk _ (fun W => IsC W v5 (Z3)) hb_w5 (hv5) (IsC.cl _ _) ?_); clear hb_w5 hcS hfS hS hF
  intro K hK; go_simp; (try go_bits); refine hK _ ?_; clear hK K
  obtain ⟨s5, A5, n5, c5, rfl⟩ := IsC.val hv5
  clear hv5
  apply wpQ_call (i := 12) (by with_reducible (refine List.getElem?_toArray.trans ?_; (repeat (first | exact List.getElem?_cons_zero | refine List.getElem?_cons_succ.trans ?_)))) (by kernel_rfl) (by exact rfl); intro W hF hS; have hcS := hS.1.cells.1; have hfS := hS.1.cells.2; go_simp; (go_at_call 79; refine (K4.out _).mono ?_; rintro e w6 ⟨hb_w6, v6, rfl, hv6⟩; refine XPost.mk _ (fun W => IsC W v6 (Q)) hb_w6 (hv6) (IsC.cl _ _) ?_); clear hb_w6 hcS hfS hS hF
  intro K hK; go_simp; (try go_bits); refine hK _ ?_; clear hK K
  obtain ⟨s6, A6, n6, c6, rfl⟩ := IsC.val hv6
  clear hv6
  apply wpQ_call (i := 14) (by with_reducible (refine List.getElem?_toArray.trans ?_; (repeat (first | exact List.getElem?_cons_zero | refine List.getElem?_cons_succ.trans ?_)))) (by kernel_rfl) (by exact rfl); intro W hF hS; have hcS := hS.1.cells.1; have hfS := hS.1.cells.2; go_simp; (go_at_call 79; refine (K5.out _).mono ?_; rintro e w7 ⟨hb_w7, v7, rfl, hv7⟩; refine XPost.mk _ (fun W => IsC W v7 (c)) hb_w7 (hv7) (IsC.cl _ _) ?_); clear hb_w7 hcS hfS hS hF
  intro K hK; go_simp; (try go_bits); refine hK _ ?_; clear hK K
  obtain ⟨s7, A7, n7, c7, rfl⟩ := IsC.val hv7
  clear hv7
  apply wpQ_call (i := 15) (by with_reducible (refine List.getElem?_toArray.trans ?_; (repeat (first | exact List.getElem?_cons_zero | refine List.getElem?_cons_succ.trans ?_)))) (by kernel_rfl) (by exact rfl); intro W hF hS; have hcS := hS.1.cells.1; have hfS := hS.1.cells.2; go_simp; (go_at_call 78; refine (K6.out _ _ _ (hF.1.2.zl L4.out) (hF.2.zl L5.out)).mono ?_; rintro e w8 ⟨hb_w8, v8, rfl, hv8⟩; refine XPost.mk _ (fun W => IsC W v8 (Z6)) hb_w8 (hv8) (IsC.cl _ _) ?_); clear hb_w8 hcS hfS hS hF
  intro K hK; go_simp; (try go_bits); refine hK _ ?_; clear hK K
  obtain ⟨s8, A8, n8, c8, rfl⟩ := IsC.val hv8
  clear hv8
  apply wpQ_call (i := 16) (by with_reducible (refine List.getElem?_toArray.trans ?_; (repeat (first | exact List.getElem?_cons_zero | refine List.getElem?_cons_succ.trans ?_)))) (by kernel_rfl) (by exact rfl); intro W hF hS; have hcS := hS.1.cells.1; have hfS := hS.1.cells.2; go_simp; (go_at_call 88; refine (K7.out _ _ _ (hF.1.1.1.2.zl L3.out) (hF.2.zl L6.out)).mono ?_; rintro e w9 ⟨hb_w9, v9, rfl, hv9⟩; refine XPost.mk _ (fun W => IsC W v9 (Z)) hb_w9 (hv9) (IsC.cl _ _) ?_); clear hb_w9 hcS hfS hS hF
  intro K hK; go_simp; (try go_bits); refine hK _ ?_; clear hK K
  obtain ⟨s9, A9, n9, c9, rfl⟩ := IsC.val hv9
  clear hv9
  refine wpQ_done (by kernel_rfl) ?_
  intro w10 hF_w10 hSG
  have hz_w10 := hSG.1.1
  have hb_w10 := hSG.1.2
  clear hSG
  (with_reducible apply cel2 (b := w.heap.size) hb_w10); (focus ((try simp) <;> omega)); (focus omega); (focus (go_simp; try exact rfl)); (focus (go_simp; try exact rfl)); (focus (intro o; go_simp)); intro c_w10_0_0 c_w10_0_1 fz_w10_0 hl_w10_0
  (try simp only [List.filterMap_cons, List.filterMap_nil, List.getElem?_cons_succ, List.getElem?_cons_zero])
  have H3 := Lib.hid (show IsC w10 (.agg #[.bool s3, .slice A3 n3 c3]) (P) from hF_w10.1.1.1.1.1.1)
  have H4 := Lib.hid (show IsC w10 (.agg #[.bool s4, .slice A4 n4 c4]) (m) from hF_w10.1.1.1.1.1.2)
  have H5 := Lib.hid (show IsC w10 (.agg #[.bool s5, .slice A5 n5 c5]) (Z3) from hF_w10.1.1.1.1.2)
  have H6 := Lib.hid (show IsC w10 (.agg #[.bool s6, .slice A6 n6 c6]) (Q) from hF_w10.1.1.1.2)
  have H7 := Lib.hid (show IsC w10 (.agg #[.bool s7, .slice A7 n7 c7]) (c) from hF_w10.1.1.2)
  have H8 := Lib.hid (show IsC w10 (.agg #[.bool s8, .slice A8 n8 c8]) (Z6) from hF_w10.1.2)
  have H9 := Lib.hid (show IsC w10 (.agg #[.bool s9, .slice A9 n9 c9]) (Z) from hF_w10.2)
  have HB10 := Lib.hid (HB2.out.trans (hb_w10.mono (by have := HB2.out.size; omega)))
  have hz10 : w.heap.size + 1 ≤ w10.heap.size := by omega
  clear hF_w10 hb_w10
  clear c_w2_0_0 c_w2_0_1 fz_w2_0 hl_w2_0
  go_wp2_with fail
  refine HQ_.out _ _ _ ?_
  clear HQ_ Q_
  go_wp2_with fail
  -- own blocks: w.heap.size:2
  refine bodyPost_ret (v := .agg #[.bool s9, .slice A9 n9 c9]) (by simp only [results, Try.results93]; go_simp) rfl ⟨?_, ?_⟩
  · have hB := HB10.out; ((with_reducible (repeat (first | exact bR _ _ | refine bS ?_ ?_ _ | refine bA ?_ ?_ _ | refine bD ?_ | refine bT ?_ (by assumption) ?_ | refine bO (by assumption) ?_ ?_))) <;> (first | omega | (simp; done) | (simp <;> omega)))
  · exact ⟨_, rfl, (by ((repeat (first | (with_reducible exact H9.out) | (with_reducible refine IsC.al ?_ _) | (with_reducible apply IsC.st1))) <;> (first | (with_reducible assumption) | (intro _ e; cases e; done) | (go_simp; first | done | exact rfl))))⟩
theorem sp1 {v1 v2 w1 w2 n1 n2 rest x n sgn : Int} (h : permB v1 v2 w1 w2 n1 n2 = true) (hr : sixB rest = true) (hx : -1048576 ≤ x ∧ x ≤ 1048576) (hn : -2097152 ≤ n ∧ n ≤ 2097152) (hs : -1 ≤ sgn ∧ sgn ≤ 1) : SmP x n (n1 * n1 + n2 * n2) ((v1 - w1) * n1 + (v2 - w2) * n2) rest sgn := by
  obtain ⟨a, b, c⟩ := perm_bd h
  obtain ⟨d, e, f⟩ := perm_prod h
  simp only [sixB, decide_eq_true_eq] at hr
  exact ⟨by omega, by omega, by omega, by omega, by omega, by omega⟩
def pairR (v1 v2 w1 w2 n1 n2 rest : Int) : (Int × Int × Int) × (Int × Int × Int) :=
  if permB v1 v2 w1 w2 n1 n2 = true ∧ sixB rest = true then
    if apprB v1 v2 w1 w2 n1 n2 = true then
      (lowR (pairX v1 n1 (n1 * n1 + n2 * n2) ((v1 - w1) * n1 + (v2 - w2) * n2) rest (-1)) (pairX v2 n2 (n1 * n1 + n2 * n2) ((v1 - w1) * n1 + (v2 - w2) * n2) rest (-1)) (32 * (n1 * n1 + n2 * n2)),
       lowR (pairX w1 n1 (n1 * n1 + n2 * n2) ((v1 - w1) * n1 + (v2 - w2) * n2) rest 1) (pairX w2 n2 (n1 * n1 + n2 * n2) ((v1 - w1) * n1 + (v2 - w2) * n2) rest 1) (32 * (n1 * n1 + n2 * n2)))
    else ((v1, v2, 1), (w1, w2, 1))
  else ((0, 0, 0), (0, 0, 0))
def POut2 (R : (Int × Int × Int) × (Int × Int × Int)) (w : World) (e : Ending) (w' : World) : Prop := RROut R.1.1 R.1.2.1 R.1.2.2 R.2.1 R.2.2.1 R.2.2.2 w e w'
set_option maxRecDepth 100000 in
set_option maxHeartbeats 20000000 in
theorem pair_bad (v1 v2 w1 w2 n1 n2 rest : Int) (w : World) (h : ¬ (permB v1 v2 w1 w2 n1 n2 = true ∧ sixB rest = true)) :
    Calls Try.prog 40 #[.agg #[.int .i64 v1, .int .i64 v2], .agg #[.int .i64 w1, .int .i64 w2], .agg #[.int .i64 n1, .int .i64 n2], .int .i64 rest] w (RROut 0 0 0 0 0 0 w) := by
  have k1 := fun w => permitted_any v1 v2 w1 w2 n1 n2 w
  have k2 := fun g w => sixteenths_one rest g w
  generalize permB v1 v2 w1 w2 n1 n2 = c1 at *
  generalize sixB rest = c2 at *
  have H := Lib.hid h
  have K1 := Lib.hid k1
  have K2 := Lib.hid k2
  clear k1 k2 h
  go_enter Try.func40, Try.ntmps40; (try simp only [List.append_eq, List.cons_append, List.nil_append])
  go_wp2_with fail
  -- own blocks: w.heap.size:2, w.heap.size + 1:2, w.heap.size + 1 + 1:2, w.heap.size + 1 + 1 + 1:1, w.heap.size + 1 + 1 + 1 + 1:6, w.heap.size + 1 + 1 + 1 + 1 + 1:6
  (go_at_call 70; refine (K1.out _).mono ?_; rintro e w1 ⟨rfl, hb_w1⟩; have hz_w1 := hb_w1.size; (try simp at hz_w1); (with_reducible apply cel2 (b := w.heap.size) hb_w1); (focus ((try simp) <;> omega)); (focus omega); (focus (go_simp; try exact rfl)); (focus (go_simp; try exact rfl)); (focus (intro o; go_simp)); intro c_w1_0_0 c_w1_0_1 fz_w1_0 hl_w1_0; (with_reducible apply cel2 (b := w.heap.size + 1) hb_w1); (focus ((try simp) <;> omega)); (focus omega); (focus (go_simp; try exact rfl)); (focus (go_simp; try exact rfl)); (focus (intro o; go_simp)); intro c_w1_1_0 c_w1_1_1 fz_w1_1 hl_w1_1; (with_reducible apply cel2 (b := w.heap.size + 1 + 1) hb_w1); (focus ((try simp) <;> omega)); (focus omega); (focus (go_simp; try exact rfl)); (focus (go_simp; try exact rfl)); (focus (intro o; go_simp)); intro c_w1_2_0 c_w1_2_1 fz_w1_2 hl_w1_2; (with_reducible apply cel1 (b := w.heap.size + 1 + 1 + 1) hb_w1); (focus ((try simp) <;> omega)); (focus omega); (focus (go_simp; try exact rfl)); (focus (intro o; go_simp)); intro c_w1_3_0 fz_w1_3 hl_w1_3; (with_reducible apply cel6 (b := w.heap.size + 1 + 1 + 1 + 1) hb_w1); (focus ((try simp) <;> omega)); (focus omega); (focus (go_simp; try exact rfl)); (focus (go_simp; try exact rfl)); (focus (go_simp; try exact rfl)); (focus (go_simp; try exact rfl)); (focus (go_simp; try exact rfl)); (focus (go_simp; try exact rfl)); (focus (intro o; go_simp)); intro c_w1_4_0 c_w1_4_1 c_w1_4_2 c_w1_4_3 c_w1_4_4 c_w1_4_5 fz_w1_4 hl_w1_4; (with_reducible apply cel6 (b := w.heap.size + 1 + 1 + 1 + 1 + 1) hb_w1); (focus ((try simp) <;> omega)); (focus omega); (focus (go_simp; try exact rfl)); (focus (go_simp; try exact rfl)); (focus (go_simp; try exact rfl)); (focus (go_simp; try exact rfl)); (focus (go_simp; try exact rfl)); (focus (go_simp; try exact rfl)); (focus (intro o; go_simp)); intro c_w1_5_0 c_w1_5_1 c_w1_5_2 c_w1_5_3 c_w1_5_4 c_w1_5_5 fz_w1_5 hl_w1_5)
  cases c1
  · go_wp2_with fail
    refine bodyPost_ret (v := .tuple #[.agg #[.bool false, .slice none 0 0, .bool false, .slice none 0 0, .bool false, .slice none 0 0], .agg #[.bool false, .slice none 0 0, .bool false, .slice none 0 0, .bool false, .slice none 0 0]]) (by simp only [results, Try.results40]; go_simp) rfl ⟨?_, ?_⟩
    · ((with_reducible (repeat (first | exact bR _ _ | refine bS ?_ ?_ _ | refine bA ?_ ?_ _ | refine bD ?_ | refine bT ?_ (by assumption) ?_ | refine bO (by assumption) ?_ ?_))) <;> (first | omega | (simp; done) | (simp <;> omega)))
    · exact ⟨_, _, rfl, RAt.zero _, RAt.zero _⟩
  · go_wp2_with fail
    (go_at_call 75; refine (K2.out _ _ (by simp) (by go_simp)).mono ?_; rintro e w2 ⟨rfl, hb_w2⟩; have hz_w2 := hb_w2.size; (try simp at hz_w2); (with_reducible apply cel2 (b := w.heap.size) hb_w2); (focus ((try simp) <;> omega)); (focus omega); (focus (go_simp; try exact rfl)); (focus (go_simp; try exact rfl)); (focus (intro o; go_simp)); intro c_w2_0_0 c_w2_0_1 fz_w2_0 hl_w2_0; (with_reducible apply cel2 (b := w.heap.size + 1) hb_w2); (focus ((try simp) <;> omega)); (focus omega); (focus (go_simp; try exact rfl)); (focus (go_simp; try exact rfl)); (focus (intro o; go_simp)); intro c_w2_1_0 c_w2_1_1 fz_w2_1 hl_w2_1; (with_reducible apply cel2 (b := w.heap.size + 1 + 1) hb_w2); (focus ((try simp) <;> omega)); (focus omega); (focus (go_simp; try exact rfl)); (focus (go_simp; try exact rfl)); (focus (intro o; go_simp)); intro c_w2_2_0 c_w2_2_1 fz_w2_2 hl_w2_2; (with_reducible apply cel1 (b := w.heap.size + 1 + 1 + 1) hb_w2); (focus ((try simp) <;> omega)); (focus omega); (focus (go_simp; try exact rfl)); (focus (intro o; go_simp)); intro c_w2_3_0 fz_w2_3 hl_w2_3; (with_reducible apply cel6 (b := w.heap.size + 1 + 1 + 1 + 1) hb_w2); (focus ((try simp) <;> omega)); (focus omega); (focus (go_simp; try exact rfl)); (focus (go_simp; try exact rfl)); (focus (go_simp; try exact rfl)); (focus (go_simp; try exact rfl)); (focus (go_simp; try exact rfl)); (focus (go_simp; try exact rfl)); (focus (intro o; go_simp)); intro c_w2_4_0 c_w2_4_1 c_w2_4_2 c_w2_4_3 c_w2_4_4 c_w2_4_5 fz_w2_4 hl_w2_4; (with_reducible apply cel6 (b := w.heap.size + 1 + 1 + 1 + 1 + 1) hb_w2); (focus ((try simp) <;> omega)); (focus omega); (focus (go_simp; try exact rfl)); (focus (go_simp; try exact rfl)); (focus (go_simp; try exact rfl)); (focus (go_simp; try exact rfl)); (focus (go_simp; try exact rfl)); (focus (go_simp; try exact rfl)); (focus (intro o; go_simp)); intro c_w2_5_0 c_w2_5_1 c_w2_5_2 c_w2_5_3 c_w2_5_4 c_w2_5_5 fz_w2_5 hl_w2_5)
    cases c2
    · go_wp2_with fail
      refine bodyPost_ret (v := .tuple #[.agg #[.bool false, .slice none 0 0, .bool false, .slice none 0 0, .bool false, .slice none 0 0], .agg #[.bool false, .slice none 0 0, .bool false, .slice none 0 0, .bool false, .slice none 0 0]]) (by simp only [results, Try.results40]; go_simp) rfl ⟨?_, ?_⟩
      · ((with_reducible (repeat (first | exact bR _ _ | refine bS ?_ ?_ _ | refine bA ?_ ?_ _ | refine bD ?_ | refine bT ?_ (by assumption) ?_ | refine bO (by assumption) ?_ ?_))) <;> (first | omega | (simp; done) | (simp <;> omega)))
      · exact ⟨_, _, rfl, RAt.zero _, RAt.zero _⟩
    · exact absurd (by simp) H.out
set_option maxRecDepth 100000 in
set_option maxHeartbeats 20000000 in
theorem pair_away (v1 v2 w1 w2 n1 n2 rest : Int) (w : World) (h : permB v1 v2 w1 w2 n1 n2 = true) (hr : sixB rest = true) (ha : apprB v1 v2 w1 w2 n1 n2 = false) :
    Calls Try.prog 40 #[.agg #[.int .i64 v1, .int .i64 v2], .agg #[.int .i64 w1, .int .i64 w2], .agg #[.int .i64 n1, .int .i64 n2], .int .i64 rest] w (RROut v1 v2 1 w1 w2 1 w) := by
  obtain ⟨bv, bw, _⟩ := perm_bd h
  have k1 := fun w => permitted_any v1 v2 w1 w2 n1 n2 w
  have k2 := fun g w => sixteenths_one rest g w
  have k3 := fun w => approaches_any v1 v2 w1 w2 n1 n2 w
  rw [h] at k1
  rw [hr] at k2
  rw [ha] at k3
  have k4 := fun w => whole_any v1 v2 w (by omega) (by omega)
  have k5 := fun w => whole_any w1 w2 w (by omega) (by omega)
  have K1 := Lib.hid k1
  have K2 := Lib.hid k2
  have K3 := Lib.hid k3
  have K4 := Lib.hid k4
  have K5 := Lib.hid k5
  clear k1 k2 k3 k4 k5 h hr ha bv bw
  -- names on
  go_enter Try.func40, Try.ntmps40; (try simp only [List.append_eq, List.cons_append, List.nil_append])
  go_wp2_with fail
  -- own blocks: w.heap.size:2, w.heap.size + 1:2, w.heap.size + 1 + 1:2, w.heap.size + 1 + 1 + 1:1, w.heap.size + 1 + 1 + 1 + 1:6, w.heap.size + 1 + 1 + 1 + 1 + 1:6
  (go_at_call 70; refine (K1.out _).mono ?_; rintro e w101 ⟨rfl, hb_w101⟩; have hz_w101 := hb_w101.size; (try simp at hz_w101); (with_reducible apply cel2 (b := w.heap.size) hb_w101); (focus ((try simp) <;> omega)); (focus omega); (focus (go_simp; try exact rfl)); (focus (go_simp; try exact rfl)); (focus (intro o; go_simp)); intro c_w101_0_0 c_w101_0_1 fz_w101_0 hl_w101_0; (with_reducible apply cel2 (b := w.heap.size + 1) hb_w101); (focus ((try simp) <;> omega)); (focus omega); (focus (go_simp; try exact rfl)); (focus (go_simp; try exact rfl)); (focus (intro o; go_simp)); intro c_w101_1_0 c_w101_1_1 fz_w101_1 hl_w101_1; (with_reducible apply cel2 (b := w.heap.size + 1 + 1) hb_w101); (focus ((try simp) <;> omega)); (focus omega); (focus (go_simp; try exact rfl)); (focus (go_simp; try exact rfl)); (focus (intro o; go_simp)); intro c_w101_2_0 c_w101_2_1 fz_w101_2 hl_w101_2; (with_reducible apply cel1 (b := w.heap.size + 1 + 1 + 1) hb_w101); (focus ((try simp) <;> omega)); (focus omega); (focus (go_simp; try exact rfl)); (focus (intro o; go_simp)); intro c_w101_3_0 fz_w101_3 hl_w101_3; (with_reducible apply cel6 (b := w.heap.size + 1 + 1 + 1 + 1) hb_w101); (focus ((try simp) <;> omega)); (focus omega); (focus (go_simp; try exact rfl)); (focus (go_simp; try exact rfl)); (focus (go_simp; try exact rfl)); (focus (go_simp; try exact rfl)); (focus (go_simp; try exact rfl)); (focus (go_simp; try exact rfl)); (focus (intro o; go_simp)); intro c_w101_4_0 c_w101_4_1 c_w101_4_2 c_w101_4_3 c_w101_4_4 c_w101_4_5 fz_w101_4 hl_w101_4; (with_reducible apply cel6 (b := w.heap.size + 1 + 1 + 1 + 1 + 1) hb_w101); (focus ((try simp) <;> omega)); (focus omega); (focus (go_simp; try exact rfl)); (focus (go_simp; try exact rfl)); (focus (go_simp; try exact rfl)); (focus (go_simp; try exact rfl)); (focus (go_simp; try exact rfl)); (focus (go_simp; try exact rfl)); (focus (intro o; go_simp)); intro c_w101_5_0 c_w101_5_1 c_w101_5_2 c_w101_5_3 c_w101_5_4 c_w101_5_5 fz_w101_5 hl_w101_5)
  have HB101 := Lib.hid (show Below w.heap.size w w101 by ((with_reducible (repeat (first | exact bR _ _ | refine bS ?_ ?_ _ | refine bA ?_ ?_ _ | refine bD ?_ | refine bT ?_ (by assumption) ?_ | refine bO (by assumption) ?_ ?_))) <;> (first | omega | (simp; done) | (simp <;> omega))))
  have hz101 : w.heap.size + 1 + 1 + 1 + 1 + 1 + 1 ≤ w101.heap.size := by omega
  clear hb_w101
  skip
  go_wp2_with fail
  -- own blocks: w.heap.size:2, w.heap.size + 1:2, w.heap.size + 1 + 1:2, w.heap.size + 1 + 1 + 1 + 1:6, w.heap.size + 1 + 1 + 1 + 1 + 1:6
  (go_at_call 75; refine (K2.out _ _ (by simp) (by go_simp)).mono ?_; rintro e w102 ⟨rfl, hb_w102⟩; have hz_w102 := hb_w102.size; (try simp at hz_w102); (with_reducible apply cel2 (b := w.heap.size) hb_w102); (focus ((try simp) <;> omega)); (focus omega); (focus (go_simp; try exact rfl)); (focus (go_simp; try exact rfl)); (focus (intro o; go_simp)); intro c_w102_0_0 c_w102_0_1 fz_w102_0 hl_w102_0; (with_reducible apply cel2 (b := w.heap.size + 1) hb_w102); (focus ((try simp) <;> omega)); (focus omega); (focus (go_simp; try exact rfl)); (focus (go_simp; try exact rfl)); (focus (intro o; go_simp)); intro c_w102_1_0 c_w102_1_1 fz_w102_1 hl_w102_1; (with_reducible apply cel2 (b := w.heap.size + 1 + 1) hb_w102); (focus ((try simp) <;> omega)); (focus omega); (focus (go_simp; try exact rfl)); (focus (go_simp; try exact rfl)); (focus (intro o; go_simp)); intro c_w102_2_0 c_w102_2_1 fz_w102_2 hl_w102_2; (with_reducible apply cel6 (b := w.heap.size + 1 + 1 + 1 + 1) hb_w102); (focus ((try simp) <;> omega)); (focus omega); (focus (go_simp; try exact rfl)); (focus (go_simp; try exact rfl)); (focus (go_simp; try exact rfl)); (focus (go_simp; try exact rfl)); (focus (go_simp; try exact rfl)); (focus (go_simp; try exact rfl)); (focus (intro o; go_simp)); intro c_w102_3_0 c_w102_3_1 c_w102_3_2 c_w102_3_3 c_w102_3_4 c_w102_3_5 fz_w102_3 hl_w102_3; (with_reducible apply cel6 (b := w.heap.size + 1 + 1 + 1 + 1 + 1) hb_w102); (focus ((try simp) <;> omega)); (focus omega); (focus (go_simp; try exact rfl)); (focus (go_simp; try exact rfl)); (focus (go_simp; try exact rfl)); (focus (go_simp; try exact rfl)); (focus (go_simp; try exact rfl)); (focus (go_simp; try exact rfl)); (focus (intro o; go_simp)); intro c_w102_4_0 c_w102_4_1 c_w102_4_2 c_w102_4_3 c_w102_4_4 c_w102_4_5 fz_w102_4 hl_w102_4)
  have HB102 := Lib.hid (show Below w.heap.size w w102 by have hB := HB101.out; ((with_reducible (repeat (first | exact bR _ _ | refine bS ?_ ?_ _ | refine bA ?_ ?_ _ | refine bD ?_ | refine bT ?_ (by assumption) ?_ | refine bO (by assumption) ?_ ?_))) <;> (first | omega | (simp; done) | (simp <;> omega))))
  have hz102 : w.heap.size + 1 + 1 + 1 + 1 + 1 + 1 ≤ w102.heap.size := by omega
  clear hb_w102
  clear c_w101_0_0 c_w101_0_1 fz_w101_0 hl_w101_0 c_w101_1_0 c_w101_1_1 fz_w101_1 hl_w101_1 c_w101_2_0 c_w101_2_1 fz_w101_2 hl_w101_2 c_w101_3_0 fz_w101_3 hl_w101_3 c_w101_4_0 c_w101_4_1 c_w101_4_2 c_w101_4_3 c_w101_4_4 c_w101_4_5 fz_w101_4 hl_w101_4 c_w101_5_0 c_w101_5_1 c_w101_5_2 c_w101_5_3 c_w101_5_4 c_w101_5_5 fz_w101_5 hl_w101_5
  go_wp2_with fail
  -- own blocks: w.heap.size:2, w.heap.size + 1:2, w.heap.size + 1 + 1 + 1 + 1:6, w.heap.size + 1 + 1 + 1 + 1 + 1:6
  (go_at_call 26; refine (K3.out _).mono ?_; rintro e w103 ⟨rfl, hb_w103⟩; have hz_w103 := hb_w103.size; (try simp at hz_w103); (with_reducible apply cel2 (b := w.heap.size) hb_w103); (focus ((try simp) <;> omega)); (focus omega); (focus (go_simp; try exact rfl)); (focus (go_simp; try exact rfl)); (focus (intro o; go_simp)); intro c_w103_0_0 c_w103_0_1 fz_w103_0 hl_w103_0; (with_reducible apply cel2 (b := w.heap.size + 1) hb_w103); (focus ((try simp) <;> omega)); (focus omega); (focus (go_simp; try exact rfl)); (focus (go_simp; try exact rfl)); (focus (intro o; go_simp)); intro c_w103_1_0 c_w103_1_1 fz_w103_1 hl_w103_1; (with_reducible apply cel6 (b := w.heap.size + 1 + 1 + 1 + 1) hb_w103); (focus ((try simp) <;> omega)); (focus omega); (focus (go_simp; try exact rfl)); (focus (go_simp; try exact rfl)); (focus (go_simp; try exact rfl)); (focus (go_simp; try exact rfl)); (focus (go_simp; try exact rfl)); (focus (go_simp; try exact rfl)); (focus (intro o; go_simp)); intro c_w103_2_0 c_w103_2_1 c_w103_2_2 c_w103_2_3 c_w103_2_4 c_w103_2_5 fz_w103_2 hl_w103_2; (with_reducible apply cel6 (b := w.heap.size + 1 + 1 + 1 + 1 + 1) hb_w103); (focus ((try simp) <;> omega)); (focus omega); (focus (go_simp; try exact rfl)); (focus (go_simp; try exact rfl)); (focus (go_simp; try exact rfl)); (focus (go_simp; try exact rfl)); (focus (go_simp; try exact rfl)); (focus (go_simp; try exact rfl)); (focus (intro o; go_simp)); intro c_w103_3_0 c_w103_3_1 c_w103_3_2 c_w103_3_3 c_w103_3_4 c_w103_3_5 fz_w103_3 hl_w103_3)
  have HB103 := Lib.hid (show Below w.heap.size w w103 by have hB := HB102.out; ((with_reducible (repeat (first | exact bR _ _ | refine bS ?_ ?_ _ | refine bA ?_ ?_ _ | refine bD ?_ | refine bT ?_ (by assumption) ?_ | refine bO (by assumption) ?_ ?_))) <;> (first | omega | (simp; done) | (simp <;> omega))))
  have hz103 : w.heap.size + 1 + 1 + 1 + 1 + 1 + 1 ≤ w103.heap.size := by omega
  clear hb_w103
  clear c_w102_0_0 c_w102_0_1 fz_w102_0 hl_w102_0 c_w102_1_0 c_w102_1_1 fz_w102_1 hl_w102_1 c_w102_2_0 c_w102_2_1 fz_w102_2 hl_w102_2 c_w102_3_0 c_w102_3_1 c_w102_3_2 c_w102_3_3 c_w102_3_4 c_w102_3_5 fz_w102_3 hl_w102_3 c_w102_4_0 c_w102_4_1 c_w102_4_2 c_w102_4_3 c_w102_4_4 c_w102_4_5 fz_w102_4 hl_w102_4
  go_wp2_with fail
  -- own blocks: w.heap.size:2, w.heap.size + 1:2, w.heap.size + 1 + 1 + 1 + 1:6, w.heap.size + 1 + 1 + 1 + 1 + 1:6
  (refine pin_wp (N := _) (Nat.le_refl _) (fun w104 hb_w104 hz_w104 => ?_); (try simp at hz_w104); (with_reducible apply cel2 (b := w.heap.size) hb_w104); (focus ((try simp) <;> omega)); (focus omega); (focus (go_simp; try exact rfl)); (focus (go_simp; try exact rfl)); (focus (intro o; go_simp)); intro c_w104_0_0 c_w104_0_1 fz_w104_0 hl_w104_0; (with_reducible apply cel2 (b := w.heap.size + 1) hb_w104); (focus ((try simp) <;> omega)); (focus omega); (focus (go_simp; try exact rfl)); (focus (go_simp; try exact rfl)); (focus (intro o; go_simp)); intro c_w104_1_0 c_w104_1_1 fz_w104_1 hl_w104_1; (with_reducible apply cel6 (b := w.heap.size + 1 + 1 + 1 + 1) hb_w104); (focus ((try simp) <;> omega)); (focus omega); (focus (go_simp; try exact rfl)); (focus (go_simp; try exact rfl)); (focus (go_simp; try exact rfl)); (focus (go_simp; try exact rfl)); (focus (go_simp; try exact rfl)); (focus (go_simp; try exact rfl)); (focus (intro o; go_simp)); intro c_w104_2_0 c_w104_2_1 c_w104_2_2 c_w104_2_3 c_w104_2_4 c_w104_2_5 fz_w104_2 hl_w104_2; (with_reducible apply cel6 (b := w.heap.size + 1 + 1 + 1 + 1 + 1) hb_w104); (focus ((try simp) <;> omega)); (focus omega); (focus (go_simp; try exact rfl)); (focus (go_simp; try exact rfl)); (focus (go_simp; try exact rfl)); (focus (go_simp; try exact rfl)); (focus (go_simp; try exact rfl)); (focus (go_simp; try exact rfl)); (focus (intro o; go_simp)); intro c_w104_3_0 c_w104_3_1 c_w104_3_2 c_w104_3_3 c_w104_3_4 c_w104_3_5 fz_w104_3 hl_w104_3); refine wp_q (fun Q_ HQ_ => ?_); refine wp_region_floatQ w104.heap.size 4 [4, 5] (Nat.le_refl _) (fun _ => True) trivial Cl.tt (by kernel_rfl) (by kernel_rfl) ?_
  have HB104 := Lib.hid (show Below w.heap.size w w104 by have hB := HB103.out; ((with_reducible (repeat (first | exact bR _ _ | refine bS ?_ ?_ _ | refine bA ?_ ?_ _ | refine bD ?_ | refine bT ?_ (by assumption) ?_ | refine bO (by assumption) ?_ ?_))) <;> (first | omega | (simp; done) | (simp <;> omega))))
  have hz104 : w.heap.size + 1 + 1 + 1 + 1 + 1 + 1 ≤ w104.heap.size := by omega
  clear hb_w104
  clear c_w103_0_0 c_w103_0_1 fz_w103_0 hl_w103_0 c_w103_1_0 c_w103_1_1 fz_w103_1 hl_w103_1 c_w103_2_0 c_w103_2_1 c_w103_2_2 c_w103_2_3 c_w103_2_4 c_w103_2_5 fz_w103_2 hl_w103_2 c_w103_3_0 c_w103_3_1 c_w103_3_2 c_w103_3_3 c_w103_3_4 c_w103_3_5 fz_w103_3 hl_w103_3
  refine wpQI_start [0] ?_; (iterate 1 (first | (refine wpQI_off (by with_reducible (refine List.getElem?_toArray.trans ?_; (repeat (first | exact List.getElem?_cons_zero | refine List.getElem?_cons_succ.trans ?_)))) (by kernel_rfl) (by exact rfl) (fun K hK => ?_); go_simp; refine hK _ ?_; clear hK K) | ((first | apply wpQI_step (by with_reducible (refine List.getElem?_toArray.trans ?_; (repeat (first | exact List.getElem?_cons_zero | refine List.getElem?_cons_succ.trans ?_)))) (by kernel_rfl) (by exact rfl) | apply wpQI_on (by with_reducible (refine List.getElem?_toArray.trans ?_; (repeat (first | exact List.getElem?_cons_zero | refine List.getElem?_cons_succ.trans ?_)))) (by kernel_rfl) (by exact rfl)); (focus (intro W' hS; have hcS := hS.cells.1; have hfS := hS.cells.2; go_simp; (first | done | exact rfl | exact ⟨rfl, Below.refl _ _⟩ | (go_simp; first | done | exact rfl | exact ⟨rfl, Below.refl _ _⟩)))); intro K hK; go_simp; (try go_bits); refine hK _ ?_; clear hK K))); refine wpQI_nil ?_
  refine wpQI_start [2] ?_; (iterate 1 (first | (refine wpQI_off (by with_reducible (refine List.getElem?_toArray.trans ?_; (repeat (first | exact List.getElem?_cons_zero | refine List.getElem?_cons_succ.trans ?_)))) (by kernel_rfl) (by exact rfl) (fun K hK => ?_); go_simp; refine hK _ ?_; clear hK K) | ((first | apply wpQI_step (by with_reducible (refine List.getElem?_toArray.trans ?_; (repeat (first | exact List.getElem?_cons_zero | refine List.getElem?_cons_succ.trans ?_)))) (by kernel_rfl) (by exact rfl) | apply wpQI_on (by with_reducible (refine List.getElem?_toArray.trans ?_; (repeat (first | exact List.getElem?_cons_zero | refine List.getElem?_cons_succ.trans ?_)))) (by kernel_rfl) (by exact rfl)); (focus (intro W' hS; have hcS := hS.cells.1; have hfS := hS.cells.2; go_simp; (first | done | exact rfl | exact ⟨rfl, Below.refl _ _⟩ | (go_simp; first | done | exact rfl | exact ⟨rfl, Below.refl _ _⟩)))); intro K hK; go_simp; (try go_bits); refine hK _ ?_; clear hK K))); refine wpQI_nil ?_
  apply wpQ_call (i := 1) (by with_reducible (refine List.getElem?_toArray.trans ?_; (repeat (first | exact List.getElem?_cons_zero | refine List.getElem?_cons_succ.trans ?_)))) (by kernel_rfl) (by exact rfl); intro W hF hS; have hcS := hS.1.cells.1; have hfS := hS.1.cells.2; go_simp; (go_at_call 76; refine (K4.out _).mono ?_; rintro e w105 ⟨hb_w105, v105, rfl, hv105⟩; refine XPost.mk _ (fun W => RAt W v105 (v1) (v2) (1)) hb_w105 (hv105) (RAt.cl _ _ _ _) ?_); clear hb_w105 hcS hfS hS hF
  intro K hK; go_simp; (try go_bits); refine hK _ ?_; clear hK K
  obtain ⟨s105x, A105x, n105x, c105x, s105y, A105y, n105y, c105y, s105d, A105d, n105d, c105d, rfl⟩ := RAt.val hv105
  clear hv105
  apply wpQ_call (i := 3) (by with_reducible (refine List.getElem?_toArray.trans ?_; (repeat (first | exact List.getElem?_cons_zero | refine List.getElem?_cons_succ.trans ?_)))) (by kernel_rfl) (by exact rfl); intro W hF hS; have hcS := hS.1.cells.1; have hfS := hS.1.cells.2; go_simp; (go_at_call 76; refine (K5.out _).mono ?_; rintro e w106 ⟨hb_w106, v106, rfl, hv106⟩; refine XPost.mk _ (fun W => RAt W v106 (w1) (w2) (1)) hb_w106 (hv106) (RAt.cl _ _ _ _) ?_); clear hb_w106 hcS hfS hS hF
  intro K hK; go_simp; (try go_bits); refine hK _ ?_; clear hK K
  obtain ⟨s106x, A106x, n106x, c106x, s106y, A106y, n106y, c106y, s106d, A106d, n106d, c106d, rfl⟩ := RAt.val hv106
  clear hv106
  refine wpQ_done (by kernel_rfl) ?_
  intro w107 hF_w107 hSG
  have hz_w107 := hSG.1.1
  have hb_w107 := hSG.1.2
  clear hSG
  (with_reducible apply cel2 (b := w.heap.size) hb_w107); (focus ((try simp) <;> omega)); (focus omega); (focus (go_simp; try exact rfl)); (focus (go_simp; try exact rfl)); (focus (intro o; go_simp)); intro c_w107_0_0 c_w107_0_1 fz_w107_0 hl_w107_0; (with_reducible apply cel2 (b := w.heap.size + 1) hb_w107); (focus ((try simp) <;> omega)); (focus omega); (focus (go_simp; try exact rfl)); (focus (go_simp; try exact rfl)); (focus (intro o; go_simp)); intro c_w107_1_0 c_w107_1_1 fz_w107_1 hl_w107_1; (with_reducible apply cel6 (b := w.heap.size + 1 + 1 + 1 + 1) hb_w107); (focus ((try simp) <;> omega)); (focus omega); (focus (go_simp; try exact rfl)); (focus (go_simp; try exact rfl)); (focus (go_simp; try exact rfl)); (focus (go_simp; try exact rfl)); (focus (go_simp; try exact rfl)); (focus (go_simp; try exact rfl)); (focus (intro o; go_simp)); intro c_w107_2_0 c_w107_2_1 c_w107_2_2 c_w107_2_3 c_w107_2_4 c_w107_2_5 fz_w107_2 hl_w107_2; (with_reducible apply cel6 (b := w.heap.size + 1 + 1 + 1 + 1 + 1) hb_w107); (focus ((try simp) <;> omega)); (focus omega); (focus (go_simp; try exact rfl)); (focus (go_simp; try exact rfl)); (focus (go_simp; try exact rfl)); (focus (go_simp; try exact rfl)); (focus (go_simp; try exact rfl)); (focus (go_simp; try exact rfl)); (focus (intro o; go_simp)); intro c_w107_3_0 c_w107_3_1 c_w107_3_2 c_w107_3_3 c_w107_3_4 c_w107_3_5 fz_w107_3 hl_w107_3
  (try simp only [List.filterMap_cons, List.filterMap_nil, List.getElem?_cons_succ, List.getElem?_cons_zero])
  have H105 := Lib.hid (show RAt w107 (.agg #[.bool s105x, .slice A105x n105x c105x, .bool s105y, .slice A105y n105y c105y, .bool s105d, .slice A105d n105d c105d]) (v1) (v2) (1) from hF_w107.1)
  have H106 := Lib.hid (show RAt w107 (.agg #[.bool s106x, .slice A106x n106x c106x, .bool s106y, .slice A106y n106y c106y, .bool s106d, .slice A106d n106d c106d]) (w1) (w2) (1) from hF_w107.2)
  have HB107 := Lib.hid (HB104.out.trans (hb_w107.mono (by have := HB104.out.size; omega)))
  have hz107 : w.heap.size + 1 + 1 + 1 + 1 + 1 + 1 ≤ w107.heap.size := by omega
  clear hF_w107 hb_w107
  clear c_w104_0_0 c_w104_0_1 fz_w104_0 hl_w104_0 c_w104_1_0 c_w104_1_1 fz_w104_1 hl_w104_1 c_w104_2_0 c_w104_2_1 c_w104_2_2 c_w104_2_3 c_w104_2_4 c_w104_2_5 fz_w104_2 hl_w104_2 c_w104_3_0 c_w104_3_1 c_w104_3_2 c_w104_3_3 c_w104_3_4 c_w104_3_5 fz_w104_3 hl_w104_3
  go_wp2_with fail
  refine HQ_.out _ _ _ ?_
  clear HQ_ Q_
  go_wp2_with fail
  -- own blocks: w.heap.size + 1 + 1 + 1 + 1:6, w.heap.size + 1 + 1 + 1 + 1 + 1:6
  refine bodyPost_ret (v := .tuple #[.agg #[.bool s105x, .slice A105x n105x c105x, .bool s105y, .slice A105y n105y c105y, .bool s105d, .slice A105d n105d c105d], .agg #[.bool s106x, .slice A106x n106x c106x, .bool s106y, .slice A106y n106y c106y, .bool s106d, .slice A106d n106d c106d]]) (by simp only [results, Try.results40]; go_simp) rfl ⟨?_, ?_⟩
  · have hB := HB107.out; ((with_reducible (repeat (first | exact bR _ _ | refine bS ?_ ?_ _ | refine bA ?_ ?_ _ | refine bD ?_ | refine bT ?_ (by assumption) ?_ | refine bO (by assumption) ?_ ?_))) <;> (first | omega | (simp; done) | (simp <;> omega)))
  · exact ⟨_, _, rfl, (by ((repeat (first | (with_reducible exact H105.out) | (with_reducible refine RAt.al ?_ _) | (with_reducible apply RAt.st1))) <;> (first | (with_reducible assumption) | (intro _ e; cases e; done) | (go_simp; first | done | exact rfl)))), (by ((repeat (first | (with_reducible exact H106.out) | (with_reducible refine RAt.al ?_ _) | (with_reducible apply RAt.st1))) <;> (first | (with_reducible assumption) | (intro _ e; cases e; done) | (go_simp; first | done | exact rfl))))⟩
set_option maxRecDepth 100000 in
set_option maxHeartbeats 20000000 in
theorem pair_on (v1 v2 w1 w2 n1 n2 rest : Int) (w : World) (h : permB v1 v2 w1 w2 n1 n2 = true) (hr : sixB rest = true) (ha : apprB v1 v2 w1 w2 n1 n2 = true) :
    Calls Try.prog 40 #[.agg #[.int .i64 v1, .int .i64 v2], .agg #[.int .i64 w1, .int .i64 w2], .agg #[.int .i64 n1, .int .i64 n2], .int .i64 rest] w (POut2 ((lowR (pairX v1 n1 (n1 * n1 + n2 * n2) ((v1 - w1) * n1 + (v2 - w2) * n2) rest (-1)) (pairX v2 n2 (n1 * n1 + n2 * n2) ((v1 - w1) * n1 + (v2 - w2) * n2) rest (-1)) (32 * (n1 * n1 + n2 * n2))), (lowR (pairX w1 n1 (n1 * n1 + n2 * n2) ((v1 - w1) * n1 + (v2 - w2) * n2) rest 1) (pairX w2 n2 (n1 * n1 + n2 * n2) ((v1 - w1) * n1 + (v2 - w2) * n2) rest 1) (32 * (n1 * n1 + n2 * n2)))) w) := by
  obtain ⟨bv, bw, bn⟩ := perm_bd h
  obtain ⟨e1, e2, e3⟩ := perm_vals h
  obtain ⟨⟨p1, p2⟩, p3, p4⟩ := perm_prod h
  obtain ⟨_, _, q3⟩ := appr_bd ha
  have t1 := sp1 (x := v1) (n := n1) (sgn := -1) h hr (by omega) (by omega) (by omega)
  have t2 := sp1 (x := v2) (n := n2) (sgn := -1) h hr (by omega) (by omega) (by omega)
  have t3 := sp1 (x := w1) (n := n1) (sgn := 1) h hr (by omega) (by omega) (by omega)
  have t4 := sp1 (x := w2) (n := n2) (sgn := 1) h hr (by omega) (by omega) (by omega)
  have k1 := fun w => permitted_any v1 v2 w1 w2 n1 n2 w
  have k2 := fun g w => sixteenths_one rest g w
  have k3 := fun w => approaches_any v1 v2 w1 w2 n1 n2 w
  rw [h] at k1
  rw [hr] at k2
  rw [ha] at k3
  have k4 := fun w => vsub_any v1 v2 w1 w2 w
  have k5 := fun w => vdot_any (v1 - w1) (v2 - w2) n1 n2 w
  have k6 := fun w => vdot_any n1 n2 n1 n2 w
  rw [e1] at k4
  rw [e2] at k5
  rw [e3] at k6
  generalize (v1 - w1) * n1 + (v2 - w2) * n2 = C at *
  generalize n1 * n1 + n2 * n2 = M at *
  have k7 := fun w => wof_any (32 * M) w (by omega) (by omega)
  have k8 := fun b1 b2 b3 w g1 g2 g3 => pair1_any v1 n1 M C rest (-1) b1 b2 b3 w t1 g1 g2 g3
  have k9 := fun b1 b2 b3 w g1 g2 g3 => pair1_any v2 n2 M C rest (-1) b1 b2 b3 w t2 g1 g2 g3
  have k11 := fun b1 b2 b3 w g1 g2 g3 => pair1_any w1 n1 M C rest 1 b1 b2 b3 w t3 g1 g2 g3
  have k12 := fun b1 b2 b3 w g1 g2 g3 => pair1_any w2 n2 M C rest 1 b1 b2 b3 w t4 g1 g2 g3
  have l1 := t1.len
  have l2 := t2.len
  have l3 := t3.len
  have l4 := t4.len
  have l5 := len_wd (z := 32 * M) (by omega) (by omega)
  generalize pairX v1 n1 M C rest (-1) = X1 at *
  generalize pairX v2 n2 M C rest (-1) = X2 at *
  generalize pairX w1 n1 M C rest 1 = Y1 at *
  generalize pairX w2 n2 M C rest 1 = Y2 at *
  have k10 := fun v w hv => lowest_any X1 X2 (32 * M) v w hv (by omega) (by omega) (by omega) (by omega)
  have k13 := fun v w hv => lowest_any Y1 Y2 (32 * M) v w hv (by omega) (by omega) (by omega) (by omega)
  unfold POut2 lowR
  generalize X1.tdiv (lowG X1 X2 (32 * M)) = P1 at *
  generalize X2.tdiv (lowG X1 X2 (32 * M)) = P2 at *
  generalize (32 * M).tdiv (lowG X1 X2 (32 * M)) = P3 at *
  generalize Y1.tdiv (lowG Y1 Y2 (32 * M)) = Q1 at *
  generalize Y2.tdiv (lowG Y1 Y2 (32 * M)) = Q2 at *
  generalize (32 * M).tdiv (lowG Y1 Y2 (32 * M)) = Q3 at *
  have K1 := Lib.hid k1
  have K2 := Lib.hid k2
  have K3 := Lib.hid k3
  have K4 := Lib.hid k4
  have K5 := Lib.hid k5
  have K6 := Lib.hid k6
  have K7 := Lib.hid k7
  have K8 := Lib.hid k8
  have K9 := Lib.hid k9
  have K10 := Lib.hid k10
  have K11 := Lib.hid k11
  have K12 := Lib.hid k12
  have K13 := Lib.hid k13
  obtain ⟨bv1, bv2, bv3, bv4⟩ := bv
  obtain ⟨bw1, bw2, bw3, bw4⟩ := bw
  clear k1 k2 k3 k4 k5 k6 k7 k8 k9 k10 k11 k12 k13 h hr ha e1 e2 e3 t1 t2 t3 t4 l1 l2 l3 l4 l5
  simp only
  -- names on
  go_enter Try.func40, Try.ntmps40; (try simp only [List.append_eq, List.cons_append, List.nil_append])
  go_wp2_with fail
  -- own blocks: w.heap.size:2, w.heap.size + 1:2, w.heap.size + 1 + 1:2, w.heap.size + 1 + 1 + 1:1, w.heap.size + 1 + 1 + 1 + 1:6, w.heap.size + 1 + 1 + 1 + 1 + 1:6
  (go_at_call 70; refine (K1.out _).mono ?_; rintro e w101 ⟨rfl, hb_w101⟩; have hz_w101 := hb_w101.size; (try simp at hz_w101); (with_reducible apply cel2 (b := w.heap.size) hb_w101); (focus ((try simp) <;> omega)); (focus omega); (focus (go_simp; try exact rfl)); (focus (go_simp; try exact rfl)); (focus (intro o; go_simp)); intro c_w101_0_0 c_w101_0_1 fz_w101_0 hl_w101_0; (with_reducible apply cel2 (b := w.heap.size + 1) hb_w101); (focus ((try simp) <;> omega)); (focus omega); (focus (go_simp; try exact rfl)); (focus (go_simp; try exact rfl)); (focus (intro o; go_simp)); intro c_w101_1_0 c_w101_1_1 fz_w101_1 hl_w101_1; (with_reducible apply cel2 (b := w.heap.size + 1 + 1) hb_w101); (focus ((try simp) <;> omega)); (focus omega); (focus (go_simp; try exact rfl)); (focus (go_simp; try exact rfl)); (focus (intro o; go_simp)); intro c_w101_2_0 c_w101_2_1 fz_w101_2 hl_w101_2; (with_reducible apply cel1 (b := w.heap.size + 1 + 1 + 1) hb_w101); (focus ((try simp) <;> omega)); (focus omega); (focus (go_simp; try exact rfl)); (focus (intro o; go_simp)); intro c_w101_3_0 fz_w101_3 hl_w101_3; (with_reducible apply cel6 (b := w.heap.size + 1 + 1 + 1 + 1) hb_w101); (focus ((try simp) <;> omega)); (focus omega); (focus (go_simp; try exact rfl)); (focus (go_simp; try exact rfl)); (focus (go_simp; try exact rfl)); (focus (go_simp; try exact rfl)); (focus (go_simp; try exact rfl)); (focus (go_simp; try exact rfl)); (focus (intro o; go_simp)); intro c_w101_4_0 c_w101_4_1 c_w101_4_2 c_w101_4_3 c_w101_4_4 c_w101_4_5 fz_w101_4 hl_w101_4; (with_reducible apply cel6 (b := w.heap.size + 1 + 1 + 1 + 1 + 1) hb_w101); (focus ((try simp) <;> omega)); (focus omega); (focus (go_simp; try exact rfl)); (focus (go_simp; try exact rfl)); (focus (go_simp; try exact rfl)); (focus (go_simp; try exact rfl)); (focus (go_simp; try exact rfl)); (focus (go_simp; try exact rfl)); (focus (intro o; go_simp)); intro c_w101_5_0 c_w101_5_1 c_w101_5_2 c_w101_5_3 c_w101_5_4 c_w101_5_5 fz_w101_5 hl_w101_5)
  have HB101 := Lib.hid (show Below w.heap.size w w101 by ((with_reducible (repeat (first | exact bR _ _ | refine bS ?_ ?_ _ | refine bA ?_ ?_ _ | refine bD ?_ | refine bT ?_ (by assumption) ?_ | refine bO (by assumption) ?_ ?_))) <;> (first | omega | (simp; done) | (simp <;> omega))))
  have hz101 : w.heap.size + 1 + 1 + 1 + 1 + 1 + 1 ≤ w101.heap.size := by omega
  clear hb_w101
  skip
  go_wp2_with fail
  -- own blocks: w.heap.size:2, w.heap.size + 1:2, w.heap.size + 1 + 1:2, w.heap.size + 1 + 1 + 1:1, w.heap.size + 1 + 1 + 1 + 1:6, w.heap.size + 1 + 1 + 1 + 1 + 1:6
  (go_at_call 75; refine (K2.out _ _ (by simp) (by go_simp)).mono ?_; rintro e w102 ⟨rfl, hb_w102⟩; have hz_w102 := hb_w102.size; (try simp at hz_w102); (with_reducible apply cel2 (b := w.heap.size) hb_w102); (focus ((try simp) <;> omega)); (focus omega); (focus (go_simp; try exact rfl)); (focus (go_simp; try exact rfl)); (focus (intro o; go_simp)); intro c_w102_0_0 c_w102_0_1 fz_w102_0 hl_w102_0; (with_reducible apply cel2 (b := w.heap.size + 1) hb_w102); (focus ((try simp) <;> omega)); (focus omega); (focus (go_simp; try exact rfl)); (focus (go_simp; try exact rfl)); (focus (intro o; go_simp)); intro c_w102_1_0 c_w102_1_1 fz_w102_1 hl_w102_1; (with_reducible apply cel2 (b := w.heap.size + 1 + 1) hb_w102); (focus ((try simp) <;> omega)); (focus omega); (focus (go_simp; try exact rfl)); (focus (go_simp; try exact rfl)); (focus (intro o; go_simp)); intro c_w102_2_0 c_w102_2_1 fz_w102_2 hl_w102_2; (with_reducible apply cel1 (b := w.heap.size + 1 + 1 + 1) hb_w102); (focus ((try simp) <;> omega)); (focus omega); (focus (go_simp; try exact rfl)); (focus (intro o; go_simp)); intro c_w102_3_0 fz_w102_3 hl_w102_3; (with_reducible apply cel6 (b := w.heap.size + 1 + 1 + 1 + 1) hb_w102); (focus ((try simp) <;> omega)); (focus omega); (focus (go_simp; try exact rfl)); (focus (go_simp; try exact rfl)); (focus (go_simp; try exact rfl)); (focus (go_simp; try exact rfl)); (focus (go_simp; try exact rfl)); (focus (go_simp; try exact rfl)); (focus (intro o; go_simp)); intro c_w102_4_0 c_w102_4_1 c_w102_4_2 c_w102_4_3 c_w102_4_4 c_w102_4_5 fz_w102_4 hl_w102_4; (with_reducible apply cel6 (b := w.heap.size + 1 + 1 + 1 + 1 + 1) hb_w102); (focus ((try simp) <;> omega)); (focus omega); (focus (go_simp; try exact rfl)); (focus (go_simp; try exact rfl)); (focus (go_simp; try exact rfl)); (focus (go_simp; try exact rfl)); (focus (go_simp; try exact rfl)); (focus (go_simp; try exact rfl)); (focus (intro o; go_simp)); intro c_w102_5_0 c_w102_5_1 c_w102_5_2 c_w102_5_3 c_w102_5_4 c_w102_5_5 fz_w102_5 hl_w102_5)
  have HB102 := Lib.hid (show Below w.heap.size w w102 by have hB := HB101.out; ((with_reducible (repeat (first | exact bR _ _ | refine bS ?_ ?_ _ | refine bA ?_ ?_ _ | refine bD ?_ | refine bT ?_ (by assumption) ?_ | refine bO (by assumption) ?_ ?_))) <;> (first | omega | (simp; done) | (simp <;> omega))))
  have hz102 : w.heap.size + 1 + 1 + 1 + 1 + 1 + 1 ≤ w102.heap.size := by omega
  clear hb_w102
  clear c_w101_0_0 c_w101_0_1 fz_w101_0 hl_w101_0 c_w101_1_0 c_w101_1_1 fz_w101_1 hl_w101_1 c_w101_2_0 c_w101_2_1 fz_w101_2 hl_w101_2 c_w101_3_0 fz_w101_3 hl_w101_3 c_w101_4_0 c_w101_4_1 c_w101_4_2 c_w101_4_3 c_w101_4_4 c_w101_4_5 fz_w101_4 hl_w101_4 c_w101_5_0 c_w101_5_1 c_w101_5_2 c_w101_5_3 c_w101_5_4 c_w101_5_5 fz_w101_5 hl_w101_5
  go_wp2_with fail
  -- own blocks: w.heap.size:2, w.heap.size + 1:2, w.heap.size + 1 + 1:2, w.heap.size + 1 + 1 + 1:1, w.heap.size + 1 + 1 + 1 + 1:6, w.heap.size + 1 + 1 + 1 + 1 + 1:6
  (go_at_call 26; refine (K3.out _).mono ?_; rintro e w103 ⟨rfl, hb_w103⟩; have hz_w103 := hb_w103.size; (try simp at hz_w103); (with_reducible apply cel2 (b := w.heap.size) hb_w103); (focus ((try simp) <;> omega)); (focus omega); (focus (go_simp; try exact rfl)); (focus (go_simp; try exact rfl)); (focus (intro o; go_simp)); intro c_w103_0_0 c_w103_0_1 fz_w103_0 hl_w103_0; (with_reducible apply cel2 (b := w.heap.size + 1) hb_w103); (focus ((try simp) <;> omega)); (focus omega); (focus (go_simp; try exact rfl)); (focus (go_simp; try exact rfl)); (focus (intro o; go_simp)); intro c_w103_1_0 c_w103_1_1 fz_w103_1 hl_w103_1; (with_reducible apply cel2 (b := w.heap.size + 1 + 1) hb_w103); (focus ((try simp) <;> omega)); (focus omega); (focus (go_simp; try exact rfl)); (focus (go_simp; try exact rfl)); (focus (intro o; go_simp)); intro c_w103_2_0 c_w103_2_1 fz_w103_2 hl_w103_2; (with_reducible apply cel1 (b := w.heap.size + 1 + 1 + 1) hb_w103); (focus ((try simp) <;> omega)); (focus omega); (focus (go_simp; try exact rfl)); (focus (intro o; go_simp)); intro c_w103_3_0 fz_w103_3 hl_w103_3; (with_reducible apply cel6 (b := w.heap.size + 1 + 1 + 1 + 1) hb_w103); (focus ((try simp) <;> omega)); (focus omega); (focus (go_simp; try exact rfl)); (focus (go_simp; try exact rfl)); (focus (go_simp; try exact rfl)); (focus (go_simp; try exact rfl)); (focus (go_simp; try exact rfl)); (focus (go_simp; try exact rfl)); (focus (intro o; go_simp)); intro c_w103_4_0 c_w103_4_1 c_w103_4_2 c_w103_4_3 c_w103_4_4 c_w103_4_5 fz_w103_4 hl_w103_4; (with_reducible apply cel6 (b := w.heap.size + 1 + 1 + 1 + 1 + 1) hb_w103); (focus ((try simp) <;> omega)); (focus omega); (focus (go_simp; try exact rfl)); (focus (go_simp; try exact rfl)); (focus (go_simp; try exact rfl)); (focus (go_simp; try exact rfl)); (focus (go_simp; try exact rfl)); (focus (go_simp; try exact rfl)); (focus (intro o; go_simp)); intro c_w103_5_0 c_w103_5_1 c_w103_5_2 c_w103_5_3 c_w103_5_4 c_w103_5_5 fz_w103_5 hl_w103_5)
  have HB103 := Lib.hid (show Below w.heap.size w w103 by have hB := HB102.out; ((with_reducible (repeat (first | exact bR _ _ | refine bS ?_ ?_ _ | refine bA ?_ ?_ _ | refine bD ?_ | refine bT ?_ (by assumption) ?_ | refine bO (by assumption) ?_ ?_))) <;> (first | omega | (simp; done) | (simp <;> omega))))
  have hz103 : w.heap.size + 1 + 1 + 1 + 1 + 1 + 1 ≤ w103.heap.size := by omega
  clear hb_w103
  clear c_w102_0_0 c_w102_0_1 fz_w102_0 hl_w102_0 c_w102_1_0 c_w102_1_1 fz_w102_1 hl_w102_1 c_w102_2_0 c_w102_2_1 fz_w102_2 hl_w102_2 c_w102_3_0 fz_w102_3 hl_w102_3 c_w102_4_0 c_w102_4_1 c_w102_4_2 c_w102_4_3 c_w102_4_4 c_w102_4_5 fz_w102_4 hl_w102_4 c_w102_5_0 c_w102_5_1 c_w102_5_2 c_w102_5_3 c_w102_5_4 c_w102_5_5 fz_w102_5 hl_w102_5
  go_wp2_with fail
  -- own blocks: w.heap.size:2, w.heap.size + 1:2, w.heap.size + 1 + 1:2, w.heap.size + 1 + 1 + 1:1, w.heap.size + 1 + 1 + 1 + 1:6, w.heap.size + 1 + 1 + 1 + 1 + 1:6
  (refine pin_wp (N := _) (Nat.le_refl _) (fun w104 hb_w104 hz_w104 => ?_); (try simp at hz_w104); (with_reducible apply cel2 (b := w.heap.size) hb_w104); (focus ((try simp) <;> omega)); (focus omega); (focus (go_simp; try exact rfl)); (focus (go_simp; try exact rfl)); (focus (intro o; go_simp)); intro c_w104_0_0 c_w104_0_1 fz_w104_0 hl_w104_0; (with_reducible apply cel2 (b := w.heap.size + 1) hb_w104); (focus ((try simp) <;> omega)); (focus omega); (focus (go_simp; try exact rfl)); (focus (go_simp; try exact rfl)); (focus (intro o; go_simp)); intro c_w104_1_0 c_w104_1_1 fz_w104_1 hl_w104_1; (with_reducible apply cel2 (b := w.heap.size + 1 + 1) hb_w104); (focus ((try simp) <;> omega)); (focus omega); (focus (go_simp; try exact rfl)); (focus (go_simp; try exact rfl)); (focus (intro o; go_simp)); intro c_w104_2_0 c_w104_2_1 fz_w104_2 hl_w104_2; (with_reducible apply cel1 (b := w.heap.size + 1 + 1 + 1) hb_w104); (focus ((try simp) <;> omega)); (focus omega); (focus (go_simp; try exact rfl)); (focus (intro o; go_simp)); intro c_w104_3_0 fz_w104_3 hl_w104_3; (with_reducible apply cel6 (b := w.heap.size + 1 + 1 + 1 + 1) hb_w104); (focus ((try simp) <;> omega)); (focus omega); (focus (go_simp; try exact rfl)); (focus (go_simp; try exact rfl)); (focus (go_simp; try exact rfl)); (focus (go_simp; try exact rfl)); (focus (go_simp; try exact rfl)); (focus (go_simp; try exact rfl)); (focus (intro o; go_simp)); intro c_w104_4_0 c_w104_4_1 c_w104_4_2 c_w104_4_3 c_w104_4_4 c_w104_4_5 fz_w104_4 hl_w104_4; (with_reducible apply cel6 (b := w.heap.size + 1 + 1 + 1 + 1 + 1) hb_w104); (focus ((try simp) <;> omega)); (focus omega); (focus (go_simp; try exact rfl)); (focus (go_simp; try exact rfl)); (focus (go_simp; try exact rfl)); (focus (go_simp; try exact rfl)); (focus (go_simp; try exact rfl)); (focus (go_simp; try exact rfl)); (focus (intro o; go_simp)); intro c_w104_5_0 c_w104_5_1 c_w104_5_2 c_w104_5_3 c_w104_5_4 c_w104_5_5 fz_w104_5 hl_w104_5); refine wp_q (fun Q_ HQ_ => ?_); refine wp_region_floatQ w104.heap.size 10 [10, 11] (Nat.le_refl _) (fun _ => True) trivial Cl.tt (by kernel_rfl) (by kernel_rfl) ?_
  have HB104 := Lib.hid (show Below w.heap.size w w104 by have hB := HB103.out; ((with_reducible (repeat (first | exact bR _ _ | refine bS ?_ ?_ _ | refine bA ?_ ?_ _ | refine bD ?_ | refine bT ?_ (by assumption) ?_ | refine bO (by assumption) ?_ ?_))) <;> (first | omega | (simp; done) | (simp <;> omega))))
  have hz104 : w.heap.size + 1 + 1 + 1 + 1 + 1 + 1 ≤ w104.heap.size := by omega
  clear hb_w104
  clear c_w103_0_0 c_w103_0_1 fz_w103_0 hl_w103_0 c_w103_1_0 c_w103_1_1 fz_w103_1 hl_w103_1 c_w103_2_0 c_w103_2_1 fz_w103_2 hl_w103_2 c_w103_3_0 fz_w103_3 hl_w103_3 c_w103_4_0 c_w103_4_1 c_w103_4_2 c_w103_4_3 c_w103_4_4 c_w103_4_5 fz_w103_4 hl_w103_4 c_w103_5_0 c_w103_5_1 c_w103_5_2 c_w103_5_3 c_w103_5_4 c_w103_5_5 fz_w103_5 hl_w103_5
  refine wpQI_start [0, 1] ?_; (iterate 2 (first | (refine wpQI_off (by with_reducible (refine List.getElem?_toArray.trans ?_; (repeat (first | exact List.getElem?_cons_zero | refine List.getElem?_cons_succ.trans ?_)))) (by kernel_rfl) (by exact rfl) (fun K hK => ?_); go_simp; refine hK _ ?_; clear hK K) | ((first | apply wpQI_step (by with_reducible (refine List.getElem?_toArray.trans ?_; (repeat (first | exact List.getElem?_cons_zero | refine List.getElem?_cons_succ.trans ?_)))) (by kernel_rfl) (by exact rfl) | apply wpQI_on (by with_reducible (refine List.getElem?_toArray.trans ?_; (repeat (first | exact List.getElem?_cons_zero | refine List.getElem?_cons_succ.trans ?_)))) (by kernel_rfl) (by exact rfl)); (focus (intro W' hS; have hcS := hS.cells.1; have hfS := hS.cells.2; go_simp; (first | done | exact rfl | exact ⟨rfl, Below.refl _ _⟩ | (go_simp; first | done | exact rfl | exact ⟨rfl, Below.refl _ _⟩)))); intro K hK; go_simp; (try go_bits); refine hK _ ?_; clear hK K))); refine wpQI_nil ?_
  refine wpQI_start [3] ?_; (iterate 1 (first | (refine wpQI_off (by with_reducible (refine List.getElem?_toArray.trans ?_; (repeat (first | exact List.getElem?_cons_zero | refine List.getElem?_cons_succ.trans ?_)))) (by kernel_rfl) (by exact rfl) (fun K hK => ?_); go_simp; refine hK _ ?_; clear hK K) | ((first | apply wpQI_step (by with_reducible (refine List.getElem?_toArray.trans ?_; (repeat (first | exact List.getElem?_cons_zero | refine List.getElem?_cons_succ.trans ?_)))) (by kernel_rfl) (by exact rfl) | apply wpQI_on (by with_reducible (refine List.getElem?_toArray.trans ?_; (repeat (first | exact List.getElem?_cons_zero | refine List.getElem?_cons_succ.trans ?_)))) (by kernel_rfl) (by exact rfl)); (focus (intro W' hS; have hcS := hS.cells.1; have hfS := hS.cells.2; go_simp; (first | done | exact rfl | exact ⟨rfl, Below.refl _ _⟩ | (go_simp; first | done | exact rfl | exact ⟨rfl, Below.refl _ _⟩)))); intro K hK; go_simp; (try go_bits); refine hK _ ?_; clear hK K))); refine wpQI_nil ?_
  refine wpQI_start [5, 6] ?_; (iterate 2 (first | (refine wpQI_off (by with_reducible (refine List.getElem?_toArray.trans ?_; (repeat (first | exact List.getElem?_cons_zero | refine List.getElem?_cons_succ.trans ?_)))) (by kernel_rfl) (by exact rfl) (fun K hK => ?_); go_simp; refine hK _ ?_; clear hK K) | ((first | apply wpQI_step (by with_reducible (refine List.getElem?_toArray.trans ?_; (repeat (first | exact List.getElem?_cons_zero | refine List.getElem?_cons_succ.trans ?_)))) (by kernel_rfl) (by exact rfl) | apply wpQI_on (by with_reducible (refine List.getElem?_toArray.trans ?_; (repeat (first | exact List.getElem?_cons_zero | refine List.getElem?_cons_succ.trans ?_)))) (by kernel_rfl) (by exact rfl)); (focus (intro W' hS; have hcS := hS.cells.1; have hfS := hS.cells.2; go_simp; (first | done | exact rfl | exact ⟨rfl, Below.refl _ _⟩ | (go_simp; first | done | exact rfl | exact ⟨rfl, Below.refl _ _⟩)))); intro K hK; go_simp; (try go_bits); refine hK _ ?_; clear hK K))); refine wpQI_nil ?_
  refine wpQI_start [2] ?_; (iterate 1 (first | (refine wpQI_off (by with_reducible (refine List.getElem?_toArray.trans ?_; (repeat (first | exact List.getElem?_cons_zero | refine List.getElem?_cons_succ.trans ?_)))) (by kernel_rfl) (by exact rfl) (fun K hK => ?_); go_simp; refine hK _ ?_; clear hK K) | ((first | apply wpQI_step (by with_reducible (refine List.getElem?_toArray.trans ?_; (repeat (first | exact List.getElem?_cons_zero | refine List.getElem?_cons_succ.trans ?_)))) (by kernel_rfl) (by exact rfl) | apply wpQI_on (by with_reducible (refine List.getElem?_toArray.trans ?_; (repeat (first | exact List.getElem?_cons_zero | refine List.getElem?_cons_succ.trans ?_)))) (by kernel_rfl) (by exact rfl)); (focus (intro W' hS; have hcS := hS.cells.1; have hfS := hS.cells.2; go_simp; (first | done | exact rfl | exact ⟨rfl, Below.refl _ _⟩ | (go_at_call 20; exact (K4.out _).mono (fun _ _ h => ⟨h.1, h.2⟩)) | (go_simp; first | done | exact rfl | exact ⟨rfl, Below.refl _ _⟩)))); intro K hK; go_simp; (try go_bits); refine hK _ ?_; clear hK K))); refine wpQI_nil ?_
  refine wpQI_start [4] ?_; (iterate 1 (first | (refine wpQI_off (by with_reducible (refine List.getElem?_toArray.trans ?_; (repeat (first | exact List.getElem?_cons_zero | refine List.getElem?_cons_succ.trans ?_)))) (by kernel_rfl) (by exact rfl) (fun K hK => ?_); go_simp; refine hK _ ?_; clear hK K) | ((first | apply wpQI_step (by with_reducible (refine List.getElem?_toArray.trans ?_; (repeat (first | exact List.getElem?_cons_zero | refine List.getElem?_cons_succ.trans ?_)))) (by kernel_rfl) (by exact rfl) | apply wpQI_on (by with_reducible (refine List.getElem?_toArray.trans ?_; (repeat (first | exact List.getElem?_cons_zero | refine List.getElem?_cons_succ.trans ?_)))) (by kernel_rfl) (by exact rfl)); (focus (intro W' hS; have hcS := hS.cells.1; have hfS := hS.cells.2; go_simp; (first | done | exact rfl | exact ⟨rfl, Below.refl _ _⟩ | (go_at_call 19; exact (K5.out _).mono (fun _ _ h => ⟨h.1, h.2⟩)) | (go_simp; first | done | exact rfl | exact ⟨rfl, Below.refl _ _⟩)))); intro K hK; go_simp; (try go_bits); refine hK _ ?_; clear hK K))); refine wpQI_nil ?_
  refine wpQI_start [7] ?_; (iterate 1 (first | (refine wpQI_off (by with_reducible (refine List.getElem?_toArray.trans ?_; (repeat (first | exact List.getElem?_cons_zero | refine List.getElem?_cons_succ.trans ?_)))) (by kernel_rfl) (by exact rfl) (fun K hK => ?_); go_simp; refine hK _ ?_; clear hK K) | ((first | apply wpQI_step (by with_reducible (refine List.getElem?_toArray.trans ?_; (repeat (first | exact List.getElem?_cons_zero | refine List.getElem?_cons_succ.trans ?_)))) (by kernel_rfl) (by exact rfl) | apply wpQI_on (by with_reducible (refine List.getElem?_toArray.trans ?_; (repeat (first | exact List.getElem?_cons_zero | refine List.getElem?_cons_succ.trans ?_)))) (by kernel_rfl) (by exact rfl)); (focus (intro W' hS; have hcS := hS.cells.1; have hfS := hS.cells.2; go_simp; (first | done | exact rfl | exact ⟨rfl, Below.refl _ _⟩ | (go_at_call 19; exact (K6.out _).mono (fun _ _ h => ⟨h.1, h.2⟩)) | (go_simp; first | done | exact rfl | exact ⟨rfl, Below.refl _ _⟩)))); intro K hK; go_simp; (try go_bits); refine hK _ ?_; clear hK K))); refine wpQI_nil ?_
  apply wpQ_fresh (i := 8) LInv.std (by with_reducible (refine List.getElem?_toArray.trans ?_; (repeat (first | exact List.getElem?_cons_zero | refine List.getElem?_cons_succ.trans ?_)))) (by kernel_rfl) (fun g => Value.pointer (some ⟨g, 0, none⟩)) (by exact rfl); (focus (intro W; go_simp; first | done | exact rfl | exact ⟨rfl, rfl⟩))
  intro g_r5_8 hN_r5_8 hG_r5_8 K hK
  go_simp; refine hK _ ?_; clear hK K
  apply wpQ_fresh (i := 9) LInv.std (by with_reducible (refine List.getElem?_toArray.trans ?_; (repeat (first | exact List.getElem?_cons_zero | refine List.getElem?_cons_succ.trans ?_)))) (by kernel_rfl) (fun g => Value.pointer (some ⟨g, 0, none⟩)) (by exact rfl); (focus (intro W; go_simp; first | done | exact rfl | exact ⟨rfl, rfl⟩))
  intro g_r5_9 hN_r5_9 hG_r5_9 K hK
  go_simp; refine hK _ ?_; clear hK K
  have hne_r5_8_r5_9 : g_r5_8 ≠ g_r5_9 := hG_r5_9 _ (List.mem_cons_self ..)
  have hne_r5_9_r5_8 : g_r5_9 ≠ g_r5_8 := Ne.symm hne_r5_8_r5_9
  have hne : w.heap.size ≠ g_r5_8 := by have := hN_r5_8; omega
  have hne := Ne.symm hne
  have hne : w.heap.size ≠ g_r5_9 := by have := hN_r5_9; omega
  have hne := Ne.symm hne
  have hne : w.heap.size + 1 ≠ g_r5_8 := by have := hN_r5_8; omega
  have hne := Ne.symm hne
  have hne : w.heap.size + 1 ≠ g_r5_9 := by have := hN_r5_9; omega
  have hne := Ne.symm hne
  have hne : w.heap.size + 1 + 1 ≠ g_r5_8 := by have := hN_r5_8; omega
  have hne := Ne.symm hne
  have hne : w.heap.size + 1 + 1 ≠ g_r5_9 := by have := hN_r5_9; omega
  have hne := Ne.symm hne
  have hne : w.heap.size + 1 + 1 + 1 ≠ g_r5_8 := by have := hN_r5_8; omega
  have hne := Ne.symm hne
  have hne : w.heap.size + 1 + 1 + 1 ≠ g_r5_9 := by have := hN_r5_9; omega
  have hne := Ne.symm hne
  have hne : w.heap.size + 1 + 1 + 1 + 1 ≠ g_r5_8 := by have := hN_r5_8; omega
  have hne := Ne.symm hne
  have hne : w.heap.size + 1 + 1 + 1 + 1 ≠ g_r5_9 := by have := hN_r5_9; omega
  have hne := Ne.symm hne
  have hne : w.heap.size + 1 + 1 + 1 + 1 + 1 ≠ g_r5_8 := by have := hN_r5_8; omega
  have hne := Ne.symm hne
  have hne : w.heap.size + 1 + 1 + 1 + 1 + 1 ≠ g_r5_9 := by have := hN_r5_9; omega
  have hne := Ne.symm hne
  refine wpQ_done (by kernel_rfl) ?_
  intro w105 hF_w105 hSG
  have hz_w105 := hSG.1.1
  have hb_w105 := hSG.1.2
  have hB_r5_9 := (hSG.2 _ (List.mem_cons_self ..)).2; simp only at hB_r5_9; have hl_r5_9 := (hSG.size (List.mem_cons_self ..)); simp only at hl_r5_9
  have c_w105_r5_9_0 := cell_of_row w105 g_r5_9 0 _ _ _ hB_r5_9; simp only [List.getElem?_toArray, List.getElem?_cons_zero] at c_w105_r5_9_0
  have fz_w105_r5_9 : (∀ o, w105.frozen? ⟨g_r5_9, o, none⟩ = false) := (fun o => frozen_of_row w105 g_r5_9 o _ _ hB_r5_9); have HH_r5_9 := Lib.hid hB_r5_9; clear hB_r5_9
  have hB_r5_8 := (hSG.2 _ (List.mem_cons_of_mem _ (List.mem_cons_self ..))).2; simp only at hB_r5_8; have hl_r5_8 := (hSG.size (List.mem_cons_of_mem _ (List.mem_cons_self ..))); simp only at hl_r5_8
  have c_w105_r5_8_0 := cell_of_row w105 g_r5_8 0 _ _ _ hB_r5_8; simp only [List.getElem?_toArray, List.getElem?_cons_zero] at c_w105_r5_8_0
  have fz_w105_r5_8 : (∀ o, w105.frozen? ⟨g_r5_8, o, none⟩ = false) := (fun o => frozen_of_row w105 g_r5_8 o _ _ hB_r5_8); have HH_r5_8 := Lib.hid hB_r5_8; clear hB_r5_8
  clear hSG
  (with_reducible apply cel2 (b := w.heap.size) hb_w105); (focus ((try simp) <;> omega)); (focus omega); (focus (go_simp; try exact rfl)); (focus (go_simp; try exact rfl)); (focus (intro o; go_simp)); intro c_w105_0_0 c_w105_0_1 fz_w105_0 hl_w105_0; (with_reducible apply cel2 (b := w.heap.size + 1) hb_w105); (focus ((try simp) <;> omega)); (focus omega); (focus (go_simp; try exact rfl)); (focus (go_simp; try exact rfl)); (focus (intro o; go_simp)); intro c_w105_1_0 c_w105_1_1 fz_w105_1 hl_w105_1; (with_reducible apply cel2 (b := w.heap.size + 1 + 1) hb_w105); (focus ((try simp) <;> omega)); (focus omega); (focus (go_simp; try exact rfl)); (focus (go_simp; try exact rfl)); (focus (intro o; go_simp)); intro c_w105_2_0 c_w105_2_1 fz_w105_2 hl_w105_2; (with_reducible apply cel1 (b := w.heap.size + 1 + 1 + 1) hb_w105); (focus ((try simp) <;> omega)); (focus omega); (focus (go_simp; try exact rfl)); (focus (intro o; go_simp)); intro c_w105_3_0 fz_w105_3 hl_w105_3; (with_reducible apply cel6 (b := w.heap.size + 1 + 1 + 1 + 1) hb_w105); (focus ((try simp) <;> omega)); (focus omega); (focus (go_simp; try exact rfl)); (focus (go_simp; try exact rfl)); (focus (go_simp; try exact rfl)); (focus (go_simp; try exact rfl)); (focus (go_simp; try exact rfl)); (focus (go_simp; try exact rfl)); (focus (intro o; go_simp)); intro c_w105_4_0 c_w105_4_1 c_w105_4_2 c_w105_4_3 c_w105_4_4 c_w105_4_5 fz_w105_4 hl_w105_4; (with_reducible apply cel6 (b := w.heap.size + 1 + 1 + 1 + 1 + 1) hb_w105); (focus ((try simp) <;> omega)); (focus omega); (focus (go_simp; try exact rfl)); (focus (go_simp; try exact rfl)); (focus (go_simp; try exact rfl)); (focus (go_simp; try exact rfl)); (focus (go_simp; try exact rfl)); (focus (go_simp; try exact rfl)); (focus (intro o; go_simp)); intro c_w105_5_0 c_w105_5_1 c_w105_5_2 c_w105_5_3 c_w105_5_4 c_w105_5_5 fz_w105_5 hl_w105_5
  (try simp only [List.filterMap_cons, List.filterMap_nil, List.getElem?_cons_succ, List.getElem?_cons_zero])
  have HB105 := Lib.hid (HB104.out.trans (hb_w105.mono (by have := HB104.out.size; omega)))
  have hz105 : w.heap.size + 1 + 1 + 1 + 1 + 1 + 1 ≤ w105.heap.size := by omega
  have hn_r5_8 : w.heap.size + 1 + 1 + 1 + 1 + 1 + 1 ≤ g_r5_8 := by have := hN_r5_8; omega
  have hn_r5_9 : w.heap.size + 1 + 1 + 1 + 1 + 1 + 1 ≤ g_r5_9 := by have := hN_r5_9; omega
  clear hF_w105 hb_w105 HH_r5_8 hG_r5_8 hN_r5_8 HH_r5_9 hG_r5_9 hN_r5_9
  clear c_w104_0_0 c_w104_0_1 fz_w104_0 hl_w104_0 c_w104_1_0 c_w104_1_1 fz_w104_1 hl_w104_1 c_w104_2_0 c_w104_2_1 fz_w104_2 hl_w104_2 c_w104_3_0 fz_w104_3 hl_w104_3 c_w104_4_0 c_w104_4_1 c_w104_4_2 c_w104_4_3 c_w104_4_4 c_w104_4_5 fz_w104_4 hl_w104_4 c_w104_5_0 c_w104_5_1 c_w104_5_2 c_w104_5_3 c_w104_5_4 c_w104_5_5 fz_w104_5 hl_w104_5
  go_wp2_with fail
  refine HQ_.out _ _ _ ?_
  clear HQ_ Q_
  go_wp2_with fail
  -- own blocks: w.heap.size:2, w.heap.size + 1:2, w.heap.size + 1 + 1:2, w.heap.size + 1 + 1 + 1:1, w.heap.size + 1 + 1 + 1 + 1:6, w.heap.size + 1 + 1 + 1 + 1 + 1:6, g_r5_8:1, g_r5_9:1
  (go_at_call 79; refine (K7.out _).mono ?_; rintro e w106 ⟨hb_w106, v106, rfl, hv106⟩; have hz_w106 := hb_w106.size; (try simp at hz_w106); (with_reducible apply cel2 (b := w.heap.size) hb_w106); (focus ((try simp) <;> omega)); (focus omega); (focus (go_simp; try exact rfl)); (focus (go_simp; try exact rfl)); (focus (intro o; go_simp)); intro c_w106_0_0 c_w106_0_1 fz_w106_0 hl_w106_0; (with_reducible apply cel2 (b := w.heap.size + 1) hb_w106); (focus ((try simp) <;> omega)); (focus omega); (focus (go_simp; try exact rfl)); (focus (go_simp; try exact rfl)); (focus (intro o; go_simp)); intro c_w106_1_0 c_w106_1_1 fz_w106_1 hl_w106_1; (with_reducible apply cel2 (b := w.heap.size + 1 + 1) hb_w106); (focus ((try simp) <;> omega)); (focus omega); (focus (go_simp; try exact rfl)); (focus (go_simp; try exact rfl)); (focus (intro o; go_simp)); intro c_w106_2_0 c_w106_2_1 fz_w106_2 hl_w106_2; (with_reducible apply cel1 (b := w.heap.size + 1 + 1 + 1) hb_w106); (focus ((try simp) <;> omega)); (focus omega); (focus (go_simp; try exact rfl)); (focus (intro o; go_simp)); intro c_w106_3_0 fz_w106_3 hl_w106_3; (with_reducible apply cel6 (b := w.heap.size + 1 + 1 + 1 + 1) hb_w106); (focus ((try simp) <;> omega)); (focus omega); (focus (go_simp; try exact rfl)); (focus (go_simp; try exact rfl)); (focus (go_simp; try exact rfl)); (focus (go_simp; try exact rfl)); (focus (go_simp; try exact rfl)); (focus (go_simp; try exact rfl)); (focus (intro o; go_simp)); intro c_w106_4_0 c_w106_4_1 c_w106_4_2 c_w106_4_3 c_w106_4_4 c_w106_4_5 fz_w106_4 hl_w106_4; (with_reducible apply cel6 (b := w.heap.size + 1 + 1 + 1 + 1 + 1) hb_w106); (focus ((try simp) <;> omega)); (focus omega); (focus (go_simp; try exact rfl)); (focus (go_simp; try exact rfl)); (focus (go_simp; try exact rfl)); (focus (go_simp; try exact rfl)); (focus (go_simp; try exact rfl)); (focus (go_simp; try exact rfl)); (focus (intro o; go_simp)); intro c_w106_5_0 c_w106_5_1 c_w106_5_2 c_w106_5_3 c_w106_5_4 c_w106_5_5 fz_w106_5 hl_w106_5; (with_reducible apply cel1 (b := g_r5_8) hb_w106); (focus ((try simp) <;> omega)); (focus omega); (focus (go_simp; try exact rfl)); (focus (intro o; go_simp)); intro c_w106_6_0 fz_w106_6 hl_w106_6; (with_reducible apply cel1 (b := g_r5_9) hb_w106); (focus ((try simp) <;> omega)); (focus omega); (focus (go_simp; try exact rfl)); (focus (intro o; go_simp)); intro c_w106_7_0 fz_w106_7 hl_w106_7)
  obtain ⟨s106, A106, n106, c106, rfl⟩ := IsC.val hv106
  have HB106 := Lib.hid (show Below w.heap.size w w106 by have hB := HB105.out; ((with_reducible (repeat (first | exact bR _ _ | refine bS ?_ ?_ _ | refine bA ?_ ?_ _ | refine bD ?_ | refine bT ?_ (by assumption) ?_ | refine bO (by assumption) ?_ ?_))) <;> (first | omega | (simp; done) | (simp <;> omega))))
  have hz106 : w.heap.size + 1 + 1 + 1 + 1 + 1 + 1 ≤ w106.heap.size := by omega
  clear hb_w106
  clear c_w105_r5_9_0 fz_w105_r5_9 c_w105_r5_8_0 fz_w105_r5_8 c_w105_0_0 c_w105_0_1 fz_w105_0 hl_w105_0 c_w105_1_0 c_w105_1_1 fz_w105_1 hl_w105_1 c_w105_2_0 c_w105_2_1 fz_w105_2 hl_w105_2 c_w105_3_0 fz_w105_3 hl_w105_3 c_w105_4_0 c_w105_4_1 c_w105_4_2 c_w105_4_3 c_w105_4_4 c_w105_4_5 fz_w105_4 hl_w105_4 c_w105_5_0 c_w105_5_1 c_w105_5_2 c_w105_5_3 c_w105_5_4 c_w105_5_5 fz_w105_5 hl_w105_5
  have H106 := Lib.hid (show IsC w106 (.agg #[.bool s106, .slice A106 n106 c106]) ((32 * M)) from hv106)
  clear hv106
  go_wp2_with fail
  -- own blocks: w.heap.size:2, w.heap.size + 1:2, w.heap.size + 1 + 1:2, w.heap.size + 1 + 1 + 1:1, w.heap.size + 1 + 1 + 1 + 1:6, w.heap.size + 1 + 1 + 1 + 1 + 1:6, g_r5_8:1, g_r5_9:1, w106.heap.size:2
  (refine pin_wp (N := _) (Nat.le_refl _) (fun w107 hb_w107 hz_w107 => ?_); (try simp at hz_w107); (with_reducible apply cel2 (b := w.heap.size) hb_w107); (focus ((try simp) <;> omega)); (focus omega); (focus (go_simp; try exact rfl)); (focus (go_simp; try exact rfl)); (focus (intro o; go_simp)); intro c_w107_0_0 c_w107_0_1 fz_w107_0 hl_w107_0; (with_reducible apply cel2 (b := w.heap.size + 1) hb_w107); (focus ((try simp) <;> omega)); (focus omega); (focus (go_simp; try exact rfl)); (focus (go_simp; try exact rfl)); (focus (intro o; go_simp)); intro c_w107_1_0 c_w107_1_1 fz_w107_1 hl_w107_1; (with_reducible apply cel2 (b := w.heap.size + 1 + 1) hb_w107); (focus ((try simp) <;> omega)); (focus omega); (focus (go_simp; try exact rfl)); (focus (go_simp; try exact rfl)); (focus (intro o; go_simp)); intro c_w107_2_0 c_w107_2_1 fz_w107_2 hl_w107_2; (with_reducible apply cel1 (b := w.heap.size + 1 + 1 + 1) hb_w107); (focus ((try simp) <;> omega)); (focus omega); (focus (go_simp; try exact rfl)); (focus (intro o; go_simp)); intro c_w107_3_0 fz_w107_3 hl_w107_3; (with_reducible apply cel6 (b := w.heap.size + 1 + 1 + 1 + 1) hb_w107); (focus ((try simp) <;> omega)); (focus omega); (focus (go_simp; try exact rfl)); (focus (go_simp; try exact rfl)); (focus (go_simp; try exact rfl)); (focus (go_simp; try exact rfl)); (focus (go_simp; try exact rfl)); (focus (go_simp; try exact rfl)); (focus (intro o; go_simp)); intro c_w107_4_0 c_w107_4_1 c_w107_4_2 c_w107_4_3 c_w107_4_4 c_w107_4_5 fz_w107_4 hl_w107_4; (with_reducible apply cel6 (b := w.heap.size + 1 + 1 + 1 + 1 + 1) hb_w107); (focus ((try simp) <;> omega)); (focus omega); (focus (go_simp; try exact rfl)); (focus (go_simp; try exact rfl)); (focus (go_simp; try exact rfl)); (focus (go_simp; try exact rfl)); (focus (go_simp; try exact rfl)); (focus (go_simp; try exact rfl)); (focus (intro o; go_simp)); intro c_w107_5_0 c_w107_5_1 c_w107_5_2 c_w107_5_3 c_w107_5_4 c_w107_5_5 fz_w107_5 hl_w107_5; (with_reducible apply cel1 (b := g_r5_8) hb_w107); (focus ((try simp) <;> omega)); (focus omega); (focus (go_simp; try exact rfl)); (focus (intro o; go_simp)); intro c_w107_6_0 fz_w107_6 hl_w107_6; (with_reducible apply cel1 (b := g_r5_9) hb_w107); (focus ((try simp) <;> omega)); (focus omega); (focus (go_simp; try exact rfl)); (focus (intro o; go_simp)); intro c_w107_7_0 fz_w107_7 hl_w107_7; (with_reducible apply cel2 (b := w106.heap.size) hb_w107); (focus ((try simp) <;> omega)); (focus omega); (focus (go_simp; try exact rfl)); (focus (go_simp; try exact rfl)); (focus (intro o; go_simp)); intro c_w107_8_0 c_w107_8_1 fz_w107_8 hl_w107_8); refine wp_q (fun Q_ HQ_ => ?_); refine wp_region_floatQ w107.heap.size 30 [30, 31] (Nat.le_refl _) (fun _ => True) trivial Cl.tt (by kernel_rfl) (by kernel_rfl) ?_
  replace H106 := Lib.hid (IsC.below (v := .agg #[.bool s106, .slice A106 n106 c106]) (z := (32 * M)) (by ((repeat (first | (with_reducible exact H106.out) | (with_reducible refine IsC.al ?_ _) | (with_reducible apply IsC.st1))) <;> (first | (with_reducible assumption) | (intro _ e; cases e; done) | (go_simp; first | done | exact rfl)))) hb_w107)
  have HB107 := Lib.hid (show Below w.heap.size w w107 by have hB := HB106.out; ((with_reducible (repeat (first | exact bR _ _ | refine bS ?_ ?_ _ | refine bA ?_ ?_ _ | refine bD ?_ | refine bT ?_ (by assumption) ?_ | refine bO (by assumption) ?_ ?_))) <;> (first | omega | (simp; done) | (simp <;> omega))))
  have hz107 : w.heap.size + 1 + 1 + 1 + 1 + 1 + 1 ≤ w107.heap.size := by omega
  clear hb_w107
  clear c_w106_0_0 c_w106_0_1 fz_w106_0 hl_w106_0 c_w106_1_0 c_w106_1_1 fz_w106_1 hl_w106_1 c_w106_2_0 c_w106_2_1 fz_w106_2 hl_w106_2 c_w106_3_0 fz_w106_3 hl_w106_3 c_w106_4_0 c_w106_4_1 c_w106_4_2 c_w106_4_3 c_w106_4_4 c_w106_4_5 fz_w106_4 hl_w106_4 c_w106_5_0 c_w106_5_1 c_w106_5_2 c_w106_5_3 c_w106_5_4 c_w106_5_5 fz_w106_5 hl_w106_5 c_w106_6_0 fz_w106_6 hl_w106_6 c_w106_7_0 fz_w106_7 hl_w106_7
  refine wpQI_start [0, 1, 2, 3, 4] ?_; (iterate 5 (first | (refine wpQI_off (by with_reducible (refine List.getElem?_toArray.trans ?_; (repeat (first | exact List.getElem?_cons_zero | refine List.getElem?_cons_succ.trans ?_)))) (by kernel_rfl) (by exact rfl) (fun K hK => ?_); go_simp; refine hK _ ?_; clear hK K) | ((first | apply wpQI_step (by with_reducible (refine List.getElem?_toArray.trans ?_; (repeat (first | exact List.getElem?_cons_zero | refine List.getElem?_cons_succ.trans ?_)))) (by kernel_rfl) (by exact rfl) | apply wpQI_on (by with_reducible (refine List.getElem?_toArray.trans ?_; (repeat (first | exact List.getElem?_cons_zero | refine List.getElem?_cons_succ.trans ?_)))) (by kernel_rfl) (by exact rfl)); (focus (intro W' hS; have hcS := hS.cells.1; have hfS := hS.cells.2; go_simp; (first | done | exact rfl | exact ⟨rfl, Below.refl _ _⟩ | (go_simp; first | done | exact rfl | exact ⟨rfl, Below.refl _ _⟩)))); intro K hK; go_simp; (try go_bits); refine hK _ ?_; clear hK K))); refine wpQI_nil ?_
  refine wpQI_start [6, 7, 8, 9, 10] ?_; (iterate 5 (first | (refine wpQI_off (by with_reducible (refine List.getElem?_toArray.trans ?_; (repeat (first | exact List.getElem?_cons_zero | refine List.getElem?_cons_succ.trans ?_)))) (by kernel_rfl) (by exact rfl) (fun K hK => ?_); go_simp; refine hK _ ?_; clear hK K) | ((first | apply wpQI_step (by with_reducible (refine List.getElem?_toArray.trans ?_; (repeat (first | exact List.getElem?_cons_zero | refine List.getElem?_cons_succ.trans ?_)))) (by kernel_rfl) (by exact rfl) | apply wpQI_on (by with_reducible (refine List.getElem?_toArray.trans ?_; (repeat (first | exact List.getElem?_cons_zero | refine List.getElem?_cons_succ.trans ?_)))) (by kernel_rfl) (by exact rfl)); (focus (intro W' hS; have hcS := hS.cells.1; have hfS := hS.cells.2; go_simp; (first | done | exact rfl | exact ⟨rfl, Below.refl _ _⟩ | (go_simp; first | done | exact rfl | exact ⟨rfl, Below.refl _ _⟩)))); intro K hK; go_simp; (try go_bits); refine hK _ ?_; clear hK K))); refine wpQI_nil ?_
  refine wpQI_start [12] ?_; (iterate 1 (first | (refine wpQI_off (by with_reducible (refine List.getElem?_toArray.trans ?_; (repeat (first | exact List.getElem?_cons_zero | refine List.getElem?_cons_succ.trans ?_)))) (by kernel_rfl) (by exact rfl) (fun K hK => ?_); go_simp; refine hK _ ?_; clear hK K) | ((first | apply wpQI_step (by with_reducible (refine List.getElem?_toArray.trans ?_; (repeat (first | exact List.getElem?_cons_zero | refine List.getElem?_cons_succ.trans ?_)))) (by kernel_rfl) (by exact rfl) | apply wpQI_on (by with_reducible (refine List.getElem?_toArray.trans ?_; (repeat (first | exact List.getElem?_cons_zero | refine List.getElem?_cons_succ.trans ?_)))) (by kernel_rfl) (by exact rfl)); (focus (intro W' hS; have hcS := hS.cells.1; have hfS := hS.cells.2; go_simp; (first | done | exact rfl | exact ⟨rfl, Below.refl _ _⟩ | (go_simp; first | done | exact rfl | exact ⟨rfl, Below.refl _ _⟩)))); intro K hK; go_simp; (try go_bits); refine hK _ ?_; clear hK K))); refine wpQI_nil ?_
  refine wpQI_start [15, 16, 17, 18, 19] ?_; (iterate 5 (first | (refine wpQI_off (by with_reducible (refine List.getElem?_toArray.trans ?_; (repeat (first | exact List.getElem?_cons_zero | refine List.getElem?_cons_succ.trans ?_)))) (by kernel_rfl) (by exact rfl) (fun K hK => ?_); go_simp; refine hK _ ?_; clear hK K) | ((first | apply wpQI_step (by with_reducible (refine List.getElem?_toArray.trans ?_; (repeat (first | exact List.getElem?_cons_zero | refine List.getElem?_cons_succ.trans ?_)))) (by kernel_rfl) (by exact rfl) | apply wpQI_on (by with_reducible (refine List.getElem?_toArray.trans ?_; (repeat (first | exact List.getElem?_cons_zero | refine List.getElem?_cons_succ.trans ?_)))) (by kernel_rfl) (by exact rfl)); (focus (intro W' hS; have hcS := hS.cells.1; have hfS := hS.cells.2; go_simp; (first | done | exact rfl | exact ⟨rfl, Below.refl _ _⟩ | (go_simp; first | done | exact rfl | exact ⟨rfl, Below.refl _ _⟩)))); intro K hK; go_simp; (try go_bits); refine hK _ ?_; clear hK K))); refine wpQI_nil ?_
  refine wpQI_start [21, 22, 23, 24, 25] ?_; (iterate 5 (first | (refine wpQI_off (by with_reducible (refine List.getElem?_toArray.trans ?_; (repeat (first | exact List.getElem?_cons_zero | refine List.getElem?_cons_succ.trans ?_)))) (by kernel_rfl) (by exact rfl) (fun K hK => ?_); go_simp; refine hK _ ?_; clear hK K) | ((first | apply wpQI_step (by with_reducible (refine List.getElem?_toArray.trans ?_; (repeat (first | exact List.getElem?_cons_zero | refine List.getElem?_cons_succ.trans ?_)))) (by kernel_rfl) (by exact rfl) | apply wpQI_on (by with_reducible (refine List.getElem?_toArray.trans ?_; (repeat (first | exact List.getElem?_cons_zero | refine List.getElem?_cons_succ.trans ?_)))) (by kernel_rfl) (by exact rfl)); (focus (intro W' hS; have hcS := hS.cells.1; have hfS := hS.cells.2; go_simp; (first | done | exact rfl | exact ⟨rfl, Below.refl _ _⟩ | (go_simp; first | done | exact rfl | exact ⟨rfl, Below.refl _ _⟩)))); intro K hK; go_simp; (try go_bits); refine hK _ ?_; clear hK K))); refine wpQI_nil ?_
  refine wpQI_start [27] ?_; (iterate 1 (first | (refine wpQI_off (by with_reducible (refine List.getElem?_toArray.trans ?_; (repeat (first | exact List.getElem?_cons_zero | refine List.getElem?_cons_succ.trans ?_)))) (by kernel_rfl) (by exact rfl) (fun K hK => ?_); go_simp; refine hK _ ?_; clear hK K) | ((first | apply wpQI_step (by with_reducible (refine List.getElem?_toArray.trans ?_; (repeat (first | exact List.getElem?_cons_zero | refine List.getElem?_cons_succ.trans ?_)))) (by kernel_rfl) (by exact rfl) | apply wpQI_on (by with_reducible (refine List.getElem?_toArray.trans ?_; (repeat (first | exact List.getElem?_cons_zero | refine List.getElem?_cons_succ.trans ?_)))) (by kernel_rfl) (by exact rfl)); (focus (intro W' hS; have hcS := hS.cells.1; have hfS := hS.cells.2; go_simp; (first | done | exact rfl | exact ⟨rfl, Below.refl _ _⟩ | (go_simp; first | done | exact rfl | exact ⟨rfl, Below.refl _ _⟩)))); intro K hK; go_simp; (try go_bits); refine hK _ ?_; clear hK K))); refine wpQI_nil ?_
  apply wpQ_call (i := 5) (by with_reducible (refine List.getElem?_toArray.trans ?_; (repeat (first | exact List.getElem?_cons_zero | refine List.getElem?_cons_succ.trans ?_)))) (by kernel_rfl) (by exact rfl); intro W hF hS; have hcS := hS.1.cells.1; have hfS := hS.1.cells.2; go_simp; (go_at_call 93; refine (K8.out _ _ _ _ (by go_simp) (by go_simp) (by go_simp)).mono ?_; rintro e w108 ⟨hb_w108, v108, rfl, hv108⟩; refine XPost.mk _ (fun W => IsC W v108 (X1)) hb_w108 (hv108) (IsC.cl _ _) ?_); clear hb_w108 hcS hfS hS hF
  intro K hK; go_simp; (try go_bits); refine hK _ ?_; clear hK K
  obtain ⟨s108, A108, n108, c108, rfl⟩ := IsC.val hv108
  clear hv108
  apply wpQ_call (i := 11) (by with_reducible (refine List.getElem?_toArray.trans ?_; (repeat (first | exact List.getElem?_cons_zero | refine List.getElem?_cons_succ.trans ?_)))) (by kernel_rfl) (by exact rfl); intro W hF hS; have hcS := hS.1.cells.1; have hfS := hS.1.cells.2; go_simp; (go_at_call 93; refine (K9.out _ _ _ _ (by go_simp) (by go_simp) (by go_simp)).mono ?_; rintro e w109 ⟨hb_w109, v109, rfl, hv109⟩; refine XPost.mk _ (fun W => IsC W v109 (X2)) hb_w109 (hv109) (IsC.cl _ _) ?_); clear hb_w109 hcS hfS hS hF
  intro K hK; go_simp; (try go_bits); refine hK _ ?_; clear hK K
  obtain ⟨s109, A109, n109, c109, rfl⟩ := IsC.val hv109
  clear hv109
  refine wpQI_start [13] ?_; (iterate 1 (first | (refine wpQI_off (by with_reducible (refine List.getElem?_toArray.trans ?_; (repeat (first | exact List.getElem?_cons_zero | refine List.getElem?_cons_succ.trans ?_)))) (by kernel_rfl) (by exact rfl) (fun K hK => ?_); go_simp; refine hK _ ?_; clear hK K) | ((first | apply wpQI_step (by with_reducible (refine List.getElem?_toArray.trans ?_; (repeat (first | exact List.getElem?_cons_zero | refine List.getElem?_cons_succ.trans ?_)))) (by kernel_rfl) (by exact rfl) | apply wpQI_on (by with_reducible (refine List.getElem?_toArray.trans ?_; (repeat (first | exact List.getElem?_cons_zero | refine List.getElem?_cons_succ.trans ?_)))) (by kernel_rfl) (by exact rfl)); (focus (intro W' hS; have hcS := hS.cells.1; have hfS := hS.cells.2; go_simp; (first | done | exact rfl | exact ⟨rfl, Below.refl _ _⟩ | (go_simp; first | done | exact rfl | exact ⟨rfl, Below.refl _ _⟩)))); intro K hK; go_simp; (try go_bits); refine hK _ ?_; clear hK K))); refine wpQI_nil ?_
  apply wpQ_call (i := 14) (by with_reducible (refine List.getElem?_toArray.trans ?_; (repeat (first | exact List.getElem?_cons_zero | refine List.getElem?_cons_succ.trans ?_)))) (by kernel_rfl) (by exact rfl); intro W hF hS; have hcS := hS.1.cells.1; have hfS := hS.1.cells.2; go_simp; (go_at_call 81; refine (K10.out _ _ (⟨_, _, _, _, _, _, _, _, _, _, _, _, rfl, hF.1, hF.2, (H106.out.below hS.1.2)⟩)).mono ?_; rintro e w110 ⟨hb_w110, v110, rfl, hv110⟩; refine XPost.mk _ (fun W => RAt W v110 (P1) (P2) (P3)) hb_w110 (hv110) (RAt.cl _ _ _ _) ?_); clear hb_w110 hcS hfS hS hF
  intro K hK; go_simp; (try go_bits); refine hK _ ?_; clear hK K
  obtain ⟨s110x, A110x, n110x, c110x, s110y, A110y, n110y, c110y, s110d, A110d, n110d, c110d, rfl⟩ := RAt.val hv110
  clear hv110
  apply wpQ_call (i := 20) (by with_reducible (refine List.getElem?_toArray.trans ?_; (repeat (first | exact List.getElem?_cons_zero | refine List.getElem?_cons_succ.trans ?_)))) (by kernel_rfl) (by exact rfl); intro W hF hS; have hcS := hS.1.cells.1; have hfS := hS.1.cells.2; go_simp; (go_at_call 93; refine (K11.out _ _ _ _ (by go_simp) (by go_simp) (by go_simp)).mono ?_; rintro e w111 ⟨hb_w111, v111, rfl, hv111⟩; refine XPost.mk _ (fun W => IsC W v111 (Y1)) hb_w111 (hv111) (IsC.cl _ _) ?_); clear hb_w111 hcS hfS hS hF
  intro K hK; go_simp; (try go_bits); refine hK _ ?_; clear hK K
  obtain ⟨s111, A111, n111, c111, rfl⟩ := IsC.val hv111
  clear hv111
  apply wpQ_call (i := 26) (by with_reducible (refine List.getElem?_toArray.trans ?_; (repeat (first | exact List.getElem?_cons_zero | refine List.getElem?_cons_succ.trans ?_)))) (by kernel_rfl) (by exact rfl); intro W hF hS; have hcS := hS.1.cells.1; have hfS := hS.1.cells.2; go_simp; (go_at_call 93; refine (K12.out _ _ _ _ (by go_simp) (by go_simp) (by go_simp)).mono ?_; rintro e w112 ⟨hb_w112, v112, rfl, hv112⟩; refine XPost.mk _ (fun W => IsC W v112 (Y2)) hb_w112 (hv112) (IsC.cl _ _) ?_); clear hb_w112 hcS hfS hS hF
  intro K hK; go_simp; (try go_bits); refine hK _ ?_; clear hK K
  obtain ⟨s112, A112, n112, c112, rfl⟩ := IsC.val hv112
  clear hv112
  refine wpQI_start [28] ?_; (iterate 1 (first | (refine wpQI_off (by with_reducible (refine List.getElem?_toArray.trans ?_; (repeat (first | exact List.getElem?_cons_zero | refine List.getElem?_cons_succ.trans ?_)))) (by kernel_rfl) (by exact rfl) (fun K hK => ?_); go_simp; refine hK _ ?_; clear hK K) | ((first | apply wpQI_step (by with_reducible (refine List.getElem?_toArray.trans ?_; (repeat (first | exact List.getElem?_cons_zero | refine List.getElem?_cons_succ.trans ?_)))) (by kernel_rfl) (by exact rfl) | apply wpQI_on (by with_reducible (refine List.getElem?_toArray.trans ?_; (repeat (first | exact List.getElem?_cons_zero | refine List.getElem?_cons_succ.trans ?_)))) (by kernel_rfl) (by exact rfl)); (focus (intro W' hS; have hcS := hS.cells.1; have hfS := hS.cells.2; go_simp; (first | done | exact rfl | exact ⟨rfl, Below.refl _ _⟩ | (go_simp; first | done | exact rfl | exact ⟨rfl, Below.refl _ _⟩)))); intro K hK; go_simp; (try go_bits); refine hK _ ?_; clear hK K))); refine wpQI_nil ?_
  apply wpQ_call (i := 29) (by with_reducible (refine List.getElem?_toArray.trans ?_; (repeat (first | exact List.getElem?_cons_zero | refine List.getElem?_cons_succ.trans ?_)))) (by kernel_rfl) (by exact rfl); intro W hF hS; have hcS := hS.1.cells.1; have hfS := hS.1.cells.2; go_simp; (go_at_call 81; refine (K13.out _ _ (⟨_, _, _, _, _, _, _, _, _, _, _, _, rfl, hF.1.2, hF.2, (H106.out.below hS.1.2)⟩)).mono ?_; rintro e w113 ⟨hb_w113, v113, rfl, hv113⟩; refine XPost.mk _ (fun W => RAt W v113 (Q1) (Q2) (Q3)) hb_w113 (hv113) (RAt.cl _ _ _ _) ?_); clear hb_w113 hcS hfS hS hF
  intro K hK; go_simp; (try go_bits); refine hK _ ?_; clear hK K
  obtain ⟨s113x, A113x, n113x, c113x, s113y, A113y, n113y, c113y, s113d, A113d, n113d, c113d, rfl⟩ := RAt.val hv113
  clear hv113
  refine wpQ_done (by kernel_rfl) ?_
  intro w114 hF_w114 hSG
  have hz_w114 := hSG.1.1
  have hb_w114 := hSG.1.2
  clear hSG
  (with_reducible apply cel2 (b := w.heap.size) hb_w114); (focus ((try simp) <;> omega)); (focus omega); (focus (go_simp; try exact rfl)); (focus (go_simp; try exact rfl)); (focus (intro o; go_simp)); intro c_w114_0_0 c_w114_0_1 fz_w114_0 hl_w114_0; (with_reducible apply cel2 (b := w.heap.size + 1) hb_w114); (focus ((try simp) <;> omega)); (focus omega); (focus (go_simp; try exact rfl)); (focus (go_simp; try exact rfl)); (focus (intro o; go_simp)); intro c_w114_1_0 c_w114_1_1 fz_w114_1 hl_w114_1; (with_reducible apply cel2 (b := w.heap.size + 1 + 1) hb_w114); (focus ((try simp) <;> omega)); (focus omega); (focus (go_simp; try exact rfl)); (focus (go_simp; try exact rfl)); (focus (intro o; go_simp)); intro c_w114_2_0 c_w114_2_1 fz_w114_2 hl_w114_2; (with_reducible apply cel1 (b := w.heap.size + 1 + 1 + 1) hb_w114); (focus ((try simp) <;> omega)); (focus omega); (focus (go_simp; try exact rfl)); (focus (intro o; go_simp)); intro c_w114_3_0 fz_w114_3 hl_w114_3; (with_reducible apply cel6 (b := w.heap.size + 1 + 1 + 1 + 1) hb_w114); (focus ((try simp) <;> omega)); (focus omega); (focus (go_simp; try exact rfl)); (focus (go_simp; try exact rfl)); (focus (go_simp; try exact rfl)); (focus (go_simp; try exact rfl)); (focus (go_simp; try exact rfl)); (focus (go_simp; try exact rfl)); (focus (intro o; go_simp)); intro c_w114_4_0 c_w114_4_1 c_w114_4_2 c_w114_4_3 c_w114_4_4 c_w114_4_5 fz_w114_4 hl_w114_4; (with_reducible apply cel6 (b := w.heap.size + 1 + 1 + 1 + 1 + 1) hb_w114); (focus ((try simp) <;> omega)); (focus omega); (focus (go_simp; try exact rfl)); (focus (go_simp; try exact rfl)); (focus (go_simp; try exact rfl)); (focus (go_simp; try exact rfl)); (focus (go_simp; try exact rfl)); (focus (go_simp; try exact rfl)); (focus (intro o; go_simp)); intro c_w114_5_0 c_w114_5_1 c_w114_5_2 c_w114_5_3 c_w114_5_4 c_w114_5_5 fz_w114_5 hl_w114_5; (with_reducible apply cel1 (b := g_r5_8) hb_w114); (focus ((try simp) <;> omega)); (focus omega); (focus (go_simp; try exact rfl)); (focus (intro o; go_simp)); intro c_w114_6_0 fz_w114_6 hl_w114_6; (with_reducible apply cel1 (b := g_r5_9) hb_w114); (focus ((try simp) <;> omega)); (focus omega); (focus (go_simp; try exact rfl)); (focus (intro o; go_simp)); intro c_w114_7_0 fz_w114_7 hl_w114_7; (with_reducible apply cel2 (b := w106.heap.size) hb_w114); (focus ((try simp) <;> omega)); (focus omega); (focus (go_simp; try exact rfl)); (focus (go_simp; try exact rfl)); (focus (intro o; go_simp)); intro c_w114_8_0 c_w114_8_1 fz_w114_8 hl_w114_8
  (try simp only [List.filterMap_cons, List.filterMap_nil, List.getElem?_cons_succ, List.getElem?_cons_zero])
  clear H106
  have H108 := Lib.hid (show IsC w114 (.agg #[.bool s108, .slice A108 n108 c108]) (X1) from hF_w114.1.1.1.1.1)
  have H109 := Lib.hid (show IsC w114 (.agg #[.bool s109, .slice A109 n109 c109]) (X2) from hF_w114.1.1.1.1.2)
  have H110 := Lib.hid (show RAt w114 (.agg #[.bool s110x, .slice A110x n110x c110x, .bool s110y, .slice A110y n110y c110y, .bool s110d, .slice A110d n110d c110d]) (P1) (P2) (P3) from hF_w114.1.1.1.2)
  have H111 := Lib.hid (show IsC w114 (.agg #[.bool s111, .slice A111 n111 c111]) (Y1) from hF_w114.1.1.2)
  have H112 := Lib.hid (show IsC w114 (.agg #[.bool s112, .slice A112 n112 c112]) (Y2) from hF_w114.1.2)
  have H113 := Lib.hid (show RAt w114 (.agg #[.bool s113x, .slice A113x n113x c113x, .bool s113y, .slice A113y n113y c113y, .bool s113d, .slice A113d n113d c113d]) (Q1) (Q2) (Q3) from hF_w114.2)
  have HB114 := Lib.hid (HB107.out.trans (hb_w114.mono (by have := HB107.out.size; omega)))
  have hz114 : w.heap.size + 1 + 1 + 1 + 1 + 1 + 1 ≤ w114.heap.size := by omega
  clear hF_w114 hb_w114
  clear c_w107_0_0 c_w107_0_1 fz_w107_0 hl_w107_0 c_w107_1_0 c_w107_1_1 fz_w107_1 hl_w107_1 c_w107_2_0 c_w107_2_1 fz_w107_2 hl_w107_2 c_w107_3_0 fz_w107_3 hl_w107_3 c_w107_4_0 c_w107_4_1 c_w107_4_2 c_w107_4_3 c_w107_4_4 c_w107_4_5 fz_w107_4 hl_w107_4 c_w107_5_0 c_w107_5_1 c_w107_5_2 c_w107_5_3 c_w107_5_4 c_w107_5_5 fz_w107_5 hl_w107_5 c_w107_6_0 fz_w107_6 hl_w107_6 c_w107_7_0 fz_w107_7 hl_w107_7 c_w107_8_0 c_w107_8_1 fz_w107_8 hl_w107_8
  go_wp2_with fail
  refine HQ_.out _ _ _ ?_
  clear HQ_ Q_
  go_wp2_with fail
  -- own blocks: w.heap.size + 1 + 1 + 1:1, w.heap.size + 1 + 1 + 1 + 1:6, w.heap.size + 1 + 1 + 1 + 1 + 1:6, g_r5_8:1, g_r5_9:1
  refine bodyPost_ret (v := .tuple #[.agg #[.bool s110x, .slice A110x n110x c110x, .bool s110y, .slice A110y n110y c110y, .bool s110d, .slice A110d n110d c110d], .agg #[.bool s113x, .slice A113x n113x c113x, .bool s113y, .slice A113y n113y c113y, .bool s113d, .slice A113d n113d c113d]]) (by simp only [results, Try.results40]; go_simp) rfl ⟨?_, ?_⟩
  · have hB := HB114.out; ((with_reducible (repeat (first | exact bR _ _ | refine bS ?_ ?_ _ | refine bA ?_ ?_ _ | refine bD ?_ | refine bT ?_ (by assumption) ?_ | refine bO (by assumption) ?_ ?_))) <;> (first | omega | (simp; done) | (simp <;> omega)))
  · exact ⟨_, _, rfl, (by ((repeat (first | (with_reducible exact H110.out) | (with_reducible refine RAt.al ?_ _) | (with_reducible apply RAt.st1))) <;> (first | (with_reducible assumption) | (intro _ e; cases e; done) | (go_simp; first | done | exact rfl)))), (by ((repeat (first | (with_reducible exact H113.out) | (with_reducible refine RAt.al ?_ _) | (with_reducible apply RAt.st1))) <;> (first | (with_reducible assumption) | (intro _ e; cases e; done) | (go_simp; first | done | exact rfl))))⟩
end Go.Proofs.Ytklkhnhieihfoaa
namespace Go.Proofs.Ytklkhnhieihfoaa
open Go Go.RowKit
set_option linter.unusedVariables false
/-- Pair, on both sides. -/
theorem pair_any (v1 v2 w1 w2 n1 n2 rest : Int) (w : World) : Calls Try.prog 40 #[.agg #[.int .i64 v1, .int .i64 v2], .agg #[.int .i64 w1, .int .i64 w2], .agg #[.int .i64 n1, .int .i64 n2], .int .i64 rest] w (POut2 (pairR v1 v2 w1 w2 n1 n2 rest) w) := by
  unfold pairR
  split
  · rename_i h
    split
    · rename_i ha; exact pair_on v1 v2 w1 w2 n1 n2 rest w h.1 h.2 ha
    · rename_i ha; exact pair_away v1 v2 w1 w2 n1 n2 rest w h.1 h.2 (by simpa using ha)
  · rename_i h; exact pair_bad v1 v2 w1 w2 n1 n2 rest w h
end Go.Proofs.Ytklkhnhieihfoaa
namespace Go.Proofs.Ytklkhnhieihfoaa
open Go Go.RowKit
set_option linter.unusedVariables false
def strAux : Nat → Int → Int → Int → Int
  | 0, _, _, r => r
  | i + 1, q, m, r => if (r + 2 ^ i) * (r + 2 ^ i) * m ≤ q then strAux i q m (r + 2 ^ i) else strAux i q m r
def strV (q m : Int) : Int := strAux 23 q m 0
theorem strAux_spec : ∀ (i : Nat) (q m r : Int), 0 ≤ r → r * r * m ≤ q → q < (r + 2 ^ i) * (r + 2 ^ i) * m → 0 ≤ strAux i q m r ∧ strAux i q m r * strAux i q m r * m ≤ q ∧ q < (strAux i q m r + 1) * (strAux i q m r + 1) * m
  | 0, q, m, r, h0, h1, h2 => ⟨h0, h1, h2⟩
  | i + 1, q, m, r, h0, h1, h2 => by
    have hp : (0 : Int) < 2 ^ i := Int.pow_pos (by omega)
    unfold strAux
    split
    · rename_i h
      refine strAux_spec i q m _ (by omega) h ?_
      have e : r + 2 ^ i + 2 ^ i = r + 2 ^ (i + 1) := by rw [Int.pow_succ]; omega
      rw [e]; exact h2
    · rename_i h
      exact strAux_spec i q m r h0 h1 (by omega)
theorem strV_spec {q m : Int} (h0 : 0 ≤ q) (h : q < 70368744177664 * m) : 0 ≤ strV q m ∧ strV q m * strV q m * m ≤ q ∧ q < (strV q m + 1) * (strV q m + 1) * m :=
  strAux_spec 23 q m 0 (by omega) (by simpa using h0) (by
    have e : ((0 : Int) + 2 ^ 23) * (0 + 2 ^ 23) = 70368744177664 := by decide
    rw [e]; exact h)
theorem sq_mul_mono {a b m : Int} (ha : 0 ≤ a) (hab : a ≤ b) (hm : 0 ≤ m) : a * a * m ≤ b * b * m := Int.mul_le_mul_of_nonneg_right (Int.mul_le_mul hab hab ha (by omega)) hm
theorem strV_bd {q m : Int} (h0 : 0 ≤ q) (hm : 0 < m) (h : q < 70368744177664 * m) : 0 ≤ strV q m ∧ strV q m < 8388608 := by
  obtain ⟨a, b, c⟩ := strV_spec h0 h
  refine ⟨a, ?_⟩
  rcases Int.lt_or_le (strV q m) 8388608 with g | g
  · exact g
  · exfalso
    have := sq_mul_mono (m := m) (show (0 : Int) ≤ 8388608 by omega) g (by omega)
    omega
/-- The approach is not faster than the velocities. -/
theorem appr_q {u1 u2 n1 n2 : Int} (h1 : -2097152 ≤ u1 ∧ u1 ≤ 2097152) (h2 : -2097152 ≤ u2 ∧ u2 ≤ 2097152) (hm : 0 < n1 * n1 + n2 * n2) : (u1 * n1 + u2 * n2) * (u1 * n1 + u2 * n2) < 70368744177664 * (n1 * n1 + n2 * n2) := by
  have m1 := mulB u1 u1 2097152 2097152 h1 h1
  have m2 := mulB u2 u2 2097152 2097152 h2 h2
  have e : (u1 * u1 + u2 * u2) * (n1 * n1 + n2 * n2) = (u1 * n1 + u2 * n2) * (u1 * n1 + u2 * n2) + (u1 * n2 - u2 * n1) * (u1 * n2 - u2 * n1) := by grind
  have q : 0 ≤ (u1 * n2 - u2 * n1) * (u1 * n2 - u2 * n1) := by
    rcases Int.le_total 0 (u1 * n2 - u2 * n1) with h | h
    · exact Int.mul_nonneg h h
    · exact Int.mul_nonneg_of_nonpos_of_nonpos h h
  have g : (u1 * u1 + u2 * u2) * (n1 * n1 + n2 * n2) ≤ 8796093022208 * (n1 * n1 + n2 * n2) := Int.mul_le_mul_of_nonneg_right (by omega) (by omega)
  omega
theorem mul64_i (x y : Int) (w : World) (x0 : 0 ≤ x) (x1 : x < 18446744073709551616) (y0 : 0 ≤ y) (y1 : y < 18446744073709551616) :
    Calls Try.prog 73 #[.int .u64 x, .int .u64 y] w fun e w' => e = .returned (.tuple #[.int .u64 (x * y / 18446744073709551616), .int .u64 (x * y % 18446744073709551616)]) ∧ Below w.heap.size w w' := by
  obtain ⟨a, rfl⟩ := Int.eq_ofNat_of_zero_le x0
  obtain ⟨b, rfl⟩ := Int.eq_ofNat_of_zero_le y0
  have := mul64_b a b w (by omega) (by omega)
  simpa using this
theorem two_words {A B K : Int} (hK : 0 < K) : (A / K < B / K ∧ A ≤ B) ∨ (A / K = B / K ∧ A % K ≤ B % K ∧ A ≤ B) ∨ (A / K = B / K ∧ B % K < A % K ∧ ¬ A ≤ B) ∨ (B / K < A / K ∧ ¬ A ≤ B) := by
  have h1 := Int.mul_ediv_add_emod A K
  have h2 := Int.mul_ediv_add_emod B K
  have r1 := Int.emod_nonneg A (show K ≠ 0 by omega)
  have r2 := Int.emod_nonneg B (show K ≠ 0 by omega)
  have s1 := Int.emod_lt_of_pos A hK
  have s2 := Int.emod_lt_of_pos B hK
  rcases Int.lt_trichotomy (A / K) (B / K) with h | h | h
  · refine .inl ⟨h, ?_⟩
    have : K * (A / K + 1) ≤ K * (B / K) := Int.mul_le_mul_of_nonneg_left (by omega) (by omega)
    rw [Int.mul_add, Int.mul_one] at this
    omega
  · rcases Int.lt_or_le (B % K) (A % K) with g | g
    · exact .inr (.inr (.inl ⟨h, g, by rw [h] at h1; omega⟩))
    · exact .inr (.inl ⟨h, g, by rw [h] at h1; omega⟩)
  · refine .inr (.inr (.inr ⟨h, ?_⟩))
    have : K * (B / K + 1) ≤ K * (A / K) := Int.mul_le_mul_of_nonneg_left (by omega) (by omega)
    rw [Int.mul_add, Int.mul_one] at this
    omega
def strR (v1 v2 w1 w2 n1 n2 : Int) : Int := if apprB v1 v2 w1 w2 n1 n2 = true then strV (((v1 - w1) * n1 + (v2 - w2) * n2) * ((v1 - w1) * n1 + (v2 - w2) * n2)) (n1 * n1 + n2 * n2) else 0
set_option maxRecDepth 100000 in
set_option maxHeartbeats 20000000 in
theorem strength_away (v1 v2 w1 w2 n1 n2 : Int) (w : World) (ha : apprB v1 v2 w1 w2 n1 n2 = false) :
    Calls Try.prog 28 #[.agg #[.int .i64 v1, .int .i64 v2], .agg #[.int .i64 w1, .int .i64 w2], .agg #[.int .i64 n1, .int .i64 n2]] w fun e w' => e = .returned (.int .i64 0) ∧ Below w.heap.size w w' := by
  have k1 := fun w => approaches_any v1 v2 w1 w2 n1 n2 w
  rw [ha] at k1
  have K1 := Lib.hid k1
  clear k1 ha
  go_enter Try.func28, Try.ntmps28; (try simp only [List.append_eq, List.cons_append, List.nil_append])
  go_wp2_with fail
  -- own blocks: w.heap.size:2, w.heap.size + 1:2, w.heap.size + 1 + 1:2
  (go_at_call 26; refine (K1.out _).mono ?_; rintro e w1 ⟨rfl, hb_w1⟩; have hz_w1 := hb_w1.size; (try simp at hz_w1); (with_reducible apply cel2 (b := w.heap.size) hb_w1); (focus ((try simp) <;> omega)); (focus omega); (focus (go_simp; try exact rfl)); (focus (go_simp; try exact rfl)); (focus (intro o; go_simp)); intro cc cc fz hl; (with_reducible apply cel2 (b := w.heap.size + 1) hb_w1); (focus ((try simp) <;> omega)); (focus omega); (focus (go_simp; try exact rfl)); (focus (go_simp; try exact rfl)); (focus (intro o; go_simp)); intro cc cc fz hl; (with_reducible apply cel2 (b := w.heap.size + 1 + 1) hb_w1); (focus ((try simp) <;> omega)); (focus omega); (focus (go_simp; try exact rfl)); (focus (go_simp; try exact rfl)); (focus (intro o; go_simp)); intro cc cc fz hl)
  go_wp2_with fail
  go_ret
  exact ⟨rfl, by ((with_reducible (repeat (first | exact bR _ _ | refine bS ?_ ?_ _ | refine bA ?_ ?_ _ | refine bD ?_ | refine bT ?_ (by assumption) ?_ | refine bO (by assumption) ?_ ?_))) <;> (first | omega | (simp; done) | (simp <;> omega)))⟩
set_option maxRecDepth 100000 in
set_option maxHeartbeats 20000000 in
theorem strength_on (v1 v2 w1 w2 n1 n2 : Int) (w : World) (ha : apprB v1 v2 w1 w2 n1 n2 = true) :
    Calls Try.prog 28 #[.agg #[.int .i64 v1, .int .i64 v2], .agg #[.int .i64 w1, .int .i64 w2], .agg #[.int .i64 n1, .int .i64 n2]] w fun e w' => e = .returned (.int .i64 (strV (((v1 - w1) * n1 + (v2 - w2) * n2) * ((v1 - w1) * n1 + (v2 - w2) * n2)) (n1 * n1 + n2 * n2))) ∧ Below w.heap.size w w' := by
  obtain ⟨hp, q3, q4⟩ := appr_bd ha
  obtain ⟨bv, bw, bn⟩ := perm_bd hp
  obtain ⟨e1, e2, e3⟩ := perm_vals hp
  obtain ⟨⟨p1, p2⟩, p3, p4⟩ := perm_prod hp
  have hq := appr_q (u1 := v1 - w1) (u2 := v2 - w2) (by omega) (by omega) q4
  have k1 := fun w => approaches_any v1 v2 w1 w2 n1 n2 w
  have k2 := fun w => vsub_any v1 v2 w1 w2 w
  have k3 := fun w => vdot_any (v1 - w1) (v2 - w2) n1 n2 w
  have k4 := fun w => vdot_any n1 n2 n1 n2 w
  rw [ha] at k1
  rw [e1] at k2
  rw [e2] at k3
  rw [e3] at k4
  generalize (v1 - w1) * n1 + (v2 - w2) * n2 = C at *
  generalize n1 * n1 + n2 * n2 = M at *
  obtain ⟨c, hc⟩ : ∃ c, c = -C := ⟨_, rfl⟩
  obtain rfl : C = -c := by omega
  rw [Int.neg_mul_neg] at hq ⊢
  have q5 : 0 ≤ c * c := Int.mul_nonneg (by omega) (by omega)
  have k5 := fun w => mul64_i c c w (by omega) (by omega) (by omega) (by omega)
  obtain ⟨Q, hQ⟩ : ∃ Q, Q = c * c := ⟨_, rfl⟩
  rw [← hQ] at hq q5 k5 ⊢
  have hcut := fun A => @two_words A Q 18446744073709551616 (by decide)
  have h0 := Int.emod_nonneg Q (show (18446744073709551616 : Int) ≠ 0 by decide)
  have h1 := Int.emod_lt_of_pos Q (show (0 : Int) < 18446744073709551616 by decide)
  have h2 := Int.ediv_nonneg q5 (show (0 : Int) ≤ 18446744073709551616 by decide)
  have h3 : Q / 18446744073709551616 < 18446744073709551616 := by
    have := mulB c c 8796093022208 8796093022208 (by omega) (by omega)
    omega
  obtain ⟨R, hR⟩ : ∃ R, R = strV Q M := ⟨_, rfl⟩
  have hbd := strV_bd q5 q4 hq
  rw [← hR] at hbd ⊢
  unfold strV at hR
  have HAx := Lib.hid hR
  have HCut := Lib.hid hcut
  have HHQ := Lib.hid hq
  have HQD := Lib.hid (show Q = 18446744073709551616 * (Q / 18446744073709551616) + Q % 18446744073709551616 from (Int.mul_ediv_add_emod Q 18446744073709551616).symm)
  generalize hHI : Q / 18446744073709551616 = hi at *
  generalize hLO : Q % 18446744073709551616 = lo at *
  have hneg : - -c = c := Int.neg_neg c
  have K1 := Lib.hid k1
  have K2 := Lib.hid k2
  have K3 := Lib.hid k3
  have K4 := Lib.hid k4
  have K5 := Lib.hid k5
  clear k1 k2 k3 k4 k5 hR hcut hp ha e1 e2 e3 bv bw bn hQ hq q5 hHI hLO hc
  -- names on
  go_enter Try.func28, Try.ntmps28; (try simp only [List.append_eq, List.cons_append, List.nil_append])
  go_wp2_with fail
  -- own blocks: w.heap.size:2, w.heap.size + 1:2, w.heap.size + 1 + 1:2
  (go_at_call 26; refine (K1.out _).mono ?_; rintro e w101 ⟨rfl, hb_w101⟩; have hz_w101 := hb_w101.size; (try simp at hz_w101); (with_reducible apply cel2 (b := w.heap.size) hb_w101); (focus ((try simp) <;> omega)); (focus omega); (focus (go_simp; try exact rfl)); (focus (go_simp; try exact rfl)); (focus (intro o; go_simp)); intro c_w101_0_0 c_w101_0_1 fz_w101_0 hl_w101_0; (with_reducible apply cel2 (b := w.heap.size + 1) hb_w101); (focus ((try simp) <;> omega)); (focus omega); (focus (go_simp; try exact rfl)); (focus (go_simp; try exact rfl)); (focus (intro o; go_simp)); intro c_w101_1_0 c_w101_1_1 fz_w101_1 hl_w101_1; (with_reducible apply cel2 (b := w.heap.size + 1 + 1) hb_w101); (focus ((try simp) <;> omega)); (focus omega); (focus (go_simp; try exact rfl)); (focus (go_simp; try exact rfl)); (focus (intro o; go_simp)); intro c_w101_2_0 c_w101_2_1 fz_w101_2 hl_w101_2)
  have HB101 := Lib.hid (show Below w.heap.size w w101 by ((with_reducible (repeat (first | exact bR _ _ | refine bS ?_ ?_ _ | refine bA ?_ ?_ _ | refine bD ?_ | refine bT ?_ (by assumption) ?_ | refine bO (by assumption) ?_ ?_))) <;> (first | omega | (simp; done) | (simp <;> omega))))
  have hz101 : w.heap.size + 1 + 1 + 1 ≤ w101.heap.size := by omega
  clear hb_w101
  skip
  go_wp2_with fail
  -- own blocks: w.heap.size:2, w.heap.size + 1:2, w.heap.size + 1 + 1:2
  (refine pin_wp (N := _) (Nat.le_refl _) (fun w102 hb_w102 hz_w102 => ?_); (try simp at hz_w102); (with_reducible apply cel2 (b := w.heap.size) hb_w102); (focus ((try simp) <;> omega)); (focus omega); (focus (go_simp; try exact rfl)); (focus (go_simp; try exact rfl)); (focus (intro o; go_simp)); intro c_w102_0_0 c_w102_0_1 fz_w102_0 hl_w102_0; (with_reducible apply cel2 (b := w.heap.size + 1) hb_w102); (focus ((try simp) <;> omega)); (focus omega); (focus (go_simp; try exact rfl)); (focus (go_simp; try exact rfl)); (focus (intro o; go_simp)); intro c_w102_1_0 c_w102_1_1 fz_w102_1 hl_w102_1; (with_reducible apply cel2 (b := w.heap.size + 1 + 1) hb_w102); (focus ((try simp) <;> omega)); (focus omega); (focus (go_simp; try exact rfl)); (focus (go_simp; try exact rfl)); (focus (intro o; go_simp)); intro c_w102_2_0 c_w102_2_1 fz_w102_2 hl_w102_2); refine wp_q (fun Q_ HQ_ => ?_); refine wp_region_floatQ w102.heap.size 11 [] (Nat.le_refl _) (fun _ => True) trivial Cl.tt (by kernel_rfl) (by kernel_rfl) ?_
  have HB102 := Lib.hid (show Below w.heap.size w w102 by have hB := HB101.out; ((with_reducible (repeat (first | exact bR _ _ | refine bS ?_ ?_ _ | refine bA ?_ ?_ _ | refine bD ?_ | refine bT ?_ (by assumption) ?_ | refine bO (by assumption) ?_ ?_))) <;> (first | omega | (simp; done) | (simp <;> omega))))
  have hz102 : w.heap.size + 1 + 1 + 1 ≤ w102.heap.size := by omega
  clear hb_w102
  clear c_w101_0_0 c_w101_0_1 fz_w101_0 hl_w101_0 c_w101_1_0 c_w101_1_1 fz_w101_1 hl_w101_1 c_w101_2_0 c_w101_2_1 fz_w101_2 hl_w101_2
  refine wpQI_start [0, 1] ?_; (iterate 2 (first | (refine wpQI_off (by with_reducible (refine List.getElem?_toArray.trans ?_; (repeat (first | exact List.getElem?_cons_zero | refine List.getElem?_cons_succ.trans ?_)))) (by kernel_rfl) (by exact rfl) (fun K hK => ?_); go_simp; refine hK _ ?_; clear hK K) | ((first | apply wpQI_step (by with_reducible (refine List.getElem?_toArray.trans ?_; (repeat (first | exact List.getElem?_cons_zero | refine List.getElem?_cons_succ.trans ?_)))) (by kernel_rfl) (by exact rfl) | apply wpQI_on (by with_reducible (refine List.getElem?_toArray.trans ?_; (repeat (first | exact List.getElem?_cons_zero | refine List.getElem?_cons_succ.trans ?_)))) (by kernel_rfl) (by exact rfl)); (focus (intro W' hS; have hcS := hS.cells.1; have hfS := hS.cells.2; go_simp; (first | done | exact rfl | exact ⟨rfl, Below.refl _ _⟩ | (go_simp; first | done | exact rfl | exact ⟨rfl, Below.refl _ _⟩)))); intro K hK; go_simp; (try go_bits); refine hK _ ?_; clear hK K))); refine wpQI_nil ?_
  refine wpQI_start [3] ?_; (iterate 1 (first | (refine wpQI_off (by with_reducible (refine List.getElem?_toArray.trans ?_; (repeat (first | exact List.getElem?_cons_zero | refine List.getElem?_cons_succ.trans ?_)))) (by kernel_rfl) (by exact rfl) (fun K hK => ?_); go_simp; refine hK _ ?_; clear hK K) | ((first | apply wpQI_step (by with_reducible (refine List.getElem?_toArray.trans ?_; (repeat (first | exact List.getElem?_cons_zero | refine List.getElem?_cons_succ.trans ?_)))) (by kernel_rfl) (by exact rfl) | apply wpQI_on (by with_reducible (refine List.getElem?_toArray.trans ?_; (repeat (first | exact List.getElem?_cons_zero | refine List.getElem?_cons_succ.trans ?_)))) (by kernel_rfl) (by exact rfl)); (focus (intro W' hS; have hcS := hS.cells.1; have hfS := hS.cells.2; go_simp; (first | done | exact rfl | exact ⟨rfl, Below.refl _ _⟩ | (go_simp; first | done | exact rfl | exact ⟨rfl, Below.refl _ _⟩)))); intro K hK; go_simp; (try go_bits); refine hK _ ?_; clear hK K))); refine wpQI_nil ?_
  refine wpQI_start [6, 7] ?_; (iterate 2 (first | (refine wpQI_off (by with_reducible (refine List.getElem?_toArray.trans ?_; (repeat (first | exact List.getElem?_cons_zero | refine List.getElem?_cons_succ.trans ?_)))) (by kernel_rfl) (by exact rfl) (fun K hK => ?_); go_simp; refine hK _ ?_; clear hK K) | ((first | apply wpQI_step (by with_reducible (refine List.getElem?_toArray.trans ?_; (repeat (first | exact List.getElem?_cons_zero | refine List.getElem?_cons_succ.trans ?_)))) (by kernel_rfl) (by exact rfl) | apply wpQI_on (by with_reducible (refine List.getElem?_toArray.trans ?_; (repeat (first | exact List.getElem?_cons_zero | refine List.getElem?_cons_succ.trans ?_)))) (by kernel_rfl) (by exact rfl)); (focus (intro W' hS; have hcS := hS.cells.1; have hfS := hS.cells.2; go_simp; (first | done | exact rfl | exact ⟨rfl, Below.refl _ _⟩ | (go_simp; first | done | exact rfl | exact ⟨rfl, Below.refl _ _⟩)))); intro K hK; go_simp; (try go_bits); refine hK _ ?_; clear hK K))); refine wpQI_nil ?_
  refine wpQI_start [2] ?_; (iterate 1 (first | (refine wpQI_off (by with_reducible (refine List.getElem?_toArray.trans ?_; (repeat (first | exact List.getElem?_cons_zero | refine List.getElem?_cons_succ.trans ?_)))) (by kernel_rfl) (by exact rfl) (fun K hK => ?_); go_simp; refine hK _ ?_; clear hK K) | ((first | apply wpQI_step (by with_reducible (refine List.getElem?_toArray.trans ?_; (repeat (first | exact List.getElem?_cons_zero | refine List.getElem?_cons_succ.trans ?_)))) (by kernel_rfl) (by exact rfl) | apply wpQI_on (by with_reducible (refine List.getElem?_toArray.trans ?_; (repeat (first | exact List.getElem?_cons_zero | refine List.getElem?_cons_succ.trans ?_)))) (by kernel_rfl) (by exact rfl)); (focus (intro W' hS; have hcS := hS.cells.1; have hfS := hS.cells.2; go_simp; (first | done | exact rfl | exact ⟨rfl, Below.refl _ _⟩ | (go_at_call 20; exact (K2.out _).mono (fun _ _ h => ⟨h.1, h.2⟩)) | (go_simp; first | done | exact rfl | exact ⟨rfl, Below.refl _ _⟩)))); intro K hK; go_simp; (try go_bits); refine hK _ ?_; clear hK K))); refine wpQI_nil ?_
  refine wpQI_start [4] ?_; (iterate 1 (first | (refine wpQI_off (by with_reducible (refine List.getElem?_toArray.trans ?_; (repeat (first | exact List.getElem?_cons_zero | refine List.getElem?_cons_succ.trans ?_)))) (by kernel_rfl) (by exact rfl) (fun K hK => ?_); go_simp; refine hK _ ?_; clear hK K) | ((first | apply wpQI_step (by with_reducible (refine List.getElem?_toArray.trans ?_; (repeat (first | exact List.getElem?_cons_zero | refine List.getElem?_cons_succ.trans ?_)))) (by kernel_rfl) (by exact rfl) | apply wpQI_on (by with_reducible (refine List.getElem?_toArray.trans ?_; (repeat (first | exact List.getElem?_cons_zero | refine List.getElem?_cons_succ.trans ?_)))) (by kernel_rfl) (by exact rfl)); (focus (intro W' hS; have hcS := hS.cells.1; have hfS := hS.cells.2; go_simp; (first | done | exact rfl | exact ⟨rfl, Below.refl _ _⟩ | (go_at_call 19; exact (K3.out _).mono (fun _ _ h => ⟨h.1, h.2⟩)) | (go_simp; first | done | exact rfl | exact ⟨rfl, Below.refl _ _⟩)))); intro K hK; go_simp; (try go_bits); refine hK _ ?_; clear hK K))); refine wpQI_nil ?_
  refine wpQI_start [5] ?_; (iterate 1 (first | (refine wpQI_off (by with_reducible (refine List.getElem?_toArray.trans ?_; (repeat (first | exact List.getElem?_cons_zero | refine List.getElem?_cons_succ.trans ?_)))) (by kernel_rfl) (by exact rfl) (fun K hK => ?_); go_simp; refine hK _ ?_; clear hK K) | ((first | apply wpQI_step (by with_reducible (refine List.getElem?_toArray.trans ?_; (repeat (first | exact List.getElem?_cons_zero | refine List.getElem?_cons_succ.trans ?_)))) (by kernel_rfl) (by exact rfl) | apply wpQI_on (by with_reducible (refine List.getElem?_toArray.trans ?_; (repeat (first | exact List.getElem?_cons_zero | refine List.getElem?_cons_succ.trans ?_)))) (by kernel_rfl) (by exact rfl)); (focus (intro W' hS; have hcS := hS.cells.1; have hfS := hS.cells.2; go_simp; (first | done | exact rfl | exact ⟨rfl, Below.refl _ _⟩ | (go_simp; first | done | exact rfl | exact ⟨rfl, Below.refl _ _⟩)))); intro K hK; go_simp; (try go_bits); refine hK _ ?_; clear hK K))); refine wpQI_nil ?_
  refine wpQI_start [8] ?_; (iterate 1 (first | (refine wpQI_off (by with_reducible (refine List.getElem?_toArray.trans ?_; (repeat (first | exact List.getElem?_cons_zero | refine List.getElem?_cons_succ.trans ?_)))) (by kernel_rfl) (by exact rfl) (fun K hK => ?_); go_simp; refine hK _ ?_; clear hK K) | ((first | apply wpQI_step (by with_reducible (refine List.getElem?_toArray.trans ?_; (repeat (first | exact List.getElem?_cons_zero | refine List.getElem?_cons_succ.trans ?_)))) (by kernel_rfl) (by exact rfl) | apply wpQI_on (by with_reducible (refine List.getElem?_toArray.trans ?_; (repeat (first | exact List.getElem?_cons_zero | refine List.getElem?_cons_succ.trans ?_)))) (by kernel_rfl) (by exact rfl)); (focus (intro W' hS; have hcS := hS.cells.1; have hfS := hS.cells.2; go_simp; (first | done | exact rfl | exact ⟨rfl, Below.refl _ _⟩ | (go_at_call 19; exact (K4.out _).mono (fun _ _ h => ⟨h.1, h.2⟩)) | (go_simp; first | done | exact rfl | exact ⟨rfl, Below.refl _ _⟩)))); intro K hK; go_simp; (try go_bits); refine hK _ ?_; clear hK K))); refine wpQI_nil ?_
  refine wpQI_start [9, 10] ?_; (iterate 2 (first | (refine wpQI_off (by with_reducible (refine List.getElem?_toArray.trans ?_; (repeat (first | exact List.getElem?_cons_zero | refine List.getElem?_cons_succ.trans ?_)))) (by kernel_rfl) (by exact rfl) (fun K hK => ?_); go_simp; refine hK _ ?_; clear hK K) | ((first | apply wpQI_step (by with_reducible (refine List.getElem?_toArray.trans ?_; (repeat (first | exact List.getElem?_cons_zero | refine List.getElem?_cons_succ.trans ?_)))) (by kernel_rfl) (by exact rfl) | apply wpQI_on (by with_reducible (refine List.getElem?_toArray.trans ?_; (repeat (first | exact List.getElem?_cons_zero | refine List.getElem?_cons_succ.trans ?_)))) (by kernel_rfl) (by exact rfl)); (focus (intro W' hS; have hcS := hS.cells.1; have hfS := hS.cells.2; go_simp; (first | done | exact rfl | exact ⟨rfl, Below.refl _ _⟩ | (go_simp; first | done | exact rfl | exact ⟨rfl, Below.refl _ _⟩)))); intro K hK; go_simp; (try go_bits); refine hK _ ?_; clear hK K))); refine wpQI_nil ?_
  refine wpQ_done (by kernel_rfl) ?_
  intro w103 hF_w103 hSG
  have hz_w103 := hSG.1.1
  have hb_w103 := hSG.1.2
  clear hSG
  (with_reducible apply cel2 (b := w.heap.size) hb_w103); (focus ((try simp) <;> omega)); (focus omega); (focus (go_simp; try exact rfl)); (focus (go_simp; try exact rfl)); (focus (intro o; go_simp)); intro c_w103_0_0 c_w103_0_1 fz_w103_0 hl_w103_0; (with_reducible apply cel2 (b := w.heap.size + 1) hb_w103); (focus ((try simp) <;> omega)); (focus omega); (focus (go_simp; try exact rfl)); (focus (go_simp; try exact rfl)); (focus (intro o; go_simp)); intro c_w103_1_0 c_w103_1_1 fz_w103_1 hl_w103_1; (with_reducible apply cel2 (b := w.heap.size + 1 + 1) hb_w103); (focus ((try simp) <;> omega)); (focus omega); (focus (go_simp; try exact rfl)); (focus (go_simp; try exact rfl)); (focus (intro o; go_simp)); intro c_w103_2_0 c_w103_2_1 fz_w103_2 hl_w103_2
  (try simp only [List.filterMap_nil])
  have HB103 := Lib.hid (HB102.out.trans (hb_w103.mono (by have := HB102.out.size; omega)))
  have hz103 : w.heap.size + 1 + 1 + 1 ≤ w103.heap.size := by omega
  clear hF_w103 hb_w103
  clear c_w102_0_0 c_w102_0_1 fz_w102_0 hl_w102_0 c_w102_1_0 c_w102_1_1 fz_w102_1 hl_w102_1 c_w102_2_0 c_w102_2_1 fz_w102_2 hl_w102_2
  go_wp2_with fail
  refine HQ_.out _ _ _ ?_
  clear HQ_ Q_
  go_wp2_with fail
  -- own blocks: 
  (go_at_call 73; refine (K5.out _).mono ?_; rintro e w200 ⟨rfl, hb_w200⟩; have hz_w200 := hb_w200.size; (try simp at hz_w200); skip)
  have HB200 := Lib.hid (show Below w.heap.size w w200 by have hB := HB103.out; ((with_reducible (repeat (first | exact bR _ _ | refine bS ?_ ?_ _ | refine bA ?_ ?_ _ | refine bD ?_ | refine bT ?_ (by assumption) ?_ | refine bO (by assumption) ?_ ?_))) <;> (first | omega | (simp; done) | (simp <;> omega))))
  clear hb_w200
  go_wp2_with fail
  go_loopw [11, 12, 13, 14] (fun vr vb _ _ wr => ∃ (i : Nat) (r b : Int), i ≤ 23 ∧ vr = .int .i64 r ∧ vb = .int .i64 b ∧ 0 ≤ r ∧ r + b < 8388608 * 2 ∧ r < 8388608 ∧ Hid (b = pw i) ∧ Hid (r % 2 ^ i = 0) ∧ Hid (R = strAux i Q M r) ∧ Below w.heap.size w wr) (fun vr vb _ _ _ => (intOf vb).toNat)
  case atStart => exact ⟨23, 0, 4194304, by omega, rfl, rfl, by omega, by omega, by omega, Lib.hid (by decide), Lib.hid (by decide), HAx, HB200.out⟩
  case round =>
    obtain ⟨i, r, b, hi3, rfl, rfl, r0, r1, r2, HB, HM, HA, hb_wr⟩ := hrel
    have HBW := Lib.hid hb_wr
    clear hb_wr
    cases i with
    | zero =>
      have hb : b = 0 := HB.out
      subst hb
      have hr : R = r := HA.out
      subst hr
      go_wp2_with fail
      go_ret
      exact ⟨rfl, HBW.out⟩
    | succ j =>
      have hb : b = 2 ^ j := HB.out
      have b0 : 0 < b := by rw [hb]; exact Int.pow_pos (by omega)
      have b1 : b ≤ 4194304 := by
        rw [hb]
        have h1 : (2 : Nat) ^ j ≤ 4194304 := Nat.le_trans (Nat.pow_le_pow_right (by omega) (show j ≤ 22 by omega)) (by decide)
        have h2 : ((2 ^ j : Nat) : Int) ≤ ((4194304 : Nat) : Int) := Int.ofNat_le.2 h1
        rw [Int.natCast_pow] at h2
        exact h2
      have hor : bits .or .i64 r b = r + b := by
        refine bits_join .i64 63 (by decide) wraps_i64' (j + 1) r b r0 HM.out (by omega) (by omega) ?_ (by omega)
        rw [hb, Int.pow_succ]; omega
      have hhalf : b / 2 = pw j := by rw [hb]; exact pw_half j
      have hX := mulB (r + b) (r + b) 16777216 16777216 (by omega) (by omega)
      have hX0 := Int.mul_nonneg (show 0 ≤ r + b by omega) (show 0 ≤ r + b by omega)
      have Hb := Lib.hid hb
      obtain ⟨b', hb'⟩ : ∃ b', b' = pw j := ⟨_, rfl⟩
      rw [← hb'] at hhalf
      have Hb' := Lib.hid hb'
      have b2 : 0 ≤ b' ∧ b' < b := by omega
      obtain ⟨b3, b4⟩ := b2
      have hsx : (r + b) * (r + b) * M ≤ Q ∨ ¬ (r + b) * (r + b) * M ≤ Q := Classical.em _
      have HT := Lib.hid (show (r + b) % 2 ^ j = 0 ∧ r % 2 ^ j = 0 from by
        have h2 : r % 2 ^ j = 0 := Int.emod_eq_zero_of_dvd (Int.dvd_trans ⟨2, by rw [Int.pow_succ]⟩ (Int.dvd_of_emod_eq_zero HM.out))
        exact ⟨by rw [hb, Int.add_emod, h2, Int.emod_self]; rfl, h2⟩)
      have HA1 := Lib.hid (show ((r + b) * (r + b) * M ≤ Q → R = strAux j Q M (r + b)) ∧ (¬ (r + b) * (r + b) * M ≤ Q → R = strAux j Q M r) from by
        constructor
        · intro hle; rw [HA.out, hb]; exact if_pos (by rw [← hb]; exact hle)
        · intro hle; rw [HA.out]; exact if_neg (by rw [← hb]; exact hle))
      clear hsx
      obtain ⟨X, hXe⟩ : ∃ X, X = (r + b) * (r + b) := ⟨_, rfl⟩
      rw [← hXe] at hX hX0 HA1
      have hcase := HCut.out (X * M)
      have k6 := fun w => mul64_i X M w (by omega) (by omega) (by omega) (by omega)
      have K6 := Lib.hid k6
      have g0 := Int.emod_nonneg (X * M) (show (18446744073709551616 : Int) ≠ 0 by decide)
      have g1 := Int.emod_lt_of_pos (X * M) (show (0 : Int) < 18446744073709551616 by decide)
      have hXM := Int.mul_nonneg hX0 (show 0 ≤ M by omega)
      have g2 := Int.ediv_nonneg hXM (show (0 : Int) ≤ 18446744073709551616 by decide)
      have hXe' := hXe.symm
      have HX2 := Lib.hid (show r + b < 8388608 ∨ ¬ X * M ≤ Q from by
        rcases Int.lt_or_le (r + b) 8388608 with g | g
        · exact .inl g
        · refine .inr fun hle => ?_
          have h1 := Int.mul_le_mul g g (by omega) (by omega)
          have h2 : 70368744177664 * M ≤ X * M := Int.mul_le_mul_of_nonneg_right (by omega) (by omega)
          have := HHQ.out
          omega)
      generalize hAH : X * M / 18446744073709551616 = ah at *
      generalize hAL : X * M % 18446744073709551616 = al at *
      have ah1 : ah < 18446744073709551616 := by
        have := mulB X M 281474976710656 8796093022208 (by omega) (by omega)
        omega
      have HCS := Lib.hid (show (ah < hi ∧ X * M ≤ Q) ∨ (ah = hi ∧ al ≤ lo ∧ X * M ≤ Q) ∨ (ah = hi ∧ lo < al ∧ ¬ X * M ≤ Q) ∨ (hi < ah ∧ ¬ X * M ≤ Q) from by
        rcases hcase with h | h | ⟨h, h', g⟩ | ⟨h, g⟩
        · exact .inl h
        · exact .inr (.inl h)
        · exact .inr (.inr (.inl ⟨h, h', by omega⟩))
        · exact .inr (.inr (.inr ⟨h, by omega⟩)))
      have hne : ((r + b) == 0) = false := by simp; omega
      clear hcase k6 hb hb' hXe g0 hXM hAH hAL
      have i1 : ¬ b ≤ 0 := by omega
      go_wp2_with fail
      -- own blocks: 
      (go_at_call 73; refine (K6.out _).mono ?_; rintro e w201 ⟨rfl, hb_w201⟩; have hz_w201 := hb_w201.size; (try simp at hz_w201); skip)
      have HB201 := Lib.hid (HBW.out.trans (hb_w201.mono (by have := HBW.out.size; omega)))
      clear hb_w201
      rcases HCS.out with ⟨hc, hy⟩ | ⟨rfl, hc, hy⟩ | ⟨rfl, hc, hy⟩ | ⟨hc, hy⟩
      · have hr2 := HA1.out.1 hy
        have hx2 : r + b < 8388608 := by rcases HX2.out with h | h <;> omega
        have H2 := Lib.hid hr2
        have HT2 := Lib.hid HT.out.1
        clear hr2 hy
        go_wp2_with fail
        go_roundw
        case rel => exact ⟨j, r + b, b', by omega, by go_num, by go_num, by omega, by omega, by omega, Hb', HT2, H2, HB201.out⟩
        case measure => simp [intOf]; omega
      · have hr2 := HA1.out.1 hy
        have hx2 : r + b < 8388608 := by rcases HX2.out with h | h <;> omega
        have H2 := Lib.hid hr2
        have HT2 := Lib.hid HT.out.1
        clear hr2 hy
        go_wp2_with fail
        go_roundw
        case rel => exact ⟨j, r + b, b', by omega, by go_num, by go_num, by omega, by omega, by omega, Hb', HT2, H2, HB201.out⟩
        case measure => simp [intOf]; omega
      · have hr2 := HA1.out.2 hy
        have H2 := Lib.hid hr2
        have HT2 := Lib.hid HT.out.2
        clear hr2 hy
        go_wp2_with fail
        go_roundw
        case rel => exact ⟨j, r, b', by omega, by go_num, by go_num, by omega, by omega, by omega, Hb', HT2, H2, HB201.out⟩
        case measure => simp [intOf]; omega
      · have hr2 := HA1.out.2 hy
        have H2 := Lib.hid hr2
        have HT2 := Lib.hid HT.out.2
        clear hr2 hy
        go_wp2_with fail
        go_roundw
        case rel => exact ⟨j, r, b', by omega, by go_num, by go_num, by omega, by omega, by omega, Hb', HT2, H2, HB201.out⟩
        case measure => simp [intOf]; omega
/-- Strength, on both sides. -/
theorem strength_any (v1 v2 w1 w2 n1 n2 : Int) (w : World) : Calls Try.prog 28 #[.agg #[.int .i64 v1, .int .i64 v2], .agg #[.int .i64 w1, .int .i64 w2], .agg #[.int .i64 n1, .int .i64 n2]] w fun e w' => e = .returned (.int .i64 (strR v1 v2 w1 w2 n1 n2)) ∧ Below w.heap.size w w' := by
  unfold strR
  split
  · rename_i ha; exact strength_on v1 v2 w1 w2 n1 n2 w ha
  · rename_i ha; exact strength_away v1 v2 w1 w2 n1 n2 w (by simpa using ha)
end Go.Proofs.Ytklkhnhieihfoaa
namespace Go.Proofs.Ytklkhnhieihfoaa
open Go Go.RowKit
set_option linter.unusedVariables false
theorem trunc_two (r q : Int × Int × Int) (g : Nat) (w : World) (spx : Bool) (Apx : Option Addr) (npx cpx : Nat) (spy : Bool) (Apy : Option Addr) (npy cpy : Nat) (spd : Bool) (Apd : Option Addr) (npd cpd : Nat) (sqx : Bool) (Aqx : Option Addr) (nqx cqx : Nat) (sqy : Bool) (Aqy : Option Addr) (nqy cqy : Nat) (sqd : Bool) (Aqd : Option Addr) (nqd cqd : Nat) (hok : Val r) (hok2 : Val q) (hm : withinB (meanR [r, q]).1 (meanR [r, q]).2 1073741824 = true) (hg : g < w.heap.size) (hp0 : w.cell? ⟨g, 0, none⟩ = some (.bool spx)) (hp1 : w.cell? ⟨g, 1, none⟩ = some (.slice Apx npx cpx)) (hp2 : w.cell? ⟨g, 2, none⟩ = some (.bool spy)) (hp3 : w.cell? ⟨g, 3, none⟩ = some (.slice Apy npy cpy)) (hp4 : w.cell? ⟨g, 4, none⟩ = some (.bool spd)) (hp5 : w.cell? ⟨g, 5, none⟩ = some (.slice Apd npd cpd)) (hq0 : w.cell? ⟨g, 6, none⟩ = some (.bool sqx)) (hq1 : w.cell? ⟨g, 7, none⟩ = some (.slice Aqx nqx cqx)) (hq2 : w.cell? ⟨g, 8, none⟩ = some (.bool sqy)) (hq3 : w.cell? ⟨g, 9, none⟩ = some (.slice Aqy nqy cqy)) (hq4 : w.cell? ⟨g, 10, none⟩ = some (.bool sqd)) (hq5 : w.cell? ⟨g, 11, none⟩ = some (.slice Aqd nqd cqd)) (hR : RAt w (.agg #[.bool spx, .slice Apx npx cpx, .bool spy, .slice Apy npy cpy, .bool spd, .slice Apd npd cpd]) r.1 r.2.1 r.2.2) (hQ : RAt w (.agg #[.bool sqx, .slice Aqx nqx cqx, .bool sqy, .slice Aqy nqy cqy, .bool sqd, .slice Aqd nqd cqd]) q.1 q.2.1 q.2.2) :
    Calls Try.prog 36 #[.slice (some ⟨g, 0, none⟩) 2 2] w fun e w' => e = .returned (.tuple #[.agg #[.int .i64 (meanR [r, q]).1, .int .i64 (meanR [r, q]).2], .bool true]) ∧ Below w.heap.size w w' :=
  trunc_ok [r, q] (some ⟨g, 0, none⟩) 2 w (by simp) (by simp) (fun k x hx => by
    rcases k with _ | _ | k
    · simp only [List.getElem?_cons_zero, Option.some.injEq] at hx
      subst hx
      exact ⟨g, 0, rfl, hg, _, _, _, _, _, _, _, _, _, _, _, _, by simpa using hp0, by simpa using hp1, by simpa using hp2, by simpa using hp3, by simpa using hp4, by simpa using hp5, hR⟩
    · simp only [List.getElem?_cons_succ, List.getElem?_cons_zero, Option.some.injEq] at hx
      subst hx
      exact ⟨g, 0, rfl, hg, _, _, _, _, _, _, _, _, _, _, _, _, by simpa using hq0, by simpa using hq1, by simpa using hq2, by simpa using hq3, by simpa using hq4, by simpa using hq5, hQ⟩
    · simp at hx) (by simpa using ⟨hok, hok2⟩) hm
theorem len_sm {z : Int} {n : Nat} (h1 : -1000 ≤ z) (h2 : z ≤ 1000) (hn : 1 ≤ n) : (canN z.natAbs).length ≤ n := Nat.le_trans (canN_bd (k := 1) (B := 1000) h1 h2 (by decide)) hn
theorem val_of {r : Int × Int × Int} (d : 0 < r.2.2) (x : -1000 ≤ r.1 ∧ r.1 ≤ 1000) (y : -1000 ≤ r.2.1 ∧ r.2.1 ≤ 1000) (e : r.2.2 ≤ 1000) : Val r :=
  ⟨d, len_sm x.1 x.2 (by decide), len_sm y.1 y.2 (by decide), len_sm (by omega) e (by decide)⟩
set_option maxRecDepth 100000 in
set_option maxHeartbeats 20000000 in
theorem awake15_any (w : World) : Calls Try.prog 25 #[] w fun e w' => e = .returned (.bool true) ∧ Below w.heap.size w w' := by
  have k1 := fun w => static_any 3 (-4) 0 0 0 1 8 0 w
  rw [show statR 3 (-4) 0 0 0 1 8 0 = (3, 2, 1) by decide +kernel] at k1
  have k2 := fun w => static_any 3 (-4) 0 0 0 1 8 8 w
  rw [show statR 3 (-4) 0 0 0 1 8 8 = (3, 4, 2) by decide +kernel] at k2
  have k3 := fun w => pair_any 10 0 0 0 (-1) 0 15 w
  rw [show pairR 10 0 0 0 (-1) 0 15 = ((5, 0, 16), (155, 0, 16)) by decide +kernel] at k3
  have hm : meanR [(3, 2, 1), (3, 4, 2)] = (2, 2) := by decide +kernel
  have k5 := fun (g : Nat) (w : World) => @trunc_two (3, 2, 1) (3, 4, 2) g w
  have v1 : Val (3, 2, 1) := val_of (by decide) (by decide) (by decide) (by decide)
  have v2 : Val (3, 4, 2) := val_of (by decide) (by decide) (by decide) (by decide)
  have k5' := fun (g : Nat) (w : World) (spx : Bool) (Apx : Option Addr) (npx cpx : Nat) (spy : Bool) (Apy : Option Addr) (npy cpy : Nat) (spd : Bool) (Apd : Option Addr) (npd cpd : Nat) (sqx : Bool) (Aqx : Option Addr) (nqx cqx : Nat) (sqy : Bool) (Aqy : Option Addr) (nqy cqy : Nat) (sqd : Bool) (Aqd : Option Addr) (nqd cqd : Nat) => k5 g w spx Apx npx cpx spy Apy npy cpy spd Apd npd cpd sqx Aqx nqx cqx sqy Aqy nqy cqy sqd Aqd nqd cqd v1 v2 (by rw [hm]; decide)
  clear k5
  have k5 := k5'
  clear k5'
  rw [hm] at k5
  have k6 := fun w => ratio15_any 3 2 1 w (by omega) (by omega) (by omega)
  have k7 := fun w => ratio15_any 3 4 2 w (by omega) (by omega) (by omega)
  have k8 := fun w => ratio15_any 5 0 16 w (by omega) (by omega) (by omega)
  have k9 := fun w => ratio15_any 155 0 16 w (by omega) (by omega) (by omega)
  have ks1 := fun u v w h1 h2 => rsame_yes 3 2 1 u v w h1 h2 (len_sm (by omega) (by omega) (by omega)) (len_sm (by omega) (by omega) (by omega)) (len_sm (by omega) (by omega) (by omega))
  have ks2 := fun u v w h1 h2 => rsame_yes 3 4 2 u v w h1 h2 (len_sm (by omega) (by omega) (by omega)) (len_sm (by omega) (by omega) (by omega)) (len_sm (by omega) (by omega) (by omega))
  have ks3 := fun u v w h1 h2 => rsame_yes 5 0 16 u v w h1 h2 (len_sm (by omega) (by omega) (by omega)) (len_sm (by omega) (by omega) (by omega)) (len_sm (by omega) (by omega) (by omega))
  have ks4 := fun u v w h1 h2 => rsame_yes 155 0 16 u v w h1 h2 (len_sm (by omega) (by omega) (by omega)) (len_sm (by omega) (by omega) (by omega)) (len_sm (by omega) (by omega) (by omega))
  have k10 := fun w => strength_any 3 (-4) 0 0 0 1 w
  rw [show strR 3 (-4) 0 0 0 1 = 4 by decide +kernel] at k10
  have K1 := Lib.hid k1
  have K2 := Lib.hid k2
  have K3 := Lib.hid k3
  have K5 := Lib.hid k5
  have K6 := Lib.hid k6
  have K7 := Lib.hid k7
  have K8 := Lib.hid k8
  have K9 := Lib.hid k9
  have KS1 := Lib.hid ks1
  have KS2 := Lib.hid ks2
  have KS3 := Lib.hid ks3
  have KS4 := Lib.hid ks4
  have K10 := Lib.hid k10
  clear k1 k2 k3 k5 k6 k7 k8 k9 ks1 ks2 ks3 ks4 k10 hm v1 v2
  -- names on
  go_enter Try.func25, Try.ntmps25; (try simp only [List.append_eq, List.cons_append, List.nil_append])
  go_wp2_with fail
  -- own blocks: w.heap.size:2
  (go_at_call 31; refine (K1.out _).mono ?_; rintro e w101 ⟨hb_w101, v101, rfl, hv101⟩; have hz_w101 := hb_w101.size; (try simp at hz_w101); (with_reducible apply cel2 (b := w.heap.size) hb_w101); (focus ((try simp) <;> omega)); (focus omega); (focus (go_simp; try exact rfl)); (focus (go_simp; try exact rfl)); (focus (intro o; go_simp)); intro c_w101_0_0 c_w101_0_1 fz_w101_0 hl_w101_0)
  obtain ⟨s101x, A101x, n101x, c101x, s101y, A101y, n101y, c101y, s101d, A101d, n101d, c101d, rfl⟩ := RAt.val hv101
  have HB101 := Lib.hid (show Below w.heap.size w w101 by ((with_reducible (repeat (first | exact bR _ _ | refine bS ?_ ?_ _ | refine bA ?_ ?_ _ | refine bD ?_ | refine bT ?_ (by assumption) ?_ | refine bO (by assumption) ?_ ?_))) <;> (first | omega | (simp; done) | (simp <;> omega))))
  have hz101 : w.heap.size + 1 ≤ w101.heap.size := by omega
  clear hb_w101
  skip
  have H101 := Lib.hid (show RAt w101 (.agg #[.bool s101x, .slice A101x n101x c101x, .bool s101y, .slice A101y n101y c101y, .bool s101d, .slice A101d n101d c101d]) (3) (2) (1) from hv101)
  clear hv101
  go_wp2_with fail
  -- own blocks: w.heap.size:2, w101.heap.size:6
  (go_at_call 31; refine (K2.out _).mono ?_; rintro e w102 ⟨hb_w102, v102, rfl, hv102⟩; have hz_w102 := hb_w102.size; (try simp at hz_w102); (with_reducible apply cel2 (b := w.heap.size) hb_w102); (focus ((try simp) <;> omega)); (focus omega); (focus (go_simp; try exact rfl)); (focus (go_simp; try exact rfl)); (focus (intro o; go_simp)); intro c_w102_0_0 c_w102_0_1 fz_w102_0 hl_w102_0; (with_reducible apply cel6 (b := w101.heap.size) hb_w102); (focus ((try simp) <;> omega)); (focus omega); (focus (go_simp; try exact rfl)); (focus (go_simp; try exact rfl)); (focus (go_simp; try exact rfl)); (focus (go_simp; try exact rfl)); (focus (go_simp; try exact rfl)); (focus (go_simp; try exact rfl)); (focus (intro o; go_simp)); intro c_w102_1_0 c_w102_1_1 c_w102_1_2 c_w102_1_3 c_w102_1_4 c_w102_1_5 fz_w102_1 hl_w102_1)
  obtain ⟨s102x, A102x, n102x, c102x, s102y, A102y, n102y, c102y, s102d, A102d, n102d, c102d, rfl⟩ := RAt.val hv102
  replace H101 := Lib.hid (RAt.below (v := .agg #[.bool s101x, .slice A101x n101x c101x, .bool s101y, .slice A101y n101y c101y, .bool s101d, .slice A101d n101d c101d]) (x := 3) (y := 2) (d := 1) (by ((repeat (first | (with_reducible exact H101.out) | (with_reducible refine RAt.al ?_ _) | (with_reducible apply RAt.st1))) <;> (first | (with_reducible assumption) | (intro _ e; cases e; done) | (go_simp; first | done | exact rfl)))) hb_w102)
  have HB102 := Lib.hid (show Below w.heap.size w w102 by have hB := HB101.out; ((with_reducible (repeat (first | exact bR _ _ | refine bS ?_ ?_ _ | refine bA ?_ ?_ _ | refine bD ?_ | refine bT ?_ (by assumption) ?_ | refine bO (by assumption) ?_ ?_))) <;> (first | omega | (simp; done) | (simp <;> omega))))
  have hz102 : w.heap.size + 1 ≤ w102.heap.size := by omega
  clear hb_w102
  clear c_w101_0_0 c_w101_0_1 fz_w101_0 hl_w101_0
  have H102 := Lib.hid (show RAt w102 (.agg #[.bool s102x, .slice A102x n102x c102x, .bool s102y, .slice A102y n102y c102y, .bool s102d, .slice A102d n102d c102d]) (3) (4) (2) from hv102)
  clear hv102
  go_wp2_with fail
  -- own blocks: w.heap.size:2, w101.heap.size:6, w102.heap.size:6
  (go_at_call 40; refine (K3.out _).mono ?_; rintro e w103 ⟨hb_w103, u103, v103, rfl, hu103, hv103⟩; have hz_w103 := hb_w103.size; (try simp at hz_w103); (with_reducible apply cel2 (b := w.heap.size) hb_w103); (focus ((try simp) <;> omega)); (focus omega); (focus (go_simp; try exact rfl)); (focus (go_simp; try exact rfl)); (focus (intro o; go_simp)); intro c_w103_0_0 c_w103_0_1 fz_w103_0 hl_w103_0; (with_reducible apply cel6 (b := w101.heap.size) hb_w103); (focus ((try simp) <;> omega)); (focus omega); (focus (go_simp; try exact rfl)); (focus (go_simp; try exact rfl)); (focus (go_simp; try exact rfl)); (focus (go_simp; try exact rfl)); (focus (go_simp; try exact rfl)); (focus (go_simp; try exact rfl)); (focus (intro o; go_simp)); intro c_w103_1_0 c_w103_1_1 c_w103_1_2 c_w103_1_3 c_w103_1_4 c_w103_1_5 fz_w103_1 hl_w103_1; (with_reducible apply cel6 (b := w102.heap.size) hb_w103); (focus ((try simp) <;> omega)); (focus omega); (focus (go_simp; try exact rfl)); (focus (go_simp; try exact rfl)); (focus (go_simp; try exact rfl)); (focus (go_simp; try exact rfl)); (focus (go_simp; try exact rfl)); (focus (go_simp; try exact rfl)); (focus (intro o; go_simp)); intro c_w103_2_0 c_w103_2_1 c_w103_2_2 c_w103_2_3 c_w103_2_4 c_w103_2_5 fz_w103_2 hl_w103_2)
  obtain ⟨s103ux, A103ux, n103ux, c103ux, s103uy, A103uy, n103uy, c103uy, s103ud, A103ud, n103ud, c103ud, rfl⟩ := RAt.val hu103
  obtain ⟨s103x, A103x, n103x, c103x, s103y, A103y, n103y, c103y, s103d, A103d, n103d, c103d, rfl⟩ := RAt.val hv103
  replace H101 := Lib.hid (RAt.below (v := .agg #[.bool s101x, .slice A101x n101x c101x, .bool s101y, .slice A101y n101y c101y, .bool s101d, .slice A101d n101d c101d]) (x := 3) (y := 2) (d := 1) (by ((repeat (first | (with_reducible exact H101.out) | (with_reducible refine RAt.al ?_ _) | (with_reducible apply RAt.st1))) <;> (first | (with_reducible assumption) | (intro _ e; cases e; done) | (go_simp; first | done | exact rfl)))) hb_w103)
  replace H102 := Lib.hid (RAt.below (v := .agg #[.bool s102x, .slice A102x n102x c102x, .bool s102y, .slice A102y n102y c102y, .bool s102d, .slice A102d n102d c102d]) (x := 3) (y := 4) (d := 2) (by ((repeat (first | (with_reducible exact H102.out) | (with_reducible refine RAt.al ?_ _) | (with_reducible apply RAt.st1))) <;> (first | (with_reducible assumption) | (intro _ e; cases e; done) | (go_simp; first | done | exact rfl)))) hb_w103)
  have HB103 := Lib.hid (show Below w.heap.size w w103 by have hB := HB102.out; ((with_reducible (repeat (first | exact bR _ _ | refine bS ?_ ?_ _ | refine bA ?_ ?_ _ | refine bD ?_ | refine bT ?_ (by assumption) ?_ | refine bO (by assumption) ?_ ?_))) <;> (first | omega | (simp; done) | (simp <;> omega))))
  have hz103 : w.heap.size + 1 ≤ w103.heap.size := by omega
  clear hb_w103
  clear c_w102_0_0 c_w102_0_1 fz_w102_0 hl_w102_0 c_w102_1_0 c_w102_1_1 c_w102_1_2 c_w102_1_3 c_w102_1_4 c_w102_1_5 fz_w102_1 hl_w102_1
  have H103u := Lib.hid (show RAt w103 (.agg #[.bool s103ux, .slice A103ux n103ux c103ux, .bool s103uy, .slice A103uy n103uy c103uy, .bool s103ud, .slice A103ud n103ud c103ud]) (5) (0) (16) from hu103)
  clear hu103
  have H103 := Lib.hid (show RAt w103 (.agg #[.bool s103x, .slice A103x n103x c103x, .bool s103y, .slice A103y n103y c103y, .bool s103d, .slice A103d n103d c103d]) (155) (0) (16) from hv103)
  clear hv103
  go_wp2_with fail
  -- own blocks: w.heap.size:2, w101.heap.size:6, w102.heap.size:6, w103.heap.size:6, w103.heap.size + 1:6
  (go_at_call 36; refine (K5.out _ _ _ _ _ _ _ _ _ _ _ _ _ _ _ _ _ _ _ _ _ _ _ _ _ _ (by (try simp) <;> omega) (by go_simp) (by go_simp) (by go_simp) (by go_simp) (by go_simp) (by go_simp) (by go_simp) (by go_simp) (by go_simp) (by go_simp) (by go_simp) (by go_simp) (show RAt _ (.agg #[.bool s101x, .slice A101x n101x c101x, .bool s101y, .slice A101y n101y c101y, .bool s101d, .slice A101d n101d c101d]) (3) (2) (1) by ((repeat (first | (with_reducible exact H101.out) | (with_reducible refine RAt.al ?_ _) | (with_reducible apply RAt.st1))) <;> (first | (with_reducible assumption) | (intro _ e; cases e; done) | (go_simp; first | done | exact rfl)))) (show RAt _ (.agg #[.bool s102x, .slice A102x n102x c102x, .bool s102y, .slice A102y n102y c102y, .bool s102d, .slice A102d n102d c102d]) (3) (4) (2) by ((repeat (first | (with_reducible exact H102.out) | (with_reducible refine RAt.al ?_ _) | (with_reducible apply RAt.st1))) <;> (first | (with_reducible assumption) | (intro _ e; cases e; done) | (go_simp; first | done | exact rfl))))).mono ?_; rintro e w104 ⟨rfl, hb_w104⟩; have hz_w104 := hb_w104.size; (try simp at hz_w104); (with_reducible apply cel2 (b := w.heap.size) hb_w104); (focus ((try simp) <;> omega)); (focus omega); (focus (go_simp; try exact rfl)); (focus (go_simp; try exact rfl)); (focus (intro o; go_simp)); intro c_w104_0_0 c_w104_0_1 fz_w104_0 hl_w104_0; (with_reducible apply cel6 (b := w101.heap.size) hb_w104); (focus ((try simp) <;> omega)); (focus omega); (focus (go_simp; try exact rfl)); (focus (go_simp; try exact rfl)); (focus (go_simp; try exact rfl)); (focus (go_simp; try exact rfl)); (focus (go_simp; try exact rfl)); (focus (go_simp; try exact rfl)); (focus (intro o; go_simp)); intro c_w104_1_0 c_w104_1_1 c_w104_1_2 c_w104_1_3 c_w104_1_4 c_w104_1_5 fz_w104_1 hl_w104_1; (with_reducible apply cel6 (b := w102.heap.size) hb_w104); (focus ((try simp) <;> omega)); (focus omega); (focus (go_simp; try exact rfl)); (focus (go_simp; try exact rfl)); (focus (go_simp; try exact rfl)); (focus (go_simp; try exact rfl)); (focus (go_simp; try exact rfl)); (focus (go_simp; try exact rfl)); (focus (intro o; go_simp)); intro c_w104_2_0 c_w104_2_1 c_w104_2_2 c_w104_2_3 c_w104_2_4 c_w104_2_5 fz_w104_2 hl_w104_2; (with_reducible apply cel6 (b := w103.heap.size) hb_w104); (focus ((try simp) <;> omega)); (focus omega); (focus (go_simp; try exact rfl)); (focus (go_simp; try exact rfl)); (focus (go_simp; try exact rfl)); (focus (go_simp; try exact rfl)); (focus (go_simp; try exact rfl)); (focus (go_simp; try exact rfl)); (focus (intro o; go_simp)); intro c_w104_3_0 c_w104_3_1 c_w104_3_2 c_w104_3_3 c_w104_3_4 c_w104_3_5 fz_w104_3 hl_w104_3; (with_reducible apply cel6 (b := w103.heap.size + 1) hb_w104); (focus ((try simp) <;> omega)); (focus omega); (focus (go_simp; try exact rfl)); (focus (go_simp; try exact rfl)); (focus (go_simp; try exact rfl)); (focus (go_simp; try exact rfl)); (focus (go_simp; try exact rfl)); (focus (go_simp; try exact rfl)); (focus (intro o; go_simp)); intro c_w104_4_0 c_w104_4_1 c_w104_4_2 c_w104_4_3 c_w104_4_4 c_w104_4_5 fz_w104_4 hl_w104_4)
  replace H101 := Lib.hid (RAt.below (v := .agg #[.bool s101x, .slice A101x n101x c101x, .bool s101y, .slice A101y n101y c101y, .bool s101d, .slice A101d n101d c101d]) (x := 3) (y := 2) (d := 1) (by ((repeat (first | (with_reducible exact H101.out) | (with_reducible refine RAt.al ?_ _) | (with_reducible apply RAt.st1))) <;> (first | (with_reducible assumption) | (intro _ e; cases e; done) | (go_simp; first | done | exact rfl)))) hb_w104)
  replace H102 := Lib.hid (RAt.below (v := .agg #[.bool s102x, .slice A102x n102x c102x, .bool s102y, .slice A102y n102y c102y, .bool s102d, .slice A102d n102d c102d]) (x := 3) (y := 4) (d := 2) (by ((repeat (first | (with_reducible exact H102.out) | (with_reducible refine RAt.al ?_ _) | (with_reducible apply RAt.st1))) <;> (first | (with_reducible assumption) | (intro _ e; cases e; done) | (go_simp; first | done | exact rfl)))) hb_w104)
  replace H103u := Lib.hid (RAt.below (v := .agg #[.bool s103ux, .slice A103ux n103ux c103ux, .bool s103uy, .slice A103uy n103uy c103uy, .bool s103ud, .slice A103ud n103ud c103ud]) (x := 5) (y := 0) (d := 16) (by ((repeat (first | (with_reducible exact H103u.out) | (with_reducible refine RAt.al ?_ _) | (with_reducible apply RAt.st1))) <;> (first | (with_reducible assumption) | (intro _ e; cases e; done) | (go_simp; first | done | exact rfl)))) hb_w104)
  replace H103 := Lib.hid (RAt.below (v := .agg #[.bool s103x, .slice A103x n103x c103x, .bool s103y, .slice A103y n103y c103y, .bool s103d, .slice A103d n103d c103d]) (x := 155) (y := 0) (d := 16) (by ((repeat (first | (with_reducible exact H103.out) | (with_reducible refine RAt.al ?_ _) | (with_reducible apply RAt.st1))) <;> (first | (with_reducible assumption) | (intro _ e; cases e; done) | (go_simp; first | done | exact rfl)))) hb_w104)
  have HB104 := Lib.hid (show Below w.heap.size w w104 by have hB := HB103.out; ((with_reducible (repeat (first | exact bR _ _ | refine bS ?_ ?_ _ | refine bA ?_ ?_ _ | refine bD ?_ | refine bT ?_ (by assumption) ?_ | refine bO (by assumption) ?_ ?_))) <;> (first | omega | (simp; done) | (simp <;> omega))))
  have hz104 : w.heap.size + 1 ≤ w104.heap.size := by omega
  clear hb_w104
  clear c_w103_0_0 c_w103_0_1 fz_w103_0 hl_w103_0 c_w103_1_0 c_w103_1_1 c_w103_1_2 c_w103_1_3 c_w103_1_4 c_w103_1_5 fz_w103_1 hl_w103_1 c_w103_2_0 c_w103_2_1 c_w103_2_2 c_w103_2_3 c_w103_2_4 c_w103_2_5 fz_w103_2 hl_w103_2
  go_wp2_with fail
  -- own blocks: w.heap.size:2, w101.heap.size:6, w102.heap.size:6, w103.heap.size:6, w103.heap.size + 1:6, w104.heap.size:2
  (refine pin_wp (N := _) (Nat.le_refl _) (fun w105 hb_w105 hz_w105 => ?_); (try simp at hz_w105); (with_reducible apply cel2 (b := w.heap.size) hb_w105); (focus ((try simp) <;> omega)); (focus omega); (focus (go_simp; try exact rfl)); (focus (go_simp; try exact rfl)); (focus (intro o; go_simp)); intro c_w105_0_0 c_w105_0_1 fz_w105_0 hl_w105_0; (with_reducible apply cel6 (b := w101.heap.size) hb_w105); (focus ((try simp) <;> omega)); (focus omega); (focus (go_simp; try exact rfl)); (focus (go_simp; try exact rfl)); (focus (go_simp; try exact rfl)); (focus (go_simp; try exact rfl)); (focus (go_simp; try exact rfl)); (focus (go_simp; try exact rfl)); (focus (intro o; go_simp)); intro c_w105_1_0 c_w105_1_1 c_w105_1_2 c_w105_1_3 c_w105_1_4 c_w105_1_5 fz_w105_1 hl_w105_1; (with_reducible apply cel6 (b := w102.heap.size) hb_w105); (focus ((try simp) <;> omega)); (focus omega); (focus (go_simp; try exact rfl)); (focus (go_simp; try exact rfl)); (focus (go_simp; try exact rfl)); (focus (go_simp; try exact rfl)); (focus (go_simp; try exact rfl)); (focus (go_simp; try exact rfl)); (focus (intro o; go_simp)); intro c_w105_2_0 c_w105_2_1 c_w105_2_2 c_w105_2_3 c_w105_2_4 c_w105_2_5 fz_w105_2 hl_w105_2; (with_reducible apply cel6 (b := w103.heap.size) hb_w105); (focus ((try simp) <;> omega)); (focus omega); (focus (go_simp; try exact rfl)); (focus (go_simp; try exact rfl)); (focus (go_simp; try exact rfl)); (focus (go_simp; try exact rfl)); (focus (go_simp; try exact rfl)); (focus (go_simp; try exact rfl)); (focus (intro o; go_simp)); intro c_w105_3_0 c_w105_3_1 c_w105_3_2 c_w105_3_3 c_w105_3_4 c_w105_3_5 fz_w105_3 hl_w105_3; (with_reducible apply cel6 (b := w103.heap.size + 1) hb_w105); (focus ((try simp) <;> omega)); (focus omega); (focus (go_simp; try exact rfl)); (focus (go_simp; try exact rfl)); (focus (go_simp; try exact rfl)); (focus (go_simp; try exact rfl)); (focus (go_simp; try exact rfl)); (focus (go_simp; try exact rfl)); (focus (intro o; go_simp)); intro c_w105_4_0 c_w105_4_1 c_w105_4_2 c_w105_4_3 c_w105_4_4 c_w105_4_5 fz_w105_4 hl_w105_4; (with_reducible apply cel2 (b := w104.heap.size) hb_w105); (focus ((try simp) <;> omega)); (focus omega); (focus (go_simp; try exact rfl)); (focus (go_simp; try exact rfl)); (focus (intro o; go_simp)); intro c_w105_5_0 c_w105_5_1 fz_w105_5 hl_w105_5); refine wp_q (fun Q_ HQ_ => ?_); refine wp_region_floatQ w105.heap.size 34 [] (Nat.le_refl _) (fun _ => True) trivial Cl.tt (by kernel_rfl) (by kernel_rfl) ?_
  replace H101 := Lib.hid (RAt.below (v := .agg #[.bool s101x, .slice A101x n101x c101x, .bool s101y, .slice A101y n101y c101y, .bool s101d, .slice A101d n101d c101d]) (x := 3) (y := 2) (d := 1) (by ((repeat (first | (with_reducible exact H101.out) | (with_reducible refine RAt.al ?_ _) | (with_reducible apply RAt.st1))) <;> (first | (with_reducible assumption) | (intro _ e; cases e; done) | (go_simp; first | done | exact rfl)))) hb_w105)
  replace H102 := Lib.hid (RAt.below (v := .agg #[.bool s102x, .slice A102x n102x c102x, .bool s102y, .slice A102y n102y c102y, .bool s102d, .slice A102d n102d c102d]) (x := 3) (y := 4) (d := 2) (by ((repeat (first | (with_reducible exact H102.out) | (with_reducible refine RAt.al ?_ _) | (with_reducible apply RAt.st1))) <;> (first | (with_reducible assumption) | (intro _ e; cases e; done) | (go_simp; first | done | exact rfl)))) hb_w105)
  replace H103u := Lib.hid (RAt.below (v := .agg #[.bool s103ux, .slice A103ux n103ux c103ux, .bool s103uy, .slice A103uy n103uy c103uy, .bool s103ud, .slice A103ud n103ud c103ud]) (x := 5) (y := 0) (d := 16) (by ((repeat (first | (with_reducible exact H103u.out) | (with_reducible refine RAt.al ?_ _) | (with_reducible apply RAt.st1))) <;> (first | (with_reducible assumption) | (intro _ e; cases e; done) | (go_simp; first | done | exact rfl)))) hb_w105)
  replace H103 := Lib.hid (RAt.below (v := .agg #[.bool s103x, .slice A103x n103x c103x, .bool s103y, .slice A103y n103y c103y, .bool s103d, .slice A103d n103d c103d]) (x := 155) (y := 0) (d := 16) (by ((repeat (first | (with_reducible exact H103.out) | (with_reducible refine RAt.al ?_ _) | (with_reducible apply RAt.st1))) <;> (first | (with_reducible assumption) | (intro _ e; cases e; done) | (go_simp; first | done | exact rfl)))) hb_w105)
  have HB105 := Lib.hid (show Below w.heap.size w w105 by have hB := HB104.out; ((with_reducible (repeat (first | exact bR _ _ | refine bS ?_ ?_ _ | refine bA ?_ ?_ _ | refine bD ?_ | refine bT ?_ (by assumption) ?_ | refine bO (by assumption) ?_ ?_))) <;> (first | omega | (simp; done) | (simp <;> omega))))
  have hz105 : w.heap.size + 1 ≤ w105.heap.size := by omega
  clear hb_w105
  clear c_w104_0_0 c_w104_0_1 fz_w104_0 hl_w104_0 c_w104_1_0 c_w104_1_1 c_w104_1_2 c_w104_1_3 c_w104_1_4 c_w104_1_5 fz_w104_1 hl_w104_1 c_w104_2_0 c_w104_2_1 c_w104_2_2 c_w104_2_3 c_w104_2_4 c_w104_2_5 fz_w104_2 hl_w104_2 c_w104_3_0 c_w104_3_1 c_w104_3_2 c_w104_3_3 c_w104_3_4 c_w104_3_5 fz_w104_3 hl_w104_3 c_w104_4_0 c_w104_4_1 c_w104_4_2 c_w104_4_3 c_w104_4_4 c_w104_4_5 fz_w104_4 hl_w104_4
  refine wpQI_start [0] ?_; (iterate 1 (first | (refine wpQI_off (by with_reducible (refine List.getElem?_toArray.trans ?_; (repeat (first | exact List.getElem?_cons_zero | refine List.getElem?_cons_succ.trans ?_)))) (by kernel_rfl) (by exact rfl) (fun K hK => ?_); go_simp; refine hK _ ?_; clear hK K) | ((first | apply wpQI_step (by with_reducible (refine List.getElem?_toArray.trans ?_; (repeat (first | exact List.getElem?_cons_zero | refine List.getElem?_cons_succ.trans ?_)))) (by kernel_rfl) (by exact rfl) | apply wpQI_on (by with_reducible (refine List.getElem?_toArray.trans ?_; (repeat (first | exact List.getElem?_cons_zero | refine List.getElem?_cons_succ.trans ?_)))) (by kernel_rfl) (by exact rfl)); (focus (intro W' hS; have hcS := hS.cells.1; have hfS := hS.cells.2; go_simp; (first | done | exact rfl | exact ⟨rfl, Below.refl _ _⟩ | (go_simp; first | done | exact rfl | exact ⟨rfl, Below.refl _ _⟩)))); intro K hK; go_simp; (try go_bits); refine hK _ ?_; clear hK K))); refine wpQI_nil ?_
  apply wpQ_call (i := 1) (by with_reducible (refine List.getElem?_toArray.trans ?_; (repeat (first | exact List.getElem?_cons_zero | refine List.getElem?_cons_succ.trans ?_)))) (by kernel_rfl) (by exact rfl); intro W hF hS; have hcS := hS.1.cells.1; have hfS := hS.1.cells.2; go_simp; (go_at_call 69; refine (K6.out _).mono ?_; rintro e w106 ⟨hb_w106, v106, rfl, hv106⟩; refine XPost.mk _ (fun W => RAt W v106 (3) (2) (1)) hb_w106 (hv106) (RAt.cl _ _ _ _) ?_); clear hb_w106 hcS hfS hS hF
  intro K hK; go_simp; (try go_bits); refine hK _ ?_; clear hK K
  obtain ⟨s106x, A106x, n106x, c106x, s106y, A106y, n106y, c106y, s106d, A106d, n106d, c106d, rfl⟩ := RAt.val hv106
  clear hv106
  apply wpQ_call (i := 2) (by with_reducible (refine List.getElem?_toArray.trans ?_; (repeat (first | exact List.getElem?_cons_zero | refine List.getElem?_cons_succ.trans ?_)))) (by kernel_rfl) (by exact rfl); intro W hF hS; have hcS := hS.1.cells.1; have hfS := hS.1.cells.2; go_simp; (go_at_call 30; refine (KS1.out _ _ _ ((H101.out.below hS.1.2)) (hF)).mono ?_; rintro e w107 ⟨rfl, hb_w107⟩; refine XPost.mk _ (fun _ => True) hb_w107 (trivial) (Cl.tt) ?_); clear hb_w107 hcS hfS hS hF
  intro K hK; go_simp; (try go_bits); refine hK _ ?_; clear hK K
  refine wpQI_start [3, 4] ?_; (iterate 2 (first | (refine wpQI_off (by with_reducible (refine List.getElem?_toArray.trans ?_; (repeat (first | exact List.getElem?_cons_zero | refine List.getElem?_cons_succ.trans ?_)))) (by kernel_rfl) (by exact rfl) (fun K hK => ?_); go_simp; refine hK _ ?_; clear hK K) | ((first | apply wpQI_step (by with_reducible (refine List.getElem?_toArray.trans ?_; (repeat (first | exact List.getElem?_cons_zero | refine List.getElem?_cons_succ.trans ?_)))) (by kernel_rfl) (by exact rfl) | apply wpQI_on (by with_reducible (refine List.getElem?_toArray.trans ?_; (repeat (first | exact List.getElem?_cons_zero | refine List.getElem?_cons_succ.trans ?_)))) (by kernel_rfl) (by exact rfl)); (focus (intro W' hS; have hcS := hS.cells.1; have hfS := hS.cells.2; go_simp; (first | done | exact rfl | exact ⟨rfl, Below.refl _ _⟩ | (go_simp; first | done | exact rfl | exact ⟨rfl, Below.refl _ _⟩)))); intro K hK; go_simp; (try go_bits); refine hK _ ?_; clear hK K))); refine wpQI_nil ?_
  apply wpQ_call (i := 5) (by with_reducible (refine List.getElem?_toArray.trans ?_; (repeat (first | exact List.getElem?_cons_zero | refine List.getElem?_cons_succ.trans ?_)))) (by kernel_rfl) (by exact rfl); intro W hF hS; have hcS := hS.1.cells.1; have hfS := hS.1.cells.2; go_simp; (go_at_call 69; refine (K7.out _).mono ?_; rintro e w108 ⟨hb_w108, v108, rfl, hv108⟩; refine XPost.mk _ (fun W => RAt W v108 (3) (4) (2)) hb_w108 (hv108) (RAt.cl _ _ _ _) ?_); clear hb_w108 hcS hfS hS hF
  intro K hK; go_simp; (try go_bits); refine hK _ ?_; clear hK K
  obtain ⟨s108x, A108x, n108x, c108x, s108y, A108y, n108y, c108y, s108d, A108d, n108d, c108d, rfl⟩ := RAt.val hv108
  clear hv108
  apply wpQ_call (i := 6) (by with_reducible (refine List.getElem?_toArray.trans ?_; (repeat (first | exact List.getElem?_cons_zero | refine List.getElem?_cons_succ.trans ?_)))) (by kernel_rfl) (by exact rfl); intro W hF hS; have hcS := hS.1.cells.1; have hfS := hS.1.cells.2; go_simp; (go_at_call 30; refine (KS2.out _ _ _ ((H102.out.below hS.1.2)) (hF.2)).mono ?_; rintro e w109 ⟨rfl, hb_w109⟩; refine XPost.mk _ (fun _ => True) hb_w109 (trivial) (Cl.tt) ?_); clear hb_w109 hcS hfS hS hF
  intro K hK; go_simp; (try go_bits); refine hK _ ?_; clear hK K
  refine wpQI_start [7, 8, 9] ?_; (iterate 3 (first | (refine wpQI_off (by with_reducible (refine List.getElem?_toArray.trans ?_; (repeat (first | exact List.getElem?_cons_zero | refine List.getElem?_cons_succ.trans ?_)))) (by kernel_rfl) (by exact rfl) (fun K hK => ?_); go_simp; refine hK _ ?_; clear hK K) | ((first | apply wpQI_step (by with_reducible (refine List.getElem?_toArray.trans ?_; (repeat (first | exact List.getElem?_cons_zero | refine List.getElem?_cons_succ.trans ?_)))) (by kernel_rfl) (by exact rfl) | apply wpQI_on (by with_reducible (refine List.getElem?_toArray.trans ?_; (repeat (first | exact List.getElem?_cons_zero | refine List.getElem?_cons_succ.trans ?_)))) (by kernel_rfl) (by exact rfl)); (focus (intro W' hS; have hcS := hS.cells.1; have hfS := hS.cells.2; go_simp; (first | done | exact rfl | exact ⟨rfl, Below.refl _ _⟩ | (go_simp; first | done | exact rfl | exact ⟨rfl, Below.refl _ _⟩)))); intro K hK; go_simp; (try go_bits); refine hK _ ?_; clear hK K))); refine wpQI_nil ?_
  apply wpQ_call (i := 10) (by with_reducible (refine List.getElem?_toArray.trans ?_; (repeat (first | exact List.getElem?_cons_zero | refine List.getElem?_cons_succ.trans ?_)))) (by kernel_rfl) (by exact rfl); intro W hF hS; have hcS := hS.1.cells.1; have hfS := hS.1.cells.2; go_simp; (go_at_call 69; refine (K8.out _).mono ?_; rintro e w110 ⟨hb_w110, v110, rfl, hv110⟩; refine XPost.mk _ (fun W => RAt W v110 (5) (0) (16)) hb_w110 (hv110) (RAt.cl _ _ _ _) ?_); clear hb_w110 hcS hfS hS hF
  intro K hK; go_simp; (try go_bits); refine hK _ ?_; clear hK K
  obtain ⟨s110x, A110x, n110x, c110x, s110y, A110y, n110y, c110y, s110d, A110d, n110d, c110d, rfl⟩ := RAt.val hv110
  clear hv110
  apply wpQ_call (i := 11) (by with_reducible (refine List.getElem?_toArray.trans ?_; (repeat (first | exact List.getElem?_cons_zero | refine List.getElem?_cons_succ.trans ?_)))) (by kernel_rfl) (by exact rfl); intro W hF hS; have hcS := hS.1.cells.1; have hfS := hS.1.cells.2; go_simp; (go_at_call 30; refine (KS3.out _ _ _ ((H103u.out.below hS.1.2)) (hF.2)).mono ?_; rintro e w111 ⟨rfl, hb_w111⟩; refine XPost.mk _ (fun _ => True) hb_w111 (trivial) (Cl.tt) ?_); clear hb_w111 hcS hfS hS hF
  intro K hK; go_simp; (try go_bits); refine hK _ ?_; clear hK K
  refine wpQI_start [12, 13, 14] ?_; (iterate 3 (first | (refine wpQI_off (by with_reducible (refine List.getElem?_toArray.trans ?_; (repeat (first | exact List.getElem?_cons_zero | refine List.getElem?_cons_succ.trans ?_)))) (by kernel_rfl) (by exact rfl) (fun K hK => ?_); go_simp; refine hK _ ?_; clear hK K) | ((first | apply wpQI_step (by with_reducible (refine List.getElem?_toArray.trans ?_; (repeat (first | exact List.getElem?_cons_zero | refine List.getElem?_cons_succ.trans ?_)))) (by kernel_rfl) (by exact rfl) | apply wpQI_on (by with_reducible (refine List.getElem?_toArray.trans ?_; (repeat (first | exact List.getElem?_cons_zero | refine List.getElem?_cons_succ.trans ?_)))) (by kernel_rfl) (by exact rfl)); (focus (intro W' hS; have hcS := hS.cells.1; have hfS := hS.cells.2; go_simp; (first | done | exact rfl | exact ⟨rfl, Below.refl _ _⟩ | (go_simp; first | done | exact rfl | exact ⟨rfl, Below.refl _ _⟩)))); intro K hK; go_simp; (try go_bits); refine hK _ ?_; clear hK K))); refine wpQI_nil ?_
  apply wpQ_call (i := 15) (by with_reducible (refine List.getElem?_toArray.trans ?_; (repeat (first | exact List.getElem?_cons_zero | refine List.getElem?_cons_succ.trans ?_)))) (by kernel_rfl) (by exact rfl); intro W hF hS; have hcS := hS.1.cells.1; have hfS := hS.1.cells.2; go_simp; (go_at_call 69; refine (K9.out _).mono ?_; rintro e w112 ⟨hb_w112, v112, rfl, hv112⟩; refine XPost.mk _ (fun W => RAt W v112 (155) (0) (16)) hb_w112 (hv112) (RAt.cl _ _ _ _) ?_); clear hb_w112 hcS hfS hS hF
  intro K hK; go_simp; (try go_bits); refine hK _ ?_; clear hK K
  obtain ⟨s112x, A112x, n112x, c112x, s112y, A112y, n112y, c112y, s112d, A112d, n112d, c112d, rfl⟩ := RAt.val hv112
  clear hv112
  apply wpQ_call (i := 16) (by with_reducible (refine List.getElem?_toArray.trans ?_; (repeat (first | exact List.getElem?_cons_zero | refine List.getElem?_cons_succ.trans ?_)))) (by kernel_rfl) (by exact rfl); intro W hF hS; have hcS := hS.1.cells.1; have hfS := hS.1.cells.2; go_simp; (go_at_call 30; refine (KS4.out _ _ _ ((H103.out.below hS.1.2)) (hF.2)).mono ?_; rintro e w113 ⟨rfl, hb_w113⟩; refine XPost.mk _ (fun _ => True) hb_w113 (trivial) (Cl.tt) ?_); clear hb_w113 hcS hfS hS hF
  intro K hK; go_simp; (try go_bits); refine hK _ ?_; clear hK K
  refine wpQI_start [17, 18, 19, 20, 21, 22, 23, 24, 25, 26, 27, 28, 29] ?_; (iterate 13 (first | (refine wpQI_off (by with_reducible (refine List.getElem?_toArray.trans ?_; (repeat (first | exact List.getElem?_cons_zero | refine List.getElem?_cons_succ.trans ?_)))) (by kernel_rfl) (by exact rfl) (fun K hK => ?_); go_simp; refine hK _ ?_; clear hK K) | ((first | apply wpQI_step (by with_reducible (refine List.getElem?_toArray.trans ?_; (repeat (first | exact List.getElem?_cons_zero | refine List.getElem?_cons_succ.trans ?_)))) (by kernel_rfl) (by exact rfl) | apply wpQI_on (by with_reducible (refine List.getElem?_toArray.trans ?_; (repeat (first | exact List.getElem?_cons_zero | refine List.getElem?_cons_succ.trans ?_)))) (by kernel_rfl) (by exact rfl)); (focus (intro W' hS; have hcS := hS.cells.1; have hfS := hS.cells.2; go_simp; (first | done | exact rfl | exact ⟨rfl, Below.refl _ _⟩ | (go_simp; first | done | exact rfl | exact ⟨rfl, Below.refl _ _⟩)))); intro K hK; go_simp; (try go_bits); refine hK _ ?_; clear hK K))); refine wpQI_nil ?_
  refine wpQI_start [30] ?_; (iterate 1 (first | (refine wpQI_off (by with_reducible (refine List.getElem?_toArray.trans ?_; (repeat (first | exact List.getElem?_cons_zero | refine List.getElem?_cons_succ.trans ?_)))) (by kernel_rfl) (by exact rfl) (fun K hK => ?_); go_simp; refine hK _ ?_; clear hK K) | ((first | apply wpQI_step (by with_reducible (refine List.getElem?_toArray.trans ?_; (repeat (first | exact List.getElem?_cons_zero | refine List.getElem?_cons_succ.trans ?_)))) (by kernel_rfl) (by exact rfl) | apply wpQI_on (by with_reducible (refine List.getElem?_toArray.trans ?_; (repeat (first | exact List.getElem?_cons_zero | refine List.getElem?_cons_succ.trans ?_)))) (by kernel_rfl) (by exact rfl)); (focus (intro W' hS; have hcS := hS.cells.1; have hfS := hS.cells.2; go_simp; (first | done | exact rfl | exact ⟨rfl, Below.refl _ _⟩ | (go_at_call 28; exact (K10.out _).mono (fun _ _ h => ⟨h.1, h.2⟩)) | (go_simp; first | done | exact rfl | exact ⟨rfl, Below.refl _ _⟩)))); intro K hK; go_simp; (try go_bits); refine hK _ ?_; clear hK K))); refine wpQI_nil ?_
  refine wpQI_start [31, 32, 33] ?_; (iterate 3 (first | (refine wpQI_off (by with_reducible (refine List.getElem?_toArray.trans ?_; (repeat (first | exact List.getElem?_cons_zero | refine List.getElem?_cons_succ.trans ?_)))) (by kernel_rfl) (by exact rfl) (fun K hK => ?_); go_simp; refine hK _ ?_; clear hK K) | ((first | apply wpQI_step (by with_reducible (refine List.getElem?_toArray.trans ?_; (repeat (first | exact List.getElem?_cons_zero | refine List.getElem?_cons_succ.trans ?_)))) (by kernel_rfl) (by exact rfl) | apply wpQI_on (by with_reducible (refine List.getElem?_toArray.trans ?_; (repeat (first | exact List.getElem?_cons_zero | refine List.getElem?_cons_succ.trans ?_)))) (by kernel_rfl) (by exact rfl)); (focus (intro W' hS; have hcS := hS.cells.1; have hfS := hS.cells.2; go_simp; (first | done | exact rfl | exact ⟨rfl, Below.refl _ _⟩ | (go_simp; first | done | exact rfl | exact ⟨rfl, Below.refl _ _⟩)))); intro K hK; go_simp; (try go_bits); refine hK _ ?_; clear hK K))); refine wpQI_nil ?_
  refine wpQ_done (by kernel_rfl) ?_
  intro w114 hF_w114 hSG
  have hz_w114 := hSG.1.1
  have hb_w114 := hSG.1.2
  clear hSG
  (with_reducible apply cel2 (b := w.heap.size) hb_w114); (focus ((try simp) <;> omega)); (focus omega); (focus (go_simp; try exact rfl)); (focus (go_simp; try exact rfl)); (focus (intro o; go_simp)); intro c_w114_0_0 c_w114_0_1 fz_w114_0 hl_w114_0; (with_reducible apply cel6 (b := w101.heap.size) hb_w114); (focus ((try simp) <;> omega)); (focus omega); (focus (go_simp; try exact rfl)); (focus (go_simp; try exact rfl)); (focus (go_simp; try exact rfl)); (focus (go_simp; try exact rfl)); (focus (go_simp; try exact rfl)); (focus (go_simp; try exact rfl)); (focus (intro o; go_simp)); intro c_w114_1_0 c_w114_1_1 c_w114_1_2 c_w114_1_3 c_w114_1_4 c_w114_1_5 fz_w114_1 hl_w114_1; (with_reducible apply cel6 (b := w102.heap.size) hb_w114); (focus ((try simp) <;> omega)); (focus omega); (focus (go_simp; try exact rfl)); (focus (go_simp; try exact rfl)); (focus (go_simp; try exact rfl)); (focus (go_simp; try exact rfl)); (focus (go_simp; try exact rfl)); (focus (go_simp; try exact rfl)); (focus (intro o; go_simp)); intro c_w114_2_0 c_w114_2_1 c_w114_2_2 c_w114_2_3 c_w114_2_4 c_w114_2_5 fz_w114_2 hl_w114_2; (with_reducible apply cel6 (b := w103.heap.size) hb_w114); (focus ((try simp) <;> omega)); (focus omega); (focus (go_simp; try exact rfl)); (focus (go_simp; try exact rfl)); (focus (go_simp; try exact rfl)); (focus (go_simp; try exact rfl)); (focus (go_simp; try exact rfl)); (focus (go_simp; try exact rfl)); (focus (intro o; go_simp)); intro c_w114_3_0 c_w114_3_1 c_w114_3_2 c_w114_3_3 c_w114_3_4 c_w114_3_5 fz_w114_3 hl_w114_3; (with_reducible apply cel6 (b := w103.heap.size + 1) hb_w114); (focus ((try simp) <;> omega)); (focus omega); (focus (go_simp; try exact rfl)); (focus (go_simp; try exact rfl)); (focus (go_simp; try exact rfl)); (focus (go_simp; try exact rfl)); (focus (go_simp; try exact rfl)); (focus (go_simp; try exact rfl)); (focus (intro o; go_simp)); intro c_w114_4_0 c_w114_4_1 c_w114_4_2 c_w114_4_3 c_w114_4_4 c_w114_4_5 fz_w114_4 hl_w114_4; (with_reducible apply cel2 (b := w104.heap.size) hb_w114); (focus ((try simp) <;> omega)); (focus omega); (focus (go_simp; try exact rfl)); (focus (go_simp; try exact rfl)); (focus (intro o; go_simp)); intro c_w114_5_0 c_w114_5_1 fz_w114_5 hl_w114_5
  (try simp only [List.filterMap_nil])
  clear H101
  clear H102
  clear H103u
  clear H103
  have H106 := Lib.hid (show RAt w114 (.agg #[.bool s106x, .slice A106x n106x c106x, .bool s106y, .slice A106y n106y c106y, .bool s106d, .slice A106d n106d c106d]) (3) (2) (1) from hF_w114.1.1.1.1)
  have H108 := Lib.hid (show RAt w114 (.agg #[.bool s108x, .slice A108x n108x c108x, .bool s108y, .slice A108y n108y c108y, .bool s108d, .slice A108d n108d c108d]) (3) (4) (2) from hF_w114.1.1.1.2)
  have H110 := Lib.hid (show RAt w114 (.agg #[.bool s110x, .slice A110x n110x c110x, .bool s110y, .slice A110y n110y c110y, .bool s110d, .slice A110d n110d c110d]) (5) (0) (16) from hF_w114.1.1.2)
  have H112 := Lib.hid (show RAt w114 (.agg #[.bool s112x, .slice A112x n112x c112x, .bool s112y, .slice A112y n112y c112y, .bool s112d, .slice A112d n112d c112d]) (155) (0) (16) from hF_w114.1.2)
  have HB114 := Lib.hid (HB105.out.trans (hb_w114.mono (by have := HB105.out.size; omega)))
  have hz114 : w.heap.size + 1 ≤ w114.heap.size := by omega
  clear hF_w114 hb_w114
  clear c_w105_0_0 c_w105_0_1 fz_w105_0 hl_w105_0 c_w105_1_0 c_w105_1_1 c_w105_1_2 c_w105_1_3 c_w105_1_4 c_w105_1_5 fz_w105_1 hl_w105_1 c_w105_2_0 c_w105_2_1 c_w105_2_2 c_w105_2_3 c_w105_2_4 c_w105_2_5 fz_w105_2 hl_w105_2 c_w105_3_0 c_w105_3_1 c_w105_3_2 c_w105_3_3 c_w105_3_4 c_w105_3_5 fz_w105_3 hl_w105_3 c_w105_4_0 c_w105_4_1 c_w105_4_2 c_w105_4_3 c_w105_4_4 c_w105_4_5 fz_w105_4 hl_w105_4 c_w105_5_0 c_w105_5_1 fz_w105_5 hl_w105_5
  go_wp2_with fail
  refine HQ_.out _ _ _ ?_
  clear HQ_ Q_
  go_wp2_with fail
  -- own blocks: 
  refine bodyPost_ret (v := .bool true) (by simp only [results, Try.results25]; go_simp) rfl ⟨?_, ?_⟩
  · rfl
  · have hB := HB114.out; ((with_reducible (repeat (first | exact bR _ _ | refine bS ?_ ?_ _ | refine bA ?_ ?_ _ | refine bD ?_ | refine bT ?_ (by assumption) ?_ | refine bO (by assumption) ?_ ?_))) <;> (first | omega | (simp; done) | (simp <;> omega)))
end Go.Proofs.Ytklkhnhieihfoaa
namespace Go.Proofs.Ytklkhnhieihfoaa
open Go.RowKit
set_option linter.unusedVariables false
theorem run_max_ints4 (w : World) (ts : Array TypeId) (t : TypeId) (x y z u : Int) : (Builtin.max_ ts t #[.int .i64 x, .int .i64 y, .int .i64 z, .int .i64 u]).run Try.prog w = .ok (.int .i64 (max (max (max x y) z) u)) w := by
  have e : ∀ a b : Int, (if b > a then b else a) = max a b := fun a b => by split <;> omega
  simp [Builtin.max_, Builtin.max2, List.foldlM, e]
attribute [local go_sem] run_max_ints4
theorem rootAux_spec : ∀ (i : Nat) (n r : Int), 0 ≤ r → r * r ≤ n → n < (r + 2 ^ i) * (r + 2 ^ i) → 0 ≤ rootAux i n r ∧ rootAux i n r * rootAux i n r ≤ n ∧ n < (rootAux i n r + 1) * (rootAux i n r + 1)
  | 0, n, r, h0, h1, h2 => ⟨h0, h1, by rw [show (2 : Int) ^ 0 = 1 from rfl] at h2; exact h2⟩
  | i + 1, n, r, h0, h1, h2 => by
    have hp : (0 : Int) < 2 ^ i := Int.pow_pos (by decide)
    unfold rootAux
    split
    · rename_i h
      refine rootAux_spec i n _ (by omega) h ?_
      have e : r + 2 ^ i + 2 ^ i = r + 2 ^ (i + 1) := by rw [Int.pow_succ]; omega
      rw [e]; exact h2
    · rename_i h
      exact rootAux_spec i n r h0 h1 (by omega)
theorem rootR_spec {n : Int} (h0 : 0 ≤ n) (h : n ≤ 9223372036854775807) : 0 ≤ rootR n ∧ rootR n * rootR n ≤ n ∧ n < (rootR n + 1) * (rootR n + 1) := by
  unfold rootR
  split
  · have : n = 0 := by omega
    subst this
    decide
  · exact rootAux_spec 32 n 0 (by omega) (by omega) (by
      have e : ((0 : Int) + 2 ^ 32) * (0 + 2 ^ 32) = 18446744073709551616 := by decide
      omega)
theorem mul_self_mono {a b : Int} (h0 : 0 ≤ a) (h : a ≤ b) : a * a ≤ b * b := Int.mul_le_mul h h h0 (by omega)
theorem root_iff {n m : Int} (hn : n ≤ 9223372036854775807) (hm : 1 ≤ m) : m ≤ rootR n ↔ m * m ≤ n := by
  rcases Int.lt_or_le n 0 with h | h
  · have e : rootR n = 0 := if_pos (by omega)
    have := mul_self_mono (show (0 : Int) ≤ 1 by decide) hm
    omega
  · obtain ⟨a, b, c⟩ := rootR_spec h hn
    constructor
    · intro g
      have := mul_self_mono (show 0 ≤ m by omega) g
      omega
    · intro g
      rcases Int.lt_or_le (rootR n) m with g2 | g2
      · have := mul_self_mono (show 0 ≤ rootR n + 1 by omega) (show rootR n + 1 ≤ m by omega)
        omega
      · exact g2
theorem root_bd {n : Int} (hn : n ≤ 9223372036854775807) : 0 ≤ rootR n ∧ rootR n ≤ 3037000499 := by
  rcases Int.lt_or_le n 0 with h | h
  · have e : rootR n = 0 := if_pos (by omega)
    omega
  · obtain ⟨a, b, c⟩ := rootR_spec h hn
    refine ⟨a, ?_⟩
    rcases Int.lt_or_le 3037000499 (rootR n) with g | g
    · have := mul_self_mono (show (0 : Int) ≤ 3037000500 by decide) (show 3037000500 ≤ rootR n by omega)
      omega
    · exact g
set_option maxHeartbeats 1000000 in
theorem rroot_any (n : Int) (w : World) (n1 : -9223372036854775808 ≤ n) (n2 : n ≤ 9223372036854775807) :
    Calls Try.prog 103 #[.int .i64 n] w fun e w' => e = .returned (.int .i64 (rootR n)) ∧ Below w.heap.size w w' := by
  have hb := root_bd n2
  have HI := Lib.hid (fun m => @root_iff n m n2)
  obtain ⟨S, hS⟩ : ∃ S, S = rootR n := ⟨_, rfl⟩
  rw [← hS] at hb ⊢
  obtain ⟨s0, s1⟩ := hb
  have HS := Lib.hid hS
  clear hS
  go_enter Try.func103, Try.ntmps103; (try simp only [List.append_eq, List.cons_append, List.nil_append])
  go_wp2_with fail
  go_loop [3, 4] (fun vl vh => ∃ l h : Int, vl = .int .i64 l ∧ vh = .int .i64 h ∧ 0 ≤ l ∧ l ≤ S ∧ S ≤ h ∧ h ≤ 3037000499) (fun vl vh => (intOf vh - intOf vl).toNat)
  case atStart => exact ⟨0, 3037000499, rfl, rfl, by omega, s0, s1, by omega⟩
  case round =>
    obtain ⟨l, h, rfl, rfl, l0, l1, h0, h1⟩ := hrel
    by_cases hlt : l < h
    · obtain ⟨m, hm⟩ : ∃ m, m = (l + h + 1) / 2 := ⟨_, rfl⟩
      have hq : (l + h + 1).tdiv 2 = m := by rw [hm]; exact Int.tdiv_eq_ediv_of_nonneg (by omega)
      have m0 : l + 1 ≤ m := by omega
      have m1 : m ≤ h := by omega
      have m2 : 0 ≤ m := by omega
      have hmm := Int.mul_le_mul (show m ≤ 3037000499 by omega) (show m ≤ 3037000499 by omega) m2 (by omega)
      have hmn := Int.mul_nonneg m2 m2
      have hiff := HI.out m (by omega)
      rw [← HS.out] at hiff
      have hm' := hm.symm
      obtain ⟨M, hM⟩ : ∃ M, M = m * m := ⟨_, rfl⟩
      rw [← hM] at hmm hmn hiff
      have hM' := hM.symm
      have HIF := Lib.hid hiff
      clear hm hM hiff
      by_cases hc : M ≤ n
      · have hS := HIF.out.2 hc
        go_wp2_with fail
        go_round
        case rel => exact ⟨m, h, rfl, rfl, m2, hS, h0, h1⟩
        case measure => simp [intOf]; omega
      · have hS : ¬ m ≤ S := fun g => hc (HIF.out.1 g)
        go_wp2_with fail
        go_round
        case rel => exact ⟨l, m - 1, rfl, rfl, l0, l1, by omega, by omega⟩
        case measure => simp [intOf]; omega
    · obtain rfl : l = S := by omega
      go_wp2_with fail
      go_ret
      exact ⟨rfl, Below.refl _ _⟩
end Go.Proofs.Ytklkhnhieihfoaa
namespace Go.Proofs.Ytklkhnhieihfoaa
open Go Go.RowKit
set_option linter.unusedVariables false
theorem dot_bd (a b c d : Int) : -2305843009213693952 ≤ dotR a b c d ∧ dotR a b c d ≤ 2305843009213693952 := by
  unfold dotR
  split
  · rename_i h
    obtain ⟨a1, a2, a3, a4⟩ := small_bd h.1
    obtain ⟨b1, b2, b3, b4⟩ := small_bd h.2
    have m1 := mul_bd a c 1073741824 1073741824 a1 a2 b1 b2
    have m2 := mul_bd b d 1073741824 1073741824 a3 a4 b3 b4
    omega
  · omega
theorem tdiv_bd1 {a r : Int} (hr : ¬ r = 0) : -(a.natAbs : Int) ≤ a.tdiv r ∧ a.tdiv r ≤ (a.natAbs : Int) := by
  have h := Int.natAbs_tdiv_le_natAbs a r
  omega
def kickR (n1 n2 s : Int) : V2 := if withinB n1 n2 2097152 = true ∧ ¬ rootR (dotR n1 n2 n1 n2) = 0 ∧ 0 ≤ s ∧ s ≤ 16384 then ((s * n1).tdiv (rootR (dotR n1 n2 n1 n2)), (s * n2).tdiv (rootR (dotR n1 n2 n1 n2))) else (0, 0)
theorem within_bd2 {a b n : Int} (h : withinB a b n = true) : -n ≤ a ∧ a ≤ n ∧ -n ≤ b ∧ b ≤ n := by simpa [withinB] using h
set_option maxRecDepth 100000 in
set_option maxHeartbeats 20000000 in
theorem kick_any (n1 n2 s : Int) (w : World) :
    Calls Try.prog 49 #[.agg #[.int .i64 n1, .int .i64 n2], .int .i64 s] w fun e w' => e = .returned (.agg #[.int .i64 (kickR n1 n2 s).1, .int .i64 (kickR n1 n2 s).2]) ∧ Below w.heap.size w w' := by
  have hd := dot_bd n1 n2 n1 n2
  have hr2 := root_bd (n := dotR n1 n2 n1 n2) (by omega)
  have k1 := fun w => vdot_any n1 n2 n1 n2 w
  have k2 := fun w => root_any (dotR n1 n2 n1 n2) w (by omega) (by omega)
  have k3 := fun g w => rwithin_one 2097152 n1 n2 g w (by omega) (by omega)
  obtain ⟨V, hV⟩ : ∃ V, V = kickR n1 n2 s := ⟨_, rfl⟩
  rw [← hV]
  have hn : withinB n1 n2 2097152 = true → -2097152 ≤ n1 ∧ n1 ≤ 2097152 ∧ -2097152 ≤ n2 ∧ n2 ≤ 2097152 := fun h => within_bd2 h
  unfold kickR at hV
  obtain ⟨r, hR⟩ : ∃ r, r = rootR (dotR n1 n2 n1 n2) := ⟨_, rfl⟩
  rw [← hR] at hr2 k2 hV
  generalize dotR n1 n2 n1 n2 = d at *
  generalize withinB n1 n2 2097152 = c1 at *
  have HV := Lib.hid hV
  have HN := Lib.hid hn
  have K1 := Lib.hid k1
  have K2 := Lib.hid k2
  have K3 := Lib.hid k3
  obtain ⟨r0, r1⟩ := hr2
  clear k1 k2 k3 hV hn hR hd
  go_enter Try.func49, Try.ntmps49; (try simp only [List.append_eq, List.cons_append, List.nil_append])
  go_wp2_with fail
  -- own blocks: w.heap.size:2, w.heap.size + 1:2
  (go_at_call 19; refine (K1.out _).mono ?_; rintro e w101 ⟨rfl, hb_w101⟩; have hz_w101 := hb_w101.size; (try simp at hz_w101); (with_reducible apply cel2 (b := w.heap.size) hb_w101); (focus ((try simp) <;> omega)); (focus omega); (focus (go_simp; try exact rfl)); (focus (go_simp; try exact rfl)); (focus (intro o; go_simp)); intro cc cc fz hl; (with_reducible apply cel2 (b := w.heap.size + 1) hb_w101); (focus ((try simp) <;> omega)); (focus omega); (focus (go_simp; try exact rfl)); (focus (go_simp; try exact rfl)); (focus (intro o; go_simp)); intro cc cc fz hl)
  go_wp2_with fail
  (go_at_call 102; refine (K2.out _).mono ?_; rintro e w102 ⟨rfl, hb_w102⟩; have hz_w102 := hb_w102.size; (try simp at hz_w102); (with_reducible apply cel2 (b := w.heap.size) hb_w102); (focus ((try simp) <;> omega)); (focus omega); (focus (go_simp; try exact rfl)); (focus (go_simp; try exact rfl)); (focus (intro o; go_simp)); intro cc cc fz hl; (with_reducible apply cel2 (b := w.heap.size + 1) hb_w102); (focus ((try simp) <;> omega)); (focus omega); (focus (go_simp; try exact rfl)); (focus (go_simp; try exact rfl)); (focus (intro o; go_simp)); intro cc cc fz hl)
  go_wp2_with fail
  (go_at_call 92; refine (K3.out _ _ (by simp) (by go_simp) (by go_simp)).mono ?_; rintro e w103 ⟨rfl, hb_w103⟩; have hz_w103 := hb_w103.size; (try simp at hz_w103); (with_reducible apply cel2 (b := w.heap.size) hb_w103); (focus ((try simp) <;> omega)); (focus omega); (focus (go_simp; try exact rfl)); (focus (go_simp; try exact rfl)); (focus (intro o; go_simp)); intro cc cc fz hl; (with_reducible apply cel2 (b := w.heap.size + 1) hb_w103); (focus ((try simp) <;> omega)); (focus omega); (focus (go_simp; try exact rfl)); (focus (go_simp; try exact rfl)); (focus (intro o; go_simp)); intro cc cc fz hl)
  cases c1
  · have hv : V = (0, 0) := by rw [HV.out]; exact if_neg (fun h => by cases h.1)
    subst hv
    go_wp2_with fail
    refine bodyPost_ret (v := .agg #[.int .i64 0, .int .i64 0]) (by simp only [results, Try.results49]; go_simp) rfl ⟨?_, ?_⟩
    · rfl
    · ((with_reducible (repeat (first | exact bR _ _ | refine bS ?_ ?_ _ | refine bA ?_ ?_ _ | refine bD ?_ | refine bT ?_ (by assumption) ?_ | refine bO (by assumption) ?_ ?_))) <;> (first | omega | (simp; done) | (simp <;> omega)))
  · by_cases hr : r = 0
    · have hv : V = (0, 0) := by rw [HV.out]; exact if_neg (fun h => h.2.1 hr)
      subst hv hr
      go_wp2_with fail
      refine bodyPost_ret (v := .agg #[.int .i64 0, .int .i64 0]) (by simp only [results, Try.results49]; go_simp) rfl ⟨?_, ?_⟩
      · rfl
      · ((with_reducible (repeat (first | exact bR _ _ | refine bS ?_ ?_ _ | refine bA ?_ ?_ _ | refine bD ?_ | refine bT ?_ (by assumption) ?_ | refine bO (by assumption) ?_ ?_))) <;> (first | omega | (simp; done) | (simp <;> omega)))
    · by_cases h1 : s < 0
      · have hv : V = (0, 0) := by rw [HV.out]; exact if_neg (fun h => by omega)
        subst hv
        go_wp2_with fail
        refine bodyPost_ret (v := .agg #[.int .i64 0, .int .i64 0]) (by simp only [results, Try.results49]; go_simp) rfl ⟨?_, ?_⟩
        · rfl
        · ((with_reducible (repeat (first | exact bR _ _ | refine bS ?_ ?_ _ | refine bA ?_ ?_ _ | refine bD ?_ | refine bT ?_ (by assumption) ?_ | refine bO (by assumption) ?_ ?_))) <;> (first | omega | (simp; done) | (simp <;> omega)))
      · by_cases h2 : 16384 < s
        · have hv : V = (0, 0) := by rw [HV.out]; exact if_neg (fun h => by omega)
          subst hv
          go_wp2_with fail
          refine bodyPost_ret (v := .agg #[.int .i64 0, .int .i64 0]) (by simp only [results, Try.results49]; go_simp) rfl ⟨?_, ?_⟩
          · rfl
          · ((with_reducible (repeat (first | exact bR _ _ | refine bS ?_ ?_ _ | refine bA ?_ ?_ _ | refine bD ?_ | refine bT ?_ (by assumption) ?_ | refine bO (by assumption) ?_ ?_))) <;> (first | omega | (simp; done) | (simp <;> omega)))
        · have hv : V = ((s * n1).tdiv r, (s * n2).tdiv r) := by rw [HV.out]; exact if_pos ⟨by simp, hr, by omega, by omega⟩
          subst hv
          have m1 := mulB s n1 16384 2097152 (by omega) (by have := HN.out (by simp); omega)
          have m2 := mulB s n2 16384 2097152 (by omega) (by have := HN.out (by simp); omega)
          have hne : (r == 0) = false := by simp; omega
          have t1 := tdiv_bd1 (a := s * n1) hr
          have t2 := tdiv_bd1 (a := s * n2) hr
          obtain ⟨m1a, m1b⟩ := m1
          obtain ⟨m2a, m2b⟩ := m2
          go_wp2_with fail
          (refine pin_wp (N := _) (Nat.le_refl _) (fun w200 hb_w200 hz_w200 => ?_); (try simp at hz_w200); (with_reducible apply cel2 (b := w.heap.size) hb_w200); (focus ((try simp) <;> omega)); (focus omega); (focus (go_simp; try exact rfl)); (focus (go_simp; try exact rfl)); (focus (intro o; go_simp)); intro cc cc fz hl; (with_reducible apply cel2 (b := w.heap.size + 1) hb_w200); (focus ((try simp) <;> omega)); (focus omega); (focus (go_simp; try exact rfl)); (focus (go_simp; try exact rfl)); (focus (intro o; go_simp)); intro cc cc fz hl); refine wp_region_floatQ w200.heap.size 13 [13] (Nat.le_refl _) (fun _ => True) trivial Cl.tt (by kernel_rfl) (by kernel_rfl) ?_
          have HB200 := Lib.hid (show Below w.heap.size w w200 by ((with_reducible (repeat (first | exact bR _ _ | refine bS ?_ ?_ _ | refine bA ?_ ?_ _ | refine bD ?_ | refine bT ?_ (by assumption) ?_ | refine bO (by assumption) ?_ ?_))) <;> (first | omega | (simp; done) | (simp <;> omega))))
          clear hb_w200
          refine wpQI_start [0, 1, 2, 3, 4, 5, 6, 7, 8, 9, 10, 11, 12] ?_; (iterate 13 (first | (refine wpQI_off (by with_reducible (refine List.getElem?_toArray.trans ?_; (repeat (first | exact List.getElem?_cons_zero | refine List.getElem?_cons_succ.trans ?_)))) (by kernel_rfl) (by exact rfl) (fun K hK => ?_); go_simp; refine hK _ ?_; clear hK K) | ((first | apply wpQI_step (by with_reducible (refine List.getElem?_toArray.trans ?_; (repeat (first | exact List.getElem?_cons_zero | refine List.getElem?_cons_succ.trans ?_)))) (by kernel_rfl) (by exact rfl) | apply wpQI_on (by with_reducible (refine List.getElem?_toArray.trans ?_; (repeat (first | exact List.getElem?_cons_zero | refine List.getElem?_cons_succ.trans ?_)))) (by kernel_rfl) (by exact rfl)); (focus (intro W' hS; have hcS := hS.cells.1; have hfS := hS.cells.2; go_simp; (first | done | exact rfl | exact ⟨rfl, Below.refl _ _⟩ | (go_simp; first | done | exact rfl | exact ⟨rfl, Below.refl _ _⟩)))); intro K hK; go_simp; (try go_bits); refine hK _ ?_; clear hK K))); refine wpQI_nil ?_
          refine wpQ_done (by kernel_rfl) ?_
          intro w201 hF_w201 hSG
          have hz_w201 := hSG.1.1
          have hb_w201 := hSG.1.2
          clear hSG
          (with_reducible apply cel2 (b := w.heap.size) hb_w201); (focus ((try simp) <;> omega)); (focus omega); (focus (go_simp; try exact rfl)); (focus (go_simp; try exact rfl)); (focus (intro o; go_simp)); intro cc cc fz hl; (with_reducible apply cel2 (b := w.heap.size + 1) hb_w201); (focus ((try simp) <;> omega)); (focus omega); (focus (go_simp; try exact rfl)); (focus (go_simp; try exact rfl)); (focus (intro o; go_simp)); intro cc cc fz hl
          (try simp only [List.filterMap_cons, List.filterMap_nil, List.getElem?_cons_succ, List.getElem?_cons_zero])
          have HB201 := Lib.hid (HB200.out.trans (hb_w201.mono (by have := HB200.out.size; omega)))
          clear hb_w201 hF_w201
          go_wp2_with fail
          refine bodyPost_ret (v := .agg #[.int .i64 ((s * n1).tdiv r), .int .i64 ((s * n2).tdiv r)]) (by simp only [results, Try.results49]; go_simp) rfl ⟨?_, ?_⟩
          · rfl
          · have hB := HB201.out; ((with_reducible (repeat (first | exact bR _ _ | refine bS ?_ ?_ _ | refine bA ?_ ?_ _ | refine bD ?_ | refine bT ?_ (by assumption) ?_ | refine bO (by assumption) ?_ ?_))) <;> (first | omega | (simp; done) | (simp <;> omega)))
set_option maxRecDepth 100000 in
set_option maxHeartbeats 20000000 in
theorem rkick_any (n1 n2 s : Int) (w : World) :
    Calls Try.prog 50 #[.agg #[.int .i64 n1, .int .i64 n2], .int .i64 s] w fun e w' => e = .returned (.agg #[.int .i64 (kickR n1 n2 s).1, .int .i64 (kickR n1 n2 s).2]) ∧ Below w.heap.size w w' := by
  have hd := dot_bd n1 n2 n1 n2
  have hr2 := root_bd (n := dotR n1 n2 n1 n2) (by omega)
  have k1 := fun w => rdot_any n1 n2 n1 n2 w
  have k2 := fun w => rroot_any (dotR n1 n2 n1 n2) w (by omega) (by omega)
  have k3 := fun w => rdirection_any n1 n2 w
  obtain ⟨V, hV⟩ : ∃ V, V = kickR n1 n2 s := ⟨_, rfl⟩
  rw [← hV]
  have hn : withinB n1 n2 2097152 = true → -2097152 ≤ n1 ∧ n1 ≤ 2097152 ∧ -2097152 ≤ n2 ∧ n2 ≤ 2097152 := fun h => within_bd2 h
  have hz0 : withinB n1 n2 2097152 = true → (rootR (dotR n1 n2 n1 n2) = 0 ↔ (n1 = 0 ∧ n2 = 0)) := fun h => by
    have b := within_bd2 h
    have e : dotR n1 n2 n1 n2 = n1 * n1 + n2 * n2 := by unfold dotR; rw [if_pos ⟨small_of (by omega), small_of (by omega)⟩]
    have q1 : 0 ≤ n1 * n1 := by rcases Int.le_total 0 n1 with h | h; exact Int.mul_nonneg h h; exact Int.mul_nonneg_of_nonpos_of_nonpos h h
    have q2 : 0 ≤ n2 * n2 := by rcases Int.le_total 0 n2 with h | h; exact Int.mul_nonneg h h; exact Int.mul_nonneg_of_nonpos_of_nonpos h h
    have hi := root_iff (n := dotR n1 n2 n1 n2) (m := 1) (by omega) (by omega)
    constructor
    · intro h0
      have h2 : ¬ (1 : Int) * 1 ≤ dotR n1 n2 n1 n2 := fun h3 => by have := hi.2 h3; omega
      rw [e] at h2
      have a1 := Int.mul_eq_zero.1 (show n1 * n1 = 0 by omega)
      have a2 := Int.mul_eq_zero.1 (show n2 * n2 = 0 by omega)
      omega
    · rintro ⟨rfl, rfl⟩
      have : dotR 0 0 0 0 = 0 := by decide
      rw [this]; decide
  unfold kickR at hV
  obtain ⟨r, hR⟩ : ∃ r, r = rootR (dotR n1 n2 n1 n2) := ⟨_, rfl⟩
  rw [← hR] at hr2 k2 hV hz0
  generalize dotR n1 n2 n1 n2 = d at *
  generalize withinB n1 n2 2097152 = c1 at *
  have HV := Lib.hid hV
  have HN := Lib.hid hn
  have HZ := Lib.hid hz0
  have K1 := Lib.hid k1
  have K2 := Lib.hid k2
  have K3 := Lib.hid k3
  obtain ⟨r0, r1⟩ := hr2
  clear k1 k2 k3 hV hn hR hd hz0
  go_enter Try.func50, Try.ntmps50; (try simp only [List.append_eq, List.cons_append, List.nil_append])
  go_wp2_with fail
  -- own blocks: w.heap.size:2, w.heap.size + 1:2
  (go_at_call 71; refine (K3.out _).mono ?_; rintro e w101 ⟨rfl, hb_w101⟩; have hz_w101 := hb_w101.size; (try simp at hz_w101); (with_reducible apply cel2 (b := w.heap.size) hb_w101); (focus ((try simp) <;> omega)); (focus omega); (focus (go_simp; try exact rfl)); (focus (go_simp; try exact rfl)); (focus (intro o; go_simp)); intro cc cc fz hl; (with_reducible apply cel2 (b := w.heap.size + 1) hb_w101); (focus ((try simp) <;> omega)); (focus omega); (focus (go_simp; try exact rfl)); (focus (go_simp; try exact rfl)); (focus (intro o; go_simp)); intro cc cc fz hl)
  cases c1
  · have hv : V = (0, 0) := by rw [HV.out]; exact if_neg (fun h => by cases h.1)
    subst hv
    go_wp2_with fail
    refine bodyPost_ret (v := .agg #[.int .i64 0, .int .i64 0]) (by simp only [results, Try.results50]; go_simp) rfl ⟨?_, ?_⟩
    · rfl
    · ((with_reducible (repeat (first | exact bR _ _ | refine bS ?_ ?_ _ | refine bA ?_ ?_ _ | refine bD ?_ | refine bT ?_ (by assumption) ?_ | refine bO (by assumption) ?_ ?_))) <;> (first | omega | (simp; done) | (simp <;> omega)))
  · by_cases hn0 : n1 = 0 ∧ n2 = 0
    · have hr : r = 0 := (HZ.out (by simp)).2 hn0
      obtain ⟨rfl, rfl⟩ := hn0
      have hv : V = (0, 0) := by rw [HV.out]; exact if_neg (fun h => h.2.1 hr)
      subst hv
      clear hr
      go_wp2_with fail
      refine bodyPost_ret (v := .agg #[.int .i64 0, .int .i64 0]) (by simp only [results, Try.results50]; go_simp) rfl ⟨?_, ?_⟩
      · rfl
      · ((with_reducible (repeat (first | exact bR _ _ | refine bS ?_ ?_ _ | refine bA ?_ ?_ _ | refine bD ?_ | refine bT ?_ (by assumption) ?_ | refine bO (by assumption) ?_ ?_))) <;> (first | omega | (simp; done) | (simp <;> omega)))
    · have hr : ¬ r = 0 := fun h => hn0 ((HZ.out (by simp)).1 h)
      have hn1 : ¬ n1 = 0 ∨ (n1 = 0 ∧ ¬ n2 = 0) := by omega
      clear hn0
      rcases hn1 with hn0 | ⟨rfl, hn0⟩
      · by_cases h1 : s < 0
        · have hv : V = (0, 0) := by rw [HV.out]; exact if_neg (fun h => by omega)
          subst hv
          go_wp2_with fail
          refine bodyPost_ret (v := .agg #[.int .i64 0, .int .i64 0]) (by simp only [results, Try.results50]; go_simp) rfl ⟨?_, ?_⟩
          · rfl
          · ((with_reducible (repeat (first | exact bR _ _ | refine bS ?_ ?_ _ | refine bA ?_ ?_ _ | refine bD ?_ | refine bT ?_ (by assumption) ?_ | refine bO (by assumption) ?_ ?_))) <;> (first | omega | (simp; done) | (simp <;> omega)))
        · by_cases h2 : 16384 < s
          · have hv : V = (0, 0) := by rw [HV.out]; exact if_neg (fun h => by omega)
            subst hv
            go_wp2_with fail
            refine bodyPost_ret (v := .agg #[.int .i64 0, .int .i64 0]) (by simp only [results, Try.results50]; go_simp) rfl ⟨?_, ?_⟩
            · rfl
            · ((with_reducible (repeat (first | exact bR _ _ | refine bS ?_ ?_ _ | refine bA ?_ ?_ _ | refine bD ?_ | refine bT ?_ (by assumption) ?_ | refine bO (by assumption) ?_ ?_))) <;> (first | omega | (simp; done) | (simp <;> omega)))
          · go_wp2_with fail
            (go_at_call 54; refine (K1.out _).mono ?_; rintro e w102 ⟨rfl, hb_w102⟩; have hz_w102 := hb_w102.size; (try simp at hz_w102); (with_reducible apply cel2 (b := w.heap.size) hb_w102); (focus ((try simp) <;> omega)); (focus omega); (focus (go_simp; try exact rfl)); (focus (go_simp; try exact rfl)); (focus (intro o; go_simp)); intro cc cc fz hl; (with_reducible apply cel2 (b := w.heap.size + 1) hb_w102); (focus ((try simp) <;> omega)); (focus omega); (focus (go_simp; try exact rfl)); (focus (go_simp; try exact rfl)); (focus (intro o; go_simp)); intro cc cc fz hl)
            go_wp2_with fail
            (go_at_call 103; refine (K2.out _).mono ?_; rintro e w103 ⟨rfl, hb_w103⟩; have hz_w103 := hb_w103.size; (try simp at hz_w103); (with_reducible apply cel2 (b := w.heap.size) hb_w103); (focus ((try simp) <;> omega)); (focus omega); (focus (go_simp; try exact rfl)); (focus (go_simp; try exact rfl)); (focus (intro o; go_simp)); intro cc cc fz hl; (with_reducible apply cel2 (b := w.heap.size + 1) hb_w103); (focus ((try simp) <;> omega)); (focus omega); (focus (go_simp; try exact rfl)); (focus (go_simp; try exact rfl)); (focus (intro o; go_simp)); intro cc cc fz hl)
            have hv : V = ((s * n1).tdiv r, (s * n2).tdiv r) := by rw [HV.out]; exact if_pos ⟨by simp, hr, by omega, by omega⟩
            subst hv
            have m1 := mulB s n1 16384 2097152 (by omega) (by have := HN.out (by simp); omega)
            have m2 := mulB s n2 16384 2097152 (by omega) (by have := HN.out (by simp); omega)
            have hne : (r == 0) = false := by simp; omega
            have t1 := tdiv_bd1 (a := s * n1) hr
            have t2 := tdiv_bd1 (a := s * n2) hr
            obtain ⟨m1a, m1b⟩ := m1
            obtain ⟨m2a, m2b⟩ := m2
            go_wp2_with fail
            (refine pin_wp (N := _) (Nat.le_refl _) (fun w200 hb_w200 hz_w200 => ?_); (try simp at hz_w200); (with_reducible apply cel2 (b := w.heap.size) hb_w200); (focus ((try simp) <;> omega)); (focus omega); (focus (go_simp; try exact rfl)); (focus (go_simp; try exact rfl)); (focus (intro o; go_simp)); intro cc cc fz hl; (with_reducible apply cel2 (b := w.heap.size + 1) hb_w200); (focus ((try simp) <;> omega)); (focus omega); (focus (go_simp; try exact rfl)); (focus (go_simp; try exact rfl)); (focus (intro o; go_simp)); intro cc cc fz hl); refine wp_region_floatQ w200.heap.size 13 [13] (Nat.le_refl _) (fun _ => True) trivial Cl.tt (by kernel_rfl) (by kernel_rfl) ?_
            have HB200 := Lib.hid (show Below w.heap.size w w200 by ((with_reducible (repeat (first | exact bR _ _ | refine bS ?_ ?_ _ | refine bA ?_ ?_ _ | refine bD ?_ | refine bT ?_ (by assumption) ?_ | refine bO (by assumption) ?_ ?_))) <;> (first | omega | (simp; done) | (simp <;> omega))))
            clear hb_w200
            refine wpQI_start [0, 1, 2, 3, 4, 5, 6, 7, 8, 9, 10, 11, 12] ?_; (iterate 13 (first | (refine wpQI_off (by with_reducible (refine List.getElem?_toArray.trans ?_; (repeat (first | exact List.getElem?_cons_zero | refine List.getElem?_cons_succ.trans ?_)))) (by kernel_rfl) (by exact rfl) (fun K hK => ?_); go_simp; refine hK _ ?_; clear hK K) | ((first | apply wpQI_step (by with_reducible (refine List.getElem?_toArray.trans ?_; (repeat (first | exact List.getElem?_cons_zero | refine List.getElem?_cons_succ.trans ?_)))) (by kernel_rfl) (by exact rfl) | apply wpQI_on (by with_reducible (refine List.getElem?_toArray.trans ?_; (repeat (first | exact List.getElem?_cons_zero | refine List.getElem?_cons_succ.trans ?_)))) (by kernel_rfl) (by exact rfl)); (focus (intro W' hS; have hcS := hS.cells.1; have hfS := hS.cells.2; go_simp; (first | done | exact rfl | exact ⟨rfl, Below.refl _ _⟩ | (go_simp; first | done | exact rfl | exact ⟨rfl, Below.refl _ _⟩)))); intro K hK; go_simp; (try go_bits); refine hK _ ?_; clear hK K))); refine wpQI_nil ?_
            refine wpQ_done (by kernel_rfl) ?_
            intro w201 hF_w201 hSG
            have hz_w201 := hSG.1.1
            have hb_w201 := hSG.1.2
            clear hSG
            (with_reducible apply cel2 (b := w.heap.size) hb_w201); (focus ((try simp) <;> omega)); (focus omega); (focus (go_simp; try exact rfl)); (focus (go_simp; try exact rfl)); (focus (intro o; go_simp)); intro cc cc fz hl; (with_reducible apply cel2 (b := w.heap.size + 1) hb_w201); (focus ((try simp) <;> omega)); (focus omega); (focus (go_simp; try exact rfl)); (focus (go_simp; try exact rfl)); (focus (intro o; go_simp)); intro cc cc fz hl
            (try simp only [List.filterMap_cons, List.filterMap_nil, List.getElem?_cons_succ, List.getElem?_cons_zero])
            have HB201 := Lib.hid (HB200.out.trans (hb_w201.mono (by have := HB200.out.size; omega)))
            clear hb_w201 hF_w201
            go_wp2_with fail
            refine bodyPost_ret (v := .agg #[.int .i64 ((s * n1).tdiv r), .int .i64 ((s * n2).tdiv r)]) (by simp only [results, Try.results50]; go_simp) rfl ⟨?_, ?_⟩
            · rfl
            · have hB := HB201.out; ((with_reducible (repeat (first | exact bR _ _ | refine bS ?_ ?_ _ | refine bA ?_ ?_ _ | refine bD ?_ | refine bT ?_ (by assumption) ?_ | refine bO (by assumption) ?_ ?_))) <;> (first | omega | (simp; done) | (simp <;> omega)))
      · by_cases h1 : s < 0
        · have hv : V = (0, 0) := by rw [HV.out]; exact if_neg (fun h => by omega)
          subst hv
          go_wp2_with fail
          refine bodyPost_ret (v := .agg #[.int .i64 0, .int .i64 0]) (by simp only [results, Try.results50]; go_simp) rfl ⟨?_, ?_⟩
          · rfl
          · ((with_reducible (repeat (first | exact bR _ _ | refine bS ?_ ?_ _ | refine bA ?_ ?_ _ | refine bD ?_ | refine bT ?_ (by assumption) ?_ | refine bO (by assumption) ?_ ?_))) <;> (first | omega | (simp; done) | (simp <;> omega)))
        · by_cases h2 : 16384 < s
          · have hv : V = (0, 0) := by rw [HV.out]; exact if_neg (fun h => by omega)
            subst hv
            go_wp2_with fail
            refine bodyPost_ret (v := .agg #[.int .i64 0, .int .i64 0]) (by simp only [results, Try.results50]; go_simp) rfl ⟨?_, ?_⟩
            · rfl
            · ((with_reducible (repeat (first | exact bR _ _ | refine bS ?_ ?_ _ | refine bA ?_ ?_ _ | refine bD ?_ | refine bT ?_ (by assumption) ?_ | refine bO (by assumption) ?_ ?_))) <;> (first | omega | (simp; done) | (simp <;> omega)))
          · go_wp2_with fail
            (go_at_call 54; refine (K1.out _).mono ?_; rintro e w102 ⟨rfl, hb_w102⟩; have hz_w102 := hb_w102.size; (try simp at hz_w102); (with_reducible apply cel2 (b := w.heap.size) hb_w102); (focus ((try simp) <;> omega)); (focus omega); (focus (go_simp; try exact rfl)); (focus (go_simp; try exact rfl)); (focus (intro o; go_simp)); intro cc cc fz hl; (with_reducible apply cel2 (b := w.heap.size + 1) hb_w102); (focus ((try simp) <;> omega)); (focus omega); (focus (go_simp; try exact rfl)); (focus (go_simp; try exact rfl)); (focus (intro o; go_simp)); intro cc cc fz hl)
            go_wp2_with fail
            (go_at_call 103; refine (K2.out _).mono ?_; rintro e w103 ⟨rfl, hb_w103⟩; have hz_w103 := hb_w103.size; (try simp at hz_w103); (with_reducible apply cel2 (b := w.heap.size) hb_w103); (focus ((try simp) <;> omega)); (focus omega); (focus (go_simp; try exact rfl)); (focus (go_simp; try exact rfl)); (focus (intro o; go_simp)); intro cc cc fz hl; (with_reducible apply cel2 (b := w.heap.size + 1) hb_w103); (focus ((try simp) <;> omega)); (focus omega); (focus (go_simp; try exact rfl)); (focus (go_simp; try exact rfl)); (focus (intro o; go_simp)); intro cc cc fz hl)
            have hv : V = (0, (s * n2).tdiv r) := by rw [HV.out, if_pos (show _ from ⟨by simp, hr, by omega, by omega⟩)]; simp
            subst hv
            have m2 := mulB s n2 16384 2097152 (by omega) (by have := HN.out (by simp); omega)
            have hne : (r == 0) = false := by simp; omega
            have t2 := tdiv_bd1 (a := s * n2) hr
            obtain ⟨m2a, m2b⟩ := m2
            go_wp2_with fail
            (refine pin_wp (N := _) (Nat.le_refl _) (fun w200 hb_w200 hz_w200 => ?_); (try simp at hz_w200); (with_reducible apply cel2 (b := w.heap.size) hb_w200); (focus ((try simp) <;> omega)); (focus omega); (focus (go_simp; try exact rfl)); (focus (go_simp; try exact rfl)); (focus (intro o; go_simp)); intro cc cc fz hl; (with_reducible apply cel2 (b := w.heap.size + 1) hb_w200); (focus ((try simp) <;> omega)); (focus omega); (focus (go_simp; try exact rfl)); (focus (go_simp; try exact rfl)); (focus (intro o; go_simp)); intro cc cc fz hl); refine wp_region_floatQ w200.heap.size 13 [13] (Nat.le_refl _) (fun _ => True) trivial Cl.tt (by kernel_rfl) (by kernel_rfl) ?_
            have HB200 := Lib.hid (show Below w.heap.size w w200 by ((with_reducible (repeat (first | exact bR _ _ | refine bS ?_ ?_ _ | refine bA ?_ ?_ _ | refine bD ?_ | refine bT ?_ (by assumption) ?_ | refine bO (by assumption) ?_ ?_))) <;> (first | omega | (simp; done) | (simp <;> omega))))
            clear hb_w200
            refine wpQI_start [0, 1, 2, 3, 4, 5, 6, 7, 8, 9, 10, 11, 12] ?_; (iterate 13 (first | (refine wpQI_off (by with_reducible (refine List.getElem?_toArray.trans ?_; (repeat (first | exact List.getElem?_cons_zero | refine List.getElem?_cons_succ.trans ?_)))) (by kernel_rfl) (by exact rfl) (fun K hK => ?_); go_simp; refine hK _ ?_; clear hK K) | ((first | apply wpQI_step (by with_reducible (refine List.getElem?_toArray.trans ?_; (repeat (first | exact List.getElem?_cons_zero | refine List.getElem?_cons_succ.trans ?_)))) (by kernel_rfl) (by exact rfl) | apply wpQI_on (by with_reducible (refine List.getElem?_toArray.trans ?_; (repeat (first | exact List.getElem?_cons_zero | refine List.getElem?_cons_succ.trans ?_)))) (by kernel_rfl) (by exact rfl)); (focus (intro W' hS; have hcS := hS.cells.1; have hfS := hS.cells.2; go_simp; (first | done | exact rfl | exact ⟨rfl, Below.refl _ _⟩ | (go_simp; first | done | exact rfl | exact ⟨rfl, Below.refl _ _⟩)))); intro K hK; go_simp; (try go_bits); refine hK _ ?_; clear hK K))); refine wpQI_nil ?_
            refine wpQ_done (by kernel_rfl) ?_
            intro w201 hF_w201 hSG
            have hz_w201 := hSG.1.1
            have hb_w201 := hSG.1.2
            clear hSG
            (with_reducible apply cel2 (b := w.heap.size) hb_w201); (focus ((try simp) <;> omega)); (focus omega); (focus (go_simp; try exact rfl)); (focus (go_simp; try exact rfl)); (focus (intro o; go_simp)); intro cc cc fz hl; (with_reducible apply cel2 (b := w.heap.size + 1) hb_w201); (focus ((try simp) <;> omega)); (focus omega); (focus (go_simp; try exact rfl)); (focus (go_simp; try exact rfl)); (focus (intro o; go_simp)); intro cc cc fz hl
            (try simp only [List.filterMap_cons, List.filterMap_nil, List.getElem?_cons_succ, List.getElem?_cons_zero])
            have HB201 := Lib.hid (HB200.out.trans (hb_w201.mono (by have := HB200.out.size; omega)))
            clear hb_w201 hF_w201
            go_wp2_with fail
            refine bodyPost_ret (v := .agg #[.int .i64 0, .int .i64 ((s * n2).tdiv r)]) (by simp only [results, Try.results50]; go_simp) rfl ⟨?_, ?_⟩
            · rfl
            · have hB := HB201.out; ((with_reducible (repeat (first | exact bR _ _ | refine bS ?_ ?_ _ | refine bA ?_ ?_ _ | refine bD ?_ | refine bT ?_ (by assumption) ?_ | refine bO (by assumption) ?_ ?_))) <;> (first | omega | (simp; done) | (simp <;> omega)))
end Go.Proofs.Ytklkhnhieihfoaa
namespace Go.Proofs.Ytklkhnhieihfoaa
open Go Go.RowKit
set_option linter.unusedVariables false
theorem statR_on {v1 v2 w1 w2 n1 n2 e g : Int} (ha : apprB v1 v2 w1 w2 n1 n2 = true) (he : sixB e = true) (hg : sixB g = true) :
    statR v1 v2 w1 w2 n1 n2 e g = lowR (statX v1 (v1 - w1) n1 (n1 * n1 + n2 * n2) ((v1 - w1) * n1 + (v2 - w2) * n2) e g) (statX v2 (v2 - w2) n2 (n1 * n1 + n2 * n2) ((v1 - w1) * n1 + (v2 - w2) * n2) e g) (16 * (n1 * n1 + n2 * n2)) := by
  unfold statR
  rw [if_pos ⟨(appr_bd ha).1, by rw [he, hg]; rfl⟩, if_pos ha]
theorem statR_off {v1 v2 w1 w2 n1 n2 e g : Int} (hp : permB v1 v2 w1 w2 n1 n2 = true) (ha : apprB v1 v2 w1 w2 n1 n2 = false) (he : sixB e = true) (hg : sixB g = true) :
    statR v1 v2 w1 w2 n1 n2 e g = (v1, v2, 1) := by
  unfold statR
  rw [if_pos ⟨hp, by rw [he, hg]; rfl⟩, if_neg (by rw [ha]; decide)]
theorem pairR_on {v1 v2 w1 w2 n1 n2 e : Int} (ha : apprB v1 v2 w1 w2 n1 n2 = true) (he : sixB e = true) :
    pairR v1 v2 w1 w2 n1 n2 e = (lowR (pairX v1 n1 (n1 * n1 + n2 * n2) ((v1 - w1) * n1 + (v2 - w2) * n2) e (-1)) (pairX v2 n2 (n1 * n1 + n2 * n2) ((v1 - w1) * n1 + (v2 - w2) * n2) e (-1)) (32 * (n1 * n1 + n2 * n2)),
       lowR (pairX w1 n1 (n1 * n1 + n2 * n2) ((v1 - w1) * n1 + (v2 - w2) * n2) e 1) (pairX w2 n2 (n1 * n1 + n2 * n2) ((v1 - w1) * n1 + (v2 - w2) * n2) e 1) (32 * (n1 * n1 + n2 * n2))) := by
  unfold pairR
  rw [if_pos ⟨(appr_bd ha).1, he⟩, if_pos ha]
theorem pairR_off {v1 v2 w1 w2 n1 n2 e : Int} (hp : permB v1 v2 w1 w2 n1 n2 = true) (ha : apprB v1 v2 w1 w2 n1 n2 = false) (he : sixB e = true) :
    pairR v1 v2 w1 w2 n1 n2 e = ((v1, v2, 1), (w1, w2, 1)) := by
  unfold pairR
  rw [if_pos ⟨hp, he⟩, if_neg (by rw [ha]; decide)]
/-- Lengths of the results. -/
structure Lens (r : Int × Int × Int) : Prop where
  x : (canN r.1.natAbs).length ≤ 10
  y : (canN r.2.1.natAbs).length ≤ 10
  d : (canN r.2.2.natAbs).length ≤ 10
theorem lens_vec {a b : Int} (ha : -1048576 ≤ a ∧ a ≤ 1048576) (hb : -1048576 ≤ b ∧ b ≤ 1048576) : Lens (a, b, 1) := ⟨len_wd (by simp only; omega) (by simp only; omega), len_wd (by simp only; omega) (by simp only; omega), len_wd (by simp only; omega) (by simp only; omega)⟩
theorem lens_zero : Lens (0, 0, 0) := ⟨len_wd (by decide) (by decide), len_wd (by decide) (by decide), len_wd (by decide) (by decide)⟩
theorem stat_lens (v1 v2 w1 w2 n1 n2 e g : Int) : Lens (statR v1 v2 w1 w2 n1 n2 e g) ∧ (permB v1 v2 w1 w2 n1 n2 = true → sixB e = true → sixB g = true → 0 < (statR v1 v2 w1 w2 n1 n2 e g).2.2) := by
  by_cases h : permB v1 v2 w1 w2 n1 n2 = true ∧ (sixB e && sixB g) = true
  · obtain ⟨hp, h2⟩ := h
    rw [Bool.and_eq_true] at h2
    obtain ⟨he, hg⟩ := h2
    cases ha : apprB v1 v2 w1 w2 n1 n2
    · rw [statR_off hp ha he hg]
      obtain ⟨bv, _, _⟩ := perm_bd hp
      exact ⟨lens_vec (by omega) (by omega), fun _ _ _ => Int.zero_lt_one⟩
    · rw [statR_on ha he hg]
      obtain ⟨_, _, q⟩ := appr_bd ha
      obtain ⟨_, p3, p4⟩ := perm_prod hp
      obtain ⟨a, b, c, d⟩ := lowR_bd (n := 10) (d := 16 * (n1 * n1 + n2 * n2)) (by omega) (sm1 hp he hg).len (sm2 hp he hg).len (len_wd (by omega) (by omega))
      exact ⟨⟨b, c, d⟩, fun _ _ _ => a⟩
  · have : statR v1 v2 w1 w2 n1 n2 e g = (0, 0, 0) := by unfold statR; exact if_neg h
    rw [this]
    exact ⟨lens_zero, fun a b c => absurd ⟨a, by rw [b, c]; rfl⟩ h⟩
theorem pair_lens (v1 v2 w1 w2 n1 n2 e : Int) : (Lens (pairR v1 v2 w1 w2 n1 n2 e).1 ∧ Lens (pairR v1 v2 w1 w2 n1 n2 e).2) ∧ (permB v1 v2 w1 w2 n1 n2 = true → sixB e = true → 0 < (pairR v1 v2 w1 w2 n1 n2 e).1.2.2 ∧ 0 < (pairR v1 v2 w1 w2 n1 n2 e).2.2.2) := by
  by_cases h : permB v1 v2 w1 w2 n1 n2 = true ∧ sixB e = true
  · obtain ⟨hp, he⟩ := h
    obtain ⟨bv, bw, bn⟩ := perm_bd hp
    cases ha : apprB v1 v2 w1 w2 n1 n2
    · rw [pairR_off hp ha he]
      exact ⟨⟨lens_vec (by omega) (by omega), lens_vec (by omega) (by omega)⟩, fun _ _ => ⟨Int.zero_lt_one, Int.zero_lt_one⟩⟩
    · rw [pairR_on ha he]
      obtain ⟨_, _, q⟩ := appr_bd ha
      obtain ⟨_, p3, p4⟩ := perm_prod hp
      have ld := len_wd (z := 32 * (n1 * n1 + n2 * n2)) (by omega) (by omega)
      obtain ⟨a, b, c, d⟩ := lowR_bd (n := 10) (d := 32 * (n1 * n1 + n2 * n2)) (by omega) (sp1 (x := v1) (n := n1) (sgn := -1) hp he (by omega) (by omega) (by omega)).len (sp1 (x := v2) (n := n2) (sgn := -1) hp he (by omega) (by omega) (by omega)).len ld
      obtain ⟨a', b', c', d'⟩ := lowR_bd (n := 10) (d := 32 * (n1 * n1 + n2 * n2)) (by omega) (sp1 (x := w1) (n := n1) (sgn := 1) hp he (by omega) (by omega) (by omega)).len (sp1 (x := w2) (n := n2) (sgn := 1) hp he (by omega) (by omega) (by omega)).len ld
      exact ⟨⟨⟨b, c, d⟩, ⟨b', c', d'⟩⟩, fun _ _ => ⟨a, a'⟩⟩
  · have : pairR v1 v2 w1 w2 n1 n2 e = ((0, 0, 0), (0, 0, 0)) := by unfold pairR; exact if_neg h
    rw [this]
    exact ⟨⟨lens_zero, lens_zero⟩, fun a b => absurd ⟨a, b⟩ h⟩
theorem Lens.val {r : Int × Int × Int} (h : Lens r) (hd : 0 < r.2.2) : Val r := ⟨hd, by have := h.x; omega, by have := h.y; omega, by have := h.d; omega⟩
end Go.Proofs.Ytklkhnhieihfoaa
namespace Go.Proofs.Ytklkhnhieihfoaa
open Go Go.ChangeShapes Go.WideShapes Go.ChangeAt Go.RowKit
/-- What the cells of a datum of type t are, below n levels. -/
def RowIs (P : Program) (w : World) : Nat → TypeId → List Value → Prop
  | 0, _, _ => False
  | n + 1, t, cs =>
    match P.underlying t with
    | some (.int k) => ∃ z, cs = [.int k z] ∧ (Lit.int k z).wf = true
    | some .bool => ∃ b, cs = [.bool b]
    | some .string => ∃ s : ByteArray, cs = [.string s] ∧ s.size ≤ maxLen
    | some (.struct fs) => cs.length = P.cellsOf t ∧ ∀ f ∈ fs.toList, RowIs P w n f.type ((cs.drop f.offset).take (P.cellsOf f.type))
    | some (.slice e) => cs = [.slice none 0 0] ∨ ∃ (a : Addr) (len cap : Nat), cs = [.slice (some a) len cap] ∧ len ≤ cap ∧ cap ≤ maxLen ∧
        ∀ i, i < len → ∃ row, row.length = P.cellsOf e ∧ (∀ j v, row[j]? = some v → w.cell? (a.add (i * P.cellsOf e + j)) = some v) ∧ RowIs P w n e row
    | _ => True
section
variable {H : Type} {enc : TypeId × Value → H} {P : Program} {w : World}
theorem rowIs_int {n : Nat} {t : TypeId} {k : IntKind} {cs : List Value} (hu : P.underlying t = some (.int k)) (h : RowIs P w n t cs) : ∃ z, cs = [.int k z] ∧ (Lit.int k z).wf = true := by
  cases n with
  | zero => exact h.elim
  | succ n => simpa only [RowIs, hu] using h
theorem rowIs_struct {n : Nat} {t : TypeId} {fs : Array Field} {cs : List Value} (hu : P.underlying t = some (.struct fs)) (h : RowIs P w n t cs) :
    cs.length = P.cellsOf t ∧ ∃ m, ∀ f ∈ fs.toList, RowIs P w m f.type ((cs.drop f.offset).take (P.cellsOf f.type)) := by
  cases n with
  | zero => exact h.elim
  | succ n => simp only [RowIs, hu] at h; exact ⟨h.1, n, h.2⟩
theorem len2 {α : Type} {l : List α} (h : l.length = 2) : ∃ a b, l = [a, b] := by
  match l, h with
  | [a, b], _ => exact ⟨a, b, rfl⟩
theorem len6 {α : Type} {l : List α} (h : l.length = 6) : ∃ a b c d e f, l = [a, b, c, d, e, f] := by
  match l, h with
  | [a, b, c, d, e, f], _ => exact ⟨a, b, c, d, e, f, rfl⟩
theorem all2 {α : Type} {p : α → Prop} {a b : α} (h : ∀ x ∈ (#[a, b] : Array α).toList, p x) : p a ∧ p b := ⟨h a (by simp), h b (by simp)⟩
theorem all3 {α : Type} {p : α → Prop} {a b c : α} (h : ∀ x ∈ (#[a, b, c] : Array α).toList, p x) : p a ∧ p b ∧ p c := ⟨h a (by simp), h b (by simp), h c (by simp)⟩
theorem wf_bd {z : Int} (h : (Lit.int .i64 z).wf = true) : -9223372036854775808 ≤ z ∧ z ≤ 9223372036854775807 := by
  simp [Lit.wf, IntKind.min, IntKind.max, IntKind.signed, IntKind.bits] at h
  omega
end
end Go.Proofs.Ytklkhnhieihfoaa
namespace Go.Proofs.Ytklkhnhieihfoaa
open Go
def Bd (z : Int) : Prop := -9223372036854775808 ≤ z ∧ z ≤ 9223372036854775807
theorem cells_int : Try.prog.cellsOf 3 = 1 := by kernel_rfl
theorem cells_vec : Try.prog.cellsOf 23 = 2 := by kernel_rfl
theorem row_vec {w : World} {n : Nat} {cs : List Value} (h : RowIs Try.prog w n 23 cs) : ∃ x y : Int, cs = [.int .i64 x, .int .i64 y] ∧ Bd x ∧ Bd y := by
  obtain ⟨hl, m, hf⟩ := rowIs_struct Try.underlying23 h
  rw [cells_vec] at hl
  obtain ⟨c0, c1, rfl⟩ := len2 hl
  obtain ⟨h0, h1⟩ := all2 hf
  simp only [cells_int, List.drop_zero, List.drop_succ_cons, List.take_succ_cons, List.take_zero] at h0 h1
  obtain ⟨x, hx, wx⟩ := rowIs_int Try.underlying3 h0
  obtain ⟨y, hy, wy⟩ := rowIs_int Try.underlying3 h1
  simp only [List.cons.injEq, and_true] at hx hy
  exact ⟨x, y, by rw [hx, hy], wf_bd wx, wf_bd wy⟩
end Go.Proofs.Ytklkhnhieihfoaa
namespace Go.Proofs.Ytklkhnhieihfoaa
open Go
theorem cells_meet : Try.prog.cellsOf 52 = 6 := by kernel_rfl
theorem row_meet {w : World} {n : Nat} {cs : List Value} (h : RowIs Try.prog w n 52 cs) :
    ∃ px py vx vy hx hy : Int, cs = [.int .i64 px, .int .i64 py, .int .i64 vx, .int .i64 vy, .int .i64 hx, .int .i64 hy] ∧ Bd px ∧ Bd py ∧ Bd vx ∧ Bd vy ∧ Bd hx ∧ Bd hy := by
  obtain ⟨hl, m, hf⟩ := rowIs_struct Try.underlying52 h
  rw [cells_meet] at hl
  obtain ⟨c0, c1, c2, c3, c4, c5, rfl⟩ := len6 hl
  obtain ⟨h0, h1, h2⟩ := all3 hf
  simp only [cells_vec, List.drop_zero, List.drop_succ_cons, List.take_succ_cons, List.take_zero] at h0 h1 h2
  obtain ⟨x0, y0, e0, b0, d0⟩ := row_vec h0
  obtain ⟨x1, y1, e1, b1, d1⟩ := row_vec h1
  obtain ⟨x2, y2, e2, b2, d2⟩ := row_vec h2
  simp only [List.cons.injEq, and_true] at e0 e1 e2
  exact ⟨x0, y0, x1, y1, x2, y2, by rw [e0.1, e0.2, e1.1, e1.2, e2.1, e2.2], b0, d0, b1, d1, b2, d2⟩
end Go.Proofs.Ytklkhnhieihfoaa
