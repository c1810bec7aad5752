/- The contract of pinballref02.Value at short polynomials and n / 16, and of the law's own value. -/
import Derived.Test.YtkoejgpnlncgaaaPolR
import Derived.Test.YtkoejgpnlncgaaaPlP
import Derived.Test.YtkoejgpnlncgaaaBigUp
import Derived.Test.YtkoejgpnlncgaaaBigT
namespace Go.Proofs.Ytkoejgpnlncgaaa
open Go Go.RowKit
set_option linter.unusedVariables false
theorem small_canN {z : Int} (h : -9223372036854775808 ≤ z ∧ z ≤ 9223372036854775807) : (canN z.natAbs).length ≤ 2 := canN_len.2 (by simp [PB]; omega)
theorem hv_canN {zs : List Int} {n : Int} (hz : ∀ z ∈ zs, -16777216 ≤ z ∧ z ≤ 16777216) (n0 : 0 ≤ n) (n1 : n ≤ 16) (j : Nat) (hj : j ≤ 3) : (canN (hv zs n j).natAbs).length ≤ 2 := by
  have h := hv_bd hz n0 n1 j hj
  have h2 : (32 : Int) ^ j ≤ 32768 := by
    have : j = 0 ∨ j = 1 ∨ j = 2 ∨ j = 3 := by omega
    rcases this with rfl | rfl | rfl | rfl <;> decide
  exact small_canN (by omega)
theorem hv_step {zs : List Int} {n : Int} {k m : Nat} {z : Int} (hm : m = zs.length) (hk : k < m) (hz : zs[k]? = some z) : hv zs n (m - (k + 1)) * n + z * 2 ^ (4 * (m - 1 - k)) = hv zs n (m - k) := by
  have e : m - k = (m - (k + 1)) + 1 := by omega
  rw [e]
  show _ = hv zs n (m - (k + 1)) * n + zs.getD (zs.length - 1 - (m - (k + 1))) 0 * 2 ^ (4 * (m - (k + 1)))
  have e2 : zs.length - 1 - (m - (k + 1)) = k := by omega
  have e3 : m - 1 - k = m - (k + 1) := by omega
  rw [e2, e3, List.getD_eq_getElem?_getD, hz]
  rfl
set_option maxRecDepth 100000 in
set_option maxHeartbeats 4000000 in
theorem rvalue_any (pv nv : Value) (zs : List Int) (N : Int) (w : World) (hp : IsP w pv zs) (hN : IsC w nv N) (hlen : zs.length ≤ 3) (htr : trimP zs = zs) (hz : ∀ z ∈ zs, -16777216 ≤ z ∧ z ≤ 16777216) (n0 : 0 ≤ N) (n1 : N ≤ 16) :
    Calls Try.prog 66 #[pv, nv, .int .i64 4] w (ZOut (hv zs N zs.length) w) := by
  obtain ⟨nx, ny, rfl⟩ := isC_parts hN
  obtain ⟨A, c, vs, rfl, hc, hA, hZ⟩ := hp
  have htrim := fun w' (hb : Below w.heap.size w w') => rtrimp_any 2 A vs zs c w' (hA.below hb) (hZ.below hb) (by rw [hZ.1]; omega) (fun z h => small_canN (by have := hz z h; omega)) (by omega)
  rw [htr] at htrim
  have HTR := Lib.hid htrim
  have HN := Lib.hid hN
  have HZZ := Lib.hid hz
  have HLV := Lib.hid (And.intro hlen (And.intro n0 n1))
  obtain ⟨ln, hln⟩ : ∃ n, n = vs.length := ⟨_, rfl⟩
  rw [← hln]
  rw [← hln] at htrim HTR
  clear hN hA hZ htrim htr hz hc hlen hln n0 n1
  go_enter Try.func66, Try.ntmps66; (try simp only [List.append_eq, List.cons_append, List.nil_append])
  go_wp2_with fail
  -- own blocks: w.heap.size:2, w.heap.size + 1:2
  (go_at_call 87; refine (HTR.out _ (by ((with_reducible (repeat (first | exact bR _ _ | refine bS ?_ ?_ _ | refine bA ?_ ?_ _ | refine bD ?_ | refine bT ?_ (by assumption) ?_ | refine bO (by assumption) ?_ ?_))) <;> (first | omega | (simp; done) | (simp <;> omega))))).mono ?_; rintro e w1 ⟨hb_w1, v1, rfl, hv1⟩; have hz_w1 := hb_w1.size; (try simp at hz_w1); (with_reducible apply cel2 (b := w.heap.size) hb_w1); (focus ((try simp) <;> omega)); (focus omega); (focus (go_simp; try exact rfl)); (focus (go_simp; try exact rfl)); (focus (intro o; go_simp)); intro cc cc fz hl; (with_reducible apply cel2 (b := w.heap.size + 1) hb_w1); (focus ((try simp) <;> omega)); (focus omega); (focus (go_simp; try exact rfl)); (focus (go_simp; try exact rfl)); (focus (intro o; go_simp)); intro cc cc fz hl)
  obtain ⟨A1, c1, vs1, rfl, hc1, hA1, hZ1⟩ := hv1
  have HA1 := Lib.hid hA1
  have HZ1 := Lib.hid hZ1
  obtain ⟨n, hn⟩ : ∃ n, n = vs1.length := ⟨_, rfl⟩
  rw [← hn]
  have hnz : n = zs.length := hn.trans hZ1.1
  have hn3 : n ≤ 3 := by have := HLV.out; omega
  have HNN := Lib.hid (And.intro hn hnz)
  clear hc1 hA1 hZ1 hn hnz
  go_wp2_with fail
  -- own blocks besides: w1.heap.size:2
  (refine pin_wp (N := _) (Nat.le_refl _) (fun w2 hb_w2 hz_w2 => ?_); (try simp at hz_w2); (with_reducible apply cel2 (b := w.heap.size) hb_w2); (focus ((try simp) <;> omega)); (focus omega); (focus (go_simp; try exact rfl)); (focus (go_simp; try exact rfl)); (focus (intro o; go_simp)); intro cc cc fz hl; (with_reducible apply cel2 (b := w.heap.size + 1) hb_w2); (focus ((try simp) <;> omega)); (focus omega); (focus (go_simp; try exact rfl)); (focus (go_simp; try exact rfl)); (focus (intro o; go_simp)); intro cc cc fz hl; (with_reducible apply cel2 (b := w1.heap.size) hb_w2); (focus ((try simp) <;> omega)); (focus omega); (focus (go_simp; try exact rfl)); (focus (go_simp; try exact rfl)); (focus (intro o; go_simp)); intro cc cc fz hl)
  have HB02 := Lib.hid (show Below w.heap.size w w2 by ((with_reducible (repeat (first | exact bR _ _ | refine bS ?_ ?_ _ | refine bA ?_ ?_ _ | refine bD ?_ | refine bT ?_ (by assumption) ?_ | refine bO (by assumption) ?_ ?_))) <;> (first | omega | (simp; done) | (simp <;> omega))))
  have HB12 := Lib.hid (show Below w1.heap.size w1 w2 by ((with_reducible (repeat (first | exact bR _ _ | refine bS ?_ ?_ _ | refine bA ?_ ?_ _ | refine bD ?_ | refine bT ?_ (by assumption) ?_ | refine bO (by assumption) ?_ ?_))) <;> (first | omega | (simp; done) | (simp <;> omega))))
  clear hb_w1 hb_w2
  go_loopw [9] (fun vi wr => ∃ (k : Nat) (i : Int) (x y : Value), k ≤ n ∧ i = (k : Int) - 1 ∧ vi = .int .i64 i ∧ Below w1.heap.size w2 wr ∧ (∀ o, wr.frozen? ⟨w1.heap.size, o, none⟩ = false) ∧ wr.cell? ⟨w1.heap.size, 0, none⟩ = some x ∧ wr.cell? ⟨w1.heap.size, 1, none⟩ = some y ∧ Hid (IsC wr (.agg #[x, y]) (hv zs N (n - k)))) (fun vi _ => (intOf vi + 1).toNat)
  case atStart => exact ⟨n, (n : Int) - 1, _, _, Nat.le_refl _, rfl, rfl, Below.refl _ _, by assumption, by assumption, by assumption, Lib.hid (by rw [Nat.sub_self]; exact isC_zero _)⟩
  case round =>
    obtain ⟨k, i, x, y, hk, hi, rfl, hb_wr, fzx, cx, cy, HV⟩ := hrel
    have hz_wr := hb_wr.size
    have HBR := Lib.hid (show Below w.heap.size w wr from HB02.out.trans (hb_wr.mono (by omega)))
    have HB1R := Lib.hid (show Below w1.heap.size w1 wr from HB12.out.trans hb_wr)
    -- own blocks: w.heap.size:2, w.heap.size + 1:2
    (with_reducible apply cel2 (b := w.heap.size) hb_wr); (focus ((try simp) <;> omega)); (focus omega); (focus (go_simp; try exact rfl)); (focus (go_simp; try exact rfl)); (focus (intro o; go_simp)); intro cc cc fz hl; (with_reducible apply cel2 (b := w.heap.size + 1) hb_wr); (focus ((try simp) <;> omega)); (focus omega); (focus (go_simp; try exact rfl)); (focus (go_simp; try exact rfl)); (focus (intro o; go_simp)); intro cc cc fz hl
    have HB2R := Lib.hid hb_wr
    obtain ⟨V, hVk⟩ : ∃ V, V = hv zs N (n - k) := ⟨_, rfl⟩
    rw [← hVk] at HV
    have HVK := Lib.hid hVk
    obtain ⟨A0, c0, rfl, rfl, _, _⟩ := isC_shape HV.out
    clear hVk
    clear hb_wr
    rcases k with _ | k
    · obtain rfl : i = -1 := by omega
      have HE := Lib.hid (show V = hv zs N zs.length by rw [HVK.out, Nat.sub_zero, HNN.out.2])
      clear hi
      go_wp2_with fail
      refine bodyPost_ret (v := .agg #[.bool (decide (V < 0)), .slice A0 (canN V.natAbs).length c0]) (by simp only [results, Try.results66]; go_simp) rfl ⟨?_, ?_⟩
      · exact (HBR.out.setCell (by (try simp) <;> omega) _).setCell (by (try simp) <;> omega) _
      · exact ⟨_, rfl, by rw [← HE.out]; exact (HV.out.setCell (u := .bool false) (by assumption) (by intro x h; cases h) _).setCell (u := .slice none 0 0) (by go_simp) (by intro x h; cases h) _⟩
    · obtain rfl : i = (k : Int) := by omega
      obtain ⟨x', y', z, hp', hzj, hC⟩ := get_both HZ1.out (j := k) (by have := HNN.out.1; omega)
      obtain ⟨g, o, rfl, hg, a0, a1⟩ := (HA1.out.below HB1R.out) k _ hp'
      simp only at a0 a1
      have HC := Lib.hid (hC.below HB1R.out)
      have i1 : (0 : Int) ≤ (k : Int) := by omega
      have i2 : (k : Int) < (n : Int) := by omega
      have HVB := Lib.hid (And.intro (hv_canN HZZ.out HLV.out.2.1 HLV.out.2.2 (n - (k + 1)) (by omega)) (hv_canN HZZ.out HLV.out.2.1 HLV.out.2.2 (n - k) (by omega)))
      have hst := hv_step (zs := zs) (n := N) (k := k) (m := n) HNN.out.2 (by omega) hzj
      have hzb : -9223372036854775808 ≤ z ∧ z ≤ 9223372036854775807 := by have := HZZ.out z (List.mem_of_getElem? hzj); omega
      have hup := fun W (h : IsC W (.agg #[x', y']) z) => up_any 2 (.agg #[x', y']) z 0 (4 * (n - 1 - k)) W (h.zl (small_canN hzb)) (by omega) (by omega) (by omega)
      have e4 : 32 * ((0 : Nat) : Int) + ((4 * (n - 1 - k) : Nat) : Int) = 4 * ((n : Int) - 1 - (k : Int)) := by omega
      have e5 : z * (PB 0 * 2 ^ (4 * (n - 1 - k))) = z * 2 ^ (4 * (n - 1 - k)) := by rw [PB_zero, Int.one_mul]
      simp only [e4, e5] at hup
      have hV := HVK.out
      obtain ⟨V2, hV2⟩ : ∃ V, V = hv zs N (n - k) := ⟨_, rfl⟩
      obtain ⟨Z2, hZ2⟩ : ∃ Z, Z = z * 2 ^ (4 * (n - 1 - k)) := ⟨_, rfl⟩
      have HVV := HVB.out
      have HVx := HV.out
      rw [← hV, ← hV2] at HVV
      rw [← hZ2] at hup
      rw [← hV, ← hV2, ← hZ2] at hst
      have hbV : -(16777216 * 32768) ≤ V ∧ V ≤ 16777216 * 32768 := by
        have h := hv_bd HZZ.out HLV.out.2.1 HLV.out.2.2 (n - (k + 1)) (by omega)
        have h2 : (32 : Int) ^ (n - (k + 1)) ≤ 32768 := by
          have : n - (k + 1) = 0 ∨ n - (k + 1) = 1 ∨ n - (k + 1) = 2 ∨ n - (k + 1) = 3 := by omega
          rcases this with e | e | e | e <;> rw [e] <;> decide
        rw [← hV] at h
        omega
      have hbV2 : -(16777216 * 32768) ≤ V2 ∧ V2 ≤ 16777216 * 32768 := by
        have h := hv_bd HZZ.out HLV.out.2.1 HLV.out.2.2 (n - k) (by omega)
        have h2 : (32 : Int) ^ (n - k) ≤ 32768 := by
          have : n - k = 0 ∨ n - k = 1 ∨ n - k = 2 ∨ n - k = 3 := by omega
          rcases this with e | e | e | e <;> rw [e] <;> decide
        rw [← hV2] at h
        omega
      have hbVN : -(16777216 * 32768 * 16) ≤ V * N ∧ V * N ≤ 16777216 * 32768 * 16 := mul_bd V N (16777216 * 32768) 16 hbV.1 hbV.2 (by have := HLV.out; omega) HLV.out.2.2
      have HVx := Lib.hid HVx
      have HUP := Lib.hid hup
      have hvn := small_canN (z := V * N) (by omega)
      have hz2 := small_canN (z := Z2) (by omega)
      obtain ⟨VN, hVN⟩ : ∃ X, X = V * N := ⟨_, rfl⟩
      have htm := fun W u v (h1 : IsC W u V) (h2 : IsC W v N) => times_any 2 u v V N W (h1.zl HVV.1) (h2.zl (small_canN (by have := HLV.out; omega))) (by omega)
      rw [← hVN] at htm hvn hst
      have HTM := Lib.hid htm
      have hpl := fun W u v (h1 : IsC W u VN) (h2 : IsC W v Z2) => plus_any 2 u v VN Z2 W (h1.zl hvn) (h2.zl hz2) (by omega)
      rw [hst] at hpl
      have HPL := Lib.hid hpl
      have HV2 := Lib.hid hV2
      clear hp' hzj hC hst hzb hup e4 e5 hV hV2 hZ2 HVV hbV hbV2 hbVN hvn hz2 hVN htm hpl HV HVB HZ1 HA1 hi
      go_wp2_with fail
      -- own blocks: w.heap.size:2, w.heap.size + 1:2, w1.heap.size:2
      (refine pin_wp (N := _) (Nat.le_refl _) (fun w3 hb_w3 hz_w3 => ?_); (try simp at hz_w3); (with_reducible apply cel2 (b := w.heap.size) hb_w3); (focus ((try simp) <;> omega)); (focus omega); (focus (go_simp; try exact rfl)); (focus (go_simp; try exact rfl)); (focus (intro o; go_simp)); intro cc cc fz hl; (with_reducible apply cel2 (b := w.heap.size + 1) hb_w3); (focus ((try simp) <;> omega)); (focus omega); (focus (go_simp; try exact rfl)); (focus (go_simp; try exact rfl)); (focus (intro o; go_simp)); intro cc cc fz hl; (with_reducible apply cel2 (b := w1.heap.size) hb_w3); (focus ((try simp) <;> omega)); (focus omega); (focus (go_simp; try exact rfl)); (focus (go_simp; try exact rfl)); (focus (intro o; go_simp)); intro cc cc fz hl); refine wp_region_float w3.heap.size 16 (Nat.le_refl _) (fun _ => True) trivial Cl.tt (by kernel_rfl) (by simp) ?_
      have HBR3 := Lib.hid (show Below wr.heap.size wr w3 by ((with_reducible (repeat (first | exact bR _ _ | refine bS ?_ ?_ _ | refine bA ?_ ?_ _ | refine bD ?_ | refine bT ?_ (by assumption) ?_ | refine bO (by assumption) ?_ ?_))) <;> (first | omega | (simp; done) | (simp <;> omega))))
      clear hb_w3
      have b0 := (HBR3.out.cell (p := ⟨g, o + k * 2, none⟩) hg).trans a0
      have b1 := (HBR3.out.cell (p := ⟨g, o + k * 2 + 1, none⟩) hg).trans a1
      have hg3 : g < w3.heap.size := by omega
      refine wpI_start [0, 1] ?_; (iterate 2 (first | (refine wpI_off rfl (by kernel_rfl) rfl (fun K hK => ?_); go_simp; refine hK _ ?_; clear hK K) | ((first | apply wpI_step rfl (by kernel_rfl) rfl | apply wpI_on rfl (by kernel_rfl) rfl); (focus (intro W' hS; have hcS := hS.cells.1; have hfS := hS.cells.2; go_simp; (first | done | exact rfl | exact ⟨rfl, Below.refl _ _⟩ | (go_simp; first | done | exact rfl | exact ⟨rfl, Below.refl _ _⟩)))); intro K hK; go_simp; (try go_bits); refine hK _ ?_; clear hK K))); refine wpI_nil ?_
      refine wpI_start [3, 4, 5, 6, 7, 8, 9, 10, 11, 12, 13] ?_; (iterate 11 (first | (refine wpI_off rfl (by kernel_rfl) rfl (fun K hK => ?_); go_simp; refine hK _ ?_; clear hK K) | ((first | apply wpI_step rfl (by kernel_rfl) rfl | apply wpI_on rfl (by kernel_rfl) rfl); (focus (intro W' hS; have hcS := hS.cells.1; have hfS := hS.cells.2; go_simp; (first | done | exact rfl | exact ⟨rfl, Below.refl _ _⟩ | (go_simp; first | done | exact rfl | exact ⟨rfl, Below.refl _ _⟩)))); intro K hK; go_simp; (try go_bits); refine hK _ ?_; clear hK K))); refine wpI_nil ?_
      apply wpF_call (i := 2) rfl (by kernel_rfl) (by kernel_rfl); intro W hF hS; have hcS := hS.1.cells.1; have hfS := hS.1.cells.2; go_simp; (go_at_call 76; refine (HTM.out _ _ _ (HVx.out.below (HBR3.out.trans (hS.1.2.mono (by omega)))) (HN.out.below (HBR.out.trans ((HBR3.out.trans (hS.1.2.mono (by omega))).mono (by have := HBR.out.size; omega))))).mono ?_; rintro e w4 ⟨hb_w4, v4, rfl, hv4⟩; refine XPost.mk _ (fun W => IsC W v4 VN) hb_w4 (hv4) (IsC.cl _ _) ?_); clear hb_w4 hcS hfS hS hF
      intro K hK; go_simp; (try go_bits); refine hK _ ?_; clear hK K
      clear hv4
      apply wpF_call (i := 14) rfl (by kernel_rfl) (by kernel_rfl); intro W hF hS; have hcS := hS.1.cells.1; have hfS := hS.1.cells.2; go_simp; (go_at_call 69; refine (HUP.out _ (HC.out.below (HBR3.out.trans (hS.1.2.mono (by omega))))).mono ?_; rintro e w5 ⟨hb_w5, v5, rfl, hv5⟩; refine XPost.mk _ (fun W => IsC W v5 Z2) hb_w5 (hv5) (IsC.cl _ _) ?_); clear hb_w5 hcS hfS hS hF
      intro K hK; go_simp; (try go_bits); refine hK _ ?_; clear hK K
      clear hv5
      apply wpF_call (i := 15) rfl (by kernel_rfl) (by kernel_rfl); intro W hF hS; have hcS := hS.1.cells.1; have hfS := hS.1.cells.2; go_simp; (go_at_call 88; refine (HPL.out _ _ _ hF.1 hF.2).mono ?_; rintro e w6 ⟨hb_w6, v6, rfl, A6, c6, rfl, hc6, hA6⟩; refine XPost.mk _ (fun W => LAt W A6 (canN V2.natAbs)) hb_w6 (hA6) (LAt.cl _ _) ?_); clear hb_w6 hcS hfS hS hF
      intro K hK; go_simp; (try go_bits); refine hK _ ?_; clear hK K
      have HC6 := Lib.hid hc6
      clear hA6 hc6
      refine wpF_done (by kernel_rfl) ?_
      intro w7 hF_w7 hSG
      have hz_w7 := hSG.1.1
      have hb_w7 := hSG.1.2
      clear hSG
      (with_reducible apply cel2 (b := w.heap.size) hb_w7); (focus ((try simp) <;> omega)); (focus omega); (focus (go_simp; try exact rfl)); (focus (go_simp; try exact rfl)); (focus (intro o; go_simp)); intro cc cc fz hl; (with_reducible apply cel2 (b := w.heap.size + 1) hb_w7); (focus ((try simp) <;> omega)); (focus omega); (focus (go_simp; try exact rfl)); (focus (go_simp; try exact rfl)); (focus (intro o; go_simp)); intro cc cc fz hl; (with_reducible apply cel2 (b := w1.heap.size) hb_w7); (focus ((try simp) <;> omega)); (focus omega); (focus (go_simp; try exact rfl)); (focus (go_simp; try exact rfl)); (focus (intro o; go_simp)); intro cc cc fz hl
      (try simp only [List.drop_succ_cons, List.drop_zero])
      have HL7 := Lib.hid (show IsC w7 (.agg #[.bool (decide (V2 < 0)), .slice A6 (canN V2.natAbs).length c6]) V2 from ⟨A6, c6, rfl, HC6.out, hF_w7.2⟩)
      have HB27 := Lib.hid ((HBR3.out.mono (by omega)).trans (hb_w7.mono (by omega)) : Below w1.heap.size wr w7)
      clear hb_w7 hF_w7
      go_wp2_with fail
      go_roundw
      case rel => exact ⟨k, (k : Int) - 1, .bool (decide (V2 < 0)), .slice A6 (canN V2.natAbs).length c6, by omega, rfl, by go_num, ((HB2R.out.trans HB27.out).setCell (Nat.le_refl _) _).setCell (Nat.le_refl _) _, by intro o; go_simp, by go_simp, by go_simp, Lib.hid (by rw [← HV2.out]; exact (HL7.out.setCell (u := .bool (decide (V < 0))) (by assumption) (by intro x h; cases h) _).setCell (u := .slice A0 (canN V.natAbs).length c0) (by go_simp) (by intro x h; cases h) _)⟩
      case measure => simp [intOf] <;> omega
end Go.Proofs.Ytkoejgpnlncgaaa
