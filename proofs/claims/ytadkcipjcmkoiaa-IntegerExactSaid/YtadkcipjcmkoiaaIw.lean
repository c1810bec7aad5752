/- The sanity check of the laws of layer 1 holds. -/
import Derived.Test.YtadkcipjcmkoiaaIe
import Derived.Test.YtadkcipjcmkoiaaDrawOn
namespace Go.Proofs.Ytadkcipjcmkoiaa
open Go Go.RowKit
set_option linter.unusedVariables false
theorem len_word {z : Int} (h : z.natAbs < 18446744073709551616) : (canN z.natAbs).length ≤ 2 := canN_word h
theorem lg_word {z : Int} (h : z.natAbs < 18446744073709551616) : lgB z = false := by
  unfold lgB
  rw [decide_eq_false_iff_not]
  have := len_word h
  omega
theorem len_big : (canN (18446744073709551616 : Int).natAbs).length ≤ 3 := canN_len.2 (by rw [show PB 3 = 79228162514264337593543950336 from by decide]; decide)
theorem lg_big : lgB 18446744073709551616 = false := by
  unfold lgB
  rw [decide_eq_false_iff_not]
  have := len_big
  omega
theorem aw_quo : quoR (-7) 2 = (-3, -1, 0) := by
  unfold quoR
  rw [lg_word (by decide), lg_word (by decide)]
  decide
theorem aw_shift : shiftR (-5) (-1) = (-3, 0) := by
  unfold shiftR
  rw [lg_word (by decide)]
  decide
def bigS : ByteArray := ⟨#[49, 56, 52, 52, 54, 55, 52, 52, 48, 55, 51, 55, 48, 57, 53, 53, 49, 54, 49, 54]⟩
theorem aw_parse : parseR bigS.data.toList = (18446744073709551616, 0) := by
  have h1 : okS (digS bigS.data.toList) = true := by decide
  have h2 : negS bigS.data.toList = false := by decide
  have h3 : valI (digS bigS.data.toList) = 18446744073709551616 := by decide
  unfold parseR
  rw [h1, h2, h3, if_neg (by decide), if_neg (by decide), if_neg (by decide)]
  unfold sizedR
  rw [lg_big]
  rfl
theorem aw_digits : digR 18446744073709551616 = [54, 49, 54, 49, 53, 53, 57, 48, 55, 51, 55, 48, 52, 52, 55, 54, 52, 52, 56, 49] := by
  simp [digR_pos, digR_zero]
theorem aw_text : textE 18446744073709551616 = (bigS, 0) := by
  unfold textE
  rw [lg_big, if_neg (by decide)]
  have h : textR 18446744073709551616 = [49, 56, 52, 52, 54, 55, 52, 52, 48, 55, 51, 55, 48, 57, 53, 53, 49, 54, 49, 54] := by
    unfold textR
    rw [if_neg (by decide), if_neg (by decide), show (18446744073709551616 : Int).natAbs = 18446744073709551616 from rfl, aw_digits]
    rfl
  rw [h]
  rfl
theorem aw_gcd : (gcdR 12 18).2 = 0 := by
  unfold gcdR
  rw [lg_word (by decide), lg_word (by decide)]
  rfl
theorem aw_bits1 : bitN (255 : Int).natAbs = 8 := bitN_of (k := 7) (by decide) (by decide)
theorem aw_bits2 : bitN (18446744073709551616 : Int).natAbs = 65 := bitN_of (k := 64) (by decide) (by decide)
theorem IsC.word {w : World} {v : Value} {z : Int} (h : IsC w v z) (hz : z.natAbs < 18446744073709551616) : IsZ w v 10 z := h.zl (Nat.le_trans (len_word hz) (by decide))
set_option maxRecDepth 100000 in
set_option maxHeartbeats 8000000 in
theorem awake01_any (w : World) : Calls Try.prog 10 #[] w fun e w' => e = .returned (.bool true) ∧ Below w.heap.size w w' := by
  obtain ⟨zq, hzq⟩ : ∃ z : Int, z = -3 := ⟨_, rfl⟩
  obtain ⟨zr, hzr⟩ : ∃ z : Int, z = -1 := ⟨_, rfl⟩
  obtain ⟨zb, hzb⟩ : ∃ z : Int, z = 18446744073709551616 := ⟨_, rfl⟩
  obtain ⟨zg, hzg⟩ : ∃ z : Int, z = (gcdR 12 18).1 := ⟨_, rfl⟩
  have hquo := fun u v w h1 h2 => iquo_any 10 u v (-7) 2 w h1 h2 (by omega)
  rw [aw_quo] at hquo
  simp only at hquo
  rw [← hzq, ← hzr] at hquo
  have hsh := fun u w h1 => ishift_any 10 u (-5) (-1) w h1 (by omega) (by omega) (by omega)
  rw [aw_shift] at hsh
  simp only at hsh
  rw [← hzq] at hsh
  have hpa := fun w => iparse_any bigS w (by decide)
  rw [aw_parse] at hpa
  simp only at hpa
  rw [← hzb] at hpa
  have hte := fun u w h1 => itext_any 10 u zb w h1 (by omega)
  rw [hzb, aw_text, ← hzb] at hte
  simp only at hte
  have hgc := fun u v w h1 h2 => igcd_any 10 u v 12 18 w h1 h2 (by omega)
  rw [aw_gcd, ← hzg] at hgc
  have hsg := fun u w h1 => isign_any 10 u zq w h1 (by omega)
  rw [show sgn zq = -1 by rw [hzq]; rfl] at hsg
  have hc1 := fun u v w h1 h2 => icmp_any 10 u v zr (-1) w h1 h2 (by omega)
  rw [show cmpI zr (-1) = 0 by rw [hzr]; rfl] at hc1
  have hc2 := fun u v w h1 h2 => icmp_any 10 u v zq (-3) w h1 h2 (by omega)
  rw [show cmpI zq (-3) = 0 by rw [hzq]; rfl] at hc2
  have hb1 := fun u w h1 => ibits_any 10 u 255 w h1 (by omega)
  rw [aw_bits1] at hb1
  have hb2 := fun u w h1 => ibits_any 10 u zb w h1 (by omega)
  rw [show bitN zb.natAbs = 65 by rw [hzb]; exact aw_bits2] at hb2
  have lq : (canN zq.natAbs).length ≤ 10 := Nat.le_trans (len_word (by rw [hzq]; decide)) (by decide)
  have lr : (canN zr.natAbs).length ≤ 10 := Nat.le_trans (len_word (by rw [hzr]; decide)) (by decide)
  have lb : (canN zb.natAbs).length ≤ 10 := Nat.le_trans (by rw [hzb]; exact len_big) (by decide)
  have HQU := Lib.hid hquo
  have HSH := Lib.hid hsh
  have HPA := Lib.hid hpa
  have HTE := Lib.hid hte
  have HGC := Lib.hid hgc
  have HSG := Lib.hid hsg
  have HC1 := Lib.hid hc1
  have HC2 := Lib.hid hc2
  have HB1 := Lib.hid hb1
  have HB2 := Lib.hid hb2
  clear hquo hsh hpa hte hgc hsg hc1 hc2 hb1 hb2 hzq hzr hzb hzg
  unfold bigS at HPA HTE
  go_enter Try.func10, Try.ntmps10; (try simp only [List.append_eq, List.cons_append, List.nil_append])
  go_wp2_with fail
  -- own blocks: 
  (go_at_call 20; refine (iof_any (-7) _ (by omega) (by omega)).mono ?_; rintro e w1 ⟨hb_w1, v1, rfl, hv1⟩; have hz_w1 := hb_w1.size; (try simp at hz_w1); skip)
  have H1 := Lib.hid hv1
  clear hv1
  go_wp2_with fail
  (go_at_call 20; refine (iof_any 2 _ (by omega) (by omega)).mono ?_; rintro e w2 ⟨hb_w2, v2, rfl, hv2⟩; have hz_w2 := hb_w2.size; (try simp at hz_w2); skip)
  have H2 := Lib.hid hv2
  have H12 := Lib.hid (H1.out.below hb_w2)
  clear hv2
  go_wp2_with fail
  (go_at_call 22; refine (HQU.out _ _ _ (H12.out.word (by decide)) (H2.out.word (by decide))).mono ?_; rintro e w3 ⟨hb_w3, A1, c1, A2, c2, rfl, hc1, hc2, hA1, hA2⟩; have hz_w3 := hb_w3.size; (try simp at hz_w3); skip)
  have HQ := Lib.hid (show IsC w3 (.agg #[.bool (decide (zq < 0)), .slice A1 (canN zq.natAbs).length c1]) zq from ⟨A1, c1, rfl, hc1, hA1⟩)
  have HR := Lib.hid (show IsC w3 (.agg #[.bool (decide (zr < 0)), .slice A2 (canN zr.natAbs).length c2]) zr from ⟨A2, c2, rfl, hc2, hA2⟩)
  have HW3 := Lib.hid (show Below w.heap.size w w3 by ((with_reducible (repeat (first | exact bR _ _ | refine bS ?_ ?_ _ | refine bA ?_ ?_ _ | refine bD ?_ | refine bT ?_ (by assumption) ?_ | refine bO (by assumption) ?_ ?_))) <;> (first | omega | (simp; done) | (simp <;> omega))))
  have hz3 : w.heap.size ≤ w3.heap.size := by omega
  clear hc1 hc2 hA1 hA2 hb_w1 hb_w2 hb_w3 hz_w1 hz_w2 hz_w3
  go_wp2_with fail
  -- own blocks: w3.heap.size:2, w3.heap.size + 1:2
  (go_at_call 20; refine (iof_any (-5) _ (by omega) (by omega)).mono ?_; rintro e w4 ⟨hb_w4, v4, rfl, hv4⟩; have hz_w4 := hb_w4.size; (try simp at hz_w4); (with_reducible apply cel2 (b := w3.heap.size) hb_w4); (focus ((try simp) <;> omega)); (focus omega); (focus (go_simp; try exact rfl)); (focus (go_simp; try exact rfl)); (focus (intro o; go_simp)); intro cc cc fz hl; (with_reducible apply cel2 (b := w3.heap.size + 1) hb_w4); (focus ((try simp) <;> omega)); (focus omega); (focus (go_simp; try exact rfl)); (focus (go_simp; try exact rfl)); (focus (intro o; go_simp)); intro cc cc fz hl)
  have HW34 := Lib.hid (show Below w3.heap.size w3 w4 by ((with_reducible (repeat (first | exact bR _ _ | refine bS ?_ ?_ _ | refine bA ?_ ?_ _ | refine bD ?_ | refine bT ?_ (by assumption) ?_ | refine bO (by assumption) ?_ ?_))) <;> (first | omega | (simp; done) | (simp <;> omega))))
  have H4 := Lib.hid hv4
  clear hv4
  go_wp2_with fail
  (go_at_call 18; refine (HSH.out _ _ (H4.out.word (by decide))).mono ?_; rintro e w5 ⟨hb_w5, A3, c3, rfl, hc3, hA3⟩; have hz_w5 := hb_w5.size; (try simp at hz_w5); (with_reducible apply cel2 (b := w3.heap.size) hb_w5); (focus ((try simp) <;> omega)); (focus omega); (focus (go_simp; try exact rfl)); (focus (go_simp; try exact rfl)); (focus (intro o; go_simp)); intro cc cc fz hl; (with_reducible apply cel2 (b := w3.heap.size + 1) hb_w5); (focus ((try simp) <;> omega)); (focus omega); (focus (go_simp; try exact rfl)); (focus (go_simp; try exact rfl)); (focus (intro o; go_simp)); intro cc cc fz hl)
  have HS := Lib.hid (show IsC w5 (.agg #[.bool (decide (zq < 0)), .slice A3 (canN zq.natAbs).length c3]) zq from ⟨A3, c3, rfl, hc3, hA3⟩)
  have HW35 := Lib.hid (HW34.out.trans (hb_w5.mono (by omega)))
  clear hc3 hA3 hb_w4 hb_w5
  go_wp2_with fail
  -- own blocks besides: w5.heap.size:2
  (go_at_call 12; refine (HPA.out _).mono ?_; rintro e w6 ⟨hb_w6, A4, c4, rfl, hc4, hA4⟩; have hz_w6 := hb_w6.size; (try simp at hz_w6); (with_reducible apply cel2 (b := w3.heap.size) hb_w6); (focus ((try simp) <;> omega)); (focus omega); (focus (go_simp; try exact rfl)); (focus (go_simp; try exact rfl)); (focus (intro o; go_simp)); intro cc cc fz hl; (with_reducible apply cel2 (b := w3.heap.size + 1) hb_w6); (focus ((try simp) <;> omega)); (focus omega); (focus (go_simp; try exact rfl)); (focus (go_simp; try exact rfl)); (focus (intro o; go_simp)); intro cc cc fz hl; (with_reducible apply cel2 (b := w5.heap.size) hb_w6); (focus ((try simp) <;> omega)); (focus omega); (focus (go_simp; try exact rfl)); (focus (go_simp; try exact rfl)); (focus (intro o; go_simp)); intro cc cc fz hl)
  have HG := Lib.hid (show IsC w6 (.agg #[.bool (decide (zb < 0)), .slice A4 (canN zb.natAbs).length c4]) zb from ⟨A4, c4, rfl, hc4, hA4⟩)
  have HW56 := Lib.hid (show Below w5.heap.size w5 w6 by ((with_reducible (repeat (first | exact bR _ _ | refine bS ?_ ?_ _ | refine bA ?_ ?_ _ | refine bD ?_ | refine bT ?_ (by assumption) ?_ | refine bO (by assumption) ?_ ?_))) <;> (first | omega | (simp; done) | (simp <;> omega))))
  clear hc4 hA4 hb_w6
  go_wp2_with fail
  -- own blocks besides: w6.heap.size:2
  (go_at_call 14; refine (HTE.out _ _ ((HG.out.below ((Below.refl _ _).alloc (Nat.le_refl _) _)).zl lb)).mono ?_; rintro e w7 ⟨rfl, hb_w7⟩; have hz_w7 := hb_w7.size; (try simp at hz_w7); (with_reducible apply cel2 (b := w3.heap.size) hb_w7); (focus ((try simp) <;> omega)); (focus omega); (focus (go_simp; try exact rfl)); (focus (go_simp; try exact rfl)); (focus (intro o; go_simp)); intro cc cc fz hl; (with_reducible apply cel2 (b := w3.heap.size + 1) hb_w7); (focus ((try simp) <;> omega)); (focus omega); (focus (go_simp; try exact rfl)); (focus (go_simp; try exact rfl)); (focus (intro o; go_simp)); intro cc cc fz hl; (with_reducible apply cel2 (b := w5.heap.size) hb_w7); (focus ((try simp) <;> omega)); (focus omega); (focus (go_simp; try exact rfl)); (focus (go_simp; try exact rfl)); (focus (intro o; go_simp)); intro cc cc fz hl; (with_reducible apply cel2 (b := w6.heap.size) hb_w7); (focus ((try simp) <;> omega)); (focus omega); (focus (go_simp; try exact rfl)); (focus (go_simp; try exact rfl)); (focus (intro o; go_simp)); intro cc cc fz hl)
  have HW67 := Lib.hid (show Below w6.heap.size w6 w7 by ((with_reducible (repeat (first | exact bR _ _ | refine bS ?_ ?_ _ | refine bA ?_ ?_ _ | refine bD ?_ | refine bT ?_ (by assumption) ?_ | refine bO (by assumption) ?_ ?_))) <;> (first | omega | (simp; done) | (simp <;> omega))))
  clear hb_w7
  go_wp2_with fail
  (go_at_call 20; refine (iof_any 12 _ (by omega) (by omega)).mono ?_; rintro e w8 ⟨hb_w8, v8, rfl, hv8⟩; have hz_w8 := hb_w8.size; (try simp at hz_w8); (with_reducible apply cel2 (b := w3.heap.size) hb_w8); (focus ((try simp) <;> omega)); (focus omega); (focus (go_simp; try exact rfl)); (focus (go_simp; try exact rfl)); (focus (intro o; go_simp)); intro cc cc fz hl; (with_reducible apply cel2 (b := w3.heap.size + 1) hb_w8); (focus ((try simp) <;> omega)); (focus omega); (focus (go_simp; try exact rfl)); (focus (go_simp; try exact rfl)); (focus (intro o; go_simp)); intro cc cc fz hl; (with_reducible apply cel2 (b := w5.heap.size) hb_w8); (focus ((try simp) <;> omega)); (focus omega); (focus (go_simp; try exact rfl)); (focus (go_simp; try exact rfl)); (focus (intro o; go_simp)); intro cc cc fz hl; (with_reducible apply cel2 (b := w6.heap.size) hb_w8); (focus ((try simp) <;> omega)); (focus omega); (focus (go_simp; try exact rfl)); (focus (go_simp; try exact rfl)); (focus (intro o; go_simp)); intro cc cc fz hl)
  have H8 := Lib.hid hv8
  clear hv8
  go_wp2_with fail
  (go_at_call 20; refine (iof_any 18 _ (by omega) (by omega)).mono ?_; rintro e w9 ⟨hb_w9, v9, rfl, hv9⟩; have hz_w9 := hb_w9.size; (try simp at hz_w9); (with_reducible apply cel2 (b := w3.heap.size) hb_w9); (focus ((try simp) <;> omega)); (focus omega); (focus (go_simp; try exact rfl)); (focus (go_simp; try exact rfl)); (focus (intro o; go_simp)); intro cc cc fz hl; (with_reducible apply cel2 (b := w3.heap.size + 1) hb_w9); (focus ((try simp) <;> omega)); (focus omega); (focus (go_simp; try exact rfl)); (focus (go_simp; try exact rfl)); (focus (intro o; go_simp)); intro cc cc fz hl; (with_reducible apply cel2 (b := w5.heap.size) hb_w9); (focus ((try simp) <;> omega)); (focus omega); (focus (go_simp; try exact rfl)); (focus (go_simp; try exact rfl)); (focus (intro o; go_simp)); intro cc cc fz hl; (with_reducible apply cel2 (b := w6.heap.size) hb_w9); (focus ((try simp) <;> omega)); (focus omega); (focus (go_simp; try exact rfl)); (focus (go_simp; try exact rfl)); (focus (intro o; go_simp)); intro cc cc fz hl)
  have H9 := Lib.hid hv9
  have H89 := Lib.hid (H8.out.below hb_w9)
  clear hv9
  go_wp2_with fail
  (go_at_call 26; refine (HGC.out _ _ _ (H89.out.word (by decide)) (H9.out.word (by decide))).mono ?_; rintro e w10 ⟨hb_w10, A5, c5, rfl, hc5, hA5⟩; have hz_w10 := hb_w10.size; (try simp at hz_w10); (with_reducible apply cel2 (b := w3.heap.size) hb_w10); (focus ((try simp) <;> omega)); (focus omega); (focus (go_simp; try exact rfl)); (focus (go_simp; try exact rfl)); (focus (intro o; go_simp)); intro cc cc fz hl; (with_reducible apply cel2 (b := w3.heap.size + 1) hb_w10); (focus ((try simp) <;> omega)); (focus omega); (focus (go_simp; try exact rfl)); (focus (go_simp; try exact rfl)); (focus (intro o; go_simp)); intro cc cc fz hl; (with_reducible apply cel2 (b := w5.heap.size) hb_w10); (focus ((try simp) <;> omega)); (focus omega); (focus (go_simp; try exact rfl)); (focus (go_simp; try exact rfl)); (focus (intro o; go_simp)); intro cc cc fz hl; (with_reducible apply cel2 (b := w6.heap.size) hb_w10); (focus ((try simp) <;> omega)); (focus omega); (focus (go_simp; try exact rfl)); (focus (go_simp; try exact rfl)); (focus (intro o; go_simp)); intro cc cc fz hl)
  have HW710 := Lib.hid (show Below w7.heap.size w7 w10 by ((with_reducible (repeat (first | exact bR _ _ | refine bS ?_ ?_ _ | refine bA ?_ ?_ _ | refine bD ?_ | refine bT ?_ (by assumption) ?_ | refine bO (by assumption) ?_ ?_))) <;> (first | omega | (simp; done) | (simp <;> omega))))
  clear hc5 hA5 hb_w8 hb_w9 hb_w10
  go_wp2_with fail
  -- own blocks besides: w10.heap.size:2
  (refine pin_wp (N := _) (Nat.le_refl _) (fun w11 hb_w11 hz_w11 => ?_); (try simp at hz_w11); (with_reducible apply cel2 (b := w3.heap.size) hb_w11); (focus ((try simp) <;> omega)); (focus omega); (focus (go_simp; try exact rfl)); (focus (go_simp; try exact rfl)); (focus (intro o; go_simp)); intro cc cc fz hl; (with_reducible apply cel2 (b := w3.heap.size + 1) hb_w11); (focus ((try simp) <;> omega)); (focus omega); (focus (go_simp; try exact rfl)); (focus (go_simp; try exact rfl)); (focus (intro o; go_simp)); intro cc cc fz hl; (with_reducible apply cel2 (b := w5.heap.size) hb_w11); (focus ((try simp) <;> omega)); (focus omega); (focus (go_simp; try exact rfl)); (focus (go_simp; try exact rfl)); (focus (intro o; go_simp)); intro cc cc fz hl; (with_reducible apply cel2 (b := w6.heap.size) hb_w11); (focus ((try simp) <;> omega)); (focus omega); (focus (go_simp; try exact rfl)); (focus (go_simp; try exact rfl)); (focus (intro o; go_simp)); intro cc cc fz hl; (with_reducible apply cel2 (b := w10.heap.size) hb_w11); (focus ((try simp) <;> omega)); (focus omega); (focus (go_simp; try exact rfl)); (focus (go_simp; try exact rfl)); (focus (intro o; go_simp)); intro cc cc fz hl); refine wp_region_float w11.heap.size 50 (Nat.le_refl _) (fun _ => True) trivial Cl.tt (by kernel_rfl) (by simp) ?_
  have HW1011 := Lib.hid (show Below w10.heap.size w10 w11 by ((with_reducible (repeat (first | exact bR _ _ | refine bS ?_ ?_ _ | refine bA ?_ ?_ _ | refine bD ?_ | refine bT ?_ (by assumption) ?_ | refine bO (by assumption) ?_ ?_))) <;> (first | omega | (simp; done) | (simp <;> omega))))
  have HW711 := Lib.hid (HW710.out.trans (HW1011.out.mono (by omega)))
  have HW611 := Lib.hid (HW67.out.trans (HW711.out.mono (by omega)))
  have HW511 := Lib.hid (HW56.out.trans (HW611.out.mono (by omega)))
  have HW311 := Lib.hid (HW35.out.trans (HW511.out.mono (by omega)))
  have HQ := Lib.hid (HQ.out.below HW311.out)
  have HR := Lib.hid (HR.out.below HW311.out)
  have HS := Lib.hid (HS.out.below HW511.out)
  have HG := Lib.hid (HG.out.below HW611.out)
  clear hb_w11
  refine wpI_start [0, 1, 2, 3, 4, 5, 6, 7, 8, 9, 10, 11, 12, 13, 14, 15, 16, 17, 18, 19, 20] ?_; (iterate 21 (first | (refine wpI_off rfl (by kernel_rfl) rfl (fun K hK => ?_); go_simp; refine hK _ ?_; clear hK K) | ((first | apply wpI_step rfl (by kernel_rfl) rfl | apply wpI_on rfl (by kernel_rfl) rfl); (focus (intro W' hS; have hcS := hS.cells.1; have hfS := hS.cells.2; go_simp; (first | done | exact rfl | exact ⟨rfl, Below.refl _ _⟩ | (go_at_call 21; exact (HSG.out _ _ ((HQ.out.below hS.2).zl lq)).mono (fun _ _ h => ⟨h.1, h.2⟩)) | (go_simp; first | done | exact rfl | exact ⟨rfl, Below.refl _ _⟩)))); intro K hK; go_simp; (try go_bits); refine hK _ ?_; clear hK K))); refine wpI_nil ?_
  refine wpI_start [21, 22, 23, 24] ?_; (iterate 4 (first | (refine wpI_off rfl (by kernel_rfl) rfl (fun K hK => ?_); go_simp; refine hK _ ?_; clear hK K) | ((first | apply wpI_step rfl (by kernel_rfl) rfl | apply wpI_on rfl (by kernel_rfl) rfl); (focus (intro W' hS; have hcS := hS.cells.1; have hfS := hS.cells.2; go_simp; (first | done | exact rfl | exact ⟨rfl, Below.refl _ _⟩ | (go_simp; first | done | exact rfl | exact ⟨rfl, Below.refl _ _⟩)))); intro K hK; go_simp; (try go_bits); refine hK _ ?_; clear hK K))); refine wpI_nil ?_
  apply wpF_call_on (i := 25) rfl (by kernel_rfl) (by kernel_rfl) rfl; intro W hF hS; have hcS := hS.1.cells.1; have hfS := hS.1.cells.2; go_simp; (go_at_call 20; refine (iof_any (-1) _ (by omega) (by omega)).mono ?_; rintro e w12 ⟨hb_w12, v12, rfl, hv12⟩; refine XPost.mk _ (fun W => IsC W v12 (-1)) hb_w12 (hv12) (IsC.cl _ _) ?_); clear hb_w12 hcS hfS hS hF
  intro K hK; go_simp; (try go_bits); refine hK _ ?_; clear hK K
  clear hv12
  apply wpF_call_on (i := 26) rfl (by kernel_rfl) (by kernel_rfl) rfl; intro W hF hS; have hcS := hS.1.cells.1; have hfS := hS.1.cells.2; go_simp; (go_at_call 17; refine (HC1.out _ _ _ ((HR.out.below hS.1.2).zl lr) (hF.word (by decide))).mono ?_; rintro e w13 ⟨rfl, hb_w13⟩; refine XPost.mk _ (fun _ => True) hb_w13 (trivial) (Cl.tt) ?_); clear hb_w13 hcS hfS hS hF
  intro K hK; go_simp; (try go_bits); refine hK _ ?_; clear hK K
  refine wpI_start [27, 28, 29, 30] ?_; (iterate 4 (first | (refine wpI_off rfl (by kernel_rfl) rfl (fun K hK => ?_); go_simp; refine hK _ ?_; clear hK K) | ((first | apply wpI_step rfl (by kernel_rfl) rfl | apply wpI_on rfl (by kernel_rfl) rfl); (focus (intro W' hS; have hcS := hS.cells.1; have hfS := hS.cells.2; go_simp; (first | done | exact rfl | exact ⟨rfl, Below.refl _ _⟩ | (go_simp; first | done | exact rfl | exact ⟨rfl, Below.refl _ _⟩)))); intro K hK; go_simp; (try go_bits); refine hK _ ?_; clear hK K))); refine wpI_nil ?_
  apply wpF_call_on (i := 31) rfl (by kernel_rfl) (by kernel_rfl) rfl; intro W hF hS; have hcS := hS.1.cells.1; have hfS := hS.1.cells.2; go_simp; (go_at_call 20; refine (iof_any (-3) _ (by omega) (by omega)).mono ?_; rintro e w14 ⟨hb_w14, v14, rfl, hv14⟩; refine XPost.mk _ (fun W => IsC W v14 (-3)) hb_w14 (hv14) (IsC.cl _ _) ?_); clear hb_w14 hcS hfS hS hF
  intro K hK; go_simp; (try go_bits); refine hK _ ?_; clear hK K
  clear hv14
  apply wpF_call_on (i := 32) rfl (by kernel_rfl) (by kernel_rfl) rfl; intro W hF hS; have hcS := hS.1.cells.1; have hfS := hS.1.cells.2; go_simp; (go_at_call 17; refine (HC2.out _ _ _ ((HS.out.below hS.1.2).zl lq) (hF.2.word (by decide))).mono ?_; rintro e w15 ⟨rfl, hb_w15⟩; refine XPost.mk _ (fun _ => True) hb_w15 (trivial) (Cl.tt) ?_); clear hb_w15 hcS hfS hS hF
  intro K hK; go_simp; (try go_bits); refine hK _ ?_; clear hK K
  refine wpI_start [33, 34, 35] ?_; (iterate 3 (first | (refine wpI_off rfl (by kernel_rfl) rfl (fun K hK => ?_); go_simp; refine hK _ ?_; clear hK K) | ((first | apply wpI_step rfl (by kernel_rfl) rfl | apply wpI_on rfl (by kernel_rfl) rfl); (focus (intro W' hS; have hcS := hS.cells.1; have hfS := hS.cells.2; go_simp; (first | done | exact rfl | exact ⟨rfl, Below.refl _ _⟩ | (go_simp; first | done | exact rfl | exact ⟨rfl, Below.refl _ _⟩)))); intro K hK; go_simp; (try go_bits); refine hK _ ?_; clear hK K))); refine wpI_nil ?_
  apply wpF_call_on (i := 36) rfl (by kernel_rfl) (by kernel_rfl) rfl; intro W hF hS; have hcS := hS.1.cells.1; have hfS := hS.1.cells.2; go_simp; (go_at_call 20; refine (iof_any 255 _ (by omega) (by omega)).mono ?_; rintro e w16 ⟨hb_w16, v16, rfl, hv16⟩; refine XPost.mk _ (fun W => IsC W v16 255) hb_w16 (hv16) (IsC.cl _ _) ?_); clear hb_w16 hcS hfS hS hF
  intro K hK; go_simp; (try go_bits); refine hK _ ?_; clear hK K
  clear hv16
  apply wpF_call_on (i := 37) rfl (by kernel_rfl) (by kernel_rfl) rfl; intro W hF hS; have hcS := hS.1.cells.1; have hfS := hS.1.cells.2; go_simp; (go_at_call 32; refine (HB1.out _ _ (hF.2.word (by decide))).mono ?_; rintro e w17 ⟨rfl, hb_w17⟩; refine XPost.mk _ (fun _ => True) hb_w17 (trivial) (Cl.tt) ?_); clear hb_w17 hcS hfS hS hF
  intro K hK; go_simp; (try go_bits); refine hK _ ?_; clear hK K
  refine wpI_start [38, 39, 40, 41, 42, 43, 44, 45, 46, 47, 48, 49] ?_; (iterate 12 (first | (refine wpI_off rfl (by kernel_rfl) rfl (fun K hK => ?_); go_simp; refine hK _ ?_; clear hK K) | ((first | apply wpI_step rfl (by kernel_rfl) rfl | apply wpI_on rfl (by kernel_rfl) rfl); (focus (intro W' hS; have hcS := hS.cells.1; have hfS := hS.cells.2; go_simp; (first | done | exact rfl | exact ⟨rfl, Below.refl _ _⟩ | (go_at_call 32; exact (HB2.out _ _ ((HG.out.below hS.2).zl lb)).mono (fun _ _ h => ⟨h.1, h.2⟩)) | (go_simp; first | done | exact rfl | exact ⟨rfl, Below.refl _ _⟩)))); intro K hK; go_simp; (try go_bits); refine hK _ ?_; clear hK K))); refine wpI_nil ?_
  refine wpF_done (by kernel_rfl) ?_
  intro w20 hF_w20 hSG
  have hz_w20 := hSG.1.1
  have hb_w20 := hSG.1.2
  clear hSG
  (with_reducible apply cel2 (b := w3.heap.size) hb_w20); (focus ((try simp) <;> omega)); (focus omega); (focus (go_simp; try exact rfl)); (focus (go_simp; try exact rfl)); (focus (intro o; go_simp)); intro cc cc fz hl; (with_reducible apply cel2 (b := w3.heap.size + 1) hb_w20); (focus ((try simp) <;> omega)); (focus omega); (focus (go_simp; try exact rfl)); (focus (go_simp; try exact rfl)); (focus (intro o; go_simp)); intro cc cc fz hl; (with_reducible apply cel2 (b := w5.heap.size) hb_w20); (focus ((try simp) <;> omega)); (focus omega); (focus (go_simp; try exact rfl)); (focus (go_simp; try exact rfl)); (focus (intro o; go_simp)); intro cc cc fz hl; (with_reducible apply cel2 (b := w6.heap.size) hb_w20); (focus ((try simp) <;> omega)); (focus omega); (focus (go_simp; try exact rfl)); (focus (go_simp; try exact rfl)); (focus (intro o; go_simp)); intro cc cc fz hl; (with_reducible apply cel2 (b := w10.heap.size) hb_w20); (focus ((try simp) <;> omega)); (focus omega); (focus (go_simp; try exact rfl)); (focus (go_simp; try exact rfl)); (focus (intro o; go_simp)); intro cc cc fz hl
  (try simp only [List.drop_succ_cons, List.drop_zero])
  go_wp2_with fail
  go_ret
  exact ⟨rfl, HW3.out.trans (HW311.out.trans (hb_w20.mono (by omega)) |>.mono hz3)⟩
end Go.Proofs.Ytadkcipjcmkoiaa
