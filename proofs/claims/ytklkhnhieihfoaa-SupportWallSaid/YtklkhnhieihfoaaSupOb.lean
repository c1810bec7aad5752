/- The walk of SupportWall, the first component of the normal is 0. -/
import Derived.Test.YtklkhnhieihfoaaSupOd
namespace Go.Proofs.Ytklkhnhieihfoaa
open Go Go.RowKit
set_option linter.unusedVariables false
set_option maxRecDepth 100000 in
set_option maxHeartbeats 40000000 in
theorem wall_goodB (px py vx vy hx hy n2 : Int) (w : World) (h : usualB px py vx vy hx hy = true) (hn : withinB 0 n2 1048576 = true) (hz : ¬ n2 = 0) :
    Calls Try.prog 3 #[.agg #[.int .i64 px, .int .i64 py, .int .i64 vx, .int .i64 vy, .int .i64 hx, .int .i64 hy], .agg #[.int .i64 0, .int .i64 n2]] w fun e w' => e = .returned (.bool true) ∧ Below w.heap.size w w' := by
  have hu := fun w => usual_any px py vx vy hx hy w
  have hw := fun w => lwithin_any 0 n2 1048576 w (by omega) (by omega)
  rw [h] at hu
  rw [hn] at hw
  unfold usualB at h
  simp only [Bool.and_eq_true] at h
  have bp := within_bd h.1.1
  have bv := within_bd h.1.2
  have bh := within_bd h.2
  have bn := within_bd hn
  obtain ⟨es, ef⟩ := start_fit bp bh bv
  obtain ⟨es2, ef2⟩ := start_fit (p1 := -px) (p2 := py) (v1 := -vx) (v2 := vy) (h1 := -hx) (h2 := hy) (by omega) (by omega) (by omega)
  have hst := fun w => start_any px py vx vy hx hy w
  rw [es] at hst
  have hst2 := fun w => start_any (-px) py (-vx) vy (-hx) hy w
  rw [es2] at hst2
  have hf1 := fun w => lflip_sm px py w (small_of (by omega))
  have hf2 := fun w => lflip_sm vx vy w (small_of (by omega))
  have hf3 := fun w => lflip_sm hx hy w (small_of (by omega))
  have hS := stair_one (key := 1003) (n := (0, n2)) bp bh bv bn
  have hfl := wall_flip (key := 1003) (n := (0, n2)) bp bh bv bn
  have hfr := wall_free (key := 1003) (n := (0, n2)) bp bh bv bn
  have hp1 := fun (W : World) (g g' : Nat) (h1 : IC g 1003 W) (h2 : VC g' (0, n2) W) => press_one (startP px py vx vy hx hy) _ 1003 (0, n2) g g' W (plAt_nil W _ rfl rfl) h1 h2 (by simp [startP]) (by simp [startP])
  have hp2 := fun (W : World) (g : Nat) (B : Option Addr) (c : Nat) (h1 : IC g 1003 W) (h2 : VAt W B [flipV (0, n2)]) => press_any (startP (-px) py (-vx) vy (-hx) hy) _ [1003] [flipV (0, n2)] _ _ 1 c W (plAt_nil W _ rfl rfl) h1.iat h2 (by simp [startP]) (by simp [startP]) (by simp) (by simp)
  rw [hfl] at hp2
  have hls := fun (W : World) (g : Nat) (h2 : VC g (0, n2) W) => lflips_any [(0, n2)] _ 1 W (by simp) h2.vat (fun n hn => by simp at hn; subst hn; exact small_of (by omega))
  have hfit := hS.fit bp bh bv bn
  have hfb := fin_bd hfit
  have hheld := wall_held hS hfit
  have hfi2 := finR_flip (pressR (startP px py vx vy hx hy) [1003] [(0, n2)])
  obtain ⟨S, hSe⟩ : ∃ S, S = pressR (startP px py vx vy hx hy) [1003] [(0, n2)] := ⟨_, rfl⟩
  rw [← hSe] at hS hfr hp1 hp2 hfit hfb hheld hfi2
  have hk := hS.l
  have hb5 := hS.v.2
  have hb6 := hS.hh
  clear hSe hfl hS hfit
  obtain ⟨q1, q2, q3, q4, q5, q6, q7, q8, q9, q10, qk, qn, qt, qd⟩ := S
  simp only at hk hb5 hb6 hfr hheld
  obtain ⟨rfl, rfl⟩ := hk
  have hi1 := fun (W : World) (A : Option Addr) (c : Nat) (B : Option Addr) (d : Nat) (k1 : IAt W A [1003]) (k2 : VAt W B [(0, n2)]) => finish_any ⟨q1, q2, q3, q4, q5, q6, q7, q8, q9, q10, [1003], [(0, n2)], qt, qd⟩ (plV ⟨q1, q2, q3, q4, q5, q6, q7, q8, q9, q10, [1003], [(0, n2)], qt, qd⟩ (.slice A 1 c) (.slice B 1 d)) W ⟨A, c, B, d, rfl, k1, k2⟩ (by simp)
  have hi2 := fun (W : World) (A : Option Addr) (c : Nat) (B : Option Addr) (d : Nat) (k1 : IAt W A [1003]) (k2 : VAt W B [flipV (0, n2)]) => finish_any (flipP ⟨q1, q2, q3, q4, q5, q6, q7, q8, q9, q10, [1003], [(0, n2)], qt, qd⟩) (plV (flipP ⟨q1, q2, q3, q4, q5, q6, q7, q8, q9, q10, [1003], [(0, n2)], qt, qd⟩) (.slice A 1 c) (.slice B 1 d)) W ⟨A, c, B, d, rfl, k1, k2⟩ (by simp [flipP])
  rw [hfi2] at hi2
  have hcase : (qd = true ∧ (finR ⟨q1, q2, q3, q4, q5, q6, q7, q8, q9, q10, [1003], [(0, n2)], qt, qd⟩) = ((px, py), (0, 0))) ∨ (qd = false ∧ 0 ≤ q3 * 0 + q4 * n2 ∧ 0 ≤ q5 * 0 + q6 * n2 ∧ (finR ⟨q1, q2, q3, q4, q5, q6, q7, q8, q9, q10, [1003], [(0, n2)], qt, qd⟩).1 = (px + q3 + q5, py + q4 + q6)) := by
    cases qd
    · exact .inr ⟨rfl, (hfr rfl).1, (hfr rfl).2.1, (hfr rfl).2.2⟩
    · exact .inl ⟨rfl, hheld rfl⟩
  clear hfr hheld hfi2
  generalize finR ⟨q1, q2, q3, q4, q5, q6, q7, q8, q9, q10, [1003], [(0, n2)], qt, qd⟩ = R at *
  obtain ⟨⟨X1, X2⟩, Y1, Y2⟩ := R
  simp only [flipV, flipP, plV, startP, List.map_cons, List.map_nil, List.length_cons, List.length_nil, Nat.zero_add] at hst hst2 hp1 hp2 hls hi1 hi2 hfb hcase
  obtain ⟨⟨b1, b2⟩, b3, b4⟩ := hfb
  have hf4 := fun w => lflip_sm X1 X2 w (small_of (by omega))
  have hf5 := fun w => lflip_sm Y1 Y2 w (small_of (by omega))
  replace hcase : (qd = true ∧ ((X1, X2), (Y1, Y2)) = ((px, py), ((0 : Int), (0 : Int)))) ∨ (qd = false ∧ 0 ≤ q3 * 0 + q4 * n2 ∧ 0 ≤ q5 * 0 + q6 * n2 ∧ 0 ≤ (X1 - px) * 0 + (X2 - py) * n2) := by
    rcases hcase with h | ⟨h1, h2, h3, h4⟩
    · exact .inl h
    · simp only [Prod.mk.injEq] at h4
      have u1 : X1 - px = q3 + q5 := by omega
      have u2 : X2 - py = q4 + q6 := by omega
      refine .inr ⟨h1, h2, h3, ?_⟩
      rw [u1, u2, Int.add_mul, Int.add_mul]
      omega
  have hd1 := fun w => dot_in q3 q4 0 n2 w (small_of (by omega)) (small_of (by omega))
  have hd2 := fun w => dot_in q5 q6 0 n2 w (small_of (by omega)) (small_of (by omega))
  have hsb := fun w => sub_inn X1 X2 px py w (by omega) (by omega)
  have hfb3 : -20000000 ≤ X1 - px ∧ X1 - px ≤ 20000000 ∧ -20000000 ≤ X2 - py ∧ X2 - py ≤ 20000000 := by omega
  generalize X1 - px = U1 at *
  generalize X2 - py = U2 at *
  have hd3 := fun w => dot_in U1 U2 0 n2 w (small_of (by omega)) (small_of (by omega))
  generalize q3 * 0 + q4 * n2 = D1 at *
  generalize q5 * 0 + q6 * n2 = D2 at *
  generalize U1 * 0 + U2 * n2 = D3 at *
  have HST := Lib.hid hst
  have HST2 := Lib.hid hst2
  have HF1 := Lib.hid hf1
  have HF2 := Lib.hid hf2
  have HF3 := Lib.hid hf3
  have HF4 := Lib.hid hf4
  have HF5 := Lib.hid hf5
  have HP1 := Lib.hid hp1
  have HP2 := Lib.hid hp2
  have HLS := Lib.hid hls
  have HI1 := Lib.hid hi1
  have HI2 := Lib.hid hi2
  have HD1 := Lib.hid hd1
  have HD2 := Lib.hid hd2
  have HD3 := Lib.hid hd3
  have HSB := Lib.hid hsb
  have HU := Lib.hid hu
  have HW := Lib.hid hw
  have HC := Lib.hid hcase
  have HBD := Lib.hid (And.intro bp (And.intro b1 b2))
  clear h hn hst hst2 hf1 hf2 hf3 hf4 hf5 hp1 hp2 hls hi1 hi2 hd1 hd2 hd3 hsb hu hw hcase es ef es2 ef2 bp bv bh bn b1 b2 b3 b4 hb5 hb6 hfb3
  go_enter Try.func3, Try.ntmps3; (try simp only [List.append_eq, List.cons_append, List.nil_append])
  go_wp2_with fail
  -- own blocks: w.heap.size:6, w.heap.size + 1:2
  (go_at_call 11; refine (awake17_any _).mono ?_; rintro e w1 ⟨rfl, hb_w1⟩; have hz_w1 := hb_w1.size; (try simp at hz_w1); (with_reducible apply cel6 (b := w.heap.size) hb_w1); (focus ((try simp) <;> omega)); (focus omega); (focus (go_simp; try exact rfl)); (focus (go_simp; try exact rfl)); (focus (go_simp; try exact rfl)); (focus (go_simp; try exact rfl)); (focus (go_simp; try exact rfl)); (focus (go_simp; try exact rfl)); (focus (intro o; go_simp)); intro cc cc cc cc cc cc fz hl; (with_reducible apply cel2 (b := w.heap.size + 1) hb_w1); (focus ((try simp) <;> omega)); (focus omega); (focus (go_simp; try exact rfl)); (focus (go_simp; try exact rfl)); (focus (intro o; go_simp)); intro cc cc fz hl)
  go_wp2_with fail
  (go_at_call 12; refine (HU.out _).mono ?_; rintro e w2 ⟨rfl, hb_w2⟩; have hz_w2 := hb_w2.size; (try simp at hz_w2); (with_reducible apply cel6 (b := w.heap.size) hb_w2); (focus ((try simp) <;> omega)); (focus omega); (focus (go_simp; try exact rfl)); (focus (go_simp; try exact rfl)); (focus (go_simp; try exact rfl)); (focus (go_simp; try exact rfl)); (focus (go_simp; try exact rfl)); (focus (go_simp; try exact rfl)); (focus (intro o; go_simp)); intro cc cc cc cc cc cc fz hl; (with_reducible apply cel2 (b := w.heap.size + 1) hb_w2); (focus ((try simp) <;> omega)); (focus omega); (focus (go_simp; try exact rfl)); (focus (go_simp; try exact rfl)); (focus (intro o; go_simp)); intro cc cc fz hl)
  go_wp2_with fail
  (go_at_call 13; refine (HW.out _).mono ?_; rintro e w3 ⟨rfl, hb_w3⟩; have hz_w3 := hb_w3.size; (try simp at hz_w3); (with_reducible apply cel6 (b := w.heap.size) hb_w3); (focus ((try simp) <;> omega)); (focus omega); (focus (go_simp; try exact rfl)); (focus (go_simp; try exact rfl)); (focus (go_simp; try exact rfl)); (focus (go_simp; try exact rfl)); (focus (go_simp; try exact rfl)); (focus (go_simp; try exact rfl)); (focus (intro o; go_simp)); intro cc cc cc cc cc cc fz hl; (with_reducible apply cel2 (b := w.heap.size + 1) hb_w3); (focus ((try simp) <;> omega)); (focus omega); (focus (go_simp; try exact rfl)); (focus (go_simp; try exact rfl)); (focus (intro o; go_simp)); intro cc cc fz hl)
  go_wp2_with fail
  (refine pin_wp (N := _) (Nat.le_refl _) (fun w5 hb_w5 hz_w5 => ?_); (try simp at hz_w5); (with_reducible apply cel6 (b := w.heap.size) hb_w5); (focus ((try simp) <;> omega)); (focus omega); (focus (go_simp; try exact rfl)); (focus (go_simp; try exact rfl)); (focus (go_simp; try exact rfl)); (focus (go_simp; try exact rfl)); (focus (go_simp; try exact rfl)); (focus (go_simp; try exact rfl)); (focus (intro o; go_simp)); intro cc cc cc cc cc cc fz hl; (with_reducible apply cel2 (b := w.heap.size + 1) hb_w5); (focus ((try simp) <;> omega)); (focus omega); (focus (go_simp; try exact rfl)); (focus (go_simp; try exact rfl)); (focus (intro o; go_simp)); intro cc cc fz hl); refine wp_region_floatQ w5.heap.size 12 [12] (Nat.le_refl _) (fun _ => True) trivial Cl.tt (by kernel_rfl) (by kernel_rfl) ?_
  have HB5 := Lib.hid (show Below w.heap.size w w5 by ((with_reducible (repeat (first | exact bR _ _ | refine bS ?_ ?_ _ | refine bA ?_ ?_ _ | refine bD ?_ | refine bT ?_ (by assumption) ?_ | refine bO (by assumption) ?_ ?_))) <;> (first | omega | (simp; done) | (simp <;> omega))))
  clear hb_w1 hb_w2 hb_w3 hb_w5
  refine wpQI_start [0, 1, 2, 3, 4, 5, 6] ?_; (iterate 7 (first | (refine wpQI_off rfl (by kernel_rfl) rfl (fun K hK => ?_); go_simp; refine hK _ ?_; clear hK K) | ((first | apply wpQI_step rfl (by kernel_rfl) rfl | apply wpQI_on rfl (by kernel_rfl) rfl); (focus (intro W' hS; have hcS := hS.cells.1; have hfS := hS.cells.2; go_simp; (first | done | exact rfl | exact ⟨rfl, Below.refl _ _⟩ | (go_at_call 15; exact (HST.out _).mono (fun _ _ h => ⟨h.1, h.2⟩)) | (go_simp; first | done | exact rfl | exact ⟨rfl, Below.refl _ _⟩)))); intro K hK; go_simp; (try go_bits); refine hK _ ?_; clear hK K))); refine wpQI_nil ?_
  refine wpQI_start [8] ?_; (iterate 1 (first | (refine wpQI_off rfl (by kernel_rfl) rfl (fun K hK => ?_); go_simp; refine hK _ ?_; clear hK K) | ((first | apply wpQI_step rfl (by kernel_rfl) rfl | apply wpQI_on rfl (by kernel_rfl) rfl); (focus (intro W' hS; have hcS := hS.cells.1; have hfS := hS.cells.2; go_simp; (first | done | exact rfl | exact ⟨rfl, Below.refl _ _⟩ | (go_at_call 15; exact (HST.out _).mono (fun _ _ h => ⟨h.1, h.2⟩)) | (go_simp; first | done | exact rfl | exact ⟨rfl, Below.refl _ _⟩)))); intro K hK; go_simp; (try go_bits); refine hK _ ?_; clear hK K))); refine wpQI_nil ?_
  apply wpQ_fresh (i := 9) LInv.std rfl (by kernel_rfl) (fun g => Value.slice (some ⟨g, 0, none⟩) 1 1) rfl; (focus (intro W; go_simp; first | done | exact rfl | exact ⟨rfl, rfl⟩))
  intro g_9 hN_9 hG_9 K hK
  go_simp; refine hK _ ?_; clear hK K
  apply wpQ_fresh (i := 7) LInv.std rfl (by kernel_rfl) (fun g => Value.slice (some ⟨g, 0, none⟩) 1 1) rfl; (focus (intro W; go_simp; first | done | exact rfl | exact ⟨rfl, rfl⟩))
  intro g_7 hN_7 hG_7 K hK
  go_simp; refine hK _ ?_; clear hK K
  apply wpQ_call (i := 10) rfl (by kernel_rfl) rfl; intro W hF hS; have hcS := hS.1.cells.1; have hfS := hS.1.cells.2; go_simp; (go_at_call 14; refine (HP1.out _ _ _ (ic_of (hS.2 _ (List.mem_cons_self ..)).2) (vc_of (hS.2 _ (List.mem_cons_of_mem _ (List.mem_cons_self ..))).2)).mono ?_; rintro e w6 ⟨hb_w6, A6, c6, B6, d6, rfl, hk6, hn6⟩; refine XPost.mk _ (fun W => OwnK W w5.heap.size A6 c6 [1003] ∧ OwnN W w5.heap.size B6 d6 [(0, n2)]) hb_w6 (⟨own_weaker hk6 hS.1.1, own_weaker hn6 hS.1.1⟩) ((OwnK.cl _ _ _ _).and (OwnN.cl _ _ _ _)) ?_); clear hb_w6 hcS hfS hS hF
  intro K hK; go_simp; (try go_bits); refine hK _ ?_; clear hK K
  clear hk6 hn6
  simp only [plV, List.length_cons, List.length_nil, Nat.zero_add]
  apply wpQ_fresh (i := 11) LInv.std rfl (by kernel_rfl) (fun g => Value.pointer (some ⟨g, 0, none⟩)) rfl; (focus (intro W; go_simp; first | done | exact rfl | exact ⟨rfl, rfl⟩))
  intro g_11 hN_11 hG_11 K hK
  go_simp; refine hK _ ?_; clear hK K
  have hN11 := hN_11
  refine wpQ_done (by kernel_rfl) ?_
  intro w7 hF_w7 hSG
  have hz_w7 := hSG.1.1
  have hb_w7 := hSG.1.2
  have hB_11 := (hSG.2 _ (List.mem_cons_self ..)).2; simp only [List.setIfInBounds_toArray, List.set_cons_zero, List.set_cons_succ] at hB_11; have hl_11 := (hSG.size (List.mem_cons_self ..)); simp only at hl_11
  have cc := cell_of_row w7 g_11 0 _ _ _ hB_11; simp only [List.getElem?_toArray, List.getElem?_cons_zero] at cc
  have cc := cell_of_row w7 g_11 1 _ _ _ hB_11; simp only [List.getElem?_toArray, List.getElem?_cons_zero, List.getElem?_cons_succ] at cc
  have cc := cell_of_row w7 g_11 2 _ _ _ hB_11; simp only [List.getElem?_toArray, List.getElem?_cons_zero, List.getElem?_cons_succ] at cc
  have cc := cell_of_row w7 g_11 3 _ _ _ hB_11; simp only [List.getElem?_toArray, List.getElem?_cons_zero, List.getElem?_cons_succ] at cc
  have cc := cell_of_row w7 g_11 4 _ _ _ hB_11; simp only [List.getElem?_toArray, List.getElem?_cons_zero, List.getElem?_cons_succ] at cc
  have cc := cell_of_row w7 g_11 5 _ _ _ hB_11; simp only [List.getElem?_toArray, List.getElem?_cons_zero, List.getElem?_cons_succ] at cc
  have cc := cell_of_row w7 g_11 6 _ _ _ hB_11; simp only [List.getElem?_toArray, List.getElem?_cons_zero, List.getElem?_cons_succ] at cc
  have cc := cell_of_row w7 g_11 7 _ _ _ hB_11; simp only [List.getElem?_toArray, List.getElem?_cons_zero, List.getElem?_cons_succ] at cc
  have cc := cell_of_row w7 g_11 8 _ _ _ hB_11; simp only [List.getElem?_toArray, List.getElem?_cons_zero, List.getElem?_cons_succ] at cc
  have cc := cell_of_row w7 g_11 9 _ _ _ hB_11; simp only [List.getElem?_toArray, List.getElem?_cons_zero, List.getElem?_cons_succ] at cc
  have cc := cell_of_row w7 g_11 10 _ _ _ hB_11; simp only [List.getElem?_toArray, List.getElem?_cons_zero, List.getElem?_cons_succ] at cc
  have cc := cell_of_row w7 g_11 11 _ _ _ hB_11; simp only [List.getElem?_toArray, List.getElem?_cons_zero, List.getElem?_cons_succ] at cc
  have cc := cell_of_row w7 g_11 12 _ _ _ hB_11; simp only [List.getElem?_toArray, List.getElem?_cons_zero, List.getElem?_cons_succ] at cc
  have cc := cell_of_row w7 g_11 13 _ _ _ hB_11; simp only [List.getElem?_toArray, List.getElem?_cons_zero, List.getElem?_cons_succ] at cc
  have fz : (∀ o, w7.frozen? ⟨g_11, o, none⟩ = false) := (fun o => frozen_of_row w7 g_11 o _ _ hB_11); have HH_11 := Lib.hid hB_11; clear hB_11
  clear hSG
  (with_reducible apply cel6 (b := w.heap.size) hb_w7); (focus ((try simp) <;> omega)); (focus omega); (focus (go_simp; try exact rfl)); (focus (go_simp; try exact rfl)); (focus (go_simp; try exact rfl)); (focus (go_simp; try exact rfl)); (focus (go_simp; try exact rfl)); (focus (go_simp; try exact rfl)); (focus (intro o; go_simp)); intro cc cc cc cc cc cc fz hl; (with_reducible apply cel2 (b := w.heap.size + 1) hb_w7); (focus ((try simp) <;> omega)); (focus omega); (focus (go_simp; try exact rfl)); (focus (go_simp; try exact rfl)); (focus (intro o; go_simp)); intro cc cc fz hl
  (try simp only [List.filterMap_cons, List.filterMap_nil, List.getElem?_cons_succ, List.getElem?_cons_zero])
  have HB7 := Lib.hid (show Below w.heap.size w w7 from HB5.out.trans (hb_w7.mono (by omega)))
  have HR7 := Lib.hid hF_w7
  clear hF_w7 hb_w7
  have HT7 := Lib.hid (TyAt.of HH_11.out)
  clear HH_11
  go_wp2_with fail
  (refine pin_wp (N := _) (Nat.le_refl _) (fun w8 hb_w8 hz_w8 => ?_); (try simp at hz_w8); (with_reducible apply cel6 (b := w.heap.size) hb_w8); (focus ((try simp) <;> omega)); (focus omega); (focus (go_simp; try exact rfl)); (focus (go_simp; try exact rfl)); (focus (go_simp; try exact rfl)); (focus (go_simp; try exact rfl)); (focus (go_simp; try exact rfl)); (focus (go_simp; try exact rfl)); (focus (intro o; go_simp)); intro cc cc cc cc cc cc fz hl; (with_reducible apply cel2 (b := w.heap.size + 1) hb_w8); (focus ((try simp) <;> omega)); (focus omega); (focus (go_simp; try exact rfl)); (focus (go_simp; try exact rfl)); (focus (intro o; go_simp)); intro cc cc fz hl; (with_reducible apply cel14 (b := g_11) hb_w8); (focus ((try simp) <;> omega)); (focus omega); (focus (go_simp; try exact rfl)); (focus (go_simp; try exact rfl)); (focus (go_simp; try exact rfl)); (focus (go_simp; try exact rfl)); (focus (go_simp; try exact rfl)); (focus (go_simp; try exact rfl)); (focus (go_simp; try exact rfl)); (focus (go_simp; try exact rfl)); (focus (go_simp; try exact rfl)); (focus (go_simp; try exact rfl)); (focus (go_simp; try exact rfl)); (focus (go_simp; try exact rfl)); (focus (go_simp; try exact rfl)); (focus (go_simp; try exact rfl)); (focus (intro o; go_simp)); intro cc cc cc cc cc cc cc cc cc cc cc cc cc cc fz hl); refine wp_region_floatQ w8.heap.size 16 [16] (Nat.le_refl _) (fun _ => True) trivial Cl.tt (by kernel_rfl) (by kernel_rfl) ?_
  have HK8 := Lib.hid (OwnK.bel (base := w5.heap.size) (A := A6) (c := c6) (l := [1003]) (by have hk9 := HR7.out.1; have ht9 := HT7.out; ((repeat (first | (with_reducible exact hk9) | (with_reducible refine OwnK.off ?_ (T := 32) ?_ (by decide) _ _))) <;> (repeat (first | (with_reducible exact ht9) | (with_reducible refine TyAt.set ?_ _ _))))) hb_w8 (Nat.le_refl _))
  have HN8 := Lib.hid (OwnN.bel (base := w5.heap.size) (A := B6) (c := d6) (l := [(0, n2)]) (by have hk9 := HR7.out.2; have ht9 := HT7.out; ((repeat (first | (with_reducible exact hk9) | (with_reducible refine OwnN.off ?_ (T := 32) ?_ (by decide) _ _))) <;> (repeat (first | (with_reducible exact ht9) | (with_reducible refine TyAt.set ?_ _ _))))) hb_w8 (Nat.le_refl _))
  have HB8 := Lib.hid (show Below w.heap.size w w8 by have hB := HB7.out; ((with_reducible (repeat (first | exact bR _ _ | refine bS ?_ ?_ _ | refine bA ?_ ?_ _ | refine bD ?_ | refine bT ?_ (by assumption) ?_ | refine bO (by assumption) ?_ ?_))) <;> (first | omega | (simp; done) | (simp <;> omega))))
  have hz8 : w5.heap.size ≤ w8.heap.size := by omega
  clear hb_w8 HR7
  refine wpQI_start [0, 1, 2] ?_; (iterate 3 (first | (refine wpQI_off rfl (by kernel_rfl) rfl (fun K hK => ?_); go_simp; refine hK _ ?_; clear hK K) | ((first | apply wpQI_step rfl (by kernel_rfl) rfl | apply wpQI_on rfl (by kernel_rfl) rfl); (focus (intro W' hS; have hcS := hS.cells.1; have hfS := hS.cells.2; go_simp; (first | done | exact rfl | exact ⟨rfl, Below.refl _ _⟩ | (go_at_call 16; exact (HF1.out _).mono (fun _ _ h => ⟨h.1, h.2⟩)) | (go_simp; first | done | exact rfl | exact ⟨rfl, Below.refl _ _⟩)))); intro K hK; go_simp; (try go_bits); refine hK _ ?_; clear hK K))); refine wpQI_nil ?_
  refine wpQI_start [3, 4, 5] ?_; (iterate 3 (first | (refine wpQI_off rfl (by kernel_rfl) rfl (fun K hK => ?_); go_simp; refine hK _ ?_; clear hK K) | ((first | apply wpQI_step rfl (by kernel_rfl) rfl | apply wpQI_on rfl (by kernel_rfl) rfl); (focus (intro W' hS; have hcS := hS.cells.1; have hfS := hS.cells.2; go_simp; (first | done | exact rfl | exact ⟨rfl, Below.refl _ _⟩ | (go_at_call 16; exact (HF2.out _).mono (fun _ _ h => ⟨h.1, h.2⟩)) | (go_simp; first | done | exact rfl | exact ⟨rfl, Below.refl _ _⟩)))); intro K hK; go_simp; (try go_bits); refine hK _ ?_; clear hK K))); refine wpQI_nil ?_
  refine wpQI_start [6, 7, 8] ?_; (iterate 3 (first | (refine wpQI_off rfl (by kernel_rfl) rfl (fun K hK => ?_); go_simp; refine hK _ ?_; clear hK K) | ((first | apply wpQI_step rfl (by kernel_rfl) rfl | apply wpQI_on rfl (by kernel_rfl) rfl); (focus (intro W' hS; have hcS := hS.cells.1; have hfS := hS.cells.2; go_simp; (first | done | exact rfl | exact ⟨rfl, Below.refl _ _⟩ | (go_at_call 16; exact (HF3.out _).mono (fun _ _ h => ⟨h.1, h.2⟩)) | (go_simp; first | done | exact rfl | exact ⟨rfl, Below.refl _ _⟩)))); intro K hK; go_simp; (try go_bits); refine hK _ ?_; clear hK K))); refine wpQI_nil ?_
  refine wpQI_start [9] ?_; (iterate 1 (first | (refine wpQI_off rfl (by kernel_rfl) rfl (fun K hK => ?_); go_simp; refine hK _ ?_; clear hK K) | ((first | apply wpQI_step rfl (by kernel_rfl) rfl | apply wpQI_on rfl (by kernel_rfl) rfl); (focus (intro W' hS; have hcS := hS.cells.1; have hfS := hS.cells.2; go_simp; (first | done | exact rfl | exact ⟨rfl, Below.refl _ _⟩ | (go_at_call 15; exact (HST2.out _).mono (fun _ _ h => ⟨h.1, h.2⟩)) | (go_simp; first | done | exact rfl | exact ⟨rfl, Below.refl _ _⟩)))); intro K hK; go_simp; (try go_bits); refine hK _ ?_; clear hK K))); refine wpQI_nil ?_
  refine wpQI_start [11] ?_; (iterate 1 (first | (refine wpQI_off rfl (by kernel_rfl) rfl (fun K hK => ?_); go_simp; refine hK _ ?_; clear hK K) | ((first | apply wpQI_step rfl (by kernel_rfl) rfl | apply wpQI_on rfl (by kernel_rfl) rfl); (focus (intro W' hS; have hcS := hS.cells.1; have hfS := hS.cells.2; go_simp; (first | done | exact rfl | exact ⟨rfl, Below.refl _ _⟩ | (go_simp; first | done | exact rfl | exact ⟨rfl, Below.refl _ _⟩)))); intro K hK; go_simp; (try go_bits); refine hK _ ?_; clear hK K))); refine wpQI_nil ?_
  apply wpQ_fresh (i := 12) LInv.std rfl (by kernel_rfl) (fun g => Value.slice (some ⟨g, 0, none⟩) 1 1) rfl; (focus (intro W; go_simp; first | done | exact rfl | exact ⟨rfl, rfl⟩))
  intro g_12 hN_12 hG_12 K hK
  go_simp; refine hK _ ?_; clear hK K
  apply wpQ_call (i := 13) rfl (by kernel_rfl) rfl; intro W hF hS; have hcS := hS.1.cells.1; have hfS := hS.1.cells.2; go_simp; (go_at_call 17; refine (HLS.out _ _ (vc_of (hS.2 _ (List.mem_cons_self ..)).2)).mono ?_; rintro e w9 ⟨hb_w9, A9, c9, rfl, hv9⟩; refine XPost.mk _ (fun W => VAt W A9 [(-0, n2)]) hb_w9 (hv9) (fun _ _ h hb => VAt.below h hb (Nat.le_refl _)) ?_); clear hb_w9 hcS hfS hS hF
  intro K hK; go_simp; (try go_bits); refine hK _ ?_; clear hK K
  clear hv9
  apply wpQ_fresh (i := 10) LInv.std rfl (by kernel_rfl) (fun g => Value.slice (some ⟨g, 0, none⟩) 1 1) rfl; (focus (intro W; go_simp; first | done | exact rfl | exact ⟨rfl, rfl⟩))
  intro g_10 hN_10 hG_10 K hK
  go_simp; refine hK _ ?_; clear hK K
  apply wpQ_call (i := 14) rfl (by kernel_rfl) rfl; intro W hF hS; have hcS := hS.1.cells.1; have hfS := hS.1.cells.2; go_simp; (go_at_call 14; refine (HP2.out _ _ _ _ (ic_of (hS.2 _ (List.mem_cons_self ..)).2) hF).mono ?_; rintro e w10 ⟨hb_w10, A10, c10, B10, d10, rfl, hk10, hn10⟩; refine XPost.mk _ (fun W => OwnK W w8.heap.size A10 c10 [1003] ∧ OwnN W w8.heap.size B10 d10 [(-0, n2)]) hb_w10 (⟨own_weaker hk10 hS.1.1, own_weaker hn10 hS.1.1⟩) ((OwnK.cl _ _ _ _).and (OwnN.cl _ _ _ _)) ?_); clear hb_w10 hcS hfS hS hF
  intro K hK; go_simp; (try go_bits); refine hK _ ?_; clear hK K
  clear hk10 hn10
  simp only [plV, flipP, List.length_cons, List.length_nil, Nat.zero_add, List.map_cons, List.map_nil]
  apply wpQ_fresh (i := 15) LInv.std rfl (by kernel_rfl) (fun g => Value.pointer (some ⟨g, 0, none⟩)) rfl; (focus (intro W; go_simp; first | done | exact rfl | exact ⟨rfl, rfl⟩))
  intro g_15 hN_15 hG_15 K hK
  go_simp; refine hK _ ?_; clear hK K
  have hN15 := hN_15
  refine wpQ_done (by kernel_rfl) ?_
  intro w11 hF_w11 hSG
  have hz_w11 := hSG.1.1
  have hb_w11 := hSG.1.2
  have hB_15 := (hSG.2 _ (List.mem_cons_self ..)).2; simp only [List.setIfInBounds_toArray, List.set_cons_zero, List.set_cons_succ] at hB_15; have hl_15 := (hSG.size (List.mem_cons_self ..)); simp only at hl_15
  have cc := cell_of_row w11 g_15 0 _ _ _ hB_15; simp only [List.getElem?_toArray, List.getElem?_cons_zero] at cc
  have cc := cell_of_row w11 g_15 1 _ _ _ hB_15; simp only [List.getElem?_toArray, List.getElem?_cons_zero, List.getElem?_cons_succ] at cc
  have cc := cell_of_row w11 g_15 2 _ _ _ hB_15; simp only [List.getElem?_toArray, List.getElem?_cons_zero, List.getElem?_cons_succ] at cc
  have cc := cell_of_row w11 g_15 3 _ _ _ hB_15; simp only [List.getElem?_toArray, List.getElem?_cons_zero, List.getElem?_cons_succ] at cc
  have cc := cell_of_row w11 g_15 4 _ _ _ hB_15; simp only [List.getElem?_toArray, List.getElem?_cons_zero, List.getElem?_cons_succ] at cc
  have cc := cell_of_row w11 g_15 5 _ _ _ hB_15; simp only [List.getElem?_toArray, List.getElem?_cons_zero, List.getElem?_cons_succ] at cc
  have cc := cell_of_row w11 g_15 6 _ _ _ hB_15; simp only [List.getElem?_toArray, List.getElem?_cons_zero, List.getElem?_cons_succ] at cc
  have cc := cell_of_row w11 g_15 7 _ _ _ hB_15; simp only [List.getElem?_toArray, List.getElem?_cons_zero, List.getElem?_cons_succ] at cc
  have cc := cell_of_row w11 g_15 8 _ _ _ hB_15; simp only [List.getElem?_toArray, List.getElem?_cons_zero, List.getElem?_cons_succ] at cc
  have cc := cell_of_row w11 g_15 9 _ _ _ hB_15; simp only [List.getElem?_toArray, List.getElem?_cons_zero, List.getElem?_cons_succ] at cc
  have cc := cell_of_row w11 g_15 10 _ _ _ hB_15; simp only [List.getElem?_toArray, List.getElem?_cons_zero, List.getElem?_cons_succ] at cc
  have cc := cell_of_row w11 g_15 11 _ _ _ hB_15; simp only [List.getElem?_toArray, List.getElem?_cons_zero, List.getElem?_cons_succ] at cc
  have cc := cell_of_row w11 g_15 12 _ _ _ hB_15; simp only [List.getElem?_toArray, List.getElem?_cons_zero, List.getElem?_cons_succ] at cc
  have cc := cell_of_row w11 g_15 13 _ _ _ hB_15; simp only [List.getElem?_toArray, List.getElem?_cons_zero, List.getElem?_cons_succ] at cc
  have fz : (∀ o, w11.frozen? ⟨g_15, o, none⟩ = false) := (fun o => frozen_of_row w11 g_15 o _ _ hB_15); have HH_15 := Lib.hid hB_15; clear hB_15
  clear hSG
  (with_reducible apply cel6 (b := w.heap.size) hb_w11); (focus ((try simp) <;> omega)); (focus omega); (focus (go_simp; try exact rfl)); (focus (go_simp; try exact rfl)); (focus (go_simp; try exact rfl)); (focus (go_simp; try exact rfl)); (focus (go_simp; try exact rfl)); (focus (go_simp; try exact rfl)); (focus (intro o; go_simp)); intro cc cc cc cc cc cc fz hl; (with_reducible apply cel2 (b := w.heap.size + 1) hb_w11); (focus ((try simp) <;> omega)); (focus omega); (focus (go_simp; try exact rfl)); (focus (go_simp; try exact rfl)); (focus (intro o; go_simp)); intro cc cc fz hl; (with_reducible apply cel14 (b := g_11) hb_w11); (focus ((try simp) <;> omega)); (focus omega); (focus (go_simp; try exact rfl)); (focus (go_simp; try exact rfl)); (focus (go_simp; try exact rfl)); (focus (go_simp; try exact rfl)); (focus (go_simp; try exact rfl)); (focus (go_simp; try exact rfl)); (focus (go_simp; try exact rfl)); (focus (go_simp; try exact rfl)); (focus (go_simp; try exact rfl)); (focus (go_simp; try exact rfl)); (focus (go_simp; try exact rfl)); (focus (go_simp; try exact rfl)); (focus (go_simp; try exact rfl)); (focus (go_simp; try exact rfl)); (focus (intro o; go_simp)); intro cc cc cc cc cc cc cc cc cc cc cc cc cc cc fz hl
  (try simp only [List.filterMap_cons, List.filterMap_nil, List.getElem?_cons_succ, List.getElem?_cons_zero])
  have HR11 := Lib.hid hF_w11.2
  have HK11 := Lib.hid (HK8.out.bel hb_w11 (Nat.le_refl _))
  have HN11 := Lib.hid (HN8.out.bel hb_w11 (Nat.le_refl _))
  have HB11 := Lib.hid (show Below w.heap.size w w11 from HB8.out.trans (hb_w11.mono (by have := HB8.out.size; omega)))
  have HT11 := Lib.hid (TyAt.of HH_15.out)
  have hne : g_15 ≠ g_11 := by omega
  have hne' : g_11 ≠ g_15 := Ne.symm hne
  clear hF_w11 hb_w11 HK8 HN8 HH_15 hG_11 hG_15
  go_wp2_with fail
  (go_at_call 18; refine (HI1.out _ _ _ _ _ (OwnK.iat (base := w5.heap.size) (c := c6) (by have hk9 := HK11.out; have ht9 := HT11.out; ((repeat (first | (with_reducible exact hk9) | (with_reducible refine OwnK.off ?_ (T := 32) ?_ (by decide) _ _))) <;> (repeat (first | (with_reducible exact ht9) | (with_reducible refine TyAt.set ?_ _ _)))))) (OwnN.vat (base := w5.heap.size) (c := d6) (by have hk9 := HN11.out; have ht9 := HT11.out; ((repeat (first | (with_reducible exact hk9) | (with_reducible refine OwnN.off ?_ (T := 32) ?_ (by decide) _ _))) <;> (repeat (first | (with_reducible exact ht9) | (with_reducible refine TyAt.set ?_ _ _))))))).mono ?_; rintro e w12 ⟨rfl, hb_w12⟩; have hz_w12 := hb_w12.size; (try simp at hz_w12); (with_reducible apply cel6 (b := w.heap.size) hb_w12); (focus ((try simp) <;> omega)); (focus omega); (focus (go_simp; try exact rfl)); (focus (go_simp; try exact rfl)); (focus (go_simp; try exact rfl)); (focus (go_simp; try exact rfl)); (focus (go_simp; try exact rfl)); (focus (go_simp; try exact rfl)); (focus (intro o; go_simp)); intro cc cc cc cc cc cc fz hl; (with_reducible apply cel2 (b := w.heap.size + 1) hb_w12); (focus ((try simp) <;> omega)); (focus omega); (focus (go_simp; try exact rfl)); (focus (go_simp; try exact rfl)); (focus (intro o; go_simp)); intro cc cc fz hl; (with_reducible apply cel14 (b := g_11) hb_w12); (focus ((try simp) <;> omega)); (focus omega); (focus (go_simp; try exact rfl)); (focus (go_simp; try exact rfl)); (focus (go_simp; try exact rfl)); (focus (go_simp; try exact rfl)); (focus (go_simp; try exact rfl)); (focus (go_simp; try exact rfl)); (focus (go_simp; try exact rfl)); (focus (go_simp; try exact rfl)); (focus (go_simp; try exact rfl)); (focus (go_simp; try exact rfl)); (focus (go_simp; try exact rfl)); (focus (go_simp; try exact rfl)); (focus (go_simp; try exact rfl)); (focus (go_simp; try exact rfl)); (focus (intro o; go_simp)); intro cc cc cc cc cc cc cc cc cc cc cc cc cc cc fz hl; (with_reducible apply cel14 (b := g_15) hb_w12); (focus ((try simp) <;> omega)); (focus omega); (focus (go_simp; try exact rfl)); (focus (go_simp; try exact rfl)); (focus (go_simp; try exact rfl)); (focus (go_simp; try exact rfl)); (focus (go_simp; try exact rfl)); (focus (go_simp; try exact rfl)); (focus (go_simp; try exact rfl)); (focus (go_simp; try exact rfl)); (focus (go_simp; try exact rfl)); (focus (go_simp; try exact rfl)); (focus (go_simp; try exact rfl)); (focus (go_simp; try exact rfl)); (focus (go_simp; try exact rfl)); (focus (go_simp; try exact rfl)); (focus (intro o; go_simp)); intro cc cc cc cc cc cc cc cc cc cc cc cc cc cc fz hl)
  have HK12 := Lib.hid (OwnK.bel (base := w8.heap.size) (A := A10) (c := c10) (l := [1003]) (by have hk9 := HR11.out.1; have ht9 := HT11.out; ((repeat (first | (with_reducible exact hk9) | (with_reducible refine OwnK.off ?_ (T := 32) ?_ (by decide) _ _))) <;> (repeat (first | (with_reducible exact ht9) | (with_reducible refine TyAt.set ?_ _ _))))) hb_w12 (Nat.le_refl _))
  have HN12 := Lib.hid (OwnN.bel (base := w8.heap.size) (A := B10) (c := d10) (l := [(-0, n2)]) (by have hk9 := HR11.out.2; have ht9 := HT11.out; ((repeat (first | (with_reducible exact hk9) | (with_reducible refine OwnN.off ?_ (T := 32) ?_ (by decide) _ _))) <;> (repeat (first | (with_reducible exact ht9) | (with_reducible refine TyAt.set ?_ _ _))))) hb_w12 (Nat.le_refl _))
  have HB12 := Lib.hid (show Below w.heap.size w w12 by have hB := HB11.out; ((with_reducible (repeat (first | exact bR _ _ | refine bS ?_ ?_ _ | refine bA ?_ ?_ _ | refine bD ?_ | refine bT ?_ (by assumption) ?_ | refine bO (by assumption) ?_ ?_))) <;> (first | omega | (simp; done) | (simp <;> omega))))
  have hz12 : w8.heap.size ≤ w12.heap.size := by omega
  clear hb_w12 HK11 HN11 HR11
  go_wp2_with fail
  -- own blocks besides: w12.heap.size:2, w12.heap.size + 1:2
  (go_at_call 18; refine (HI2.out _ _ _ _ _ (OwnK.iat ((HK12.out.alloc _).alloc _)) (OwnN.vat ((HN12.out.alloc _).alloc _))).mono ?_; rintro e w13 ⟨rfl, hb_w13⟩; have hz_w13 := hb_w13.size; (try simp at hz_w13); (with_reducible apply cel6 (b := w.heap.size) hb_w13); (focus ((try simp) <;> omega)); (focus omega); (focus (go_simp; try exact rfl)); (focus (go_simp; try exact rfl)); (focus (go_simp; try exact rfl)); (focus (go_simp; try exact rfl)); (focus (go_simp; try exact rfl)); (focus (go_simp; try exact rfl)); (focus (intro o; go_simp)); intro cc cc cc cc cc cc fz hl; (with_reducible apply cel2 (b := w.heap.size + 1) hb_w13); (focus ((try simp) <;> omega)); (focus omega); (focus (go_simp; try exact rfl)); (focus (go_simp; try exact rfl)); (focus (intro o; go_simp)); intro cc cc fz hl; (with_reducible apply cel14 (b := g_11) hb_w13); (focus ((try simp) <;> omega)); (focus omega); (focus (go_simp; try exact rfl)); (focus (go_simp; try exact rfl)); (focus (go_simp; try exact rfl)); (focus (go_simp; try exact rfl)); (focus (go_simp; try exact rfl)); (focus (go_simp; try exact rfl)); (focus (go_simp; try exact rfl)); (focus (go_simp; try exact rfl)); (focus (go_simp; try exact rfl)); (focus (go_simp; try exact rfl)); (focus (go_simp; try exact rfl)); (focus (go_simp; try exact rfl)); (focus (go_simp; try exact rfl)); (focus (go_simp; try exact rfl)); (focus (intro o; go_simp)); intro cc cc cc cc cc cc cc cc cc cc cc cc cc cc fz hl; (with_reducible apply cel14 (b := g_15) hb_w13); (focus ((try simp) <;> omega)); (focus omega); (focus (go_simp; try exact rfl)); (focus (go_simp; try exact rfl)); (focus (go_simp; try exact rfl)); (focus (go_simp; try exact rfl)); (focus (go_simp; try exact rfl)); (focus (go_simp; try exact rfl)); (focus (go_simp; try exact rfl)); (focus (go_simp; try exact rfl)); (focus (go_simp; try exact rfl)); (focus (go_simp; try exact rfl)); (focus (go_simp; try exact rfl)); (focus (go_simp; try exact rfl)); (focus (go_simp; try exact rfl)); (focus (go_simp; try exact rfl)); (focus (intro o; go_simp)); intro cc cc cc cc cc cc cc cc cc cc cc cc cc cc fz hl; (with_reducible apply cel2 (b := w12.heap.size) hb_w13); (focus ((try simp) <;> omega)); (focus omega); (focus (go_simp; try exact rfl)); (focus (go_simp; try exact rfl)); (focus (intro o; go_simp)); intro cc cc fz hl; (with_reducible apply cel2 (b := w12.heap.size + 1) hb_w13); (focus ((try simp) <;> omega)); (focus omega); (focus (go_simp; try exact rfl)); (focus (go_simp; try exact rfl)); (focus (intro o; go_simp)); intro cc cc fz hl)
  have HB13 := Lib.hid (show Below w.heap.size w w13 by have hB := HB12.out; ((with_reducible (repeat (first | exact bR _ _ | refine bS ?_ ?_ _ | refine bA ?_ ?_ _ | refine bD ?_ | refine bT ?_ (by assumption) ?_ | refine bO (by assumption) ?_ ?_))) <;> (first | omega | (simp; done) | (simp <;> omega))))
  clear hb_w13 HK12 HN12
  go_wp2_with fail
  -- own blocks besides: w13.heap.size:2, w13.heap.size + 1:2
  (refine pin_wp (N := _) (Nat.le_refl _) (fun w14 hb_w14 hz_w14 => ?_); (try simp at hz_w14); (with_reducible apply cel6 (b := w.heap.size) hb_w14); (focus ((try simp) <;> omega)); (focus omega); (focus (go_simp; try exact rfl)); (focus (go_simp; try exact rfl)); (focus (go_simp; try exact rfl)); (focus (go_simp; try exact rfl)); (focus (go_simp; try exact rfl)); (focus (go_simp; try exact rfl)); (focus (intro o; go_simp)); intro cc cc cc cc cc cc fz hl; (with_reducible apply cel2 (b := w.heap.size + 1) hb_w14); (focus ((try simp) <;> omega)); (focus omega); (focus (go_simp; try exact rfl)); (focus (go_simp; try exact rfl)); (focus (intro o; go_simp)); intro cc cc fz hl; (with_reducible apply cel14 (b := g_11) hb_w14); (focus ((try simp) <;> omega)); (focus omega); (focus (go_simp; try exact rfl)); (focus (go_simp; try exact rfl)); (focus (go_simp; try exact rfl)); (focus (go_simp; try exact rfl)); (focus (go_simp; try exact rfl)); (focus (go_simp; try exact rfl)); (focus (go_simp; try exact rfl)); (focus (go_simp; try exact rfl)); (focus (go_simp; try exact rfl)); (focus (go_simp; try exact rfl)); (focus (go_simp; try exact rfl)); (focus (go_simp; try exact rfl)); (focus (go_simp; try exact rfl)); (focus (go_simp; try exact rfl)); (focus (intro o; go_simp)); intro cc cc cc cc cc cc cc cc cc cc cc cc cc cc fz hl; (with_reducible apply cel14 (b := g_15) hb_w14); (focus ((try simp) <;> omega)); (focus omega); (focus (go_simp; try exact rfl)); (focus (go_simp; try exact rfl)); (focus (go_simp; try exact rfl)); (focus (go_simp; try exact rfl)); (focus (go_simp; try exact rfl)); (focus (go_simp; try exact rfl)); (focus (go_simp; try exact rfl)); (focus (go_simp; try exact rfl)); (focus (go_simp; try exact rfl)); (focus (go_simp; try exact rfl)); (focus (go_simp; try exact rfl)); (focus (go_simp; try exact rfl)); (focus (go_simp; try exact rfl)); (focus (go_simp; try exact rfl)); (focus (intro o; go_simp)); intro cc cc cc cc cc cc cc cc cc cc cc cc cc cc fz hl; (with_reducible apply cel2 (b := w12.heap.size) hb_w14); (focus ((try simp) <;> omega)); (focus omega); (focus (go_simp; try exact rfl)); (focus (go_simp; try exact rfl)); (focus (intro o; go_simp)); intro cc cc fz hl; (with_reducible apply cel2 (b := w12.heap.size + 1) hb_w14); (focus ((try simp) <;> omega)); (focus omega); (focus (go_simp; try exact rfl)); (focus (go_simp; try exact rfl)); (focus (intro o; go_simp)); intro cc cc fz hl; (with_reducible apply cel2 (b := w13.heap.size) hb_w14); (focus ((try simp) <;> omega)); (focus omega); (focus (go_simp; try exact rfl)); (focus (go_simp; try exact rfl)); (focus (intro o; go_simp)); intro cc cc fz hl; (with_reducible apply cel2 (b := w13.heap.size + 1) hb_w14); (focus ((try simp) <;> omega)); (focus omega); (focus (go_simp; try exact rfl)); (focus (go_simp; try exact rfl)); (focus (intro o; go_simp)); intro cc cc fz hl); refine wp_region_floatQ w14.heap.size 17 [] (Nat.le_refl _) (fun _ => True) trivial Cl.tt (by kernel_rfl) (by kernel_rfl) ?_
  have HB14 := Lib.hid (show Below w.heap.size w w14 by have hB := HB13.out; ((with_reducible (repeat (first | exact bR _ _ | refine bS ?_ ?_ _ | refine bA ?_ ?_ _ | refine bD ?_ | refine bT ?_ (by assumption) ?_ | refine bO (by assumption) ?_ ?_))) <;> (first | omega | (simp; done) | (simp <;> omega))))
  clear hb_w14
  refine wpQI_start [0, 1, 2, 3, 4] ?_; (iterate 5 (first | (refine wpQI_off rfl (by kernel_rfl) rfl (fun K hK => ?_); go_simp; refine hK _ ?_; clear hK K) | ((first | apply wpQI_step rfl (by kernel_rfl) rfl | apply wpQI_on rfl (by kernel_rfl) rfl); (focus (intro W' hS; have hcS := hS.cells.1; have hfS := hS.cells.2; go_simp; (first | done | exact rfl | exact ⟨rfl, Below.refl _ _⟩ | (go_at_call 16; exact (HF4.out _).mono (fun _ _ h => ⟨h.1, h.2⟩)) | (go_simp; first | done | exact rfl | exact ⟨rfl, Below.refl _ _⟩)))); intro K hK; go_simp; (try go_bits); refine hK _ ?_; clear hK K))); refine wpQI_nil ?_
  refine wpQI_start [5, 6, 7, 8, 9] ?_; (iterate 5 (first | (refine wpQI_off rfl (by kernel_rfl) rfl (fun K hK => ?_); go_simp; refine hK _ ?_; clear hK K) | ((first | apply wpQI_step rfl (by kernel_rfl) rfl | apply wpQI_on rfl (by kernel_rfl) rfl); (focus (intro W' hS; have hcS := hS.cells.1; have hfS := hS.cells.2; go_simp; (first | done | exact rfl | exact ⟨rfl, Below.refl _ _⟩ | (go_at_call 16; exact (HF5.out _).mono (fun _ _ h => ⟨h.1, h.2⟩)) | (go_simp; first | done | exact rfl | exact ⟨rfl, Below.refl _ _⟩)))); intro K hK; go_simp; (try go_bits); refine hK _ ?_; clear hK K))); refine wpQI_nil ?_
  refine wpQI_start [10, 11, 12, 13, 14, 15, 16] ?_; (iterate 7 (first | (refine wpQI_off rfl (by kernel_rfl) rfl (fun K hK => ?_); go_simp; refine hK _ ?_; clear hK K) | ((first | apply wpQI_step rfl (by kernel_rfl) rfl | apply wpQI_on rfl (by kernel_rfl) rfl); (focus (intro W' hS; have hcS := hS.cells.1; have hfS := hS.cells.2; go_simp; (first | done | exact rfl | exact ⟨rfl, Below.refl _ _⟩ | (go_simp; first | done | exact rfl | exact ⟨rfl, Below.refl _ _⟩)))); intro K hK; go_simp; (try go_bits); refine hK _ ?_; clear hK K))); refine wpQI_nil ?_
  refine wpQ_done (by kernel_rfl) ?_
  intro w15 hF_w15 hSG
  have hz_w15 := hSG.1.1
  have hb_w15 := hSG.1.2
  clear hSG
  (with_reducible apply cel6 (b := w.heap.size) hb_w15); (focus ((try simp) <;> omega)); (focus omega); (focus (go_simp; try exact rfl)); (focus (go_simp; try exact rfl)); (focus (go_simp; try exact rfl)); (focus (go_simp; try exact rfl)); (focus (go_simp; try exact rfl)); (focus (go_simp; try exact rfl)); (focus (intro o; go_simp)); intro cc cc cc cc cc cc fz hl; (with_reducible apply cel2 (b := w.heap.size + 1) hb_w15); (focus ((try simp) <;> omega)); (focus omega); (focus (go_simp; try exact rfl)); (focus (go_simp; try exact rfl)); (focus (intro o; go_simp)); intro cc cc fz hl; (with_reducible apply cel14 (b := g_11) hb_w15); (focus ((try simp) <;> omega)); (focus omega); (focus (go_simp; try exact rfl)); (focus (go_simp; try exact rfl)); (focus (go_simp; try exact rfl)); (focus (go_simp; try exact rfl)); (focus (go_simp; try exact rfl)); (focus (go_simp; try exact rfl)); (focus (go_simp; try exact rfl)); (focus (go_simp; try exact rfl)); (focus (go_simp; try exact rfl)); (focus (go_simp; try exact rfl)); (focus (go_simp; try exact rfl)); (focus (go_simp; try exact rfl)); (focus (go_simp; try exact rfl)); (focus (go_simp; try exact rfl)); (focus (intro o; go_simp)); intro cc cc cc cc cc cc cc cc cc cc cc cc cc cc fz hl; (with_reducible apply cel14 (b := g_15) hb_w15); (focus ((try simp) <;> omega)); (focus omega); (focus (go_simp; try exact rfl)); (focus (go_simp; try exact rfl)); (focus (go_simp; try exact rfl)); (focus (go_simp; try exact rfl)); (focus (go_simp; try exact rfl)); (focus (go_simp; try exact rfl)); (focus (go_simp; try exact rfl)); (focus (go_simp; try exact rfl)); (focus (go_simp; try exact rfl)); (focus (go_simp; try exact rfl)); (focus (go_simp; try exact rfl)); (focus (go_simp; try exact rfl)); (focus (go_simp; try exact rfl)); (focus (go_simp; try exact rfl)); (focus (intro o; go_simp)); intro cc cc cc cc cc cc cc cc cc cc cc cc cc cc fz hl; (with_reducible apply cel2 (b := w12.heap.size) hb_w15); (focus ((try simp) <;> omega)); (focus omega); (focus (go_simp; try exact rfl)); (focus (go_simp; try exact rfl)); (focus (intro o; go_simp)); intro cc cc fz hl; (with_reducible apply cel2 (b := w12.heap.size + 1) hb_w15); (focus ((try simp) <;> omega)); (focus omega); (focus (go_simp; try exact rfl)); (focus (go_simp; try exact rfl)); (focus (intro o; go_simp)); intro cc cc fz hl; (with_reducible apply cel2 (b := w13.heap.size) hb_w15); (focus ((try simp) <;> omega)); (focus omega); (focus (go_simp; try exact rfl)); (focus (go_simp; try exact rfl)); (focus (intro o; go_simp)); intro cc cc fz hl; (with_reducible apply cel2 (b := w13.heap.size + 1) hb_w15); (focus ((try simp) <;> omega)); (focus omega); (focus (go_simp; try exact rfl)); (focus (go_simp; try exact rfl)); (focus (intro o; go_simp)); intro cc cc fz hl
  (try simp only [List.filterMap_cons, List.filterMap_nil, List.getElem?_cons_succ, List.getElem?_cons_zero])
  have HB15 := Lib.hid (show Below w.heap.size w w15 from HB14.out.trans (hb_w15.mono (by have := HB14.out.size; omega)))
  clear hb_w15 hF_w15
  rcases HC.out with ⟨rfl, eR⟩ | ⟨rfl, d1, d2, d3⟩
  · simp only [Prod.mk.injEq] at eR
    obtain ⟨⟨rfl, rfl⟩, rfl, rfl⟩ := eR
    go_wp2_with fail
    go_ret
    exact ⟨rfl, by have hB := HB15.out; ((with_reducible (repeat (first | exact bR _ _ | refine bS ?_ ?_ _ | refine bA ?_ ?_ _ | refine bD ?_ | refine bT ?_ (by assumption) ?_ | refine bO (by assumption) ?_ ?_))) <;> (first | omega | (simp; done) | (simp <;> omega)))⟩
  · go_wp2_with fail
    (refine pin_wp (N := _) (Nat.le_refl _) (fun w16 hb_w16 hz_w16 => ?_); (try simp at hz_w16); (with_reducible apply cel6 (b := w.heap.size) hb_w16); (focus ((try simp) <;> omega)); (focus omega); (focus (go_simp; try exact rfl)); (focus (go_simp; try exact rfl)); (focus (go_simp; try exact rfl)); (focus (go_simp; try exact rfl)); (focus (go_simp; try exact rfl)); (focus (go_simp; try exact rfl)); (focus (intro o; go_simp)); intro cc cc cc cc cc cc fz hl; (with_reducible apply cel2 (b := w.heap.size + 1) hb_w16); (focus ((try simp) <;> omega)); (focus omega); (focus (go_simp; try exact rfl)); (focus (go_simp; try exact rfl)); (focus (intro o; go_simp)); intro cc cc fz hl; (with_reducible apply cel14 (b := g_11) hb_w16); (focus ((try simp) <;> omega)); (focus omega); (focus (go_simp; try exact rfl)); (focus (go_simp; try exact rfl)); (focus (go_simp; try exact rfl)); (focus (go_simp; try exact rfl)); (focus (go_simp; try exact rfl)); (focus (go_simp; try exact rfl)); (focus (go_simp; try exact rfl)); (focus (go_simp; try exact rfl)); (focus (go_simp; try exact rfl)); (focus (go_simp; try exact rfl)); (focus (go_simp; try exact rfl)); (focus (go_simp; try exact rfl)); (focus (go_simp; try exact rfl)); (focus (go_simp; try exact rfl)); (focus (intro o; go_simp)); intro cc cc cc cc cc cc cc cc cc cc cc cc cc cc fz hl; (with_reducible apply cel14 (b := g_15) hb_w16); (focus ((try simp) <;> omega)); (focus omega); (focus (go_simp; try exact rfl)); (focus (go_simp; try exact rfl)); (focus (go_simp; try exact rfl)); (focus (go_simp; try exact rfl)); (focus (go_simp; try exact rfl)); (focus (go_simp; try exact rfl)); (focus (go_simp; try exact rfl)); (focus (go_simp; try exact rfl)); (focus (go_simp; try exact rfl)); (focus (go_simp; try exact rfl)); (focus (go_simp; try exact rfl)); (focus (go_simp; try exact rfl)); (focus (go_simp; try exact rfl)); (focus (go_simp; try exact rfl)); (focus (intro o; go_simp)); intro cc cc cc cc cc cc cc cc cc cc cc cc cc cc fz hl; (with_reducible apply cel2 (b := w12.heap.size) hb_w16); (focus ((try simp) <;> omega)); (focus omega); (focus (go_simp; try exact rfl)); (focus (go_simp; try exact rfl)); (focus (intro o; go_simp)); intro cc cc fz hl; (with_reducible apply cel2 (b := w12.heap.size + 1) hb_w16); (focus ((try simp) <;> omega)); (focus omega); (focus (go_simp; try exact rfl)); (focus (go_simp; try exact rfl)); (focus (intro o; go_simp)); intro cc cc fz hl; (with_reducible apply cel2 (b := w13.heap.size) hb_w16); (focus ((try simp) <;> omega)); (focus omega); (focus (go_simp; try exact rfl)); (focus (go_simp; try exact rfl)); (focus (intro o; go_simp)); intro cc cc fz hl; (with_reducible apply cel2 (b := w13.heap.size + 1) hb_w16); (focus ((try simp) <;> omega)); (focus omega); (focus (go_simp; try exact rfl)); (focus (go_simp; try exact rfl)); (focus (intro o; go_simp)); intro cc cc fz hl); refine wp_region_floatQ w16.heap.size 24 [] (Nat.le_refl _) (fun _ => True) trivial Cl.tt (by kernel_rfl) (by kernel_rfl) ?_
    have HB16 := Lib.hid (show Below w.heap.size w w16 by have hB := HB15.out; ((with_reducible (repeat (first | exact bR _ _ | refine bS ?_ ?_ _ | refine bA ?_ ?_ _ | refine bD ?_ | refine bT ?_ (by assumption) ?_ | refine bO (by assumption) ?_ ?_))) <;> (first | omega | (simp; done) | (simp <;> omega))))
    clear hb_w16
    refine wpQI_start [0, 1, 2, 3, 4, 5, 6] ?_; (iterate 7 (first | (refine wpQI_off rfl (by kernel_rfl) rfl (fun K hK => ?_); go_simp; refine hK _ ?_; clear hK K) | ((first | apply wpQI_step rfl (by kernel_rfl) rfl | apply wpQI_on rfl (by kernel_rfl) rfl); (focus (intro W' hS; have hcS := hS.cells.1; have hfS := hS.cells.2; go_simp; (first | done | exact rfl | exact ⟨rfl, Below.refl _ _⟩ | (go_at_call 19; exact (HD1.out _).mono (fun _ _ h => ⟨h.1, h.2⟩)) | (go_simp; first | done | exact rfl | exact ⟨rfl, Below.refl _ _⟩)))); intro K hK; go_simp; (try go_bits); refine hK _ ?_; clear hK K))); refine wpQI_nil ?_
    refine wpQI_start [7, 8, 9, 10, 11, 12, 13, 14] ?_; (iterate 8 (first | (refine wpQI_off rfl (by kernel_rfl) rfl (fun K hK => ?_); go_simp; refine hK _ ?_; clear hK K) | ((first | apply wpQI_step rfl (by kernel_rfl) rfl | apply wpQI_on rfl (by kernel_rfl) rfl); (focus (intro W' hS; have hcS := hS.cells.1; have hfS := hS.cells.2; go_simp; (first | done | exact rfl | exact ⟨rfl, Below.refl _ _⟩ | (go_at_call 19; exact (HD2.out _).mono (fun _ _ h => ⟨h.1, h.2⟩)) | (go_simp; first | done | exact rfl | exact ⟨rfl, Below.refl _ _⟩)))); intro K hK; go_simp; (try go_bits); refine hK _ ?_; clear hK K))); refine wpQI_nil ?_
    refine wpQI_start [15, 16, 17, 18] ?_; (iterate 4 (first | (refine wpQI_off rfl (by kernel_rfl) rfl (fun K hK => ?_); go_simp; refine hK _ ?_; clear hK K) | ((first | apply wpQI_step rfl (by kernel_rfl) rfl | apply wpQI_on rfl (by kernel_rfl) rfl); (focus (intro W' hS; have hcS := hS.cells.1; have hfS := hS.cells.2; go_simp; (first | done | exact rfl | exact ⟨rfl, Below.refl _ _⟩ | (go_at_call 20; exact (HSB.out _).mono (fun _ _ h => ⟨h.1, h.2⟩)) | (go_simp; first | done | exact rfl | exact ⟨rfl, Below.refl _ _⟩)))); intro K hK; go_simp; (try go_bits); refine hK _ ?_; clear hK K))); refine wpQI_nil ?_
    refine wpQI_start [19, 20, 21, 22, 23] ?_; (iterate 5 (first | (refine wpQI_off rfl (by kernel_rfl) rfl (fun K hK => ?_); go_simp; refine hK _ ?_; clear hK K) | ((first | apply wpQI_step rfl (by kernel_rfl) rfl | apply wpQI_on rfl (by kernel_rfl) rfl); (focus (intro W' hS; have hcS := hS.cells.1; have hfS := hS.cells.2; go_simp; (first | done | exact rfl | exact ⟨rfl, Below.refl _ _⟩ | (go_at_call 19; exact (HD3.out _).mono (fun _ _ h => ⟨h.1, h.2⟩)) | (go_simp; first | done | exact rfl | exact ⟨rfl, Below.refl _ _⟩)))); intro K hK; go_simp; (try go_bits); refine hK _ ?_; clear hK K))); refine wpQI_nil ?_
    refine wpQ_done (by kernel_rfl) ?_
    intro w17 hF_w17 hSG
    have hz_w17 := hSG.1.1
    have hb_w17 := hSG.1.2
    clear hSG
    (with_reducible apply cel6 (b := w.heap.size) hb_w17); (focus ((try simp) <;> omega)); (focus omega); (focus (go_simp; try exact rfl)); (focus (go_simp; try exact rfl)); (focus (go_simp; try exact rfl)); (focus (go_simp; try exact rfl)); (focus (go_simp; try exact rfl)); (focus (go_simp; try exact rfl)); (focus (intro o; go_simp)); intro cc cc cc cc cc cc fz hl; (with_reducible apply cel2 (b := w.heap.size + 1) hb_w17); (focus ((try simp) <;> omega)); (focus omega); (focus (go_simp; try exact rfl)); (focus (go_simp; try exact rfl)); (focus (intro o; go_simp)); intro cc cc fz hl; (with_reducible apply cel14 (b := g_11) hb_w17); (focus ((try simp) <;> omega)); (focus omega); (focus (go_simp; try exact rfl)); (focus (go_simp; try exact rfl)); (focus (go_simp; try exact rfl)); (focus (go_simp; try exact rfl)); (focus (go_simp; try exact rfl)); (focus (go_simp; try exact rfl)); (focus (go_simp; try exact rfl)); (focus (go_simp; try exact rfl)); (focus (go_simp; try exact rfl)); (focus (go_simp; try exact rfl)); (focus (go_simp; try exact rfl)); (focus (go_simp; try exact rfl)); (focus (go_simp; try exact rfl)); (focus (go_simp; try exact rfl)); (focus (intro o; go_simp)); intro cc cc cc cc cc cc cc cc cc cc cc cc cc cc fz hl; (with_reducible apply cel14 (b := g_15) hb_w17); (focus ((try simp) <;> omega)); (focus omega); (focus (go_simp; try exact rfl)); (focus (go_simp; try exact rfl)); (focus (go_simp; try exact rfl)); (focus (go_simp; try exact rfl)); (focus (go_simp; try exact rfl)); (focus (go_simp; try exact rfl)); (focus (go_simp; try exact rfl)); (focus (go_simp; try exact rfl)); (focus (go_simp; try exact rfl)); (focus (go_simp; try exact rfl)); (focus (go_simp; try exact rfl)); (focus (go_simp; try exact rfl)); (focus (go_simp; try exact rfl)); (focus (go_simp; try exact rfl)); (focus (intro o; go_simp)); intro cc cc cc cc cc cc cc cc cc cc cc cc cc cc fz hl; (with_reducible apply cel2 (b := w12.heap.size) hb_w17); (focus ((try simp) <;> omega)); (focus omega); (focus (go_simp; try exact rfl)); (focus (go_simp; try exact rfl)); (focus (intro o; go_simp)); intro cc cc fz hl; (with_reducible apply cel2 (b := w12.heap.size + 1) hb_w17); (focus ((try simp) <;> omega)); (focus omega); (focus (go_simp; try exact rfl)); (focus (go_simp; try exact rfl)); (focus (intro o; go_simp)); intro cc cc fz hl; (with_reducible apply cel2 (b := w13.heap.size) hb_w17); (focus ((try simp) <;> omega)); (focus omega); (focus (go_simp; try exact rfl)); (focus (go_simp; try exact rfl)); (focus (intro o; go_simp)); intro cc cc fz hl; (with_reducible apply cel2 (b := w13.heap.size + 1) hb_w17); (focus ((try simp) <;> omega)); (focus omega); (focus (go_simp; try exact rfl)); (focus (go_simp; try exact rfl)); (focus (intro o; go_simp)); intro cc cc fz hl
    (try simp only [List.filterMap_cons, List.filterMap_nil, List.getElem?_cons_succ, List.getElem?_cons_zero])
    have HB17 := Lib.hid (show Below w.heap.size w w17 from HB16.out.trans (hb_w17.mono (by have := HB16.out.size; omega)))
    clear hb_w17 hF_w17
    go_wp2_with fail
    go_ret
    exact ⟨rfl, by have hB := HB17.out; ((with_reducible (repeat (first | exact bR _ _ | refine bS ?_ ?_ _ | refine bA ?_ ?_ _ | refine bD ?_ | refine bT ?_ (by assumption) ?_ | refine bO (by assumption) ?_ ?_))) <;> (first | omega | (simp; done) | (simp <;> omega)))⟩
end Go.Proofs.Ytklkhnhieihfoaa
