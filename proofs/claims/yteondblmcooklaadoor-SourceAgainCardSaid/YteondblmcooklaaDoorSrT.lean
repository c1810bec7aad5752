/- The contract of the reference's statement. -/
import Derived.Test.YteondblmcooklaaDoorSrS
namespace Go.Proofs.YteondblmcooklaaDoor
open Go Go.RowKit
set_option linter.unusedVariables false
set_option maxRecDepth 100000 in
set_option maxHeartbeats 8000000 in
theorem rstatement_any (w : World) (rb N i e c : Nat) (A : Option Addr) (L : List WV) (h : RRd w rb N A L i e c) (hi : i < L.length) :
    Calls Tryd.prog 28 #[.pointer (some ⟨rb, 0, none⟩)] w (StOut rb N e A L c (itemF e (L.drop i)) w) := by
  obtain ⟨⟨kd, tx, nm, pl⟩, hx⟩ : ∃ x, L[i]? = some x := ⟨L[i], by simp⟩
  rw [drop_get hx]
  obtain ⟨R, hRe⟩ : ∃ R, R = itemF e (⟨kd, tx, nm, pl⟩ :: L.drop (i + 1)) := ⟨_, rfl⟩
  have HR := Lib.hid hRe
  rw [← hRe]
  clear hRe
  have hrb := h.lt
  have hnle := h.nle
  have hLl := h.len
  obtain ⟨g, o, rfl, hg, c0, c1, c2, c3⟩ := h.ws.get hx
  simp only at c0 c1 c2 c3
  go_enter Tryd.func28, Tryd.ntmps28; (try simp only [List.append_eq, List.cons_append, List.nil_append])
  go_wp2_with fail
  obtain ⟨w0, hE_w0⟩ : ∃ z, z = w.alloc (.cells #[.string ⟨#[]⟩, .string ⟨#[]⟩, .slice none 0 0, .int .i64 0] 43) := ⟨_, rfl⟩
  have hr0 : RRd w0 rb N (some ⟨g, o, none⟩) L i e c := by rw [hE_w0]; exact h.alloc _
  have hz0 : w.heap.size + 1 ≤ w0.heap.size := by rw [hE_w0]; exact by simp
  have hZ0 : C4 w0 w.heap.size (.string ⟨#[]⟩) (.string ⟨#[]⟩) (.slice none 0 0) (.int .i64 0) := by rw [hE_w0]; exact C4.new w _ _ _ _ _
  have hB0 : But rb w w0 := by rw [hE_w0]; exact (But.refl rb w).alloc _
  rw [← hE_w0]
  clear hE_w0
  clear h c0 c1 c2 c3
  obtain ⟨_, c0, c1, c2, c3⟩ := hr0.ws.get' hx
  simp only at c0 c1 c2 c3
  have q0 := hr0.hw
  have q1 := hr0.hi
  have hrl0 := hr0.lt
  have hgl0 : g < w0.heap.size := by omega
  have i1 : (i : Int) < (L.length : Int) := by omega
  refine wp_region_floatQ w0.heap.size 15 [15] (Nat.le_refl _) (fun _ => True) trivial Cl.tt (by kernel_rfl) (by kernel_rfl) ?_
  -- own blocks: 
  refine wpQI_start [0, 1, 2, 3, 4, 5, 6, 7, 8, 9, 10, 11, 12] ?_; (iterate 13 (first | (refine wpQI_off (by with_reducible (refine List.getElem?_toArray.trans ?_; (repeat (first | exact List.getElem?_cons_zero | refine List.getElem?_cons_succ.trans ?_)))) (by kernel_rfl) (by exact rfl) (fun K hK => ?_); go_simp; refine hK _ ?_; clear hK K) | ((first | apply wpQI_step (by with_reducible (refine List.getElem?_toArray.trans ?_; (repeat (first | exact List.getElem?_cons_zero | refine List.getElem?_cons_succ.trans ?_)))) (by kernel_rfl) (by exact rfl) | apply wpQI_on (by with_reducible (refine List.getElem?_toArray.trans ?_; (repeat (first | exact List.getElem?_cons_zero | refine List.getElem?_cons_succ.trans ?_)))) (by kernel_rfl) (by exact rfl)); (focus (intro W' hS; have hcS := hS.cells.1; have hfS := hS.cells.2; go_simp; (first | done | exact rfl | exact ⟨rfl, Below.refl _ _⟩ | (go_at_call 27; exact (rat_at (hr0.below hS.2 (Nat.le_refl _)) hx).mono (fun _ _ h => ⟨h.1, h.2⟩)) | (go_simp; first | done | exact rfl | exact ⟨rfl, Below.refl _ _⟩)))); intro K hK; go_simp; (try go_bits); refine hK _ ?_; clear hK K))); refine wpQI_nil ?_
  refine wpQI_start [13] ?_; (iterate 1 (first | (refine wpQI_off (by with_reducible (refine List.getElem?_toArray.trans ?_; (repeat (first | exact List.getElem?_cons_zero | refine List.getElem?_cons_succ.trans ?_)))) (by kernel_rfl) (by exact rfl) (fun K hK => ?_); go_simp; refine hK _ ?_; clear hK K) | ((first | apply wpQI_step (by with_reducible (refine List.getElem?_toArray.trans ?_; (repeat (first | exact List.getElem?_cons_zero | refine List.getElem?_cons_succ.trans ?_)))) (by kernel_rfl) (by exact rfl) | apply wpQI_on (by with_reducible (refine List.getElem?_toArray.trans ?_; (repeat (first | exact List.getElem?_cons_zero | refine List.getElem?_cons_succ.trans ?_)))) (by kernel_rfl) (by exact rfl)); (focus (intro W' hS; have hcS := hS.cells.1; have hfS := hS.cells.2; go_simp; (first | done | exact rfl | exact ⟨rfl, Below.refl _ _⟩ | (go_simp; first | done | exact rfl | exact ⟨rfl, Below.refl _ _⟩)))); intro K hK; go_simp; (try go_bits); refine hK _ ?_; clear hK K))); refine wpQI_nil ?_
  apply wpQ_fresh (i := 14) LInv.std (by with_reducible (refine List.getElem?_toArray.trans ?_; (repeat (first | exact List.getElem?_cons_zero | refine List.getElem?_cons_succ.trans ?_)))) (by kernel_rfl) (fun g => Value.pointer (some ⟨g, 0, none⟩)) (by exact rfl); (focus (intro W; go_simp; first | done | exact rfl | exact ⟨rfl, rfl⟩))
  intro g_x hN_x hG_x K hK
  go_simp; refine hK _ ?_; clear hK K
  refine wpQ_done (by kernel_rfl) ?_
  intro w1 hF_w1 hSG
  have hz_w1 := hSG.1.1
  have hb_w1 := hSG.1.2
  have hB_x := (hSG.2 _ (List.mem_cons_self ..)).2; simp only at hB_x; have hl_x := (hSG.size (List.mem_cons_self ..)); simp only at hl_x
  have cc := cell_of_row w1 g_x 0 _ _ _ hB_x; simp only [List.getElem?_toArray, List.getElem?_cons_zero] at cc
  have cc := cell_of_row w1 g_x 1 _ _ _ hB_x; simp only [List.getElem?_toArray, List.getElem?_cons_zero, List.getElem?_cons_succ] at cc
  have cc := cell_of_row w1 g_x 2 _ _ _ hB_x; simp only [List.getElem?_toArray, List.getElem?_cons_zero, List.getElem?_cons_succ] at cc
  have cc := cell_of_row w1 g_x 3 _ _ _ hB_x; simp only [List.getElem?_toArray, List.getElem?_cons_zero, List.getElem?_cons_succ] at cc
  have fz : (∀ o, w1.frozen? ⟨g_x, o, none⟩ = false) := (fun o => frozen_of_row w1 g_x o _ _ hB_x); have HH_x := Lib.hid hB_x; clear hB_x
  clear hSG
  skip
  (try simp only [List.filterMap_cons, List.filterMap_nil, List.getElem?_cons_succ, List.getElem?_cons_zero])
  have hr1 := hr0.below hb_w1 (Nat.le_refl _)
  have hXz := hN_x
  go_wp2_with fail
  obtain ⟨w2, hE_w2⟩ : ∃ z, z = (((w1.setCell ⟨g_x, 0, none⟩ (.string tx)).setCell ⟨g_x, 1, none⟩ (.string ⟨#[]⟩)).setCell ⟨g_x, 2, none⟩ (.slice none 0 0)).setCell ⟨g_x, 3, none⟩ (.int .i64 pl) := ⟨_, rfl⟩
  have hr2 : RRd w2 rb N (some ⟨g, o, none⟩) L i e c := by rw [hE_w2]; exact (((hr1.set (p := ⟨g_x, 0, none⟩) _ (by show rb < g_x; omega)).set (p := ⟨g_x, 1, none⟩) _ (by show rb < g_x; omega)).set (p := ⟨g_x, 2, none⟩) _ (by show rb < g_x; omega)).set (p := ⟨g_x, 3, none⟩) _ (by show rb < g_x; omega)
  have hX2 : C4 w2 g_x (.string tx) (.string ⟨#[]⟩) (.slice none 0 0) (.int .i64 pl) := by rw [hE_w2]; exact ⟨by go_simp, by go_simp, by go_simp, by go_simp, fun o => by go_simp, by simpa using hl_x⟩
  have hZ2 : C4 w2 w.heap.size (.string ⟨#[]⟩) (.string ⟨#[]⟩) (.slice none 0 0) (.int .i64 0) := by rw [hE_w2]; exact ((((hZ0.below hb_w1 (by omega)).low (p := ⟨g_x, 0, none⟩) (by show g_x ≠ _; omega) _).low (p := ⟨g_x, 1, none⟩) (by show g_x ≠ _; omega) _).low (p := ⟨g_x, 2, none⟩) (by show g_x ≠ _; omega) _).low (p := ⟨g_x, 3, none⟩) (by show g_x ≠ _; omega) _
  have hB2 : But rb w w2 := by rw [hE_w2]; exact ((((hB0.below hb_w1 (by omega)).set (p := ⟨g_x, 0, none⟩) _ (.inr (by show w.heap.size ≤ g_x; omega))).set (p := ⟨g_x, 1, none⟩) _ (.inr (by show w.heap.size ≤ g_x; omega))).set (p := ⟨g_x, 2, none⟩) _ (.inr (by show w.heap.size ≤ g_x; omega))).set (p := ⟨g_x, 3, none⟩) _ (.inr (by show w.heap.size ≤ g_x; omega))
  rw [← hE_w2]
  clear hE_w2
  have HGX := Lib.hid (show w.heap.size + 1 ≤ g_x by omega)
  clear hr0 hZ0 hB0 hr1 c0 c1 c2 c3 q0 q1
  (go_at_call 32; refine (keys_tup _ _).mono ?_; rintro e w3 ⟨hb_w3, u5, u6, rfl⟩)
  have hr3 := hr2.below hb_w3 (Nat.le_refl _)
  have hX3 := hX2.below hb_w3 hX2.lt
  have hZ3 := hZ2.below hb_w3 hZ2.lt
  have hB3 := hB2.below hb_w3 hB2.size
  clear hr2 hX2 hZ2 hB2 hb_w3
  go_wp2_with fail
  (go_at_call 43; refine (rkind_at hr3 hx).mono ?_; rintro e w4 ⟨rfl, hb_w4⟩)
  have hr4 := hr3.below hb_w4 (Nat.le_refl _)
  have hX4 := hX3.below hb_w4 hX3.lt
  have hZ4 := hZ3.below hb_w4 hZ3.lt
  have hB4 := hB3.below hb_w4 hB3.size
  clear hr3 hX3 hZ3 hB3 hb_w4
  obtain ⟨y0, y1, y2, y3, yz, yl⟩ := id hX4
  obtain ⟨z0, z1, z2, z3, zz, zl⟩ := id hZ4
  have q0 := hr4.hw
  have q1 := hr4.hi
  have qz := hr4.fz
  have ql := hr4.lt
  by_cases k1 : kd = 1
  · subst k1
    cases hw : isWord tx
    · obtain rfl : R = .err 4 pl := by rw [HR.out]; simp [itemF, hw]
      go_wp2_with fail
      refine bodyPost_ret (v := .tuple #[.agg #[.string tx, .string ⟨#[]⟩, .slice none 0 0, .int .i64 pl], .int .i64 4]) (by simp only [results, Tryd.results28]; go_simp) rfl ⟨?_, _, _, _, _, _, _, i, rfl, by omega, atR_at hx, ?_⟩
      · exact ((((hB4.set (p := ⟨w.heap.size, 0, none⟩) _ (.inr (Nat.le_refl _))).set (p := ⟨w.heap.size, 1, none⟩) _ (.inr (Nat.le_refl _))).set (p := ⟨w.heap.size, 2, none⟩) _ (.inr (Nat.le_refl _))).set (p := ⟨w.heap.size, 3, none⟩) _ (.inr (Nat.le_refl _)))
      · exact ((((hr4.set (p := ⟨w.heap.size, 0, none⟩) _ (by show rb < w.heap.size; omega)).set (p := ⟨w.heap.size, 1, none⟩) _ (by show rb < w.heap.size; omega)).set (p := ⟨w.heap.size, 2, none⟩) _ (by show rb < w.heap.size; omega)).set (p := ⟨w.heap.size, 3, none⟩) _ (by show rb < w.heap.size; omega))
    · have hwr : IntKind.i64.wrap ((i : Int) + 1) = ((i + 1 : Nat) : Int) := by rw [IntKind.wrap_i64]; omega
      have hi1 : i + 1 ≤ L.length := hi
      by_cases htab : tx = tTable
      · have b2 : (tx.toList == [116, 97, 98, 108, 101]) = true := txt_eqL htab
        have HQ : Hid (R = mkI tx ⟨#[]⟩ pl (keysF e tx ((L.drop (i + 1)).length + 1) [] (L.drop (i + 1)))) := Lib.hid (by rw [HR.out]; simp only [itemF]; rw [if_neg (by simp), if_neg (by simp [hw]), if_pos htab, restF_eq])
        clear htab
        go_wp2_with fail
        (first | refine pin_eq (fun w5 hE_w5 => ?_) | refine pin_callseq (fun w5 hE_w5 => ?_))
        have hr5 : RRd w5 rb N (some ⟨g, o, none⟩) L (i + 1) e c := by rw [hE_w5]; exact hr4.step' (i + 1) (by simp)
        have hX5 : C4 w5 g_x (.string tx) (.string ⟨#[]⟩) (.slice none 0 0) (.int .i64 pl) := by rw [hE_w5]; exact hX4.low (p := ⟨rb, 1, none⟩) (by show rb ≠ g_x; omega) _
        have hZ5 : C4 w5 w.heap.size (.string ⟨#[]⟩) (.string ⟨#[]⟩) (.slice none 0 0) (.int .i64 0) := by rw [hE_w5]; exact hZ4.low (p := ⟨rb, 1, none⟩) (by show rb ≠ w.heap.size; omega) _
        have hB5 : But rb w w5 := by rw [hE_w5]; exact hB4.set (p := ⟨rb, 1, none⟩) _ (.inl rfl)
        clear hE_w5
        clear y0 y1 y2 y3 yz yl z0 z1 z2 z3 zz zl q0 q1 qz ql b2 hw hwr HR hr4 hX4 hZ4 hB4
        go_loopg [] (L.length + 1) (fun gk wr => ∃ (j : Nat) (ks : List KV) (B : Option Addr) (d f : Nat), j ≤ L.length ∧ L.length - j < gk ∧ L.length - j < f ∧ ks.length ≤ j ∧ Hid (∀ k ∈ ks, k.vals.length ≤ 2) ∧ But rb w wr ∧ C4 wr w.heap.size (.string ⟨#[]⟩) (.string ⟨#[]⟩) (.slice none 0 0) (.int .i64 0) ∧ C4 wr g_x (.string tx) (.string ⟨#[]⟩) (.slice B ks.length d) (.int .i64 pl) ∧ Hid (KsOwn wr (g_x + 1) 72 B d ks) ∧ RRd wr rb N (some ⟨g, o, none⟩) L j e c ∧ Hid (R = mkI tx ⟨#[]⟩ pl (keysF e tx f ks (L.drop j))))
        case atStart => exact ⟨i + 1, [], none, 0, (L.drop (i + 1)).length + 1, by omega, by omega, by rw [List.length_drop]; omega, Nat.zero_le _, Lib.hid (by simp), hB5, hZ5, hX5, Lib.hid (KsOwn.nil _ _ _), hr5, HQ⟩
        case round =>
          obtain ⟨j, ks, B, d, f, hj, hjk, hjf, hkl, HV, hBr, hZr, hXr, HO, hrr, HJ⟩ := hrel
          obtain ⟨f, rfl⟩ : ∃ q, f = q + 1 := ⟨f - 1, by omega⟩
          clear hB5 hZ5 hX5 hr5 HQ
          have hrrl := hrr.lt
          have hgxl := hXr.lt
          go_wp2_with fail
          (go_at_call 43; refine (rkind_any _ _ _ _ _ _ _ _ hrr hj).mono ?_; rintro e w14 ⟨rfl, hb_w14⟩)
          have hr14 := hrr.below hb_w14 (Nat.le_refl _)
          have hX14 := hXr.below hb_w14 hXr.lt
          have hZ14 := hZr.below hb_w14 hZr.lt
          have hB14 := hBr.below hb_w14 hBr.size
          have hO14 : But rb wr w14 := But.of_below hb_w14 (Nat.le_refl _)
          have HO4 := Lib.hid (HO.out.below hb_w14 (Nat.le_refl _))
          have hs14 := hb_w14.size
          clear hrr hXr hZr hBr HO hb_w14
          obtain ⟨y0, y1, y2, y3, yz, yl⟩ := id hX14
          obtain ⟨z0, z1, z2, z3, zz, zl⟩ := id hZ14
          have q0 := hr14.hw
          have q1 := hr14.hi
          have qz := hr14.fz
          have ql := hr14.lt
          by_cases k3 : kdR L j = 3
          · obtain ⟨⟨kd3, t3, n3, p3⟩, hx3, hk3⟩ := kd_get k3 (by omega)
            simp only at hk3
            subst hk3
            have hj1 : j + 1 ≤ L.length := (List.getElem?_eq_some_iff.1 hx3).1
            obtain rfl : R = .ok ⟨tx, ⟨#[]⟩, ks, pl⟩ (L.drop (j + 1)) := by rw [HJ.out, drop_get hx3]; simp only [keysF]; rw [if_pos trivial]; rfl
            have hwr : IntKind.i64.wrap ((j : Int) + 1) = ((j + 1 : Nat) : Int) := by rw [IntKind.wrap_i64]; omega
            go_wp2_with fail
            refine bodyPost_ret (v := .tuple #[.agg #[.string tx, .string ⟨#[]⟩, .slice B ks.length d, .int .i64 pl], .int .i64 0]) (by simp only [results, Tryd.results28]; go_simp) rfl ⟨?_, B, d, j + 1, rfl, ?_, hj1, rfl, ?_⟩
            · exact (((((hB14.set (p := ⟨rb, 1, none⟩) _ (.inl rfl)).set (p := ⟨w.heap.size, 0, none⟩) _ (.inr (Nat.le_refl _))).set (p := ⟨w.heap.size, 1, none⟩) _ (.inr (Nat.le_refl _))).set (p := ⟨w.heap.size, 2, none⟩) _ (.inr (Nat.le_refl _))).set (p := ⟨w.heap.size, 3, none⟩) _ (.inr (Nat.le_refl _)))
            · exact ((((((HO4.out.but ((But.refl rb w14).set (p := ⟨rb, 1, none⟩) _ (.inl rfl)) (by omega))).low (p := ⟨w.heap.size, 0, none⟩) (by show w.heap.size < _; have := HGX.out; omega) _).low (p := ⟨w.heap.size, 1, none⟩) (by show w.heap.size < _; have := HGX.out; omega) _).low (p := ⟨w.heap.size, 2, none⟩) (by show w.heap.size < _; have := HGX.out; omega) _).low (p := ⟨w.heap.size, 3, none⟩) (by show w.heap.size < _; have := HGX.out; omega) _).weaker (by have := HGX.out; omega)
            · exact (((((hr14.step' (j + 1) (by simp)).set (p := ⟨w.heap.size, 0, none⟩) _ (by show rb < w.heap.size; omega)).set (p := ⟨w.heap.size, 1, none⟩) _ (by show rb < w.heap.size; omega)).set (p := ⟨w.heap.size, 2, none⟩) _ (by show rb < w.heap.size; omega)).set (p := ⟨w.heap.size, 3, none⟩) _ (by show rb < w.heap.size; omega))
          · by_cases k1 : kdR L j = 1
            · obtain ⟨⟨kd3, kt, kn, kp⟩, hxj, hk3⟩ := kd_get k1 (by omega)
              simp only at hk3
              subst hk3
              have hjl : j < L.length := (List.getElem?_eq_some_iff.1 hxj).1
              obtain ⟨_, c0, c1, c2, c3⟩ := hr14.ws.get' hxj
              simp only at c0 c1 c2 c3
              have hgl0 : g < w14.heap.size := by omega
              have i2 : (j : Int) < (L.length : Int) := by omega
              by_cases ha : arR tx kt < 0
              · obtain rfl : R = .err 4 kp := by rw [HJ.out, drop_get hxj]; simp only [keysF]; rw [if_neg (by simp), if_neg (by simp), if_pos ha]; rfl
                go_wp2_with fail
                refine wp_region_floatQ w14.heap.size 20 [] (Nat.le_refl _) (fun _ => True) trivial Cl.tt (by kernel_rfl) (by kernel_rfl) ?_
                -- own blocks: 
                refine wpQI_start [0, 1, 2, 3, 4, 5, 6, 7, 8, 9, 10, 11, 12, 13, 14, 15, 16, 17, 18, 19] ?_; (iterate 20 (first | (refine wpQI_off (by with_reducible (refine List.getElem?_toArray.trans ?_; (repeat (first | exact List.getElem?_cons_zero | refine List.getElem?_cons_succ.trans ?_)))) (by kernel_rfl) (by exact rfl) (fun K hK => ?_); go_simp; refine hK _ ?_; clear hK K) | ((first | apply wpQI_step (by with_reducible (refine List.getElem?_toArray.trans ?_; (repeat (first | exact List.getElem?_cons_zero | refine List.getElem?_cons_succ.trans ?_)))) (by kernel_rfl) (by exact rfl) | apply wpQI_on (by with_reducible (refine List.getElem?_toArray.trans ?_; (repeat (first | exact List.getElem?_cons_zero | refine List.getElem?_cons_succ.trans ?_)))) (by kernel_rfl) (by exact rfl)); (focus (intro W' hS; have hcS := hS.cells.1; have hfS := hS.cells.2; go_simp; (first | done | exact rfl | exact ⟨rfl, Below.refl _ _⟩ | (go_at_call 43; exact (rkind_any _ _ _ _ _ _ _ _ (hr14.below hS.2 (Nat.le_refl _)) hj).mono (fun _ _ h => ⟨h.1, h.2⟩)) | (go_at_call 18; exact (rarity_any _ _ _).mono (fun _ _ h => ⟨h.1, h.2⟩)) | (go_simp; first | done | exact rfl | exact ⟨rfl, Below.refl _ _⟩)))); intro K hK; go_simp; (try go_bits); refine hK _ ?_; clear hK K))); refine wpQI_nil ?_
                refine wpQ_done (by kernel_rfl) ?_
                intro w15 hF_w15 hSG
                have hz_w15 := hSG.1.1
                have hb_w15 := hSG.1.2
                clear hSG
                skip
                (try simp only [List.filterMap_nil])
                have hr15 := hr14.below hb_w15 (Nat.le_refl _)
                have hX15 := hX14.below hb_w15 hX14.lt
                have hZ15 := hZ14.below hb_w15 hZ14.lt
                have hB15 := hB14.below hb_w15 hB14.size
                have hO15 := hO14.below hb_w15 hO14.size
                clear y0 y1 y2 y3 yz yl z0 z1 z2 z3 zz zl q0 q1 qz ql c0 c1 c2 c3
                obtain ⟨y0, y1, y2, y3, yz, yl⟩ := id hX15
                obtain ⟨z0, z1, z2, z3, zz, zl⟩ := id hZ15
                have q0 := hr15.hw
                have q1 := hr15.hi
                have qz := hr15.fz
                have ql := hr15.lt
                go_wp2_with fail
                refine bodyPost_ret (v := .tuple #[.agg #[.string tx, .string ⟨#[]⟩, .slice B ks.length d, .int .i64 pl], .int .i64 4]) (by simp only [results, Tryd.results28]; go_simp) rfl ⟨?_, _, _, _, _, _, _, j, rfl, by omega, atR_at hxj, ?_⟩
                · exact ((((hB15.set (p := ⟨w.heap.size, 0, none⟩) _ (.inr (Nat.le_refl _))).set (p := ⟨w.heap.size, 1, none⟩) _ (.inr (Nat.le_refl _))).set (p := ⟨w.heap.size, 2, none⟩) _ (.inr (Nat.le_refl _))).set (p := ⟨w.heap.size, 3, none⟩) _ (.inr (Nat.le_refl _)))
                · exact ((((hr15.set (p := ⟨w.heap.size, 0, none⟩) _ (by show rb < w.heap.size; omega)).set (p := ⟨w.heap.size, 1, none⟩) _ (by show rb < w.heap.size; omega)).set (p := ⟨w.heap.size, 2, none⟩) _ (by show rb < w.heap.size; omega)).set (p := ⟨w.heap.size, 3, none⟩) _ (by show rb < w.heap.size; omega))
              · have na : decide (arR tx kt < 0) = false := decide_eq_false ha
                have HA : Hid (0 ≤ arR tx kt) := Lib.hid (Int.not_lt.1 ha)
                clear ha
                go_wp2_with fail
                refine wp_region_floatQ w14.heap.size 20 [] (Nat.le_refl _) (fun _ => True) trivial Cl.tt (by kernel_rfl) (by kernel_rfl) ?_
                -- own blocks: 
                refine wpQI_start [0, 1, 2, 3, 4, 5, 6, 7, 8, 9, 10, 11, 12, 13, 14, 15, 16, 17, 18, 19] ?_; (iterate 20 (first | (refine wpQI_off (by with_reducible (refine List.getElem?_toArray.trans ?_; (repeat (first | exact List.getElem?_cons_zero | refine List.getElem?_cons_succ.trans ?_)))) (by kernel_rfl) (by exact rfl) (fun K hK => ?_); go_simp; refine hK _ ?_; clear hK K) | ((first | apply wpQI_step (by with_reducible (refine List.getElem?_toArray.trans ?_; (repeat (first | exact List.getElem?_cons_zero | refine List.getElem?_cons_succ.trans ?_)))) (by kernel_rfl) (by exact rfl) | apply wpQI_on (by with_reducible (refine List.getElem?_toArray.trans ?_; (repeat (first | exact List.getElem?_cons_zero | refine List.getElem?_cons_succ.trans ?_)))) (by kernel_rfl) (by exact rfl)); (focus (intro W' hS; have hcS := hS.cells.1; have hfS := hS.cells.2; go_simp; (first | done | exact rfl | exact ⟨rfl, Below.refl _ _⟩ | (go_at_call 43; exact (rkind_any _ _ _ _ _ _ _ _ (hr14.below hS.2 (Nat.le_refl _)) hj).mono (fun _ _ h => ⟨h.1, h.2⟩)) | (go_at_call 18; exact (rarity_any _ _ _).mono (fun _ _ h => ⟨h.1, h.2⟩)) | (go_simp; first | done | exact rfl | exact ⟨rfl, Below.refl _ _⟩)))); intro K hK; go_simp; (try go_bits); refine hK _ ?_; clear hK K))); refine wpQI_nil ?_
                refine wpQ_done (by kernel_rfl) ?_
                intro w15 hF_w15 hSG
                have hz_w15 := hSG.1.1
                have hb_w15 := hSG.1.2
                clear hSG
                skip
                (try simp only [List.filterMap_nil])
                have hr15 := hr14.below hb_w15 (Nat.le_refl _)
                have hX15 := hX14.below hb_w15 hX14.lt
                have hZ15 := hZ14.below hb_w15 hZ14.lt
                have hB15 := hB14.below hb_w15 hB14.size
                have hO15 := hO14.below hb_w15 hO14.size
                have HO5 := Lib.hid (HO4.out.below hb_w15 (Nat.le_refl _))
                have hs15 := hb_w15.size
                clear hr14 hX14 hZ14 hB14 hO14 HO4 hb_w15
                clear y0 y1 y2 y3 yz yl z0 z1 z2 z3 zz zl q0 q1 qz ql c0 c1 c2 c3
                obtain ⟨_, c0, c1, c2, c3⟩ := hr15.ws.get' hxj
                simp only at c0 c1 c2 c3
                have hgl1 : g < w15.heap.size := by omega
                obtain ⟨y0, y1, y2, y3, yz, yl⟩ := id hX15
                obtain ⟨z0, z1, z2, z3, zz, zl⟩ := id hZ15
                have q0 := hr15.hw
                have q1 := hr15.hi
                have qz := hr15.fz
                have ql := hr15.lt
                go_wp2_with fail
                refine wp_region_floatQ w15.heap.size 15 [15] (Nat.le_refl _) (fun _ => True) trivial Cl.tt (by kernel_rfl) (by kernel_rfl) ?_
                -- own blocks: 
                refine wpQI_start [0, 1, 2, 3, 4, 5, 6, 7, 8, 9, 10, 11, 12] ?_; (iterate 13 (first | (refine wpQI_off (by with_reducible (refine List.getElem?_toArray.trans ?_; (repeat (first | exact List.getElem?_cons_zero | refine List.getElem?_cons_succ.trans ?_)))) (by kernel_rfl) (by exact rfl) (fun K hK => ?_); go_simp; refine hK _ ?_; clear hK K) | ((first | apply wpQI_step (by with_reducible (refine List.getElem?_toArray.trans ?_; (repeat (first | exact List.getElem?_cons_zero | refine List.getElem?_cons_succ.trans ?_)))) (by kernel_rfl) (by exact rfl) | apply wpQI_on (by with_reducible (refine List.getElem?_toArray.trans ?_; (repeat (first | exact List.getElem?_cons_zero | refine List.getElem?_cons_succ.trans ?_)))) (by kernel_rfl) (by exact rfl)); (focus (intro W' hS; have hcS := hS.cells.1; have hfS := hS.cells.2; go_simp; (first | done | exact rfl | exact ⟨rfl, Below.refl _ _⟩ | (go_at_call 27; exact (rat_at (hr15.below hS.2 (Nat.le_refl _)) hxj).mono (fun _ _ h => ⟨h.1, h.2⟩)) | (go_simp; first | done | exact rfl | exact ⟨rfl, Below.refl _ _⟩)))); intro K hK; go_simp; (try go_bits); refine hK _ ?_; clear hK K))); refine wpQI_nil ?_
                refine wpQI_start [13] ?_; (iterate 1 (first | (refine wpQI_off (by with_reducible (refine List.getElem?_toArray.trans ?_; (repeat (first | exact List.getElem?_cons_zero | refine List.getElem?_cons_succ.trans ?_)))) (by kernel_rfl) (by exact rfl) (fun K hK => ?_); go_simp; refine hK _ ?_; clear hK K) | ((first | apply wpQI_step (by with_reducible (refine List.getElem?_toArray.trans ?_; (repeat (first | exact List.getElem?_cons_zero | refine List.getElem?_cons_succ.trans ?_)))) (by kernel_rfl) (by exact rfl) | apply wpQI_on (by with_reducible (refine List.getElem?_toArray.trans ?_; (repeat (first | exact List.getElem?_cons_zero | refine List.getElem?_cons_succ.trans ?_)))) (by kernel_rfl) (by exact rfl)); (focus (intro W' hS; have hcS := hS.cells.1; have hfS := hS.cells.2; go_simp; (first | done | exact rfl | exact ⟨rfl, Below.refl _ _⟩ | (go_simp; first | done | exact rfl | exact ⟨rfl, Below.refl _ _⟩)))); intro K hK; go_simp; (try go_bits); refine hK _ ?_; clear hK K))); refine wpQI_nil ?_
                apply wpQ_fresh (i := 14) LInv.std (by with_reducible (refine List.getElem?_toArray.trans ?_; (repeat (first | exact List.getElem?_cons_zero | refine List.getElem?_cons_succ.trans ?_)))) (by kernel_rfl) (fun g => Value.pointer (some ⟨g, 0, none⟩)) (by exact rfl); (focus (intro W; go_simp; first | done | exact rfl | exact ⟨rfl, rfl⟩))
                intro g_k hN_k hG_k K hK
                go_simp; refine hK _ ?_; clear hK K
                refine wpQ_done (by kernel_rfl) ?_
                intro w16 hF_w16 hSG
                have hz_w16 := hSG.1.1
                have hb_w16 := hSG.1.2
                have hB_k := (hSG.2 _ (List.mem_cons_self ..)).2; simp only at hB_k; have hl_k := (hSG.size (List.mem_cons_self ..)); simp only at hl_k
                have cc := cell_of_row w16 g_k 0 _ _ _ hB_k; simp only [List.getElem?_toArray, List.getElem?_cons_zero] at cc
                have cc := cell_of_row w16 g_k 1 _ _ _ hB_k; simp only [List.getElem?_toArray, List.getElem?_cons_zero, List.getElem?_cons_succ] at cc
                have cc := cell_of_row w16 g_k 2 _ _ _ hB_k; simp only [List.getElem?_toArray, List.getElem?_cons_zero, List.getElem?_cons_succ] at cc
                have fz : (∀ o, w16.frozen? ⟨g_k, o, none⟩ = false) := (fun o => frozen_of_row w16 g_k o _ _ hB_k); have HH_k := Lib.hid hB_k; clear hB_k
                clear hSG
                skip
                (try simp only [List.filterMap_cons, List.filterMap_nil, List.getElem?_cons_succ, List.getElem?_cons_zero])
                have hr16 := hr15.below hb_w16 (Nat.le_refl _)
                have hX16 := hX15.below hb_w16 hX15.lt
                have hZ16 := hZ15.below hb_w16 hZ15.lt
                have hB16 := hB15.below hb_w16 hB15.size
                have hO16 : But rb w15 w16 := But.of_below hb_w16 (Nat.le_refl _)
                have hs16 := hb_w16.size
                have hKx := hN_k
                have hOs := hO15.size
                clear hr15 hb_w16
                clear y0 y1 y2 y3 yz yl z0 z1 z2 z3 zz zl q0 q1 qz ql c0 c1 c2 c3
                obtain ⟨y0, y1, y2, y3, yz, yl⟩ := id hX16
                obtain ⟨z0, z1, z2, z3, zz, zl⟩ := id hZ16
                have q0 := hr16.hw
                have q1 := hr16.hi
                have qz := hr16.fz
                have ql := hr16.lt
                have HKX := Lib.hid hKx
                go_wp2_with fail
                (first | refine pin_eq (fun w17 hE_w17 => ?_) | refine pin_callseq (fun w17 hE_w17 => ?_))
                have hr17 : RRd w17 rb N (some ⟨g, o, none⟩) L j e c := by rw [hE_w17]; exact (((hr16.set (p := ⟨g_k, 0, none⟩) _ (by show rb < g_k; omega)).set (p := ⟨g_k, 1, none⟩) _ (by show rb < g_k; omega)).set (p := ⟨g_k, 2, none⟩) _ (by show rb < g_k; omega))
                have hX17 : C4 w17 g_x (.string tx) (.string ⟨#[]⟩) (.slice B ks.length d) (.int .i64 pl) := by rw [hE_w17]; exact (((hX16.low (p := ⟨g_k, 0, none⟩) (by show g_k ≠ g_x; omega) _).low (p := ⟨g_k, 1, none⟩) (by show g_k ≠ g_x; omega) _).low (p := ⟨g_k, 2, none⟩) (by show g_k ≠ g_x; omega) _)
                have hZ17 : C4 w17 w.heap.size (.string ⟨#[]⟩) (.string ⟨#[]⟩) (.slice none 0 0) (.int .i64 0) := by rw [hE_w17]; exact (((hZ16.low (p := ⟨g_k, 0, none⟩) (by show g_k ≠ w.heap.size; omega) _).low (p := ⟨g_k, 1, none⟩) (by show g_k ≠ w.heap.size; omega) _).low (p := ⟨g_k, 2, none⟩) (by show g_k ≠ w.heap.size; omega) _)
                have hB17 : But rb w w17 := by rw [hE_w17]; exact (((hB16.set (p := ⟨g_k, 0, none⟩) _ (.inr (by show w.heap.size ≤ g_k; omega))).set (p := ⟨g_k, 1, none⟩) _ (.inr (by show w.heap.size ≤ g_k; omega))).set (p := ⟨g_k, 2, none⟩) _ (.inr (by show w.heap.size ≤ g_k; omega)))
                have hO17 : But rb w15 w17 := by rw [hE_w17]; exact (((hO16.set (p := ⟨g_k, 0, none⟩) _ (.inr (by show w15.heap.size ≤ g_k; omega))).set (p := ⟨g_k, 1, none⟩) _ (.inr (by show w15.heap.size ≤ g_k; omega))).set (p := ⟨g_k, 2, none⟩) _ (.inr (by show w15.heap.size ≤ g_k; omega)))
                have hK17 : C3 w17 g_k (.string kt) (.slice none 0 0) (.int .i64 kp) := by rw [hE_w17]; exact ⟨by go_simp, by go_simp, by go_simp, fun o => by go_simp, by simpa using hl_k⟩
                clear hE_w17
                have HO7 := Lib.hid (HO5.out.but hO17 (by omega))
                clear y0 y1 y2 y3 yz yl z0 z1 z2 z3 zz zl q0 q1 qz ql hr16 hX16 hZ16 hB16 hO16 fz
                (go_at_call 16; refine (rget_any ⟨tx, ⟨#[]⟩, ks, pl⟩ B d kt _ HO7.out.at (by show ks.length ≤ _; omega) (fun k hk => by have := HV.out k hk; omega)).mono ?_; rintro e w18 ⟨hb_w18, hg⟩)
                have hr18 := hr17.below hb_w18 (Nat.le_refl _)
                have hX18 := hX17.below hb_w18 hX17.lt
                have hZ18 := hZ17.below hb_w18 hZ17.lt
                have hB18 := hB17.below hb_w18 hB17.size
                have hK18 := hK17.below hb_w18 hK17.lt
                have hO18 := hO17.below hb_w18 hO17.size
                have hs18 := hb_w18.size
                clear hr17 hX17 hZ17 hB17 hO17 hK17 HO7 hb_w18
                obtain ⟨y0, y1, y2, y3, yz, yl⟩ := id hX18
                obtain ⟨z0, z1, z2, z3, zz, zl⟩ := id hZ18
                have q0 := hr18.hw
                have q1 := hr18.hi
                have qz := hr18.fz
                have ql := hr18.lt
                obtain ⟨k0, k1', k2', kz, kl⟩ := id hK18
                cases hG : getR ks kt with
                | some vs =>
                  have hh : hasK ks kt = true := by rw [hasK_get, hG]; rfl
                  obtain rfl : R = .err 7 kp := by rw [HJ.out, drop_get hxj]; simp only [keysF]; rw [if_neg (by simp), if_neg (by simp), if_neg (Int.not_lt.2 HA.out), if_pos hh]; rfl
                  rw [hG] at hg
                  obtain ⟨A5, c5, rfl, _⟩ := hg
                  go_wp2_with fail
                  refine bodyPost_ret (v := .tuple #[.agg #[.string tx, .string ⟨#[]⟩, .slice B ks.length d, .int .i64 pl], .int .i64 7]) (by simp only [results, Tryd.results28]; go_simp) rfl ⟨?_, _, _, _, _, _, _, j, rfl, by omega, atR_at hxj, ?_⟩
                  · exact ((((hB18.set (p := ⟨w.heap.size, 0, none⟩) _ (.inr (Nat.le_refl _))).set (p := ⟨w.heap.size, 1, none⟩) _ (.inr (Nat.le_refl _))).set (p := ⟨w.heap.size, 2, none⟩) _ (.inr (Nat.le_refl _))).set (p := ⟨w.heap.size, 3, none⟩) _ (.inr (Nat.le_refl _)))
                  · exact ((((hr18.set (p := ⟨w.heap.size, 0, none⟩) _ (by show rb < w.heap.size; omega)).set (p := ⟨w.heap.size, 1, none⟩) _ (by show rb < w.heap.size; omega)).set (p := ⟨w.heap.size, 2, none⟩) _ (by show rb < w.heap.size; omega)).set (p := ⟨w.heap.size, 3, none⟩) _ (by show rb < w.heap.size; omega))
                | none =>
                  have hh : hasK ks kt = false := by rw [hasK_get, hG]; rfl
                  rw [hG] at hg
                  obtain rfl := hg
                  have hge : 0 ≤ arR tx kt := by have := HA.out; omega
                  have hle := (arR_bd tx kt).2
                  obtain ⟨n, hn⟩ : ∃ n : Nat, arR tx kt = n := ⟨(arR tx kt).toNat, by omega⟩
                  have HJ2 : Hid (R = mkI tx ⟨#[]⟩ pl (numK e tx f ks kt kp (numsF e n [] (L.drop (j + 1))))) := Lib.hid (by rw [HJ.out, drop_get hxj, keysF_key rfl (Int.not_lt.2 HA.out) hh, hn]; rfl)
                  rw [hn] at hge hle
                  have HN := Lib.hid hn
                  have hwr : IntKind.i64.wrap ((j : Int) + 1) = ((j + 1 : Nat) : Int) := by rw [IntKind.wrap_i64]; omega
                  clear hn hh hG HJ k1 k3
                  go_wp2_with fail
                  (first | refine pin_eq (fun w19 hE_w19 => ?_) | refine pin_callseq (fun w19 hE_w19 => ?_))
                  have hr19 : RRd w19 rb N (some ⟨g, o, none⟩) L (j + 1) e c := by rw [hE_w19]; exact hr18.step' (j + 1) (by simp)
                  have hX19 : C4 w19 g_x (.string tx) (.string ⟨#[]⟩) (.slice B ks.length d) (.int .i64 pl) := by rw [hE_w19]; exact hX18.low (p := ⟨rb, 1, none⟩) (by show rb ≠ g_x; omega) _
                  have hZ19 : C4 w19 w.heap.size (.string ⟨#[]⟩) (.string ⟨#[]⟩) (.slice none 0 0) (.int .i64 0) := by rw [hE_w19]; exact hZ18.low (p := ⟨rb, 1, none⟩) (by show rb ≠ w.heap.size; omega) _
                  have hB19 : But rb w w19 := by rw [hE_w19]; exact hB18.set (p := ⟨rb, 1, none⟩) _ (.inl rfl)
                  have hK19 : C3 w19 g_k (.string kt) (.slice none 0 0) (.int .i64 kp) := by rw [hE_w19]; exact hK18.low (p := ⟨rb, 1, none⟩) (by show rb ≠ g_k; omega) _
                  have hO19 : But rb w15 w19 := by rw [hE_w19]; exact hO18.set (p := ⟨rb, 1, none⟩) _ (.inl rfl)
                  clear hE_w19
                  clear y0 y1 y2 y3 yz yl z0 z1 z2 z3 zz zl q0 q1 qz ql k0 k1' k2' kz kl hwr hr18 hX18 hZ18 hB18 hO18 hK18
                  (go_at_call 18; refine (rarity_any _ _ _).mono ?_; rintro e w20 ⟨rfl, hb_w20⟩)
                  rw [HN.out]
                  have hr20 := hr19.below hb_w20 (Nat.le_refl _)
                  have hX20 := hX19.below hb_w20 hX19.lt
                  have hZ20 := hZ19.below hb_w20 hZ19.lt
                  have hB20 := hB19.below hb_w20 hB19.size
                  have hK20 := hK19.below hb_w20 hK19.lt
                  have hO20 := hO19.below hb_w20 hO19.size
                  have hs20 := hb_w20.size
                  have hOs2 := hO20.size
                  clear hr19 hX19 hZ19 hB19 hO19 hK19 hb_w20 na
                  go_wp2_with fail
                  go_loopg [11] (n + 1) (fun gk t wi => ∃ (m : Nat) (vs : List Int) (V : Option Addr) (q : Nat), m + vs.length = n ∧ m < gk ∧ t = .int .i64 m ∧ j + 1 + vs.length ≤ L.length ∧ But rb w15 wi ∧ RRd wi rb N (some ⟨g, o, none⟩) L (j + 1 + vs.length) e c ∧ C3 wi g_k (.string kt) (.slice V vs.length q) (.int .i64 kp) ∧ Hid (OwnI wi (g_k + 1) V q vs) ∧ Hid (R = mkI tx ⟨#[]⟩ pl (numK e tx f ks kt kp (numsF e m vs (L.drop (j + 1 + vs.length))))))
                  case atStart => exact ⟨n, [], none, 0, rfl, by omega, rfl, hjl, hO20, hr20, hK20, Lib.hid (OwnI.nil _ _), HJ2⟩
                  case round =>
                    obtain ⟨m, vs, V, q, hmn, hmk, rfl, hj2, hbi, hrr, hKr, HVs, HJ3⟩ := hrel
                    have hris := hbi.size
                    have hkil := hKr.lt
                    have hBr := hB15.trans hbi
                    have hXr := hX15.but hbi (by omega)
                    have hZr := hZ15.but hbi (by omega)
                    have hOr := hbi
                    rcases Nat.eq_zero_or_pos m with hm0 | hm0
                    · obtain rfl := hm0
                      have hnv : vs.length ≤ 2 := by omega
                      have HJ4 : Hid (R = mkI tx ⟨#[]⟩ pl (keysF e tx f (ks ++ [⟨kt, vs, kp⟩]) (L.drop (j + 1 + vs.length)))) := Lib.hid (by rw [HJ3.out]; rfl)
                      obtain ⟨y0, y1, y2, y3, yz, yl⟩ := id hXr
                      obtain ⟨z0, z1, z2, z3, zz, zl⟩ := id hZr
                      have q0 := hrr.hw
                      have q1 := hrr.hi
                      have qz := hrr.fz
                      have ql := hrr.lt
                      obtain ⟨k0, k1', k2', kz, kl⟩ := id hKr
                      have HO10 := HO5.out.but hbi (by omega)
                      have hkq : KsOwn (wr.alloc (.cells #[.string kt, .slice V vs.length q, .int .i64 kp] 72)) (g_x + 1) 72 B d ks := HO10.below ((Below.refl wr.heap.size wr).alloc (Nat.le_refl _) _) (Nat.le_refl _)
                      have hvq : OwnI (wr.alloc (.cells #[.string kt, .slice V vs.length q, .int .i64 kp] 72)) (g_x + 1) V q vs := (OwnI.weaker HVs.out (by omega : g_x + 1 ≤ g_k + 1)) |> fun h => own_below h ((Below.refl wr.heap.size wr).alloc (Nat.le_refl _) _) (Nat.le_refl _)
                      obtain ⟨xs, hxs, hmore⟩ := hkq.more (by decide)
                      have HM := Lib.hid hmore
                      have HXS := Lib.hid hxs
                      have hfr := own_fresh hxs
                      have HFR := Lib.hid hfr
                      have hVQ := Lib.hid hvq
                      have hksl : ks.length ≤ 1000000 := by omega
                      have hgxi : g_x + 1 ≤ wr.heap.size + 1 := by omega
                      clear hmore hxs hfr hvq hkq HO10
                      go_wp2_with (at_builtin; go_must (refine wpList_append_one rfl _ _ 41 72 _ 3 48 rfl Tryd.underlying41 rkeyInfo rfl (by decide) (by decide) (g_x + 1) (.slice B ks.length d) ks.length xs (cellsOfK ⟨kt, vs, kp⟩ V q) rfl HXS.out wr.heap.size 1 rfl rfl (C3.new wr _ _ _ _).cells (by simp [cellsOfK, Value.oneCell']) hksl (by simpa using hgxi) ?_))
                      intro v7 w21 ho7 hg7 _
                      obtain ⟨B', d', rfl, hk7⟩ := HM.out ⟨kt, vs, kp⟩ V q v7 w21 hVQ.out ho7 hg7
                      have hX21 := (hXr.alloc (.cells #[.string kt, .slice V vs.length q, .int .i64 kp] 72)).grown hg7 HFR.out (Nat.lt_succ_self _)
                      have hZ21 := (hZr.alloc (.cells #[.string kt, .slice V vs.length q, .int .i64 kp] 72)).grown hg7 HFR.out (by omega)
                      have hr21 := (hrr.alloc (.cells #[.string kt, .slice V vs.length q, .int .i64 kp] 72)).grown hg7 (fun k hk => by have := HFR.out k hk; omega)
                      have hB21 := (hBr.alloc (.cells #[.string kt, .slice V vs.length q, .int .i64 kp] 72)).grown hg7 (fun k hk => by have := HFR.out k hk; omega)
                      have HV7 : Hid (∀ k ∈ ks ++ [(⟨kt, vs, kp⟩ : KV)], k.vals.length ≤ 2) := Lib.hid (by
                        intro k hk
                        rcases List.mem_append.1 hk with h | h
                        · exact HV.out k h
                        · rw [List.mem_singleton] at h
                          rw [h]
                          show vs.length ≤ 2
                          omega)
                      clear y0 y1 y2 y3 yz yl z0 z1 z2 z3 zz zl q0 q1 qz ql k0 k1' k2' kz kl
                      obtain ⟨y0, y1, y2, y3, yz, yl⟩ := id hX21
                      go_wp2_with fail
                      go_roundg (L.length - (j + 1 + vs.length) + 1)
                      case measure => omega
                      case rel => exact ⟨j + 1 + vs.length, ks ++ [⟨kt, vs, kp⟩], B', d', f, hj2, by omega, by omega, by simp only [List.length_append, List.length_cons, List.length_nil]; omega, HV7, hB21.set (p := ⟨g_x, 2, none⟩) _ (.inr (by show w.heap.size ≤ g_x; omega)), hZ21.low (p := ⟨g_x, 2, none⟩) (by show g_x ≠ w.heap.size; omega) _, by simpa using hX21.set2 _, Lib.hid (hk7.low (p := ⟨g_x, 2, none⟩) (by show g_x < g_x + 1; omega) _), hr21.set (p := ⟨g_x, 2, none⟩) _ (by show rb < g_x; omega), HJ4⟩
                    · obtain ⟨m, rfl⟩ : ∃ q, m = q + 1 := ⟨m - 1, by omega⟩
                      have i3 : (0 : Int) < ((m + 1 : Nat) : Int) := by omega
                      obtain ⟨y0, y1, y2, y3, yz, yl⟩ := id hXr
                      obtain ⟨z0, z1, z2, z3, zz, zl⟩ := id hZr
                      have q0 := hrr.hw
                      have q1 := hrr.hi
                      have qz := hrr.fz
                      have ql := hrr.lt
                      obtain ⟨k0, k1', k2', kz, kl⟩ := id hKr
                      go_wp2_with fail
                      (go_at_call 43; refine (rkind_any _ _ _ _ _ _ _ _ hrr hj2).mono ?_; rintro e w21 ⟨rfl, hb_w21⟩)
                      have hr21 := hrr.below hb_w21 (Nat.le_refl _)
                      have hX21 := hXr.below hb_w21 hXr.lt
                      have hZ21 := hZr.below hb_w21 hZr.lt
                      have hB21 := hBr.below hb_w21 hBr.size
                      have hK21 := hKr.below hb_w21 hKr.lt
                      have hO21 := hOr.below hb_w21 hOr.size
                      have HVs1 := Lib.hid (own_below HVs.out hb_w21 (Nat.le_refl _))
                      have hs21 := hb_w21.size
                      have hP21 := But.of_below (rb := rb) hb_w21 (Nat.le_refl _)
                      clear hrr hKr hXr hZr hBr hOr hb_w21 HVs
                      clear y0 y1 y2 y3 yz yl z0 z1 z2 z3 zz zl q0 q1 qz ql k0 k1' k2' kz kl
                      obtain ⟨y0, y1, y2, y3, yz, yl⟩ := id hX21
                      obtain ⟨z0, z1, z2, z3, zz, zl⟩ := id hZ21
                      have q0 := hr21.hw
                      have q1 := hr21.hi
                      have qz := hr21.fz
                      have ql := hr21.lt
                      obtain ⟨k0, k1', k2', kz, kl⟩ := id hK21
                      by_cases k2 : kdR L (j + 1 + vs.length) = 2
                      · obtain ⟨⟨kd4, vt, vn, vp⟩, hxv, hk4⟩ := kd_get k2 (by omega)
                        simp only at hk4
                        subst hk4
                        have hjv : j + 1 + vs.length < L.length := (List.getElem?_eq_some_iff.1 hxv).1
                        have HJ4 : Hid (R = mkI tx ⟨#[]⟩ pl (numK e tx f ks kt kp (numsF e m (vs ++ [vn]) (L.drop (j + 1 + (vs ++ [vn]).length))))) := Lib.hid (by rw [HJ3.out, drop_get hxv, List.length_append]; rfl)
                        obtain ⟨_, c0, c1, c2, c3⟩ := hr21.ws.get' hxv
                        simp only at c0 c1 c2 c3
                        have hgl0 : g < w21.heap.size := by omega
                        have i4 : ((j : Int) + 1 + (vs.length : Int)) < (L.length : Int) := by omega
                        go_wp2_with fail
                        refine wp_region_floatQ w21.heap.size 14 [14, 15, 16] (Nat.le_refl _) (fun _ => True) trivial Cl.tt (by kernel_rfl) (by kernel_rfl) ?_
                        -- own blocks: 
                        refine wpQI_start [0, 1, 2, 3, 4, 5, 6, 7, 8, 9, 10, 11, 12] ?_; (iterate 13 (first | (refine wpQI_off (by with_reducible (refine List.getElem?_toArray.trans ?_; (repeat (first | exact List.getElem?_cons_zero | refine List.getElem?_cons_succ.trans ?_)))) (by kernel_rfl) (by exact rfl) (fun K hK => ?_); go_simp; refine hK _ ?_; clear hK K) | ((first | apply wpQI_step (by with_reducible (refine List.getElem?_toArray.trans ?_; (repeat (first | exact List.getElem?_cons_zero | refine List.getElem?_cons_succ.trans ?_)))) (by kernel_rfl) (by exact rfl) | apply wpQI_on (by with_reducible (refine List.getElem?_toArray.trans ?_; (repeat (first | exact List.getElem?_cons_zero | refine List.getElem?_cons_succ.trans ?_)))) (by kernel_rfl) (by exact rfl)); (focus (intro W' hS; have hcS := hS.cells.1; have hfS := hS.cells.2; go_simp; (first | done | exact rfl | exact ⟨rfl, Below.refl _ _⟩ | (go_simp; first | done | exact rfl | exact ⟨rfl, Below.refl _ _⟩)))); intro K hK; go_simp; (try go_bits); refine hK _ ?_; clear hK K))); refine wpQI_nil ?_
                        apply wpQ_fresh (i := 13) LInv.std (by with_reducible (refine List.getElem?_toArray.trans ?_; (repeat (first | exact List.getElem?_cons_zero | refine List.getElem?_cons_succ.trans ?_)))) (by kernel_rfl) (fun g => Value.slice (some ⟨g, 0, none⟩) 1 1) (by exact rfl); (focus (intro W; go_simp; first | done | exact rfl | exact ⟨rfl, rfl⟩))
                        intro g_13 hN_13 hG_13 K hK
                        go_simp; refine hK _ ?_; clear hK K
                        refine wpQ_done (by kernel_rfl) ?_
                        intro w22 hF_w22 hSG
                        have hz_w22 := hSG.1.1
                        have hb_w22 := hSG.1.2
                        have hB_13 := (hSG.2 _ (List.mem_cons_self ..)).2; simp only at hB_13; have hl_13 := (hSG.size (List.mem_cons_self ..)); simp only at hl_13
                        have cc := cell_of_row w22 g_13 0 _ _ _ hB_13; simp only [List.getElem?_toArray, List.getElem?_cons_zero] at cc
                        have fz : (∀ o, w22.frozen? ⟨g_13, o, none⟩ = false) := (fun o => frozen_of_row w22 g_13 o _ _ hB_13); have HH_13 := Lib.hid hB_13; clear hB_13
                        clear hSG
                        skip
                        (try simp only [List.filterMap_cons, List.filterMap_nil, List.getElem?_cons_succ, List.getElem?_cons_zero])
                        have hr22 := hr21.below hb_w22 (Nat.le_refl _)
                        have hX22 := hX21.below hb_w22 hX21.lt
                        have hZ22 := hZ21.below hb_w22 hZ21.lt
                        have hB22 := hB21.below hb_w22 hB21.size
                        have hK22 := hK21.below hb_w22 hK21.lt
                        have hO22 := hO21.below hb_w22 hO21.size
                        have HVs2 := Lib.hid (own_below HVs1.out hb_w22 (Nat.le_refl _))
                        have hs22 := hb_w22.size
                        have hP22 := hP21.trans (But.of_below (rb := rb) hb_w22 (Nat.le_refl _))
                        clear hr21 hK21 hX21 hZ21 hB21 hO21 hb_w22 HVs1 hP21
                        clear y0 y1 y2 y3 yz yl z0 z1 z2 z3 zz zl q0 q1 qz ql k0 k1' k2' kz kl c0 c1 c2 c3
                        have hfr := own_fresh HVs2.out
                        have hvl : vs.length ≤ 1000000 := by omega
                        have hgki : g_k + 1 ≤ w22.heap.size := by omega
                        refine wpList_append_one rfl _ _ 37 3 _ 1 8 rfl Tryd.underlying37 intInfo rfl (by decide) (by decide) (g_k + 1) (.slice V vs.length q) vs.length (vs.map (Value.int .i64)) [.int .i64 vn] rfl HVs2.out g_13 1 rfl rfl (cells1 (by assumption)) (by simp [Value.oneCell']) hvl hgki ?_
                        intro v7 w23 ho7 hg7 _
                        obtain ⟨V', q', rfl⟩ := own_sl ho7
                        have ho7' : OwnI w23 (g_k + 1) V' q' (vs ++ [vn]) := by
                          unfold OwnI
                          rw [List.map_append, List.length_append]
                          exact ho7
                        have hK23 := hK22.grown hg7 hfr (Nat.lt_succ_self _)
                        have hr23 := hr22.grown hg7 (fun k hk => by have := hfr k hk; omega)
                        have hP23 := (hbi.trans hP22).grown hg7 (fun k hk => by have := hfr k hk; omega)
                        have hwm : IntKind.i64.wrap ((m : Int) + 1 - 1) = ((m : Nat) : Int) := by rw [IntKind.wrap_i64]; omega
                        have hwj : IntKind.i64.wrap ((j : Int) + 1 + (vs.length : Int) + 1) = ((j + 1 + (vs ++ [vn]).length : Nat) : Int) := by rw [IntKind.wrap_i64, List.length_append, List.length_singleton]; omega
                        clear fz hg7 ho7
                        obtain ⟨k0, k1', k2', kz, kl⟩ := id hK23
                        have q0 := hr23.hw
                        have q1 := hr23.hi
                        have qz := hr23.fz
                        have ql := hr23.lt
                        go_simp
                        go_wp2_with fail
                        go_roundg (m + 1)
                        case measure => omega
                        case rel =>
                          refine ⟨m, vs ++ [vn], V', q', by simp only [List.length_append, List.length_cons, List.length_nil]; omega, by omega, by go_num, by simp only [List.length_append, List.length_cons, List.length_nil]; omega, ?_, ?_, ?_, ?_, HJ4⟩
                          · exact (hP23.set (p := ⟨g_k, 1, none⟩) _ (.inr (by show w15.heap.size ≤ g_k; omega))).set (p := ⟨rb, 1, none⟩) _ (.inl rfl)
                          · exact (hr23.set (p := ⟨g_k, 1, none⟩) _ (by show rb < g_k; omega)).step' _ (by simp)
                          · simpa using (hK23.set1 _).low (p := ⟨rb, 1, none⟩) (by show rb ≠ g_k; omega) _
                          · exact Lib.hid ((ho7'.low (p := ⟨g_k, 1, none⟩) (by show g_k < g_k + 1; omega) _).low (p := ⟨rb, 1, none⟩) (by show rb < g_k + 1; omega) _)
                      · obtain rfl : R = .err 4 (atR (L.drop (j + 1 + vs.length)) e) := by rw [HJ3.out, numsF_bad k2]; rfl
                        go_wp2_with fail
                        refine bodyPost_ret (v := .tuple #[.agg #[.string tx, .string ⟨#[]⟩, .slice B ks.length d, .int .i64 pl], .int .i64 4]) (by simp only [results, Tryd.results28]; go_simp) rfl ⟨?_, _, _, _, _, _, _, j + 1 + vs.length, rfl, by omega, rfl, ?_⟩
                        · exact ((((hB21.set (p := ⟨w.heap.size, 0, none⟩) _ (.inr (Nat.le_refl _))).set (p := ⟨w.heap.size, 1, none⟩) _ (.inr (Nat.le_refl _))).set (p := ⟨w.heap.size, 2, none⟩) _ (.inr (Nat.le_refl _))).set (p := ⟨w.heap.size, 3, none⟩) _ (.inr (Nat.le_refl _)))
                        · exact ((((hr21.set (p := ⟨w.heap.size, 0, none⟩) _ (by show rb < w.heap.size; omega)).set (p := ⟨w.heap.size, 1, none⟩) _ (by show rb < w.heap.size; omega)).set (p := ⟨w.heap.size, 2, none⟩) _ (by show rb < w.heap.size; omega)).set (p := ⟨w.heap.size, 3, none⟩) _ (by show rb < w.heap.size; omega))
            · obtain rfl : R = .err 4 (atR (L.drop j) e) := by rw [HJ.out, keysF_bad k3 k1]; rfl
              have n1 : (kdR L j != 1) = true := by simpa using k1
              go_wp2_with fail
              refine wp_region_floatQ w14.heap.size 20 [] (Nat.le_refl _) (fun _ => True) trivial Cl.tt (by kernel_rfl) (by kernel_rfl) ?_
              -- own blocks: 
              refine wpQI_start [0, 1, 2, 3, 4, 5, 6, 7, 8, 9, 10, 11, 12, 13, 14, 15, 16, 17, 18, 19] ?_; (iterate 20 (first | (refine wpQI_off (by with_reducible (refine List.getElem?_toArray.trans ?_; (repeat (first | exact List.getElem?_cons_zero | refine List.getElem?_cons_succ.trans ?_)))) (by kernel_rfl) (by exact rfl) (fun K hK => ?_); go_simp; refine hK _ ?_; clear hK K) | ((first | apply wpQI_step (by with_reducible (refine List.getElem?_toArray.trans ?_; (repeat (first | exact List.getElem?_cons_zero | refine List.getElem?_cons_succ.trans ?_)))) (by kernel_rfl) (by exact rfl) | apply wpQI_on (by with_reducible (refine List.getElem?_toArray.trans ?_; (repeat (first | exact List.getElem?_cons_zero | refine List.getElem?_cons_succ.trans ?_)))) (by kernel_rfl) (by exact rfl)); (focus (intro W' hS; have hcS := hS.cells.1; have hfS := hS.cells.2; go_simp; (first | done | exact rfl | exact ⟨rfl, Below.refl _ _⟩ | (go_at_call 43; exact (rkind_any _ _ _ _ _ _ _ _ (hr14.below hS.2 (Nat.le_refl _)) hj).mono (fun _ _ h => ⟨h.1, h.2⟩)) | (go_at_call 18; exact (rarity_any _ _ _).mono (fun _ _ h => ⟨h.1, h.2⟩)) | (go_simp; first | done | exact rfl | exact ⟨rfl, Below.refl _ _⟩)))); intro K hK; go_simp; (try go_bits); refine hK _ ?_; clear hK K))); refine wpQI_nil ?_
              refine wpQ_done (by kernel_rfl) ?_
              intro w15 hF_w15 hSG
              have hz_w15 := hSG.1.1
              have hb_w15 := hSG.1.2
              clear hSG
              skip
              (try simp only [List.filterMap_nil])
              have hr15 := hr14.below hb_w15 (Nat.le_refl _)
              have hX15 := hX14.below hb_w15 hX14.lt
              have hZ15 := hZ14.below hb_w15 hZ14.lt
              have hB15 := hB14.below hb_w15 hB14.size
              have hO15 := hO14.below hb_w15 hO14.size
              clear y0 y1 y2 y3 yz yl z0 z1 z2 z3 zz zl q0 q1 qz ql
              obtain ⟨y0, y1, y2, y3, yz, yl⟩ := id hX15
              obtain ⟨z0, z1, z2, z3, zz, zl⟩ := id hZ15
              have q0 := hr15.hw
              have q1 := hr15.hi
              have qz := hr15.fz
              have ql := hr15.lt
              go_wp2_with fail
              refine bodyPost_ret (v := .tuple #[.agg #[.string tx, .string ⟨#[]⟩, .slice B ks.length d, .int .i64 pl], .int .i64 4]) (by simp only [results, Tryd.results28]; go_simp) rfl ⟨?_, _, _, _, _, _, _, j, rfl, by omega, rfl, ?_⟩
              · exact ((((hB15.set (p := ⟨w.heap.size, 0, none⟩) _ (.inr (Nat.le_refl _))).set (p := ⟨w.heap.size, 1, none⟩) _ (.inr (Nat.le_refl _))).set (p := ⟨w.heap.size, 2, none⟩) _ (.inr (Nat.le_refl _))).set (p := ⟨w.heap.size, 3, none⟩) _ (.inr (Nat.le_refl _)))
              · exact ((((hr15.set (p := ⟨w.heap.size, 0, none⟩) _ (by show rb < w.heap.size; omega)).set (p := ⟨w.heap.size, 1, none⟩) _ (by show rb < w.heap.size; omega)).set (p := ⟨w.heap.size, 2, none⟩) _ (by show rb < w.heap.size; omega)).set (p := ⟨w.heap.size, 3, none⟩) _ (by show rb < w.heap.size; omega))
      · have b2 : (tx.toList == [116, 97, 98, 108, 101]) = false := txt_neL htab
        go_wp2_with fail
        (first | refine pin_eq (fun w5 hE_w5 => ?_) | refine pin_callseq (fun w5 hE_w5 => ?_))
        have hr5 : RRd w5 rb N (some ⟨g, o, none⟩) L (i + 1) e c := by rw [hE_w5]; exact hr4.step' (i + 1) (by simp)
        have hX5 : C4 w5 g_x (.string tx) (.string ⟨#[]⟩) (.slice none 0 0) (.int .i64 pl) := by rw [hE_w5]; exact hX4.low (p := ⟨rb, 1, none⟩) (by show rb ≠ g_x; omega) _
        have hZ5 : C4 w5 w.heap.size (.string ⟨#[]⟩) (.string ⟨#[]⟩) (.slice none 0 0) (.int .i64 0) := by rw [hE_w5]; exact hZ4.low (p := ⟨rb, 1, none⟩) (by show rb ≠ w.heap.size; omega) _
        have hB5 : But rb w w5 := by rw [hE_w5]; exact hB4.set (p := ⟨rb, 1, none⟩) _ (.inl rfl)
        clear hE_w5
        clear y0 y1 y2 y3 yz yl z0 z1 z2 z3 zz zl q0 q1 qz ql b2 hwr hr4 hX4 hZ4 hB4
        (go_at_call 43; refine (rkind_any _ _ _ _ _ _ _ _ hr5 hi1).mono ?_; rintro e w6 ⟨rfl, hb_w6⟩)
        have hr6 := hr5.below hb_w6 (Nat.le_refl _)
        have hX6 := hX5.below hb_w6 hX5.lt
        have hZ6 := hZ5.below hb_w6 hZ5.lt
        have hB6 := hB5.below hb_w6 hB5.size
        clear hr5 hX5 hZ5 hB5 hb_w6
        obtain ⟨y0, y1, y2, y3, yz, yl⟩ := id hX6
        obtain ⟨z0, z1, z2, z3, zz, zl⟩ := id hZ6
        have q0 := hr6.hw
        have q1 := hr6.hi
        have qz := hr6.fz
        have ql := hr6.lt
        by_cases k2 : kdR L (i + 1) = 1
        · obtain ⟨⟨kd2, yt, yn, yp⟩, hy, hk2⟩ := kd_get k2 (by omega)
          simp only at hk2
          subst hk2
          have hi2 : i + 1 < L.length := (List.getElem?_eq_some_iff.1 hy).1
          have HQ : Hid (R = mkI tx yt pl (keysF e tx ((L.drop (i + 2)).length + 1) [] (L.drop (i + 2)))) := Lib.hid (by rw [HR.out, drop_get hy]; simp only [itemF]; rw [if_neg (by simp), if_neg (by simp [hw]), if_neg htab, if_neg (by simp), restF_eq])
          clear htab hw HR
          obtain ⟨_, c0, c1, c2, c3⟩ := hr6.ws.get' hy
          simp only at c0 c1 c2 c3
          have hgl0 : g < w6.heap.size := by omega
          have i2 : ((i : Int) + 1) < (L.length : Int) := by omega
          go_wp2_with fail
          refine wp_region_floatQ w6.heap.size 11 [11, 12] (Nat.le_refl _) (fun _ => True) trivial Cl.tt (by kernel_rfl) (by kernel_rfl) ?_
          -- own blocks: 
          refine wpQI_start [0, 1, 2, 3, 4, 5, 6, 7, 8, 9, 10] ?_; (iterate 11 (first | (refine wpQI_off (by with_reducible (refine List.getElem?_toArray.trans ?_; (repeat (first | exact List.getElem?_cons_zero | refine List.getElem?_cons_succ.trans ?_)))) (by kernel_rfl) (by exact rfl) (fun K hK => ?_); go_simp; refine hK _ ?_; clear hK K) | ((first | apply wpQI_step (by with_reducible (refine List.getElem?_toArray.trans ?_; (repeat (first | exact List.getElem?_cons_zero | refine List.getElem?_cons_succ.trans ?_)))) (by kernel_rfl) (by exact rfl) | apply wpQI_on (by with_reducible (refine List.getElem?_toArray.trans ?_; (repeat (first | exact List.getElem?_cons_zero | refine List.getElem?_cons_succ.trans ?_)))) (by kernel_rfl) (by exact rfl)); (focus (intro W' hS; have hcS := hS.cells.1; have hfS := hS.cells.2; go_simp; (first | done | exact rfl | exact ⟨rfl, Below.refl _ _⟩ | (go_simp; first | done | exact rfl | exact ⟨rfl, Below.refl _ _⟩)))); intro K hK; go_simp; (try go_bits); refine hK _ ?_; clear hK K))); refine wpQI_nil ?_
          refine wpQ_done (by kernel_rfl) ?_
          intro w7 hF_w7 hSG
          have hz_w7 := hSG.1.1
          have hb_w7 := hSG.1.2
          clear hSG
          skip
          (try simp only [List.filterMap_cons, List.filterMap_nil, List.getElem?_cons_succ, List.getElem?_cons_zero])
          have hr7 := hr6.below hb_w7 (Nat.le_refl _)
          have hX7 := hX6.below hb_w7 hX6.lt
          have hZ7 := hZ6.below hb_w7 hZ6.lt
          have hB7 := hB6.below hb_w7 hB6.size
          clear y0 y1 y2 y3 yz yl z0 z1 z2 z3 zz zl q0 q1 qz ql c0 c1 c2 c3
          obtain ⟨y0, y1, y2, y3, yz, yl⟩ := id hX7
          obtain ⟨z0, z1, z2, z3, zz, zl⟩ := id hZ7
          have q0 := hr7.hw
          have q1 := hr7.hi
          have qz := hr7.fz
          have ql := hr7.lt
          have hwr : IntKind.i64.wrap ((i : Int) + 1 + 1) = ((i + 2 : Nat) : Int) := by rw [IntKind.wrap_i64]; omega
          go_wp2_with fail
          (first | refine pin_eq (fun w8 hE_w8 => ?_) | refine pin_callseq (fun w8 hE_w8 => ?_))
          have hr8 : RRd w8 rb N (some ⟨g, o, none⟩) L (i + 2) e c := by rw [hE_w8]; exact (hr7.set (p := ⟨g_x, 1, none⟩) _ (by show rb < g_x; omega)).step' (i + 2) (by simp <;> omega)
          have hX8 : C4 w8 g_x (.string tx) (.string yt) (.slice none 0 0) (.int .i64 pl) := by rw [hE_w8]; exact (hX7.set1 (.string yt)).low (p := ⟨rb, 1, none⟩) (by show rb ≠ g_x; omega) _
          have hZ8 : C4 w8 w.heap.size (.string ⟨#[]⟩) (.string ⟨#[]⟩) (.slice none 0 0) (.int .i64 0) := by rw [hE_w8]; exact (hZ7.low (p := ⟨g_x, 1, none⟩) (by show g_x ≠ _; omega) _).low (p := ⟨rb, 1, none⟩) (by show rb ≠ _; omega) _
          have hB8 : But rb w w8 := by rw [hE_w8]; exact (hB7.set (p := ⟨g_x, 1, none⟩) _ (.inr (by show w.heap.size ≤ g_x; omega))).set (p := ⟨rb, 1, none⟩) _ (.inl rfl)
          clear hE_w8
          clear y0 y1 y2 y3 yz yl z0 z1 z2 z3 zz zl q0 q1 qz ql hwr k2 hr6 hX6 hZ6 hB6 hr7 hX7 hZ7 hB7 i2
          go_loopg [] (L.length + 1) (fun gk wr => ∃ (j : Nat) (ks : List KV) (B : Option Addr) (d f : Nat), j ≤ L.length ∧ L.length - j < gk ∧ L.length - j < f ∧ ks.length ≤ j ∧ Hid (∀ k ∈ ks, k.vals.length ≤ 2) ∧ But rb w wr ∧ C4 wr w.heap.size (.string ⟨#[]⟩) (.string ⟨#[]⟩) (.slice none 0 0) (.int .i64 0) ∧ C4 wr g_x (.string tx) (.string yt) (.slice B ks.length d) (.int .i64 pl) ∧ Hid (KsOwn wr (g_x + 1) 72 B d ks) ∧ RRd wr rb N (some ⟨g, o, none⟩) L j e c ∧ Hid (R = mkI tx yt pl (keysF e tx f ks (L.drop j))))
          case atStart => exact ⟨i + 2, [], none, 0, (L.drop (i + 2)).length + 1, by omega, by omega, by rw [List.length_drop]; omega, Nat.zero_le _, Lib.hid (by simp), hB8, hZ8, hX8, Lib.hid (KsOwn.nil _ _ _), hr8, HQ⟩
          case round =>
            obtain ⟨j, ks, B, d, f, hj, hjk, hjf, hkl, HV, hBr, hZr, hXr, HO, hrr, HJ⟩ := hrel
            obtain ⟨f, rfl⟩ : ∃ q, f = q + 1 := ⟨f - 1, by omega⟩
            clear hB8 hZ8 hX8 hr8 HQ
            have hrrl := hrr.lt
            have hgxl := hXr.lt
            go_wp2_with fail
            (go_at_call 43; refine (rkind_any _ _ _ _ _ _ _ _ hrr hj).mono ?_; rintro e w14 ⟨rfl, hb_w14⟩)
            have hr14 := hrr.below hb_w14 (Nat.le_refl _)
            have hX14 := hXr.below hb_w14 hXr.lt
            have hZ14 := hZr.below hb_w14 hZr.lt
            have hB14 := hBr.below hb_w14 hBr.size
            have hO14 : But rb wr w14 := But.of_below hb_w14 (Nat.le_refl _)
            have HO4 := Lib.hid (HO.out.below hb_w14 (Nat.le_refl _))
            have hs14 := hb_w14.size
            clear hrr hXr hZr hBr HO hb_w14
            obtain ⟨y0, y1, y2, y3, yz, yl⟩ := id hX14
            obtain ⟨z0, z1, z2, z3, zz, zl⟩ := id hZ14
            have q0 := hr14.hw
            have q1 := hr14.hi
            have qz := hr14.fz
            have ql := hr14.lt
            by_cases k3 : kdR L j = 3
            · obtain ⟨⟨kd3, t3, n3, p3⟩, hx3, hk3⟩ := kd_get k3 (by omega)
              simp only at hk3
              subst hk3
              have hj1 : j + 1 ≤ L.length := (List.getElem?_eq_some_iff.1 hx3).1
              obtain rfl : R = .ok ⟨tx, yt, ks, pl⟩ (L.drop (j + 1)) := by rw [HJ.out, drop_get hx3]; simp only [keysF]; rw [if_pos trivial]; rfl
              have hwr : IntKind.i64.wrap ((j : Int) + 1) = ((j + 1 : Nat) : Int) := by rw [IntKind.wrap_i64]; omega
              go_wp2_with fail
              refine bodyPost_ret (v := .tuple #[.agg #[.string tx, .string yt, .slice B ks.length d, .int .i64 pl], .int .i64 0]) (by simp only [results, Tryd.results28]; go_simp) rfl ⟨?_, B, d, j + 1, rfl, ?_, hj1, rfl, ?_⟩
              · exact (((((hB14.set (p := ⟨rb, 1, none⟩) _ (.inl rfl)).set (p := ⟨w.heap.size, 0, none⟩) _ (.inr (Nat.le_refl _))).set (p := ⟨w.heap.size, 1, none⟩) _ (.inr (Nat.le_refl _))).set (p := ⟨w.heap.size, 2, none⟩) _ (.inr (Nat.le_refl _))).set (p := ⟨w.heap.size, 3, none⟩) _ (.inr (Nat.le_refl _)))
              · exact ((((((HO4.out.but ((But.refl rb w14).set (p := ⟨rb, 1, none⟩) _ (.inl rfl)) (by omega))).low (p := ⟨w.heap.size, 0, none⟩) (by show w.heap.size < _; have := HGX.out; omega) _).low (p := ⟨w.heap.size, 1, none⟩) (by show w.heap.size < _; have := HGX.out; omega) _).low (p := ⟨w.heap.size, 2, none⟩) (by show w.heap.size < _; have := HGX.out; omega) _).low (p := ⟨w.heap.size, 3, none⟩) (by show w.heap.size < _; have := HGX.out; omega) _).weaker (by have := HGX.out; omega)
              · exact (((((hr14.step' (j + 1) (by simp)).set (p := ⟨w.heap.size, 0, none⟩) _ (by show rb < w.heap.size; omega)).set (p := ⟨w.heap.size, 1, none⟩) _ (by show rb < w.heap.size; omega)).set (p := ⟨w.heap.size, 2, none⟩) _ (by show rb < w.heap.size; omega)).set (p := ⟨w.heap.size, 3, none⟩) _ (by show rb < w.heap.size; omega))
            · by_cases k1 : kdR L j = 1
              · obtain ⟨⟨kd3, kt, kn, kp⟩, hxj, hk3⟩ := kd_get k1 (by omega)
                simp only at hk3
                subst hk3
                have hjl : j < L.length := (List.getElem?_eq_some_iff.1 hxj).1
                obtain ⟨_, c0, c1, c2, c3⟩ := hr14.ws.get' hxj
                simp only at c0 c1 c2 c3
                have hgl0 : g < w14.heap.size := by omega
                have i2 : (j : Int) < (L.length : Int) := by omega
                by_cases ha : arR tx kt < 0
                · obtain rfl : R = .err 4 kp := by rw [HJ.out, drop_get hxj]; simp only [keysF]; rw [if_neg (by simp), if_neg (by simp), if_pos ha]; rfl
                  go_wp2_with fail
                  refine wp_region_floatQ w14.heap.size 20 [] (Nat.le_refl _) (fun _ => True) trivial Cl.tt (by kernel_rfl) (by kernel_rfl) ?_
                  -- own blocks: 
                  refine wpQI_start [0, 1, 2, 3, 4, 5, 6, 7, 8, 9, 10, 11, 12, 13, 14, 15, 16, 17, 18, 19] ?_; (iterate 20 (first | (refine wpQI_off (by with_reducible (refine List.getElem?_toArray.trans ?_; (repeat (first | exact List.getElem?_cons_zero | refine List.getElem?_cons_succ.trans ?_)))) (by kernel_rfl) (by exact rfl) (fun K hK => ?_); go_simp; refine hK _ ?_; clear hK K) | ((first | apply wpQI_step (by with_reducible (refine List.getElem?_toArray.trans ?_; (repeat (first | exact List.getElem?_cons_zero | refine List.getElem?_cons_succ.trans ?_)))) (by kernel_rfl) (by exact rfl) | apply wpQI_on (by with_reducible (refine List.getElem?_toArray.trans ?_; (repeat (first | exact List.getElem?_cons_zero | refine List.getElem?_cons_succ.trans ?_)))) (by kernel_rfl) (by exact rfl)); (focus (intro W' hS; have hcS := hS.cells.1; have hfS := hS.cells.2; go_simp; (first | done | exact rfl | exact ⟨rfl, Below.refl _ _⟩ | (go_at_call 43; exact (rkind_any _ _ _ _ _ _ _ _ (hr14.below hS.2 (Nat.le_refl _)) hj).mono (fun _ _ h => ⟨h.1, h.2⟩)) | (go_at_call 18; exact (rarity_any _ _ _).mono (fun _ _ h => ⟨h.1, h.2⟩)) | (go_simp; first | done | exact rfl | exact ⟨rfl, Below.refl _ _⟩)))); intro K hK; go_simp; (try go_bits); refine hK _ ?_; clear hK K))); refine wpQI_nil ?_
                  refine wpQ_done (by kernel_rfl) ?_
                  intro w15 hF_w15 hSG
                  have hz_w15 := hSG.1.1
                  have hb_w15 := hSG.1.2
                  clear hSG
                  skip
                  (try simp only [List.filterMap_nil])
                  have hr15 := hr14.below hb_w15 (Nat.le_refl _)
                  have hX15 := hX14.below hb_w15 hX14.lt
                  have hZ15 := hZ14.below hb_w15 hZ14.lt
                  have hB15 := hB14.below hb_w15 hB14.size
                  have hO15 := hO14.below hb_w15 hO14.size
                  clear y0 y1 y2 y3 yz yl z0 z1 z2 z3 zz zl q0 q1 qz ql c0 c1 c2 c3
                  obtain ⟨y0, y1, y2, y3, yz, yl⟩ := id hX15
                  obtain ⟨z0, z1, z2, z3, zz, zl⟩ := id hZ15
                  have q0 := hr15.hw
                  have q1 := hr15.hi
                  have qz := hr15.fz
                  have ql := hr15.lt
                  go_wp2_with fail
                  refine bodyPost_ret (v := .tuple #[.agg #[.string tx, .string yt, .slice B ks.length d, .int .i64 pl], .int .i64 4]) (by simp only [results, Tryd.results28]; go_simp) rfl ⟨?_, _, _, _, _, _, _, j, rfl, by omega, atR_at hxj, ?_⟩
                  · exact ((((hB15.set (p := ⟨w.heap.size, 0, none⟩) _ (.inr (Nat.le_refl _))).set (p := ⟨w.heap.size, 1, none⟩) _ (.inr (Nat.le_refl _))).set (p := ⟨w.heap.size, 2, none⟩) _ (.inr (Nat.le_refl _))).set (p := ⟨w.heap.size, 3, none⟩) _ (.inr (Nat.le_refl _)))
                  · exact ((((hr15.set (p := ⟨w.heap.size, 0, none⟩) _ (by show rb < w.heap.size; omega)).set (p := ⟨w.heap.size, 1, none⟩) _ (by show rb < w.heap.size; omega)).set (p := ⟨w.heap.size, 2, none⟩) _ (by show rb < w.heap.size; omega)).set (p := ⟨w.heap.size, 3, none⟩) _ (by show rb < w.heap.size; omega))
                · have na : decide (arR tx kt < 0) = false := decide_eq_false ha
                  have HA : Hid (0 ≤ arR tx kt) := Lib.hid (Int.not_lt.1 ha)
                  clear ha
                  go_wp2_with fail
                  refine wp_region_floatQ w14.heap.size 20 [] (Nat.le_refl _) (fun _ => True) trivial Cl.tt (by kernel_rfl) (by kernel_rfl) ?_
                  -- own blocks: 
                  refine wpQI_start [0, 1, 2, 3, 4, 5, 6, 7, 8, 9, 10, 11, 12, 13, 14, 15, 16, 17, 18, 19] ?_; (iterate 20 (first | (refine wpQI_off (by with_reducible (refine List.getElem?_toArray.trans ?_; (repeat (first | exact List.getElem?_cons_zero | refine List.getElem?_cons_succ.trans ?_)))) (by kernel_rfl) (by exact rfl) (fun K hK => ?_); go_simp; refine hK _ ?_; clear hK K) | ((first | apply wpQI_step (by with_reducible (refine List.getElem?_toArray.trans ?_; (repeat (first | exact List.getElem?_cons_zero | refine List.getElem?_cons_succ.trans ?_)))) (by kernel_rfl) (by exact rfl) | apply wpQI_on (by with_reducible (refine List.getElem?_toArray.trans ?_; (repeat (first | exact List.getElem?_cons_zero | refine List.getElem?_cons_succ.trans ?_)))) (by kernel_rfl) (by exact rfl)); (focus (intro W' hS; have hcS := hS.cells.1; have hfS := hS.cells.2; go_simp; (first | done | exact rfl | exact ⟨rfl, Below.refl _ _⟩ | (go_at_call 43; exact (rkind_any _ _ _ _ _ _ _ _ (hr14.below hS.2 (Nat.le_refl _)) hj).mono (fun _ _ h => ⟨h.1, h.2⟩)) | (go_at_call 18; exact (rarity_any _ _ _).mono (fun _ _ h => ⟨h.1, h.2⟩)) | (go_simp; first | done | exact rfl | exact ⟨rfl, Below.refl _ _⟩)))); intro K hK; go_simp; (try go_bits); refine hK _ ?_; clear hK K))); refine wpQI_nil ?_
                  refine wpQ_done (by kernel_rfl) ?_
                  intro w15 hF_w15 hSG
                  have hz_w15 := hSG.1.1
                  have hb_w15 := hSG.1.2
                  clear hSG
                  skip
                  (try simp only [List.filterMap_nil])
                  have hr15 := hr14.below hb_w15 (Nat.le_refl _)
                  have hX15 := hX14.below hb_w15 hX14.lt
                  have hZ15 := hZ14.below hb_w15 hZ14.lt
                  have hB15 := hB14.below hb_w15 hB14.size
                  have hO15 := hO14.below hb_w15 hO14.size
                  have HO5 := Lib.hid (HO4.out.below hb_w15 (Nat.le_refl _))
                  have hs15 := hb_w15.size
                  clear hr14 hX14 hZ14 hB14 hO14 HO4 hb_w15
                  clear y0 y1 y2 y3 yz yl z0 z1 z2 z3 zz zl q0 q1 qz ql c0 c1 c2 c3
                  obtain ⟨_, c0, c1, c2, c3⟩ := hr15.ws.get' hxj
                  simp only at c0 c1 c2 c3
                  have hgl1 : g < w15.heap.size := by omega
                  obtain ⟨y0, y1, y2, y3, yz, yl⟩ := id hX15
                  obtain ⟨z0, z1, z2, z3, zz, zl⟩ := id hZ15
                  have q0 := hr15.hw
                  have q1 := hr15.hi
                  have qz := hr15.fz
                  have ql := hr15.lt
                  go_wp2_with fail
                  refine wp_region_floatQ w15.heap.size 15 [15] (Nat.le_refl _) (fun _ => True) trivial Cl.tt (by kernel_rfl) (by kernel_rfl) ?_
                  -- own blocks: 
                  refine wpQI_start [0, 1, 2, 3, 4, 5, 6, 7, 8, 9, 10, 11, 12] ?_; (iterate 13 (first | (refine wpQI_off (by with_reducible (refine List.getElem?_toArray.trans ?_; (repeat (first | exact List.getElem?_cons_zero | refine List.getElem?_cons_succ.trans ?_)))) (by kernel_rfl) (by exact rfl) (fun K hK => ?_); go_simp; refine hK _ ?_; clear hK K) | ((first | apply wpQI_step (by with_reducible (refine List.getElem?_toArray.trans ?_; (repeat (first | exact List.getElem?_cons_zero | refine List.getElem?_cons_succ.trans ?_)))) (by kernel_rfl) (by exact rfl) | apply wpQI_on (by with_reducible (refine List.getElem?_toArray.trans ?_; (repeat (first | exact List.getElem?_cons_zero | refine List.getElem?_cons_succ.trans ?_)))) (by kernel_rfl) (by exact rfl)); (focus (intro W' hS; have hcS := hS.cells.1; have hfS := hS.cells.2; go_simp; (first | done | exact rfl | exact ⟨rfl, Below.refl _ _⟩ | (go_at_call 27; exact (rat_at (hr15.below hS.2 (Nat.le_refl _)) hxj).mono (fun _ _ h => ⟨h.1, h.2⟩)) | (go_simp; first | done | exact rfl | exact ⟨rfl, Below.refl _ _⟩)))); intro K hK; go_simp; (try go_bits); refine hK _ ?_; clear hK K))); refine wpQI_nil ?_
                  refine wpQI_start [13] ?_; (iterate 1 (first | (refine wpQI_off (by with_reducible (refine List.getElem?_toArray.trans ?_; (repeat (first | exact List.getElem?_cons_zero | refine List.getElem?_cons_succ.trans ?_)))) (by kernel_rfl) (by exact rfl) (fun K hK => ?_); go_simp; refine hK _ ?_; clear hK K) | ((first | apply wpQI_step (by with_reducible (refine List.getElem?_toArray.trans ?_; (repeat (first | exact List.getElem?_cons_zero | refine List.getElem?_cons_succ.trans ?_)))) (by kernel_rfl) (by exact rfl) | apply wpQI_on (by with_reducible (refine List.getElem?_toArray.trans ?_; (repeat (first | exact List.getElem?_cons_zero | refine List.getElem?_cons_succ.trans ?_)))) (by kernel_rfl) (by exact rfl)); (focus (intro W' hS; have hcS := hS.cells.1; have hfS := hS.cells.2; go_simp; (first | done | exact rfl | exact ⟨rfl, Below.refl _ _⟩ | (go_simp; first | done | exact rfl | exact ⟨rfl, Below.refl _ _⟩)))); intro K hK; go_simp; (try go_bits); refine hK _ ?_; clear hK K))); refine wpQI_nil ?_
                  apply wpQ_fresh (i := 14) LInv.std (by with_reducible (refine List.getElem?_toArray.trans ?_; (repeat (first | exact List.getElem?_cons_zero | refine List.getElem?_cons_succ.trans ?_)))) (by kernel_rfl) (fun g => Value.pointer (some ⟨g, 0, none⟩)) (by exact rfl); (focus (intro W; go_simp; first | done | exact rfl | exact ⟨rfl, rfl⟩))
                  intro g_k hN_k hG_k K hK
                  go_simp; refine hK _ ?_; clear hK K
                  refine wpQ_done (by kernel_rfl) ?_
                  intro w16 hF_w16 hSG
                  have hz_w16 := hSG.1.1
                  have hb_w16 := hSG.1.2
                  have hB_k := (hSG.2 _ (List.mem_cons_self ..)).2; simp only at hB_k; have hl_k := (hSG.size (List.mem_cons_self ..)); simp only at hl_k
                  have cc := cell_of_row w16 g_k 0 _ _ _ hB_k; simp only [List.getElem?_toArray, List.getElem?_cons_zero] at cc
                  have cc := cell_of_row w16 g_k 1 _ _ _ hB_k; simp only [List.getElem?_toArray, List.getElem?_cons_zero, List.getElem?_cons_succ] at cc
                  have cc := cell_of_row w16 g_k 2 _ _ _ hB_k; simp only [List.getElem?_toArray, List.getElem?_cons_zero, List.getElem?_cons_succ] at cc
                  have fz : (∀ o, w16.frozen? ⟨g_k, o, none⟩ = false) := (fun o => frozen_of_row w16 g_k o _ _ hB_k); have HH_k := Lib.hid hB_k; clear hB_k
                  clear hSG
                  skip
                  (try simp only [List.filterMap_cons, List.filterMap_nil, List.getElem?_cons_succ, List.getElem?_cons_zero])
                  have hr16 := hr15.below hb_w16 (Nat.le_refl _)
                  have hX16 := hX15.below hb_w16 hX15.lt
                  have hZ16 := hZ15.below hb_w16 hZ15.lt
                  have hB16 := hB15.below hb_w16 hB15.size
                  have hO16 : But rb w15 w16 := But.of_below hb_w16 (Nat.le_refl _)
                  have hs16 := hb_w16.size
                  have hKx := hN_k
                  have hOs := hO15.size
                  clear hr15 hb_w16
                  clear y0 y1 y2 y3 yz yl z0 z1 z2 z3 zz zl q0 q1 qz ql c0 c1 c2 c3
                  obtain ⟨y0, y1, y2, y3, yz, yl⟩ := id hX16
                  obtain ⟨z0, z1, z2, z3, zz, zl⟩ := id hZ16
                  have q0 := hr16.hw
                  have q1 := hr16.hi
                  have qz := hr16.fz
                  have ql := hr16.lt
                  have HKX := Lib.hid hKx
                  go_wp2_with fail
                  (first | refine pin_eq (fun w17 hE_w17 => ?_) | refine pin_callseq (fun w17 hE_w17 => ?_))
                  have hr17 : RRd w17 rb N (some ⟨g, o, none⟩) L j e c := by rw [hE_w17]; exact (((hr16.set (p := ⟨g_k, 0, none⟩) _ (by show rb < g_k; omega)).set (p := ⟨g_k, 1, none⟩) _ (by show rb < g_k; omega)).set (p := ⟨g_k, 2, none⟩) _ (by show rb < g_k; omega))
                  have hX17 : C4 w17 g_x (.string tx) (.string yt) (.slice B ks.length d) (.int .i64 pl) := by rw [hE_w17]; exact (((hX16.low (p := ⟨g_k, 0, none⟩) (by show g_k ≠ g_x; omega) _).low (p := ⟨g_k, 1, none⟩) (by show g_k ≠ g_x; omega) _).low (p := ⟨g_k, 2, none⟩) (by show g_k ≠ g_x; omega) _)
                  have hZ17 : C4 w17 w.heap.size (.string ⟨#[]⟩) (.string ⟨#[]⟩) (.slice none 0 0) (.int .i64 0) := by rw [hE_w17]; exact (((hZ16.low (p := ⟨g_k, 0, none⟩) (by show g_k ≠ w.heap.size; omega) _).low (p := ⟨g_k, 1, none⟩) (by show g_k ≠ w.heap.size; omega) _).low (p := ⟨g_k, 2, none⟩) (by show g_k ≠ w.heap.size; omega) _)
                  have hB17 : But rb w w17 := by rw [hE_w17]; exact (((hB16.set (p := ⟨g_k, 0, none⟩) _ (.inr (by show w.heap.size ≤ g_k; omega))).set (p := ⟨g_k, 1, none⟩) _ (.inr (by show w.heap.size ≤ g_k; omega))).set (p := ⟨g_k, 2, none⟩) _ (.inr (by show w.heap.size ≤ g_k; omega)))
                  have hO17 : But rb w15 w17 := by rw [hE_w17]; exact (((hO16.set (p := ⟨g_k, 0, none⟩) _ (.inr (by show w15.heap.size ≤ g_k; omega))).set (p := ⟨g_k, 1, none⟩) _ (.inr (by show w15.heap.size ≤ g_k; omega))).set (p := ⟨g_k, 2, none⟩) _ (.inr (by show w15.heap.size ≤ g_k; omega)))
                  have hK17 : C3 w17 g_k (.string kt) (.slice none 0 0) (.int .i64 kp) := by rw [hE_w17]; exact ⟨by go_simp, by go_simp, by go_simp, fun o => by go_simp, by simpa using hl_k⟩
                  clear hE_w17
                  have HO7 := Lib.hid (HO5.out.but hO17 (by omega))
                  clear y0 y1 y2 y3 yz yl z0 z1 z2 z3 zz zl q0 q1 qz ql hr16 hX16 hZ16 hB16 hO16 fz
                  (go_at_call 16; refine (rget_any ⟨tx, yt, ks, pl⟩ B d kt _ HO7.out.at (by show ks.length ≤ _; omega) (fun k hk => by have := HV.out k hk; omega)).mono ?_; rintro e w18 ⟨hb_w18, hg⟩)
                  have hr18 := hr17.below hb_w18 (Nat.le_refl _)
                  have hX18 := hX17.below hb_w18 hX17.lt
                  have hZ18 := hZ17.below hb_w18 hZ17.lt
                  have hB18 := hB17.below hb_w18 hB17.size
                  have hK18 := hK17.below hb_w18 hK17.lt
                  have hO18 := hO17.below hb_w18 hO17.size
                  have hs18 := hb_w18.size
                  clear hr17 hX17 hZ17 hB17 hO17 hK17 HO7 hb_w18
                  obtain ⟨y0, y1, y2, y3, yz, yl⟩ := id hX18
                  obtain ⟨z0, z1, z2, z3, zz, zl⟩ := id hZ18
                  have q0 := hr18.hw
                  have q1 := hr18.hi
                  have qz := hr18.fz
                  have ql := hr18.lt
                  obtain ⟨k0, k1', k2', kz, kl⟩ := id hK18
                  cases hG : getR ks kt with
                  | some vs =>
                    have hh : hasK ks kt = true := by rw [hasK_get, hG]; rfl
                    obtain rfl : R = .err 7 kp := by rw [HJ.out, drop_get hxj]; simp only [keysF]; rw [if_neg (by simp), if_neg (by simp), if_neg (Int.not_lt.2 HA.out), if_pos hh]; rfl
                    rw [hG] at hg
                    obtain ⟨A5, c5, rfl, _⟩ := hg
                    go_wp2_with fail
                    refine bodyPost_ret (v := .tuple #[.agg #[.string tx, .string yt, .slice B ks.length d, .int .i64 pl], .int .i64 7]) (by simp only [results, Tryd.results28]; go_simp) rfl ⟨?_, _, _, _, _, _, _, j, rfl, by omega, atR_at hxj, ?_⟩
                    · exact ((((hB18.set (p := ⟨w.heap.size, 0, none⟩) _ (.inr (Nat.le_refl _))).set (p := ⟨w.heap.size, 1, none⟩) _ (.inr (Nat.le_refl _))).set (p := ⟨w.heap.size, 2, none⟩) _ (.inr (Nat.le_refl _))).set (p := ⟨w.heap.size, 3, none⟩) _ (.inr (Nat.le_refl _)))
                    · exact ((((hr18.set (p := ⟨w.heap.size, 0, none⟩) _ (by show rb < w.heap.size; omega)).set (p := ⟨w.heap.size, 1, none⟩) _ (by show rb < w.heap.size; omega)).set (p := ⟨w.heap.size, 2, none⟩) _ (by show rb < w.heap.size; omega)).set (p := ⟨w.heap.size, 3, none⟩) _ (by show rb < w.heap.size; omega))
                  | none =>
                    have hh : hasK ks kt = false := by rw [hasK_get, hG]; rfl
                    rw [hG] at hg
                    obtain rfl := hg
                    have hge : 0 ≤ arR tx kt := by have := HA.out; omega
                    have hle := (arR_bd tx kt).2
                    obtain ⟨n, hn⟩ : ∃ n : Nat, arR tx kt = n := ⟨(arR tx kt).toNat, by omega⟩
                    have HJ2 : Hid (R = mkI tx yt pl (numK e tx f ks kt kp (numsF e n [] (L.drop (j + 1))))) := Lib.hid (by rw [HJ.out, drop_get hxj, keysF_key rfl (Int.not_lt.2 HA.out) hh, hn]; rfl)
                    rw [hn] at hge hle
                    have HN := Lib.hid hn
                    have hwr : IntKind.i64.wrap ((j : Int) + 1) = ((j + 1 : Nat) : Int) := by rw [IntKind.wrap_i64]; omega
                    clear hn hh hG HJ k1 k3
                    go_wp2_with fail
                    (first | refine pin_eq (fun w19 hE_w19 => ?_) | refine pin_callseq (fun w19 hE_w19 => ?_))
                    have hr19 : RRd w19 rb N (some ⟨g, o, none⟩) L (j + 1) e c := by rw [hE_w19]; exact hr18.step' (j + 1) (by simp)
                    have hX19 : C4 w19 g_x (.string tx) (.string yt) (.slice B ks.length d) (.int .i64 pl) := by rw [hE_w19]; exact hX18.low (p := ⟨rb, 1, none⟩) (by show rb ≠ g_x; omega) _
                    have hZ19 : C4 w19 w.heap.size (.string ⟨#[]⟩) (.string ⟨#[]⟩) (.slice none 0 0) (.int .i64 0) := by rw [hE_w19]; exact hZ18.low (p := ⟨rb, 1, none⟩) (by show rb ≠ w.heap.size; omega) _
                    have hB19 : But rb w w19 := by rw [hE_w19]; exact hB18.set (p := ⟨rb, 1, none⟩) _ (.inl rfl)
                    have hK19 : C3 w19 g_k (.string kt) (.slice none 0 0) (.int .i64 kp) := by rw [hE_w19]; exact hK18.low (p := ⟨rb, 1, none⟩) (by show rb ≠ g_k; omega) _
                    have hO19 : But rb w15 w19 := by rw [hE_w19]; exact hO18.set (p := ⟨rb, 1, none⟩) _ (.inl rfl)
                    clear hE_w19
                    clear y0 y1 y2 y3 yz yl z0 z1 z2 z3 zz zl q0 q1 qz ql k0 k1' k2' kz kl hwr hr18 hX18 hZ18 hB18 hO18 hK18
                    (go_at_call 18; refine (rarity_any _ _ _).mono ?_; rintro e w20 ⟨rfl, hb_w20⟩)
                    rw [HN.out]
                    have hr20 := hr19.below hb_w20 (Nat.le_refl _)
                    have hX20 := hX19.below hb_w20 hX19.lt
                    have hZ20 := hZ19.below hb_w20 hZ19.lt
                    have hB20 := hB19.below hb_w20 hB19.size
                    have hK20 := hK19.below hb_w20 hK19.lt
                    have hO20 := hO19.below hb_w20 hO19.size
                    have hs20 := hb_w20.size
                    have hOs2 := hO20.size
                    clear hr19 hX19 hZ19 hB19 hO19 hK19 hb_w20 na
                    go_wp2_with fail
                    go_loopg [11] (n + 1) (fun gk t wi => ∃ (m : Nat) (vs : List Int) (V : Option Addr) (q : Nat), m + vs.length = n ∧ m < gk ∧ t = .int .i64 m ∧ j + 1 + vs.length ≤ L.length ∧ But rb w15 wi ∧ RRd wi rb N (some ⟨g, o, none⟩) L (j + 1 + vs.length) e c ∧ C3 wi g_k (.string kt) (.slice V vs.length q) (.int .i64 kp) ∧ Hid (OwnI wi (g_k + 1) V q vs) ∧ Hid (R = mkI tx yt pl (numK e tx f ks kt kp (numsF e m vs (L.drop (j + 1 + vs.length))))))
                    case atStart => exact ⟨n, [], none, 0, rfl, by omega, rfl, hjl, hO20, hr20, hK20, Lib.hid (OwnI.nil _ _), HJ2⟩
                    case round =>
                      obtain ⟨m, vs, V, q, hmn, hmk, rfl, hj2, hbi, hrr, hKr, HVs, HJ3⟩ := hrel
                      have hris := hbi.size
                      have hkil := hKr.lt
                      have hBr := hB15.trans hbi
                      have hXr := hX15.but hbi (by omega)
                      have hZr := hZ15.but hbi (by omega)
                      have hOr := hbi
                      rcases Nat.eq_zero_or_pos m with hm0 | hm0
                      · obtain rfl := hm0
                        have hnv : vs.length ≤ 2 := by omega
                        have HJ4 : Hid (R = mkI tx yt pl (keysF e tx f (ks ++ [⟨kt, vs, kp⟩]) (L.drop (j + 1 + vs.length)))) := Lib.hid (by rw [HJ3.out]; rfl)
                        obtain ⟨y0, y1, y2, y3, yz, yl⟩ := id hXr
                        obtain ⟨z0, z1, z2, z3, zz, zl⟩ := id hZr
                        have q0 := hrr.hw
                        have q1 := hrr.hi
                        have qz := hrr.fz
                        have ql := hrr.lt
                        obtain ⟨k0, k1', k2', kz, kl⟩ := id hKr
                        have HO10 := HO5.out.but hbi (by omega)
                        have hkq : KsOwn (wr.alloc (.cells #[.string kt, .slice V vs.length q, .int .i64 kp] 72)) (g_x + 1) 72 B d ks := HO10.below ((Below.refl wr.heap.size wr).alloc (Nat.le_refl _) _) (Nat.le_refl _)
                        have hvq : OwnI (wr.alloc (.cells #[.string kt, .slice V vs.length q, .int .i64 kp] 72)) (g_x + 1) V q vs := (OwnI.weaker HVs.out (by omega : g_x + 1 ≤ g_k + 1)) |> fun h => own_below h ((Below.refl wr.heap.size wr).alloc (Nat.le_refl _) _) (Nat.le_refl _)
                        obtain ⟨xs, hxs, hmore⟩ := hkq.more (by decide)
                        have HM := Lib.hid hmore
                        have HXS := Lib.hid hxs
                        have hfr := own_fresh hxs
                        have HFR := Lib.hid hfr
                        have hVQ := Lib.hid hvq
                        have hksl : ks.length ≤ 1000000 := by omega
                        have hgxi : g_x + 1 ≤ wr.heap.size + 1 := by omega
                        clear hmore hxs hfr hvq hkq HO10
                        go_wp2_with (at_builtin; go_must (refine wpList_append_one rfl _ _ 41 72 _ 3 48 rfl Tryd.underlying41 rkeyInfo rfl (by decide) (by decide) (g_x + 1) (.slice B ks.length d) ks.length xs (cellsOfK ⟨kt, vs, kp⟩ V q) rfl HXS.out wr.heap.size 1 rfl rfl (C3.new wr _ _ _ _).cells (by simp [cellsOfK, Value.oneCell']) hksl (by simpa using hgxi) ?_))
                        intro v7 w21 ho7 hg7 _
                        obtain ⟨B', d', rfl, hk7⟩ := HM.out ⟨kt, vs, kp⟩ V q v7 w21 hVQ.out ho7 hg7
                        have hX21 := (hXr.alloc (.cells #[.string kt, .slice V vs.length q, .int .i64 kp] 72)).grown hg7 HFR.out (Nat.lt_succ_self _)
                        have hZ21 := (hZr.alloc (.cells #[.string kt, .slice V vs.length q, .int .i64 kp] 72)).grown hg7 HFR.out (by omega)
                        have hr21 := (hrr.alloc (.cells #[.string kt, .slice V vs.length q, .int .i64 kp] 72)).grown hg7 (fun k hk => by have := HFR.out k hk; omega)
                        have hB21 := (hBr.alloc (.cells #[.string kt, .slice V vs.length q, .int .i64 kp] 72)).grown hg7 (fun k hk => by have := HFR.out k hk; omega)
                        have HV7 : Hid (∀ k ∈ ks ++ [(⟨kt, vs, kp⟩ : KV)], k.vals.length ≤ 2) := Lib.hid (by
                          intro k hk
                          rcases List.mem_append.1 hk with h | h
                          · exact HV.out k h
                          · rw [List.mem_singleton] at h
                            rw [h]
                            show vs.length ≤ 2
                            omega)
                        clear y0 y1 y2 y3 yz yl z0 z1 z2 z3 zz zl q0 q1 qz ql k0 k1' k2' kz kl
                        obtain ⟨y0, y1, y2, y3, yz, yl⟩ := id hX21
                        go_wp2_with fail
                        go_roundg (L.length - (j + 1 + vs.length) + 1)
                        case measure => omega
                        case rel => exact ⟨j + 1 + vs.length, ks ++ [⟨kt, vs, kp⟩], B', d', f, hj2, by omega, by omega, by simp only [List.length_append, List.length_cons, List.length_nil]; omega, HV7, hB21.set (p := ⟨g_x, 2, none⟩) _ (.inr (by show w.heap.size ≤ g_x; omega)), hZ21.low (p := ⟨g_x, 2, none⟩) (by show g_x ≠ w.heap.size; omega) _, by simpa using hX21.set2 _, Lib.hid (hk7.low (p := ⟨g_x, 2, none⟩) (by show g_x < g_x + 1; omega) _), hr21.set (p := ⟨g_x, 2, none⟩) _ (by show rb < g_x; omega), HJ4⟩
                      · obtain ⟨m, rfl⟩ : ∃ q, m = q + 1 := ⟨m - 1, by omega⟩
                        have i3 : (0 : Int) < ((m + 1 : Nat) : Int) := by omega
                        obtain ⟨y0, y1, y2, y3, yz, yl⟩ := id hXr
                        obtain ⟨z0, z1, z2, z3, zz, zl⟩ := id hZr
                        have q0 := hrr.hw
                        have q1 := hrr.hi
                        have qz := hrr.fz
                        have ql := hrr.lt
                        obtain ⟨k0, k1', k2', kz, kl⟩ := id hKr
                        go_wp2_with fail
                        (go_at_call 43; refine (rkind_any _ _ _ _ _ _ _ _ hrr hj2).mono ?_; rintro e w21 ⟨rfl, hb_w21⟩)
                        have hr21 := hrr.below hb_w21 (Nat.le_refl _)
                        have hX21 := hXr.below hb_w21 hXr.lt
                        have hZ21 := hZr.below hb_w21 hZr.lt
                        have hB21 := hBr.below hb_w21 hBr.size
                        have hK21 := hKr.below hb_w21 hKr.lt
                        have hO21 := hOr.below hb_w21 hOr.size
                        have HVs1 := Lib.hid (own_below HVs.out hb_w21 (Nat.le_refl _))
                        have hs21 := hb_w21.size
                        have hP21 := But.of_below (rb := rb) hb_w21 (Nat.le_refl _)
                        clear hrr hKr hXr hZr hBr hOr hb_w21 HVs
                        clear y0 y1 y2 y3 yz yl z0 z1 z2 z3 zz zl q0 q1 qz ql k0 k1' k2' kz kl
                        obtain ⟨y0, y1, y2, y3, yz, yl⟩ := id hX21
                        obtain ⟨z0, z1, z2, z3, zz, zl⟩ := id hZ21
                        have q0 := hr21.hw
                        have q1 := hr21.hi
                        have qz := hr21.fz
                        have ql := hr21.lt
                        obtain ⟨k0, k1', k2', kz, kl⟩ := id hK21
                        by_cases k2 : kdR L (j + 1 + vs.length) = 2
                        · obtain ⟨⟨kd4, vt, vn, vp⟩, hxv, hk4⟩ := kd_get k2 (by omega)
                          simp only at hk4
                          subst hk4
                          have hjv : j + 1 + vs.length < L.length := (List.getElem?_eq_some_iff.1 hxv).1
                          have HJ4 : Hid (R = mkI tx yt pl (numK e tx f ks kt kp (numsF e m (vs ++ [vn]) (L.drop (j + 1 + (vs ++ [vn]).length))))) := Lib.hid (by rw [HJ3.out, drop_get hxv, List.length_append]; rfl)
                          obtain ⟨_, c0, c1, c2, c3⟩ := hr21.ws.get' hxv
                          simp only at c0 c1 c2 c3
                          have hgl0 : g < w21.heap.size := by omega
                          have i4 : ((j : Int) + 1 + (vs.length : Int)) < (L.length : Int) := by omega
                          go_wp2_with fail
                          refine wp_region_floatQ w21.heap.size 14 [14, 15, 16] (Nat.le_refl _) (fun _ => True) trivial Cl.tt (by kernel_rfl) (by kernel_rfl) ?_
                          -- own blocks: 
                          refine wpQI_start [0, 1, 2, 3, 4, 5, 6, 7, 8, 9, 10, 11, 12] ?_; (iterate 13 (first | (refine wpQI_off (by with_reducible (refine List.getElem?_toArray.trans ?_; (repeat (first | exact List.getElem?_cons_zero | refine List.getElem?_cons_succ.trans ?_)))) (by kernel_rfl) (by exact rfl) (fun K hK => ?_); go_simp; refine hK _ ?_; clear hK K) | ((first | apply wpQI_step (by with_reducible (refine List.getElem?_toArray.trans ?_; (repeat (first | exact List.getElem?_cons_zero | refine List.getElem?_cons_succ.trans ?_)))) (by kernel_rfl) (by exact rfl) | apply wpQI_on (by with_reducible (refine List.getElem?_toArray.trans ?_; (repeat (first | exact List.getElem?_cons_zero | refine List.getElem?_cons_succ.trans ?_)))) (by kernel_rfl) (by exact rfl)); (focus (intro W' hS; have hcS := hS.cells.1; have hfS := hS.cells.2; go_simp; (first | done | exact rfl | exact ⟨rfl, Below.refl _ _⟩ | (go_simp; first | done | exact rfl | exact ⟨rfl, Below.refl _ _⟩)))); intro K hK; go_simp; (try go_bits); refine hK _ ?_; clear hK K))); refine wpQI_nil ?_
                          apply wpQ_fresh (i := 13) LInv.std (by with_reducible (refine List.getElem?_toArray.trans ?_; (repeat (first | exact List.getElem?_cons_zero | refine List.getElem?_cons_succ.trans ?_)))) (by kernel_rfl) (fun g => Value.slice (some ⟨g, 0, none⟩) 1 1) (by exact rfl); (focus (intro W; go_simp; first | done | exact rfl | exact ⟨rfl, rfl⟩))
                          intro g_13 hN_13 hG_13 K hK
                          go_simp; refine hK _ ?_; clear hK K
                          refine wpQ_done (by kernel_rfl) ?_
                          intro w22 hF_w22 hSG
                          have hz_w22 := hSG.1.1
                          have hb_w22 := hSG.1.2
                          have hB_13 := (hSG.2 _ (List.mem_cons_self ..)).2; simp only at hB_13; have hl_13 := (hSG.size (List.mem_cons_self ..)); simp only at hl_13
                          have cc := cell_of_row w22 g_13 0 _ _ _ hB_13; simp only [List.getElem?_toArray, List.getElem?_cons_zero] at cc
                          have fz : (∀ o, w22.frozen? ⟨g_13, o, none⟩ = false) := (fun o => frozen_of_row w22 g_13 o _ _ hB_13); have HH_13 := Lib.hid hB_13; clear hB_13
                          clear hSG
                          skip
                          (try simp only [List.filterMap_cons, List.filterMap_nil, List.getElem?_cons_succ, List.getElem?_cons_zero])
                          have hr22 := hr21.below hb_w22 (Nat.le_refl _)
                          have hX22 := hX21.below hb_w22 hX21.lt
                          have hZ22 := hZ21.below hb_w22 hZ21.lt
                          have hB22 := hB21.below hb_w22 hB21.size
                          have hK22 := hK21.below hb_w22 hK21.lt
                          have hO22 := hO21.below hb_w22 hO21.size
                          have HVs2 := Lib.hid (own_below HVs1.out hb_w22 (Nat.le_refl _))
                          have hs22 := hb_w22.size
                          have hP22 := hP21.trans (But.of_below (rb := rb) hb_w22 (Nat.le_refl _))
                          clear hr21 hK21 hX21 hZ21 hB21 hO21 hb_w22 HVs1 hP21
                          clear y0 y1 y2 y3 yz yl z0 z1 z2 z3 zz zl q0 q1 qz ql k0 k1' k2' kz kl c0 c1 c2 c3
                          have hfr := own_fresh HVs2.out
                          have hvl : vs.length ≤ 1000000 := by omega
                          have hgki : g_k + 1 ≤ w22.heap.size := by omega
                          refine wpList_append_one rfl _ _ 37 3 _ 1 8 rfl Tryd.underlying37 intInfo rfl (by decide) (by decide) (g_k + 1) (.slice V vs.length q) vs.length (vs.map (Value.int .i64)) [.int .i64 vn] rfl HVs2.out g_13 1 rfl rfl (cells1 (by assumption)) (by simp [Value.oneCell']) hvl hgki ?_
                          intro v7 w23 ho7 hg7 _
                          obtain ⟨V', q', rfl⟩ := own_sl ho7
                          have ho7' : OwnI w23 (g_k + 1) V' q' (vs ++ [vn]) := by
                            unfold OwnI
                            rw [List.map_append, List.length_append]
                            exact ho7
                          have hK23 := hK22.grown hg7 hfr (Nat.lt_succ_self _)
                          have hr23 := hr22.grown hg7 (fun k hk => by have := hfr k hk; omega)
                          have hP23 := (hbi.trans hP22).grown hg7 (fun k hk => by have := hfr k hk; omega)
                          have hwm : IntKind.i64.wrap ((m : Int) + 1 - 1) = ((m : Nat) : Int) := by rw [IntKind.wrap_i64]; omega
                          have hwj : IntKind.i64.wrap ((j : Int) + 1 + (vs.length : Int) + 1) = ((j + 1 + (vs ++ [vn]).length : Nat) : Int) := by rw [IntKind.wrap_i64, List.length_append, List.length_singleton]; omega
                          clear fz hg7 ho7
                          obtain ⟨k0, k1', k2', kz, kl⟩ := id hK23
                          have q0 := hr23.hw
                          have q1 := hr23.hi
                          have qz := hr23.fz
                          have ql := hr23.lt
                          go_simp
                          go_wp2_with fail
                          go_roundg (m + 1)
                          case measure => omega
                          case rel =>
                            refine ⟨m, vs ++ [vn], V', q', by simp only [List.length_append, List.length_cons, List.length_nil]; omega, by omega, by go_num, by simp only [List.length_append, List.length_cons, List.length_nil]; omega, ?_, ?_, ?_, ?_, HJ4⟩
                            · exact (hP23.set (p := ⟨g_k, 1, none⟩) _ (.inr (by show w15.heap.size ≤ g_k; omega))).set (p := ⟨rb, 1, none⟩) _ (.inl rfl)
                            · exact (hr23.set (p := ⟨g_k, 1, none⟩) _ (by show rb < g_k; omega)).step' _ (by simp)
                            · simpa using (hK23.set1 _).low (p := ⟨rb, 1, none⟩) (by show rb ≠ g_k; omega) _
                            · exact Lib.hid ((ho7'.low (p := ⟨g_k, 1, none⟩) (by show g_k < g_k + 1; omega) _).low (p := ⟨rb, 1, none⟩) (by show rb < g_k + 1; omega) _)
                        · obtain rfl : R = .err 4 (atR (L.drop (j + 1 + vs.length)) e) := by rw [HJ3.out, numsF_bad k2]; rfl
                          go_wp2_with fail
                          refine bodyPost_ret (v := .tuple #[.agg #[.string tx, .string yt, .slice B ks.length d, .int .i64 pl], .int .i64 4]) (by simp only [results, Tryd.results28]; go_simp) rfl ⟨?_, _, _, _, _, _, _, j + 1 + vs.length, rfl, by omega, rfl, ?_⟩
                          · exact ((((hB21.set (p := ⟨w.heap.size, 0, none⟩) _ (.inr (Nat.le_refl _))).set (p := ⟨w.heap.size, 1, none⟩) _ (.inr (Nat.le_refl _))).set (p := ⟨w.heap.size, 2, none⟩) _ (.inr (Nat.le_refl _))).set (p := ⟨w.heap.size, 3, none⟩) _ (.inr (Nat.le_refl _)))
                          · exact ((((hr21.set (p := ⟨w.heap.size, 0, none⟩) _ (by show rb < w.heap.size; omega)).set (p := ⟨w.heap.size, 1, none⟩) _ (by show rb < w.heap.size; omega)).set (p := ⟨w.heap.size, 2, none⟩) _ (by show rb < w.heap.size; omega)).set (p := ⟨w.heap.size, 3, none⟩) _ (by show rb < w.heap.size; omega))
              · obtain rfl : R = .err 4 (atR (L.drop j) e) := by rw [HJ.out, keysF_bad k3 k1]; rfl
                have n1 : (kdR L j != 1) = true := by simpa using k1
                go_wp2_with fail
                refine wp_region_floatQ w14.heap.size 20 [] (Nat.le_refl _) (fun _ => True) trivial Cl.tt (by kernel_rfl) (by kernel_rfl) ?_
                -- own blocks: 
                refine wpQI_start [0, 1, 2, 3, 4, 5, 6, 7, 8, 9, 10, 11, 12, 13, 14, 15, 16, 17, 18, 19] ?_; (iterate 20 (first | (refine wpQI_off (by with_reducible (refine List.getElem?_toArray.trans ?_; (repeat (first | exact List.getElem?_cons_zero | refine List.getElem?_cons_succ.trans ?_)))) (by kernel_rfl) (by exact rfl) (fun K hK => ?_); go_simp; refine hK _ ?_; clear hK K) | ((first | apply wpQI_step (by with_reducible (refine List.getElem?_toArray.trans ?_; (repeat (first | exact List.getElem?_cons_zero | refine List.getElem?_cons_succ.trans ?_)))) (by kernel_rfl) (by exact rfl) | apply wpQI_on (by with_reducible (refine List.getElem?_toArray.trans ?_; (repeat (first | exact List.getElem?_cons_zero | refine List.getElem?_cons_succ.trans ?_)))) (by kernel_rfl) (by exact rfl)); (focus (intro W' hS; have hcS := hS.cells.1; have hfS := hS.cells.2; go_simp; (first | done | exact rfl | exact ⟨rfl, Below.refl _ _⟩ | (go_at_call 43; exact (rkind_any _ _ _ _ _ _ _ _ (hr14.below hS.2 (Nat.le_refl _)) hj).mono (fun _ _ h => ⟨h.1, h.2⟩)) | (go_at_call 18; exact (rarity_any _ _ _).mono (fun _ _ h => ⟨h.1, h.2⟩)) | (go_simp; first | done | exact rfl | exact ⟨rfl, Below.refl _ _⟩)))); intro K hK; go_simp; (try go_bits); refine hK _ ?_; clear hK K))); refine wpQI_nil ?_
                refine wpQ_done (by kernel_rfl) ?_
                intro w15 hF_w15 hSG
                have hz_w15 := hSG.1.1
                have hb_w15 := hSG.1.2
                clear hSG
                skip
                (try simp only [List.filterMap_nil])
                have hr15 := hr14.below hb_w15 (Nat.le_refl _)
                have hX15 := hX14.below hb_w15 hX14.lt
                have hZ15 := hZ14.below hb_w15 hZ14.lt
                have hB15 := hB14.below hb_w15 hB14.size
                have hO15 := hO14.below hb_w15 hO14.size
                clear y0 y1 y2 y3 yz yl z0 z1 z2 z3 zz zl q0 q1 qz ql
                obtain ⟨y0, y1, y2, y3, yz, yl⟩ := id hX15
                obtain ⟨z0, z1, z2, z3, zz, zl⟩ := id hZ15
                have q0 := hr15.hw
                have q1 := hr15.hi
                have qz := hr15.fz
                have ql := hr15.lt
                go_wp2_with fail
                refine bodyPost_ret (v := .tuple #[.agg #[.string tx, .string yt, .slice B ks.length d, .int .i64 pl], .int .i64 4]) (by simp only [results, Tryd.results28]; go_simp) rfl ⟨?_, _, _, _, _, _, _, j, rfl, by omega, rfl, ?_⟩
                · exact ((((hB15.set (p := ⟨w.heap.size, 0, none⟩) _ (.inr (Nat.le_refl _))).set (p := ⟨w.heap.size, 1, none⟩) _ (.inr (Nat.le_refl _))).set (p := ⟨w.heap.size, 2, none⟩) _ (.inr (Nat.le_refl _))).set (p := ⟨w.heap.size, 3, none⟩) _ (.inr (Nat.le_refl _)))
                · exact ((((hr15.set (p := ⟨w.heap.size, 0, none⟩) _ (by show rb < w.heap.size; omega)).set (p := ⟨w.heap.size, 1, none⟩) _ (by show rb < w.heap.size; omega)).set (p := ⟨w.heap.size, 2, none⟩) _ (by show rb < w.heap.size; omega)).set (p := ⟨w.heap.size, 3, none⟩) _ (by show rb < w.heap.size; omega))
        · obtain rfl : R = .err 4 (atR (L.drop (i + 1)) e) := by rw [HR.out]; exact itemF_name hw htab k2
          go_wp2_with fail
          refine bodyPost_ret (v := .tuple #[.agg #[.string tx, .string ⟨#[]⟩, .slice none 0 0, .int .i64 pl], .int .i64 4]) (by simp only [results, Tryd.results28]; go_simp) rfl ⟨?_, _, _, _, _, _, _, i + 1, rfl, by omega, rfl, ?_⟩
          · exact ((((hB6.set (p := ⟨w.heap.size, 0, none⟩) _ (.inr (Nat.le_refl _))).set (p := ⟨w.heap.size, 1, none⟩) _ (.inr (Nat.le_refl _))).set (p := ⟨w.heap.size, 2, none⟩) _ (.inr (Nat.le_refl _))).set (p := ⟨w.heap.size, 3, none⟩) _ (.inr (Nat.le_refl _)))
          · exact ((((hr6.set (p := ⟨w.heap.size, 0, none⟩) _ (by show rb < w.heap.size; omega)).set (p := ⟨w.heap.size, 1, none⟩) _ (by show rb < w.heap.size; omega)).set (p := ⟨w.heap.size, 2, none⟩) _ (by show rb < w.heap.size; omega)).set (p := ⟨w.heap.size, 3, none⟩) _ (by show rb < w.heap.size; omega))
  · obtain rfl : R = .err 4 pl := by rw [HR.out]; simp [itemF, k1]
    go_wp2_with fail
    refine bodyPost_ret (v := .tuple #[.agg #[.string tx, .string ⟨#[]⟩, .slice none 0 0, .int .i64 pl], .int .i64 4]) (by simp only [results, Tryd.results28]; go_simp) rfl ⟨?_, _, _, _, _, _, _, i, rfl, by omega, atR_at hx, ?_⟩
    · exact ((((hB4.set (p := ⟨w.heap.size, 0, none⟩) _ (.inr (Nat.le_refl _))).set (p := ⟨w.heap.size, 1, none⟩) _ (.inr (Nat.le_refl _))).set (p := ⟨w.heap.size, 2, none⟩) _ (.inr (Nat.le_refl _))).set (p := ⟨w.heap.size, 3, none⟩) _ (.inr (Nat.le_refl _)))
    · exact ((((hr4.set (p := ⟨w.heap.size, 0, none⟩) _ (by show rb < w.heap.size; omega)).set (p := ⟨w.heap.size, 1, none⟩) _ (by show rb < w.heap.size; omega)).set (p := ⟨w.heap.size, 2, none⟩) _ (by show rb < w.heap.size; omega)).set (p := ⟨w.heap.size, 3, none⟩) _ (by show rb < w.heap.size; omega))
end Go.Proofs.YteondblmcooklaaDoor
