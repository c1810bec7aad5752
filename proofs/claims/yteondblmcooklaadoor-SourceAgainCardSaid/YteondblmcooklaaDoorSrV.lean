/- The contract of the reference's Same. -/
import Derived.Test.YteondblmcooklaaDoorSrS
import Derived.Test.YteondblmcooklaaDoorSrcJ
namespace Go.Proofs.YteondblmcooklaaDoor
open Go Go.RowKit
set_option linter.unusedVariables false
theorem eqb_true {a b : ByteArray} (h : a = b) : (a.toList == b.toList) = true ∧ (a.toList != b.toList) = false := by subst h; simp
theorem eqb_false {a b : ByteArray} (h : a ≠ b) : (a.toList == b.toList) = false ∧ (a.toList != b.toList) = true := by
  have := txt_neT h
  exact ⟨this, by simp [bne, this]⟩
theorem dec_drop {l m : List Int} {j : Nat} {a b : Int} (ha : l[j]? = some a) (hb : m[j]? = some b) : decide (l.drop j = m.drop j) = (decide (a = b) && decide (l.drop (j + 1) = m.drop (j + 1))) := by
  obtain ⟨q1, rfl⟩ := List.getElem?_eq_some_iff.1 ha
  obtain ⟨q2, rfl⟩ := List.getElem?_eq_some_iff.1 hb
  rw [List.drop_eq_getElem_cons q1, List.drop_eq_getElem_cons q2]
  simp only [List.cons.injEq, Bool.decide_and]
set_option maxRecDepth 100000 in
set_option maxHeartbeats 8000000 in
theorem rsame_any (l m : List IV) (A B : Option Addr) (c d : Nat) (w : World) (hA : XsAt w A l) (hB : XsAt w B m) (h1 : l.length ≤ 1000000) (h2 : m.length ≤ 1000000) (v1 : ∀ x ∈ l, okX x) (v2 : ∀ x ∈ m, okX x) :
    Calls Tryd.prog 12 #[.slice A l.length c, .slice B m.length d] w fun e w' => e = .returned (.bool (eqL eqX l m)) ∧ Below w.heap.size w w' := by
  by_cases hlm : l.length = m.length
  · obtain ⟨R, hR⟩ : ∃ R, R = eqL eqX l m := ⟨_, rfl⟩
    rw [← hR]
    have HR : Hid (eqL eqX (l.drop 0) (m.drop 0) = R) := Lib.hid (by rw [hR]; rfl)
    have HA := Lib.hid hA
    have HB := Lib.hid hB
    have V1 := Lib.hid v1
    have V2 := Lib.hid v2
    have HLM := Lib.hid hlm
    rw [← hlm]
    clear hR hA hB v1 v2 hlm
    go_enter Tryd.func12, Tryd.ntmps12; (try simp only [List.append_eq, List.cons_append, List.nil_append])
    go_wp2_with fail
    go_loopg [5] (l.length + 1) (fun gk t wr => ∃ k : Nat, k ≤ l.length ∧ l.length - k < gk ∧ t = .int .i64 k ∧ Below w.heap.size w wr ∧ Hid (eqL eqX (l.drop k) (m.drop k) = R))
    case atStart => exact ⟨0, by omega, by omega, rfl, Below.refl _ _, HR⟩
    case round =>
      obtain ⟨ws, rfl⟩ : ∃ z, z = wr := ⟨_, rfl⟩
      obtain ⟨i, hi, hik, rfl, hb_wr, HJ⟩ := hrel
      have hz_wr := hb_wr.size
      by_cases hlt : i < l.length
      · obtain ⟨x, hx⟩ : ∃ x, l[i]? = some x := ⟨l[i], by simp⟩
        obtain ⟨y, hy⟩ : ∃ y, m[i]? = some y := ⟨m[i]'(by have := HLM.out; omega), by simp⟩
        obtain ⟨g, o, C, q, rfl, hg, ⟨c0, c1, c2, c3⟩, hI⟩ := (HA.out.below hb_wr (Nat.le_refl _)) i x hx
        obtain ⟨g', o', C', q', rfl, hg', ⟨d0, d1, d2, d3⟩, hI'⟩ := (HB.out.below hb_wr (Nat.le_refl _)) i y hy
        have HST := Lib.hid (eqL_drop (f := eqX) hx hy)
        have i1 : (i : Int) < (l.length : Int) := by omega
        have HI := Lib.hid hI
        have HI' := Lib.hid hI'
        have HBe := Lib.hid hb_wr
        have hkx := V1.out x (List.mem_of_getElem? hx)
        have hky := V2.out y (List.mem_of_getElem? hy)
        have hk1 := hkx.1
        have hk2 := hky.1
        have HKX := Lib.hid hkx
        have HKY := Lib.hid hky
        clear hI hI' hb_wr hkx hky hx hy
        go_wp2_with fail
        refine wp_region_floatQ ws.heap.size 11 [11] (Nat.le_refl _) (fun _ => True) trivial Cl.tt (by kernel_rfl) (by kernel_rfl) ?_
        -- own blocks: 
        refine wpQI_start [0, 1, 2, 3, 4, 5, 6, 7] ?_; (iterate 8 (first | (refine wpQI_off (by with_reducible (refine List.getElem?_toArray.trans ?_; (repeat (first | exact List.getElem?_cons_zero | refine List.getElem?_cons_succ.trans ?_)))) (by kernel_rfl) (by exact rfl) (fun K hK => ?_); go_simp; refine hK _ ?_; clear hK K) | ((first | apply wpQI_step (by with_reducible (refine List.getElem?_toArray.trans ?_; (repeat (first | exact List.getElem?_cons_zero | refine List.getElem?_cons_succ.trans ?_)))) (by kernel_rfl) (by exact rfl) | apply wpQI_on (by with_reducible (refine List.getElem?_toArray.trans ?_; (repeat (first | exact List.getElem?_cons_zero | refine List.getElem?_cons_succ.trans ?_)))) (by kernel_rfl) (by exact rfl)); (focus (intro W' hS; have hcS := hS.cells.1; have hfS := hS.cells.2; go_simp; (first | done | exact rfl | exact ⟨rfl, Below.refl _ _⟩ | (go_simp; first | done | exact rfl | exact ⟨rfl, Below.refl _ _⟩)))); intro K hK; go_simp; (try go_bits); refine hK _ ?_; clear hK K))); refine wpQI_nil ?_
        apply wpQ_fresh (i := 9) LInv.std (by with_reducible (refine List.getElem?_toArray.trans ?_; (repeat (first | exact List.getElem?_cons_zero | refine List.getElem?_cons_succ.trans ?_)))) (by kernel_rfl) (fun g => Value.pointer (some ⟨g, 0, none⟩)) (by exact rfl); (focus (intro W; go_simp; first | done | exact rfl | exact ⟨rfl, rfl⟩))
        intro g_y hN_y hG_y K hK
        go_simp; refine hK _ ?_; clear hK K
        apply wpQ_fresh (i := 8) LInv.std (by with_reducible (refine List.getElem?_toArray.trans ?_; (repeat (first | exact List.getElem?_cons_zero | refine List.getElem?_cons_succ.trans ?_)))) (by kernel_rfl) (fun g => Value.pointer (some ⟨g, 0, none⟩)) (by exact rfl); (focus (intro W; go_simp; first | done | exact rfl | exact ⟨rfl, rfl⟩))
        intro g_x hN_x hG_x K hK
        go_simp; refine hK _ ?_; clear hK K
        have hne_yx : g_y ≠ g_x := hG_x _ (List.mem_cons_self ..)
        have hne_xy : g_x ≠ g_y := Ne.symm hne_yx
        apply wpQ_wild (i := 10) rfl (by kernel_rfl) (by kernel_rfl); intro W hF hS; have hcS := hS.1.cells.1; have hfS := hS.1.cells.2; have hb0 := (hS.2 _ (List.mem_cons_self ..)).2; simp only at hb0; have fz : (∀ o, W.frozen? ⟨g_x, o, none⟩ = false) := (fun o => frozen_of_row W g_x o _ _ hb0); have cc0 := cell_of_row W g_x 0 _ _ _ hb0; simp only [List.getElem?_toArray, List.getElem?_cons_zero] at cc0; have cc1 := cell_of_row W g_x 1 _ _ _ hb0; simp only [List.getElem?_toArray, List.getElem?_cons_zero, List.getElem?_cons_succ] at cc1; have cc2 := cell_of_row W g_x 2 _ _ _ hb0; simp only [List.getElem?_toArray, List.getElem?_cons_zero, List.getElem?_cons_succ] at cc2; have cc3 := cell_of_row W g_x 3 _ _ _ hb0; simp only [List.getElem?_toArray, List.getElem?_cons_zero, List.getElem?_cons_succ] at cc3; go_simp
        have hP := ((((hS.put hG_x 0 (.string x.word)).put hG_x 1 (.string x.name)).put hG_x 2 (.slice C x.keys.length q)).put hG_x 3 (.int .i64 x.at_))
        simp only [List.setIfInBounds_toArray, List.set_cons_zero, List.set_cons_succ] at hP
        refine WPost.mk _ (fun W => True) _ trivial Cl.tt hP ?_
        clear hP fz hb0 cc0 cc1 cc2 cc3 hcS hfS hS hF
        intro K hK; go_simp; refine hK _ ?_; clear hK K
        refine wpQ_done (by kernel_rfl) ?_
        intro w1 hF_w1 hSG
        have hz_w1 := hSG.1.1
        have hb_w1 := hSG.1.2
        have hB_x := (hSG.2 _ (List.mem_cons_self ..)).2; simp only at hB_x; have hl_x := (hSG.size (List.mem_cons_self ..)); simp only at hl_x
        have cc := cell_of_row w1 g_x 0 _ _ _ hB_x; simp only [List.getElem?_toArray, List.getElem?_cons_zero] at cc
        have cc := cell_of_row w1 g_x 1 _ _ _ hB_x; simp only [List.getElem?_toArray, List.getElem?_cons_zero, List.getElem?_cons_succ] at cc
        have cc := cell_of_row w1 g_x 2 _ _ _ hB_x; simp only [List.getElem?_toArray, List.getElem?_cons_zero, List.getElem?_cons_succ] at cc
        have cc := cell_of_row w1 g_x 3 _ _ _ hB_x; simp only [List.getElem?_toArray, List.getElem?_cons_zero, List.getElem?_cons_succ] at cc
        have fz : (∀ o, w1.frozen? ⟨g_x, o, none⟩ = false) := (fun o => frozen_of_row w1 g_x o _ _ hB_x); have HH_x := Lib.hid hB_x; clear hB_x
        have hB_y := (hSG.2 _ (List.mem_cons_of_mem _ (List.mem_cons_self ..))).2; simp only at hB_y; have hl_y := (hSG.size (List.mem_cons_of_mem _ (List.mem_cons_self ..))); simp only at hl_y
        have cc := cell_of_row w1 g_y 0 _ _ _ hB_y; simp only [List.getElem?_toArray, List.getElem?_cons_zero] at cc
        have cc := cell_of_row w1 g_y 1 _ _ _ hB_y; simp only [List.getElem?_toArray, List.getElem?_cons_zero, List.getElem?_cons_succ] at cc
        have cc := cell_of_row w1 g_y 2 _ _ _ hB_y; simp only [List.getElem?_toArray, List.getElem?_cons_zero, List.getElem?_cons_succ] at cc
        have cc := cell_of_row w1 g_y 3 _ _ _ hB_y; simp only [List.getElem?_toArray, List.getElem?_cons_zero, List.getElem?_cons_succ] at cc
        have fz : (∀ o, w1.frozen? ⟨g_y, o, none⟩ = false) := (fun o => frozen_of_row w1 g_y o _ _ hB_y); have HH_y := Lib.hid hB_y; clear hB_y
        clear hSG
        skip
        (try simp only [List.filterMap_cons, List.filterMap_nil, List.getElem?_cons_succ, List.getElem?_cons_zero])
        have hX1 : C4 w1 g_x (.string x.word) (.string x.name) (.slice C x.keys.length q) (.int .i64 x.at_) := C4.mk' hl_x HH_x.out
        have hY1 : C4 w1 g_y (.string ⟨#[]⟩) (.string ⟨#[]⟩) (.slice none 0 0) (.int .i64 0) := C4.mk' hl_y HH_y.out
        have HB1 := Lib.hid hb_w1
        clear HH_x HH_y hG_x hG_y hb_w1
        by_cases hw : x.word = y.word
        · obtain ⟨b1, b1'⟩ := eqb_true hw
          by_cases hn : x.name = y.name
          · obtain ⟨b2, b2'⟩ := eqb_true hn
            by_cases hkl : x.keys.length = y.keys.length
            · have HKL := Lib.hid hkl
              have i3 : (x.keys.length : Int) = (y.keys.length : Int) := by omega
              have HJ2 : Hid (R = (eqL eqK (x.keys.drop 0) (y.keys.drop 0) && (eqL eqX (l.drop (i + 1)) (m.drop (i + 1))))) := Lib.hid (by rw [← HJ.out, HST.out]; unfold eqX; rw [decide_eq_true hw, decide_eq_true hn]; rfl)
              clear hw hn hkl HJ HST
              go_wp2_with fail
              (refine pin_eq (fun w2 hE_w2 => ?_))
              have hX2 : C4 w2 g_x (.string x.word) (.string x.name) (.slice C x.keys.length q) (.int .i64 x.at_) := by rw [hE_w2]; exact (((hX1.low (p := ⟨g_y, 0, none⟩) hne_yx _).low (p := ⟨g_y, 1, none⟩) hne_yx _).low (p := ⟨g_y, 2, none⟩) hne_yx _).low (p := ⟨g_y, 3, none⟩) hne_yx _
              have hY2 : C4 w2 g_y (.string y.word) (.string y.name) (.slice C' y.keys.length q') (.int .i64 y.at_) := by rw [hE_w2]; exact ⟨by go_simp, by go_simp, by go_simp, by go_simp, fun o => by go_simp, by simpa using hl_y⟩
              have hb2 : Below ws.heap.size ws w2 := by rw [hE_w2]; have hb_w1 := HB1.out; ((with_reducible (repeat (first | exact bR _ _ | refine bS ?_ ?_ _ | refine bA ?_ ?_ _ | refine bD ?_ | refine bT ?_ (by assumption) ?_ | refine bO (by assumption) ?_ ?_))) <;> (first | omega | (simp; done) | (simp <;> omega)))
              clear hE_w2 hX1 hY1 HB1 b1 b1' b2 b2' i3
              go_loopg [8] (x.keys.length + 1) (fun gk t wq => ∃ k : Nat, k ≤ x.keys.length ∧ x.keys.length - k < gk ∧ t = .int .i64 k ∧ Below ws.heap.size ws wq ∧ C4 wq g_x (.string x.word) (.string x.name) (.slice C x.keys.length q) (.int .i64 x.at_) ∧ C4 wq g_y (.string y.word) (.string y.name) (.slice C' y.keys.length q') (.int .i64 y.at_) ∧ Hid (R = (eqL eqK (x.keys.drop k) (y.keys.drop k) && (eqL eqX (l.drop (i + 1)) (m.drop (i + 1))))))
              case atStart => exact ⟨0, by omega, by omega, rfl, hb2, hX2, hY2, HJ2⟩
              case round =>
                obtain ⟨wq, rfl⟩ : ∃ z, z = wr := ⟨_, rfl⟩
                clear hX2 hY2 hb2 HJ2
                obtain ⟨k, hk, hkk, rfl, hb_wq, hXq, hYq, HJ⟩ := hrel
                have hz_wq := hb_wq.size
                obtain ⟨y0, y1, y2, y3, yz, yl⟩ := id hXq
                obtain ⟨z0, z1, z2, z3, zz, zl⟩ := id hYq
                by_cases hkt : k < x.keys.length
                · obtain ⟨a, ha⟩ : ∃ a, x.keys[k]? = some a := ⟨x.keys[k], by simp⟩
                  obtain ⟨b, hb⟩ : ∃ b, y.keys[k]? = some b := ⟨y.keys[k]'(by have := HKL.out; omega), by simp⟩
                  obtain ⟨u, s, V, p, rfl, hu, ⟨e0, e1, e2⟩, hV⟩ := (HI.out.below hb_wq (Nat.le_refl _)) k a ha
                  obtain ⟨u', s', V', p', rfl, hu', ⟨f0, f1, f2⟩, hV'⟩ := (HI'.out.below hb_wq (Nat.le_refl _)) k b hb
                  have HS2 := Lib.hid (eqL_drop (f := eqK) ha hb)
                  have i2 : (k : Int) < (x.keys.length : Int) := by omega
                  have i2' : (k : Int) < (y.keys.length : Int) := by have := HKL.out; omega
                  have hva := HKX.out.2 a (List.mem_of_getElem? ha)
                  have hvb := HKY.out.2 b (List.mem_of_getElem? hb)
                  have HBq := Lib.hid hb_wq
                  have HXq := Lib.hid hXq
                  have HYq := Lib.hid hYq
                  have HA2 := Lib.hid ha
                  have HB2 := Lib.hid hb
                  clear hV hV' ha hb hb_wq hXq hYq
                  by_cases hkey : a.key = b.key
                  · obtain ⟨b1, b1'⟩ := eqb_true hkey
                    by_cases hvl : a.vals.length = b.vals.length
                    · have HVL := Lib.hid hvl
                      have i4 : (a.vals.length : Int) = (b.vals.length : Int) := by omega
                      have HJ3 : Hid (R = ((decide (a.vals.drop 0 = b.vals.drop 0) && eqL eqK (x.keys.drop (k + 1)) (y.keys.drop (k + 1))) && (eqL eqX (l.drop (i + 1)) (m.drop (i + 1))))) := Lib.hid (by rw [HJ.out, HS2.out]; unfold eqK; rw [decide_eq_true hkey]; rfl)
                      clear hkey hvl HJ HS2
                      go_wp2_with fail
                      go_region
                      go_wp2_with fail
                      (refine pin_eq (fun w3 hE_w3 => ?_))
                      have hX3 : C4 w3 g_x (.string x.word) (.string x.name) (.slice (some ⟨u, s, none⟩) x.keys.length q) (.int .i64 x.at_) := by rw [hE_w3]; exact HXq.out.drew
                      have hY3 : C4 w3 g_y (.string y.word) (.string y.name) (.slice (some ⟨u', s', none⟩) y.keys.length q') (.int .i64 y.at_) := by rw [hE_w3]; exact HYq.out.drew
                      have hb3 : Below ws.heap.size ws w3 := by rw [hE_w3]; exact HBq.out.drew
                      clear hE_w3 y0 y1 y2 y3 yz yl z0 z1 z2 z3 zz zl b1 b1' i4 e0 e1 e2 f0 f1 f2 hu hu'
                      go_loopg [9] (a.vals.length + 1) (fun gk t wv => ∃ j : Nat, j ≤ a.vals.length ∧ a.vals.length - j < gk ∧ t = .int .i64 j ∧ Below ws.heap.size ws wv ∧ C4 wv g_x (.string x.word) (.string x.name) (.slice (some ⟨u, s, none⟩) x.keys.length q) (.int .i64 x.at_) ∧ C4 wv g_y (.string y.word) (.string y.name) (.slice (some ⟨u', s', none⟩) y.keys.length q') (.int .i64 y.at_) ∧ Hid (R = ((decide (a.vals.drop j = b.vals.drop j) && eqL eqK (x.keys.drop (k + 1)) (y.keys.drop (k + 1))) && eqL eqX (l.drop (i + 1)) (m.drop (i + 1)))))
                      case atStart => exact ⟨0, by omega, by omega, rfl, hb3, hX3, hY3, HJ3⟩
                      case round =>
                        obtain ⟨wv, rfl⟩ : ∃ z, z = wr := ⟨_, rfl⟩
                        clear hX3 hY3 hb3 HJ3
                        obtain ⟨j, hj, hjk, rfl, hb_wv, hXv, hYv, HJ⟩ := hrel
                        have hz_wv := hb_wv.size
                        obtain ⟨y0, y1, y2, y3, yz, yl⟩ := id hXv
                        obtain ⟨z0, z1, z2, z3, zz, zl⟩ := id hYv
                        obtain ⟨u2, s2, V2, p2, hE, hu, ⟨e0, e1, e2⟩, hV⟩ := (HI.out.below hb_wv (Nat.le_refl _)) k a HA2.out
                        obtain ⟨rfl, rfl⟩ : u = u2 ∧ s = s2 := by simpa using hE
                        obtain ⟨u2, s2, V2', p2', hE', hu', ⟨f0, f1, f2⟩, hV'⟩ := (HI'.out.below hb_wv (Nat.le_refl _)) k b HB2.out
                        obtain ⟨rfl, rfl⟩ : u' = u2 ∧ s' = s2 := by simpa using hE'
                        clear hE hE'
                        by_cases hjt : j < a.vals.length
                        · obtain ⟨n1, hn1⟩ : ∃ n, a.vals[j]? = some n := ⟨a.vals[j], by simp⟩
                          obtain ⟨n2, hn2⟩ : ∃ n, b.vals[j]? = some n := ⟨b.vals[j]'(by have := HVL.out; omega), by simp⟩
                          obtain ⟨r1, t1, rfl, hr1, v1⟩ := hV j n1 hn1
                          obtain ⟨r2, t2, rfl, hr2, v2⟩ := hV' j n2 hn2
                          have i5 : (j : Int) < (a.vals.length : Int) := by omega
                          have i5' : (j : Int) < (b.vals.length : Int) := by have := HVL.out; omega
                          have hst : decide (a.vals.drop j = b.vals.drop j) = (decide (n1 = n2) && decide (a.vals.drop (j + 1) = b.vals.drop (j + 1))) := dec_drop hn1 hn2
                          have HST2 := Lib.hid hst
                          have HXv := Lib.hid hXv
                          have HYv := Lib.hid hYv
                          have HBv := Lib.hid hb_wv
                          clear hV hV' hn1 hn2 hst hXv hYv hb_wv
                          by_cases hnn : n1 = n2
                          · have HJ4 : Hid (R = ((decide (a.vals.drop (j + 1) = b.vals.drop (j + 1)) && eqL eqK (x.keys.drop (k + 1)) (y.keys.drop (k + 1))) && eqL eqX (l.drop (i + 1)) (m.drop (i + 1)))) := Lib.hid (by rw [HJ.out, HST2.out, decide_eq_true hnn]; rfl)
                            clear HJ HST2
                            subst hnn
                            go_wp2_with fail
                            go_region
                            go_wp2_with fail
                            go_roundg (a.vals.length - (j + 1) + 1)
                            case measure => omega
                            case rel => exact ⟨j + 1, by omega, by omega, by go_num, HBv.out.drew, HXv.out.drew, HYv.out.drew, HJ4⟩
                          · obtain rfl : R = false := by rw [HJ.out, HST2.out, decide_eq_false hnn]; rfl
                            clear HJ HST2
                            go_wp2_with fail
                            go_region
                            go_wp2_with fail
                            go_ret
                            refine ⟨rfl, ?_⟩
                            have hb_wr := HBe.out
                            have hb_wv := HBv.out
                            ((with_reducible (repeat (first | exact bR _ _ | refine bS ?_ ?_ _ | refine bA ?_ ?_ _ | refine bD ?_ | refine bT ?_ (by assumption) ?_ | refine bO (by assumption) ?_ ?_))) <;> (first | omega | (simp; done) | (simp <;> omega)))
                        · obtain rfl : j = a.vals.length := by omega
                          have HJ5 : Hid (R = (eqL eqK (x.keys.drop (k + 1)) (y.keys.drop (k + 1)) && eqL eqX (l.drop (i + 1)) (m.drop (i + 1)))) := Lib.hid (by rw [HJ.out, List.drop_length, HVL.out, List.drop_length]; rfl)
                          have HXv := Lib.hid hXv
                          have HYv := Lib.hid hYv
                          have HBv := Lib.hid hb_wv
                          clear hV hV' HJ hXv hYv hb_wv
                          go_wp2_with fail
                          go_roundg (x.keys.length - (k + 1) + 1)
                          case measure => omega
                          case rel => exact ⟨k + 1, by omega, by omega, by go_num, HBv.out, HXv.out, HYv.out, HJ5⟩
                    · obtain rfl : R = false := by rw [HJ.out, HS2.out]; unfold eqK; rw [decide_eq_false (p := a.vals = b.vals) (fun h => hvl (by rw [h]))]; simp
                      have i4 : ¬ (a.vals.length : Int) = (b.vals.length : Int) := by omega
                      clear hkey hvl HJ HS2
                      go_wp2_with fail
                      go_region
                      go_wp2_with fail
                      go_ret
                      refine ⟨rfl, ?_⟩
                      have hb_wr := HBe.out
                      have hb_wq := HBq.out
                      ((with_reducible (repeat (first | exact bR _ _ | refine bS ?_ ?_ _ | refine bA ?_ ?_ _ | refine bD ?_ | refine bT ?_ (by assumption) ?_ | refine bO (by assumption) ?_ ?_))) <;> (first | omega | (simp; done) | (simp <;> omega)))
                  · obtain rfl : R = false := by rw [HJ.out, HS2.out]; unfold eqK; rw [decide_eq_false hkey]; simp
                    obtain ⟨b1, b1'⟩ := eqb_false hkey
                    clear hkey HJ HS2
                    go_wp2_with fail
                    go_region
                    go_wp2_with fail
                    go_ret
                    refine ⟨rfl, ?_⟩
                    have hb_wr := HBe.out
                    have hb_wq := HBq.out
                    ((with_reducible (repeat (first | exact bR _ _ | refine bS ?_ ?_ _ | refine bA ?_ ?_ _ | refine bD ?_ | refine bT ?_ (by assumption) ?_ | refine bO (by assumption) ?_ ?_))) <;> (first | omega | (simp; done) | (simp <;> omega)))
                · obtain rfl : k = x.keys.length := by omega
                  have HJ4 : Hid (eqL eqX (l.drop (i + 1)) (m.drop (i + 1)) = R) := Lib.hid (by rw [HJ.out, eqL_end (Nat.le_refl _) (by have := HKL.out; omega)]; rfl)
                  go_wp2_with fail
                  go_roundg (l.length - (i + 1) + 1)
                  case measure => omega
                  case rel => exact ⟨i + 1, by omega, by omega, by go_num, HBe.out.trans (hb_wq.mono (by omega)), HJ4⟩
            · obtain rfl : R = false := by rw [← HJ.out, HST.out]; unfold eqX; rw [eqL_len hkl]; simp
              have i3 : ¬ (x.keys.length : Int) = (y.keys.length : Int) := by omega
              clear hw hn hkl HJ HST
              go_wp2_with fail
              go_ret
              refine ⟨rfl, ?_⟩
              have hb_wr := HBe.out
              have hb_w1 := HB1.out
              ((with_reducible (repeat (first | exact bR _ _ | refine bS ?_ ?_ _ | refine bA ?_ ?_ _ | refine bD ?_ | refine bT ?_ (by assumption) ?_ | refine bO (by assumption) ?_ ?_))) <;> (first | omega | (simp; done) | (simp <;> omega)))
          · obtain rfl : R = false := by rw [← HJ.out, HST.out]; unfold eqX; rw [decide_eq_false hn]; simp
            obtain ⟨b2, b2'⟩ := eqb_false hn
            clear hw hn HJ HST
            go_wp2_with fail
            go_ret
            refine ⟨rfl, ?_⟩
            have hb_wr := HBe.out
            have hb_w1 := HB1.out
            ((with_reducible (repeat (first | exact bR _ _ | refine bS ?_ ?_ _ | refine bA ?_ ?_ _ | refine bD ?_ | refine bT ?_ (by assumption) ?_ | refine bO (by assumption) ?_ ?_))) <;> (first | omega | (simp; done) | (simp <;> omega)))
        · obtain rfl : R = false := by rw [← HJ.out, HST.out]; unfold eqX; rw [decide_eq_false hw]; simp
          obtain ⟨b1, b1'⟩ := eqb_false hw
          clear hw HJ HST
          go_wp2_with fail
          go_ret
          refine ⟨rfl, ?_⟩
          have hb_wr := HBe.out
          have hb_w1 := HB1.out
          ((with_reducible (repeat (first | exact bR _ _ | refine bS ?_ ?_ _ | refine bA ?_ ?_ _ | refine bD ?_ | refine bT ?_ (by assumption) ?_ | refine bO (by assumption) ?_ ?_))) <;> (first | omega | (simp; done) | (simp <;> omega)))
      · obtain rfl : i = l.length := by omega
        obtain rfl : R = true := by rw [← HJ.out]; exact eqL_end (Nat.le_refl _) (by have := HLM.out; omega)
        go_wp2_with fail
        go_ret
        exact ⟨rfl, hb_wr⟩
  · rw [eqL_len hlm]
    have i0 : ¬ (l.length : Int) = (m.length : Int) := by omega
    go_enter Tryd.func12, Tryd.ntmps12; (try simp only [List.append_eq, List.cons_append, List.nil_append])
    go_wp2_with fail
    go_ret
    exact ⟨rfl, Below.refl _ _⟩
end Go.Proofs.YteondblmcooklaaDoor
