/- The walk of ScanComments. -/
import Derived.Test.YtadbffgaeobbhaaAwakeS
import Derived.Test.YtadbffgaeobbhaaScanC
namespace Go.Proofs.Ytadbffgaeobbhaa
open Go.RowKit
set_option linter.unusedVariables false
attribute [local go_sem] cOf_get
set_option maxRecDepth 100000 in
set_option maxHeartbeats 1000000 in
theorem comments_big (s note : ByteArray) (w : World) (hm : s.size ≤ maxLen) (hm' : note.size ≤ maxLen) (hb : 4000 < s.size ∨ 200 < note.size) :
    Calls Try.prog 5 #[.string s, .string note] w fun e w' => e = .returned (.bool true) ∧ Below w.heap.size w w' := by
  unfold maxLen at hm hm'
  by_cases h1 : 4000 < s.size
  · clear hb
    go_enter Try.func5, Try.ntmps5; (try simp only [List.append_eq, List.cons_append, List.nil_append])
    go_wp2_with (go_at_call 8; refine (awake07_any _).mono ?_; rintro e w1 ⟨rfl, hb1⟩; have z1 := hb1.size)
    go_ret
    exact ⟨rfl, by (repeat (first | (with_reducible exact Below.refl _ _) | (with_reducible refine Below.setCell ?_ ?_ _) | (with_reducible refine Below.alloc ?_ ?_ _) | (with_reducible refine Below.drew ?_) | (with_reducible refine Below.trans ?_ (Below.mono (by assumption) ?_)) | (with_reducible refine Own.below (by assumption) ?_ ?_))) <;> (first | omega | (simp; done) | (simp <;> omega))⟩
  · have h2 : 200 < note.size := by omega
    clear hb
    go_enter Try.func5, Try.ntmps5; (try simp only [List.append_eq, List.cons_append, List.nil_append])
    go_wp2_with (go_at_call 8; refine (awake07_any _).mono ?_; rintro e w1 ⟨rfl, hb1⟩; have z1 := hb1.size)
    go_ret
    exact ⟨rfl, by (repeat (first | (with_reducible exact Below.refl _ _) | (with_reducible refine Below.setCell ?_ ?_ _) | (with_reducible refine Below.alloc ?_ ?_ _) | (with_reducible refine Below.drew ?_) | (with_reducible refine Below.trans ?_ (Below.mono (by assumption) ?_)) | (with_reducible refine Own.below (by assumption) ?_ ?_))) <;> (first | omega | (simp; done) | (simp <;> omega))⟩
set_option maxRecDepth 100000 in
set_option maxHeartbeats 2000000 in
theorem comments_any (s note : ByteArray) (w : World) (hs : s.size ≤ 4000) (hn : note.size ≤ 200) :
    Calls Try.prog 5 #[.string s, .string note] w fun e w' => e = .returned (.bool true) ∧ Below w.heap.size w w' := by
  go_enter Try.func5, Try.ntmps5; (try simp only [List.append_eq, List.cons_append, List.nil_append])
  go_wp2_with fail
  (go_at_call 8; refine (awake07_any _).mono ?_; rintro e w1 ⟨rfl, hb1⟩)
  have z1 := hb1.size
  have HB1 := Lib.hid hb1
  clear hb1
  go_wp2_with fail
  go_loop [5] (fun t => ∃ k : Nat, k ≤ note.size ∧ t = .int .i64 k ∧ Hid (∀ j, j < k → cOf note j ≠ 10)) (fun t => note.size - (intOf t).toNat)
  case atStart => exact ⟨0, by omega, rfl, fun j hj => absurd hj (by omega)⟩
  case round =>
    obtain ⟨k, hk, rfl, HA⟩ := hrel
    by_cases hlt : k < note.size
    · by_cases hc : cOf note k = 10
      · have hc' : (cOf note k == 10) = true := by simp [hc]
        clear hc
        go_wp2_with fail
        (go_at_call 8; refine (awake07_any _).mono ?_; rintro e w2 ⟨rfl, hb2⟩)
        go_wp2_with fail
        go_ret
        exact ⟨rfl, HB1.out.trans (hb2.mono z1)⟩
      · have hc' : (cOf note k == 10) = false := by simp [hc]
        have HC := Lib.hid hc
        clear hc
        go_wp2_with fail
        go_round
        case rel => exact ⟨k + 1, by omega, by go_num, fun j hj => by
          rcases Nat.lt_or_ge j k with h | h
          · exact HA.out j h
          · obtain rfl : j = k := by omega
            exact HC.out⟩
        case measure => simp [intOf]; omega
    · obtain rfl : k = note.size := by omega
      obtain ⟨hHs, hlaw⟩ := head_note note s HA.out hs hn
      have hpl := scanR_place s
      have hats := scanR_ats s
      have hlen := scanR_len s
      go_wp2_with fail
      (go_at_call 9; refine (words_any _ _ (by unfold maxLen; omega)).mono ?_; rintro e w2 ⟨hb2, v1, rfl, hv1⟩)
      go_wp2_with fail
      generalize hH : (⟨#[35]⟩ ++ note ++ ⟨#[10]⟩ : ByteArray) = H at *
      (go_at_call 9; refine (words_any _ _ (by rw [size_app]; unfold maxLen; omega)).mono ?_; rintro e w3 ⟨hb3, v2, rfl, hv2⟩)
      rw [hlaw] at hv2 ⊢
      obtain ⟨⟨l, er, pl⟩, hR⟩ : ∃ R, R = scanR s := ⟨_, rfl⟩
      rw [← hR] at hv1 hv2 hpl hats hlen ⊢
      have HATS := Lib.hid hats
      have HV1 := Lib.hid (own_below hv1 hb3 (Nat.le_refl _))
      have hg1 := own_form hv1
      have z2 := hb2.size
      have z3 := hb3.size
      have HB3 := Lib.hid ((HB1.out.trans (hb2.mono z1)).trans (hb3.mono (by omega)))
      have HV2 := Lib.hid hv2
      have hg2 := own_form hv2
      clear hR hlaw hH hats hv1 hv2 hb2 hb3 HA
      simp only [shO, List.length_map] at HV1 HV2 hg1 hg2 hpl hlen ⊢
      have hHs' : note.size + 2 = H.size := hHs.symm
      rw [hHs'] at HV2 ⊢
      clear hHs'
      obtain ⟨pl', hpl'⟩ : ∃ p : Nat, p = (if er = 0 then 0 else H.size + pl) := ⟨_, rfl⟩
      rw [← hpl']
      have hcase : (er != 0) = false ∨ ((er != 0) = true ∧ ((pl' : Int) != (pl : Int) + (H.size : Int)) = false) := by
        by_cases h : er = 0
        · left; simp [h]
        · right; exact ⟨by simp [h], by rw [hpl', if_neg h]; simp; omega⟩
      clear hpl'
      have hsum : (pl : Int) + (H.size : Int) ≤ 100000 := by omega
      rcases hg1 with ⟨hn1, A1, c1, rfl⟩ | ⟨hn1, g1, c1, rfl, k1, _⟩
      · rcases hg2 with ⟨_, A2, c2, rfl⟩ | ⟨hn2, _⟩
        · clear HV1 HV2
          have hl0 : ((l.length : Int) != (l.length : Int)) = false := by simp
          rcases hcase with hcase | ⟨hcase, hcase2⟩
          all_goals
            go_wp2_with fail
            refine wp_loop_rounds 1 ?_
            rw [rounds_succ]
            go_wp2_with fail
            go_ret
            exact ⟨rfl, HB3.out⟩
        · omega
      · rcases hg2 with ⟨hn2, _⟩ | ⟨_, g2, c2, rfl, k2, _⟩
        · omega
        · rcases hcase with hcase | ⟨hcase, hcase2⟩
          all_goals
            go_wp2_with fail
            go_loopw [13] (fun t wr => ∃ k : Nat, k ≤ l.length ∧ t = .int .i64 k ∧ Below w3.heap.size w3 wr) (fun t _ => l.length - (intOf t).toNat)
            case atStart => exact ⟨0, by omega, rfl, Below.refl _ _⟩
            case round =>
              obtain ⟨k, hk, rfl, hb⟩ := hrel
              by_cases hlt : k < l.length
              · obtain ⟨x, hx⟩ : ∃ x, l[k]? = some x := ⟨l[k], by simp⟩
                obtain ⟨a0, a1, a2, a3⟩ := word_cells HV1.out hx hlt
                have hx' : (l.map (shW H.size))[k]? = some (shW H.size x) := by rw [List.getElem?_map, hx]; rfl
                obtain ⟨d0, d1, d2, d3⟩ := word_cells HV2.out hx' hlt
                have hxa := HATS.out x (List.mem_of_getElem? hx)
                rw [← hb.cell (by simp; omega)] at a0 a1 a2 a3
                rw [← hb.cell (by simpa using k2)] at d0 d1 d2 d3
                have hz := hb.size
                have HB := Lib.hid hb
                have e1 : (((H.size + x.at_ : Nat) : Int) != (x.at_ : Int) + (H.size : Int)) = false := by simp; omega
                have e2 : ((x.at_ : Int) + (H.size : Int) != ((H.size + x.at_ : Nat) : Int)) = false := by simp; omega
                have e3 : (x.at_ : Int) + (H.size : Int) ≤ 100000 := by omega
                simp only [shW] at d1 d3
                clear hx hx' hb a0 a2 d0 d2
                have i1 : (0 : Int) ≤ (k : Int) := by omega
                have i2 : (k : Int) < (l.length : Int) := by omega
                have l1 : g1 < wr.heap.size := by omega
                have l2 : g2 < wr.heap.size := by omega
                go_wp2_with fail
                refine wp_region_warm (Own wr.heap.size wr) (by kernel_rfl) (by kernel_rfl) (Own.refl (Nat.le_refl _)).drew ?_
                repeat (first | (refine wpWarm_step_off rfl (fun K hK => ?_); (go_simp; refine hK _ ?_; clear hK K)) | (apply wpWarm_step rfl; (focus (intro W' hS; have hcS := hS.cells.1; have hfS := hS.cells.2; go_simp; (first | done | exact rfl | exact ⟨rfl, hS⟩ | (go_simp; exact rfl)))); (intro K hK; go_simp; (try go_bits); refine hK _ ?_; clear hK K)) | (apply wpWarm_step_on rfl; (focus (intro W' hS; have hcS := hS.cells.1; have hfS := hS.cells.2; go_simp; (first | done | exact rfl | exact ⟨rfl, hS⟩ | (go_simp; exact rfl)))); (intro K hK; go_simp; (try go_bits); refine hK _ ?_; clear hK K)))
                refine wpWarm_nil ?_
                intro w4 hO
                go_wp2_with fail
                go_roundw
                case rel => exact ⟨k + 1, by omega, by go_num, HB.out.trans (hO.2.mono (by omega))⟩
                case measure => simp [intOf]; omega
              · obtain rfl : k = l.length := by omega
                have HB := Lib.hid hb
                clear hb
                go_wp2_with fail
                go_ret
                exact ⟨rfl, HB3.out.trans (HB.out.mono (by omega))⟩
end Go.Proofs.Ytadbffgaeobbhaa
