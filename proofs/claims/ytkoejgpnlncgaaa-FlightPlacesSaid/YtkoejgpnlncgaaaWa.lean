/- The contracts of wide.limbs, made, trimmed. -/
import Derived.Test.YtkoejgpnlncgaaaBigO
namespace Go.Proofs.Ytkoejgpnlncgaaa
open Go Go.RowKit
set_option linter.unusedVariables false
/-- The result of wide.limbs: the sign and the limbs of an integer. -/
def LimOut (z : Int) (w : World) (e : Ending) (w' : World) : Prop := Below w.heap.size w w' ∧ ∃ A c, e = .returned (.tuple #[.bool (decide (z < 0)), .slice A (canN z.natAbs).length c]) ∧ (canN z.natAbs).length ≤ c ∧ LAt w' A (canN z.natAbs)
theorem limOut_mk {z : Int} {w w' : World} {A : Option Addr} {c k : Nat} {b : Bool} {l : List Int} (hb : Below w.heap.size w w') (hA : LAt w' A l) (hk : k ≤ l.length) (hc : l.length ≤ c)
    (e : l.take k = canN z.natAbs) (hbv : b = decide (z < 0)) : LimOut z w (.returned (.tuple #[.bool b, .slice A k c])) w' := by
  have hl : (canN z.natAbs).length = k := by rw [← e, List.length_take]; omega
  refine ⟨hb, A, c, by rw [hl, hbv], by omega, ?_⟩
  rw [← e]; exact hA.take k
theorem neg_some {l : List Int} {k : Nat} (hL : Lim l) (neg : Bool) (e : l.take k = canN (mv l).toNat) (hk : k ≤ l.length) : (sv neg (mv l)).natAbs = (mv l).toNat ∧ (neg && decide (0 < k)) = decide (sv neg (mv l) < 0) := by
  have hl : (canN (mv l).toNat).length = k := by rw [← e, List.length_take]; omega
  obtain ⟨s1, s2⟩ := sv_neg_mk neg l hL
  rw [hl] at s1
  exact ⟨s2, s1⟩
set_option maxHeartbeats 2000000 in
theorem wlimbs_any (n : Nat) (v : Value) (z : Int) (w : World) (h : IsZ w v n z) (hn : n ≤ 1000000) :
    Calls Try.prog 114 #[v] w (LimOut z w) := by
  obtain ⟨neg, A, c, l, rfl, hc, hL, hl, hA, hz⟩ := h
  have HL := Lib.hid hL
  have HA := Lib.hid hA
  have HZ := Lib.hid hz
  clear hL hA hz
  go_enter Try.func114, Try.ntmps114; (try simp only [List.append_eq, List.cons_append, List.nil_append])
  go_wp2_with fail
  -- own blocks: w.heap.size:2
  have HA1 := Lib.hid (HA.out.alloc (.cells #[.bool neg, .slice A l.length c] 65))
  have HB1 := Lib.hid (show Below w.heap.size w (w.alloc (.cells #[.bool neg, .slice A l.length c] 65)) by ((with_reducible (repeat (first | exact bR _ _ | refine bS ?_ ?_ _ | refine bA ?_ ?_ _ | refine bD ?_ | refine bT ?_ (by assumption) ?_ | refine bO (by assumption) ?_ ?_))) <;> (first | omega | (simp; done) | (simp <;> omega))))
  go_loop [4] (fun vn => ∃ k : Nat, k ≤ l.length ∧ vn = .int .i64 k ∧ Hid (∀ j x, l[j]? = some x → k ≤ j → x = 0)) (fun vn => (intOf vn).toNat)
  case atStart => exact ⟨l.length, Nat.le_refl _, rfl, Lib.hid (fun j x hx hj => by have := (List.getElem?_eq_some_iff.1 hx).1; omega)⟩
  case round =>
    obtain ⟨k, hk, rfl, HK⟩ := hrel
    have fin : Hid (∀ (hz : ∀ x, 0 < k → l[k - 1]? = some x → x ≠ 0), l.take k = canN (mv l).toNat) := Lib.hid (fun hz => canN_take HL.out hk HK.out hz)
    have i4 : (l.length : Int) ≤ 1000000 := by omega
    rcases k with _ | j
    · have hfin := fin.out (fun x h _ => absurd h (by omega))
      have HF := Lib.hid hfin
      clear hfin fin
      have b0 : decide ((0 : Int) < 0) = false := by decide
      cases neg
      all_goals
        go_wp2_with fail
        (refine pin_wp (N := _) (Nat.le_refl _) (fun w1 hb_w1 hz_w1 => ?_); (try simp at hz_w1); (with_reducible apply cel2 (b := w.heap.size) hb_w1); (focus ((try simp) <;> omega)); (focus omega); (focus (go_simp; try exact rfl)); (focus (go_simp; try exact rfl)); (focus (intro o; go_simp)); intro cc cc fz hl); refine wp_region_warm (Own w1.heap.size w1) (by kernel_rfl) (by kernel_rfl) (Own.refl (Nat.le_refl _)).drew ?_
        repeat (first | (refine wpWarm_step_off rfl (fun K hK => ?_); (go_simp; refine hK _ ?_; clear hK K)) | (apply wpWarm_step rfl; (focus (intro W' hS; have hcS := hS.cells.1; have hfS := hS.cells.2; go_simp; (first | done | exact rfl | exact ⟨rfl, hS⟩ | (go_simp; exact rfl)))); (intro K hK; go_simp; (try go_bits); refine hK _ ?_; clear hK K)) | (apply wpWarm_step_on rfl; (focus (intro W' hS; have hcS := hS.cells.1; have hfS := hS.cells.2; go_simp; (first | done | exact rfl | exact ⟨rfl, hS⟩ | (go_simp; exact rfl)))); (intro K hK; go_simp; (try go_bits); refine hK _ ?_; clear hK K)))
        (refine wpWarm_nil ?_; intro w2 hO; have hz_w2 := hO.1; have hb_w2 := hO.2; clear hO; (with_reducible apply cel2 (b := w.heap.size) hb_w2); (focus ((try simp) <;> omega)); (focus omega); (focus (go_simp; try exact rfl)); (focus (go_simp; try exact rfl)); (focus (intro o; go_simp)); intro cc cc fz hl)
        go_wp2_with fail
        go_ret2
        rw [HZ.out]
        exact limOut_mk (HB1.out.trans ((hb_w1.trans (hb_w2.mono (by simp <;> omega))).mono (by simp))) (HA1.out.below (hb_w1.trans (hb_w2.mono (by simp <;> omega)))) (Nat.zero_le _) hc (by rw [(neg_some HL.out _ HF.out (Nat.zero_le _)).1]; exact HF.out) (by rw [← (neg_some HL.out _ HF.out (Nat.zero_le _)).2]; simp)
    · obtain ⟨x, hx⟩ : ∃ x, l[j]? = some x := ⟨l[j], by simp⟩
      obtain ⟨g, o, rfl, hg, hcell⟩ := HA1.out j x hx
      have HX := Lib.hid hx
      have i1 : (0 : Int) ≤ (j : Int) := by omega
      have i2 : (j : Int) < (l.length : Int) := by omega
      have i3 : (0 : Int) < (j : Int) + 1 := by omega
      clear hx
      by_cases h0 : x = 0
      · subst h0
        clear fin
        go_wp2_with fail
        go_round
        case rel =>
          refine ⟨j, by omega, rfl, Lib.hid (fun i y hy hj => ?_)⟩
          rcases Nat.lt_or_ge i (j + 1) with h | h
          · obtain rfl : i = j := by omega
            have := HX.out
            rw [hy] at this
            exact Option.some.inj this
          · exact HK.out i y hy h
        case measure => simp [intOf]
      · have hne : (x == 0) = false := by simp [h0]
        have hfin := fin.out (fun y _ hy => by
          rw [Nat.add_sub_cancel, HX.out] at hy
          rw [← Option.some.inj hy]; exact h0)
        have HF := Lib.hid hfin
        have i6 : (0 : Int) ≤ (j : Int) + 1 := by omega
        have i7 : (j : Int) + 1 ≤ (c : Int) := by omega
        clear hfin fin h0
        cases neg
        all_goals
          go_wp2_with fail
          (refine pin_wp (N := _) (Nat.le_refl _) (fun w1 hb_w1 hz_w1 => ?_); (try simp at hz_w1); (with_reducible apply cel2 (b := w.heap.size) hb_w1); (focus ((try simp) <;> omega)); (focus omega); (focus (go_simp; try exact rfl)); (focus (go_simp; try exact rfl)); (focus (intro o; go_simp)); intro cc cc fz hl); refine wp_region_warm (Own w1.heap.size w1) (by kernel_rfl) (by kernel_rfl) (Own.refl (Nat.le_refl _)).drew ?_
          repeat (first | (refine wpWarm_step_off rfl (fun K hK => ?_); (go_simp; refine hK _ ?_; clear hK K)) | (apply wpWarm_step rfl; (focus (intro W' hS; have hcS := hS.cells.1; have hfS := hS.cells.2; go_simp; (first | done | exact rfl | exact ⟨rfl, hS⟩ | (go_simp; exact rfl)))); (intro K hK; go_simp; (try go_bits); refine hK _ ?_; clear hK K)) | (apply wpWarm_step_on rfl; (focus (intro W' hS; have hcS := hS.cells.1; have hfS := hS.cells.2; go_simp; (first | done | exact rfl | exact ⟨rfl, hS⟩ | (go_simp; exact rfl)))); (intro K hK; go_simp; (try go_bits); refine hK _ ?_; clear hK K)))
          (refine wpWarm_nil ?_; intro w2 hO; have hz_w2 := hO.1; have hb_w2 := hO.2; clear hO; (with_reducible apply cel2 (b := w.heap.size) hb_w2); (focus ((try simp) <;> omega)); (focus omega); (focus (go_simp; try exact rfl)); (focus (go_simp; try exact rfl)); (focus (intro o; go_simp)); intro cc cc fz hl)
          go_wp2_with fail
          go_ret2
          rw [HZ.out]
          exact limOut_mk (HB1.out.trans ((hb_w1.trans (hb_w2.mono (by simp <;> omega))).mono (by simp))) (HA1.out.below (hb_w1.trans (hb_w2.mono (by simp <;> omega)))) hk hc (by rw [(neg_some HL.out _ HF.out hk).1]; exact HF.out) (by rw [← (neg_some HL.out _ HF.out hk).2]; simp)
theorem made_mk {neg : Bool} {l : List Int} {k : Nat} {w' : World} {A : Option Addr} {c : Nat} (hL : Lim l) (hA : LAt w' A l) (hk : k ≤ l.length) (h0 : 0 < k) (hc : k ≤ c) (e : l.take k = canN (mv l).toNat) :
    IsC w' (.agg #[.bool neg, .slice A k c]) (sv neg (mv l)) := by
  have hl : (canN (mv l).toNat).length = k := by rw [← e, List.length_take]; omega
  obtain ⟨s1, s2⟩ := sv_neg_mk neg l hL
  rw [hl, decide_eq_true h0, Bool.and_true] at s1
  rw [← s2] at hl e
  exact ⟨A, c, by rw [hl, ← s1], by omega, by rw [← e]; exact hA.take k⟩
theorem made_zero {neg : Bool} {l : List Int} (hL : Lim l) (w' : World) (e : l.take 0 = canN (mv l).toNat) : IsC w' (.agg #[.bool false, .slice none 0 0]) (sv neg (mv l)) := by
  rw [List.take_zero] at e
  have h1 := (@canN_len0 (mv l).toNat).1 (by rw [← e]; rfl)
  have h2 := mv_nonneg hL
  have e0 : sv neg (mv l) = 0 := by rw [show mv l = 0 by omega]; cases neg <;> rfl
  have e1 : canN (0 : Int).natAbs = [] := canN_zero
  rw [e0]
  exact ⟨none, 0, by rw [e1]; rfl, by rw [e1]; exact Nat.le_refl _, by rw [e1]; exact LAt.nil _ _⟩
set_option maxHeartbeats 2000000 in
theorem wmade_any (neg : Bool) (A : Option Addr) (l : List Int) (c : Nat) (w : World) (hL : Lim l) (hA : LAt w A l) (hc : l.length ≤ c) (hn : l.length ≤ 1000000) :
    Calls Try.prog 110 #[.bool neg, .slice A l.length c] w (ZOut (sv neg (mv l)) w) := by
  have HL := Lib.hid hL
  have HA := Lib.hid hA
  obtain ⟨Z, hZ⟩ : ∃ Z, Z = sv neg (mv l) := ⟨_, rfl⟩
  rw [← hZ]
  have HZ := Lib.hid hZ
  clear hL hA hZ
  go_enter Try.func110, Try.ntmps110; (try simp only [List.append_eq, List.cons_append, List.nil_append])
  go_wp2_with fail
  have HA1 := Lib.hid (HA.out.alloc (.cells #[.bool false, .slice none 0 0] 65))
  go_loop [5] (fun vn => ∃ k : Nat, k ≤ l.length ∧ vn = .int .i64 k ∧ Hid (∀ j x, l[j]? = some x → k ≤ j → x = 0)) (fun vn => (intOf vn).toNat)
  case atStart => exact ⟨l.length, Nat.le_refl _, rfl, Lib.hid (fun j x hx hj => by have := (List.getElem?_eq_some_iff.1 hx).1; omega)⟩
  case round =>
    obtain ⟨k, hk, rfl, HK⟩ := hrel
    have fin : Hid (∀ (hz : ∀ x, 0 < k → l[k - 1]? = some x → x ≠ 0), l.take k = canN (mv l).toNat) := Lib.hid (fun hz => canN_take HL.out hk HK.out hz)
    have i4 : (l.length : Int) ≤ 1000000 := by omega
    have i5 : (l.length : Int) ≤ (c : Int) := by omega
    rcases k with _ | j
    · have hfin := fin.out (fun x h _ => absurd h (by omega))
      have HF := Lib.hid hfin
      clear hfin fin
      go_wp2_with fail
      refine bodyPost_ret (v := .agg #[.bool false, .slice none 0 0]) (by simp only [results, Try.results110]; go_simp) rfl ⟨?_, ?_⟩
      · ((with_reducible (repeat (first | exact bR _ _ | refine bS ?_ ?_ _ | refine bA ?_ ?_ _ | refine bD ?_ | refine bT ?_ (by assumption) ?_ | refine bO (by assumption) ?_ ?_))) <;> (first | omega | (simp; done) | (simp <;> omega)))
      · rw [HZ.out]
        exact ⟨_, rfl, made_zero HL.out _ HF.out⟩
    · obtain ⟨x, hx⟩ : ∃ x, l[j]? = some x := ⟨l[j], by simp⟩
      obtain ⟨g, o, rfl, hg, hcell⟩ := HA1.out j x hx
      have HX := Lib.hid hx
      have i1 : (0 : Int) ≤ (j : Int) := by omega
      have i2 : (j : Int) < (l.length : Int) := by omega
      have i3 : (0 : Int) < (j : Int) + 1 := by omega
      clear hx
      by_cases h0 : x = 0
      · subst h0
        clear fin
        go_wp2_with fail
        go_round
        case rel =>
          refine ⟨j, by omega, rfl, Lib.hid (fun i y hy hj => ?_)⟩
          rcases Nat.lt_or_ge i (j + 1) with h | h
          · obtain rfl : i = j := by omega
            have := HX.out
            rw [hy] at this
            exact Option.some.inj this
          · exact HK.out i y hy h
        case measure => simp [intOf]
      · have hne : (x == 0) = false := by simp [h0]
        have hfin := fin.out (fun y _ hy => by
          rw [Nat.add_sub_cancel, HX.out] at hy
          rw [← Option.some.inj hy]; exact h0)
        have HF := Lib.hid hfin
        have b0 : (((j : Int) + 1) == 0) = false := by rw [beq_eq_false_iff_ne]; omega
        clear hfin fin h0
        go_wp2_with fail
        refine bodyPost_ret (v := .agg #[.bool neg, .slice (some ⟨g, o, none⟩) (j + 1) (j + 1)]) (by simp only [results, Try.results110]; go_simp) rfl ⟨?_, ?_⟩
        · ((with_reducible (repeat (first | exact bR _ _ | refine bS ?_ ?_ _ | refine bA ?_ ?_ _ | refine bD ?_ | refine bT ?_ (by assumption) ?_ | refine bO (by assumption) ?_ ?_))) <;> (first | omega | (simp; done) | (simp <;> omega)))
        · rw [HZ.out]
          exact ⟨_, rfl, made_mk HL.out (HA.out.alloc _) hk (by omega) (Nat.le_refl _) HF.out⟩

end Go.Proofs.Ytkoejgpnlncgaaa
