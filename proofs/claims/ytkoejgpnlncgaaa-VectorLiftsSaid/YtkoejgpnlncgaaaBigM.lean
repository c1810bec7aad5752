/- The contracts of pinballref01.Mag, make1, Of, Neg, Sign. -/
import Derived.Test.YtkoejgpnlncgaaaBigW
namespace Go.Proofs.Ytkoejgpnlncgaaa
open Go Go.RowKit
set_option linter.unusedVariables false
theorem canN_len_le {l : List Int} (hL : Lim l) : (canN (mv l).toNat).length ≤ l.length := by
  rw [canN_len]
  have h1 := mv_lt hL
  have h0 := mv_nonneg hL
  omega
set_option maxHeartbeats 1000000 in
theorem mag_own (A : Option Addr) (l : List Int) (c : Nat) (w : World) (hL : Lim l) (hA : LAt w A l) (hc : l.length ≤ c) (hn : l.length ≤ 1000000) :
    Calls Try.prog 90 #[.slice A l.length c] w (SlOwn (mv l).toNat w) := by
  have HL := Lib.hid hL
  have HA := Lib.hid hA
  clear hL hA
  go_enter Try.func90, Try.ntmps90; (try simp only [List.append_eq, List.cons_append, List.nil_append])
  go_wp2_with fail
  go_loop [3] (fun vn => ∃ k : Nat, k ≤ l.length ∧ vn = .int .i64 k ∧ Hid (∀ j x, l[j]? = some x → k ≤ j → x = 0)) (fun vn => (intOf vn).toNat)
  case atStart => exact ⟨l.length, Nat.le_refl _, rfl, Lib.hid (fun j x hx hj => by have := (List.getElem?_eq_some_iff.1 hx).1; omega)⟩
  case round =>
    obtain ⟨k, hk, rfl, HZ⟩ := hrel
    have fin : Hid (∀ (hz : ∀ x, 0 < k → l[k - 1]? = some x → x ≠ 0), l.take k = canN (mv l).toNat) := Lib.hid (fun hz => canN_take HL.out hk HZ.out hz)
    rcases k with _ | j
    · have hfin := fin.out (fun x h _ => absurd h (by omega))
      rw [List.take_zero] at hfin
      have HF := Lib.hid hfin
      clear hfin fin
      go_wp2_with (at_builtin; go_must (refine wpList_append_limbs rfl _ _ rfl w.heap.size (.slice none 0 0) [] rfl (OwnL.nil _ _) A c [] rfl (LAt.nil _ _) (by simp) (Nat.le_refl _) ?_))
      intro v1 w1 hown hg1
      have hb1 : Below w.heap.size w w1 := (Below.refl _ _).grown hg1 (Nat.le_refl _) (by simp [Value.ownBlock])
      obtain ⟨A1, c1, rfl, hc1, _, hA1⟩ := lat_of_own hown
      have hA1 := Lib.hid hown
      clear hown hg1
      go_wp2_with fail
      go_ret
      exact ⟨hb1, A1, c1, by rw [← HF.out]; rfl, by rw [← HF.out]; exact hc1, by rw [← HF.out]; exact hA1.out⟩
    · obtain ⟨x, hx⟩ : ∃ x, l[j]? = some x := ⟨l[j], by simp⟩
      obtain ⟨g, o, rfl, hg, hcell⟩ := HA.out j x hx
      have HX := Lib.hid hx
      have i1 : (0 : Int) ≤ (j : Int) := by omega
      have i2 : (j : Int) < (l.length : Int) := by omega
      have i3 : (0 : Int) < (j : Int) + 1 := by omega
      have i4 : (l.length : Int) ≤ 1000000 := by omega
      clear hx
      by_cases h0 : x = 0
      · subst h0
        clear fin
        go_wp2_with fail
        go_round
        case rel =>
          refine ⟨j, by omega, rfl, Lib.hid (fun i y hy hj => ?_)⟩
          rcases Nat.lt_or_ge i (j + 1) with h | h
          · obtain rfl : i = j := by omega
            have := HX.out
            rw [hy] at this
            exact Option.some.inj this
          · exact HZ.out i y hy h
        case measure => simp [intOf]
      · have hne : (x == 0) = false := by simp [h0]
        have hfin := fin.out (fun y _ hy => by
          rw [Nat.add_sub_cancel, HX.out] at hy
          rw [← Option.some.inj hy]; exact h0)
        have HF := Lib.hid hfin
        have hlt : (l.take (j + 1)).length = j + 1 := by rw [List.length_take]; omega
        have HT := Lib.hid hlt
        have hAt := HA.out.take (j + 1)
        have HAt := Lib.hid hAt
        clear hfin fin hlt hAt h0
        go_wp2_with (at_builtin; go_must (refine wpList_append_limbs rfl _ _ rfl w.heap.size (.slice none 0 0) [] rfl (OwnL.nil _ _) (some ⟨g, o, none⟩) c (l.take (j + 1)) (by rw [HT.out]; rfl) HAt.out (by rw [HT.out, List.length_nil]; omega) (Nat.le_refl _) ?_))
        intro v1 w1 hown hg1
        have hb1 : Below w.heap.size w w1 := (Below.refl _ _).grown hg1 (Nat.le_refl _) (by simp [Value.ownBlock])
        obtain ⟨A1, c1, rfl, hc1, _, hA1⟩ := lat_of_own hown
        have HA1 := Lib.hid hown
        have HC1 := Lib.hid hc1
        clear hown hg1 hA1 hc1
        go_wp2_with fail
        go_ret
        exact ⟨hb1, A1, c1, by rw [← HF.out]; rfl, by rw [← HF.out]; exact HC1.out, by rw [← HF.out]; exact HA1.out⟩
theorem mag_any (A : Option Addr) (l : List Int) (c : Nat) (w : World) (hL : Lim l) (hA : LAt w A l) (hc : l.length ≤ c) (hn : l.length ≤ 1000000) :
    Calls Try.prog 90 #[.slice A l.length c] w (SlOut (mv l).toNat w) := (mag_own A l c w hL hA hc hn).mono fun _ _ h => h.out
theorem isC_mk {w : World} {A : Option Addr} {c m : Nat} {b : Bool} {z : Int} (hz : z.natAbs = m) (hb : b = decide (z < 0)) (hc : (canN m).length ≤ c) (hA : LAt w A (canN m)) : IsC w (.agg #[.bool b, .slice A (canN m).length c]) z := by
  subst hz; subst hb
  exact ⟨A, c, rfl, hc, hA⟩
set_option maxHeartbeats 1000000 in
theorem make1_own (neg : Bool) (A : Option Addr) (l : List Int) (c : Nat) (w : World) (hL : Lim l) (hA : LAt w A l) (hc : l.length ≤ c) (hn : l.length ≤ 1000000) :
    Calls Try.prog 89 #[.bool neg, .slice A l.length c] w (ZOwn (sv neg (mv l)) w) := by
  obtain ⟨hs1, hs2⟩ := sv_neg_mk neg l hL
  have hm := fun w hA => mag_own A l c w hL hA hc hn
  obtain ⟨Z, hZ⟩ : ∃ Z, Z = sv neg (mv l) := ⟨_, rfl⟩
  obtain ⟨m, hmm⟩ : ∃ m, m = (mv l).toNat := ⟨_, rfl⟩
  rw [← hZ, ← hmm] at hs1
  rw [← hZ, ← hmm] at hs2
  rw [← hmm] at hm
  rw [← hZ]
  have HM := Lib.hid hm
  have H1 := Lib.hid hs1
  have H2 := Lib.hid hs2
  have HA := Lib.hid hA
  clear hm hs1 hs2 hA hZ hmm
  cases neg
  · go_enter Try.func89, Try.ntmps89; (try simp only [List.append_eq, List.cons_append, List.nil_append])
    go_wp2_with fail
    -- own blocks: w.heap.size:2
    (go_at_call 90; refine (HM.out _ (HA.out.alloc _)).mono ?_; rintro e w1 ⟨hb_w1, A1, c1, rfl, hc1, hA1⟩; have hz_w1 := hb_w1.size; (try simp at hz_w1); (with_reducible apply cel2 (b := w.heap.size) hb_w1); (focus ((try simp) <;> omega)); (focus omega); (focus (go_simp; try exact rfl)); (focus (go_simp; try exact rfl)); (focus (intro o; go_simp)); intro cc cc fz hl)
    have HC := Lib.hid hc1
    have HA1 := Lib.hid hA1
    clear hc1 hA1
    go_wp2_with fail
    refine bodyPost_ret (v := .agg #[.bool false, .slice A1 (canN m).length c1]) (by simp only [results, Try.results89]; go_simp) rfl ⟨?_, ?_⟩
    · ((with_reducible (repeat (first | exact bR _ _ | refine bS ?_ ?_ _ | refine bA ?_ ?_ _ | refine bD ?_ | refine bT ?_ (by assumption) ?_ | refine bO (by assumption) ?_ ?_))) <;> (first | omega | (simp; done) | (simp <;> omega)))
    · have hh := H2.out
      have h1 := H1.out
      subst hh
      exact ⟨A1, c1, by rw [← h1]; rfl, HC.out, ((HA1.out.setCell (by simp) _).setCell (by simp) _).weak (by simp)⟩
  · go_enter Try.func89, Try.ntmps89; (try simp only [List.append_eq, List.cons_append, List.nil_append])
    go_wp2_with fail
    -- own blocks: w.heap.size:2
    (go_at_call 90; refine (HM.out _ (HA.out.alloc _)).mono ?_; rintro e w1 ⟨hb_w1, A1, c1, rfl, hc1, hA1⟩; have hz_w1 := hb_w1.size; (try simp at hz_w1); (with_reducible apply cel2 (b := w.heap.size) hb_w1); (focus ((try simp) <;> omega)); (focus omega); (focus (go_simp; try exact rfl)); (focus (go_simp; try exact rfl)); (focus (intro o; go_simp)); intro cc cc fz hl)
    have HC := Lib.hid hc1
    have HA1 := Lib.hid hA1
    clear hc1 hA1
    go_wp2_with fail
    refine bodyPost_ret (v := .agg #[.bool (decide (0 < (canN m).length)), .slice A1 (canN m).length c1]) (by simp only [results, Try.results89]; go_simp) rfl ⟨?_, ?_⟩
    · ((with_reducible (repeat (first | exact bR _ _ | refine bS ?_ ?_ _ | refine bA ?_ ?_ _ | refine bD ?_ | refine bT ?_ (by assumption) ?_ | refine bO (by assumption) ?_ ?_))) <;> (first | omega | (simp; done) | (simp <;> omega)))
    · have hh := H2.out
      have h1 := H1.out
      subst hh
      exact ⟨A1, c1, by rw [← h1]; rfl, HC.out, ((HA1.out.setCell (by simp) _).setCell (by simp) _).weak (by simp)⟩
theorem make1_any (neg : Bool) (A : Option Addr) (l : List Int) (c : Nat) (w : World) (hL : Lim l) (hA : LAt w A l) (hc : l.length ≤ c) (hn : l.length ≤ 1000000) :
    Calls Try.prog 89 #[.bool neg, .slice A l.length c] w (ZOut (sv neg (mv l)) w) := (make1_own neg A l c w hL hA hc hn).mono fun _ _ h => h.out
set_option maxHeartbeats 1000000 in
theorem neg_any (n : Nat) (v : Value) (z : Int) (w : World) (h : IsZ w v n z) (hn : n ≤ 1000000) :
    Calls Try.prog 99 #[v] w (ZOut (-z) w) := by
  obtain ⟨neg, A, c, l, rfl, hc, hL, hl, hA, rfl⟩ := h
  have hm := fun w hA => make1_any (!neg) A l c w hL hA hc (by omega)
  have e : sv (!neg) (mv l) = -sv neg (mv l) := by cases neg <;> simp [sv]
  rw [e] at hm
  have HM := Lib.hid hm
  have HA := Lib.hid hA
  clear hm hA e
  go_enter Try.func99, Try.ntmps99; (try simp only [List.append_eq, List.cons_append, List.nil_append])
  go_wp2_with fail
  -- own blocks: w.heap.size:2, w.heap.size + 1:2
  (go_at_call 89; refine (HM.out _ ((HA.out.alloc _).alloc _)).mono ?_; rintro e w1 ⟨hb_w1, v1, rfl, hv1⟩; have hz_w1 := hb_w1.size; (try simp at hz_w1); (with_reducible apply cel2 (b := w.heap.size) hb_w1); (focus ((try simp) <;> omega)); (focus omega); (focus (go_simp; try exact rfl)); (focus (go_simp; try exact rfl)); (focus (intro o; go_simp)); intro cc cc fz hl; (with_reducible apply cel2 (b := w.heap.size + 1) hb_w1); (focus ((try simp) <;> omega)); (focus omega); (focus (go_simp; try exact rfl)); (focus (go_simp; try exact rfl)); (focus (intro o; go_simp)); intro cc cc fz hl)
  obtain ⟨A1, c1, rfl, hc1, hA1⟩ := hv1
  have HC := Lib.hid hc1
  have HA1 := Lib.hid hA1
  clear hc1 hA1
  go_wp2_with fail
  refine bodyPost_ret (v := .agg #[.bool (decide (-sv neg (mv l) < 0)), .slice A1 (canN (-sv neg (mv l)).natAbs).length c1]) (by simp only [results, Try.results99]; go_simp) rfl ⟨?_, ?_⟩
  · ((with_reducible (repeat (first | exact bR _ _ | refine bS ?_ ?_ _ | refine bA ?_ ?_ _ | refine bD ?_ | refine bT ?_ (by assumption) ?_ | refine bO (by assumption) ?_ ?_))) <;> (first | omega | (simp; done) | (simp <;> omega)))
  · exact ⟨_, rfl, A1, c1, rfl, HC.out, HA1.out.set2 (by assumption) (by assumption) _ _⟩
end Go.Proofs.Ytkoejgpnlncgaaa
