/- The contracts of pinballref01.Of, Sign, CmpMag, Cmp, Same. -/
import Derived.Test.YtkoejgpnlncgaaaBigM
namespace Go.Proofs.Ytkoejgpnlncgaaa
open Go Go.RowKit
set_option linter.unusedVariables false
theorem lat_two {w : World} {b : Nat} {x y : Int} (hb : b < w.heap.size) (h0 : w.cell? ⟨b, 0, none⟩ = some (.int .u32 x)) (h1 : w.cell? ⟨b, 1, none⟩ = some (.int .u32 y)) : LAt w (some ⟨b, 0, none⟩) [x, y] := by
  intro k z hz
  refine ⟨b, 0, rfl, hb, ?_⟩
  rcases k with _ | _ | k
  · simp at hz; subst hz; exact h0
  · simp at hz; subst hz; exact h1
  · simp at hz
theorem lat_one {w : World} {b : Nat} {x : Int} (hb : b < w.heap.size) (h0 : w.cell? ⟨b, 0, none⟩ = some (.int .u32 x)) : LAt w (some ⟨b, 0, none⟩) [x] := by
  intro k z hz
  refine ⟨b, 0, rfl, hb, ?_⟩
  rcases k with _ | k
  · simp at hz; subst hz; exact h0
  · simp at hz
theorem make1_two (neg : Bool) (b : Nat) (x y z : Int) (w : World) (hb : b < w.heap.size) (h0 : w.cell? ⟨b, 0, none⟩ = some (.int .u32 x)) (h1 : w.cell? ⟨b, 1, none⟩ = some (.int .u32 y))
    (x0 : 0 ≤ x) (x1 : x < 4294967296) (y0 : 0 ≤ y) (y1 : y < 4294967296) (hz : z = sv neg (x + 4294967296 * y)) :
    Calls Try.prog 89 #[.bool neg, .slice (some ⟨b, 0, none⟩) 2 2] w (ZOut z w) := by
  have := make1_any neg (some ⟨b, 0, none⟩) [x, y] 2 w (Lim.cons x0 x1 (Lim.cons y0 y1 Lim.nil)) (lat_two hb h0 h1) (by simp) (by simp)
  rw [mv_two, ← hz] at this
  exact this
set_option maxHeartbeats 1000000 in
theorem of_any (n : Int) (w : World) (h1 : -9223372036854775808 ≤ n) (h2 : n ≤ 9223372036854775807) :
    Calls Try.prog 67 #[.int .i64 n] w (ZOut n w) := by
  rcases Int.lt_or_le n 0 with h | h
  · have e1 : IntKind.u64.wrap (-IntKind.u64.wrap n) = -n := by rw [IntKind.wrap_u64, IntKind.wrap_u64]; omega
    go_enter Try.func67, Try.ntmps67; (try simp only [List.append_eq, List.cons_append, List.nil_append])
    go_wp2_with fail
    clear e1
    -- own blocks: w.heap.size:2
    (go_at_call 89; refine (make1_two _ _ (-n % 4294967296) (-n / 4294967296) n _ (by simp) (by go_simp) (by go_simp) (by omega) (by omega) (by omega) (by omega) (by unfold sv; rw [if_pos rfl]; omega)).mono ?_; rintro e w1 ⟨hb_w1, v1, rfl, hv1⟩; have hz_w1 := hb_w1.size; (try simp at hz_w1); (with_reducible apply cel2 (b := w.heap.size) hb_w1); (focus ((try simp) <;> omega)); (focus omega); (focus (go_simp; try exact rfl)); (focus (go_simp; try exact rfl)); (focus (intro o; go_simp)); intro cc cc fz hl)
    obtain ⟨A1, c1, rfl, hc1, hA1⟩ := hv1
    have HC := Lib.hid hc1
    have HA1 := Lib.hid hA1
    clear hc1 hA1
    go_wp2_with fail
    refine bodyPost_ret (v := .agg #[.bool (decide (n < 0)), .slice A1 (canN n.natAbs).length c1]) (by simp only [results, Try.results67]; go_simp) rfl ⟨?_, ?_⟩
    · ((with_reducible (repeat (first | exact bR _ _ | refine bS ?_ ?_ _ | refine bA ?_ ?_ _ | refine bD ?_ | refine bT ?_ (by assumption) ?_ | refine bO (by assumption) ?_ ?_))) <;> (first | omega | (simp; done) | (simp <;> omega)))
    · exact ⟨_, rfl, A1, c1, rfl, HC.out, HA1.out.set2 (by assumption) (by assumption) _ _⟩
  · have hn : ¬ n < 0 := by omega
    go_enter Try.func67, Try.ntmps67; (try simp only [List.append_eq, List.cons_append, List.nil_append])
    go_wp2_with fail
    -- own blocks: w.heap.size:2
    (go_at_call 89; refine (make1_two _ _ (n % 4294967296) (n / 4294967296) n _ (by simp) (by go_simp) (by go_simp) (by omega) (by omega) (by omega) (by omega) (by unfold sv; rw [if_neg (by simp)]; omega)).mono ?_; rintro e w1 ⟨hb_w1, v1, rfl, hv1⟩; have hz_w1 := hb_w1.size; (try simp at hz_w1); (with_reducible apply cel2 (b := w.heap.size) hb_w1); (focus ((try simp) <;> omega)); (focus omega); (focus (go_simp; try exact rfl)); (focus (go_simp; try exact rfl)); (focus (intro o; go_simp)); intro cc cc fz hl)
    obtain ⟨A1, c1, rfl, hc1, hA1⟩ := hv1
    have HC := Lib.hid hc1
    have HA1 := Lib.hid hA1
    clear hc1 hA1
    go_wp2_with fail
    refine bodyPost_ret (v := .agg #[.bool (decide (n < 0)), .slice A1 (canN n.natAbs).length c1]) (by simp only [results, Try.results67]; go_simp) rfl ⟨?_, ?_⟩
    · ((with_reducible (repeat (first | exact bR _ _ | refine bS ?_ ?_ _ | refine bA ?_ ?_ _ | refine bD ?_ | refine bT ?_ (by assumption) ?_ | refine bO (by assumption) ?_ ?_))) <;> (first | omega | (simp; done) | (simp <;> omega)))
    · exact ⟨_, rfl, A1, c1, rfl, HC.out, HA1.out.set2 (by assumption) (by assumption) _ _⟩
def sgn (z : Int) : Int := if z = 0 then 0 else if z < 0 then -1 else 1
set_option maxHeartbeats 1000000 in
theorem sign_any (n : Nat) (v : Value) (z : Int) (w : World) (h : IsZ w v n z) (hn : n ≤ 1000000) :
    Calls Try.prog 104 #[v] w fun e w' => e = .returned (.int .i64 (sgn z)) ∧ Below w.heap.size w w' := by
  obtain ⟨neg, A, c, l, rfl, hc, hL, hl, hA, rfl⟩ := h
  have hm := fun w hA => mag_any A l c w hL hA hc (by omega)
  have hv0 := mv_nonneg hL
  have h00 := @canN_len0 (mv l).toNat
  have HM := Lib.hid hm
  have HA := Lib.hid hA
  obtain ⟨m, hmm⟩ : ∃ m, m = (mv l).toNat := ⟨_, rfl⟩
  rw [← hmm] at h00 hm
  have HM := Lib.hid hm
  by_cases h0 : (canN m).length = 0
  · have h1 : mv l = 0 := by have := h00.1 h0; omega
    have e : sgn (sv neg (mv l)) = 0 := by rw [h1]; cases neg <;> rfl
    rw [e]
    have e0 : (((canN m).length : Int) == 0) = true := by rw [h0]; rfl
    clear hm hA e h1 h0 h00 hmm hv0
    go_enter Try.func104, Try.ntmps104; (try simp only [List.append_eq, List.cons_append, List.nil_append])
    go_wp2_with fail
    -- own blocks: w.heap.size:2
    (go_at_call 90; refine (HM.out _ (HA.out.alloc _)).mono ?_; rintro e w1 ⟨hb_w1, A1, c1, rfl, hc1, hA1⟩; have hz_w1 := hb_w1.size; (try simp at hz_w1); (with_reducible apply cel2 (b := w.heap.size) hb_w1); (focus ((try simp) <;> omega)); (focus omega); (focus (go_simp; try exact rfl)); (focus (go_simp; try exact rfl)); (focus (intro o; go_simp)); intro cc cc fz hl)
    clear hc1 hA1
    go_wp2_with fail
    go_ret
    exact ⟨rfl, by ((with_reducible (repeat (first | exact bR _ _ | refine bS ?_ ?_ _ | refine bA ?_ ?_ _ | refine bD ?_ | refine bT ?_ (by assumption) ?_ | refine bO (by assumption) ?_ ?_))) <;> (first | omega | (simp; done) | (simp <;> omega)))⟩
  · have h1 : mv l ≠ 0 := fun e => h0 (h00.2 (by omega))
    have e : sgn (sv neg (mv l)) = if neg = true then -1 else 1 := by
      have hp : 0 < mv l := by omega
      cases neg
      · show sgn (mv l) = 1; unfold sgn; rw [if_neg (by omega), if_neg (by omega)]
      · show sgn (-(mv l)) = -1; unfold sgn; rw [if_neg (by omega), if_pos (by omega)]
    rw [e]
    have e0 : (((canN m).length : Int) == 0) = false := by rw [beq_eq_false_iff_ne]; omega
    clear hm hA e h1 h0 h00 hmm hv0
    cases neg
    all_goals
      go_enter Try.func104, Try.ntmps104; (try simp only [List.append_eq, List.cons_append, List.nil_append])
      go_wp2_with fail
      -- own blocks: w.heap.size:2
      (go_at_call 90; refine (HM.out _ (HA.out.alloc _)).mono ?_; rintro e w1 ⟨hb_w1, A1, c1, rfl, hc1, hA1⟩; have hz_w1 := hb_w1.size; (try simp at hz_w1); (with_reducible apply cel2 (b := w.heap.size) hb_w1); (focus ((try simp) <;> omega)); (focus omega); (focus (go_simp; try exact rfl)); (focus (go_simp; try exact rfl)); (focus (intro o; go_simp)); intro cc cc fz hl)
      clear hc1 hA1
      go_wp2_with fail
      go_ret
      exact ⟨rfl, by ((with_reducible (repeat (first | exact bR _ _ | refine bS ?_ ?_ _ | refine bA ?_ ?_ _ | refine bD ?_ | refine bT ?_ (by assumption) ?_ | refine bO (by assumption) ?_ ?_))) <;> (first | omega | (simp; done) | (simp <;> omega)))⟩
theorem canN_lt {x y : Nat} (h : (canN x).length < (canN y).length) : x < y := by
  rcases Nat.lt_or_ge x y with h1 | h1
  · exact h1
  · have h2 : (y : Int) < PB (canN x).length := by
      have h3 := (@canN_len x (canN x).length).1 (Nat.le_refl _)
      omega
    have := (@canN_len y (canN x).length).2 h2
    omega
theorem canN_inj {x y : Nat} (h : canN x = canN y) : x = y := by
  have h1 := mv_canN x
  rw [h, mv_canN] at h1
  omega
theorem mv_lt_of {l1 l2 : List Int} (h1 : Lim l1) (h2 : Lim l2) (hl : l1.length = l2.length) {j : Nat} {x y : Int} (hx : l1[j]? = some x) (hy : l2[j]? = some y) (hd : l1.drop (j + 1) = l2.drop (j + 1)) (hxy : x < y) : mv l1 < mv l2 := by
  have hj := (List.getElem?_eq_some_iff.1 hx).1
  have a1 := mv_split l1 j (by omega)
  have a2 := mv_split l2 j (by omega)
  have b1 := mv_drop_succ hx
  have b2 := mv_drop_succ hy
  have c1 := mv_lt (h1.take j)
  have c2 := mv_nonneg (h2.take j)
  rw [List.length_take, Nat.min_eq_left (by omega)] at c1
  rw [hd] at b1
  have hp := PB_pos j
  have : PB j * (mv (l1.drop j) + 1) ≤ PB j * mv (l2.drop j) := Int.mul_le_mul_of_nonneg_left (by omega) (by omega)
  rw [Int.mul_add] at this
  omega
def cmpI (a b : Int) : Int := if a < b then -1 else if b < a then 1 else 0
theorem cmpI_lt {a b : Int} (h : a < b) : cmpI a b = -1 := if_pos h
theorem cmpI_gt {a b : Int} (h : b < a) : cmpI a b = 1 := by unfold cmpI; rw [if_neg (by omega), if_pos h]
theorem cmpI_self (a : Int) : cmpI a a = 0 := by unfold cmpI; rw [if_neg (by omega), if_neg (by omega)]
set_option maxHeartbeats 1000000 in
theorem cmpmag_same (A B : Option Addr) (l1 l2 : List Int) (c d : Nat) (w : World) (h1 : Lim l1) (h2 : Lim l2) (hl : l1.length = l2.length) (hn : l1.length ≤ 1000000) (hA : LAt w A l1) (hB : LAt w B l2) :
    Calls Try.prog 106 #[.slice A l1.length c, .slice B l2.length d] w fun e w' => e = .returned (.int .i64 (cmpI (mv l1) (mv l2))) ∧ Below w.heap.size w w' := by
  obtain ⟨R, hR⟩ : ∃ R, R = cmpI (mv l1) (mv l2) := ⟨_, rfl⟩
  rw [← hR]
  have HR := Lib.hid hR
  have HA := Lib.hid hA
  have HB := Lib.hid hB
  have HLI := Lib.hid h1
  have HL2 := Lib.hid h2
  rw [← hl]
  have HL := Lib.hid hl
  clear hR hA hB h1 h2 hl
  go_enter Try.func106, Try.ntmps106; (try simp only [List.append_eq, List.cons_append, List.nil_append])
  go_wp2_with fail
  go_loopw [5] (fun vi wr => ∃ k : Nat, k ≤ l1.length ∧ vi = .int .i64 ((k : Int) - 1) ∧ Hid (l1.drop k = l2.drop k) ∧ Below w.heap.size w wr) (fun vi _ => (intOf vi + 1).toNat)
  case atStart => exact ⟨l1.length, Nat.le_refl _, rfl, Lib.hid (by rw [List.drop_length, HL.out, List.drop_length]), Below.refl _ _⟩
  case round =>
    obtain ⟨k, hk, rfl, HD, hbel⟩ := hrel
    rcases k with _ | j
    · have hfin : R = 0 := by
        have := HD.out
        rw [List.drop_zero, List.drop_zero] at this
        rw [HR.out, this]; exact cmpI_self _
      subst hfin
      go_wp2_with fail
      go_ret
      exact ⟨rfl, hbel⟩
    · obtain ⟨x, hx⟩ : ∃ x, l1[j]? = some x := ⟨l1[j], by simp⟩
      obtain ⟨y, hy⟩ : ∃ y, l2[j]? = some y := ⟨l2[j]'(by have := HL.out; omega), by simp⟩
      obtain ⟨g, o, rfl, hg, hc1⟩ := HA.out.below hbel j x hx
      obtain ⟨g', o', rfl, hg', hc2⟩ := HB.out.below hbel j y hy
      have HX := Lib.hid hx
      have HY := Lib.hid hy
      have HB1 := Lib.hid hbel
      have i1 : (0 : Int) ≤ (j : Int) := by omega
      have i2 : (j : Int) < (l1.length : Int) := by omega
      have i3 : (l1.length : Int) ≤ 1000000 := by omega
      have hz := hbel.size
      clear hx hy hbel
      by_cases hxy : x = y
      · subst hxy
        have b1 : (x != x) = false := by simp
        go_wp2_with fail
        refine wp_region_warm (Own wr.heap.size wr) (by kernel_rfl) (by kernel_rfl) (Own.refl (Nat.le_refl _)).drew ?_
        repeat (first | (refine wpWarm_step_off rfl (fun K hK => ?_); (go_simp; refine hK _ ?_; clear hK K)) | (apply wpWarm_step rfl; (focus (intro W' hS; have hcS := hS.cells.1; have hfS := hS.cells.2; go_simp; (first | done | exact rfl | exact ⟨rfl, hS⟩ | (go_simp; exact rfl)))); (intro K hK; go_simp; (try go_bits); refine hK _ ?_; clear hK K)) | (apply wpWarm_step_on rfl; (focus (intro W' hS; have hcS := hS.cells.1; have hfS := hS.cells.2; go_simp; (first | done | exact rfl | exact ⟨rfl, hS⟩ | (go_simp; exact rfl)))); (intro K hK; go_simp; (try go_bits); refine hK _ ?_; clear hK K)))
        refine wpWarm_nil ?_
        intro w4 hO
        go_wp2_with fail
        go_roundw
        case rel => exact ⟨j, by omega, rfl, Lib.hid (by rw [drop_consI HX.out, drop_consI HY.out, HD.out]), HB1.out.trans (hO.2.mono hz)⟩
        case measure => simp [intOf]
      · have b1 : (x != y) = true := by simp [hxy]
        have hlt : x < y → R = -1 := fun h => by rw [HR.out]; exact cmpI_lt (mv_lt_of HLI.out HL2.out HL.out HX.out HY.out HD.out h)
        have hgt : y < x → R = 1 := fun h => by rw [HR.out]; exact cmpI_gt (mv_lt_of HL2.out HLI.out HL.out.symm HY.out HX.out HD.out.symm h)
        have HLT := Lib.hid hlt
        have HGT := Lib.hid hgt
        have HNE := Lib.hid hxy
        clear hlt hgt hxy
        go_wp2_with fail
        refine wp_region_warm (Own wr.heap.size wr) (by kernel_rfl) (by kernel_rfl) (Own.refl (Nat.le_refl _)).drew ?_
        repeat (first | (refine wpWarm_step_off rfl (fun K hK => ?_); (go_simp; refine hK _ ?_; clear hK K)) | (apply wpWarm_step rfl; (focus (intro W' hS; have hcS := hS.cells.1; have hfS := hS.cells.2; go_simp; (first | done | exact rfl | exact ⟨rfl, hS⟩ | (go_simp; exact rfl)))); (intro K hK; go_simp; (try go_bits); refine hK _ ?_; clear hK K)) | (apply wpWarm_step_on rfl; (focus (intro W' hS; have hcS := hS.cells.1; have hfS := hS.cells.2; go_simp; (first | done | exact rfl | exact ⟨rfl, hS⟩ | (go_simp; exact rfl)))); (intro K hK; go_simp; (try go_bits); refine hK _ ?_; clear hK K)))
        refine wpWarm_nil ?_
        intro w4 hO
        have HB4 := Lib.hid (HB1.out.trans (hO.2.mono hz))
        have d1 : w4.cell? ⟨g, o + j, none⟩ = some (.int .u32 x) := by rw [hO.cells.1 g _ hg]; exact hc1
        have d2 : w4.cell? ⟨g', o' + j, none⟩ = some (.int .u32 y) := by rw [hO.cells.1 g' _ hg']; exact hc2
        have hg4 : g < w4.heap.size := Nat.lt_of_lt_of_le hg hO.1
        have hg4' : g' < w4.heap.size := Nat.lt_of_lt_of_le hg' hO.1
        have hz4 := HB4.out.size
        clear hc1 hc2 hO
        by_cases hlt : x < y
        · have hR := HLT.out hlt
          subst hR
          go_wp2_with fail
          refine wp_region_warm (Own w4.heap.size w4) (by kernel_rfl) (by kernel_rfl) (Own.refl (Nat.le_refl _)).drew ?_
          repeat (first | (refine wpWarm_step_off rfl (fun K hK => ?_); (go_simp; refine hK _ ?_; clear hK K)) | (apply wpWarm_step rfl; (focus (intro W' hS; have hcS := hS.cells.1; have hfS := hS.cells.2; go_simp; (first | done | exact rfl | exact ⟨rfl, hS⟩ | (go_simp; exact rfl)))); (intro K hK; go_simp; (try go_bits); refine hK _ ?_; clear hK K)) | (apply wpWarm_step_on rfl; (focus (intro W' hS; have hcS := hS.cells.1; have hfS := hS.cells.2; go_simp; (first | done | exact rfl | exact ⟨rfl, hS⟩ | (go_simp; exact rfl)))); (intro K hK; go_simp; (try go_bits); refine hK _ ?_; clear hK K)))
          refine wpWarm_nil ?_
          intro w5 hO
          go_wp2_with fail
          go_ret
          exact ⟨rfl, HB4.out.trans (hO.2.mono hz4)⟩
        · have hR := HGT.out (by have := HNE.out; omega)
          subst hR
          go_wp2_with fail
          refine wp_region_warm (Own w4.heap.size w4) (by kernel_rfl) (by kernel_rfl) (Own.refl (Nat.le_refl _)).drew ?_
          repeat (first | (refine wpWarm_step_off rfl (fun K hK => ?_); (go_simp; refine hK _ ?_; clear hK K)) | (apply wpWarm_step rfl; (focus (intro W' hS; have hcS := hS.cells.1; have hfS := hS.cells.2; go_simp; (first | done | exact rfl | exact ⟨rfl, hS⟩ | (go_simp; exact rfl)))); (intro K hK; go_simp; (try go_bits); refine hK _ ?_; clear hK K)) | (apply wpWarm_step_on rfl; (focus (intro W' hS; have hcS := hS.cells.1; have hfS := hS.cells.2; go_simp; (first | done | exact rfl | exact ⟨rfl, hS⟩ | (go_simp; exact rfl)))); (intro K hK; go_simp; (try go_bits); refine hK _ ?_; clear hK K)))
          refine wpWarm_nil ?_
          intro w5 hO
          go_wp2_with fail
          go_ret
          exact ⟨rfl, HB4.out.trans (hO.2.mono hz4)⟩
end Go.Proofs.Ytkoejgpnlncgaaa
