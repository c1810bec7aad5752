/- The contract of wide.cmpLimbs. -/
import Derived.Test.YtadkcipjcmkoiaaBigC
namespace Go.Proofs.Ytadkcipjcmkoiaa
open Go Go.RowKit
set_option linter.unusedVariables false
set_option maxHeartbeats 1000000 in
theorem wcmpl_same (A B : Option Addr) (l1 l2 : List Int) (c d : Nat) (w : World) (h1 : Lim l1) (h2 : Lim l2) (hl : l1.length = l2.length) (hn : l1.length ≤ 1000000) (hA : LAt w A l1) (hB : LAt w B l2) :
    Calls Try.prog 81 #[.slice A l1.length c, .slice B l2.length d] w fun e w' => e = .returned (.int .i64 (cmpI (mv l1) (mv l2))) ∧ Below w.heap.size w w' := by
  obtain ⟨R, hR⟩ : ∃ R, R = cmpI (mv l1) (mv l2) := ⟨_, rfl⟩
  rw [← hR]
  have HR := Lib.hid hR
  have HA := Lib.hid hA
  have HB := Lib.hid hB
  have HLI := Lib.hid h1
  have HL2 := Lib.hid h2
  rw [← hl]
  have HL := Lib.hid hl
  clear hR hA hB h1 h2 hl
  go_enter Try.func81, Try.ntmps81; (try simp only [List.append_eq, List.cons_append, List.nil_append])
  go_wp2_with fail
  go_loopw [5] (fun vi wr => ∃ k : Nat, k ≤ l1.length ∧ vi = .int .i64 ((k : Int) - 1) ∧ Hid (l1.drop k = l2.drop k) ∧ Below w.heap.size w wr) (fun vi _ => (intOf vi + 1).toNat)
  case atStart => exact ⟨l1.length, Nat.le_refl _, rfl, Lib.hid (by rw [List.drop_length, HL.out, List.drop_length]), Below.refl _ _⟩
  case round =>
    obtain ⟨k, hk, rfl, HD, hbel⟩ := hrel
    rcases k with _ | j
    · have hfin : R = 0 := by
        have := HD.out
        rw [List.drop_zero, List.drop_zero] at this
        rw [HR.out, this]; exact cmpI_self _
      subst hfin
      go_wp2_with fail
      go_ret
      exact ⟨rfl, hbel⟩
    · obtain ⟨x, hx⟩ : ∃ x, l1[j]? = some x := ⟨l1[j], by simp⟩
      obtain ⟨y, hy⟩ : ∃ y, l2[j]? = some y := ⟨l2[j]'(by have := HL.out; omega), by simp⟩
      obtain ⟨g, o, rfl, hg, hc1⟩ := HA.out.below hbel j x hx
      obtain ⟨g', o', rfl, hg', hc2⟩ := HB.out.below hbel j y hy
      have HX := Lib.hid hx
      have HY := Lib.hid hy
      have HB1 := Lib.hid hbel
      have i1 : (0 : Int) ≤ (j : Int) := by omega
      have i2 : (j : Int) < (l1.length : Int) := by omega
      have i3 : (l1.length : Int) ≤ 1000000 := by omega
      have hz := hbel.size
      clear hx hy hbel
      by_cases hxy : x = y
      · subst hxy
        have b1 : (x != x) = false := by simp
        go_wp2_with fail
        refine wp_region_warm (Own wr.heap.size wr) (by kernel_rfl) (by kernel_rfl) (Own.refl (Nat.le_refl _)).drew ?_
        repeat (first | (refine wpWarm_step_off rfl (fun K hK => ?_); (go_simp; refine hK _ ?_; clear hK K)) | (apply wpWarm_step rfl; (focus (intro W' hS; have hcS := hS.cells.1; have hfS := hS.cells.2; go_simp; (first | done | exact rfl | exact ⟨rfl, hS⟩ | (go_simp; exact rfl)))); (intro K hK; go_simp; (try go_bits); refine hK _ ?_; clear hK K)) | (apply wpWarm_step_on rfl; (focus (intro W' hS; have hcS := hS.cells.1; have hfS := hS.cells.2; go_simp; (first | done | exact rfl | exact ⟨rfl, hS⟩ | (go_simp; exact rfl)))); (intro K hK; go_simp; (try go_bits); refine hK _ ?_; clear hK K)))
        refine wpWarm_nil ?_
        intro w4 hO
        go_wp2_with fail
        go_roundw
        case rel => exact ⟨j, by omega, rfl, Lib.hid (by rw [drop_consI HX.out, drop_consI HY.out, HD.out]), HB1.out.trans (hO.2.mono hz)⟩
        case measure => simp [intOf]
      · have b1 : (x != y) = true := by simp [hxy]
        have hlt : x < y → R = -1 := fun h => by rw [HR.out]; exact cmpI_lt (mv_lt_of HLI.out HL2.out HL.out HX.out HY.out HD.out h)
        have hgt : y < x → R = 1 := fun h => by rw [HR.out]; exact cmpI_gt (mv_lt_of HL2.out HLI.out HL.out.symm HY.out HX.out HD.out.symm h)
        have HLT := Lib.hid hlt
        have HGT := Lib.hid hgt
        have HNE := Lib.hid hxy
        clear hlt hgt hxy
        go_wp2_with fail
        refine wp_region_warm (Own wr.heap.size wr) (by kernel_rfl) (by kernel_rfl) (Own.refl (Nat.le_refl _)).drew ?_
        repeat (first | (refine wpWarm_step_off rfl (fun K hK => ?_); (go_simp; refine hK _ ?_; clear hK K)) | (apply wpWarm_step rfl; (focus (intro W' hS; have hcS := hS.cells.1; have hfS := hS.cells.2; go_simp; (first | done | exact rfl | exact ⟨rfl, hS⟩ | (go_simp; exact rfl)))); (intro K hK; go_simp; (try go_bits); refine hK _ ?_; clear hK K)) | (apply wpWarm_step_on rfl; (focus (intro W' hS; have hcS := hS.cells.1; have hfS := hS.cells.2; go_simp; (first | done | exact rfl | exact ⟨rfl, hS⟩ | (go_simp; exact rfl)))); (intro K hK; go_simp; (try go_bits); refine hK _ ?_; clear hK K)))
        refine wpWarm_nil ?_
        intro w4 hO
        have HB4 := Lib.hid (HB1.out.trans (hO.2.mono hz))
        have d1 : w4.cell? ⟨g, o + j, none⟩ = some (.int .u32 x) := by rw [hO.cells.1 g _ hg]; exact hc1
        have d2 : w4.cell? ⟨g', o' + j, none⟩ = some (.int .u32 y) := by rw [hO.cells.1 g' _ hg']; exact hc2
        have hg4 : g < w4.heap.size := Nat.lt_of_lt_of_le hg hO.1
        have hg4' : g' < w4.heap.size := Nat.lt_of_lt_of_le hg' hO.1
        have hz4 := HB4.out.size
        clear hc1 hc2 hO
        by_cases hlt : x < y
        · have hR := HLT.out hlt
          subst hR
          go_wp2_with fail
          refine wp_region_warm (Own w4.heap.size w4) (by kernel_rfl) (by kernel_rfl) (Own.refl (Nat.le_refl _)).drew ?_
          repeat (first | (refine wpWarm_step_off rfl (fun K hK => ?_); (go_simp; refine hK _ ?_; clear hK K)) | (apply wpWarm_step rfl; (focus (intro W' hS; have hcS := hS.cells.1; have hfS := hS.cells.2; go_simp; (first | done | exact rfl | exact ⟨rfl, hS⟩ | (go_simp; exact rfl)))); (intro K hK; go_simp; (try go_bits); refine hK _ ?_; clear hK K)) | (apply wpWarm_step_on rfl; (focus (intro W' hS; have hcS := hS.cells.1; have hfS := hS.cells.2; go_simp; (first | done | exact rfl | exact ⟨rfl, hS⟩ | (go_simp; exact rfl)))); (intro K hK; go_simp; (try go_bits); refine hK _ ?_; clear hK K)))
          refine wpWarm_nil ?_
          intro w5 hO
          go_wp2_with fail
          go_ret
          exact ⟨rfl, HB4.out.trans (hO.2.mono hz4)⟩
        · have hR := HGT.out (by have := HNE.out; omega)
          subst hR
          go_wp2_with fail
          refine wp_region_warm (Own w4.heap.size w4) (by kernel_rfl) (by kernel_rfl) (Own.refl (Nat.le_refl _)).drew ?_
          repeat (first | (refine wpWarm_step_off rfl (fun K hK => ?_); (go_simp; refine hK _ ?_; clear hK K)) | (apply wpWarm_step rfl; (focus (intro W' hS; have hcS := hS.cells.1; have hfS := hS.cells.2; go_simp; (first | done | exact rfl | exact ⟨rfl, hS⟩ | (go_simp; exact rfl)))); (intro K hK; go_simp; (try go_bits); refine hK _ ?_; clear hK K)) | (apply wpWarm_step_on rfl; (focus (intro W' hS; have hcS := hS.cells.1; have hfS := hS.cells.2; go_simp; (first | done | exact rfl | exact ⟨rfl, hS⟩ | (go_simp; exact rfl)))); (intro K hK; go_simp; (try go_bits); refine hK _ ?_; clear hK K)))
          refine wpWarm_nil ?_
          intro w5 hO
          go_wp2_with fail
          go_ret
          exact ⟨rfl, HB4.out.trans (hO.2.mono hz4)⟩
set_option maxHeartbeats 1000000 in
theorem wcmpl_any (A B : Option Addr) (x y c d : Nat) (w : World) (hn : (canN x).length ≤ 1000000) (hn' : (canN y).length ≤ 1000000) (hA : LAt w A (canN x)) (hB : LAt w B (canN y)) :
    Calls Try.prog 81 #[.slice A (canN x).length c, .slice B (canN y).length d] w fun e w' => e = .returned (.int .i64 (cmpI x y)) ∧ Below w.heap.size w w' := by
  by_cases hl : (canN x).length = (canN y).length
  · have := wcmpl_same A B (canN x) (canN y) c d w (canN_lim _) (canN_lim _) hl hn hA hB
    rw [mv_canN, mv_canN] at this
    exact this
  · have hne : (((canN x).length : Int) != ((canN y).length : Int)) = true := by rw [bne_iff_ne]; omega
    clear hA hB
    rcases Nat.lt_or_ge (canN x).length (canN y).length with h | h
    · have hR : cmpI x y = -1 := cmpI_lt (by have := canN_lt h; omega)
      rw [hR]
      have h' : ((canN x).length : Int) < ((canN y).length : Int) := by omega
      clear hR hl
      go_enter Try.func81, Try.ntmps81; (try simp only [List.append_eq, List.cons_append, List.nil_append])
      go_wp2_with fail
      go_ret
      exact ⟨rfl, Below.refl _ _⟩
    · have hR : cmpI x y = 1 := cmpI_gt (by have := canN_lt (show (canN y).length < (canN x).length by omega); omega)
      rw [hR]
      have h' : ¬ ((canN x).length : Int) < ((canN y).length : Int) := by omega
      clear hR hl
      go_enter Try.func81, Try.ntmps81; (try simp only [List.append_eq, List.cons_append, List.nil_append])
      go_wp2_with fail
      go_ret
      exact ⟨rfl, Below.refl _ _⟩
end Go.Proofs.Ytadkcipjcmkoiaa
