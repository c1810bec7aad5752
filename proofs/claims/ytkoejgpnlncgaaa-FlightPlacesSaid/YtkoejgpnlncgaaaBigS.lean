/- The contract of pinballref01.Same at canonical integers. -/
import Derived.Test.YtkoejgpnlncgaaaBigC
namespace Go.Proofs.Ytkoejgpnlncgaaa
open Go Go.RowKit
set_option linter.unusedVariables false
set_option maxHeartbeats 2000000 in
theorem same_core (p q : Bool) (A B : Option Addr) (l1 l2 : List Int) (c d : Nat) (w : World) (hn : l1.length ≤ 1000000) (hn' : l2.length ≤ 1000000) (hA : LAt w A l1) (hB : LAt w B l2) :
    Calls Try.prog 68 #[.agg #[.bool p, .slice A l1.length c], .agg #[.bool q, .slice B l2.length d]] w fun e w' => e = .returned (.bool (p == q && decide (l1 = l2))) ∧ Below w.heap.size w w' := by
  by_cases hpq : p = q
  · subst hpq
    rw [beq_self_eq_true, Bool.true_and]
    have b0 : (p != p) = false := by simp
    by_cases hl : l1.length = l2.length
    · have HA := Lib.hid hA
      have HB := Lib.hid hB
      obtain ⟨R, hR⟩ : ∃ R, R = decide (l1 = l2) := ⟨_, rfl⟩
      rw [← hR]
      have HR := Lib.hid hR
      rw [← hl]
      have HL := Lib.hid hl
      have b1 : ((l1.length : Int) != (l1.length : Int)) = false := by simp
      clear hA hB hR hl
      go_enter Try.func68, Try.ntmps68; (try simp only [List.append_eq, List.cons_append, List.nil_append])
      go_wp2_with fail
      -- own blocks: w.heap.size:2, w.heap.size + 1:2
      (refine pin_wp (N := _) (Nat.le_refl _) (fun w0 hb_w0 hz_w0 => ?_); (try simp at hz_w0); (with_reducible apply cel2 (b := w.heap.size) hb_w0); (focus ((try simp) <;> omega)); (focus omega); (focus (go_simp; try exact rfl)); (focus (go_simp; try exact rfl)); (focus (intro o; go_simp)); intro cc cc fz hl; (with_reducible apply cel2 (b := w.heap.size + 1) hb_w0); (focus ((try simp) <;> omega)); (focus omega); (focus (go_simp; try exact rfl)); (focus (go_simp; try exact rfl)); (focus (intro o; go_simp)); intro cc cc fz hl)
      have HB0 := Lib.hid (show Below w.heap.size w w0 from ((((Below.refl w.heap.size w).alloc (Nat.le_refl _) _).alloc (by simp) _).trans (hb_w0.mono (by simp <;> omega))))
      have hz0 := HB0.out.size
      clear hb_w0
      go_loopw [5] (fun vi wr => ∃ k : Nat, k ≤ l1.length ∧ vi = .int .i64 k ∧ Hid (l1.take k = l2.take k) ∧ Below w0.heap.size w0 wr) (fun vi _ => l1.length - (intOf vi).toNat)
      case atStart => exact ⟨0, by omega, rfl, Lib.hid rfl, Below.refl _ _⟩
      case round =>
        obtain ⟨k, hk, rfl, HT, hb_wr⟩ := hrel
        have HBR := Lib.hid (HB0.out.trans (hb_wr.mono hz0))
        have hz := hb_wr.size
        (with_reducible apply cel2 (b := w.heap.size) hb_wr); (focus ((try simp) <;> omega)); (focus omega); (focus (go_simp; try exact rfl)); (focus (go_simp; try exact rfl)); (focus (intro o; go_simp)); intro cc cc fz hl; (with_reducible apply cel2 (b := w.heap.size + 1) hb_wr); (focus ((try simp) <;> omega)); (focus omega); (focus (go_simp; try exact rfl)); (focus (go_simp; try exact rfl)); (focus (intro o; go_simp)); intro cc cc fz hl
        have HBW := Lib.hid hb_wr
        clear hb_wr
        have i3 : (l1.length : Int) ≤ 1000000 := by omega
        by_cases hlt : k < l1.length
        · obtain ⟨x, hx⟩ : ∃ x, l1[k]? = some x := ⟨l1[k], by simp⟩
          obtain ⟨y, hy⟩ : ∃ y, l2[k]? = some y := ⟨l2[k]'(by have := HL.out; omega), by simp⟩
          obtain ⟨g, o, rfl, hg, hc1⟩ := HA.out.below HBR.out k x hx
          obtain ⟨g', o', rfl, hg', hc2⟩ := HB.out.below HBR.out k y hy
          have HX := Lib.hid hx
          have HY := Lib.hid hy
          have i1 : (0 : Int) ≤ (k : Int) := by omega
          have i2 : (k : Int) < (l1.length : Int) := by omega
          have hz2 := HBR.out.size
          clear hx hy
          by_cases hxy : x = y
          · subst hxy
            have b1 : (x != x) = false := by simp
            go_wp2_with fail
            refine wp_region_warm (Own wr.heap.size wr) (by kernel_rfl) (by kernel_rfl) (Own.refl (Nat.le_refl _)).drew ?_
            repeat (first | (refine wpWarm_step_off rfl (fun K hK => ?_); (go_simp; refine hK _ ?_; clear hK K)) | (apply wpWarm_step rfl; (focus (intro W' hS; have hcS := hS.cells.1; have hfS := hS.cells.2; go_simp; (first | done | exact rfl | exact ⟨rfl, hS⟩ | (go_simp; exact rfl)))); (intro K hK; go_simp; (try go_bits); refine hK _ ?_; clear hK K)) | (apply wpWarm_step_on rfl; (focus (intro W' hS; have hcS := hS.cells.1; have hfS := hS.cells.2; go_simp; (first | done | exact rfl | exact ⟨rfl, hS⟩ | (go_simp; exact rfl)))); (intro K hK; go_simp; (try go_bits); refine hK _ ?_; clear hK K)))
            refine wpWarm_nil ?_
            intro w4 hO
            go_wp2_with fail
            go_roundw
            case rel => exact ⟨k + 1, by omega, by go_num, Lib.hid (by rw [take_snocI HX.out, take_snocI HY.out, HT.out]), HBW.out.trans (hO.2.mono (by omega))⟩
            case measure => simp [intOf]; omega
          · have b1 : (x != y) = true := by simp [hxy]
            have hR : R = false := by
              rw [HR.out]
              apply decide_eq_false
              intro e
              have h1 := HX.out
              have h2 := HY.out
              rw [e, h2] at h1
              exact hxy (Option.some.inj h1).symm
            subst hR
            clear hxy
            go_wp2_with fail
            refine wp_region_warm (Own wr.heap.size wr) (by kernel_rfl) (by kernel_rfl) (Own.refl (Nat.le_refl _)).drew ?_
            repeat (first | (refine wpWarm_step_off rfl (fun K hK => ?_); (go_simp; refine hK _ ?_; clear hK K)) | (apply wpWarm_step rfl; (focus (intro W' hS; have hcS := hS.cells.1; have hfS := hS.cells.2; go_simp; (first | done | exact rfl | exact ⟨rfl, hS⟩ | (go_simp; exact rfl)))); (intro K hK; go_simp; (try go_bits); refine hK _ ?_; clear hK K)) | (apply wpWarm_step_on rfl; (focus (intro W' hS; have hcS := hS.cells.1; have hfS := hS.cells.2; go_simp; (first | done | exact rfl | exact ⟨rfl, hS⟩ | (go_simp; exact rfl)))); (intro K hK; go_simp; (try go_bits); refine hK _ ?_; clear hK K)))
            refine wpWarm_nil ?_
            intro w4 hO
            go_wp2_with fail
            go_ret
            exact ⟨rfl, HBR.out.trans (hO.2.mono (by omega))⟩
        · obtain rfl : k = l1.length := by omega
          have hR : R = true := by
            rw [HR.out]
            apply decide_eq_true
            have := HT.out
            rwa [List.take_length, HL.out, List.take_length] at this
          subst hR
          go_wp2_with fail
          go_ret
          exact ⟨rfl, HBR.out⟩
    · have hR : decide (l1 = l2) = false := decide_eq_false (fun e => hl (by rw [e]))
      rw [hR]
      have b1 : ((l1.length : Int) != (l2.length : Int)) = true := by rw [bne_iff_ne]; omega
      clear hA hB hl hR
      go_enter Try.func68, Try.ntmps68; (try simp only [List.append_eq, List.cons_append, List.nil_append])
      go_wp2_with fail
      go_ret
      refine ⟨rfl, ?_⟩
      ((with_reducible (repeat (first | exact bR _ _ | refine bS ?_ ?_ _ | refine bA ?_ ?_ _ | refine bD ?_ | refine bT ?_ (by assumption) ?_ | refine bO (by assumption) ?_ ?_))) <;> (first | omega | (simp; done) | (simp <;> omega)))
  · have b0 : (p != q) = true := by simp [hpq]
    have e : (p == q && decide (l1 = l2)) = false := by simp [hpq]
    rw [e]
    clear hA hB b0 e
    cases p <;> cases q
    · exact absurd rfl hpq
    · clear hpq
      go_enter Try.func68, Try.ntmps68; (try simp only [List.append_eq, List.cons_append, List.nil_append])
      go_wp2_with fail
      go_ret
      refine ⟨rfl, ?_⟩
      ((with_reducible (repeat (first | exact bR _ _ | refine bS ?_ ?_ _ | refine bA ?_ ?_ _ | refine bD ?_ | refine bT ?_ (by assumption) ?_ | refine bO (by assumption) ?_ ?_))) <;> (first | omega | (simp; done) | (simp <;> omega)))
    · clear hpq
      go_enter Try.func68, Try.ntmps68; (try simp only [List.append_eq, List.cons_append, List.nil_append])
      go_wp2_with fail
      go_ret
      refine ⟨rfl, ?_⟩
      ((with_reducible (repeat (first | exact bR _ _ | refine bS ?_ ?_ _ | refine bA ?_ ?_ _ | refine bD ?_ | refine bT ?_ (by assumption) ?_ | refine bO (by assumption) ?_ ?_))) <;> (first | omega | (simp; done) | (simp <;> omega)))
    · exact absurd rfl hpq
theorem same_any (u v : Value) (a b : Int) (w : World) (ha : IsC w u a) (hb : IsC w v b) (hla : (canN a.natAbs).length ≤ 1000000) (hlb : (canN b.natAbs).length ≤ 1000000) :
    Calls Try.prog 68 #[u, v] w fun e w' => e = .returned (.bool (decide (a = b))) ∧ Below w.heap.size w w' := by
  obtain ⟨A, c, rfl, hc, hA⟩ := ha
  obtain ⟨B, d, rfl, hd, hB⟩ := hb
  have := same_core (decide (a < 0)) (decide (b < 0)) A B _ _ c d w hla hlb hA hB
  have e : (decide (a < 0) == decide (b < 0) && decide (canN a.natAbs = canN b.natAbs)) = decide (a = b) := by
    rw [Bool.eq_iff_iff]
    simp only [Bool.and_eq_true, beq_iff_eq, decide_eq_decide, decide_eq_true_eq]
    constructor
    · rintro ⟨h1, h2⟩
      have := canN_inj h2
      omega
    · rintro rfl
      exact ⟨Iff.rfl, rfl⟩
  rw [e] at this
  exact this
end Go.Proofs.Ytkoejgpnlncgaaa
