/- The contracts of wide.quoSmall, and of wide.quoLimbs at a dividend that is less, at a divisor of one limb. -/
import Derived.Test.YtadkcipjcmkoiaaWs
import Derived.Test.YtadkcipjcmkoiaaBigDv
import Derived.Test.YtadkcipjcmkoiaaShelf
namespace Go.Proofs.Ytadkcipjcmkoiaa
open Go Go.RowKit
set_option linter.unusedVariables false
/-- The result of wide.quoSmall: n limbs of a quotient in a block of its own, a remainder. -/
def QsOut (n : Nat) (m d : Int) (w : World) (e : Ending) (w' : World) : Prop := ∃ (out : List Int) (r : Int), e = .returned (.tuple #[.slice (some ⟨w.heap.size, 0, none⟩) n n, .int .u32 r]) ∧ out.length = n ∧ Lim out ∧ m = mv out * d + r ∧ 0 ≤ r ∧ r < d ∧ RowL w' w.heap.size out ∧ Below w.heap.size w w'
set_option maxRecDepth 100000 in
set_option maxHeartbeats 2000000 in
theorem wqsmall_any (A : Option Addr) (a : List Int) (c : Nat) (b : Int) (w : World) (hLa : Lim a) (hn : a.length ≤ 1000000) (hA : LAt w A a) (hb0 : 0 < b) (hb1 : b < 4294967296) :
    Calls Try.prog 79 #[.slice A a.length c, .int .u32 b] w (QsOut a.length (mv a) b w) := by
  have hmk := fun w => run_make_row' (P := Try.prog) 22 50 (.int .u32 0) 4 Try.underlying22 limbInfo rfl .i64 .i64 a.length (by omega) (by omega) w
  have HA := Lib.hid hA
  have HLA := Lib.hid hLa
  clear hA hLa
  go_enter Try.func79, Try.ntmps79; (try simp only [List.append_eq, List.cons_append, List.nil_append])
  go_wp2_with fail
  clear hmk
  have hg0 : w.heap.size < w.heap.size + 1 := by omega
  go_loopw [7, 8, 9] (fun vr vi _ wr => ∃ (k : Nat) (r : Int) (out : List Int), k ≤ a.length ∧ vi = .int .i64 ((k : Int) - 1) ∧ vr = .int .u64 r ∧ 0 ≤ r ∧ r < b ∧ RowL wr w.heap.size out ∧ Hid (out.length = a.length ∧ Lim out ∧ mv (a.drop k) = mv (out.drop k) * b + r) ∧ Below w.heap.size w wr) (fun _ vi _ _ => (intOf vi + 1).toNat)
  case atStart => exact ⟨a.length, 0, List.replicate a.length 0, by omega, rfl, rfl, by omega, by omega, RowL.made w a.length, Lib.hid ⟨by simp, Lim.replicate _, by rw [List.drop_length, List.drop_of_length_le (by simp)]; simp [mv]⟩, (Below.refl _ _).alloc (Nat.le_refl _) _⟩
  case round =>
    obtain ⟨k, r, out, hk, rfl, rfl, r0, r1, hrow, HO, hbel⟩ := hrel
    have HBE := Lib.hid hbel
    have HR := Lib.hid hrow
    have hsz := hbel.size
    clear hbel hrow
    rcases k with _ | j
    · have HF := Lib.hid (show mv a = mv out * b + r by have := HO.out.2.2; rwa [List.drop_zero, List.drop_zero] at this)
      have e0 : r % 4294967296 = r := by omega
      go_wp2_with fail
      go_ret2
      exact ⟨out, r, rfl, HO.out.1, HO.out.2.1, HF.out, r0, r1, HR.out, HBE.out⟩
    · obtain ⟨z, hz⟩ : ∃ z, a[j]? = some z := ⟨a[j], by simp⟩
      obtain ⟨g, o, rfl, hg, hc1⟩ := HA.out.below HBE.out j z hz
      obtain ⟨z0, z1⟩ := HLA.out.get hz
      have HZ := Lib.hid hz
      have hjo : j < out.length := by have := HO.out.1; omega
      have i1 : (0 : Int) ≤ (j : Int) := by omega
      have i2 : (j : Int) < (a.length : Int) := by omega
      have i3 : (a.length : Int) ≤ 1000000 := by omega
      obtain ⟨v, hv⟩ : ∃ v, v = r * 4294967296 + z := ⟨_, rfl⟩
      have hsh : IntKind.u64.wrap (r * 4294967296) = r * 4294967296 := by rw [IntKind.wrap_u64]; omega
      have hor : bits .or .u64 (r * 4294967296) z = v := by
        rw [hv]
        exact bits_join .u64 64 (by decide) wraps_u64' 32 (r * 4294967296) z (by omega) (Int.mul_emod_left _ _) (by omega) z0 (by omega) (by omega)
      have v0 : 0 ≤ v := by omega
      have v1 : v < 18446744073709551616 := by omega
      obtain ⟨q, hq⟩ : ∃ q, q = v / b := ⟨_, rfl⟩
      obtain ⟨s, hs⟩ : ∃ s, s = v % b := ⟨_, rfl⟩
      have q0 : 0 ≤ q := by rw [hq]; exact Int.ediv_nonneg v0 (by omega)
      have q1 : q < 4294967296 := by
        rw [hq]
        refine Int.ediv_lt_of_lt_mul (by omega) ?_
        have : (r + 1) * 4294967296 ≤ b * 4294967296 := Int.mul_le_mul_of_nonneg_right (by omega) (by omega)
        rw [hv]; omega
      have s0 : 0 ≤ s := by rw [hs]; exact Int.emod_nonneg _ (by omega)
      have s1 : s < b := by rw [hs]; exact Int.emod_lt_of_pos _ hb0
      have hqs : v = b * q + s := by rw [hq, hs]; exact (Int.mul_ediv_add_emod _ _).symm
      have HST := Lib.hid (one_step (q := q) (r' := s) HO.out.2.2 HZ.out hjo hv hqs)
      have e1 : v.tdiv b = q := by rw [hq]; exact Int.tdiv_eq_ediv_of_nonneg v0
      have e2 : v.tmod b = s := by rw [hs]; exact Int.tmod_eq_emod_of_nonneg v0
      have e3 : IntKind.u64.wrap (v.tdiv b) = q := by rw [e1]; exact wraps_u64' q q0 (by omega)
      have n0 : (b == 0) = false := by rw [beq_eq_false_iff_ne]; omega
      have n1 : ¬ b = 0 := by omega
      have e4 : q % 4294967296 = q := by omega
      have HV := Lib.hid hv
      have hq' := hq.symm
      have hs' := hs.symm
      clear hv hq hs hqs hz
      go_wp2_with fail
      refine wp_region_float (w.heap.size) 14 (by omega) (fun W => RowL W w.heap.size out) (HR.out) (fun W W' h hb => h.below hb) (by kernel_rfl) (by simp) ?_
      refine wpI_start [0, 1, 2, 3, 4, 5, 6, 7, 8, 9, 10, 11] ?_; (iterate 12 (first | (refine wpI_off rfl (by kernel_rfl) rfl (fun K hK => ?_); go_simp; refine hK _ ?_; clear hK K) | ((first | apply wpI_step rfl (by kernel_rfl) rfl | apply wpI_on rfl (by kernel_rfl) rfl); (focus (intro W' hS; have hcS := hS.cells.1; have hfS := hS.cells.2; go_simp; (first | done | exact rfl | exact ⟨rfl, Below.refl _ _⟩ | (go_simp; first | done | exact rfl | exact ⟨rfl, Below.refl _ _⟩)))); intro K hK; go_simp; (try go_bits); refine hK _ ?_; clear hK K))); refine wpI_nil ?_
      apply wpF_wild (i := 12) rfl (by kernel_rfl) (by kernel_rfl); intro W hF hS; have hcS := hS.1.cells.1; have hfS := hS.1.cells.2; have k0 := hF.cell (List.getElem?_eq_getElem hjo); have k1 := hF.frozen; have k2 := hF.lt; go_simp
      refine WPost.mk _ (fun W' => RowL W' w.heap.size (out.set j q)) [] (hF.set _ _) (fun W W' h hb => h.below hb) ⟨hS.1.setCell (by simp) _, fun p hp => by cases hp⟩ ?_
      clear k0 k1 k2 hcS hfS hS hF
      intro K hK; go_simp; refine hK _ ?_; clear hK K
      refine wpI_start [13] ?_; (iterate 1 (first | (refine wpI_off rfl (by kernel_rfl) rfl (fun K hK => ?_); go_simp; refine hK _ ?_; clear hK K) | ((first | apply wpI_step rfl (by kernel_rfl) rfl | apply wpI_on rfl (by kernel_rfl) rfl); (focus (intro W' hS; have hcS := hS.cells.1; have hfS := hS.cells.2; go_simp; (first | done | exact rfl | exact ⟨rfl, Below.refl _ _⟩ | (go_simp; first | done | exact rfl | exact ⟨rfl, Below.refl _ _⟩)))); intro K hK; go_simp; (try go_bits); refine hK _ ?_; clear hK K))); refine wpI_nil ?_
      refine wpF_done (by kernel_rfl) ?_
      intro w4 hF4 hSG
      have HR4 := Lib.hid hF4
      have HB4 := Lib.hid (HBE.out.trans hSG.1.2)
      clear hF4 hSG
      (try simp only [List.drop_succ_cons, List.drop_zero])
      go_wp2_with fail
      go_roundw
      case rel => exact ⟨j, s, out.set j q, by omega, rfl, rfl, s0, s1, HR4.out, Lib.hid ⟨by rw [List.length_set]; exact HO.out.1, HO.out.2.1.set _ q0 q1, HST.out⟩, HB4.out⟩
      case measure => simp [intOf]
/-- The quotient and the remainder, limbs both, of kx and ky limbs at most. -/
def WDivOut (kx ky : Nat) (q r : Int) (w : World) (e : Ending) (w' : World) : Prop := Below w.heap.size w w' ∧ ∃ A1 c1 l1 A2 c2 l2, e = .returned (.tuple #[.slice A1 l1.length c1, .slice A2 l2.length c2]) ∧ l1.length ≤ c1 ∧ l2.length ≤ c2 ∧ Lim l1 ∧ Lim l2 ∧ mv l1 = q ∧ mv l2 = r ∧ l1.length ≤ kx ∧ l2.length ≤ ky ∧ LAt w' A1 l1 ∧ LAt w' A2 l2
set_option maxRecDepth 100000 in
set_option maxHeartbeats 1000000 in
theorem wquol_less (A B : Option Addr) (x y c d : Nat) (w : World) (hn : (canN x).length ≤ 400000) (hn' : (canN y).length ≤ 400000) (hA : LAt w A (canN x)) (hB : LAt w B (canN y)) (hxy : x < y) :
    Calls Try.prog 84 #[.slice A (canN x).length c, .slice B (canN y).length d] w (WDivOut 400000 400000 ((x / y : Nat) : Int) ((x % y : Nat) : Int) w) := by
  have hcm := fun w' h h' => wcmpl_any A B x y c d w' (by omega) (by omega) h h'
  rw [cmpI_lt (show (x : Int) < (y : Int) by omega)] at hcm
  have HCM := Lib.hid hcm
  have HA := Lib.hid hA
  have HB := Lib.hid hB
  clear hcm hA hB
  rw [Nat.div_eq_of_lt hxy, Nat.mod_eq_of_lt hxy]
  go_enter Try.func84, Try.ntmps84; (try simp only [List.append_eq, List.cons_append, List.nil_append])
  go_wp2_with fail
  -- own blocks: 
  (go_at_call 81; refine (HCM.out _ HA.out HB.out).mono ?_; rintro e w1 ⟨rfl, hb_w1⟩; have hz_w1 := hb_w1.size; (try simp at hz_w1); skip)
  have HB1 := Lib.hid hb_w1
  have HA1 := Lib.hid (HA.out.below hb_w1)
  clear hb_w1
  go_wp2_with (at_builtin; go_must (refine wpList_append_limbs rfl _ _ rfl w1.heap.size (.slice none 0 0) [] rfl (OwnL.nil _ _) A c (canN x) rfl HA1.out (by simp; omega) (Nat.le_refl _) ?_))
  intro v2 w2 hown hg2
  have HB2 := Lib.hid (HB1.out.trans (((Below.refl w1.heap.size w1).grown hg2 (Nat.le_refl _) (by simp [Value.ownBlock])).mono (by omega)))
  obtain ⟨A2, c2, rfl, hc2, _, hA2⟩ := lat_of_own hown
  have HC2 := Lib.hid hc2
  have HA2 := Lib.hid hA2
  clear hown hg2 hc2 hA2
  go_wp2_with fail
  go_ret2
  refine ⟨HB2.out, none, 0, [], A2, c2, canN x, rfl, Nat.le_refl _, HC2.out, Lim.nil, canN_lim _, rfl, mv_canN x, by simp, hn, LAt.nil _ _, HA2.out⟩
set_option maxRecDepth 100000 in
set_option maxHeartbeats 1000000 in
theorem wquol_one (A B : Option Addr) (x y c d : Nat) (w : World) (hn : (canN x).length ≤ 400000) (hA : LAt w A (canN x)) (hB : LAt w B (canN y)) (hxy : y ≤ x) (hy1 : (canN y).length = 1) :
    Calls Try.prog 84 #[.slice A (canN x).length c, .slice B (canN y).length d] w (WDivOut 400000 400000 ((x / y : Nat) : Int) ((x % y : Nat) : Int) w) := by
  have hcm := fun w' h h' => wcmpl_any A B x y c d w' (by omega) (by omega) h h'
  obtain ⟨cm, hcc⟩ : ∃ cm, cm = cmpI x y := ⟨_, rfl⟩
  have cm0 : 0 ≤ cm := by rw [hcc]; unfold cmpI; rw [if_neg (by omega)]; split <;> omega
  rw [← hcc] at hcm
  obtain ⟨a, ha⟩ : ∃ a, a = canN x := ⟨_, rfl⟩
  have hLa : Lim a := by rw [ha]; exact canN_lim x
  have hva : mv a = x := by rw [ha]; exact mv_canN x
  obtain ⟨b, hb⟩ : ∃ b, canN y = [b] := by
    match h : canN y, hy1 with
    | [b], _ => exact ⟨b, rfl⟩
  have hyb : (y : Int) = b := by have := mv_canN y; rw [hb, mv_one] at this; omega
  have hb1 : b < 4294967296 := by have := (canN_lim y) b (by rw [hb]; simp); omega
  have hb0 : 0 < b := by
    have := canN_last y b (by rw [hb]; rfl)
    have := (canN_lim y) b (by rw [hb]; simp)
    omega
  have hqs := fun w' h => wqsmall_any A a c b w' hLa (by rw [ha]; omega) h hb0 hb1
  rw [hb, ← ha] at hcm
  rw [hb] at hB
  rw [← ha] at hA hn
  rw [hb, ← ha]
  have HQS := Lib.hid hqs
  have HCM := Lib.hid hcm
  have HA := Lib.hid hA
  have HB := Lib.hid hB
  have HVA := Lib.hid hva
  have HYB := Lib.hid hyb
  clear hcm hA hB hcc ha hva hyb hLa hb hy1 hqs
  go_enter Try.func84, Try.ntmps84; (try simp only [List.append_eq, List.cons_append, List.nil_append])
  go_wp2_with fail
  -- own blocks: 
  (go_at_call 81; refine (HCM.out _ HA.out HB.out).mono ?_; rintro e w1 ⟨rfl, hb_w1⟩; have hz_w1 := hb_w1.size; (try simp at hz_w1); skip)
  have HB1 := Lib.hid hb_w1
  have HA1 := Lib.hid (HA.out.below hb_w1)
  obtain ⟨g', o', rfl, hg', hc2⟩ := HB.out.below hb_w1 0 b rfl
  rw [Nat.add_zero] at hc2
  clear hb_w1
  go_wp2_with fail
  clear hc2
  (go_at_call 79; refine (HQS.out _ HA1.out).mono ?_; rintro e w2 ⟨out, r, rfl, hol, hlo, hval, r0, r1, hrow, hb_w2⟩; have hz_w2 := hb_w2.size; (try simp at hz_w2); skip)
  have HF := Lib.hid (show mv out = ((x / y : Nat) : Int) ∧ r = ((x % y : Nat) : Int) by
    rw [HVA.out, ← HYB.out] at hval
    rw [← HYB.out] at r1
    have hm0 := mv_nonneg hlo
    obtain ⟨Q, hQ⟩ := Int.eq_ofNat_of_zero_le hm0
    obtain ⟨R, hR⟩ := Int.eq_ofNat_of_zero_le r0
    rw [hQ, hR] at hval
    rw [hQ, hR]
    rw [hR] at r1
    have hyp : 0 < y := by have := HYB.out; omega
    have h1 : x = y * Q + R := by
      have : (x : Int) = ((y * Q + R : Nat) : Int) := by rw [hval, Int.natCast_add, Int.natCast_mul, Int.mul_comm]
      exact_mod_cast this
    have h2 : R < y := by omega
    rw [h1, Nat.mul_add_div hyp, Nat.div_eq_of_lt h2, Nat.mul_add_mod, Nat.mod_eq_of_lt h2]
    simp)
  have HLO := Lib.hid hlo
  have HOL := Lib.hid hol
  have HRW := Lib.hid hrow.lat
  have HB2 := Lib.hid (HB1.out.trans (hb_w2.mono HB1.out.size))
  have hr1 : r < 4294967296 := by omega
  clear hval hlo hol hrow hb_w2
  go_wp2_with fail
  go_ret2
  refine ⟨HB2.out.alloc (HB2.out.size) _, some ⟨w1.heap.size, 0, none⟩, a.length, out, some ⟨w2.heap.size, 0, none⟩, 1, [r], by rw [HOL.out]; rfl, by rw [HOL.out]; exact Nat.le_refl _, Nat.le_refl _, HLO.out, Lim.cons r0 hr1 Lim.nil, HF.out.1, by rw [mv_one]; exact HF.out.2, by rw [HOL.out]; exact hn, by simp, HRW.out.alloc _, lat_one (by simp) (by go_simp)⟩
end Go.Proofs.Ytadkcipjcmkoiaa
