/- The contract of pinballref01.divMag: a dividend that is less, a divisor of one limb. -/
import Derived.Test.YtkoejgpnlncgaaaBigDn
namespace Go.Proofs.Ytkoejgpnlncgaaa
open Go Go.RowKit
set_option linter.unusedVariables false
/-- The quotient and the remainder, canonical limbs both. -/
def DivOut (q r : Nat) (w : World) (e : Ending) (w' : World) : Prop := Below w.heap.size w w' ∧ ∃ A1 c1 A2 c2, e = .returned (.tuple #[.slice A1 (canN q).length c1, .slice A2 (canN r).length c2]) ∧ (canN q).length ≤ c1 ∧ (canN r).length ≤ c2 ∧ LAt w' A1 (canN q) ∧ LAt w' A2 (canN r)
set_option maxRecDepth 100000 in
set_option maxHeartbeats 1000000 in
theorem divmag_less (A B : Option Addr) (x y c d : Nat) (w : World) (hn : (canN x).length ≤ 400000) (hn' : (canN y).length ≤ 400000) (hA : LAt w A (canN x)) (hB : LAt w B (canN y)) (hc : (canN x).length ≤ c) (hxy : x < y) :
    Calls Try.prog 93 #[.slice A (canN x).length c, .slice B (canN y).length d] w (DivOut (x / y) (x % y) w) := by
  have hcm := fun w' h h' => cmpmag_any A B x y c d w' (by omega) (by omega) h h'
  rw [cmpI_lt (show (x : Int) < (y : Int) by omega)] at hcm
  have HCM := Lib.hid hcm
  have HA := Lib.hid hA
  have HB := Lib.hid hB
  clear hcm hA hB
  rw [Nat.div_eq_of_lt hxy, Nat.mod_eq_of_lt hxy]
  go_enter Try.func93, Try.ntmps93; (try simp only [List.append_eq, List.cons_append, List.nil_append])
  go_wp2_with fail
  -- own blocks: 
  (go_at_call 106; refine (HCM.out _ HA.out HB.out).mono ?_; rintro e w1 ⟨rfl, hb_w1⟩; have hz_w1 := hb_w1.size; (try simp at hz_w1); skip)
  have HB1 := Lib.hid hb_w1
  clear hb_w1
  go_wp2_with fail
  go_ret2
  exact ⟨HB1.out, none, 0, A, c, by rw [canN_zero]; rfl, by rw [canN_zero]; exact Nat.le_refl _, hc, by rw [canN_zero]; exact LAt.nil _ _, HA.out.below HB1.out⟩
theorem one_step {a out : List Int} {j : Nat} {y r q r' z v : Int} (h : mv (a.drop (j + 1)) = mv (out.drop (j + 1)) * y + r) (hz : a[j]? = some z) (hj : j < out.length) (hv : v = r * 4294967296 + z) (hq : v = y * q + r') :
    mv (a.drop j) = mv ((out.set j q).drop j) * y + r' := by
  have h1 : (out.set j q)[j]? = some q := by simp [hj]
  rw [mv_drop_succ hz, mv_drop_succ h1, List.drop_set_of_lt (by omega), h]
  grind
set_option maxRecDepth 100000 in
set_option maxHeartbeats 1000000 in
theorem divmag_one (A B : Option Addr) (x y c d : Nat) (w : World) (hn : (canN x).length ≤ 400000) (hA : LAt w A (canN x)) (hB : LAt w B (canN y)) (hxy : y ≤ x) (hy1 : (canN y).length = 1) :
    Calls Try.prog 93 #[.slice A (canN x).length c, .slice B (canN y).length d] w (DivOut (x / y) (x % y) w) := by
  have hcm := fun w' h h' => cmpmag_any A B x y c d w' (by omega) (by omega) h h'
  obtain ⟨cm, hcc⟩ : ∃ cm, cm = cmpI x y := ⟨_, rfl⟩
  have cm0 : 0 ≤ cm := by rw [hcc]; unfold cmpI; rw [if_neg (by omega)]; split <;> omega
  rw [← hcc] at hcm
  obtain ⟨a, ha⟩ : ∃ a, a = canN x := ⟨_, rfl⟩
  have hLa : Lim a := by rw [ha]; exact canN_lim x
  have hva : mv a = x := by rw [ha]; exact mv_canN x
  obtain ⟨b, hb⟩ : ∃ b, canN y = [b] := by
    match h : canN y, hy1 with
    | [b], _ => exact ⟨b, rfl⟩
  have hyb : (y : Int) = b := by have := mv_canN y; rw [hb, mv_one] at this; omega
  have hb1 : b < 4294967296 := by have := (canN_lim y) b (by rw [hb]; simp); omega
  have hb0 : 0 < b := by
    have := canN_last y b (by rw [hb]; rfl)
    have := (canN_lim y) b (by rw [hb]; simp)
    omega
  rw [hb, ← ha] at hcm
  rw [hb] at hB
  rw [← ha] at hA hn
  rw [hb, ← ha]
  have hmk := fun w => run_make_row' (P := Try.prog) 63 87 (.int .u32 0) 4 Try.underlying63 limbInfo rfl .i64 .i64 a.length (by omega) (by omega) w
  have HCM := Lib.hid hcm
  have HA := Lib.hid hA
  have HB := Lib.hid hB
  have HVA := Lib.hid hva
  have HYB := Lib.hid hyb
  have HLA := Lib.hid hLa
  clear hcm hA hB hcc ha hva hyb hLa hb hy1
  go_enter Try.func93, Try.ntmps93; (try simp only [List.append_eq, List.cons_append, List.nil_append])
  go_wp2_with fail
  -- own blocks: 
  (go_at_call 106; refine (HCM.out _ HA.out HB.out).mono ?_; rintro e w1 ⟨rfl, hb_w1⟩; have hz_w1 := hb_w1.size; (try simp at hz_w1); skip)
  have HB1 := Lib.hid hb_w1
  clear hb_w1
  go_wp2_with fail
  clear hmk
  go_loopw [7, 8] (fun vr vi wr => ∃ (k : Nat) (r : Int) (out : List Int), k ≤ a.length ∧ vi = .int .i64 ((k : Int) - 1) ∧ vr = .int .u64 r ∧ 0 ≤ r ∧ r < b ∧ RowL wr w1.heap.size out ∧ Hid (out.length = a.length ∧ Lim out ∧ mv (a.drop k) = mv (out.drop k) * b + r) ∧ Below w1.heap.size w1 wr) (fun _ vi _ => (intOf vi + 1).toNat)
  case atStart => exact ⟨a.length, 0, List.replicate a.length 0, by omega, rfl, rfl, by omega, by omega, RowL.made w1 a.length, Lib.hid ⟨by simp, Lim.replicate _, by rw [List.drop_length, List.drop_of_length_le (by simp)]; simp [mv]⟩, (Below.refl _ _).alloc (Nat.le_refl _) _⟩
  case round =>
    obtain ⟨k, r, out, hk, rfl, rfl, r0, r1, hrow, HO, hbel⟩ := hrel
    have HBW := Lib.hid (HB1.out.trans (hbel.mono (HB1.out.size)))
    have HBE := Lib.hid hbel
    have HR := Lib.hid hrow
    have hsz := hbel.size
    have hlt := hrow.lt
    clear hbel hrow
    rcases k with _ | j
    · have hfin := HO.out.2.2
      rw [List.drop_zero, List.drop_zero, HVA.out, ← HYB.out] at hfin
      have hm0 := mv_nonneg HO.out.2.1
      have hyp : 0 < y := by have := HYB.out; omega
      obtain ⟨R, rfl⟩ := Int.eq_ofNat_of_zero_le r0
      have hQ : (mv out).toNat = x / y ∧ R = x % y := by
        obtain ⟨Q, hQ⟩ := Int.eq_ofNat_of_zero_le hm0
        rw [hQ] at hfin ⊢
        have h1 : x = y * Q + R := by
          have : (x : Int) = ((y * Q + R : Nat) : Int) := by rw [hfin, Int.natCast_add, Int.natCast_mul, Int.mul_comm]
          exact_mod_cast this
        have h2 : R < y := by have := HYB.out; omega
        rw [Int.toNat_natCast, h1]
        rw [Nat.mul_add_div hyp, Nat.div_eq_of_lt h2, Nat.mul_add_mod, Nat.mod_eq_of_lt h2]
        simp
      have hlim1 : Lim [(R : Int)] := Lim.cons (by omega) (by omega) Lim.nil
      have hmg := fun w' h => mag_any (some ⟨w1.heap.size, 0, none⟩) out a.length w' HO.out.2.1 h (by have := HO.out.1; omega) (by have := HO.out.1; omega)
      rw [HO.out.1, hQ.1] at hmg
      have hmr := fun w' B' h => mag_any (some ⟨B', 0, none⟩) [(R : Int)] 1 w' hlim1 h (by simp) (by simp)
      rw [mv_one, Int.toNat_natCast, hQ.2, ← hQ.2] at hmr
      have HMG := Lib.hid hmg
      have HRQ := Lib.hid hQ.2
      clear hmg hfin hm0
      rw [HRQ.out] at hmr
      have e1 : (R : Int) = ((x % y : Nat) : Int) := by rw [HRQ.out]
      obtain ⟨S, hS⟩ : ∃ S : Nat, S = x % y := ⟨_, rfl⟩
      rw [← hS] at hmr hQ
      obtain rfl : R = S := hQ.2
      have HSQ := Lib.hid hS.symm
      have HMR := Lib.hid hmr
      have hb2 : (R : Int) < 4294967296 := by omega
      have hlr := HR.out.lat
      have HLR := Lib.hid hlr
      clear hmr hQ e1 hlr hlim1 hS HRQ hyp
      go_wp2_with fail
      (go_at_call 90; refine (HMG.out _ HLR.out).mono ?_; rintro e w2 ⟨hb_w2, A1, c1, rfl, hc1, hA1⟩)
      have hz2 := hb_w2.size
      have HB2 := Lib.hid (HBW.out.trans (hb_w2.mono (by have := HB1.out.size; omega)))
      have HA1 := Lib.hid hA1
      have HC1 := Lib.hid hc1
      have l2 : w1.heap.size < w2.heap.size := by omega
      clear hb_w2 hA1 hc1
      go_wp2_with fail
      (go_at_call 90; refine (HMR.out _ w2.heap.size (lat_one (by simp) (by go_simp))).mono ?_; rintro e w3 ⟨hb_w3, A2, c2, rfl, hc2, hA2⟩)
      have HB3 := Lib.hid ((HB2.out.alloc (by have := HB2.out.size; omega) _).trans (hb_w3.mono (by have := HB2.out.size; simp; omega)))
      have HA1' := Lib.hid ((HA1.out.alloc (.cells #[.int .u32 (R : Int)] 87)).below hb_w3)
      have HA2 := Lib.hid hA2
      have HC2 := Lib.hid hc2
      clear hb_w3 hA2 hc2
      go_wp2_with fail
      go_ret2
      rw [HSQ.out]
      exact ⟨HB3.out, A1, c1, A2, c2, rfl, HC1.out, HC2.out, HA1'.out, HA2.out⟩
    · obtain ⟨z, hz⟩ : ∃ z, a[j]? = some z := ⟨a[j], by simp⟩
      obtain ⟨g, o, rfl, hg, hc1⟩ := HA.out.below HBW.out j z hz
      obtain ⟨g', o', rfl, hg', hc2⟩ := HB.out.below HBW.out 0 b rfl
      rw [Nat.add_zero] at hc2
      have hgb : g' < w1.heap.size := by
        obtain ⟨g2, o2, he, hg2, _⟩ := HB.out.below HB1.out 0 b rfl
        simp only [Option.some.injEq, Addr.mk.injEq] at he
        omega
      have hgn : ¬ g' = w1.heap.size := by omega
      have hgn' : ¬ w1.heap.size = g' := by omega
      obtain ⟨z0, z1⟩ := HLA.out.get hz
      have HZ := Lib.hid hz
      have hjo : j < out.length := by have := HO.out.1; omega
      have hc3 := HR.out.cell (List.getElem?_eq_getElem hjo)
      have hfz := HR.out.frozen
      have i1 : (0 : Int) ≤ (j : Int) := by omega
      have i2 : (j : Int) < (a.length : Int) := by omega
      have i3 : (a.length : Int) ≤ 400000 := by omega
      obtain ⟨v, hv⟩ : ∃ v, v = r * 4294967296 + z := ⟨_, rfl⟩
      have hsh : IntKind.u64.wrap (r * 4294967296) = r * 4294967296 := by rw [IntKind.wrap_u64]; omega
      have hor : bits .or .u64 (r * 4294967296) z = v := by
        rw [hv]
        exact bits_join .u64 64 (by decide) wraps_u64' 32 (r * 4294967296) z (by omega) (Int.mul_emod_left _ _) (by omega) z0 (by omega) (by omega)
      have v0 : 0 ≤ v := by omega
      have v1 : v < 18446744073709551616 := by omega
      obtain ⟨q, hq⟩ : ∃ q, q = v / b := ⟨_, rfl⟩
      obtain ⟨s, hs⟩ : ∃ s, s = v % b := ⟨_, rfl⟩
      have q0 : 0 ≤ q := by rw [hq]; exact Int.ediv_nonneg v0 (by omega)
      have q1 : q < 4294967296 := by
        rw [hq]
        refine Int.ediv_lt_of_lt_mul (by omega) ?_
        have : (r + 1) * 4294967296 ≤ b * 4294967296 := Int.mul_le_mul_of_nonneg_right (by omega) (by omega)
        rw [hv]; omega
      have s0 : 0 ≤ s := by rw [hs]; exact Int.emod_nonneg _ (by omega)
      have s1 : s < b := by rw [hs]; exact Int.emod_lt_of_pos _ hb0
      have hqs : v = b * q + s := by rw [hq, hs]; exact (Int.mul_ediv_add_emod _ _).symm
      have HST := Lib.hid (one_step (q := q) (r' := s) HO.out.2.2 HZ.out hjo hv hqs)
      have e1 : v.tdiv b = q := by rw [hq]; exact Int.tdiv_eq_ediv_of_nonneg v0
      have e2 : v.tmod b = s := by rw [hs]; exact Int.tmod_eq_emod_of_nonneg v0
      have e3 : IntKind.u64.wrap (v.tdiv b) = q := by rw [e1]; exact wraps_u64' q q0 (by omega)
      have n0 : (b == 0) = false := by rw [beq_eq_false_iff_ne]; omega
      have n1 : ¬ b = 0 := by omega
      have HV := Lib.hid hv
      have hq' := hq.symm
      have hs' := hs.symm
      clear hv hq hs hqs hz
      go_wp2_with fail
      go_roundw
      case rel => exact ⟨j, s, out.set j q, by omega, rfl, rfl, s0, s1, HR.out.set _ _, Lib.hid ⟨by rw [List.length_set]; exact HO.out.1, HO.out.2.1.set _ q0 q1, HST.out⟩, HBE.out.setCell (Nat.le_refl _) _⟩
      case measure => simp [intOf]
end Go.Proofs.Ytkoejgpnlncgaaa
