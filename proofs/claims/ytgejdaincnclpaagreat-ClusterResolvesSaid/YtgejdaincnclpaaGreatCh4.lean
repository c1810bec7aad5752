/- Merged texts: Wk BigQ Wm DrawTwo Wg Rcm RsB DrawR (what no proof of the claim needs is left out). -/
import Derived.Test.YtgejdaincnclpaaGreatCh3
import Derived.RegionTactic
import Derived.ChangeAlike
import Derived.Lib.Hide
import Derived.BigCall
namespace Go.Proofs.YtgejdaincnclpaaGreat
open Go Go.RowKit
set_option linter.unusedVariables false
theorem norm_lz {t : Int} (t0 : 0 < t) (t1 : t < 4294967296) : ∃ S : Nat, S ≤ 31 ∧ 2147483648 ≤ t * 2 ^ S ∧ t * 2 ^ S < 4294967296 ∧ 32 - (Lib.bitLen t.toNat : Int) = (S : Int) := by
 obtain ⟨T, rfl⟩ := Int.eq_ofNat_of_zero_le (Int.le_of_lt t0)
 rw [Int.toNat_natCast]
 obtain ⟨a, b, c⟩ := Lib.bitLenAux_bounds 64 T (by omega) (by omega)
 have hL : Lib.bitLen T = Lib.bitLenAux 64 T := rfl
 rw [← hL] at a b c
 obtain ⟨L, hLL⟩ : ∃ L, L = Lib.bitLen T := ⟨_, rfl⟩
 rw [← hLL] at a b c ⊢
 have hL32 : L ≤ 32 := by
  rcases Nat.lt_or_ge 32 L with h | h
  · exfalso
    have h1 : 2 ^ 32 ≤ 2 ^ (L - 1) := Nat.pow_le_pow_right (by decide) (by omega)
    have h2 : (2 : Nat) ^ 32 = 4294967296 := by decide
    omega
  · exact h
 refine ⟨32 - L, by omega, ?_, ?_, by omega⟩
 · have h1 : 2 ^ (L - 1) * 2 ^ (32 - L) = 2 ^ 31 := by rw [← Nat.pow_add]; congr 1; omega
   have h2 : 2 ^ (L - 1) * 2 ^ (32 - L) ≤ T * 2 ^ (32 - L) := Nat.mul_le_mul_right _ b
   have h3 : (2 : Nat) ^ 31 = 2147483648 := by decide
   have h4 : ((T * 2 ^ (32 - L) : Nat) : Int) = (T : Int) * 2 ^ (32 - L) := by rw [Int.natCast_mul, Int.natCast_pow]; rfl
   rw [← h4]; omega
 · have h1 : 2 ^ L * 2 ^ (32 - L) = 2 ^ 32 := by rw [← Nat.pow_add]; congr 1; omega
   have h2 : T * 2 ^ (32 - L) < 2 ^ L * 2 ^ (32 - L) := Nat.mul_lt_mul_of_pos_right c (Nat.two_pow_pos _)
   have h3 : (2 : Nat) ^ 32 = 4294967296 := by decide
   have h4 : ((T * 2 ^ (32 - L) : Nat) : Int) = (T : Int) * 2 ^ (32 - L) := by rw [Int.natCast_mul, Int.natCast_pow]; rfl
   rw [← h4]; omega
theorem RowL.cl (g : Nat) (l : List Int) : Cl (fun w => RowL w g l) := fun _ _ h hb => h.below hb
theorem RowL.buf {w : World} {g : Nat} {l : List Int} (h : RowL w g l) : Buf w g l := ⟨h.lt, fun k x hx => h.cell hx, h.frozen⟩
theorem rem_digit {x y P : Int} {k : Nat} (hk : k ≤ 31) (hk0 : 0 < k) (hP : P = 2 ^ k) (x0 : 0 ≤ x) (x1 : x < 4294967296) (y0 : 0 ≤ y) (y1 : y < 4294967296) :
  bits .or .u32 (x / P) (y * 2 ^ (32 - k) % 4294967296) = (x + 4294967296 * y) / P % 4294967296 ∧ 0 ≤ x / P ∧ x / P < 4294967296 := by
 obtain ⟨p0, p1⟩ := pow2_bd hk
 rw [← hP] at p0 p1
 obtain ⟨Q, hQ⟩ : ∃ Q : Int, Q = 2 ^ (32 - k) := ⟨_, rfl⟩
 have hPQ : 4294967296 = P * Q := by
  rw [hP, hQ, ← Int.pow_add, show k + (32 - k) = 32 by omega]; rfl
 have Q0 : 0 < Q := by rw [hQ]; exact Int.pow_pos (by decide)
 have e1 : y * Q % 4294967296 = Q * (y % P) := by
  rw [hPQ, Int.mul_comm y Q, Int.mul_comm P Q]
  exact Int.mul_emod_mul_of_pos _ _ Q0
 have r0 := Int.emod_nonneg y (show P ≠ 0 by omega)
 have r1 := Int.emod_lt_of_pos y (show 0 < P by omega)
 have d0 : 0 ≤ x / P := Int.ediv_nonneg x0 (by omega)
 have d1 : x / P < Q := Int.ediv_lt_of_lt_mul (by omega) (by rw [Int.mul_comm, ← hPQ]; exact x1)
 have m1 : Q * (y % P) ≤ Q * (P - 1) := Int.mul_le_mul_of_nonneg_left (by omega) (by omega)
 have m0 : 0 ≤ Q * (y % P) := Int.mul_nonneg (by omega) r0
 have m2 : Q * (P - 1) = 4294967296 - Q := by rw [hPQ]; grind
 have e2 : (x + 4294967296 * y) / P = x / P + Q * y := by
  rw [hPQ, Int.mul_assoc, Int.add_mul_ediv_left _ _ (by omega)]
 have e3 : (x / P + Q * y) % 4294967296 = x / P + Q * (y % P) := by
  have h1 : Q * y = Q * (y % P) + 4294967296 * (y / P) := by
   have h2 : y = P * (y / P) + y % P := (Int.mul_ediv_add_emod _ _).symm
   conv => lhs; rw [h2]
   rw [hPQ]; grind
  rw [h1, ← Int.add_assoc, Int.add_mul_emod_self_left]
  omega
 refine ⟨?_, d0, by omega⟩
 rw [← hQ, e1, e2, e3]
 refine bits_join_low .u32 32 (by decide) wraps_u32' (32 - k) _ _ d0 (by rw [← hQ]; exact d1) (by omega) m0 ?_ (by omega)
 rw [← hQ]
 exact Int.mul_emod_right _ _
set_option maxRecDepth 100000 in
set_option maxHeartbeats 20000000 in
theorem wquol_knuth (A B : Option Addr) (x y c d m : Nat) (w : World) (hn : (canN x).length ≤ 200000) (hA : LAt w A (canN x)) (hB : LAt w B (canN y)) (hxy : y ≤ x) (hy2 : (canN y).length = m + 2) :
  Calls Tryz.prog 95 #[.slice A (canN x).length c, .slice B (canN y).length d] w (WDivOut 400000 400000 ((x / y : Nat) : Int) ((x % y : Nat) : Int) w) := by
 have hcm := fun w' h h' => wcmpl_any A B x y c d w' (by omega) (by have := canN_mono hxy; omega) h h'
 obtain ⟨cm, hcc⟩ : ∃ cm, cm = cmpI x y := ⟨_, rfl⟩
 have cm0 : 0 ≤ cm := by rw [hcc]; unfold cmpI; rw [if_neg (by omega)]; split <;> omega
 rw [← hcc] at hcm
 have hlen : m + 2 ≤ (canN x).length := by have := canN_mono hxy; omega
 obtain ⟨t, ht⟩ : ∃ t, (canN y)[m + 1]? = some t := ⟨(canN y)[m + 1]'(by omega), by simp⟩
 obtain ⟨tl0, tl1⟩ := (canN_lim y).get ht
 have tne : t ≠ 0 := canN_last y t (by rw [List.getLast?_eq_getElem?, hy2]; exact ht)
 obtain ⟨S, S31, hS1, hS2, hS3⟩ := norm_lz (t := t) (by omega) tl1
 have hlz := fun w => Tryz.bits_LeadingZeros32 t w tl0 (by omega)
 rw [hS3] at hlz
 obtain ⟨V, hV, hVl, hVt, hVp⟩ := div_v hy2 ht hS1 hS2
 obtain ⟨X, hX, _, _, hXb, hX1, hX2⟩ := div_u (x := x) (y := y) rfl S31 hlen hVp
 have hsa := fun w' (h : LAt w' A (canN x)) => wshifted_any A (canN x) c S w' (canN_lim x) (by omega) S31 h
 have hsb := fun w' (h : LAt w' B (canN y)) => wshifted_any B (canN y) d S w' (canN_lim y) (by have := canN_mono hxy; omega) S31 h
 rw [mv_canN, ← hX] at hsa
 rw [mv_canN, ← hV] at hsb
 have HVX := hQ0 (And.intro hV hX)
 have HVT := hQ0 hVt
 have HVP := hQ0 hVp
 have HVL := hQ0 hVl
 have HXB := hQ0 hXb
 have HT := hQ0 ht
 obtain ⟨la, hla⟩ : ∃ la, la = (canN x).length := ⟨_, rfl⟩
 obtain ⟨n, hnn⟩ : ∃ n, n = (canN y).length := ⟨_, rfl⟩
 rw [← hla] at hsa hcm hn hlen hXb hX1 hX2 HXB ⊢
 rw [← hnn] at hsb hcm hy2 ⊢
 have HSB := hQ0 hsb
 have HSA := hQ0 hsa
 have HCM := hQ0 hcm
 have HLZ := hQ0 hlz
 have HA := hQ0 hA
 have HB := hQ0 hB
 have HNM := hQ0 hy2
 have HLA := hQ0 hla
 have HLN := hQ0 hnn
 have n2 : 2 ≤ n := by omega
 have nla : n ≤ la := by omega
 clear hcm hA hB hcc hV hX hVt hVp hVl hXb hS3 ht hsa hsb hla hnn hy2 hlen hlz
 go_enter Tryz.func95, Tryz.ntmps95; (try simp only [List.append_eq, List.cons_append, List.nil_append])
 go_wp2_with fail
 (go_at_call 111; refine (HCM.out _ HA.out HB.out).mono ?_; rintro e w1 ⟨rfl, hb_w1⟩; have hz_w1 := hb_w1.size; (try simp at hz_w1); skip)
 have HB1 := hQ0 hb_w1
 have HA1 := hQ0 (HA.out.below hb_w1)
 have HBB1 := hQ0 (HB.out.below hb_w1)
 clear hb_w1
 have nn1 : ((n : Int) == 1) = false := by rw [beq_eq_false_iff_ne]; omega
 obtain ⟨gb, ob, rfl, hgb, hcell⟩ := HBB1.out (m + 1) t HT.out
 have hidx : (n : Int) - 1 = ((m + 1 : Nat) : Int) := by have := HNM.out; omega
 have i1 : (0 : Int) ≤ (n : Int) - 1 := by omega
 have i2 : (n : Int) - 1 < (n : Int) := by omega
 go_wp2_with fail
 (go_at_call 118; refine (HLZ.out _).mono ?_; rintro e w3 ⟨rfl, rfl⟩)
 clear hcell hidx
 have s0 : (0 : Int) ≤ (S : Int) := by omega
 have s1 : (S : Int) ≤ 31 := by omega
 go_wp2_with fail
 have hcn : (n : Int) ≤ (n + 1 : Nat) := by omega
 have hcn2 : (n : Int) ≤ (n : Int) + 1 := by omega
 have hcn3 : (0 : Int) ≤ (n : Int) := by omega
 (refine pin_wp (N := _) (Nat.le_refl _) (fun w4 hb_w4 hz_w4 => ?_); (try simp at hz_w4); skip); refine wp_region_float w4.heap.size 11 (Nat.le_refl _) (fun _ => True) trivial Cl.tt (by kernel_rfl) (by simp) ?_
 have HA4 := hQ0 (HA1.out.below hb_w4)
 have HBB4 := hQ0 (HBB1.out.below hb_w4)
 have HB4 := hQ0 (HB1.out.trans (hb_w4.mono HB1.out.size))
 clear hb_w4
 refine wpI_start [0, 1] ?_; (iterate 2 (first | (apply wpI_step rfl (by kernel_rfl) rfl; (focus (intro W' hS; have hcS := hS.cells; go_simp; (iterate 2 (first | done | exact rfl | exact bB _ | go_simp)))); intro K hK; go_simp; (try go_bits); refine hK _ ?_; clear hK K))); refine wpI_nil ?_
 refine wpI_start [3, 4] ?_; (iterate 2 (first | (apply wpI_step rfl (by kernel_rfl) rfl; (focus (intro W' hS; have hcS := hS.cells; go_simp; (iterate 2 (first | done | exact rfl | exact bB _ | go_simp)))); intro K hK; go_simp; (try go_bits); refine hK _ ?_; clear hK K))); refine wpI_nil ?_
 refine wpI_start [6, 7] ?_; (iterate 2 (first | (apply wpI_step rfl (by kernel_rfl) rfl; (focus (intro W' hS; have hcS := hS.cells; go_simp; (iterate 2 (first | done | exact rfl | exact bB _ | go_simp)))); intro K hK; go_simp; (try go_bits); refine hK _ ?_; clear hK K))); refine wpI_nil ?_
 apply wpF_call (i := 2) rfl (by kernel_rfl) (by kernel_rfl); intro W hF hS; have hcS := hS.1.cells; go_simp
 (go_at_call 119; refine (HSA.out W (HA4.out.own hS.1 (Nat.le_refl _))).mono ?_; rintro e w5 ⟨UL, rfl, hul1, hul2, hul3, hul4, hb_w5⟩)
 obtain ⟨gu, hgu⟩ : ∃ g, g = W.heap.size := ⟨_, rfl⟩
 have HGU := hQ0 (show w4.heap.size ≤ gu by rw [hgu]; exact hS.1.1)
 rw [← hgu] at hul4 ⊢
 refine XPost.mk _ (fun W' => RowL W' gu UL) hb_w5 hul4 (RowL.cl _ _) ?_
 have HUL := hQ0 (And.intro hul1 (And.intro hul2 hul3))
 clear hul1 hul2 hul3 hul4 hgu hb_w5 hcS hS hF W
 intro K hK; go_simp; refine hK _ ?_; clear hK K
 apply wpF_call (i := 5) rfl (by kernel_rfl) (by kernel_rfl); intro W hF hS; have hcS := hS.1.cells; go_simp
 (go_at_call 119; refine (HSB.out W (HBB4.out.own hS.1 (Nat.le_refl _))).mono ?_; rintro e w6 ⟨VL, rfl, hvl1, hvl2, hvl3, hvl4, hb_w6⟩)
 obtain ⟨gv, hgv⟩ : ∃ g, g = W.heap.size := ⟨_, rfl⟩
 have HGV := hQ0 (show gu < gv by rw [hgv]; exact hF.lt)
 rw [← hgv] at hvl4 ⊢
 refine XPost.mk _ (fun W' => RowL W' gv VL) hb_w6 hvl4 (RowL.cl _ _) ?_
 have HVLL := hQ0 (And.intro hvl1 (And.intro hvl2 hvl3))
 clear hvl1 hvl2 hvl3 hvl4 hgv hb_w6 hcS hS hF W
 intro K hK; go_simp; refine hK _ ?_; clear hK K
 refine wpI_start [8, 9, 10] ?_; (iterate 3 (first | (apply wpI_step rfl (by kernel_rfl) rfl; (focus (intro W' hS; have hcS := hS.cells; go_simp; (iterate 2 (first | done | exact rfl | exact bB _ | go_simp)))); intro K hK; go_simp; (try go_bits); refine hK _ ?_; clear hK K))); refine wpI_nil ?_
 refine wpF_done (by kernel_rfl) ?_
 intro w7 hF_w7 hSG
 have hz_w7 := hSG.1.1
 have hb_w7 := hSG.1.2
 clear hSG
 skip
 (try simp only [List.drop_succ_cons, List.drop_zero])
 have HB7 := hQ0 (HB4.out.trans (hb_w7.mono HB4.out.size))
 have HB47 := hQ0 hb_w7
 have HU7 := hQ0 hF_w7.1.buf
 have HV7 := hQ0 (show Buf w7 gv (canN V) by
  have h := hF_w7.2.buf.take (canN V).length
  have e := canN_take_any HVLL.out.2.1
  rw [HVLL.out.2.2, Int.toNat_natCast] at e
  rwa [e] at h)
 have hgvl := hF_w7.2.lt
 clear hb_w7 hF_w7
 have hmk := fun w => run_make_row' (P := Tryz.prog) 42 107 (.int .u32 0) 4 Tryz.underlying42 limbInfo rfl .i64 .i64 (la + 1 - n) (by omega) (by omega) w
 have hmn : ((la + 1 - n : Nat) : Int) = (la : Int) - (n : Int) + 1 := by omega
 rw [hmn] at hmk
 have hla0 : (la : Int) ≤ 200000 := by omega
 go_wp2_with fail
 clear hmk hmn
 obtain ⟨top, htop⟩ : ∃ top, (canN V)[m + 1]? = some top := ⟨(canN V)[m + 1]'(by have := HVL.out; omega), by simp⟩
 obtain ⟨next, hnext⟩ : ∃ next, (canN V)[m]? = some next := ⟨(canN V)[m]'(by have := HVL.out; omega), by simp⟩
 have t0 := HVT.out _ htop
 obtain ⟨_, t1⟩ := (canN_lim V).get htop
 obtain ⟨f0, f1⟩ := (canN_lim V).get hnext
 have HTN := hQ0 (And.intro htop hnext)
 have HU8 := hQ0 (HU7.out.below ((Below.refl w7.heap.size w7).alloc (Nat.le_refl _) (.cells (madeCells #[.int .u32 0] (la + 1 - n)) 107)))
 have HV8 := hQ0 (HV7.out.below ((Below.refl w7.heap.size w7).alloc (Nat.le_refl _) (.cells (madeCells #[.int .u32 0] (la + 1 - n)) 107)))
 have HB8 := hQ0 (HB47.out.alloc HB47.out.size (.cells (madeCells #[.int .u32 0] (la + 1 - n)) 107))
 have HQ8 := hQ0 (RowL.made w7 (la + 1 - n))
 have hz7 := HB47.out.size
 clear htop hnext
 (refine pin_wp (N := _) (Nat.le_refl _) (fun w8 hb_w8 hz_w8 => ?_); (try simp at hz_w8); skip)
 have HU9 := hQ0 (HU8.out.below hb_w8)
 have HV9 := hQ0 (HV8.out.below hb_w8)
 have HB9 := hQ0 (HB8.out.trans (hb_w8.mono (by simp; omega)))
 have HQ9 := hQ0 (HQ8.out.below hb_w8)
 clear hb_w8
 have cv1 := HV9.out.2.1 _ _ HTN.out.1
 have cv2 := HV9.out.2.1 _ _ HTN.out.2
 have cvl := HV9.out.1
 have hNM := HNM.out
 have x3 : (n : Int) - 1 = ((m + 1 : Nat) : Int) := by omega
 have x4 : (n : Int) - 2 = ((m : Nat) : Int) := by omega
 have y9 : (0 : Int) ≤ (n : Int) - 2 := by omega
 have y10 : (n : Int) - 2 < (n : Int) := by omega
 have z3 : ((m + 1 : Nat) : Int) < (n : Int) := by omega
 have z4 : ((m : Nat) : Int) < (n : Int) := by omega
 have z7 : (m : Int) + 1 < (n : Int) := by omega
 clear hNM
 refine wp_region_warm (Own w8.heap.size w8) (by kernel_rfl) (by kernel_rfl) (Own.refl (Nat.le_refl _)).drew ?_
 repeat (first | (refine wpWarm_step_off rfl (fun K hK => ?_); (go_simp; refine hK _ ?_; clear hK K)) | (apply wpWarm_step rfl; (focus (intro W' hS; have hcS := hS.cells; go_simp; (first | done | exact rfl | exact ⟨rfl, hS⟩ | (go_simp; exact rfl)))); (intro K hK; go_simp; (try go_bits); refine hK _ ?_; clear hK K)) | (apply wpWarm_step_on rfl; (focus (intro W' hS; have hcS := hS.cells; go_simp; (first | done | exact rfl | exact ⟨rfl, hS⟩ | (go_simp; exact rfl)))); (intro K hK; go_simp; (try go_bits); refine hK _ ?_; clear hK K)))
 refine wpWarm_nil ?_
 intro w9 hO9
 have HU := hQ0 (HU9.out.below hO9.2)
 have HV := hQ0 (HV9.out.below hO9.2)
 have HB49 := hQ0 (HB9.out.trans (hO9.2.mono HB9.out.size))
 have HQ := hQ0 (HQ9.out.below hO9.2)
 have hguq : gu < w7.heap.size := HU7.out.1
 have hgvq : gv < w7.heap.size := HV7.out.1
 have hguv : gu < gv := HGV.out
 clear hO9 cv1 cv2 cvl x3 x4 y9 y10 z3 z4 z7 hz_w8 hgvl i1 i2
 go_wp2_with fail
 go_loopg [15] (la + 1 - n) (fun gk vj wr => ∃ (k : Nat) (ul ql : List Int), k = gk ∧ k ≤ la + 1 - n ∧ vj = .int .i64 ((k : Int) - 1) ∧ Buf wr gu ul ∧ Buf wr gv (canN V) ∧ RowL wr w7.heap.size ql ∧ Hid (ul.length = la + 1 ∧ ql.length = la + 1 - n ∧ Lim ul ∧ Lim ql ∧ mv ul < PB k * V ∧ (X : Int) = mv ul + mv ql * V ∧ ∀ i, i < k → ql[i]? = some 0) ∧ Below w4.heap.size w4 wr)
 case atStart => exact ⟨la + 1 - n, UL, List.replicate (la + 1 - n) 0, rfl, Nat.le_refl _, by go_num, HU.out, HV.out, HQ.out, hQ0 ⟨HUL.out.1, by simp, HUL.out.2.1, Lim.replicate _, by rw [HUL.out.2.2, HNM.out]; exact HXB.out, by rw [HUL.out.2.2, mv_replicate]; simp, fun i hi => by simp [hi]⟩, HB49.out⟩
 case round =>
  obtain ⟨k, ul, ql, hgk, hk, rfl, hbuf, hbv, hrow, HO, hbel⟩ := hrel
  subst hgk
  obtain ⟨wo, rfl⟩ : ∃ wo : World, wo = wr := ⟨_, rfl⟩
  rcases k with _ | j
  · as_aux_lemma =>
    rw [show (((0 : Nat) : Int) - 1) = -1 by omega]
    have y0 : 0 < y := by
     rcases Nat.eq_zero_or_pos y with h | h
     · exfalso
       have h1 := HLN.out
       rw [h, canN_zero] at h1
       simp at h1
       omega
     · exact h
    obtain ⟨hf1, hf2⟩ := quot_end HO.out.2.2.1 HO.out.2.2.2.1 HO.out.2.2.2.2.2.1 HO.out.2.2.2.2.1 HVX.out.2 HVX.out.1 y0
    have HQF := hQ0 (show mv ql = ((x / y : Nat) : Int) by have := mv_nonneg HO.out.2.2.2.1; omega)
    obtain ⟨P, hP⟩ : ∃ P : Int, P = 2 ^ S := ⟨_, rfl⟩
    rw [← hP] at hf2
    obtain ⟨p0, p1⟩ := pow2_bd S31
    rw [← hP] at p0 p1
    have HTOP := hQ0 (show mv (ul.drop n) = 0 by
     have h1 := HO.out.2.2.2.2.1
     rw [PB_zero, Int.one_mul] at h1
     have h2 := mv_lt (canN_lim V)
     rw [mv_canN, HVL.out, ← HNM.out] at h2
     have h3 := mv_split ul n (by have := HO.out.1; omega)
     have h4 := mv_nonneg (HO.out.2.2.1.take n)
     have h5 := mv_nonneg (HO.out.2.2.1.drop n)
     rcases Int.lt_or_le 0 (mv (ul.drop n)) with g | g
     · exfalso
       have h6 := Int.mul_le_mul_of_nonneg_left (show 1 ≤ mv (ul.drop n) by omega) (Int.le_of_lt (PB_pos n))
       omega
     · omega)
    have HP := hQ0 hP
    have HF2 := hQ0 hf2
    have HBW := hQ0 (HB4.out.trans (hbel.mono HB4.out.size))
    have HBUF := hQ0 hbuf
    have HRW := hQ0 hrow
    have hmk := fun w => run_make_row' (P := Tryz.prog) 42 107 (.int .u32 0) 4 Tryz.underlying42 limbInfo rfl .i64 .i64 n (by omega) (by omega) w
    clear hf1 hf2 hbuf hbv hrow hbel y0 hP
    go_wp2_with fail
    clear hmk
    go_loopw [28] (fun vi wb => ∃ (i : Nat) (R : List Int), i ≤ n ∧ vi = .int .i64 i ∧ RowL wb wo.heap.size R ∧ Hid (R.length = n ∧ Lim R ∧ mv (R.take i) + PB i * (mv (ul.drop i) / P) = mv ul / P) ∧ Below wo.heap.size wo wb) (fun vi _ => (n - (intOf vi).toNat))
    case atStart => exact ⟨0, List.replicate n 0, by omega, rfl, RowL.made wo n, hQ0 ⟨by simp, Lim.replicate n, by simp [mv, PB_zero]⟩, (Below.refl _ _).alloc (Nat.le_refl _) _⟩
    case round =>
     obtain ⟨i, R, hi, rfl, hrow, HR, hbel⟩ := hrel
     have HBE := hQ0 hbel
     have HRR := hQ0 hrow
     have hsz := hbel.size
     have hlt := hrow.lt
     have hfz := hrow.frozen
     have q0 : (0 : Int) ≤ (i : Int) := by omega
     have q1 : (i : Int) ≤ 200000 := by omega
     clear hbel
     by_cases hin : i < n
     · as_aux_lemma =>
       obtain ⟨x1, hx⟩ : ∃ x1, ul[i]? = some x1 := ⟨ul[i]'(by have := HO.out.1; omega), by simp⟩
       obtain ⟨y1, hy⟩ : ∃ y1, ul[i + 1]? = some y1 := ⟨ul[i + 1]'(by have := HO.out.1; omega), by simp⟩
       obtain ⟨x0, x2⟩ := HO.out.2.2.1.get hx
       obtain ⟨y0, y2⟩ := HO.out.2.2.1.get hy
       have hb2 := HBUF.out.below HBE.out
       have cx := hb2.2.1 _ _ hx
       have HKL := hQ0 (show i < R.length by have := HR.out.1; omega)
       obtain ⟨z, hz⟩ : ∃ z, R[i]? = some z := ⟨R[i]'HKL.out, by simp⟩
       have cz := hrow.cell hz
       have hgo := HBUF.out.1
       have hne : ¬ wo.heap.size = gu := by omega
       have hne' : ¬ gu = wo.heap.size := by omega
       have j1 : (i : Int) < (n : Int) := by omega
       have j2 : (i : Int) < (la : Int) + 1 := by omega
       have j3 : (i : Int) + 1 < (la : Int) + 1 := by omega
       have j4 : (0 : Int) ≤ (i : Int) + 1 := by omega
       have hmin : min S 32 = S := by omega
       have hpk := HP.out.symm
       have d0 : 0 ≤ x1 / P := Int.ediv_nonneg x0 (by omega)
       have d1 : x1 / P ≤ x1 := Int.ediv_le_self _ x0
       have HST := hQ0 (down_step S31 HP.out HO.out.2.2.1 (show (R.take i).length = i by rw [List.length_take]; have := HKL.out; omega) HR.out.2.2 hx (getD_some hy))
       have HX := hQ0 hx
       have HY := hQ0 hy
       have HZ := hQ0 hz
       clear hx hy hz hrow
       by_cases hs0 : S = 0
       · have hP1 : P = 1 := by rw [HP.out, hs0]; rfl
         have HD := hQ0 (show (x1 + 4294967296 * y1) / P % 4294967296 = x1 by rw [hP1, Int.ediv_one]; omega)
         have e0 : ¬ (0 : Int) < (S : Int) := by omega
         clear hP1 hb2
         go_wp2_with fail
         go_roundw
         case rel => exact ⟨i + 1, R.set i x1, by omega, by go_num, HRR.out.set _ _, hQ0 ⟨by rw [List.length_set]; exact HR.out.1, HR.out.2.1.set _ x0 x2, by rw [take_set_succ _ HKL.out, ← HD.out]; exact HST.out⟩, HBE.out.setCell (Nat.le_refl _) _⟩
         case measure => simp [intOf]; omega
       · have e0 : (0 : Int) < (S : Int) := by omega
         obtain ⟨k1, k2, k3⟩ := rem_digit S31 (by omega) HP.out x0 x2 y0 y2
         obtain ⟨D, hD⟩ : ∃ D, D = (x1 + 4294967296 * y1) / P % 4294967296 := ⟨_, rfl⟩
         have D0 : 0 ≤ D := by omega
         have D1 : D < 4294967296 := by omega
         obtain ⟨T, hT⟩ : ∃ T : Nat, T = 32 - S := ⟨_, rfl⟩
         have hT1 : (32 : Int) - (S : Int) = (T : Int) := by omega
         have hT2 : min T 32 = T := by omega
         have hT3 : (0 : Int) ≤ (T : Int) := by omega
         have hT4 : (T : Int) ≤ 32 := by omega
         rw [← hD] at k1 HST
         rw [← hT] at k1
         clear hD hT hb2
         go_wp2_with fail
         refine pin_wp (N := _) (Nat.le_refl _) (fun w10 hb_w10 hz_w10 => ?_)
         have HB10 := hQ0 ((HBE.out.setCell (p := ⟨wo.heap.size, i, none⟩) (Nat.le_refl _) (.int .u32 (x1 / P))).trans (hb_w10.mono (by simp [World.setCell]; omega)))
         have HR10 := hQ0 ((HRR.out.set i (x1 / P)).below hb_w10)
         have HU10 := hQ0 (HBUF.out.below HB10.out)
         have c1 := HR10.out.cell (show (R.set i (x1 / P))[i]? = some (x1 / P) by simp [HKL.out])
         have c2 := HU10.out.2.1 _ _ HY.out
         have l1 := HR10.out.lt
         have l2 := HU10.out.1
         clear cx cz hfz hb_w10 hz_w10
         refine wp_region_warm_tail (Own w10.heap.size w10) 14 (by kernel_rfl) (by kernel_rfl) (Own.refl (Nat.le_refl _)).drew ?_
         simp only [List.take_succ_cons, List.take_zero, List.drop_succ_cons, List.drop_zero]
         repeat (first | (refine wpWarm_step_off rfl (fun K hK => ?_); (go_simp; refine hK _ ?_; clear hK K)) | (apply wpWarm_step rfl; (focus (intro W' hS; have hcS := hS.cells; go_simp; (first | done | exact rfl | exact ⟨rfl, hS⟩ | (go_simp; exact rfl)))); (intro K hK; go_simp; (try go_bits); refine hK _ ?_; clear hK K)) | (apply wpWarm_step_on rfl; (focus (intro W' hS; have hcS := hS.cells; go_simp; (first | done | exact rfl | exact ⟨rfl, hS⟩ | (go_simp; exact rfl)))); (intro K hK; go_simp; (try go_bits); refine hK _ ?_; clear hK K)))
         refine wpWarm_nil ?_
         intro w11 hO11
         have HR11 := hQ0 (HR10.out.below hO11.2)
         have c3 := HR11.out.cell (show (R.set i (x1 / P))[i]? = some (x1 / P) by simp [HKL.out])
         have f3 := HR11.out.frozen
         have l3 := HR11.out.lt
         have HB11 := hQ0 (HB10.out.trans (hO11.2.mono (by have := HB10.out.size; omega)))
         clear hO11 c1 c2
         go_wp2_with fail
         clear hT1 hT2 hmin hpk c3
         go_roundw
         case rel => exact ⟨i + 1, R.set i D, by omega, by go_num, by have h := HR11.out.set i D; rwa [List.set_set] at h, hQ0 ⟨by rw [List.length_set]; exact HR.out.1, HR.out.2.1.set _ D0 D1, by rw [take_set_succ _ HKL.out]; exact HST.out⟩, HB11.out.setCell (Nat.le_refl _) _⟩
         case measure => simp [intOf]; omega
     · as_aux_lemma =>
       obtain rfl : i = n := by omega
       have HF := hQ0 (show mv R = ((x % y : Nat) : Int) by
        have h := HR.out.2.2
        rw [HTOP.out, HF2.out, List.take_of_length_le (by have := HR.out.1; omega)] at h
        rw [Int.zero_ediv, Int.mul_zero, Int.add_zero] at h
        exact h)
       have j5 : ¬ (i : Int) < (i : Int) := by omega
       clear hrow
       go_wp2_with fail
       go_ret2
       have hl1 := HO.out.2.1
       have hl2 := HR.out.1
       exact ⟨HBW.out.trans (HBE.out.mono HBW.out.size), some ⟨w7.heap.size, 0, none⟩, la + 1 - i, ql, some ⟨wo.heap.size, 0, none⟩, i, R, by rw [hl1, hl2]; rfl, by omega, by omega, HO.out.2.2.2.1, HR.out.2.1, HQF.out, HF.out, by omega, by omega, HRW.out.lat.below HBE.out, HRR.out.lat⟩
  · as_aux_lemma =>
    have hNM := HNM.out
    rw [show (((j + 1 : Nat) : Int) - 1) = (j : Int) by omega]
    obtain ⟨u0, u1, u2, top', next', p, lo, wl, wu, e0, e1, e2, e3, e4, a0, a1, b0, b1, d0, d1, f0', f1', t0', t1', p0, wl0, wl1, wu0, wu1, hVe, hUe, hUB, hlo, lo0, lo1, hup⟩ := round_facts (j := j) (m := m) HO.out.2.2.1 (canN_lim V) HVL.out (mv_canN V) HVT.out (by have := HO.out.1; omega) HO.out.2.2.2.2.1
    obtain rfl : top' = top := Option.some.inj (e4.symm.trans HTN.out.1)
    obtain rfl : next' = next := Option.some.inj (e3.symm.trans HTN.out.2)
    have ht2 := lead_le p0 wl1 f1 wu0 a0 b0 hUB
    have c0 := hbuf.2.1 _ _ e0
    have c1 := hbuf.2.1 _ _ e1
    have c2 := hbuf.2.1 _ _ e2
    have cf := hbuf.2.2
    have c5 := hbuf.1
    have x1 : (j : Int) + (n : Int) - 1 = ((j + m + 1 : Nat) : Int) := by omega
    have x2 : (j : Int) + (n : Int) - 2 = ((j + m : Nat) : Int) := by omega
    have hjn : j + m + 2 = j + n := by omega
    rw [hjn] at c2 e2
    have y1 : (0 : Int) ≤ (j : Int) + (n : Int) := by omega
    have y2 : (j : Int) + (n : Int) < (la : Int) + 1 := by omega
    have y3 : (0 : Int) ≤ (j : Int) + (n : Int) - 1 := by omega
    have y4 : (j : Int) + (n : Int) - 1 < (la : Int) + 1 := by omega
    have y5 : (0 : Int) ≤ (j : Int) + (n : Int) - 2 := by omega
    have y6 : (j : Int) + (n : Int) - 2 < (la : Int) + 1 := by omega
    have y11 : (0 : Int) ≤ (j : Int) := by omega
    have z1 : ((j + m + 1 : Nat) : Int) < (la : Int) + 1 := by omega
    have z2 : ((j + m : Nat) : Int) < (la : Int) + 1 := by omega
    have z5 : (j : Int) + (m : Int) + 1 < (la : Int) + 1 := by omega
    have z6 : (j : Int) + (m : Int) < (la : Int) + 1 := by omega
    have y12 : (j : Int) ≤ 200000 := by omega
    obtain ⟨nm, hnm⟩ : ∃ nm, nm = u2 * 4294967296 + u1 := ⟨_, rfl⟩
    have hsh : IntKind.u64.wrap (u2 * 4294967296) = u2 * 4294967296 := by rw [IntKind.wrap_u64]; omega
    have hor : bits .or .u64 (u2 * 4294967296) u1 = nm := by
     rw [hnm]
     exact bits_join .u64 64 (by decide) wraps_u64' 32 (u2 * 4294967296) u1 (by omega) (Int.mul_emod_left _ _) (by omega) b0 (by omega) (by omega)
    have nm0 : 0 ≤ nm := by omega
    have nm1 : nm < 18446744073709551616 := by omega
    have HG0 := hQ0 (guess_start (u0 := u0) (u2 := u2) p0 wl0 f0 wu1 a1 (show 0 < top' by omega) b0 d0)
    have hgs := HG0.out
    rw [← hnm] at hgs
    obtain ⟨G, hG⟩ : ∃ G, G = nm / top' := ⟨_, rfl⟩
    obtain ⟨r, hr⟩ : ∃ r, r = nm % top' := ⟨_, rfl⟩
    rw [← hG, ← hr] at hgs
    have HG1 := hQ0 hgs
    have G0 : 0 ≤ G := by rw [hG]; exact Int.ediv_nonneg nm0 (by omega)
    have G1 : G ≤ nm := by rw [hG]; exact Int.ediv_le_self _ nm0
    have r0 : 0 ≤ r := by rw [hr]; exact Int.emod_nonneg _ (by omega)
    have r1 : r < top' := by rw [hr]; exact Int.emod_lt_of_pos _ (by omega)
    have q1 : nm.tdiv top' = G := by rw [hG]; exact Int.tdiv_eq_ediv_of_nonneg nm0
    have q2 : nm.tmod top' = r := by rw [hr]; exact Int.tmod_eq_emod_of_nonneg nm0
    have q3 : IntKind.u64.wrap (nm.tdiv top') = G := by rw [q1]; exact wraps_u64' G G0 (by omega)
    have n0 : (top' == 0) = false := by rw [beq_eq_false_iff_ne]; omega
    have n1 : ¬ top' = 0 := by omega
    have hG' := hG.symm
    have hr' := hr.symm
    have HNMv := hQ0 hnm
    have HBUF := hQ0 hbuf
    have HBV := hQ0 hbv
    have HROW := hQ0 hrow
    have HBEL := hQ0 hbel
    have HE := hQ0 (And.intro e0 (And.intro e1 (And.intro e2 (And.intro e3 e4))))
    have HVE := hQ0 (And.intro hVe hUe)
    have HUB' := hQ0 hUB
    have HLO := hQ0 (And.intro hlo (And.intro lo0 lo1))
    have HUP := hQ0 hup
    clear hnm hgs hG hr hNM hbuf hbv hrow hbel e0 e1 e2 e3 e4 hVe hUe hUB hlo lo0 lo1 hup hjn
    go_wp2_with fail
    refine wp_region_warm (Own wo.heap.size wo) (by kernel_rfl) (by kernel_rfl) (Own.refl (Nat.le_refl _)).drew ?_
    repeat (first | (refine wpWarm_step_off rfl (fun K hK => ?_); (go_simp; refine hK _ ?_; clear hK K)) | (apply wpWarm_step rfl; (focus (intro W' hS; have hcS := hS.cells; go_simp; (first | done | exact rfl | exact ⟨rfl, hS⟩ | (go_simp; exact rfl)))); (intro K hK; go_simp; (try go_bits); refine hK _ ?_; clear hK K)) | (apply wpWarm_step_on rfl; (focus (intro W' hS; have hcS := hS.cells; go_simp; (first | done | exact rfl | exact ⟨rfl, hS⟩ | (go_simp; exact rfl)))); (intro K hK; go_simp; (try go_bits); refine hK _ ?_; clear hK K)))
    refine wpWarm_nil ?_
    intro w5 hO5
    have HB5 := hQ0 hO5.2
    have hz5 := hO5.1
    clear c0 c1 c2 cf c5 hO5 hsh hor
    go_wp2_with fail
    refine wp_region_warm (Own w5.heap.size w5) (by kernel_rfl) (by kernel_rfl) (Own.refl (Nat.le_refl _)).drew ?_
    repeat (first | (refine wpWarm_step_off rfl (fun K hK => ?_); (go_simp; refine hK _ ?_; clear hK K)) | (apply wpWarm_step rfl; (focus (intro W' hS; have hcS := hS.cells; go_simp; (first | done | exact rfl | exact ⟨rfl, hS⟩ | (go_simp; exact rfl)))); (intro K hK; go_simp; (try go_bits); refine hK _ ?_; clear hK K)) | (apply wpWarm_step_on rfl; (focus (intro W' hS; have hcS := hS.cells; go_simp; (first | done | exact rfl | exact ⟨rfl, hS⟩ | (go_simp; exact rfl)))); (intro K hK; go_simp; (try go_bits); refine hK _ ?_; clear hK K)))
    refine wpWarm_nil ?_
    intro w6 hO6
    have HB6 := hQ0 (HB5.out.trans (hO6.2.mono hz5))
    have hz6 := hO6.1
    clear hO6 n0 n1 q1 q2 q3 hG' hr'
    go_upto_block 2 with fail
    go_cut [17, 18] (fun vq vr wx => ∃ gg rr : Int, vq = .int .u64 gg ∧ vr = .int .u64 rr ∧ 0 ≤ gg ∧ gg < 4294967296 ∧ Hid (Guess p wl wu top' next' u0 u1 u2 gg rr ∧ gg * next' ≤ rr * 4294967296 + u0) ∧ Below wo.heap.size wo wx)
    case first => as_aux_lemma =>
     go_wp2_with fail
     go_loopg [17, 18] G.toNat (fun kk vq vr ws => ∃ gg rr : Int, vq = .int .u64 gg ∧ vr = .int .u64 rr ∧ gg.toNat ≤ kk ∧ 0 ≤ gg ∧ gg < 18446744073709551616 ∧ 0 ≤ rr ∧ rr < 4294967296 ∧ Hid (Guess p wl wu top' next' u0 u1 u2 gg rr) ∧ Below wo.heap.size wo ws)
     case atStart => exact ⟨G, r, rfl, rfl, Nat.le_refl _, G0, by omega, r0, by omega, HG1, HB6.out⟩
     case round =>
      obtain ⟨gg, rr, rfl, rfl, hkk, g0, g1, r0', r1', HGU, hbw⟩ := hrel
      have hbuf := HBUF.out.below hbw
      have c0 := hbuf.2.1 _ _ HE.out.1
      have cf := hbuf.2.2
      have c5 := hbuf.1
      have HBW := hQ0 hbw
      have hzw := hbw.size
      clear hbuf hbw
      have step : ∀ (gg rr : Int), 1 ≤ gg → wl + p * (next' + 4294967296 * top') = wl + p * (next' + 4294967296 * top') → True := fun _ _ _ _ => trivial
      clear step
      by_cases hge : 4294967296 ≤ gg
      · have hU := guess_big p0 wl0 f0 (show 0 < top' by omega) hge HUB'.out
        have HGL := hQ0 (guess_less HGU.out p0 wl0 (show 0 < top' by omega) (show 1 ≤ gg by omega) hU)
        clear hU
        have hs1 : 0 ≤ gg - 1 := by omega
        have hs2 : 0 ≤ rr + top' := by omega
        have hs3 : rr + top' < 18446744073709551616 := by omega
        by_cases hrr : 4294967296 ≤ rr + top'
        · have HGR := hQ0 (guess_rest HGL.out f1 f0 a0 b1 (show 0 < top' by omega) ht2 hrr)
          go_wp2_with fail
          go_meet
          exact ⟨gg - 1, rr + top', rfl, rfl, hs1, HGR.out.1, hQ0 ⟨HGL.out, HGR.out.2⟩, HBW.out⟩
        · have hrr' : ¬ 4294967296 ≤ rr + top' := hrr
          go_wp2_with fail
          go_roundg (gg - 1).toNat
          case measure => omega
          case rel => exact ⟨gg - 1, rr + top', rfl, rfl, Nat.le_refl _, hs1, by omega, hs2, by omega, HGL, HBW.out⟩
      · have hge' : ¬ 4294967296 ≤ gg := hge
        have hgd : decide (4294967296 ≤ gg) = false := by simpa using hge
        obtain ⟨PR, hPR⟩ : ∃ PR, PR = gg * next' := ⟨_, rfl⟩
        obtain ⟨SR, hSR⟩ : ∃ SR, SR = rr * 4294967296 + u0 := ⟨_, rfl⟩
        obtain ⟨pr0, pr1⟩ := mul_lim g0 (show gg < 4294967296 by omega) f0 f1
        have o1 : IntKind.u64.wrap (gg * next') = PR := by rw [hPR]; exact wraps_u64' _ pr0 (by omega)
        have o2 : IntKind.u64.wrap (rr * 4294967296) = rr * 4294967296 := by rw [IntKind.wrap_u64]; omega
        have o3 : bits .or .u64 (rr * 4294967296) u0 = SR := by
         rw [hSR]
         exact bits_join .u64 64 (by decide) wraps_u64' 32 (rr * 4294967296) u0 (by omega) (Int.mul_emod_left _ _) (by omega) a0 (by omega) (by omega)
        have HPS := hQ0 (And.intro hPR hSR)
        clear hPR hSR pr0 pr1
        by_cases hnx : SR < PR
        · have hU := guess_next HGU.out p0 wl0 wu1 (by rw [← HPS.out.1, ← HPS.out.2]; exact hnx)
          have hg1 : 1 ≤ gg := by
           rcases Int.lt_or_le 0 gg with h | h
           · omega
           · exfalso
             have hz0 : gg = 0 := by omega
             have h1 := HPS.out.1
             have h2 := HPS.out.2
             rw [hz0, Int.zero_mul] at h1
             omega
          have HGL := hQ0 (guess_less HGU.out p0 wl0 (show 0 < top' by omega) (show 1 ≤ gg by omega) hU)
          clear hU
          have hs1 : 0 ≤ gg - 1 := by omega
          have hs2 : 0 ≤ rr + top' := by omega
          have hs3 : rr + top' < 18446744073709551616 := by omega
          by_cases hrr : 4294967296 ≤ rr + top'
          · have HGR := hQ0 (guess_rest HGL.out f1 f0 a0 b1 (show 0 < top' by omega) ht2 hrr)
            go_wp2_with fail
            go_meet
            exact ⟨gg - 1, rr + top', rfl, rfl, hs1, HGR.out.1, hQ0 ⟨HGL.out, HGR.out.2⟩, HBW.out⟩
          · have hrr' : ¬ 4294967296 ≤ rr + top' := hrr
            go_wp2_with fail
            go_roundg (gg - 1).toNat
            case measure => omega
            case rel => exact ⟨gg - 1, rr + top', rfl, rfl, Nat.le_refl _, hs1, by omega, hs2, by omega, HGL, HBW.out⟩
        · have hnx' : ¬ SR < PR := hnx
          have hnd : decide (SR < PR) = false := by simpa using hnx
          go_wp2_with fail
          go_meet
          exact ⟨gg, rr, rfl, rfl, g0, by omega, hQ0 ⟨HGU.out, by rw [← HPS.out.1, ← HPS.out.2]; omega⟩, HBW.out⟩
    case rest => as_aux_lemma =>
     obtain ⟨gg, rr, rfl, rfl, g0, g1, HGG, hbw⟩ := hcut
     have hbuf0 := HBUF.out.below hbw
     have hbv0 := HBV.out.below hbw
     have hrow0 := HROW.out.below hbw
     have hbel0 := HBEL.out.trans (hbw.mono HBEL.out.size)
     obtain ⟨wx, rfl⟩ : ∃ wx : World, wx = wc := ⟨_, rfl⟩
     obtain ⟨R, hR⟩ : ∃ R, R = mv ul := ⟨_, rfl⟩
     have HRR := hQ0 hR
     have HBF0 := hQ0 hbuf0
     have HBV0 := hQ0 hbv0
     have HRW0 := hQ0 hrow0
     have HBL0 := hQ0 hbel0
     have hgne : gu ≠ w7.heap.size := by omega
     have hgne2 : gu ≠ gv := by omega
     have hgne3 : gv ≠ w7.heap.size := by omega
     have hgu4 : w4.heap.size ≤ gu := HGU.out
     clear hbuf0 hbv0 hrow0 hbel0 hbw hR
     go_wp2_with fail
     go_loopw [19, 20, 21] (fun vb vc vi wr => ∃ (i : Nat) (cc bo : Int) (L : List Int), i ≤ n ∧ vi = .int .i64 i ∧ vc = .int .u64 cc ∧ vb = .int .u64 bo ∧ 0 ≤ cc ∧ cc < 4294967296 ∧ 0 ≤ bo ∧ bo ≤ 1 ∧ Buf wr gu L ∧ Buf wr gv (canN V) ∧ RowL wr w7.heap.size ql ∧ Hid (L.length = la + 1 ∧ Lim L ∧ mv L = R - gg * (PB j * mv ((canN V).take i)) + PB (j + i) * (cc + bo) ∧ L.drop (j + i) = ul.drop (j + i)) ∧ Below w4.heap.size w4 wr) (fun _ _ vi _ => (n - (intOf vi).toNat))
     case atStart => exact ⟨0, 0, 0, ul, by omega, rfl, rfl, rfl, by omega, by omega, by omega, by omega, HBF0.out, HBV0.out, HRW0.out, hQ0 ⟨HO.out.1, HO.out.2.2.1, by rw [HRR.out]; simp [mv], rfl⟩, HBL0.out⟩
     case round =>
      obtain ⟨i, cc, bo, L, hi, rfl, rfl, rfl, c0, c1, bo0, bo1, hbf, hbv, hrw, HM, hbl⟩ := hrel
      have HBF := hQ0 hbf
      have HBV := hQ0 hbv
      have HRW := hQ0 hrw
      have HBLW := hQ0 hbl
      have hgul := hbf.1
      have hguf := hbf.2.2
      have s0 : (0 : Int) ≤ (i : Int) := by omega
      clear hrw hbl hbf hbv
      by_cases hin : i < n
      · as_aux_lemma =>
        obtain ⟨x, hx⟩ : ∃ x, (canN V)[i]? = some x := ⟨(canN V)[i]'(by have := HVL.out; have := HNM.out; omega), by simp⟩
        obtain ⟨x0, x1⟩ := (canN_lim V).get hx
        have cx := HBV.out.2.1 _ _ hx
        have hji : j + i < la + 1 := by omega
        obtain ⟨z, hz⟩ : ∃ z, L[j + i]? = some z := ⟨L[j + i]'(by have := HM.out.1; omega), by simp⟩
        obtain ⟨z0, z1⟩ := HM.out.2.1.get hz
        have cz := HBF.out.2.1 _ _ hz
        have hcom : i + j = j + i := Nat.add_comm _ _
        rw [← hcom] at cz
        have s1 : (i : Int) < (n : Int) := by omega
        have s2 : (0 : Int) ≤ (i : Int) + (j : Int) := by omega
        have s3 : (i : Int) + (j : Int) < (la : Int) + 1 := by omega
        have s4 : (i : Int) ≤ 200000 := by omega
        obtain ⟨pr0, pr1⟩ := mul_lim g0 g1 x0 x1
        obtain ⟨PR, hPR⟩ : ∃ PR, PR = gg * x := ⟨_, rfl⟩
        rw [← hPR] at pr0 pr1
        have hPR' := hPR.symm
        obtain ⟨S', hS⟩ : ∃ S', S' = PR + cc := ⟨_, rfl⟩
        have S0 : 0 ≤ S' := by omega
        have S1 : S' < 18446744073709551616 := by omega
        have hS' := hS.symm
        obtain ⟨M, hM⟩ : ∃ M, M = S' % 4294967296 := ⟨_, rfl⟩
        have M0 : 0 ≤ M := by omega
        have M1 : M < 4294967296 := by omega
        obtain ⟨I, hI⟩ : ∃ I, I = IntKind.u64.wrap (z - M) := ⟨_, rfl⟩
        obtain ⟨D, hD⟩ : ∃ D, D = IntKind.u64.wrap (I - bo) := ⟨_, rfl⟩
        obtain ⟨d1, d2, d3, d4, d5⟩ := word_sub z0 z1 M0 M1 bo0 bo1 hI hD
        have HST := hQ0 (msub_step HM.out.2.2.1 hz hx (s := S') (d := D) (by rw [hS, hPR]; omega) (by rw [hM] at d1; exact d1))
        have HZ := hQ0 hz
        have HX := hQ0 hx
        have HCM := hQ0 hcom
        have hM' := hM.symm
        replace hI := hI.symm
        replace hD := hD.symm
        clear hz hx hPR hS hM d1 hcom
        go_wp2_with fail
        clear hI hD hPR' hS' cx cz hM'
        go_roundw
        case rel =>
         have hset : Buf (wr.setCell ⟨gu, i + j, none⟩ (.int .u32 (D % 4294967296))) gu (L.set (j + i) (D % 4294967296)) := by rw [HCM.out]; exact HBF.out.set HZ.out _
         exact ⟨i + 1, S' / 4294967296, D / 9223372036854775808, L.set (j + i) (D % 4294967296), by omega, by go_num, rfl, rfl, by omega, by omega, d4, d5, hset, HBV.out.far (Ne.symm hgne2) _, HRW.out.far (Ne.symm hgne) _, hQ0 ⟨by rw [List.length_set]; exact HM.out.1, HM.out.2.1.set _ (by omega) (by omega), HST.out, drop_set_same _ HM.out.2.2.2⟩, HBLW.out.setCell hgu4 _⟩
        case measure => simp [intOf]; omega
      · as_aux_lemma =>
        obtain rfl : i = n := by omega
        have hM3 := HM.out.2.2.1
        rw [List.take_of_length_le (by have := HVL.out; have := HNM.out; omega), mv_canN] at hM3
        have hgd := guess_done HGG.out.1 p0 wl0 wl1 wu0 f0 (show 1 ≤ top' by omega) g1 HGG.out.2
        have hVV := HVE.out.1
        have hUU := HVE.out.2
        obtain ⟨U, hU⟩ : ∃ U, U = mv (ul.drop j) := ⟨_, rfl⟩
        rw [← hU] at hUU
        rw [← hVV, ← hUU] at hgd
        have hzz : L[j + i]? = some u2 := by rw [get_of_drop HM.out.2.2.2]; exact HE.out.2.2.1
        have hRl : R = lo + PB j * U := by rw [HRR.out, hU]; exact HLO.out.1
        have hupL : mv (L.drop (j + i + 1)) = 0 := by
         rw [mv_drop_of HM.out.2.2.2 (by omega), show j + i + 1 = j + m + 3 by have := HNM.out; omega]
         exact HUP.out
        have htop := msub_top (d := 0) HM.out.2.1 (canN_lim V) (show (canN V).length = i by have := HVL.out; have := HNM.out; omega) (mv_canN V).symm hM3 hzz hupL hRl HLO.out.2.1 HLO.out.2.2 hgd.1 hgd.2
        have hcz := HBF.out.2.1 _ _ hzz
        have s2 : (0 : Int) ≤ (j : Int) + (i : Int) := by omega
        have s3 : (j : Int) + (i : Int) < (la : Int) + 1 := by omega
        have s4 : (i : Int) ≤ 200000 := by omega
        have HZZ := hQ0 hzz
        have HM3 := hQ0 hM3
        have HRL := hQ0 hRl
        have HGD := hQ0 hgd
        have HUPL := hQ0 hupL
        have hqj : ql[j]? = some 0 := HO.out.2.2.2.2.2.2 j (by omega)
        have HQJ := hQ0 hqj
        have hql := HO.out.2.1
        have HQX := hQ0 HO.out.2.2.2.2.2.1
        have HQZ := hQ0 HO.out.2.2.2.2.2.2
        have HQL := hQ0 HO.out.2.2.2.1
        have hcq := HRW.out.cell hqj
        have hfq := HRW.out.frozen
        have hgne' := Ne.symm hgne
        have lq := HRW.out.lt
        have s6 : (j : Int) < (la : Int) - (i : Int) + 1 := by omega
        have s7 : (j : Int) < ((la + 1 - i : Nat) : Int) := by omega
        have hgt0 : 1 ≤ gg ∨ 0 ≤ U - gg * V := by
         rcases Int.lt_or_le gg 1 with g | g
         · right
           obtain rfl : gg = 0 := by omega
           have := mv_nonneg (HO.out.2.2.1.drop j)
           rw [Int.zero_mul]; omega
         · exact .inl g
        clear hM3 hgd hVV hUU hU hzz hRl hupL hqj
        rcases htop with ⟨tz, tU⟩ | ⟨tz, tU⟩
        · as_aux_lemma =>
          obtain ⟨I, hI⟩ : ∃ I, I = IntKind.u64.wrap (u2 - cc) := ⟨_, rfl⟩
          have hI2 : IntKind.u64.wrap (I - bo) = 0 := by rw [hI, IntKind.wrap_u64, IntKind.wrap_u64]; omega
          have hI' := hI.symm
          have HTZ := hQ0 (top_zero HM3.out HZZ.out HRL.out HLO.out.2.2 HGD.out.2 tz)
          clear hI tz tU hgt0
          go_wp2_with fail
          go_roundg j
          case measure => omega
          case rel =>
           exact ⟨j, L.set (j + i) 0, ql.set j gg, rfl, by omega, rfl, (HBF.out.set HZZ.out 0).far hgne _, (HBV.out.far (Ne.symm hgne2) _).far hgne3 _, (HRW.out.far hgne' _).set j gg, hQ0 ⟨by rw [List.length_set]; exact HM.out.1, by rw [List.length_set]; exact hql, HM.out.2.1.set _ (by omega) (by omega), HQL.out.set _ g0 g1, HTZ.out.2, quot_step HQX.out HQJ.out (by rw [← HRR.out]; exact HTZ.out.1), fun k hk => by rw [List.getElem?_set_ne (by omega)]; exact HQZ.out k (by omega)⟩, (HBLW.out.setCell hgu4 _).setCell hz7 _⟩
        · as_aux_lemma =>
          have gg1 : 1 ≤ gg := by omega
          obtain ⟨I, hI⟩ : ∃ I, I = IntKind.u64.wrap (u2 - cc) := ⟨_, rfl⟩
          obtain ⟨D9, hD9⟩ : ∃ D9, D9 = IntKind.u64.wrap (I - bo) := ⟨_, rfl⟩
          have hD9' : D9 = 18446744073709551615 := by rw [hD9, hI, IntKind.wrap_u64, IntKind.wrap_u64]; omega
          have hD1 : D9 % 4294967296 = 4294967295 := by omega
          have hD2 : D9 / 9223372036854775808 = 1 := by omega
          have D90 : 0 ≤ D9 := by omega
          have D91 : D9 < 18446744073709551616 := by omega
          have hI2 := hD9.symm
          clear hD9 hD9'
          have hI' := hI.symm
          have HTN' := hQ0 (top_neg HM3.out HZZ.out tz)
          have HBL2 := hQ0 (back_lim HRL.out HLO.out.2.1 HLO.out.2.2 HGD.out.1 tU)
          obtain ⟨wy, rfl⟩ : ∃ wy : World, wy = wr := ⟨_, rfl⟩
          obtain ⟨L1, hL1⟩ : ∃ L1, L1 = L.set (j + i) 4294967295 := ⟨_, rfl⟩
          have HL1 := hQ0 hL1
          have hb1 : Buf (wy.setCell ⟨gu, j + i, none⟩ (.int .u32 4294967295)) gu L1 := by rw [hL1]; exact HBF.out.set HZZ.out _
          have HBF1 := hQ0 hb1
          have HBV1 := hQ0 (HBV.out.far (x := .int .u32 4294967295) (p := ⟨gu, j + i, none⟩) (Ne.symm hgne2))
          have HRW1 := hQ0 (HRW.out.far (x := .int .u32 4294967295) (p := ⟨gu, j + i, none⟩) hgne')
          have HLM1 := hQ0 (show L1.length = la + 1 ∧ Lim L1 by rw [hL1]; exact ⟨by rw [List.length_set]; exact HM.out.1, HM.out.2.1.set _ (by omega) (by omega)⟩)
          have HBE1 := hQ0 (HBLW.out.setCell (p := ⟨gu, j + i, none⟩) hgu4 (.int .u32 4294967295))
          clear hI tz tU hgt0 hL1 hb1
          go_wp2_with fail
          clear hI2 hI' hcz hcq hD1 hD2 D90 D91
          go_loopw [25, 26] (fun vc vi wr => ∃ (t : Nat) (ca : Int) (M : List Int), t ≤ i ∧ vi = .int .i64 t ∧ vc = .int .u64 ca ∧ 0 ≤ ca ∧ ca ≤ 1 ∧ Buf wr gu M ∧ Buf wr gv (canN V) ∧ RowL wr w7.heap.size ql ∧ Hid (M.length = la + 1 ∧ Lim M ∧ mv M + PB (j + t) * ca = mv L1 + PB j * mv ((canN V).take t) ∧ M.drop (j + t) = L1.drop (j + t)) ∧ Below w4.heap.size w4 wr) (fun _ vi _ => (i - (intOf vi).toNat))
          case atStart => exact ⟨0, 0, L1, by omega, rfl, rfl, by omega, by omega, HBF1.out, HBV1.out, HRW1.out, hQ0 ⟨HLM1.out.1, HLM1.out.2, by simp [mv], rfl⟩, HBE1.out⟩
          case round =>
           obtain ⟨t, ca, M, ht, rfl, rfl, ca0, ca1, hbf2, hbv2, hrw2, HMM, hbl2⟩ := hrel
           have HBF2 := hQ0 hbf2
           have HBV2 := hQ0 hbv2
           have HRW2 := hQ0 hrw2
           have HBL3 := hQ0 hbl2
           have hgul2 := hbf2.1
           have hguf2 := hbf2.2.2
           have s5 : (0 : Int) ≤ (t : Int) := by omega
           have hz_wr := hbl2.size
           clear hbf2 hrw2 hbl2 hbv2
           by_cases hti : t < i
           · as_aux_lemma =>
             obtain ⟨x, hx⟩ : ∃ x, (canN V)[t]? = some x := ⟨(canN V)[t]'(by have := HVL.out; have := HNM.out; omega), by simp⟩
             obtain ⟨x0, x1⟩ := (canN_lim V).get hx
             have cx := HBV2.out.2.1 _ _ hx
             have cvl := HBV2.out.1
             obtain ⟨z, hz⟩ : ∃ z, M[j + t]? = some z := ⟨M[j + t]'(by have := HMM.out.1; omega), by simp⟩
             obtain ⟨z0, z1⟩ := HMM.out.2.1.get hz
             have cz := HBF2.out.2.1 _ _ hz
             have hcom : t + j = j + t := Nat.add_comm _ _
             rw [← hcom] at cz
             have s6 : (t : Int) < (i : Int) := by omega
             have s7 : (0 : Int) ≤ (t : Int) + (j : Int) := by omega
             have s8 : (t : Int) + (j : Int) < (la : Int) + 1 := by omega
             have s9 : (t : Int) ≤ 200000 := by omega
             obtain ⟨S2, hS2⟩ : ∃ S2, S2 = z + x + ca := ⟨_, rfl⟩
             have S20 : 0 ≤ S2 := by omega
             have S21 : S2 < 8589934592 := by omega
             have q3 : 0 ≤ z + x := by omega
             have q4 : z + x < 18446744073709551616 := by omega
             have HST := hQ0 (addb_step HMM.out.2.2.1 hz hx (show S2 = ca + (z + x) by omega))
             have hS2' := hS2.symm
             have HZ := hQ0 hz
             have HCM := hQ0 hcom
             clear hz hx hS2 hcom
             go_wp2_with fail
             refine wp_region_warm (Own wr.heap.size wr) (by kernel_rfl) (by kernel_rfl) (Own.refl (Nat.le_refl _)).drew ?_
             repeat (first | (refine wpWarm_step_off rfl (fun K hK => ?_); (go_simp; refine hK _ ?_; clear hK K)) | (apply wpWarm_step rfl; (focus (intro W' hS; have hcS := hS.cells; go_simp; (first | done | exact rfl | exact ⟨rfl, hS⟩ | (go_simp; exact rfl)))); (intro K hK; go_simp; (try go_bits); refine hK _ ?_; clear hK K)) | (apply wpWarm_step_on rfl; (focus (intro W' hS; have hcS := hS.cells; go_simp; (first | done | exact rfl | exact ⟨rfl, hS⟩ | (go_simp; exact rfl)))); (intro K hK; go_simp; (try go_bits); refine hK _ ?_; clear hK K)))
             refine wpWarm_nil ?_
             intro w77 hO7
             have HBF7 := hQ0 (HBF2.out.below hO7.2)
             have HBV7 := hQ0 (HBV2.out.below hO7.2)
             have HRW7 := hQ0 (HRW2.out.below hO7.2)
             have HBL7 := hQ0 (HBL3.out.trans (hO7.2.mono hz_wr))
             have cz7 := HBF7.out.2.1 _ _ HZ.out
             rw [← HCM.out] at cz7
             have hf7 := HBF7.out.2.2
             have hl7 := HBF7.out.1
             clear hO7 cx cz hS2'
             go_wp2_with fail
             go_roundw
             case rel =>
              have hset : Buf (w77.setCell ⟨gu, t + j, none⟩ (.int .u32 (S2 % 4294967296))) gu (M.set (j + t) (S2 % 4294967296)) := by rw [HCM.out]; exact HBF7.out.set HZ.out _
              exact ⟨t + 1, S2 / 4294967296, M.set (j + t) (S2 % 4294967296), by omega, by go_num, rfl, by omega, by omega, hset, HBV7.out.far (Ne.symm hgne2) _, HRW7.out.far hgne' _, hQ0 ⟨by rw [List.length_set]; exact HMM.out.1, HMM.out.2.1.set _ (by omega) (by omega), HST.out, drop_set_same _ HMM.out.2.2.2⟩, HBL7.out.setCell hgu4 _⟩
             case measure => simp [intOf]; omega
           · as_aux_lemma =>
             obtain rfl : t = i := by omega
             have hz9 : M[j + t]? = some 4294967295 := by
              rw [get_of_drop HMM.out.2.2.2, HL1.out, List.getElem?_set_self (by have := (List.getElem?_eq_some_iff.1 HZZ.out).1; exact this)]
             have hup9 : mv (M.drop (j + t + 1)) = 0 := by
              rw [mv_drop_of HMM.out.2.2.2 (by omega), HL1.out, drop_set_same _ (rfl : L.drop (j + t) = L.drop (j + t))]
              exact HUPL.out
             have hm9 := HMM.out.2.2.1
             rw [List.take_of_length_le (by have := HVL.out; have := HNM.out; omega), mv_canN, HL1.out, HTN'.out] at hm9
             obtain ⟨hc9, hs9⟩ := addb_done (R := 0) HMM.out.2.1 (canN_lim V) (show (canN V).length = t by have := HVL.out; have := HNM.out; omega) (mv_canN V).symm hz9 hup9 hm9 ca0 ca1 HBL2.out.1
             subst hc9
             have HS9 := hQ0 hs9
             have HZ9 := hQ0 hz9
             have hcz9 := HBF2.out.2.1 _ _ hz9
             have hcq9 := HRW2.out.cell HQJ.out
             have hfq9 := HRW2.out.frozen
             have lq9 := HRW2.out.lt
             clear hz9 hup9 hm9 hs9
             go_wp2_with fail
             go_roundg j
             case measure => omega
             case rel =>
              exact ⟨j, M.set (j + t) 0, ql.set j (gg - 1), rfl, by omega, rfl, (HBF2.out.set HZ9.out 0).far hgne _, (HBV2.out.far (Ne.symm hgne2) _).far hgne3 _, (HRW2.out.far hgne' _).set j (gg - 1), hQ0 ⟨by rw [List.length_set]; exact HMM.out.1, by rw [List.length_set]; exact hql, HMM.out.2.1.set _ (by omega) (by omega), HQL.out.set _ (by omega) (by omega), by rw [HS9.out]; exact HBL2.out.2, quot_step HQX.out HQJ.out (by rw [← HRR.out]; exact HS9.out), fun k hk => by rw [List.getElem?_set_ne (by omega)]; exact HQZ.out k (by omega)⟩, (HBL3.out.setCell hgu4 _).setCell hz7 _⟩
theorem divmag_any (A B : Option Addr) (x y c d : Nat) (w : World) (hn : (canN x).length ≤ 200000) (hn' : (canN y).length ≤ 200000) (hA : LAt w A (canN x)) (hB : LAt w B (canN y)) (hc : (canN x).length ≤ c) (hd : (canN y).length ≤ d) (hy : y ≠ 0) :
  Calls Tryz.prog 79 #[.slice A (canN x).length c, .slice B (canN y).length d] w (DivOut (x / y) (x % y) w) := by
 rcases Nat.lt_or_ge x y with h | h
 · have := divmag_less A B x y c d w (by omega) (by omega) hA hB hc h
   exact this
 · have h0 : (canN y).length ≠ 0 := fun e => hy (canN_len0.1 e)
   by_cases h1 : (canN y).length = 1
   · exact divmag_one A B x y c d w (by omega) hA hB h h1
   · obtain ⟨m, hm⟩ : ∃ m, (canN y).length = m + 2 := ⟨(canN y).length - 2, by omega⟩
     exact divmag_knuth A B x y c d m w hn hA hB hc hd h hm
theorem sv_tdiv {a b : Int} {p q : Bool} {x y : Nat} (ea : a = sv p x) (eb : b = sv q y) : a.tdiv b = sv (p != q) ((x / y : Nat) : Int) ∧ a.tmod b = sv p ((x % y : Nat) : Int) := by
 have h1 : (x : Int).tdiv (y : Int) = ((x / y : Nat) : Int) := rfl
 have h2 : (x : Int).tmod (y : Int) = ((x % y : Nat) : Int) := rfl
 subst ea
 subst eb
 cases p <;> cases q <;> simp only [sv, Bool.false_eq_true, if_false, if_true, Int.neg_tdiv, Int.tdiv_neg, Int.neg_neg, Int.neg_tmod, Int.tmod_neg, h1, h2] <;> exact ⟨rfl, trivial⟩
def DOut (q r : Int) (w : World) (e : Ending) (w' : World) : Prop := Below w.heap.size w w' ∧ ∃ u v, e = .returned (.tuple #[u, v]) ∧ IsC w' u q ∧ IsC w' v r
def C2 (W : World) (b : Nat) (u v : Value) : Prop := W.cell? ⟨b, 0, none⟩ = some u ∧ W.cell? ⟨b, 1, none⟩ = some v ∧ ∀ o, W.frozen? ⟨b, o, none⟩ = false
theorem C2.lt {W : World} {b : Nat} {u v : Value} (h : C2 W b u v) : b < W.heap.size := by simpa using World.block_lt_of_cell? W _ h.1
theorem C2.cl (b : Nat) (u v : Value) : Cl (fun W => C2 W b u v) := fun W W' h hb => by
 have hl := h.lt
 exact ⟨by rw [hb.cell (by simpa using hl)]; exact h.1, by rw [hb.cell (by simpa using hl)]; exact h.2.1, fun o => by rw [hb.frozen (by simpa using hl)]; exact h.2.2 o⟩
theorem C2.set {W : World} {b : Nat} {u v : Value} (h : C2 W b u v) (x y : Value) : C2 ((W.setCell ⟨b, 0, none⟩ x).setCell ⟨b, 1, none⟩ y) b x y := by
 have h1 : (W.setCell ⟨b, 0, none⟩ x).cell? ⟨b, 1, none⟩ = some v := by rw [World.cell?_setCell_other W _ _ _ (by simp)]; exact h.2.1
 refine ⟨?_, World.cell?_setCell_same _ _ _ h1, fun o => ?_⟩
 · rw [World.cell?_setCell_other _ _ _ _ (by simp)]
   exact World.cell?_setCell_same W _ _ h.1
 · rw [World.frozen?_setCell, World.frozen?_setCell]; exact h.2.2 o
theorem C2.far {W : World} {b b' : Nat} {u v : Value} (h : C2 W b u v) (hn : b ≠ b') (x y : Value) : C2 ((W.setCell ⟨b', 0, none⟩ x).setCell ⟨b', 1, none⟩ y) b u v := by
 refine ⟨?_, ?_, fun o => ?_⟩
 · rw [World.cell?_setCell_other _ _ _ _ (by simp <;> omega), World.cell?_setCell_other _ _ _ _ (by simp <;> omega)]; exact h.1
 · rw [World.cell?_setCell_other _ _ _ _ (by simp <;> omega), World.cell?_setCell_other _ _ _ _ (by simp <;> omega)]; exact h.2.1
 · rw [World.frozen?_setCell, World.frozen?_setCell]; exact h.2.2 o
set_option maxRecDepth 100000 in
set_option maxHeartbeats 4000000 in
theorem div_any (n : Nat) (u v : Value) (a b : Int) (w : World) (ha : IsZ w u n a) (hb : IsZ w v n b) (hn : n ≤ 200000) (hb0 : b ≠ 0) :
  Calls Tryz.prog 46 #[u, v] w (DOut (a.tdiv b) (a.tmod b) w) := by
 obtain ⟨p, A, c, l, rfl, hc, hL, hl, hAt, ea, ma, ca⟩ := isZ_open ha
 obtain ⟨q, A', c', l', rfl, hc', hL', hl', hAt', eb, mb, cb⟩ := isZ_open hb
 have hma := fun w' (h : Below w.heap.size w w') => mag_any A l c w' hL (hAt.below h) hc (by omega)
 have hmb := fun w' (h : Below w.heap.size w w') => mag_any A' l' c' w' hL' (hAt'.below h) hc' (by omega)
 rw [ma] at hma
 rw [mb] at hmb
 have hy0 : b.natAbs ≠ 0 := by omega
 obtain ⟨x, hx⟩ : ∃ x, x = a.natAbs := ⟨_, rfl⟩
 obtain ⟨y, hy⟩ : ∃ y, y = b.natAbs := ⟨_, rfl⟩
 rw [← hx] at hma ca ea
 rw [← hy] at hmb cb eb hy0
 obtain ⟨t1, t2⟩ := sv_tdiv ea eb
 obtain ⟨Q, hQ⟩ : ∃ Q, Q = a.tdiv b := ⟨_, rfl⟩
 obtain ⟨R, hR⟩ : ∃ R, R = a.tmod b := ⟨_, rfl⟩
 rw [← hQ] at t1 ⊢
 rw [← hR] at t2 ⊢
 have HMA := hQ0 hma
 have HMB := hQ0 hmb
 have HQ := hQ0 t1
 have HR := hQ0 t2
 clear hma hmb t1 t2 ma mb hx hy hQ hR ea eb hAt hAt' hL hL' ha hb hb0
 obtain ⟨s, hs⟩ : ∃ s, s = (p != q) := ⟨_, rfl⟩
 rw [← hs] at HQ
 replace hs : (!(p == q)) = s := by rw [hs]; cases p <;> cases q <;> rfl
 have hdv := fun A B c d w hA hB h1 h2 => divmag_any A B x y c d w (by omega) (by omega) hA hB h1 h2 hy0
 have HDV := hQ0 hdv
 clear hdv hy0
 go_enter Tryz.func46, Tryz.ntmps46; (try simp only [List.append_eq, List.cons_append, List.nil_append])
 go_wp2_with fail
 have HB0 := hQ0 (show Below w.heap.size w ((((w.alloc (.cells #[.bool p, .slice A l.length c] 44)).alloc (.cells #[.bool q, .slice A' l'.length c'] 44)).alloc (.cells #[.bool false, .slice none 0 0] 44)).alloc (.cells #[.bool false, .slice none 0 0] 44)) by ((with_reducible (repeat (first | exact bR _ _ | apply bS | apply bA | apply bD | refine bT ?_ (by assumption) ?_ | refine bO (by assumption) ?_ ?_))) <;> (first | omega | (simp <;> omega))))
 (refine pin_wp (N := _) (Nat.le_refl _) (fun w1 hb_w1 hz_w1 => ?_); (try simp at hz_w1); (with_reducible apply cal2 (b := w.heap.size) hb_w1); (focus (go_simp; try exact ⟨rfl, rfl⟩)); intro cc cc fz hl; (with_reducible apply cal2 (b := w.heap.size + 1) hb_w1); (focus (go_simp; try exact ⟨rfl, rfl⟩)); intro cc cc fz hl; (with_reducible apply cal2 (b := w.heap.size + 1 + 1) hb_w1); (focus (go_simp; try exact ⟨rfl, rfl⟩)); intro cc cc fz hl; (with_reducible apply cal2 (b := w.heap.size + 1 + 1 + 1) hb_w1); (focus (go_simp; try exact ⟨rfl, rfl⟩)); intro cc cc fz hl); refine wp_region_float w1.heap.size 12 (Nat.le_refl _) (fun _ => True) trivial Cl.tt (by kernel_rfl) (by simp) ?_
 have HB1 := hQ0 (HB0.out.trans (hb_w1.mono (by simp <;> omega)))
 clear hb_w1
 refine wpI_start [0, 1] ?_; (iterate 2 (first | (apply wpI_step rfl (by kernel_rfl) rfl; (focus (intro W' hS; have hcS := hS.cells; go_simp; (iterate 2 (first | done | exact rfl | exact bB _ | go_simp)))); intro K hK; go_simp; (try go_bits); refine hK _ ?_; clear hK K))); refine wpI_nil ?_
 refine wpI_start [3, 4] ?_; (iterate 2 (first | (apply wpI_step rfl (by kernel_rfl) rfl; (focus (intro W' hS; have hcS := hS.cells; go_simp; (iterate 2 (first | done | exact rfl | exact bB _ | go_simp)))); intro K hK; go_simp; (try go_bits); refine hK _ ?_; clear hK K))); refine wpI_nil ?_
 apply wpF_call (i := 2) rfl (by kernel_rfl) (by kernel_rfl); intro W hF hS; have hcS := hS.1.cells; go_simp; (go_at_call 70; refine (HMA.out _ (HB1.out.trans (hS.1.2.mono (by omega)))).mono ?_; rintro e w4 ⟨hb_w4, A1, c1, rfl, hc1, hA1⟩; refine XPost.mk _ (fun W => LAt W A1 (canN x)) hb_w4 (hA1) (LAt.cl _ _) ?_); clear hb_w4 hcS hS hF
 intro K hK; go_simp; (try go_bits); refine hK _ ?_; clear hK K
 have HC1 := hQ0 hc1
 clear hA1 hc1
 apply wpF_call (i := 5) rfl (by kernel_rfl) (by kernel_rfl); intro W hF hS; have hcS := hS.1.cells; go_simp; (go_at_call 70; refine (HMB.out _ (HB1.out.trans (hS.1.2.mono (by omega)))).mono ?_; rintro e w5 ⟨hb_w5, A2, c2, rfl, hc2, hA2⟩; refine XPost.mk _ (fun W => LAt W A2 (canN y)) hb_w5 (hA2) (LAt.cl _ _) ?_); clear hb_w5 hcS hS hF
 intro K hK; go_simp; (try go_bits); refine hK _ ?_; clear hK K
 have HC2 := hQ0 hc2
 clear hA2 hc2
 apply wpF_call (i := 6) rfl (by kernel_rfl) (by kernel_rfl); intro W hF hS; have hcS := hS.1.cells; go_simp; (go_at_call 79; refine (HDV.out A1 A2 c1 c2 W hF.1 hF.2 HC1.out HC2.out).mono ?_; rintro e w9 ⟨hb_w9, A3, c3, A4, c4, rfl, hc3, hc4, hA3, hA4⟩; refine XPost.mk _ (fun W => LAt W A3 (canN (x / y)) ∧ LAt W A4 (canN (x % y))) hb_w9 (⟨hA3, hA4⟩) (Cl.and (LAt.cl _ _) (LAt.cl _ _)) ?_); clear hb_w9 hcS hS hF
 intro K hK; go_simp; (try go_bits); refine hK _ ?_; clear hK K
 have HC3 := hQ0 hc3
 have HC4 := hQ0 hc4
 clear hA3 hA4 hc3 hc4
 refine wpI_start [7, 8, 9, 10, 11] ?_; (iterate 5 (first | (apply wpI_step rfl (by kernel_rfl) rfl; (focus (intro W' hS; have hcS := hS.cells; go_simp; (iterate 2 (first | done | exact rfl | exact bB _ | go_simp)))); intro K hK; go_simp; (try go_bits); refine hK _ ?_; clear hK K))); refine wpI_nil ?_
 refine wpF_done (by kernel_rfl) ?_
 intro w10 hF_w10 hSG
 have hz_w10 := hSG.1.1
 have hb_w10 := hSG.1.2
 clear hSG
 (with_reducible apply cel2 (b := w.heap.size) hb_w10); ((try simp) <;> omega); omega; (iterate 2 (focus (go_simp; try exact rfl))); (intro o; go_simp); intro cc cc fz hl; (with_reducible apply cel2 (b := w.heap.size + 1) hb_w10); ((try simp) <;> omega); omega; (iterate 2 (focus (go_simp; try exact rfl))); (intro o; go_simp); intro cc cc fz hl; (with_reducible apply cel2 (b := w.heap.size + 1 + 1) hb_w10); ((try simp) <;> omega); omega; (iterate 2 (focus (go_simp; try exact rfl))); (intro o; go_simp); intro cc cc fz hl; (with_reducible apply cel2 (b := w.heap.size + 1 + 1 + 1) hb_w10); ((try simp) <;> omega); omega; (iterate 2 (focus (go_simp; try exact rfl))); (intro o; go_simp); intro cc cc fz hl
 (try simp only [List.drop_succ_cons, List.drop_zero])
 have HB10 := hQ0 (HB1.out.trans (hb_w10.mono (by omega)))
 have HF10 := hQ0 hF_w10.2
 clear hF_w10 hb_w10
 have dq1 := Nat.div_le_self x y
 have dr1 := Nat.mod_le x y
 have hl3 : (canN (x / y)).length ≤ 200000 := Nat.le_trans (canN_mono dq1) (by omega)
 have hl4 : (canN (x % y)).length ≤ 200000 := Nat.le_trans (canN_mono dr1) (by omega)
 have hmq := fun w' h => make1_any s A3 (canN (x / y)) c3 w' (canN_lim _) h HC3.out (by omega)
 have hmr := fun w' h => make1_any p A4 (canN (x % y)) c4 w' (canN_lim _) h HC4.out (by omega)
 rw [mv_canN, ← HQ.out] at hmq
 rw [mv_canN, ← HR.out] at hmr
 have HMQ := hQ0 hmq
 have HMR := hQ0 hmr
 clear hmq hmr dq1 dr1
 go_wp2_with fail
 refine wp_region_float (w.heap.size + 1 + 1) 13 (by omega) (fun W => LAt W A3 (canN (x / y)) ∧ LAt W A4 (canN (x % y)) ∧ C2 W (w.heap.size + 1 + 1) (.bool false) (.slice none 0 0) ∧ C2 W (w.heap.size + 1 + 1 + 1) (.bool false) (.slice none 0 0)) (⟨HF10.out.1, HF10.out.2, ⟨by assumption, by assumption, by assumption⟩, ⟨by assumption, by assumption, by assumption⟩⟩) ((LAt.cl _ _).and ((LAt.cl _ _).and ((C2.cl _ _ _).and (C2.cl _ _ _)))) (by kernel_rfl) (by simp) ?_
 refine wpI_start [0, 1, 2, 3, 4, 5] ?_; (iterate 6 (first | (apply wpI_step rfl (by kernel_rfl) rfl; (focus (intro W' hS; have hcS := hS.cells; go_simp; (iterate 2 (first | done | exact rfl | exact bB _ | go_simp)))); intro K hK; go_simp; (try go_bits); refine hK _ ?_; clear hK K))); refine wpI_nil ?_
 refine wpI_start [7, 8, 9] ?_; (iterate 3 (first | (apply wpI_step rfl (by kernel_rfl) rfl; (focus (intro W' hS; have hcS := hS.cells; go_simp; (iterate 2 (first | done | exact rfl | exact bB _ | go_simp)))); intro K hK; go_simp; (try go_bits); refine hK _ ?_; clear hK K))); refine wpI_nil ?_
 apply wpF_call (i := 6) rfl (by kernel_rfl) (by kernel_rfl); intro W hF hS; have hcS := hS.1.cells; go_simp; (go_at_call 71; refine (HMQ.out _ hF.1).mono ?_; rintro e w12 ⟨hb_w12, v5, rfl, A5, c5, rfl, hc5, hA5⟩; refine XPost.mk _ (fun W => LAt W A5 (canN Q.natAbs)) hb_w12 (hA5) (LAt.cl _ _) ?_); clear hb_w12 hcS hS hF
 intro K hK; go_simp; (try go_bits); refine hK _ ?_; clear hK K
 have HC5 := hQ0 hc5
 clear hA5 hc5
 apply wpF_call (i := 10) rfl (by kernel_rfl) (by kernel_rfl); intro W hF hS; have hcS := hS.1.cells; go_simp; (go_at_call 71; refine (HMR.out _ hF.1.2.1).mono ?_; rintro e w13 ⟨hb_w13, v6, rfl, A6, c6, rfl, hc6, hA6⟩; refine XPost.mk _ (fun W => LAt W A6 (canN R.natAbs)) hb_w13 (hA6) (LAt.cl _ _) ?_); clear hb_w13 hcS hS hF
 intro K hK; go_simp; (try go_bits); refine hK _ ?_; clear hK K
 have HC6 := hQ0 hc6
 clear hA6 hc6
 apply wpF_wild (i := 11) rfl (by kernel_rfl) (by kernel_rfl); intro W hF hS; have hcS := hS.1.cells; have k0 := hF.1.1.2.2.1.1; have k1 := hF.1.1.2.2.1.2.1; have k2 := hF.1.1.2.2.1.2.2; have k3 := hF.1.1.2.2.1.lt; go_simp
 refine WPost.mk _ (fun W' => LAt W' A5 (canN Q.natAbs) ∧ LAt W' A6 (canN R.natAbs) ∧ C2 W' (w.heap.size + 1 + 1) (.bool (decide (Q < 0))) (.slice A5 (canN Q.natAbs).length c5) ∧ C2 W' (w.heap.size + 1 + 1 + 1) (.bool false) (.slice none 0 0)) [] ⟨hF.1.2.set2 k0 k1 _ _, LAt.set2 hF.2 k0 k1 _ _, hF.1.1.2.2.1.set _ _, hF.1.1.2.2.2.far (by omega) _ _⟩ ((LAt.cl _ _).and ((LAt.cl _ _).and ((C2.cl _ _ _).and (C2.cl _ _ _)))) ⟨(hS.1.setCell (by simp) _).setCell (by simp) _, fun p hp => by cases hp⟩ ?_
 clear k0 k1 k2 k3 hcS hS hF
 intro K hK; go_simp; refine hK _ ?_; clear hK K
 apply wpF_wild (i := 12) rfl (by kernel_rfl) (by kernel_rfl); intro W hF hS; have hcS := hS.1.cells; have k0 := hF.2.2.2.1; have k1 := hF.2.2.2.2.1; have k2 := hF.2.2.2.2.2; have k3 := hF.2.2.2.lt; go_simp
 refine WPost.mk _ (fun W' => LAt W' A5 (canN Q.natAbs) ∧ LAt W' A6 (canN R.natAbs) ∧ C2 W' (w.heap.size + 1 + 1) (.bool (decide (Q < 0))) (.slice A5 (canN Q.natAbs).length c5) ∧ C2 W' (w.heap.size + 1 + 1 + 1) (.bool (decide (R < 0))) (.slice A6 (canN R.natAbs).length c6)) [] ⟨hF.1.set2 k0 k1 _ _, hF.2.1.set2 k0 k1 _ _, hF.2.2.1.far (by omega) _ _, hF.2.2.2.set _ _⟩ ((LAt.cl _ _).and ((LAt.cl _ _).and ((C2.cl _ _ _).and (C2.cl _ _ _)))) ⟨(hS.1.setCell (by simp <;> omega) _).setCell (by simp <;> omega) _, fun p hp => by cases hp⟩ ?_
 clear k0 k1 k2 k3 hcS hS hF
 intro K hK; go_simp; refine hK _ ?_; clear hK K
 refine wpF_done (by kernel_rfl) ?_
 intro w14 hF14 hSG
 have HB14 := hQ0 (HB10.out.trans (hSG.1.2.mono (by omega)))
 have HF14 := hQ0 hF14
 have r0 := hF14.2.2.1.1
 have r1 := hF14.2.2.1.2.1
 have r2 := hF14.2.2.2.1
 have r3 := hF14.2.2.2.2.1
 have r4 := hF14.2.2.1.lt
 have r5 := hF14.2.2.2.lt
 clear hF14 hSG
 (try simp only [List.drop_succ_cons, List.drop_zero])
 go_wp2_with fail
 refine bodyPost_ret (v := .tuple #[.agg #[.bool (decide (Q < 0)), .slice A5 (canN Q.natAbs).length c5], .agg #[.bool (decide (R < 0)), .slice A6 (canN R.natAbs).length c6]]) (by simp only [results, Tryz.results46]; go_simp) rfl ⟨?_, ?_⟩
 · exact HB14.out
 · exact ⟨_, _, rfl, ⟨A5, c5, rfl, HC5.out, HF14.out.1⟩, ⟨A6, c6, rfl, HC6.out, HF14.out.2.1⟩⟩
theorem wquol_any (A B : Option Addr) (x y c d : Nat) (w : World) (hn : (canN x).length ≤ 200000) (hn' : (canN y).length ≤ 200000) (hA : LAt w A (canN x)) (hB : LAt w B (canN y)) (hy : y ≠ 0) :
  Calls Tryz.prog 95 #[.slice A (canN x).length c, .slice B (canN y).length d] w (WDivOut 400000 400000 ((x / y : Nat) : Int) ((x % y : Nat) : Int) w) := by
 rcases Nat.lt_or_ge x y with h | h
 · exact wquol_less A B x y c d w (by omega) (by omega) hA hB h
 · have h0 : (canN y).length ≠ 0 := fun e => hy (canN_len0.1 e)
   by_cases h1 : (canN y).length = 1
   · exact wquol_one A B x y c d w (by omega) hA hB h h1
   · obtain ⟨m, hm⟩ : ∃ m, (canN y).length = m + 2 := ⟨(canN y).length - 2, by omega⟩
     exact wquol_knuth A B x y c d m w hn hA hB h hm
set_option maxRecDepth 100000 in
set_option maxHeartbeats 4000000 in
theorem wquo_any (n : Nat) (u v : Value) (a b : Int) (w : World) (ha : IsZ w u n a) (hb : IsZ w v n b) (hn : n ≤ 200000) (hb0 : b ≠ 0) :
  Calls Tryz.prog 60 #[u, v] w (DOut (a.tdiv b) (a.tmod b) w) := by
 have HA := hQ0 ha
 have HB := hQ0 hb
 have la := isZ_len ha
 have lb := isZ_len hb
 obtain ⟨p, A, c, l, rfl⟩ := isZ_val ha
 obtain ⟨p', A', c', l', rfl⟩ := isZ_val hb
 have hml := fun w' (h : Below w.heap.size w w') => wlimbs_any n _ a w' (HA.out.below h) (by omega)
 have hmr := fun w' (h : Below w.heap.size w w') => wlimbs_any n _ b w' (HB.out.below h) (by omega)
 obtain ⟨t1, t2⟩ := sv_tdiv (sv_natAbs a).1.symm (sv_natAbs b).1.symm
 have hy0 : b.natAbs ≠ 0 := by omega
 obtain ⟨sp, hsp⟩ : ∃ sp, sp = decide (a < 0) := ⟨_, rfl⟩
 obtain ⟨sq, hsq⟩ : ∃ sq, sq = decide (b < 0) := ⟨_, rfl⟩
 obtain ⟨x, hx⟩ : ∃ x, x = a.natAbs := ⟨_, rfl⟩
 obtain ⟨y, hy⟩ : ∃ y, y = b.natAbs := ⟨_, rfl⟩
 unfold LimOut at hml hmr
 rw [← hx, ← hsp] at hml
 rw [← hy, ← hsq] at hmr
 rw [← hx] at la
 rw [← hy] at lb hy0
 rw [← hx, ← hy, ← hsp, ← hsq] at t1
 rw [← hx, ← hy, ← hsp] at t2
 obtain ⟨Q, hQ⟩ : ∃ Q, Q = a.tdiv b := ⟨_, rfl⟩
 obtain ⟨R, hR⟩ : ∃ R, R = a.tmod b := ⟨_, rfl⟩
 rw [← hQ] at t1 ⊢
 rw [← hR] at t2 ⊢
 have HML := hQ0 hml
 have HMR := hQ0 hmr
 have HQ := hQ0 t1
 have HR := hQ0 t2
 have hdv := fun A B c d w hA hB => wquol_any A B x y c d w (by omega) (by omega) hA hB hy0
 have HDV := hQ0 hdv
 clear hml hmr t1 t2 hsp hsq hx hy hQ hR ha hb hdv hy0 hb0 HA HB
 go_enter Tryz.func60, Tryz.ntmps60; (try simp only [List.append_eq, List.cons_append, List.nil_append])
 go_wp2_with fail
 (go_at_call 89; refine (HML.out _ (by ((with_reducible (repeat (first | exact bR _ _ | apply bS | apply bA | apply bD | refine bT ?_ (by assumption) ?_ | refine bO (by assumption) ?_ ?_))) <;> (first | omega | (simp <;> omega))))).mono ?_; rintro e w1 ⟨hb_w1, A1, c1, rfl, hc1, hA1⟩; have hz_w1 := hb_w1.size; (try simp at hz_w1); (with_reducible apply cal2 (b := w.heap.size) hb_w1); (focus (go_simp; try exact ⟨rfl, rfl⟩)); intro cc cc fz hl; (with_reducible apply cal2 (b := w.heap.size + 1) hb_w1); (focus (go_simp; try exact ⟨rfl, rfl⟩)); intro cc cc fz hl; (with_reducible apply cal2 (b := w.heap.size + 1 + 1) hb_w1); (focus (go_simp; try exact ⟨rfl, rfl⟩)); intro cc cc fz hl; (with_reducible apply cal2 (b := w.heap.size + 1 + 1 + 1) hb_w1); (focus (go_simp; try exact ⟨rfl, rfl⟩)); intro cc cc fz hl)
 have HA1 := hQ0 hA1
 have HB1 := hQ0 (show Below w.heap.size w w1 by ((with_reducible (repeat (first | exact bR _ _ | apply bS | apply bA | apply bD | refine bT ?_ (by assumption) ?_ | refine bO (by assumption) ?_ ?_))) <;> (first | omega | (simp <;> omega))))
 have hz1 : w.heap.size + 1 + 1 + 1 + 1 ≤ w1.heap.size := by omega
 clear hc1 hA1 hb_w1 hz_w1
 go_wp2_with fail
 (go_at_call 89; refine (HMR.out _ HB1.out).mono ?_; rintro e w2 ⟨hb_w2, A2, c2, rfl, hc2, hA2⟩; have hz_w2 := hb_w2.size; (try simp at hz_w2); (with_reducible apply cal2 (b := w.heap.size) hb_w2); (focus (go_simp; try exact ⟨rfl, rfl⟩)); intro cc cc fz hl; (with_reducible apply cal2 (b := w.heap.size + 1) hb_w2); (focus (go_simp; try exact ⟨rfl, rfl⟩)); intro cc cc fz hl; (with_reducible apply cal2 (b := w.heap.size + 1 + 1) hb_w2); (focus (go_simp; try exact ⟨rfl, rfl⟩)); intro cc cc fz hl; (with_reducible apply cal2 (b := w.heap.size + 1 + 1 + 1) hb_w2); (focus (go_simp; try exact ⟨rfl, rfl⟩)); intro cc cc fz hl)
 have HA2 := hQ0 hA2
 have HA12 := hQ0 (HA1.out.below hb_w2)
 have HB2 := hQ0 (HB1.out.trans (hb_w2.mono (by omega)))
 have hz2 : w.heap.size + 1 + 1 + 1 + 1 ≤ w2.heap.size := by omega
 clear hc2 hA2 hb_w2 hz_w2
 go_wp2_with fail
 (go_at_call 95; refine (HDV.out A1 A2 c1 c2 w2 HA12.out HA2.out).mono ?_; rintro e w3 ⟨hb_w3, B1, d1, l1, B2, d2, l2, rfl, hd1, hd2, hl1, hl2, hm1, hm2, hk1, hk2, hA3, hA4⟩; have hz_w3 := hb_w3.size; (try simp at hz_w3); (with_reducible apply cal2 (b := w.heap.size) hb_w3); (focus (go_simp; try exact ⟨rfl, rfl⟩)); intro cc cc fz hl; (with_reducible apply cal2 (b := w.heap.size + 1) hb_w3); (focus (go_simp; try exact ⟨rfl, rfl⟩)); intro cc cc fz hl; (with_reducible apply cal2 (b := w.heap.size + 1 + 1) hb_w3); (focus (go_simp; try exact ⟨rfl, rfl⟩)); intro cc cc fz hl; (with_reducible apply cal2 (b := w.heap.size + 1 + 1 + 1) hb_w3); (focus (go_simp; try exact ⟨rfl, rfl⟩)); intro cc cc fz hl)
 have hmk1 := fun w' (h : LAt w' B1 l1) => wmade_any (sp != sq) B1 l1 d1 w' hl1 h hd1 (by omega)
 have hmk2 := fun w' (h : LAt w' B2 l2) => wmade_any sp B2 l2 d2 w' hl2 h hd2 (by omega)
 rw [hm1, ← HQ.out] at hmk1
 rw [hm2, ← HR.out] at hmk2
 have HK1 := hQ0 hmk1
 have HK2 := hQ0 hmk2
 have HA3 := hQ0 hA3
 have HA4 := hQ0 hA4
 have HB3 := hQ0 (HB2.out.trans (hb_w3.mono (by omega)))
 have hz3 : w.heap.size + 1 + 1 + 1 + 1 ≤ w3.heap.size := by omega
 clear hmk1 hmk2 hd1 hd2 hl1 hl2 hm1 hm2 hk1 hk2 hA3 hA4 hb_w3 hz_w3
 go_wp2_with fail
 (go_at_call 91; refine (HK1.out _ HA3.out).mono ?_; rintro e w4 ⟨hb_w4, v4, rfl, A5, c5, rfl, hc5, hA5⟩; have hz_w4 := hb_w4.size; (try simp at hz_w4); (with_reducible apply cal2 (b := w.heap.size) hb_w4); (focus (go_simp; try exact ⟨rfl, rfl⟩)); intro cc cc fz hl; (with_reducible apply cal2 (b := w.heap.size + 1) hb_w4); (focus (go_simp; try exact ⟨rfl, rfl⟩)); intro cc cc fz hl; (with_reducible apply cal2 (b := w.heap.size + 1 + 1) hb_w4); (focus (go_simp; try exact ⟨rfl, rfl⟩)); intro cc cc fz hl; (with_reducible apply cal2 (b := w.heap.size + 1 + 1 + 1) hb_w4); (focus (go_simp; try exact ⟨rfl, rfl⟩)); intro cc cc fz hl)
 have HA44 := hQ0 (HA4.out.below hb_w4)
 have HA5 := hQ0 hA5
 have HC5 := hQ0 hc5
 have HB4 := hQ0 (HB3.out.trans (hb_w4.mono (by omega)))
 have hz4 : w.heap.size + 1 + 1 + 1 + 1 ≤ w4.heap.size := by omega
 clear hA5 hc5 hb_w4 hz_w4
 go_wp2_with fail
 (go_at_call 91; refine (HK2.out _ HA44.out).mono ?_; rintro e w5 ⟨hb_w5, v5, rfl, A6, c6, rfl, hc6, hA6⟩; have hz_w5 := hb_w5.size; (try simp at hz_w5); (with_reducible apply cal2 (b := w.heap.size) hb_w5); (focus (go_simp; try exact ⟨rfl, rfl⟩)); intro cc cc fz hl; (with_reducible apply cal2 (b := w.heap.size + 1) hb_w5); (focus (go_simp; try exact ⟨rfl, rfl⟩)); intro cc cc fz hl; (with_reducible apply cal2 (b := w.heap.size + 1 + 1) hb_w5); (focus (go_simp; try exact ⟨rfl, rfl⟩)); intro cc cc fz hl; (with_reducible apply cal2 (b := w.heap.size + 1 + 1 + 1) hb_w5); (focus (go_simp; try exact ⟨rfl, rfl⟩)); intro cc cc fz hl)
 have HA55 := hQ0 (HA5.out.below hb_w5)
 have HA6 := hQ0 hA6
 have HC6 := hQ0 hc6
 have HB5 := hQ0 (HB4.out.trans (hb_w5.mono (by omega)))
 have hz5 : w.heap.size + 1 + 1 + 1 + 1 ≤ w5.heap.size := by omega
 clear hA6 hc6 hb_w5 hz_w5
 have HC1 := hQ0 (show C2 w5 (w.heap.size + 1 + 1) (.bool false) (.slice none 0 0) from ⟨by assumption, by assumption, by assumption⟩)
 have HC2 := hQ0 (show C2 w5 (w.heap.size + 1 + 1 + 1) (.bool false) (.slice none 0 0) from ⟨by assumption, by assumption, by assumption⟩)
 go_wp2_with fail
 have e1 : ¬ (w.heap.size + 1 + 1 + 1 = w.heap.size + 1 + 1) := by omega
 have e2 : ¬ (w.heap.size + 1 + 1 = w.heap.size + 1 + 1 + 1) := by omega
 refine bodyPost_ret (v := .tuple #[.agg #[.bool (decide (Q < 0)), .slice A5 (canN Q.natAbs).length c5], .agg #[.bool (decide (R < 0)), .slice A6 (canN R.natAbs).length c6]]) (by simp only [results, Tryz.results60]; go_simp) rfl ⟨?_, ?_⟩
 · exact (((HB5.out.setCell (by simp <;> omega) _).setCell (by simp <;> omega) _).setCell (by simp <;> omega) _).setCell (by simp <;> omega) _
 · have k1 := HC1.out
   have k2 := (HC2.out.far e1 (.bool (decide (Q < 0))) (.slice A5 (canN Q.natAbs).length c5))
   exact ⟨_, _, rfl, ⟨A5, c5, rfl, HC5.out, (HA55.out.set2 k1.1 k1.2.1 _ _).set2 k2.1 k2.2.1 _ _⟩, ⟨A6, c6, rfl, HC6.out, (HA6.out.set2 k1.1 k1.2.1 _ _).set2 k2.1 k2.2.1 _ _⟩⟩
set_option maxRecDepth 100000 in
set_option maxHeartbeats 1000000 in
theorem wgcduint_any (a b : Int) (w : World) (a0 : 0 ≤ a) (a1 : a < 18446744073709551616) (b0 : 0 ≤ b) (b1 : b < 18446744073709551616) :
  Calls Tryz.prog 115 #[.int .u64 a, .int .u64 b] w fun e w' => e = .returned (.int .u64 (Nat.gcd a.toNat b.toNat)) ∧ Below w.heap.size w w' := by
 obtain ⟨G, hG⟩ : ∃ G : Int, G = (Nat.gcd a.toNat b.toNat : Nat) := ⟨_, rfl⟩
 rw [← hG]
 have HG := hQ0 hG
 clear hG
 go_enter Tryz.func115, Tryz.ntmps115; (try simp only [List.append_eq, List.cons_append, List.nil_append])
 go_wp2_with fail
 go_loopw [0, 1] (fun va vb wr => ∃ x y : Int, va = .int .u64 x ∧ vb = .int .u64 y ∧ 0 ≤ x ∧ x < 18446744073709551616 ∧ 0 ≤ y ∧ y < 18446744073709551616 ∧ Hid (G = (Nat.gcd x.toNat y.toNat : Nat)) ∧ Below w.heap.size w wr) (fun _ vb _ => (intOf vb).toNat)
 case atStart => exact ⟨a, b, rfl, rfl, a0, a1, b0, b1, HG, Below.refl _ _⟩
 case round =>
  obtain ⟨x, y, rfl, rfl, x0, x1, y0, y1, HXY, hbel⟩ := hrel
  have HB := hQ0 hbel
  have hz := hbel.size
  clear hbel
  by_cases h0 : y = 0
  · have hg : G = x := by rw [HXY.out, h0, show (0 : Int).toNat = 0 from rfl, Nat.gcd_zero_right]; omega
    have e1 : ¬ (0 : Int) < y := by omega
    subst hg
    clear h0
    go_wp2_with fail
    go_ret
    exact ⟨rfl, HB.out⟩
  · have e1 : (0 : Int) < y := by omega
    have e2 : (y == 0) = false := by rw [beq_eq_false_iff_ne]; omega
    have e3 : ¬ y = 0 := by omega
    obtain ⟨r, hr⟩ : ∃ r, r = x % y := ⟨_, rfl⟩
    have e4 : x.tmod y = r := by rw [hr]; exact Int.tmod_eq_emod_of_nonneg x0
    have e5 : x % y = r := hr.symm
    have r0 : 0 ≤ r := by rw [hr]; exact Int.emod_nonneg _ e3
    have r1 : r < y := by rw [hr]; exact Int.emod_lt_of_pos _ e1
    have HRR := hQ0 hr
    clear hr h0
    go_wp2_with fail
    refine wp_region_warm (Own wr.heap.size wr) (by kernel_rfl) (by kernel_rfl) (Own.refl (Nat.le_refl _)).drew ?_
    repeat (first | (refine wpWarm_step_off rfl (fun K hK => ?_); (go_simp; refine hK _ ?_; clear hK K)) | (apply wpWarm_step rfl; (focus (intro W' hS; have hcS := hS.cells; go_simp; (first | done | exact rfl | exact ⟨rfl, hS⟩ | (go_simp; exact rfl)))); (intro K hK; go_simp; (try go_bits); refine hK _ ?_; clear hK K)) | (apply wpWarm_step_on rfl; (focus (intro W' hS; have hcS := hS.cells; go_simp; (first | done | exact rfl | exact ⟨rfl, hS⟩ | (go_simp; exact rfl)))); (intro K hK; go_simp; (try go_bits); refine hK _ ?_; clear hK K)))
    refine wpWarm_nil ?_
    intro w4 hO
    have HB4 := hQ0 (HB.out.trans (hO.2.mono hz))
    clear hO
    go_wp2_with fail
    go_roundw
    case rel =>
     refine ⟨y, r, rfl, rfl, y0, y1, r0, by omega, hQ0 ?_, HB4.out⟩
     rw [HXY.out, HRR.out, Nat.gcd_comm x.toNat, Nat.gcd_rec, Nat.gcd_comm]
     rw [Int.toNat_emod x0 y0]
    case measure => simp [intOf]; omega
section
variable {P : Program} {ops : Array Oper} {md : Region.Mode} {N : Nat} {W0 : World}
theorem SG.same {G G' : List (Nat × Obj)} {W : World} (h : ∀ p, p ∈ G ↔ p ∈ G') (hS : SG N W0 G W) : SG N W0 G' W := ⟨hS.1, fun p hp => hS.2 p ((h p).2 hp)⟩
theorem same_cons {G G' : List (Nat × Obj)} (h : ∀ p, p ∈ G ↔ p ∈ G') (q : Nat × Obj) : ∀ p, p ∈ q :: G ↔ p ∈ q :: G' := fun p => by simp [h p]
def LInv (L : GK) : Prop := ∀ F G G' a, (∀ p, p ∈ G ↔ p ∈ G') → L F G a → L F G' a
theorem wfOp_same {i : Nat} {a : Act} {F : World → Prop} {G G' : List (Nat × Obj)} {K : GK} (hK : LInv K) (h : ∀ p, p ∈ G ↔ p ∈ G') (hh : wfOp P ops N W0 i K F G a) : wfOp P ops N W0 i K F G' a := by
 unfold wfOp at *
 split
 · rename_i ho; simp only [ho] at hh
 · rename_i o ho
   simp only [ho] at hh
   split at hh
   · rename_i ha
     rw [if_pos ha]
     obtain ⟨ob, hf, hk⟩ := hh
     exact ⟨ob, hf, fun g hN hg => hK _ _ _ _ (same_cons h _) (hk g hN (fun p hp => hg p ((h p).1 hp)))⟩
   · rename_i ha
     rw [if_neg ha]
     rcases hh with ⟨v, hy, hk⟩ | ⟨hw, hx⟩ | ⟨hw, hx⟩
     · exact .inl ⟨v, hy, hK _ _ _ _ h hk⟩
     · exact .inr (.inl ⟨hw, fun W hF hS => hx W hF (hS.same (fun p => (h p).symm))⟩)
     · exact .inr (.inr ⟨hw, fun W hF hS => givesX_mono (fun v F' hk => hK _ _ _ _ h hk) _ (hx W hF (hS.same (fun p => (h p).symm)))⟩)
theorem wpF_same {n : Nat} {L : GK} (hL : LInv L) : ∀ (f : Nat) (listed : Array Bool), LInv (wpF P md ops N W0 n L f listed)
 | 0, listed => fun F G G' a h hh => ⟨hh.1, hL _ _ _ _ h hh.2⟩
 | f + 1, listed => fun F G G' a h hh => ⟨hh.1, fun i hi => wfOp_same (wpF_same hL f _) h (hh.2 i hi)⟩
theorem wpF_freshfirst {i n : Nat} {oi : Oper} {L : GK} (hL : LInv L) (hsel : ∀ (j : Nat) (o : Oper) cs b, ops[j]? = some o → o.op ≠ .select cs b) (hi : ops[i]? = some oi) (hai : isAlloc oi = true) (ob : Obj) (hfr : ∀ a', FreshF P ops oi a' ob)
  (hob : ∀ (j : Nat) (oj : Oper), ops[j]? = some oj → isAlloc oj = true → ∃ ob, ∀ a', FreshF P ops oj a' ob) :
  ∀ (f : Nat) (listed : Array Bool) (F : World → Prop) (G : List (Nat × Obj)) (a : Act), onlyF md ops i f listed = true →
   (∀ g, N ≤ g → (∀ p ∈ G, p.1 ≠ g) → wpF P md ops N W0 n L f (listed.setIfInBounds i true) F ((g, ob) :: G) (a.put oi.dst (.pointer (some ⟨g, 0, none⟩)))) →
   wpF P md ops N W0 n L (f + 1) listed F G a := by
 have here : ∀ (K : GK) (F : World → Prop) (G : List (Nat × Obj)) (a : Act), (∀ g, N ≤ g → (∀ p ∈ G, p.1 ≠ g) → K F ((g, ob) :: G) (a.put oi.dst (.pointer (some ⟨g, 0, none⟩)))) → wfOp P ops N W0 i K F G a := by
  intro K F G a hk
  unfold wfOp
  simp only [hi]
  rw [if_pos hai]
  exact ⟨ob, hfr a, hk⟩
 intro f
 induction f with
 | zero =>
  intro listed F G a hB hx
  simp only [onlyF, decide_eq_true_eq] at hB
  refine ⟨fun h => (by rw [h] at hB; cases hB), fun j hj => ?_⟩
  rw [hB] at hj
  obtain rfl : j = i := by simpa using hj
  exact here _ _ _ _ hx
 | succ f ih =>
  intro listed F G a hB hx
  simp only [onlyF, Bool.and_eq_true, List.all_eq_true] at hB
  obtain ⟨hr, hall⟩ := hB
  have hr : i ∈ Region.ready md ops listed := by simpa using hr
  refine ⟨fun h => (by rw [h] at hr; cases hr), fun j hj => ?_⟩
  by_cases hji : j = i
  · subst hji; exact here _ _ _ _ hx
  · have h1 := hall j hj
    obtain ⟨hjun, oj, hoj, _⟩ := mem_ready.1 hj
    simp only [hi, hoj, Bool.or_eq_true, beq_iff_eq, hji, false_or, Bool.and_eq_true] at h1
    obtain ⟨⟨haj, hap⟩, hon⟩ := h1
    obtain ⟨obj, hfrj⟩ := hob j oj hoj haj
    obtain ⟨p1, p2, p3⟩ := Oper.apart_spec hap
    unfold wfOp
    simp only [hoj]
    rw [if_pos haj]
    refine ⟨obj, hfrj a, fun g' hN' hG' => ih (listed.setIfInBounds j true) F ((g', obj) :: G) _ hon (fun g hN hG => ?_)⟩
    have hne : g' ≠ g := hG (g', obj) (by simp)
    have h2 := (hx g hN (fun p hp => hG p (by simp [hp]))).2 j (ready_mono hj hji)
    unfold wfOp at h2
    simp only [hoj] at h2
    rw [if_pos haj] at h2
    obtain ⟨ob', hf', hk'⟩ := h2
    have hobe : obj = ob' := freshF_ob (hfrj _) hf' rfl W0
    subst hobe
    have h4 := hk' g' hN' (fun p hp => by
     rcases List.mem_cons.1 hp with rfl | hp
     · exact Ne.symm hne
     · exact hG' p hp)
    rw [Array.setIfInBounds_comm _ _ (Ne.symm hji), Act.put_comm a _ _ p2] at h4
    exact wpF_same hL f _ _ _ _ _ (fun p => by simp only [List.mem_cons]; constructor <;> (rintro (h | h | h) <;> simp [h])) h4
def freshB (P : Program) (md : Region.Mode) (ops : Array Oper) (i f : Nat) (listed : Array Bool) : Bool :=
  Region.noSelect ops && onlyF md ops i f listed && allocsB P ops && match ops[i]? with | some o => isAlloc o | none => false
theorem wpF_fresh2 {i f n : Nat} {o : Oper} {L : GK} {listed : Array Bool} {F : World → Prop} {G : List (Nat × Obj)} {a : Act} (hL : LInv L) (hi : ops[i]? = some o) (hB : freshB P md ops i f listed = true) (ob : Obj)
  (h : ∀ W, (execOp a.eval o).run P W = .ok (.value (.pointer (some ⟨W.heap.size, 0, none⟩))) (W.alloc ob))
  (hk : ∀ g, N ≤ g → (∀ p ∈ G, p.1 ≠ g) → ∀ K : Act → Prop, (∀ a, wpF P md ops N W0 n L f (listed.setIfInBounds i true) F ((g, ob) :: G) a → K a) → K (a.put o.dst (.pointer (some ⟨g, 0, none⟩)))) : wpF P md ops N W0 n L (f + 1) listed F G a := by
 simp only [freshB, hi, Bool.and_eq_true] at hB
 obtain ⟨⟨⟨hs, hon⟩, hal⟩, ha⟩ := hB
 obtain ⟨ob', hfr⟩ := allocs_fresh hal i o hi ha
 have hwt : Region.wanted o (yielded ops a.tmps) = true := (hfr a).1
 have e : ob = ob' := freshF_ob ⟨hwt, h⟩ (hfr a) rfl W0
 subst e
 exact wpF_freshfirst hL (Region.noSelect_spec hs) hi ha ob hfr (fun j oj hj haj => allocs_fresh hal j oj hj haj) f listed F G a hon (fun g hN hg => hk g hN hg _ fun _ h => h)
end
theorem PB_pow (k : Nat) : PB k = 2 ^ (32 * k) := by
 unfold PB
 rw [show (4294967296 : Int) = 2 ^ 32 from rfl, ← Int.pow_mul]
set_option maxRecDepth 100000 in
set_option maxHeartbeats 2000000 in
theorem wasuint_any (p : Bool) (A : Option Addr) (l : List Int) (c : Nat) (w : World) (hL : Lim l) (hA : LAt w A l) (hl : l.length ≤ 2) :
  Calls Tryz.prog 116 #[.agg #[.bool p, .slice A l.length c]] w fun e w' => e = .returned (.int .u64 (mv l)) ∧ Below w.heap.size w w' := by
 have HL := hQ0 hL
 have HA := hQ0 (hA.alloc (.cells #[.bool p, .slice A l.length c] 44))
 clear hL hA
 go_enter Tryz.func116, Tryz.ntmps116; (try simp only [List.append_eq, List.cons_append, List.nil_append])
 go_wp2_with fail
 have HB := hQ0 (show Below w.heap.size w (w.alloc (.cells #[.bool p, .slice A l.length c] 44)) by ((with_reducible (repeat (first | exact bR _ _ | apply bS | apply bA | apply bD | refine bT ?_ (by assumption) ?_ | refine bO (by assumption) ?_ ?_))) <;> (first | omega | (simp <;> omega))))
 go_loop [3, 4, 5, 9] (fun vn _ _ vi => ∃ (k : Nat) (n : Int), k ≤ l.length ∧ vi = .int .i64 k ∧ vn = .int .u64 n ∧ Hid (n = mv (l.take k))) (fun _ _ _ vi => l.length - (intOf vi).toNat)
 case atStart => exact ⟨0, 0, by omega, rfl, rfl, hQ0 (by simp [mv])⟩
 case round =>
  obtain ⟨k, n, hk, rfl, rfl, HN⟩ := hrel
  have i1 : (0 : Int) ≤ (k : Int) := by omega
  by_cases hkl : k < l.length
  · obtain ⟨x, hx⟩ : ∃ x, l[k]? = some x := ⟨l[k], by simp⟩
    obtain ⟨g, o, rfl, hg, hcell⟩ := HA.out k x hx
    obtain ⟨x0, x1⟩ := HL.out.get hx
    have j1 : (k : Int) < (l.length : Int) := by omega
    have hk1 : k ≤ 1 := by omega
    obtain ⟨m, hm⟩ : ∃ m, m = 32 * k := ⟨_, rfl⟩
    have e1 : (32 : Int) * (k : Int) = (m : Int) := by omega
    have e2 : min m 64 = m := by omega
    have m0 : (0 : Int) ≤ (m : Int) := by omega
    have m1 : (m : Int) ≤ 32 := by omega
    have hP : PB k = 2 ^ m := by rw [hm]; exact PB_pow k
    have hP1 : PB k = 1 ∨ PB k = 4294967296 := by
     have : k = 0 ∨ k = 1 := by omega
     rcases this with h | h
     · left; rw [h]; rfl
     · right; rw [h]; rfl
    obtain ⟨S, hS⟩ : ∃ S, S = x * PB k := ⟨_, rfl⟩
    have S0 : 0 ≤ S := by rw [hS]; exact Int.mul_nonneg x0 (by omega)
    have S1 : S < 18446744073709551616 := by
     rw [hS]
     rcases hP1 with h | h
     · rw [h]; omega
     · rw [h]; omega
    have n0 : 0 ≤ n := by rw [HN.out]; exact mv_nonneg (HL.out.take k)
    have n1 : n < PB k := by
     have h := mv_lt (HL.out.take k)
     rw [List.length_take, Nat.min_eq_left hk] at h
     rw [HN.out]; exact h
    have hw : IntKind.u64.wrap (x * 2 ^ m) = S := by rw [← hP, ← hS]; exact wraps_u64' S S0 S1
    have hor : bits .or .u64 n S = n + S := by
     refine bits_join_low .u64 64 (by decide) wraps_u64' m n S n0 (by rw [← hP]; exact n1) (by omega) S0 ?_ S1
     rw [hS, hP]
     exact Int.mul_emod_left _ _
    have HST := hQ0 (show n + S = mv (l.take (k + 1)) by rw [mv_take_succ hx, HN.out, hS, Int.mul_comm])
    clear hx hm hP hP1 hS n1
    go_wp2_with fail
    go_round
    case rel => exact ⟨k + 1, n + S, by omega, by go_num, rfl, HST⟩
    case measure => simp [intOf]; omega
  · obtain rfl : k = l.length := by omega
    have hf : n = mv l := by rw [HN.out, List.take_length]
    have HF := hQ0 hf
    have j5 : ¬ (l.length : Int) < (l.length : Int) := by omega
    clear hf
    go_wp2_with fail
    go_ret
    exact ⟨by rw [HF.out]; rfl, HB.out⟩
theorem C2.of_row {W : World} {g : Nat} {u v : Value} {T : TypeId} (h : W.heap[g]? = some (.cells #[u, v] T)) : C2 W g u v :=
 ⟨(cell_of_row W g 0 _ _ _ h).trans rfl, (cell_of_row W g 1 _ _ _ h).trans rfl, fun o => frozen_of_row W g o _ _ h⟩
theorem C2.below {W W' : World} {b : Nat} {u v : Value} (h : C2 W b u v) (hb : Below W.heap.size W W') : C2 W' b u v := C2.cl b u v W W' h hb
def NOut (X : Nat) (w : World) (e : Ending) (w' : World) : Prop := Below w.heap.size w w' ∧ ∃ A c, e = .returned (.agg #[.bool false, .slice A (canN X).length c]) ∧ (canN X).length ≤ c ∧ LAt w' A (canN X)
theorem ZOut.nat {X : Nat} {w w' : World} {e : Ending} (h : ZOut (X : Int) w e w') : NOut X w e w' := by
 obtain ⟨hb, v, rfl, A, c, rfl, hc, hA⟩ := h
 have e1 : decide ((X : Int) < 0) = false := by simp
 rw [Int.natAbs_natCast] at hc hA
 rw [Int.natAbs_natCast, e1]
 exact ⟨hb, A, c, rfl, hc, hA⟩
theorem NOut.z {X : Nat} {w w' : World} {e : Ending} (h : NOut X w e w') : ZOut (X : Int) w e w' := by
 obtain ⟨hb, A, c, rfl, hc, hA⟩ := h
 exact ⟨hb, _, rfl, A, c, by rw [Int.natAbs_natCast, show decide ((X : Int) < 0) = false by simp], by rw [Int.natAbs_natCast]; exact hc, by rw [Int.natAbs_natCast]; exact hA⟩
theorem dec_nat (k : Nat) : decide ((k : Int) < 0) = false := by rw [decide_eq_false_iff_not]; omega
def NDOut (q r : Nat) (w : World) (e : Ending) (w' : World) : Prop := Below w.heap.size w w' ∧ ∃ A c B d, e = .returned (.tuple #[.agg #[.bool false, .slice A (canN q).length c], .agg #[.bool false, .slice B (canN r).length d]]) ∧ (canN q).length ≤ c ∧ (canN r).length ≤ d ∧ LAt w' A (canN q) ∧ LAt w' B (canN r)
theorem DOut.nat {X Y : Nat} {w w' : World} {e : Ending} (h : DOut ((X : Int).tdiv Y) ((X : Int).tmod Y) w e w') : NDOut (X / Y) (X % Y) w e w' := by
 have e1 : (X : Int).tdiv Y = ((X / Y : Nat) : Int) := rfl
 have e2 : (X : Int).tmod Y = ((X % Y : Nat) : Int) := rfl
 rw [e1, e2] at h
 obtain ⟨hb, _, _, rfl, ⟨A, c, rfl, hc, hA⟩, ⟨B, d, rfl, hd, hB⟩⟩ := h
 rw [Int.natAbs_natCast] at hc hA hd hB
 rw [Int.natAbs_natCast, Int.natAbs_natCast, show decide (((X / Y : Nat) : Int) < 0) = false from dec_nat _, show decide (((X % Y : Nat) : Int) < 0) = false from dec_nat _]
 exact ⟨hb, A, c, B, d, rfl, hc, hd, hA, hB⟩
theorem isZ_nat {w : World} {A : Option Addr} {X c n : Nat} (hA : LAt w A (canN X)) (hc : (canN X).length ≤ c) (hn : (canN X).length ≤ n) : IsZ w (.agg #[.bool false, .slice A (canN X).length c]) n X := IsZ.pos hA hc hn
theorem wasuint_nat (A : Option Addr) (X c : Nat) (w : World) (hA : LAt w A (canN X)) (hl : (canN X).length ≤ 2) :
  Calls Tryz.prog 116 #[.agg #[.bool false, .slice A (canN X).length c]] w fun e w' => e = .returned (.int .u64 (X : Int)) ∧ Below w.heap.size w w' := by
 have := wasuint_any false A (canN X) c w (canN_lim X) hA hl
 rwa [mv_canN] at this
theorem word_of_two {X : Nat} (h : (canN X).length ≤ 2) : (X : Int) < 18446744073709551616 := by
 have := canN_len.1 h
 have e : PB 2 = 18446744073709551616 := by decide
 rwa [e] at this
theorem wgcduint_nat (X Y : Nat) (w : World) (hX : (canN X).length ≤ 2) (hY : (canN Y).length ≤ 2) :
  Calls Tryz.prog 115 #[.int .u64 (X : Int), .int .u64 (Y : Int)] w fun e w' => e = .returned (.int .u64 (Nat.gcd X Y : Nat)) ∧ Below w.heap.size w w' := by
 have := wgcduint_any X Y w (by omega) (word_of_two hX) (by omega) (word_of_two hY)
 rwa [Int.toNat_natCast, Int.toNat_natCast] at this
theorem gcd_two {X Y : Nat} (hX : (canN X).length ≤ 2) (hY : (canN Y).length ≤ 2) : (canN (Nat.gcd X Y)).length ≤ 2 := by
 rcases Nat.eq_zero_or_pos X with h | h
 · subst h; rw [Nat.gcd_zero_left]; exact hY
 · exact Nat.le_trans (canN_mono (Nat.gcd_le_left Y h)) hX
theorem wofuint_nat (X : Nat) (w : World) (hX : (canN X).length ≤ 2) : Calls Tryz.prog 114 #[.int .u64 (X : Int)] w (NOut X w) :=
 (wofuint_any X w (by omega) (word_of_two hX)).mono fun _ _ h => h.nat
set_option maxRecDepth 100000 in
set_option maxHeartbeats 4000000 in
theorem wgcd_any (n : Nat) (u v : Value) (a b : Int) (w : World) (ha : IsZ w u n a) (hb : IsZ w v n b) (hn : n ≤ 200000) :
  Calls Tryz.prog 94 #[u, v] w (NOut (Nat.gcd a.natAbs b.natAbs) w) := by
 have HA := hQ0 ha
 have HB := hQ0 hb
 have la := isZ_len ha
 have lb := isZ_len hb
 obtain ⟨p, A, c, l, rfl⟩ := isZ_val ha
 obtain ⟨p', A', c', l', rfl⟩ := isZ_val hb
 obtain ⟨x, hx⟩ : ∃ x, x = a.natAbs := ⟨_, rfl⟩
 obtain ⟨y, hy⟩ : ∃ y, y = b.natAbs := ⟨_, rfl⟩
 have hma := fun w' (h : Below w.heap.size w w') => (wabs_any n _ a w' (HA.out.below h) (by omega)).mono fun _ _ h => h.nat
 have hmb := fun w' (h : Below w.heap.size w w') => (wabs_any n _ b w' (HB.out.below h) (by omega)).mono fun _ _ h => h.nat
 rw [← hx] at hma la
 rw [← hy] at hmb lb
 rw [← hx, ← hy]
 obtain ⟨G, hG⟩ : ∃ G, G = Nat.gcd x y := ⟨_, rfl⟩
 rw [← hG]
 have HG := hQ0 hG
 have HMA := hQ0 hma
 have HMB := hQ0 hmb
 clear ha hb hma hmb hx hy hG HA HB
 go_enter Tryz.func94, Tryz.ntmps94; (try simp only [List.append_eq, List.cons_append, List.nil_append])
 go_wp2_with fail
 have HB0 := hQ0 (show Below w.heap.size w (((w.alloc (.cells #[.bool p, .slice A l c] 44)).alloc (.cells #[.bool p', .slice A' l' c'] 44)).alloc (.cells #[.bool false, .slice none 0 0] 44)) by ((with_reducible (repeat (first | exact bR _ _ | apply bS | apply bA | apply bD | refine bT ?_ (by assumption) ?_ | refine bO (by assumption) ?_ ?_))) <;> (first | omega | (simp <;> omega))))
 (refine pin_wp (N := _) (Nat.le_refl _) (fun w1 hb_w1 hz_w1 => ?_); (try simp at hz_w1); (with_reducible apply cal2 (b := w.heap.size) hb_w1); (focus (go_simp; try exact ⟨rfl, rfl⟩)); intro cc cc fz hl; (with_reducible apply cal2 (b := w.heap.size + 1) hb_w1); (focus (go_simp; try exact ⟨rfl, rfl⟩)); intro cc cc fz hl; (with_reducible apply cal2 (b := w.heap.size + 1 + 1) hb_w1); (focus (go_simp; try exact ⟨rfl, rfl⟩)); intro cc cc fz hl); refine wp_region_float w1.heap.size 8 (Nat.le_refl _) (fun _ => True) trivial Cl.tt (by kernel_rfl) (by simp) ?_
 have HB1 := hQ0 (HB0.out.trans (hb_w1.mono (by simp <;> omega)))
 have hz1 : w.heap.size + 1 + 1 + 1 ≤ w1.heap.size := by omega
 clear hb_w1
 refine wpI_start [0] ?_; (iterate 1 (first | (apply wpI_step rfl (by kernel_rfl) rfl; (focus (intro W' hS; have hcS := hS.cells; go_simp; (iterate 2 (first | done | exact rfl | exact bB _ | go_simp)))); intro K hK; go_simp; (try go_bits); refine hK _ ?_; clear hK K))); refine wpI_nil ?_
 refine wpI_start [2] ?_; (iterate 1 (first | (apply wpI_step rfl (by kernel_rfl) rfl; (focus (intro W' hS; have hcS := hS.cells; go_simp; (iterate 2 (first | done | exact rfl | exact bB _ | go_simp)))); intro K hK; go_simp; (try go_bits); refine hK _ ?_; clear hK K))); refine wpI_nil ?_
 apply wpF_call (i := 1) rfl (by kernel_rfl) (by kernel_rfl); intro W hF hS; have hcS := hS.1.cells; go_simp; (go_at_call 113; refine (HMA.out _ (HB1.out.trans (hS.1.2.mono (by omega)))).mono ?_; rintro e w2 ⟨hb_w2, A1, c1, rfl, hc1, hA1⟩; refine XPost.mk _ (fun W => LAt W A1 (canN x)) hb_w2 (hA1) (LAt.cl _ _) ?_); clear hb_w2 hcS hS hF
 intro K hK; go_simp; (try go_bits); refine hK _ ?_; clear hK K
 have HC1 := hQ0 hc1
 clear hA1 hc1
 apply wpF_call (i := 3) rfl (by kernel_rfl) (by kernel_rfl); intro W hF hS; have hcS := hS.1.cells; go_simp; (go_at_call 113; refine (HMB.out _ (HB1.out.trans (hS.1.2.mono (by omega)))).mono ?_; rintro e w3 ⟨hb_w3, A2, c2, rfl, hc2, hA2⟩; refine XPost.mk _ (fun W => LAt W A2 (canN y)) hb_w3 (hA2) (LAt.cl _ _) ?_); clear hb_w3 hcS hS hF
 intro K hK; go_simp; (try go_bits); refine hK _ ?_; clear hK K
 have HC2 := hQ0 hc2
 clear hA2 hc2
 refine wpF_fresh2 (i := 4) (fun F G G' a h hL w' hF hS => hL w' hF (hS.same (fun p => (h p).symm))) rfl (by kernel_rfl) _ (by intro W; go_simp; first | done | exact rfl) ?_
 intro g_4 hN_4 hG_4 K hK
 go_simp; refine hK _ ?_; clear hK K
 refine wpF_fresh2 (i := 5) (fun F G G' a h hL w' hF hS => hL w' hF (hS.same (fun p => (h p).symm))) rfl (by kernel_rfl) _ (by intro W; go_simp; first | done | exact rfl) ?_
 intro g_5 hN_5 hG_5 K hK
 go_simp; refine hK _ ?_; clear hK K
 have hne : g_4 ≠ g_5 := hG_5 _ (List.mem_cons_self ..)
 apply wpF_wild (i := 6) rfl (by kernel_rfl) (by kernel_rfl); intro W hF hS; have hcS := hS.1.cells; have k4 := C2.of_row (hS.2 _ (List.mem_cons_of_mem _ (List.mem_cons_self ..))).2; have k5 := C2.of_row (hS.2 _ (List.mem_cons_self ..)).2; have a0 := k4.1; have a1 := k4.2.1; have a2 := k4.2.2; have a3 := k4.lt; go_simp
 refine WPost.mk _ (fun W' => LAt W' A1 (canN x) ∧ LAt W' A2 (canN y) ∧ C2 W' g_4 (.bool false) (.slice A1 (canN x).length c1) ∧ C2 W' g_5 (.bool false) (.slice none 0 0)) [] ⟨hF.1.set2 a0 a1 _ _, hF.2.set2 a0 a1 _ _, k4.set _ _, k5.far (Ne.symm hne) _ _⟩ ((LAt.cl _ _).and ((LAt.cl _ _).and ((C2.cl _ _ _).and (C2.cl _ _ _)))) ⟨(hS.1.setCell hN_4 _).setCell hN_4 _, fun p hp => by cases hp⟩ ?_
 clear k4 k5 a0 a1 a2 a3 hcS hS hF
 intro K hK; go_simp; refine hK _ ?_; clear hK K
 apply wpF_wild (i := 7) rfl (by kernel_rfl) (by kernel_rfl); intro W hF hS; have hcS := hS.1.cells; have k5 := hF.2.2.2; have a0 := k5.1; have a1 := k5.2.1; have a2 := k5.2.2; have a3 := k5.lt; go_simp
 refine WPost.mk _ (fun W' => LAt W' A1 (canN x) ∧ LAt W' A2 (canN y) ∧ C2 W' g_4 (.bool false) (.slice A1 (canN x).length c1) ∧ C2 W' g_5 (.bool false) (.slice A2 (canN y).length c2)) [] ⟨hF.1.set2 a0 a1 _ _, hF.2.1.set2 a0 a1 _ _, hF.2.2.1.far hne _ _, k5.set _ _⟩ ((LAt.cl _ _).and ((LAt.cl _ _).and ((C2.cl _ _ _).and (C2.cl _ _ _)))) ⟨(hS.1.setCell hN_5 _).setCell hN_5 _, fun p hp => by cases hp⟩ ?_
 clear k5 a0 a1 a2 a3 hcS hS hF
 intro K hK; go_simp; refine hK _ ?_; clear hK K
 refine wpF_done (by kernel_rfl) ?_
 intro w4 hF4 hSG
 have HB14 := hQ0 hSG.1.2
 have HF4 := hQ0 hF4
 clear hF4 hSG hG_4 hG_5
 (try simp only [List.drop_succ_cons, List.drop_zero])
 go_wp2_with fail
 go_loopg [7] y (fun gk _ wr => ∃ (X Y : Nat) (A B : Option Addr) (c d : Nat), Y = gk ∧ C2 wr g_4 (.bool false) (.slice A (canN X).length c) ∧ C2 wr g_5 (.bool false) (.slice B (canN Y).length d) ∧ Hid (LAt wr A (canN X) ∧ LAt wr B (canN Y) ∧ (canN X).length ≤ c ∧ (canN Y).length ≤ d ∧ G = Nat.gcd X Y) ∧ (canN X).length ≤ n ∧ (canN Y).length ≤ n ∧ Below w1.heap.size w1 wr)
 case atStart => exact ⟨x, y, A1, A2, c1, c2, rfl, HF4.out.2.2.1, HF4.out.2.2.2, hQ0 ⟨HF4.out.1, HF4.out.2.1, HC1.out, HC2.out, HG.out⟩, by omega, by omega, HB14.out⟩
 case round =>
  obtain ⟨X, Y, A3, B3, c3, d3, hgk, hx2, hy2, HR, lx, ly, hbel⟩ := hrel
  subst hgk
  obtain ⟨wo, rfl⟩ : ∃ wo : World, wo = wr := ⟨_, rfl⟩
  have HX := hQ0 hx2
  have HY := hQ0 hy2
  have HBE := hQ0 hbel
  have hz := hbel.size
  have x1 := hx2.1
  have x2 := hx2.2.1
  have x3 := hx2.2.2
  have x4 := hx2.lt
  have y1 := hy2.1
  have y2 := hy2.2.1
  have y3 := hy2.2.2
  have y4 := hy2.lt
  have hb_wo := hbel
  (with_reducible apply cel2 (b := w.heap.size + 1 + 1) hb_wo); ((try simp) <;> omega); omega; (iterate 2 (focus (go_simp; try exact rfl))); (intro o; go_simp); intro cc cc fz hl
  clear hb_wo hbel hx2 hy2
  by_cases h0 : Y = 0
  · have hl0 : (canN Y).length = 0 := canN_len0.2 h0
    have e0 : ¬ (0 : Int) < ((canN Y).length : Int) := by omega
    have hg : G = X := by rw [HR.out.2.2.2.2, h0, Nat.gcd_zero_right]
    subst hg
    clear hl0 h0
    go_wp2_with fail
    refine bodyPost_ret (v := .agg #[.bool false, .slice A3 (canN G).length c3]) (by simp only [results, Tryz.results94]; go_simp) rfl ⟨?_, ?_⟩
    · exact ((HB1.out.trans (HBE.out.mono (by omega))).setCell (by simp <;> omega) _).setCell (by simp <;> omega) _
    · exact ⟨A3, c3, rfl, HR.out.2.2.1, HR.out.1.set2 (by assumption) (by assumption) _ _⟩
  · have hl0 : (canN Y).length ≠ 0 := fun e => h0 (canN_len0.1 e)
    have e0 : (0 : Int) < ((canN Y).length : Int) := by omega
    by_cases h2 : (canN X).length ≤ 2 ∧ (canN Y).length ≤ 2
    · obtain ⟨h2, h3⟩ := h2
      have e2 : ((canN X).length : Int) ≤ 2 := by omega
      have e3 : ((canN Y).length : Int) ≤ 2 := by omega
      clear h0 hl0
      go_wp2_with fail
      (refine pin_wp (N := _) (Nat.le_refl _) (fun w9 hb_w9 hz_w9 => ?_); (try simp at hz_w9); (with_reducible apply cal2 (b := w.heap.size + 1 + 1) hb_w9); (focus (go_simp; try exact ⟨rfl, rfl⟩)); intro cc cc fz hl; (with_reducible apply cal2 (b := g_4) hb_w9); (focus (go_simp; try exact ⟨rfl, rfl⟩)); intro cc cc fz hl; (with_reducible apply cal2 (b := g_5) hb_w9); (focus (go_simp; try exact ⟨rfl, rfl⟩)); intro cc cc fz hl); refine wp_region_float w9.heap.size 6 (Nat.le_refl _) (fun _ => True) trivial Cl.tt (by kernel_rfl) (by simp) ?_
      have HXA := hQ0 (HR.out.1.below hb_w9)
      have HYA := hQ0 (HR.out.2.1.below hb_w9)
      have HB9 := hQ0 (HBE.out.trans (hb_w9.mono hz))
      have H23 := hQ0 (And.intro h2 h3)
      clear hb_w9 x1 x2 x3 x4 y1 y2 y3 y4
      refine wpI_start [0] ?_; (iterate 1 (first | (apply wpI_step rfl (by kernel_rfl) rfl; (focus (intro W' hS; have hcS := hS.cells; go_simp; (iterate 2 (first | done | exact rfl | exact bB _ | go_simp)))); intro K hK; go_simp; (try go_bits); refine hK _ ?_; clear hK K))); refine wpI_nil ?_
      refine wpI_start [2] ?_; (iterate 1 (first | (apply wpI_step rfl (by kernel_rfl) rfl; (focus (intro W' hS; have hcS := hS.cells; go_simp; (iterate 2 (first | done | exact rfl | exact bB _ | go_simp)))); intro K hK; go_simp; (try go_bits); refine hK _ ?_; clear hK K))); refine wpI_nil ?_
      refine wpI_start [1] ?_; (iterate 1 (first | (apply wpI_step rfl (by kernel_rfl) rfl; (focus (intro W' hS; have hcS := hS.cells; go_simp; (first | done | exact rfl | exact ⟨rfl, Below.refl _ _⟩ | (go_at_call 116; exact (wasuint_nat A3 X c3 _ (HXA.out.own hS (Nat.le_refl _)) H23.out.1).mono (fun _ _ h => ⟨h.1, h.2⟩)) | (go_simp; first | done | exact rfl | exact ⟨rfl, Below.refl _ _⟩)))); intro K hK; go_simp; (try go_bits); refine hK _ ?_; clear hK K))); refine wpI_nil ?_
      refine wpI_start [3] ?_; (iterate 1 (first | (apply wpI_step rfl (by kernel_rfl) rfl; (focus (intro W' hS; have hcS := hS.cells; go_simp; (first | done | exact rfl | exact ⟨rfl, Below.refl _ _⟩ | (go_at_call 116; exact (wasuint_nat B3 Y d3 _ (HYA.out.own hS (Nat.le_refl _)) H23.out.2).mono (fun _ _ h => ⟨h.1, h.2⟩)) | (go_simp; first | done | exact rfl | exact ⟨rfl, Below.refl _ _⟩)))); intro K hK; go_simp; (try go_bits); refine hK _ ?_; clear hK K))); refine wpI_nil ?_
      refine wpI_start [4] ?_; (iterate 1 (first | (apply wpI_step rfl (by kernel_rfl) rfl; (focus (intro W' hS; have hcS := hS.cells; go_simp; (first | done | exact rfl | exact ⟨rfl, Below.refl _ _⟩ | (go_at_call 115; exact (wgcduint_nat X Y _ H23.out.1 H23.out.2).mono (fun _ _ h => ⟨h.1, h.2⟩)) | (go_simp; first | done | exact rfl | exact ⟨rfl, Below.refl _ _⟩)))); intro K hK; go_simp; (try go_bits); refine hK _ ?_; clear hK K))); refine wpI_nil ?_
      apply wpF_call (i := 5) rfl (by kernel_rfl) (by kernel_rfl); intro W hF hS; have hcS := hS.1.cells; go_simp; (go_at_call 114; refine (wofuint_nat (Nat.gcd X Y) _ (gcd_two H23.out.1 H23.out.2)).mono ?_; rintro e w10 ⟨hb_w10, A5, c5, rfl, hc5, hA5⟩; refine XPost.mk _ (fun W => LAt W A5 (canN (Nat.gcd X Y))) hb_w10 (hA5) (LAt.cl _ _) ?_); clear hb_w10 hcS hS hF
      intro K hK; go_simp; (try go_bits); refine hK _ ?_; clear hK K
      have HC5 := hQ0 hc5
      clear hA5 hc5
      refine wpF_done (by kernel_rfl) ?_
      intro w11 hF_w11 hSG
      have hz_w11 := hSG.1.1
      have hb_w11 := hSG.1.2
      clear hSG
      (with_reducible apply cel2 (b := w.heap.size + 1 + 1) hb_w11); ((try simp) <;> omega); omega; (iterate 2 (focus (go_simp; try exact rfl))); (intro o; go_simp); intro cc cc fz hl; (with_reducible apply cel2 (b := g_4) hb_w11); ((try simp) <;> omega); omega; (iterate 2 (focus (go_simp; try exact rfl))); (intro o; go_simp); intro cc cc fz hl; (with_reducible apply cel2 (b := g_5) hb_w11); ((try simp) <;> omega); omega; (iterate 2 (focus (go_simp; try exact rfl))); (intro o; go_simp); intro cc cc fz hl
      (try simp only [List.drop_succ_cons, List.drop_zero])
      have HB11 := hQ0 (HB9.out.trans (hb_w11.mono HB9.out.size))
      have HA5 := hQ0 hF_w11
      clear hb_w11 hF_w11
      go_wp2_with fail
      refine bodyPost_ret (v := .agg #[.bool false, .slice A5 (canN (Nat.gcd X Y)).length c5]) (by simp only [results, Tryz.results94]; go_simp) rfl ⟨?_, ?_⟩
      · exact ((HB1.out.trans (HB11.out.mono (by omega))).setCell (by simp <;> omega) _).setCell (by simp <;> omega) _
      · rw [HR.out.2.2.2.2]
        exact ⟨A5, c5, rfl, HC5.out, HA5.out.set2 (by assumption) (by assumption) _ _⟩
    · by_cases h3 : (canN X).length ≤ 2
      · have e2 : ((canN X).length : Int) ≤ 2 := by omega
        have e3 : decide (((canN Y).length : Int) ≤ 2) = false := by rw [decide_eq_false_iff_not]; omega
        go_wp2_with fail
        (go_at_call 60; refine ((wquo_any n _ _ X Y wo (isZ_nat HR.out.1 HR.out.2.2.1 lx) (isZ_nat HR.out.2.1 HR.out.2.2.2.1 ly) hn (by omega)).mono (fun _ _ h => h.nat)).mono ?_; rintro e w9 ⟨hb_w9, A5, c5, A6, c6, rfl, hc5, hc6, hA5, hA6⟩; have hz_w9 := hb_w9.size; (try simp at hz_w9); (with_reducible apply cal2 (b := w.heap.size + 1 + 1) hb_w9); (focus (go_simp; try exact ⟨rfl, rfl⟩)); intro cc cc fz hl; (with_reducible apply cal2 (b := g_4) hb_w9); (focus (go_simp; try exact ⟨rfl, rfl⟩)); intro cc cc fz hl; (with_reducible apply cal2 (b := g_5) hb_w9); (focus (go_simp; try exact ⟨rfl, rfl⟩)); intro cc cc fz hl)
        have HA6 := hQ0 hA6
        have HC6 := hQ0 hc6
        have HBY := hQ0 (HR.out.2.1.below hb_w9)
        have HX9 := hQ0 (HX.out.below hb_w9)
        have HY9 := hQ0 (HY.out.below hb_w9)
        have HB9 := hQ0 (HBE.out.trans (hb_w9.mono hz))
        clear hA5 hA6 hc5 hc6 hb_w9 x1 x2 x3 x4 y1 y2 y3 y4
        go_wp2_with fail
        have HRC := hQ0 (show C2 ((w9.alloc (.cells #[.bool false, .slice A5 (canN (X / Y)).length c5] 44)).alloc (.cells #[.bool false, .slice A6 (canN (X % Y)).length c6] 44)) (w9.heap.size + 1) (.bool false) (.slice A6 (canN (X % Y)).length c6) from C2.of_row (by have h := heap_alloc_new (w9.alloc (.cells #[.bool false, .slice A5 (canN (X / Y)).length c5] 44)) (.cells #[.bool false, .slice A6 (canN (X % Y)).length c6] 44); simpa using h))
        have hbb : Below w9.heap.size w9 ((w9.alloc (.cells #[.bool false, .slice A5 (canN (X / Y)).length c5] 44)).alloc (.cells #[.bool false, .slice A6 (canN (X % Y)).length c6] 44)) := ((Below.refl _ _).alloc (Nat.le_refl _) _).alloc (by simp) _
        have HX10 := hQ0 (HX9.out.below hbb)
        have HY10 := hQ0 (HY9.out.below hbb)
        have HBY10 := hQ0 (HBY.out.below hbb)
        have HA10 := hQ0 (HA6.out.below hbb)
        have hz9 := HB9.out.size
        have HB10 := hQ0 (HB9.out.trans (hbb.mono hz9))
        clear hbb
        refine pin_wp (N := _) (Nat.le_refl _) (fun w10 hb_w10 hz_w10 => ?_)
        have HRC := hQ0 (HRC.out.below hb_w10)
        have HX10 := hQ0 (HX10.out.below hb_w10)
        have HY10 := hQ0 (HY10.out.below hb_w10)
        have HBY10 := hQ0 (HBY10.out.below hb_w10)
        have HA10 := hQ0 (HA10.out.below hb_w10)
        have HB10 := hQ0 (HB10.out.trans (hb_w10.mono (by simp; omega)))
        have n1 : g_4 ≠ w9.heap.size + 1 := by have := HX9.out.lt; omega
        have n2 : g_5 ≠ w9.heap.size + 1 := by have := HY9.out.lt; omega
        have x1 := HX10.out.1
        have x2 := HX10.out.2.1
        have x3 := HX10.out.2.2
        have x4 := HX10.out.lt
        have y1 := HY10.out.1
        have y2 := HY10.out.2.1
        have y3 := HY10.out.2.2
        have y4 := HY10.out.lt
        have r1 := HRC.out.1
        have r2 := HRC.out.2.1
        have r3 := HRC.out.2.2
        have r4 := HRC.out.lt
        clear hb_w10 hz_w10
        go_region
        go_wp2_with fail
        go_roundg (X % Y)
        case measure => exact Nat.mod_lt _ (by omega)
        case rel =>
         have k1 := HY10.out.far (Ne.symm hne) (.bool false) (.slice B3 (canN Y).length d3)
         exact ⟨Y, X % Y, B3, A6, d3, c6, rfl, (HX10.out.set _ _).far hne _ _, k1.set _ _, hQ0 ⟨(HBY10.out.set2 x1 x2 _ _).set2 k1.1 k1.2.1 _ _, (HA10.out.set2 x1 x2 _ _).set2 k1.1 k1.2.1 _ _, HR.out.2.2.2.1, HC6.out, by rw [HR.out.2.2.2.2, Nat.gcd_comm X Y, Nat.gcd_rec, Nat.gcd_comm]⟩, ly, Nat.le_trans (canN_mono (Nat.mod_le _ _)) lx, by have hb := ((((HB10.out.setCell (p := ⟨g_4, 0, none⟩) hN_4 (.bool false)).setCell (p := ⟨g_4, 1, none⟩) hN_4 (.slice B3 (canN Y).length d3)).setCell (p := ⟨g_5, 0, none⟩) hN_5 (.bool false)).setCell (p := ⟨g_5, 1, none⟩) hN_5 (.slice A6 (canN (X % Y)).length c6)); first | exact hb | exact hb.drew⟩
      · have e2 : decide (((canN X).length : Int) ≤ 2) = false := by rw [decide_eq_false_iff_not]; omega
        go_wp2_with fail
        (go_at_call 60; refine ((wquo_any n _ _ X Y wo (isZ_nat HR.out.1 HR.out.2.2.1 lx) (isZ_nat HR.out.2.1 HR.out.2.2.2.1 ly) hn (by omega)).mono (fun _ _ h => h.nat)).mono ?_; rintro e w9 ⟨hb_w9, A5, c5, A6, c6, rfl, hc5, hc6, hA5, hA6⟩; have hz_w9 := hb_w9.size; (try simp at hz_w9); (with_reducible apply cal2 (b := w.heap.size + 1 + 1) hb_w9); (focus (go_simp; try exact ⟨rfl, rfl⟩)); intro cc cc fz hl; (with_reducible apply cal2 (b := g_4) hb_w9); (focus (go_simp; try exact ⟨rfl, rfl⟩)); intro cc cc fz hl; (with_reducible apply cal2 (b := g_5) hb_w9); (focus (go_simp; try exact ⟨rfl, rfl⟩)); intro cc cc fz hl)
        have HA6 := hQ0 hA6
        have HC6 := hQ0 hc6
        have HBY := hQ0 (HR.out.2.1.below hb_w9)
        have HX9 := hQ0 (HX.out.below hb_w9)
        have HY9 := hQ0 (HY.out.below hb_w9)
        have HB9 := hQ0 (HBE.out.trans (hb_w9.mono hz))
        clear hA5 hA6 hc5 hc6 hb_w9 x1 x2 x3 x4 y1 y2 y3 y4
        go_wp2_with fail
        have HRC := hQ0 (show C2 ((w9.alloc (.cells #[.bool false, .slice A5 (canN (X / Y)).length c5] 44)).alloc (.cells #[.bool false, .slice A6 (canN (X % Y)).length c6] 44)) (w9.heap.size + 1) (.bool false) (.slice A6 (canN (X % Y)).length c6) from C2.of_row (by have h := heap_alloc_new (w9.alloc (.cells #[.bool false, .slice A5 (canN (X / Y)).length c5] 44)) (.cells #[.bool false, .slice A6 (canN (X % Y)).length c6] 44); simpa using h))
        have hbb : Below w9.heap.size w9 ((w9.alloc (.cells #[.bool false, .slice A5 (canN (X / Y)).length c5] 44)).alloc (.cells #[.bool false, .slice A6 (canN (X % Y)).length c6] 44)) := ((Below.refl _ _).alloc (Nat.le_refl _) _).alloc (by simp) _
        have HX10 := hQ0 (HX9.out.below hbb)
        have HY10 := hQ0 (HY9.out.below hbb)
        have HBY10 := hQ0 (HBY.out.below hbb)
        have HA10 := hQ0 (HA6.out.below hbb)
        have hz9 := HB9.out.size
        have HB10 := hQ0 (HB9.out.trans (hbb.mono hz9))
        clear hbb
        refine pin_wp (N := _) (Nat.le_refl _) (fun w10 hb_w10 hz_w10 => ?_)
        have HRC := hQ0 (HRC.out.below hb_w10)
        have HX10 := hQ0 (HX10.out.below hb_w10)
        have HY10 := hQ0 (HY10.out.below hb_w10)
        have HBY10 := hQ0 (HBY10.out.below hb_w10)
        have HA10 := hQ0 (HA10.out.below hb_w10)
        have HB10 := hQ0 (HB10.out.trans (hb_w10.mono (by simp; omega)))
        have n1 : g_4 ≠ w9.heap.size + 1 := by have := HX9.out.lt; omega
        have n2 : g_5 ≠ w9.heap.size + 1 := by have := HY9.out.lt; omega
        have x1 := HX10.out.1
        have x2 := HX10.out.2.1
        have x3 := HX10.out.2.2
        have x4 := HX10.out.lt
        have y1 := HY10.out.1
        have y2 := HY10.out.2.1
        have y3 := HY10.out.2.2
        have y4 := HY10.out.lt
        have r1 := HRC.out.1
        have r2 := HRC.out.2.1
        have r3 := HRC.out.2.2
        have r4 := HRC.out.lt
        clear hb_w10 hz_w10
        go_region
        go_wp2_with fail
        go_roundg (X % Y)
        case measure => exact Nat.mod_lt _ (by omega)
        case rel =>
         have k1 := HY10.out.far (Ne.symm hne) (.bool false) (.slice B3 (canN Y).length d3)
         exact ⟨Y, X % Y, B3, A6, d3, c6, rfl, (HX10.out.set _ _).far hne _ _, k1.set _ _, hQ0 ⟨(HBY10.out.set2 x1 x2 _ _).set2 k1.1 k1.2.1 _ _, (HA10.out.set2 x1 x2 _ _).set2 k1.1 k1.2.1 _ _, HR.out.2.2.2.1, HC6.out, by rw [HR.out.2.2.2.2, Nat.gcd_comm X Y, Nat.gcd_rec, Nat.gcd_comm]⟩, ly, Nat.le_trans (canN_mono (Nat.mod_le _ _)) lx, by have hb := ((((HB10.out.setCell (p := ⟨g_4, 0, none⟩) hN_4 (.bool false)).setCell (p := ⟨g_4, 1, none⟩) hN_4 (.slice B3 (canN Y).length d3)).setCell (p := ⟨g_5, 0, none⟩) hN_5 (.bool false)).setCell (p := ⟨g_5, 1, none⟩) hN_5 (.slice A6 (canN (X % Y)).length c6)); first | exact hb | exact hb.drew⟩
set_option maxRecDepth 100000 in
set_option maxHeartbeats 4000000 in
theorem rcommon_any (n : Nat) (u v : Value) (a b : Int) (w : World) (ha : IsZ w u n a) (hb : IsZ w v n b) (hn : n ≤ 200000) :
  Calls Tryz.prog 69 #[u, v] w (NOut (Nat.gcd a.natAbs b.natAbs) w) := by
 have la := isZ_len ha
 have lb := isZ_len hb
 obtain ⟨p, A, c, l, rfl, hc, hL, hl, hAt, ea, ma, ca⟩ := isZ_open ha
 obtain ⟨p', A', c', l', rfl, hc', hL', hl', hAt', eb, mb, cb⟩ := isZ_open hb
 have va : sv false (mv l) = ((a.natAbs : Nat) : Int) := by have := mv_nonneg hL; unfold sv; simp; omega
 have vb : sv false (mv l') = ((b.natAbs : Nat) : Int) := by have := mv_nonneg hL'; unfold sv; simp; omega
 obtain ⟨x, hx⟩ : ∃ x, x = a.natAbs := ⟨_, rfl⟩
 obtain ⟨y, hy⟩ : ∃ y, y = b.natAbs := ⟨_, rfl⟩
 rw [← hx] at va la
 rw [← hy] at vb lb
 have hma := fun w' (h : Below w.heap.size w w') => ((by have := make1_any false A l c w' hL (hAt.below h) hc (by omega); rwa [va] at this) : Calls Tryz.prog 71 #[.bool false, .slice A l.length c] w' (ZOut (x : Int) w')).mono fun _ _ h => h.nat
 have hmb := fun w' (h : Below w.heap.size w w') => ((by have := make1_any false A' l' c' w' hL' (hAt'.below h) hc' (by omega); rwa [vb] at this) : Calls Tryz.prog 71 #[.bool false, .slice A' l'.length c'] w' (ZOut (y : Int) w')).mono fun _ _ h => h.nat
 rw [← hx, ← hy]
 obtain ⟨G, hG⟩ : ∃ G, G = Nat.gcd x y := ⟨_, rfl⟩
 rw [← hG]
 have HG := hQ0 hG
 have HMA := hQ0 hma
 have HMB := hQ0 hmb
 obtain ⟨ln, hln⟩ : ∃ q, q = l.length := ⟨_, rfl⟩
 obtain ⟨ln', hln'⟩ : ∃ q, q = l'.length := ⟨_, rfl⟩
 rw [← hln] at HMA ⊢
 rw [← hln'] at HMB ⊢
 clear ha hb hma hmb hx hy hG hL hL' hAt hAt' ea eb ma mb ca cb va vb hl hl' hln hln' hc hc'
 go_enter Tryz.func69, Tryz.ntmps69; (try simp only [List.append_eq, List.cons_append, List.nil_append])
 go_wp2_with fail
 have HB0 := hQ0 (show Below w.heap.size w (((w.alloc (.cells #[.bool p, .slice A ln c] 44)).alloc (.cells #[.bool p', .slice A' ln' c'] 44)).alloc (.cells #[.bool false, .slice none 0 0] 44)) by ((with_reducible (repeat (first | exact bR _ _ | apply bS | apply bA | apply bD | refine bT ?_ (by assumption) ?_ | refine bO (by assumption) ?_ ?_))) <;> (first | omega | (simp <;> omega))))
 (refine pin_wp (N := _) (Nat.le_refl _) (fun w1 hb_w1 hz_w1 => ?_); (try simp at hz_w1); (with_reducible apply cal2 (b := w.heap.size) hb_w1); (focus (go_simp; try exact ⟨rfl, rfl⟩)); intro cc cc fz hl; (with_reducible apply cal2 (b := w.heap.size + 1) hb_w1); (focus (go_simp; try exact ⟨rfl, rfl⟩)); intro cc cc fz hl; (with_reducible apply cal2 (b := w.heap.size + 1 + 1) hb_w1); (focus (go_simp; try exact ⟨rfl, rfl⟩)); intro cc cc fz hl); refine wp_region_float w1.heap.size 10 (Nat.le_refl _) (fun _ => True) trivial Cl.tt (by kernel_rfl) (by simp) ?_
 have HB1 := hQ0 (HB0.out.trans (hb_w1.mono (by simp <;> omega)))
 have hz1 : w.heap.size + 1 + 1 + 1 ≤ w1.heap.size := by omega
 clear hb_w1
 refine wpI_start [0, 1] ?_; (iterate 2 (first | (apply wpI_step rfl (by kernel_rfl) rfl; (focus (intro W' hS; have hcS := hS.cells; go_simp; (iterate 2 (first | done | exact rfl | exact bB _ | go_simp)))); intro K hK; go_simp; (try go_bits); refine hK _ ?_; clear hK K))); refine wpI_nil ?_
 refine wpI_start [3, 4] ?_; (iterate 2 (first | (apply wpI_step rfl (by kernel_rfl) rfl; (focus (intro W' hS; have hcS := hS.cells; go_simp; (iterate 2 (first | done | exact rfl | exact bB _ | go_simp)))); intro K hK; go_simp; (try go_bits); refine hK _ ?_; clear hK K))); refine wpI_nil ?_
 apply wpF_call (i := 2) rfl (by kernel_rfl) (by kernel_rfl); intro W hF hS; have hcS := hS.1.cells; go_simp; (go_at_call 71; refine (HMA.out _ (HB1.out.trans (hS.1.2.mono (by omega)))).mono ?_; rintro e w2 ⟨hb_w2, A1, c1, rfl, hc1, hA1⟩; refine XPost.mk _ (fun W => LAt W A1 (canN x)) hb_w2 (hA1) (LAt.cl _ _) ?_); clear hb_w2 hcS hS hF
 intro K hK; go_simp; (try go_bits); refine hK _ ?_; clear hK K
 have HC1 := hQ0 hc1
 clear hA1 hc1
 apply wpF_call (i := 5) rfl (by kernel_rfl) (by kernel_rfl); intro W hF hS; have hcS := hS.1.cells; go_simp; (go_at_call 71; refine (HMB.out _ (HB1.out.trans (hS.1.2.mono (by omega)))).mono ?_; rintro e w3 ⟨hb_w3, A2, c2, rfl, hc2, hA2⟩; refine XPost.mk _ (fun W => LAt W A2 (canN y)) hb_w3 (hA2) (LAt.cl _ _) ?_); clear hb_w3 hcS hS hF
 intro K hK; go_simp; (try go_bits); refine hK _ ?_; clear hK K
 have HC2 := hQ0 hc2
 clear hA2 hc2
 refine wpF_fresh2 (i := 6) (fun F G G' a h hL w' hF hS => hL w' hF (hS.same (fun p => (h p).symm))) rfl (by kernel_rfl) _ (by intro W; go_simp; first | done | exact rfl) ?_
 intro g_6 hN_6 hG_6 K hK
 go_simp; refine hK _ ?_; clear hK K
 refine wpF_fresh2 (i := 7) (fun F G G' a h hL w' hF hS => hL w' hF (hS.same (fun p => (h p).symm))) rfl (by kernel_rfl) _ (by intro W; go_simp; first | done | exact rfl) ?_
 intro g_7 hN_7 hG_7 K hK
 go_simp; refine hK _ ?_; clear hK K
 have hne : g_6 ≠ g_7 := hG_7 _ (List.mem_cons_self ..)
 apply wpF_wild (i := 8) rfl (by kernel_rfl) (by kernel_rfl); intro W hF hS; have hcS := hS.1.cells; have k4 := C2.of_row (hS.2 _ (List.mem_cons_of_mem _ (List.mem_cons_self ..))).2; have k5 := C2.of_row (hS.2 _ (List.mem_cons_self ..)).2; have a0 := k4.1; have a1 := k4.2.1; have a2 := k4.2.2; have a3 := k4.lt; go_simp
 refine WPost.mk _ (fun W' => LAt W' A1 (canN x) ∧ LAt W' A2 (canN y) ∧ C2 W' g_6 (.bool false) (.slice A1 (canN x).length c1) ∧ C2 W' g_7 (.bool false) (.slice none 0 0)) [] ⟨hF.1.set2 a0 a1 _ _, hF.2.set2 a0 a1 _ _, k4.set _ _, k5.far (Ne.symm hne) _ _⟩ ((LAt.cl _ _).and ((LAt.cl _ _).and ((C2.cl _ _ _).and (C2.cl _ _ _)))) ⟨(hS.1.setCell hN_6 _).setCell hN_6 _, fun p hp => by cases hp⟩ ?_
 clear k4 k5 a0 a1 a2 a3 hcS hS hF
 intro K hK; go_simp; refine hK _ ?_; clear hK K
 apply wpF_wild (i := 9) rfl (by kernel_rfl) (by kernel_rfl); intro W hF hS; have hcS := hS.1.cells; have k5 := hF.2.2.2; have a0 := k5.1; have a1 := k5.2.1; have a2 := k5.2.2; have a3 := k5.lt; go_simp
 refine WPost.mk _ (fun W' => LAt W' A1 (canN x) ∧ LAt W' A2 (canN y) ∧ C2 W' g_6 (.bool false) (.slice A1 (canN x).length c1) ∧ C2 W' g_7 (.bool false) (.slice A2 (canN y).length c2)) [] ⟨hF.1.set2 a0 a1 _ _, hF.2.1.set2 a0 a1 _ _, hF.2.2.1.far hne _ _, k5.set _ _⟩ ((LAt.cl _ _).and ((LAt.cl _ _).and ((C2.cl _ _ _).and (C2.cl _ _ _)))) ⟨(hS.1.setCell hN_7 _).setCell hN_7 _, fun p hp => by cases hp⟩ ?_
 clear k5 a0 a1 a2 a3 hcS hS hF
 intro K hK; go_simp; refine hK _ ?_; clear hK K
 refine wpF_done (by kernel_rfl) ?_
 intro w4 hF4 hSG
 have HB14 := hQ0 hSG.1.2
 have HF4 := hQ0 hF4
 clear hF4 hSG hG_6 hG_7
 (try simp only [List.drop_succ_cons, List.drop_zero])
 go_wp2_with fail
 go_loopg [7] y (fun gk _ wr => ∃ (X Y : Nat) (A B : Option Addr) (c d : Nat), Y = gk ∧ C2 wr g_6 (.bool false) (.slice A (canN X).length c) ∧ C2 wr g_7 (.bool false) (.slice B (canN Y).length d) ∧ Hid (LAt wr A (canN X) ∧ LAt wr B (canN Y) ∧ (canN X).length ≤ c ∧ (canN Y).length ≤ d ∧ G = Nat.gcd X Y) ∧ (canN X).length ≤ n ∧ (canN Y).length ≤ n ∧ Below w1.heap.size w1 wr)
 case atStart => exact ⟨x, y, A1, A2, c1, c2, rfl, HF4.out.2.2.1, HF4.out.2.2.2, hQ0 ⟨HF4.out.1, HF4.out.2.1, HC1.out, HC2.out, HG.out⟩, by omega, by omega, HB14.out⟩
 case round =>
  obtain ⟨X, Y, A3, B3, c3, d3, hgk, hx2, hy2, HR, lx, ly, hbel⟩ := hrel
  subst hgk
  obtain ⟨wo, rfl⟩ : ∃ wo : World, wo = wr := ⟨_, rfl⟩
  have HX := hQ0 hx2
  have HY := hQ0 hy2
  have HBE := hQ0 hbel
  have hz := hbel.size
  have x1 := hx2.1
  have x2 := hx2.2.1
  have x3 := hx2.2.2
  have x4 := hx2.lt
  have y1 := hy2.1
  have y2 := hy2.2.1
  have y3 := hy2.2.2
  have y4 := hy2.lt
  have hb_wo := hbel
  (with_reducible apply cel2 (b := w.heap.size + 1 + 1) hb_wo); ((try simp) <;> omega); omega; (iterate 2 (focus (go_simp; try exact rfl))); (intro o; go_simp); intro cc cc fz hl
  clear hb_wo hbel hx2 hy2
  have hsg := sign_any n (.agg #[.bool false, .slice B3 (canN Y).length d3]) Y wo (isZ_nat HR.out.2.1 HR.out.2.2.2.1 ly) (by omega)
  by_cases h0 : Y = 0
  · have hg : G = X := by rw [HR.out.2.2.2.2, h0, Nat.gcd_zero_right]
    rw [show sgn (Y : Int) = 0 by rw [h0]; rfl] at hsg
    have HSG := hQ0 hsg
    subst hg
    clear h0 hsg
    go_wp2_with fail
    (go_at_call 77; refine (HSG.out).mono ?_; rintro e w9 ⟨rfl, hb_w9⟩; have hz_w9 := hb_w9.size; (try simp at hz_w9); (with_reducible apply cal2 (b := w.heap.size + 1 + 1) hb_w9); (focus (go_simp; try exact ⟨rfl, rfl⟩)); intro cc cc fz hl; (with_reducible apply cal2 (b := g_6) hb_w9); (focus (go_simp; try exact ⟨rfl, rfl⟩)); intro cc cc fz hl; (with_reducible apply cal2 (b := g_7) hb_w9); (focus (go_simp; try exact ⟨rfl, rfl⟩)); intro cc cc fz hl)
    have HXA := hQ0 (HR.out.1.below hb_w9)
    have HB9 := hQ0 (HBE.out.trans (hb_w9.mono hz))
    clear hb_w9
    go_wp2_with fail
    refine bodyPost_ret (v := .agg #[.bool false, .slice A3 (canN G).length c3]) (by simp only [results, Tryz.results69]; go_simp) rfl ⟨?_, ?_⟩
    · exact ((HB1.out.trans (HB9.out.mono (by omega))).setCell (by simp <;> omega) _).setCell (by simp <;> omega) _
    · exact ⟨A3, c3, rfl, HR.out.2.2.1, HXA.out.set2 (by assumption) (by assumption) _ _⟩
  · rw [show sgn (Y : Int) = 1 by unfold sgn; rw [if_neg (by omega), if_neg (by omega)]] at hsg
    have HSG := hQ0 hsg
    clear hsg
    go_wp2_with fail
    (go_at_call 77; refine (HSG.out).mono ?_; rintro e w8 ⟨rfl, hb_w8⟩; have hz_w8 := hb_w8.size; (try simp at hz_w8); (with_reducible apply cal2 (b := w.heap.size + 1 + 1) hb_w8); (focus (go_simp; try exact ⟨rfl, rfl⟩)); intro cc cc fz hl; (with_reducible apply cal2 (b := g_6) hb_w8); (focus (go_simp; try exact ⟨rfl, rfl⟩)); intro cc cc fz hl; (with_reducible apply cal2 (b := g_7) hb_w8); (focus (go_simp; try exact ⟨rfl, rfl⟩)); intro cc cc fz hl)
    have HXA := hQ0 (HR.out.1.below hb_w8)
    have HYA := hQ0 (HR.out.2.1.below hb_w8)
    have HX8 := hQ0 (HX.out.below hb_w8)
    have HY8 := hQ0 (HY.out.below hb_w8)
    have HB8 := hQ0 (HBE.out.trans (hb_w8.mono hz))
    have hz8 : w1.heap.size ≤ w8.heap.size := HB8.out.size
    clear hb_w8 x1 x2 x3 x4 y1 y2 y3 y4 HX HY HBE HSG
    go_wp2_with fail
    (go_at_call 46; refine ((div_any n _ _ X Y w8 (isZ_nat HXA.out HR.out.2.2.1 lx) (isZ_nat HYA.out HR.out.2.2.2.1 ly) hn (by omega)).mono (fun _ _ h => h.nat)).mono ?_; rintro e w9 ⟨hb_w9, A5, c5, A6, c6, rfl, hc5, hc6, hA5, hA6⟩; have hz_w9 := hb_w9.size; (try simp at hz_w9); (with_reducible apply cal2 (b := w.heap.size + 1 + 1) hb_w9); (focus (go_simp; try exact ⟨rfl, rfl⟩)); intro cc cc fz hl; (with_reducible apply cal2 (b := g_6) hb_w9); (focus (go_simp; try exact ⟨rfl, rfl⟩)); intro cc cc fz hl; (with_reducible apply cal2 (b := g_7) hb_w9); (focus (go_simp; try exact ⟨rfl, rfl⟩)); intro cc cc fz hl)
    have HA6 := hQ0 hA6
    have HC6 := hQ0 hc6
    have HBY := hQ0 (HYA.out.below hb_w9)
    have HX9 := hQ0 (HX8.out.below hb_w9)
    have HY9 := hQ0 (HY8.out.below hb_w9)
    have HB9 := hQ0 (HB8.out.trans (hb_w9.mono hz8))
    clear hA5 hA6 hc5 hc6 hb_w9
    go_wp2_with fail
    have HRC := hQ0 (show C2 ((w9.alloc (.cells #[.bool false, .slice A5 (canN (X / Y)).length c5] 44)).alloc (.cells #[.bool false, .slice A6 (canN (X % Y)).length c6] 44)) (w9.heap.size + 1) (.bool false) (.slice A6 (canN (X % Y)).length c6) from C2.of_row (by have h := heap_alloc_new (w9.alloc (.cells #[.bool false, .slice A5 (canN (X / Y)).length c5] 44)) (.cells #[.bool false, .slice A6 (canN (X % Y)).length c6] 44); simpa using h))
    have hbb : Below w9.heap.size w9 ((w9.alloc (.cells #[.bool false, .slice A5 (canN (X / Y)).length c5] 44)).alloc (.cells #[.bool false, .slice A6 (canN (X % Y)).length c6] 44)) := ((Below.refl _ _).alloc (Nat.le_refl _) _).alloc (by simp) _
    have HX10 := hQ0 (HX9.out.below hbb)
    have HY10 := hQ0 (HY9.out.below hbb)
    have HBY10 := hQ0 (HBY.out.below hbb)
    have HA10 := hQ0 (HA6.out.below hbb)
    have hz9 := HB9.out.size
    have HB10 := hQ0 (HB9.out.trans (hbb.mono hz9))
    clear hbb
    refine pin_wp (N := _) (Nat.le_refl _) (fun w10 hb_w10 hz_w10 => ?_)
    have HRC := hQ0 (HRC.out.below hb_w10)
    have HX10 := hQ0 (HX10.out.below hb_w10)
    have HY10 := hQ0 (HY10.out.below hb_w10)
    have HBY10 := hQ0 (HBY10.out.below hb_w10)
    have HA10 := hQ0 (HA10.out.below hb_w10)
    have HB10 := hQ0 (HB10.out.trans (hb_w10.mono (by simp; omega)))
    have n1 : g_6 ≠ w9.heap.size + 1 := by have := HX9.out.lt; omega
    have n2 : g_7 ≠ w9.heap.size + 1 := by have := HY9.out.lt; omega
    have x1 := HX10.out.1
    have x2 := HX10.out.2.1
    have x3 := HX10.out.2.2
    have x4 := HX10.out.lt
    have y1 := HY10.out.1
    have y2 := HY10.out.2.1
    have y3 := HY10.out.2.2
    have y4 := HY10.out.lt
    have r1 := HRC.out.1
    have r2 := HRC.out.2.1
    have r3 := HRC.out.2.2
    have r4 := HRC.out.lt
    clear hb_w10 hz_w10
    go_region
    go_wp2_with fail
    go_roundg (X % Y)
    case measure => exact Nat.mod_lt _ (by omega)
    case rel =>
     have k1 := HY10.out.far (Ne.symm hne) (.bool false) (.slice B3 (canN Y).length d3)
     exact ⟨Y, X % Y, B3, A6, d3, c6, rfl, (HX10.out.set _ _).far hne _ _, k1.set _ _, hQ0 ⟨(HBY10.out.set2 x1 x2 _ _).set2 k1.1 k1.2.1 _ _, (HA10.out.set2 x1 x2 _ _).set2 k1.1 k1.2.1 _ _, HR.out.2.2.2.1, HC6.out, by rw [HR.out.2.2.2.2, Nat.gcd_comm X Y, Nat.gcd_rec, Nat.gcd_comm]⟩, ly, Nat.le_trans (canN_mono (Nat.mod_le _ _)) lx, by have hb := ((((HB10.out.setCell (p := ⟨g_6, 0, none⟩) hN_6 (.bool false)).setCell (p := ⟨g_6, 1, none⟩) hN_6 (.slice B3 (canN Y).length d3)).setCell (p := ⟨g_7, 0, none⟩) hN_7 (.bool false)).setCell (p := ⟨g_7, 1, none⟩) hN_7 (.slice A6 (canN (X % Y)).length c6)); first | exact hb | exact hb.drew⟩
def RAt (w : World) (v : Value) (x y d : Int) : Prop := ∃ s1 A1 n1 c1 s2 A2 n2 c2 s3 A3 n3 c3, v = .agg #[.bool s1, .slice A1 n1 c1, .bool s2, .slice A2 n2 c2, .bool s3, .slice A3 n3 c3] ∧ IsC w (.agg #[.bool s1, .slice A1 n1 c1]) x ∧ IsC w (.agg #[.bool s2, .slice A2 n2 c2]) y ∧ IsC w (.agg #[.bool s3, .slice A3 n3 c3]) d
def ROut (x y d : Int) (w : World) (e : Ending) (w' : World) : Prop := Below w.heap.size w w' ∧ ∃ v, e = .returned v ∧ RAt w' v x y d
theorem RAt.below {w w1 : World} {v : Value} {x y d : Int} (h : RAt w v x y d) (hb : Below w.heap.size w w1) : RAt w1 v x y d := by
 obtain ⟨s1, A1, n1, c1, s2, A2, n2, c2, s3, A3, n3, c3, hv, h1, h2, h3⟩ := h
 exact ⟨s1, A1, n1, c1, s2, A2, n2, c2, s3, A3, n3, c3, hv, h1.below hb, h2.below hb, h3.below hb⟩
theorem RAt.cl (v : Value) (x y d : Int) : Cl (fun w => RAt w v x y d) := fun _ _ h hb => h.below hb
theorem gcdN_len {a b n : Nat} (ha : (canN a).length ≤ n) (hb : (canN b).length ≤ n) : (canN (Nat.gcd a b)).length ≤ n := by
 rcases Nat.eq_zero_or_pos a with h | h
 · subst h; rwa [Nat.gcd_zero_left]
 · have h1 := Nat.gcd_le_left b h
   refine canN_len.2 (Int.lt_of_le_of_lt ?_ (canN_len.1 ha))
   exact Int.ofNat_le.2 h1
def lowG (x y d : Int) : Nat := Nat.gcd (Nat.gcd x.natAbs y.natAbs) d.natAbs
theorem IsC.al {w : World} {v : Value} {z : Int} (h : IsC w v z) (o : Obj) : IsC (w.alloc o) v z := h.below ((Below.refl _ _).alloc (Nat.le_refl _) _)
theorem IsC.st1 {w : World} {v : Value} {z : Int} (h : IsC w v z) {p : Addr} {u : Value} (hp : w.cell? p = some u) (hu : ∀ x, u ≠ .int .u32 x) (x : Value) : IsC (w.setCell p x) v z := by
 obtain ⟨A, c, hv, hc, hA⟩ := h
 exact ⟨A, c, hv, hc, hA.setCell hp hu x⟩
theorem IsC.val {w : World} {v : Value} {z : Int} (h : IsC w v z) : ∃ s A n c, v = .agg #[.bool s, .slice A n c] := by
 obtain ⟨A, c, hv, _, _⟩ := h
 exact ⟨_, _, _, _, hv⟩
theorem RAt.val {w : World} {v : Value} {x y d : Int} (h : RAt w v x y d) : ∃ s1 A1 n1 c1 s2 A2 n2 c2 s3 A3 n3 c3, v = .agg #[.bool s1, .slice A1 n1 c1, .bool s2, .slice A2 n2 c2, .bool s3, .slice A3 n3 c3] := by
 obtain ⟨s1, A1, n1, c1, s2, A2, n2, c2, s3, A3, n3, c3, hv, _⟩ := h
 exact ⟨s1, A1, n1, c1, s2, A2, n2, c2, s3, A3, n3, c3, hv⟩
theorem RAt.al {w : World} {v : Value} {x y d : Int} (h : RAt w v x y d) (o : Obj) : RAt (w.alloc o) v x y d := h.below ((Below.refl _ _).alloc (Nat.le_refl _) _)
theorem RAt.st1 {w : World} {v : Value} {x y d : Int} (h : RAt w v x y d) {p : Addr} {u : Value} (hp : w.cell? p = some u) (hu : ∀ x, u ≠ .int .u32 x) (t : Value) : RAt (w.setCell p t) v x y d := by
 obtain ⟨s1, A1, n1, c1, s2, A2, n2, c2, s3, A3, n3, c3, hv, h1, h2, h3⟩ := h
 exact ⟨s1, A1, n1, c1, s2, A2, n2, c2, s3, A3, n3, c3, hv, h1.st1 hp hu t, h2.st1 hp hu t, h3.st1 hp hu t⟩
theorem RAt.parts {w : World} {b1 a1 b2 a2 b3 a3 : Value} {x y d : Int} (h : RAt w (.agg #[b1, a1, b2, a2, b3, a3]) x y d) : IsC w (.agg #[b1, a1]) x ∧ IsC w (.agg #[b2, a2]) y ∧ IsC w (.agg #[b3, a3]) d := by
 obtain ⟨s1, A1, n1, c1, s2, A2, n2, c2, s3, A3, n3, c3, hv, h1, h2, h3⟩ := h
 simp only [Value.agg.injEq, Array.mk.injEq, List.cons.injEq, and_true] at hv
 obtain ⟨rfl, rfl, rfl, rfl, rfl, rfl⟩ := hv
 exact ⟨h1, h2, h3⟩
theorem RAt.px {w : World} {b1 a1 b2 a2 b3 a3 : Value} {x y d : Int} (h : RAt w (.agg #[b1, a1, b2, a2, b3, a3]) x y d) : IsC w (.agg #[b1, a1]) x := h.parts.1
theorem RAt.py {w : World} {b1 a1 b2 a2 b3 a3 : Value} {x y d : Int} (h : RAt w (.agg #[b1, a1, b2, a2, b3, a3]) x y d) : IsC w (.agg #[b2, a2]) y := h.parts.2.1
theorem RAt.pd {w : World} {b1 a1 b2 a2 b3 a3 : Value} {x y d : Int} (h : RAt w (.agg #[b1, a1, b2, a2, b3, a3]) x y d) : IsC w (.agg #[b3, a3]) d := h.parts.2.2
theorem canN_bd {z : Int} {k : Nat} {B : Int} (h1 : -B ≤ z) (h2 : z ≤ B) (hB : B < PB k) : (canN z.natAbs).length ≤ k := canN_len.2 (by omega)
theorem mulB (x y A B : Int) (h1 : -A ≤ x ∧ x ≤ A) (h2 : -B ≤ y ∧ y ≤ B) : -(A * B) ≤ x * y ∧ x * y ≤ A * B := mul_bd x y A B h1.1 h1.2 h2.1 h2.2
theorem len_wd {z : Int} (h1 : -9223372036854775808 ≤ z) (h2 : z ≤ 9223372036854775807) : (canN z.natAbs).length ≤ 10 := canN_bd (B := 9223372036854775808) (by omega) (by omega) (by decide)
def RROut (x y d x' y' d' : Int) (w : World) (e : Ending) (w' : World) : Prop := Below w.heap.size w w' ∧ ∃ u v, e = .returned (.tuple #[u, v]) ∧ RAt w' u x y d ∧ RAt w' v x' y' d'
section
variable {P : Program} {ops : Array Oper} {md : Region.Mode} {N : Nat} {W0 : World}
def waitsJ (md : Region.Mode) (ops : Array Oper) : Nat → Nat → Nat → Bool
  | 0, _, _ => false
  | f + 1, t, i => match ops[t]? with
    | some o => (o.after.any fun e => Region.binds md e && e.on == i) || o.after.any fun e => Region.binds md e && waitsJ md ops f e.on i
    | none => false
def DC (md : Region.Mode) (ops : Array Oper) (listed : Array Bool) : Prop := ∀ j o, ops[j]? = some o → listed.getD j false = true → ∀ e ∈ o.after, Region.binds md e = true → listed.getD e.on false = true
def dcB (md : Region.Mode) (ops : Array Oper) (listed : Array Bool) : Bool := (List.range ops.size).all fun j => match ops[j]? with
  | some o => !listed.getD j false || o.after.all fun e => !Region.binds md e || listed.getD e.on false
  | none => true
theorem dcB_spec {listed : Array Bool} (h : dcB md ops listed = true) : DC md ops listed := fun j o hj hl e he hb => by
 simp only [dcB, List.all_eq_true, List.mem_range] at h
 have h1 := h j (Array.getElem?_eq_some_iff.1 hj).1
 simp only [hj, hl, Bool.not_true, Bool.false_or] at h1
 have h2 := Array.all_eq_true'.1 h1 e he
 simpa [hb] using h2
theorem getD_set_mono {listed : Array Bool} {i k : Nat} (h : listed.getD k false = true) : (listed.setIfInBounds i true).getD k false = true := by
 simp only [Array.getD_eq_getD_getElem?, Array.getElem?_setIfInBounds] at *
 split
 · split <;> simp_all
 · exact h
theorem DC.set {listed : Array Bool} {i : Nat} (h : DC md ops listed) (hr : i ∈ Region.ready md ops listed) : DC md ops (listed.setIfInBounds i true) := fun j o hj hl e he hb => by
 by_cases hji : j = i
 · subst hji
   obtain ⟨_, o', ho', hall⟩ := mem_ready.1 hr
   rw [hj] at ho'; injection ho' with ho'; subst ho'
   exact getD_set_mono (hall e he hb)
 · refine getD_set_mono (h j o hj ?_ e he hb)
   simp only [Array.getD_eq_getD_getElem?, Array.getElem?_setIfInBounds] at *
   rw [if_neg (fun e => hji e.symm)] at hl
   exact hl
theorem waits_spec {listed : Array Bool} (hdc : DC md ops listed) : ∀ (f t i : Nat), waitsJ md ops f t i = true → (∀ o, ops[t]? = some o → ∀ e ∈ o.after, Region.binds md e = true → listed.getD e.on false = true) → listed.getD i false = true
 | 0, t, i, h, _ => by simp [waitsJ] at h
 | f + 1, t, i, h, hd => by
  unfold waitsJ at h
  split at h
  · rename_i o ho
    rw [Bool.or_eq_true] at h
    rcases h with h | h
    · obtain ⟨e, he, hb⟩ := Array.any_eq_true'.1 h
      simp only [Bool.and_eq_true, beq_iff_eq] at hb
      have := hd o ho e he hb.1
      rwa [hb.2] at this
    · obtain ⟨e, he, hb⟩ := Array.any_eq_true'.1 h
      simp only [Bool.and_eq_true] at hb
      exact waits_spec hdc f e.on i hb.2 (fun o' ho' e' he' hb' => hdc e.on o' ho' (hd o ho e he hb.1) e' he' hb')
  · cases h
def tailBJ (md : Region.Mode) (ops : Array Oper) (n : List Nat) : Bool :=
  Region.noSelect ops && (List.range ops.size).all fun t => !n.contains t || match ops[t]? with
    | some _ => (List.range ops.size).all fun i => n.contains i || waitsJ md ops ops.size t i
    | none => true
theorem tailB_specJ {n : List Nat} {t i : Nat} {listed : Array Bool} (h : tailBJ md ops n = true) (hdc : DC md ops listed) (ht : t ∈ Region.ready md ops listed) (hs : i < ops.size) (hi : n.contains i = false) (hun : listed.getD i true = false) : n.contains t = false := by
 cases hc : n.contains t
 · rfl
 · exfalso
   obtain ⟨_, o, ho, hall⟩ := mem_ready.1 ht
   simp only [tailBJ, Bool.and_eq_true, List.all_eq_true, List.mem_range] at h
   have h1 := h.2 t (Array.getElem?_eq_some_iff.1 ho).1
   simp only [ho, hc, Bool.not_true, Bool.false_or, List.all_eq_true, List.mem_range] at h1
   have h2 := h1 i hs
   rw [hi, Bool.false_or] at h2
   have h3 := waits_spec hdc _ _ _ h2 (fun o' ho' e he hb => by rw [ho] at ho'; injection ho' with ho'; subst ho'; exact hall e he hb)
   rw [getD_both hun] at h3
   cases h3
def seqJ (md : Region.Mode) (ops : Array Oper) : List Nat → Array Bool → Bool
  | [], listed => (Region.ready md ops listed).isEmpty
  | k :: js, listed => decide (Region.ready md ops listed = [k]) && seqJ md ops js (listed.setIfInBounds k true)
theorem wpAny_of_seqJ {Q' : Exit → Act → World → Prop} : ∀ (js : List Nat) (listed : Array Bool) (a : Act) (w : World), (∀ j ∈ js, j < ops.size) →
  seqJ md ops js listed = true → wpList P ops Q' (js.filterMap (fun i => ops[i]?)) a w → wpAny P md ops Q' js.length listed a w
 | [], listed, a, w, _, hB, h => ⟨by simpa [seqJ] using hB, h⟩
 | k :: js, listed, a, w, hl, hB, h => by
  have hk : k < ops.size := hl k (by simp)
  have h0 : ops[k]? = some ops[k] := Array.getElem?_eq_some_iff.2 ⟨hk, rfl⟩
  simp only [seqJ, Bool.and_eq_true, decide_eq_true_eq] at hB
  refine ⟨fun h1 => (by rw [hB.1] at h1; cases h1), fun i hi => ?_⟩
  rw [hB.1] at hi
  have hik : i = k := by simpa using hi
  subst hik
  rw [List.filterMap_cons, h0] at h
  have hw : wpOp P ops Q' i (wpList P ops Q' (js.filterMap (fun i => ops[i]?))) a w := by unfold wpOp; simp only [h0]; exact h
  exact wpOp_mono (fun a' w' h' => wpAny_of_seqJ js _ a' w' (fun j hj => hl j (by simp [hj])) hB.2 h') hw
theorem seqB_memJ {n : List Nat} {listed : Array Bool} (h : seqJ md ops n listed = true) : ∀ j ∈ Region.ready md ops listed, n.contains j = true := by
 cases n with
 | nil => intro j hj; simp only [seqJ, List.isEmpty_iff] at h; rw [h] at hj; cases hj
 | cons k js =>
  intro j hj
  simp only [seqJ, Bool.and_eq_true, decide_eq_true_eq] at h
  rw [h.1] at hj
  have : j = k := by simpa using hj
  subst this
  simp
def isFresh (o : Oper) : Bool := match o.op with | .alloc _ => o.guard.isNone | .buildSlice _ _ _ => o.guard.isNone | _ => false
def freshV (o : Oper) (g : Nat) : Value := match o.op with | .buildSlice _ n _ => .slice (some ⟨g, 0, none⟩) n n | _ => .pointer (some ⟨g, 0, none⟩)
def FreshQ (P : Program) (ops : Array Oper) (o : Oper) (a : Act) (ob : Obj) : Prop :=
  Region.wanted o (yielded ops a.tmps) = true ∧ ∀ W, (execOp a.eval o).run P W = .ok (.value (freshV o W.heap.size)) (W.alloc ob)
theorem freshQ_ob {o : Oper} {a a' : Act} {ob ob' : Obj} (h : FreshQ P ops o a ob) (h' : FreshQ P ops o a' ob') (he : execOp a'.eval o = execOp a.eval o) (W : World) : ob = ob' := by
 have h1 := h.2 W
 have h2 := h'.2 W
 rw [he, h1] at h2
 have h3 : W.alloc ob = W.alloc ob' := by injection h2
 have h4 := heap_alloc_new W ob
 rw [h3, heap_alloc_new W ob'] at h4
 injection h4 with h4
 exact h4.symm
def wfQ (P : Program) (ops : Array Oper) (N : Nat) (W0 : World) (i : Nat) (K : GK) (F : World → Prop) (G : List (Nat × Obj)) (a : Act) : Prop :=
  match ops[i]? with
  | none => False
  | some o => if isFresh o = true then ∃ ob, FreshQ P ops o a ob ∧ ∀ g, N ≤ g → (∀ p ∈ G, p.1 ≠ g) → K F ((g, ob) :: G) (a.put o.dst (freshV o g))
      else (∃ v, YieldsH P ops N W0 o v a ∧ K F G (a.put o.dst v)) ∨
      WildX P ops N W0 o a K F G ∨
      CallX P ops N W0 o a K F G
def Live (N : Nat) (W0 : World) (F : World → Prop) (G : List (Nat × Obj)) : Prop := Cl F ∧ ∃ W, F W ∧ SG N W0 G W
theorem Live.weak {F : World → Prop} {G : List (Nat × Obj)} {p : Nat × Obj} (h : Live N W0 F (p :: G)) : Live N W0 F G := ⟨h.1, h.2.choose, h.2.choose_spec.1, h.2.choose_spec.2.weak⟩
theorem Live.same {F : World → Prop} {G G' : List (Nat × Obj)} (h : ∀ p, p ∈ G ↔ p ∈ G') (hl : Live N W0 F G) : Live N W0 F G' := ⟨hl.1, hl.2.choose, hl.2.choose_spec.1, hl.2.choose_spec.2.same h⟩
theorem Live.grow {F : World → Prop} {G : List (Nat × Obj)} (h : Live N W0 F G) (ob : Obj) : ∃ g, N ≤ g ∧ (∀ p ∈ G, p.1 ≠ g) ∧ Live N W0 F ((g, ob) :: G) := by
 obtain ⟨hC, W, hF, hS⟩ := h
 exact ⟨W.heap.size, hS.1.1, fun p hp e => by have := hS.size hp; omega, hC, W.alloc ob, hC _ _ hF ((Below.refl _ _).alloc (Nat.le_refl _) _), hS.alloc ob⟩
theorem givesX_live {W : World} {K : Value → (World → Prop) → Prop} : ∀ {r : Result Next}, givesX P W K r → ∃ v F' w'', Below W.heap.size W w'' ∧ F' w'' ∧ Cl F' ∧ K v F' := by
 intro r hr
 match r, hr with
 | .ok (.value u) w', ⟨F, a, b, c, d⟩ => exact ⟨_, _, _, a, b, c, d⟩
 | .ok .skip w', ⟨F, a, b, c, d⟩ => exact ⟨_, _, _, a, b, c, d⟩
 | .ok (.enter f args) w', hr =>
  obtain ⟨e, w'', fr, ⟨v, F, e1, a, b, c, d⟩, _⟩ := hr []
  exact ⟨_, _, _, a, b, c, d⟩
def wpQ (P : Program) (md : Region.Mode) (ops : Array Oper) (N : Nat) (W0 : World) (n : List Nat) (L : GK) : Nat → LK
  | 0, listed, F, G, a => Live N W0 F G → seqJ md ops n listed = true ∧ L F G a
  | f + 1, listed, F, G, a => Live N W0 F G → Region.ready md ops listed ≠ [] ∧ ∀ i ∈ Region.ready md ops listed, wfQ P ops N W0 i (wpQ P md ops N W0 n L f (listed.setIfInBounds i true)) F G a
theorem wpQ_live {n : List Nat} {L : GK} {f : Nat} {listed : Array Bool} {F : World → Prop} {G : List (Nat × Obj)} {a : Act} (h : Live N W0 F G → wpQ P md ops N W0 n L f listed F G a) : wpQ P md ops N W0 n L f listed F G a := by
 cases f
 · exact fun hl => h hl hl
 · exact fun hl => h hl hl
theorem wfQ_mono {i : Nat} {a : Act} {F : World → Prop} {G : List (Nat × Obj)} {K K' : GK} (h : ∀ F G a, K F G a → K' F G a) (hh : wfQ P ops N W0 i K F G a) : wfQ P ops N W0 i K' F G a := by
 unfold wfQ at *
 split
 · rename_i ho; simp only [ho] at hh
 · rename_i o ho
   simp only [ho] at hh
   split at hh
   · rename_i ha
     rw [if_pos ha]
     obtain ⟨ob, hf, hk⟩ := hh
     exact ⟨ob, hf, fun g hN hg => h _ _ _ (hk g hN hg)⟩
   · rename_i ha
     rw [if_neg ha]
     rcases hh with ⟨v, hy, hk⟩ | ⟨hw, hx⟩ | ⟨hw, hx⟩
     · exact .inl ⟨v, hy, h _ _ _ hk⟩
     · exact .inr (.inl ⟨hw, fun W hF hS => givesW_mono (fun v F' G' hk => h _ _ _ hk) _ (hx W hF hS)⟩)
     · exact .inr (.inr ⟨hw, fun W hF hS => givesX_mono (fun v F' hk => h _ _ _ hk) _ (hx W hF hS)⟩)
theorem wfQ_put {j : Nat} {oi oj : Oper} {v : Value} (hj : ops[j]? = some oj) (hap : oi.apart ops oj = true)
  (hsi : ∀ cs b, oi.op ≠ .select cs b) (hsj : ∀ cs b, oj.op ≠ .select cs b) {K : GK} {F : World → Prop} {G : List (Nat × Obj)} {a : Act}
  (hy : YieldsH P ops N W0 oi v a) (h : wfQ P ops N W0 j K F G (a.put oi.dst v)) :
  wfQ P ops N W0 j (fun F' G' a' => YieldsH P ops N W0 oi v a' ∧ K F' G' (a'.put oi.dst v)) F G a := by
 obtain ⟨h1, h2, h3⟩ := Oper.apart_spec hap
 have keep : ∀ u, YieldsH P ops N W0 oi v (a.put oj.dst u) := fun u => hy.of_same (execOp_put oi hsi a oj.dst u h3) (wanted_put oi a oj.dst u h3)
 have e1 := execOp_put oj hsj a oi.dst v h1
 have e2 := wanted_put oj a oi.dst v h1
 unfold wfQ at *
 simp only [hj] at *
 split at h
 · rename_i ha
   rw [if_pos ha]
   obtain ⟨ob, hf, hk⟩ := h
   refine ⟨ob, ?_, fun g hN hg => ⟨keep _, by rw [← Act.put_comm a v _ h2]; exact hk g hN hg⟩⟩
   unfold FreshQ at *; rw [e1, e2] at hf; exact hf
 · rename_i ha
   rw [if_neg ha]
   rcases h with ⟨u, hu, hk⟩ | ⟨hw, hx⟩ | ⟨hw, hx⟩
   · exact .inl ⟨u, hu.of_same e1.symm e2.symm, keep u, by rw [← Act.put_comm a v u h2]; exact hk⟩
   · refine .inr (.inl ⟨by rw [← e2]; exact hw, fun W hF hS => ?_⟩)
     have := hx W hF hS
     rw [e1] at this
     exact givesW_mono (fun u F' G' hk => ⟨keep u, by rw [← Act.put_comm a v u h2]; exact hk⟩) _ this
   · refine .inr (.inr ⟨by rw [← e2]; exact hw, fun W hF hS => ?_⟩)
     have := hx W hF hS
     rw [e1] at this
     exact givesX_mono (fun u F' hk => ⟨keep u, by rw [← Act.put_comm a v u h2]; exact hk⟩) _ this
theorem wfQ_same {i : Nat} {a : Act} {F : World → Prop} {G G' : List (Nat × Obj)} {K : GK} (hK : LInv K) (h : ∀ p, p ∈ G ↔ p ∈ G') (hh : wfQ P ops N W0 i K F G a) : wfQ P ops N W0 i K F G' a := by
 unfold wfQ at *
 split
 · rename_i ho; simp only [ho] at hh
 · rename_i o ho
   simp only [ho] at hh
   split at hh
   · rename_i ha
     rw [if_pos ha]
     obtain ⟨ob, hf, hk⟩ := hh
     exact ⟨ob, hf, fun g hN hg => hK _ _ _ _ (same_cons h _) (hk g hN (fun p hp => hg p ((h p).1 hp)))⟩
   · rename_i ha
     rw [if_neg ha]
     rcases hh with ⟨v, hy, hk⟩ | ⟨hw, hx⟩ | ⟨hw, hx⟩
     · exact .inl ⟨v, hy, hK _ _ _ _ h hk⟩
     · exact .inr (.inl ⟨hw, fun W hF hS => hx W hF (hS.same (fun p => (h p).symm))⟩)
     · exact .inr (.inr ⟨hw, fun W hF hS => givesX_mono (fun v F' hk => hK _ _ _ _ h hk) _ (hx W hF (hS.same (fun p => (h p).symm)))⟩)
theorem wpQ_same {n : List Nat} {L : GK} (hL : LInv L) : ∀ (f : Nat) (listed : Array Bool), LInv (wpQ P md ops N W0 n L f listed)
 | 0, listed => fun F G G' a h hh hl => ⟨(hh (hl.same (fun p => (h p).symm))).1, hL _ _ _ _ h (hh (hl.same (fun p => (h p).symm))).2⟩
 | f + 1, listed => fun F G G' a h hh hl => ⟨(hh (hl.same (fun p => (h p).symm))).1, fun i hi => wfQ_same (wpQ_same hL f _) h ((hh (hl.same (fun p => (h p).symm))).2 i hi)⟩
theorem wpQ_first {i : Nat} {n : List Nat} {oi : Oper} {v : Value} {L : GK} (hT : tailBJ md ops n = true) (hin : n.contains i = false) (hi : ops[i]? = some oi) (ha : isFresh oi = false) :
  ∀ (f : Nat) (listed : Array Bool) (F : World → Prop) (G : List (Nat × Obj)) (a : Act),
   DC md ops listed → (∀ j oj, ops[j]? = some oj → j ≠ i → listed.getD j true = false → (∀ e ∈ oj.after, Region.binds md e = true → e.on ≠ i) → oi.apart ops oj = true) →
   i ∈ Region.ready md ops listed → YieldsH P ops N W0 oi v a →
   wpQ P md ops N W0 n L f (listed.setIfInBounds i true) F G (a.put oi.dst v) → wpQ P md ops N W0 n L (f + 1) listed F G a := by
 have hsel := Region.noSelect_spec (by have := hT; unfold tailBJ at this; rw [Bool.and_eq_true] at this; exact this.1)
 have base : ∀ (F : World → Prop) (G : List (Nat × Obj)) (a : Act), YieldsH P ops N W0 oi v a → ∀ K : GK, K F G (a.put oi.dst v) → wfQ P ops N W0 i K F G a := by
  intro F G a hy K H
  unfold wfQ
  simp only [hi]
  rw [if_neg (by rw [ha]; exact Bool.false_ne_true)]
  exact .inl ⟨v, hy, H⟩
 intro f
 induction f with
 | zero =>
  intro listed F G a hdc hfree hr hy H hl
  have hun := (mem_ready.1 hr).1
  refine ⟨fun h => (by rw [h] at hr; cases hr), fun j hj => ?_⟩
  by_cases hji : j = i
  · subst hji
    exact base _ _ _ hy _ H
  · have h1 := seqB_memJ (H hl).1 j (ready_mono hj hji)
    have h2 := tailB_specJ hT hdc hj (Array.getElem?_eq_some_iff.1 hi).1 hin hun
    rw [h1] at h2; cases h2
 | succ f ih =>
  intro listed F G a hdc hfree hr hy H hl
  have hun := (mem_ready.1 hr).1
  refine ⟨fun h => (by rw [h] at hr; cases hr), fun j hj => ?_⟩
  by_cases hji : j = i
  · subst hji
    exact base _ _ _ hy _ H
  · have h1 := (H hl).2 j (ready_mono hj hji)
    obtain ⟨hjun, oj, hoj, hall⟩ := mem_ready.1 hj
    have hnot : ∀ e ∈ oj.after, Region.binds md e = true → e.on ≠ i := fun e he hb heq => by
     have h1 := hall e he hb
     rw [heq, getD_both hun] at h1
     cases h1
    have h2 := wfQ_put hoj (hfree j oj hoj hji hjun hnot) (fun cs b => hsel i oi cs b hi) (fun cs b => hsel j oj cs b hoj) hy h1
    have hfree' : ∀ k ok, ops[k]? = some ok → k ≠ i → (listed.setIfInBounds j true).getD k true = false →
      (∀ e ∈ ok.after, Region.binds md e = true → e.on ≠ i) → oi.apart ops ok = true := fun k ok hk hki hun hno => by
     refine hfree k ok hk hki ?_ hno
     by_cases hjk : j = k
     · subst hjk; exact hjun
     · rw [getD_set_ne true hjk] at hun; exact hun
    refine wfQ_mono (fun F' G' a' h3 => ih (listed.setIfInBounds j true) F' G' a' (hdc.set hj) hfree' (ready_mono hr (Ne.symm hji)) h3.1 ?_) h2
    rw [Array.setIfInBounds_comm _ _ hji]
    exact h3.2
def onlyQ (md : Region.Mode) (ops : Array Oper) (i : Nat) : Nat → Array Bool → Bool
  | 0, listed => decide (Region.ready md ops listed = [i])
  | f + 1, listed => (Region.ready md ops listed).contains i && (Region.ready md ops listed).all fun j => j == i || match ops[i]?, ops[j]? with
      | some oi, some oj => isFresh oj && oi.apart ops oj && onlyQ md ops i f (listed.setIfInBounds j true)
      | _, _ => false
theorem FreshQ.back {oi oj : Oper} {a : Act} {v : Value} {ob : Obj} (hsj : ∀ cs b, oj.op ≠ .select cs b) (hap : oi.apart ops oj = true) (h : FreshQ P ops oj (a.put oi.dst v) ob) : FreshQ P ops oj a ob := by
 obtain ⟨p1, p2, p3⟩ := Oper.apart_spec hap
 unfold FreshQ at *
 rw [execOp_put oj hsj a oi.dst v p1, wanted_put oj a oi.dst v p1] at h
 exact h
theorem wpQ_callfirst {i : Nat} {n : List Nat} {oi : Oper} {L : GK} (hsel : ∀ (j : Nat) (o : Oper) cs b, ops[j]? = some o → o.op ≠ .select cs b) (hi : ops[i]? = some oi) (hai : isFresh oi = false) :
  ∀ (f : Nat) (listed : Array Bool) (F : World → Prop) (G : List (Nat × Obj)) (a : Act), onlyQ md ops i f listed = true →
   CallX P ops N W0 oi a (wpQ P md ops N W0 n L f (listed.setIfInBounds i true)) F G →
   wpQ P md ops N W0 n L (f + 1) listed F G a := by
 intro f
 induction f with
 | zero =>
  intro listed F G a hB hx hl
  simp only [onlyQ, decide_eq_true_eq] at hB
  refine ⟨fun h => (by rw [h] at hB; cases hB), fun j hj => ?_⟩
  rw [hB] at hj
  obtain rfl : j = i := by simpa using hj
  unfold wfQ
  simp only [hi]
  rw [if_neg (by rw [hai]; exact Bool.false_ne_true)]
  exact .inr (.inr hx)
 | succ f ih =>
  intro listed F G a hB hx hl
  simp only [onlyQ, Bool.and_eq_true, List.all_eq_true] at hB
  obtain ⟨hr, hall⟩ := hB
  have hr : i ∈ Region.ready md ops listed := by simpa using hr
  refine ⟨fun h => (by rw [h] at hr; cases hr), fun j hj => ?_⟩
  by_cases hji : j = i
  · subst hji
    unfold wfQ
    simp only [hi]
    rw [if_neg (by rw [hai]; exact Bool.false_ne_true)]
    exact .inr (.inr hx)
  · have h1 := hall j hj
    obtain ⟨hjun, oj, hoj, _⟩ := mem_ready.1 hj
    simp only [hi, hoj, Bool.or_eq_true, beq_iff_eq, hji, false_or, Bool.and_eq_true] at h1
    obtain ⟨⟨haj, hap⟩, hon⟩ := h1
    obtain ⟨p1, p2, p3⟩ := Oper.apart_spec hap
    have hsj := fun cs b => hsel j oj cs b hoj
    obtain ⟨ob, hfr⟩ : ∃ ob, FreshQ P ops oj a ob := by
     obtain ⟨hC, W, hF, hS⟩ := hl
     obtain ⟨v, F', w'', hb, hF', hC', hk⟩ := givesX_live (hx.2 W hF hS)
     have h3 := (hk ⟨hC.and hC', w'', ⟨hC _ _ hF hb, hF'⟩, hS.below hb⟩).2 j (ready_mono hj hji)
     unfold wfQ at h3
     simp only [hoj] at h3
     rw [if_pos haj] at h3
     obtain ⟨ob', hf', _⟩ := h3
     exact ⟨ob', hf'.back hsj hap⟩
    unfold wfQ
    simp only [hoj]
    rw [if_pos haj]
    refine ⟨ob, hfr, fun g hN hG => ih (listed.setIfInBounds j true) F ((g, ob) :: G) _ hon ⟨?_, fun W hF hS => ?_⟩⟩
    · rw [wanted_put oi a oj.dst _ p3]; exact hx.1
    · have h2 := hx.2 W hF hS.weak
      rw [execOp_put oi (fun cs b => hsel i oi cs b hi) a oj.dst _ p3]
      refine givesX_mono (fun v F' hk => wpQ_live fun hl' => ?_) _ h2
      have h3 := (hk hl'.weak).2 j (ready_mono hj hji)
      unfold wfQ at h3
      simp only [hoj] at h3
      rw [if_pos haj] at h3
      obtain ⟨ob', hf', hk'⟩ := h3
      have hobe : ob = ob' := freshQ_ob hfr (hf'.back hsj hap) rfl W
      subst hobe
      have h4 := hk' g hN hG
      rw [Array.setIfInBounds_comm _ _ (Ne.symm hji), Act.put_comm a _ v (fun d hd => fun h => p2 d h hd)] at *
      exact h4
theorem wpQ_freshfirst {i : Nat} {n : List Nat} {oi : Oper} {L : GK} (hL : LInv L) (hsel : ∀ (j : Nat) (o : Oper) cs b, ops[j]? = some o → o.op ≠ .select cs b) (hi : ops[i]? = some oi) (hai : isFresh oi = true) (ob : Obj) :
  ∀ (f : Nat) (listed : Array Bool) (F : World → Prop) (G : List (Nat × Obj)) (a : Act), onlyQ md ops i f listed = true → FreshQ P ops oi a ob →
   (∀ g, N ≤ g → (∀ p ∈ G, p.1 ≠ g) → wpQ P md ops N W0 n L f (listed.setIfInBounds i true) F ((g, ob) :: G) (a.put oi.dst (freshV oi g))) →
   wpQ P md ops N W0 n L (f + 1) listed F G a := by
 have here : ∀ (K : GK) (F : World → Prop) (G : List (Nat × Obj)) (a : Act), FreshQ P ops oi a ob → (∀ g, N ≤ g → (∀ p ∈ G, p.1 ≠ g) → K F ((g, ob) :: G) (a.put oi.dst (freshV oi g))) → wfQ P ops N W0 i K F G a := by
  intro K F G a hfr hk
  unfold wfQ
  simp only [hi]
  rw [if_pos hai]
  exact ⟨ob, hfr, hk⟩
 intro f
 induction f with
 | zero =>
  intro listed F G a hB hfr hx hl
  simp only [onlyQ, decide_eq_true_eq] at hB
  refine ⟨fun h => (by rw [h] at hB; cases hB), fun j hj => ?_⟩
  rw [hB] at hj
  obtain rfl : j = i := by simpa using hj
  exact here _ _ _ _ hfr hx
 | succ f ih =>
  intro listed F G a hB hfr hx hl
  simp only [onlyQ, Bool.and_eq_true, List.all_eq_true] at hB
  obtain ⟨hr, hall⟩ := hB
  have hr : i ∈ Region.ready md ops listed := by simpa using hr
  refine ⟨fun h => (by rw [h] at hr; cases hr), fun j hj => ?_⟩
  by_cases hji : j = i
  · subst hji; exact here _ _ _ _ hfr hx
  · have h1 := hall j hj
    obtain ⟨hjun, oj, hoj, _⟩ := mem_ready.1 hj
    simp only [hi, hoj, Bool.or_eq_true, beq_iff_eq, hji, false_or, Bool.and_eq_true] at h1
    obtain ⟨⟨haj, hap⟩, hon⟩ := h1
    obtain ⟨p1, p2, p3⟩ := Oper.apart_spec hap
    have hsi := fun cs b => hsel i oi cs b hi
    have hsj := fun cs b => hsel j oj cs b hoj
    have hgo : ∀ g, N ≤ g → (∀ p ∈ G, p.1 ≠ g) → Live N W0 F ((g, ob) :: G) → ∃ obj, FreshQ P ops oj a obj ∧ ∀ g', N ≤ g' → (∀ p ∈ (g, ob) :: G, p.1 ≠ g') → wpQ P md ops N W0 n L f ((listed.setIfInBounds i true).setIfInBounds j true) F ((g', obj) :: (g, ob) :: G) ((a.put oi.dst (freshV oi g)).put oj.dst (freshV oj g')) := by
     intro g hN hG hl'
     have h3 := (hx g hN hG hl').2 j (ready_mono hj hji)
     unfold wfQ at h3
     simp only [hoj] at h3
     rw [if_pos haj] at h3
     obtain ⟨ob', hf', hk'⟩ := h3
     exact ⟨ob', hf'.back hsj hap, hk'⟩
    obtain ⟨obj, hfrj⟩ : ∃ obj, FreshQ P ops oj a obj := by
     obtain ⟨g, hN, hG, hl'⟩ := hl.grow ob
     obtain ⟨obj, h, _⟩ := hgo g hN hG hl'
     exact ⟨obj, h⟩
    unfold wfQ
    simp only [hoj]
    rw [if_pos haj]
    refine ⟨obj, hfrj, fun g' hN' hG' => ih (listed.setIfInBounds j true) F ((g', obj) :: G) _ hon ?_ (fun g hN hG => wpQ_live fun hl' => ?_)⟩
    · unfold FreshQ
      rw [execOp_put oi hsi a oj.dst _ p3, wanted_put oi a oj.dst _ p3]
      exact hfr
    · have hne : g' ≠ g := hG (g', obj) (by simp)
      obtain ⟨ob', hf', hk'⟩ := hgo g hN (fun p hp => hG p (by simp [hp])) ((hl'.same (G' := (g', obj) :: (g, ob) :: G) (fun p => by simp only [List.mem_cons]; constructor <;> (rintro (h | h | h) <;> simp [h]))).weak)
      have hobe : obj = ob' := freshQ_ob hfrj hf' rfl W0
      subst hobe
      have h4 := hk' g' hN' (fun p hp => by
       rcases List.mem_cons.1 hp with rfl | hp
       · exact Ne.symm hne
       · exact hG' p hp)
      rw [Array.setIfInBounds_comm _ _ (Ne.symm hji), Act.put_comm a _ _ p2] at h4
      exact wpQ_same hL f _ _ _ _ _ (fun p => by simp only [List.mem_cons]; constructor <;> (rintro (h | h | h) <;> simp [h])) h4
theorem wpOp_of_wfQ {i : Nat} {a : Act} {w : World} {F : World → Prop} {G : List (Nat × Obj)} {K : GK} {K' : Act → World → Prop} {Q' : Exit → Act → World → Prop} (hF : F w) (hC : Cl F) (hS : SG N W0 G w)
  (h : ∀ F G a w, Cl F → F w → SG N W0 G w → K F G a → K' a w) (hh : wfQ P ops N W0 i K F G a) : wpOp P ops Q' i K' a w := by
 unfold wfQ at hh
 unfold wpOp
 split
 · rename_i ho; simp only [ho] at hh
 · rename_i o ho
   simp only [ho] at hh
   split at hh
   · obtain ⟨ob, ⟨hw, hf⟩, hk⟩ := hh
     rw [if_pos hw]
     refine .inl ?_
     unfold Oper.wp
     rw [hf w]
     exact h _ _ _ _ hC (hC _ _ hF ((Below.refl _ _).alloc (Nat.le_refl _) _)) (hS.alloc ob) (hk _ hS.1.1 (fun p hp e => by have := hS.size hp; omega))
   · rcases hh with ⟨v, hy, hk⟩ | ⟨hw, hx⟩ | ⟨hw, hx⟩
     · rcases hy with ⟨hw, hg⟩ | ⟨hw, rfl⟩
       · rw [if_pos hw]
         refine .inl ?_
         have hg := hg w hS.1
         unfold Oper.wp
         generalize (execOp a.eval o).run P w = r at *
         cases r with
         | ok nx w' =>
          cases nx <;> simp only [givesB, Oper.upon] at hg ⊢
          case value u => obtain ⟨rfl, h2⟩ := hg; exact h _ _ _ _ hC (hC _ _ hF h2) (hS.below h2) hk
          case skip => obtain ⟨rfl, h2⟩ := hg; exact h _ _ _ _ hC (hC _ _ hF h2) (hS.below h2) hk
          case enter f args => exact hg.mono fun e w'' ⟨he, hw⟩ => by subst he; exact h _ _ _ _ hC (hC _ _ hF hw) (hS.below hw) hk
         | halt x w' => simp only [givesB] at hg
       · rw [if_neg (by simp [hw])]
         exact h _ _ _ _ hC hF hS hk
     · rw [if_pos hw]
       refine .inl ?_
       have hg := hx w hF hS
       unfold Oper.wp
       generalize (execOp a.eval o).run P w = r at *
       cases r with
       | ok nx w' =>
        cases nx <;> simp only [givesW, Oper.upon] at hg ⊢
        case value u => obtain ⟨v, F', G', e1, hF', hC', hS', hk⟩ := hg; injection e1 with e1; subst e1; exact h _ _ _ _ hC' hF' hS' hk
        case skip => obtain ⟨v, F', G', e1, hF', hC', hS', hk⟩ := hg; injection e1 with e1; subst e1; exact h _ _ _ _ hC' hF' hS' hk
        case enter f args => exact hg.mono fun e w'' ⟨v, F', G', e1, hF', hC', hS', hk⟩ => by subst e1; exact h _ _ _ _ hC' hF' hS' hk
       | halt x w' => simp only [givesW] at hg
     · rw [if_pos hw]
       refine .inl ?_
       have hg := hx w hF hS
       unfold Oper.wp
       generalize (execOp a.eval o).run P w = r at *
       cases r with
       | ok nx w' =>
        cases nx <;> simp only [givesX, Oper.upon] at hg ⊢
        case value u => obtain ⟨F', hb, hF', hC', hk⟩ := hg; exact h _ _ _ _ (hC.and hC') ⟨hC _ _ hF hb, hF'⟩ (hS.below hb) hk
        case skip => obtain ⟨F', hb, hF', hC', hk⟩ := hg; exact h _ _ _ _ (hC.and hC') ⟨hC _ _ hF hb, hF'⟩ (hS.below hb) hk
        case enter f args => exact hg.mono fun e w'' ⟨v, F', he, hb, hF', hC', hk⟩ => by subst he; exact h _ _ _ _ (hC.and hC') ⟨hC _ _ hF hb, hF'⟩ (hS.below hb) hk
       | halt x w' => simp only [givesX] at hg
theorem wpAny_of_wpQ {n : List Nat} {L : GK} {Q' : Exit → Act → World → Prop} (hn : ∀ j ∈ n, j < ops.size) (hL : ∀ F G a w, F w → SG N W0 G w → L F G a → wpList P ops Q' (n.filterMap (fun i => ops[i]?)) a w) :
  ∀ (f : Nat) (listed : Array Bool) (F : World → Prop) (G : List (Nat × Obj)) (a : Act) (w : World), Cl F → F w → SG N W0 G w → wpQ P md ops N W0 n L f listed F G a → wpAny P md ops Q' (f + n.length) listed a w
 | 0, listed, F, G, a, w, hC, hF, hS, h => by
  rw [Nat.zero_add]
  have h := h ⟨hC, w, hF, hS⟩
  exact wpAny_of_seqJ n listed a w hn h.1 (hL _ _ _ _ hF hS h.2)
 | f + 1, listed, F, G, a, w, hC, hF, hS, h => by
  rw [show f + 1 + n.length = (f + n.length) + 1 by omega]
  have h := h ⟨hC, w, hF, hS⟩
  exact ⟨fun h0 => absurd h0 h.1, fun i hi => wpOp_of_wfQ hF hC hS (fun F' G' a' w' hC' hF' hS' h' => wpAny_of_wpQ hn hL f _ F' G' a' w' hC' hF' hS' h') (h.2 i hi)⟩
theorem wp_region_floatQ {id : Nat} {Q : Exit → Act → World → Prop} {a : Act} {l : List Oper} {W0 : World} (N m : Nat) (n : List Nat) (hN : N ≤ W0.heap.size) (F0 : World → Prop) (hF0 : F0 W0) (hC0 : Cl F0) (hm : P.follows .mixedOrders = true) (hn : (decide (m + n.length = l.length) && n.all (fun j => decide (j < l.length))) = true)
  (h : wpQ P .any l.toArray N W0 n (fun F G a' => ∀ w', F w' → SG N W0 G w' → wpList P l.toArray Q (n.filterMap (fun i => l[i]?)) a' w') m (Array.replicate l.length false) F0 [] a) : (Code.region id l.toArray true).wp P Q a W0 := by
 simp only [Bool.and_eq_true, decide_eq_true_eq, List.all_eq_true] at hn
 refine wp_region_any hm ?_
 have := wpAny_of_wpQ (Q' := Q) (ops := l.toArray) (fun j hj => by simpa using hn.2 j hj) (fun F G a w hF hS hL => by simpa using hL w hF hS) _ _ _ [] a W0.drew hC0 (hC0 _ _ hF0 (Below.refl _ _).drew) ⟨(Own.refl hN).drew, fun p hp => by cases hp⟩ h
 rw [hn.1] at this
 simpa using this
def stepBQ (md : Region.Mode) (ops : Array Oper) (n : List Nat) (i : Nat) (listed : Array Bool) : Bool :=
  tailBJ md ops n && dcB md ops listed && (!n.contains i) && (Region.ready md ops listed).contains i && Region.free md ops listed i && match ops[i]? with | some o => !isFresh o | none => false
theorem stepB_specQ {n : List Nat} {i : Nat} {listed : Array Bool} {o : Oper} (hi : ops[i]? = some o) (h : stepBQ md ops n i listed = true) :
  (tailBJ md ops n = true ∧ dcB md ops listed = true) ∧ n.contains i = false ∧ i ∈ Region.ready md ops listed ∧ Region.free md ops listed i = true ∧ isFresh o = false := by
 simp only [stepBQ, hi, Bool.and_eq_true, Bool.not_eq_true'] at h
 obtain ⟨⟨⟨⟨⟨a, a'⟩, b⟩, c⟩, d⟩, e⟩ := h
 exact ⟨⟨a, a'⟩, b, by simpa using c, d, e⟩
theorem wpQ_step {i f : Nat} {n : List Nat} {o : Oper} {L : GK} {listed : Array Bool} {F : World → Prop} {G : List (Nat × Obj)} {a : Act} (hi : ops[i]? = some o) (hB : stepBQ md ops n i listed = true) (hg : o.guard = none) (v : Value)
  (h : GivesH P N W0 o a v) (hk : ∀ K : Act → Prop, (∀ a, wpQ P md ops N W0 n L f (listed.setIfInBounds i true) F G a → K a) → K (a.put o.dst v)) : wpQ P md ops N W0 n L (f + 1) listed F G a := by
 obtain ⟨h1, h2, h3, h4, h5⟩ := stepB_specQ hi hB
 exact wpQ_first h1.1 h2 hi h5 f listed F G a (dcB_spec h1.2) (Region.free_spec hi h4) h3 (.inl ⟨by simp [Region.wanted, hg], h⟩) (hk _ fun _ h => h)
theorem wpQ_step_on {i f : Nat} {n : List Nat} {o : Oper} {L : GK} {listed : Array Bool} {F : World → Prop} {G : List (Nat × Obj)} {a : Act} (hi : ops[i]? = some o) (hB : stepBQ md ops n i listed = true) (hg : Region.wanted o (yielded ops a.tmps) = true) (v : Value)
  (h : GivesH P N W0 o a v) (hk : ∀ K : Act → Prop, (∀ a, wpQ P md ops N W0 n L f (listed.setIfInBounds i true) F G a → K a) → K (a.put o.dst v)) : wpQ P md ops N W0 n L (f + 1) listed F G a := by
 obtain ⟨h1, h2, h3, h4, h5⟩ := stepB_specQ hi hB
 exact wpQ_first h1.1 h2 hi h5 f listed F G a (dcB_spec h1.2) (Region.free_spec hi h4) h3 (.inl ⟨hg, h⟩) (hk _ fun _ h => h)
theorem wpQ_step_off {i f : Nat} {n : List Nat} {o : Oper} {L : GK} {listed : Array Bool} {F : World → Prop} {G : List (Nat × Obj)} {a : Act} (hi : ops[i]? = some o) (hB : stepBQ md ops n i listed = true) (hg : Region.wanted o (yielded ops a.tmps) = false)
  (hk : ∀ K : Act → Prop, (∀ a, wpQ P md ops N W0 n L f (listed.setIfInBounds i true) F G a → K a) → K (a.put o.dst undef)) : wpQ P md ops N W0 n L (f + 1) listed F G a := by
 obtain ⟨h1, h2, h3, h4, h5⟩ := stepB_specQ hi hB
 exact wpQ_first h1.1 h2 hi h5 f listed F G a (dcB_spec h1.2) (Region.free_spec hi h4) h3 (.inr ⟨hg, rfl⟩) (hk _ fun _ h => h)
def freshBQ (md : Region.Mode) (ops : Array Oper) (i f : Nat) (listed : Array Bool) : Bool :=
  Region.noSelect ops && onlyQ md ops i f listed && match ops[i]? with | some o => isFresh o | none => false
theorem wpQ_fresh {i f : Nat} {n : List Nat} {o : Oper} {L : GK} {listed : Array Bool} {F : World → Prop} {G : List (Nat × Obj)} {a : Act} (hL : LInv L) (hi : ops[i]? = some o) (hB : freshBQ md ops i f listed = true) (mk : Nat → Value) (hmk : freshV o = mk) (ob : Obj)
  (h : ∀ W, (execOp a.eval o).run P W = .ok (.value (mk W.heap.size)) (W.alloc ob))
  (hk : ∀ g, N ≤ g → (∀ p ∈ G, p.1 ≠ g) → ∀ K : Act → Prop, (∀ a, wpQ P md ops N W0 n L f (listed.setIfInBounds i true) F ((g, ob) :: G) a → K a) → K (a.put o.dst (mk g))) : wpQ P md ops N W0 n L (f + 1) listed F G a := by
 subst hmk
 simp only [freshBQ, hi, Bool.and_eq_true] at hB
 obtain ⟨⟨hs, hon⟩, ha⟩ := hB
 have hgd : o.guard = none := by
  unfold isFresh at ha
  split at ha
  · simpa using ha
  · simpa using ha
  · cases ha
 exact wpQ_freshfirst hL (Region.noSelect_spec hs) hi ha ob f listed F G a hon ⟨by simp [Region.wanted, hgd], h⟩ (fun g hN hg => hk g hN hg _ fun _ h => h)
theorem wpQ_wild {i f : Nat} {n : List Nat} {o : Oper} {L : GK} {listed : Array Bool} {F : World → Prop} {G : List (Nat × Obj)} {a : Act} (hi : ops[i]? = some o) (hB : decide (Region.ready md ops listed = [i]) = true) (hg : (o.guard.isNone && !isFresh o) = true)
  (h : ∀ W, F W → SG N W0 G W → givesW P N W0 (fun v F' G' => ∀ K : Act → Prop, (∀ a, wpQ P md ops N W0 n L f (listed.setIfInBounds i true) F' G' a → K a) → K (a.put o.dst v)) ((execOp a.eval o).run P W)) : wpQ P md ops N W0 n L (f + 1) listed F G a := by
 rw [decide_eq_true_eq] at hB
 rw [Bool.and_eq_true, Bool.not_eq_true'] at hg
 refine fun _ => ⟨fun h0 => (by rw [h0] at hB; cases hB), fun j hj => ?_⟩
 rw [hB] at hj
 obtain rfl : j = i := by simpa using hj
 unfold wfQ
 simp only [hi]
 rw [if_neg (by rw [hg.2]; exact Bool.false_ne_true)]
 exact .inr (.inl ⟨by have := hg.1; simp [Region.wanted, Option.isNone_iff_eq_none.1 this], fun W hF hS => givesW_mono (fun v F' G' hk => hk _ fun _ h => h) _ (h W hF hS)⟩)
def callBQ (md : Region.Mode) (ops : Array Oper) (i f : Nat) (listed : Array Bool) : Bool :=
  Region.noSelect ops && onlyQ md ops i f listed && match ops[i]? with | some o => !isFresh o | none => false
theorem wpQ_call {i f : Nat} {n : List Nat} {o : Oper} {L : GK} {listed : Array Bool} {F : World → Prop} {G : List (Nat × Obj)} {a : Act} (hi : ops[i]? = some o) (hB : callBQ md ops i f listed = true)
  (hg : Region.wanted o (yielded ops a.tmps) = true)
  (hk : ∀ W, F W → SG N W0 G W → givesX P W (fun v F' => ∀ K : Act → Prop, (∀ a, wpQ P md ops N W0 n L f (listed.setIfInBounds i true) (fun W => F W ∧ F' W) G a → K a) → K (a.put o.dst v)) ((execOp a.eval o).run P W)) : wpQ P md ops N W0 n L (f + 1) listed F G a := by
 simp only [callBQ, hi, Bool.and_eq_true, Bool.not_eq_true'] at hB
 obtain ⟨⟨hs, hon⟩, hna⟩ := hB
 exact wpQ_callfirst (Region.noSelect_spec hs) hi hna f listed F G a hon ⟨hg, fun W hF hS => givesX_mono (fun v F' hk => hk _ fun _ h => h) _ (hk W hF hS)⟩
def wpQI (P : Program) (md : Region.Mode) (ops : Array Oper) (N : Nat) (W0 : World) (n : List Nat) (L : GK) (_ : List Nat) (m : Nat) (listed : Array Bool) (F : World → Prop) (G : List (Nat × Obj)) (a : Act) : Prop := wpQ P md ops N W0 n L m listed F G a
theorem wpQI_start {m : Nat} {n : List Nat} {L : GK} {listed : Array Bool} {F : World → Prop} {G : List (Nat × Obj)} {a : Act} (is : List Nat) (h : wpQI P md ops N W0 n L is m listed F G a) : wpQ P md ops N W0 n L m listed F G a := h
theorem wpQI_nil {m : Nat} {n : List Nat} {L : GK} {listed : Array Bool} {F : World → Prop} {G : List (Nat × Obj)} {a : Act} (h : wpQ P md ops N W0 n L m listed F G a) : wpQI P md ops N W0 n L [] m listed F G a := h
theorem wpQI_step {i f : Nat} {n : List Nat} {is : List Nat} {o : Oper} {L : GK} {listed : Array Bool} {F : World → Prop} {G : List (Nat × Obj)} {a : Act} (hi : ops[i]? = some o) (hB : stepBQ md ops n i listed = true) (hg : o.guard = none) (v : Value)
  (h : GivesH P N W0 o a v) (hk : ∀ K : Act → Prop, (∀ a, wpQI P md ops N W0 n L is f (listed.setIfInBounds i true) F G a → K a) → K (a.put o.dst v)) : wpQI P md ops N W0 n L (i :: is) (f + 1) listed F G a := wpQ_step hi hB hg v h hk
theorem wpQI_on {i f : Nat} {n : List Nat} {is : List Nat} {o : Oper} {L : GK} {listed : Array Bool} {F : World → Prop} {G : List (Nat × Obj)} {a : Act} (hi : ops[i]? = some o) (hB : stepBQ md ops n i listed = true) (hg : Region.wanted o (yielded ops a.tmps) = true) (v : Value)
  (h : GivesH P N W0 o a v) (hk : ∀ K : Act → Prop, (∀ a, wpQI P md ops N W0 n L is f (listed.setIfInBounds i true) F G a → K a) → K (a.put o.dst v)) : wpQI P md ops N W0 n L (i :: is) (f + 1) listed F G a := wpQ_step_on hi hB hg v h hk
theorem wpQI_off {i f : Nat} {n : List Nat} {is : List Nat} {o : Oper} {L : GK} {listed : Array Bool} {F : World → Prop} {G : List (Nat × Obj)} {a : Act} (hi : ops[i]? = some o) (hB : stepBQ md ops n i listed = true) (hg : Region.wanted o (yielded ops a.tmps) = false)
  (hk : ∀ K : Act → Prop, (∀ a, wpQI P md ops N W0 n L is f (listed.setIfInBounds i true) F G a → K a) → K (a.put o.dst undef)) : wpQI P md ops N W0 n L (i :: is) (f + 1) listed F G a := wpQ_step_off hi hB hg hk
theorem wpQ_done {n : List Nat} {L : GK} {listed : Array Bool} {F : World → Prop} {G : List (Nat × Obj)} {a : Act} (hB : seqJ md ops n listed = true) (h : L F G a) : wpQ P md ops N W0 n L 0 listed F G a := fun _ => ⟨hB, h⟩
theorem wp_q {c : Code} {Q : Exit → Act → World → Prop} {a : Act} {w : World} (h : ∀ Q' : Exit → Act → World → Prop, Hid (∀ e a w, Q e a w → Q' e a w) → c.wp P Q' a w) : c.wp P Q a w := h Q (hQ0 fun _ _ _ h => h)
theorem LInv.std {l : List Oper} {Q : Exit → Act → World → Prop} {n : List Oper} : LInv (fun F G a' => ∀ w', F w' → SG N W0 G w' → wpList P l.toArray Q n a' w') := fun F G G' a h hL w' hF hS => hL w' hF (hS.same (fun p => (h p).symm))
end
end Go.Proofs.YtgejdaincnclpaaGreat
