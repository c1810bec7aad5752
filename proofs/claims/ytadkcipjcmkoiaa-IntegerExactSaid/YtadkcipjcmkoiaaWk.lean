/- The contract of wide.quoLimbs: a divisor of two limbs and more. -/
import Derived.Test.YtadkcipjcmkoiaaBigKn
import Derived.Test.YtadkcipjcmkoiaaWq
namespace Go.Proofs.Ytadkcipjcmkoiaa
open Go Go.RowKit
set_option linter.unusedVariables false
theorem norm_lz {t : Int} (t0 : 0 < t) (t1 : t < 4294967296) : ∃ S : Nat, S ≤ 31 ∧ 2147483648 ≤ t * 2 ^ S ∧ t * 2 ^ S < 4294967296 ∧ 32 - (Lib.bitLen t.toNat : Int) = (S : Int) := by
  obtain ⟨T, rfl⟩ := Int.eq_ofNat_of_zero_le (Int.le_of_lt t0)
  rw [Int.toNat_natCast]
  obtain ⟨a, b, c⟩ := Lib.bitLenAux_bounds 64 T (by omega) (by omega)
  have hL : Lib.bitLen T = Lib.bitLenAux 64 T := rfl
  rw [← hL] at a b c
  obtain ⟨L, hLL⟩ : ∃ L, L = Lib.bitLen T := ⟨_, rfl⟩
  rw [← hLL] at a b c ⊢
  have hL32 : L ≤ 32 := by
    rcases Nat.lt_or_ge 32 L with h | h
    · exfalso
      have h1 : 2 ^ 32 ≤ 2 ^ (L - 1) := Nat.pow_le_pow_right (by decide) (by omega)
      have h2 : (2 : Nat) ^ 32 = 4294967296 := by decide
      omega
    · exact h
  refine ⟨32 - L, by omega, ?_, ?_, by omega⟩
  · have h1 : 2 ^ (L - 1) * 2 ^ (32 - L) = 2 ^ 31 := by rw [← Nat.pow_add]; congr 1; omega
    have h2 : 2 ^ (L - 1) * 2 ^ (32 - L) ≤ T * 2 ^ (32 - L) := Nat.mul_le_mul_right _ b
    have h3 : (2 : Nat) ^ 31 = 2147483648 := by decide
    have h4 : ((T * 2 ^ (32 - L) : Nat) : Int) = (T : Int) * 2 ^ (32 - L) := by rw [Int.natCast_mul, Int.natCast_pow]; rfl
    rw [← h4]; omega
  · have h1 : 2 ^ L * 2 ^ (32 - L) = 2 ^ 32 := by rw [← Nat.pow_add]; congr 1; omega
    have h2 : T * 2 ^ (32 - L) < 2 ^ L * 2 ^ (32 - L) := Nat.mul_lt_mul_of_pos_right c (Nat.two_pow_pos _)
    have h3 : (2 : Nat) ^ 32 = 4294967296 := by decide
    have h4 : ((T * 2 ^ (32 - L) : Nat) : Int) = (T : Int) * 2 ^ (32 - L) := by rw [Int.natCast_mul, Int.natCast_pow]; rfl
    rw [← h4]; omega
theorem RowL.cl (g : Nat) (l : List Int) : Cl (fun w => RowL w g l) := fun _ _ h hb => h.below hb
theorem RowL.buf {w : World} {g : Nat} {l : List Int} (h : RowL w g l) : Buf w g l := ⟨h.lt, fun k x hx => h.cell hx, h.frozen⟩
/-- A digit of the remainder. -/
theorem rem_digit {x y P : Int} {k : Nat} (hk : k ≤ 31) (hk0 : 0 < k) (hP : P = 2 ^ k) (x0 : 0 ≤ x) (x1 : x < 4294967296) (y0 : 0 ≤ y) (y1 : y < 4294967296) :
    bits .or .u32 (x / P) (y * 2 ^ (32 - k) % 4294967296) = (x + 4294967296 * y) / P % 4294967296 ∧ 0 ≤ x / P ∧ x / P < 4294967296 := by
  obtain ⟨p0, p1⟩ := pow2_bd hk
  rw [← hP] at p0 p1
  obtain ⟨Q, hQ⟩ : ∃ Q : Int, Q = 2 ^ (32 - k) := ⟨_, rfl⟩
  have hPQ : 4294967296 = P * Q := by
    rw [hP, hQ, ← Int.pow_add, show k + (32 - k) = 32 by omega]; rfl
  have Q0 : 0 < Q := by rw [hQ]; exact Int.pow_pos (by decide)
  have e1 : y * Q % 4294967296 = Q * (y % P) := by
    rw [hPQ, Int.mul_comm y Q, Int.mul_comm P Q]
    exact Int.mul_emod_mul_of_pos _ _ Q0
  have r0 := Int.emod_nonneg y (show P ≠ 0 by omega)
  have r1 := Int.emod_lt_of_pos y (show 0 < P by omega)
  have d0 : 0 ≤ x / P := Int.ediv_nonneg x0 (by omega)
  have d1 : x / P < Q := Int.ediv_lt_of_lt_mul (by omega) (by rw [Int.mul_comm, ← hPQ]; exact x1)
  have m1 : Q * (y % P) ≤ Q * (P - 1) := Int.mul_le_mul_of_nonneg_left (by omega) (by omega)
  have m0 : 0 ≤ Q * (y % P) := Int.mul_nonneg (by omega) r0
  have m2 : Q * (P - 1) = 4294967296 - Q := by rw [hPQ]; grind
  have e2 : (x + 4294967296 * y) / P = x / P + Q * y := by
    rw [hPQ, Int.mul_assoc, Int.add_mul_ediv_left _ _ (by omega)]
  have e3 : (x / P + Q * y) % 4294967296 = x / P + Q * (y % P) := by
    have h1 : Q * y = Q * (y % P) + 4294967296 * (y / P) := by
      have h2 : y = P * (y / P) + y % P := (Int.mul_ediv_add_emod _ _).symm
      conv => lhs; rw [h2]
      rw [hPQ]; grind
    rw [h1, ← Int.add_assoc, Int.add_mul_emod_self_left]
    omega
  refine ⟨?_, d0, by omega⟩
  rw [← hQ, e1, e2, e3]
  refine bits_join_low .u32 32 (by decide) wraps_u32' (32 - k) _ _ d0 (by rw [← hQ]; exact d1) (by omega) m0 ?_ (by omega)
  rw [← hQ]
  exact Int.mul_emod_right _ _
set_option maxRecDepth 100000 in
set_option maxHeartbeats 20000000 in
theorem wquol_knuth (A B : Option Addr) (x y c d m : Nat) (w : World) (hn : (canN x).length ≤ 200000) (hA : LAt w A (canN x)) (hB : LAt w B (canN y)) (hxy : y ≤ x) (hy2 : (canN y).length = m + 2) :
    Calls Try.prog 84 #[.slice A (canN x).length c, .slice B (canN y).length d] w (WDivOut 400000 400000 ((x / y : Nat) : Int) ((x % y : Nat) : Int) w) := by
  have hcm := fun w' h h' => wcmpl_any A B x y c d w' (by omega) (by have := canN_mono hxy; omega) h h'
  obtain ⟨cm, hcc⟩ : ∃ cm, cm = cmpI x y := ⟨_, rfl⟩
  have cm0 : 0 ≤ cm := by rw [hcc]; unfold cmpI; rw [if_neg (by omega)]; split <;> omega
  rw [← hcc] at hcm
  have hlen : m + 2 ≤ (canN x).length := by have := canN_mono hxy; omega
  obtain ⟨t, ht⟩ : ∃ t, (canN y)[m + 1]? = some t := ⟨(canN y)[m + 1]'(by omega), by simp⟩
  obtain ⟨tl0, tl1⟩ := (canN_lim y).get ht
  have tne : t ≠ 0 := canN_last y t (by rw [List.getLast?_eq_getElem?, hy2]; exact ht)
  obtain ⟨S, S31, hS1, hS2, hS3⟩ := norm_lz (t := t) (by omega) tl1
  have hlz := fun w => Try.bits_LeadingZeros32 t w tl0 (by omega)
  rw [hS3] at hlz
  obtain ⟨V, hV, hVl, hVt, hVp⟩ := div_v hy2 ht hS1 hS2
  obtain ⟨X, hX, _, _, hXb, hX1, hX2⟩ := div_u (x := x) (y := y) rfl S31 hlen hVp
  have hsa := fun w' (h : LAt w' A (canN x)) => wshifted_any A (canN x) c S w' (canN_lim x) (by omega) S31 h
  have hsb := fun w' (h : LAt w' B (canN y)) => wshifted_any B (canN y) d S w' (canN_lim y) (by have := canN_mono hxy; omega) S31 h
  rw [mv_canN, ← hX] at hsa
  rw [mv_canN, ← hV] at hsb
  have HVX := Lib.hid (And.intro hV hX)
  have HVT := Lib.hid hVt
  have HVP := Lib.hid hVp
  have HVL := Lib.hid hVl
  have HXB := Lib.hid hXb
  have HT := Lib.hid ht
  obtain ⟨la, hla⟩ : ∃ la, la = (canN x).length := ⟨_, rfl⟩
  obtain ⟨n, hnn⟩ : ∃ n, n = (canN y).length := ⟨_, rfl⟩
  rw [← hla] at hsa hcm hn hlen hXb hX1 hX2 HXB ⊢
  rw [← hnn] at hsb hcm hy2 ⊢
  have HSB := Lib.hid hsb
  have HSA := Lib.hid hsa
  have HCM := Lib.hid hcm
  have HLZ := Lib.hid hlz
  have HA := Lib.hid hA
  have HB := Lib.hid hB
  have HNM := Lib.hid hy2
  have HLA := Lib.hid hla
  have HLN := Lib.hid hnn
  have n2 : 2 ≤ n := by omega
  have nla : n ≤ la := by omega
  clear hcm hA hB hcc hV hX hVt hVp hVl hXb hS3 ht hsa hsb hla hnn hy2 hlen hlz
  go_enter Try.func84, Try.ntmps84; (try simp only [List.append_eq, List.cons_append, List.nil_append])
  go_wp2_with fail
  -- own blocks: 
  (go_at_call 81; refine (HCM.out _ HA.out HB.out).mono ?_; rintro e w1 ⟨rfl, hb_w1⟩; have hz_w1 := hb_w1.size; (try simp at hz_w1); skip)
  have HB1 := Lib.hid hb_w1
  have HA1 := Lib.hid (HA.out.below hb_w1)
  have HBB1 := Lib.hid (HB.out.below hb_w1)
  clear hb_w1
  have nn1 : ((n : Int) == 1) = false := by rw [beq_eq_false_iff_ne]; omega
  obtain ⟨gb, ob, rfl, hgb, hcell⟩ := HBB1.out (m + 1) t HT.out
  have hidx : (n : Int) - 1 = ((m + 1 : Nat) : Int) := by have := HNM.out; omega
  have i1 : (0 : Int) ≤ (n : Int) - 1 := by omega
  have i2 : (n : Int) - 1 < (n : Int) := by omega
  go_wp2_with fail
  (go_at_call 94; refine (HLZ.out _).mono ?_; rintro e w3 ⟨rfl, rfl⟩)
  clear hcell hidx
  have s0 : (0 : Int) ≤ (S : Int) := by omega
  have s1 : (S : Int) ≤ 31 := by omega
  go_wp2_with fail
  have hcn : (n : Int) ≤ (n + 1 : Nat) := by omega
  have hcn2 : (n : Int) ≤ (n : Int) + 1 := by omega
  have hcn3 : (0 : Int) ≤ (n : Int) := by omega
  (refine pin_wp (N := _) (Nat.le_refl _) (fun w4 hb_w4 hz_w4 => ?_); (try simp at hz_w4); skip); refine wp_region_float w4.heap.size 11 (Nat.le_refl _) (fun _ => True) trivial Cl.tt (by kernel_rfl) (by simp) ?_
  have HA4 := Lib.hid (HA1.out.below hb_w4)
  have HBB4 := Lib.hid (HBB1.out.below hb_w4)
  have HB4 := Lib.hid (HB1.out.trans (hb_w4.mono HB1.out.size))
  clear hb_w4
  refine wpI_start [0, 1] ?_; (iterate 2 (first | (refine wpI_off rfl (by kernel_rfl) rfl (fun K hK => ?_); go_simp; refine hK _ ?_; clear hK K) | ((first | apply wpI_step rfl (by kernel_rfl) rfl | apply wpI_on rfl (by kernel_rfl) rfl); (focus (intro W' hS; have hcS := hS.cells.1; have hfS := hS.cells.2; go_simp; (first | done | exact rfl | exact ⟨rfl, Below.refl _ _⟩ | (go_simp; first | done | exact rfl | exact ⟨rfl, Below.refl _ _⟩)))); intro K hK; go_simp; (try go_bits); refine hK _ ?_; clear hK K))); refine wpI_nil ?_
  refine wpI_start [3, 4] ?_; (iterate 2 (first | (refine wpI_off rfl (by kernel_rfl) rfl (fun K hK => ?_); go_simp; refine hK _ ?_; clear hK K) | ((first | apply wpI_step rfl (by kernel_rfl) rfl | apply wpI_on rfl (by kernel_rfl) rfl); (focus (intro W' hS; have hcS := hS.cells.1; have hfS := hS.cells.2; go_simp; (first | done | exact rfl | exact ⟨rfl, Below.refl _ _⟩ | (go_simp; first | done | exact rfl | exact ⟨rfl, Below.refl _ _⟩)))); intro K hK; go_simp; (try go_bits); refine hK _ ?_; clear hK K))); refine wpI_nil ?_
  refine wpI_start [6, 7] ?_; (iterate 2 (first | (refine wpI_off rfl (by kernel_rfl) rfl (fun K hK => ?_); go_simp; refine hK _ ?_; clear hK K) | ((first | apply wpI_step rfl (by kernel_rfl) rfl | apply wpI_on rfl (by kernel_rfl) rfl); (focus (intro W' hS; have hcS := hS.cells.1; have hfS := hS.cells.2; go_simp; (first | done | exact rfl | exact ⟨rfl, Below.refl _ _⟩ | (go_simp; first | done | exact rfl | exact ⟨rfl, Below.refl _ _⟩)))); intro K hK; go_simp; (try go_bits); refine hK _ ?_; clear hK K))); refine wpI_nil ?_
  apply wpF_call (i := 2) rfl (by kernel_rfl) (by kernel_rfl); intro W hF hS; have hcS := hS.1.cells.1; have hfS := hS.1.cells.2; go_simp
  (go_at_call 95; refine (HSA.out W (HA4.out.own hS.1 (Nat.le_refl _))).mono ?_; rintro e w5 ⟨UL, rfl, hul1, hul2, hul3, hul4, hb_w5⟩)
  obtain ⟨gu, hgu⟩ : ∃ g, g = W.heap.size := ⟨_, rfl⟩
  have HGU := Lib.hid (show w4.heap.size ≤ gu by rw [hgu]; exact hS.1.1)
  rw [← hgu] at hul4 ⊢
  refine XPost.mk _ (fun W' => RowL W' gu UL) hb_w5 hul4 (RowL.cl _ _) ?_
  have HUL := Lib.hid (And.intro hul1 (And.intro hul2 hul3))
  clear hul1 hul2 hul3 hul4 hgu hb_w5 hcS hfS hS hF W
  intro K hK; go_simp; refine hK _ ?_; clear hK K
  apply wpF_call (i := 5) rfl (by kernel_rfl) (by kernel_rfl); intro W hF hS; have hcS := hS.1.cells.1; have hfS := hS.1.cells.2; go_simp
  (go_at_call 95; refine (HSB.out W (HBB4.out.own hS.1 (Nat.le_refl _))).mono ?_; rintro e w6 ⟨VL, rfl, hvl1, hvl2, hvl3, hvl4, hb_w6⟩)
  obtain ⟨gv, hgv⟩ : ∃ g, g = W.heap.size := ⟨_, rfl⟩
  have HGV := Lib.hid (show gu < gv by rw [hgv]; exact hF.lt)
  rw [← hgv] at hvl4 ⊢
  refine XPost.mk _ (fun W' => RowL W' gv VL) hb_w6 hvl4 (RowL.cl _ _) ?_
  have HVLL := Lib.hid (And.intro hvl1 (And.intro hvl2 hvl3))
  clear hvl1 hvl2 hvl3 hvl4 hgv hb_w6 hcS hfS hS hF W
  intro K hK; go_simp; refine hK _ ?_; clear hK K
  refine wpI_start [8, 9, 10] ?_; (iterate 3 (first | (refine wpI_off rfl (by kernel_rfl) rfl (fun K hK => ?_); go_simp; refine hK _ ?_; clear hK K) | ((first | apply wpI_step rfl (by kernel_rfl) rfl | apply wpI_on rfl (by kernel_rfl) rfl); (focus (intro W' hS; have hcS := hS.cells.1; have hfS := hS.cells.2; go_simp; (first | done | exact rfl | exact ⟨rfl, Below.refl _ _⟩ | (go_simp; first | done | exact rfl | exact ⟨rfl, Below.refl _ _⟩)))); intro K hK; go_simp; (try go_bits); refine hK _ ?_; clear hK K))); refine wpI_nil ?_
  refine wpF_done (by kernel_rfl) ?_
  intro w7 hF_w7 hSG
  have hz_w7 := hSG.1.1
  have hb_w7 := hSG.1.2
  clear hSG
  skip
  (try simp only [List.drop_succ_cons, List.drop_zero])
  have HB7 := Lib.hid (HB4.out.trans (hb_w7.mono HB4.out.size))
  have HB47 := Lib.hid hb_w7
  have HU7 := Lib.hid hF_w7.1.buf
  have HV7 := Lib.hid (show Buf w7 gv (canN V) by
    have h := hF_w7.2.buf.take (canN V).length
    have e := canN_take_any HVLL.out.2.1
    rw [HVLL.out.2.2, Int.toNat_natCast] at e
    rwa [e] at h)
  have hgvl := hF_w7.2.lt
  clear hb_w7 hF_w7
  have hmk := fun w => run_make_row' (P := Try.prog) 22 50 (.int .u32 0) 4 Try.underlying22 limbInfo rfl .i64 .i64 (la + 1 - n) (by omega) (by omega) w
  have hmn : ((la + 1 - n : Nat) : Int) = (la : Int) - (n : Int) + 1 := by omega
  rw [hmn] at hmk
  have hla0 : (la : Int) ≤ 200000 := by omega
  go_wp2_with fail
  clear hmk hmn
  obtain ⟨top, htop⟩ : ∃ top, (canN V)[m + 1]? = some top := ⟨(canN V)[m + 1]'(by have := HVL.out; omega), by simp⟩
  obtain ⟨next, hnext⟩ : ∃ next, (canN V)[m]? = some next := ⟨(canN V)[m]'(by have := HVL.out; omega), by simp⟩
  have t0 := HVT.out _ htop
  obtain ⟨_, t1⟩ := (canN_lim V).get htop
  obtain ⟨f0, f1⟩ := (canN_lim V).get hnext
  have HTN := Lib.hid (And.intro htop hnext)
  have HU8 := Lib.hid (HU7.out.below ((Below.refl w7.heap.size w7).alloc (Nat.le_refl _) (.cells (madeCells #[.int .u32 0] (la + 1 - n)) 50)))
  have HV8 := Lib.hid (HV7.out.below ((Below.refl w7.heap.size w7).alloc (Nat.le_refl _) (.cells (madeCells #[.int .u32 0] (la + 1 - n)) 50)))
  have HB8 := Lib.hid (HB47.out.alloc HB47.out.size (.cells (madeCells #[.int .u32 0] (la + 1 - n)) 50))
  have HQ8 := Lib.hid (RowL.made w7 (la + 1 - n))
  have hz7 := HB47.out.size
  clear htop hnext
  (refine pin_wp (N := _) (Nat.le_refl _) (fun w8 hb_w8 hz_w8 => ?_); (try simp at hz_w8); skip)
  have HU9 := Lib.hid (HU8.out.below hb_w8)
  have HV9 := Lib.hid (HV8.out.below hb_w8)
  have HB9 := Lib.hid (HB8.out.trans (hb_w8.mono (by simp; omega)))
  have HQ9 := Lib.hid (HQ8.out.below hb_w8)
  clear hb_w8
  have cv1 := HV9.out.2.1 _ _ HTN.out.1
  have cv2 := HV9.out.2.1 _ _ HTN.out.2
  have cvl := HV9.out.1
  have hNM := HNM.out
  have x3 : (n : Int) - 1 = ((m + 1 : Nat) : Int) := by omega
  have x4 : (n : Int) - 2 = ((m : Nat) : Int) := by omega
  have y9 : (0 : Int) ≤ (n : Int) - 2 := by omega
  have y10 : (n : Int) - 2 < (n : Int) := by omega
  have z3 : ((m + 1 : Nat) : Int) < (n : Int) := by omega
  have z4 : ((m : Nat) : Int) < (n : Int) := by omega
  have z7 : (m : Int) + 1 < (n : Int) := by omega
  clear hNM
  refine wp_region_warm (Own w8.heap.size w8) (by kernel_rfl) (by kernel_rfl) (Own.refl (Nat.le_refl _)).drew ?_
  repeat (first | (refine wpWarm_step_off rfl (fun K hK => ?_); (go_simp; refine hK _ ?_; clear hK K)) | (apply wpWarm_step rfl; (focus (intro W' hS; have hcS := hS.cells.1; have hfS := hS.cells.2; go_simp; (first | done | exact rfl | exact ⟨rfl, hS⟩ | (go_simp; exact rfl)))); (intro K hK; go_simp; (try go_bits); refine hK _ ?_; clear hK K)) | (apply wpWarm_step_on rfl; (focus (intro W' hS; have hcS := hS.cells.1; have hfS := hS.cells.2; go_simp; (first | done | exact rfl | exact ⟨rfl, hS⟩ | (go_simp; exact rfl)))); (intro K hK; go_simp; (try go_bits); refine hK _ ?_; clear hK K)))
  refine wpWarm_nil ?_
  intro w9 hO9
  have HU := Lib.hid (HU9.out.below hO9.2)
  have HV := Lib.hid (HV9.out.below hO9.2)
  have HB49 := Lib.hid (HB9.out.trans (hO9.2.mono HB9.out.size))
  have HQ := Lib.hid (HQ9.out.below hO9.2)
  have hguq : gu < w7.heap.size := HU7.out.1
  have hgvq : gv < w7.heap.size := HV7.out.1
  have hguv : gu < gv := HGV.out
  clear hO9 cv1 cv2 cvl x3 x4 y9 y10 z3 z4 z7 hz_w8 hgvl i1 i2
  go_wp2_with fail
  go_loopg [15] (la + 1 - n) (fun gk vj wr => ∃ (k : Nat) (ul ql : List Int), k = gk ∧ k ≤ la + 1 - n ∧ vj = .int .i64 ((k : Int) - 1) ∧ Buf wr gu ul ∧ Buf wr gv (canN V) ∧ RowL wr w7.heap.size ql ∧ Hid (ul.length = la + 1 ∧ ql.length = la + 1 - n ∧ Lim ul ∧ Lim ql ∧ mv ul < PB k * V ∧ (X : Int) = mv ul + mv ql * V ∧ ∀ i, i < k → ql[i]? = some 0) ∧ Below w4.heap.size w4 wr)
  case atStart => exact ⟨la + 1 - n, UL, List.replicate (la + 1 - n) 0, rfl, Nat.le_refl _, by go_num, HU.out, HV.out, HQ.out, Lib.hid ⟨HUL.out.1, by simp, HUL.out.2.1, Lim.replicate _, by rw [HUL.out.2.2, HNM.out]; exact HXB.out, by rw [HUL.out.2.2, mv_replicate]; simp, fun i hi => by simp [hi]⟩, HB49.out⟩
  case round =>
    obtain ⟨k, ul, ql, hgk, hk, rfl, hbuf, hbv, hrow, HO, hbel⟩ := hrel
    subst hgk
    obtain ⟨wo, rfl⟩ : ∃ wo : World, wo = wr := ⟨_, rfl⟩
    rcases k with _ | j
    · as_aux_lemma =>
      rw [show (((0 : Nat) : Int) - 1) = -1 by omega]
      have y0 : 0 < y := by
        rcases Nat.eq_zero_or_pos y with h | h
        · exfalso
          have h1 := HLN.out
          rw [h, canN_zero] at h1
          simp at h1
          omega
        · exact h
      obtain ⟨hf1, hf2⟩ := quot_end HO.out.2.2.1 HO.out.2.2.2.1 HO.out.2.2.2.2.2.1 HO.out.2.2.2.2.1 HVX.out.2 HVX.out.1 y0
      have HQF := Lib.hid (show mv ql = ((x / y : Nat) : Int) by have := mv_nonneg HO.out.2.2.2.1; omega)
      obtain ⟨P, hP⟩ : ∃ P : Int, P = 2 ^ S := ⟨_, rfl⟩
      rw [← hP] at hf2
      obtain ⟨p0, p1⟩ := pow2_bd S31
      rw [← hP] at p0 p1
      have HTOP := Lib.hid (show mv (ul.drop n) = 0 by
        have h1 := HO.out.2.2.2.2.1
        rw [PB_zero, Int.one_mul] at h1
        have h2 := mv_lt (canN_lim V)
        rw [mv_canN, HVL.out, ← HNM.out] at h2
        have h3 := mv_split ul n (by have := HO.out.1; omega)
        have h4 := mv_nonneg (HO.out.2.2.1.take n)
        have h5 := mv_nonneg (HO.out.2.2.1.drop n)
        rcases Int.lt_or_le 0 (mv (ul.drop n)) with g | g
        · exfalso
          have h6 := Int.mul_le_mul_of_nonneg_left (show 1 ≤ mv (ul.drop n) by omega) (Int.le_of_lt (PB_pos n))
          omega
        · omega)
      have HP := Lib.hid hP
      have HF2 := Lib.hid hf2
      have HBW := Lib.hid (HB4.out.trans (hbel.mono HB4.out.size))
      have HBUF := Lib.hid hbuf
      have HRW := Lib.hid hrow
      have hmk := fun w => run_make_row' (P := Try.prog) 22 50 (.int .u32 0) 4 Try.underlying22 limbInfo rfl .i64 .i64 n (by omega) (by omega) w
      clear hf1 hf2 hbuf hbv hrow hbel y0 hP
      go_wp2_with fail
      clear hmk
      go_loopw [28] (fun vi wb => ∃ (i : Nat) (R : List Int), i ≤ n ∧ vi = .int .i64 i ∧ RowL wb wo.heap.size R ∧ Hid (R.length = n ∧ Lim R ∧ mv (R.take i) + PB i * (mv (ul.drop i) / P) = mv ul / P) ∧ Below wo.heap.size wo wb) (fun vi _ => (n - (intOf vi).toNat))
      case atStart => exact ⟨0, List.replicate n 0, by omega, rfl, RowL.made wo n, Lib.hid ⟨by simp, Lim.replicate n, by simp [mv, PB_zero]⟩, (Below.refl _ _).alloc (Nat.le_refl _) _⟩
      case round =>
        obtain ⟨i, R, hi, rfl, hrow, HR, hbel⟩ := hrel
        have HBE := Lib.hid hbel
        have HRR := Lib.hid hrow
        have hsz := hbel.size
        have hlt := hrow.lt
        have hfz := hrow.frozen
        have q0 : (0 : Int) ≤ (i : Int) := by omega
        have q1 : (i : Int) ≤ 200000 := by omega
        clear hbel
        by_cases hin : i < n
        · as_aux_lemma =>
          obtain ⟨x1, hx⟩ : ∃ x1, ul[i]? = some x1 := ⟨ul[i]'(by have := HO.out.1; omega), by simp⟩
          obtain ⟨y1, hy⟩ : ∃ y1, ul[i + 1]? = some y1 := ⟨ul[i + 1]'(by have := HO.out.1; omega), by simp⟩
          obtain ⟨x0, x2⟩ := HO.out.2.2.1.get hx
          obtain ⟨y0, y2⟩ := HO.out.2.2.1.get hy
          have hb2 := HBUF.out.below HBE.out
          have cx := hb2.2.1 _ _ hx
          have HKL := Lib.hid (show i < R.length by have := HR.out.1; omega)
          obtain ⟨z, hz⟩ : ∃ z, R[i]? = some z := ⟨R[i]'HKL.out, by simp⟩
          have cz := hrow.cell hz
          have hgo := HBUF.out.1
          have hne : ¬ wo.heap.size = gu := by omega
          have hne' : ¬ gu = wo.heap.size := by omega
          have j1 : (i : Int) < (n : Int) := by omega
          have j2 : (i : Int) < (la : Int) + 1 := by omega
          have j3 : (i : Int) + 1 < (la : Int) + 1 := by omega
          have j4 : (0 : Int) ≤ (i : Int) + 1 := by omega
          have hmin : min S 32 = S := by omega
          have hpk := HP.out.symm
          have d0 : 0 ≤ x1 / P := Int.ediv_nonneg x0 (by omega)
          have d1 : x1 / P ≤ x1 := Int.ediv_le_self _ x0
          have HST := Lib.hid (down_step S31 HP.out HO.out.2.2.1 (show (R.take i).length = i by rw [List.length_take]; have := HKL.out; omega) HR.out.2.2 hx (getD_some hy))
          have HX := Lib.hid hx
          have HY := Lib.hid hy
          have HZ := Lib.hid hz
          clear hx hy hz hrow
          by_cases hs0 : S = 0
          · have hP1 : P = 1 := by rw [HP.out, hs0]; rfl
            have HD := Lib.hid (show (x1 + 4294967296 * y1) / P % 4294967296 = x1 by rw [hP1, Int.ediv_one]; omega)
            have e0 : ¬ (0 : Int) < (S : Int) := by omega
            clear hP1 hb2
            go_wp2_with fail
            go_roundw
            case rel => exact ⟨i + 1, R.set i x1, by omega, by go_num, HRR.out.set _ _, Lib.hid ⟨by rw [List.length_set]; exact HR.out.1, HR.out.2.1.set _ x0 x2, by rw [take_set_succ _ HKL.out, ← HD.out]; exact HST.out⟩, HBE.out.setCell (Nat.le_refl _) _⟩
            case measure => simp [intOf]; omega
          · have e0 : (0 : Int) < (S : Int) := by omega
            obtain ⟨k1, k2, k3⟩ := rem_digit S31 (by omega) HP.out x0 x2 y0 y2
            obtain ⟨D, hD⟩ : ∃ D, D = (x1 + 4294967296 * y1) / P % 4294967296 := ⟨_, rfl⟩
            have D0 : 0 ≤ D := by omega
            have D1 : D < 4294967296 := by omega
            obtain ⟨T, hT⟩ : ∃ T : Nat, T = 32 - S := ⟨_, rfl⟩
            have hT1 : (32 : Int) - (S : Int) = (T : Int) := by omega
            have hT2 : min T 32 = T := by omega
            have hT3 : (0 : Int) ≤ (T : Int) := by omega
            have hT4 : (T : Int) ≤ 32 := by omega
            rw [← hD] at k1 HST
            rw [← hT] at k1
            clear hD hT hb2
            go_wp2_with fail
            refine pin_wp (N := _) (Nat.le_refl _) (fun w10 hb_w10 hz_w10 => ?_)
            have HB10 := Lib.hid ((HBE.out.setCell (p := ⟨wo.heap.size, i, none⟩) (Nat.le_refl _) (.int .u32 (x1 / P))).trans (hb_w10.mono (by simp [World.setCell]; omega)))
            have HR10 := Lib.hid ((HRR.out.set i (x1 / P)).below hb_w10)
            have HU10 := Lib.hid (HBUF.out.below HB10.out)
            have c1 := HR10.out.cell (show (R.set i (x1 / P))[i]? = some (x1 / P) by simp [HKL.out])
            have c2 := HU10.out.2.1 _ _ HY.out
            have l1 := HR10.out.lt
            have l2 := HU10.out.1
            clear cx cz hfz hb_w10 hz_w10
            refine wp_region_warm_tail (Own w10.heap.size w10) 14 (by kernel_rfl) (by kernel_rfl) (Own.refl (Nat.le_refl _)).drew ?_
            simp only [List.take_succ_cons, List.take_zero, List.drop_succ_cons, List.drop_zero]
            repeat (first | (refine wpWarm_step_off rfl (fun K hK => ?_); (go_simp; refine hK _ ?_; clear hK K)) | (apply wpWarm_step rfl; (focus (intro W' hS; have hcS := hS.cells.1; have hfS := hS.cells.2; go_simp; (first | done | exact rfl | exact ⟨rfl, hS⟩ | (go_simp; exact rfl)))); (intro K hK; go_simp; (try go_bits); refine hK _ ?_; clear hK K)) | (apply wpWarm_step_on rfl; (focus (intro W' hS; have hcS := hS.cells.1; have hfS := hS.cells.2; go_simp; (first | done | exact rfl | exact ⟨rfl, hS⟩ | (go_simp; exact rfl)))); (intro K hK; go_simp; (try go_bits); refine hK _ ?_; clear hK K)))
            refine wpWarm_nil ?_
            intro w11 hO11
            have HR11 := Lib.hid (HR10.out.below hO11.2)
            have c3 := HR11.out.cell (show (R.set i (x1 / P))[i]? = some (x1 / P) by simp [HKL.out])
            have f3 := HR11.out.frozen
            have l3 := HR11.out.lt
            have HB11 := Lib.hid (HB10.out.trans (hO11.2.mono (by have := HB10.out.size; omega)))
            clear hO11 c1 c2
            go_wp2_with fail
            clear hT1 hT2 hmin hpk c3
            go_roundw
            case rel => exact ⟨i + 1, R.set i D, by omega, by go_num, by have h := HR11.out.set i D; rwa [List.set_set] at h, Lib.hid ⟨by rw [List.length_set]; exact HR.out.1, HR.out.2.1.set _ D0 D1, by rw [take_set_succ _ HKL.out]; exact HST.out⟩, HB11.out.setCell (Nat.le_refl _) _⟩
            case measure => simp [intOf]; omega
        · as_aux_lemma =>
          obtain rfl : i = n := by omega
          have HF := Lib.hid (show mv R = ((x % y : Nat) : Int) by
            have h := HR.out.2.2
            rw [HTOP.out, HF2.out, List.take_of_length_le (by have := HR.out.1; omega)] at h
            rw [Int.zero_ediv, Int.mul_zero, Int.add_zero] at h
            exact h)
          have j5 : ¬ (i : Int) < (i : Int) := by omega
          clear hrow
          go_wp2_with fail
          go_ret2
          have hl1 := HO.out.2.1
          have hl2 := HR.out.1
          exact ⟨HBW.out.trans (HBE.out.mono HBW.out.size), some ⟨w7.heap.size, 0, none⟩, la + 1 - i, ql, some ⟨wo.heap.size, 0, none⟩, i, R, by rw [hl1, hl2]; rfl, by omega, by omega, HO.out.2.2.2.1, HR.out.2.1, HQF.out, HF.out, by omega, by omega, HRW.out.lat.below HBE.out, HRR.out.lat⟩
    · as_aux_lemma =>
      have hNM := HNM.out
      rw [show (((j + 1 : Nat) : Int) - 1) = (j : Int) by omega]
      obtain ⟨u0, u1, u2, top', next', p, lo, wl, wu, e0, e1, e2, e3, e4, a0, a1, b0, b1, d0, d1, f0', f1', t0', t1', p0, wl0, wl1, wu0, wu1, hVe, hUe, hUB, hlo, lo0, lo1, hup⟩ := round_facts (j := j) (m := m) HO.out.2.2.1 (canN_lim V) HVL.out (mv_canN V) HVT.out (by have := HO.out.1; omega) HO.out.2.2.2.2.1
      obtain rfl : top' = top := Option.some.inj (e4.symm.trans HTN.out.1)
      obtain rfl : next' = next := Option.some.inj (e3.symm.trans HTN.out.2)
      have ht2 := lead_le p0 wl1 f1 wu0 a0 b0 hUB
      have c0 := hbuf.2.1 _ _ e0
      have c1 := hbuf.2.1 _ _ e1
      have c2 := hbuf.2.1 _ _ e2
      have cf := hbuf.2.2
      have c5 := hbuf.1
      have x1 : (j : Int) + (n : Int) - 1 = ((j + m + 1 : Nat) : Int) := by omega
      have x2 : (j : Int) + (n : Int) - 2 = ((j + m : Nat) : Int) := by omega
      have hjn : j + m + 2 = j + n := by omega
      rw [hjn] at c2 e2
      have y1 : (0 : Int) ≤ (j : Int) + (n : Int) := by omega
      have y2 : (j : Int) + (n : Int) < (la : Int) + 1 := by omega
      have y3 : (0 : Int) ≤ (j : Int) + (n : Int) - 1 := by omega
      have y4 : (j : Int) + (n : Int) - 1 < (la : Int) + 1 := by omega
      have y5 : (0 : Int) ≤ (j : Int) + (n : Int) - 2 := by omega
      have y6 : (j : Int) + (n : Int) - 2 < (la : Int) + 1 := by omega
      have y11 : (0 : Int) ≤ (j : Int) := by omega
      have z1 : ((j + m + 1 : Nat) : Int) < (la : Int) + 1 := by omega
      have z2 : ((j + m : Nat) : Int) < (la : Int) + 1 := by omega
      have z5 : (j : Int) + (m : Int) + 1 < (la : Int) + 1 := by omega
      have z6 : (j : Int) + (m : Int) < (la : Int) + 1 := by omega
      have y12 : (j : Int) ≤ 200000 := by omega
      obtain ⟨nm, hnm⟩ : ∃ nm, nm = u2 * 4294967296 + u1 := ⟨_, rfl⟩
      have hsh : IntKind.u64.wrap (u2 * 4294967296) = u2 * 4294967296 := by rw [IntKind.wrap_u64]; omega
      have hor : bits .or .u64 (u2 * 4294967296) u1 = nm := by
        rw [hnm]
        exact bits_join .u64 64 (by decide) wraps_u64' 32 (u2 * 4294967296) u1 (by omega) (Int.mul_emod_left _ _) (by omega) b0 (by omega) (by omega)
      have nm0 : 0 ≤ nm := by omega
      have nm1 : nm < 18446744073709551616 := by omega
      have HG0 := Lib.hid (guess_start (u0 := u0) (u2 := u2) p0 wl0 f0 wu1 a1 (show 0 < top' by omega) b0 d0)
      have hgs := HG0.out
      rw [← hnm] at hgs
      obtain ⟨G, hG⟩ : ∃ G, G = nm / top' := ⟨_, rfl⟩
      obtain ⟨r, hr⟩ : ∃ r, r = nm % top' := ⟨_, rfl⟩
      rw [← hG, ← hr] at hgs
      have HG1 := Lib.hid hgs
      have G0 : 0 ≤ G := by rw [hG]; exact Int.ediv_nonneg nm0 (by omega)
      have G1 : G ≤ nm := by rw [hG]; exact Int.ediv_le_self _ nm0
      have r0 : 0 ≤ r := by rw [hr]; exact Int.emod_nonneg _ (by omega)
      have r1 : r < top' := by rw [hr]; exact Int.emod_lt_of_pos _ (by omega)
      have q1 : nm.tdiv top' = G := by rw [hG]; exact Int.tdiv_eq_ediv_of_nonneg nm0
      have q2 : nm.tmod top' = r := by rw [hr]; exact Int.tmod_eq_emod_of_nonneg nm0
      have q3 : IntKind.u64.wrap (nm.tdiv top') = G := by rw [q1]; exact wraps_u64' G G0 (by omega)
      have n0 : (top' == 0) = false := by rw [beq_eq_false_iff_ne]; omega
      have n1 : ¬ top' = 0 := by omega
      have hG' := hG.symm
      have hr' := hr.symm
      have HNMv := Lib.hid hnm
      have HBUF := Lib.hid hbuf
      have HBV := Lib.hid hbv
      have HROW := Lib.hid hrow
      have HBEL := Lib.hid hbel
      have HE := Lib.hid (And.intro e0 (And.intro e1 (And.intro e2 (And.intro e3 e4))))
      have HVE := Lib.hid (And.intro hVe hUe)
      have HUB' := Lib.hid hUB
      have HLO := Lib.hid (And.intro hlo (And.intro lo0 lo1))
      have HUP := Lib.hid hup
      clear hnm hgs hG hr hNM hbuf hbv hrow hbel e0 e1 e2 e3 e4 hVe hUe hUB hlo lo0 lo1 hup hjn
      go_wp2_with fail
      refine wp_region_warm (Own wo.heap.size wo) (by kernel_rfl) (by kernel_rfl) (Own.refl (Nat.le_refl _)).drew ?_
      repeat (first | (refine wpWarm_step_off rfl (fun K hK => ?_); (go_simp; refine hK _ ?_; clear hK K)) | (apply wpWarm_step rfl; (focus (intro W' hS; have hcS := hS.cells.1; have hfS := hS.cells.2; go_simp; (first | done | exact rfl | exact ⟨rfl, hS⟩ | (go_simp; exact rfl)))); (intro K hK; go_simp; (try go_bits); refine hK _ ?_; clear hK K)) | (apply wpWarm_step_on rfl; (focus (intro W' hS; have hcS := hS.cells.1; have hfS := hS.cells.2; go_simp; (first | done | exact rfl | exact ⟨rfl, hS⟩ | (go_simp; exact rfl)))); (intro K hK; go_simp; (try go_bits); refine hK _ ?_; clear hK K)))
      refine wpWarm_nil ?_
      intro w5 hO5
      have HB5 := Lib.hid hO5.2
      have hz5 := hO5.1
      clear c0 c1 c2 cf c5 hO5 hsh hor
      go_wp2_with fail
      refine wp_region_warm (Own w5.heap.size w5) (by kernel_rfl) (by kernel_rfl) (Own.refl (Nat.le_refl _)).drew ?_
      repeat (first | (refine wpWarm_step_off rfl (fun K hK => ?_); (go_simp; refine hK _ ?_; clear hK K)) | (apply wpWarm_step rfl; (focus (intro W' hS; have hcS := hS.cells.1; have hfS := hS.cells.2; go_simp; (first | done | exact rfl | exact ⟨rfl, hS⟩ | (go_simp; exact rfl)))); (intro K hK; go_simp; (try go_bits); refine hK _ ?_; clear hK K)) | (apply wpWarm_step_on rfl; (focus (intro W' hS; have hcS := hS.cells.1; have hfS := hS.cells.2; go_simp; (first | done | exact rfl | exact ⟨rfl, hS⟩ | (go_simp; exact rfl)))); (intro K hK; go_simp; (try go_bits); refine hK _ ?_; clear hK K)))
      refine wpWarm_nil ?_
      intro w6 hO6
      have HB6 := Lib.hid (HB5.out.trans (hO6.2.mono hz5))
      have hz6 := hO6.1
      clear hO6 n0 n1 q1 q2 q3 hG' hr'
      go_upto_block 2 with fail
      go_cut [17, 18] (fun vq vr wx => ∃ gg rr : Int, vq = .int .u64 gg ∧ vr = .int .u64 rr ∧ 0 ≤ gg ∧ gg < 4294967296 ∧ Hid (Guess p wl wu top' next' u0 u1 u2 gg rr ∧ gg * next' ≤ rr * 4294967296 + u0) ∧ Below wo.heap.size wo wx)
      case first => as_aux_lemma =>
        go_wp2_with fail
        go_loopg [17, 18] G.toNat (fun kk vq vr ws => ∃ gg rr : Int, vq = .int .u64 gg ∧ vr = .int .u64 rr ∧ gg.toNat ≤ kk ∧ 0 ≤ gg ∧ gg < 18446744073709551616 ∧ 0 ≤ rr ∧ rr < 4294967296 ∧ Hid (Guess p wl wu top' next' u0 u1 u2 gg rr) ∧ Below wo.heap.size wo ws)
        case atStart => exact ⟨G, r, rfl, rfl, Nat.le_refl _, G0, by omega, r0, by omega, HG1, HB6.out⟩
        case round =>
          obtain ⟨gg, rr, rfl, rfl, hkk, g0, g1, r0', r1', HGU, hbw⟩ := hrel
          have hbuf := HBUF.out.below hbw
          have c0 := hbuf.2.1 _ _ HE.out.1
          have cf := hbuf.2.2
          have c5 := hbuf.1
          have HBW := Lib.hid hbw
          have hzw := hbw.size
          clear hbuf hbw
          have step : ∀ (gg rr : Int), 1 ≤ gg → wl + p * (next' + 4294967296 * top') = wl + p * (next' + 4294967296 * top') → True := fun _ _ _ _ => trivial
          clear step
          by_cases hge : 4294967296 ≤ gg
          · have hU := guess_big p0 wl0 f0 (show 0 < top' by omega) hge HUB'.out
            have HGL := Lib.hid (guess_less HGU.out p0 wl0 (show 0 < top' by omega) (show 1 ≤ gg by omega) hU)
            clear hU
            have hs1 : 0 ≤ gg - 1 := by omega
            have hs2 : 0 ≤ rr + top' := by omega
            have hs3 : rr + top' < 18446744073709551616 := by omega
            by_cases hrr : 4294967296 ≤ rr + top'
            · have HGR := Lib.hid (guess_rest HGL.out f1 f0 a0 b1 (show 0 < top' by omega) ht2 hrr)
              go_wp2_with fail
              go_meet
              exact ⟨gg - 1, rr + top', rfl, rfl, hs1, HGR.out.1, Lib.hid ⟨HGL.out, HGR.out.2⟩, HBW.out⟩
            · have hrr' : ¬ 4294967296 ≤ rr + top' := hrr
              go_wp2_with fail
              go_roundg (gg - 1).toNat
              case measure => omega
              case rel => exact ⟨gg - 1, rr + top', rfl, rfl, Nat.le_refl _, hs1, by omega, hs2, by omega, HGL, HBW.out⟩
          · have hge' : ¬ 4294967296 ≤ gg := hge
            have hgd : decide (4294967296 ≤ gg) = false := by simpa using hge
            obtain ⟨PR, hPR⟩ : ∃ PR, PR = gg * next' := ⟨_, rfl⟩
            obtain ⟨SR, hSR⟩ : ∃ SR, SR = rr * 4294967296 + u0 := ⟨_, rfl⟩
            obtain ⟨pr0, pr1⟩ := mul_lim g0 (show gg < 4294967296 by omega) f0 f1
            have o1 : IntKind.u64.wrap (gg * next') = PR := by rw [hPR]; exact wraps_u64' _ pr0 (by omega)
            have o2 : IntKind.u64.wrap (rr * 4294967296) = rr * 4294967296 := by rw [IntKind.wrap_u64]; omega
            have o3 : bits .or .u64 (rr * 4294967296) u0 = SR := by
              rw [hSR]
              exact bits_join .u64 64 (by decide) wraps_u64' 32 (rr * 4294967296) u0 (by omega) (Int.mul_emod_left _ _) (by omega) a0 (by omega) (by omega)
            have HPS := Lib.hid (And.intro hPR hSR)
            clear hPR hSR pr0 pr1
            by_cases hnx : SR < PR
            · have hU := guess_next HGU.out p0 wl0 wu1 (by rw [← HPS.out.1, ← HPS.out.2]; exact hnx)
              have hg1 : 1 ≤ gg := by
                rcases Int.lt_or_le 0 gg with h | h
                · omega
                · exfalso
                  have hz0 : gg = 0 := by omega
                  have h1 := HPS.out.1
                  have h2 := HPS.out.2
                  rw [hz0, Int.zero_mul] at h1
                  omega
              have HGL := Lib.hid (guess_less HGU.out p0 wl0 (show 0 < top' by omega) (show 1 ≤ gg by omega) hU)
              clear hU
              have hs1 : 0 ≤ gg - 1 := by omega
              have hs2 : 0 ≤ rr + top' := by omega
              have hs3 : rr + top' < 18446744073709551616 := by omega
              by_cases hrr : 4294967296 ≤ rr + top'
              · have HGR := Lib.hid (guess_rest HGL.out f1 f0 a0 b1 (show 0 < top' by omega) ht2 hrr)
                go_wp2_with fail
                go_meet
                exact ⟨gg - 1, rr + top', rfl, rfl, hs1, HGR.out.1, Lib.hid ⟨HGL.out, HGR.out.2⟩, HBW.out⟩
              · have hrr' : ¬ 4294967296 ≤ rr + top' := hrr
                go_wp2_with fail
                go_roundg (gg - 1).toNat
                case measure => omega
                case rel => exact ⟨gg - 1, rr + top', rfl, rfl, Nat.le_refl _, hs1, by omega, hs2, by omega, HGL, HBW.out⟩
            · have hnx' : ¬ SR < PR := hnx
              have hnd : decide (SR < PR) = false := by simpa using hnx
              go_wp2_with fail
              go_meet
              exact ⟨gg, rr, rfl, rfl, g0, by omega, Lib.hid ⟨HGU.out, by rw [← HPS.out.1, ← HPS.out.2]; omega⟩, HBW.out⟩
      case rest => as_aux_lemma =>
        obtain ⟨gg, rr, rfl, rfl, g0, g1, HGG, hbw⟩ := hcut
        have hbuf0 := HBUF.out.below hbw
        have hbv0 := HBV.out.below hbw
        have hrow0 := HROW.out.below hbw
        have hbel0 := HBEL.out.trans (hbw.mono HBEL.out.size)
        obtain ⟨wx, rfl⟩ : ∃ wx : World, wx = wc := ⟨_, rfl⟩
        obtain ⟨R, hR⟩ : ∃ R, R = mv ul := ⟨_, rfl⟩
        have HRR := Lib.hid hR
        have HBF0 := Lib.hid hbuf0
        have HBV0 := Lib.hid hbv0
        have HRW0 := Lib.hid hrow0
        have HBL0 := Lib.hid hbel0
        have hgne : gu ≠ w7.heap.size := by omega
        have hgne2 : gu ≠ gv := by omega
        have hgne3 : gv ≠ w7.heap.size := by omega
        have hgu4 : w4.heap.size ≤ gu := HGU.out
        clear hbuf0 hbv0 hrow0 hbel0 hbw hR
        go_wp2_with fail
        go_loopw [19, 20, 21] (fun vb vc vi wr => ∃ (i : Nat) (cc bo : Int) (L : List Int), i ≤ n ∧ vi = .int .i64 i ∧ vc = .int .u64 cc ∧ vb = .int .u64 bo ∧ 0 ≤ cc ∧ cc < 4294967296 ∧ 0 ≤ bo ∧ bo ≤ 1 ∧ Buf wr gu L ∧ Buf wr gv (canN V) ∧ RowL wr w7.heap.size ql ∧ Hid (L.length = la + 1 ∧ Lim L ∧ mv L = R - gg * (PB j * mv ((canN V).take i)) + PB (j + i) * (cc + bo) ∧ L.drop (j + i) = ul.drop (j + i)) ∧ Below w4.heap.size w4 wr) (fun _ _ vi _ => (n - (intOf vi).toNat))
        case atStart => exact ⟨0, 0, 0, ul, by omega, rfl, rfl, rfl, by omega, by omega, by omega, by omega, HBF0.out, HBV0.out, HRW0.out, Lib.hid ⟨HO.out.1, HO.out.2.2.1, by rw [HRR.out]; simp [mv], rfl⟩, HBL0.out⟩
        case round =>
          obtain ⟨i, cc, bo, L, hi, rfl, rfl, rfl, c0, c1, bo0, bo1, hbf, hbv, hrw, HM, hbl⟩ := hrel
          have HBF := Lib.hid hbf
          have HBV := Lib.hid hbv
          have HRW := Lib.hid hrw
          have HBLW := Lib.hid hbl
          have hgul := hbf.1
          have hguf := hbf.2.2
          have s0 : (0 : Int) ≤ (i : Int) := by omega
          clear hrw hbl hbf hbv
          by_cases hin : i < n
          · as_aux_lemma =>
            obtain ⟨x, hx⟩ : ∃ x, (canN V)[i]? = some x := ⟨(canN V)[i]'(by have := HVL.out; have := HNM.out; omega), by simp⟩
            obtain ⟨x0, x1⟩ := (canN_lim V).get hx
            have cx := HBV.out.2.1 _ _ hx
            have hji : j + i < la + 1 := by omega
            obtain ⟨z, hz⟩ : ∃ z, L[j + i]? = some z := ⟨L[j + i]'(by have := HM.out.1; omega), by simp⟩
            obtain ⟨z0, z1⟩ := HM.out.2.1.get hz
            have cz := HBF.out.2.1 _ _ hz
            have hcom : i + j = j + i := Nat.add_comm _ _
            rw [← hcom] at cz
            have s1 : (i : Int) < (n : Int) := by omega
            have s2 : (0 : Int) ≤ (i : Int) + (j : Int) := by omega
            have s3 : (i : Int) + (j : Int) < (la : Int) + 1 := by omega
            have s4 : (i : Int) ≤ 200000 := by omega
            obtain ⟨pr0, pr1⟩ := mul_lim g0 g1 x0 x1
            obtain ⟨PR, hPR⟩ : ∃ PR, PR = gg * x := ⟨_, rfl⟩
            rw [← hPR] at pr0 pr1
            have hPR' := hPR.symm
            obtain ⟨S', hS⟩ : ∃ S', S' = PR + cc := ⟨_, rfl⟩
            have S0 : 0 ≤ S' := by omega
            have S1 : S' < 18446744073709551616 := by omega
            have hS' := hS.symm
            obtain ⟨M, hM⟩ : ∃ M, M = S' % 4294967296 := ⟨_, rfl⟩
            have M0 : 0 ≤ M := by omega
            have M1 : M < 4294967296 := by omega
            obtain ⟨I, hI⟩ : ∃ I, I = IntKind.u64.wrap (z - M) := ⟨_, rfl⟩
            obtain ⟨D, hD⟩ : ∃ D, D = IntKind.u64.wrap (I - bo) := ⟨_, rfl⟩
            obtain ⟨d1, d2, d3, d4, d5⟩ := word_sub z0 z1 M0 M1 bo0 bo1 hI hD
            have HST := Lib.hid (msub_step HM.out.2.2.1 hz hx (s := S') (d := D) (by rw [hS, hPR]; omega) (by rw [hM] at d1; exact d1))
            have HZ := Lib.hid hz
            have HX := Lib.hid hx
            have HCM := Lib.hid hcom
            have hM' := hM.symm
            replace hI := hI.symm
            replace hD := hD.symm
            clear hz hx hPR hS hM d1 hcom
            go_wp2_with fail
            clear hI hD hPR' hS' cx cz hM'
            go_roundw
            case rel =>
              have hset : Buf (wr.setCell ⟨gu, i + j, none⟩ (.int .u32 (D % 4294967296))) gu (L.set (j + i) (D % 4294967296)) := by rw [HCM.out]; exact HBF.out.set HZ.out _
              exact ⟨i + 1, S' / 4294967296, D / 9223372036854775808, L.set (j + i) (D % 4294967296), by omega, by go_num, rfl, rfl, by omega, by omega, d4, d5, hset, HBV.out.far (Ne.symm hgne2) _, HRW.out.far (Ne.symm hgne) _, Lib.hid ⟨by rw [List.length_set]; exact HM.out.1, HM.out.2.1.set _ (by omega) (by omega), HST.out, drop_set_same _ HM.out.2.2.2⟩, HBLW.out.setCell hgu4 _⟩
            case measure => simp [intOf]; omega
          · as_aux_lemma =>
            obtain rfl : i = n := by omega
            have hM3 := HM.out.2.2.1
            rw [List.take_of_length_le (by have := HVL.out; have := HNM.out; omega), mv_canN] at hM3
            have hgd := guess_done HGG.out.1 p0 wl0 wl1 wu0 f0 (show 1 ≤ top' by omega) g1 HGG.out.2
            have hVV := HVE.out.1
            have hUU := HVE.out.2
            obtain ⟨U, hU⟩ : ∃ U, U = mv (ul.drop j) := ⟨_, rfl⟩
            rw [← hU] at hUU
            rw [← hVV, ← hUU] at hgd
            have hzz : L[j + i]? = some u2 := by rw [get_of_drop HM.out.2.2.2]; exact HE.out.2.2.1
            have hRl : R = lo + PB j * U := by rw [HRR.out, hU]; exact HLO.out.1
            have hupL : mv (L.drop (j + i + 1)) = 0 := by
              rw [mv_drop_of HM.out.2.2.2 (by omega), show j + i + 1 = j + m + 3 by have := HNM.out; omega]
              exact HUP.out
            have htop := msub_top (d := 0) HM.out.2.1 (canN_lim V) (show (canN V).length = i by have := HVL.out; have := HNM.out; omega) (mv_canN V).symm hM3 hzz hupL hRl HLO.out.2.1 HLO.out.2.2 hgd.1 hgd.2
            have hcz := HBF.out.2.1 _ _ hzz
            have s2 : (0 : Int) ≤ (j : Int) + (i : Int) := by omega
            have s3 : (j : Int) + (i : Int) < (la : Int) + 1 := by omega
            have s4 : (i : Int) ≤ 200000 := by omega
            have HZZ := Lib.hid hzz
            have HM3 := Lib.hid hM3
            have HRL := Lib.hid hRl
            have HGD := Lib.hid hgd
            have HUPL := Lib.hid hupL
            have hqj : ql[j]? = some 0 := HO.out.2.2.2.2.2.2 j (by omega)
            have HQJ := Lib.hid hqj
            have hql := HO.out.2.1
            have HQX := Lib.hid HO.out.2.2.2.2.2.1
            have HQZ := Lib.hid HO.out.2.2.2.2.2.2
            have HQL := Lib.hid HO.out.2.2.2.1
            have hcq := HRW.out.cell hqj
            have hfq := HRW.out.frozen
            have hgne' := Ne.symm hgne
            have lq := HRW.out.lt
            have s6 : (j : Int) < (la : Int) - (i : Int) + 1 := by omega
            have s7 : (j : Int) < ((la + 1 - i : Nat) : Int) := by omega
            have hgt0 : 1 ≤ gg ∨ 0 ≤ U - gg * V := by
              rcases Int.lt_or_le gg 1 with g | g
              · right
                obtain rfl : gg = 0 := by omega
                have := mv_nonneg (HO.out.2.2.1.drop j)
                rw [Int.zero_mul]; omega
              · exact .inl g
            clear hM3 hgd hVV hUU hU hzz hRl hupL hqj
            rcases htop with ⟨tz, tU⟩ | ⟨tz, tU⟩
            · as_aux_lemma =>
              obtain ⟨I, hI⟩ : ∃ I, I = IntKind.u64.wrap (u2 - cc) := ⟨_, rfl⟩
              have hI2 : IntKind.u64.wrap (I - bo) = 0 := by rw [hI, IntKind.wrap_u64, IntKind.wrap_u64]; omega
              have hI' := hI.symm
              have HTZ := Lib.hid (top_zero HM3.out HZZ.out HRL.out HLO.out.2.2 HGD.out.2 tz)
              clear hI tz tU hgt0
              go_wp2_with fail
              go_roundg j
              case measure => omega
              case rel =>
                exact ⟨j, L.set (j + i) 0, ql.set j gg, rfl, by omega, rfl, (HBF.out.set HZZ.out 0).far hgne _, (HBV.out.far (Ne.symm hgne2) _).far hgne3 _, (HRW.out.far hgne' _).set j gg, Lib.hid ⟨by rw [List.length_set]; exact HM.out.1, by rw [List.length_set]; exact hql, HM.out.2.1.set _ (by omega) (by omega), HQL.out.set _ g0 g1, HTZ.out.2, quot_step HQX.out HQJ.out (by rw [← HRR.out]; exact HTZ.out.1), fun k hk => by rw [List.getElem?_set_ne (by omega)]; exact HQZ.out k (by omega)⟩, (HBLW.out.setCell hgu4 _).setCell hz7 _⟩
            · as_aux_lemma =>
              have gg1 : 1 ≤ gg := by omega
              obtain ⟨I, hI⟩ : ∃ I, I = IntKind.u64.wrap (u2 - cc) := ⟨_, rfl⟩
              obtain ⟨D9, hD9⟩ : ∃ D9, D9 = IntKind.u64.wrap (I - bo) := ⟨_, rfl⟩
              have hD9' : D9 = 18446744073709551615 := by rw [hD9, hI, IntKind.wrap_u64, IntKind.wrap_u64]; omega
              have hD1 : D9 % 4294967296 = 4294967295 := by omega
              have hD2 : D9 / 9223372036854775808 = 1 := by omega
              have D90 : 0 ≤ D9 := by omega
              have D91 : D9 < 18446744073709551616 := by omega
              have hI2 := hD9.symm
              clear hD9 hD9'
              have hI' := hI.symm
              have HTN' := Lib.hid (top_neg HM3.out HZZ.out tz)
              have HBL2 := Lib.hid (back_lim HRL.out HLO.out.2.1 HLO.out.2.2 HGD.out.1 tU)
              obtain ⟨wy, rfl⟩ : ∃ wy : World, wy = wr := ⟨_, rfl⟩
              obtain ⟨L1, hL1⟩ : ∃ L1, L1 = L.set (j + i) 4294967295 := ⟨_, rfl⟩
              have HL1 := Lib.hid hL1
              have hb1 : Buf (wy.setCell ⟨gu, j + i, none⟩ (.int .u32 4294967295)) gu L1 := by rw [hL1]; exact HBF.out.set HZZ.out _
              have HBF1 := Lib.hid hb1
              have HBV1 := Lib.hid (HBV.out.far (x := .int .u32 4294967295) (p := ⟨gu, j + i, none⟩) (Ne.symm hgne2))
              have HRW1 := Lib.hid (HRW.out.far (x := .int .u32 4294967295) (p := ⟨gu, j + i, none⟩) hgne')
              have HLM1 := Lib.hid (show L1.length = la + 1 ∧ Lim L1 by rw [hL1]; exact ⟨by rw [List.length_set]; exact HM.out.1, HM.out.2.1.set _ (by omega) (by omega)⟩)
              have HBE1 := Lib.hid (HBLW.out.setCell (p := ⟨gu, j + i, none⟩) hgu4 (.int .u32 4294967295))
              clear hI tz tU hgt0 hL1 hb1
              go_wp2_with fail
              clear hI2 hI' hcz hcq hD1 hD2 D90 D91
              go_loopw [25, 26] (fun vc vi wr => ∃ (t : Nat) (ca : Int) (M : List Int), t ≤ i ∧ vi = .int .i64 t ∧ vc = .int .u64 ca ∧ 0 ≤ ca ∧ ca ≤ 1 ∧ Buf wr gu M ∧ Buf wr gv (canN V) ∧ RowL wr w7.heap.size ql ∧ Hid (M.length = la + 1 ∧ Lim M ∧ mv M + PB (j + t) * ca = mv L1 + PB j * mv ((canN V).take t) ∧ M.drop (j + t) = L1.drop (j + t)) ∧ Below w4.heap.size w4 wr) (fun _ vi _ => (i - (intOf vi).toNat))
              case atStart => exact ⟨0, 0, L1, by omega, rfl, rfl, by omega, by omega, HBF1.out, HBV1.out, HRW1.out, Lib.hid ⟨HLM1.out.1, HLM1.out.2, by simp [mv], rfl⟩, HBE1.out⟩
              case round =>
                obtain ⟨t, ca, M, ht, rfl, rfl, ca0, ca1, hbf2, hbv2, hrw2, HMM, hbl2⟩ := hrel
                have HBF2 := Lib.hid hbf2
                have HBV2 := Lib.hid hbv2
                have HRW2 := Lib.hid hrw2
                have HBL3 := Lib.hid hbl2
                have hgul2 := hbf2.1
                have hguf2 := hbf2.2.2
                have s5 : (0 : Int) ≤ (t : Int) := by omega
                have hz_wr := hbl2.size
                clear hbf2 hrw2 hbl2 hbv2
                by_cases hti : t < i
                · as_aux_lemma =>
                  obtain ⟨x, hx⟩ : ∃ x, (canN V)[t]? = some x := ⟨(canN V)[t]'(by have := HVL.out; have := HNM.out; omega), by simp⟩
                  obtain ⟨x0, x1⟩ := (canN_lim V).get hx
                  have cx := HBV2.out.2.1 _ _ hx
                  have cvl := HBV2.out.1
                  obtain ⟨z, hz⟩ : ∃ z, M[j + t]? = some z := ⟨M[j + t]'(by have := HMM.out.1; omega), by simp⟩
                  obtain ⟨z0, z1⟩ := HMM.out.2.1.get hz
                  have cz := HBF2.out.2.1 _ _ hz
                  have hcom : t + j = j + t := Nat.add_comm _ _
                  rw [← hcom] at cz
                  have s6 : (t : Int) < (i : Int) := by omega
                  have s7 : (0 : Int) ≤ (t : Int) + (j : Int) := by omega
                  have s8 : (t : Int) + (j : Int) < (la : Int) + 1 := by omega
                  have s9 : (t : Int) ≤ 200000 := by omega
                  obtain ⟨S2, hS2⟩ : ∃ S2, S2 = z + x + ca := ⟨_, rfl⟩
                  have S20 : 0 ≤ S2 := by omega
                  have S21 : S2 < 8589934592 := by omega
                  have q3 : 0 ≤ z + x := by omega
                  have q4 : z + x < 18446744073709551616 := by omega
                  have HST := Lib.hid (addb_step HMM.out.2.2.1 hz hx (show S2 = ca + (z + x) by omega))
                  have hS2' := hS2.symm
                  have HZ := Lib.hid hz
                  have HCM := Lib.hid hcom
                  clear hz hx hS2 hcom
                  go_wp2_with fail
                  refine wp_region_warm (Own wr.heap.size wr) (by kernel_rfl) (by kernel_rfl) (Own.refl (Nat.le_refl _)).drew ?_
                  repeat (first | (refine wpWarm_step_off rfl (fun K hK => ?_); (go_simp; refine hK _ ?_; clear hK K)) | (apply wpWarm_step rfl; (focus (intro W' hS; have hcS := hS.cells.1; have hfS := hS.cells.2; go_simp; (first | done | exact rfl | exact ⟨rfl, hS⟩ | (go_simp; exact rfl)))); (intro K hK; go_simp; (try go_bits); refine hK _ ?_; clear hK K)) | (apply wpWarm_step_on rfl; (focus (intro W' hS; have hcS := hS.cells.1; have hfS := hS.cells.2; go_simp; (first | done | exact rfl | exact ⟨rfl, hS⟩ | (go_simp; exact rfl)))); (intro K hK; go_simp; (try go_bits); refine hK _ ?_; clear hK K)))
                  refine wpWarm_nil ?_
                  intro w77 hO7
                  have HBF7 := Lib.hid (HBF2.out.below hO7.2)
                  have HBV7 := Lib.hid (HBV2.out.below hO7.2)
                  have HRW7 := Lib.hid (HRW2.out.below hO7.2)
                  have HBL7 := Lib.hid (HBL3.out.trans (hO7.2.mono hz_wr))
                  have cz7 := HBF7.out.2.1 _ _ HZ.out
                  rw [← HCM.out] at cz7
                  have hf7 := HBF7.out.2.2
                  have hl7 := HBF7.out.1
                  clear hO7 cx cz hS2'
                  go_wp2_with fail
                  go_roundw
                  case rel =>
                    have hset : Buf (w77.setCell ⟨gu, t + j, none⟩ (.int .u32 (S2 % 4294967296))) gu (M.set (j + t) (S2 % 4294967296)) := by rw [HCM.out]; exact HBF7.out.set HZ.out _
                    exact ⟨t + 1, S2 / 4294967296, M.set (j + t) (S2 % 4294967296), by omega, by go_num, rfl, by omega, by omega, hset, HBV7.out.far (Ne.symm hgne2) _, HRW7.out.far hgne' _, Lib.hid ⟨by rw [List.length_set]; exact HMM.out.1, HMM.out.2.1.set _ (by omega) (by omega), HST.out, drop_set_same _ HMM.out.2.2.2⟩, HBL7.out.setCell hgu4 _⟩
                  case measure => simp [intOf]; omega
                · as_aux_lemma =>
                  obtain rfl : t = i := by omega
                  have hz9 : M[j + t]? = some 4294967295 := by
                    rw [get_of_drop HMM.out.2.2.2, HL1.out, List.getElem?_set_self (by have := (List.getElem?_eq_some_iff.1 HZZ.out).1; exact this)]
                  have hup9 : mv (M.drop (j + t + 1)) = 0 := by
                    rw [mv_drop_of HMM.out.2.2.2 (by omega), HL1.out, drop_set_same _ (rfl : L.drop (j + t) = L.drop (j + t))]
                    exact HUPL.out
                  have hm9 := HMM.out.2.2.1
                  rw [List.take_of_length_le (by have := HVL.out; have := HNM.out; omega), mv_canN, HL1.out, HTN'.out] at hm9
                  obtain ⟨hc9, hs9⟩ := addb_done (R := 0) HMM.out.2.1 (canN_lim V) (show (canN V).length = t by have := HVL.out; have := HNM.out; omega) (mv_canN V).symm hz9 hup9 hm9 ca0 ca1 HBL2.out.1
                  subst hc9
                  have HS9 := Lib.hid hs9
                  have HZ9 := Lib.hid hz9
                  have hcz9 := HBF2.out.2.1 _ _ hz9
                  have hcq9 := HRW2.out.cell HQJ.out
                  have hfq9 := HRW2.out.frozen
                  have lq9 := HRW2.out.lt
                  clear hz9 hup9 hm9 hs9
                  go_wp2_with fail
                  go_roundg j
                  case measure => omega
                  case rel =>
                    exact ⟨j, M.set (j + t) 0, ql.set j (gg - 1), rfl, by omega, rfl, (HBF2.out.set HZ9.out 0).far hgne _, (HBV2.out.far (Ne.symm hgne2) _).far hgne3 _, (HRW2.out.far hgne' _).set j (gg - 1), Lib.hid ⟨by rw [List.length_set]; exact HMM.out.1, by rw [List.length_set]; exact hql, HMM.out.2.1.set _ (by omega) (by omega), HQL.out.set _ (by omega) (by omega), by rw [HS9.out]; exact HBL2.out.2, quot_step HQX.out HQJ.out (by rw [← HRR.out]; exact HS9.out), fun k hk => by rw [List.getElem?_set_ne (by omega)]; exact HQZ.out k (by omega)⟩, (HBL3.out.setCell hgu4 _).setCell hz7 _⟩
end Go.Proofs.Ytadkcipjcmkoiaa
